/-
  The law ValidSpare of the given program answers true for every input, and leaves its arguments as they were. There is no condition. Own work.
  WALKS: printed by a program of our own from the code's tree.
  WALKS: printed by a program of our own from the code's tree.
  WALKS: printed by a program of our own from the code's tree.
  WALKS: printed by a program of our own from the code's tree.
  WALKS: printed by a program of our own from the code's tree.
  WALKS: printed by a program of our own from the code's tree.
  WALKS: printed by a program of our own from the code's tree.
  WALKS: printed by a program of our own from the code's tree.
  WALKS: printed by a program of our own from the code's tree.
  WALKS: printed by a program of our own from the code's tree.
  WALKS: printed by a program of our own from the code's tree.
  WALKS: printed by a program of our own from the code's tree.
  WALKS: printed by a program of our own from the code's tree.
  WALKS: printed by a program of our own from the code's tree.
  WALKS: printed by a program of our own from the code's tree.
  WALKS: printed by a program of our own from the code's tree.
  WALKS: printed by a program of our own from the code's tree.
  WALKS: printed by a program of our own from the code's tree.
-/
import Derived.Test.YtpijoieooikfgaaPValidSpare2
import Derived.Test.YtpijoieooikfgaaPValidSpare4
import Derived.Test.YtpijoieooikfgaaPValidSpare3
namespace Go.Proofs.Ytpijoieooikfgaa.Sv
open Go

set_option maxHeartbeats 4000000 in
set_option maxRecDepth 100000 in
theorem vsame_ok (old new : Block) (R : Nat) (c : Cert) (i : Int) (next : List Int) (hR : R ≤ 40000) (hc : ∀ r ∈ c.same, r.length = R) (hi : 0 ≤ i ∧ i < c.same.length) (hnx : ∀ k ∈ next, 0 ≤ k ∧ k < c.same.length) (hv : old.fin = 2 → (0 ≤ old.v ∧ old.v < R) ∧ (0 ≤ new.v ∧ new.v < R)) (ho : ∀ t ∈ old.ins, TacV t R) (hn : ∀ t ∈ new.ins, TacV t R) (hlo : old.ins.length ≤ 10000) (hln : new.ins.length ≤ 10000) (hnl : next.length ≤ 100000) : APure Try.prog 28 [.agg old.cells, .agg new.cells, .int .i64 (R : Int), .agg c.cells, .int .i64 i, intsAV next] (fun r => r = .bool (vsame R old new c i next)) := by
 obtain ⟨row, hrow⟩ := get_of_lt (l := c.same) (k := i.toNat) (by omega)
 have hat : c.at' i = row := by unfold Cert.at'; rw [hrow]; rfl
 have hrl := hc row (List.mem_of_getElem? hrow)
 have hoa0 := vfold_ok (vok_a hR) ho
 have hoa : VOk ((2 * R : Nat) : Int) R (0 + 2 * old.ins.length) (vrunA R old) := hoa0
 have hob : VOk ((2 * R : Nat) : Int) R (0 + 2 * old.ins.length + 2 * new.ins.length) (vrunB R old new (c.at' i)) := vfold_ok (vok_b hoa _) hn
 refine APure.of_body (n := 146) tok Try.func28 rfl rfl ?_
 refine AGo.seq ?_
 refine AGo.region ?_
 refine ax 6 (o_box (sz := 5) 0 rfl rfl rfl rfl (Nat.zero_lt_succ _) rfl) ?_
 refine ax 7 (o_box (sz := 5) 1 rfl rfl rfl rfl (Nat.zero_lt_succ _) rfl) ?_
 refine ax 9 (o_box (sz := 1) 2 rfl rfl rfl rfl (Nat.zero_lt_succ _) rfl) ?_
 refine aa 12 ?_
 refine AOps.nil ?_
 refine AGo.seq ?_
 refine AGo.region ?_
 refine am 25 ?_
 refine aq 26 (q_bin (r := .int .i64 ((2 * R : Nat) : Int)) rfl rfl rfl (mulZ (by omega) (by omega) (by omega))) ?_
 refine ax 27 (o_makeMapA .i64 3 rfl rfl) ?_
 refine aq 28 (q_buildM tok (z0 := .int .i64 0) (z1 := .map none) (x := .int .i64 ((2 * R : Nat) : Int)) (y := .map 3) rfl rfl rfl rfl rfl rfl rfl rfl rfl (by kernel_rfl) rfl rfl) ?_
 refine ax 29 (o_box (sz := 3) 4 rfl rfl rfl rfl (Nat.zero_lt_succ _) rfl) ?_
 refine aa 13 ?_
 refine AOps.nil ?_
 refine AGo.seq ?_
 refine AGo.region ?_
 refine am 30 ?_
 refine am 31 ?_
 refine ax 32 (o_makeSliceV tok (n := R) 5 rfl rfl rfl rfl rfl rfl rfl rfl rfl rfl rfl rfl (by show 8 * R ≤ _; omega) (by simp only [maxLen]; omega)) ?_
 refine aq 33 (q_build tok (ps := [(0, .ptr 4 1 0 0), (1, vaA 5 (List.replicate R [.int .i64 0]))]) (r := [.ptr 4 1 0 0, vaA 5 (List.replicate R [.int .i64 0]), .nil, .int .i64 0]) rfl rfl rfl rfl rfl (by decide) (by simp only [partsFit, vaA_cells]; rfl) rfl (by simp only [partCells, vaA_cells]; rfl)) ?_
 refine ax 14 (o_alloc tok 6 rfl rfl rfl rfl (Nat.zero_lt_succ _) rfl) ?_
 refine AOps.w rfl rfl (o_store tok rfl rfl rfl rfl rfl rfl rfl rfl rfl (by decide) (by simp only [AV.cells, List.all_cons, List.all_nil, vaA_cell1]; rfl) (by intro h; cases h)) ?_
 refine AOps.nil ?_
 refine AGo.seq ?_
 refine AGo.ghost (.weakRowF 4 (es' := [[.int .i64 ((2 * R : Nat) : Int), .map 3, .lst true []]]) rfl rfl weakTab) ?_
 refine AGo.ghost (.weakRowF 6 (es' := [[.ptr 4 1 0 0, vaA 5 (List.replicate R [.int .i64 0]), .lst true [], .int .i64 0]]) rfl rfl weakWlk) ?_
 refine AGo.region ?_
 refine am 34 ?_
 refine am 35 ?_
 refine ax 36 (o_makeSliceV tok (n := R) 7 rfl rfl rfl rfl rfl rfl rfl rfl rfl rfl rfl rfl (by show 8 * R ≤ _; omega) (by simp only [maxLen]; omega)) ?_
 refine aq 37 (q_build tok (ps := [(0, .ptr 4 1 0 0), (1, vaA 7 (List.replicate R [.int .i64 0]))]) (r := [.ptr 4 1 0 0, vaA 7 (List.replicate R [.int .i64 0]), .nil, .int .i64 0]) rfl rfl rfl rfl rfl (by decide) (by simp only [partsFit, vaA_cells]; rfl) rfl (by simp only [partCells, vaA_cells]; rfl)) ?_
 refine ax 15 (o_alloc tok 8 rfl rfl rfl rfl (Nat.zero_lt_succ _) rfl) ?_
 refine AOps.w rfl rfl (o_store tok rfl rfl rfl rfl rfl rfl rfl rfl rfl (by decide) (by simp only [AV.cells, List.all_cons, List.all_nil, vaA_cell1]; rfl) (by intro h; cases h)) ?_
 refine AOps.nil ?_
 refine AGo.seq ?_
 refine AGo.seq ?_
 refine AGo.ghost (.weakRowF 8 (es' := [[.ptr 4 1 0 0, vaA 7 (List.replicate R [.int .i64 0]), .lst true [], .int .i64 0]]) rfl rfl weakWlk) ?_
 refine AGo.region ?_
 refine am 38 ?_
 refine am 39 ?_
 refine AOps.nil ?_
 refine AGo.block ?_
 refine AGo.loopD (γ := Nat) 12 (fun k => ⟨146, (eput (eput (eput (eput (eput (eput (eput (eput (eput (eput eNew 2 (.int .i64 (R : Int))) 4 (.int .i64 i)) 5 (intsAV next)) 6 (.ptr 0 1 0 0)) 7 (.ptr 1 1 0 0)) 9 (.ptr 2 1 0 0)) 14 (.ptr 6 1 0 0)) 15 (.ptr 8 1 0 0)) 38 (.int .i64 (R : Int))) 39 (.int .i64 (k : Int))), (hput (hput (hput (hput (hput (hput (hput (hput (hput (hput (hput (hput (hFrom 12) 0 (.row false 5 [old.cells])) 1 (.row false 5 [new.cells])) 2 (.row false 1 [c.cells])) 3 (.map (kvsA .i64 (vmap ((2 * R : Nat) : Int) ([]))))) 4 (.row false 3 [[.int .i64 ((2 * R : Nat) : Int), .map 3, slA 9 (([]).map (arrAV .i64))]])) 9 (slO 4 (([]).map (arrAV .i64)))) 6 (.row false 4 [[.ptr 4 1 0 0, vaA 5 (valC (fillI R k (fun v : Nat => (v : Int)))), slA 10 (([]).map (arrAV .i64)), .int .i64 (0)]])) 5 (vaO (valC (fillI R k (fun v : Nat => (v : Int)))))) 10 (slO 6 (([]).map (arrAV .i64)))) 8 (.row false 4 [[.ptr 4 1 0 0, vaA 7 (valC (fillI R k (sideB R (c.at' i)))), slA 11 (([]).map (arrAV .i64)), .int .i64 (0)]])) 7 (vaO (valC (fillI R k (sideB R (c.at' i)))))) 11 (slO 6 (([]).map (arrAV .i64))))⟩) (fun k => k ≤ R) (fun k => R - k) 0 (Sub.mk' (by repeat (first | exact ESub.new _ | refine ESub.put ?_ (by rfl))) (by repeat (first | exact HSub.refl _ | exact HSub.none _ | exact HSub.from_new _ | exact HSub.from_from (by first | decide | omega | (dsimp only; omega)) | refine HSub.put ?_ (by first | rfl | exact fill0R _ | exact fill0W _ _ _ _) | refine HSub.from_put ?_ (by first | decide | omega | (dsimp only; omega)) | refine HSub.from_rm ?_ (by decide)))) (Nat.zero_le _) (fun _ => hput_free (hput_free (hput_free (hput_free (hput_free (hput_free (hput_free (hput_free (hput_free (hput_free (hput_free (hput_free (fun b hb => hFrom_free hb) rfl) rfl) rfl) rfl) rfl) rfl) rfl) rfl) rfl) rfl) rfl) rfl) ?_
 intro k hk
 refine AGo.seq ?_
 refine AGo.region ?_
 refine aq 40 (q_bin rfl rfl rfl rfl) ?_
 refine AOps.nil ?_
 refine AGo.seq ?_
 refine AGo.split 40 rfl (fun hb1 => ?_) (fun hb1 => ?_)
 ·
  refine AGo.cond_true true rfl rfl ?_
  have hkl : k < R := by have h := hb1; simp only [decide_eq_true_eq] at h; omega
  obtain ⟨bit, hbit⟩ := get_of_lt (l := row) (k := k) (by omega)
  refine AGo.skip ?_
  refine AGo.seq ?_
  refine AGo.block ?_
  refine AGo.seq ?_
  refine AGo.region ?_
  refine am 41 ?_
  refine aa 16 ?_
  refine AOps.nil ?_
  refine AGo.seq ?_
  refine AGo.region ?_
  refine af 42 tok ?_
  refine al 43 tok ?_
  refine am 44 ?_
  refine af 45 tok ?_
  refine al 46 tok ?_
  refine am 47 ?_
  refine am 48 ?_
  refine am 49 ?_
  refine aq 50 (q_indexV tok rfl rfl rfl rfl rfl rfl rfl rfl (Int.natCast_nonneg _) (by rw [valC_len, (fillI_len (fun v : Nat => (v : Int)) (Nat.le_of_lt hkl))]; omega)) ?_
  refine AOps.w rfl rfl (o_storeV tok rfl rfl rfl rfl rfl rfl rfl (by rw [valC_len, (fillI_len (fun v : Nat => (v : Int)) (Nat.le_of_lt hkl)), Int.toNat_natCast]; exact hkl) (valC_one _) rfl rfl rfl) ?_
  refine aq 51 (q_indexV tok rfl rfl rfl rfl rfl rfl rfl rfl (Int.natCast_nonneg _) (by rw [valC_len, (fillI_len (sideB R (c.at' i)) (Nat.le_of_lt hkl))]; omega)) ?_
  refine AOps.w rfl rfl (o_storeV tok rfl rfl rfl rfl rfl rfl rfl (by rw [valC_len, (fillI_len (sideB R (c.at' i)) (Nat.le_of_lt hkl)), Int.toNat_natCast]; exact hkl) (valC_one _) rfl rfl rfl) ?_
  refine AOps.nil ?_
  refine AGo.seq ?_
  refine AGo.region ?_
  refine af 52 tok ?_
  refine al 53 tok ?_
  refine am 54 ?_
  refine aq 55 (q_index_lst tok rfl rfl rfl rfl rfl rfl hi.1 (by rw [List.getElem?_map, hrow]; rfl) rfl) ?_
  refine al 56 tok ?_
  refine am 57 ?_
  refine aq 58 (q_index_lst tok rfl rfl rfl rfl rfl rfl (Int.natCast_nonneg _) (idx_map hbit) rfl) ?_
  refine al 59 tok ?_
  refine aq 60 (q_not rfl rfl) ?_
  refine AOps.nil ?_
  refine AGo.split 60 rfl (fun hb2 => ?_) (fun hb2 => ?_)
  ·
   refine AGo.cond_true true rfl rfl ?_
   have hbf : bit = false := by simpa using hb2
   subst hbf
   refine AGo.region ?_
   refine af 61 tok ?_
   refine al 62 tok ?_
   refine am 63 ?_
   refine am 64 ?_
   refine am 65 ?_
   refine aq 66 (q_bin (r := .int .i64 ((R + k : Nat) : Int)) rfl rfl rfl (addZ (by omega) (by omega) (by omega))) ?_
   refine aq 67 (q_indexV2 tok rfl rfl rfl rfl rfl rfl rfl rfl (by rw [List.length_set]) (Int.natCast_nonneg _) (by rw [List.length_set, valC_len, (fillI_len (sideB R (c.at' i)) (Nat.le_of_lt hkl))]; omega)) ?_
   refine AOps.w rfl rfl (o_storeV tok rfl rfl rfl rfl rfl rfl rfl (by rw [List.length_set, valC_len, (fillI_len (sideB R (c.at' i)) (Nat.le_of_lt hkl)), Int.toNat_natCast]; exact hkl) (by intro cs hc; rcases List.mem_or_eq_of_mem_set hc with hc | rfl; exact valC_one _ _ hc; rfl) rfl rfl rfl) ?_
   refine AOps.nil ?_
   refine AGo.region ?_
   refine aq 68 (q_inc rfl rfl hkl (show R ≤ maxLen by simp only [maxLen]; omega)) ?_
   refine am 39 ?_
   refine AOps.nil ?_
   exact ⟨k+1, Drop.mk' (by repeat (first | exact EDrop.new _ _ | refine EDrop.put ?_ (by rfl) (by first | rfl | exact slA_avoid _ rfl | exact vaA_avoid _ rfl))) (by repeat (first | exact HDrop.none _ _ | exact HDrop.tail _ _ | refine HDrop.put ?_ (by first | rfl | exact fillRowA hkl | exact fillRowB hkl (hat ▸ hbit) | exact fillRowB2 hkl (hat ▸ hbit) | exact fillWlk _ _ _ _ hkl) rfl (by first | rfl | exact slO_avoid _ _ | exact vaO_avoid _ | exact tab_avoid _ _ rfl rfl | exact wlk_avoid _ _ _ rfl rfl rfl))), hkl, by omega⟩
  ·
   refine AGo.cond_false false rfl rfl ?_
   have hbf : bit = true := by simpa using hb2
   subst hbf
   refine AGo.skip ?_
   refine AGo.region ?_
   refine aq 68 (q_inc rfl rfl hkl (show R ≤ maxLen by simp only [maxLen]; omega)) ?_
   refine am 39 ?_
   refine AOps.nil ?_
   exact ⟨k+1, Drop.mk' (by repeat (first | exact EDrop.new _ _ | refine EDrop.put ?_ (by rfl) (by first | rfl | exact slA_avoid _ rfl | exact vaA_avoid _ rfl))) (by repeat (first | exact HDrop.none _ _ | exact HDrop.tail _ _ | refine HDrop.put ?_ (by first | rfl | exact fillRowA hkl | exact fillRowB hkl (hat ▸ hbit) | exact fillRowB2 hkl (hat ▸ hbit) | exact fillWlk _ _ _ _ hkl) rfl (by first | rfl | exact slO_avoid _ _ | exact vaO_avoid _ | exact tab_avoid _ _ rfl rfl | exact wlk_avoid _ _ _ rfl rfl rfl))), hkl, by omega⟩
 ·
  refine AGo.cond_false false rfl rfl ?_
  obtain rfl : R = k := by have h := hb1; simp only [decide_eq_false_iff_not] at h; omega
  refine AGo.exit ?_
  refine AGo.seq ?_
  refine AGo.seq ?_
  refine AGo.region ?_
  refine af 69 tok ?_
  refine al 70 tok ?_
  refine aq 71 (q_len tok rfl rfl rfl rfl rfl) ?_
  refine am 72 ?_
  refine AOps.nil ?_
  refine AGo.block ?_
  refine AGo.loopD (γ := Nat) 12 (fun k => ⟨146, (eput (eput (eput (eput (eput (eput (eput (eput (eput (eput (eput eNew 2 (.int .i64 (R : Int))) 4 (.int .i64 i)) 5 (intsAV next)) 6 (.ptr 0 1 0 0)) 7 (.ptr 1 1 0 0)) 9 (.ptr 2 1 0 0)) 14 (.ptr 6 1 0 0)) 15 (.ptr 8 1 0 0)) 70 (insAV old.ins)) 71 (.int .i64 (old.ins.length : Int))) 72 (.int .i64 (k : Int))), (hput (hput (hput (hput (hput (hput (hput (hput (hput (hput (hput (hput (hFrom 12) 0 (.row false 5 [old.cells])) 1 (.row false 5 [new.cells])) 2 (.row false 1 [c.cells])) 3 (.map (kvsA .i64 (vmap ((2 * R : Nat) : Int) (((vfold ((2 * R : Nat) : Int) (old.ins.take (k)) ⟨[], idsA R, [], 0⟩)).K))))) 4 (.row false 3 [[.int .i64 ((2 * R : Nat) : Int), .map 3, slA 9 ((((vfold ((2 * R : Nat) : Int) (old.ins.take (k)) ⟨[], idsA R, [], 0⟩)).K).map (arrAV .i64))]])) 9 (slO 4 ((((vfold ((2 * R : Nat) : Int) (old.ins.take (k)) ⟨[], idsA R, [], 0⟩)).K).map (arrAV .i64)))) 6 (.row false 4 [[.ptr 4 1 0 0, vaA 5 (valC ((vfold ((2 * R : Nat) : Int) (old.ins.take (k)) ⟨[], idsA R, [], 0⟩)).vals), slA 10 ((((vfold ((2 * R : Nat) : Int) (old.ins.take (k)) ⟨[], idsA R, [], 0⟩)).effs).map (arrAV .i64)), .int .i64 (((vfold ((2 * R : Nat) : Int) (old.ins.take (k)) ⟨[], idsA R, [], 0⟩)).time)]])) 5 (vaO (valC ((vfold ((2 * R : Nat) : Int) (old.ins.take (k)) ⟨[], idsA R, [], 0⟩)).vals))) 10 (slO 6 ((((vfold ((2 * R : Nat) : Int) (old.ins.take (k)) ⟨[], idsA R, [], 0⟩)).effs).map (arrAV .i64)))) 8 (.row false 4 [[.ptr 4 1 0 0, vaA 7 (valC (idsB R (c.at' i))), slA 11 (([]).map (arrAV .i64)), .int .i64 (0)]])) 7 (vaO (valC (idsB R (c.at' i))))) 11 (slO 6 (([]).map (arrAV .i64))))⟩) (fun k => k ≤ old.ins.length) (fun k => old.ins.length - k) 0 (Sub.mk' (by repeat (first | exact ESub.new _ | refine ESub.put ?_ (by first | rfl | exact congrArg (fun (n : Nat) => some (AV.int .i64 (n : Int))) (by simp)))) (by repeat (first | exact HSub.refl _ | exact HSub.none _ | exact HSub.from_new _ | exact HSub.from_from (by first | decide | omega | (dsimp only; omega)) | refine HSub.put ?_ (by first | rfl | exact initA | exact initB _ | exact initWA _ _ _ | exact initWB _ _ _ _) | refine HSub.from_put ?_ (by first | decide | omega | (dsimp only; omega)) | refine HSub.from_rm ?_ (by decide)))) (Nat.zero_le _) (fun _ => hput_free (hput_free (hput_free (hput_free (hput_free (hput_free (hput_free (hput_free (hput_free (hput_free (hput_free (hput_free (fun b hb => hFrom_free hb) rfl) rfl) rfl) rfl) rfl) rfl) rfl) rfl) rfl) rfl) rfl) rfl) ?_
  intro k hk
  refine AGo.seq ?_
  refine AGo.region ?_
  refine aq 73 (q_bin rfl rfl rfl rfl) ?_
  refine AOps.nil ?_
  refine AGo.seq ?_
  refine AGo.split 73 rfl (fun hb3 => ?_) (fun hb3 => ?_)
  ·
   refine AGo.cond_true true rfl rfl ?_
   have hkl : k < old.ins.length := by have h := hb3; simp only [List.length_map, decide_eq_true_eq] at h; omega
   obtain ⟨t, ht⟩ := get_of_lt hkl
   refine AGo.skip ?_
   refine AGo.seq ?_
   refine AGo.block ?_
   refine AGo.seq ?_
   refine AGo.region ?_
   refine aq 74 (q_index_lst tok rfl rfl rfl rfl rfl rfl (Int.natCast_nonneg _) (idx_map ht) rfl) ?_
   refine al 75 tok ?_
   refine ax 18 (o_alloc tok 12 rfl rfl rfl rfl (Nat.zero_lt_succ _) rfl) ?_
   refine AOps.w rfl rfl (o_store tok rfl rfl rfl rfl rfl rfl rfl rfl rfl (by decide) rfl (by first | exact fun _ => rfl | (intro h; cases h))) ?_
   refine AOps.nil ?_
   refine AGo.region ?_
   refine al 76 tok ?_
   refine ax 77 (o_call (hc := (hput (hput (hput (hput (hput (hput hNew 3 (.map (kvsA .i64 (vmap ((2 * R : Nat) : Int) (((vfold ((2 * R : Nat) : Int) (old.ins.take (k)) ⟨[], idsA R, [], 0⟩)).K))))) 4 (.row false 3 [[.int .i64 ((2 * R : Nat) : Int), .map 3, slA 9 ((((vfold ((2 * R : Nat) : Int) (old.ins.take (k)) ⟨[], idsA R, [], 0⟩)).K).map (arrAV .i64))]])) 9 (slO 4 ((((vfold ((2 * R : Nat) : Int) (old.ins.take (k)) ⟨[], idsA R, [], 0⟩)).K).map (arrAV .i64)))) 6 (.row false 4 [[.ptr 4 1 0 0, vaA 5 (valC ((vfold ((2 * R : Nat) : Int) (old.ins.take (k)) ⟨[], idsA R, [], 0⟩)).vals), slA 10 ((((vfold ((2 * R : Nat) : Int) (old.ins.take (k)) ⟨[], idsA R, [], 0⟩)).effs).map (arrAV .i64)), .int .i64 (((vfold ((2 * R : Nat) : Int) (old.ins.take (k)) ⟨[], idsA R, [], 0⟩)).time)]])) 5 (vaO (valC ((vfold ((2 * R : Nat) : Int) (old.ins.take (k)) ⟨[], idsA R, [], 0⟩)).vals))) 10 (slO 6 ((((vfold ((2 * R : Nat) : Int) (old.ins.take (k)) ⟨[], idsA R, [], 0⟩)).effs).map (arrAV .i64))))) (hw := (hput (hput (hput (hput (hput (hput hNone 3 (.map (kvsA .i64 (vmap ((2 * R : Nat) : Int) (((VW.step ((2 * R : Nat) : Int) (vfold ((2 * R : Nat) : Int) (old.ins.take (k)) ⟨[], idsA R, [], 0⟩) t)).K))))) 4 (.row false 3 [[.int .i64 ((2 * R : Nat) : Int), .map 3, slA 9 ((((VW.step ((2 * R : Nat) : Int) (vfold ((2 * R : Nat) : Int) (old.ins.take (k)) ⟨[], idsA R, [], 0⟩) t)).K).map (arrAV .i64))]])) 9 (slO 4 ((((VW.step ((2 * R : Nat) : Int) (vfold ((2 * R : Nat) : Int) (old.ins.take (k)) ⟨[], idsA R, [], 0⟩) t)).K).map (arrAV .i64)))) 6 (.row false 4 [[.ptr 4 1 0 0, vaA 5 (valC ((VW.step ((2 * R : Nat) : Int) (vfold ((2 * R : Nat) : Int) (old.ins.take (k)) ⟨[], idsA R, [], 0⟩) t)).vals), slA 10 ((((VW.step ((2 * R : Nat) : Int) (vfold ((2 * R : Nat) : Int) (old.ins.take (k)) ⟨[], idsA R, [], 0⟩) t)).effs).map (arrAV .i64)), .int .i64 (((VW.step ((2 * R : Nat) : Int) (vfold ((2 * R : Nat) : Int) (old.ins.take (k)) ⟨[], idsA R, [], 0⟩) t)).time)]])) 5 (vaO (valC ((VW.step ((2 * R : Nat) : Int) (vfold ((2 * R : Nat) : Int) (old.ins.take (k)) ⟨[], idsA R, [], 0⟩) t)).vals))) 10 (slO 6 ((((VW.step ((2 * R : Nat) : Int) (vfold ((2 * R : Nat) : Int) (old.ins.take (k)) ⟨[], idsA R, [], 0⟩) t)).effs).map (arrAV .i64))))) [10, 5, 6, 9, 4, 3] [(3, (.map (kvsA .i64 (vmap ((2 * R : Nat) : Int) (((VW.step ((2 * R : Nat) : Int) (vfold ((2 * R : Nat) : Int) (old.ins.take (k)) ⟨[], idsA R, [], 0⟩) t)).K))))), (4, (.row false 3 [[.int .i64 ((2 * R : Nat) : Int), .map 3, slA 9 ((((VW.step ((2 * R : Nat) : Int) (vfold ((2 * R : Nat) : Int) (old.ins.take (k)) ⟨[], idsA R, [], 0⟩) t)).K).map (arrAV .i64))]])), (9, (slO 4 ((((VW.step ((2 * R : Nat) : Int) (vfold ((2 * R : Nat) : Int) (old.ins.take (k)) ⟨[], idsA R, [], 0⟩) t)).K).map (arrAV .i64)))), (6, (.row false 4 [[.ptr 4 1 0 0, vaA 5 (valC ((VW.step ((2 * R : Nat) : Int) (vfold ((2 * R : Nat) : Int) (old.ins.take (k)) ⟨[], idsA R, [], 0⟩) t)).vals), slA 10 ((((VW.step ((2 * R : Nat) : Int) (vfold ((2 * R : Nat) : Int) (old.ins.take (k)) ⟨[], idsA R, [], 0⟩) t)).effs).map (arrAV .i64)), .int .i64 (((VW.step ((2 * R : Nat) : Int) (vfold ((2 * R : Nat) : Int) (old.ins.take (k)) ⟨[], idsA R, [], 0⟩) t)).time)]])), (5, (vaO (valC ((VW.step ((2 * R : Nat) : Int) (vfold ((2 * R : Nat) : Int) (old.ins.take (k)) ⟨[], idsA R, [], 0⟩) t)).vals))), (10, (slO 6 ((((VW.step ((2 * R : Nat) : Int) (vfold ((2 * R : Nat) : Int) (old.ins.take (k)) ⟨[], idsA R, [], 0⟩) t)).effs).map (arrAV .i64))))] rfl Try.func35 (by kernel_rfl) rfl rfl rfl ⟨⟨_, rfl, (by first | rfl | exact slO_avoid _ _ | exact vaO_avoid _ | exact tab_avoid _ _ rfl rfl | exact wlk_avoid _ _ _ rfl rfl rfl)⟩, ⟨_, rfl, (by first | rfl | exact slO_avoid _ _ | exact vaO_avoid _ | exact tab_avoid _ _ rfl rfl | exact wlk_avoid _ _ _ rfl rfl rfl)⟩, ⟨_, rfl, (by first | rfl | exact slO_avoid _ _ | exact vaO_avoid _ | exact tab_avoid _ _ rfl rfl | exact wlk_avoid _ _ _ rfl rfl rfl)⟩, ⟨_, rfl, (by first | rfl | exact slO_avoid _ _ | exact vaO_avoid _ | exact tab_avoid _ _ rfl rfl | exact wlk_avoid _ _ _ rfl rfl rfl)⟩, ⟨_, rfl, (by first | rfl | exact slO_avoid _ _ | exact vaO_avoid _ | exact tab_avoid _ _ rfl rfl | exact wlk_avoid _ _ _ rfl rfl rfl)⟩, ⟨_, rfl, (by first | rfl | exact slO_avoid _ _ | exact vaO_avoid _ | exact tab_avoid _ _ rfl rfl | exact wlk_avoid _ _ _ rfl rfl rfl)⟩, trivial⟩ rfl (hres_cons rfl (hres_cons rfl (hres_cons rfl (hres_cons rfl (hres_cons rfl (hres_cons rfl (hres_nil _))))))) ⟨⟨_, rfl, rfl, (by first | rfl | exact slO_avoid _ _ | exact vaO_avoid _ | exact tab_avoid _ _ rfl rfl | exact wlk_avoid _ _ _ rfl rfl rfl)⟩, ⟨_, rfl, rfl, (by first | rfl | exact slO_avoid _ _ | exact vaO_avoid _ | exact tab_avoid _ _ rfl rfl | exact wlk_avoid _ _ _ rfl rfl rfl)⟩, ⟨_, rfl, rfl, (by first | rfl | exact slO_avoid _ _ | exact vaO_avoid _ | exact tab_avoid _ _ rfl rfl | exact wlk_avoid _ _ _ rfl rfl rfl)⟩, ⟨_, rfl, rfl, (by first | rfl | exact slO_avoid _ _ | exact vaO_avoid _ | exact tab_avoid _ _ rfl rfl | exact wlk_avoid _ _ _ rfl rfl rfl)⟩, ⟨_, rfl, rfl, (by first | rfl | exact slO_avoid _ _ | exact vaO_avoid _ | exact tab_avoid _ _ rfl rfl | exact wlk_avoid _ _ _ rfl rfl rfl)⟩, ⟨_, rfl, rfl, (by first | rfl | exact slO_avoid _ _ | exact vaO_avoid _ | exact tab_avoid _ _ rfl rfl | exact wlk_avoid _ _ _ rfl rfl rfl)⟩, trivial⟩ rfl (vstepa_ok ((2 * R : Nat) : Int) R _ (vfold ((2 * R : Nat) : Int) (old.ins.take (k)) ⟨[], idsA R, [], 0⟩) (vfold_okk (vok_a hR) ho k) (by omega) t (ho t (List.mem_of_getElem? ht)))) ?_
   refine AOps.nil ?_
   refine AGo.region ?_
   refine aq 78 (q_inc rfl rfl hkl (show old.ins.length ≤ maxLen by simp only [maxLen]; omega)) ?_
   refine am 72 ?_
   refine AOps.nil ?_
   exact ⟨k+1, Drop.mk' (by repeat (first | exact EDrop.new _ _ | refine EDrop.put ?_ (by rfl) (by first | rfl | exact slA_avoid _ rfl | exact vaA_avoid _ rfl))) (by repeat (first | exact HDrop.none _ _ | exact HDrop.tail _ _ | refine HDrop.put ?_ (by first | rfl | (rw [vfold_succ ht]; rfl)) rfl (by first | rfl | exact slO_avoid _ _ | exact vaO_avoid _ | exact tab_avoid _ _ rfl rfl | exact wlk_avoid _ _ _ rfl rfl rfl))), hkl, by omega⟩
  ·
   refine AGo.cond_false false rfl rfl ?_
   have hge : old.ins.length ≤ k := by have h := hb3; simp only [List.length_map, decide_eq_false_iff_not] at h; omega
   refine AGo.exit ?_
   refine AGo.seq ?_
   refine AGo.seq ?_
   refine AGo.region ?_
   refine af 79 tok ?_
   refine al 80 tok ?_
   refine aq 81 (q_len tok rfl rfl rfl rfl rfl) ?_
   refine am 82 ?_
   refine AOps.nil ?_
   refine AGo.block ?_
   refine AGo.loopD (γ := Nat) 12 (fun k => ⟨146, (eput (eput (eput (eput (eput (eput (eput (eput (eput (eput (eput eNew 2 (.int .i64 (R : Int))) 4 (.int .i64 i)) 5 (intsAV next)) 6 (.ptr 0 1 0 0)) 7 (.ptr 1 1 0 0)) 9 (.ptr 2 1 0 0)) 14 (.ptr 6 1 0 0)) 15 (.ptr 8 1 0 0)) 80 (insAV new.ins)) 81 (.int .i64 (new.ins.length : Int))) 82 (.int .i64 (k : Int))), (hput (hput (hput (hput (hput (hput (hput (hput (hput (hput (hput (hput (hFrom 12) 0 (.row false 5 [old.cells])) 1 (.row false 5 [new.cells])) 2 (.row false 1 [c.cells])) 3 (.map (kvsA .i64 (vmap ((2 * R : Nat) : Int) (((vfold ((2 * R : Nat) : Int) (new.ins.take (k)) ⟨(vrunA R old).K, idsB R (c.at' i), [], 0⟩)).K))))) 4 (.row false 3 [[.int .i64 ((2 * R : Nat) : Int), .map 3, slA 9 ((((vfold ((2 * R : Nat) : Int) (new.ins.take (k)) ⟨(vrunA R old).K, idsB R (c.at' i), [], 0⟩)).K).map (arrAV .i64))]])) 9 (slO 4 ((((vfold ((2 * R : Nat) : Int) (new.ins.take (k)) ⟨(vrunA R old).K, idsB R (c.at' i), [], 0⟩)).K).map (arrAV .i64)))) 8 (.row false 4 [[.ptr 4 1 0 0, vaA 7 (valC ((vfold ((2 * R : Nat) : Int) (new.ins.take (k)) ⟨(vrunA R old).K, idsB R (c.at' i), [], 0⟩)).vals), slA 11 ((((vfold ((2 * R : Nat) : Int) (new.ins.take (k)) ⟨(vrunA R old).K, idsB R (c.at' i), [], 0⟩)).effs).map (arrAV .i64)), .int .i64 (((vfold ((2 * R : Nat) : Int) (new.ins.take (k)) ⟨(vrunA R old).K, idsB R (c.at' i), [], 0⟩)).time)]])) 7 (vaO (valC ((vfold ((2 * R : Nat) : Int) (new.ins.take (k)) ⟨(vrunA R old).K, idsB R (c.at' i), [], 0⟩)).vals))) 11 (slO 6 ((((vfold ((2 * R : Nat) : Int) (new.ins.take (k)) ⟨(vrunA R old).K, idsB R (c.at' i), [], 0⟩)).effs).map (arrAV .i64)))) 6 (.row false 4 [[.ptr 4 1 0 0, vaA 5 (valC (vrunA R old).vals), slA 10 (((vrunA R old).effs).map (arrAV .i64)), .int .i64 ((vrunA R old).time)]])) 5 (vaO (valC (vrunA R old).vals))) 10 (slO 6 (((vrunA R old).effs).map (arrAV .i64))))⟩) (fun k => k ≤ new.ins.length) (fun k => new.ins.length - k) 0 (Sub.mk' (by repeat (first | exact ESub.new _ | refine ESub.put ?_ (by first | rfl | exact congrArg (fun (n : Nat) => some (AV.int .i64 (n : Int))) (by simp)))) (by repeat (first | exact HSub.refl _ | exact HSub.none _ | exact HSub.from_new _ | exact HSub.from_from (by first | decide | omega | (dsimp only; omega)) | refine HSub.put ?_ (by first | rfl | (rw [vfold_end hge]; rfl)) | refine HSub.from_put ?_ (by first | decide | omega | (dsimp only; omega)) | refine HSub.from_rm ?_ (by decide)))) (Nat.zero_le _) (fun _ => hput_free (hput_free (hput_free (hput_free (hput_free (hput_free (hput_free (hput_free (hput_free (hput_free (hput_free (hput_free (fun b hb => hFrom_free hb) rfl) rfl) rfl) rfl) rfl) rfl) rfl) rfl) rfl) rfl) rfl) rfl) ?_
   intro k hk
   refine AGo.seq ?_
   refine AGo.region ?_
   refine aq 83 (q_bin rfl rfl rfl rfl) ?_
   refine AOps.nil ?_
   refine AGo.seq ?_
   refine AGo.split 83 rfl (fun hb4 => ?_) (fun hb4 => ?_)
   ·
    refine AGo.cond_true true rfl rfl ?_
    have hkl : k < new.ins.length := by have h := hb4; simp only [List.length_map, decide_eq_true_eq] at h; omega
    obtain ⟨t, ht⟩ := get_of_lt hkl
    refine AGo.skip ?_
    refine AGo.seq ?_
    refine AGo.block ?_
    refine AGo.seq ?_
    refine AGo.region ?_
    refine aq 84 (q_index_lst tok rfl rfl rfl rfl rfl rfl (Int.natCast_nonneg _) (idx_map ht) rfl) ?_
    refine al 85 tok ?_
    refine ax 20 (o_alloc tok 12 rfl rfl rfl rfl (Nat.zero_lt_succ _) rfl) ?_
    refine AOps.w rfl rfl (o_store tok rfl rfl rfl rfl rfl rfl rfl rfl rfl (by decide) rfl (by first | exact fun _ => rfl | (intro h; cases h))) ?_
    refine AOps.nil ?_
    refine AGo.region ?_
    refine al 86 tok ?_
    refine ax 87 (o_call (hc := (hput (hput (hput (hput (hput (hput hNew 3 (.map (kvsA .i64 (vmap ((2 * R : Nat) : Int) (((vfold ((2 * R : Nat) : Int) (new.ins.take (k)) ⟨(vrunA R old).K, idsB R (c.at' i), [], 0⟩)).K))))) 4 (.row false 3 [[.int .i64 ((2 * R : Nat) : Int), .map 3, slA 9 ((((vfold ((2 * R : Nat) : Int) (new.ins.take (k)) ⟨(vrunA R old).K, idsB R (c.at' i), [], 0⟩)).K).map (arrAV .i64))]])) 9 (slO 4 ((((vfold ((2 * R : Nat) : Int) (new.ins.take (k)) ⟨(vrunA R old).K, idsB R (c.at' i), [], 0⟩)).K).map (arrAV .i64)))) 8 (.row false 4 [[.ptr 4 1 0 0, vaA 7 (valC ((vfold ((2 * R : Nat) : Int) (new.ins.take (k)) ⟨(vrunA R old).K, idsB R (c.at' i), [], 0⟩)).vals), slA 11 ((((vfold ((2 * R : Nat) : Int) (new.ins.take (k)) ⟨(vrunA R old).K, idsB R (c.at' i), [], 0⟩)).effs).map (arrAV .i64)), .int .i64 (((vfold ((2 * R : Nat) : Int) (new.ins.take (k)) ⟨(vrunA R old).K, idsB R (c.at' i), [], 0⟩)).time)]])) 7 (vaO (valC ((vfold ((2 * R : Nat) : Int) (new.ins.take (k)) ⟨(vrunA R old).K, idsB R (c.at' i), [], 0⟩)).vals))) 11 (slO 6 ((((vfold ((2 * R : Nat) : Int) (new.ins.take (k)) ⟨(vrunA R old).K, idsB R (c.at' i), [], 0⟩)).effs).map (arrAV .i64))))) (hw := (hput (hput (hput (hput (hput (hput hNone 3 (.map (kvsA .i64 (vmap ((2 * R : Nat) : Int) (((VW.step ((2 * R : Nat) : Int) (vfold ((2 * R : Nat) : Int) (new.ins.take (k)) ⟨(vrunA R old).K, idsB R (c.at' i), [], 0⟩) t)).K))))) 4 (.row false 3 [[.int .i64 ((2 * R : Nat) : Int), .map 3, slA 9 ((((VW.step ((2 * R : Nat) : Int) (vfold ((2 * R : Nat) : Int) (new.ins.take (k)) ⟨(vrunA R old).K, idsB R (c.at' i), [], 0⟩) t)).K).map (arrAV .i64))]])) 9 (slO 4 ((((VW.step ((2 * R : Nat) : Int) (vfold ((2 * R : Nat) : Int) (new.ins.take (k)) ⟨(vrunA R old).K, idsB R (c.at' i), [], 0⟩) t)).K).map (arrAV .i64)))) 8 (.row false 4 [[.ptr 4 1 0 0, vaA 7 (valC ((VW.step ((2 * R : Nat) : Int) (vfold ((2 * R : Nat) : Int) (new.ins.take (k)) ⟨(vrunA R old).K, idsB R (c.at' i), [], 0⟩) t)).vals), slA 11 ((((VW.step ((2 * R : Nat) : Int) (vfold ((2 * R : Nat) : Int) (new.ins.take (k)) ⟨(vrunA R old).K, idsB R (c.at' i), [], 0⟩) t)).effs).map (arrAV .i64)), .int .i64 (((VW.step ((2 * R : Nat) : Int) (vfold ((2 * R : Nat) : Int) (new.ins.take (k)) ⟨(vrunA R old).K, idsB R (c.at' i), [], 0⟩) t)).time)]])) 7 (vaO (valC ((VW.step ((2 * R : Nat) : Int) (vfold ((2 * R : Nat) : Int) (new.ins.take (k)) ⟨(vrunA R old).K, idsB R (c.at' i), [], 0⟩) t)).vals))) 11 (slO 6 ((((VW.step ((2 * R : Nat) : Int) (vfold ((2 * R : Nat) : Int) (new.ins.take (k)) ⟨(vrunA R old).K, idsB R (c.at' i), [], 0⟩) t)).effs).map (arrAV .i64))))) [11, 7, 8, 9, 4, 3] [(3, (.map (kvsA .i64 (vmap ((2 * R : Nat) : Int) (((VW.step ((2 * R : Nat) : Int) (vfold ((2 * R : Nat) : Int) (new.ins.take (k)) ⟨(vrunA R old).K, idsB R (c.at' i), [], 0⟩) t)).K))))), (4, (.row false 3 [[.int .i64 ((2 * R : Nat) : Int), .map 3, slA 9 ((((VW.step ((2 * R : Nat) : Int) (vfold ((2 * R : Nat) : Int) (new.ins.take (k)) ⟨(vrunA R old).K, idsB R (c.at' i), [], 0⟩) t)).K).map (arrAV .i64))]])), (9, (slO 4 ((((VW.step ((2 * R : Nat) : Int) (vfold ((2 * R : Nat) : Int) (new.ins.take (k)) ⟨(vrunA R old).K, idsB R (c.at' i), [], 0⟩) t)).K).map (arrAV .i64)))), (8, (.row false 4 [[.ptr 4 1 0 0, vaA 7 (valC ((VW.step ((2 * R : Nat) : Int) (vfold ((2 * R : Nat) : Int) (new.ins.take (k)) ⟨(vrunA R old).K, idsB R (c.at' i), [], 0⟩) t)).vals), slA 11 ((((VW.step ((2 * R : Nat) : Int) (vfold ((2 * R : Nat) : Int) (new.ins.take (k)) ⟨(vrunA R old).K, idsB R (c.at' i), [], 0⟩) t)).effs).map (arrAV .i64)), .int .i64 (((VW.step ((2 * R : Nat) : Int) (vfold ((2 * R : Nat) : Int) (new.ins.take (k)) ⟨(vrunA R old).K, idsB R (c.at' i), [], 0⟩) t)).time)]])), (7, (vaO (valC ((VW.step ((2 * R : Nat) : Int) (vfold ((2 * R : Nat) : Int) (new.ins.take (k)) ⟨(vrunA R old).K, idsB R (c.at' i), [], 0⟩) t)).vals))), (11, (slO 6 ((((VW.step ((2 * R : Nat) : Int) (vfold ((2 * R : Nat) : Int) (new.ins.take (k)) ⟨(vrunA R old).K, idsB R (c.at' i), [], 0⟩) t)).effs).map (arrAV .i64))))] rfl Try.func35 (by kernel_rfl) rfl rfl rfl ⟨⟨_, rfl, (by first | rfl | exact slO_avoid _ _ | exact vaO_avoid _ | exact tab_avoid _ _ rfl rfl | exact wlk_avoid _ _ _ rfl rfl rfl)⟩, ⟨_, rfl, (by first | rfl | exact slO_avoid _ _ | exact vaO_avoid _ | exact tab_avoid _ _ rfl rfl | exact wlk_avoid _ _ _ rfl rfl rfl)⟩, ⟨_, rfl, (by first | rfl | exact slO_avoid _ _ | exact vaO_avoid _ | exact tab_avoid _ _ rfl rfl | exact wlk_avoid _ _ _ rfl rfl rfl)⟩, ⟨_, rfl, (by first | rfl | exact slO_avoid _ _ | exact vaO_avoid _ | exact tab_avoid _ _ rfl rfl | exact wlk_avoid _ _ _ rfl rfl rfl)⟩, ⟨_, rfl, (by first | rfl | exact slO_avoid _ _ | exact vaO_avoid _ | exact tab_avoid _ _ rfl rfl | exact wlk_avoid _ _ _ rfl rfl rfl)⟩, ⟨_, rfl, (by first | rfl | exact slO_avoid _ _ | exact vaO_avoid _ | exact tab_avoid _ _ rfl rfl | exact wlk_avoid _ _ _ rfl rfl rfl)⟩, trivial⟩ rfl (hres_cons rfl (hres_cons rfl (hres_cons rfl (hres_cons rfl (hres_cons rfl (hres_cons rfl (hres_nil _))))))) ⟨⟨_, rfl, rfl, (by first | rfl | exact slO_avoid _ _ | exact vaO_avoid _ | exact tab_avoid _ _ rfl rfl | exact wlk_avoid _ _ _ rfl rfl rfl)⟩, ⟨_, rfl, rfl, (by first | rfl | exact slO_avoid _ _ | exact vaO_avoid _ | exact tab_avoid _ _ rfl rfl | exact wlk_avoid _ _ _ rfl rfl rfl)⟩, ⟨_, rfl, rfl, (by first | rfl | exact slO_avoid _ _ | exact vaO_avoid _ | exact tab_avoid _ _ rfl rfl | exact wlk_avoid _ _ _ rfl rfl rfl)⟩, ⟨_, rfl, rfl, (by first | rfl | exact slO_avoid _ _ | exact vaO_avoid _ | exact tab_avoid _ _ rfl rfl | exact wlk_avoid _ _ _ rfl rfl rfl)⟩, ⟨_, rfl, rfl, (by first | rfl | exact slO_avoid _ _ | exact vaO_avoid _ | exact tab_avoid _ _ rfl rfl | exact wlk_avoid _ _ _ rfl rfl rfl)⟩, ⟨_, rfl, rfl, (by first | rfl | exact slO_avoid _ _ | exact vaO_avoid _ | exact tab_avoid _ _ rfl rfl | exact wlk_avoid _ _ _ rfl rfl rfl)⟩, trivial⟩ rfl (vstepb_ok ((2 * R : Nat) : Int) R _ (vfold ((2 * R : Nat) : Int) (new.ins.take (k)) ⟨(vrunA R old).K, idsB R (c.at' i), [], 0⟩) (vfold_okk (vok_b hoa _) hn k) (by omega) t (hn t (List.mem_of_getElem? ht)))) ?_
    refine AOps.nil ?_
    refine AGo.region ?_
    refine aq 88 (q_inc rfl rfl hkl (show new.ins.length ≤ maxLen by simp only [maxLen]; omega)) ?_
    refine am 82 ?_
    refine AOps.nil ?_
    exact ⟨k+1, Drop.mk' (by repeat (first | exact EDrop.new _ _ | refine EDrop.put ?_ (by rfl) (by first | rfl | exact slA_avoid _ rfl | exact vaA_avoid _ rfl))) (by repeat (first | exact HDrop.none _ _ | exact HDrop.tail _ _ | refine HDrop.put ?_ (by first | rfl | (rw [vfold_succ ht]; rfl)) rfl (by first | rfl | exact slO_avoid _ _ | exact vaO_avoid _ | exact tab_avoid _ _ rfl rfl | exact wlk_avoid _ _ _ rfl rfl rfl))), hkl, by omega⟩
   ·
    refine AGo.cond_false false rfl rfl ?_
    have hge : new.ins.length ≤ k := by have h := hb4; simp only [List.length_map, decide_eq_false_iff_not] at h; omega
    rw [vfold_end hge]
    refine AGo.exit ?_
    refine AGo.seq ?_
    refine AGo.seq ?_
    refine AGo.region ?_
    refine af 89 tok ?_
    refine al 90 tok ?_
    refine af 91 tok ?_
    refine al 92 tok ?_
    refine ax 93 (o_call (hc := (hput (hput hNew 10 (slO 6 (((vrunA R old).effs).map (arrAV .i64)))) 11 (slO 6 (((vrunB R old new (c.at' i)).effs).map (arrAV .i64))))) (hw := (hput (hput hNone 10 (slO 6 (((vrunA R old).effs).map (arrAV .i64)))) 11 (slO 6 (((vrunB R old new (c.at' i)).effs).map (arrAV .i64))))) [11, 10] [] rfl Try.func36 (by kernel_rfl) rfl rfl (by simp only [List.all_cons, List.all_nil, slA_avoid _ (show mem [11, 10] 10 = true from rfl), slA_avoid _ (show mem [11, 10] 11 = true from rfl)]; rfl) ⟨⟨_, rfl, (by first | rfl | exact slO_avoid _ _ | exact vaO_avoid _ | exact tab_avoid _ _ rfl rfl | exact wlk_avoid _ _ _ rfl rfl rfl)⟩, ⟨_, rfl, (by first | rfl | exact slO_avoid _ _ | exact vaO_avoid _ | exact tab_avoid _ _ rfl rfl | exact wlk_avoid _ _ _ rfl rfl rfl)⟩, trivial⟩ rfl (hres_cons rfl (hres_cons rfl (hres_nil _))) ⟨⟨_, rfl, rfl, (by first | rfl | exact slO_avoid _ _ | exact vaO_avoid _ | exact tab_avoid _ _ rfl rfl | exact wlk_avoid _ _ _ rfl rfl rfl)⟩, ⟨_, rfl, rfl, (by first | rfl | exact slO_avoid _ _ | exact vaO_avoid _ | exact tab_avoid _ _ rfl rfl | exact wlk_avoid _ _ _ rfl rfl rfl)⟩, trivial⟩ rfl (effs_ok (vrunA R old).effs (vrunB R old new (c.at' i)).effs hoa.e6 hob.e6 (by have := hoa.el; omega))) ?_
    refine aq 94 (q_not rfl rfl) ?_
    refine AOps.nil ?_
    refine AGo.split 94 rfl (fun hb5 => ?_) (fun hb5 => ?_)
    ·
     refine AGo.cond_true true rfl rfl ?_
     have hef := hb5
     refine AGo.seq ?_
     refine AGo.region ?_
     refine aa 12 ?_
     refine AOps.nil ?_
     refine AGo.ret ?_
     refine ⟨[_], ⟨rfl, trivial⟩, ?_, rfl⟩
     show AV.bool _ = AV.bool _
     congr 1
     exact (vsame_no1 (ndec_no hef)).symm
    ·
     refine AGo.cond_false false rfl rfl ?_
     have hef := hb5
     refine AGo.skip ?_
     refine AGo.seq ?_
     refine AGo.seq ?_
     refine AGo.draw mix ?_
     refine df 95 tok ?_
     refine dl 96 tok ?_
     refine dq 97 (q_bin rfl rfl rfl rfl) ?_
     refine dm 98 ?_
     refine DOps.split 98 rfl (fun hb6 => ?_) (fun hb6 => ?_)
     ·
      have hf2 : old.fin = 2 := by simpa using hb6
      have hxo := hoa.at (hv hf2).1
      have hxn := hob.at (hv hf2).2
      refine df 99 tok ?_
      refine dl 100 tok ?_
      refine df 101 tok ?_
      refine dl 102 tok ?_
      refine dq 103 (q_indexV tok rfl rfl rfl rfl rfl rfl rfl rfl hxo.1 hxo.2.2.1) ?_
      refine dq 104 (q_load tok rfl rfl rfl (ptsV rfl (valC_get ⟨hxo.1, hxo.2.1⟩)) rfl) ?_
      refine df 105 tok ?_
      refine dl 106 tok ?_
      refine df 107 tok ?_
      refine dl 108 tok ?_
      refine dq 109 (q_indexV tok rfl rfl rfl rfl rfl rfl rfl rfl hxn.1 hxn.2.2.1) ?_
      refine dq 110 (q_load tok rfl rfl rfl (ptsV rfl (valC_get ⟨hxn.1, hxn.2.1⟩)) rfl) ?_
      refine dq 111 (q_bin rfl rfl rfl rfl) ?_
      refine dq 112 (q_pick_true true rfl rfl rfl rfl) ?_
      refine DOps.nil (by kernel_rfl) ?_
      refine AGo.split 112 rfl (fun hb7 => ?_) (fun hb7 => ?_)
      ·
       refine AGo.cond_true true rfl rfl ?_
       have hvf := hb7
       refine AGo.seq ?_
       refine AGo.region ?_
       refine aa 12 ?_
       refine AOps.nil ?_
       refine AGo.ret ?_
       refine ⟨[_], ⟨rfl, trivial⟩, ?_, rfl⟩
       show AV.bool _ = AV.bool _
       congr 1
       exact (vsame_no2 hf2 (bne_ne' hvf)).symm
      ·
       refine AGo.cond_false false rfl rfl ?_
       have hvf := hb7
       refine AGo.skip ?_
       refine AGo.seq ?_
       refine AGo.seq ?_
       refine AGo.region ?_
       refine am 113 ?_
       refine aq 114 (q_len tok rfl rfl rfl rfl rfl) ?_
       refine am 115 ?_
       refine AOps.nil ?_
       refine AGo.block ?_
       refine AGo.loopD (γ := Nat) 12 (fun j => ⟨146, (eput (eput (eput (eput (eput (eput (eput (eput (eput (eput (eput eNew 2 (.int .i64 (R : Int))) 4 (.int .i64 i)) 5 (intsAV next)) 6 (.ptr 0 1 0 0)) 7 (.ptr 1 1 0 0)) 9 (.ptr 2 1 0 0)) 14 (.ptr 6 1 0 0)) 15 (.ptr 8 1 0 0)) 113 (intsAV next)) 114 (.int .i64 (next.length : Int))) 115 (.int .i64 (j : Int))), (hput (hput (hput (hput (hput (hput (hput (hput (hput (hput (hput (hput (hFrom 12) 0 (.row false 5 [old.cells])) 1 (.row false 5 [new.cells])) 2 (.row false 1 [c.cells])) 3 (.map (kvsA .i64 (vmap ((2 * R : Nat) : Int) (((vrunB R old new (c.at' i))).K))))) 4 (.row false 3 [[.int .i64 ((2 * R : Nat) : Int), .map 3, slA 9 ((((vrunB R old new (c.at' i))).K).map (arrAV .i64))]])) 9 (slO 4 ((((vrunB R old new (c.at' i))).K).map (arrAV .i64)))) 8 (.row false 4 [[.ptr 4 1 0 0, vaA 7 (valC ((vrunB R old new (c.at' i))).vals), slA 11 ((((vrunB R old new (c.at' i))).effs).map (arrAV .i64)), .int .i64 (((vrunB R old new (c.at' i))).time)]])) 7 (vaO (valC ((vrunB R old new (c.at' i))).vals))) 11 (slO 6 ((((vrunB R old new (c.at' i))).effs).map (arrAV .i64)))) 6 (.row false 4 [[.ptr 4 1 0 0, vaA 5 (valC (vrunA R old).vals), slA 10 (((vrunA R old).effs).map (arrAV .i64)), .int .i64 ((vrunA R old).time)]])) 5 (vaO (valC (vrunA R old).vals))) 10 (slO 6 (((vrunA R old).effs).map (arrAV .i64))))⟩) (fun j => j ≤ next.length ∧ (next.take j).all (fun k => vagree (vrunA R old) (vrunB R old new (c.at' i)) (c.at' k)) = true) (fun j => next.length - j) 0 (Sub.mk' (by repeat (first | exact ESub.new _ | refine ESub.put ?_ (by first | rfl | exact congrArg (fun (n : Nat) => some (AV.int .i64 (n : Int))) (by simp)))) (by repeat (first | exact HSub.refl _ | exact HSub.none _ | exact HSub.from_new _ | exact HSub.from_from (by first | decide | omega | (dsimp only; omega)) | refine HSub.put ?_ (by first | rfl | (rw [vfold_end hge]; rfl)) | refine HSub.from_put ?_ (by first | decide | omega | (dsimp only; omega)) | refine HSub.from_rm ?_ (by decide)))) ⟨Nat.zero_le _, rfl⟩ (fun _ => hput_free (hput_free (hput_free (hput_free (hput_free (hput_free (hput_free (hput_free (hput_free (hput_free (hput_free (hput_free (fun b hb => hFrom_free hb) rfl) rfl) rfl) rfl) rfl) rfl) rfl) rfl) rfl) rfl) rfl) rfl) ?_
       intro j ⟨hj, hall⟩
       refine AGo.seq ?_
       refine AGo.region ?_
       refine aq 116 (q_bin rfl rfl rfl rfl) ?_
       refine AOps.nil ?_
       refine AGo.seq ?_
       refine AGo.split 116 rfl (fun hb8 => ?_) (fun hb8 => ?_)
       ·
        refine AGo.cond_true true rfl rfl ?_
        have hjl : j < next.length := by have h := hb8; simp only [List.length_map, decide_eq_true_eq] at h; omega
        obtain ⟨nk, hnk⟩ := get_of_lt hjl
        have hkr := hnx nk (List.mem_of_getElem? hnk)
        obtain ⟨row2, hrow2⟩ := get_of_lt (l := c.same) (k := nk.toNat) (by omega)
        have hat2 : c.at' nk = row2 := by unfold Cert.at'; rw [hrow2]; rfl
        have hrl2 := hc row2 (List.mem_of_getElem? hrow2)
        refine AGo.skip ?_
        refine AGo.seq ?_
        refine AGo.block ?_
        refine AGo.seq ?_
        refine AGo.region ?_
        refine aq 117 (q_index_lst tok rfl rfl rfl rfl rfl rfl (Int.natCast_nonneg _) (idx_map hnk) rfl) ?_
        refine al 118 tok ?_
        refine aa 22 ?_
        refine AOps.nil ?_
        refine AGo.seq ?_
        refine AGo.region ?_
        refine af 119 tok ?_
        refine al 120 tok ?_
        refine am 121 ?_
        refine aq 122 (q_index_lst tok rfl rfl rfl rfl rfl rfl hkr.1 (by rw [List.getElem?_map, hrow2]; rfl) rfl) ?_
        refine al 123 tok ?_
        refine aq 124 (q_len tok rfl rfl rfl rfl rfl) ?_
        refine am 125 ?_
        refine AOps.nil ?_
        refine AGo.block ?_
        refine AGo.loopD (γ := Nat) 12 (fun k => ⟨146, (eput (eput (eput (eput (eput (eput (eput (eput (eput (eput (eput (eput (eput (eput eNew 2 (.int .i64 (R : Int))) 4 (.int .i64 i)) 5 (intsAV next)) 6 (.ptr 0 1 0 0)) 7 (.ptr 1 1 0 0)) 9 (.ptr 2 1 0 0)) 14 (.ptr 6 1 0 0)) 15 (.ptr 8 1 0 0)) 113 (intsAV next)) 114 (.int .i64 (next.length : Int))) 115 (.int .i64 (j : Int))) 123 (boolsAV row2)) 124 (.int .i64 (row2.length : Int))) 125 (.int .i64 (k : Int))), (hput (hput (hput (hput (hput (hput (hput (hput (hput (hput (hput (hput (hFrom 12) 0 (.row false 5 [old.cells])) 1 (.row false 5 [new.cells])) 2 (.row false 1 [c.cells])) 3 (.map (kvsA .i64 (vmap ((2 * R : Nat) : Int) (((vrunB R old new (c.at' i))).K))))) 4 (.row false 3 [[.int .i64 ((2 * R : Nat) : Int), .map 3, slA 9 ((((vrunB R old new (c.at' i))).K).map (arrAV .i64))]])) 9 (slO 4 ((((vrunB R old new (c.at' i))).K).map (arrAV .i64)))) 8 (.row false 4 [[.ptr 4 1 0 0, vaA 7 (valC ((vrunB R old new (c.at' i))).vals), slA 11 ((((vrunB R old new (c.at' i))).effs).map (arrAV .i64)), .int .i64 (((vrunB R old new (c.at' i))).time)]])) 7 (vaO (valC ((vrunB R old new (c.at' i))).vals))) 11 (slO 6 ((((vrunB R old new (c.at' i))).effs).map (arrAV .i64)))) 6 (.row false 4 [[.ptr 4 1 0 0, vaA 5 (valC (vrunA R old).vals), slA 10 (((vrunA R old).effs).map (arrAV .i64)), .int .i64 ((vrunA R old).time)]])) 5 (vaO (valC (vrunA R old).vals))) 10 (slO 6 (((vrunA R old).effs).map (arrAV .i64))))⟩) (fun k => k ≤ row2.length ∧ vagreeTo (vrunA R old) (vrunB R old new (c.at' i)) row2 k) (fun k => row2.length - k) 0 (Sub.mk' (by repeat (first | exact ESub.new _ | refine ESub.put ?_ (by first | rfl | exact congrArg (fun (n : Nat) => some (AV.int .i64 (n : Int))) (by simp)))) (by repeat (first | exact HSub.refl _ | exact HSub.none _ | exact HSub.from_new _ | exact HSub.from_from (by first | decide | omega | (dsimp only; omega)) | refine HSub.put ?_ (by rfl) | refine HSub.from_put ?_ (by first | decide | omega | (dsimp only; omega)) | refine HSub.from_rm ?_ (by decide)))) ⟨Nat.zero_le _, vagree_zero⟩ (fun _ => hput_free (hput_free (hput_free (hput_free (hput_free (hput_free (hput_free (hput_free (hput_free (hput_free (hput_free (hput_free (fun b hb => hFrom_free hb) rfl) rfl) rfl) rfl) rfl) rfl) rfl) rfl) rfl) rfl) rfl) rfl) ?_
        intro k ⟨hk, hagr⟩
        refine AGo.seq ?_
        refine AGo.region ?_
        refine aq 126 (q_bin rfl rfl rfl rfl) ?_
        refine AOps.nil ?_
        refine AGo.seq ?_
        refine AGo.split 126 rfl (fun hb9 => ?_) (fun hb9 => ?_)
        ·
         refine AGo.cond_true true rfl rfl ?_
         have hkl : k < row2.length := by have h := hb9; simp only [List.length_map, decide_eq_true_eq] at h; omega
         obtain ⟨must, hmu⟩ := get_of_lt hkl
         refine AGo.skip ?_
         refine AGo.seq ?_
         refine AGo.block ?_
         refine AGo.seq ?_
         refine AGo.region ?_
         refine am 127 ?_
         refine aq 128 (q_index_lst tok rfl rfl rfl rfl rfl rfl (Int.natCast_nonneg _) (idx_map hmu) rfl) ?_
         refine al 129 tok ?_
         refine aa 23 ?_
         refine aa 24 ?_
         refine AOps.nil ?_
         refine AGo.seq ?_
         refine AGo.draw mix ?_
         refine dm 130 ?_
         refine dm 131 ?_
         refine DOps.split 131 rfl (fun hb10 => ?_) (fun hb10 => ?_)
         ·
          have hmt : must = true := by simpa using hb10
          have hxv := hoa.at (z := (k : Int)) (by omega)
          have hyv := hob.at (z := (k : Int)) (by omega)
          refine df 132 tok ?_
          refine dl 133 tok ?_
          refine dm 134 ?_
          refine dq 135 (q_indexV tok rfl rfl rfl rfl rfl rfl rfl rfl hxv.1 hxv.2.2.1) ?_
          refine dq 136 (q_load tok rfl rfl rfl (ptsV rfl (valC_get ⟨hxv.1, hxv.2.1⟩)) rfl) ?_
          refine df 137 tok ?_
          refine dl 138 tok ?_
          refine dm 139 ?_
          refine dq 140 (q_indexV tok rfl rfl rfl rfl rfl rfl rfl rfl hyv.1 hyv.2.2.1) ?_
          refine dq 141 (q_load tok rfl rfl rfl (ptsV rfl (valC_get ⟨hyv.1, hyv.2.1⟩)) rfl) ?_
          refine dq 142 (q_bin rfl rfl rfl rfl) ?_
          refine dq 143 (q_pick_true true rfl rfl rfl rfl) ?_
          refine DOps.nil (by kernel_rfl) ?_
          refine AGo.split 143 rfl (fun hb11 => ?_) (fun hb11 => ?_)
          ·
           refine AGo.cond_true true rfl rfl ?_
           have hag := hb11
           refine AGo.seq ?_
           refine AGo.region ?_
           refine aa 12 ?_
           refine AOps.nil ?_
           refine AGo.ret ?_
           refine ⟨[_], ⟨rfl, trivial⟩, ?_, rfl⟩
           show AV.bool _ = AV.bool _
           congr 1
           exact (vsame_no3 hnk (by rw [hat2]; exact vagree_no hmu hmt (bne_ne' hag))).symm
          ·
           refine AGo.cond_false false rfl rfl ?_
           have hag := hb11
           refine AGo.skip ?_
           refine AGo.region ?_
           refine aq 144 (q_inc rfl rfl hkl (show row2.length ≤ maxLen by simp only [maxLen]; omega)) ?_
           refine am 125 ?_
           refine AOps.nil ?_
           exact ⟨k+1, Drop.mk' (by repeat (first | exact EDrop.new _ _ | refine EDrop.put ?_ (by rfl) (by first | rfl | exact slA_avoid _ rfl | exact vaA_avoid _ rfl))) (by repeat (first | exact HDrop.none _ _ | exact HDrop.tail _ _ | refine HDrop.put ?_ (by rfl) rfl (by first | rfl | exact slO_avoid _ _ | exact vaO_avoid _ | exact tab_avoid _ _ rfl rfl | exact wlk_avoid _ _ _ rfl rfl rfl))), ⟨hkl, vagree_succ hagr hmu (by first | exact fun _ => bne_eq' hag | (exact fun h => by rw [hag] at h; cases h))⟩, by omega⟩
         ·
          refine dk 132 ?_
          refine dk 133 ?_
          refine dk 134 ?_
          refine dk 135 ?_
          refine dk 136 ?_
          refine dk 137 ?_
          refine dk 138 ?_
          refine dk 139 ?_
          refine dk 140 ?_
          refine dk 141 ?_
          refine dk 142 ?_
          refine dq 143 (q_pick_false false rfl rfl rfl rfl) ?_
          refine DOps.nil (by kernel_rfl) ?_
          refine AGo.cond_false false rfl rfl ?_
          have hag := hb10
          refine AGo.skip ?_
          refine AGo.region ?_
          refine aq 144 (q_inc rfl rfl hkl (show row2.length ≤ maxLen by simp only [maxLen]; omega)) ?_
          refine am 125 ?_
          refine AOps.nil ?_
          exact ⟨k+1, Drop.mk' (by repeat (first | exact EDrop.new _ _ | refine EDrop.put ?_ (by rfl) (by first | rfl | exact slA_avoid _ rfl | exact vaA_avoid _ rfl))) (by repeat (first | exact HDrop.none _ _ | exact HDrop.tail _ _ | refine HDrop.put ?_ (by rfl) rfl (by first | rfl | exact slO_avoid _ _ | exact vaO_avoid _ | exact tab_avoid _ _ rfl rfl | exact wlk_avoid _ _ _ rfl rfl rfl))), ⟨hkl, vagree_succ hagr hmu (by first | exact fun _ => bne_eq' hag | (exact fun h => by rw [hag] at h; cases h))⟩, by omega⟩
        ·
         refine AGo.cond_false false rfl rfl ?_
         have hkge : row2.length ≤ k := by have h := hb9; simp only [List.length_map, decide_eq_false_iff_not] at h; omega
         refine AGo.exit ?_
         refine AGo.region ?_
         refine aq 145 (q_inc rfl rfl hjl (show next.length ≤ maxLen by simp only [maxLen]; omega)) ?_
         refine am 115 ?_
         refine AOps.nil ?_
         exact ⟨j+1, Drop.mk' (by repeat (first | exact EDrop.new _ _ | refine EDrop.put ?_ (by rfl) (by first | rfl | exact slA_avoid _ rfl | exact vaA_avoid _ rfl))) (by repeat (first | exact HDrop.none _ _ | exact HDrop.tail _ _ | refine HDrop.put ?_ (by rfl) rfl (by first | rfl | exact slO_avoid _ _ | exact vaO_avoid _ | exact tab_avoid _ _ rfl rfl | exact wlk_avoid _ _ _ rfl rfl rfl))), ⟨hjl, all_succ hnk hall (by rw [hat2]; exact vagree_end hkge hagr)⟩, by omega⟩
       ·
        refine AGo.cond_false false rfl rfl ?_
        have hjge : next.length ≤ j := by have h := hb8; simp only [List.length_map, decide_eq_false_iff_not] at h; omega
        refine AGo.exit ?_
        refine AGo.seq ?_
        refine AGo.region ?_
        refine aa 12 ?_
        refine AOps.nil ?_
        refine AGo.ret ?_
        refine ⟨[_], ⟨rfl, trivial⟩, ?_, rfl⟩
        show AV.bool _ = AV.bool _
        congr 1
        exact (vsame_yes (ndec_yes hef) (by first | exact fun _ => bne_eq' hvf | (exact fun hf => absurd hf (by simpa using hvf))) (all_end hall hjge)).symm
     ·
      refine dk 99 ?_
      refine dk 100 ?_
      refine dk 101 ?_
      refine dk 102 ?_
      refine dk 103 ?_
      refine dk 104 ?_
      refine dk 105 ?_
      refine dk 106 ?_
      refine dk 107 ?_
      refine dk 108 ?_
      refine dk 109 ?_
      refine dk 110 ?_
      refine dk 111 ?_
      refine dq 112 (q_pick_false false rfl rfl rfl rfl) ?_
      refine DOps.nil (by kernel_rfl) ?_
      refine AGo.cond_false false rfl rfl ?_
      have hvf := hb6
      refine AGo.skip ?_
      refine AGo.seq ?_
      refine AGo.seq ?_
      refine AGo.region ?_
      refine am 113 ?_
      refine aq 114 (q_len tok rfl rfl rfl rfl rfl) ?_
      refine am 115 ?_
      refine AOps.nil ?_
      refine AGo.block ?_
      refine AGo.loopD (γ := Nat) 12 (fun j => ⟨146, (eput (eput (eput (eput (eput (eput (eput (eput (eput (eput (eput eNew 2 (.int .i64 (R : Int))) 4 (.int .i64 i)) 5 (intsAV next)) 6 (.ptr 0 1 0 0)) 7 (.ptr 1 1 0 0)) 9 (.ptr 2 1 0 0)) 14 (.ptr 6 1 0 0)) 15 (.ptr 8 1 0 0)) 113 (intsAV next)) 114 (.int .i64 (next.length : Int))) 115 (.int .i64 (j : Int))), (hput (hput (hput (hput (hput (hput (hput (hput (hput (hput (hput (hput (hFrom 12) 0 (.row false 5 [old.cells])) 1 (.row false 5 [new.cells])) 2 (.row false 1 [c.cells])) 3 (.map (kvsA .i64 (vmap ((2 * R : Nat) : Int) (((vrunB R old new (c.at' i))).K))))) 4 (.row false 3 [[.int .i64 ((2 * R : Nat) : Int), .map 3, slA 9 ((((vrunB R old new (c.at' i))).K).map (arrAV .i64))]])) 9 (slO 4 ((((vrunB R old new (c.at' i))).K).map (arrAV .i64)))) 8 (.row false 4 [[.ptr 4 1 0 0, vaA 7 (valC ((vrunB R old new (c.at' i))).vals), slA 11 ((((vrunB R old new (c.at' i))).effs).map (arrAV .i64)), .int .i64 (((vrunB R old new (c.at' i))).time)]])) 7 (vaO (valC ((vrunB R old new (c.at' i))).vals))) 11 (slO 6 ((((vrunB R old new (c.at' i))).effs).map (arrAV .i64)))) 6 (.row false 4 [[.ptr 4 1 0 0, vaA 5 (valC (vrunA R old).vals), slA 10 (((vrunA R old).effs).map (arrAV .i64)), .int .i64 ((vrunA R old).time)]])) 5 (vaO (valC (vrunA R old).vals))) 10 (slO 6 (((vrunA R old).effs).map (arrAV .i64))))⟩) (fun j => j ≤ next.length ∧ (next.take j).all (fun k => vagree (vrunA R old) (vrunB R old new (c.at' i)) (c.at' k)) = true) (fun j => next.length - j) 0 (Sub.mk' (by repeat (first | exact ESub.new _ | refine ESub.put ?_ (by first | rfl | exact congrArg (fun (n : Nat) => some (AV.int .i64 (n : Int))) (by simp)))) (by repeat (first | exact HSub.refl _ | exact HSub.none _ | exact HSub.from_new _ | exact HSub.from_from (by first | decide | omega | (dsimp only; omega)) | refine HSub.put ?_ (by first | rfl | (rw [vfold_end hge]; rfl)) | refine HSub.from_put ?_ (by first | decide | omega | (dsimp only; omega)) | refine HSub.from_rm ?_ (by decide)))) ⟨Nat.zero_le _, rfl⟩ (fun _ => hput_free (hput_free (hput_free (hput_free (hput_free (hput_free (hput_free (hput_free (hput_free (hput_free (hput_free (hput_free (fun b hb => hFrom_free hb) rfl) rfl) rfl) rfl) rfl) rfl) rfl) rfl) rfl) rfl) rfl) rfl) ?_
      intro j ⟨hj, hall⟩
      refine AGo.seq ?_
      refine AGo.region ?_
      refine aq 116 (q_bin rfl rfl rfl rfl) ?_
      refine AOps.nil ?_
      refine AGo.seq ?_
      refine AGo.split 116 rfl (fun hb12 => ?_) (fun hb12 => ?_)
      ·
       refine AGo.cond_true true rfl rfl ?_
       have hjl : j < next.length := by have h := hb12; simp only [List.length_map, decide_eq_true_eq] at h; omega
       obtain ⟨nk, hnk⟩ := get_of_lt hjl
       have hkr := hnx nk (List.mem_of_getElem? hnk)
       obtain ⟨row2, hrow2⟩ := get_of_lt (l := c.same) (k := nk.toNat) (by omega)
       have hat2 : c.at' nk = row2 := by unfold Cert.at'; rw [hrow2]; rfl
       have hrl2 := hc row2 (List.mem_of_getElem? hrow2)
       refine AGo.skip ?_
       refine AGo.seq ?_
       refine AGo.block ?_
       refine AGo.seq ?_
       refine AGo.region ?_
       refine aq 117 (q_index_lst tok rfl rfl rfl rfl rfl rfl (Int.natCast_nonneg _) (idx_map hnk) rfl) ?_
       refine al 118 tok ?_
       refine aa 22 ?_
       refine AOps.nil ?_
       refine AGo.seq ?_
       refine AGo.region ?_
       refine af 119 tok ?_
       refine al 120 tok ?_
       refine am 121 ?_
       refine aq 122 (q_index_lst tok rfl rfl rfl rfl rfl rfl hkr.1 (by rw [List.getElem?_map, hrow2]; rfl) rfl) ?_
       refine al 123 tok ?_
       refine aq 124 (q_len tok rfl rfl rfl rfl rfl) ?_
       refine am 125 ?_
       refine AOps.nil ?_
       refine AGo.block ?_
       refine AGo.loopD (γ := Nat) 12 (fun k => ⟨146, (eput (eput (eput (eput (eput (eput (eput (eput (eput (eput (eput (eput (eput (eput eNew 2 (.int .i64 (R : Int))) 4 (.int .i64 i)) 5 (intsAV next)) 6 (.ptr 0 1 0 0)) 7 (.ptr 1 1 0 0)) 9 (.ptr 2 1 0 0)) 14 (.ptr 6 1 0 0)) 15 (.ptr 8 1 0 0)) 113 (intsAV next)) 114 (.int .i64 (next.length : Int))) 115 (.int .i64 (j : Int))) 123 (boolsAV row2)) 124 (.int .i64 (row2.length : Int))) 125 (.int .i64 (k : Int))), (hput (hput (hput (hput (hput (hput (hput (hput (hput (hput (hput (hput (hFrom 12) 0 (.row false 5 [old.cells])) 1 (.row false 5 [new.cells])) 2 (.row false 1 [c.cells])) 3 (.map (kvsA .i64 (vmap ((2 * R : Nat) : Int) (((vrunB R old new (c.at' i))).K))))) 4 (.row false 3 [[.int .i64 ((2 * R : Nat) : Int), .map 3, slA 9 ((((vrunB R old new (c.at' i))).K).map (arrAV .i64))]])) 9 (slO 4 ((((vrunB R old new (c.at' i))).K).map (arrAV .i64)))) 8 (.row false 4 [[.ptr 4 1 0 0, vaA 7 (valC ((vrunB R old new (c.at' i))).vals), slA 11 ((((vrunB R old new (c.at' i))).effs).map (arrAV .i64)), .int .i64 (((vrunB R old new (c.at' i))).time)]])) 7 (vaO (valC ((vrunB R old new (c.at' i))).vals))) 11 (slO 6 ((((vrunB R old new (c.at' i))).effs).map (arrAV .i64)))) 6 (.row false 4 [[.ptr 4 1 0 0, vaA 5 (valC (vrunA R old).vals), slA 10 (((vrunA R old).effs).map (arrAV .i64)), .int .i64 ((vrunA R old).time)]])) 5 (vaO (valC (vrunA R old).vals))) 10 (slO 6 (((vrunA R old).effs).map (arrAV .i64))))⟩) (fun k => k ≤ row2.length ∧ vagreeTo (vrunA R old) (vrunB R old new (c.at' i)) row2 k) (fun k => row2.length - k) 0 (Sub.mk' (by repeat (first | exact ESub.new _ | refine ESub.put ?_ (by first | rfl | exact congrArg (fun (n : Nat) => some (AV.int .i64 (n : Int))) (by simp)))) (by repeat (first | exact HSub.refl _ | exact HSub.none _ | exact HSub.from_new _ | exact HSub.from_from (by first | decide | omega | (dsimp only; omega)) | refine HSub.put ?_ (by rfl) | refine HSub.from_put ?_ (by first | decide | omega | (dsimp only; omega)) | refine HSub.from_rm ?_ (by decide)))) ⟨Nat.zero_le _, vagree_zero⟩ (fun _ => hput_free (hput_free (hput_free (hput_free (hput_free (hput_free (hput_free (hput_free (hput_free (hput_free (hput_free (hput_free (fun b hb => hFrom_free hb) rfl) rfl) rfl) rfl) rfl) rfl) rfl) rfl) rfl) rfl) rfl) rfl) ?_
       intro k ⟨hk, hagr⟩
       refine AGo.seq ?_
       refine AGo.region ?_
       refine aq 126 (q_bin rfl rfl rfl rfl) ?_
       refine AOps.nil ?_
       refine AGo.seq ?_
       refine AGo.split 126 rfl (fun hb13 => ?_) (fun hb13 => ?_)
       ·
        refine AGo.cond_true true rfl rfl ?_
        have hkl : k < row2.length := by have h := hb13; simp only [List.length_map, decide_eq_true_eq] at h; omega
        obtain ⟨must, hmu⟩ := get_of_lt hkl
        refine AGo.skip ?_
        refine AGo.seq ?_
        refine AGo.block ?_
        refine AGo.seq ?_
        refine AGo.region ?_
        refine am 127 ?_
        refine aq 128 (q_index_lst tok rfl rfl rfl rfl rfl rfl (Int.natCast_nonneg _) (idx_map hmu) rfl) ?_
        refine al 129 tok ?_
        refine aa 23 ?_
        refine aa 24 ?_
        refine AOps.nil ?_
        refine AGo.seq ?_
        refine AGo.draw mix ?_
        refine dm 130 ?_
        refine dm 131 ?_
        refine DOps.split 131 rfl (fun hb14 => ?_) (fun hb14 => ?_)
        ·
         have hmt : must = true := by simpa using hb14
         have hxv := hoa.at (z := (k : Int)) (by omega)
         have hyv := hob.at (z := (k : Int)) (by omega)
         refine df 132 tok ?_
         refine dl 133 tok ?_
         refine dm 134 ?_
         refine dq 135 (q_indexV tok rfl rfl rfl rfl rfl rfl rfl rfl hxv.1 hxv.2.2.1) ?_
         refine dq 136 (q_load tok rfl rfl rfl (ptsV rfl (valC_get ⟨hxv.1, hxv.2.1⟩)) rfl) ?_
         refine df 137 tok ?_
         refine dl 138 tok ?_
         refine dm 139 ?_
         refine dq 140 (q_indexV tok rfl rfl rfl rfl rfl rfl rfl rfl hyv.1 hyv.2.2.1) ?_
         refine dq 141 (q_load tok rfl rfl rfl (ptsV rfl (valC_get ⟨hyv.1, hyv.2.1⟩)) rfl) ?_
         refine dq 142 (q_bin rfl rfl rfl rfl) ?_
         refine dq 143 (q_pick_true true rfl rfl rfl rfl) ?_
         refine DOps.nil (by kernel_rfl) ?_
         refine AGo.split 143 rfl (fun hb15 => ?_) (fun hb15 => ?_)
         ·
          refine AGo.cond_true true rfl rfl ?_
          have hag := hb15
          refine AGo.seq ?_
          refine AGo.region ?_
          refine aa 12 ?_
          refine AOps.nil ?_
          refine AGo.ret ?_
          refine ⟨[_], ⟨rfl, trivial⟩, ?_, rfl⟩
          show AV.bool _ = AV.bool _
          congr 1
          exact (vsame_no3 hnk (by rw [hat2]; exact vagree_no hmu hmt (bne_ne' hag))).symm
         ·
          refine AGo.cond_false false rfl rfl ?_
          have hag := hb15
          refine AGo.skip ?_
          refine AGo.region ?_
          refine aq 144 (q_inc rfl rfl hkl (show row2.length ≤ maxLen by simp only [maxLen]; omega)) ?_
          refine am 125 ?_
          refine AOps.nil ?_
          exact ⟨k+1, Drop.mk' (by repeat (first | exact EDrop.new _ _ | refine EDrop.put ?_ (by rfl) (by first | rfl | exact slA_avoid _ rfl | exact vaA_avoid _ rfl))) (by repeat (first | exact HDrop.none _ _ | exact HDrop.tail _ _ | refine HDrop.put ?_ (by rfl) rfl (by first | rfl | exact slO_avoid _ _ | exact vaO_avoid _ | exact tab_avoid _ _ rfl rfl | exact wlk_avoid _ _ _ rfl rfl rfl))), ⟨hkl, vagree_succ hagr hmu (by first | exact fun _ => bne_eq' hag | (exact fun h => by rw [hag] at h; cases h))⟩, by omega⟩
        ·
         refine dk 132 ?_
         refine dk 133 ?_
         refine dk 134 ?_
         refine dk 135 ?_
         refine dk 136 ?_
         refine dk 137 ?_
         refine dk 138 ?_
         refine dk 139 ?_
         refine dk 140 ?_
         refine dk 141 ?_
         refine dk 142 ?_
         refine dq 143 (q_pick_false false rfl rfl rfl rfl) ?_
         refine DOps.nil (by kernel_rfl) ?_
         refine AGo.cond_false false rfl rfl ?_
         have hag := hb14
         refine AGo.skip ?_
         refine AGo.region ?_
         refine aq 144 (q_inc rfl rfl hkl (show row2.length ≤ maxLen by simp only [maxLen]; omega)) ?_
         refine am 125 ?_
         refine AOps.nil ?_
         exact ⟨k+1, Drop.mk' (by repeat (first | exact EDrop.new _ _ | refine EDrop.put ?_ (by rfl) (by first | rfl | exact slA_avoid _ rfl | exact vaA_avoid _ rfl))) (by repeat (first | exact HDrop.none _ _ | exact HDrop.tail _ _ | refine HDrop.put ?_ (by rfl) rfl (by first | rfl | exact slO_avoid _ _ | exact vaO_avoid _ | exact tab_avoid _ _ rfl rfl | exact wlk_avoid _ _ _ rfl rfl rfl))), ⟨hkl, vagree_succ hagr hmu (by first | exact fun _ => bne_eq' hag | (exact fun h => by rw [hag] at h; cases h))⟩, by omega⟩
       ·
        refine AGo.cond_false false rfl rfl ?_
        have hkge : row2.length ≤ k := by have h := hb13; simp only [List.length_map, decide_eq_false_iff_not] at h; omega
        refine AGo.exit ?_
        refine AGo.region ?_
        refine aq 145 (q_inc rfl rfl hjl (show next.length ≤ maxLen by simp only [maxLen]; omega)) ?_
        refine am 115 ?_
        refine AOps.nil ?_
        exact ⟨j+1, Drop.mk' (by repeat (first | exact EDrop.new _ _ | refine EDrop.put ?_ (by rfl) (by first | rfl | exact slA_avoid _ rfl | exact vaA_avoid _ rfl))) (by repeat (first | exact HDrop.none _ _ | exact HDrop.tail _ _ | refine HDrop.put ?_ (by rfl) rfl (by first | rfl | exact slO_avoid _ _ | exact vaO_avoid _ | exact tab_avoid _ _ rfl rfl | exact wlk_avoid _ _ _ rfl rfl rfl))), ⟨hjl, all_succ hnk hall (by rw [hat2]; exact vagree_end hkge hagr)⟩, by omega⟩
      ·
       refine AGo.cond_false false rfl rfl ?_
       have hjge : next.length ≤ j := by have h := hb12; simp only [List.length_map, decide_eq_false_iff_not] at h; omega
       refine AGo.exit ?_
       refine AGo.seq ?_
       refine AGo.region ?_
       refine aa 12 ?_
       refine AOps.nil ?_
       refine AGo.ret ?_
       refine ⟨[_], ⟨rfl, trivial⟩, ?_, rfl⟩
       show AV.bool _ = AV.bool _
       congr 1
       exact (vsame_yes (ndec_yes hef) (by first | exact fun _ => bne_eq' hvf | (exact fun hf => absurd hf (by simpa using hvf))) (all_end hall hjge)).symm

end Go.Proofs.Ytpijoieooikfgaa.Sv

namespace Go.Proofs.Ytpijoieooikfgaa.Sv
open Go

set_option maxHeartbeats 1000000 in
set_option maxRecDepth 100000 in
theorem shaped_ok (old new : BFunc) (hno : old.blocks.length ≤ 10000) (hnn : new.blocks.length ≤ 10000) (hio : ∀ x ∈ old.blocks, x.ins.length ≤ 10000 ∧ insW x.ins) (hin : ∀ x ∈ new.blocks, x.ins.length ≤ 10000 ∧ insW x.ins) : APure Try.prog 26 [.agg old.cells, .agg new.cells] (fun r => r = .bool (vshaped old new)) := by
 refine APure.of_body (n := 65) tok Try.func26 rfl rfl ?_
 refine AGo.seq ?_
 refine AGo.region ?_
 refine ax 2 (o_box (sz := 2) 0 rfl rfl rfl rfl (Nat.zero_lt_succ _) rfl) ?_
 refine ax 3 (o_box (sz := 2) 1 rfl rfl rfl rfl (Nat.zero_lt_succ _) rfl) ?_
 refine aa 4 ?_
 refine AOps.nil ?_
 refine AGo.seq ?_
 refine AGo.seq ?_
 refine AGo.region ?_
 refine af 8 tok ?_
 refine al 9 tok ?_
 refine af 10 tok ?_
 refine al 11 tok ?_
 refine aq 12 (q_bin rfl rfl rfl rfl) ?_
 refine am 13 ?_
 refine AOps.split 13 rfl (fun hb1 => ?_) (fun hb1 => ?_)
 ·
  refine ak 14 ?_
  refine ak 15 ?_
  refine ak 16 ?_
  refine ak 17 ?_
  refine ak 18 ?_
  refine ak 19 ?_
  refine ak 20 ?_
  refine aq 21 (q_pick_true true rfl rfl rfl rfl) ?_
  refine am 22 ?_
  refine ak 23 ?_
  refine ak 24 ?_
  refine ak 25 ?_
  refine aq 26 (q_pick_true true rfl rfl rfl rfl) ?_
  refine am 27 ?_
  refine ak 28 ?_
  refine ak 29 ?_
  refine ak 30 ?_
  refine aq 31 (q_pick_true true rfl rfl rfl rfl) ?_
  refine AOps.nil ?_
  refine AGo.cond_true true rfl rfl ?_
  refine AGo.seq ?_
  refine AGo.region ?_
  refine aa 4 ?_
  refine AOps.nil ?_
  refine AGo.ret ?_
  refine ⟨[_], ⟨rfl, trivial⟩, ?_, rfl⟩
  show AV.bool _ = AV.bool _
  congr 1
  first
  | exact (vshaped_regs (by assumption)).symm
  | exact (vshaped_len' (by assumption)).symm
  | exact (vshaped_s1 (ndec_same' (b := old.stands) (by assumption))).symm
  | exact (vshaped_s2 (ndec_same' (b := new.stands) (by assumption))).symm
 ·
  refine af 14 tok ?_
  refine al 15 tok ?_
  refine aq 16 (q_len tok rfl rfl rfl rfl rfl) ?_
  refine af 17 tok ?_
  refine al 18 tok ?_
  refine aq 19 (q_len tok rfl rfl rfl rfl rfl) ?_
  refine aq 20 (q_bin rfl rfl rfl rfl) ?_
  refine aq 21 (q_pick_false false rfl rfl rfl rfl) ?_
  refine am 22 ?_
  refine AOps.split 22 rfl (fun hb2 => ?_) (fun hb2 => ?_)
  ·
   refine ak 23 ?_
   refine ak 24 ?_
   refine ak 25 ?_
   refine aq 26 (q_pick_true true rfl rfl rfl rfl) ?_
   refine am 27 ?_
   refine ak 28 ?_
   refine ak 29 ?_
   refine ak 30 ?_
   refine aq 31 (q_pick_true true rfl rfl rfl rfl) ?_
   refine AOps.nil ?_
   refine AGo.cond_true true rfl rfl ?_
   refine AGo.seq ?_
   refine AGo.region ?_
   refine aa 4 ?_
   refine AOps.nil ?_
   refine AGo.ret ?_
   refine ⟨[_], ⟨rfl, trivial⟩, ?_, rfl⟩
   show AV.bool _ = AV.bool _
   congr 1
   first
   | exact (vshaped_regs (by assumption)).symm
   | exact (vshaped_len' (by assumption)).symm
   | exact (vshaped_s1 (ndec_same' (b := old.stands) (by assumption))).symm
   | exact (vshaped_s2 (ndec_same' (b := new.stands) (by assumption))).symm
  ·
   refine al 23 tok ?_
   refine ax 24 (o_pure rfl Try.func34 (by kernel_rfl) rfl rfl rfl (stands_ok old (by omega) (fun x hx => by have := (hio x hx).1; omega))) ?_
   refine aq 25 (q_not rfl rfl) ?_
   refine aq 26 (q_pick_false false rfl rfl rfl rfl) ?_
   refine am 27 ?_
   refine AOps.split 27 rfl (fun hb3 => ?_) (fun hb3 => ?_)
   ·
    refine ak 28 ?_
    refine ak 29 ?_
    refine ak 30 ?_
    refine aq 31 (q_pick_true true rfl rfl rfl rfl) ?_
    refine AOps.nil ?_
    refine AGo.cond_true true rfl rfl ?_
    refine AGo.seq ?_
    refine AGo.region ?_
    refine aa 4 ?_
    refine AOps.nil ?_
    refine AGo.ret ?_
    refine ⟨[_], ⟨rfl, trivial⟩, ?_, rfl⟩
    show AV.bool _ = AV.bool _
    congr 1
    first
    | exact (vshaped_regs (by assumption)).symm
    | exact (vshaped_len' (by assumption)).symm
    | exact (vshaped_s1 (ndec_same' (b := old.stands) (by assumption))).symm
    | exact (vshaped_s2 (ndec_same' (b := new.stands) (by assumption))).symm
   ·
    refine al 28 tok ?_
    refine ax 29 (o_pure rfl Try.func34 (by kernel_rfl) rfl rfl rfl (stands_ok new (by omega) (fun x hx => by have := (hin x hx).1; omega))) ?_
    refine aq 30 (q_not rfl rfl) ?_
    refine aq 31 (q_pick_false false rfl rfl rfl rfl) ?_
    refine AOps.nil ?_
    refine AGo.split 31 rfl (fun hb4 => ?_) (fun hb4 => ?_)
    ·
     refine AGo.cond_true true rfl rfl ?_
     refine AGo.seq ?_
     refine AGo.region ?_
     refine aa 4 ?_
     refine AOps.nil ?_
     refine AGo.ret ?_
     refine ⟨[_], ⟨rfl, trivial⟩, ?_, rfl⟩
     show AV.bool _ = AV.bool _
     congr 1
     first
     | exact (vshaped_regs (by assumption)).symm
     | exact (vshaped_len' (by assumption)).symm
     | exact (vshaped_s1 (ndec_same' (b := old.stands) (by assumption))).symm
     | exact (vshaped_s2 (ndec_same' (b := new.stands) (by assumption))).symm
    ·
     refine AGo.cond_false false rfl rfl ?_
     have hlen := len_eq' (by assumption)
     refine AGo.skip ?_
     refine AGo.seq ?_
     refine AGo.seq ?_
     refine AGo.region ?_
     refine af 32 tok ?_
     refine al 33 tok ?_
     refine aq 34 (q_len tok rfl rfl rfl rfl rfl) ?_
     refine am 35 ?_
     refine AOps.nil ?_
     refine AGo.block ?_
     refine AGo.loopD (γ := Nat) 2 (fun k => ⟨65, (eput (eput (eput (eput (eput eNew 2 (.ptr 0 1 0 0)) 3 (.ptr 1 1 0 0)) 33 (blocksAV old.blocks)) 34 (.int .i64 (old.blocks.length : Int))) 35 (.int .i64 (k : Int))), (hput (hput (hFrom 2) 0 (.row false 2 [old.cells])) 1 (.row false 2 [new.cells]))⟩) (fun k => k ≤ old.blocks.length ∧ ((old.blocks.zip new.blocks).take k).all (fun p => shapeB p.1 p.2) = true) (fun k => old.blocks.length - k) 0 (Sub.mk' (by repeat (first | exact ESub.new _ | refine ESub.put ?_ (by first | rfl | exact congrArg (fun (n : Nat) => some (AV.int .i64 (n : Int))) (by simp)))) (by repeat (first | exact HSub.refl _ | exact HSub.none _ | exact HSub.from_new _ | exact HSub.from_from (by first | decide | omega | (dsimp only; omega)) | refine HSub.put ?_ (by rfl) | refine HSub.from_put ?_ (by first | decide | omega | (dsimp only; omega)) | refine HSub.from_rm ?_ (by decide)))) ⟨Nat.zero_le _, rfl⟩ (fun _ => hput_free (hput_free (fun b hb => hFrom_free hb) rfl) rfl) ?_
     intro k ⟨hk, hall⟩
     refine AGo.seq ?_
     refine AGo.region ?_
     refine aq 36 (q_bin rfl rfl rfl rfl) ?_
     refine AOps.nil ?_
     refine AGo.seq ?_
     refine AGo.split 36 rfl (fun hb5 => ?_) (fun hb5 => ?_)
     ·
      refine AGo.cond_true true rfl rfl ?_
      have hkl : k < old.blocks.length := by simpa using hb5
      obtain ⟨x, hx⟩ := get_of_lt hkl
      obtain ⟨y, hy⟩ := get_of_lt (l := new.blocks) (k := k) (by omega)
      refine AGo.skip ?_
      refine AGo.seq ?_
      refine AGo.block ?_
      refine AGo.seq ?_
      refine AGo.region ?_
      refine am 37 ?_
      refine aq 38 (q_index_lst tok rfl rfl rfl rfl rfl rfl (Int.natCast_nonneg _) (idx_map hx) rfl) ?_
      refine al 39 tok ?_
      refine ax 6 (o_alloc tok 2 rfl rfl rfl rfl (Nat.zero_lt_succ _) rfl) ?_
      refine aa 5 ?_
      refine AOps.w rfl rfl (o_store tok rfl rfl rfl rfl rfl rfl rfl rfl rfl (by decide) rfl (by first | exact fun _ => rfl | (intro h; cases h))) ?_
      refine AOps.nil ?_
      refine AGo.seq ?_
      refine AGo.region ?_
      refine af 40 tok ?_
      refine al 41 tok ?_
      refine am 42 ?_
      refine aq 43 (q_index_lst tok rfl rfl rfl rfl rfl rfl (Int.natCast_nonneg _) (idx_map hy) rfl) ?_
      refine al 44 tok ?_
      refine ax 7 (o_alloc tok 3 rfl rfl rfl rfl (Nat.zero_lt_succ _) rfl) ?_
      refine AOps.w rfl rfl (o_store tok rfl rfl rfl rfl rfl rfl rfl rfl rfl (by decide) rfl (by first | exact fun _ => rfl | (intro h; cases h))) ?_
      refine AOps.nil ?_
      refine AGo.seq ?_
      refine AGo.region ?_
      refine af 45 tok ?_
      refine al 46 tok ?_
      refine af 47 tok ?_
      refine al 48 tok ?_
      refine aq 49 (q_bin rfl rfl rfl rfl) ?_
      refine am 50 ?_
      refine AOps.split 50 rfl (fun hb6 => ?_) (fun hb6 => ?_)
      ·
       refine ak 51 ?_
       refine ak 52 ?_
       refine ak 53 ?_
       refine ak 54 ?_
       refine ak 55 ?_
       refine aq 56 (q_pick_true true rfl rfl rfl rfl) ?_
       refine am 57 ?_
       refine ak 58 ?_
       refine ak 59 ?_
       refine ak 60 ?_
       refine ak 61 ?_
       refine ak 62 ?_
       refine aq 63 (q_pick_true true rfl rfl rfl rfl) ?_
       refine AOps.nil ?_
       refine AGo.cond_true true rfl rfl ?_
       refine AGo.seq ?_
       refine AGo.region ?_
       refine aa 4 ?_
       refine AOps.nil ?_
       refine AGo.ret ?_
       refine ⟨[_], ⟨rfl, trivial⟩, ?_, rfl⟩
       show AV.bool _ = AV.bool _
       congr 1
       first
       | exact (vshaped_b hx hy (shape_f (by assumption))).symm
       | exact (vshaped_b hx hy (shape_t (by assumption))).symm
       | exact (vshaped_b hx hy (shape_e (by assumption))).symm
      ·
       refine af 51 tok ?_
       refine al 52 tok ?_
       refine af 53 tok ?_
       refine al 54 tok ?_
       refine aq 55 (q_bin rfl rfl rfl rfl) ?_
       refine aq 56 (q_pick_false false rfl rfl rfl rfl) ?_
       refine am 57 ?_
       refine AOps.split 57 rfl (fun hb7 => ?_) (fun hb7 => ?_)
       ·
        refine ak 58 ?_
        refine ak 59 ?_
        refine ak 60 ?_
        refine ak 61 ?_
        refine ak 62 ?_
        refine aq 63 (q_pick_true true rfl rfl rfl rfl) ?_
        refine AOps.nil ?_
        refine AGo.cond_true true rfl rfl ?_
        refine AGo.seq ?_
        refine AGo.region ?_
        refine aa 4 ?_
        refine AOps.nil ?_
        refine AGo.ret ?_
        refine ⟨[_], ⟨rfl, trivial⟩, ?_, rfl⟩
        show AV.bool _ = AV.bool _
        congr 1
        first
        | exact (vshaped_b hx hy (shape_f (by assumption))).symm
        | exact (vshaped_b hx hy (shape_t (by assumption))).symm
        | exact (vshaped_b hx hy (shape_e (by assumption))).symm
       ·
        refine af 58 tok ?_
        refine al 59 tok ?_
        refine af 60 tok ?_
        refine al 61 tok ?_
        refine aq 62 (q_bin rfl rfl rfl rfl) ?_
        refine aq 63 (q_pick_false false rfl rfl rfl rfl) ?_
        refine AOps.nil ?_
        refine AGo.split 63 rfl (fun hb8 => ?_) (fun hb8 => ?_)
        ·
         refine AGo.cond_true true rfl rfl ?_
         refine AGo.seq ?_
         refine AGo.region ?_
         refine aa 4 ?_
         refine AOps.nil ?_
         refine AGo.ret ?_
         refine ⟨[_], ⟨rfl, trivial⟩, ?_, rfl⟩
         show AV.bool _ = AV.bool _
         congr 1
         first
         | exact (vshaped_b hx hy (shape_f (by assumption))).symm
         | exact (vshaped_b hx hy (shape_t (by assumption))).symm
         | exact (vshaped_b hx hy (shape_e (by assumption))).symm
        ·
         refine AGo.cond_false false rfl rfl ?_
         refine AGo.skip ?_
         refine AGo.region ?_
         refine aq 64 (q_inc rfl rfl hkl (show old.blocks.length ≤ maxLen by simp only [maxLen]; omega)) ?_
         refine am 35 ?_
         refine AOps.nil ?_
         exact ⟨k+1, Drop.mk' (by repeat (first | exact EDrop.new _ _ | refine EDrop.put ?_ (by rfl) (by first | rfl | exact slA_avoid _ rfl | exact vaA_avoid _ rfl))) (by repeat (first | exact HDrop.none _ _ | exact HDrop.tail _ _ | refine HDrop.put ?_ (by rfl) rfl (by first | rfl | exact slO_avoid _ _ | exact vaO_avoid _ | exact tab_avoid _ _ rfl rfl | exact wlk_avoid _ _ _ rfl rfl rfl))), ⟨hkl, all_succ (zip_at hx hy) hall (shape_y (by assumption) (by assumption) (by assumption))⟩, by omega⟩
     ·
      refine AGo.cond_false false rfl rfl ?_
      have hge : old.blocks.length ≤ k := by simpa using hb5
      refine AGo.exit ?_
      refine AGo.seq ?_
      refine AGo.region ?_
      refine aa 4 ?_
      refine AOps.nil ?_
      refine AGo.ret ?_
      refine ⟨[_], ⟨rfl, trivial⟩, ?_, rfl⟩
      show AV.bool _ = AV.bool _
      congr 1
      exact (vshaped_yes (bne_eq' (by assumption)) hlen (ndec_same (by assumption)) (ndec_same (by assumption)) (all_end hall (by rw [List.length_zip]; omega))).symm

set_option maxHeartbeats 1000000 in
set_option maxRecDepth 100000 in
theorem vcheck_ok (old new : BFunc) (hno : old.blocks.length ≤ 10000) (hnn : new.blocks.length ≤ 10000) (hio : ∀ x ∈ old.blocks, x.ins.length ≤ 10000 ∧ insW x.ins) (hin : ∀ x ∈ new.blocks, x.ins.length ≤ 10000 ∧ insW x.ins) (c : Cert) : APure Try.prog 14 [.agg old.cells, .agg new.cells, .agg c.cells] (fun r => r = .bool (vcheck old new c)) := by
 refine APure.of_body (n := 66) tok Try.func14 rfl rfl ?_
 refine AGo.seq ?_
 refine AGo.region ?_
 refine ax 3 (o_box (sz := 2) 0 rfl rfl rfl rfl (Nat.zero_lt_succ _) rfl) ?_
 refine ax 4 (o_box (sz := 2) 1 rfl rfl rfl rfl (Nat.zero_lt_succ _) rfl) ?_
 refine ax 5 (o_box (sz := 1) 2 rfl rfl rfl rfl (Nat.zero_lt_succ _) rfl) ?_
 refine aa 6 ?_
 refine AOps.nil ?_
 refine AGo.seq ?_
 refine AGo.seq ?_
 refine AGo.region ?_
 refine al 11 tok ?_
 refine al 12 tok ?_
 refine ax 13 (o_pure rfl Try.func26 (by kernel_rfl) rfl rfl rfl (shaped_ok old new hno hnn hio hin)) ?_
 refine aq 14 (q_not rfl rfl) ?_
 refine am 15 ?_
 refine AOps.split 15 rfl (fun hb1 => ?_) (fun hb1 => ?_)
 ·
  refine ak 16 ?_
  refine ak 17 ?_
  refine ak 18 ?_
  refine ak 19 ?_
  refine ak 20 ?_
  refine ak 21 ?_
  refine ak 22 ?_
  refine aq 23 (q_pick_true true rfl rfl rfl rfl) ?_
  refine AOps.nil ?_
  refine AGo.cond_true true rfl rfl ?_
  refine AGo.seq ?_
  refine AGo.region ?_
  refine aa 6 ?_
  refine AOps.nil ?_
  refine AGo.ret ?_
  refine ⟨[_], ⟨rfl, trivial⟩, ?_, rfl⟩
  show AV.bool _ = AV.bool _
  congr 1
  first
  | exact (vcheck_no1 (ndec_same' (b := vshaped old new) (by assumption))).symm
  | exact (vcheck_no2 (by assumption)).symm
 ·
  refine af 16 tok ?_
  refine al 17 tok ?_
  refine aq 18 (q_len tok rfl rfl rfl rfl rfl) ?_
  refine af 19 tok ?_
  refine al 20 tok ?_
  refine aq 21 (q_len tok rfl rfl rfl rfl rfl) ?_
  refine aq 22 (q_bin rfl rfl rfl rfl) ?_
  refine aq 23 (q_pick_false false rfl rfl rfl rfl) ?_
  refine AOps.nil ?_
  refine AGo.split 23 rfl (fun hb2 => ?_) (fun hb2 => ?_)
  ·
   refine AGo.cond_true true rfl rfl ?_
   refine AGo.seq ?_
   refine AGo.region ?_
   refine aa 6 ?_
   refine AOps.nil ?_
   refine AGo.ret ?_
   refine ⟨[_], ⟨rfl, trivial⟩, ?_, rfl⟩
   show AV.bool _ = AV.bool _
   congr 1
   first
   | exact (vcheck_no1 (ndec_same' (b := vshaped old new) (by assumption))).symm
   | exact (vcheck_no2 (by assumption)).symm
  ·
   refine AGo.cond_false false rfl rfl ?_
   have hsh : vshaped old new = true := ndec_same (by assumption)
   have hcl := cert_len (old := old) (c := c) (by assumption)
   have hV := vshaped_of hsh
   have hSo := stands_of hV.so
   have hSn := stands_of hV.sn
   have hr0 := hSo.r0
   have hr1 := hSo.r1
   have hR : ((old.regs.toNat : Nat) : Int) = old.regs := Int.toNat_of_nonneg hr0
   refine AGo.skip ?_
   refine AGo.seq ?_
   refine AGo.seq ?_
   refine AGo.region ?_
   refine af 24 tok ?_
   refine al 25 tok ?_
   refine aq 26 (q_len tok rfl rfl rfl rfl rfl) ?_
   refine am 27 ?_
   refine AOps.nil ?_
   refine AGo.block ?_
   refine AGo.loopD (γ := Nat) 3 (fun j => ⟨66, (eput (eput (eput (eput (eput (eput eNew 3 (.ptr 0 1 0 0)) 4 (.ptr 1 1 0 0)) 5 (.ptr 2 1 0 0)) 25 (rowsAV c.same)) 26 (.int .i64 (c.same.length : Int))) 27 (.int .i64 (j : Int))), (hput (hput (hput (hFrom 3) 0 (.row false 2 [old.cells])) 1 (.row false 2 [new.cells])) 2 (.row false 1 [c.cells]))⟩) (fun j => j ≤ c.same.length ∧ (c.same.take j).all (fun r => decide ((r.length : Int) = old.regs)) = true) (fun j => c.same.length - j) 0 (Sub.mk' (by repeat (first | exact ESub.new _ | refine ESub.put ?_ (by first | rfl | exact congrArg (fun (n : Nat) => some (AV.int .i64 (n : Int))) (by simp)))) (by repeat (first | exact HSub.refl _ | exact HSub.none _ | exact HSub.from_new _ | exact HSub.from_from (by first | decide | omega | (dsimp only; omega)) | refine HSub.put ?_ (by rfl) | refine HSub.from_put ?_ (by first | decide | omega | (dsimp only; omega)) | refine HSub.from_rm ?_ (by decide)))) ⟨Nat.zero_le _, rfl⟩ (fun _ => hput_free (hput_free (hput_free (fun b hb => hFrom_free hb) rfl) rfl) rfl) ?_
   intro j ⟨hj, hall⟩
   refine AGo.seq ?_
   refine AGo.region ?_
   refine aq 28 (q_bin rfl rfl rfl rfl) ?_
   refine AOps.nil ?_
   refine AGo.seq ?_
   refine AGo.split 28 rfl (fun hb3 => ?_) (fun hb3 => ?_)
   ·
    refine AGo.cond_true true rfl rfl ?_
    have hjl : j < c.same.length := by have h := hb3; simp only [List.length_map, decide_eq_true_eq] at h; omega
    obtain ⟨r, hr⟩ := get_of_lt hjl
    refine AGo.skip ?_
    refine AGo.seq ?_
    refine AGo.block ?_
    refine AGo.seq ?_
    refine AGo.region ?_
    refine aq 29 (q_index_lst tok rfl rfl rfl rfl rfl rfl (Int.natCast_nonneg _) (idx_map hr) rfl) ?_
    refine al 30 tok ?_
    refine aa 8 ?_
    refine AOps.nil ?_
    refine AGo.seq ?_
    refine AGo.region ?_
    refine am 31 ?_
    refine aq 32 (q_len tok rfl rfl rfl rfl rfl) ?_
    refine af 33 tok ?_
    refine al 34 tok ?_
    refine aq 35 (q_bin rfl rfl rfl rfl) ?_
    refine AOps.nil ?_
    refine AGo.split 35 rfl (fun hb4 => ?_) (fun hb4 => ?_)
    ·
     refine AGo.cond_true true rfl rfl ?_
     have hne : ¬ (r.length : Int) = old.regs := by have h := bne_ne' hb4; rw [List.length_map] at h; exact h
     refine AGo.seq ?_
     refine AGo.region ?_
     refine aa 6 ?_
     refine AOps.nil ?_
     refine AGo.ret ?_
     refine ⟨[_], ⟨rfl, trivial⟩, ?_, rfl⟩
     show AV.bool _ = AV.bool _
     congr 1
     exact (vcheck_no3 hr hne).symm
    ·
     refine AGo.cond_false false rfl rfl ?_
     have heq : (r.length : Int) = old.regs := by have h := bne_eq' hb4; rw [List.length_map] at h; exact h
     refine AGo.skip ?_
     refine AGo.region ?_
     refine aq 36 (q_inc rfl rfl hjl (show c.same.length ≤ maxLen by simp only [maxLen]; omega)) ?_
     refine am 27 ?_
     refine AOps.nil ?_
     exact ⟨j+1, Drop.mk' (by repeat (first | exact EDrop.new _ _ | refine EDrop.put ?_ (by rfl) (by first | rfl | exact slA_avoid _ rfl | exact vaA_avoid _ rfl))) (by repeat (first | exact HDrop.none _ _ | exact HDrop.tail _ _ | refine HDrop.put ?_ (by rfl) rfl (by first | rfl | exact slO_avoid _ _ | exact vaO_avoid _ | exact tab_avoid _ _ rfl rfl | exact wlk_avoid _ _ _ rfl rfl rfl))), ⟨hjl, all_succ hr hall (decide_eq_true heq)⟩, by omega⟩
   ·
    refine AGo.cond_false false rfl rfl ?_
    have hjge : c.same.length ≤ j := by have h := hb3; simp only [List.length_map, decide_eq_false_iff_not] at h; omega
    have hall2 := all_end hall hjge
    have hrl : ∀ r ∈ c.same, r.length = old.regs.toNat := fun r hr => by have := List.all_eq_true.1 hall2 r hr; simp only [decide_eq_true_eq] at this; omega
    refine AGo.exit ?_
    refine AGo.seq ?_
    refine AGo.region ?_
    refine al 37 tok ?_
    refine ax 38 (o_pure rfl Try.func27 (by kernel_rfl) rfl rfl rfl (next_ok old (by omega))) ?_
    refine aa 9 ?_
    refine AOps.nil ?_
    refine AGo.seq ?_
    refine AGo.seq ?_
    refine AGo.region ?_
    refine af 39 tok ?_
    refine al 40 tok ?_
    refine aq 41 (q_len tok rfl rfl rfl rfl rfl) ?_
    refine am 42 ?_
    refine AOps.nil ?_
    refine AGo.block ?_
    refine AGo.loopD (γ := Nat) 3 (fun k => ⟨66, (eput (eput (eput (eput (eput (eput eNew 3 (.ptr 0 1 0 0)) 4 (.ptr 1 1 0 0)) 5 (.ptr 2 1 0 0)) 9 (pathsAV old.nexts)) 41 (.int .i64 (old.blocks.length : Int))) 42 (.int .i64 (k : Int))), (hput (hput (hput (hFrom 3) 0 (.row false 2 [old.cells])) 1 (.row false 2 [new.cells])) 2 (.row false 1 [c.cells]))⟩) (fun k => k ≤ old.blocks.length ∧ ((old.blocks.zip new.blocks).zipIdx.take k).all (fun p => vsame old.regs.toNat p.1.1 p.1.2 c (p.2 : Int) p.1.1.nexts) = true) (fun k => old.blocks.length - k) 0 (Sub.mk' (by repeat (first | exact ESub.new _ | refine ESub.put ?_ (by first | rfl | exact congrArg (fun (n : Nat) => some (AV.int .i64 (n : Int))) (by simp)))) (by repeat (first | exact HSub.refl _ | exact HSub.none _ | exact HSub.from_new _ | exact HSub.from_from (by first | decide | omega | (dsimp only; omega)) | refine HSub.put ?_ (by rfl) | refine HSub.from_put ?_ (by first | decide | omega | (dsimp only; omega)) | refine HSub.from_rm ?_ (by decide)))) ⟨Nat.zero_le _, rfl⟩ (fun _ => hput_free (hput_free (hput_free (fun b hb => hFrom_free hb) rfl) rfl) rfl) ?_
    intro k ⟨hk, hallb⟩
    refine AGo.seq ?_
    refine AGo.region ?_
    refine aq 43 (q_bin rfl rfl rfl rfl) ?_
    refine AOps.nil ?_
    refine AGo.seq ?_
    refine AGo.split 43 rfl (fun hb5 => ?_) (fun hb5 => ?_)
    ·
     refine AGo.cond_true true rfl rfl ?_
     have hkl : k < old.blocks.length := by simpa using hb5
     obtain ⟨x, hx⟩ := get_of_lt hkl
     have hxm := List.mem_of_getElem? hx
     obtain ⟨y, hy⟩ := get_of_lt (l := new.blocks) (k := k) (by have := hV.len; omega)
     have hym := List.mem_of_getElem? hy
     have hsb := hV.b k x y hx hy
     have hnx : ∀ q ∈ x.nexts, 0 ≤ q ∧ q < c.same.length := fun q hq => by rw [hcl]; exact hSo.next x hxm q hq
     have hvv : x.fin = 2 → (0 ≤ x.v ∧ x.v < (old.regs.toNat : Int)) ∧ (0 ≤ y.v ∧ y.v < (old.regs.toNat : Int)) := fun hf => by rw [hR]; refine ⟨hSo.v x hxm hf, ?_⟩; rw [hV.regs]; exact hSn.v y hym (by rw [← hsb.1]; exact hf)
     have hto : ∀ t ∈ x.ins, TacV t old.regs.toNat := fun t ht => hSo.tacs x hxm t ht ((hio x hxm).2 t ht)
     have htn : ∀ t ∈ y.ins, TacV t old.regs.toNat := fun t ht => by rw [hV.regs]; exact hSn.tacs y hym t ht ((hin y hym).2 t ht)
     have hnl : x.nexts.length ≤ 100000 := nexts_short x
     refine AGo.skip ?_
     refine AGo.seq ?_
     refine AGo.block ?_
     refine AGo.seq ?_
     refine AGo.region ?_
     refine am 44 ?_
     refine aa 10 ?_
     refine AOps.nil ?_
     refine AGo.seq ?_
     refine AGo.draw mix ?_
     refine df 45 tok ?_
     refine dl 46 tok ?_
     refine dm 47 ?_
     refine dq 48 (q_index_lst tok rfl rfl rfl rfl rfl rfl (Int.natCast_nonneg _) (idx_map hx) rfl) ?_
     refine dl 49 tok ?_
     refine df 50 tok ?_
     refine dl 51 tok ?_
     refine dm 52 ?_
     refine dq 53 (q_index_lst tok rfl rfl rfl rfl rfl rfl (Int.natCast_nonneg _) (idx_map hy) rfl) ?_
     refine dl 54 tok ?_
     refine df 55 tok ?_
     refine dl 56 tok ?_
     refine dl 57 tok ?_
     refine dm 58 ?_
     refine dm 59 ?_
     refine dm 60 ?_
     refine dq 61 (q_index_lst tok rfl rfl rfl rfl rfl rfl (Int.natCast_nonneg _) (idx_map (nexts_get hx)) rfl) ?_
     refine dl 62 tok ?_
     refine dx 63 (o_pure rfl Try.func28 (by kernel_rfl) rfl rfl rfl ((by have h := vsame_ok x y old.regs.toNat c (k : Int) x.nexts (by omega) hrl (by omega) hnx hvv hto htn (hio x (List.mem_of_getElem? hx)).1 (hin y (List.mem_of_getElem? hy)).1 hnl; rw [hR] at h; exact h))) ?_
     refine dq 64 (q_not rfl rfl) ?_
     refine DOps.nil (by kernel_rfl) ?_
     refine AGo.split 64 rfl (fun hb6 => ?_) (fun hb6 => ?_)
     ·
      refine AGo.cond_true true rfl rfl ?_
      have hbad := ndec_same' hb6
      refine AGo.seq ?_
      refine AGo.region ?_
      refine aa 6 ?_
      refine AOps.nil ?_
      refine AGo.ret ?_
      refine ⟨[_], ⟨rfl, trivial⟩, ?_, rfl⟩
      show AV.bool _ = AV.bool _
      congr 1
      exact (vcheck_no4 hx hy hbad).symm
     ·
      refine AGo.cond_false false rfl rfl ?_
      have hgood := ndec_same hb6
      refine AGo.skip ?_
      refine AGo.region ?_
      refine aq 65 (q_inc rfl rfl hkl (show old.blocks.length ≤ maxLen by simp only [maxLen]; omega)) ?_
      refine am 42 ?_
      refine AOps.nil ?_
      exact ⟨k+1, Drop.mk' (by repeat (first | exact EDrop.new _ _ | refine EDrop.put ?_ (by rfl) (by first | rfl | exact slA_avoid _ rfl | exact vaA_avoid _ rfl))) (by repeat (first | exact HDrop.none _ _ | exact HDrop.tail _ _ | refine HDrop.put ?_ (by rfl) rfl (by first | rfl | exact slO_avoid _ _ | exact vaO_avoid _ | exact tab_avoid _ _ rfl rfl | exact wlk_avoid _ _ _ rfl rfl rfl))), ⟨hkl, all_succ (zipIdx_get (zip_at hx hy)) hallb hgood⟩, by omega⟩
    ·
     refine AGo.cond_false false rfl rfl ?_
     have hge : old.blocks.length ≤ k := by simpa using hb5
     refine AGo.exit ?_
     refine AGo.seq ?_
     refine AGo.region ?_
     refine aa 6 ?_
     refine AOps.nil ?_
     refine AGo.ret ?_
     refine ⟨[_], ⟨rfl, trivial⟩, ?_, rfl⟩
     show AV.bool _ = AV.bool _
     congr 1
     exact (vcheck_yes hsh hcl hall2 (all_end hallb (by rw [List.length_zipIdx, List.length_zip]; omega))).symm

end Go.Proofs.Ytpijoieooikfgaa.Sv

namespace Go.Proofs.Ytpijoieooikfgaa.Sv
open Go

set_option maxRecDepth 100000 in
theorem awake34_ok  : APure Try.prog 13 [] (fun r => r = .bool true) := by
 refine APure.of_body (n := 80) tok Try.func13 rfl rfl ?_
 refine AGo.seq ?_
 refine AGo.region ?_
 refine aa 0 ?_
 refine AOps.nil ?_
 refine AGo.seq ?_
 refine AGo.region ?_
 refine aq 7 (q_build tok rfl rfl rfl rfl rfl (by decide) rfl rfl rfl) ?_
 refine aq 8 (q_build tok rfl rfl rfl rfl rfl (by decide) rfl rfl rfl) ?_
 refine ax 9 (o_lit' tok rfl rfl rfl rfl rfl rfl (by decide) rfl rfl rfl rfl rfl rfl) ?_
 refine ax 10 (o_pure rfl Try.func24 (by kernel_rfl) rfl rfl rfl (one34_ok [tA, tB])) ?_
 refine ax 1 (o_alloc tok 0 rfl rfl rfl rfl (Nat.zero_lt_succ _) rfl) ?_
 refine AOps.w rfl rfl (o_store tok rfl rfl rfl rfl rfl rfl rfl rfl rfl (by decide) rfl (by first | exact fun _ => rfl | (intro h; cases h))) ?_
 refine AOps.nil ?_
 refine AGo.seq ?_
 refine AGo.region ?_
 refine aq 11 (q_build tok rfl rfl rfl rfl rfl (by decide) rfl rfl rfl) ?_
 refine aq 12 (q_build tok rfl rfl rfl rfl rfl (by decide) rfl rfl rfl) ?_
 refine aq 13 (q_build tok rfl rfl rfl rfl rfl (by decide) rfl rfl rfl) ?_
 refine ax 14 (o_lit' tok rfl rfl rfl rfl rfl rfl (by decide) rfl rfl rfl rfl rfl rfl) ?_
 refine ax 15 (o_pure rfl Try.func24 (by kernel_rfl) rfl rfl rfl (one34_ok [tC, tA, tB])) ?_
 refine ax 2 (o_alloc tok 1 rfl rfl rfl rfl (Nat.zero_lt_succ _) rfl) ?_
 refine AOps.w rfl rfl (o_store tok rfl rfl rfl rfl rfl rfl rfl rfl rfl (by decide) rfl (by first | exact fun _ => rfl | (intro h; cases h))) ?_
 refine AOps.nil ?_
 refine AGo.seq ?_
 refine AGo.region ?_
 refine aq 16 (q_build tok rfl rfl rfl rfl rfl (by decide) rfl rfl rfl) ?_
 refine aq 17 (q_build tok rfl rfl rfl rfl rfl (by decide) rfl rfl rfl) ?_
 refine aq 18 (q_build tok rfl rfl rfl rfl rfl (by decide) rfl rfl rfl) ?_
 refine ax 19 (o_lit' tok rfl rfl rfl rfl rfl rfl (by decide) rfl rfl rfl rfl rfl rfl) ?_
 refine ax 20 (o_pure rfl Try.func24 (by kernel_rfl) rfl rfl rfl (one34_ok [tD, tE, tF])) ?_
 refine ax 3 (o_alloc tok 2 rfl rfl rfl rfl (Nat.zero_lt_succ _) rfl) ?_
 refine AOps.w rfl rfl (o_store tok rfl rfl rfl rfl rfl rfl rfl rfl rfl (by decide) rfl (by first | exact fun _ => rfl | (intro h; cases h))) ?_
 refine AOps.nil ?_
 refine AGo.seq ?_
 refine AGo.region ?_
 refine aq 21 (q_build tok rfl rfl rfl rfl rfl (by decide) rfl rfl rfl) ?_
 refine ax 22 (o_lit' tok rfl rfl rfl rfl rfl rfl (by decide) rfl rfl rfl rfl rfl rfl) ?_
 refine ax 23 (o_pure rfl Try.func24 (by kernel_rfl) rfl rfl rfl (one34_ok [tG])) ?_
 refine ax 4 (o_alloc tok 3 rfl rfl rfl rfl (Nat.zero_lt_succ _) rfl) ?_
 refine AOps.w rfl rfl (o_store tok rfl rfl rfl rfl rfl rfl rfl rfl rfl (by decide) rfl (by first | exact fun _ => rfl | (intro h; cases h))) ?_
 refine AOps.nil ?_
 refine AGo.seq ?_
 refine AGo.region ?_
 refine aq 24 (q_build tok rfl rfl rfl rfl rfl (by decide) rfl rfl rfl) ?_
 refine ax 25 (o_lit' tok rfl rfl rfl rfl rfl rfl (by decide) rfl rfl rfl rfl rfl rfl) ?_
 refine ax 26 (o_pure rfl Try.func24 (by kernel_rfl) rfl rfl rfl (one34_ok [tH])) ?_
 refine ax 5 (o_alloc tok 4 rfl rfl rfl rfl (Nat.zero_lt_succ _) rfl) ?_
 refine AOps.w rfl rfl (o_store tok rfl rfl rfl rfl rfl rfl rfl rfl rfl (by decide) rfl (by first | exact fun _ => rfl | (intro h; cases h))) ?_
 refine AOps.nil ?_
 refine AGo.seq ?_
 refine AGo.region ?_
 refine ax 27 (o_pure rfl Try.func24 (by kernel_rfl) rfl rfl rfl (one34n_ok)) ?_
 refine ax 6 (o_alloc tok 5 rfl rfl rfl rfl (Nat.zero_lt_succ _) rfl) ?_
 refine AOps.w rfl rfl (o_store tok rfl rfl rfl rfl rfl rfl rfl rfl rfl (by decide) rfl (by first | exact fun _ => rfl | (intro h; cases h))) ?_
 refine AOps.nil ?_
 refine AGo.seq ?_
 refine AGo.draw mix ?_
 refine dl 28 tok ?_
 refine dl 29 tok ?_
 refine dx 30 (o_pure rfl Try.func25 (by kernel_rfl) rfl rfl rfl (none34_ok)) ?_
 refine dx 31 (o_pure rfl Try.func14 (by kernel_rfl) rfl rfl rfl ((by have h := vcheck_ok (oneF [tA, tB]) (oneF [tC, tA, tB]) (by decide) (by decide) (one_ins [tA, tB] (by decide) (by decide)) (one_ins [tC, tA, tB] (by decide) (by decide)) noneC; rw [aw1] at h; exact h))) ?_
 refine dm 32 ?_
 refine dl 33 tok ?_
 refine dl 34 tok ?_
 refine dx 35 (o_pure rfl Try.func25 (by kernel_rfl) rfl rfl rfl (none34_ok)) ?_
 refine dx 36 (o_pure rfl Try.func14 (by kernel_rfl) rfl rfl rfl ((by have h := vcheck_ok (oneF [tA, tB]) (oneF [tD, tE, tF]) (by decide) (by decide) (one_ins [tA, tB] (by decide) (by decide)) (one_ins [tD, tE, tF] (by decide) (by decide)) noneC; rw [aw2] at h; exact h))) ?_
 refine dq 37 (q_pick_true true rfl rfl rfl rfl) ?_
 refine dm 38 ?_
 refine dl 39 tok ?_
 refine dl 40 tok ?_
 refine dx 41 (o_pure rfl Try.func25 (by kernel_rfl) rfl rfl rfl (none34_ok)) ?_
 refine dx 42 (o_pure rfl Try.func14 (by kernel_rfl) rfl rfl rfl ((by have h := vcheck_ok (oneF [tG]) (oneF []) (by decide) (by decide) (one_ins [tG] (by decide) (by decide)) (one_ins [] (by decide) (by decide)) noneC; rw [aw3] at h; exact h))) ?_
 refine dq 43 (q_not rfl rfl) ?_
 refine dq 44 (q_pick_true true rfl rfl rfl rfl) ?_
 refine dm 45 ?_
 refine dl 46 tok ?_
 refine dl 47 tok ?_
 refine dx 48 (o_pure rfl Try.func25 (by kernel_rfl) rfl rfl rfl (none34_ok)) ?_
 refine dx 49 (o_pure rfl Try.func14 (by kernel_rfl) rfl rfl rfl ((by have h := vcheck_ok (oneF []) (oneF [tG]) (by decide) (by decide) (one_ins [] (by decide) (by decide)) (one_ins [tG] (by decide) (by decide)) noneC; rw [aw4] at h; exact h))) ?_
 refine dq 50 (q_not rfl rfl) ?_
 refine dq 51 (q_pick_true true rfl rfl rfl rfl) ?_
 refine dm 52 ?_
 refine dl 53 tok ?_
 refine dl 54 tok ?_
 refine dx 55 (o_pure rfl Try.func25 (by kernel_rfl) rfl rfl rfl (none34_ok)) ?_
 refine dx 56 (o_pure rfl Try.func14 (by kernel_rfl) rfl rfl rfl ((by have h := vcheck_ok (oneF [tH]) (oneF []) (by decide) (by decide) (one_ins [tH] (by decide) (by decide)) (one_ins [] (by decide) (by decide)) noneC; rw [aw5] at h; exact h))) ?_
 refine dq 57 (q_not rfl rfl) ?_
 refine dq 58 (q_pick_true true rfl rfl rfl rfl) ?_
 refine dm 59 ?_
 refine dl 60 tok ?_
 refine dl 61 tok ?_
 refine dx 62 (o_pure rfl Try.func25 (by kernel_rfl) rfl rfl rfl (none34_ok)) ?_
 refine dx 63 (o_pure rfl Try.func14 (by kernel_rfl) rfl rfl rfl ((by have h := vcheck_ok (oneF [tA, tB]) (oneF []) (by decide) (by decide) (one_ins [tA, tB] (by decide) (by decide)) (one_ins [] (by decide) (by decide)) noneC; rw [aw6] at h; exact h))) ?_
 refine dq 64 (q_not rfl rfl) ?_
 refine dq 65 (q_pick_true true rfl rfl rfl rfl) ?_
 refine dm 66 ?_
 refine dl 67 tok ?_
 refine dl 68 tok ?_
 refine dl 69 tok ?_
 refine dx 70 (o_pure rfl Try.func17 (by kernel_rfl) rfl rfl rfl (vweak_ok (oneF [tG]) (by decide) (by decide))) ?_
 refine dx 71 (o_pure rfl Try.func14 (by kernel_rfl) rfl rfl rfl ((by have h := vcheck_ok (oneF [tG]) (oneF [tG]) (by decide) (by decide) (one_ins [tG] (by decide) (by decide)) (one_ins [tG] (by decide) (by decide)) (vweak (oneF [tG])); rw [aw7] at h; exact h))) ?_
 refine dq 72 (q_pick_true true rfl rfl rfl rfl) ?_
 refine dm 73 ?_
 refine dl 74 tok ?_
 refine dl 75 tok ?_
 refine dq 76 (q_build tok rfl rfl rfl rfl rfl (by decide) rfl rfl rfl) ?_
 refine dx 77 (o_pure rfl Try.func14 (by kernel_rfl) rfl rfl rfl ((by have h := vcheck_ok (oneF [tA, tB]) (oneF [tA, tB]) (by decide) (by decide) (one_ins [tA, tB] (by decide) (by decide)) (one_ins [tA, tB] (by decide) (by decide)) ⟨[]⟩; rw [aw8] at h; exact h.weak nil_cert))) ?_
 refine dq 78 (q_not rfl rfl) ?_
 refine dq 79 (q_pick_true true rfl rfl rfl rfl) ?_
 refine da 0 ?_
 refine DOps.nil (by kernel_rfl) ?_
 refine AGo.ret ?_
 refine ⟨[_], ⟨rfl, trivial⟩, ?_, rfl⟩
 rfl

end Go.Proofs.Ytpijoieooikfgaa.Sv

namespace Go.Proofs.Ytpijoieooikfgaa.Sv
open Go

end Go.Proofs.Ytpijoieooikfgaa.Sv

namespace Go.Proofs.Ytpijoieooikfgaa.Sv
open Go

set_option maxRecDepth 100000 in
theorem few34_ok (f : BFunc) (nb ni : Int) (hb : 0 ≤ ni ∧ ni ≤ 1000) (hn : f.blocks.length ≤ big) (hi : ∀ x ∈ f.blocks, x.ins.length ≤ big) : APure Try.prog 11 [.agg f.cells, .int .i64 nb, .int .i64 ni] (fun r => r = .bool (few34 f nb ni)) := by
 refine APure.of_body (n := 36) tok Try.func11 rfl rfl ?_
 refine AGo.seq ?_
 refine AGo.region ?_
 refine ax 3 (o_box (sz := 2) 0 rfl rfl rfl rfl (Nat.zero_lt_succ _) rfl) ?_
 refine aa 6 ?_
 refine AOps.nil ?_
 refine AGo.seq ?_
 refine AGo.seq ?_
 refine AGo.region ?_
 refine af 8 tok ?_
 refine al 9 tok ?_
 refine aq 10 (q_len tok rfl rfl rfl rfl rfl) ?_
 refine am 11 ?_
 refine aq 12 (q_bin rfl rfl rfl rfl) ?_
 refine am 13 ?_
 refine AOps.split 13 rfl (fun hb1 => ?_) (fun hb1 => ?_)
 ·
  refine ak 14 ?_
  refine ak 15 ?_
  refine ak 16 ?_
  refine aq 17 (q_pick_true true rfl rfl rfl rfl) ?_
  refine AOps.nil ?_
  refine AGo.cond_true true rfl rfl ?_
  refine AGo.seq ?_
  refine AGo.region ?_
  refine aa 6 ?_
  refine AOps.nil ?_
  refine AGo.ret ?_
  refine ⟨[_], ⟨rfl, trivial⟩, ?_, rfl⟩
  show AV.bool _ = AV.bool _
  congr 1
  simp_all [few34]; try omega
 ·
  refine af 14 tok ?_
  refine al 15 tok ?_
  refine aq 16 (q_bin rfl rfl rfl rfl) ?_
  refine aq 17 (q_pick_false false rfl rfl rfl rfl) ?_
  refine AOps.nil ?_
  refine AGo.split 17 rfl (fun hb2 => ?_) (fun hb2 => ?_)
  ·
   refine AGo.cond_true true rfl rfl ?_
   refine AGo.seq ?_
   refine AGo.region ?_
   refine aa 6 ?_
   refine AOps.nil ?_
   refine AGo.ret ?_
   refine ⟨[_], ⟨rfl, trivial⟩, ?_, rfl⟩
   show AV.bool _ = AV.bool _
   congr 1
   simp_all [few34]; try omega
  ·
   refine AGo.cond_false false rfl rfl ?_
   have hg1 : (f.blocks.length : Int) ≤ nb := by have h := hb1; simp only [List.length_map, decide_eq_false_iff_not] at h; omega
   have hg2 : f.regs ≤ 40 := by have h := hb2; simp only [decide_eq_false_iff_not] at h; omega
   refine AGo.skip ?_
   refine AGo.seq ?_
   refine AGo.seq ?_
   refine AGo.region ?_
   refine aa 7 ?_
   refine AOps.nil ?_
   refine AGo.block ?_
   refine AGo.loopD (γ := Nat) 1 (fun k => ⟨36, (eput (eput (eput (eput eNew 1 (.int .i64 nb)) 2 (.int .i64 (ni - (insSum' (f.blocks.take k) : Int)))) 3 (.ptr 0 1 0 0)) 7 (.int .i64 (k : Int))), (hput (hFrom 1) 0 (.row false 2 [f.cells]))⟩) (fun k => k ≤ f.blocks.length ∧ (k ≠ 0 → (insSum' (f.blocks.take k) : Int) ≤ ni)) (fun k => f.blocks.length - k) 0 (Sub.mk' (by repeat (first | exact ESub.new _ | refine ESub.put ?_ (by first | rfl | exact congrArg (fun n : Int => some (AV.int .i64 n)) (by simp [insSum'])))) (by repeat (first | exact HSub.refl _ | exact HSub.none _ | exact HSub.from_new _ | exact HSub.from_from (by first | decide | omega | (dsimp only; omega)) | refine HSub.put ?_ (by rfl) | refine HSub.from_put ?_ (by first | decide | omega | (dsimp only; omega)) | refine HSub.from_rm ?_ (by decide)))) ⟨Nat.zero_le _, fun h => absurd rfl h⟩ (fun _ => hput_free (fun b hb => hFrom_free hb) rfl) ?_
   intro k ⟨hk, hF⟩
   refine AGo.seq ?_
   refine AGo.seq ?_
   refine AGo.region ?_
   refine am 18 ?_
   refine af 19 tok ?_
   refine al 20 tok ?_
   refine aq 21 (q_len tok rfl rfl rfl rfl rfl) ?_
   refine aq 22 (q_bin rfl rfl rfl rfl) ?_
   refine AOps.nil ?_
   refine AGo.split 22 rfl (fun hb3 => ?_) (fun hb3 => ?_)
   ·
    refine AGo.cond_true true rfl rfl ?_
    have hkl : k < f.blocks.length := by simpa using hb3
    obtain ⟨x, hx⟩ := get_of_lt hkl
    have hxb := hi x (List.mem_of_getElem? hx)
    have hsx := insSum_succ' hx
    simp only [big] at hxb hn
    have hsum : (insSum' (f.blocks.take k) : Int) ≤ ni := by by_cases h0 : k = 0; { subst h0; simp [insSum']; omega }; exact hF h0
    refine AGo.skip ?_
    refine AGo.seq ?_
    refine AGo.block ?_
    refine AGo.seq ?_
    refine AGo.region ?_
    refine am 25 ?_
    refine af 26 tok ?_
    refine al 27 tok ?_
    refine am 28 ?_
    refine aq 29 (q_index_lst tok rfl rfl rfl rfl rfl rfl (Int.natCast_nonneg _) (idx_map hx) rfl) ?_
    refine af 30 tok ?_
    refine al 31 tok ?_
    refine aq 32 (q_len tok rfl rfl rfl rfl rfl) ?_
    refine aq 33 (q_bin (r := .int .i64 (ni - (insSum' (f.blocks.take (k + 1)) : Int))) rfl rfl rfl (subZ (by rw [List.length_map]; omega) (by rw [List.length_map]; omega) (by rw [List.length_map]; omega))) ?_
    refine aa 2 ?_
    refine AOps.nil ?_
    refine AGo.seq ?_
    refine AGo.region ?_
    refine am 34 ?_
    refine aq 35 (q_bin rfl rfl rfl rfl) ?_
    refine AOps.nil ?_
    refine AGo.split 35 rfl (fun hb4 => ?_) (fun hb4 => ?_)
    ·
     refine AGo.cond_true true rfl rfl ?_
     have hover : ¬ (insSum' f.blocks : Int) ≤ ni := by have h := hb4; simp only [decide_eq_true_eq] at h; have h2 := insSum_all f.blocks (k + 1); omega
     refine AGo.seq ?_
     refine AGo.region ?_
     refine aa 6 ?_
     refine AOps.nil ?_
     refine AGo.ret ?_
     refine ⟨[_], ⟨rfl, trivial⟩, ?_, rfl⟩
     show AV.bool _ = AV.bool _
     congr 1
     simp [few34, hover]
    ·
     refine AGo.cond_false false rfl rfl ?_
     have hin : (insSum' (f.blocks.take (k + 1)) : Int) ≤ ni := by have h := hb4; simp only [decide_eq_false_iff_not] at h; omega
     refine AGo.skip ?_
     refine AGo.region ?_
     refine am 23 ?_
     refine aq 24 (q_inc rfl rfl hkl (show f.blocks.length ≤ maxLen by simp only [maxLen]; (try simp only [big] at hn); omega)) ?_
     refine aa 7 ?_
     refine AOps.nil ?_
     exact ⟨k+1, Drop.mk' (by repeat (first | exact EDrop.new _ _ | refine EDrop.put ?_ (by first | rfl | exact congrArg (fun n : Int => some (AV.int .i64 n)) (by omega)) (by first | rfl | exact slA_avoid _ rfl | exact vaA_avoid _ rfl))) (by repeat (first | exact HDrop.none _ _ | exact HDrop.tail _ _ | refine HDrop.put ?_ (by rfl) rfl (by first | rfl | exact slO_avoid _ _ | exact vaO_avoid _ | exact tab_avoid _ _ rfl rfl | exact wlk_avoid _ _ _ rfl rfl rfl))), ⟨hkl, fun _ => by omega⟩, by omega⟩
   ·
    refine AGo.cond_false false rfl rfl ?_
    have hge : f.blocks.length ≤ k := by simpa using hb3
    have hsum : (insSum' f.blocks : Int) ≤ ni := by by_cases h0 : k = 0; { subst h0; have : f.blocks = [] := List.eq_nil_of_length_eq_zero (by omega); rw [this]; simp [insSum']; omega }; { have h := hF h0; rwa [List.take_of_length_le hge] at h }
    refine AGo.exit ?_
    refine AGo.seq ?_
    refine AGo.region ?_
    refine aa 6 ?_
    refine AOps.nil ?_
    refine AGo.ret ?_
    refine ⟨[_], ⟨rfl, trivial⟩, ?_, rfl⟩
    show AV.bool _ = AV.bool _
    congr 1
    simp [few34, hg1, hg2, hsum]

set_option maxRecDepth 100000 in
theorem great_ok (c : Cert) (hn : c.same.length ≤ big) : APure Try.prog 12 [.agg c.cells] (fun r => r = .bool (great34 c)) := by
 refine APure.of_body (n := 26) tok Try.func12 rfl rfl ?_
 refine AGo.seq ?_
 refine AGo.region ?_
 refine ax 1 (o_box (sz := 1) 0 rfl rfl rfl rfl (Nat.zero_lt_succ _) rfl) ?_
 refine aa 2 ?_
 refine AOps.nil ?_
 refine AGo.seq ?_
 refine AGo.seq ?_
 refine AGo.region ?_
 refine aa 3 ?_
 refine AOps.nil ?_
 refine AGo.block ?_
 refine AGo.loopD (γ := Nat) 1 (fun k => ⟨26, (eput (eput eNew 1 (.ptr 0 1 0 0)) 3 (.int .i64 (k : Int))), (hput (hFrom 1) 0 (.row false 1 [c.cells]))⟩) (fun k => k ≤ c.same.length ∧ k ≤ 21 ∧ (c.same.take k).any (fun r => decide (60 < r.length)) = false) (fun k => c.same.length - k) 0 (Sub.mk' (by repeat (first | exact ESub.new _ | refine ESub.put ?_ (by first | rfl | exact congrArg (fun (n : Nat) => some (AV.int .i64 (n : Int))) (by simp)))) (by repeat (first | exact HSub.refl _ | exact HSub.none _ | exact HSub.from_new _ | exact HSub.from_from (by first | decide | omega | (dsimp only; omega)) | refine HSub.put ?_ (by rfl) | refine HSub.from_put ?_ (by first | decide | omega | (dsimp only; omega)) | refine HSub.from_rm ?_ (by decide)))) ⟨Nat.zero_le _, Nat.zero_le _, rfl⟩ (fun _ => hput_free (fun b hb => hFrom_free hb) rfl) ?_
 intro k ⟨hk, hk21, hF⟩
 refine AGo.seq ?_
 refine AGo.seq ?_
 refine AGo.region ?_
 refine am 4 ?_
 refine af 5 tok ?_
 refine al 6 tok ?_
 refine aq 7 (q_len tok rfl rfl rfl rfl rfl) ?_
 refine aq 8 (q_bin rfl rfl rfl rfl) ?_
 refine am 9 ?_
 refine AOps.split 9 rfl (fun hb1 => ?_) (fun hb1 => ?_)
 ·
  have hkl : k < c.same.length := by have h := hb1; simp only [List.length_map, decide_eq_true_eq] at h; omega
  refine am 10 ?_
  refine aq 11 (q_bin rfl rfl rfl rfl) ?_
  refine aq 12 (q_pick_true true rfl rfl rfl rfl) ?_
  refine AOps.nil ?_
  refine AGo.split 12 rfl (fun hb2 => ?_) (fun hb2 => ?_)
  ·
   refine AGo.cond_true true rfl rfl ?_
   have hk20 : (k : Int) ≤ 20 := by have h := hb2; simpa using h
   obtain ⟨r, hr⟩ := get_of_lt hkl
   refine AGo.skip ?_
   refine AGo.seq ?_
   refine AGo.block ?_
   refine AGo.seq ?_
   refine AGo.region ?_
   refine af 15 tok ?_
   refine al 16 tok ?_
   refine am 17 ?_
   refine aq 18 (q_index_lst tok rfl rfl rfl rfl rfl rfl (Int.natCast_nonneg _) (idx_map hr) rfl) ?_
   refine al 19 tok ?_
   refine aq 20 (q_len tok rfl rfl rfl rfl rfl) ?_
   refine aq 21 (q_bin rfl rfl rfl rfl) ?_
   refine AOps.nil ?_
   refine AGo.split 21 rfl (fun hb3 => ?_) (fun hb3 => ?_)
   ·
    refine AGo.cond_true true rfl rfl ?_
    have hbad : (60 : Int) < r.length := by have h := hb3; simp only [List.length_map, decide_eq_true_eq] at h; omega
    refine AGo.seq ?_
    refine AGo.region ?_
    refine aa 2 ?_
    refine AOps.nil ?_
    refine AGo.ret ?_
    refine ⟨[_], ⟨rfl, trivial⟩, ?_, rfl⟩
    show AV.bool _ = AV.bool _
    congr 1
    exact (great_yes hr (by omega) (by omega)).symm
   ·
    refine AGo.cond_false false rfl rfl ?_
    have hgood : ¬ (60 : Int) < r.length := by have h := hb3; simp only [List.length_map, decide_eq_false_iff_not] at h; omega
    refine AGo.skip ?_
    refine AGo.region ?_
    refine am 13 ?_
    refine aq 14 (q_inc rfl rfl hkl (show c.same.length ≤ maxLen by simp only [maxLen]; (try simp only [big] at hn); omega)) ?_
    refine aa 3 ?_
    refine AOps.nil ?_
    exact ⟨k+1, Drop.mk' (by repeat (first | exact EDrop.new _ _ | refine EDrop.put ?_ (by rfl) (by first | rfl | exact slA_avoid _ rfl | exact vaA_avoid _ rfl))) (by repeat (first | exact HDrop.none _ _ | exact HDrop.tail _ _ | refine HDrop.put ?_ (by rfl) rfl (by first | rfl | exact slO_avoid _ _ | exact vaO_avoid _ | exact tab_avoid _ _ rfl rfl | exact wlk_avoid _ _ _ rfl rfl rfl))), ⟨hkl, by omega, by rw [take_succ_eq hr, List.any_append, hF]; simp; omega⟩, by omega⟩
  ·
   refine AGo.cond_false false rfl rfl ?_
   have hend := hb2
   refine AGo.exit ?_
   refine AGo.seq ?_
   refine AGo.region ?_
   refine af 22 tok ?_
   refine al 23 tok ?_
   refine aq 24 (q_len tok rfl rfl rfl rfl rfl) ?_
   refine aq 25 (q_bin rfl rfl rfl rfl) ?_
   refine aa 2 ?_
   refine AOps.nil ?_
   refine AGo.ret ?_
   refine ⟨[_], ⟨rfl, trivial⟩, ?_, rfl⟩
   show AV.bool _ = AV.bool _
   congr 1
   exact (great_end hF hk hk21 (by first | (simp only [List.length_map, decide_eq_false_iff_not] at hend; omega) | (simp only [decide_eq_false_iff_not] at hend; omega))).symm
 ·
  refine ak 10 ?_
  refine ak 11 ?_
  refine aq 12 (q_pick_false false rfl rfl rfl rfl) ?_
  refine AOps.nil ?_
  refine AGo.cond_false false rfl rfl ?_
  have hend := hb1
  refine AGo.exit ?_
  refine AGo.seq ?_
  refine AGo.region ?_
  refine af 22 tok ?_
  refine al 23 tok ?_
  refine aq 24 (q_len tok rfl rfl rfl rfl rfl) ?_
  refine aq 25 (q_bin rfl rfl rfl rfl) ?_
  refine aa 2 ?_
  refine AOps.nil ?_
  refine AGo.ret ?_
  refine ⟨[_], ⟨rfl, trivial⟩, ?_, rfl⟩
  show AV.bool _ = AV.bool _
  congr 1
  exact (great_end hF hk hk21 (by first | (simp only [List.length_map, decide_eq_false_iff_not] at hend; omega) | (simp only [decide_eq_false_iff_not] at hend; omega))).symm

end Go.Proofs.Ytpijoieooikfgaa.Sv

namespace Go.Proofs.Ytpijoieooikfgaa.Sv
open Go

end Go.Proofs.Ytpijoieooikfgaa.Sv

namespace Go.Proofs.Ytpijoieooikfgaa.Sv
open Go

end Go.Proofs.Ytpijoieooikfgaa.Sv

namespace Go.Proofs.Ytpijoieooikfgaa.Sv
open Go

end Go.Proofs.Ytpijoieooikfgaa.Sv

namespace Go.Proofs.Ytpijoieooikfgaa.Sv
open Go

end Go.Proofs.Ytpijoieooikfgaa.Sv

namespace Go.Proofs.Ytpijoieooikfgaa.Sv
open Go

end Go.Proofs.Ytpijoieooikfgaa.Sv

namespace Go.Proofs.Ytpijoieooikfgaa.Sv
open Go

end Go.Proofs.Ytpijoieooikfgaa.Sv

namespace Go.Proofs.Ytpijoieooikfgaa.Sv
open Go

end Go.Proofs.Ytpijoieooikfgaa.Sv

namespace Go.Proofs.Ytpijoieooikfgaa.Sv
open Go

end Go.Proofs.Ytpijoieooikfgaa.Sv

namespace Go.Proofs.Ytpijoieooikfgaa.Sv
open Go

set_option maxRecDepth 100000 in
theorem rsized_ok (f : BFunc) (c : Cert) (hcl : c.same.length ≤ 100000) : APure Try.prog 18 [.agg f.cells, .agg c.cells] (fun r => r = .bool (rsized f c)) := by
 refine APure.of_body (n := 29) tok Try.func18 rfl rfl ?_
 refine AGo.seq ?_
 refine AGo.region ?_
 refine ax 2 (o_box (sz := 2) 0 rfl rfl rfl rfl (Nat.zero_lt_succ _) rfl) ?_
 refine ax 3 (o_box (sz := 1) 1 rfl rfl rfl rfl (Nat.zero_lt_succ _) rfl) ?_
 refine aa 4 ?_
 refine AOps.nil ?_
 refine AGo.seq ?_
 refine AGo.seq ?_
 refine AGo.region ?_
 refine af 6 tok ?_
 refine al 7 tok ?_
 refine aq 8 (q_len tok rfl rfl rfl rfl rfl) ?_
 refine af 9 tok ?_
 refine al 10 tok ?_
 refine aq 11 (q_len tok rfl rfl rfl rfl rfl) ?_
 refine aq 12 (q_bin rfl rfl rfl rfl) ?_
 refine AOps.nil ?_
 refine AGo.split 12 rfl (fun hb1 => ?_) (fun hb1 => ?_)
 ·
  refine AGo.cond_true true rfl rfl ?_
  have hne := hb1
  refine AGo.seq ?_
  refine AGo.region ?_
  refine aa 4 ?_
  refine AOps.nil ?_
  refine AGo.ret ?_
  refine ⟨[_], ⟨rfl, trivial⟩, ?_, rfl⟩
  show AV.bool _ = AV.bool _
  congr 1
  exact (rsized_no1 hne).symm
 ·
  refine AGo.cond_false false rfl rfl ?_
  have hcl2 := cert_len (old := f) (c := c) hb1
  refine AGo.skip ?_
  refine AGo.seq ?_
  refine AGo.seq ?_
  refine AGo.region ?_
  refine aa 5 ?_
  refine AOps.nil ?_
  refine AGo.block ?_
  refine AGo.loopD (γ := Nat) 2 (fun j => ⟨29, (eput (eput (eput eNew 2 (.ptr 0 1 0 0)) 3 (.ptr 1 1 0 0)) 5 (.int .i64 (j : Int))), (hput (hput (hFrom 2) 0 (.row false 2 [f.cells])) 1 (.row false 1 [c.cells]))⟩) (fun j => j ≤ c.same.length ∧ (c.same.take j).all (fun r => decide ((r.length : Int) = f.regs)) = true) (fun j => c.same.length - j) 0 (Sub.mk' (by repeat (first | exact ESub.new _ | refine ESub.put ?_ (by first | rfl | exact congrArg (fun (n : Nat) => some (AV.int .i64 (n : Int))) (by simp)))) (by repeat (first | exact HSub.refl _ | exact HSub.none _ | exact HSub.from_new _ | exact HSub.from_from (by first | decide | omega | (dsimp only; omega)) | refine HSub.put ?_ (by rfl) | refine HSub.from_put ?_ (by first | decide | omega | (dsimp only; omega)) | refine HSub.from_rm ?_ (by decide)))) ⟨Nat.zero_le _, rfl⟩ (fun _ => hput_free (hput_free (fun b hb => hFrom_free hb) rfl) rfl) ?_
  intro j ⟨hj, hall⟩
  refine AGo.seq ?_
  refine AGo.seq ?_
  refine AGo.region ?_
  refine am 13 ?_
  refine af 14 tok ?_
  refine al 15 tok ?_
  refine aq 16 (q_len tok rfl rfl rfl rfl rfl) ?_
  refine aq 17 (q_bin rfl rfl rfl rfl) ?_
  refine AOps.nil ?_
  refine AGo.split 17 rfl (fun hb2 => ?_) (fun hb2 => ?_)
  ·
   refine AGo.cond_true true rfl rfl ?_
   have hjl : j < c.same.length := by have h := hb2; simp only [List.length_map, decide_eq_true_eq] at h; omega
   obtain ⟨r, hr⟩ := get_of_lt hjl
   refine AGo.skip ?_
   refine AGo.seq ?_
   refine AGo.block ?_
   refine AGo.seq ?_
   refine AGo.draw mix ?_
   refine df 20 tok ?_
   refine dl 21 tok ?_
   refine dm 22 ?_
   refine dq 23 (q_index_lst tok rfl rfl rfl rfl rfl rfl (Int.natCast_nonneg _) (idx_map hr) rfl) ?_
   refine dl 24 tok ?_
   refine dq 25 (q_len tok rfl rfl rfl rfl rfl) ?_
   refine df 26 tok ?_
   refine dl 27 tok ?_
   refine dq 28 (q_bin rfl rfl rfl rfl) ?_
   refine DOps.nil (by kernel_rfl) ?_
   refine AGo.split 28 rfl (fun hb3 => ?_) (fun hb3 => ?_)
   ·
    refine AGo.cond_true true rfl rfl ?_
    have hbad : ¬ (r.length : Int) = f.regs := by have h := bne_ne' hb3; rw [List.length_map] at h; exact h
    refine AGo.seq ?_
    refine AGo.region ?_
    refine aa 4 ?_
    refine AOps.nil ?_
    refine AGo.ret ?_
    refine ⟨[_], ⟨rfl, trivial⟩, ?_, rfl⟩
    show AV.bool _ = AV.bool _
    congr 1
    exact (rsized_no2 hr hbad).symm
   ·
    refine AGo.cond_false false rfl rfl ?_
    have heq : (r.length : Int) = f.regs := by have h := bne_eq' hb3; rw [List.length_map] at h; exact h
    refine AGo.skip ?_
    refine AGo.region ?_
    refine am 18 ?_
    refine aq 19 (q_inc rfl rfl hjl (show c.same.length ≤ maxLen by simp only [maxLen]; omega)) ?_
    refine aa 5 ?_
    refine AOps.nil ?_
    exact ⟨j+1, Drop.mk' (by repeat (first | exact EDrop.new _ _ | refine EDrop.put ?_ (by rfl) (by first | rfl | exact slA_avoid _ rfl | exact vaA_avoid _ rfl))) (by repeat (first | exact HDrop.none _ _ | exact HDrop.tail _ _ | refine HDrop.put ?_ (by rfl) rfl (by first | rfl | exact slO_avoid _ _ | exact vaO_avoid _ | exact tab_avoid _ _ rfl rfl | exact wlk_avoid _ _ _ rfl rfl rfl))), ⟨hjl, all_succ hr hall (decide_eq_true heq)⟩, by omega⟩
  ·
   refine AGo.cond_false false rfl rfl ?_
   have hjge : c.same.length ≤ j := by have h := hb2; simp only [List.length_map, decide_eq_false_iff_not] at h; omega
   refine AGo.exit ?_
   refine AGo.seq ?_
   refine AGo.region ?_
   refine aa 4 ?_
   refine AOps.nil ?_
   refine AGo.ret ?_
   refine ⟨[_], ⟨rfl, trivial⟩, ?_, rfl⟩
   show AV.bool _ = AV.bool _
   congr 1
   exact (rsized_yes hcl2 (all_end hall hjge)).symm

end Go.Proofs.Ytpijoieooikfgaa.Sv

namespace Go.Proofs.Ytpijoieooikfgaa.Sv
open Go

end Go.Proofs.Ytpijoieooikfgaa.Sv

namespace Go.Proofs.Ytpijoieooikfgaa.Sv
open Go

end Go.Proofs.Ytpijoieooikfgaa.Sv

namespace Go.Proofs.Ytpijoieooikfgaa.Sv
open Go

end Go.Proofs.Ytpijoieooikfgaa.Sv

namespace Go.Proofs.Ytpijoieooikfgaa.Sv
open Go

theorem slA_succ {α : Type} {b k : Nat} {l : List α} {f : α → List AV} {x : α} (h : l[k]? = some x) : slA b ((l.take (k + 1)).map f) = .ref b (((l.take k).map f).length + 1) 0 (((l.take k).map f).length + 1) := by
  rw [take_succ_eq h, List.map_append, List.map_cons, List.map_nil, slA_snoc]
theorem slO_succ {α : Type} {sz k : Nat} {l : List α} {f : α → List AV} {x : α} (h : l[k]? = some x) : slO sz ((l.take (k + 1)).map f) = slO sz ((l.take k).map f ++ [f x]) := by
  rw [take_succ_eq h, List.map_append]; rfl

set_option maxHeartbeats 2000000 in
set_option maxRecDepth 100000 in
theorem validSpare_ok (old new : BFunc) (c : Cert) (hold : old.Ok) (hnew : new.Ok) (hc : c.Ok) : APure Try.prog 10 [.agg old.cells, .agg new.cells, .agg c.cells] (fun r => r = .bool true) := by
 refine APure.of_body (n := 101) tok Try.func10 rfl rfl ?_
 refine AGo.seq ?_
 refine AGo.region ?_
 refine ax 3 (o_box (sz := 2) 0 rfl rfl rfl rfl (Nat.zero_lt_succ _) rfl) ?_
 refine ax 4 (o_box (sz := 2) 1 rfl rfl rfl rfl (Nat.zero_lt_succ _) rfl) ?_
 refine ax 5 (o_box (sz := 1) 2 rfl rfl rfl rfl (Nat.zero_lt_succ _) rfl) ?_
 refine aa 6 ?_
 refine AOps.nil ?_
 refine AGo.seq ?_
 refine AGo.seq ?_
 refine AGo.region ?_
 refine al 12 tok ?_
 refine ax 13 (o_pure rfl Try.func11 (by kernel_rfl) rfl rfl rfl (few34_ok old 12 60 (by decide) hold.lenB hold.insB)) ?_
 refine aq 14 (q_not rfl rfl) ?_
 refine am 15 ?_
 refine AOps.split 15 rfl (fun hb1 => ?_) (fun hb1 => ?_)
 ·
  refine ak 16 ?_
  refine ak 17 ?_
  refine ak 18 ?_
  refine aq 19 (q_pick_true true rfl rfl rfl rfl) ?_
  refine am 20 ?_
  refine ak 21 ?_
  refine ak 22 ?_
  refine aq 23 (q_pick_true true rfl rfl rfl rfl) ?_
  refine am 24 ?_
  refine ak 25 ?_
  refine ak 26 ?_
  refine ak 27 ?_
  refine aq 28 (q_pick_true true rfl rfl rfl rfl) ?_
  refine am 29 ?_
  refine ak 30 ?_
  refine ak 31 ?_
  refine ak 32 ?_
  refine ak 33 ?_
  refine ak 34 ?_
  refine aq 35 (q_pick_true true rfl rfl rfl rfl) ?_
  refine AOps.nil ?_
  refine AGo.cond_true true rfl rfl ?_
  refine AGo.seq ?_
  refine AGo.region ?_
  refine ax 36 (o_pure rfl Try.func13 (by kernel_rfl) rfl rfl rfl (awake34_ok)) ?_
  refine aa 6 ?_
  refine AOps.nil ?_
  refine AGo.ret ?_
  refine ⟨[_], ⟨rfl, trivial⟩, ?_, rfl⟩
  rfl
 ·
  refine al 16 tok ?_
  refine ax 17 (o_pure rfl Try.func11 (by kernel_rfl) rfl rfl rfl (few34_ok new 12 60 (by decide) hnew.lenB hnew.insB)) ?_
  refine aq 18 (q_not rfl rfl) ?_
  refine aq 19 (q_pick_false false rfl rfl rfl rfl) ?_
  refine am 20 ?_
  refine AOps.split 20 rfl (fun hb2 => ?_) (fun hb2 => ?_)
  ·
   refine ak 21 ?_
   refine ak 22 ?_
   refine aq 23 (q_pick_true true rfl rfl rfl rfl) ?_
   refine am 24 ?_
   refine ak 25 ?_
   refine ak 26 ?_
   refine ak 27 ?_
   refine aq 28 (q_pick_true true rfl rfl rfl rfl) ?_
   refine am 29 ?_
   refine ak 30 ?_
   refine ak 31 ?_
   refine ak 32 ?_
   refine ak 33 ?_
   refine ak 34 ?_
   refine aq 35 (q_pick_true true rfl rfl rfl rfl) ?_
   refine AOps.nil ?_
   refine AGo.cond_true true rfl rfl ?_
   refine AGo.seq ?_
   refine AGo.region ?_
   refine ax 36 (o_pure rfl Try.func13 (by kernel_rfl) rfl rfl rfl (awake34_ok)) ?_
   refine aa 6 ?_
   refine AOps.nil ?_
   refine AGo.ret ?_
   refine ⟨[_], ⟨rfl, trivial⟩, ?_, rfl⟩
   rfl
  ·
   refine al 21 tok ?_
   refine ax 22 (o_pure rfl Try.func12 (by kernel_rfl) rfl rfl rfl (great_ok c hc.lenB)) ?_
   refine aq 23 (q_pick_false false rfl rfl rfl rfl) ?_
   refine am 24 ?_
   refine AOps.split 24 rfl (fun hb3 => ?_) (fun hb3 => ?_)
   ·
    refine ak 25 ?_
    refine ak 26 ?_
    refine ak 27 ?_
    refine aq 28 (q_pick_true true rfl rfl rfl rfl) ?_
    refine am 29 ?_
    refine ak 30 ?_
    refine ak 31 ?_
    refine ak 32 ?_
    refine ak 33 ?_
    refine ak 34 ?_
    refine aq 35 (q_pick_true true rfl rfl rfl rfl) ?_
    refine AOps.nil ?_
    refine AGo.cond_true true rfl rfl ?_
    refine AGo.seq ?_
    refine AGo.region ?_
    refine ax 36 (o_pure rfl Try.func13 (by kernel_rfl) rfl rfl rfl (awake34_ok)) ?_
    refine aa 6 ?_
    refine AOps.nil ?_
    refine AGo.ret ?_
    refine ⟨[_], ⟨rfl, trivial⟩, ?_, rfl⟩
    rfl
   ·
    refine af 25 tok ?_
    refine al 26 tok ?_
    refine aq 27 (q_bin rfl rfl rfl rfl) ?_
    refine aq 28 (q_pick_false false rfl rfl rfl rfl) ?_
    refine am 29 ?_
    refine AOps.split 29 rfl (fun hb4 => ?_) (fun hb4 => ?_)
    ·
     refine ak 30 ?_
     refine ak 31 ?_
     refine ak 32 ?_
     refine ak 33 ?_
     refine ak 34 ?_
     refine aq 35 (q_pick_true true rfl rfl rfl rfl) ?_
     refine AOps.nil ?_
     refine AGo.cond_true true rfl rfl ?_
     refine AGo.seq ?_
     refine AGo.region ?_
     refine ax 36 (o_pure rfl Try.func13 (by kernel_rfl) rfl rfl rfl (awake34_ok)) ?_
     refine aa 6 ?_
     refine AOps.nil ?_
     refine AGo.ret ?_
     refine ⟨[_], ⟨rfl, trivial⟩, ?_, rfl⟩
     rfl
    ·
     have hold1 := few_short hold (nb := 12) (ni := 60) (by decide) (by decide) (ndec_same (by assumption))
     have hnew1 := few_short hnew (nb := 12) (ni := 60) (by decide) (by decide) (ndec_same (by assumption))
     
     refine al 30 tok ?_
     refine al 31 tok ?_
     refine al 32 tok ?_
     refine ax 33 (o_pure rfl Try.func14 (by kernel_rfl) rfl rfl rfl (vcheck_ok old new hold1.1 hnew1.1 hold1.2 hnew1.2 c)) ?_
     refine aq 34 (q_not rfl rfl) ?_
     refine aq 35 (q_pick_false false rfl rfl rfl rfl) ?_
     refine AOps.nil ?_
     refine AGo.split 35 rfl (fun hb5 => ?_) (fun hb5 => ?_)
     ·
      refine AGo.cond_true true rfl rfl ?_
      refine AGo.seq ?_
      refine AGo.region ?_
      refine ax 36 (o_pure rfl Try.func13 (by kernel_rfl) rfl rfl rfl (awake34_ok)) ?_
      refine aa 6 ?_
      refine AOps.nil ?_
      refine AGo.ret ?_
      refine ⟨[_], ⟨rfl, trivial⟩, ?_, rfl⟩
      rfl
     ·
      refine AGo.cond_false false rfl rfl ?_
      have hck : vcheck old new c = true := ndec_same (by assumption)
      have hgc := great34_of (c := c) (by assumption)
      have hcl := hgc.1
      have h30 : old.regs ≤ 30 := Int.not_lt.1 (of_decide_eq_false (by assumption : decide (old.regs > 30) = false))
      have hG := (vcheck_iff (words_of hold1.2) (words_of hnew1.2)).1 hck
      have hV := vshaped_of hG.sh
      have hre := hV.regs
      have h0 := (stands_of hV.so).r0
      have hT := check_more (words_of hold1.2) (words_of hnew1.2) (by omega) hck true
      have hF := check_more (words_of hold1.2) (words_of hnew1.2) (by omega) hck false
      have hsz := check_sized (words_of hold1.2) (words_of hnew1.2) hck
      refine AGo.skip ?_
      refine AGo.seq ?_
      refine AGo.seq ?_
      refine AGo.region ?_
      refine al 37 tok ?_
      refine al 38 tok ?_
      refine ax 39 (o_pure rfl Try.func18 (by kernel_rfl) rfl rfl rfl ((by have h := rsized_ok old c (by omega); rw [hsz] at h; exact h))) ?_
      refine aq 40 (q_not rfl rfl) ?_
      refine AOps.nil ?_
      refine AGo.cond_false false rfl rfl ?_
      refine AGo.skip ?_
      refine AGo.seq ?_
      refine AGo.draw mix ?_
      refine df 41 tok ?_
      refine dl 42 tok ?_
      refine dq 43 (q_bin (r := .int .i64 (old.regs + 1)) rfl rfl rfl (addZ (by omega) (by omega) rfl)) ?_
      refine df 44 tok ?_
      refine dl 45 tok ?_
      refine dq 46 (q_build tok rfl rfl rfl rfl rfl (by decide) rfl rfl rfl) ?_
      refine df 47 tok ?_
      refine dl 48 tok ?_
      refine dq 49 (q_bin (r := .int .i64 (new.regs + 1)) rfl rfl rfl (addZ (by omega) (by omega) rfl)) ?_
      refine df 50 tok ?_
      refine dl 51 tok ?_
      refine dq 52 (q_build tok rfl rfl rfl rfl rfl (by decide) rfl rfl rfl) ?_
      refine dx 7 (o_alloc tok 3 rfl rfl rfl rfl (Nat.zero_lt_succ _) rfl) ?_
      refine dx 8 (o_alloc tok 4 rfl rfl rfl rfl (Nat.zero_lt_succ _) rfl) ?_
      refine DOps.w rfl rfl (o_store tok rfl rfl rfl rfl rfl rfl rfl rfl rfl (by decide) rfl (by first | exact fun _ => rfl | (intro h; cases h))) ?_
      refine DOps.w rfl rfl (o_store tok rfl rfl rfl rfl rfl rfl rfl rfl rfl (by decide) rfl (by first | exact fun _ => rfl | (intro h; cases h))) ?_
      refine DOps.nil (by kernel_rfl) ?_
      refine AGo.seq ?_
      refine AGo.region ?_
      refine ax 9 (o_alloc tok 5 rfl rfl rfl rfl (Nat.zero_lt_succ _) rfl) ?_
      refine ax 10 (o_alloc tok 6 rfl rfl rfl rfl (Nat.zero_lt_succ _) rfl) ?_
      refine AOps.nil ?_
      refine AGo.seq ?_
      refine AGo.seq ?_
      refine AGo.ghost (.weakRowF 5 (es' := [[.lst true []]]) rfl rfl weakNil1) ?_
      refine AGo.ghost (.weakRowF 6 (es' := [[.lst true []]]) rfl rfl weakNil1) ?_
      refine AGo.region ?_
      refine aa 11 ?_
      refine AOps.nil ?_
      refine AGo.block ?_
      refine AGo.loopD (γ := Nat) 9 (fun k => ⟨101, (eput (eput (eput (eput (eput (eput eNew 5 (.ptr 2 1 0 0)) 7 (.ptr 3 1 0 0)) 8 (.ptr 4 1 0 0)) 9 (.ptr 5 1 0 0)) 10 (.ptr 6 1 0 0)) 11 (.int .i64 (k : Int))), (hput (hput (hput (hput (hput (hput (hput (hput (hput (hFrom 9) 0 (.row false 2 [old.cells])) 1 (.row false 2 [new.cells])) 2 (.row false 1 [c.cells])) 3 (.row false 2 [(moreR old).cells])) 4 (.row false 2 [(moreR new).cells])) 5 (.row false 1 [[slA 7 (((extC true c).same.take (k)).map rowCell)]])) 6 (.row false 1 [[slA 8 (((extC false c).same.take (k)).map rowCell)]])) 7 (slO 1 (((extC true c).same.take (k)).map rowCell))) 8 (slO 1 (((extC false c).same.take (k)).map rowCell)))⟩) (fun k => k ≤ c.same.length) (fun k => c.same.length - k) 0 (Sub.mk' (by repeat (first | exact ESub.new _ | refine ESub.put ?_ (by first | rfl | exact congrArg (fun (n : Nat) => some (AV.int .i64 (n : Int))) (by simp)))) (by repeat (first | exact HSub.refl _ | exact HSub.none _ | exact HSub.from_new _ | exact HSub.from_from (by first | decide | omega | (dsimp only; omega)) | refine HSub.put ?_ (by rfl) | refine HSub.from_put ?_ (by first | decide | omega | (dsimp only; omega)) | refine HSub.from_rm ?_ (by decide)))) (Nat.zero_le _) (fun _ => hput_free (hput_free (hput_free (hput_free (hput_free (hput_free (hput_free (hput_free (hput_free (fun b hb => hFrom_free hb) rfl) rfl) rfl) rfl) rfl) rfl) rfl) rfl) rfl) ?_
      intro k hk
      refine AGo.seq ?_
      refine AGo.seq ?_
      refine AGo.region ?_
      refine am 53 ?_
      refine af 54 tok ?_
      refine al 55 tok ?_
      refine aq 56 (q_len tok rfl rfl rfl rfl rfl) ?_
      refine aq 57 (q_bin rfl rfl rfl rfl) ?_
      refine AOps.nil ?_
      refine AGo.split 57 rfl (fun hb6 => ?_) (fun hb6 => ?_)
      ·
       refine AGo.cond_true true rfl rfl ?_
       have hkl : k < c.same.length := by have h := hb6; simp only [Cert.cells, List.length_map, decide_eq_true_eq] at h; omega
       obtain ⟨r, hr⟩ := get_of_lt hkl
       have hr60 := hgc.2 r (List.mem_of_getElem? hr)
       have hTt : (extC true c).same[k]? = some (r ++ [true]) := by simp [extC, hr]
       have hTf : (extC false c).same[k]? = some (r ++ [false]) := by simp [extC, hr]
       refine AGo.skip ?_
       refine AGo.seq ?_
       refine AGo.block ?_
       refine AGo.seq ?_
       refine AGo.ghost (.loosen 7 rfl) ?_
       refine AGo.draw mix ?_
       refine df 60 tok ?_
       refine dl 61 tok ?_
       refine dx 62 (o_lit tok rfl rfl rfl rfl rfl rfl (by decide) rfl rfl rfl rfl rfl rfl) ?_
       refine df 63 tok ?_
       refine dl 64 tok ?_
       refine dm 65 ?_
       refine dq 66 (q_index_lst tok rfl rfl rfl rfl rfl rfl (Int.natCast_nonneg _) (idx_map hr) rfl) ?_
       refine dl 67 tok ?_
       refine dx 68 (o_copyJ tok 9 rfl rfl rfl rfl rfl rfl rfl rfl rfl rfl (Nat.zero_lt_succ _) (bools_len _) (bools_pure _) (by rw [List.length_map]; show _ * 1 ≤ _; omega) (by rw [List.length_map]; simp only [maxLen]; omega)) ?_
       refine dx 69 (o_lit' tok rfl rfl rfl rfl rfl rfl (by decide) rfl rfl rfl rfl rfl rfl) ?_
       refine dx 70 (o_append1R tok (b := 9) (es := (r.map fun b => [AV.bool b])) rfl rfl rfl rfl rfl rfl rfl rfl rfl rfl rfl (Nat.zero_lt_succ _) (bools_len _) (bools_pure _) rfl rfl (by rw [List.length_map]; show _ * 1 ≤ _; omega) (by rw [List.length_map]; simp only [maxLen]; omega)) ?_
       refine dx 71 (o_litRow tok 10 false rfl rfl rfl rfl rfl rfl (by decide) rfl rfl rfl rfl (by first | exact fun _ => rfl | (intro h; cases h)) rfl rfl) ?_
       refine dx 72 (o_append1S tok (b := 7) (es := (((extC true c).same.take (k)).map rowCell)) (x0 := [.ref 9 ((r.map fun b => [AV.bool b]).length + 1) 0 ((r.map fun b => [AV.bool b]).length + 1)]) rfl rfl rfl rfl rfl rfl rfl rfl rfl rfl rfl (Nat.zero_lt_succ _) (SrcOf.ref 10 1 0 1 false 1 [[.ref 9 ((r.map fun b => [AV.bool b]).length + 1) 0 ((r.map fun b => [AV.bool b]).length + 1)]] rfl rfl) rfl (by rw [List.length_map, List.length_take]; show _ * 24 ≤ _; omega) (by rw [List.length_map, List.length_take]; simp only [maxLen]; omega)) ?_
       refine df 73 tok ?_
       refine DOps.w rfl rfl (o_store1 tok rfl rfl rfl rfl rfl rfl rfl rfl rfl (slA_cells _ _) (by decide) (slA_cell1 _ _) (by intro h; cases h)) ?_
       refine DOps.nil (by kernel_rfl) ?_
       refine AGo.ghost (.endLast (es2 := (r.map fun b => [AV.bool b]) ++ [[AV.bool true]]) 7 9 rfl rfl (by rw [List.length_append]; rfl) (by decide) (row_pure _)) ?_
       rw [show (r.map fun b => [AV.bool b]) ++ [[AV.bool true]] = ((r ++ [true]).map fun b => [AV.bool b]) from by rw [List.map_append]; rfl]
       simp only [slA_snoc]
       refine AGo.ghost (.loosen 8 rfl) ?_
       refine AGo.draw mix ?_
       refine df 74 tok ?_
       refine dl 75 tok ?_
       refine dx 76 (o_lit tok rfl rfl rfl rfl rfl rfl (by decide) rfl rfl rfl rfl rfl rfl) ?_
       refine df 77 tok ?_
       refine dl 78 tok ?_
       refine dm 79 ?_
       refine dq 80 (q_index_lst tok rfl rfl rfl rfl rfl rfl (Int.natCast_nonneg _) (idx_map hr) rfl) ?_
       refine dl 81 tok ?_
       refine dx 82 (o_copyJ tok 11 rfl rfl rfl rfl rfl rfl rfl rfl rfl rfl (Nat.zero_lt_succ _) (bools_len _) (bools_pure _) (by rw [List.length_map]; show _ * 1 ≤ _; omega) (by rw [List.length_map]; simp only [maxLen]; omega)) ?_
       refine dx 83 (o_lit' tok rfl rfl rfl rfl rfl rfl (by decide) rfl rfl rfl rfl rfl rfl) ?_
       refine dx 84 (o_append1R tok (b := 11) (es := (r.map fun b => [AV.bool b])) rfl rfl rfl rfl rfl rfl rfl rfl rfl rfl rfl (Nat.zero_lt_succ _) (bools_len _) (bools_pure _) rfl rfl (by rw [List.length_map]; show _ * 1 ≤ _; omega) (by rw [List.length_map]; simp only [maxLen]; omega)) ?_
       refine dx 85 (o_litRow tok 12 false rfl rfl rfl rfl rfl rfl (by decide) rfl rfl rfl rfl (by first | exact fun _ => rfl | (intro h; cases h)) rfl rfl) ?_
       refine dx 86 (o_append1S tok (b := 8) (es := (((extC false c).same.take (k)).map rowCell)) (x0 := [.ref 11 ((r.map fun b => [AV.bool b]).length + 1) 0 ((r.map fun b => [AV.bool b]).length + 1)]) rfl rfl rfl rfl rfl rfl rfl rfl rfl rfl rfl (Nat.zero_lt_succ _) (SrcOf.ref 12 1 0 1 false 1 [[.ref 11 ((r.map fun b => [AV.bool b]).length + 1) 0 ((r.map fun b => [AV.bool b]).length + 1)]] rfl rfl) rfl (by rw [List.length_map, List.length_take]; show _ * 24 ≤ _; omega) (by rw [List.length_map, List.length_take]; simp only [maxLen]; omega)) ?_
       refine df 87 tok ?_
       refine DOps.w rfl rfl (o_store1 tok rfl rfl rfl rfl rfl rfl rfl rfl rfl (slA_cells _ _) (by decide) (slA_cell1 _ _) (by intro h; cases h)) ?_
       refine DOps.nil (by kernel_rfl) ?_
       refine AGo.ghost (.endLast (es2 := (r.map fun b => [AV.bool b]) ++ [[AV.bool false]]) 8 11 rfl rfl (by rw [List.length_append]; rfl) (by decide) (row_pure _)) ?_
       rw [show (r.map fun b => [AV.bool b]) ++ [[AV.bool false]] = ((r ++ [false]).map fun b => [AV.bool b]) from by rw [List.map_append]; rfl]
       simp only [slA_snoc]
       refine AGo.region ?_
       refine am 58 ?_
       refine aq 59 (q_inc rfl rfl hkl (show c.same.length ≤ maxLen by simp only [maxLen]; omega)) ?_
       refine aa 11 ?_
       refine AOps.nil ?_
       exact ⟨k+1, Drop.mk' (by repeat (first | exact EDrop.new _ _ | refine EDrop.put ?_ (by rfl) (by first | rfl | exact slA_avoid _ rfl | exact vaA_avoid _ rfl))) (by repeat (first | exact HDrop.none _ _ | exact HDrop.tail _ _ | refine HDrop.put ?_ (by first | rfl | exact congrArg (fun v => some (AObj.row false 1 [[v]])) (slA_succ hTt).symm | exact congrArg (fun v => some (AObj.row false 1 [[v]])) (slA_succ hTf).symm | exact congrArg some (slO_succ hTt).symm | exact congrArg some (slO_succ hTf).symm) rfl (by first | rfl | exact slO_avoid _ _ | exact sl1_avoid _ rfl))), hkl, by omega⟩
      ·
       refine AGo.cond_false false rfl rfl ?_
       have hge : c.same.length ≤ k := by have h := hb6; simp only [Cert.cells, List.length_map, decide_eq_false_iff_not] at h; omega
       refine AGo.exit ?_
       refine AGo.seq ?_
       refine AGo.ghost (.endSl 5 7 rfl rfl (by decide)) ?_
       refine AGo.ghost (.endSl 6 8 rfl rfl (by decide)) ?_
       rw [List.take_of_length_le (by simp [extC]; omega : (extC true c).same.length ≤ k), List.take_of_length_le (by simp [extC]; omega : (extC false c).same.length ≤ k)]
       refine AGo.region ?_
       refine ax 88 (o_pure rfl Try.func13 (by kernel_rfl) rfl rfl rfl (awake34_ok)) ?_
       refine am 89 ?_
       refine al 90 tok ?_
       refine al 91 tok ?_
       refine al 92 tok ?_
       refine ax 93 (o_pure rfl Try.func14 (by kernel_rfl) rfl rfl rfl ((by have h := vcheck_ok (moreR old) (moreR new) hold1.1 hnew1.1 hold1.2 hnew1.2 (extC true c); rw [hT] at h; exact h))) ?_
       refine aq 94 (q_pick_true true rfl rfl rfl rfl) ?_
       refine am 95 ?_
       refine al 96 tok ?_
       refine al 97 tok ?_
       refine al 98 tok ?_
       refine ax 99 (o_pure rfl Try.func14 (by kernel_rfl) rfl rfl rfl ((by have h := vcheck_ok (moreR old) (moreR new) hold1.1 hnew1.1 hold1.2 hnew1.2 (extC false c); rw [hF] at h; exact h))) ?_
       refine aq 100 (q_pick_true true rfl rfl rfl rfl) ?_
       refine aa 6 ?_
       refine AOps.nil ?_
       refine AGo.ret ?_
       refine ⟨[_], ⟨rfl, trivial⟩, ?_, rfl⟩
       rfl

end Go.Proofs.Ytpijoieooikfgaa.Sv

namespace Go.Proofs.Ytpijoieooikfgaa
open Go.ChangeShapes Go.WideShapes Go.ChangeAt Go.RowKit Sv
set_option linter.unusedVariables false

set_option maxRecDepth 100000 in
theorem validSpare_lifted (os : Os) (started : os.Started) (H : Type) (enc : TypeId × Value → H) :
    ReturnsInHanded {} Try.checked os 10 .any (Rows.validSpareSpec.pre6 enc Try.prog Try.f10 Rows.validSpareRow.domain false) (Rows.validSpareSpec.post enc Try.prog Try.f10 false true false false) := by
  refine returnsInHanded_of_change_sized (C := Try.checked) own' started (by kernel_rfl) Try.func10
    (ChangeSpec.witness6 (enc := enc) (C := Try.checked) false ⟨#[], #[.agg #[.int .i64 0, .slice none 0 0], .agg #[.int .i64 0, .slice none 0 0], .agg #[.slice none 0 0]], []⟩ 8 (by kernel_rfl) (by kernel_rfl) (by kernel_rfl) (by kernel_rfl)) ?_
  intro W base args ds gs before hval0 hW hcnd hwt0 hh
  have hval : ∀ (j : Nat) t v, Try.f10.params[j]? = some t → args[j]? = some v → Value.okWide Try.prog W .any base t v := hval0
  have hW' := hW
  obtain ⟨p, q, hA0, hV, rfl, hfz, hnd⟩ := hW
  have hA : DataW.TrodAll enc Try.prog W 0 (fun _ => true) true Try.f10.params.toList args.toList ds p := hA0
  have hwt : (DataW.weightsEach Try.prog (Try.f10.params.toList ++ Rows.validSpareSpec.plain.varTypes Try.prog) (ds ++ gs)).all (· ≤ reachBytes) = true := hwt0
  rw [Try.params10] at hA hval hwt
  obtain ⟨v0, vs0, d0, ds0, p0, q0, hargs, rfl, rfl, h0, r0⟩ := trodAll_cons hA
  obtain ⟨v1, vs1, d1, ds1, p1, q1, rfl, rfl, rfl, h1, r1⟩ := trodAll_cons r0
  obtain ⟨v2, vs2, d2, ds2, p2, q2, rfl, rfl, rfl, h2, r2⟩ := trodAll_cons r1
  obtain ⟨rfl, rfl, rfl⟩ := trodAll_nil r2
  obtain rfl : args = #[v0, v1, v2] := by cases args; simp_all
  obtain ⟨rfl, rfl⟩ := trodVars_none hV
  obtain ⟨x0, e0, g0⟩ := arg_one h0 (weightsEach_get hwt (i := 0) rfl rfl) decBFunc
  obtain ⟨x1, e1, g1⟩ := arg_one h1 (weightsEach_get hwt (i := 1) rfl rfl) decBFunc
  obtain ⟨x2, e2, g2⟩ := arg_one h2 (weightsEach_get hwt (i := 2) rfl rfl) decCert
  exact law_calls laidOut' rfl (by kernel_rfl) rfl bool' rfl rfl rfl hW' (.cons (e0.val (okWide_agg tok rfl rfl (hval 0 24 v0 rfl rfl))) (.cons (e1.val (okWide_agg tok rfl rfl (hval 1 24 v1 rfl rfl))) (.cons (e2.val (okWide_agg tok rfl rfl (hval 2 27 v2 rfl rfl))) .nil))) (validSpare_ok x0 x1 x2 g0 g1 g2) (fun g l h => by cases h)

theorem validSpare_holds : Rows.ValidSpareSaid :=
  OpenClaim.holds_of_wide 10 Try.f10 rfl rfl rfl rfl rfl rfl rfl ⟨rfl, rfl, rfl, rfl, rfl⟩ rfl rfl rfl rfl rfl (by kernel_rfl) Try.func10 (by kernel_rfl)
    (of_decide_eq_true (by kernel_rfl)) (by unfold Func.isWrapper; first | (rw [if_pos (by decide +kernel)]; kernel_rfl) | (rw [if_neg (by decide +kernel)]; exact ⟨rfl, rfl⟩))
    (fun os started H enc _ => validSpare_lifted os started H enc)

end Go.Proofs.Ytpijoieooikfgaa
