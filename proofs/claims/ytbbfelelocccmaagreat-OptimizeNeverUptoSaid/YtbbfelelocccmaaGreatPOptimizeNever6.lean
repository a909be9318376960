/-
  The law OptimizeNever of the given program answers true for every input of the bulk that is named, and leaves its arguments as they were. Own work.
  WALKS: printed by a program of our own from the code's tree.
  How strings read: own work.
  HOW PASSES, AND WHAT IS ASKED OF THEM, READ, WITH THEIR BULK: own work.
-/
import Derived.Test.YtbbfelelocccmaaGreatPOptimizeNever2
import Derived.Test.YtbbfelelocccmaaGreatPOptimizeNever3
import Derived.Test.YtbbfelelocccmaaGreatPOptimizeNever5
import Derived.Test.YtbbfelelocccmaaGreatPOptimizeNever4
import Derived.Deep.CondSized
import Derived.JoinedCond
set_option linter.unusedVariables false
set_option linter.unusedSimpArgs false
namespace Go.Proofs.YtbbfelelocccmaaGreat.Sv
open Go
set_option maxHeartbeats 4000000 in
set_option maxRecDepth 100000 in
theorem vsame_ok (old new : Block) (R : Nat) (c : Cert) (i : Int) (next : List Int) (hR : R ≤ 40000) (hc : ∀ r ∈ c.same, r.length = R) (hi : 0 ≤ i ∧ i < c.same.length) (hnx : ∀ k ∈ next, 0 ≤ k ∧ k < c.same.length) (hv : old.fin = 2 → (0 ≤ old.v ∧ old.v < R) ∧ (0 ≤ new.v ∧ new.v < R)) (ho : ∀ t ∈ old.ins, TacV t R) (hn : ∀ t ∈ new.ins, TacV t R) (hlo : old.ins.length ≤ 10000) (hln : new.ins.length ≤ 10000) (hnl : next.length ≤ 100000) : APure Tryz.prog 131 [.agg old.cells, .agg new.cells, .int .i64 (R : Int), .agg c.cells, .int .i64 i, intsAV next] (fun r => r = .bool (vsame R old new c i next)) := by
 obtain ⟨row, hrow⟩ := get_of_lt (l := c.same) (k := i.toNat) (by omega)
 have hat : c.at' i = row := by unfold Cert.at'; rw [hrow]; rfl
 have hrl := hc row (List.mem_of_getElem? hrow)
 have hoa0 := vfold_ok (vok_a hR) ho
 have hoa : VOk ((2 * R : Nat) : Int) R (0 + 2 * old.ins.length) (vrunA R old) := hoa0
 have hob : VOk ((2 * R : Nat) : Int) R (0 + 2 * old.ins.length + 2 * new.ins.length) (vrunB R old new (c.at' i)) := vfold_ok (vok_b hoa _) hn
 refine APure.of_body (n := 146) tok Tryz.func131 rfl rfl ?_
 refine asr ?_
 refine ax 6 (obx 5 0) ?_
 refine ax 7 (obx 5 1) ?_
 refine ax 9 (obx 1 2) ?_
 refine aa 12 ?_
 refine an ?_
 refine asr ?_
 refine am 25 ?_
 refine aq 26 (q_bin (r := .int .i64 ((2 * R : Nat) : Int)) rfl rfl rfl (mulZ (by omega) (by omega) (by omega))) ?_
 refine ax 27 (o_makeMapA .i64 3 rfl rfl) ?_
 refine aq 28 (q_buildM tok (z0 := .int .i64 0) (z1 := .map none) (x := .int .i64 ((2 * R : Nat) : Int)) (y := .map 3) rfl rfl rfl rfl rfl rfl rfl rfl rfl (by kernel_rfl) rfl rfl) ?_
 refine ax 29 (obx 3 4) ?_
 refine aa 13 ?_
 refine an ?_
 refine asr ?_
 refine aQ tok 2 rfl ?_
 refine ax 32 (o_makeSliceV tok (n := R) 5 rfl rfl rfl rfl rfl rfl rfl rfl rfl rfl rfl rfl (by show 8 * R ≤ _; omega) (by simp only [maxLen]; omega)) ?_
 refine aq 33 (q_build tok (ps := [(0, .ptr 4 1 0 0), (1, vaA 5 (List.replicate R [.int .i64 0]))]) (r := [.ptr 4 1 0 0, vaA 5 (List.replicate R [.int .i64 0]), .nil, .int .i64 0]) rfl rfl rfl rfl rfl (by decide) (by simp only [partsFit, vaA_cells]; rfl) rfl (by simp only [partCells, vaA_cells]; rfl)) ?_
 refine ax 14 (oal tok 6) ?_
 refine AOps.w rfl rfl (o_store tok rfl rfl rfl rfl rfl rfl rfl rfl rfl (by decide) (by simp only [AV.cells, List.all_cons, List.all_nil, vaA_cell1]; rfl) (by intro h; cases h)) ?_
 refine an ?_
 refine AGo.seq ?_
 refine AGo.ghost (.weakRowF 4 (es' := [[.int .i64 ((2 * R : Nat) : Int), .map 3, .lst true []]]) rfl rfl weakTab) ?_
 refine AGo.ghost (.weakRowF 6 (es' := [[.ptr 4 1 0 0, vaA 5 (List.replicate R [.int .i64 0]), .lst true [], .int .i64 0]]) rfl rfl weakWlk) ?_
 refine AGo.region ?_
 refine aQ tok 2 rfl ?_
 refine ax 36 (o_makeSliceV tok (n := R) 7 rfl rfl rfl rfl rfl rfl rfl rfl rfl rfl rfl rfl (by show 8 * R ≤ _; omega) (by simp only [maxLen]; omega)) ?_
 refine aq 37 (q_build tok (ps := [(0, .ptr 4 1 0 0), (1, vaA 7 (List.replicate R [.int .i64 0]))]) (r := [.ptr 4 1 0 0, vaA 7 (List.replicate R [.int .i64 0]), .nil, .int .i64 0]) rfl rfl rfl rfl rfl (by decide) (by simp only [partsFit, vaA_cells]; rfl) rfl (by simp only [partCells, vaA_cells]; rfl)) ?_
 refine ax 15 (oal tok 8) ?_
 refine AOps.w rfl rfl (o_store tok rfl rfl rfl rfl rfl rfl rfl rfl rfl (by decide) (by simp only [AV.cells, List.all_cons, List.all_nil, vaA_cell1]; rfl) (by intro h; cases h)) ?_
 refine an ?_
 refine AGo.seq ?_
 refine AGo.seq ?_
 refine AGo.ghost (.weakRowF 8 (es' := [[.ptr 4 1 0 0, vaA 7 (List.replicate R [.int .i64 0]), .lst true [], .int .i64 0]]) rfl rfl weakWlk) ?_
 refine AGo.region ?_
 refine aQ tok 2 rfl ?_
 refine an ?_
 refine AGo.block ?_
 refine AGo.loopD (γ := Nat) 12 (fun k => ⟨146, (eput (eput (eput (eput (eput (eput (eput (eput (eput (eput eNew 2 (.int .i64 (R : Int))) 4 (.int .i64 i)) 5 (intsAV next)) 6 (.ptr 0 1 0 0)) 7 (.ptr 1 1 0 0)) 9 (.ptr 2 1 0 0)) 14 (.ptr 6 1 0 0)) 15 (.ptr 8 1 0 0)) 38 (.int .i64 (R : Int))) 39 (.int .i64 (k : Int))), (hput (hput (hput (hput (hput (hput (hput (hput (hput (hput (hput (hput (hFrom 12) 0 (.row false 5 [old.cells])) 1 (.row false 5 [new.cells])) 2 (.row false 1 [c.cells])) 3 (.map (kvsA .i64 (vmap ((2 * R : Nat) : Int) ([]))))) 4 (.row false 3 [[.int .i64 ((2 * R : Nat) : Int), .map 3, slA 9 (([]).map (arrAV .i64))]])) 9 (slO 4 (([]).map (arrAV .i64)))) 6 (.row false 4 [[.ptr 4 1 0 0, vaA 5 (valC (fillI R k (fun v : Nat => (v : Int)))), slA 10 (([]).map (arrAV .i64)), .int .i64 (0)]])) 5 (vaO (valC (fillI R k (fun v : Nat => (v : Int)))))) 10 (slO 6 (([]).map (arrAV .i64)))) 8 (.row false 4 [[.ptr 4 1 0 0, vaA 7 (valC (fillI R k (sideB R (c.at' i)))), slA 11 (([]).map (arrAV .i64)), .int .i64 (0)]])) 7 (vaO (valC (fillI R k (sideB R (c.at' i)))))) 11 (slO 6 (([]).map (arrAV .i64))))⟩) (fun k => k ≤ R) (fun k => R - k) 0 (Sub.mk' z23q (by repeat (first | exact HSub.refl _ | exact HSub.none _ | exact HSub.from_new _ | exact HSub.from_from z30q | refine HSub.put ?_ (by first | rfl | exact fill0R _ | exact fill0W _ _ _ _) | refine HSub.from_put ?_ z30q | refine HSub.from_rm ?_ (by decide)))) (Nat.zero_le _) (fun _ => hput_free (hput_free (hput_free (hput_free (hput_free (hput_free (hput_free (hput_free (hput_free (hput_free (hput_free (hput_free (fun b hb => hFrom_free hb) rfl) rfl) rfl) rfl) rfl) rfl) rfl) rfl) rfl) rfl) rfl) rfl) ?_
 intro k hk
 refine asr ?_
 refine aqb ?_
 refine an ?_
 refine AGo.seq ?_
 refine asp 40 (fun hb1 => ?_) fun hb1 => ?_
 ·
  refine act ?_
  have hkl : k < R := by have h := hb1; simp only [decide_eq_true_eq] at h; omega
  obtain ⟨bit, hbit⟩ := get_of_lt (l := row) (k := k) (by omega)
  refine AGo.skip ?_
  refine AGo.seq ?_
  refine AGo.block ?_
  refine asr ?_
  refine aQ tok 2 rfl ?_
  refine an ?_
  refine asr ?_
  refine aQ tok 8 rfl ?_
  refine aq 50 (q_indexV tok rfl rfl rfl rfl rfl rfl rfl rfl (Int.natCast_nonneg _) (by rw [valC_len, (fillI_len (fun v : Nat => (v : Int)) (Nat.le_of_lt hkl))]; omega)) ?_
  refine AOps.w rfl rfl (o_storeV tok rfl rfl rfl rfl rfl rfl rfl (by rw [valC_len, (fillI_len (fun v : Nat => (v : Int)) (Nat.le_of_lt hkl)), Int.toNat_natCast]; exact hkl) (valC_one _) rfl rfl rfl) ?_
  refine aq 51 (q_indexV tok rfl rfl rfl rfl rfl rfl rfl rfl (Int.natCast_nonneg _) (by rw [valC_len, (fillI_len (sideB R (c.at' i)) (Nat.le_of_lt hkl))]; omega)) ?_
  refine AOps.w rfl rfl (o_storeV tok rfl rfl rfl rfl rfl rfl rfl (by rw [valC_len, (fillI_len (sideB R (c.at' i)) (Nat.le_of_lt hkl)), Int.toNat_natCast]; exact hkl) (valC_one _) rfl rfl rfl) ?_
  refine an ?_
  refine asr ?_
  refine aQ tok 3 rfl ?_
  refine aq 55 (q_index_lst tok rfl rfl rfl rfl rfl rfl hi.1 (by rw [List.getElem?_map, hrow]; rfl) rfl) ?_
  refine aQ tok 2 rfl ?_
  refine aq 58 (q_index_lst tok rfl rfl rfl rfl rfl rfl (Int.natCast_nonneg _) (idx_map hbit) rfl) ?_
  refine aQ tok 2 rfl ?_
  refine an ?_
  refine asp 60 (fun hb2 => ?_) fun hb2 => ?_
  ·
   refine act ?_
   have hbf : bit = false := by simpa using hb2
   subst hbf
   refine AGo.region ?_
   refine aQ tok 5 rfl ?_
   refine aq 66 (q_bin (r := .int .i64 ((R + k : Nat) : Int)) rfl rfl rfl (addZ (by omega) (by omega) (by omega))) ?_
   refine aq 67 (q_indexV2 tok rfl rfl rfl rfl rfl rfl rfl rfl (by rw [List.length_set]) (Int.natCast_nonneg _) (by rw [List.length_set, valC_len, (fillI_len (sideB R (c.at' i)) (Nat.le_of_lt hkl))]; omega)) ?_
   refine AOps.w rfl rfl (o_storeV tok rfl rfl rfl rfl rfl rfl rfl (by rw [List.length_set, valC_len, (fillI_len (sideB R (c.at' i)) (Nat.le_of_lt hkl)), Int.toNat_natCast]; exact hkl) (by intro cs hc; rcases List.mem_or_eq_of_mem_set hc with hc | rfl; exact valC_one _ _ hc; rfl) rfl rfl rfl) ?_
   refine an ?_
   refine AGo.region ?_
   refine aq 68 (q_inc rfl rfl hkl (show R ≤ maxLen by simp only [maxLen]; omega)) ?_
   refine am 39 ?_
   refine an ?_
   exact ⟨k+1, Drop.mk' z15q z4q, hkl, by omega⟩
  ·
   refine acf ?_
   have hbf : bit = true := by simpa using hb2
   subst hbf
   refine AGo.skip ?_
   refine AGo.region ?_
   refine aq 68 (q_inc rfl rfl hkl (show R ≤ maxLen by simp only [maxLen]; omega)) ?_
   refine am 39 ?_
   refine an ?_
   exact ⟨k+1, Drop.mk' z15q z4q, hkl, by omega⟩
 ·
  refine acf ?_
  obtain rfl : R = k := by have h := hb1; simp only [decide_eq_false_iff_not] at h; omega
  refine AGo.exit ?_
  refine AGo.seq ?_
  refine asr ?_
  refine aQ tok 4 rfl ?_
  refine an ?_
  refine AGo.block ?_
  refine AGo.loopD (γ := Nat) 12 (fun k => ⟨146, (eput (eput (eput (eput (eput (eput (eput (eput (eput (eput (eput eNew 2 (.int .i64 (R : Int))) 4 (.int .i64 i)) 5 (intsAV next)) 6 (.ptr 0 1 0 0)) 7 (.ptr 1 1 0 0)) 9 (.ptr 2 1 0 0)) 14 (.ptr 6 1 0 0)) 15 (.ptr 8 1 0 0)) 70 (insAV old.ins)) 71 (.int .i64 (old.ins.length : Int))) 72 (.int .i64 (k : Int))), (hput (hput (hput (hput (hput (hput (hput (hput (hput (hput (hput (hput (hFrom 12) 0 (.row false 5 [old.cells])) 1 (.row false 5 [new.cells])) 2 (.row false 1 [c.cells])) 3 (.map (kvsA .i64 (vmap ((2 * R : Nat) : Int) (((vfold ((2 * R : Nat) : Int) (old.ins.take (k)) ⟨[], idsA R, [], 0⟩)).K))))) 4 (.row false 3 [[.int .i64 ((2 * R : Nat) : Int), .map 3, slA 9 ((((vfold ((2 * R : Nat) : Int) (old.ins.take (k)) ⟨[], idsA R, [], 0⟩)).K).map (arrAV .i64))]])) 9 (slO 4 ((((vfold ((2 * R : Nat) : Int) (old.ins.take (k)) ⟨[], idsA R, [], 0⟩)).K).map (arrAV .i64)))) 6 (.row false 4 [[.ptr 4 1 0 0, vaA 5 (valC ((vfold ((2 * R : Nat) : Int) (old.ins.take (k)) ⟨[], idsA R, [], 0⟩)).vals), slA 10 ((((vfold ((2 * R : Nat) : Int) (old.ins.take (k)) ⟨[], idsA R, [], 0⟩)).effs).map (arrAV .i64)), .int .i64 (((vfold ((2 * R : Nat) : Int) (old.ins.take (k)) ⟨[], idsA R, [], 0⟩)).time)]])) 5 (vaO (valC ((vfold ((2 * R : Nat) : Int) (old.ins.take (k)) ⟨[], idsA R, [], 0⟩)).vals))) 10 (slO 6 ((((vfold ((2 * R : Nat) : Int) (old.ins.take (k)) ⟨[], idsA R, [], 0⟩)).effs).map (arrAV .i64)))) 8 (.row false 4 [[.ptr 4 1 0 0, vaA 7 (valC (idsB R (c.at' i))), slA 11 (([]).map (arrAV .i64)), .int .i64 (0)]])) 7 (vaO (valC (idsB R (c.at' i))))) 11 (slO 6 (([]).map (arrAV .i64))))⟩) (fun k => k ≤ old.ins.length) (fun k => old.ins.length - k) 0 (Sub.mk' z13q (by repeat (first | exact HSub.refl _ | exact HSub.none _ | exact HSub.from_new _ | exact HSub.from_from z30q | refine HSub.put ?_ (by first | rfl | exact initA | exact initB _ | exact initWA _ _ _ | exact initWB _ _ _ _) | refine HSub.from_put ?_ z30q | refine HSub.from_rm ?_ (by decide)))) (Nat.zero_le _) (fun _ => hput_free (hput_free (hput_free (hput_free (hput_free (hput_free (hput_free (hput_free (hput_free (hput_free (hput_free (hput_free (fun b hb => hFrom_free hb) rfl) rfl) rfl) rfl) rfl) rfl) rfl) rfl) rfl) rfl) rfl) rfl) ?_
  intro k hk
  refine asr ?_
  refine aqb ?_
  refine an ?_
  refine AGo.seq ?_
  refine asp 73 (fun hb3 => ?_) fun hb3 => ?_
  ·
   refine act ?_
   have hkl : k < old.ins.length := by have h := hb3; simp only [List.length_map, decide_eq_true_eq] at h; omega
   obtain ⟨t, ht⟩ := get_of_lt hkl
   refine AGo.skip ?_
   refine AGo.seq ?_
   refine AGo.block ?_
   refine asr ?_
   refine aq 74 (qil tok (idx_map ht)) ?_
   refine al 75 tok ?_
   refine ax 18 (oal tok 12) ?_
   refine AOps.w rfl rfl (o_store tok rfl rfl rfl rfl rfl rfl rfl rfl rfl (by decide) rfl z26q) ?_
   refine an ?_
   refine AGo.region ?_
   refine al 76 tok ?_
   refine ax 77 (oct (vstepa_ok ((2 * R : Nat) : Int) R _ (vfold ((2 * R : Nat) : Int) (old.ins.take (k)) ⟨[], idsA R, [], 0⟩) (vfold_okk (vok_a hR) ho k) (by omega) t (ho t (List.mem_of_getElem? ht))) [10, 5, 6, 9, 4, 3] [(3, (.map (kvsA .i64 (vmap ((2 * R : Nat) : Int) (((VW.step ((2 * R : Nat) : Int) (vfold ((2 * R : Nat) : Int) (old.ins.take (k)) ⟨[], idsA R, [], 0⟩) t)).K))))), (4, (.row false 3 [[.int .i64 ((2 * R : Nat) : Int), .map 3, slA 9 ((((VW.step ((2 * R : Nat) : Int) (vfold ((2 * R : Nat) : Int) (old.ins.take (k)) ⟨[], idsA R, [], 0⟩) t)).K).map (arrAV .i64))]])), (9, (slO 4 ((((VW.step ((2 * R : Nat) : Int) (vfold ((2 * R : Nat) : Int) (old.ins.take (k)) ⟨[], idsA R, [], 0⟩) t)).K).map (arrAV .i64)))), (6, (.row false 4 [[.ptr 4 1 0 0, vaA 5 (valC ((VW.step ((2 * R : Nat) : Int) (vfold ((2 * R : Nat) : Int) (old.ins.take (k)) ⟨[], idsA R, [], 0⟩) t)).vals), slA 10 ((((VW.step ((2 * R : Nat) : Int) (vfold ((2 * R : Nat) : Int) (old.ins.take (k)) ⟨[], idsA R, [], 0⟩) t)).effs).map (arrAV .i64)), .int .i64 (((VW.step ((2 * R : Nat) : Int) (vfold ((2 * R : Nat) : Int) (old.ins.take (k)) ⟨[], idsA R, [], 0⟩) t)).time)]])), (5, (vaO (valC ((VW.step ((2 * R : Nat) : Int) (vfold ((2 * R : Nat) : Int) (old.ins.take (k)) ⟨[], idsA R, [], 0⟩) t)).vals))), (10, (slO 6 ((((VW.step ((2 * R : Nat) : Int) (vfold ((2 * R : Nat) : Int) (old.ins.take (k)) ⟨[], idsA R, [], 0⟩) t)).effs).map (arrAV .i64))))] rfl Tryz.func133 (by kernel_rfl) rfl rfl rfl ⟨⟨_, rfl, z18q⟩, ⟨_, rfl, z18q⟩, ⟨_, rfl, z18q⟩, ⟨_, rfl, z18q⟩, ⟨_, rfl, z18q⟩, ⟨_, rfl, z18q⟩, trivial⟩ rfl (hres_cons rfl (hres_cons rfl (hres_cons rfl (hres_cons rfl (hres_cons rfl (hres_cons rfl (hres_nil _))))))) ⟨⟨_, rfl, rfl, z18q⟩, ⟨_, rfl, rfl, z18q⟩, ⟨_, rfl, rfl, z18q⟩, ⟨_, rfl, rfl, z18q⟩, ⟨_, rfl, rfl, z18q⟩, ⟨_, rfl, rfl, z18q⟩, trivial⟩ rfl) ?_
   refine an ?_
   refine AGo.region ?_
   refine aq 78 (q_inc rfl rfl hkl (show old.ins.length ≤ maxLen by simp only [maxLen]; omega)) ?_
   refine am 72 ?_
   refine an ?_
   exact ⟨k+1, Drop.mk' z15q z9q, hkl, by omega⟩
  ·
   refine acf ?_
   have hge : old.ins.length ≤ k := by have h := hb3; simp only [List.length_map, decide_eq_false_iff_not] at h; omega
   refine AGo.exit ?_
   refine AGo.seq ?_
   refine asr ?_
   refine aQ tok 4 rfl ?_
   refine an ?_
   refine AGo.block ?_
   refine AGo.loopD (γ := Nat) 12 (fun k => ⟨146, (eput (eput (eput (eput (eput (eput (eput (eput (eput (eput (eput eNew 2 (.int .i64 (R : Int))) 4 (.int .i64 i)) 5 (intsAV next)) 6 (.ptr 0 1 0 0)) 7 (.ptr 1 1 0 0)) 9 (.ptr 2 1 0 0)) 14 (.ptr 6 1 0 0)) 15 (.ptr 8 1 0 0)) 80 (insAV new.ins)) 81 (.int .i64 (new.ins.length : Int))) 82 (.int .i64 (k : Int))), (hput (hput (hput (hput (hput (hput (hput (hput (hput (hput (hput (hput (hFrom 12) 0 (.row false 5 [old.cells])) 1 (.row false 5 [new.cells])) 2 (.row false 1 [c.cells])) 3 (.map (kvsA .i64 (vmap ((2 * R : Nat) : Int) (((vfold ((2 * R : Nat) : Int) (new.ins.take (k)) ⟨(vrunA R old).K, idsB R (c.at' i), [], 0⟩)).K))))) 4 (.row false 3 [[.int .i64 ((2 * R : Nat) : Int), .map 3, slA 9 ((((vfold ((2 * R : Nat) : Int) (new.ins.take (k)) ⟨(vrunA R old).K, idsB R (c.at' i), [], 0⟩)).K).map (arrAV .i64))]])) 9 (slO 4 ((((vfold ((2 * R : Nat) : Int) (new.ins.take (k)) ⟨(vrunA R old).K, idsB R (c.at' i), [], 0⟩)).K).map (arrAV .i64)))) 8 (.row false 4 [[.ptr 4 1 0 0, vaA 7 (valC ((vfold ((2 * R : Nat) : Int) (new.ins.take (k)) ⟨(vrunA R old).K, idsB R (c.at' i), [], 0⟩)).vals), slA 11 ((((vfold ((2 * R : Nat) : Int) (new.ins.take (k)) ⟨(vrunA R old).K, idsB R (c.at' i), [], 0⟩)).effs).map (arrAV .i64)), .int .i64 (((vfold ((2 * R : Nat) : Int) (new.ins.take (k)) ⟨(vrunA R old).K, idsB R (c.at' i), [], 0⟩)).time)]])) 7 (vaO (valC ((vfold ((2 * R : Nat) : Int) (new.ins.take (k)) ⟨(vrunA R old).K, idsB R (c.at' i), [], 0⟩)).vals))) 11 (slO 6 ((((vfold ((2 * R : Nat) : Int) (new.ins.take (k)) ⟨(vrunA R old).K, idsB R (c.at' i), [], 0⟩)).effs).map (arrAV .i64)))) 6 (.row false 4 [[.ptr 4 1 0 0, vaA 5 (valC (vrunA R old).vals), slA 10 (((vrunA R old).effs).map (arrAV .i64)), .int .i64 ((vrunA R old).time)]])) 5 (vaO (valC (vrunA R old).vals))) 10 (slO 6 (((vrunA R old).effs).map (arrAV .i64))))⟩) (fun k => k ≤ new.ins.length) (fun k => new.ins.length - k) 0 (Sub.mk' z13q z5q) (Nat.zero_le _) (fun _ => hput_free (hput_free (hput_free (hput_free (hput_free (hput_free (hput_free (hput_free (hput_free (hput_free (hput_free (hput_free (fun b hb => hFrom_free hb) rfl) rfl) rfl) rfl) rfl) rfl) rfl) rfl) rfl) rfl) rfl) rfl) ?_
   intro k hk
   refine asr ?_
   refine aqb ?_
   refine an ?_
   refine AGo.seq ?_
   refine asp 83 (fun hb4 => ?_) fun hb4 => ?_
   ·
    refine act ?_
    have hkl : k < new.ins.length := by have h := hb4; simp only [List.length_map, decide_eq_true_eq] at h; omega
    obtain ⟨t, ht⟩ := get_of_lt hkl
    refine AGo.skip ?_;refine AGo.seq ?_;refine AGo.block ?_;refine asr ?_;refine aq 84 (qil tok (idx_map ht)) ?_;refine al 85 tok ?_;refine ax 20 (oal tok 12) ?_;refine AOps.w rfl rfl (o_store tok rfl rfl rfl rfl rfl rfl rfl rfl rfl (by decide) rfl z26q) ?_;refine an ?_;refine AGo.region ?_;refine al 86 tok ?_;refine ax 87 (oct (vstepb_ok ((2 * R : Nat) : Int) R _ (vfold ((2 * R : Nat) : Int) (new.ins.take (k)) ⟨(vrunA R old).K, idsB R (c.at' i), [], 0⟩) (vfold_okk (vok_b hoa _) hn k) (by omega) t (hn t (List.mem_of_getElem? ht))) [11, 7, 8, 9, 4, 3] [(3, (.map (kvsA .i64 (vmap ((2 * R : Nat) : Int) (((VW.step ((2 * R : Nat) : Int) (vfold ((2 * R : Nat) : Int) (new.ins.take (k)) ⟨(vrunA R old).K, idsB R (c.at' i), [], 0⟩) t)).K))))), (4, (.row false 3 [[.int .i64 ((2 * R : Nat) : Int), .map 3, slA 9 ((((VW.step ((2 * R : Nat) : Int) (vfold ((2 * R : Nat) : Int) (new.ins.take (k)) ⟨(vrunA R old).K, idsB R (c.at' i), [], 0⟩) t)).K).map (arrAV .i64))]])), (9, (slO 4 ((((VW.step ((2 * R : Nat) : Int) (vfold ((2 * R : Nat) : Int) (new.ins.take (k)) ⟨(vrunA R old).K, idsB R (c.at' i), [], 0⟩) t)).K).map (arrAV .i64)))), (8, (.row false 4 [[.ptr 4 1 0 0, vaA 7 (valC ((VW.step ((2 * R : Nat) : Int) (vfold ((2 * R : Nat) : Int) (new.ins.take (k)) ⟨(vrunA R old).K, idsB R (c.at' i), [], 0⟩) t)).vals), slA 11 ((((VW.step ((2 * R : Nat) : Int) (vfold ((2 * R : Nat) : Int) (new.ins.take (k)) ⟨(vrunA R old).K, idsB R (c.at' i), [], 0⟩) t)).effs).map (arrAV .i64)), .int .i64 (((VW.step ((2 * R : Nat) : Int) (vfold ((2 * R : Nat) : Int) (new.ins.take (k)) ⟨(vrunA R old).K, idsB R (c.at' i), [], 0⟩) t)).time)]])), (7, (vaO (valC ((VW.step ((2 * R : Nat) : Int) (vfold ((2 * R : Nat) : Int) (new.ins.take (k)) ⟨(vrunA R old).K, idsB R (c.at' i), [], 0⟩) t)).vals))), (11, (slO 6 ((((VW.step ((2 * R : Nat) : Int) (vfold ((2 * R : Nat) : Int) (new.ins.take (k)) ⟨(vrunA R old).K, idsB R (c.at' i), [], 0⟩) t)).effs).map (arrAV .i64))))] rfl Tryz.func133 (by kernel_rfl) rfl rfl rfl ⟨⟨_, rfl, z18q⟩, ⟨_, rfl, z18q⟩, ⟨_, rfl, z18q⟩, ⟨_, rfl, z18q⟩, ⟨_, rfl, z18q⟩, ⟨_, rfl, z18q⟩, trivial⟩ rfl (hres_cons rfl (hres_cons rfl (hres_cons rfl (hres_cons rfl (hres_cons rfl (hres_cons rfl (hres_nil _))))))) ⟨⟨_, rfl, rfl, z18q⟩, ⟨_, rfl, rfl, z18q⟩, ⟨_, rfl, rfl, z18q⟩, ⟨_, rfl, rfl, z18q⟩, ⟨_, rfl, rfl, z18q⟩, ⟨_, rfl, rfl, z18q⟩, trivial⟩ rfl) ?_
    refine an ?_;refine AGo.region ?_;refine aq 88 (q_inc rfl rfl hkl (show new.ins.length ≤ maxLen by simp only [maxLen]; omega)) ?_
    refine am 82 ?_;refine an ?_;exact ⟨k+1, Drop.mk' z15q z9q, hkl, by omega⟩
   ·
    refine acf ?_
    have hge : new.ins.length ≤ k := by have h := hb4; simp only [List.length_map, decide_eq_false_iff_not] at h; omega
    rw [vfold_end hge]
    refine AGo.exit ?_;refine AGo.seq ?_;refine asr ?_;refine aQ tok 4 rfl ?_;refine ax 93 (oct (effs_ok (vrunA R old).effs (vrunB R old new (c.at' i)).effs hoa.e6 hob.e6 (by have := hoa.el; omega)) [11, 10] [] rfl Tryz.func134 (by kernel_rfl) rfl rfl (by simp only [List.all_cons, List.all_nil, slA_avoid _ (show mem [11, 10] 10 = true from rfl), slA_avoid _ (show mem [11, 10] 11 = true from rfl)]; rfl) ⟨⟨_, rfl, z18q⟩, ⟨_, rfl, z18q⟩, trivial⟩ rfl (hres_cons rfl (hres_cons rfl (hres_nil _))) ⟨⟨_, rfl, rfl, z18q⟩, ⟨_, rfl, rfl, z18q⟩, trivial⟩ rfl) ?_;refine aq 94 (q_not rfl rfl) ?_;refine an ?_;refine asp 94 (fun hb5 => ?_) fun hb5 => ?_
    ·
     refine act ?_
     have hef := hb5
     refine asr ?_;refine aa 12 ?_;refine an ?_;refine AGo.ret ⟨[_], ⟨rfl, trivial⟩, ?_, rfl⟩
     show AV.bool _ = AV.bool _
     congr 1
     exact (vsame_no1 (ndec_no hef)).symm
    ·
     refine acf ?_
     have hef := hb5
     refine AGo.skip ?_;refine AGo.seq ?_;refine AGo.seq ?_;refine AGo.draw mix ?_;refine dQ tok 4 rfl ?_;refine DOps.split 98 rfl (fun hb6 => ?_) (fun hb6 => ?_)
     ·
      have hf2 : old.fin = 2 := by simpa using hb6
      have hxo := hoa.at (hv hf2).1
      have hxn := hob.at (hv hf2).2
      refine dQ tok 4 rfl ?_;refine dq 103 (q_indexV tok rfl rfl rfl rfl rfl rfl rfl rfl hxo.1 hxo.2.2.1) ?_;refine dq 104 (q_load tok rfl rfl rfl (ptsV rfl (valC_get ⟨hxo.1, hxo.2.1⟩)) rfl) ?_;refine dQ tok 4 rfl ?_;refine dq 109 (q_indexV tok rfl rfl rfl rfl rfl rfl rfl rfl hxn.1 hxn.2.2.1) ?_;refine dq 110 (q_load tok rfl rfl rfl (ptsV rfl (valC_get ⟨hxn.1, hxn.2.1⟩)) rfl) ?_;refine dQ tok 2 rfl ?_;refine DOps.nil (by kernel_rfl) ?_;refine asp 112 (fun hb7 => ?_) fun hb7 => ?_
      ·
       refine act ?_
       have hvf := hb7
       refine asr ?_;refine aa 12 ?_;refine an ?_;refine AGo.ret ⟨[_], ⟨rfl, trivial⟩, ?_, rfl⟩
       show AV.bool _ = AV.bool _
       congr 1
       exact (vsame_no2 hf2 (bne_ne' hvf)).symm
      ·
       refine acf ?_
       have hvf := hb7
       refine AGo.skip ?_;refine AGo.seq ?_;refine asr ?_;refine aQ tok 3 rfl ?_;refine an ?_;refine AGo.block ?_;refine AGo.loopD (γ := Nat) 12 (fun j => ⟨146, (eput (eput (eput (eput (eput (eput (eput (eput (eput (eput (eput eNew 2 (.int .i64 (R : Int))) 4 (.int .i64 i)) 5 (intsAV next)) 6 (.ptr 0 1 0 0)) 7 (.ptr 1 1 0 0)) 9 (.ptr 2 1 0 0)) 14 (.ptr 6 1 0 0)) 15 (.ptr 8 1 0 0)) 113 (intsAV next)) 114 (.int .i64 (next.length : Int))) 115 (.int .i64 (j : Int))), (hput (hput (hput (hput (hput (hput (hput (hput (hput (hput (hput (hput (hFrom 12) 0 (.row false 5 [old.cells])) 1 (.row false 5 [new.cells])) 2 (.row false 1 [c.cells])) 3 (.map (kvsA .i64 (vmap ((2 * R : Nat) : Int) (((vrunB R old new (c.at' i))).K))))) 4 (.row false 3 [[.int .i64 ((2 * R : Nat) : Int), .map 3, slA 9 ((((vrunB R old new (c.at' i))).K).map (arrAV .i64))]])) 9 (slO 4 ((((vrunB R old new (c.at' i))).K).map (arrAV .i64)))) 8 (.row false 4 [[.ptr 4 1 0 0, vaA 7 (valC ((vrunB R old new (c.at' i))).vals), slA 11 ((((vrunB R old new (c.at' i))).effs).map (arrAV .i64)), .int .i64 (((vrunB R old new (c.at' i))).time)]])) 7 (vaO (valC ((vrunB R old new (c.at' i))).vals))) 11 (slO 6 ((((vrunB R old new (c.at' i))).effs).map (arrAV .i64)))) 6 (.row false 4 [[.ptr 4 1 0 0, vaA 5 (valC (vrunA R old).vals), slA 10 (((vrunA R old).effs).map (arrAV .i64)), .int .i64 ((vrunA R old).time)]])) 5 (vaO (valC (vrunA R old).vals))) 10 (slO 6 (((vrunA R old).effs).map (arrAV .i64))))⟩) (fun j => j ≤ next.length ∧ (next.take j).all (fun k => vagree (vrunA R old) (vrunB R old new (c.at' i)) (c.at' k)) = true) (fun j => next.length - j) 0 (Sub.mk' z13q z5q) ⟨Nat.zero_le _, rfl⟩ (fun _ => hput_free (hput_free (hput_free (hput_free (hput_free (hput_free (hput_free (hput_free (hput_free (hput_free (hput_free (hput_free (fun b hb => hFrom_free hb) rfl) rfl) rfl) rfl) rfl) rfl) rfl) rfl) rfl) rfl) rfl) rfl) ?_
       intro j ⟨hj, hall⟩
       refine asr ?_;refine aqb ?_;refine an ?_;refine AGo.seq ?_;refine asp 116 (fun hb8 => ?_) fun hb8 => ?_
       ·
        refine act ?_
        have hjl : j < next.length := by have h := hb8; simp only [List.length_map, decide_eq_true_eq] at h; omega
        obtain ⟨nk, hnk⟩ := get_of_lt hjl
        have hkr := hnx nk (List.mem_of_getElem? hnk)
        obtain ⟨row2, hrow2⟩ := get_of_lt (l := c.same) (k := nk.toNat) (by omega)
        have hat2 : c.at' nk = row2 := by unfold Cert.at'; rw [hrow2]; rfl
        have hrl2 := hc row2 (List.mem_of_getElem? hrow2)
        refine AGo.skip ?_;refine AGo.seq ?_;refine AGo.block ?_;refine asr ?_;refine aq 117 (q_index_lst tok rfl rfl rfl rfl rfl rfl (Int.natCast_nonneg _) (idx_map hnk) rfl) ?_;refine aQ tok 2 rfl ?_;refine an ?_;refine asr ?_;refine aQ tok 3 rfl ?_;refine aq 122 (q_index_lst tok rfl rfl rfl rfl rfl rfl hkr.1 (by rw [List.getElem?_map, hrow2]; rfl) rfl) ?_;refine aQ tok 3 rfl ?_;refine an ?_;refine AGo.block ?_;refine AGo.loopD (γ := Nat) 12 (fun k => ⟨146, (eput (eput (eput (eput (eput (eput (eput (eput (eput (eput (eput (eput (eput (eput eNew 2 (.int .i64 (R : Int))) 4 (.int .i64 i)) 5 (intsAV next)) 6 (.ptr 0 1 0 0)) 7 (.ptr 1 1 0 0)) 9 (.ptr 2 1 0 0)) 14 (.ptr 6 1 0 0)) 15 (.ptr 8 1 0 0)) 113 (intsAV next)) 114 (.int .i64 (next.length : Int))) 115 (.int .i64 (j : Int))) 123 (boolsAV row2)) 124 (.int .i64 (row2.length : Int))) 125 (.int .i64 (k : Int))), (hput (hput (hput (hput (hput (hput (hput (hput (hput (hput (hput (hput (hFrom 12) 0 (.row false 5 [old.cells])) 1 (.row false 5 [new.cells])) 2 (.row false 1 [c.cells])) 3 (.map (kvsA .i64 (vmap ((2 * R : Nat) : Int) (((vrunB R old new (c.at' i))).K))))) 4 (.row false 3 [[.int .i64 ((2 * R : Nat) : Int), .map 3, slA 9 ((((vrunB R old new (c.at' i))).K).map (arrAV .i64))]])) 9 (slO 4 ((((vrunB R old new (c.at' i))).K).map (arrAV .i64)))) 8 (.row false 4 [[.ptr 4 1 0 0, vaA 7 (valC ((vrunB R old new (c.at' i))).vals), slA 11 ((((vrunB R old new (c.at' i))).effs).map (arrAV .i64)), .int .i64 (((vrunB R old new (c.at' i))).time)]])) 7 (vaO (valC ((vrunB R old new (c.at' i))).vals))) 11 (slO 6 ((((vrunB R old new (c.at' i))).effs).map (arrAV .i64)))) 6 (.row false 4 [[.ptr 4 1 0 0, vaA 5 (valC (vrunA R old).vals), slA 10 (((vrunA R old).effs).map (arrAV .i64)), .int .i64 ((vrunA R old).time)]])) 5 (vaO (valC (vrunA R old).vals))) 10 (slO 6 (((vrunA R old).effs).map (arrAV .i64))))⟩) (fun k => k ≤ row2.length ∧ vagreeTo (vrunA R old) (vrunB R old new (c.at' i)) row2 k) (fun k => row2.length - k) 0 (Sub.mk' z13q z6q) ⟨Nat.zero_le _, vagree_zero⟩ (fun _ => hput_free (hput_free (hput_free (hput_free (hput_free (hput_free (hput_free (hput_free (hput_free (hput_free (hput_free (hput_free (fun b hb => hFrom_free hb) rfl) rfl) rfl) rfl) rfl) rfl) rfl) rfl) rfl) rfl) rfl) rfl) ?_
        intro k ⟨hk, hagr⟩
        refine asr ?_;refine aqb ?_;refine an ?_;refine AGo.seq ?_;refine asp 126 (fun hb9 => ?_) fun hb9 => ?_
        ·
         refine act ?_
         have hkl : k < row2.length := by have h := hb9; simp only [List.length_map, decide_eq_true_eq] at h; omega
         obtain ⟨must, hmu⟩ := get_of_lt hkl
         refine AGo.skip ?_;refine AGo.seq ?_;refine AGo.block ?_;refine asr ?_;refine am 127 ?_;refine aq 128 (q_index_lst tok rfl rfl rfl rfl rfl rfl (Int.natCast_nonneg _) (idx_map hmu) rfl) ?_;refine aQ tok 3 rfl ?_;refine an ?_;refine AGo.seq ?_;refine AGo.draw mix ?_;refine dQ tok 2 rfl ?_;refine DOps.split 131 rfl (fun hb10 => ?_) (fun hb10 => ?_)
         ·
          have hmt : must = true := by simpa using hb10
          have hxv := hoa.at (z := (k : Int)) (by omega)
          have hyv := hob.at (z := (k : Int)) (by omega)
          refine dQ tok 3 rfl ?_;refine dq 135 (q_indexV tok rfl rfl rfl rfl rfl rfl rfl rfl hxv.1 hxv.2.2.1) ?_;refine dq 136 (q_load tok rfl rfl rfl (ptsV rfl (valC_get ⟨hxv.1, hxv.2.1⟩)) rfl) ?_;refine dQ tok 3 rfl ?_;refine dq 140 (q_indexV tok rfl rfl rfl rfl rfl rfl rfl rfl hyv.1 hyv.2.2.1) ?_;refine dq 141 (q_load tok rfl rfl rfl (ptsV rfl (valC_get ⟨hyv.1, hyv.2.1⟩)) rfl) ?_;refine dQ tok 2 rfl ?_;refine DOps.nil (by kernel_rfl) ?_;refine asp 143 (fun hb11 => ?_) fun hb11 => ?_
          ·
           refine act ?_
           have hag := hb11
           refine asr ?_;refine aa 12 ?_;refine an ?_;refine AGo.ret ⟨[_], ⟨rfl, trivial⟩, ?_, rfl⟩
           show AV.bool _ = AV.bool _
           congr 1
           exact (vsame_no3 hnk (by rw [hat2]; exact vagree_no hmu hmt (bne_ne' hag))).symm
          ·
           refine acf ?_
           have hag := hb11
           refine AGo.skip ?_;refine AGo.region ?_;refine aq 144 (q_inc rfl rfl hkl (show row2.length ≤ maxLen by simp only [maxLen]; omega)) ?_
           refine am 125 ?_;refine an ?_;exact ⟨k+1, Drop.mk' z15q z10q, ⟨hkl, vagree_succ hagr hmu z20q⟩, by omega⟩
         ·
          refine dQ tok 12 rfl ?_;refine DOps.nil (by kernel_rfl) ?_;refine acf ?_
          have hag := hb10
          refine AGo.skip ?_;refine AGo.region ?_;refine aq 144 (q_inc rfl rfl hkl (show row2.length ≤ maxLen by simp only [maxLen]; omega)) ?_
          refine am 125 ?_;refine an ?_;exact ⟨k+1, Drop.mk' z15q z10q, ⟨hkl, vagree_succ hagr hmu z20q⟩, by omega⟩
        ·
         refine acf ?_
         have hkge : row2.length ≤ k := by have h := hb9; simp only [List.length_map, decide_eq_false_iff_not] at h; omega
         refine AGo.exit ?_;refine AGo.region ?_;refine aq 145 (q_inc rfl rfl hjl (show next.length ≤ maxLen by simp only [maxLen]; omega)) ?_
         refine am 115 ?_;refine an ?_;exact ⟨j+1, Drop.mk' z15q z10q, ⟨hjl, all_succ hnk hall (by rw [hat2]; exact vagree_end hkge hagr)⟩, by omega⟩
       ·
        refine acf ?_
        have hjge : next.length ≤ j := by have h := hb8; simp only [List.length_map, decide_eq_false_iff_not] at h; omega
        refine AGo.exit ?_;refine asr ?_;refine aa 12 ?_;refine an ?_;refine AGo.ret ⟨[_], ⟨rfl, trivial⟩, ?_, rfl⟩
        show AV.bool _ = AV.bool _
        congr 1
        exact (vsame_yes (ndec_yes hef) (by first | exact fun _ => bne_eq' hvf | (exact fun hf => absurd hf (by simpa using hvf))) (all_end hall hjge)).symm
     ·
      refine dQ tok 14 rfl ?_;refine DOps.nil (by kernel_rfl) ?_;refine acf ?_
      have hvf := hb6
      refine AGo.skip ?_;refine AGo.seq ?_;refine asr ?_;refine aQ tok 3 rfl ?_;refine an ?_;refine AGo.block ?_;refine AGo.loopD (γ := Nat) 12 (fun j => ⟨146, (eput (eput (eput (eput (eput (eput (eput (eput (eput (eput (eput eNew 2 (.int .i64 (R : Int))) 4 (.int .i64 i)) 5 (intsAV next)) 6 (.ptr 0 1 0 0)) 7 (.ptr 1 1 0 0)) 9 (.ptr 2 1 0 0)) 14 (.ptr 6 1 0 0)) 15 (.ptr 8 1 0 0)) 113 (intsAV next)) 114 (.int .i64 (next.length : Int))) 115 (.int .i64 (j : Int))), (hput (hput (hput (hput (hput (hput (hput (hput (hput (hput (hput (hput (hFrom 12) 0 (.row false 5 [old.cells])) 1 (.row false 5 [new.cells])) 2 (.row false 1 [c.cells])) 3 (.map (kvsA .i64 (vmap ((2 * R : Nat) : Int) (((vrunB R old new (c.at' i))).K))))) 4 (.row false 3 [[.int .i64 ((2 * R : Nat) : Int), .map 3, slA 9 ((((vrunB R old new (c.at' i))).K).map (arrAV .i64))]])) 9 (slO 4 ((((vrunB R old new (c.at' i))).K).map (arrAV .i64)))) 8 (.row false 4 [[.ptr 4 1 0 0, vaA 7 (valC ((vrunB R old new (c.at' i))).vals), slA 11 ((((vrunB R old new (c.at' i))).effs).map (arrAV .i64)), .int .i64 (((vrunB R old new (c.at' i))).time)]])) 7 (vaO (valC ((vrunB R old new (c.at' i))).vals))) 11 (slO 6 ((((vrunB R old new (c.at' i))).effs).map (arrAV .i64)))) 6 (.row false 4 [[.ptr 4 1 0 0, vaA 5 (valC (vrunA R old).vals), slA 10 (((vrunA R old).effs).map (arrAV .i64)), .int .i64 ((vrunA R old).time)]])) 5 (vaO (valC (vrunA R old).vals))) 10 (slO 6 (((vrunA R old).effs).map (arrAV .i64))))⟩) (fun j => j ≤ next.length ∧ (next.take j).all (fun k => vagree (vrunA R old) (vrunB R old new (c.at' i)) (c.at' k)) = true) (fun j => next.length - j) 0 (Sub.mk' z13q z5q) ⟨Nat.zero_le _, rfl⟩ (fun _ => hput_free (hput_free (hput_free (hput_free (hput_free (hput_free (hput_free (hput_free (hput_free (hput_free (hput_free (hput_free (fun b hb => hFrom_free hb) rfl) rfl) rfl) rfl) rfl) rfl) rfl) rfl) rfl) rfl) rfl) rfl) ?_
      intro j ⟨hj, hall⟩
      refine asr ?_;refine aqb ?_;refine an ?_;refine AGo.seq ?_;refine asp 116 (fun hb12 => ?_) fun hb12 => ?_
      ·
       refine act ?_
       have hjl : j < next.length := by have h := hb12; simp only [List.length_map, decide_eq_true_eq] at h; omega
       obtain ⟨nk, hnk⟩ := get_of_lt hjl
       have hkr := hnx nk (List.mem_of_getElem? hnk)
       obtain ⟨row2, hrow2⟩ := get_of_lt (l := c.same) (k := nk.toNat) (by omega)
       have hat2 : c.at' nk = row2 := by unfold Cert.at'; rw [hrow2]; rfl
       have hrl2 := hc row2 (List.mem_of_getElem? hrow2)
       refine AGo.skip ?_;refine AGo.seq ?_;refine AGo.block ?_;refine asr ?_;refine aq 117 (q_index_lst tok rfl rfl rfl rfl rfl rfl (Int.natCast_nonneg _) (idx_map hnk) rfl) ?_;refine aQ tok 2 rfl ?_;refine an ?_;refine asr ?_;refine aQ tok 3 rfl ?_;refine aq 122 (q_index_lst tok rfl rfl rfl rfl rfl rfl hkr.1 (by rw [List.getElem?_map, hrow2]; rfl) rfl) ?_;refine aQ tok 3 rfl ?_;refine an ?_;refine AGo.block ?_;refine AGo.loopD (γ := Nat) 12 (fun k => ⟨146, (eput (eput (eput (eput (eput (eput (eput (eput (eput (eput (eput (eput (eput (eput eNew 2 (.int .i64 (R : Int))) 4 (.int .i64 i)) 5 (intsAV next)) 6 (.ptr 0 1 0 0)) 7 (.ptr 1 1 0 0)) 9 (.ptr 2 1 0 0)) 14 (.ptr 6 1 0 0)) 15 (.ptr 8 1 0 0)) 113 (intsAV next)) 114 (.int .i64 (next.length : Int))) 115 (.int .i64 (j : Int))) 123 (boolsAV row2)) 124 (.int .i64 (row2.length : Int))) 125 (.int .i64 (k : Int))), (hput (hput (hput (hput (hput (hput (hput (hput (hput (hput (hput (hput (hFrom 12) 0 (.row false 5 [old.cells])) 1 (.row false 5 [new.cells])) 2 (.row false 1 [c.cells])) 3 (.map (kvsA .i64 (vmap ((2 * R : Nat) : Int) (((vrunB R old new (c.at' i))).K))))) 4 (.row false 3 [[.int .i64 ((2 * R : Nat) : Int), .map 3, slA 9 ((((vrunB R old new (c.at' i))).K).map (arrAV .i64))]])) 9 (slO 4 ((((vrunB R old new (c.at' i))).K).map (arrAV .i64)))) 8 (.row false 4 [[.ptr 4 1 0 0, vaA 7 (valC ((vrunB R old new (c.at' i))).vals), slA 11 ((((vrunB R old new (c.at' i))).effs).map (arrAV .i64)), .int .i64 (((vrunB R old new (c.at' i))).time)]])) 7 (vaO (valC ((vrunB R old new (c.at' i))).vals))) 11 (slO 6 ((((vrunB R old new (c.at' i))).effs).map (arrAV .i64)))) 6 (.row false 4 [[.ptr 4 1 0 0, vaA 5 (valC (vrunA R old).vals), slA 10 (((vrunA R old).effs).map (arrAV .i64)), .int .i64 ((vrunA R old).time)]])) 5 (vaO (valC (vrunA R old).vals))) 10 (slO 6 (((vrunA R old).effs).map (arrAV .i64))))⟩) (fun k => k ≤ row2.length ∧ vagreeTo (vrunA R old) (vrunB R old new (c.at' i)) row2 k) (fun k => row2.length - k) 0 (Sub.mk' z13q z6q) ⟨Nat.zero_le _, vagree_zero⟩ (fun _ => hput_free (hput_free (hput_free (hput_free (hput_free (hput_free (hput_free (hput_free (hput_free (hput_free (hput_free (hput_free (fun b hb => hFrom_free hb) rfl) rfl) rfl) rfl) rfl) rfl) rfl) rfl) rfl) rfl) rfl) rfl) ?_
       intro k ⟨hk, hagr⟩
       refine asr ?_;refine aqb ?_;refine an ?_;refine AGo.seq ?_;refine asp 126 (fun hb13 => ?_) fun hb13 => ?_
       ·
        refine act ?_
        have hkl : k < row2.length := by have h := hb13; simp only [List.length_map, decide_eq_true_eq] at h; omega
        obtain ⟨must, hmu⟩ := get_of_lt hkl
        refine AGo.skip ?_;refine AGo.seq ?_;refine AGo.block ?_;refine asr ?_;refine am 127 ?_;refine aq 128 (q_index_lst tok rfl rfl rfl rfl rfl rfl (Int.natCast_nonneg _) (idx_map hmu) rfl) ?_;refine aQ tok 3 rfl ?_;refine an ?_;refine AGo.seq ?_;refine AGo.draw mix ?_;refine dQ tok 2 rfl ?_;refine DOps.split 131 rfl (fun hb14 => ?_) (fun hb14 => ?_)
        ·
         have hmt : must = true := by simpa using hb14
         have hxv := hoa.at (z := (k : Int)) (by omega)
         have hyv := hob.at (z := (k : Int)) (by omega)
         refine dQ tok 3 rfl ?_;refine dq 135 (q_indexV tok rfl rfl rfl rfl rfl rfl rfl rfl hxv.1 hxv.2.2.1) ?_;refine dq 136 (q_load tok rfl rfl rfl (ptsV rfl (valC_get ⟨hxv.1, hxv.2.1⟩)) rfl) ?_;refine dQ tok 3 rfl ?_;refine dq 140 (q_indexV tok rfl rfl rfl rfl rfl rfl rfl rfl hyv.1 hyv.2.2.1) ?_;refine dq 141 (q_load tok rfl rfl rfl (ptsV rfl (valC_get ⟨hyv.1, hyv.2.1⟩)) rfl) ?_;refine dQ tok 2 rfl ?_;refine DOps.nil (by kernel_rfl) ?_;refine asp 143 (fun hb15 => ?_) fun hb15 => ?_
         ·
          refine act ?_
          have hag := hb15
          refine asr ?_;refine aa 12 ?_;refine an ?_;refine AGo.ret ⟨[_], ⟨rfl, trivial⟩, ?_, rfl⟩
          show AV.bool _ = AV.bool _
          congr 1
          exact (vsame_no3 hnk (by rw [hat2]; exact vagree_no hmu hmt (bne_ne' hag))).symm
         ·
          refine acf ?_
          have hag := hb15
          refine AGo.skip ?_;refine AGo.region ?_;refine aq 144 (q_inc rfl rfl hkl (show row2.length ≤ maxLen by simp only [maxLen]; omega)) ?_
          refine am 125 ?_;refine an ?_;exact ⟨k+1, Drop.mk' z15q z10q, ⟨hkl, vagree_succ hagr hmu z20q⟩, by omega⟩
        ·
         refine dQ tok 12 rfl ?_;refine DOps.nil (by kernel_rfl) ?_;refine acf ?_
         have hag := hb14
         refine AGo.skip ?_;refine AGo.region ?_;refine aq 144 (q_inc rfl rfl hkl (show row2.length ≤ maxLen by simp only [maxLen]; omega)) ?_
         refine am 125 ?_;refine an ?_;exact ⟨k+1, Drop.mk' z15q z10q, ⟨hkl, vagree_succ hagr hmu z20q⟩, by omega⟩
       ·
        refine acf ?_
        have hkge : row2.length ≤ k := by have h := hb13; simp only [List.length_map, decide_eq_false_iff_not] at h; omega
        refine AGo.exit ?_;refine AGo.region ?_;refine aq 145 (q_inc rfl rfl hjl (show next.length ≤ maxLen by simp only [maxLen]; omega)) ?_
        refine am 115 ?_;refine an ?_;exact ⟨j+1, Drop.mk' z15q z10q, ⟨hjl, all_succ hnk hall (by rw [hat2]; exact vagree_end hkge hagr)⟩, by omega⟩
      ·
       refine acf ?_
       have hjge : next.length ≤ j := by have h := hb12; simp only [List.length_map, decide_eq_false_iff_not] at h; omega
       refine AGo.exit ?_;refine asr ?_;refine aa 12 ?_;refine an ?_;refine AGo.ret ⟨[_], ⟨rfl, trivial⟩, ?_, rfl⟩
       show AV.bool _ = AV.bool _
       congr 1
       exact (vsame_yes (ndec_yes hef) (by first | exact fun _ => bne_eq' hvf | (exact fun hf => absurd hf (by simpa using hvf))) (all_end hall hjge)).symm
set_option maxHeartbeats 1000000 in
set_option maxRecDepth 100000 in
theorem shaped_ok (old new : BFunc) (hno : old.blocks.length ≤ 10000) (hnn : new.blocks.length ≤ 10000) (hio : ∀ x ∈ old.blocks, x.ins.length ≤ 10000 ∧ insW x.ins) (hin : ∀ x ∈ new.blocks, x.ins.length ≤ 10000 ∧ insW x.ins) : APure Tryz.prog 130 [.agg old.cells, .agg new.cells] (fun r => r = .bool (vshaped old new)) := by
 refine APure.of_body (n := 65) tok Tryz.func130 rfl rfl ?_
 refine asr ?_
 refine ax 2 (obx 2 0) ?_
 refine ax 3 (obx 2 1) ?_
 refine aa 4 ?_
 refine an ?_
 refine AGo.seq ?_
 refine asr ?_
 refine aQ tok 6 rfl ?_
 refine aop 13 (fun hb1 => ?_) fun hb1 => ?_
 ·
  refine aQ tok 18 rfl ?_
  refine an ?_
  refine act ?_
  refine asr ?_
  refine aa 4 ?_
  refine an ?_
  refine AGo.ret ⟨[_], ⟨rfl, trivial⟩, ?_, rfl⟩
  show AV.bool _ = AV.bool _
  congr 1
  first
  | exact (vshaped_regs (by assumption)).symm
  | exact (vshaped_len' (by assumption)).symm
  | exact (vshaped_s1 (ndec_same' (b := old.stands) (by assumption))).symm
  | exact (vshaped_s2 (ndec_same' (b := new.stands) (by assumption))).symm
 ·
  refine aQ tok 9 rfl ?_
  refine aop 22 (fun hb2 => ?_) fun hb2 => ?_
  ·
   refine aQ tok 9 rfl ?_
   refine an ?_
   refine act ?_
   refine asr ?_
   refine aa 4 ?_
   refine an ?_
   refine AGo.ret ⟨[_], ⟨rfl, trivial⟩, ?_, rfl⟩
   show AV.bool _ = AV.bool _
   congr 1
   first
   | exact (vshaped_regs (by assumption)).symm
   | exact (vshaped_len' (by assumption)).symm
   | exact (vshaped_s1 (ndec_same' (b := old.stands) (by assumption))).symm
   | exact (vshaped_s2 (ndec_same' (b := new.stands) (by assumption))).symm
  ·
   refine al 23 tok ?_
   refine ax 24 (opu Tryz.func132 (stands_ok old (by omega) (fun x hx => by have := (hio x hx).1; omega))) ?_
   refine aQ tok 3 rfl ?_
   refine aop 27 (fun hb3 => ?_) fun hb3 => ?_
   ·
    refine aQ tok 4 rfl ?_;refine an ?_;refine act ?_;refine asr ?_;refine aa 4 ?_;refine an ?_;refine AGo.ret ⟨[_], ⟨rfl, trivial⟩, ?_, rfl⟩
    show AV.bool _ = AV.bool _
    congr 1
    first
    | exact (vshaped_regs (by assumption)).symm
    | exact (vshaped_len' (by assumption)).symm
    | exact (vshaped_s1 (ndec_same' (b := old.stands) (by assumption))).symm
    | exact (vshaped_s2 (ndec_same' (b := new.stands) (by assumption))).symm
   ·
    refine al 28 tok ?_;refine ax 29 (opu Tryz.func132 (stands_ok new (by omega) (fun x hx => by have := (hin x hx).1; omega))) ?_
    refine aQ tok 2 rfl ?_;refine an ?_;refine asp 31 (fun hb4 => ?_) fun hb4 => ?_
    ·
     refine act ?_;refine asr ?_;refine aa 4 ?_;refine an ?_;refine AGo.ret ⟨[_], ⟨rfl, trivial⟩, ?_, rfl⟩
     show AV.bool _ = AV.bool _
     congr 1
     first
     | exact (vshaped_regs (by assumption)).symm
     | exact (vshaped_len' (by assumption)).symm
     | exact (vshaped_s1 (ndec_same' (b := old.stands) (by assumption))).symm
     | exact (vshaped_s2 (ndec_same' (b := new.stands) (by assumption))).symm
    ·
     refine acf ?_
     have hlen := len_eq' (by assumption)
     refine AGo.skip ?_;refine AGo.seq ?_;refine asr ?_;refine aQ tok 4 rfl ?_;refine an ?_;refine AGo.block ?_;refine AGo.loopD (γ := Nat) 2 (fun k => ⟨65, (eput (eput (eput (eput (eput eNew 2 (.ptr 0 1 0 0)) 3 (.ptr 1 1 0 0)) 33 (blocksAV old.blocks)) 34 (.int .i64 (old.blocks.length : Int))) 35 (.int .i64 (k : Int))), (hput (hput (hFrom 2) 0 (.row false 2 [old.cells])) 1 (.row false 2 [new.cells]))⟩) (fun k => k ≤ old.blocks.length ∧ ((old.blocks.zip new.blocks).take k).all (fun p => shapeB p.1 p.2) = true) (fun k => old.blocks.length - k) 0 (Sub.mk' z13q z6q) ⟨Nat.zero_le _, rfl⟩ (fun _ => hput_free (hput_free (fun b hb => hFrom_free hb) rfl) rfl) ?_
     intro k ⟨hk, hall⟩
     refine asr ?_;refine aqb ?_;refine an ?_;refine AGo.seq ?_;refine asp 36 (fun hb5 => ?_) fun hb5 => ?_
     ·
      refine act ?_
      have hkl : k < old.blocks.length := by simpa using hb5
      obtain ⟨x, hx⟩ := get_of_lt hkl
      obtain ⟨y, hy⟩ := get_of_lt (l := new.blocks) (k := k) (by omega)
      refine AGo.skip ?_;refine AGo.seq ?_;refine AGo.block ?_;refine asr ?_;refine am 37 ?_;refine aq 38 (qil tok (idx_map hx)) ?_;refine al 39 tok ?_;refine ax 6 (oal tok 2) ?_;refine aa 5 ?_;refine AOps.w rfl rfl (o_store tok rfl rfl rfl rfl rfl rfl rfl rfl rfl (by decide) rfl z26q) ?_;refine an ?_;refine asr ?_;refine aQ tok 3 rfl ?_;refine aq 43 (qil tok (idx_map hy)) ?_;refine al 44 tok ?_;refine ax 7 (oal tok 3) ?_;refine AOps.w rfl rfl (o_store tok rfl rfl rfl rfl rfl rfl rfl rfl rfl (by decide) rfl z26q) ?_;refine an ?_;refine asr ?_;refine aQ tok 6 rfl ?_;refine aop 50 (fun hb6 => ?_) fun hb6 => ?_
      ·
       refine aQ tok 13 rfl ?_;refine an ?_;refine act ?_;refine asr ?_;refine aa 4 ?_;refine an ?_;refine AGo.ret ⟨[_], ⟨rfl, trivial⟩, ?_, rfl⟩
       show AV.bool _ = AV.bool _
       congr 1
       first
       | exact (vshaped_b hx hy (shape_f (by assumption))).symm
       | exact (vshaped_b hx hy (shape_t (by assumption))).symm
       | exact (vshaped_b hx hy (shape_e (by assumption))).symm
      ·
       refine aQ tok 7 rfl ?_;refine aop 57 (fun hb7 => ?_) fun hb7 => ?_
       ·
        refine aQ tok 6 rfl ?_;refine an ?_;refine act ?_;refine asr ?_;refine aa 4 ?_;refine an ?_;refine AGo.ret ⟨[_], ⟨rfl, trivial⟩, ?_, rfl⟩
        show AV.bool _ = AV.bool _
        congr 1
        first
        | exact (vshaped_b hx hy (shape_f (by assumption))).symm
        | exact (vshaped_b hx hy (shape_t (by assumption))).symm
        | exact (vshaped_b hx hy (shape_e (by assumption))).symm
       ·
        refine aQ tok 6 rfl ?_;refine an ?_;refine asp 63 (fun hb8 => ?_) fun hb8 => ?_
        ·
         refine act ?_;refine asr ?_;refine aa 4 ?_;refine an ?_;refine AGo.ret ⟨[_], ⟨rfl, trivial⟩, ?_, rfl⟩
         show AV.bool _ = AV.bool _
         congr 1
         first
         | exact (vshaped_b hx hy (shape_f (by assumption))).symm
         | exact (vshaped_b hx hy (shape_t (by assumption))).symm
         | exact (vshaped_b hx hy (shape_e (by assumption))).symm
        ·
         refine acf ?_;refine AGo.skip ?_;refine AGo.region ?_;refine aq 64 (q_inc rfl rfl hkl (show old.blocks.length ≤ maxLen by simp only [maxLen]; omega)) ?_
         refine am 35 ?_;refine an ?_;exact ⟨k+1, Drop.mk' z15q z10q, ⟨hkl, all_succ (zip_at hx hy) hall (shape_y (by assumption) (by assumption) (by assumption))⟩, by omega⟩
     ·
      refine acf ?_
      have hge : old.blocks.length ≤ k := by simpa using hb5
      refine AGo.exit ?_;refine asr ?_;refine aa 4 ?_;refine an ?_;refine AGo.ret ⟨[_], ⟨rfl, trivial⟩, ?_, rfl⟩
      show AV.bool _ = AV.bool _
      congr 1
      exact (vshaped_yes (bne_eq' (by assumption)) hlen (ndec_same (by assumption)) (ndec_same (by assumption)) (all_end hall (by rw [List.length_zip]; omega))).symm
set_option maxHeartbeats 1000000 in
set_option maxRecDepth 100000 in
theorem vcheck_ok (old new : BFunc) (hno : old.blocks.length ≤ 10000) (hnn : new.blocks.length ≤ 10000) (hio : ∀ x ∈ old.blocks, x.ins.length ≤ 10000 ∧ insW x.ins) (hin : ∀ x ∈ new.blocks, x.ins.length ≤ 10000 ∧ insW x.ins) (c : Cert) : APure Tryz.prog 129 [.agg old.cells, .agg new.cells, .agg c.cells] (fun r => r = .bool (vcheck old new c)) := by
 refine APure.of_body (n := 66) tok Tryz.func129 rfl rfl ?_
 refine asr ?_
 refine ax 3 (obx 2 0) ?_
 refine ax 4 (obx 2 1) ?_
 refine ax 5 (obx 1 2) ?_
 refine aa 6 ?_
 refine an ?_
 refine AGo.seq ?_
 refine asr ?_
 refine aQ tok 2 rfl ?_
 refine ax 13 (opu Tryz.func130 (shaped_ok old new hno hnn hio hin)) ?_
 refine aQ tok 2 rfl ?_
 refine aop 15 (fun hb1 => ?_) fun hb1 => ?_
 ·
  refine aQ tok 8 rfl ?_
  refine an ?_
  refine act ?_
  refine asr ?_
  refine aa 6 ?_
  refine an ?_
  refine AGo.ret ⟨[_], ⟨rfl, trivial⟩, ?_, rfl⟩
  show AV.bool _ = AV.bool _
  congr 1
  first
  | exact (vcheck_no1 (ndec_same' (b := vshaped old new) (by assumption))).symm
  | exact (vcheck_no2 (by assumption)).symm
 ·
  refine aQ tok 8 rfl ?_
  refine an ?_
  refine asp 23 (fun hb2 => ?_) fun hb2 => ?_
  ·
   refine act ?_
   refine asr ?_
   refine aa 6 ?_
   refine an ?_
   refine AGo.ret ⟨[_], ⟨rfl, trivial⟩, ?_, rfl⟩
   show AV.bool _ = AV.bool _
   congr 1
   first
   | exact (vcheck_no1 (ndec_same' (b := vshaped old new) (by assumption))).symm
   | exact (vcheck_no2 (by assumption)).symm
  ·
   refine acf ?_
   have hsh : vshaped old new = true := ndec_same (by assumption)
   have hcl := cert_len (old := old) (c := c) (by assumption)
   have hV := vshaped_of hsh
   have hSo := stands_of hV.so
   have hSn := stands_of hV.sn
   have hr0 := hSo.r0
   have hr1 := hSo.r1
   have hR : ((old.regs.toNat : Nat) : Int) = old.regs := Int.toNat_of_nonneg hr0
   refine AGo.skip ?_
   refine AGo.seq ?_
   refine asr ?_
   refine aQ tok 4 rfl ?_
   refine an ?_
   refine AGo.block ?_
   refine AGo.loopD (γ := Nat) 3 (fun j => ⟨66, (eput (eput (eput (eput (eput (eput eNew 3 (.ptr 0 1 0 0)) 4 (.ptr 1 1 0 0)) 5 (.ptr 2 1 0 0)) 25 (rowsAV c.same)) 26 (.int .i64 (c.same.length : Int))) 27 (.int .i64 (j : Int))), (hput (hput (hput (hFrom 3) 0 (.row false 2 [old.cells])) 1 (.row false 2 [new.cells])) 2 (.row false 1 [c.cells]))⟩) (fun j => j ≤ c.same.length ∧ (c.same.take j).all (fun r => decide ((r.length : Int) = old.regs)) = true) (fun j => c.same.length - j) 0 (Sub.mk' z13q z6q) ⟨Nat.zero_le _, rfl⟩ (fun _ => hput_free (hput_free (hput_free (fun b hb => hFrom_free hb) rfl) rfl) rfl) ?_
   intro j ⟨hj, hall⟩
   refine asr ?_
   refine aqb ?_
   refine an ?_
   refine AGo.seq ?_
   refine asp 28 (fun hb3 => ?_) fun hb3 => ?_
   ·
    refine act ?_
    have hjl : j < c.same.length := by have h := hb3; simp only [List.length_map, decide_eq_true_eq] at h; omega
    obtain ⟨r, hr⟩ := get_of_lt hjl
    refine AGo.skip ?_;refine AGo.seq ?_;refine AGo.block ?_;refine asr ?_;refine aq 29 (qil tok (idx_map hr)) ?_;refine aQ tok 2 rfl ?_;refine an ?_;refine asr ?_;refine aQ tok 5 rfl ?_;refine an ?_;refine asp 35 (fun hb4 => ?_) fun hb4 => ?_
    ·
     refine act ?_
     have hne : ¬ (r.length : Int) = old.regs := by have h := bne_ne' hb4; rw [List.length_map] at h; exact h
     refine asr ?_;refine aa 6 ?_;refine an ?_;refine AGo.ret ⟨[_], ⟨rfl, trivial⟩, ?_, rfl⟩
     show AV.bool _ = AV.bool _
     congr 1
     exact (vcheck_no3 hr hne).symm
    ·
     refine acf ?_
     have heq : (r.length : Int) = old.regs := by have h := bne_eq' hb4; rw [List.length_map] at h; exact h
     refine AGo.skip ?_;refine AGo.region ?_;refine aq 36 (q_inc rfl rfl hjl (show c.same.length ≤ maxLen by simp only [maxLen]; omega)) ?_
     refine am 27 ?_;refine an ?_;exact ⟨j+1, Drop.mk' z15q z10q, ⟨hjl, all_succ hr hall (decide_eq_true heq)⟩, by omega⟩
   ·
    refine acf ?_
    have hjge : c.same.length ≤ j := by have h := hb3; simp only [List.length_map, decide_eq_false_iff_not] at h; omega
    have hall2 := all_end hall hjge
    have hrl : ∀ r ∈ c.same, r.length = old.regs.toNat := fun r hr => by have := List.all_eq_true.1 hall2 r hr; simp only [decide_eq_true_eq] at this; omega
    refine AGo.exit ?_;refine asr ?_;refine al 37 tok ?_;refine ax 38 (opu Tryz.func80 (next_ok old (by omega))) ?_;refine aa 9 ?_;refine an ?_;refine AGo.seq ?_;refine asr ?_;refine aQ tok 4 rfl ?_;refine an ?_;refine AGo.block ?_;refine AGo.loopD (γ := Nat) 3 (fun k => ⟨66, (eput (eput (eput (eput (eput (eput eNew 3 (.ptr 0 1 0 0)) 4 (.ptr 1 1 0 0)) 5 (.ptr 2 1 0 0)) 9 (pathsAV old.nexts)) 41 (.int .i64 (old.blocks.length : Int))) 42 (.int .i64 (k : Int))), (hput (hput (hput (hFrom 3) 0 (.row false 2 [old.cells])) 1 (.row false 2 [new.cells])) 2 (.row false 1 [c.cells]))⟩) (fun k => k ≤ old.blocks.length ∧ ((old.blocks.zip new.blocks).zipIdx.take k).all (fun p => vsame old.regs.toNat p.1.1 p.1.2 c (p.2 : Int) p.1.1.nexts) = true) (fun k => old.blocks.length - k) 0 (Sub.mk' z13q z6q) ⟨Nat.zero_le _, rfl⟩ (fun _ => hput_free (hput_free (hput_free (fun b hb => hFrom_free hb) rfl) rfl) rfl) ?_
    intro k ⟨hk, hallb⟩
    refine asr ?_;refine aqb ?_;refine an ?_;refine AGo.seq ?_;refine asp 43 (fun hb5 => ?_) fun hb5 => ?_
    ·
     refine act ?_
     have hkl : k < old.blocks.length := by simpa using hb5
     obtain ⟨x, hx⟩ := get_of_lt hkl
     have hxm := List.mem_of_getElem? hx
     obtain ⟨y, hy⟩ := get_of_lt (l := new.blocks) (k := k) (by have := hV.len; omega)
     have hym := List.mem_of_getElem? hy
     have hsb := hV.b k x y hx hy
     have hnx : ∀ q ∈ x.nexts, 0 ≤ q ∧ q < c.same.length := fun q hq => by rw [hcl]; exact hSo.next x hxm q hq
     have hvv : x.fin = 2 → (0 ≤ x.v ∧ x.v < (old.regs.toNat : Int)) ∧ (0 ≤ y.v ∧ y.v < (old.regs.toNat : Int)) := fun hf => by rw [hR]; refine ⟨hSo.v x hxm hf, ?_⟩; rw [hV.regs]; exact hSn.v y hym (by rw [← hsb.1]; exact hf)
     have hto : ∀ t ∈ x.ins, TacV t old.regs.toNat := fun t ht => hSo.tacs x hxm t ht ((hio x hxm).2 t ht)
     have htn : ∀ t ∈ y.ins, TacV t old.regs.toNat := fun t ht => by rw [hV.regs]; exact hSn.tacs y hym t ht ((hin y hym).2 t ht)
     have hnl : x.nexts.length ≤ 100000 := nexts_short x
     refine AGo.skip ?_;refine AGo.seq ?_;refine AGo.block ?_;refine asr ?_;refine aQ tok 2 rfl ?_;refine an ?_;refine AGo.seq ?_;refine AGo.draw mix ?_;refine dQ tok 3 rfl ?_;refine dq 48 (qil tok (idx_map hx)) ?_;refine dQ tok 4 rfl ?_;refine dq 53 (qil tok (idx_map hy)) ?_;refine dQ tok 7 rfl ?_;refine dq 61 (q_index_lst tok rfl rfl rfl rfl rfl rfl (Int.natCast_nonneg _) (idx_map (nexts_get hx)) rfl) ?_;refine dl 62 tok ?_;refine dx 63 (opu Tryz.func131 ((by have h := vsame_ok x y old.regs.toNat c (k : Int) x.nexts (by omega) hrl (by omega) hnx hvv hto htn (hio x (List.mem_of_getElem? hx)).1 (hin y (List.mem_of_getElem? hy)).1 hnl; rw [hR] at h; exact h))) ?_;refine dq 64 (q_not rfl rfl) ?_;refine DOps.nil (by kernel_rfl) ?_;refine asp 64 (fun hb6 => ?_) fun hb6 => ?_
     ·
      refine act ?_
      have hbad := ndec_same' hb6
      refine asr ?_;refine aa 6 ?_;refine an ?_;refine AGo.ret ⟨[_], ⟨rfl, trivial⟩, ?_, rfl⟩
      show AV.bool _ = AV.bool _
      congr 1
      exact (vcheck_no4 hx hy hbad).symm
     ·
      refine acf ?_
      have hgood := ndec_same hb6
      refine AGo.skip ?_;refine AGo.region ?_;refine aq 65 (q_inc rfl rfl hkl (show old.blocks.length ≤ maxLen by simp only [maxLen]; omega)) ?_
      refine am 42 ?_;refine an ?_;exact ⟨k+1, Drop.mk' z15q z10q, ⟨hkl, all_succ (zipIdx_get (zip_at hx hy)) hallb hgood⟩, by omega⟩
    ·
     refine acf ?_
     have hge : old.blocks.length ≤ k := by simpa using hb5
     refine AGo.exit ?_;refine asr ?_;refine aa 6 ?_;refine an ?_;refine AGo.ret ⟨[_], ⟨rfl, trivial⟩, ?_, rfl⟩
     show AV.bool _ = AV.bool _
     congr 1
     exact (vcheck_yes hsh hcl hall2 (all_end hallb (by rw [List.length_zipIdx, List.length_zip]; omega))).symm
set_option maxRecDepth 100000 in
theorem equal_ok (l r : List Tac) (hl : l.length ≤ 1000000000) : APure Tryz.prog 152 [insAV l, insAV r] (fun q => q = .bool (decide (l = r))) := by
 refine APure.of_body (n := 26) tok Tryz.func152 rfl rfl ?_
 refine asr ?_
 refine aa 4 ?_
 refine an ?_
 refine AGo.seq ?_
 refine asr ?_
 refine aQ tok 5 rfl ?_
 refine an ?_
 refine asp 10 (fun hb1 => ?_) fun hb1 => ?_
 ·
  refine act ?_
  refine asr ?_
  refine aa 4 ?_
  refine an ?_
  refine AGo.ret ⟨[_], ⟨rfl, trivial⟩, ?_, rfl⟩
  show AV.bool _ = AV.bool _
  congr 1
  exact (decide_eq_false (by rintro rfl; simp_all)).symm
 ·
  refine acf ?_
  have hlr : l.length = r.length := by have h := hb1; simp at h; omega
  refine AGo.skip ?_
  refine AGo.seq ?_
  refine asr ?_
  refine aQ tok 3 rfl ?_
  refine an ?_
  refine AGo.block ?_
  refine AGo.loopI (γ := Nat) (fun k => ⟨26, (eput (eput (eput (eput (eput eNew 0 (insAV l)) 1 (insAV r)) 11 (insAV l)) 12 (.int .i64 (l.length : Int))) 13 (.int .i64 (k : Int))), hNone⟩) (fun k => l.take k = r.take k) (fun k => l.length - k) 0 (Sub.mk' z13q z6q) rfl ?_
  intro k ht
  refine asr ?_
  refine aqb ?_
  refine an ?_
  refine AGo.seq ?_
  refine asp 14 (fun hb2 => ?_) fun hb2 => ?_
  ·
   refine act ?_
   have hkl : k < l.length := by simpa using hb2
   obtain ⟨x, hx⟩ := get_of_lt hkl
   obtain ⟨y, hy⟩ := get_of_lt (l := r) (k := k) (by omega)
   refine AGo.skip ?_
   refine AGo.seq ?_
   refine AGo.block ?_
   refine asr ?_
   refine aQ tok 2 rfl ?_
   refine an ?_
   refine AGo.seq ?_
   refine AGo.draw mix ?_
   refine dQ tok 2 rfl ?_
   refine dq 18 (q_index_lst tok rfl rfl rfl rfl rfl rfl (Int.natCast_nonneg _) (idx_map (by assumption)) rfl) ?_
   refine dQ tok 3 rfl ?_
   refine dq 22 (q_index_lst tok rfl rfl rfl rfl rfl rfl (Int.natCast_nonneg _) (idx_map (by assumption)) rfl) ?_
   refine dl 23 tok ?_
   refine dq 24 (q_eqStruct tok true rfl rfl rfl (by kernel_rfl) rfl rfl rfl rfl (Tac.eqCells x y)) ?_
   refine DOps.nil (by kernel_rfl) ?_
   refine asp 24 (fun hb3 => ?_) fun hb3 => ?_
   ·
    refine act ?_
    have hxy : x ≠ y := by simpa using hb3
    refine asr ?_;refine aa 4 ?_;refine an ?_;refine AGo.ret ⟨[_], ⟨rfl, trivial⟩, ?_, rfl⟩
    show AV.bool _ = AV.bool _
    congr 1
    exact (decide_eq_false (by rintro rfl; rw [hx] at hy; cases hy; exact hxy rfl)).symm
   ·
    refine acf ?_
    have hxy : x = y := by simpa using hb3
    refine AGo.skip ?_;refine AGo.region ?_;refine aq 25 (q_inc rfl rfl hkl (by simp only [maxLen]; omega)) ?_;refine am 13 ?_;refine an ?_;exact ⟨k+1, Sub.mk' z23q z6q, (by rw [take_succ_eq hx, take_succ_eq hy, ht, hxy]), by omega⟩
  ·
   refine acf ?_
   have hge : l.length ≤ k := by simpa using hb2
   refine AGo.exit ?_
   refine asr ?_
   refine aa 4 ?_
   refine an ?_
   refine AGo.ret ⟨[_], ⟨rfl, trivial⟩, ?_, rfl⟩
   show AV.bool _ = AV.bool _
   congr 1
   exact (decide_eq_true (take_all ht hge (hlr ▸ hge))).symm
set_option maxRecDepth 100000 in
theorem follows_ok (f : BFunc) (p : List Int) (hp : inF f.blocks.length p) (hpl : p.length ≤ 2000000) : APure Tryz.prog 145 [.agg f.cells, intsAV p] (fun r => r = .bool (followsB f p)) := by
 have hpos : 0 < p.length := List.length_pos_iff.2 hp.1
 refine APure.of_body (n := 38) tok Tryz.func145 rfl rfl ?_
 refine asr ?_
 refine ax 2 (obx 2 0) ?_
 refine aa 4 ?_
 refine an ?_
 refine AGo.seq ?_
 refine asr ?_
 refine aQ tok 3 rfl ?_
 refine aq 11 (q_bin (r := .int .i64 ((p.length - 1 : Nat) : Int)) rfl rfl rfl (by rw [List.length_map]; exact len_pred hpos (by omega))) ?_
 refine aq 12 (q_front (m := p.length - 1) (es := intCells p) tok rfl rfl rfl rfl rfl rfl (by rw [intCells_len]; omega) (by intro cs h; simp [intCells] at h; obtain ⟨n, _, rfl⟩ := h; rfl)) ?_
 refine aQ tok 2 rfl ?_
 refine an ?_
 refine AGo.block ?_
 refine AGo.loopD (γ := Nat) 1 (fun k => ⟨38, (eput (eput (eput (eput (eput eNew 1 (intsAV p)) 2 (.ptr 0 1 0 0)) 12 (.lst false ((intCells p).take (p.length - 1)))) 13 (.int .i64 ((p.length - 1 : Nat) : Int))) 14 (.int .i64 (k : Int))), (hput (hFrom 1) 0 (.row false 2 [f.cells]))⟩) (fun k => ((List.range (p.length - 1)).take k).all (okAt f p) = true) (fun k => p.length - 1 - k) 0 (Sub.mk' (by repeat (first | exact ESub.new _ | refine ESub.put ?_ (by first | rfl | exact congrArg (fun (n : Nat) => some (AV.int .i64 (n : Int))) (by simp [intCells_len])))) z6q) rfl (fun _ => hput_free (fun b hb => hFrom_free hb) rfl) ?_
 intro k hall
 refine asr ?_
 refine aqb ?_
 refine an ?_
 refine AGo.seq ?_
 refine asp 15 (fun hb1 => ?_) fun hb1 => ?_
 ·
  refine act ?_
  have hkl : k < p.length - 1 := by have h := hb1; simp [intCells_len] at h; omega
  obtain ⟨y, hy⟩ := get_of_lt (l := p) (k := k) (by omega)
  obtain ⟨z, hz⟩ := get_of_lt (l := p) (k := k + 1) (by omega)
  have hyr := hp.2 y (List.mem_of_getElem? hy)
  have hat : okAt f p k = ((f.blockAt y).fin == 1 && (f.blockAt y).to == z) := by rw [okAt, iget_get hy, iget_get hz]
  refine AGo.skip ?_
  refine AGo.seq ?_
  refine AGo.block ?_
  refine asr ?_
  refine am 16 ?_
  refine aq 17 (q_index_lst tok rfl rfl rfl rfl rfl rfl (Int.natCast_nonneg _) (cs := [.int .i64 y]) (by rw [Int.toNat_natCast, List.getElem?_take_of_lt hkl, intCells, List.getElem?_map, hy]; rfl) rfl) ?_
  refine aQ tok 3 rfl ?_
  refine an ?_
  refine asr ?_
  refine aQ tok 3 rfl ?_
  refine aq 22 (q_index_lst tok rfl rfl rfl rfl rfl rfl hyr.1 (idx_mapZ (blockAt_get hyr)) rfl) ?_
  refine al 23 tok ?_
  refine ax 7 (oal tok 1) ?_
  refine AOps.w rfl rfl (o_store tok rfl rfl rfl rfl rfl rfl rfl rfl rfl (by decide) rfl z26q) ?_
  refine an ?_
  refine AGo.seq ?_
  refine AGo.draw mix ?_
  refine dQ tok 4 rfl ?_
  refine DOps.split 27 rfl (fun hb2 => ?_) (fun hb2 => ?_)
  ·
   refine dQ tok 9 rfl ?_
   refine DOps.nil (by kernel_rfl) ?_
   refine act ?_
   refine asr ?_
   refine aa 4 ?_
   refine an ?_
   refine AGo.ret ⟨[_], ⟨rfl, trivial⟩, ?_, rfl⟩
   show AV.bool _ = AV.bool _
   congr 1
   exact (all_bad (range_get hkl) (by rw [hat]; simp_all)).symm
  ·
   refine dQ tok 4 rfl ?_
   refine dq 32 (q_inc rfl rfl hkl (show p.length - 1 ≤ maxLen by simp only [maxLen]; omega)) ?_
   refine dq 33 (q_index_lst tok rfl rfl rfl rfl rfl rfl (Int.natCast_nonneg _) (cs := [.int .i64 z]) (by rw [Int.toNat_natCast]; show (List.map (fun b => [AV.int .i64 b]) p)[k + 1]? = _; rw [List.getElem?_map, hz]; rfl) rfl) ?_
   refine dQ tok 3 rfl ?_
   refine DOps.nil (by kernel_rfl) ?_
   refine asp 36 (fun hb3 => ?_) fun hb3 => ?_
   ·
    refine act ?_;refine asr ?_;refine aa 4 ?_;refine an ?_;refine AGo.ret ⟨[_], ⟨rfl, trivial⟩, ?_, rfl⟩
    show AV.bool _ = AV.bool _
    congr 1
    exact (all_bad (range_get hkl) (by rw [hat]; simp_all)).symm
   ·
    refine acf ?_;refine AGo.skip ?_;refine AGo.region ?_;refine aq 37 (q_inc rfl rfl hkl (show p.length - 1 ≤ maxLen by simp only [maxLen]; omega)) ?_
    refine am 14 ?_;refine an ?_;exact ⟨k+1, Drop.mk' z15q z10q, (all_succ (range_get hkl) hall (by rw [hat]; simp_all)), by omega⟩
 ·
  refine acf ?_
  have hge : p.length - 1 ≤ k := by have h := hb1; simp [intCells_len] at h; omega
  refine AGo.exit ?_
  refine asr ?_
  refine aa 4 ?_
  refine an ?_
  refine AGo.ret ⟨[_], ⟨rfl, trivial⟩, ?_, rfl⟩
  show AV.bool _ = AV.bool _
  congr 1
  exact (all_end hall (by simpa using hge)).symm
set_option maxRecDepth 100000 in
theorem made_ok (f : BFunc) (b : Block) (p : List Int) (hp : inF f.blocks.length p) (hpl : p.length ≤ 2000000) (hbl : b.ins.length ≤ 1000000000) : APure Tryz.prog 146 [.agg f.cells, .agg b.cells, intsAV p] (fun r => r = .bool (madeR f b.ins p)) := by
 refine APure.of_body (n := 47) tok Tryz.func146 rfl rfl ?_
 refine asr ?_
 refine ax 3 (obx 2 0) ?_
 refine ax 4 (obx 5 1) ?_
 refine aa 6 ?_
 refine an ?_
 refine asr ?_
 refine aQ tok 3 rfl ?_
 refine an ?_
 refine AGo.seq ?_
 refine asr ?_
 refine aQ tok 3 rfl ?_
 refine an ?_
 refine AGo.block ?_
 refine AGo.loopD (γ := MG) 2 (fun q => ⟨47, (eput (eput (eput (eput (eput eNew 3 (.ptr 0 1 0 0)) 7 (insAV q.rest)) 13 (intsAV p)) 14 (.int .i64 (p.length : Int))) 15 (.int .i64 (q.k : Int))), (hput (hFrom 2) 0 (.row false 2 [f.cells]))⟩) (fun q => madeR f q.rest (p.drop q.k) = madeR f b.ins p ∧ q.rest.length ≤ 1000000000) (fun q => p.length - q.k) ⟨0, b.ins⟩ (Sub.mk' z13q z6q) ⟨rfl, hbl⟩ (fun _ => hput_free (fun b hb => hFrom_free hb) rfl) ?_
 intro q hF
 refine asr ?_
 refine aqb ?_
 refine an ?_
 refine AGo.seq ?_
 refine asp 16 (fun hb1 => ?_) fun hb1 => ?_
 ·
  refine act ?_
  have hkl : q.k < p.length := by have h := hb1; simp at h; omega
  obtain ⟨y, hy⟩ := get_of_lt hkl
  have hyr := hp.2 y (List.mem_of_getElem? hy)
  have hst := madeR_step (f := f) (rest := q.rest) hy
  have heq := hF.1
  have hrl := hF.2
  refine AGo.skip ?_
  refine AGo.seq ?_
  refine AGo.block ?_
  refine asr ?_
  refine aq 17 (qil tok (idx_map hy)) ?_
  refine aQ tok 2 rfl ?_
  refine an ?_
  refine asr ?_
  refine aQ tok 3 rfl ?_
  refine aq 22 (q_index_lst tok rfl rfl rfl rfl rfl rfl hyr.1 (idx_mapZ (blockAt_get hyr)) rfl) ?_
  refine aQ tok 3 rfl ?_
  refine an ?_
  refine AGo.seq ?_
  refine asr ?_
  refine aQ tok 6 rfl ?_
  refine aop 30 (fun hb2 => ?_) fun hb2 => ?_
  ·
   refine aQ tok 8 rfl ?_
   refine an ?_
   refine act ?_
   refine asr ?_
   refine aa 6 ?_
   refine an ?_
   refine AGo.ret ⟨[_], ⟨rfl, trivial⟩, ?_, rfl⟩
   show AV.bool _ = AV.bool _
   congr 1
   rw [← heq, hst]
   by_cases hcc : (f.blockAt y).ins.length ≤ q.rest.length
   · clear heq hst hF
     first | (have h3 : ¬ q.rest.take (f.blockAt y).ins.length = (f.blockAt y).ins := by simp_all
              simp [h3]; done) | (exfalso; simp_all; omega)
   · simp [hcc]
  ·
   have hlen : (f.blockAt y).ins.length ≤ q.rest.length := by have h := hb2; simp at h; omega
   refine aQ tok 3 rfl ?_
   refine aq 34 (q_front' (l := q.rest) (m := (f.blockAt y).ins.length) tok rfl rfl rfl rfl ⟨rfl, rfl⟩ rfl (by rw [List.length_map]) (by have h := hlen; omega)) ?_
   refine am 35 ?_
   refine ax 36 (opu Tryz.func152 (equal_ok (q.rest.take (f.blockAt y).ins.length) (f.blockAt y).ins (by rw [List.length_take]; omega))) ?_
   refine aQ tok 2 rfl ?_
   refine an ?_
   refine asp 38 (fun hb3 => ?_) fun hb3 => ?_
   ·
    refine act ?_;refine asr ?_;refine aa 6 ?_;refine an ?_;refine AGo.ret ⟨[_], ⟨rfl, trivial⟩, ?_, rfl⟩
    show AV.bool _ = AV.bool _
    congr 1
    rw [← heq, hst]
    by_cases hcc : (f.blockAt y).ins.length ≤ q.rest.length
    · clear heq hst hF
      first | (have h3 : ¬ q.rest.take (f.blockAt y).ins.length = (f.blockAt y).ins := by simp_all
               simp [h3]; done) | (exfalso; simp_all; omega)
    · simp [hcc]
   ·
    refine acf ?_
    have hsame : q.rest.take (f.blockAt y).ins.length = (f.blockAt y).ins := by simp_all
    refine AGo.skip ?_;refine AGo.region ?_;refine aQ tok 3 rfl ?_;refine aq 42 (q_back' (l := q.rest) (m := (f.blockAt y).ins.length) tok rfl rfl rfl rfl ⟨rfl, rfl⟩ rfl (by rw [List.length_map]) (by have h := hlen; omega)) ?_;refine aa 7 ?_;refine an ?_;refine AGo.region ?_;refine aq 43 (q_inc rfl rfl hkl (by simp only [maxLen]; omega)) ?_;refine am 15 ?_;refine an ?_;exact ⟨⟨q.k + 1, q.rest.drop (f.blockAt y).ins.length⟩, Drop.mk' z15q z10q, ⟨by rw [← heq, hst]; simp [hlen, hsame], by show (q.rest.drop _).length ≤ _; rw [List.length_drop]; omega⟩, (by show p.length - (q.k + 1) < p.length - q.k; omega)⟩
 ·
  refine acf ?_
  have hge : p.length ≤ q.k := by have h := hb1; simp at h; omega
  have heq := hF.1
  refine AGo.exit ?_
  refine asr ?_
  refine aQ tok 4 rfl ?_
  refine an ?_
  refine AGo.ret ⟨[_], ⟨rfl, trivial⟩, ?_, rfl⟩
  show AV.bool _ = AV.bool _
  congr 1
  rw [← heq, List.drop_eq_nil_of_le hge, madeR]
  cases q.rest <;> simp [evalBin] <;> omega
set_option maxRecDepth 100000 in
theorem begins_ok (paths : List (List Int)) (k i : Int) (hpn : ∀ p ∈ paths, p ≠ []) : ACall Tryz.prog 153 [.int .i64 k, .int .i64 i, .ptr 2 1 0 0] (hput hNew 2 (.row false 1 [[pathsAV paths]])) (fun r h' => r = .bool (beginsB paths k i) ∧ HSub (hput hNone 2 (.row false 1 [[pathsAV paths]])) h') := by
 refine ACall.of_body (n := 24) tok Tryz.func153 rfl rfl ?_
 refine asr ?_
 refine aa 5 ?_
 refine an ?_
 refine asr ?_
 refine aQ tok 3 rfl ?_
 refine aop 8 (fun hb1 => ?_) fun hb1 => ?_
 ·
  refine aQ tok 6 rfl ?_
  refine aop 14 (fun hb2 => ?_) fun hb2 => ?_
  ·
   have hkr : 0 ≤ k ∧ k < paths.length := by simp_all [pathsAV] <;> omega
   have hpk := pathK_get hkr
   have hp0 := headZ_get (hpn _ (List.mem_of_getElem? hpk))
   refine aQ tok 2 rfl ?_
   refine aq 17 (q_index_lst tok rfl rfl rfl rfl rfl rfl hkr.1 (idx_mapZ hpk) rfl) ?_
   refine al 18 tok ?_
   refine aq 19 (q_index_lst tok rfl rfl rfl rfl rfl rfl (by decide) (cs := [.int .i64 (headZ (pathK paths k))]) (by show (List.map (fun b => [AV.int .i64 b]) (pathK paths k))[0]? = _; rw [List.getElem?_map, hp0]; rfl) rfl) ?_
   refine aQ tok 5 rfl ?_
   refine an ?_
   refine AGo.ret ?_
   refine ⟨[_], ⟨rfl, trivial⟩, ?_, HSub.put (HSub.none _) rfl⟩
   show AV.bool _ = AV.bool _
   congr 1
   first | (simp_all [beginsB, pathsAV]; done) | (simp_all [beginsB, pathsAV]; omega)
  ·
   refine aQ tok 10 rfl ?_
   refine an ?_
   refine AGo.ret ?_
   refine ⟨[_], ⟨rfl, trivial⟩, ?_, HSub.put (HSub.none _) rfl⟩
   show AV.bool _ = AV.bool _
   congr 1
   first | (simp_all [beginsB, pathsAV]; done) | (simp_all [beginsB, pathsAV]; omega)
 ·
  refine aQ tok 16 rfl ?_
  refine an ?_
  refine AGo.ret ?_
  refine ⟨[_], ⟨rfl, trivial⟩, ?_, HSub.put (HSub.none _) rfl⟩
  show AV.bool _ = AV.bool _
  congr 1
  first | (simp_all [beginsB, pathsAV]; done) | (simp_all [beginsB, pathsAV]; omega)
set_option maxRecDepth 100000 in
theorem leads_ok (last b : Block) (paths : List (List Int)) (hpn : ∀ p ∈ paths, p ≠ []) : APure Tryz.prog 147 [.agg last.cells, .agg b.cells, pathsAV paths] (fun r => r = .bool (leadsB last b paths)) := by
 refine APure.of_body (n := 60) tok Tryz.func147 rfl rfl ?_
 refine asr ?_
 refine ax 3 (obx 5 0) ?_
 refine ax 4 (obx 5 1) ?_
 refine ax 5 (obx 1 2) ?_
 refine aa 6 ?_
 refine an ?_
 refine AGo.seq ?_
 refine asr ?_
 refine aQ tok 6 rfl ?_
 refine aop 15 (fun hb1 => ?_) fun hb1 => ?_
 ·
  refine aQ tok 6 rfl ?_
  refine an ?_
  refine act ?_
  refine asr ?_
  refine aa 6 ?_
  refine an ?_
  refine AGo.ret ?_
  first
  | exact absurd (show (b.fin == 2) = true from ‹_›) z28q
  | (refine ⟨[_], ⟨rfl, trivial⟩, ?_, rfl⟩
     show AV.bool _ = AV.bool _
     congr 1
     simp only [leadsB, leadsTo, leadsEl, *, cond_true, cond_false, Bool.not_true, Bool.not_false, Bool.true_and, Bool.false_and, Bool.and_true, Bool.and_false, Bool.true_or, Bool.or_true, Bool.false_or, Bool.or_false])
 ·
  refine aQ tok 6 rfl ?_
  refine an ?_
  refine asp 21 (fun hb2 => ?_) fun hb2 => ?_
  ·
   refine act ?_
   refine asr ?_
   refine aa 6 ?_
   refine an ?_
   refine AGo.ret ?_
   first
   | exact absurd (show (b.fin == 2) = true from ‹_›) z28q
   | (refine ⟨[_], ⟨rfl, trivial⟩, ?_, rfl⟩
      show AV.bool _ = AV.bool _
      congr 1
      simp only [leadsB, leadsTo, leadsEl, *, cond_true, cond_false, Bool.not_true, Bool.not_false, Bool.true_and, Bool.false_and, Bool.and_true, Bool.and_false, Bool.true_or, Bool.or_true, Bool.false_or, Bool.or_false])
  ·
   refine acf ?_
   refine AGo.skip ?_
   refine asr ?_
   refine aq 22 (q_makeFunc rfl rfl rfl) ?_
   refine aa 7 ?_
   refine an ?_
   refine AGo.seq ?_
   refine AGo.draw mix ?_
   refine dQ tok 12 rfl ?_
   refine DOps.nil (by kernel_rfl) ?_
   refine AGo.seq ?_
   refine asr ?_
   refine aQ tok 4 rfl ?_
   refine aop 36 (fun hb3 => ?_) fun hb3 => ?_
   ·
    refine aQ tok 4 rfl ?_;refine an ?_;refine act ?_;refine AGo.region ?_;refine aQ tok 5 rfl ?_;refine ax 46 (o_callF (hc := (hput hNew 2 (.row false 1 [[pathsAV paths]]))) (hw := (hput hNone 2 (.row false 1 [[pathsAV paths]]))) [2] [(2, (.row false 1 [[pathsAV paths]]))] rfl rfl Tryz.func153 (by kernel_rfl) rfl rfl rfl ⟨⟨_, rfl, rfl⟩, trivial⟩ rfl (hres_cons rfl (hres_nil _)) ⟨⟨_, rfl, rfl, rfl⟩, trivial⟩ rfl (begins_ok paths b.to last.to hpn)) ?_;refine aa 8 ?_;refine an ?_;refine AGo.seq ?_;refine asr ?_;refine aQ tok 3 rfl ?_;refine an ?_;refine asp 49 (fun hb4 => ?_) fun hb4 => ?_
    ·
     refine act ?_;refine AGo.region ?_;refine aQ tok 5 rfl ?_;refine ax 55 (o_callF (hc := (hput hNew 2 (.row false 1 [[pathsAV paths]]))) (hw := (hput hNone 2 (.row false 1 [[pathsAV paths]]))) [2] [(2, (.row false 1 [[pathsAV paths]]))] rfl rfl Tryz.func153 (by kernel_rfl) rfl rfl rfl ⟨⟨_, rfl, rfl⟩, trivial⟩ rfl (hres_cons rfl (hres_nil _)) ⟨⟨_, rfl, rfl, rfl⟩, trivial⟩ rfl (begins_ok paths b.els last.els hpn)) ?_;refine aa 9 ?_;refine an ?_;refine asr ?_;refine aQ tok 2 rfl ?_;refine aop 57 (fun hb5 => ?_) fun hb5 => ?_
     ·
      refine aQ tok 3 rfl ?_;refine an ?_;refine AGo.ret ?_
      first
      | exact absurd (show (b.fin == 2) = true from ‹_›) z28q
      | (refine ⟨[_], ⟨rfl, trivial⟩, ?_, rfl⟩
         show AV.bool _ = AV.bool _
         congr 1
         simp only [leadsB, leadsTo, leadsEl, *, cond_true, cond_false, Bool.not_true, Bool.not_false, Bool.true_and, Bool.false_and, Bool.and_true, Bool.and_false, Bool.true_or, Bool.or_true, Bool.false_or, Bool.or_false])
     ·
      refine aQ tok 3 rfl ?_;refine an ?_;refine AGo.ret ?_
      first
      | exact absurd (show (b.fin == 2) = true from ‹_›) z28q
      | (refine ⟨[_], ⟨rfl, trivial⟩, ?_, rfl⟩
         show AV.bool _ = AV.bool _
         congr 1
         simp only [leadsB, leadsTo, leadsEl, *, cond_true, cond_false, Bool.not_true, Bool.not_false, Bool.true_and, Bool.false_and, Bool.and_true, Bool.and_false, Bool.true_or, Bool.or_true, Bool.false_or, Bool.or_false])
    ·
     refine acf ?_;refine AGo.skip ?_;refine asr ?_;refine aQ tok 2 rfl ?_;refine aop 57 (fun hb6 => ?_) fun hb6 => ?_
     ·
      refine aQ tok 3 rfl ?_;refine an ?_;refine AGo.ret ?_
      first
      | exact absurd (show (b.fin == 2) = true from ‹_›) z28q
      | (refine ⟨[_], ⟨rfl, trivial⟩, ?_, rfl⟩
         show AV.bool _ = AV.bool _
         congr 1
         simp only [leadsB, leadsTo, leadsEl, *, cond_true, cond_false, Bool.not_true, Bool.not_false, Bool.true_and, Bool.false_and, Bool.and_true, Bool.and_false, Bool.true_or, Bool.or_true, Bool.false_or, Bool.or_false])
     ·
      refine aQ tok 3 rfl ?_;refine an ?_;refine AGo.ret ?_
      first
      | exact absurd (show (b.fin == 2) = true from ‹_›) z28q
      | (refine ⟨[_], ⟨rfl, trivial⟩, ?_, rfl⟩
         show AV.bool _ = AV.bool _
         congr 1
         simp only [leadsB, leadsTo, leadsEl, *, cond_true, cond_false, Bool.not_true, Bool.not_false, Bool.true_and, Bool.false_and, Bool.and_true, Bool.and_false, Bool.true_or, Bool.or_true, Bool.false_or, Bool.or_false])
   ·
    refine aQ tok 4 rfl ?_;refine an ?_;refine asp 40 (fun hb7 => ?_) fun hb7 => ?_
    ·
     refine act ?_;refine AGo.region ?_;refine aQ tok 5 rfl ?_;refine ax 46 (o_callF (hc := (hput hNew 2 (.row false 1 [[pathsAV paths]]))) (hw := (hput hNone 2 (.row false 1 [[pathsAV paths]]))) [2] [(2, (.row false 1 [[pathsAV paths]]))] rfl rfl Tryz.func153 (by kernel_rfl) rfl rfl rfl ⟨⟨_, rfl, rfl⟩, trivial⟩ rfl (hres_cons rfl (hres_nil _)) ⟨⟨_, rfl, rfl, rfl⟩, trivial⟩ rfl (begins_ok paths b.to last.to hpn)) ?_;refine aa 8 ?_;refine an ?_;refine AGo.seq ?_;refine asr ?_;refine aQ tok 3 rfl ?_;refine an ?_;refine asp 49 (fun hb8 => ?_) fun hb8 => ?_
     ·
      refine act ?_;refine AGo.region ?_;refine aQ tok 5 rfl ?_;refine ax 55 (o_callF (hc := (hput hNew 2 (.row false 1 [[pathsAV paths]]))) (hw := (hput hNone 2 (.row false 1 [[pathsAV paths]]))) [2] [(2, (.row false 1 [[pathsAV paths]]))] rfl rfl Tryz.func153 (by kernel_rfl) rfl rfl rfl ⟨⟨_, rfl, rfl⟩, trivial⟩ rfl (hres_cons rfl (hres_nil _)) ⟨⟨_, rfl, rfl, rfl⟩, trivial⟩ rfl (begins_ok paths b.els last.els hpn)) ?_;refine aa 9 ?_;refine an ?_;refine asr ?_;refine aQ tok 2 rfl ?_;refine aop 57 (fun hb9 => ?_) fun hb9 => ?_
      ·
       refine aQ tok 3 rfl ?_;refine an ?_;refine AGo.ret ?_
       first
       | exact absurd (show (b.fin == 2) = true from ‹_›) z28q
       | (refine ⟨[_], ⟨rfl, trivial⟩, ?_, rfl⟩
          show AV.bool _ = AV.bool _
          congr 1
          simp only [leadsB, leadsTo, leadsEl, *, cond_true, cond_false, Bool.not_true, Bool.not_false, Bool.true_and, Bool.false_and, Bool.and_true, Bool.and_false, Bool.true_or, Bool.or_true, Bool.false_or, Bool.or_false])
      ·
       refine aQ tok 3 rfl ?_;refine an ?_;refine AGo.ret ?_
       first
       | exact absurd (show (b.fin == 2) = true from ‹_›) z28q
       | (refine ⟨[_], ⟨rfl, trivial⟩, ?_, rfl⟩
          show AV.bool _ = AV.bool _
          congr 1
          simp only [leadsB, leadsTo, leadsEl, *, cond_true, cond_false, Bool.not_true, Bool.not_false, Bool.true_and, Bool.false_and, Bool.and_true, Bool.and_false, Bool.true_or, Bool.or_true, Bool.false_or, Bool.or_false])
     ·
      refine acf ?_;refine AGo.skip ?_;refine asr ?_;refine aQ tok 2 rfl ?_;refine aop 57 (fun hb10 => ?_) fun hb10 => ?_
      ·
       refine aQ tok 3 rfl ?_;refine an ?_;refine AGo.ret ?_
       first
       | exact absurd (show (b.fin == 2) = true from ‹_›) z28q
       | (refine ⟨[_], ⟨rfl, trivial⟩, ?_, rfl⟩
          show AV.bool _ = AV.bool _
          congr 1
          simp only [leadsB, leadsTo, leadsEl, *, cond_true, cond_false, Bool.not_true, Bool.not_false, Bool.true_and, Bool.false_and, Bool.and_true, Bool.and_false, Bool.true_or, Bool.or_true, Bool.false_or, Bool.or_false])
      ·
       refine aQ tok 3 rfl ?_;refine an ?_;refine AGo.ret ?_
       first
       | exact absurd (show (b.fin == 2) = true from ‹_›) z28q
       | (refine ⟨[_], ⟨rfl, trivial⟩, ?_, rfl⟩
          show AV.bool _ = AV.bool _
          congr 1
          simp only [leadsB, leadsTo, leadsEl, *, cond_true, cond_false, Bool.not_true, Bool.not_false, Bool.true_and, Bool.false_and, Bool.and_true, Bool.and_false, Bool.true_or, Bool.or_true, Bool.false_or, Bool.or_false])
    ·
     refine acf ?_;refine AGo.skip ?_;refine AGo.seq ?_;refine asr ?_;refine aQ tok 3 rfl ?_;refine an ?_;refine asp 49 (fun hb11 => ?_) fun hb11 => ?_
     ·
      refine act ?_;refine AGo.region ?_;refine aQ tok 5 rfl ?_;refine ax 55 (o_callF (hc := (hput hNew 2 (.row false 1 [[pathsAV paths]]))) (hw := (hput hNone 2 (.row false 1 [[pathsAV paths]]))) [2] [(2, (.row false 1 [[pathsAV paths]]))] rfl rfl Tryz.func153 (by kernel_rfl) rfl rfl rfl ⟨⟨_, rfl, rfl⟩, trivial⟩ rfl (hres_cons rfl (hres_nil _)) ⟨⟨_, rfl, rfl, rfl⟩, trivial⟩ rfl (begins_ok paths b.els last.els hpn)) ?_;refine aa 9 ?_;refine an ?_;refine asr ?_;refine aQ tok 2 rfl ?_;refine aop 57 (fun hb12 => ?_) fun hb12 => ?_
      ·
       refine aQ tok 3 rfl ?_;refine an ?_;refine AGo.ret ?_
       first
       | exact absurd (show (b.fin == 2) = true from ‹_›) z28q
       | (refine ⟨[_], ⟨rfl, trivial⟩, ?_, rfl⟩
          show AV.bool _ = AV.bool _
          congr 1
          simp only [leadsB, leadsTo, leadsEl, *, cond_true, cond_false, Bool.not_true, Bool.not_false, Bool.true_and, Bool.false_and, Bool.and_true, Bool.and_false, Bool.true_or, Bool.or_true, Bool.false_or, Bool.or_false])
      ·
       refine aQ tok 3 rfl ?_;refine an ?_;refine AGo.ret ?_
       first
       | exact absurd (show (b.fin == 2) = true from ‹_›) z28q
       | (refine ⟨[_], ⟨rfl, trivial⟩, ?_, rfl⟩
          show AV.bool _ = AV.bool _
          congr 1
          simp only [leadsB, leadsTo, leadsEl, *, cond_true, cond_false, Bool.not_true, Bool.not_false, Bool.true_and, Bool.false_and, Bool.and_true, Bool.and_false, Bool.true_or, Bool.or_true, Bool.false_or, Bool.or_false])
     ·
      refine acf ?_;refine AGo.skip ?_;refine asr ?_;refine aQ tok 2 rfl ?_;refine aop 57 (fun hb13 => ?_) fun hb13 => ?_
      ·
       refine aQ tok 3 rfl ?_;refine an ?_;refine AGo.ret ?_
       first
       | exact absurd (show (b.fin == 2) = true from ‹_›) z28q
       | (refine ⟨[_], ⟨rfl, trivial⟩, ?_, rfl⟩
          show AV.bool _ = AV.bool _
          congr 1
          simp only [leadsB, leadsTo, leadsEl, *, cond_true, cond_false, Bool.not_true, Bool.not_false, Bool.true_and, Bool.false_and, Bool.and_true, Bool.and_false, Bool.true_or, Bool.or_true, Bool.false_or, Bool.or_false])
      ·
       refine aQ tok 3 rfl ?_;refine an ?_;refine AGo.ret ?_
       first
       | exact absurd (show (b.fin == 2) = true from ‹_›) z28q
       | (refine ⟨[_], ⟨rfl, trivial⟩, ?_, rfl⟩
          show AV.bool _ = AV.bool _
          congr 1
          simp only [leadsB, leadsTo, leadsEl, *, cond_true, cond_false, Bool.not_true, Bool.not_false, Bool.true_and, Bool.false_and, Bool.and_true, Bool.and_false, Bool.true_or, Bool.or_true, Bool.false_or, Bool.or_false])
set_option maxRecDepth 100000 in
theorem check_ok (old new : BFunc) (paths : List (List Int)) (hnl : ∀ x ∈ new.blocks, x.ins.length ≤ 1000000000) (hpl : paths.length ≤ 2000000) (hps : ∀ p ∈ paths, p.length ≤ 2000000) : APure Tryz.prog 143 [.agg old.cells, .agg new.cells, pathsAV paths] (fun r => r = .bool (checkB old new paths)) := by
 refine APure.of_body (n := 104) tok Tryz.func143 rfl rfl ?_
 refine asr ?_
 refine ax 3 (obx 2 0) ?_
 refine ax 4 (obx 2 1) ?_
 refine aa 6 ?_
 refine an ?_
 refine AGo.seq ?_
 refine asr ?_
 refine aQ tok 4 rfl ?_
 refine aop 16 (fun hb1 => ?_) fun hb1 => ?_
 ·
  refine aQ tok 14 rfl ?_
  refine an ?_
  refine act ?_
  refine asr ?_
  refine aa 6 ?_
  refine an ?_
  refine AGo.ret ⟨[_], ⟨rfl, trivial⟩, ?_, rfl⟩
  show AV.bool _ = AV.bool _
  congr 1
  refine (check_bad1 (fun h => ?_)).symm
  obtain ⟨q1, q2, q3⟩ := h
  simp_all [pathsAV, blocksAV]
 ·
  refine aQ tok 8 rfl ?_
  refine aop 24 (fun hb2 => ?_) fun hb2 => ?_
  ·
   refine aQ tok 6 rfl ?_
   refine an ?_
   refine act ?_
   refine asr ?_
   refine aa 6 ?_
   refine an ?_
   refine AGo.ret ⟨[_], ⟨rfl, trivial⟩, ?_, rfl⟩
   show AV.bool _ = AV.bool _
   congr 1
   refine (check_bad1 (fun h => ?_)).symm
   obtain ⟨q1, q2, q3⟩ := h
   simp_all [pathsAV, blocksAV]
  ·
   refine aQ tok 6 rfl ?_
   refine an ?_
   refine asp 30 (fun hb3 => ?_) fun hb3 => ?_
   ·
    refine act ?_;refine asr ?_;refine aa 6 ?_;refine an ?_;refine AGo.ret ⟨[_], ⟨rfl, trivial⟩, ?_, rfl⟩
    show AV.bool _ = AV.bool _
    congr 1
    refine (check_bad1 (fun h => ?_)).symm
    obtain ⟨q1, q2, q3⟩ := h
    simp_all [pathsAV, blocksAV]
   ·
    refine acf ?_
    have h0 : paths.length ≠ 0 ∧ paths.length = new.blocks.length ∧ old.regs = new.regs := by simp_all [pathsAV, blocksAV] <;> omega
    refine AGo.skip ?_;refine AGo.seq ?_;refine asr ?_;refine aQ tok 3 rfl ?_;refine an ?_;refine AGo.block ?_;refine AGo.loopD (γ := Nat) 2 (fun k => ⟨104, (eput (eput (eput (eput (eput (eput eNew 2 (pathsAV paths)) 3 (.ptr 0 1 0 0)) 4 (.ptr 1 1 0 0)) 31 (pathsAV paths)) 32 (.int .i64 (paths.length : Int))) 33 (.int .i64 (k : Int))), (hput (hput (hFrom 2) 0 (.row false 2 [old.cells])) 1 (.row false 2 [new.cells]))⟩) (fun k => (paths.take k).all (pathIn old.blocks.length) = true) (fun k => paths.length - k) 0 (Sub.mk' z13q z6q) rfl (fun _ => hput_free (hput_free (fun b hb => hFrom_free hb) rfl) rfl) ?_
    intro k hF
    refine asr ?_;refine aqb ?_;refine an ?_;refine AGo.seq ?_;refine asp 34 (fun hb4 => ?_) fun hb4 => ?_
    ·
     refine act ?_
     have hkl : k < paths.length := by simpa using hb4
     obtain ⟨p, hp⟩ := get_of_lt hkl
     have hpp := hps p (List.mem_of_getElem? hp)
     refine AGo.skip ?_;refine AGo.seq ?_;refine AGo.block ?_;refine asr ?_;refine aq 35 (qil tok (idx_map hp)) ?_;refine aQ tok 2 rfl ?_;refine an ?_;refine AGo.seq ?_;refine asr ?_;refine aQ tok 3 rfl ?_;refine an ?_;refine asp 39 (fun hb5 => ?_) fun hb5 => ?_
     ·
      refine act ?_
      have hpe : (p.length == 0) = true := by have h := hb5; simp at h; simp [h]
      refine asr ?_;refine aa 6 ?_;refine an ?_;refine AGo.ret ⟨[_], ⟨rfl, trivial⟩, ?_, rfl⟩
      show AV.bool _ = AV.bool _
      congr 1
      exact (check_bad2 (all_bad hp (by simp [pathIn, hpe]))).symm
     ·
      refine acf ?_
      have hpe : (p.length == 0) = false := by have h := hb5; simp at h; simp [h]
      refine AGo.skip ?_;refine asr ?_;refine aQ tok 3 rfl ?_;refine an ?_;refine AGo.block ?_;refine AGo.loopD (γ := Nat) 2 (fun j => ⟨104, (eput (eput (eput (eput (eput (eput (eput (eput (eput (eput eNew 2 (pathsAV paths)) 3 (.ptr 0 1 0 0)) 4 (.ptr 1 1 0 0)) 31 (pathsAV paths)) 32 (.int .i64 (paths.length : Int))) 33 (.int .i64 (k : Int))) 8 (intsAV p)) 40 (intsAV p)) 41 (.int .i64 (p.length : Int))) 42 (.int .i64 (j : Int))), (hput (hput (hFrom 2) 0 (.row false 2 [old.cells])) 1 (.row false 2 [new.cells]))⟩) (fun j => (p.take j).all (fun i => !(decide (i < 0)) && !(decide (i ≥ (old.blocks.length : Int)))) = true) (fun j => p.length - j) 0 (Sub.mk' z13q z6q) rfl (fun _ => hput_free (hput_free (fun b hb => hFrom_free hb) rfl) rfl) ?_
      intro j hG
      refine asr ?_;refine aqb ?_;refine an ?_;refine AGo.seq ?_;refine asp 43 (fun hb6 => ?_) fun hb6 => ?_
      ·
       refine act ?_
       have hjl : j < p.length := by simpa using hb6
       obtain ⟨y, hy⟩ := get_of_lt hjl
       refine AGo.skip ?_;refine AGo.seq ?_;refine AGo.block ?_;refine asr ?_;refine aq 44 (qil tok (idx_map hy)) ?_;refine aQ tok 2 rfl ?_;refine an ?_;refine asr ?_;refine aQ tok 3 rfl ?_;refine aop 48 (fun hb7 => ?_) fun hb7 => ?_
       ·
        refine aQ tok 6 rfl ?_;refine an ?_;refine act ?_;refine asr ?_;refine aa 6 ?_;refine an ?_;refine AGo.ret ⟨[_], ⟨rfl, trivial⟩, ?_, rfl⟩
        show AV.bool _ = AV.bool _
        congr 1
        exact (check_bad2 (all_bad hp (by simp only [pathIn]; rw [all_bad (p := (fun i => !(decide (i < 0)) && !(decide (i ≥ (old.blocks.length : Int))))) hy (by simp_all [blocksAV])]; simp))).symm
       ·
        refine aQ tok 6 rfl ?_;refine an ?_;refine asp 54 (fun hb8 => ?_) fun hb8 => ?_
        ·
         refine act ?_;refine asr ?_;refine aa 6 ?_;refine an ?_;refine AGo.ret ⟨[_], ⟨rfl, trivial⟩, ?_, rfl⟩
         show AV.bool _ = AV.bool _
         congr 1
         exact (check_bad2 (all_bad hp (by simp only [pathIn]; rw [all_bad (p := (fun i => !(decide (i < 0)) && !(decide (i ≥ (old.blocks.length : Int))))) hy (by simp_all [blocksAV])]; simp))).symm
        ·
         refine acf ?_;refine AGo.skip ?_;refine AGo.region ?_;refine aq 55 (q_inc rfl rfl hjl (by simp only [maxLen]; omega)) ?_;refine am 42 ?_;refine an ?_;exact ⟨j+1, Drop.mk' z15q z10q, (all_succ hy hG (by simp_all [blocksAV])), by omega⟩
      ·
       refine acf ?_
       have hge2 : p.length ≤ j := by simpa using hb6
       refine AGo.exit ?_;refine AGo.region ?_;refine aq 56 (q_inc rfl rfl hkl (by simp only [maxLen]; omega)) ?_;refine am 33 ?_;refine an ?_;exact ⟨k+1, Drop.mk' z15q z10q, (all_succ hp hF (by simp only [pathIn, hpe, Bool.not_false, Bool.true_and]; exact all_end hG hge2)), by omega⟩
    ·
     refine acf ?_
     have hge : paths.length ≤ k := by simpa using hb4
     have hall := all_end hF hge
     have hp00 := pathK_get (paths := paths) (k := 0) (by omega)
     have hp01 := headZ_get (pathIn_inF (List.all_eq_true.1 hall _ (List.mem_of_getElem? hp00))).1
     refine AGo.exit ?_;refine AGo.seq ?_;refine asr ?_;refine am 57 ?_;refine aq 58 (q_index_lst tok rfl rfl rfl rfl rfl rfl (by decide) (cs := pathCell (pathK paths 0)) (idx_mapZ hp00) rfl) ?_;refine al 59 tok ?_;refine aq 60 (q_index_lst tok rfl rfl rfl rfl rfl rfl (by decide) (cs := [.int .i64 (headZ (pathK paths 0))]) (by show (List.map (fun b => [AV.int .i64 b]) (pathK paths 0))[0]? = _; rw [List.getElem?_map, hp01]; rfl) rfl) ?_;refine aQ tok 2 rfl ?_;refine an ?_;refine asp 62 (fun hb9 => ?_) fun hb9 => ?_
     ·
      refine act ?_
      have hz := hb9
      refine asr ?_;refine aa 6 ?_;refine an ?_;refine AGo.ret ⟨[_], ⟨rfl, trivial⟩, ?_, rfl⟩
      show AV.bool _ = AV.bool _
      congr 1
      exact (check_bad3 hz).symm
     ·
      refine acf ?_
      have hz := hb9
      refine AGo.skip ?_;refine AGo.seq ?_;refine asr ?_;refine aQ tok 3 rfl ?_;refine an ?_;refine AGo.block ?_;refine AGo.loopD (γ := Nat) 2 (fun k => ⟨104, (eput (eput (eput (eput (eput (eput eNew 2 (pathsAV paths)) 3 (.ptr 0 1 0 0)) 4 (.ptr 1 1 0 0)) 63 (pathsAV paths)) 64 (.int .i64 (paths.length : Int))) 65 (.int .i64 (k : Int))), (hput (hput (hFrom 2) 0 (.row false 2 [old.cells])) 1 (.row false 2 [new.cells]))⟩) (fun k => (paths.zipIdx.take k).all (stepB old new paths) = true) (fun k => paths.length - k) 0 (Sub.mk' z13q z6q) rfl (fun _ => hput_free (hput_free (fun b hb => hFrom_free hb) rfl) rfl) ?_
      intro k hS
      refine asr ?_;refine aqb ?_;refine an ?_;refine AGo.seq ?_;refine asp 66 (fun hb10 => ?_) fun hb10 => ?_
      ·
       refine act ?_
       have hkl : k < paths.length := by simpa using hb10
       obtain ⟨p, hp⟩ := get_of_lt hkl
       have hpp := hps p (List.mem_of_getElem? hp)
       have hpin := pathIn_inF (List.all_eq_true.1 hall p (List.mem_of_getElem? hp))
       have hnb : new.blocks[((k : Nat) : Int).toNat]? = some (new.blockAt k) := blockAt_get (by omega)
       have hlast := hpin.2 _ (last_mem hpin.1)
       refine AGo.skip ?_;refine AGo.seq ?_;refine AGo.block ?_;refine asr ?_;refine am 67 ?_;refine aq 68 (qil tok (idx_map hp)) ?_;refine aQ tok 3 rfl ?_;refine an ?_;refine AGo.seq ?_;refine AGo.seq ?_;refine AGo.draw mix ?_;refine dQ tok 2 rfl ?_;refine dx 72 (opu Tryz.func145 (follows_ok old p hpin hpp)) ?_;refine dQ tok 2 rfl ?_;refine DOps.split 74 rfl (fun hb11 => ?_) (fun hb11 => ?_)
       ·
        refine dQ tok 10 rfl ?_;refine DOps.nil (by kernel_rfl) ?_;refine act ?_;refine asr ?_;refine aa 6 ?_;refine an ?_;refine AGo.ret ⟨[_], ⟨rfl, trivial⟩, ?_, rfl⟩
        show AV.bool _ = AV.bool _
        congr 1
        exact (check_bad4 (all_bad (zipIdx_get hp) (by simp_all [stepB]))).symm
       ·
        refine dQ tok 4 rfl ?_;refine dq 79 (q_index_lst tok rfl rfl rfl rfl rfl rfl (Int.natCast_nonneg _) (cs := (new.blockAt k).cells) (idx_mapZ hnb) rfl) ?_;refine dQ tok 2 rfl ?_;refine dx 82 (opu Tryz.func146 (made_ok old (new.blockAt k) p hpin hpp (hnl _ (List.mem_of_getElem? hnb)))) ?_;refine dQ tok 2 rfl ?_;refine DOps.nil (by kernel_rfl) ?_;refine asp 84 (fun hb12 => ?_) fun hb12 => ?_
        ·
         refine act ?_;refine asr ?_;refine aa 6 ?_;refine an ?_;refine AGo.ret ⟨[_], ⟨rfl, trivial⟩, ?_, rfl⟩
         show AV.bool _ = AV.bool _
         congr 1
         exact (check_bad4 (all_bad (zipIdx_get hp) (by simp_all [stepB]))).symm
        ·
         refine acf ?_;refine AGo.skip ?_;refine AGo.seq ?_;refine AGo.draw mix ?_;refine dQ tok 5 rfl ?_;refine dq 90 (q_bin (r := .int .i64 ((p.length - 1 : Nat) : Int)) rfl rfl rfl (by rw [List.length_map]; exact len_pred (List.length_pos_iff.2 hpin.1) (by omega))) ?_;refine dq 91 (q_index_lst tok rfl rfl rfl rfl rfl rfl (Int.natCast_nonneg _) (cs := [.int .i64 (lastOf p)]) (by show (List.map (fun b => [AV.int .i64 b]) p)[_]? = _; rw [Int.toNat_natCast, List.getElem?_map, last_get hpin.1]; rfl) rfl) ?_;refine dl 92 tok ?_;refine dq 93 (q_index_lst tok rfl rfl rfl rfl rfl rfl hlast.1 (idx_mapZ (blockAt_get hlast)) rfl) ?_;refine dQ tok 4 rfl ?_;refine dq 98 (q_index_lst tok rfl rfl rfl rfl rfl rfl (Int.natCast_nonneg _) (cs := (new.blockAt k).cells) (idx_mapZ hnb) rfl) ?_;refine dQ tok 2 rfl ?_;refine dx 101 (opu Tryz.func147 (leads_ok (old.blockAt (lastOf p)) (new.blockAt k) paths (fun p hp => (pathIn_inF (List.all_eq_true.1 hall p hp)).1))) ?_
         refine dq 102 (q_not rfl rfl) ?_;refine DOps.nil (by kernel_rfl) ?_;refine asp 102 (fun hb13 => ?_) fun hb13 => ?_
         ·
          refine act ?_;refine asr ?_;refine aa 6 ?_;refine an ?_;refine AGo.ret ⟨[_], ⟨rfl, trivial⟩, ?_, rfl⟩
          show AV.bool _ = AV.bool _
          congr 1
          exact (check_bad4 (all_bad (zipIdx_get hp) (by simp_all [stepB]))).symm
         ·
          refine acf ?_;refine AGo.skip ?_;refine AGo.region ?_;refine aq 103 (q_inc rfl rfl hkl (by simp only [maxLen]; omega)) ?_;refine am 65 ?_;refine an ?_;exact ⟨k+1, Drop.mk' z15q z10q, (all_succ (zipIdx_get hp) hS (by simp_all [stepB])), by omega⟩
      ·
       refine acf ?_
       have hge3 : paths.length ≤ k := by simpa using hb10
       refine AGo.exit ?_;refine asr ?_;refine aa 6 ?_;refine an ?_;refine AGo.ret ⟨[_], ⟨rfl, trivial⟩, ?_, rfl⟩
       show AV.bool _ = AV.bool _
       congr 1
       exact (check_good h0.1 h0.2.1 h0.2.2 hall hz (all_end hS (by rw [List.length_zipIdx]; exact hge3))).symm
theorem pass_ok {f : BFunc} {p : OPass} (hf : I35 f) (hp : P35 p) (hk : kind35 p.kind = true) : HoldsOk p f :=
  holdsOk_of hk (vcheck_ok f p.f hf.n hp.f.n hf.i hp.f.i p.cert) (check_ok f p.f p.paths (fun x hx => Nat.le_trans (hp.f.i x hx).1 (by decide)) (Nat.le_trans hp.n (by decide)) (fun q hq => Nat.le_trans (hp.q q hq) (by decide)))
theorem checkL_ok (a b : Blocks) (ls : List (List OPass)) (ha : a.funcs.length ≤ 1048576) (hI : ∀ f ∈ a.funcs, I35 f) (hl : ∀ l ∈ ls, l.length ≤ 1048576 ∧ ∀ p ∈ l, P35 p) : APure Tryz.prog 18 [.agg a.cells, .agg b.cells, listAV ls] (fun r => r = .bool (ocheck a b ls)) :=
  check35_ok a b ls ha (fun _ _ f hf g hg l h => leads35_ok f g l (hl l h).1 I35 (hI f hf) (fun _ h => h.lim) (fun p hp => ⟨((hl l h).2 p hp).f, fun x hx hk => pass_ok hx ((hl l h).2 p hp) hk⟩))
theorem i35_tiny : I35 tinyA ∧ I35 tinyB ∧ I35 tinyC := by
  refine ⟨⟨by decide, fun x hx t ht => ?_⟩, ⟨by decide, fun x hx t ht => ?_⟩, ⟨by decide, fun x hx t ht => ?_⟩⟩ <;> (first | simp only [tinyA, List.mem_singleton] at hx | simp only [tinyB, List.mem_singleton] at hx | simp only [tinyC, List.mem_singleton] at hx) <;> subst hx <;> simp only [List.mem_cons, List.not_mem_nil, or_false] at ht <;> rcases ht with rfl | rfl | rfl | rfl <;> exact ⟨by decide, by decide⟩
theorem vlog_ok : LogOk Tryz.prog vlog := by
  obtain ⟨h1, h2, h3⟩ := i35_tiny
  exact logOk_cons ((vcheck_ok tinyB tinyC h2.n h3.n h2.i h3.i certF).mono fun r h => by rw [h]; rfl) <| logOk_cons ((vcheck_ok tinyB tinyB h2.n h2.n h2.i h2.i certT).mono fun r h => by rw [h]; rfl) <| logOk_cons ((vcheck_ok tinyA tinyB h1.n h2.n h1.i h2.i certT).mono fun r h => by rw [h]; rfl) (logOk_nil _)
set_option maxRecDepth 100000 in
theorem optimizeNever_ok (a b : Int) (l : List (List OPass)) (ha : 0 ≤ a ∧ a ≤ 255) (hb : 0 ≤ b ∧ b ≤ 255) (hl : ListLim l) : APure Tryz.prog 12 [.int .u8 a, .int .u8 b, listAV l] (fun r => r = .bool true) := by
 refine APure.of_body (n := 31) tok Tryz.func12 rfl rfl ?_
 refine asr ?_
 refine aa 6 ?_
 refine an ?_
 refine AGo.seq ?_
 refine asr ?_
 refine aQ tok 4 rfl ?_
 refine aop 10 (fun hb1 => ?_) fun hb1 => ?_
 ·
  refine aQ tok 9 rfl ?_
  refine an ?_
  refine act ?_
  refine asr ?_
  refine ax 20 (opu Tryz.func14 (awake_ev tiny_of vlog_ok)) ?_
  refine aa 6 ?_
  refine an ?_
  refine AGo.ret ⟨[_], ⟨rfl, trivial⟩, ?_, rfl⟩
  rfl
 ·
  refine am 11 ?_
  refine ax 12 (opu Tryz.func28 (says_ok a ha)) ?_
  refine am 13 ?_
  refine ax 14 (opu Tryz.func28 (says_ok b hb)) ?_
  refine am 15 ?_
  refine aq 16 (q_build tok rfl rfl rfl rfl rfl (by decide) rfl rfl rfl) ?_
  refine ax 17 (opu Tryz.func20 (few35_ok ⟨saysP a, saysP b, l, ⟨#[]⟩⟩ (says_lim a) (says_lim b) hl)) ?_
  refine aQ tok 2 rfl ?_
  refine an ?_
  refine asp 19 (fun hb2 => ?_) fun hb2 => ?_
  ·
   refine act ?_
   refine asr ?_
   refine ax 20 (opu Tryz.func14 (awake_ev tiny_of vlog_ok)) ?_
   refine aa 6 ?_
   refine an ?_
   refine AGo.ret ⟨[_], ⟨rfl, trivial⟩, ?_, rfl⟩
   rfl
  ·
   refine acf ?_
   have hab : a ≠ b := by simpa using hb1
   have hF := few35_of (z := ⟨saysP a, saysP b, l, ⟨#[]⟩⟩) (by simpa using hb2)
   refine AGo.skip ?_
   refine asr ?_
   refine ax 21 (opu Tryz.func14 (awake_ev tiny_of vlog_ok)) ?_
   refine aQ tok 2 rfl ?_
   refine ax 24 (opu Tryz.func28 (says_ok a ha)) ?_
   refine am 25 ?_
   refine ax 26 (opu Tryz.func28 (says_ok b hb)) ?_
   refine am 27 ?_
   refine ax 28 (opu Tryz.func18 ((checkL_ok (saysP a) (saysP b) l (says_lim a).n ((says_small ha).i (says_w ha)) (fun ps hp => ⟨Nat.le_trans (hF.pass hl ps hp).1 (by decide), (hF.pass hl ps hp).2⟩)).mono (fun r h => by rw [h, says_never ha hb hab hl.w]))) ?_
   refine aQ tok 3 rfl ?_
   refine an ?_
   refine AGo.ret ⟨[_], ⟨rfl, trivial⟩, ?_, rfl⟩
   rfl
end Go.Proofs.YtbbfelelocccmaaGreat.Sv

namespace Go.Proofs.YtbbfelelocccmaaGreat
open Go.ChangeShapes Go.WideShapes Go.ChangeAt Go.RowKit Sv
section
variable {H : Type} {enc : TypeId × Value → H} {W : World}
end
end Go.Proofs.YtbbfelelocccmaaGreat

namespace Go.Proofs.YtbbfelelocccmaaGreat
open Go Go.ChangeShapes Go.WideShapes Go.ChangeAt Go.RowKit Sv
section
variable {H : Type} {enc : TypeId × Value → H} {W : World}
theorem decIntsR : DecR enc Tryz.prog W 25 (fun l : List Int => [intsAV l]) (fun l n => (∀ x ∈ l, isI x) ∧ l.length + 1 ≤ n) := fun fuel cs x h hw => by
  obtain ⟨l, h1, _, h2⟩ := DecR.slice' (j := ty3) tok rfl rfl rfl (Nat.zero_lt_succ _) (DecR.of (Dec.int' tok rfl rfl)) fuel cs x h hw
  refine ⟨l, h1, fun y hy => ?_, h2.len (fun a m h => h.2)⟩
  obtain ⟨m, hm, _⟩ := h2.all y hy; exact wf_i64 hm.1
theorem decPathsR : DecR enc Tryz.prog W 38 (fun l : List (List Int) => [pathsAV l]) (fun l n => l.length + 1 ≤ n ∧ ∀ r ∈ l, r.length + 1 ≤ n) := fun fuel cs x h hw => by
  obtain ⟨l, h1, _, h2⟩ := DecR.slice' (j := ty25) tok rfl rfl rfl (Nat.zero_lt_succ _) decIntsR fuel cs x h hw
  refine ⟨l, h1, h2.len (fun a m h => by have := h.2; omega), fun y hy => ?_⟩
  obtain ⟨m, hm, h3⟩ := h2.all y hy; have := hm.2; omega
theorem decBools : Dec enc Tryz.prog W 112 (fun l : List Bool => [boolsAV l]) (fun l => l.length * 1 ≤ reachBytes ∧ ∀ n ∈ l, True) := Dec.slice' (j := ty4) tok rfl rfl rfl (Nat.zero_lt_succ _) (Dec.bool' tok rfl rfl)
theorem decRows : Dec enc Tryz.prog W 35 (fun l : List (List Bool) => [rowsAV l]) (fun l => True) := fun fuel cs x h hw => by
  obtain ⟨l, h1, h2⟩ := Dec.slice' (j := ty112) tok rfl rfl rfl (Nat.zero_lt_succ _) decBools fuel cs x h hw
  exact ⟨l, h1, trivial⟩
theorem decCert : Dec enc Tryz.prog W 37 Cert.cells (fun _ => True) := fun fuel cs x h hw => by
  obtain ⟨hl, hp⟩ := struct_parts tok (i := ty37) rfl rfl h hw
  have hl' : cs.length = 1 := hl
  obtain ⟨x0, a0, b0⟩ := hp 0 _ _ rfl decRows
  have c0 := app1 tok (n := 1) rfl rfl (Reads.nil W cs) a0 (by omega)
  exact ⟨⟨x0⟩, c0.all hl', trivial⟩
def PassN (p : OPass) (n : Nat) : Prop := p.f.Ok ∧ isI p.kind ∧ p.f.count + 1 ≤ n ∧ p.paths.length ≤ n ∧ ∀ r ∈ p.paths, r.length ≤ n
theorem decPassR : DecR enc Tryz.prog W 43 OPass.cells PassN := fun fuel cs x h hw => by
  obtain ⟨hl, hp⟩ := struct_partsR (i := ty43) tok rfl rfl h hw
  have hl' : cs.length = 5 := hl
  obtain ⟨x0, a0, _, _, b0, _⟩ := hp 0 _ _ rfl (DecR.of (Dec.int' tok rfl rfl))
  obtain ⟨x1, a1, _, _, b1, _⟩ := hp 1 _ _ rfl (DecR.of decCert)
  obtain ⟨x2, a2, m2, c2, d2, e2⟩ := hp 2 _ _ rfl decPathsR
  obtain ⟨x3, a3, m3, c3, d3, e3⟩ := hp 3 _ _ rfl decBFuncR
  have k0 := app1 tok (n := 1) rfl rfl (Reads.nil W cs) a0 (by omega)
  have k1 := app1 tok (n := 1) rfl rfl k0 a1 (by omega)
  have k2 := app1 tok (n := 1) rfl rfl k1 a2 (by omega)
  have k3 := app1 tok (n := 2) rfl rfl k2 a3 (by omega)
  exact ⟨⟨x0, x1, x2, x3⟩, k3.all hl', d3, wf_i64 b0, (by show x3.count + 1 ≤ _; omega), (by show x2.length ≤ _; omega), fun r hr => by have := e2 r hr; omega⟩
def ListsN (ls : List (List OPass)) (n : Nat) : Prop := ls.length + 1 ≤ n ∧ ∀ ps ∈ ls, ps.length ≤ n ∧ ∀ p ∈ ps, PassN p n
theorem PassN.mono {p : OPass} {m n : Nat} (h : PassN p m) (hm : m ≤ n) : PassN p n := ⟨h.1, h.2.1, Nat.le_trans h.2.2.1 hm, Nat.le_trans h.2.2.2.1 hm, fun r hr => Nat.le_trans (h.2.2.2.2 r hr) hm⟩
theorem decListsR : DecR enc Tryz.prog W 28 (fun ls : List (List OPass) => [listAV ls]) ListsN := fun fuel cs x h hw => by
  obtain ⟨ls, h1, _, h2⟩ := DecR.slice' (j := ty34) tok rfl rfl rfl (Nat.zero_lt_succ _) (DecR.slice' (j := ty43) tok rfl rfl rfl (Nat.zero_lt_succ _) decPassR) fuel cs x h hw
  have one : ∀ (a : OPass) (m : Nat), PassN a m → 1 ≤ m := fun a m h => by have := h.2.2.1; omega
  refine ⟨ls, h1, h2.len (fun a m h => by have := h.2.len one; omega), fun ps hps => ?_⟩
  obtain ⟨m, ⟨_, hm⟩, h3⟩ := h2.all ps hps
  refine ⟨by have := hm.len one; omega, fun p hp => ?_⟩
  obtain ⟨k, hk, h4⟩ := hm.all p hp
  exact hk.mono (by omega)
theorem lists_row {ls : List (List OPass)} {n : Nat} (h : ListsN ls n) (hn : n ≤ 1048576) : ListLim ls := by
  refine ⟨by have := h.1; omega, fun ps hp => by have := (h.2 ps hp).1; omega, fun ps hp p hpp => ?_⟩
  have q := ((h.2 ps hp).2 p hpp).mono hn
  exact ⟨by have := q.2.2.1; omega, fun x hx => BFunc.Ok.insW q.1 hx, q.2.2.2.1, q.2.2.2.2⟩
end
end Go.Proofs.YtbbfelelocccmaaGreat

namespace Go.Proofs.YtbbfelelocccmaaGreat
open Go.ChangeShapes Go.WideShapes Go.ChangeAt Go.RowKit Sv
set_option linter.unusedVariables false

set_option maxRecDepth 100000 in
theorem optimizeNever_lifted (os : Os) (started : os.Started) (H : Type) (enc : TypeId × Value → H) (F : Stop.Interp) :
    ReturnsInHanded {} Tryz.checked os 12 .any ((Rows.OpenSpec.upto Rows.optimizeNeverSpec).pre6 enc Tryz.prog Tryz.f12 Rows.optimizeNeverUptoRow.domain false) (((Rows.OpenSpec.upto Rows.optimizeNeverSpec).at F).post enc Tryz.prog Tryz.f12 false true false false) := by
  refine returnsInHanded_of_cond_sized (C := Tryz.checked) (s := Rows.OpenSpec.upto Rows.optimizeNeverSpec) (k := Rows.uptoSmall) rfl own' started (by kernel_rfl) Tryz.func12
    (OpenSpec.witness (enc := enc) (C := Tryz.checked) (s := Rows.OpenSpec.upto Rows.optimizeNeverSpec) (k := Rows.uptoSmall) rfl false ⟨#[], #[.int .u8 0, .int .u8 0, .slice none 0 0], []⟩ 8 (by kernel_rfl) (by kernel_rfl) (by kernel_rfl) (x := ([.lit (.int .u8 0), .lit (.int .u8 0), .nil], [], [])) (by kernel_rfl) rfl (by kernel_rfl)) ?_
  intro W base args ds gs before hval0 hW hcnd hk hwt0 hh
  have hval : ∀ (j : Nat) t v, Tryz.f12.params[j]? = some t → args[j]? = some v → Value.okWide Tryz.prog W .any base t v := hval0
  have hW' := hW
  obtain ⟨p, q, hA0, hV, rfl, hfz, hnd⟩ := hW
  have hA : DataW.TrodAll enc Tryz.prog W 0 (fun _ => true) true Tryz.f12.params.toList args.toList ds p := hA0
  have hwt : (DataW.weightsEach Tryz.prog (Tryz.f12.params.toList ++ (Rows.OpenSpec.upto Rows.optimizeNeverSpec).bare.plain.varTypes Tryz.prog) (ds ++ gs)).all (· ≤ reachBytes) = true := hwt0
  rw [Tryz.params12] at hA hval hwt
  obtain ⟨v0, vs0, d0, ds0, p0, q0, hargs, rfl, rfl, h0, r0⟩ := trodAll_cons hA
  obtain ⟨v1, vs1, d1, ds1, p1, q1, rfl, rfl, rfl, h1, r1⟩ := trodAll_cons r0
  obtain ⟨v2, vs2, d2, ds2, p2, q2, rfl, rfl, rfl, h2, r2⟩ := trodAll_cons r1
  obtain ⟨rfl, rfl, rfl⟩ := trodAll_nil r2
  obtain rfl : args = #[v0, v1, v2] := by cases args; simp_all
  obtain ⟨rfl, rfl⟩ := trodVars_none hV
  obtain ⟨x0, rfl, rfl, rfl, w0⟩ := open_int Tryz.underlying5 (hval 0 5 v0 rfl rfl) h0
  obtain ⟨x1, rfl, rfl, rfl, w1⟩ := open_int Tryz.underlying5 (hval 1 5 v1 rfl rfl) h1
  obtain ⟨x2, e2, g2⟩ := arg_oneR h2 (weightsEach_get hwt (i := 2) rfl rfl) decListsR
  have u2 := upto_get hk (i := 2) rfl
  exact law_calls laidOut' rfl (by kernel_rfl) rfl bool' rfl rfl rfl hW' (.cons (.int _ _ _) (.cons (.int _ _ _) (.cons (e2.val1 (okWide_cell tok rfl rfl (hval 2 _ v2 rfl rfl))) .nil))) (optimizeNever_ok x0 x1 x2 (wf_u8 w0) (wf_u8 w1) (lists_row g2 u2)) (fun g l h => by cases h)

theorem optimizeNever_holds : Rows.OptimizeNeverUptoSaid :=
  OpenClaim.holds_of_cond 12 Tryz.f12 rfl rfl rfl rfl rfl rfl rfl ⟨rfl, rfl, rfl, rfl, rfl⟩ rfl rfl rfl rfl rfl (by kernel_rfl) Tryz.func12 (by kernel_rfl)
    (of_decide_eq_true (by kernel_rfl)) (by unfold Func.isWrapper; first | (rw [if_pos (by decide +kernel)]; kernel_rfl) | (rw [if_neg (by decide +kernel)]; exact ⟨rfl, rfl⟩))
    (fun os started H enc _ F => optimizeNever_lifted os started H enc F)

end Go.Proofs.YtbbfelelocccmaaGreat
