/-
  The law OptimizeTrue of the given program answers true for every input of the bulk that is named, and leaves its arguments as they were. Own work.
  WALKS: printed by a program of our own from the code's tree.
  How strings read: own work.
  HOW PASSES, AND WHAT IS ASKED OF THEM, READ, WITH THEIR BULK: own work.
-/
import Derived.Test.YtbbfelelocccmaaGreatPOptimizeTrue5
import Derived.Test.YtbbfelelocccmaaGreatPOptimizeTrue4
import Derived.Test.YtbbfelelocccmaaGreatPOptimizeTrue3
import Derived.Test.YtbbfelelocccmaaGreatPOptimizeTrue2
import Derived.Deep.CondSized
import Derived.JoinedCond
set_option linter.unusedVariables false
set_option linter.unusedSimpArgs false
set_option maxRecDepth 100000
set_option maxHeartbeats 2000000
namespace Go.Proofs.YtbbfelelocccmaaGreat.Sv
open Go
theorem bin_da (first : Int) (w : VW) (t : Tac) : w.bin first t = ⟨(vapply first w.K t.k (rget w.vals t.a) (rget w.vals t.b)).2, rset w.vals t.d (vapply first w.K t.k (rget w.vals t.a) (rget w.vals t.b)).1, (w.div first t).effs, w.time⟩ := by
  cases hr : vrisky first w t with
  | true => rw [bin_yes hr]; simp only [VW.div, hr, cond_true]
  | false => rw [bin_no hr]; simp only [VW.div, hr, cond_false]
theorem binarya_ok (first : Int) (R m : Nat) (w : VW) (h : VOk first R m w) (hm : m ≤ 90000) (t : Tac) (hd : 0 ≤ t.d ∧ t.d < R) (ha : 0 ≤ t.a ∧ t.a < R) (hb : 0 ≤ t.b ∧ t.b < R) : ACall Tryz.prog 136 [.ptr 6 1 0 0, .agg t.cells] (hput (hput (hput (hput (hput (hput hNew 3 (.map (kvsA .i64 (vmap first ((w).K))))) 4 (.row false 3 [[.int .i64 first, .map 3, slA 9 (((w).K).map (arrAV .i64))]])) 9 (slO 4 (((w).K).map (arrAV .i64)))) 6 (.row false 4 [[.ptr 4 1 0 0, vaA 5 (valC ((w).vals)), slA 10 (((w).effs).map (arrAV .i64)), .int .i64 ((w).time)]])) 5 (vaO (valC ((w).vals)))) 10 (slO 6 (((w).effs).map (arrAV .i64)))) (fun r h' => r = .tup [] ∧ HSub (hput (hput (hput (hput (hput (hput hNone 3 (.map (kvsA .i64 (vmap first (((w.bin first t)).K))))) 4 (.row false 3 [[.int .i64 first, .map 3, slA 9 ((((w.bin first t)).K).map (arrAV .i64))]])) 9 (slO 4 ((((w.bin first t)).K).map (arrAV .i64)))) 6 (.row false 4 [[.ptr 4 1 0 0, vaA 5 (valC (((w.bin first t)).vals)), slA 10 ((((w.bin first t)).effs).map (arrAV .i64)), .int .i64 (((w.bin first t)).time)]])) 5 (vaO (valC (((w.bin first t)).vals)))) 10 (slO 6 ((((w.bin first t)).effs).map (arrAV .i64)))) h') := by
 have hel := h.el
 have hkl := h.kl
 have hxd := h.at hd
 have hxa := h.at ha
 have hxb := h.at hb
 refine ACall.of_body (n := 77) tok Tryz.func136 rfl rfl ?_;refine asr ?_;refine ax 3 (obx 8 12) ?_;refine an ?_;refine asq ?_;refine AGo.draw mix ?_;refine dQ tok 6 rfl ?_;refine dq 14 (q_indexV tok rfl rfl rfl rfl rfl rfl rfl rfl hxa.1 hxa.2.2.1) ?_;refine dq 15 (q_load tok rfl rfl rfl (ptsV rfl (valC_get ⟨hxa.1, hxa.2.1⟩)) rfl) ?_;refine dQ tok 6 rfl ?_;refine dq 22 (q_indexV tok rfl rfl rfl rfl rfl rfl rfl rfl hxb.1 hxb.2.2.1) ?_;refine dq 23 (q_load tok rfl rfl rfl (ptsV rfl (valC_get ⟨hxb.1, hxb.2.1⟩)) rfl) ?_;refine dQ tok 2 rfl ?_;refine DOps.nil (by kernel_rfl) ?_;refine asq ?_;refine asq ?_;refine AGo.join (γ := Unit) (fun _u => ⟨77, (eput (eput (eput (eput (eput eNew 0 (.ptr 6 1 0 0)) 3 (.ptr 12 1 0 0)) 4 (.int .i64 (rget w.vals t.a))) 5 (.int .i64 (rget w.vals t.b))) 31 (.bool (t.k == 7 || t.k == 8))), (hput (hput (hput (hput (hput (hput (hput (hFrom 13) 12 (.row false 8 [t.cells])) 3 (.map (kvsA .i64 (vmap first ((w).K))))) 4 (.row false 3 [[.int .i64 first, .map 3, slA 9 (((w).K).map (arrAV .i64))]])) 9 (slO 4 (((w).K).map (arrAV .i64)))) 6 (.row false 4 [[.ptr 4 1 0 0, vaA 5 (valC ((w).vals)), slA 10 (((w).effs).map (arrAV .i64)), .int .i64 ((w).time)]])) 5 (vaO (valC ((w).vals)))) 10 (slO 6 (((w).effs).map (arrAV .i64))))⟩) (fun _u => True) ?_ ?_
 ·
  refine agr ?_;refine aQ tok 4 rfl ?_;refine aop 27 (fun hb1 => ?_) fun hb1 => ?_
  ·
   refine aQ tok 4 rfl ?_;refine an ?_;exact ⟨(), Sub.mk' z21q z9q, trivial⟩
  refine aQ tok 4 rfl ?_;refine an ?_;exact ⟨(), Sub.mk' z21q z9q, trivial⟩
 intro _u _
 refine AGo.join (γ := Unit) (fun _u => ⟨77, (eput (eput (eput (eput eNew 0 (.ptr 6 1 0 0)) 3 (.ptr 12 1 0 0)) 4 (.int .i64 (rget w.vals t.a))) 5 (.int .i64 (rget w.vals t.b))), (hput (hput (hput (hput (hput (hput (hput (hFrom 13) 12 (.row false 8 [t.cells])) 3 (.map (kvsA .i64 (vmap first (w.K))))) 4 (.row false 3 [[.int .i64 first, .map 3, slA 9 ((w.K).map (arrAV .i64))]])) 9 (slO 4 ((w.K).map (arrAV .i64)))) 6 (.row false 4 [[.ptr 4 1 0 0, vaA 5 (valC ((w).vals)), slA 10 (((w.div first t).effs).map (arrAV .i64)), .int .i64 (w.time)]])) 5 (vaO (valC ((w).vals)))) 10 (slO 6 (((w.div first t).effs).map (arrAV .i64))))⟩) (fun _u => True) ?_ ?_
 ·
  refine asp 31 (fun hb2 => ?_) fun hb2 => ?_
  ·
   refine act ?_;refine asr ?_;refine aQ tok 5 rfl ?_;refine ax 38 (oct (constant_ok first w.K h.f h.k4 (by omega) (rget w.vals t.b) hxb.2.2.2) [9, 4, 3] [(3, (.map (kvsA .i64 (vmap first (w.K))))), (4, (.row false 3 [[.int .i64 first, .map 3, slA 9 ((w.K).map (arrAV .i64))]])), (9, (slO 4 ((w.K).map (arrAV .i64))))] rfl Tryz.func139 (by kernel_rfl) rfl rfl rfl ⟨⟨_, rfl, z23q⟩, ⟨_, rfl, z23q⟩, ⟨_, rfl, z23q⟩, trivial⟩ rfl (hres_cons rfl (hres_cons rfl (hres_cons rfl (hres_nil _)))) ⟨⟨_, rfl, rfl, z23q⟩, ⟨_, rfl, rfl, z23q⟩, ⟨_, rfl, rfl, z23q⟩, trivial⟩ rfl) ?_;refine aQ tok 5 rfl ?_;refine an ?_;refine asr ?_;refine aQ tok 3 rfl ?_;refine aop 43 (fun hb3 => ?_) fun hb3 => ?_
   ·
    refine aQ tok 3 rfl ?_;refine an ?_;refine act ?_;refine AGo.draw mix ?_;refine dQ tok 9 rfl ?_;refine dq 56 (q_build_arr tok rfl rfl rfl rfl rfl rfl (by decide) rfl rfl) ?_;refine dx 57 (o_lit' tok rfl rfl rfl rfl rfl rfl (by decide) rfl rfl rfl rfl rfl rfl) ?_;refine dx 58 (o_append1J tok (b := 10) (es := ((w.effs).map (arrAV .i64))) rfl rfl rfl rfl rfl rfl rfl rfl rfl rfl rfl (Nat.zero_lt_succ _) (arr_len h.e6) (arr_pure _) rfl rfl z39q z34q) ?_;refine dQ tok 2 rfl ?_;refine DOps.w rfl rfl (o_store1 tok rfl rfl rfl rfl rfl rfl rfl rfl rfl (slA_cells _ _) (by decide) (slA_cell1 _ _) (by intro h; cases h)) ?_;refine DOps.nil (by kernel_rfl) ?_;exact ⟨(), Sub.mk' z29q z1q, trivial⟩
   refine aQ tok 3 rfl ?_;refine an ?_;refine asp 46 (fun hb4 => ?_) fun hb4 => ?_
   ·
    refine act ?_;refine AGo.draw mix ?_;refine dQ tok 9 rfl ?_;refine dq 56 (q_build_arr tok rfl rfl rfl rfl rfl rfl (by decide) rfl rfl) ?_;refine dx 57 (o_lit' tok rfl rfl rfl rfl rfl rfl (by decide) rfl rfl rfl rfl rfl rfl) ?_;refine dx 58 (o_append1J tok (b := 10) (es := ((w.effs).map (arrAV .i64))) rfl rfl rfl rfl rfl rfl rfl rfl rfl rfl rfl (Nat.zero_lt_succ _) (arr_len h.e6) (arr_pure _) rfl rfl z39q z34q) ?_;refine dQ tok 2 rfl ?_;refine DOps.w rfl rfl (o_store1 tok rfl rfl rfl rfl rfl rfl rfl rfl rfl (slA_cells _ _) (by decide) (slA_cell1 _ _) (by intro h; cases h)) ?_;refine DOps.nil (by kernel_rfl) ?_;exact ⟨(), Sub.mk' z29q z1q, trivial⟩
   refine acf ?_;refine agk ?_;exact ⟨(), Sub.mk' z29q z1q, trivial⟩
  refine acf ?_;refine agk ?_;exact ⟨(), Sub.mk' z29q z1q, trivial⟩
 intro _u _
 refine AGo.draw mix ?_;refine dQ tok 14 rfl ?_;refine dx 75 (oct (vapply_ok' first w.K h.f h.k4 (by omega) t.k (rget w.vals t.a) (rget w.vals t.b) hxa.2.2.2 hxb.2.2.2) [9, 4, 3] [(3, (.map (kvsA .i64 (vmap first ((vapply first w.K t.k (rget w.vals t.a) (rget w.vals t.b)).2))))), (4, (.row false 3 [[.int .i64 first, .map 3, slA 9 (((vapply first w.K t.k (rget w.vals t.a) (rget w.vals t.b)).2).map (arrAV .i64))]])), (9, (slO 4 (((vapply first w.K t.k (rget w.vals t.a) (rget w.vals t.b)).2).map (arrAV .i64))))] rfl Tryz.func140 (by kernel_rfl) rfl rfl rfl ⟨⟨_, rfl, z23q⟩, ⟨_, rfl, z23q⟩, ⟨_, rfl, z23q⟩, trivial⟩ rfl (hres_cons rfl (hres_cons rfl (hres_cons rfl (hres_nil _)))) ⟨⟨_, rfl, rfl, z23q⟩, ⟨_, rfl, rfl, z23q⟩, ⟨_, rfl, rfl, z23q⟩, trivial⟩ rfl) ?_;refine dq 76 (q_indexV tok rfl rfl rfl rfl rfl rfl rfl rfl hxd.1 hxd.2.2.1) ?_;refine DOps.w rfl rfl (o_storeV tok rfl rfl rfl rfl rfl rfl rfl z36q (valC_one _) rfl rfl rfl) ?_
 refine DOps.nil (by kernel_rfl) ?_;refine ⟨[], trivial, rfl, ?_⟩
 rw [bin_da]
 exact HSub.put (HSub.put (HSub.put (HSub.put (HSub.put (HSub.put (HSub.none _) rfl) rfl) rfl) (by show _ = some (AObj.row false 4 [[.ptr 4 1 0 0, vaA 5 (valC (rset w.vals t.d _)), slA 10 ((w.div first t).effs.map (arrAV .i64)), .int .i64 w.time]]); rw [valC_vaA]; rfl)) z28q) rfl
theorem vstepa_ok (first : Int) (R m : Nat) (w : VW) (h : VOk first R m w) (hm : m ≤ 80000) (t : Tac) (ht : TacV t R) : ACall Tryz.prog 133 [.ptr 6 1 0 0, .agg t.cells] (hput (hput (hput (hput (hput (hput hNew 3 (.map (kvsA .i64 (vmap first ((w).K))))) 4 (.row false 3 [[.int .i64 first, .map 3, slA 9 (((w).K).map (arrAV .i64))]])) 9 (slO 4 (((w).K).map (arrAV .i64)))) 6 (.row false 4 [[.ptr 4 1 0 0, vaA 5 (valC ((w).vals)), slA 10 (((w).effs).map (arrAV .i64)), .int .i64 ((w).time)]])) 5 (vaO (valC ((w).vals)))) 10 (slO 6 (((w).effs).map (arrAV .i64)))) (fun r h' => r = .tup [] ∧ HSub (hput (hput (hput (hput (hput (hput hNone 3 (.map (kvsA .i64 (vmap first (((w.step first t)).K))))) 4 (.row false 3 [[.int .i64 first, .map 3, slA 9 ((((w.step first t)).K).map (arrAV .i64))]])) 9 (slO 4 ((((w.step first t)).K).map (arrAV .i64)))) 6 (.row false 4 [[.ptr 4 1 0 0, vaA 5 (valC (((w.step first t)).vals)), slA 10 ((((w.step first t)).effs).map (arrAV .i64)), .int .i64 (((w.step first t)).time)]])) 5 (vaO (valC (((w.step first t)).vals)))) 10 (slO 6 ((((w.step first t)).effs).map (arrAV .i64)))) h') := by
 have hel := h.el
 have hkl := h.kl
 have htl := h.tl
 refine ACall.of_body (n := 148) tok Tryz.func133 rfl rfl ?_;refine asr ?_;refine ax 3 (obx 8 12) ?_;refine an ?_;refine asr ?_;refine aQ tok 5 rfl ?_;refine an ?_;refine asr ?_;refine aQ tok 2 rfl ?_;refine an ?_;refine AGo.block ?_;refine asr ?_;refine aQ tok 2 rfl ?_;refine an ?_;refine asp 11 (fun hb1 => ?_) fun hb1 => ?_
 ·
  refine act ?_
  have ho : t.op = 1 := by simpa using hb1
  have hxd := h.at (ht.d (by rw [ho]; rfl))
  
  refine AGo.draw mix ?_;refine dQ tok 9 rfl ?_;refine dq 22 (q_convTo tok rfl rfl rfl rfl rfl (r := t.n) (by obtain ⟨h1, h2⟩ := ht.n; exact wrap_i64 (by omega) (by omega))) ?_;refine dq 23 (q_build_arr tok rfl rfl rfl rfl rfl rfl (by decide) rfl rfl) ?_;refine dx 24 (oct (number_ok first w.K h.f h.k4 (by omega) (1) (t.n) (0) (0)) [9, 4, 3] [(3, (.map (kvsA .i64 (vmap first ((vnum first w.K [1, t.n, 0, 0]).2))))), (4, (.row false 3 [[.int .i64 first, .map 3, slA 9 (((vnum first w.K [1, t.n, 0, 0]).2).map (arrAV .i64))]])), (9, (slO 4 (((vnum first w.K [1, t.n, 0, 0]).2).map (arrAV .i64))))] rfl Tryz.func135 (by kernel_rfl) rfl rfl rfl ⟨⟨_, rfl, z23q⟩, ⟨_, rfl, z23q⟩, ⟨_, rfl, z23q⟩, trivial⟩ rfl (hres_cons rfl (hres_cons rfl (hres_cons rfl (hres_nil _)))) ⟨⟨_, rfl, rfl, z23q⟩, ⟨_, rfl, rfl, z23q⟩, ⟨_, rfl, rfl, z23q⟩, trivial⟩ rfl) ?_;refine dq 25 (q_indexV tok rfl rfl rfl rfl rfl rfl rfl rfl hxd.1 hxd.2.2.1) ?_
  refine DOps.w rfl rfl (o_storeV tok rfl rfl rfl rfl rfl rfl rfl z36q (valC_one _) rfl rfl rfl) ?_;refine DOps.nil (by kernel_rfl) ?_;refine ⟨[], trivial, rfl, ?_⟩
  rw [vstep1 ho]
  exact HSub.put (HSub.put (HSub.put (HSub.put (HSub.put (HSub.put (HSub.none _) rfl) rfl) rfl) z17q) z28q) rfl
 refine acf ?_;refine asr ?_;refine aQ tok 2 rfl ?_;refine an ?_;refine asp 26 (fun hb2 => ?_) fun hb2 => ?_
 ·
  refine act ?_
  have ho : t.op = 2 := by simpa using hb2
  have hxd := h.at (ht.d (by rw [ho]; rfl))
  have hxa := h.at (ht.a (.inl (by rw [ho]; rfl)))
   
  refine AGo.draw mix ?_;refine dQ tok 6 rfl ?_;refine dq 34 (q_indexV tok rfl rfl rfl rfl rfl rfl rfl rfl hxa.1 hxa.2.2.1) ?_;refine dq 35 (q_load tok rfl rfl rfl (ptsV rfl (valC_get ⟨hxa.1, hxa.2.1⟩)) rfl) ?_;refine dq 36 (q_indexV tok rfl rfl rfl rfl rfl rfl rfl rfl hxd.1 hxd.2.2.1) ?_;refine DOps.w rfl rfl (o_storeV tok rfl rfl rfl rfl rfl rfl rfl z36q (valC_one _) rfl rfl rfl) ?_;refine DOps.nil (by kernel_rfl) ?_;refine ⟨[], trivial, rfl, ?_⟩
  rw [vstep2 ho]
  exact HSub.put (HSub.put (HSub.put (HSub.put (HSub.put (HSub.put (HSub.none _) rfl) rfl) rfl) z17q) z28q) rfl
 refine acf ?_;refine asr ?_;refine aQ tok 2 rfl ?_;refine an ?_;refine asp 37 (fun hb3 => ?_) fun hb3 => ?_
 ·
  refine act ?_
  have ho : t.op = 3 := by simpa using hb3
    
  refine agr ?_;refine aQ tok 2 rfl ?_;refine ax 41 (oct (binarya_ok first R m w h (by omega) t (ht.d (by rw [ho]; rfl)) (ht.a (.inr (by rw [ho]; rfl))) (ht.b (by rw [ho]; rfl))) [10, 5, 6, 9, 4, 3] [(3, (.map (kvsA .i64 (vmap first (((w.bin first t)).K))))), (4, (.row false 3 [[.int .i64 first, .map 3, slA 9 ((((w.bin first t)).K).map (arrAV .i64))]])), (9, (slO 4 ((((w.bin first t)).K).map (arrAV .i64)))), (6, (.row false 4 [[.ptr 4 1 0 0, vaA 5 (valC (((w.bin first t)).vals)), slA 10 ((((w.bin first t)).effs).map (arrAV .i64)), .int .i64 (((w.bin first t)).time)]])), (5, (vaO (valC (((w.bin first t)).vals)))), (10, (slO 6 ((((w.bin first t)).effs).map (arrAV .i64))))] rfl Tryz.func136 (by kernel_rfl) rfl rfl rfl ⟨⟨_, rfl, z23q⟩, ⟨_, rfl, z23q⟩, ⟨_, rfl, z23q⟩, ⟨_, rfl, z23q⟩, ⟨_, rfl, z23q⟩, ⟨_, rfl, z23q⟩, trivial⟩ rfl (hres_cons rfl (hres_cons rfl (hres_cons rfl (hres_cons rfl (hres_cons rfl (hres_cons rfl (hres_nil _))))))) ⟨⟨_, rfl, rfl, z23q⟩, ⟨_, rfl, rfl, z23q⟩, ⟨_, rfl, rfl, z23q⟩, ⟨_, rfl, rfl, z23q⟩, ⟨_, rfl, rfl, z23q⟩, ⟨_, rfl, rfl, z23q⟩, trivial⟩ rfl) ?_
  refine an ?_;refine ⟨[], trivial, rfl, ?_⟩
  rw [vstep3 ho]
  exact HSub.put (HSub.put (HSub.put (HSub.put (HSub.put (HSub.put (HSub.none _) rfl) rfl) rfl) rfl) rfl) rfl
 refine acf ?_;refine asr ?_;refine aQ tok 2 rfl ?_;refine an ?_;refine asp 42 (fun hb4 => ?_) fun hb4 => ?_
 ·
  refine act ?_
  have ho : t.op = 4 := by simpa using hb4
  have hxd := h.at (ht.d (by rw [ho]; rfl))
     
  refine AGo.draw mix ?_;refine dQ tok 13 rfl ?_;refine dq 57 (q_build_arr tok rfl rfl rfl rfl rfl rfl (by decide) rfl rfl) ?_;refine dx 58 (oct (number_ok first w.K h.f h.k4 (by omega) (3) (t.base) (w.time) (0)) [9, 4, 3] [(3, (.map (kvsA .i64 (vmap first ((vnum first w.K [3, t.base, w.time, 0]).2))))), (4, (.row false 3 [[.int .i64 first, .map 3, slA 9 (((vnum first w.K [3, t.base, w.time, 0]).2).map (arrAV .i64))]])), (9, (slO 4 (((vnum first w.K [3, t.base, w.time, 0]).2).map (arrAV .i64))))] rfl Tryz.func135 (by kernel_rfl) rfl rfl rfl ⟨⟨_, rfl, z23q⟩, ⟨_, rfl, z23q⟩, ⟨_, rfl, z23q⟩, trivial⟩ rfl (hres_cons rfl (hres_cons rfl (hres_cons rfl (hres_nil _)))) ⟨⟨_, rfl, rfl, z23q⟩, ⟨_, rfl, rfl, z23q⟩, ⟨_, rfl, rfl, z23q⟩, trivial⟩ rfl) ?_;refine dq 59 (q_indexV tok rfl rfl rfl rfl rfl rfl rfl rfl hxd.1 hxd.2.2.1) ?_;refine DOps.w rfl rfl (o_storeV tok rfl rfl rfl rfl rfl rfl rfl z36q (valC_one _) rfl rfl rfl) ?_
  refine DOps.nil (by kernel_rfl) ?_;refine ⟨[], trivial, rfl, ?_⟩
  rw [vstep4 ho]
  exact HSub.put (HSub.put (HSub.put (HSub.put (HSub.put (HSub.put (HSub.none _) rfl) rfl) rfl) z17q) z28q) rfl
 refine acf ?_;refine asr ?_;refine aQ tok 2 rfl ?_;refine an ?_;refine asp 60 (fun hb5 => ?_) fun hb5 => ?_
 ·
  refine act ?_
  have ho : t.op = 5 := by simpa using hb5
  have hxa := h.at (ht.a (.inl (by rw [ho]; rfl)))
      
  refine asq ?_;refine AGo.draw mix ?_;refine dQ tok 5 rfl ?_;refine dq 67 (q_indexV tok rfl rfl rfl rfl rfl rfl rfl rfl hxa.1 hxa.2.2.1) ?_;refine dq 68 (q_load tok rfl rfl rfl (ptsV rfl (valC_get ⟨hxa.1, hxa.2.1⟩)) rfl) ?_;refine dx 69 (oct (happensa_ok first R m w h (by omega) t (rget w.vals t.a) 0) [10, 5, 6, 9, 4, 3] [(3, (.map (kvsA .i64 (vmap first (((w.hap t (rget w.vals t.a) 0)).K))))), (4, (.row false 3 [[.int .i64 first, .map 3, slA 9 ((((w.hap t (rget w.vals t.a) 0)).K).map (arrAV .i64))]])), (9, (slO 4 ((((w.hap t (rget w.vals t.a) 0)).K).map (arrAV .i64)))), (6, (.row false 4 [[.ptr 4 1 0 0, vaA 5 (valC (((w.hap t (rget w.vals t.a) 0)).vals)), slA 10 ((((w.hap t (rget w.vals t.a) 0)).effs).map (arrAV .i64)), .int .i64 (((w.hap t (rget w.vals t.a) 0)).time)]])), (5, (vaO (valC (((w.hap t (rget w.vals t.a) 0)).vals)))), (10, (slO 6 ((((w.hap t (rget w.vals t.a) 0)).effs).map (arrAV .i64))))] rfl Tryz.func137 (by kernel_rfl) rfl rfl rfl ⟨⟨_, rfl, z23q⟩, ⟨_, rfl, z23q⟩, ⟨_, rfl, z23q⟩, ⟨_, rfl, z23q⟩, ⟨_, rfl, z23q⟩, ⟨_, rfl, z23q⟩, trivial⟩ rfl (hres_cons rfl (hres_cons rfl (hres_cons rfl (hres_cons rfl (hres_cons rfl (hres_cons rfl (hres_nil _))))))) ⟨⟨_, rfl, rfl, z23q⟩, ⟨_, rfl, rfl, z23q⟩, ⟨_, rfl, rfl, z23q⟩, ⟨_, rfl, rfl, z23q⟩, ⟨_, rfl, rfl, z23q⟩, ⟨_, rfl, rfl, z23q⟩, trivial⟩ rfl) ?_
  refine DOps.nil (by kernel_rfl) ?_;refine agr ?_;refine aQ tok 4 rfl ?_;refine aq 74 (q_bin (r := .int .i64 (w.time + 1)) rfl rfl rfl (by exact timeZ (x := w.time) (by omega))) ?_;refine aQ tok 2 rfl ?_;refine AOps.w rfl rfl (o_store tok rfl rfl rfl rfl rfl rfl rfl rfl rfl (by decide) rfl z33q) ?_;refine an ?_;refine ⟨[], trivial, rfl, ?_⟩
  rw [vstep5 ho]
  exact HSub.put (HSub.put (HSub.put (HSub.put (HSub.put (HSub.put (HSub.none _) rfl) rfl) rfl) rfl) rfl) rfl
 refine acf ?_;refine asr ?_;refine aQ tok 2 rfl ?_;refine an ?_;refine asp 77 (fun hb6 => ?_) fun hb6 => ?_
 ·
  refine act ?_
  have ho : t.op = 6 := by simpa using hb6
  have hxd := h.at (ht.d (by rw [ho]; rfl))
  have hxa := h.at (ht.a (.inl (by rw [ho]; rfl)))
       
  refine asq ?_;refine AGo.draw mix ?_;refine dQ tok 5 rfl ?_;refine dq 84 (q_indexV tok rfl rfl rfl rfl rfl rfl rfl rfl hxa.1 hxa.2.2.1) ?_;refine dq 85 (q_load tok rfl rfl rfl (ptsV rfl (valC_get ⟨hxa.1, hxa.2.1⟩)) rfl) ?_;refine dx 86 (oct (happensa_ok first R m w h (by omega) t (rget w.vals t.a) 0) [10, 5, 6, 9, 4, 3] [(3, (.map (kvsA .i64 (vmap first (((w.hap t (rget w.vals t.a) 0)).K))))), (4, (.row false 3 [[.int .i64 first, .map 3, slA 9 ((((w.hap t (rget w.vals t.a) 0)).K).map (arrAV .i64))]])), (9, (slO 4 ((((w.hap t (rget w.vals t.a) 0)).K).map (arrAV .i64)))), (6, (.row false 4 [[.ptr 4 1 0 0, vaA 5 (valC (((w.hap t (rget w.vals t.a) 0)).vals)), slA 10 ((((w.hap t (rget w.vals t.a) 0)).effs).map (arrAV .i64)), .int .i64 (((w.hap t (rget w.vals t.a) 0)).time)]])), (5, (vaO (valC (((w.hap t (rget w.vals t.a) 0)).vals)))), (10, (slO 6 ((((w.hap t (rget w.vals t.a) 0)).effs).map (arrAV .i64))))] rfl Tryz.func137 (by kernel_rfl) rfl rfl rfl ⟨⟨_, rfl, z23q⟩, ⟨_, rfl, z23q⟩, ⟨_, rfl, z23q⟩, ⟨_, rfl, z23q⟩, ⟨_, rfl, z23q⟩, ⟨_, rfl, z23q⟩, trivial⟩ rfl (hres_cons rfl (hres_cons rfl (hres_cons rfl (hres_cons rfl (hres_cons rfl (hres_cons rfl (hres_nil _))))))) ⟨⟨_, rfl, rfl, z23q⟩, ⟨_, rfl, rfl, z23q⟩, ⟨_, rfl, rfl, z23q⟩, ⟨_, rfl, rfl, z23q⟩, ⟨_, rfl, rfl, z23q⟩, ⟨_, rfl, rfl, z23q⟩, trivial⟩ rfl) ?_
  refine DOps.nil (by kernel_rfl) ?_;refine AGo.draw mix ?_;refine dQ tok 4 rfl ?_;refine dx 91 (oct (unknowna_ok first R (m + 1) (w.hap t (rget w.vals t.a) 0) (h.eff rfl) (by omega)) [10, 5, 6, 9, 4, 3] [(3, (.map (kvsA .i64 (vmap first ((vunk first (w.hap t (rget w.vals t.a) 0)).2))))), (4, (.row false 3 [[.int .i64 first, .map 3, slA 9 (((vunk first (w.hap t (rget w.vals t.a) 0)).2).map (arrAV .i64))]])), (9, (slO 4 (((vunk first (w.hap t (rget w.vals t.a) 0)).2).map (arrAV .i64)))), (6, (.row false 4 [[.ptr 4 1 0 0, vaA 5 (valC (((w.hap t (rget w.vals t.a) 0)).vals)), slA 10 ((((w.hap t (rget w.vals t.a) 0)).effs).map (arrAV .i64)), .int .i64 (((w.hap t (rget w.vals t.a) 0)).time)]])), (5, (vaO (valC (((w.hap t (rget w.vals t.a) 0)).vals)))), (10, (slO 6 ((((w.hap t (rget w.vals t.a) 0)).effs).map (arrAV .i64))))] rfl Tryz.func138 (by kernel_rfl) rfl rfl rfl ⟨⟨_, rfl, z23q⟩, ⟨_, rfl, z23q⟩, ⟨_, rfl, z23q⟩, ⟨_, rfl, z23q⟩, ⟨_, rfl, z23q⟩, ⟨_, rfl, z23q⟩, trivial⟩ rfl (hres_cons rfl (hres_cons rfl (hres_cons rfl (hres_cons rfl (hres_cons rfl (hres_cons rfl (hres_nil _))))))) ⟨⟨_, rfl, rfl, z23q⟩, ⟨_, rfl, rfl, z23q⟩, ⟨_, rfl, rfl, z23q⟩, ⟨_, rfl, rfl, z23q⟩, ⟨_, rfl, rfl, z23q⟩, ⟨_, rfl, rfl, z23q⟩, trivial⟩ rfl) ?_
  refine dq 92 (q_indexV tok rfl rfl rfl rfl rfl rfl rfl rfl hxd.1 hxd.2.2.1) ?_;refine DOps.w rfl rfl (o_storeV tok rfl rfl rfl rfl rfl rfl rfl z36q (valC_one _) rfl rfl rfl) ?_;refine DOps.nil (by kernel_rfl) ?_;refine ⟨[], trivial, rfl, ?_⟩
  rw [vstep6 ho]
  exact HSub.put (HSub.put (HSub.put (HSub.put (HSub.put (HSub.put (HSub.none _) rfl) rfl) rfl) (by show _ = some (AObj.row false 4 [[.ptr 4 1 0 0, vaA 5 (valC (rset w.vals t.d _)), slA 10 ((w.hap t (rget w.vals t.a) 0).effs.map (arrAV .i64)), .int .i64 w.time]]); rw [valC_vaA]; rfl)) z28q) rfl
 refine acf ?_;refine asr ?_;refine aQ tok 2 rfl ?_;refine an ?_;refine asp 93 (fun hb7 => ?_) fun hb7 => ?_
 ·
  refine act ?_
  have ho : t.op = 7 := by simpa using hb7
  have hxa := h.at (ht.a (.inr (by rw [ho]; rfl)))
  have hxb := h.at (ht.b (by rw [ho]; rfl))
        
  refine asq ?_;refine AGo.draw mix ?_;refine dQ tok 5 rfl ?_;refine dq 100 (q_indexV tok rfl rfl rfl rfl rfl rfl rfl rfl hxa.1 hxa.2.2.1) ?_;refine dq 101 (q_load tok rfl rfl rfl (ptsV rfl (valC_get ⟨hxa.1, hxa.2.1⟩)) rfl) ?_;refine dQ tok 3 rfl ?_;refine dq 105 (q_indexV tok rfl rfl rfl rfl rfl rfl rfl rfl hxb.1 hxb.2.2.1) ?_;refine dq 106 (q_load tok rfl rfl rfl (ptsV rfl (valC_get ⟨hxb.1, hxb.2.1⟩)) rfl) ?_;refine dx 107 (oct (happensa_ok first R m w h (by omega) t (rget w.vals t.a) (rget w.vals t.b)) [10, 5, 6, 9, 4, 3] [(3, (.map (kvsA .i64 (vmap first (((w.hap t (rget w.vals t.a) (rget w.vals t.b))).K))))), (4, (.row false 3 [[.int .i64 first, .map 3, slA 9 ((((w.hap t (rget w.vals t.a) (rget w.vals t.b))).K).map (arrAV .i64))]])), (9, (slO 4 ((((w.hap t (rget w.vals t.a) (rget w.vals t.b))).K).map (arrAV .i64)))), (6, (.row false 4 [[.ptr 4 1 0 0, vaA 5 (valC (((w.hap t (rget w.vals t.a) (rget w.vals t.b))).vals)), slA 10 ((((w.hap t (rget w.vals t.a) (rget w.vals t.b))).effs).map (arrAV .i64)), .int .i64 (((w.hap t (rget w.vals t.a) (rget w.vals t.b))).time)]])), (5, (vaO (valC (((w.hap t (rget w.vals t.a) (rget w.vals t.b))).vals)))), (10, (slO 6 ((((w.hap t (rget w.vals t.a) (rget w.vals t.b))).effs).map (arrAV .i64))))] rfl Tryz.func137 (by kernel_rfl) rfl rfl rfl ⟨⟨_, rfl, z23q⟩, ⟨_, rfl, z23q⟩, ⟨_, rfl, z23q⟩, ⟨_, rfl, z23q⟩, ⟨_, rfl, z23q⟩, ⟨_, rfl, z23q⟩, trivial⟩ rfl (hres_cons rfl (hres_cons rfl (hres_cons rfl (hres_cons rfl (hres_cons rfl (hres_cons rfl (hres_nil _))))))) ⟨⟨_, rfl, rfl, z23q⟩, ⟨_, rfl, rfl, z23q⟩, ⟨_, rfl, rfl, z23q⟩, ⟨_, rfl, rfl, z23q⟩, ⟨_, rfl, rfl, z23q⟩, ⟨_, rfl, rfl, z23q⟩, trivial⟩ rfl) ?_
  refine DOps.nil (by kernel_rfl) ?_;refine agr ?_;refine aQ tok 4 rfl ?_;refine aq 112 (q_bin (r := .int .i64 (w.time + 1)) rfl rfl rfl (by exact timeZ (x := w.time) (by omega))) ?_;refine aQ tok 2 rfl ?_;refine AOps.w rfl rfl (o_store tok rfl rfl rfl rfl rfl rfl rfl rfl rfl (by decide) rfl z33q) ?_;refine an ?_;refine ⟨[], trivial, rfl, ?_⟩
  rw [vstep7 ho]
  exact HSub.put (HSub.put (HSub.put (HSub.put (HSub.put (HSub.put (HSub.none _) rfl) rfl) rfl) rfl) rfl) rfl
 refine acf ?_;refine asr ?_;refine aQ tok 2 rfl ?_;refine an ?_;refine asp 115 (fun hb8 => ?_) fun hb8 => ?_
 ·
  refine act ?_
  have ho : t.op = 8 := by simpa using hb8
  have hxd := h.at (ht.d (by rw [ho]; rfl))
         
  refine asr ?_;refine aQ tok 2 rfl ?_;refine ax 119 (oct (happensa_ok first R m w h (by omega) t 0 0) [10, 5, 6, 9, 4, 3] [(3, (.map (kvsA .i64 (vmap first (((w.hap t 0 0)).K))))), (4, (.row false 3 [[.int .i64 first, .map 3, slA 9 ((((w.hap t 0 0)).K).map (arrAV .i64))]])), (9, (slO 4 ((((w.hap t 0 0)).K).map (arrAV .i64)))), (6, (.row false 4 [[.ptr 4 1 0 0, vaA 5 (valC (((w.hap t 0 0)).vals)), slA 10 ((((w.hap t 0 0)).effs).map (arrAV .i64)), .int .i64 (((w.hap t 0 0)).time)]])), (5, (vaO (valC (((w.hap t 0 0)).vals)))), (10, (slO 6 ((((w.hap t 0 0)).effs).map (arrAV .i64))))] rfl Tryz.func137 (by kernel_rfl) rfl rfl rfl ⟨⟨_, rfl, z23q⟩, ⟨_, rfl, z23q⟩, ⟨_, rfl, z23q⟩, ⟨_, rfl, z23q⟩, ⟨_, rfl, z23q⟩, ⟨_, rfl, z23q⟩, trivial⟩ rfl (hres_cons rfl (hres_cons rfl (hres_cons rfl (hres_cons rfl (hres_cons rfl (hres_cons rfl (hres_nil _))))))) ⟨⟨_, rfl, rfl, z23q⟩, ⟨_, rfl, rfl, z23q⟩, ⟨_, rfl, rfl, z23q⟩, ⟨_, rfl, rfl, z23q⟩, ⟨_, rfl, rfl, z23q⟩, ⟨_, rfl, rfl, z23q⟩, trivial⟩ rfl) ?_
  refine an ?_;refine AGo.draw mix ?_;refine dQ tok 4 rfl ?_;refine dx 124 (oct (unknowna_ok first R (m + 1) (w.hap t 0 0) (h.eff rfl) (by omega)) [10, 5, 6, 9, 4, 3] [(3, (.map (kvsA .i64 (vmap first ((vunk first (w.hap t 0 0)).2))))), (4, (.row false 3 [[.int .i64 first, .map 3, slA 9 (((vunk first (w.hap t 0 0)).2).map (arrAV .i64))]])), (9, (slO 4 (((vunk first (w.hap t 0 0)).2).map (arrAV .i64)))), (6, (.row false 4 [[.ptr 4 1 0 0, vaA 5 (valC (((w.hap t 0 0)).vals)), slA 10 ((((w.hap t 0 0)).effs).map (arrAV .i64)), .int .i64 (((w.hap t 0 0)).time)]])), (5, (vaO (valC (((w.hap t 0 0)).vals)))), (10, (slO 6 ((((w.hap t 0 0)).effs).map (arrAV .i64))))] rfl Tryz.func138 (by kernel_rfl) rfl rfl rfl ⟨⟨_, rfl, z23q⟩, ⟨_, rfl, z23q⟩, ⟨_, rfl, z23q⟩, ⟨_, rfl, z23q⟩, ⟨_, rfl, z23q⟩, ⟨_, rfl, z23q⟩, trivial⟩ rfl (hres_cons rfl (hres_cons rfl (hres_cons rfl (hres_cons rfl (hres_cons rfl (hres_cons rfl (hres_nil _))))))) ⟨⟨_, rfl, rfl, z23q⟩, ⟨_, rfl, rfl, z23q⟩, ⟨_, rfl, rfl, z23q⟩, ⟨_, rfl, rfl, z23q⟩, ⟨_, rfl, rfl, z23q⟩, ⟨_, rfl, rfl, z23q⟩, trivial⟩ rfl) ?_
  refine dq 125 (q_indexV tok rfl rfl rfl rfl rfl rfl rfl rfl hxd.1 hxd.2.2.1) ?_;refine DOps.w rfl rfl (o_storeV tok rfl rfl rfl rfl rfl rfl rfl z36q (valC_one _) rfl rfl rfl) ?_;refine DOps.nil (by kernel_rfl) ?_;refine ⟨[], trivial, rfl, ?_⟩
  rw [vstep8 ho]
  exact HSub.put (HSub.put (HSub.put (HSub.put (HSub.put (HSub.put (HSub.none _) rfl) rfl) rfl) (by show _ = some (AObj.row false 4 [[.ptr 4 1 0 0, vaA 5 (valC (rset w.vals t.d _)), slA 10 ((w.hap t 0 0).effs.map (arrAV .i64)), .int .i64 w.time]]); rw [valC_vaA]; rfl)) z28q) rfl
 refine acf ?_;refine asr ?_;refine aQ tok 2 rfl ?_;refine an ?_;refine asp 126 (fun hb9 => ?_) fun hb9 => ?_
 ·
  refine act ?_
  have ho : t.op = 9 := by simpa using hb9
  have hxa := h.at (ht.a (.inl (by rw [ho]; rfl)))
          
  refine AGo.draw mix ?_;refine dQ tok 5 rfl ?_;refine dq 133 (q_indexV tok rfl rfl rfl rfl rfl rfl rfl rfl hxa.1 hxa.2.2.1) ?_;refine dq 134 (q_load tok rfl rfl rfl (ptsV rfl (valC_get ⟨hxa.1, hxa.2.1⟩)) rfl) ?_;refine dx 135 (oct (happensa_ok first R m w h (by omega) t (rget w.vals t.a) 0) [10, 5, 6, 9, 4, 3] [(3, (.map (kvsA .i64 (vmap first (((w.hap t (rget w.vals t.a) 0)).K))))), (4, (.row false 3 [[.int .i64 first, .map 3, slA 9 ((((w.hap t (rget w.vals t.a) 0)).K).map (arrAV .i64))]])), (9, (slO 4 ((((w.hap t (rget w.vals t.a) 0)).K).map (arrAV .i64)))), (6, (.row false 4 [[.ptr 4 1 0 0, vaA 5 (valC (((w.hap t (rget w.vals t.a) 0)).vals)), slA 10 ((((w.hap t (rget w.vals t.a) 0)).effs).map (arrAV .i64)), .int .i64 (((w.hap t (rget w.vals t.a) 0)).time)]])), (5, (vaO (valC (((w.hap t (rget w.vals t.a) 0)).vals)))), (10, (slO 6 ((((w.hap t (rget w.vals t.a) 0)).effs).map (arrAV .i64))))] rfl Tryz.func137 (by kernel_rfl) rfl rfl rfl ⟨⟨_, rfl, z23q⟩, ⟨_, rfl, z23q⟩, ⟨_, rfl, z23q⟩, ⟨_, rfl, z23q⟩, ⟨_, rfl, z23q⟩, ⟨_, rfl, z23q⟩, trivial⟩ rfl (hres_cons rfl (hres_cons rfl (hres_cons rfl (hres_cons rfl (hres_cons rfl (hres_cons rfl (hres_nil _))))))) ⟨⟨_, rfl, rfl, z23q⟩, ⟨_, rfl, rfl, z23q⟩, ⟨_, rfl, rfl, z23q⟩, ⟨_, rfl, rfl, z23q⟩, ⟨_, rfl, rfl, z23q⟩, ⟨_, rfl, rfl, z23q⟩, trivial⟩ rfl) ?_
  refine DOps.nil (by kernel_rfl) ?_;refine ⟨[], trivial, rfl, ?_⟩
  rw [vstep9 ho]
  exact HSub.put (HSub.put (HSub.put (HSub.put (HSub.put (HSub.put (HSub.none _) rfl) rfl) rfl) rfl) rfl) rfl
 refine acf ?_;refine asr ?_;refine aQ tok 2 rfl ?_;refine an ?_;refine asp 136 (fun hb10 => ?_) fun hb10 => ?_
 ·
  refine act ?_
  have ho : t.op = 10 := by simpa using hb10
           
  refine asr ?_;refine aQ tok 2 rfl ?_;refine ax 140 (oct (happensa_ok first R m w h (by omega) t 0 0) [10, 5, 6, 9, 4, 3] [(3, (.map (kvsA .i64 (vmap first (((w.hap t 0 0)).K))))), (4, (.row false 3 [[.int .i64 first, .map 3, slA 9 ((((w.hap t 0 0)).K).map (arrAV .i64))]])), (9, (slO 4 ((((w.hap t 0 0)).K).map (arrAV .i64)))), (6, (.row false 4 [[.ptr 4 1 0 0, vaA 5 (valC (((w.hap t 0 0)).vals)), slA 10 ((((w.hap t 0 0)).effs).map (arrAV .i64)), .int .i64 (((w.hap t 0 0)).time)]])), (5, (vaO (valC (((w.hap t 0 0)).vals)))), (10, (slO 6 ((((w.hap t 0 0)).effs).map (arrAV .i64))))] rfl Tryz.func137 (by kernel_rfl) rfl rfl rfl ⟨⟨_, rfl, z23q⟩, ⟨_, rfl, z23q⟩, ⟨_, rfl, z23q⟩, ⟨_, rfl, z23q⟩, ⟨_, rfl, z23q⟩, ⟨_, rfl, z23q⟩, trivial⟩ rfl (hres_cons rfl (hres_cons rfl (hres_cons rfl (hres_cons rfl (hres_cons rfl (hres_cons rfl (hres_nil _))))))) ⟨⟨_, rfl, rfl, z23q⟩, ⟨_, rfl, rfl, z23q⟩, ⟨_, rfl, rfl, z23q⟩, ⟨_, rfl, rfl, z23q⟩, ⟨_, rfl, rfl, z23q⟩, ⟨_, rfl, rfl, z23q⟩, trivial⟩ rfl) ?_
  refine an ?_;refine agr ?_;refine aQ tok 4 rfl ?_;refine aq 145 (q_bin (r := .int .i64 (w.time + 1)) rfl rfl rfl (by exact timeZ (x := w.time) (by omega))) ?_;refine aQ tok 2 rfl ?_;refine AOps.w rfl rfl (o_store tok rfl rfl rfl rfl rfl rfl rfl rfl rfl (by decide) rfl z33q) ?_;refine an ?_;refine ⟨[], trivial, rfl, ?_⟩
  rw [vstep10 ho]
  exact HSub.put (HSub.put (HSub.put (HSub.put (HSub.put (HSub.put (HSub.none _) rfl) rfl) rfl) rfl) rfl) rfl
 refine acf ?_;refine agk ?_;refine ⟨[], trivial, rfl, ?_⟩
 rw [vstep0 hb1 hb2 hb3 hb4 hb5 hb6 hb7 hb8 hb9 hb10]
 exact HSub.put (HSub.put (HSub.put (HSub.put (HSub.put (HSub.put (HSub.none _) rfl) rfl) rfl) rfl) rfl) rfl
theorem vsame_ok (old new : Block) (R : Nat) (c : Cert) (i : Int) (next : List Int) (hR : R ≤ 40000) (hc : ∀ r ∈ c.same, r.length = R) (hi : 0 ≤ i ∧ i < c.same.length) (hnx : ∀ k ∈ next, 0 ≤ k ∧ k < c.same.length) (hv : old.fin = 2 → (0 ≤ old.v ∧ old.v < R) ∧ (0 ≤ new.v ∧ new.v < R)) (ho : ∀ t ∈ old.ins, TacV t R) (hn : ∀ t ∈ new.ins, TacV t R) (hlo : old.ins.length ≤ 10000) (hln : new.ins.length ≤ 10000) (hnl : next.length ≤ 100000) : APure Tryz.prog 131 [.agg old.cells, .agg new.cells, .int .i64 (R : Int), .agg c.cells, .int .i64 i, intsAV next] (fun r => r = .bool (vsame R old new c i next)) := by
 obtain ⟨row, hrow⟩ := get_of_lt (l := c.same) (k := i.toNat) (by omega)
 have hat : c.at' i = row := by unfold Cert.at'; rw [hrow]; rfl
 have hrl := hc row (List.mem_of_getElem? hrow)
 have hoa0 := vfold_ok (vok_a hR) ho
 have hoa : VOk ((2 * R : Nat) : Int) R (0 + 2 * old.ins.length) (vrunA R old) := hoa0
 have hob : VOk ((2 * R : Nat) : Int) R (0 + 2 * old.ins.length + 2 * new.ins.length) (vrunB R old new (c.at' i)) := vfold_ok (vok_b hoa _) hn
 refine APure.of_body (n := 146) tok Tryz.func131 rfl rfl ?_;refine asr ?_;refine ax 6 (obx 5 0) ?_;refine ax 7 (obx 5 1) ?_;refine ax 9 (obx 1 2) ?_;refine aa 12 ?_;refine an ?_;refine asr ?_;refine am 25 ?_;refine aq 26 (q_bin (r := .int .i64 ((2 * R : Nat) : Int)) rfl rfl rfl (mulZ (by omega) (by omega) (by omega))) ?_;refine ax 27 (o_makeMapA .i64 3 rfl rfl) ?_;refine aq 28 (q_buildM tok (z0 := .int .i64 0) (z1 := .map none) (x := .int .i64 ((2 * R : Nat) : Int)) (y := .map 3) rfl rfl rfl rfl rfl rfl rfl rfl rfl (by kernel_rfl) rfl rfl) ?_;refine ax 29 (obx 3 4) ?_;refine aa 13 ?_;refine an ?_;refine asr ?_;refine aQ tok 2 rfl ?_;refine ax 32 (o_makeSliceV tok (n := R) 5 rfl rfl rfl rfl rfl rfl rfl rfl rfl rfl rfl rfl (by show 8 * R ≤ _; omega) (by simp only [maxLen]; omega)) ?_;refine aq 33 (q_build tok (ps := [(0, .ptr 4 1 0 0), (1, vaA 5 (List.replicate R [.int .i64 0]))]) (r := [.ptr 4 1 0 0, vaA 5 (List.replicate R [.int .i64 0]), .nil, .int .i64 0]) rfl rfl rfl rfl rfl (by decide) (by simp only [partsFit, vaA_cells]; rfl) rfl (by simp only [partCells, vaA_cells]; rfl)) ?_
 refine ax 14 (oal tok 6) ?_;refine AOps.w rfl rfl (o_store tok rfl rfl rfl rfl rfl rfl rfl rfl rfl (by decide) (by simp only [AV.cells, List.all_cons, List.all_nil, vaA_cell1]; rfl) (by intro h; cases h)) ?_;refine an ?_;refine asq ?_;refine AGo.ghost (.weakRowF 4 (es' := [[.int .i64 ((2 * R : Nat) : Int), .map 3, .lst true []]]) rfl rfl weakTab) ?_;refine AGo.ghost (.weakRowF 6 (es' := [[.ptr 4 1 0 0, vaA 5 (List.replicate R [.int .i64 0]), .lst true [], .int .i64 0]]) rfl rfl weakWlk) ?_;refine agr ?_;refine aQ tok 2 rfl ?_;refine ax 36 (o_makeSliceV tok (n := R) 7 rfl rfl rfl rfl rfl rfl rfl rfl rfl rfl rfl rfl (by show 8 * R ≤ _; omega) (by simp only [maxLen]; omega)) ?_;refine aq 37 (q_build tok (ps := [(0, .ptr 4 1 0 0), (1, vaA 7 (List.replicate R [.int .i64 0]))]) (r := [.ptr 4 1 0 0, vaA 7 (List.replicate R [.int .i64 0]), .nil, .int .i64 0]) rfl rfl rfl rfl rfl (by decide) (by simp only [partsFit, vaA_cells]; rfl) rfl (by simp only [partCells, vaA_cells]; rfl)) ?_
 refine ax 15 (oal tok 8) ?_;refine AOps.w rfl rfl (o_store tok rfl rfl rfl rfl rfl rfl rfl rfl rfl (by decide) (by simp only [AV.cells, List.all_cons, List.all_nil, vaA_cell1]; rfl) (by intro h; cases h)) ?_;refine an ?_;refine asq ?_;refine asq ?_;refine AGo.ghost (.weakRowF 8 (es' := [[.ptr 4 1 0 0, vaA 7 (List.replicate R [.int .i64 0]), .lst true [], .int .i64 0]]) rfl rfl weakWlk) ?_;refine agr ?_;refine aQ tok 2 rfl ?_;refine an ?_;refine AGo.block ?_;refine AGo.loopD (γ := Nat) 12 (fun k => ⟨146, (eput (eput (eput (eput (eput (eput (eput (eput (eput (eput eNew 2 (.int .i64 (R : Int))) 4 (.int .i64 i)) 5 (intsAV next)) 6 (.ptr 0 1 0 0)) 7 (.ptr 1 1 0 0)) 9 (.ptr 2 1 0 0)) 14 (.ptr 6 1 0 0)) 15 (.ptr 8 1 0 0)) 38 (.int .i64 (R : Int))) 39 (.int .i64 (k : Int))), (hput (hput (hput (hput (hput (hput (hput (hput (hput (hput (hput (hput (hFrom 12) 0 (.row false 5 [old.cells])) 1 (.row false 5 [new.cells])) 2 (.row false 1 [c.cells])) 3 (.map (kvsA .i64 (vmap ((2 * R : Nat) : Int) ([]))))) 4 (.row false 3 [[.int .i64 ((2 * R : Nat) : Int), .map 3, slA 9 (([]).map (arrAV .i64))]])) 9 (slO 4 (([]).map (arrAV .i64)))) 6 (.row false 4 [[.ptr 4 1 0 0, vaA 5 (valC (fillI R k (fun v : Nat => (v : Int)))), slA 10 (([]).map (arrAV .i64)), .int .i64 (0)]])) 5 (vaO (valC (fillI R k (fun v : Nat => (v : Int)))))) 10 (slO 6 (([]).map (arrAV .i64)))) 8 (.row false 4 [[.ptr 4 1 0 0, vaA 7 (valC (fillI R k (sideB R (c.at' i)))), slA 11 (([]).map (arrAV .i64)), .int .i64 (0)]])) 7 (vaO (valC (fillI R k (sideB R (c.at' i)))))) 11 (slO 6 (([]).map (arrAV .i64))))⟩) (fun k => k ≤ R) (fun k => R - k) 0 (Sub.mk' z29q (by repeat (first | exact HSub.refl _ | exact HSub.none _ | exact HSub.from_new _ | exact HSub.from_from z37q | refine HSub.put ?_ (by first | rfl | exact fill0R _ | exact fill0W _ _ _ _) | refine HSub.from_put ?_ z37q | refine HSub.from_rm ?_ (by decide)))) (Nat.zero_le _) (fun _ => hput_free (hput_free (hput_free (hput_free (hput_free (hput_free (hput_free (hput_free (hput_free (hput_free (hput_free (hput_free (fun b hb => hFrom_free hb) rfl) rfl) rfl) rfl) rfl) rfl) rfl) rfl) rfl) rfl) rfl) rfl) ?_
 intro k hk
 refine asr ?_;refine aqb ?_;refine an ?_;refine asq ?_;refine asp 40 (fun hb1 => ?_) fun hb1 => ?_
 ·
  refine act ?_
  have hkl : k < R := by have h := hb1; simp only [decide_eq_true_eq] at h; omega
  obtain ⟨bit, hbit⟩ := get_of_lt (l := row) (k := k) (by omega)
  refine agk ?_;refine asq ?_;refine AGo.block ?_;refine asr ?_;refine aQ tok 2 rfl ?_;refine an ?_;refine asr ?_;refine aQ tok 8 rfl ?_;refine aq 50 (q_indexV tok rfl rfl rfl rfl rfl rfl rfl rfl (Int.natCast_nonneg _) (by rw [valC_len, (fillI_len (fun v : Nat => (v : Int)) (Nat.le_of_lt hkl))]; omega)) ?_;refine AOps.w rfl rfl (o_storeV tok rfl rfl rfl rfl rfl rfl rfl (by rw [valC_len, (fillI_len (fun v : Nat => (v : Int)) (Nat.le_of_lt hkl)), Int.toNat_natCast]; exact hkl) (valC_one _) rfl rfl rfl) ?_;refine aq 51 (q_indexV tok rfl rfl rfl rfl rfl rfl rfl rfl (Int.natCast_nonneg _) (by rw [valC_len, (fillI_len (sideB R (c.at' i)) (Nat.le_of_lt hkl))]; omega)) ?_;refine AOps.w rfl rfl (o_storeV tok rfl rfl rfl rfl rfl rfl rfl (by rw [valC_len, (fillI_len (sideB R (c.at' i)) (Nat.le_of_lt hkl)), Int.toNat_natCast]; exact hkl) (valC_one _) rfl rfl rfl) ?_;refine an ?_;refine asr ?_;refine aQ tok 3 rfl ?_
  refine aq 55 (q_index_lst tok rfl rfl rfl rfl rfl rfl hi.1 (by rw [List.getElem?_map, hrow]; rfl) rfl) ?_;refine aQ tok 2 rfl ?_;refine aq 58 (q_index_lst tok rfl rfl rfl rfl rfl rfl (Int.natCast_nonneg _) (idx_map hbit) rfl) ?_;refine aQ tok 2 rfl ?_;refine an ?_;refine asp 60 (fun hb2 => ?_) fun hb2 => ?_
  ·
   refine act ?_
   have hbf : bit = false := by simpa using hb2
   subst hbf
   refine agr ?_;refine aQ tok 5 rfl ?_;refine aq 66 (q_bin (r := .int .i64 ((R + k : Nat) : Int)) rfl rfl rfl (addZ (by omega) (by omega) (by omega))) ?_;refine aq 67 (q_indexV2 tok rfl rfl rfl rfl rfl rfl rfl rfl (by rw [List.length_set]) (Int.natCast_nonneg _) (by rw [List.length_set, valC_len, (fillI_len (sideB R (c.at' i)) (Nat.le_of_lt hkl))]; omega)) ?_;refine AOps.w rfl rfl (o_storeV tok rfl rfl rfl rfl rfl rfl rfl (by rw [List.length_set, valC_len, (fillI_len (sideB R (c.at' i)) (Nat.le_of_lt hkl)), Int.toNat_natCast]; exact hkl) (by intro cs hc; rcases List.mem_or_eq_of_mem_set hc with hc | rfl; exact valC_one _ _ hc; rfl) rfl rfl rfl) ?_;refine an ?_;refine agr ?_;refine aq 68 (q_inc rfl rfl hkl (show R ≤ maxLen by simp only [maxLen]; omega)) ?_
   refine am 39 ?_;refine an ?_;exact ⟨k+1, Drop.mk' z20q z7q, hkl, by omega⟩
  refine acf ?_
  have hbf : bit = true := by simpa using hb2
  subst hbf
  refine agk ?_;refine agr ?_;refine aq 68 (q_inc rfl rfl hkl (show R ≤ maxLen by simp only [maxLen]; omega)) ?_
  refine am 39 ?_;refine an ?_;exact ⟨k+1, Drop.mk' z20q z7q, hkl, by omega⟩
 refine acf ?_
 obtain rfl : R = k := by have h := hb1; simp only [decide_eq_false_iff_not] at h; omega
 refine AGo.exit ?_;refine asq ?_;refine asr ?_;refine aQ tok 4 rfl ?_;refine an ?_;refine AGo.block ?_;refine AGo.loopD (γ := Nat) 12 (fun k => ⟨146, (eput (eput (eput (eput (eput (eput (eput (eput (eput (eput (eput eNew 2 (.int .i64 (R : Int))) 4 (.int .i64 i)) 5 (intsAV next)) 6 (.ptr 0 1 0 0)) 7 (.ptr 1 1 0 0)) 9 (.ptr 2 1 0 0)) 14 (.ptr 6 1 0 0)) 15 (.ptr 8 1 0 0)) 70 (insAV old.ins)) 71 (.int .i64 (old.ins.length : Int))) 72 (.int .i64 (k : Int))), (hput (hput (hput (hput (hput (hput (hput (hput (hput (hput (hput (hput (hFrom 12) 0 (.row false 5 [old.cells])) 1 (.row false 5 [new.cells])) 2 (.row false 1 [c.cells])) 3 (.map (kvsA .i64 (vmap ((2 * R : Nat) : Int) (((vfold ((2 * R : Nat) : Int) (old.ins.take (k)) ⟨[], idsA R, [], 0⟩)).K))))) 4 (.row false 3 [[.int .i64 ((2 * R : Nat) : Int), .map 3, slA 9 ((((vfold ((2 * R : Nat) : Int) (old.ins.take (k)) ⟨[], idsA R, [], 0⟩)).K).map (arrAV .i64))]])) 9 (slO 4 ((((vfold ((2 * R : Nat) : Int) (old.ins.take (k)) ⟨[], idsA R, [], 0⟩)).K).map (arrAV .i64)))) 6 (.row false 4 [[.ptr 4 1 0 0, vaA 5 (valC ((vfold ((2 * R : Nat) : Int) (old.ins.take (k)) ⟨[], idsA R, [], 0⟩)).vals), slA 10 ((((vfold ((2 * R : Nat) : Int) (old.ins.take (k)) ⟨[], idsA R, [], 0⟩)).effs).map (arrAV .i64)), .int .i64 (((vfold ((2 * R : Nat) : Int) (old.ins.take (k)) ⟨[], idsA R, [], 0⟩)).time)]])) 5 (vaO (valC ((vfold ((2 * R : Nat) : Int) (old.ins.take (k)) ⟨[], idsA R, [], 0⟩)).vals))) 10 (slO 6 ((((vfold ((2 * R : Nat) : Int) (old.ins.take (k)) ⟨[], idsA R, [], 0⟩)).effs).map (arrAV .i64)))) 8 (.row false 4 [[.ptr 4 1 0 0, vaA 7 (valC (idsB R (c.at' i))), slA 11 (([]).map (arrAV .i64)), .int .i64 (0)]])) 7 (vaO (valC (idsB R (c.at' i))))) 11 (slO 6 (([]).map (arrAV .i64))))⟩) (fun k => k ≤ old.ins.length) (fun k => old.ins.length - k) 0 (Sub.mk' z18q (by repeat (first | exact HSub.refl _ | exact HSub.none _ | exact HSub.from_new _ | exact HSub.from_from z37q | refine HSub.put ?_ (by first | rfl | exact initA | exact initB _ | exact initWA _ _ _ | exact initWB _ _ _ _) | refine HSub.from_put ?_ z37q | refine HSub.from_rm ?_ (by decide)))) (Nat.zero_le _) (fun _ => hput_free (hput_free (hput_free (hput_free (hput_free (hput_free (hput_free (hput_free (hput_free (hput_free (hput_free (hput_free (fun b hb => hFrom_free hb) rfl) rfl) rfl) rfl) rfl) rfl) rfl) rfl) rfl) rfl) rfl) rfl) ?_
 intro k hk
 refine asr ?_;refine aqb ?_;refine an ?_;refine asq ?_;refine asp 73 (fun hb3 => ?_) fun hb3 => ?_
 ·
  refine act ?_
  have hkl : k < old.ins.length := by have h := hb3; simp only [List.length_map, decide_eq_true_eq] at h; omega
  obtain ⟨t, ht⟩ := get_of_lt hkl
  refine agk ?_;refine asq ?_;refine AGo.block ?_;refine asr ?_;refine aq 74 (qil tok (idx_map ht)) ?_;refine al 75 tok ?_;refine ax 18 (oal tok 12) ?_;refine AOps.w rfl rfl (o_store tok rfl rfl rfl rfl rfl rfl rfl rfl rfl (by decide) rfl z33q) ?_;refine an ?_;refine agr ?_;refine al 76 tok ?_;refine ax 77 (oct (vstepa_ok ((2 * R : Nat) : Int) R _ (vfold ((2 * R : Nat) : Int) (old.ins.take (k)) ⟨[], idsA R, [], 0⟩) (vfold_okk (vok_a hR) ho k) (by omega) t (ho t (List.mem_of_getElem? ht))) [10, 5, 6, 9, 4, 3] [(3, (.map (kvsA .i64 (vmap ((2 * R : Nat) : Int) (((VW.step ((2 * R : Nat) : Int) (vfold ((2 * R : Nat) : Int) (old.ins.take (k)) ⟨[], idsA R, [], 0⟩) t)).K))))), (4, (.row false 3 [[.int .i64 ((2 * R : Nat) : Int), .map 3, slA 9 ((((VW.step ((2 * R : Nat) : Int) (vfold ((2 * R : Nat) : Int) (old.ins.take (k)) ⟨[], idsA R, [], 0⟩) t)).K).map (arrAV .i64))]])), (9, (slO 4 ((((VW.step ((2 * R : Nat) : Int) (vfold ((2 * R : Nat) : Int) (old.ins.take (k)) ⟨[], idsA R, [], 0⟩) t)).K).map (arrAV .i64)))), (6, (.row false 4 [[.ptr 4 1 0 0, vaA 5 (valC ((VW.step ((2 * R : Nat) : Int) (vfold ((2 * R : Nat) : Int) (old.ins.take (k)) ⟨[], idsA R, [], 0⟩) t)).vals), slA 10 ((((VW.step ((2 * R : Nat) : Int) (vfold ((2 * R : Nat) : Int) (old.ins.take (k)) ⟨[], idsA R, [], 0⟩) t)).effs).map (arrAV .i64)), .int .i64 (((VW.step ((2 * R : Nat) : Int) (vfold ((2 * R : Nat) : Int) (old.ins.take (k)) ⟨[], idsA R, [], 0⟩) t)).time)]])), (5, (vaO (valC ((VW.step ((2 * R : Nat) : Int) (vfold ((2 * R : Nat) : Int) (old.ins.take (k)) ⟨[], idsA R, [], 0⟩) t)).vals))), (10, (slO 6 ((((VW.step ((2 * R : Nat) : Int) (vfold ((2 * R : Nat) : Int) (old.ins.take (k)) ⟨[], idsA R, [], 0⟩) t)).effs).map (arrAV .i64))))] rfl Tryz.func133 (by kernel_rfl) rfl rfl rfl ⟨⟨_, rfl, z23q⟩, ⟨_, rfl, z23q⟩, ⟨_, rfl, z23q⟩, ⟨_, rfl, z23q⟩, ⟨_, rfl, z23q⟩, ⟨_, rfl, z23q⟩, trivial⟩ rfl (hres_cons rfl (hres_cons rfl (hres_cons rfl (hres_cons rfl (hres_cons rfl (hres_cons rfl (hres_nil _))))))) ⟨⟨_, rfl, rfl, z23q⟩, ⟨_, rfl, rfl, z23q⟩, ⟨_, rfl, rfl, z23q⟩, ⟨_, rfl, rfl, z23q⟩, ⟨_, rfl, rfl, z23q⟩, ⟨_, rfl, rfl, z23q⟩, trivial⟩ rfl) ?_
  refine an ?_;refine agr ?_;refine aq 78 (q_inc rfl rfl hkl (show old.ins.length ≤ maxLen by simp only [maxLen]; omega)) ?_
  refine am 72 ?_;refine an ?_;exact ⟨k+1, Drop.mk' z20q z12q, hkl, by omega⟩
 refine acf ?_
 have hge : old.ins.length ≤ k := by have h := hb3; simp only [List.length_map, decide_eq_false_iff_not] at h; omega
 refine AGo.exit ?_;refine asq ?_;refine asr ?_;refine aQ tok 4 rfl ?_;refine an ?_;refine AGo.block ?_;refine AGo.loopD (γ := Nat) 12 (fun k => ⟨146, (eput (eput (eput (eput (eput (eput (eput (eput (eput (eput (eput eNew 2 (.int .i64 (R : Int))) 4 (.int .i64 i)) 5 (intsAV next)) 6 (.ptr 0 1 0 0)) 7 (.ptr 1 1 0 0)) 9 (.ptr 2 1 0 0)) 14 (.ptr 6 1 0 0)) 15 (.ptr 8 1 0 0)) 80 (insAV new.ins)) 81 (.int .i64 (new.ins.length : Int))) 82 (.int .i64 (k : Int))), (hput (hput (hput (hput (hput (hput (hput (hput (hput (hput (hput (hput (hFrom 12) 0 (.row false 5 [old.cells])) 1 (.row false 5 [new.cells])) 2 (.row false 1 [c.cells])) 3 (.map (kvsA .i64 (vmap ((2 * R : Nat) : Int) (((vfold ((2 * R : Nat) : Int) (new.ins.take (k)) ⟨(vrunA R old).K, idsB R (c.at' i), [], 0⟩)).K))))) 4 (.row false 3 [[.int .i64 ((2 * R : Nat) : Int), .map 3, slA 9 ((((vfold ((2 * R : Nat) : Int) (new.ins.take (k)) ⟨(vrunA R old).K, idsB R (c.at' i), [], 0⟩)).K).map (arrAV .i64))]])) 9 (slO 4 ((((vfold ((2 * R : Nat) : Int) (new.ins.take (k)) ⟨(vrunA R old).K, idsB R (c.at' i), [], 0⟩)).K).map (arrAV .i64)))) 8 (.row false 4 [[.ptr 4 1 0 0, vaA 7 (valC ((vfold ((2 * R : Nat) : Int) (new.ins.take (k)) ⟨(vrunA R old).K, idsB R (c.at' i), [], 0⟩)).vals), slA 11 ((((vfold ((2 * R : Nat) : Int) (new.ins.take (k)) ⟨(vrunA R old).K, idsB R (c.at' i), [], 0⟩)).effs).map (arrAV .i64)), .int .i64 (((vfold ((2 * R : Nat) : Int) (new.ins.take (k)) ⟨(vrunA R old).K, idsB R (c.at' i), [], 0⟩)).time)]])) 7 (vaO (valC ((vfold ((2 * R : Nat) : Int) (new.ins.take (k)) ⟨(vrunA R old).K, idsB R (c.at' i), [], 0⟩)).vals))) 11 (slO 6 ((((vfold ((2 * R : Nat) : Int) (new.ins.take (k)) ⟨(vrunA R old).K, idsB R (c.at' i), [], 0⟩)).effs).map (arrAV .i64)))) 6 (.row false 4 [[.ptr 4 1 0 0, vaA 5 (valC (vrunA R old).vals), slA 10 (((vrunA R old).effs).map (arrAV .i64)), .int .i64 ((vrunA R old).time)]])) 5 (vaO (valC (vrunA R old).vals))) 10 (slO 6 (((vrunA R old).effs).map (arrAV .i64))))⟩) (fun k => k ≤ new.ins.length) (fun k => new.ins.length - k) 0 (Sub.mk' z18q z8q) (Nat.zero_le _) (fun _ => hput_free (hput_free (hput_free (hput_free (hput_free (hput_free (hput_free (hput_free (hput_free (hput_free (hput_free (hput_free (fun b hb => hFrom_free hb) rfl) rfl) rfl) rfl) rfl) rfl) rfl) rfl) rfl) rfl) rfl) rfl) ?_
 intro k hk
 refine asr ?_;refine aqb ?_;refine an ?_;refine asq ?_;refine asp 83 (fun hb4 => ?_) fun hb4 => ?_
 ·
  refine act ?_
  have hkl : k < new.ins.length := by have h := hb4; simp only [List.length_map, decide_eq_true_eq] at h; omega
  obtain ⟨t, ht⟩ := get_of_lt hkl
  refine agk ?_;refine asq ?_;refine AGo.block ?_;refine asr ?_;refine aq 84 (qil tok (idx_map ht)) ?_;refine al 85 tok ?_;refine ax 20 (oal tok 12) ?_;refine AOps.w rfl rfl (o_store tok rfl rfl rfl rfl rfl rfl rfl rfl rfl (by decide) rfl z33q) ?_;refine an ?_;refine agr ?_;refine al 86 tok ?_;refine ax 87 (oct (vstepb_ok ((2 * R : Nat) : Int) R _ (vfold ((2 * R : Nat) : Int) (new.ins.take (k)) ⟨(vrunA R old).K, idsB R (c.at' i), [], 0⟩) (vfold_okk (vok_b hoa _) hn k) (by omega) t (hn t (List.mem_of_getElem? ht))) [11, 7, 8, 9, 4, 3] [(3, (.map (kvsA .i64 (vmap ((2 * R : Nat) : Int) (((VW.step ((2 * R : Nat) : Int) (vfold ((2 * R : Nat) : Int) (new.ins.take (k)) ⟨(vrunA R old).K, idsB R (c.at' i), [], 0⟩) t)).K))))), (4, (.row false 3 [[.int .i64 ((2 * R : Nat) : Int), .map 3, slA 9 ((((VW.step ((2 * R : Nat) : Int) (vfold ((2 * R : Nat) : Int) (new.ins.take (k)) ⟨(vrunA R old).K, idsB R (c.at' i), [], 0⟩) t)).K).map (arrAV .i64))]])), (9, (slO 4 ((((VW.step ((2 * R : Nat) : Int) (vfold ((2 * R : Nat) : Int) (new.ins.take (k)) ⟨(vrunA R old).K, idsB R (c.at' i), [], 0⟩) t)).K).map (arrAV .i64)))), (8, (.row false 4 [[.ptr 4 1 0 0, vaA 7 (valC ((VW.step ((2 * R : Nat) : Int) (vfold ((2 * R : Nat) : Int) (new.ins.take (k)) ⟨(vrunA R old).K, idsB R (c.at' i), [], 0⟩) t)).vals), slA 11 ((((VW.step ((2 * R : Nat) : Int) (vfold ((2 * R : Nat) : Int) (new.ins.take (k)) ⟨(vrunA R old).K, idsB R (c.at' i), [], 0⟩) t)).effs).map (arrAV .i64)), .int .i64 (((VW.step ((2 * R : Nat) : Int) (vfold ((2 * R : Nat) : Int) (new.ins.take (k)) ⟨(vrunA R old).K, idsB R (c.at' i), [], 0⟩) t)).time)]])), (7, (vaO (valC ((VW.step ((2 * R : Nat) : Int) (vfold ((2 * R : Nat) : Int) (new.ins.take (k)) ⟨(vrunA R old).K, idsB R (c.at' i), [], 0⟩) t)).vals))), (11, (slO 6 ((((VW.step ((2 * R : Nat) : Int) (vfold ((2 * R : Nat) : Int) (new.ins.take (k)) ⟨(vrunA R old).K, idsB R (c.at' i), [], 0⟩) t)).effs).map (arrAV .i64))))] rfl Tryz.func133 (by kernel_rfl) rfl rfl rfl ⟨⟨_, rfl, z23q⟩, ⟨_, rfl, z23q⟩, ⟨_, rfl, z23q⟩, ⟨_, rfl, z23q⟩, ⟨_, rfl, z23q⟩, ⟨_, rfl, z23q⟩, trivial⟩ rfl (hres_cons rfl (hres_cons rfl (hres_cons rfl (hres_cons rfl (hres_cons rfl (hres_cons rfl (hres_nil _))))))) ⟨⟨_, rfl, rfl, z23q⟩, ⟨_, rfl, rfl, z23q⟩, ⟨_, rfl, rfl, z23q⟩, ⟨_, rfl, rfl, z23q⟩, ⟨_, rfl, rfl, z23q⟩, ⟨_, rfl, rfl, z23q⟩, trivial⟩ rfl) ?_
  refine an ?_;refine agr ?_;refine aq 88 (q_inc rfl rfl hkl (show new.ins.length ≤ maxLen by simp only [maxLen]; omega)) ?_
  refine am 82 ?_;refine an ?_;exact ⟨k+1, Drop.mk' z20q z12q, hkl, by omega⟩
 refine acf ?_
 have hge : new.ins.length ≤ k := by have h := hb4; simp only [List.length_map, decide_eq_false_iff_not] at h; omega
 rw [vfold_end hge]
 refine AGo.exit ?_;refine asq ?_;refine asr ?_;refine aQ tok 4 rfl ?_;refine ax 93 (oct (effs_ok (vrunA R old).effs (vrunB R old new (c.at' i)).effs hoa.e6 hob.e6 (by have := hoa.el; omega)) [11, 10] [] rfl Tryz.func134 (by kernel_rfl) rfl rfl (by simp only [List.all_cons, List.all_nil, slA_avoid _ (show mem [11, 10] 10 = true from rfl), slA_avoid _ (show mem [11, 10] 11 = true from rfl)]; rfl) ⟨⟨_, rfl, z23q⟩, ⟨_, rfl, z23q⟩, trivial⟩ rfl (hres_cons rfl (hres_cons rfl (hres_nil _))) ⟨⟨_, rfl, rfl, z23q⟩, ⟨_, rfl, rfl, z23q⟩, trivial⟩ rfl) ?_;refine aq 94 (q_not rfl rfl) ?_;refine an ?_;refine asp 94 (fun hb5 => ?_) fun hb5 => ?_
 ·
  refine act ?_
  have hef := hb5
  refine asr ?_;refine aa 12 ?_;refine an ?_;refine agt ⟨[_], ⟨rfl, trivial⟩, ?_, rfl⟩
  refine bc ?_;exact (vsame_no1 (ndec_no hef)).symm
 refine acf ?_
 have hef := hb5
 refine agk ?_;refine asq ?_;refine asq ?_;refine AGo.draw mix ?_;refine dQ tok 4 rfl ?_;refine DOps.split 98 rfl (fun hb6 => ?_) (fun hb6 => ?_)
 ·
  have hf2 : old.fin = 2 := by simpa using hb6
  have hxo := hoa.at (hv hf2).1
  have hxn := hob.at (hv hf2).2
  refine dQ tok 4 rfl ?_;refine dq 103 (q_indexV tok rfl rfl rfl rfl rfl rfl rfl rfl hxo.1 hxo.2.2.1) ?_;refine dq 104 (q_load tok rfl rfl rfl (ptsV rfl (valC_get ⟨hxo.1, hxo.2.1⟩)) rfl) ?_;refine dQ tok 4 rfl ?_;refine dq 109 (q_indexV tok rfl rfl rfl rfl rfl rfl rfl rfl hxn.1 hxn.2.2.1) ?_;refine dq 110 (q_load tok rfl rfl rfl (ptsV rfl (valC_get ⟨hxn.1, hxn.2.1⟩)) rfl) ?_;refine dQ tok 2 rfl ?_;refine DOps.nil (by kernel_rfl) ?_;refine asp 112 (fun hb7 => ?_) fun hb7 => ?_
  ·
   refine act ?_
   have hvf := hb7
   refine asr ?_;refine aa 12 ?_;refine an ?_;refine agt ⟨[_], ⟨rfl, trivial⟩, ?_, rfl⟩
   refine bc ?_;exact (vsame_no2 hf2 (bne_ne' hvf)).symm
  refine acf ?_
  have hvf := hb7
  refine agk ?_;refine asq ?_;refine asr ?_;refine aQ tok 3 rfl ?_;refine an ?_;refine AGo.block ?_;refine AGo.loopD (γ := Nat) 12 (fun j => ⟨146, (eput (eput (eput (eput (eput (eput (eput (eput (eput (eput (eput eNew 2 (.int .i64 (R : Int))) 4 (.int .i64 i)) 5 (intsAV next)) 6 (.ptr 0 1 0 0)) 7 (.ptr 1 1 0 0)) 9 (.ptr 2 1 0 0)) 14 (.ptr 6 1 0 0)) 15 (.ptr 8 1 0 0)) 113 (intsAV next)) 114 (.int .i64 (next.length : Int))) 115 (.int .i64 (j : Int))), (hput (hput (hput (hput (hput (hput (hput (hput (hput (hput (hput (hput (hFrom 12) 0 (.row false 5 [old.cells])) 1 (.row false 5 [new.cells])) 2 (.row false 1 [c.cells])) 3 (.map (kvsA .i64 (vmap ((2 * R : Nat) : Int) (((vrunB R old new (c.at' i))).K))))) 4 (.row false 3 [[.int .i64 ((2 * R : Nat) : Int), .map 3, slA 9 ((((vrunB R old new (c.at' i))).K).map (arrAV .i64))]])) 9 (slO 4 ((((vrunB R old new (c.at' i))).K).map (arrAV .i64)))) 8 (.row false 4 [[.ptr 4 1 0 0, vaA 7 (valC ((vrunB R old new (c.at' i))).vals), slA 11 ((((vrunB R old new (c.at' i))).effs).map (arrAV .i64)), .int .i64 (((vrunB R old new (c.at' i))).time)]])) 7 (vaO (valC ((vrunB R old new (c.at' i))).vals))) 11 (slO 6 ((((vrunB R old new (c.at' i))).effs).map (arrAV .i64)))) 6 (.row false 4 [[.ptr 4 1 0 0, vaA 5 (valC (vrunA R old).vals), slA 10 (((vrunA R old).effs).map (arrAV .i64)), .int .i64 ((vrunA R old).time)]])) 5 (vaO (valC (vrunA R old).vals))) 10 (slO 6 (((vrunA R old).effs).map (arrAV .i64))))⟩) (fun j => j ≤ next.length ∧ (next.take j).all (fun k => vagree (vrunA R old) (vrunB R old new (c.at' i)) (c.at' k)) = true) (fun j => next.length - j) 0 (Sub.mk' z18q z8q) ⟨Nat.zero_le _, rfl⟩ (fun _ => hput_free (hput_free (hput_free (hput_free (hput_free (hput_free (hput_free (hput_free (hput_free (hput_free (hput_free (hput_free (fun b hb => hFrom_free hb) rfl) rfl) rfl) rfl) rfl) rfl) rfl) rfl) rfl) rfl) rfl) rfl) ?_
  intro j ⟨hj, hall⟩
  refine asr ?_;refine aqb ?_;refine an ?_;refine asq ?_;refine asp 116 (fun hb8 => ?_) fun hb8 => ?_
  ·
   refine act ?_
   have hjl : j < next.length := by have h := hb8; simp only [List.length_map, decide_eq_true_eq] at h; omega
   obtain ⟨nk, hnk⟩ := get_of_lt hjl
   have hkr := hnx nk (List.mem_of_getElem? hnk)
   obtain ⟨row2, hrow2⟩ := get_of_lt (l := c.same) (k := nk.toNat) (by omega)
   have hat2 : c.at' nk = row2 := by unfold Cert.at'; rw [hrow2]; rfl
   have hrl2 := hc row2 (List.mem_of_getElem? hrow2)
   refine agk ?_;refine asq ?_;refine AGo.block ?_;refine asr ?_;refine aq 117 (q_index_lst tok rfl rfl rfl rfl rfl rfl (Int.natCast_nonneg _) (idx_map hnk) rfl) ?_;refine aQ tok 2 rfl ?_;refine an ?_;refine asr ?_;refine aQ tok 3 rfl ?_;refine aq 122 (q_index_lst tok rfl rfl rfl rfl rfl rfl hkr.1 (by rw [List.getElem?_map, hrow2]; rfl) rfl) ?_;refine aQ tok 3 rfl ?_;refine an ?_;refine AGo.block ?_;refine AGo.loopD (γ := Nat) 12 (fun k => ⟨146, (eput (eput (eput (eput (eput (eput (eput (eput (eput (eput (eput (eput (eput (eput eNew 2 (.int .i64 (R : Int))) 4 (.int .i64 i)) 5 (intsAV next)) 6 (.ptr 0 1 0 0)) 7 (.ptr 1 1 0 0)) 9 (.ptr 2 1 0 0)) 14 (.ptr 6 1 0 0)) 15 (.ptr 8 1 0 0)) 113 (intsAV next)) 114 (.int .i64 (next.length : Int))) 115 (.int .i64 (j : Int))) 123 (boolsAV row2)) 124 (.int .i64 (row2.length : Int))) 125 (.int .i64 (k : Int))), (hput (hput (hput (hput (hput (hput (hput (hput (hput (hput (hput (hput (hFrom 12) 0 (.row false 5 [old.cells])) 1 (.row false 5 [new.cells])) 2 (.row false 1 [c.cells])) 3 (.map (kvsA .i64 (vmap ((2 * R : Nat) : Int) (((vrunB R old new (c.at' i))).K))))) 4 (.row false 3 [[.int .i64 ((2 * R : Nat) : Int), .map 3, slA 9 ((((vrunB R old new (c.at' i))).K).map (arrAV .i64))]])) 9 (slO 4 ((((vrunB R old new (c.at' i))).K).map (arrAV .i64)))) 8 (.row false 4 [[.ptr 4 1 0 0, vaA 7 (valC ((vrunB R old new (c.at' i))).vals), slA 11 ((((vrunB R old new (c.at' i))).effs).map (arrAV .i64)), .int .i64 (((vrunB R old new (c.at' i))).time)]])) 7 (vaO (valC ((vrunB R old new (c.at' i))).vals))) 11 (slO 6 ((((vrunB R old new (c.at' i))).effs).map (arrAV .i64)))) 6 (.row false 4 [[.ptr 4 1 0 0, vaA 5 (valC (vrunA R old).vals), slA 10 (((vrunA R old).effs).map (arrAV .i64)), .int .i64 ((vrunA R old).time)]])) 5 (vaO (valC (vrunA R old).vals))) 10 (slO 6 (((vrunA R old).effs).map (arrAV .i64))))⟩) (fun k => k ≤ row2.length ∧ vagreeTo (vrunA R old) (vrunB R old new (c.at' i)) row2 k) (fun k => row2.length - k) 0 (Sub.mk' z18q z9q) ⟨Nat.zero_le _, vagree_zero⟩ (fun _ => hput_free (hput_free (hput_free (hput_free (hput_free (hput_free (hput_free (hput_free (hput_free (hput_free (hput_free (hput_free (fun b hb => hFrom_free hb) rfl) rfl) rfl) rfl) rfl) rfl) rfl) rfl) rfl) rfl) rfl) rfl) ?_
   intro k ⟨hk, hagr⟩
   refine asr ?_;refine aqb ?_;refine an ?_;refine asq ?_;refine asp 126 (fun hb9 => ?_) fun hb9 => ?_
   ·
    refine act ?_
    have hkl : k < row2.length := by have h := hb9; simp only [List.length_map, decide_eq_true_eq] at h; omega
    obtain ⟨must, hmu⟩ := get_of_lt hkl
    refine agk ?_;refine asq ?_;refine AGo.block ?_;refine asr ?_;refine am 127 ?_;refine aq 128 (q_index_lst tok rfl rfl rfl rfl rfl rfl (Int.natCast_nonneg _) (idx_map hmu) rfl) ?_;refine aQ tok 3 rfl ?_;refine an ?_;refine asq ?_;refine AGo.draw mix ?_;refine dQ tok 2 rfl ?_;refine DOps.split 131 rfl (fun hb10 => ?_) (fun hb10 => ?_)
    ·
     have hmt : must = true := by simpa using hb10
     have hxv := hoa.at (z := (k : Int)) (by omega)
     have hyv := hob.at (z := (k : Int)) (by omega)
     refine dQ tok 3 rfl ?_;refine dq 135 (q_indexV tok rfl rfl rfl rfl rfl rfl rfl rfl hxv.1 hxv.2.2.1) ?_;refine dq 136 (q_load tok rfl rfl rfl (ptsV rfl (valC_get ⟨hxv.1, hxv.2.1⟩)) rfl) ?_;refine dQ tok 3 rfl ?_;refine dq 140 (q_indexV tok rfl rfl rfl rfl rfl rfl rfl rfl hyv.1 hyv.2.2.1) ?_;refine dq 141 (q_load tok rfl rfl rfl (ptsV rfl (valC_get ⟨hyv.1, hyv.2.1⟩)) rfl) ?_;refine dQ tok 2 rfl ?_;refine DOps.nil (by kernel_rfl) ?_;refine asp 143 (fun hb11 => ?_) fun hb11 => ?_
     ·
      refine act ?_
      have hag := hb11
      refine asr ?_;refine aa 12 ?_;refine an ?_;refine agt ⟨[_], ⟨rfl, trivial⟩, ?_, rfl⟩
      refine bc ?_;exact (vsame_no3 hnk (by rw [hat2]; exact vagree_no hmu hmt (bne_ne' hag))).symm
     refine acf ?_
     have hag := hb11
     refine agk ?_;refine agr ?_;refine aq 144 (q_inc rfl rfl hkl (show row2.length ≤ maxLen by simp only [maxLen]; omega)) ?_
     refine am 125 ?_;refine an ?_;exact ⟨k+1, Drop.mk' z20q z14q, ⟨hkl, vagree_succ hagr hmu z26q⟩, by omega⟩
    refine dQ tok 12 rfl ?_;refine DOps.nil (by kernel_rfl) ?_;refine acf ?_
    have hag := hb10
    refine agk ?_;refine agr ?_;refine aq 144 (q_inc rfl rfl hkl (show row2.length ≤ maxLen by simp only [maxLen]; omega)) ?_
    refine am 125 ?_;refine an ?_;exact ⟨k+1, Drop.mk' z20q z14q, ⟨hkl, vagree_succ hagr hmu z26q⟩, by omega⟩
   refine acf ?_
   have hkge : row2.length ≤ k := by have h := hb9; simp only [List.length_map, decide_eq_false_iff_not] at h; omega
   refine AGo.exit ?_;refine agr ?_;refine aq 145 (q_inc rfl rfl hjl (show next.length ≤ maxLen by simp only [maxLen]; omega)) ?_
   refine am 115 ?_;refine an ?_;exact ⟨j+1, Drop.mk' z20q z14q, ⟨hjl, all_succ hnk hall (by rw [hat2]; exact vagree_end hkge hagr)⟩, by omega⟩
  refine acf ?_
  have hjge : next.length ≤ j := by have h := hb8; simp only [List.length_map, decide_eq_false_iff_not] at h; omega
  refine AGo.exit ?_;refine asr ?_;refine aa 12 ?_;refine an ?_;refine agt ⟨[_], ⟨rfl, trivial⟩, ?_, rfl⟩
  refine bc ?_;exact (vsame_yes (ndec_yes hef) (by first | exact fun _ => bne_eq' hvf | (exact fun hf => absurd hf (by simpa using hvf))) (all_end hall hjge)).symm
 refine dQ tok 14 rfl ?_;refine DOps.nil (by kernel_rfl) ?_;refine acf ?_
 have hvf := hb6
 refine agk ?_;refine asq ?_;refine asr ?_;refine aQ tok 3 rfl ?_;refine an ?_;refine AGo.block ?_;refine AGo.loopD (γ := Nat) 12 (fun j => ⟨146, (eput (eput (eput (eput (eput (eput (eput (eput (eput (eput (eput eNew 2 (.int .i64 (R : Int))) 4 (.int .i64 i)) 5 (intsAV next)) 6 (.ptr 0 1 0 0)) 7 (.ptr 1 1 0 0)) 9 (.ptr 2 1 0 0)) 14 (.ptr 6 1 0 0)) 15 (.ptr 8 1 0 0)) 113 (intsAV next)) 114 (.int .i64 (next.length : Int))) 115 (.int .i64 (j : Int))), (hput (hput (hput (hput (hput (hput (hput (hput (hput (hput (hput (hput (hFrom 12) 0 (.row false 5 [old.cells])) 1 (.row false 5 [new.cells])) 2 (.row false 1 [c.cells])) 3 (.map (kvsA .i64 (vmap ((2 * R : Nat) : Int) (((vrunB R old new (c.at' i))).K))))) 4 (.row false 3 [[.int .i64 ((2 * R : Nat) : Int), .map 3, slA 9 ((((vrunB R old new (c.at' i))).K).map (arrAV .i64))]])) 9 (slO 4 ((((vrunB R old new (c.at' i))).K).map (arrAV .i64)))) 8 (.row false 4 [[.ptr 4 1 0 0, vaA 7 (valC ((vrunB R old new (c.at' i))).vals), slA 11 ((((vrunB R old new (c.at' i))).effs).map (arrAV .i64)), .int .i64 (((vrunB R old new (c.at' i))).time)]])) 7 (vaO (valC ((vrunB R old new (c.at' i))).vals))) 11 (slO 6 ((((vrunB R old new (c.at' i))).effs).map (arrAV .i64)))) 6 (.row false 4 [[.ptr 4 1 0 0, vaA 5 (valC (vrunA R old).vals), slA 10 (((vrunA R old).effs).map (arrAV .i64)), .int .i64 ((vrunA R old).time)]])) 5 (vaO (valC (vrunA R old).vals))) 10 (slO 6 (((vrunA R old).effs).map (arrAV .i64))))⟩) (fun j => j ≤ next.length ∧ (next.take j).all (fun k => vagree (vrunA R old) (vrunB R old new (c.at' i)) (c.at' k)) = true) (fun j => next.length - j) 0 (Sub.mk' z18q z8q) ⟨Nat.zero_le _, rfl⟩ (fun _ => hput_free (hput_free (hput_free (hput_free (hput_free (hput_free (hput_free (hput_free (hput_free (hput_free (hput_free (hput_free (fun b hb => hFrom_free hb) rfl) rfl) rfl) rfl) rfl) rfl) rfl) rfl) rfl) rfl) rfl) rfl) ?_
 intro j ⟨hj, hall⟩
 refine asr ?_;refine aqb ?_;refine an ?_;refine asq ?_;refine asp 116 (fun hb12 => ?_) fun hb12 => ?_
 ·
  refine act ?_
  have hjl : j < next.length := by have h := hb12; simp only [List.length_map, decide_eq_true_eq] at h; omega
  obtain ⟨nk, hnk⟩ := get_of_lt hjl
  have hkr := hnx nk (List.mem_of_getElem? hnk)
  obtain ⟨row2, hrow2⟩ := get_of_lt (l := c.same) (k := nk.toNat) (by omega)
  have hat2 : c.at' nk = row2 := by unfold Cert.at'; rw [hrow2]; rfl
  have hrl2 := hc row2 (List.mem_of_getElem? hrow2)
  refine agk ?_;refine asq ?_;refine AGo.block ?_;refine asr ?_;refine aq 117 (q_index_lst tok rfl rfl rfl rfl rfl rfl (Int.natCast_nonneg _) (idx_map hnk) rfl) ?_;refine aQ tok 2 rfl ?_;refine an ?_;refine asr ?_;refine aQ tok 3 rfl ?_;refine aq 122 (q_index_lst tok rfl rfl rfl rfl rfl rfl hkr.1 (by rw [List.getElem?_map, hrow2]; rfl) rfl) ?_;refine aQ tok 3 rfl ?_;refine an ?_;refine AGo.block ?_;refine AGo.loopD (γ := Nat) 12 (fun k => ⟨146, (eput (eput (eput (eput (eput (eput (eput (eput (eput (eput (eput (eput (eput (eput eNew 2 (.int .i64 (R : Int))) 4 (.int .i64 i)) 5 (intsAV next)) 6 (.ptr 0 1 0 0)) 7 (.ptr 1 1 0 0)) 9 (.ptr 2 1 0 0)) 14 (.ptr 6 1 0 0)) 15 (.ptr 8 1 0 0)) 113 (intsAV next)) 114 (.int .i64 (next.length : Int))) 115 (.int .i64 (j : Int))) 123 (boolsAV row2)) 124 (.int .i64 (row2.length : Int))) 125 (.int .i64 (k : Int))), (hput (hput (hput (hput (hput (hput (hput (hput (hput (hput (hput (hput (hFrom 12) 0 (.row false 5 [old.cells])) 1 (.row false 5 [new.cells])) 2 (.row false 1 [c.cells])) 3 (.map (kvsA .i64 (vmap ((2 * R : Nat) : Int) (((vrunB R old new (c.at' i))).K))))) 4 (.row false 3 [[.int .i64 ((2 * R : Nat) : Int), .map 3, slA 9 ((((vrunB R old new (c.at' i))).K).map (arrAV .i64))]])) 9 (slO 4 ((((vrunB R old new (c.at' i))).K).map (arrAV .i64)))) 8 (.row false 4 [[.ptr 4 1 0 0, vaA 7 (valC ((vrunB R old new (c.at' i))).vals), slA 11 ((((vrunB R old new (c.at' i))).effs).map (arrAV .i64)), .int .i64 (((vrunB R old new (c.at' i))).time)]])) 7 (vaO (valC ((vrunB R old new (c.at' i))).vals))) 11 (slO 6 ((((vrunB R old new (c.at' i))).effs).map (arrAV .i64)))) 6 (.row false 4 [[.ptr 4 1 0 0, vaA 5 (valC (vrunA R old).vals), slA 10 (((vrunA R old).effs).map (arrAV .i64)), .int .i64 ((vrunA R old).time)]])) 5 (vaO (valC (vrunA R old).vals))) 10 (slO 6 (((vrunA R old).effs).map (arrAV .i64))))⟩) (fun k => k ≤ row2.length ∧ vagreeTo (vrunA R old) (vrunB R old new (c.at' i)) row2 k) (fun k => row2.length - k) 0 (Sub.mk' z18q z9q) ⟨Nat.zero_le _, vagree_zero⟩ (fun _ => hput_free (hput_free (hput_free (hput_free (hput_free (hput_free (hput_free (hput_free (hput_free (hput_free (hput_free (hput_free (fun b hb => hFrom_free hb) rfl) rfl) rfl) rfl) rfl) rfl) rfl) rfl) rfl) rfl) rfl) rfl) ?_
  intro k ⟨hk, hagr⟩
  refine asr ?_;refine aqb ?_;refine an ?_;refine asq ?_;refine asp 126 (fun hb13 => ?_) fun hb13 => ?_
  ·
   refine act ?_
   have hkl : k < row2.length := by have h := hb13; simp only [List.length_map, decide_eq_true_eq] at h; omega
   obtain ⟨must, hmu⟩ := get_of_lt hkl
   refine agk ?_;refine asq ?_;refine AGo.block ?_;refine asr ?_;refine am 127 ?_;refine aq 128 (q_index_lst tok rfl rfl rfl rfl rfl rfl (Int.natCast_nonneg _) (idx_map hmu) rfl) ?_;refine aQ tok 3 rfl ?_;refine an ?_;refine asq ?_;refine AGo.draw mix ?_;refine dQ tok 2 rfl ?_;refine DOps.split 131 rfl (fun hb14 => ?_) (fun hb14 => ?_)
   ·
    have hmt : must = true := by simpa using hb14
    have hxv := hoa.at (z := (k : Int)) (by omega)
    have hyv := hob.at (z := (k : Int)) (by omega)
    refine dQ tok 3 rfl ?_;refine dq 135 (q_indexV tok rfl rfl rfl rfl rfl rfl rfl rfl hxv.1 hxv.2.2.1) ?_;refine dq 136 (q_load tok rfl rfl rfl (ptsV rfl (valC_get ⟨hxv.1, hxv.2.1⟩)) rfl) ?_;refine dQ tok 3 rfl ?_;refine dq 140 (q_indexV tok rfl rfl rfl rfl rfl rfl rfl rfl hyv.1 hyv.2.2.1) ?_;refine dq 141 (q_load tok rfl rfl rfl (ptsV rfl (valC_get ⟨hyv.1, hyv.2.1⟩)) rfl) ?_;refine dQ tok 2 rfl ?_;refine DOps.nil (by kernel_rfl) ?_;refine asp 143 (fun hb15 => ?_) fun hb15 => ?_
    ·
     refine act ?_
     have hag := hb15
     refine asr ?_;refine aa 12 ?_;refine an ?_;refine agt ⟨[_], ⟨rfl, trivial⟩, ?_, rfl⟩
     refine bc ?_;exact (vsame_no3 hnk (by rw [hat2]; exact vagree_no hmu hmt (bne_ne' hag))).symm
    refine acf ?_
    have hag := hb15
    refine agk ?_;refine agr ?_;refine aq 144 (q_inc rfl rfl hkl (show row2.length ≤ maxLen by simp only [maxLen]; omega)) ?_
    refine am 125 ?_;refine an ?_;exact ⟨k+1, Drop.mk' z20q z14q, ⟨hkl, vagree_succ hagr hmu z26q⟩, by omega⟩
   refine dQ tok 12 rfl ?_;refine DOps.nil (by kernel_rfl) ?_;refine acf ?_
   have hag := hb14
   refine agk ?_;refine agr ?_;refine aq 144 (q_inc rfl rfl hkl (show row2.length ≤ maxLen by simp only [maxLen]; omega)) ?_
   refine am 125 ?_;refine an ?_;exact ⟨k+1, Drop.mk' z20q z14q, ⟨hkl, vagree_succ hagr hmu z26q⟩, by omega⟩
  refine acf ?_
  have hkge : row2.length ≤ k := by have h := hb13; simp only [List.length_map, decide_eq_false_iff_not] at h; omega
  refine AGo.exit ?_;refine agr ?_;refine aq 145 (q_inc rfl rfl hjl (show next.length ≤ maxLen by simp only [maxLen]; omega)) ?_
  refine am 115 ?_;refine an ?_;exact ⟨j+1, Drop.mk' z20q z14q, ⟨hjl, all_succ hnk hall (by rw [hat2]; exact vagree_end hkge hagr)⟩, by omega⟩
 refine acf ?_
 have hjge : next.length ≤ j := by have h := hb12; simp only [List.length_map, decide_eq_false_iff_not] at h; omega
 refine AGo.exit ?_;refine asr ?_;refine aa 12 ?_;refine an ?_;refine agt ⟨[_], ⟨rfl, trivial⟩, ?_, rfl⟩
 refine bc ?_;exact (vsame_yes (ndec_yes hef) (by first | exact fun _ => bne_eq' hvf | (exact fun hf => absurd hf (by simpa using hvf))) (all_end hall hjge)).symm
theorem shaped_ok (old new : BFunc) (hno : old.blocks.length ≤ 10000) (hnn : new.blocks.length ≤ 10000) (hio : ∀ x ∈ old.blocks, x.ins.length ≤ 10000 ∧ insW x.ins) (hin : ∀ x ∈ new.blocks, x.ins.length ≤ 10000 ∧ insW x.ins) : APure Tryz.prog 130 [.agg old.cells, .agg new.cells] (fun r => r = .bool (vshaped old new)) := by
 refine APure.of_body (n := 65) tok Tryz.func130 rfl rfl ?_;refine asr ?_;refine ax 2 (obx 2 0) ?_;refine ax 3 (obx 2 1) ?_;refine aa 4 ?_;refine an ?_;refine asq ?_;refine asr ?_;refine aQ tok 6 rfl ?_;refine aop 13 (fun hb1 => ?_) fun hb1 => ?_
 ·
  refine aQ tok 18 rfl ?_;refine an ?_;refine act ?_;refine asr ?_;refine aa 4 ?_;refine an ?_;refine agt ⟨[_], ⟨rfl, trivial⟩, ?_, rfl⟩
  refine bc ?_
  first
  | exact (vshaped_regs (by assumption)).symm
  | exact (vshaped_len' (by assumption)).symm
  | exact (vshaped_s1 (ndec_same' (b := old.stands) (by assumption))).symm
  | exact (vshaped_s2 (ndec_same' (b := new.stands) (by assumption))).symm
 refine aQ tok 9 rfl ?_;refine aop 22 (fun hb2 => ?_) fun hb2 => ?_
 ·
  refine aQ tok 9 rfl ?_;refine an ?_;refine act ?_;refine asr ?_;refine aa 4 ?_;refine an ?_;refine agt ⟨[_], ⟨rfl, trivial⟩, ?_, rfl⟩
  refine bc ?_
  first
  | exact (vshaped_regs (by assumption)).symm
  | exact (vshaped_len' (by assumption)).symm
  | exact (vshaped_s1 (ndec_same' (b := old.stands) (by assumption))).symm
  | exact (vshaped_s2 (ndec_same' (b := new.stands) (by assumption))).symm
 refine al 23 tok ?_;refine ax 24 (opu Tryz.func132 (stands_ok old (by omega) (fun x hx => by have := (hio x hx).1; omega))) ?_
 refine aQ tok 3 rfl ?_;refine aop 27 (fun hb3 => ?_) fun hb3 => ?_
 ·
  refine aQ tok 4 rfl ?_;refine an ?_;refine act ?_;refine asr ?_;refine aa 4 ?_;refine an ?_;refine agt ⟨[_], ⟨rfl, trivial⟩, ?_, rfl⟩
  refine bc ?_
  first
  | exact (vshaped_regs (by assumption)).symm
  | exact (vshaped_len' (by assumption)).symm
  | exact (vshaped_s1 (ndec_same' (b := old.stands) (by assumption))).symm
  | exact (vshaped_s2 (ndec_same' (b := new.stands) (by assumption))).symm
 refine al 28 tok ?_;refine ax 29 (opu Tryz.func132 (stands_ok new (by omega) (fun x hx => by have := (hin x hx).1; omega))) ?_
 refine aQ tok 2 rfl ?_;refine an ?_;refine asp 31 (fun hb4 => ?_) fun hb4 => ?_
 ·
  refine act ?_;refine asr ?_;refine aa 4 ?_;refine an ?_;refine agt ⟨[_], ⟨rfl, trivial⟩, ?_, rfl⟩
  refine bc ?_
  first
  | exact (vshaped_regs (by assumption)).symm
  | exact (vshaped_len' (by assumption)).symm
  | exact (vshaped_s1 (ndec_same' (b := old.stands) (by assumption))).symm
  | exact (vshaped_s2 (ndec_same' (b := new.stands) (by assumption))).symm
 refine acf ?_
 have hlen := len_eq' (by assumption)
 refine agk ?_;refine asq ?_;refine asr ?_;refine aQ tok 4 rfl ?_;refine an ?_;refine AGo.block ?_;refine AGo.loopD (γ := Nat) 2 (fun k => ⟨65, (eput (eput (eput (eput (eput eNew 2 (.ptr 0 1 0 0)) 3 (.ptr 1 1 0 0)) 33 (blocksAV old.blocks)) 34 (.int .i64 (old.blocks.length : Int))) 35 (.int .i64 (k : Int))), (hput (hput (hFrom 2) 0 (.row false 2 [old.cells])) 1 (.row false 2 [new.cells]))⟩) (fun k => k ≤ old.blocks.length ∧ ((old.blocks.zip new.blocks).take k).all (fun p => shapeB p.1 p.2) = true) (fun k => old.blocks.length - k) 0 (Sub.mk' z18q z9q) ⟨Nat.zero_le _, rfl⟩ (fun _ => hput_free (hput_free (fun b hb => hFrom_free hb) rfl) rfl) ?_
 intro k ⟨hk, hall⟩
 refine asr ?_;refine aqb ?_;refine an ?_;refine asq ?_;refine asp 36 (fun hb5 => ?_) fun hb5 => ?_
 ·
  refine act ?_
  have hkl : k < old.blocks.length := by simpa using hb5
  obtain ⟨x, hx⟩ := get_of_lt hkl
  obtain ⟨y, hy⟩ := get_of_lt (l := new.blocks) (k := k) (by omega)
  refine agk ?_;refine asq ?_;refine AGo.block ?_;refine asr ?_;refine am 37 ?_;refine aq 38 (qil tok (idx_map hx)) ?_;refine al 39 tok ?_;refine ax 6 (oal tok 2) ?_;refine aa 5 ?_;refine AOps.w rfl rfl (o_store tok rfl rfl rfl rfl rfl rfl rfl rfl rfl (by decide) rfl z33q) ?_;refine an ?_;refine asr ?_;refine aQ tok 3 rfl ?_;refine aq 43 (qil tok (idx_map hy)) ?_;refine al 44 tok ?_;refine ax 7 (oal tok 3) ?_;refine AOps.w rfl rfl (o_store tok rfl rfl rfl rfl rfl rfl rfl rfl rfl (by decide) rfl z33q) ?_;refine an ?_;refine asr ?_;refine aQ tok 6 rfl ?_;refine aop 50 (fun hb6 => ?_) fun hb6 => ?_
  ·
   refine aQ tok 13 rfl ?_;refine an ?_;refine act ?_;refine asr ?_;refine aa 4 ?_;refine an ?_;refine agt ⟨[_], ⟨rfl, trivial⟩, ?_, rfl⟩
   refine bc ?_
   first
   | exact (vshaped_b hx hy (shape_f (by assumption))).symm
   | exact (vshaped_b hx hy (shape_t (by assumption))).symm
   | exact (vshaped_b hx hy (shape_e (by assumption))).symm
  refine aQ tok 7 rfl ?_;refine aop 57 (fun hb7 => ?_) fun hb7 => ?_
  ·
   refine aQ tok 6 rfl ?_;refine an ?_;refine act ?_;refine asr ?_;refine aa 4 ?_;refine an ?_;refine agt ⟨[_], ⟨rfl, trivial⟩, ?_, rfl⟩
   refine bc ?_
   first
   | exact (vshaped_b hx hy (shape_f (by assumption))).symm
   | exact (vshaped_b hx hy (shape_t (by assumption))).symm
   | exact (vshaped_b hx hy (shape_e (by assumption))).symm
  refine aQ tok 6 rfl ?_;refine an ?_;refine asp 63 (fun hb8 => ?_) fun hb8 => ?_
  ·
   refine act ?_;refine asr ?_;refine aa 4 ?_;refine an ?_;refine agt ⟨[_], ⟨rfl, trivial⟩, ?_, rfl⟩
   refine bc ?_
   first
   | exact (vshaped_b hx hy (shape_f (by assumption))).symm
   | exact (vshaped_b hx hy (shape_t (by assumption))).symm
   | exact (vshaped_b hx hy (shape_e (by assumption))).symm
  refine acf ?_;refine agk ?_;refine agr ?_;refine aq 64 (q_inc rfl rfl hkl (show old.blocks.length ≤ maxLen by simp only [maxLen]; omega)) ?_
  refine am 35 ?_;refine an ?_;exact ⟨k+1, Drop.mk' z20q z14q, ⟨hkl, all_succ (zip_at hx hy) hall (shape_y (by assumption) (by assumption) (by assumption))⟩, by omega⟩
 refine acf ?_
 have hge : old.blocks.length ≤ k := by simpa using hb5
 refine AGo.exit ?_;refine asr ?_;refine aa 4 ?_;refine an ?_;refine agt ⟨[_], ⟨rfl, trivial⟩, ?_, rfl⟩
 refine bc ?_;exact (vshaped_yes (bne_eq' (by assumption)) hlen (ndec_same (by assumption)) (ndec_same (by assumption)) (all_end hall (by rw [List.length_zip]; omega))).symm
theorem vcheck_ok (old new : BFunc) (hno : old.blocks.length ≤ 10000) (hnn : new.blocks.length ≤ 10000) (hio : ∀ x ∈ old.blocks, x.ins.length ≤ 10000 ∧ insW x.ins) (hin : ∀ x ∈ new.blocks, x.ins.length ≤ 10000 ∧ insW x.ins) (c : Cert) : APure Tryz.prog 129 [.agg old.cells, .agg new.cells, .agg c.cells] (fun r => r = .bool (vcheck old new c)) := by
 refine APure.of_body (n := 66) tok Tryz.func129 rfl rfl ?_;refine asr ?_;refine ax 3 (obx 2 0) ?_;refine ax 4 (obx 2 1) ?_;refine ax 5 (obx 1 2) ?_;refine aa 6 ?_;refine an ?_;refine asq ?_;refine asr ?_;refine aQ tok 2 rfl ?_;refine ax 13 (opu Tryz.func130 (shaped_ok old new hno hnn hio hin)) ?_;refine aQ tok 2 rfl ?_;refine aop 15 (fun hb1 => ?_) fun hb1 => ?_
 ·
  refine aQ tok 8 rfl ?_;refine an ?_;refine act ?_;refine asr ?_;refine aa 6 ?_;refine an ?_;refine agt ⟨[_], ⟨rfl, trivial⟩, ?_, rfl⟩
  refine bc ?_
  first
  | exact (vcheck_no1 (ndec_same' (b := vshaped old new) (by assumption))).symm
  | exact (vcheck_no2 (by assumption)).symm
 refine aQ tok 8 rfl ?_;refine an ?_;refine asp 23 (fun hb2 => ?_) fun hb2 => ?_
 ·
  refine act ?_;refine asr ?_;refine aa 6 ?_;refine an ?_;refine agt ⟨[_], ⟨rfl, trivial⟩, ?_, rfl⟩
  refine bc ?_
  first
  | exact (vcheck_no1 (ndec_same' (b := vshaped old new) (by assumption))).symm
  | exact (vcheck_no2 (by assumption)).symm
 refine acf ?_
 have hsh : vshaped old new = true := ndec_same (by assumption)
 have hcl := cert_len (old := old) (c := c) (by assumption)
 have hV := vshaped_of hsh
 have hSo := stands_of hV.so
 have hSn := stands_of hV.sn
 have hr0 := hSo.r0
 have hr1 := hSo.r1
 have hR : ((old.regs.toNat : Nat) : Int) = old.regs := Int.toNat_of_nonneg hr0
 refine agk ?_;refine asq ?_;refine asr ?_;refine aQ tok 4 rfl ?_;refine an ?_;refine AGo.block ?_;refine AGo.loopD (γ := Nat) 3 (fun j => ⟨66, (eput (eput (eput (eput (eput (eput eNew 3 (.ptr 0 1 0 0)) 4 (.ptr 1 1 0 0)) 5 (.ptr 2 1 0 0)) 25 (rowsAV c.same)) 26 (.int .i64 (c.same.length : Int))) 27 (.int .i64 (j : Int))), (hput (hput (hput (hFrom 3) 0 (.row false 2 [old.cells])) 1 (.row false 2 [new.cells])) 2 (.row false 1 [c.cells]))⟩) (fun j => j ≤ c.same.length ∧ (c.same.take j).all (fun r => decide ((r.length : Int) = old.regs)) = true) (fun j => c.same.length - j) 0 (Sub.mk' z18q z9q) ⟨Nat.zero_le _, rfl⟩ (fun _ => hput_free (hput_free (hput_free (fun b hb => hFrom_free hb) rfl) rfl) rfl) ?_
 intro j ⟨hj, hall⟩
 refine asr ?_;refine aqb ?_;refine an ?_;refine asq ?_;refine asp 28 (fun hb3 => ?_) fun hb3 => ?_
 ·
  refine act ?_
  have hjl : j < c.same.length := by have h := hb3; simp only [List.length_map, decide_eq_true_eq] at h; omega
  obtain ⟨r, hr⟩ := get_of_lt hjl
  refine agk ?_;refine asq ?_;refine AGo.block ?_;refine asr ?_;refine aq 29 (qil tok (idx_map hr)) ?_;refine aQ tok 2 rfl ?_;refine an ?_;refine asr ?_;refine aQ tok 5 rfl ?_;refine an ?_;refine asp 35 (fun hb4 => ?_) fun hb4 => ?_
  ·
   refine act ?_
   have hne : ¬ (r.length : Int) = old.regs := by have h := bne_ne' hb4; rw [List.length_map] at h; exact h
   refine asr ?_;refine aa 6 ?_;refine an ?_;refine agt ⟨[_], ⟨rfl, trivial⟩, ?_, rfl⟩
   refine bc ?_;exact (vcheck_no3 hr hne).symm
  refine acf ?_
  have heq : (r.length : Int) = old.regs := by have h := bne_eq' hb4; rw [List.length_map] at h; exact h
  refine agk ?_;refine agr ?_;refine aq 36 (q_inc rfl rfl hjl (show c.same.length ≤ maxLen by simp only [maxLen]; omega)) ?_
  refine am 27 ?_;refine an ?_;exact ⟨j+1, Drop.mk' z20q z14q, ⟨hjl, all_succ hr hall (decide_eq_true heq)⟩, by omega⟩
 refine acf ?_
 have hjge : c.same.length ≤ j := by have h := hb3; simp only [List.length_map, decide_eq_false_iff_not] at h; omega
 have hall2 := all_end hall hjge
 have hrl : ∀ r ∈ c.same, r.length = old.regs.toNat := fun r hr => by have := List.all_eq_true.1 hall2 r hr; simp only [decide_eq_true_eq] at this; omega
 refine AGo.exit ?_;refine asr ?_;refine al 37 tok ?_;refine ax 38 (opu Tryz.func80 (next_ok old (by omega))) ?_;refine aa 9 ?_;refine an ?_;refine asq ?_;refine asr ?_;refine aQ tok 4 rfl ?_;refine an ?_;refine AGo.block ?_;refine AGo.loopD (γ := Nat) 3 (fun k => ⟨66, (eput (eput (eput (eput (eput (eput eNew 3 (.ptr 0 1 0 0)) 4 (.ptr 1 1 0 0)) 5 (.ptr 2 1 0 0)) 9 (pathsAV old.nexts)) 41 (.int .i64 (old.blocks.length : Int))) 42 (.int .i64 (k : Int))), (hput (hput (hput (hFrom 3) 0 (.row false 2 [old.cells])) 1 (.row false 2 [new.cells])) 2 (.row false 1 [c.cells]))⟩) (fun k => k ≤ old.blocks.length ∧ ((old.blocks.zip new.blocks).zipIdx.take k).all (fun p => vsame old.regs.toNat p.1.1 p.1.2 c (p.2 : Int) p.1.1.nexts) = true) (fun k => old.blocks.length - k) 0 (Sub.mk' z18q z9q) ⟨Nat.zero_le _, rfl⟩ (fun _ => hput_free (hput_free (hput_free (fun b hb => hFrom_free hb) rfl) rfl) rfl) ?_
 intro k ⟨hk, hallb⟩
 refine asr ?_;refine aqb ?_;refine an ?_;refine asq ?_;refine asp 43 (fun hb5 => ?_) fun hb5 => ?_
 ·
  refine act ?_
  have hkl : k < old.blocks.length := by simpa using hb5
  obtain ⟨x, hx⟩ := get_of_lt hkl
  have hxm := List.mem_of_getElem? hx
  obtain ⟨y, hy⟩ := get_of_lt (l := new.blocks) (k := k) (by have := hV.len; omega)
  have hym := List.mem_of_getElem? hy
  have hsb := hV.b k x y hx hy
  have hnx : ∀ q ∈ x.nexts, 0 ≤ q ∧ q < c.same.length := fun q hq => by rw [hcl]; exact hSo.next x hxm q hq
  have hvv : x.fin = 2 → (0 ≤ x.v ∧ x.v < (old.regs.toNat : Int)) ∧ (0 ≤ y.v ∧ y.v < (old.regs.toNat : Int)) := fun hf => by rw [hR]; refine ⟨hSo.v x hxm hf, ?_⟩; rw [hV.regs]; exact hSn.v y hym (by rw [← hsb.1]; exact hf)
  have hto : ∀ t ∈ x.ins, TacV t old.regs.toNat := fun t ht => hSo.tacs x hxm t ht ((hio x hxm).2 t ht)
  have htn : ∀ t ∈ y.ins, TacV t old.regs.toNat := fun t ht => by rw [hV.regs]; exact hSn.tacs y hym t ht ((hin y hym).2 t ht)
  have hnl : x.nexts.length ≤ 100000 := nexts_short x
  refine agk ?_;refine asq ?_;refine AGo.block ?_;refine asr ?_;refine aQ tok 2 rfl ?_;refine an ?_;refine asq ?_;refine AGo.draw mix ?_;refine dQ tok 3 rfl ?_;refine dq 48 (qil tok (idx_map hx)) ?_;refine dQ tok 4 rfl ?_;refine dq 53 (qil tok (idx_map hy)) ?_;refine dQ tok 7 rfl ?_;refine dq 61 (q_index_lst tok rfl rfl rfl rfl rfl rfl (Int.natCast_nonneg _) (idx_map (nexts_get hx)) rfl) ?_;refine dl 62 tok ?_;refine dx 63 (opu Tryz.func131 ((by have h := vsame_ok x y old.regs.toNat c (k : Int) x.nexts (by omega) hrl (by omega) hnx hvv hto htn (hio x (List.mem_of_getElem? hx)).1 (hin y (List.mem_of_getElem? hy)).1 hnl; rw [hR] at h; exact h))) ?_;refine dq 64 (q_not rfl rfl) ?_;refine DOps.nil (by kernel_rfl) ?_;refine asp 64 (fun hb6 => ?_) fun hb6 => ?_
  ·
   refine act ?_
   have hbad := ndec_same' hb6
   refine asr ?_;refine aa 6 ?_;refine an ?_;refine agt ⟨[_], ⟨rfl, trivial⟩, ?_, rfl⟩
   refine bc ?_;exact (vcheck_no4 hx hy hbad).symm
  refine acf ?_
  have hgood := ndec_same hb6
  refine agk ?_;refine agr ?_;refine aq 65 (q_inc rfl rfl hkl (show old.blocks.length ≤ maxLen by simp only [maxLen]; omega)) ?_
  refine am 42 ?_;refine an ?_;exact ⟨k+1, Drop.mk' z20q z14q, ⟨hkl, all_succ (zipIdx_get (zip_at hx hy)) hallb hgood⟩, by omega⟩
 refine acf ?_
 have hge : old.blocks.length ≤ k := by simpa using hb5
 refine AGo.exit ?_;refine asr ?_;refine aa 6 ?_;refine an ?_;refine agt ⟨[_], ⟨rfl, trivial⟩, ?_, rfl⟩
 refine bc ?_;exact (vcheck_yes hsh hcl hall2 (all_end hallb (by rw [List.length_zipIdx, List.length_zip]; omega))).symm
theorem equal_ok (l r : List Tac) (hl : l.length ≤ 1000000000) : APure Tryz.prog 152 [insAV l, insAV r] (fun q => q = .bool (decide (l = r))) := by
 refine APure.of_body (n := 26) tok Tryz.func152 rfl rfl ?_;refine asr ?_;refine aa 4 ?_;refine an ?_;refine asq ?_;refine asr ?_;refine aQ tok 5 rfl ?_;refine an ?_;refine asp 10 (fun hb1 => ?_) fun hb1 => ?_
 ·
  refine act ?_;refine asr ?_;refine aa 4 ?_;refine an ?_;refine agt ⟨[_], ⟨rfl, trivial⟩, ?_, rfl⟩
  refine bc ?_;exact (decide_eq_false (by rintro rfl; simp_all)).symm
 refine acf ?_
 have hlr : l.length = r.length := by have h := hb1; simp at h; omega
 refine agk ?_;refine asq ?_;refine asr ?_;refine aQ tok 3 rfl ?_;refine an ?_;refine AGo.block ?_;refine AGo.loopI (γ := Nat) (fun k => ⟨26, (eput (eput (eput (eput (eput eNew 0 (insAV l)) 1 (insAV r)) 11 (insAV l)) 12 (.int .i64 (l.length : Int))) 13 (.int .i64 (k : Int))), hNone⟩) (fun k => l.take k = r.take k) (fun k => l.length - k) 0 (Sub.mk' z18q z9q) rfl ?_
 intro k ht
 refine asr ?_;refine aqb ?_;refine an ?_;refine asq ?_;refine asp 14 (fun hb2 => ?_) fun hb2 => ?_
 ·
  refine act ?_
  have hkl : k < l.length := by simpa using hb2
  obtain ⟨x, hx⟩ := get_of_lt hkl
  obtain ⟨y, hy⟩ := get_of_lt (l := r) (k := k) (by omega)
  refine agk ?_;refine asq ?_;refine AGo.block ?_;refine asr ?_;refine aQ tok 2 rfl ?_;refine an ?_;refine asq ?_;refine AGo.draw mix ?_;refine dQ tok 2 rfl ?_;refine dq 18 (q_index_lst tok rfl rfl rfl rfl rfl rfl (Int.natCast_nonneg _) (idx_map (by assumption)) rfl) ?_;refine dQ tok 3 rfl ?_;refine dq 22 (q_index_lst tok rfl rfl rfl rfl rfl rfl (Int.natCast_nonneg _) (idx_map (by assumption)) rfl) ?_;refine dl 23 tok ?_;refine dq 24 (q_eqStruct tok true rfl rfl rfl (by kernel_rfl) rfl rfl rfl rfl (Tac.eqCells x y)) ?_;refine DOps.nil (by kernel_rfl) ?_;refine asp 24 (fun hb3 => ?_) fun hb3 => ?_
  ·
   refine act ?_
   have hxy : x ≠ y := by simpa using hb3
   refine asr ?_;refine aa 4 ?_;refine an ?_;refine agt ⟨[_], ⟨rfl, trivial⟩, ?_, rfl⟩
   refine bc ?_;exact (decide_eq_false (by rintro rfl; rw [hx] at hy; cases hy; exact hxy rfl)).symm
  refine acf ?_
  have hxy : x = y := by simpa using hb3
  refine agk ?_;refine agr ?_;refine aq 25 (q_inc rfl rfl hkl (by simp only [maxLen]; omega)) ?_;refine am 13 ?_;refine an ?_;exact ⟨k+1, Sub.mk' z29q z9q, (by rw [take_succ_eq hx, take_succ_eq hy, ht, hxy]), by omega⟩
 refine acf ?_
 have hge : l.length ≤ k := by simpa using hb2
 refine AGo.exit ?_;refine asr ?_;refine aa 4 ?_;refine an ?_;refine agt ⟨[_], ⟨rfl, trivial⟩, ?_, rfl⟩
 refine bc ?_;exact (decide_eq_true (take_all ht hge (hlr ▸ hge))).symm
theorem follows_ok (f : BFunc) (p : List Int) (hp : inF f.blocks.length p) (hpl : p.length ≤ 2000000) : APure Tryz.prog 145 [.agg f.cells, intsAV p] (fun r => r = .bool (followsB f p)) := by
 have hpos : 0 < p.length := List.length_pos_iff.2 hp.1
 refine APure.of_body (n := 38) tok Tryz.func145 rfl rfl ?_;refine asr ?_;refine ax 2 (obx 2 0) ?_;refine aa 4 ?_;refine an ?_;refine asq ?_;refine asr ?_;refine aQ tok 3 rfl ?_;refine aq 11 (q_bin (r := .int .i64 ((p.length - 1 : Nat) : Int)) rfl rfl rfl (by rw [List.length_map]; exact len_pred hpos (by omega))) ?_;refine aq 12 (q_front (m := p.length - 1) (es := intCells p) tok rfl rfl rfl rfl rfl rfl (by rw [intCells_len]; omega) (by intro cs h; simp [intCells] at h; obtain ⟨n, _, rfl⟩ := h; rfl)) ?_;refine aQ tok 2 rfl ?_;refine an ?_;refine AGo.block ?_;refine AGo.loopD (γ := Nat) 1 (fun k => ⟨38, (eput (eput (eput (eput (eput eNew 1 (intsAV p)) 2 (.ptr 0 1 0 0)) 12 (.lst false ((intCells p).take (p.length - 1)))) 13 (.int .i64 ((p.length - 1 : Nat) : Int))) 14 (.int .i64 (k : Int))), (hput (hFrom 1) 0 (.row false 2 [f.cells]))⟩) (fun k => ((List.range (p.length - 1)).take k).all (okAt f p) = true) (fun k => p.length - 1 - k) 0 (Sub.mk' (by repeat (first | exact ESub.new _ | refine ESub.put ?_ (by first | rfl | exact congrArg (fun (n : Nat) => some (AV.int .i64 (n : Int))) (by simp [intCells_len])))) z9q) rfl (fun _ => hput_free (fun b hb => hFrom_free hb) rfl) ?_
 intro k hall
 refine asr ?_;refine aqb ?_;refine an ?_;refine asq ?_;refine asp 15 (fun hb1 => ?_) fun hb1 => ?_
 ·
  refine act ?_
  have hkl : k < p.length - 1 := by have h := hb1; simp [intCells_len] at h; omega
  obtain ⟨y, hy⟩ := get_of_lt (l := p) (k := k) (by omega)
  obtain ⟨z, hz⟩ := get_of_lt (l := p) (k := k + 1) (by omega)
  have hyr := hp.2 y (List.mem_of_getElem? hy)
  have hat : okAt f p k = ((f.blockAt y).fin == 1 && (f.blockAt y).to == z) := by rw [okAt, iget_get hy, iget_get hz]
  refine agk ?_;refine asq ?_;refine AGo.block ?_;refine asr ?_;refine am 16 ?_;refine aq 17 (q_index_lst tok rfl rfl rfl rfl rfl rfl (Int.natCast_nonneg _) (cs := [.int .i64 y]) (by rw [Int.toNat_natCast, List.getElem?_take_of_lt hkl, intCells, List.getElem?_map, hy]; rfl) rfl) ?_;refine aQ tok 3 rfl ?_;refine an ?_;refine asr ?_;refine aQ tok 3 rfl ?_;refine aq 22 (q_index_lst tok rfl rfl rfl rfl rfl rfl hyr.1 (idx_mapZ (blockAt_get hyr)) rfl) ?_;refine al 23 tok ?_;refine ax 7 (oal tok 1) ?_;refine AOps.w rfl rfl (o_store tok rfl rfl rfl rfl rfl rfl rfl rfl rfl (by decide) rfl z33q) ?_;refine an ?_;refine asq ?_;refine AGo.draw mix ?_;refine dQ tok 4 rfl ?_;refine DOps.split 27 rfl (fun hb2 => ?_) (fun hb2 => ?_)
  ·
   refine dQ tok 9 rfl ?_;refine DOps.nil (by kernel_rfl) ?_;refine act ?_;refine asr ?_;refine aa 4 ?_;refine an ?_;refine agt ⟨[_], ⟨rfl, trivial⟩, ?_, rfl⟩
   refine bc ?_;exact (all_bad (range_get hkl) (by rw [hat]; simp_all)).symm
  refine dQ tok 4 rfl ?_;refine dq 32 (q_inc rfl rfl hkl (show p.length - 1 ≤ maxLen by simp only [maxLen]; omega)) ?_
  refine dq 33 (q_index_lst tok rfl rfl rfl rfl rfl rfl (Int.natCast_nonneg _) (cs := [.int .i64 z]) (by rw [Int.toNat_natCast]; show (List.map (fun b => [AV.int .i64 b]) p)[k + 1]? = _; rw [List.getElem?_map, hz]; rfl) rfl) ?_;refine dQ tok 3 rfl ?_;refine DOps.nil (by kernel_rfl) ?_;refine asp 36 (fun hb3 => ?_) fun hb3 => ?_
  ·
   refine act ?_;refine asr ?_;refine aa 4 ?_;refine an ?_;refine agt ⟨[_], ⟨rfl, trivial⟩, ?_, rfl⟩
   refine bc ?_;exact (all_bad (range_get hkl) (by rw [hat]; simp_all)).symm
  refine acf ?_;refine agk ?_;refine agr ?_;refine aq 37 (q_inc rfl rfl hkl (show p.length - 1 ≤ maxLen by simp only [maxLen]; omega)) ?_
  refine am 14 ?_;refine an ?_;exact ⟨k+1, Drop.mk' z20q z14q, (all_succ (range_get hkl) hall (by rw [hat]; simp_all)), by omega⟩
 refine acf ?_
 have hge : p.length - 1 ≤ k := by have h := hb1; simp [intCells_len] at h; omega
 refine AGo.exit ?_;refine asr ?_;refine aa 4 ?_;refine an ?_;refine agt ⟨[_], ⟨rfl, trivial⟩, ?_, rfl⟩
 refine bc ?_;exact (all_end hall (by simpa using hge)).symm
theorem made_ok (f : BFunc) (b : Block) (p : List Int) (hp : inF f.blocks.length p) (hpl : p.length ≤ 2000000) (hbl : b.ins.length ≤ 1000000000) : APure Tryz.prog 146 [.agg f.cells, .agg b.cells, intsAV p] (fun r => r = .bool (madeR f b.ins p)) := by
 refine APure.of_body (n := 47) tok Tryz.func146 rfl rfl ?_;refine asr ?_;refine ax 3 (obx 2 0) ?_;refine ax 4 (obx 5 1) ?_;refine aa 6 ?_;refine an ?_;refine asr ?_;refine aQ tok 3 rfl ?_;refine an ?_;refine asq ?_;refine asr ?_;refine aQ tok 3 rfl ?_;refine an ?_;refine AGo.block ?_;refine AGo.loopD (γ := MG) 2 (fun q => ⟨47, (eput (eput (eput (eput (eput eNew 3 (.ptr 0 1 0 0)) 7 (insAV q.rest)) 13 (intsAV p)) 14 (.int .i64 (p.length : Int))) 15 (.int .i64 (q.k : Int))), (hput (hFrom 2) 0 (.row false 2 [f.cells]))⟩) (fun q => madeR f q.rest (p.drop q.k) = madeR f b.ins p ∧ q.rest.length ≤ 1000000000) (fun q => p.length - q.k) ⟨0, b.ins⟩ (Sub.mk' z18q z9q) ⟨rfl, hbl⟩ (fun _ => hput_free (fun b hb => hFrom_free hb) rfl) ?_
 intro q hF
 refine asr ?_;refine aqb ?_;refine an ?_;refine asq ?_;refine asp 16 (fun hb1 => ?_) fun hb1 => ?_
 ·
  refine act ?_
  have hkl : q.k < p.length := by have h := hb1; simp at h; omega
  obtain ⟨y, hy⟩ := get_of_lt hkl
  have hyr := hp.2 y (List.mem_of_getElem? hy)
  have hst := madeR_step (f := f) (rest := q.rest) hy
  have heq := hF.1
  have hrl := hF.2
  refine agk ?_;refine asq ?_;refine AGo.block ?_;refine asr ?_;refine aq 17 (qil tok (idx_map hy)) ?_;refine aQ tok 2 rfl ?_;refine an ?_;refine asr ?_;refine aQ tok 3 rfl ?_;refine aq 22 (q_index_lst tok rfl rfl rfl rfl rfl rfl hyr.1 (idx_mapZ (blockAt_get hyr)) rfl) ?_;refine aQ tok 3 rfl ?_;refine an ?_;refine asq ?_;refine asr ?_;refine aQ tok 6 rfl ?_;refine aop 30 (fun hb2 => ?_) fun hb2 => ?_
  ·
   refine aQ tok 8 rfl ?_;refine an ?_;refine act ?_;refine asr ?_;refine aa 6 ?_;refine an ?_;refine agt ⟨[_], ⟨rfl, trivial⟩, ?_, rfl⟩
   refine bc ?_
   rw [← heq, hst]
   by_cases hcc : (f.blockAt y).ins.length ≤ q.rest.length
   · clear heq hst hF
     first | (have h3 : ¬ q.rest.take (f.blockAt y).ins.length = (f.blockAt y).ins := by simp_all
              simp [h3]; done) | (exfalso; simp_all; omega)
   · simp [hcc]
  have hlen : (f.blockAt y).ins.length ≤ q.rest.length := by have h := hb2; simp at h; omega
  refine aQ tok 3 rfl ?_;refine aq 34 (q_front' (l := q.rest) (m := (f.blockAt y).ins.length) tok rfl rfl rfl rfl ⟨rfl, rfl⟩ rfl (by rw [List.length_map]) (by have h := hlen; omega)) ?_;refine am 35 ?_;refine ax 36 (opu Tryz.func152 (equal_ok (q.rest.take (f.blockAt y).ins.length) (f.blockAt y).ins (by rw [List.length_take]; omega))) ?_;refine aQ tok 2 rfl ?_;refine an ?_;refine asp 38 (fun hb3 => ?_) fun hb3 => ?_
  ·
   refine act ?_;refine asr ?_;refine aa 6 ?_;refine an ?_;refine agt ⟨[_], ⟨rfl, trivial⟩, ?_, rfl⟩
   refine bc ?_
   rw [← heq, hst]
   by_cases hcc : (f.blockAt y).ins.length ≤ q.rest.length
   · clear heq hst hF
     first | (have h3 : ¬ q.rest.take (f.blockAt y).ins.length = (f.blockAt y).ins := by simp_all
              simp [h3]; done) | (exfalso; simp_all; omega)
   · simp [hcc]
  refine acf ?_
  have hsame : q.rest.take (f.blockAt y).ins.length = (f.blockAt y).ins := by simp_all
  refine agk ?_;refine agr ?_;refine aQ tok 3 rfl ?_;refine aq 42 (q_back' (l := q.rest) (m := (f.blockAt y).ins.length) tok rfl rfl rfl rfl ⟨rfl, rfl⟩ rfl (by rw [List.length_map]) (by have h := hlen; omega)) ?_;refine aa 7 ?_;refine an ?_;refine agr ?_;refine aq 43 (q_inc rfl rfl hkl (by simp only [maxLen]; omega)) ?_;refine am 15 ?_;refine an ?_;exact ⟨⟨q.k + 1, q.rest.drop (f.blockAt y).ins.length⟩, Drop.mk' z20q z14q, ⟨by rw [← heq, hst]; simp [hlen, hsame], by show (q.rest.drop _).length ≤ _; rw [List.length_drop]; omega⟩, (by show p.length - (q.k + 1) < p.length - q.k; omega)⟩
 refine acf ?_
 have hge : p.length ≤ q.k := by have h := hb1; simp at h; omega
 have heq := hF.1
 refine AGo.exit ?_;refine asr ?_;refine aQ tok 4 rfl ?_;refine an ?_;refine agt ⟨[_], ⟨rfl, trivial⟩, ?_, rfl⟩
 refine bc ?_
 rw [← heq, List.drop_eq_nil_of_le hge, madeR]
 cases q.rest <;> simp [evalBin] <;> omega
theorem begins_ok (paths : List (List Int)) (k i : Int) (hpn : ∀ p ∈ paths, p ≠ []) : ACall Tryz.prog 153 [.int .i64 k, .int .i64 i, .ptr 2 1 0 0] (hput hNew 2 (.row false 1 [[pathsAV paths]])) (fun r h' => r = .bool (beginsB paths k i) ∧ HSub (hput hNone 2 (.row false 1 [[pathsAV paths]])) h') := by
 refine ACall.of_body (n := 24) tok Tryz.func153 rfl rfl ?_;refine asr ?_;refine aa 5 ?_;refine an ?_;refine asr ?_;refine aQ tok 3 rfl ?_;refine aop 8 (fun hb1 => ?_) fun hb1 => ?_
 ·
  refine aQ tok 6 rfl ?_;refine aop 14 (fun hb2 => ?_) fun hb2 => ?_
  ·
   have hkr : 0 ≤ k ∧ k < paths.length := by simp_all [pathsAV] <;> omega
   have hpk := pathK_get hkr
   have hp0 := headZ_get (hpn _ (List.mem_of_getElem? hpk))
   refine aQ tok 2 rfl ?_;refine aq 17 (q_index_lst tok rfl rfl rfl rfl rfl rfl hkr.1 (idx_mapZ hpk) rfl) ?_;refine al 18 tok ?_;refine aq 19 (q_index_lst tok rfl rfl rfl rfl rfl rfl (by decide) (cs := [.int .i64 (headZ (pathK paths k))]) (by show (List.map (fun b => [AV.int .i64 b]) (pathK paths k))[0]? = _; rw [List.getElem?_map, hp0]; rfl) rfl) ?_;refine aQ tok 5 rfl ?_;refine an ?_;refine agt ?_;refine ⟨[_], ⟨rfl, trivial⟩, ?_, HSub.put (HSub.none _) rfl⟩
   refine bc ?_
   first | (simp_all [beginsB, pathsAV]; done) | (simp_all [beginsB, pathsAV]; omega)
  refine aQ tok 10 rfl ?_;refine an ?_;refine agt ?_;refine ⟨[_], ⟨rfl, trivial⟩, ?_, HSub.put (HSub.none _) rfl⟩
  refine bc ?_
  first | (simp_all [beginsB, pathsAV]; done) | (simp_all [beginsB, pathsAV]; omega)
 refine aQ tok 16 rfl ?_;refine an ?_;refine agt ?_;refine ⟨[_], ⟨rfl, trivial⟩, ?_, HSub.put (HSub.none _) rfl⟩
 refine bc ?_
 first | (simp_all [beginsB, pathsAV]; done) | (simp_all [beginsB, pathsAV]; omega)
theorem leads_ok (last b : Block) (paths : List (List Int)) (hpn : ∀ p ∈ paths, p ≠ []) : APure Tryz.prog 147 [.agg last.cells, .agg b.cells, pathsAV paths] (fun r => r = .bool (leadsB last b paths)) := by
 refine APure.of_body (n := 60) tok Tryz.func147 rfl rfl ?_;refine asr ?_;refine ax 3 (obx 5 0) ?_;refine ax 4 (obx 5 1) ?_;refine ax 5 (obx 1 2) ?_;refine aa 6 ?_;refine an ?_;refine asq ?_;refine asr ?_;refine aQ tok 6 rfl ?_;refine aop 15 (fun hb1 => ?_) fun hb1 => ?_
 ·
  refine aQ tok 6 rfl ?_;refine an ?_;refine act ?_;refine asr ?_;refine aa 6 ?_;refine an ?_;refine agt ?_
  first
  | exact absurd (show (b.fin == 2) = true from ‹_›) z35q
  | (refine ⟨[_], ⟨rfl, trivial⟩, ?_, rfl⟩
     refine bc ?_
     simp only [leadsB, leadsTo, leadsEl, *, cond_true, cond_false, Bool.not_true, Bool.not_false, Bool.true_and, Bool.false_and, Bool.and_true, Bool.and_false, Bool.true_or, Bool.or_true, Bool.false_or, Bool.or_false])
 refine aQ tok 6 rfl ?_;refine an ?_;refine asp 21 (fun hb2 => ?_) fun hb2 => ?_
 ·
  refine act ?_;refine asr ?_;refine aa 6 ?_;refine an ?_;refine agt ?_
  first
  | exact absurd (show (b.fin == 2) = true from ‹_›) z35q
  | (refine ⟨[_], ⟨rfl, trivial⟩, ?_, rfl⟩
     refine bc ?_
     simp only [leadsB, leadsTo, leadsEl, *, cond_true, cond_false, Bool.not_true, Bool.not_false, Bool.true_and, Bool.false_and, Bool.and_true, Bool.and_false, Bool.true_or, Bool.or_true, Bool.false_or, Bool.or_false])
 refine acf ?_;refine agk ?_;refine asr ?_;refine aq 22 (q_makeFunc rfl rfl rfl) ?_;refine aa 7 ?_;refine an ?_;refine asq ?_;refine AGo.draw mix ?_;refine dQ tok 12 rfl ?_;refine DOps.nil (by kernel_rfl) ?_;refine asq ?_;refine asr ?_;refine aQ tok 4 rfl ?_;refine aop 36 (fun hb3 => ?_) fun hb3 => ?_
 ·
  refine aQ tok 4 rfl ?_;refine an ?_;refine act ?_;refine agr ?_;refine aQ tok 5 rfl ?_;refine ax 46 (o_callF (hc := (hput hNew 2 (.row false 1 [[pathsAV paths]]))) (hw := (hput hNone 2 (.row false 1 [[pathsAV paths]]))) [2] [(2, (.row false 1 [[pathsAV paths]]))] rfl rfl Tryz.func153 (by kernel_rfl) rfl rfl rfl ⟨⟨_, rfl, rfl⟩, trivial⟩ rfl (hres_cons rfl (hres_nil _)) ⟨⟨_, rfl, rfl, rfl⟩, trivial⟩ rfl (begins_ok paths b.to last.to hpn)) ?_;refine aa 8 ?_;refine an ?_;refine asq ?_;refine asr ?_;refine aQ tok 3 rfl ?_;refine an ?_;refine asp 49 (fun hb4 => ?_) fun hb4 => ?_
  ·
   refine act ?_;refine agr ?_;refine aQ tok 5 rfl ?_;refine ax 55 (o_callF (hc := (hput hNew 2 (.row false 1 [[pathsAV paths]]))) (hw := (hput hNone 2 (.row false 1 [[pathsAV paths]]))) [2] [(2, (.row false 1 [[pathsAV paths]]))] rfl rfl Tryz.func153 (by kernel_rfl) rfl rfl rfl ⟨⟨_, rfl, rfl⟩, trivial⟩ rfl (hres_cons rfl (hres_nil _)) ⟨⟨_, rfl, rfl, rfl⟩, trivial⟩ rfl (begins_ok paths b.els last.els hpn)) ?_;refine aa 9 ?_;refine an ?_;refine asr ?_;refine aQ tok 2 rfl ?_;refine aop 57 (fun hb5 => ?_) fun hb5 => ?_
   ·
    refine aQ tok 3 rfl ?_;refine an ?_;refine agt ?_
    first
    | exact absurd (show (b.fin == 2) = true from ‹_›) z35q
    | (refine ⟨[_], ⟨rfl, trivial⟩, ?_, rfl⟩
       refine bc ?_
       simp only [leadsB, leadsTo, leadsEl, *, cond_true, cond_false, Bool.not_true, Bool.not_false, Bool.true_and, Bool.false_and, Bool.and_true, Bool.and_false, Bool.true_or, Bool.or_true, Bool.false_or, Bool.or_false])
   refine aQ tok 3 rfl ?_;refine an ?_;refine agt ?_
   first
   | exact absurd (show (b.fin == 2) = true from ‹_›) z35q
   | (refine ⟨[_], ⟨rfl, trivial⟩, ?_, rfl⟩
      refine bc ?_
      simp only [leadsB, leadsTo, leadsEl, *, cond_true, cond_false, Bool.not_true, Bool.not_false, Bool.true_and, Bool.false_and, Bool.and_true, Bool.and_false, Bool.true_or, Bool.or_true, Bool.false_or, Bool.or_false])
  refine acf ?_;refine agk ?_;refine asr ?_;refine aQ tok 2 rfl ?_;refine aop 57 (fun hb6 => ?_) fun hb6 => ?_
  ·
   refine aQ tok 3 rfl ?_;refine an ?_;refine agt ?_
   first
   | exact absurd (show (b.fin == 2) = true from ‹_›) z35q
   | (refine ⟨[_], ⟨rfl, trivial⟩, ?_, rfl⟩
      refine bc ?_
      simp only [leadsB, leadsTo, leadsEl, *, cond_true, cond_false, Bool.not_true, Bool.not_false, Bool.true_and, Bool.false_and, Bool.and_true, Bool.and_false, Bool.true_or, Bool.or_true, Bool.false_or, Bool.or_false])
  refine aQ tok 3 rfl ?_;refine an ?_;refine agt ?_
  first
  | exact absurd (show (b.fin == 2) = true from ‹_›) z35q
  | (refine ⟨[_], ⟨rfl, trivial⟩, ?_, rfl⟩
     refine bc ?_
     simp only [leadsB, leadsTo, leadsEl, *, cond_true, cond_false, Bool.not_true, Bool.not_false, Bool.true_and, Bool.false_and, Bool.and_true, Bool.and_false, Bool.true_or, Bool.or_true, Bool.false_or, Bool.or_false])
 refine aQ tok 4 rfl ?_;refine an ?_;refine asp 40 (fun hb7 => ?_) fun hb7 => ?_
 ·
  refine act ?_;refine agr ?_;refine aQ tok 5 rfl ?_;refine ax 46 (o_callF (hc := (hput hNew 2 (.row false 1 [[pathsAV paths]]))) (hw := (hput hNone 2 (.row false 1 [[pathsAV paths]]))) [2] [(2, (.row false 1 [[pathsAV paths]]))] rfl rfl Tryz.func153 (by kernel_rfl) rfl rfl rfl ⟨⟨_, rfl, rfl⟩, trivial⟩ rfl (hres_cons rfl (hres_nil _)) ⟨⟨_, rfl, rfl, rfl⟩, trivial⟩ rfl (begins_ok paths b.to last.to hpn)) ?_;refine aa 8 ?_;refine an ?_;refine asq ?_;refine asr ?_;refine aQ tok 3 rfl ?_;refine an ?_;refine asp 49 (fun hb8 => ?_) fun hb8 => ?_
  ·
   refine act ?_;refine agr ?_;refine aQ tok 5 rfl ?_;refine ax 55 (o_callF (hc := (hput hNew 2 (.row false 1 [[pathsAV paths]]))) (hw := (hput hNone 2 (.row false 1 [[pathsAV paths]]))) [2] [(2, (.row false 1 [[pathsAV paths]]))] rfl rfl Tryz.func153 (by kernel_rfl) rfl rfl rfl ⟨⟨_, rfl, rfl⟩, trivial⟩ rfl (hres_cons rfl (hres_nil _)) ⟨⟨_, rfl, rfl, rfl⟩, trivial⟩ rfl (begins_ok paths b.els last.els hpn)) ?_;refine aa 9 ?_;refine an ?_;refine asr ?_;refine aQ tok 2 rfl ?_;refine aop 57 (fun hb9 => ?_) fun hb9 => ?_
   ·
    refine aQ tok 3 rfl ?_;refine an ?_;refine agt ?_
    first
    | exact absurd (show (b.fin == 2) = true from ‹_›) z35q
    | (refine ⟨[_], ⟨rfl, trivial⟩, ?_, rfl⟩
       refine bc ?_
       simp only [leadsB, leadsTo, leadsEl, *, cond_true, cond_false, Bool.not_true, Bool.not_false, Bool.true_and, Bool.false_and, Bool.and_true, Bool.and_false, Bool.true_or, Bool.or_true, Bool.false_or, Bool.or_false])
   refine aQ tok 3 rfl ?_;refine an ?_;refine agt ?_
   first
   | exact absurd (show (b.fin == 2) = true from ‹_›) z35q
   | (refine ⟨[_], ⟨rfl, trivial⟩, ?_, rfl⟩
      refine bc ?_
      simp only [leadsB, leadsTo, leadsEl, *, cond_true, cond_false, Bool.not_true, Bool.not_false, Bool.true_and, Bool.false_and, Bool.and_true, Bool.and_false, Bool.true_or, Bool.or_true, Bool.false_or, Bool.or_false])
  refine acf ?_;refine agk ?_;refine asr ?_;refine aQ tok 2 rfl ?_;refine aop 57 (fun hb10 => ?_) fun hb10 => ?_
  ·
   refine aQ tok 3 rfl ?_;refine an ?_;refine agt ?_
   first
   | exact absurd (show (b.fin == 2) = true from ‹_›) z35q
   | (refine ⟨[_], ⟨rfl, trivial⟩, ?_, rfl⟩
      refine bc ?_
      simp only [leadsB, leadsTo, leadsEl, *, cond_true, cond_false, Bool.not_true, Bool.not_false, Bool.true_and, Bool.false_and, Bool.and_true, Bool.and_false, Bool.true_or, Bool.or_true, Bool.false_or, Bool.or_false])
  refine aQ tok 3 rfl ?_;refine an ?_;refine agt ?_
  first
  | exact absurd (show (b.fin == 2) = true from ‹_›) z35q
  | (refine ⟨[_], ⟨rfl, trivial⟩, ?_, rfl⟩
     refine bc ?_
     simp only [leadsB, leadsTo, leadsEl, *, cond_true, cond_false, Bool.not_true, Bool.not_false, Bool.true_and, Bool.false_and, Bool.and_true, Bool.and_false, Bool.true_or, Bool.or_true, Bool.false_or, Bool.or_false])
 refine acf ?_;refine agk ?_;refine asq ?_;refine asr ?_;refine aQ tok 3 rfl ?_;refine an ?_;refine asp 49 (fun hb11 => ?_) fun hb11 => ?_
 ·
  refine act ?_;refine agr ?_;refine aQ tok 5 rfl ?_;refine ax 55 (o_callF (hc := (hput hNew 2 (.row false 1 [[pathsAV paths]]))) (hw := (hput hNone 2 (.row false 1 [[pathsAV paths]]))) [2] [(2, (.row false 1 [[pathsAV paths]]))] rfl rfl Tryz.func153 (by kernel_rfl) rfl rfl rfl ⟨⟨_, rfl, rfl⟩, trivial⟩ rfl (hres_cons rfl (hres_nil _)) ⟨⟨_, rfl, rfl, rfl⟩, trivial⟩ rfl (begins_ok paths b.els last.els hpn)) ?_;refine aa 9 ?_;refine an ?_;refine asr ?_;refine aQ tok 2 rfl ?_;refine aop 57 (fun hb12 => ?_) fun hb12 => ?_
  ·
   refine aQ tok 3 rfl ?_;refine an ?_;refine agt ?_
   first
   | exact absurd (show (b.fin == 2) = true from ‹_›) z35q
   | (refine ⟨[_], ⟨rfl, trivial⟩, ?_, rfl⟩
      refine bc ?_
      simp only [leadsB, leadsTo, leadsEl, *, cond_true, cond_false, Bool.not_true, Bool.not_false, Bool.true_and, Bool.false_and, Bool.and_true, Bool.and_false, Bool.true_or, Bool.or_true, Bool.false_or, Bool.or_false])
  refine aQ tok 3 rfl ?_;refine an ?_;refine agt ?_
  first
  | exact absurd (show (b.fin == 2) = true from ‹_›) z35q
  | (refine ⟨[_], ⟨rfl, trivial⟩, ?_, rfl⟩
     refine bc ?_
     simp only [leadsB, leadsTo, leadsEl, *, cond_true, cond_false, Bool.not_true, Bool.not_false, Bool.true_and, Bool.false_and, Bool.and_true, Bool.and_false, Bool.true_or, Bool.or_true, Bool.false_or, Bool.or_false])
 refine acf ?_;refine agk ?_;refine asr ?_;refine aQ tok 2 rfl ?_;refine aop 57 (fun hb13 => ?_) fun hb13 => ?_
 ·
  refine aQ tok 3 rfl ?_;refine an ?_;refine agt ?_
  first
  | exact absurd (show (b.fin == 2) = true from ‹_›) z35q
  | (refine ⟨[_], ⟨rfl, trivial⟩, ?_, rfl⟩
     refine bc ?_
     simp only [leadsB, leadsTo, leadsEl, *, cond_true, cond_false, Bool.not_true, Bool.not_false, Bool.true_and, Bool.false_and, Bool.and_true, Bool.and_false, Bool.true_or, Bool.or_true, Bool.false_or, Bool.or_false])
 refine aQ tok 3 rfl ?_;refine an ?_;refine agt ?_
 first
 | exact absurd (show (b.fin == 2) = true from ‹_›) z35q
 | (refine ⟨[_], ⟨rfl, trivial⟩, ?_, rfl⟩
    refine bc ?_
    simp only [leadsB, leadsTo, leadsEl, *, cond_true, cond_false, Bool.not_true, Bool.not_false, Bool.true_and, Bool.false_and, Bool.and_true, Bool.and_false, Bool.true_or, Bool.or_true, Bool.false_or, Bool.or_false])
theorem check_ok (old new : BFunc) (paths : List (List Int)) (hnl : ∀ x ∈ new.blocks, x.ins.length ≤ 1000000000) (hpl : paths.length ≤ 2000000) (hps : ∀ p ∈ paths, p.length ≤ 2000000) : APure Tryz.prog 143 [.agg old.cells, .agg new.cells, pathsAV paths] (fun r => r = .bool (checkB old new paths)) := by
 refine APure.of_body (n := 104) tok Tryz.func143 rfl rfl ?_;refine asr ?_;refine ax 3 (obx 2 0) ?_;refine ax 4 (obx 2 1) ?_;refine aa 6 ?_;refine an ?_;refine asq ?_;refine asr ?_;refine aQ tok 4 rfl ?_;refine aop 16 (fun hb1 => ?_) fun hb1 => ?_
 ·
  refine aQ tok 14 rfl ?_;refine an ?_;refine act ?_;refine asr ?_;refine aa 6 ?_;refine an ?_;refine agt ⟨[_], ⟨rfl, trivial⟩, ?_, rfl⟩
  refine bc ?_;refine (check_bad1 (fun h => ?_)).symm
  obtain ⟨q1, q2, q3⟩ := h
  simp_all [pathsAV, blocksAV]
 refine aQ tok 8 rfl ?_;refine aop 24 (fun hb2 => ?_) fun hb2 => ?_
 ·
  refine aQ tok 6 rfl ?_;refine an ?_;refine act ?_;refine asr ?_;refine aa 6 ?_;refine an ?_;refine agt ⟨[_], ⟨rfl, trivial⟩, ?_, rfl⟩
  refine bc ?_;refine (check_bad1 (fun h => ?_)).symm
  obtain ⟨q1, q2, q3⟩ := h
  simp_all [pathsAV, blocksAV]
 refine aQ tok 6 rfl ?_;refine an ?_;refine asp 30 (fun hb3 => ?_) fun hb3 => ?_
 ·
  refine act ?_;refine asr ?_;refine aa 6 ?_;refine an ?_;refine agt ⟨[_], ⟨rfl, trivial⟩, ?_, rfl⟩
  refine bc ?_;refine (check_bad1 (fun h => ?_)).symm
  obtain ⟨q1, q2, q3⟩ := h
  simp_all [pathsAV, blocksAV]
 refine acf ?_
 have h0 : paths.length ≠ 0 ∧ paths.length = new.blocks.length ∧ old.regs = new.regs := by simp_all [pathsAV, blocksAV] <;> omega
 refine agk ?_;refine asq ?_;refine asr ?_;refine aQ tok 3 rfl ?_;refine an ?_;refine AGo.block ?_;refine AGo.loopD (γ := Nat) 2 (fun k => ⟨104, (eput (eput (eput (eput (eput (eput eNew 2 (pathsAV paths)) 3 (.ptr 0 1 0 0)) 4 (.ptr 1 1 0 0)) 31 (pathsAV paths)) 32 (.int .i64 (paths.length : Int))) 33 (.int .i64 (k : Int))), (hput (hput (hFrom 2) 0 (.row false 2 [old.cells])) 1 (.row false 2 [new.cells]))⟩) (fun k => (paths.take k).all (pathIn old.blocks.length) = true) (fun k => paths.length - k) 0 (Sub.mk' z18q z9q) rfl (fun _ => hput_free (hput_free (fun b hb => hFrom_free hb) rfl) rfl) ?_
 intro k hF
 refine asr ?_;refine aqb ?_;refine an ?_;refine asq ?_;refine asp 34 (fun hb4 => ?_) fun hb4 => ?_
 ·
  refine act ?_
  have hkl : k < paths.length := by simpa using hb4
  obtain ⟨p, hp⟩ := get_of_lt hkl
  have hpp := hps p (List.mem_of_getElem? hp)
  refine agk ?_;refine asq ?_;refine AGo.block ?_;refine asr ?_;refine aq 35 (qil tok (idx_map hp)) ?_;refine aQ tok 2 rfl ?_;refine an ?_;refine asq ?_;refine asr ?_;refine aQ tok 3 rfl ?_;refine an ?_;refine asp 39 (fun hb5 => ?_) fun hb5 => ?_
  ·
   refine act ?_
   have hpe : (p.length == 0) = true := by have h := hb5; simp at h; simp [h]
   refine asr ?_;refine aa 6 ?_;refine an ?_;refine agt ⟨[_], ⟨rfl, trivial⟩, ?_, rfl⟩
   refine bc ?_;exact (check_bad2 (all_bad hp (by simp [pathIn, hpe]))).symm
  refine acf ?_
  have hpe : (p.length == 0) = false := by have h := hb5; simp at h; simp [h]
  refine agk ?_;refine asr ?_;refine aQ tok 3 rfl ?_;refine an ?_;refine AGo.block ?_;refine AGo.loopD (γ := Nat) 2 (fun j => ⟨104, (eput (eput (eput (eput (eput (eput (eput (eput (eput (eput eNew 2 (pathsAV paths)) 3 (.ptr 0 1 0 0)) 4 (.ptr 1 1 0 0)) 31 (pathsAV paths)) 32 (.int .i64 (paths.length : Int))) 33 (.int .i64 (k : Int))) 8 (intsAV p)) 40 (intsAV p)) 41 (.int .i64 (p.length : Int))) 42 (.int .i64 (j : Int))), (hput (hput (hFrom 2) 0 (.row false 2 [old.cells])) 1 (.row false 2 [new.cells]))⟩) (fun j => (p.take j).all (fun i => !(decide (i < 0)) && !(decide (i ≥ (old.blocks.length : Int)))) = true) (fun j => p.length - j) 0 (Sub.mk' z18q z9q) rfl (fun _ => hput_free (hput_free (fun b hb => hFrom_free hb) rfl) rfl) ?_
  intro j hG
  refine asr ?_;refine aqb ?_;refine an ?_;refine asq ?_;refine asp 43 (fun hb6 => ?_) fun hb6 => ?_
  ·
   refine act ?_
   have hjl : j < p.length := by simpa using hb6
   obtain ⟨y, hy⟩ := get_of_lt hjl
   refine agk ?_;refine asq ?_;refine AGo.block ?_;refine asr ?_;refine aq 44 (qil tok (idx_map hy)) ?_;refine aQ tok 2 rfl ?_;refine an ?_;refine asr ?_;refine aQ tok 3 rfl ?_;refine aop 48 (fun hb7 => ?_) fun hb7 => ?_
   ·
    refine aQ tok 6 rfl ?_;refine an ?_;refine act ?_;refine asr ?_;refine aa 6 ?_;refine an ?_;refine agt ⟨[_], ⟨rfl, trivial⟩, ?_, rfl⟩
    refine bc ?_;exact (check_bad2 (all_bad hp (by simp only [pathIn]; rw [all_bad (p := (fun i => !(decide (i < 0)) && !(decide (i ≥ (old.blocks.length : Int))))) hy (by simp_all [blocksAV])]; simp))).symm
   refine aQ tok 6 rfl ?_;refine an ?_;refine asp 54 (fun hb8 => ?_) fun hb8 => ?_
   ·
    refine act ?_;refine asr ?_;refine aa 6 ?_;refine an ?_;refine agt ⟨[_], ⟨rfl, trivial⟩, ?_, rfl⟩
    refine bc ?_;exact (check_bad2 (all_bad hp (by simp only [pathIn]; rw [all_bad (p := (fun i => !(decide (i < 0)) && !(decide (i ≥ (old.blocks.length : Int))))) hy (by simp_all [blocksAV])]; simp))).symm
   refine acf ?_;refine agk ?_;refine agr ?_;refine aq 55 (q_inc rfl rfl hjl (by simp only [maxLen]; omega)) ?_;refine am 42 ?_;refine an ?_;exact ⟨j+1, Drop.mk' z20q z14q, (all_succ hy hG (by simp_all [blocksAV])), by omega⟩
  refine acf ?_
  have hge2 : p.length ≤ j := by simpa using hb6
  refine AGo.exit ?_;refine agr ?_;refine aq 56 (q_inc rfl rfl hkl (by simp only [maxLen]; omega)) ?_;refine am 33 ?_;refine an ?_;exact ⟨k+1, Drop.mk' z20q z14q, (all_succ hp hF (by simp only [pathIn, hpe, Bool.not_false, Bool.true_and]; exact all_end hG hge2)), by omega⟩
 refine acf ?_
 have hge : paths.length ≤ k := by simpa using hb4
 have hall := all_end hF hge
 have hp00 := pathK_get (paths := paths) (k := 0) (by omega)
 have hp01 := headZ_get (pathIn_inF (List.all_eq_true.1 hall _ (List.mem_of_getElem? hp00))).1
 refine AGo.exit ?_;refine asq ?_;refine asr ?_;refine am 57 ?_;refine aq 58 (q_index_lst tok rfl rfl rfl rfl rfl rfl (by decide) (cs := pathCell (pathK paths 0)) (idx_mapZ hp00) rfl) ?_;refine al 59 tok ?_;refine aq 60 (q_index_lst tok rfl rfl rfl rfl rfl rfl (by decide) (cs := [.int .i64 (headZ (pathK paths 0))]) (by show (List.map (fun b => [AV.int .i64 b]) (pathK paths 0))[0]? = _; rw [List.getElem?_map, hp01]; rfl) rfl) ?_;refine aQ tok 2 rfl ?_;refine an ?_;refine asp 62 (fun hb9 => ?_) fun hb9 => ?_
 ·
  refine act ?_
  have hz := hb9
  refine asr ?_;refine aa 6 ?_;refine an ?_;refine agt ⟨[_], ⟨rfl, trivial⟩, ?_, rfl⟩
  refine bc ?_;exact (check_bad3 hz).symm
 refine acf ?_
 have hz := hb9
 refine agk ?_;refine asq ?_;refine asr ?_;refine aQ tok 3 rfl ?_;refine an ?_;refine AGo.block ?_;refine AGo.loopD (γ := Nat) 2 (fun k => ⟨104, (eput (eput (eput (eput (eput (eput eNew 2 (pathsAV paths)) 3 (.ptr 0 1 0 0)) 4 (.ptr 1 1 0 0)) 63 (pathsAV paths)) 64 (.int .i64 (paths.length : Int))) 65 (.int .i64 (k : Int))), (hput (hput (hFrom 2) 0 (.row false 2 [old.cells])) 1 (.row false 2 [new.cells]))⟩) (fun k => (paths.zipIdx.take k).all (stepB old new paths) = true) (fun k => paths.length - k) 0 (Sub.mk' z18q z9q) rfl (fun _ => hput_free (hput_free (fun b hb => hFrom_free hb) rfl) rfl) ?_
 intro k hS
 refine asr ?_;refine aqb ?_;refine an ?_;refine asq ?_;refine asp 66 (fun hb10 => ?_) fun hb10 => ?_
 ·
  refine act ?_
  have hkl : k < paths.length := by simpa using hb10
  obtain ⟨p, hp⟩ := get_of_lt hkl
  have hpp := hps p (List.mem_of_getElem? hp)
  have hpin := pathIn_inF (List.all_eq_true.1 hall p (List.mem_of_getElem? hp))
  have hnb : new.blocks[((k : Nat) : Int).toNat]? = some (new.blockAt k) := blockAt_get (by omega)
  have hlast := hpin.2 _ (last_mem hpin.1)
  refine agk ?_;refine asq ?_;refine AGo.block ?_;refine asr ?_;refine am 67 ?_;refine aq 68 (qil tok (idx_map hp)) ?_;refine aQ tok 3 rfl ?_;refine an ?_;refine asq ?_;refine asq ?_;refine AGo.draw mix ?_;refine dQ tok 2 rfl ?_;refine dx 72 (opu Tryz.func145 (follows_ok old p hpin hpp)) ?_;refine dQ tok 2 rfl ?_;refine DOps.split 74 rfl (fun hb11 => ?_) (fun hb11 => ?_)
  ·
   refine dQ tok 10 rfl ?_;refine DOps.nil (by kernel_rfl) ?_;refine act ?_;refine asr ?_;refine aa 6 ?_;refine an ?_;refine agt ⟨[_], ⟨rfl, trivial⟩, ?_, rfl⟩
   refine bc ?_;exact (check_bad4 (all_bad (zipIdx_get hp) (by simp_all [stepB]))).symm
  refine dQ tok 4 rfl ?_;refine dq 79 (q_index_lst tok rfl rfl rfl rfl rfl rfl (Int.natCast_nonneg _) (cs := (new.blockAt k).cells) (idx_mapZ hnb) rfl) ?_;refine dQ tok 2 rfl ?_;refine dx 82 (opu Tryz.func146 (made_ok old (new.blockAt k) p hpin hpp (hnl _ (List.mem_of_getElem? hnb)))) ?_;refine dQ tok 2 rfl ?_;refine DOps.nil (by kernel_rfl) ?_;refine asp 84 (fun hb12 => ?_) fun hb12 => ?_
  ·
   refine act ?_;refine asr ?_;refine aa 6 ?_;refine an ?_;refine agt ⟨[_], ⟨rfl, trivial⟩, ?_, rfl⟩
   refine bc ?_;exact (check_bad4 (all_bad (zipIdx_get hp) (by simp_all [stepB]))).symm
  refine acf ?_;refine agk ?_;refine asq ?_;refine AGo.draw mix ?_;refine dQ tok 5 rfl ?_;refine dq 90 (q_bin (r := .int .i64 ((p.length - 1 : Nat) : Int)) rfl rfl rfl (by rw [List.length_map]; exact len_pred (List.length_pos_iff.2 hpin.1) (by omega))) ?_;refine dq 91 (q_index_lst tok rfl rfl rfl rfl rfl rfl (Int.natCast_nonneg _) (cs := [.int .i64 (lastOf p)]) (by show (List.map (fun b => [AV.int .i64 b]) p)[_]? = _; rw [Int.toNat_natCast, List.getElem?_map, last_get hpin.1]; rfl) rfl) ?_;refine dl 92 tok ?_;refine dq 93 (q_index_lst tok rfl rfl rfl rfl rfl rfl hlast.1 (idx_mapZ (blockAt_get hlast)) rfl) ?_;refine dQ tok 4 rfl ?_;refine dq 98 (q_index_lst tok rfl rfl rfl rfl rfl rfl (Int.natCast_nonneg _) (cs := (new.blockAt k).cells) (idx_mapZ hnb) rfl) ?_;refine dQ tok 2 rfl ?_;refine dx 101 (opu Tryz.func147 (leads_ok (old.blockAt (lastOf p)) (new.blockAt k) paths (fun p hp => (pathIn_inF (List.all_eq_true.1 hall p hp)).1))) ?_
  refine dq 102 (q_not rfl rfl) ?_;refine DOps.nil (by kernel_rfl) ?_;refine asp 102 (fun hb13 => ?_) fun hb13 => ?_
  ·
   refine act ?_;refine asr ?_;refine aa 6 ?_;refine an ?_;refine agt ⟨[_], ⟨rfl, trivial⟩, ?_, rfl⟩
   refine bc ?_;exact (check_bad4 (all_bad (zipIdx_get hp) (by simp_all [stepB]))).symm
  refine acf ?_;refine agk ?_;refine agr ?_;refine aq 103 (q_inc rfl rfl hkl (by simp only [maxLen]; omega)) ?_;refine am 65 ?_;refine an ?_;exact ⟨k+1, Drop.mk' z20q z14q, (all_succ (zipIdx_get hp) hS (by simp_all [stepB])), by omega⟩
 refine acf ?_
 have hge3 : paths.length ≤ k := by simpa using hb10
 refine AGo.exit ?_;refine asr ?_;refine aa 6 ?_;refine an ?_;refine agt ⟨[_], ⟨rfl, trivial⟩, ?_, rfl⟩
 refine bc ?_;exact (check_good h0.1 h0.2.1 h0.2.2 hall hz (all_end hS (by rw [List.length_zipIdx]; exact hge3))).symm
theorem pass_ok {f : BFunc} {p : OPass} (hf : I35 f) (hp : P35 p) (hk : kind35 p.kind = true) : HoldsOk p f :=
  holdsOk_of hk (vcheck_ok f p.f hf.n hp.f.n hf.i hp.f.i p.cert) (check_ok f p.f p.paths (fun x hx => Nat.le_trans (hp.f.i x hx).1 (by decide)) (Nat.le_trans hp.n (by decide)) (fun q hq => Nat.le_trans (hp.q q hq) (by decide)))
theorem checkL_ok (a b : Blocks) (ls : List (List OPass)) (ha : a.funcs.length ≤ 1048576) (hI : ∀ f ∈ a.funcs, I35 f) (hl : ∀ l ∈ ls, l.length ≤ 1048576 ∧ ∀ p ∈ l, P35 p) : APure Tryz.prog 18 [.agg a.cells, .agg b.cells, listAV ls] (fun r => r = .bool (ocheck a b ls)) :=
  check35_ok a b ls ha (fun _ _ f hf g hg l h => leads35_ok f g l (hl l h).1 I35 (hI f hf) (fun _ h => h.lim) (fun p hp => ⟨((hl l h).2 p hp).f, fun x hx hk => pass_ok hx ((hl l h).2 p hp) hk⟩))
theorem i35_tiny : I35 tinyA ∧ I35 tinyB ∧ I35 tinyC := by
  refine ⟨⟨by decide, fun x hx t ht => ?_⟩, ⟨by decide, fun x hx t ht => ?_⟩, ⟨by decide, fun x hx t ht => ?_⟩⟩ <;> (first | simp only [tinyA, List.mem_singleton] at hx | simp only [tinyB, List.mem_singleton] at hx | simp only [tinyC, List.mem_singleton] at hx) <;> subst hx <;> simp only [List.mem_cons, List.not_mem_nil, or_false] at ht <;> rcases ht with rfl | rfl | rfl | rfl <;> exact ⟨by decide, by decide⟩
theorem vlog_ok : LogOk Tryz.prog vlog := by
  obtain ⟨h1, h2, h3⟩ := i35_tiny
  exact logOk_cons ((vcheck_ok tinyB tinyC h2.n h3.n h2.i h3.i certF).mono fun r h => by rw [h]; rfl) <| logOk_cons ((vcheck_ok tinyB tinyB h2.n h2.n h2.i h2.i certT).mono fun r h => by rw [h]; rfl) <| logOk_cons ((vcheck_ok tinyA tinyB h1.n h2.n h1.i h2.i certT).mono fun r h => by rw [h]; rfl) (logOk_nil _)
theorem bits_ok0 (a : Nat) (ha : a < 4294967296) : ACall Tryz.prog 101 [.int .u32 (a : Int)] (hput hNew 0 .free) (fun r h' => r = .ref 0 32 0 32 ∧ HSub (hput hNone 0 (.row true 1 (natCells (bitsN a 32)))) h') := by
 refine ACall.of_body (n := 18) tok Tryz.func101 rfl rfl ?_;refine asr ?_;refine aa 2 ?_;refine an ?_;refine asr ?_;refine aa 3 ?_;refine an ?_;refine asq ?_;refine asq ?_;refine AGo.ghost (.dry 3 0 1 true rfl rfl rfl (by decide)) ?_;refine agr ?_;refine aa 4 ?_;refine an ?_;refine AGo.block ?_;refine AGo.loopI (γ := Nat) (fun k => ⟨18, (eput (eput (eput eNew 0 (.int .u32 ((a / 2 ^ k : Nat) : Int))) 3 (.ref 0 k 0 k)) 4 (.int .i64 (k : Int))), (hput hNone 0 (.row true 1 (natCells (bitsN a k))))⟩) (fun k => k ≤ 32) (fun k => 32 - k) 0 (Sub.mk' (by repeat (first | exact ESub.new _ | refine ESub.put ?_ (by first | rfl | exact congrArg (fun (n : Nat) => some (AV.int .u32 (n : Int))) (by simp)))) z9q) (Nat.zero_le _) ?_
 intro k hk
 refine asq ?_;refine asr ?_;refine aQ tok 2 rfl ?_;refine an ?_;refine asp 6 (fun hb1 => ?_) fun hb1 => ?_
 ·
  refine act ?_
  have hkl : k < 32 := by have h := hb1; simp at h; omega
  have hle : a / 2 ^ k ≤ a := Nat.div_le_self _ _
  refine agk ?_;refine asq ?_;refine AGo.block ?_;refine asr ?_;refine aQ tok 2 rfl ?_;refine aq 11 (q_bin (r := .int .u32 ((a / 2 ^ k % 2 : Nat) : Int)) rfl rfl rfl (ebin_rem (a := a / 2 ^ k) (b := 2) (by decide))) ?_;refine aq 12 (q_convSame tok rfl rfl rfl rfl rfl (wrapN_i64 (by omega))) ?_;refine ax 13 (o_lit' tok rfl rfl rfl rfl rfl rfl (by decide) rfl rfl rfl rfl rfl rfl) ?_;refine ax 14 (o_append tok (n := k) (m := 1) rfl rfl rfl rfl rfl rfl rfl rfl rfl (by simp [natCells_len, bitsN_length]) rfl rfl (Nat.zero_lt_succ _) (.lst _ _) (by intro cs h; simp [partVals] at h; subst h; rfl) (fun _ cs h => by simp [partVals] at h; subst h; rfl) rfl (by simp [natCells_len, bitsN_length, partVals]; show _ * 8 ≤ _; omega) (by simp [natCells_len, bitsN_length, partVals]; simp only [maxLen]; omega)) ?_
  refine aa 3 ?_;refine an ?_;refine agr ?_;refine am 15 ?_;refine aq 16 (q_bin (r := .int .u32 ((a / 2 ^ k / 2 : Nat) : Int)) rfl rfl rfl (ebin_quo (a := a / 2 ^ k) (b := 2) (by decide) (wrapN_u32 (by omega)))) ?_;refine aa 0 ?_;refine an ?_;refine agr ?_;refine am 7 ?_;refine aq 8 (q_inc rfl rfl hkl (show 32 ≤ maxLen by decide)) ?_
  refine aa 4 ?_;refine an ?_;exact ⟨k+1, Sub.mk' (by repeat (first | exact ESub.new _ | refine ESub.put ?_ (by first | rfl | exact congrArg (fun (n : Nat) => some (AV.int .u32 (n : Int))) (by rw [Nat.div_div_eq_div_mul, Nat.pow_succ])))) z5q, hkl, by omega⟩
 refine acf ?_
 have hge : ¬ k < 32 := by have h := hb1; simp at h; omega
 refine AGo.exit ?_;refine asq ?_
 obtain rfl : k = 32 := by omega
 refine agr ?_;refine aQ tok 2 rfl ?_;refine an ?_;refine agt ?_;refine ⟨[_], ⟨rfl, trivial⟩, rfl, HSub.put (HSub.none _) rfl⟩
theorem bits_ok1 (a : Nat) (ha : a < 4294967296) : ACall Tryz.prog 101 [.int .u32 (a : Int)] (hput hNew 1 .free) (fun r h' => r = .ref 1 32 0 32 ∧ HSub (hput hNone 1 (.row true 1 (natCells (bitsN a 32)))) h') := by
 refine ACall.of_body (n := 18) tok Tryz.func101 rfl rfl ?_;refine asr ?_;refine aa 2 ?_;refine an ?_;refine asr ?_;refine aa 3 ?_;refine an ?_;refine asq ?_;refine asq ?_;refine AGo.ghost (.dry 3 1 1 true rfl rfl rfl (by decide)) ?_;refine agr ?_;refine aa 4 ?_;refine an ?_;refine AGo.block ?_;refine AGo.loopI (γ := Nat) (fun k => ⟨18, (eput (eput (eput eNew 0 (.int .u32 ((a / 2 ^ k : Nat) : Int))) 3 (.ref 1 k 0 k)) 4 (.int .i64 (k : Int))), (hput hNone 1 (.row true 1 (natCells (bitsN a k))))⟩) (fun k => k ≤ 32) (fun k => 32 - k) 0 (Sub.mk' (by repeat (first | exact ESub.new _ | refine ESub.put ?_ (by first | rfl | exact congrArg (fun (n : Nat) => some (AV.int .u32 (n : Int))) (by simp)))) z9q) (Nat.zero_le _) ?_
 intro k hk
 refine asq ?_;refine asr ?_;refine aQ tok 2 rfl ?_;refine an ?_;refine asp 6 (fun hb1 => ?_) fun hb1 => ?_
 ·
  refine act ?_
  have hkl : k < 32 := by have h := hb1; simp at h; omega
  have hle : a / 2 ^ k ≤ a := Nat.div_le_self _ _
  refine agk ?_;refine asq ?_;refine AGo.block ?_;refine asr ?_;refine aQ tok 2 rfl ?_;refine aq 11 (q_bin (r := .int .u32 ((a / 2 ^ k % 2 : Nat) : Int)) rfl rfl rfl (ebin_rem (a := a / 2 ^ k) (b := 2) (by decide))) ?_;refine aq 12 (q_convSame tok rfl rfl rfl rfl rfl (wrapN_i64 (by omega))) ?_;refine ax 13 (o_lit' tok rfl rfl rfl rfl rfl rfl (by decide) rfl rfl rfl rfl rfl rfl) ?_;refine ax 14 (o_append tok (n := k) (m := 1) rfl rfl rfl rfl rfl rfl rfl rfl rfl (by simp [natCells_len, bitsN_length]) rfl rfl (Nat.zero_lt_succ _) (.lst _ _) (by intro cs h; simp [partVals] at h; subst h; rfl) (fun _ cs h => by simp [partVals] at h; subst h; rfl) rfl (by simp [natCells_len, bitsN_length, partVals]; show _ * 8 ≤ _; omega) (by simp [natCells_len, bitsN_length, partVals]; simp only [maxLen]; omega)) ?_
  refine aa 3 ?_;refine an ?_;refine agr ?_;refine am 15 ?_;refine aq 16 (q_bin (r := .int .u32 ((a / 2 ^ k / 2 : Nat) : Int)) rfl rfl rfl (ebin_quo (a := a / 2 ^ k) (b := 2) (by decide) (wrapN_u32 (by omega)))) ?_;refine aa 0 ?_;refine an ?_;refine agr ?_;refine am 7 ?_;refine aq 8 (q_inc rfl rfl hkl (show 32 ≤ maxLen by decide)) ?_
  refine aa 4 ?_;refine an ?_;exact ⟨k+1, Sub.mk' (by repeat (first | exact ESub.new _ | refine ESub.put ?_ (by first | rfl | exact congrArg (fun (n : Nat) => some (AV.int .u32 (n : Int))) (by rw [Nat.div_div_eq_div_mul, Nat.pow_succ])))) z5q, hkl, by omega⟩
 refine acf ?_
 have hge : ¬ k < 32 := by have h := hb1; simp at h; omega
 refine AGo.exit ?_;refine asq ?_
 obtain rfl : k = 32 := by omega
 refine agr ?_;refine aQ tok 2 rfl ?_;refine an ?_;refine agt ?_;refine ⟨[_], ⟨rfl, trivial⟩, rfl, HSub.put (HSub.none _) rfl⟩
theorem bitsOf_ok (l : List Nat) (hl : l.length = 32) (hb : ∀ b ∈ l, b < 2) : APure Tryz.prog 102 [.lst false (natCells l)] (fun r => r = .int .u32 (valB l : Int)) := by
 refine APure.of_body (n := 23) tok Tryz.func102 rfl rfl ?_;refine asr ?_;refine aa 2 ?_;refine an ?_;refine asr ?_;refine aa 3 ?_;refine an ?_;refine asq ?_;refine asr ?_;refine aQ tok 2 rfl ?_;refine aq 7 (q_bin (r := .int .i64 (31 : Int)) rfl rfl rfl (by rw [natCells_len, hl]; rfl)) ?_;refine aa 4 ?_;refine an ?_;refine AGo.block ?_;refine AGo.loopI (γ := Nat) (fun k => ⟨23, (eput (eput (eput eNew 0 (.lst false (natCells l))) 3 (.int .u64 ((valB (l.drop k) : Nat) : Int))) 4 (.int .i64 ((k : Int) - 1))), hNone⟩) (fun k => k ≤ 32) (fun k => k) 32 (Sub.mk' (by repeat (first | exact ESub.new _ | refine ESub.put ?_ (by first | rfl | exact congrArg (fun (n : Nat) => some (AV.int .u64 (n : Int))) (by rw [List.drop_eq_nil_of_le (by omega)]; rfl)))) z9q) (Nat.le_refl _) ?_
 intro k hk
 refine asq ?_;refine asr ?_;refine aQ tok 2 rfl ?_;refine an ?_;refine asp 9 (fun hb1 => ?_) fun hb1 => ?_
 ·
  refine act ?_
  obtain ⟨m, rfl⟩ : ∃ m, k = m + 1 := ⟨k - 1, by have h := hb1; simp at h; omega⟩
  obtain ⟨b, hx⟩ := get_of_lt (l := l) (k := m) (by omega)
  have hb2 := hb b (List.mem_of_getElem? hx)
  have hv := valB_drop_lt hl hb (m + 1)
  have hv2 := valB_drop hx
  refine agk ?_;refine asq ?_;refine AGo.block ?_;refine agr ?_;refine am 12 ?_;refine aq 13 (q_bin (r := .int .u64 ((2 * valB (l.drop (m + 1)) : Nat) : Int)) rfl rfl rfl (ebin_mul (a := 2) (b := valB (l.drop (m + 1))) (wrapN_u64 (by omega)))) ?_;refine aQ tok 2 rfl ?_;refine aq 16 (q_index_lst tok rfl rfl rfl rfl rfl rfl (by omega) (cs := [.int .i64 (b : Int)]) (by rw [show (((m + 1 : Nat) : Int) - 1).toNat = m by omega]; show (natCells l)[m]? = _; rw [natCells, List.getElem?_map, hx]; rfl) rfl) ?_
  refine al 17 tok ?_;refine aq 18 (q_convSame tok rfl rfl rfl rfl rfl (wrapN_u64 (by omega))) ?_;refine aq 19 (q_bin (r := .int .u64 ((2 * valB (l.drop (m + 1)) + b : Nat) : Int)) rfl rfl rfl (ebin_add (wrapN_u64 (by omega)))) ?_;refine aa 3 ?_;refine an ?_;refine agr ?_;refine am 10 ?_;refine aq 11 (q_bin (r := .int .i64 ((m : Int) - 1)) rfl rfl rfl (by simp only [evalBin, evalInt, isShift, cond_false, if_true]; rw [wrap_i64 (by omega) (by omega)]; congr 2; omega)) ?_;refine aa 4 ?_;refine an ?_;exact ⟨m, Sub.mk' (by repeat (first | exact ESub.new _ | refine ESub.put ?_ (by first | rfl | exact congrArg (fun (n : Nat) => some (AV.int .u64 (n : Int))) (by omega)))) z9q, (by omega), by omega⟩
 refine acf ?_
 obtain rfl : k = 0 := by have h := hb1; simp at h; omega
 refine AGo.exit ?_;refine asr ?_;refine am 20 ?_;refine aq 21 (q_bin (r := .int .u64 ((valB (l.drop 0) % 4294967296 : Nat) : Int)) rfl rfl rfl (ebin_rem (a := valB (l.drop 0)) (b := 4294967296) (by decide))) ?_;refine aq 22 (q_convSame tok rfl rfl rfl rfl rfl (wrapN_u32 (Nat.mod_lt _ (by decide)))) ?_;refine aa 2 ?_;refine an ?_;refine agt ⟨[_], ⟨rfl, trivial⟩, ?_, rfl⟩
 show AV.int .u32 _ = _
 rw [Nat.mod_eq_of_lt (valB_drop_lt hl hb 0), List.drop_zero]
theorem both_ok (op : Int) (a b : Nat) (ha : a < 4294967296) (hb : b < 4294967296) : APure Tryz.prog 93 [.int .i64 op, .int .u32 (a : Int), .int .u32 (b : Int)] (fun r => r = .int .u32 (valB (bothN op a b) : Int)) := by
 refine APure.of_body (n := 50) tok Tryz.func93 rfl rfl ?_;refine asr ?_;refine aa 6 ?_;refine an ?_;refine asr ?_;refine am 11 ?_;refine ax 12 (oct (bits_ok0 a ha) [0] [(0, (.row true 1 (natCells (bitsN a 32))))] rfl Tryz.func101 (by kernel_rfl) rfl rfl rfl ⟨⟨_, rfl, rfl⟩, trivial⟩ rfl (hres_cons rfl (hres_nil _)) ⟨⟨_, rfl, rfl, rfl⟩, trivial⟩ rfl) ?_;refine am 13 ?_;refine ax 14 (oct (bits_ok1 b hb) [1] [(1, (.row true 1 (natCells (bitsN b 32))))] rfl Tryz.func101 (by kernel_rfl) rfl rfl rfl ⟨⟨_, rfl, rfl⟩, trivial⟩ rfl (hres_cons rfl (hres_nil _)) ⟨⟨_, rfl, rfl, rfl⟩, trivial⟩ rfl) ?_;refine aQ tok 2 rfl ?_;refine an ?_;refine asq ?_;refine asr ?_;refine aa 9 ?_;refine an ?_;refine AGo.block ?_;refine AGo.loopI (γ := Nat) (fun k => ⟨50, (eput (eput (eput (eput eNew 0 (.int .i64 op)) 7 (.ref 0 32 0 32)) 8 (.ref 1 32 0 32)) 9 (.int .i64 (k : Int))), (hput (hput hNone 0 (.row true 1 (natCells (mixB op a b k)))) 1 (.row true 1 (natCells (bitsN b 32))))⟩) (fun k => k ≤ 32) (fun k => 32 - k) 0 (Sub.mk' z29q (by repeat (first | exact HSub.refl _ | exact HSub.none _ | exact HSub.from_new _ | exact HSub.from_from z37q | refine HSub.put ?_ (by first | rfl | exact congrArg (fun l => some (AObj.row true 1 (natCells l))) (mixB_zero op a b).symm) | refine HSub.from_put ?_ z37q | refine HSub.from_rm ?_ (by decide)))) (Nat.zero_le _) ?_
 intro k hk
 refine asq ?_;refine asr ?_;refine aQ tok 2 rfl ?_;refine an ?_;refine asp 16 (fun hb1 => ?_) fun hb1 => ?_
 ·
  refine act ?_
  have hkl : k < 32 := by have h := hb1; simp at h; omega
  refine agk ?_;refine asq ?_;refine AGo.block ?_;refine asq ?_;refine AGo.draw mix ?_;refine dQ tok 2 rfl ?_;refine dq 21 (q_index_ref tok rfl rfl rfl rfl rfl rfl rfl (by simp [natCells_len, mixB_length (Nat.le_of_lt hkl), bitsN_length]) rfl (Int.natCast_nonneg _) (by omega)) ?_;refine dq 22 (q_load tok rfl rfl rfl (.ptr _ _ _ _ _ _ _ _ rfl z32q (natCells_get (mixB_get hkl))) rfl) ?_;refine dQ tok 2 rfl ?_;refine dq 25 (q_index_ref tok rfl rfl rfl rfl rfl rfl rfl (by simp [natCells_len, mixB_length (Nat.le_of_lt hkl), bitsN_length]) rfl (Int.natCast_nonneg _) (by omega)) ?_;refine dq 26 (q_load tok rfl rfl rfl (.ptr _ _ _ _ _ _ _ _ rfl (by simp [natCells_len, bitsN_length]) (natCells_get (bitsN_get hkl))) rfl) ?_;refine dq 27 (q_bin (r := .int .i64 ((a / 2 ^ k % 2 + b / 2 ^ k % 2 : Nat) : Int)) rfl rfl rfl (ebin_add (wrapN_i64 (by omega)))) ?_;refine da 10 ?_;refine DOps.nil (by kernel_rfl) ?_
  refine asr ?_;refine aQ tok 2 rfl ?_;refine aq 30 (q_index_ref tok rfl rfl rfl rfl rfl rfl rfl (by simp [natCells_len, mixB_length (Nat.le_of_lt hkl), bitsN_length]) rfl (Int.natCast_nonneg _) (by omega)) ?_;refine AOps.w rfl rfl (o_store tok rfl rfl rfl rfl rfl rfl z32q (natCells_get (mixB_get hkl)) rfl (by decide) rfl z33q) ?_;refine an ?_;refine asr ?_;refine aQ tok 3 rfl ?_;refine aop 33 (fun hb2 => ?_) fun hb2 => ?_
  ·
   refine aQ tok 4 rfl ?_;refine aop 37 (fun hb3 => ?_) fun hb3 => ?_
   ·
    refine aQ tok 7 rfl ?_;refine an ?_;refine act ?_;refine agr ?_;refine aQ tok 2 rfl ?_;refine aq 47 (q_index_ref tok rfl rfl rfl rfl rfl rfl rfl z32q rfl (Int.natCast_nonneg _) (by omega)) ?_;refine AOps.w rfl rfl (o_store tok rfl rfl rfl rfl rfl rfl z32q (get_set_self (natCells_get (mixB_get hkl))) rfl (by decide) rfl z33q) ?_;refine an ?_;refine agr ?_;refine am 17 ?_;refine aq 18 (q_inc rfl rfl hkl (show 32 ≤ maxLen by decide)) ?_
    refine aa 9 ?_;refine an ?_;exact ⟨k+1, Sub.mk' z29q z0q, hkl, by omega⟩
   refine aQ tok 3 rfl ?_;refine aop 40 (fun hb4 => ?_) fun hb4 => ?_
   ·
    refine aQ tok 4 rfl ?_;refine an ?_;refine asp 44 (fun hb5 => ?_) fun hb5 => ?_
    ·
     refine act ?_;refine agr ?_;refine aQ tok 2 rfl ?_;refine aq 47 (q_index_ref tok rfl rfl rfl rfl rfl rfl rfl z32q rfl (Int.natCast_nonneg _) (by omega)) ?_;refine AOps.w rfl rfl (o_store tok rfl rfl rfl rfl rfl rfl z32q (get_set_self (natCells_get (mixB_get hkl))) rfl (by decide) rfl z33q) ?_;refine an ?_;refine agr ?_;refine am 17 ?_;refine aq 18 (q_inc rfl rfl hkl (show 32 ≤ maxLen by decide)) ?_
     refine aa 9 ?_;refine an ?_;exact ⟨k+1, Sub.mk' z29q z0q, hkl, by omega⟩
    refine acf ?_;refine agk ?_;refine agr ?_;refine am 17 ?_;refine aq 18 (q_inc rfl rfl hkl (show 32 ≤ maxLen by decide)) ?_
    refine aa 9 ?_;refine an ?_;exact ⟨k+1, Sub.mk' z29q z0q, hkl, by omega⟩
   refine aQ tok 4 rfl ?_;refine an ?_;refine acf ?_;refine agk ?_;refine agr ?_;refine am 17 ?_;refine aq 18 (q_inc rfl rfl hkl (show 32 ≤ maxLen by decide)) ?_
   refine aa 9 ?_;refine an ?_;exact ⟨k+1, Sub.mk' z29q z0q, hkl, by omega⟩
  refine aQ tok 7 rfl ?_;refine aop 40 (fun hb6 => ?_) fun hb6 => ?_
  ·
   refine aQ tok 4 rfl ?_;refine an ?_;refine asp 44 (fun hb7 => ?_) fun hb7 => ?_
   ·
    refine act ?_;refine agr ?_;refine aQ tok 2 rfl ?_;refine aq 47 (q_index_ref tok rfl rfl rfl rfl rfl rfl rfl z32q rfl (Int.natCast_nonneg _) (by omega)) ?_;refine AOps.w rfl rfl (o_store tok rfl rfl rfl rfl rfl rfl z32q (get_set_self (natCells_get (mixB_get hkl))) rfl (by decide) rfl z33q) ?_;refine an ?_;refine agr ?_;refine am 17 ?_;refine aq 18 (q_inc rfl rfl hkl (show 32 ≤ maxLen by decide)) ?_
    refine aa 9 ?_;refine an ?_;exact ⟨k+1, Sub.mk' z29q z0q, hkl, by omega⟩
   refine acf ?_;refine agk ?_;refine agr ?_;refine am 17 ?_;refine aq 18 (q_inc rfl rfl hkl (show 32 ≤ maxLen by decide)) ?_
   refine aa 9 ?_;refine an ?_;exact ⟨k+1, Sub.mk' z29q z0q, hkl, by omega⟩
  refine aQ tok 4 rfl ?_;refine an ?_;refine acf ?_;refine agk ?_;refine agr ?_;refine am 17 ?_;refine aq 18 (q_inc rfl rfl hkl (show 32 ≤ maxLen by decide)) ?_
  refine aa 9 ?_;refine an ?_;exact ⟨k+1, Sub.mk' z29q z0q, hkl, by omega⟩
 refine acf ?_
 have hge : ¬ k < 32 := by have h := hb1; simp at h; omega
 obtain rfl : k = 32 := by omega
 rw [mixB_end]
 refine AGo.exit ?_;refine asq ?_;refine AGo.ghost (.freezeAll 7 0 rfl rfl (by simp [natCells_len, bothN_length])) ?_;refine agr ?_;refine am 48 ?_;refine ax 49 (opu Tryz.func102 (bitsOf_ok _ (bothN_length _ _ _) (bothN_lt _ _ _))) ?_;refine aa 6 ?_;refine an ?_;refine agt ⟨[_], ⟨rfl, trivial⟩, ?_, rfl⟩
 rfl
theorem rshift_ok (op : Int) (a b : Nat) (ha : a < 4294967296) (hb : b < 4294967296) (ho : op = 12 ∨ op = 13) : APure Tryz.prog 94 [.int .i64 op, .int .u32 (a : Int), .int .u32 (b : Int)] (fun r => r = .int .u32 (wshift op a b)) := by
 refine APure.of_body (n := 27) tok Tryz.func94 rfl rfl ?_;refine asr ?_;refine aa 6 ?_;refine an ?_;refine asq ?_;refine asr ?_;refine aQ tok 2 rfl ?_;refine an ?_;refine asp 10 (fun hb1 => ?_) fun hb1 => ?_
 ·
  refine act ?_
  have hb32 : 32 ≤ b := by have h := hb1; simp at h; omega
  refine asr ?_;refine aa 6 ?_;refine an ?_;refine agt ⟨[_], ⟨rfl, trivial⟩, ?_, rfl⟩
  show AV.int .u32 _ = _
  rw [wshift_big op hb32]
 refine acf ?_
 have hb32 : b < 32 := by have h := hb1; simp at h; omega
 refine agk ?_;refine asr ?_;refine am 11 ?_;refine aq 12 (q_convSame tok rfl rfl rfl rfl rfl (wrapN_u64 (by omega))) ?_;refine aa 7 ?_;refine an ?_;refine asq ?_;refine asr ?_;refine aa 8 ?_;refine an ?_;refine AGo.block ?_;refine AGo.loopI (γ := Nat) (fun k => ⟨27, (eput (eput (eput (eput eNew 0 (.int .i64 op)) 2 (.int .u32 (b : Int))) 7 (.int .u64 ((shN op a k : Nat) : Int))) 8 (.int .u32 (k : Int))), hNone⟩) (fun k => k ≤ b) (fun k => b - k) 0 (Sub.mk' z29q z9q) (Nat.zero_le _) ?_
 intro k hk
 refine asq ?_;refine asr ?_;refine aQ tok 3 rfl ?_;refine an ?_;refine asp 15 (fun hb2 => ?_) fun hb2 => ?_
 ·
  refine act ?_
  have hkl : k < b := by have h := hb2; simp at h; omega
  have hlt := shN_lt (op := op) ha k
  refine agk ?_;refine asq ?_;refine AGo.block ?_;refine asr ?_;refine aQ tok 2 rfl ?_;refine an ?_;refine asp 19 (fun hb3 => ?_) fun hb3 => ?_
  ·
   refine act ?_;refine agr ?_;refine am 20 ?_;refine aq 21 (q_bin (r := .int .u64 ((2 * shN op a k : Nat) : Int)) rfl rfl rfl (ebin_mul (a := 2) (b := shN op a k) (wrapN_u64 (by omega)))) ?_;refine aq 22 (q_bin (r := .int .u64 ((2 * shN op a k % 4294967296 : Nat) : Int)) rfl rfl rfl (ebin_rem (a := 2 * shN op a k) (b := 4294967296) (by decide))) ?_;refine aa 7 ?_;refine an ?_;refine agr ?_;refine am 16 ?_;refine aq 17 (q_bin (r := .int .u32 ((k + 1 : Nat) : Int)) rfl rfl rfl (ebin_add (b := 1) (wrapN_u32 (by omega)))) ?_;refine aa 8 ?_;refine an ?_;exact ⟨k+1, Sub.mk' (by repeat (first | exact ESub.new _ | refine ESub.put ?_ (by first | rfl | exact congrArg (fun (n : Nat) => some (AV.int .u64 (n : Int))) (by simp only [shN, *, cond_true, cond_false])))) z9q, hkl, by omega⟩
  refine acf ?_;refine agr ?_;refine am 23 ?_;refine aq 24 (q_bin (r := .int .u64 ((shN op a k / 2 : Nat) : Int)) rfl rfl rfl (ebin_quo (a := shN op a k) (b := 2) (by decide) (wrapN_u64 (by omega)))) ?_;refine aa 7 ?_;refine an ?_;refine agr ?_;refine am 16 ?_;refine aq 17 (q_bin (r := .int .u32 ((k + 1 : Nat) : Int)) rfl rfl rfl (ebin_add (b := 1) (wrapN_u32 (by omega)))) ?_;refine aa 8 ?_;refine an ?_;exact ⟨k+1, Sub.mk' (by repeat (first | exact ESub.new _ | refine ESub.put ?_ (by first | rfl | exact congrArg (fun (n : Nat) => some (AV.int .u64 (n : Int))) (by simp only [shN, *, cond_true, cond_false])))) z9q, hkl, by omega⟩
 refine acf ?_
 obtain rfl : k = b := by have h := hb2; simp at h; omega
 refine AGo.exit ?_;refine asr ?_;refine am 25 ?_;refine aq 26 (q_convSame tok rfl rfl rfl rfl rfl (wrapN_u32 (shN_lt ha _))) ?_;refine aa 6 ?_;refine an ?_;refine agt ⟨[_], ⟨rfl, trivial⟩, ?_, rfl⟩
 show AV.int .u32 _ = _
 rw [wshift_small ha hb32 ho]
theorem flag_ok (ok : Bool) : APure Tryz.prog 95 [.bool ok] (fun r => r = .int .u32 (bif ok then 1 else 0)) := by
 refine APure.of_body (n := 4) tok Tryz.func95 rfl rfl ?_;refine asr ?_;refine aa 2 ?_;refine an ?_;refine asq ?_;refine asr ?_;refine am 3 ?_;refine an ?_;refine asp 3 (fun hb1 => ?_) fun hb1 => ?_
 ·
  refine act ?_;refine asr ?_;refine aa 2 ?_;refine an ?_;refine agt ⟨[_], ⟨rfl, trivial⟩, ?_, rfl⟩
  show AV.int .u32 _ = _
  simp [*]
 refine acf ?_;refine agk ?_;refine asr ?_;refine aa 2 ?_;refine an ?_;refine agt ⟨[_], ⟨rfl, trivial⟩, ?_, rfl⟩
 show AV.int .u32 _ = _
 simp [*]
theorem rapply_okN (op : Int) (a b : Nat) (ha : a < 4294967296) (hb : b < 4294967296) : APure Tryz.prog 72 [.int .i64 op, .int .u32 (a : Int), .int .u32 (b : Int)] (fun r => r = wpair (wapp op a b)) := by
 refine APure.of_body (n := 80) tok Tryz.func72 rfl rfl ?_;refine asr ?_;refine aQ tok 2 rfl ?_;refine an ?_;refine asr ?_;refine am 10 ?_;refine aq 11 (q_convSame tok rfl rfl rfl rfl rfl (wrapN_u64 (by omega))) ?_;refine am 12 ?_;refine aq 13 (q_convSame tok rfl rfl rfl rfl rfl (wrapN_u64 (by omega))) ?_;refine aQ tok 2 rfl ?_;refine an ?_;refine asq ?_;refine asr ?_;refine am 14 ?_;refine an ?_;refine AGo.block ?_;refine asr ?_;refine aQ tok 2 rfl ?_;refine an ?_;refine asp 15 (fun hb1 => ?_) fun hb1 => ?_
 ·
  refine act ?_
  obtain rfl : op = 4 := by simpa using hb1
  refine asr ?_;refine aQ tok 2 rfl ?_;refine aq 19 (q_bin (r := .int .u64 ((a + b : Nat) : Int)) rfl rfl rfl (ebin_add (wrapN_u64 (by omega)))) ?_;refine aq 20 (q_bin (r := .int .u64 (((a + b) % 4294967296 : Nat) : Int)) rfl rfl rfl (ebin_rem (a := a + b) (b := 4294967296) (by decide))) ?_;refine aq 21 (q_convSame tok rfl rfl rfl rfl rfl (wrapN_u32 (Nat.mod_lt _ (by decide)))) ?_;refine aQ tok 2 rfl ?_;refine an ?_;refine agt ?_;refine ⟨[_, _], ⟨rfl, rfl, trivial⟩, ?_, rfl⟩
  show AV.tup _ = _
  rw [wapp_add]; rfl
 refine acf ?_;refine asr ?_;refine aQ tok 2 rfl ?_;refine an ?_;refine asp 22 (fun hb2 => ?_) fun hb2 => ?_
 ·
  refine act ?_
  obtain rfl : op = 5 := by simpa using hb2
  refine asr ?_;refine am 24 ?_;refine aq 25 (q_bin (r := .int .u64 ((a + 4294967296 : Nat) : Int)) rfl rfl rfl (ebin_add (b := 4294967296) (wrapN_u64 (by omega)))) ?_;refine am 26 ?_;refine aq 27 (q_bin (r := .int .u64 ((a + 4294967296 - b : Nat) : Int)) rfl rfl rfl (ebin_sub (by omega) (wrapN_u64 (by omega)))) ?_;refine aq 28 (q_bin (r := .int .u64 (((a + 4294967296 - b) % 4294967296 : Nat) : Int)) rfl rfl rfl (ebin_rem (a := a + 4294967296 - b) (b := 4294967296) (by decide))) ?_;refine aq 29 (q_convSame tok rfl rfl rfl rfl rfl (wrapN_u32 (Nat.mod_lt _ (by decide)))) ?_;refine aQ tok 2 rfl ?_;refine an ?_;refine agt ?_;refine ⟨[_, _], ⟨rfl, rfl, trivial⟩, ?_, rfl⟩
  show AV.tup _ = _
  rw [wapp_sub hb]; rfl
 refine acf ?_;refine asr ?_;refine aQ tok 2 rfl ?_;refine an ?_;refine asp 30 (fun hb3 => ?_) fun hb3 => ?_
 ·
  refine act ?_
  obtain rfl : op = 6 := by simpa using hb3
  have hab : a * b < 18446744073709551616 := by have := Nat.mul_lt_mul'' ha hb; omega
  refine asr ?_;refine aQ tok 2 rfl ?_;refine aq 34 (q_bin (r := .int .u64 ((a * b : Nat) : Int)) rfl rfl rfl (ebin_mul (wrapN_u64 hab))) ?_;refine aq 35 (q_bin (r := .int .u64 ((a * b % 4294967296 : Nat) : Int)) rfl rfl rfl (ebin_rem (a := a * b) (b := 4294967296) (by decide))) ?_;refine aq 36 (q_convSame tok rfl rfl rfl rfl rfl (wrapN_u32 (Nat.mod_lt _ (by decide)))) ?_;refine aQ tok 2 rfl ?_;refine an ?_;refine agt ?_;refine ⟨[_, _], ⟨rfl, rfl, trivial⟩, ?_, rfl⟩
  show AV.tup _ = _
  rw [wapp_mul]; rfl
 refine acf ?_;refine asr ?_;refine aQ tok 2 rfl ?_;refine an ?_;refine asp 37 (fun hb4 => ?_) fun hb4 => ?_
 ·
  refine act ?_
  obtain rfl : op = 7 := by simpa using hb4
  refine asq ?_;refine asr ?_;refine aQ tok 2 rfl ?_;refine an ?_;refine asp 40 (fun hb5 => ?_) fun hb5 => ?_
  ·
   refine act ?_
   obtain rfl : b = 0 := by have h := hb5; simp at h; omega
   refine asr ?_;refine aQ tok 2 rfl ?_;refine an ?_;refine agt ?_;refine ⟨[_, _], ⟨rfl, rfl, trivial⟩, ?_, rfl⟩
   show AV.tup _ = _
   rw [show (((0 : Nat) : Int)) = 0 from rfl, wapp_div0 _ _ (by simp)]; rfl
  refine acf ?_
  have hb0 : ¬ b = 0 := by have h := hb5; simp at h; omega
  have hda := Nat.div_le_self a b
  refine agk ?_;refine asr ?_;refine aQ tok 2 rfl ?_;refine aq 43 (q_bin (r := .int .u64 ((a / b : Nat) : Int)) rfl rfl rfl (ebin_quo (Nat.pos_of_ne_zero hb0) (wrapN_u64 (by omega)))) ?_;refine aq 44 (q_convSame tok rfl rfl rfl rfl rfl (wrapN_u32 (by omega))) ?_;refine aQ tok 2 rfl ?_;refine an ?_;refine agt ?_;refine ⟨[_, _], ⟨rfl, rfl, trivial⟩, ?_, rfl⟩
  show AV.tup _ = _
  rw [wapp_div ha hb0]; rfl
 refine acf ?_;refine asr ?_;refine aQ tok 2 rfl ?_;refine an ?_;refine asp 45 (fun hb6 => ?_) fun hb6 => ?_
 ·
  refine act ?_
  obtain rfl : op = 8 := by simpa using hb6
  refine asq ?_;refine asr ?_;refine aQ tok 2 rfl ?_;refine an ?_;refine asp 48 (fun hb7 => ?_) fun hb7 => ?_
  ·
   refine act ?_
   obtain rfl : b = 0 := by have h := hb7; simp at h; omega
   refine asr ?_;refine aQ tok 2 rfl ?_;refine an ?_;refine agt ?_;refine ⟨[_, _], ⟨rfl, rfl, trivial⟩, ?_, rfl⟩
   show AV.tup _ = _
   rw [show (((0 : Nat) : Int)) = 0 from rfl, wapp_div0 _ _ (by simp)]; rfl
  refine acf ?_
  have hb0 : ¬ b = 0 := by have h := hb7; simp at h; omega
  have hma := Nat.mod_lt a (Nat.pos_of_ne_zero hb0)
  refine agk ?_;refine asr ?_;refine aQ tok 2 rfl ?_;refine aq 51 (q_bin (r := .int .u64 ((a % b : Nat) : Int)) rfl rfl rfl (ebin_rem (Nat.pos_of_ne_zero hb0))) ?_;refine aq 52 (q_convSame tok rfl rfl rfl rfl rfl (wrapN_u32 (by omega))) ?_;refine aQ tok 2 rfl ?_;refine an ?_;refine agt ?_;refine ⟨[_, _], ⟨rfl, rfl, trivial⟩, ?_, rfl⟩
  show AV.tup _ = _
  rw [wapp_mod hb0]; rfl
 refine acf ?_;refine asq ?_;refine asr ?_;refine aQ tok 2 rfl ?_;refine an ?_;refine asp 53 (fun hb8 => ?_) fun hb8 => ?_
 ·
  refine act ?_;refine agk ?_;refine act ?_;refine asr ?_
  have ho : op = 9 ∨ op = 10 ∨ op = 11 := by simp_all
  refine aQ tok 3 rfl ?_;refine ax 60 (opu Tryz.func93 (both_ok _ a b ha hb)) ?_;refine aQ tok 2 rfl ?_;refine an ?_;refine agt ?_;refine ⟨[_, _], ⟨rfl, rfl, trivial⟩, ?_, rfl⟩
  show AV.tup _ = _
  rw [wapp_both ha hb ho]; rfl
 refine acf ?_;refine asr ?_;refine aQ tok 2 rfl ?_;refine an ?_;refine asp 53 (fun hb9 => ?_) fun hb9 => ?_
 ·
  refine act ?_;refine agk ?_;refine act ?_;refine asr ?_
  have ho : op = 9 ∨ op = 10 ∨ op = 11 := by simp_all
  refine aQ tok 3 rfl ?_;refine ax 60 (opu Tryz.func93 (both_ok _ a b ha hb)) ?_;refine aQ tok 2 rfl ?_;refine an ?_;refine agt ?_;refine ⟨[_, _], ⟨rfl, rfl, trivial⟩, ?_, rfl⟩
  show AV.tup _ = _
  rw [wapp_both ha hb ho]; rfl
 refine acf ?_;refine agr ?_;refine aQ tok 2 rfl ?_;refine an ?_;refine asp 53 (fun hb10 => ?_) fun hb10 => ?_
 ·
  refine act ?_;refine asr ?_
  have ho : op = 9 ∨ op = 10 ∨ op = 11 := by simp_all
  refine aQ tok 3 rfl ?_;refine ax 60 (opu Tryz.func93 (both_ok _ a b ha hb)) ?_;refine aQ tok 2 rfl ?_;refine an ?_;refine agt ?_;refine ⟨[_, _], ⟨rfl, rfl, trivial⟩, ?_, rfl⟩
  show AV.tup _ = _
  rw [wapp_both ha hb ho]; rfl
 refine acf ?_;refine asq ?_;refine asr ?_;refine aQ tok 2 rfl ?_;refine an ?_;refine asp 61 (fun hb11 => ?_) fun hb11 => ?_
 ·
  refine act ?_;refine agk ?_;refine act ?_;refine asr ?_
  have ho : op = 12 ∨ op = 13 := by simp_all
  refine aQ tok 3 rfl ?_;refine ax 67 (opu Tryz.func94 (rshift_ok _ a b ha hb ho)) ?_;refine aQ tok 2 rfl ?_;refine an ?_;refine agt ?_;refine ⟨[_, _], ⟨rfl, rfl, trivial⟩, ?_, rfl⟩
  show AV.tup _ = _
  rw [wapp_shift ho]; rfl
 refine acf ?_;refine agr ?_;refine aQ tok 2 rfl ?_;refine an ?_;refine asp 61 (fun hb12 => ?_) fun hb12 => ?_
 ·
  refine act ?_;refine asr ?_
  have ho : op = 12 ∨ op = 13 := by simp_all
  refine aQ tok 3 rfl ?_;refine ax 67 (opu Tryz.func94 (rshift_ok _ a b ha hb ho)) ?_;refine aQ tok 2 rfl ?_;refine an ?_;refine agt ?_;refine ⟨[_, _], ⟨rfl, rfl, trivial⟩, ?_, rfl⟩
  show AV.tup _ = _
  rw [wapp_shift ho]; rfl
 refine acf ?_;refine asr ?_;refine aQ tok 2 rfl ?_;refine an ?_;refine asp 68 (fun hb13 => ?_) fun hb13 => ?_
 ·
  refine act ?_
  obtain rfl : op = 14 := by simpa using hb13
  refine asr ?_;refine aQ tok 3 rfl ?_;refine ax 73 (opu Tryz.func95 (flag_ok _)) ?_;refine aQ tok 2 rfl ?_;refine an ?_;refine agt ?_;refine ⟨[_, _], ⟨rfl, rfl, trivial⟩, ?_, rfl⟩
  show AV.tup _ = _
  rw [wapp_lt]; rfl
 refine acf ?_;refine asr ?_;refine aQ tok 2 rfl ?_;refine an ?_;refine asp 74 (fun hb14 => ?_) fun hb14 => ?_
 ·
  refine act ?_
  obtain rfl : op = 15 := by simpa using hb14
  refine asr ?_;refine aQ tok 3 rfl ?_;refine ax 79 (opu Tryz.func95 (flag_ok _)) ?_;refine aQ tok 2 rfl ?_;refine an ?_;refine agt ?_;refine ⟨[_, _], ⟨rfl, rfl, trivial⟩, ?_, rfl⟩
  show AV.tup _ = _
  rw [wapp_eq]; rfl
 refine acf ?_;refine agk ?_;refine asr ?_;refine aQ tok 2 rfl ?_;refine an ?_;refine agt ?_;refine ⟨[_, _], ⟨rfl, rfl, trivial⟩, ?_, rfl⟩
 show AV.tup _ = AV.tup _
 simp [wapp, *]
theorem rapply_ok (op a b : Int) (ha : isW a) (hb : isW b) : APure Tryz.prog 72 [.int .i64 op, .int .u32 a, .int .u32 b] (fun r => r = wpair (wapp op a b)) := by
  obtain ⟨n, rfl⟩ := Int.eq_ofNat_of_zero_le ha.1
  obtain ⟨m, rfl⟩ := Int.eq_ofNat_of_zero_le hb.1
  exact rapply_okN op n m (by have := ha.2; omega) (by have := hb.2; omega)
theorem step_ok (b : Blocks) (s : ByteArray) (fuel : Int) (m : Mach) (hfu : fuel ≤ 9223372036854775807) : ACall Tryz.prog 52 [.ptr 0 1 0 0] (mheap hNew b s fuel m) (fun r h' => r = .bool (mstep fuel m).1 ∧ HSub (mheap hNone b s fuel (mstep fuel m).2) h') := by
 refine ACall.of_body (n := 22) tok Tryz.func52 rfl rfl ?_;refine asr ?_;refine aa 2 ?_;refine an ?_;refine asq ?_;refine asq ?_;refine AGo.draw mix ?_;refine dQ tok 9 rfl ?_;refine DOps.nil (by kernel_rfl) ?_;refine asp 11 (fun hb1 => ?_) fun hb1 => ?_
 ·
  refine act ?_;refine asr ?_;refine aQ tok 3 rfl ?_;refine AOps.w rfl rfl (o_store tok rfl rfl rfl rfl rfl rfl rfl rfl rfl (by decide) rfl z33q) ?_;refine an ?_;refine asr ?_;refine aa 2 ?_;refine an ?_;refine agt ?_
  rw [mstep_no hb1]
  exact ⟨[_], ⟨rfl, trivial⟩, rfl, HSub.put (HSub.put (HSub.put (HSub.none _) rfl) rfl) rfl⟩
 refine acf ?_;refine agk ?_;refine asr ?_;refine aQ tok 4 rfl ?_;refine aq 19 (q_inc rfl rfl (show m.steps < fuel.toNat by have h := hb1; simp at h; omega) (by simp only [maxLen]; omega)) ?_
 refine aQ tok 2 rfl ?_;refine AOps.w rfl rfl (o_store tok rfl rfl rfl rfl rfl rfl rfl rfl rfl (by decide) rfl z33q) ?_;refine an ?_;refine asr ?_;refine aa 2 ?_;refine an ?_;refine agt ?_
 rw [mstep_yes hb1]
 exact ⟨[_], ⟨rfl, trivial⟩, rfl, HSub.put (HSub.put (HSub.put (HSub.none _) rfl) rfl) rfl⟩
theorem one_okR (b : Blocks) (s : ByteArray) (fuel : Int) (call : Int → Mach → Mach) (t : Tac) (regs : List Int) (m : Mach) (n R : Nat) (ht : TacIn t n R b.words.toNat) (hr : allR regs) (hlen : regs.length = R) (hm : m.good b.words.toNat) (h0 : m.fin = 0) (hbw : b.words ≤ 1048576) (hs : s.size ≤ 9223372036854775807) (hwn : isW t.n)
    (hcall : ∀ (i : Int), 0 ≤ i → i < n → ACall Tryz.prog 39 [.ptr 0 1 0 0, .int .i64 i] (mheap hNew b s fuel m) (fun r h' => r = .tup [] ∧ HSub (mheap hNone b s fuel (call i m)) h')) : ACall Tryz.prog 53 [.ptr 0 1 0 0, .agg t.cells, .ref 4 R 0 R] (hput (mheap hNew b s fuel m) 4 (.row true 1 (regCells regs))) (fun r h' => r = .tup [] ∧ HSub (hput (mheap hNone b s fuel (mone call s t regs m).2) 4 (.row true 1 (regCells (mone call s t regs m).1))) h') := by
 refine ACall.of_body (n := 211) tok Tryz.func53 rfl rfl ?_;refine asr ?_;refine ax 4 (obx 8 5) ?_;refine an ?_;refine asr ?_;refine aQ tok 2 rfl ?_;refine an ?_;refine AGo.block ?_;refine asr ?_;refine aQ tok 2 rfl ?_;refine an ?_;refine asp 10 (fun hb1 => ?_) fun hb1 => ?_
 ·
  refine act ?_
  have ho : t.op = 1 := by simpa using hb1
  have hd := ht.d (by simp [setsOp, ho])
  refine agr ?_;refine aQ tok 5 rfl ?_;refine aq 17 (q_index_ref tok rfl rfl rfl rfl rfl rfl rfl (by rw [regCells_len, hlen]) rfl hd.1 (by have := hd.2; omega)) ?_;refine AOps.w rfl rfl (o_store tok rfl rfl rfl rfl rfl rfl (by rw [regCells_len, hlen]) (rcell (by have := hd; omega)) rfl (by decide) rfl z33q) ?_;refine an ?_;refine ⟨[], trivial, rfl, ?_⟩
  rw [mone1 ho]
  exact HSub.put (HSub.put (HSub.put (HSub.put (HSub.none _) rfl) rfl) rfl) z15q
 refine acf ?_;refine asr ?_;refine aQ tok 2 rfl ?_;refine an ?_;refine asp 18 (fun hb2 => ?_) fun hb2 => ?_
 ·
  refine act ?_
  have ho : t.op = 2 := by simpa using hb2
  have hd := ht.d (by simp [setsOp, ho])
  have ha := ht.a (by simp [use1, use2, ho])
  refine AGo.draw mix ?_;refine dQ tok 6 rfl ?_;refine dq 26 (q_index_ref tok rfl rfl rfl rfl rfl rfl rfl (by rw [regCells_len, hlen]) rfl ha.1 (by have := ha.2; omega)) ?_;refine dq 27 (q_load tok rfl rfl rfl (.ptr _ _ _ _ _ _ _ _ rfl (by rw [regCells_len, hlen]) (rcell (by have := ha; omega))) rfl) ?_;refine dq 28 (q_index_ref tok rfl rfl rfl rfl rfl rfl rfl (by rw [regCells_len, hlen]) rfl hd.1 (by have := hd.2; omega)) ?_;refine DOps.w rfl rfl (o_store tok rfl rfl rfl rfl rfl rfl (by rw [regCells_len, hlen]) (rcell (by have := hd; omega)) rfl (by decide) rfl z33q) ?_;refine DOps.nil (by kernel_rfl) ?_;refine ⟨[], trivial, rfl, ?_⟩
  rw [mone2 ho]
  exact HSub.put (HSub.put (HSub.put (HSub.put (HSub.none _) rfl) rfl) rfl) z15q
 refine acf ?_;refine asr ?_;refine aQ tok 2 rfl ?_;refine an ?_;refine asp 29 (fun hb3 => ?_) fun hb3 => ?_
 ·
  refine act ?_
  have ho : t.op = 3 := by simpa using hb3
  have hd := ht.d (by simp [setsOp, ho])
  have ha := ht.a (by simp [use1, use2, ho])
  have hb := ht.b (by simp [use2, ho])
  refine asq ?_;refine AGo.draw mix ?_;refine dQ tok 5 rfl ?_;refine dq 37 (q_index_ref tok rfl rfl rfl rfl rfl rfl rfl (by rw [regCells_len, hlen]) rfl ha.1 (by have := ha.2; omega)) ?_;refine dq 38 (q_load tok rfl rfl rfl (.ptr _ _ _ _ _ _ _ _ rfl (by rw [regCells_len, hlen]) (rcell (by have := ha; omega))) rfl) ?_;refine dQ tok 3 rfl ?_;refine dq 42 (q_index_ref tok rfl rfl rfl rfl rfl rfl rfl (by rw [regCells_len, hlen]) rfl hb.1 (by have := hb.2; omega)) ?_;refine dq 43 (q_load tok rfl rfl rfl (.ptr _ _ _ _ _ _ _ _ rfl (by rw [regCells_len, hlen]) (rcell (by have := hb; omega))) rfl) ?_;refine dx 44 (opu Tryz.func72 (rapply_ok t.k (rget regs t.a) (rget regs t.b) (rget_w hr _) (rget_w hr _))) ?_;refine dQ tok 5 rfl ?_;refine DOps.nil (by kernel_rfl) ?_;refine asq ?_;refine asr ?_;refine aQ tok 2 rfl ?_;refine an ?_;refine asp 48 (fun hb4 => ?_) fun hb4 => ?_
  ·
   refine act ?_;refine asr ?_;refine aQ tok 3 rfl ?_;refine AOps.w rfl rfl (o_store tok rfl rfl rfl rfl rfl rfl rfl rfl rfl (by decide) rfl z33q) ?_;refine an ?_;refine agt ?_;refine ⟨[], trivial, rfl, ?_⟩
   rw [mone3z ho hb4]
   exact HSub.put (HSub.put (HSub.put (HSub.put (HSub.none _) rfl) rfl) rfl) rfl
  refine acf ?_;refine agk ?_;refine agr ?_;refine aQ tok 4 rfl ?_;refine aq 56 (q_index_ref tok rfl rfl rfl rfl rfl rfl rfl (by rw [regCells_len, hlen]) rfl hd.1 (by have := hd.2; omega)) ?_;refine AOps.w rfl rfl (o_store tok rfl rfl rfl rfl rfl rfl (by rw [regCells_len, hlen]) (rcell (by have := hd; omega)) rfl (by decide) rfl z33q) ?_;refine an ?_;refine ⟨[], trivial, rfl, ?_⟩
  rw [mone3 ho hb4]
  exact HSub.put (HSub.put (HSub.put (HSub.put (HSub.none _) rfl) rfl) rfl) z15q
 refine acf ?_;refine asr ?_;refine aQ tok 2 rfl ?_;refine an ?_;refine asp 57 (fun hb5 => ?_) fun hb5 => ?_
 ·
  refine act ?_
  have ho : t.op = 4 := by simpa using hb5
  have hd := ht.d (by simp [setsOp, ho])
  have hbs := ht.base (by simp [ho])
  refine AGo.draw mix ?_;refine dQ tok 9 rfl ?_;refine dq 68 (q_index_ref tok rfl rfl rfl rfl rfl rfl rfl (by rw [regCells_len, hm.len]) rfl hbs.1 (by have := hbs.2; omega)) ?_;refine dq 69 (q_load tok rfl rfl rfl (.ptr _ _ _ _ _ _ _ _ rfl (by rw [regCells_len, hm.len]) (rcell (by have := hbs; have := hm.len; omega))) rfl) ?_;refine dq 70 (q_index_ref tok rfl rfl rfl rfl rfl rfl rfl (by rw [regCells_len, hlen]) rfl hd.1 (by have := hd.2; omega)) ?_;refine DOps.w rfl rfl (o_store tok rfl rfl rfl rfl rfl rfl (by rw [regCells_len, hlen]) (rcell (by have := hd; omega)) rfl (by decide) rfl z33q) ?_;refine DOps.nil (by kernel_rfl) ?_;refine ⟨[], trivial, rfl, ?_⟩
  rw [mone4 ho]
  exact HSub.put (HSub.put (HSub.put (HSub.put (HSub.none _) rfl) rfl) rfl) z15q
 refine acf ?_;refine asr ?_;refine aQ tok 2 rfl ?_;refine an ?_;refine asp 71 (fun hb6 => ?_) fun hb6 => ?_
 ·
  refine act ?_
  have ho : t.op = 5 := by simpa using hb6
  have ha := ht.a (by simp [use1, use2, ho])
  have hbs := ht.base (by simp [ho])
  refine AGo.draw mix ?_;refine dQ tok 9 rfl ?_;refine dq 82 (q_index_ref tok rfl rfl rfl rfl rfl rfl rfl (by rw [regCells_len, hlen]) rfl ha.1 (by have := ha.2; omega)) ?_;refine dq 83 (q_load tok rfl rfl rfl (.ptr _ _ _ _ _ _ _ _ rfl (by rw [regCells_len, hlen]) (rcell (by have := ha; omega))) rfl) ?_;refine dq 84 (q_index_ref tok rfl rfl rfl rfl rfl rfl rfl (by rw [regCells_len, hm.len]) rfl hbs.1 (by have := hbs.2; omega)) ?_;refine DOps.w rfl rfl (o_store tok rfl rfl rfl rfl rfl rfl (by rw [regCells_len, hm.len]) (rcell (by have := hbs; have := hm.len; omega)) rfl (by decide) rfl z33q) ?_;refine DOps.nil (by kernel_rfl) ?_;refine ⟨[], trivial, rfl, ?_⟩
  rw [mone5 ho]
  exact HSub.put (HSub.put (HSub.put (HSub.put (HSub.none _) rfl) z15q) rfl) rfl
 refine acf ?_;refine asq ?_;refine asr ?_;refine aQ tok 2 rfl ?_;refine an ?_;refine asp 85 (fun hb7 => ?_) fun hb7 => ?_
 ·
  refine act ?_;refine agk ?_;refine act ?_;refine asq ?_;refine asq ?_;refine AGo.draw mix ?_
  have ho : t.op = 6 ∨ t.op = 7 := by simp_all
  have har := ht.arr ho
  have ha := ht.a (by rcases ho with ho | ho <;> simp [use1, use2, ho])
  have hwa := rget_w hr t.a
  have hwa1 := hwa.1
  have hwa2 := hwa.2
  refine dQ tok 3 rfl ?_;refine dq 91 (q_index_ref tok rfl rfl rfl rfl rfl rfl rfl (by rw [regCells_len, hlen]) rfl ha.1 (by have := ha.2; omega)) ?_;refine dq 92 (q_load tok rfl rfl rfl (.ptr _ _ _ _ _ _ _ _ rfl (by rw [regCells_len, hlen]) (rcell (by have := ha; omega))) rfl) ?_;refine dq 93 (q_convTo tok rfl rfl rfl rfl rfl (r := rget regs t.a) (by rw [IntKind.wrap_u64]; omega)) ?_;refine dQ tok 2 rfl ?_;refine dq 96 (q_convTo tok rfl rfl rfl rfl rfl (r := t.size) (by rw [IntKind.wrap_u64]; omega)) ?_;refine dq 97 (q_bin rfl rfl rfl rfl) ?_;refine DOps.nil (by kernel_rfl) ?_;refine asp 97 (fun hb8 => ?_) fun hb8 => ?_
  ·
   refine act ?_
   have hsz := hb8
   refine asr ?_;refine aQ tok 3 rfl ?_;refine AOps.w rfl rfl (o_store tok rfl rfl rfl rfl rfl rfl rfl rfl rfl (by decide) rfl z33q) ?_;refine an ?_;refine agt ?_;refine ⟨[], trivial, rfl, ?_⟩
   rw [mone67z ho hsz]
   exact HSub.put (HSub.put (HSub.put (HSub.put (HSub.none _) rfl) rfl) rfl) rfl
  refine acf ?_
  have hsz := hb8
  have hsz2 : rget regs t.a < t.size := by simpa using hb8
  have hidx : 0 ≤ t.base + rget regs t.a ∧ t.base + rget regs t.a < b.words.toNat := by omega
  refine agk ?_;refine asr ?_;refine aQ tok 3 rfl ?_;refine an ?_;refine asp 103 (fun hb9 => ?_) fun hb9 => ?_
  ·
   refine act ?_
   have ho6 : t.op = 6 := by simpa using hb9
   have hd := ht.d (by simp [setsOp, ho6])
   refine AGo.draw mix ?_;refine dQ tok 12 rfl ?_;refine dq 116 (q_index_ref tok rfl rfl rfl rfl rfl rfl rfl (by rw [regCells_len, hlen]) rfl ha.1 (by have := ha.2; omega)) ?_;refine dq 117 (q_load tok rfl rfl rfl (.ptr _ _ _ _ _ _ _ _ rfl (by rw [regCells_len, hlen]) (rcell (by have := ha; omega))) rfl) ?_;refine dq 118 (q_convTo tok rfl rfl rfl rfl rfl (r := rget regs t.a) (by exact wrap_i64 (by omega) (by omega))) ?_;refine dq 119 (q_bin (r := .int .i64 (t.base + rget regs t.a)) rfl rfl rfl z25q) ?_;refine dq 120 (q_index_ref tok rfl rfl rfl rfl rfl rfl rfl (by rw [regCells_len, hm.len]) rfl hidx.1 (by have := hidx.2; omega)) ?_;refine dq 121 (q_load tok rfl rfl rfl (.ptr _ _ _ _ _ _ _ _ rfl (by rw [regCells_len, hm.len]) (rcell (by have := hidx; have := hm.len; omega))) rfl) ?_;refine dq 122 (q_index_ref tok rfl rfl rfl rfl rfl rfl rfl (by rw [regCells_len, hlen]) rfl hd.1 (by have := hd.2; omega)) ?_
   refine DOps.w rfl rfl (o_store tok rfl rfl rfl rfl rfl rfl (by rw [regCells_len, hlen]) (rcell (by have := hd; omega)) rfl (by decide) rfl z33q) ?_;refine DOps.nil (by kernel_rfl) ?_;refine ⟨[], trivial, rfl, ?_⟩
   rw [mone6 ho6 hsz]
   exact HSub.put (HSub.put (HSub.put (HSub.put (HSub.none _) rfl) rfl) rfl) z15q
  refine acf ?_
  have ho7 : t.op = 7 := by have h := hb9; simp at h; omega
  have hb := ht.b (by simp [use2, ho7])
  refine AGo.draw mix ?_;refine dQ tok 9 rfl ?_;refine dq 132 (q_index_ref tok rfl rfl rfl rfl rfl rfl rfl (by rw [regCells_len, hlen]) rfl ha.1 (by have := ha.2; omega)) ?_;refine dq 133 (q_load tok rfl rfl rfl (.ptr _ _ _ _ _ _ _ _ rfl (by rw [regCells_len, hlen]) (rcell (by have := ha; omega))) rfl) ?_;refine dq 134 (q_convTo tok rfl rfl rfl rfl rfl (r := rget regs t.a) (by exact wrap_i64 (by omega) (by omega))) ?_;refine dq 135 (q_bin (r := .int .i64 (t.base + rget regs t.a)) rfl rfl rfl z25q) ?_;refine dQ tok 3 rfl ?_;refine dq 139 (q_index_ref tok rfl rfl rfl rfl rfl rfl rfl (by rw [regCells_len, hlen]) rfl hb.1 (by have := hb.2; omega)) ?_;refine dq 140 (q_load tok rfl rfl rfl (.ptr _ _ _ _ _ _ _ _ rfl (by rw [regCells_len, hlen]) (rcell (by have := hb; omega))) rfl) ?_;refine dq 141 (q_index_ref tok rfl rfl rfl rfl rfl rfl rfl (by rw [regCells_len, hm.len]) rfl hidx.1 (by have := hidx.2; omega)) ?_
  refine DOps.w rfl rfl (o_store tok rfl rfl rfl rfl rfl rfl (by rw [regCells_len, hm.len]) (rcell (by have := hidx; have := hm.len; omega)) rfl (by decide) rfl z33q) ?_;refine DOps.nil (by kernel_rfl) ?_;refine ⟨[], trivial, rfl, ?_⟩
  rw [mone7 ho7 hsz]
  exact HSub.put (HSub.put (HSub.put (HSub.put (HSub.none _) rfl) z15q) rfl) rfl
 refine acf ?_;refine agr ?_;refine aQ tok 2 rfl ?_;refine an ?_;refine asp 85 (fun hb10 => ?_) fun hb10 => ?_
 ·
  refine act ?_;refine asq ?_;refine asq ?_;refine AGo.draw mix ?_
  have ho : t.op = 6 ∨ t.op = 7 := by simp_all
  have har := ht.arr ho
  have ha := ht.a (by rcases ho with ho | ho <;> simp [use1, use2, ho])
  have hwa := rget_w hr t.a
  have hwa1 := hwa.1
  have hwa2 := hwa.2
  refine dQ tok 3 rfl ?_;refine dq 91 (q_index_ref tok rfl rfl rfl rfl rfl rfl rfl (by rw [regCells_len, hlen]) rfl ha.1 (by have := ha.2; omega)) ?_;refine dq 92 (q_load tok rfl rfl rfl (.ptr _ _ _ _ _ _ _ _ rfl (by rw [regCells_len, hlen]) (rcell (by have := ha; omega))) rfl) ?_;refine dq 93 (q_convTo tok rfl rfl rfl rfl rfl (r := rget regs t.a) (by rw [IntKind.wrap_u64]; omega)) ?_;refine dQ tok 2 rfl ?_;refine dq 96 (q_convTo tok rfl rfl rfl rfl rfl (r := t.size) (by rw [IntKind.wrap_u64]; omega)) ?_;refine dq 97 (q_bin rfl rfl rfl rfl) ?_;refine DOps.nil (by kernel_rfl) ?_;refine asp 97 (fun hb11 => ?_) fun hb11 => ?_
  ·
   refine act ?_
   have hsz := hb11
   refine asr ?_;refine aQ tok 3 rfl ?_;refine AOps.w rfl rfl (o_store tok rfl rfl rfl rfl rfl rfl rfl rfl rfl (by decide) rfl z33q) ?_;refine an ?_;refine agt ?_;refine ⟨[], trivial, rfl, ?_⟩
   rw [mone67z ho hsz]
   exact HSub.put (HSub.put (HSub.put (HSub.put (HSub.none _) rfl) rfl) rfl) rfl
  refine acf ?_
  have hsz := hb11
  have hsz2 : rget regs t.a < t.size := by simpa using hb11
  have hidx : 0 ≤ t.base + rget regs t.a ∧ t.base + rget regs t.a < b.words.toNat := by omega
  refine agk ?_;refine asr ?_;refine aQ tok 3 rfl ?_;refine an ?_;refine asp 103 (fun hb12 => ?_) fun hb12 => ?_
  ·
   refine act ?_
   have ho6 : t.op = 6 := by simpa using hb12
   have hd := ht.d (by simp [setsOp, ho6])
   refine AGo.draw mix ?_;refine dQ tok 12 rfl ?_;refine dq 116 (q_index_ref tok rfl rfl rfl rfl rfl rfl rfl (by rw [regCells_len, hlen]) rfl ha.1 (by have := ha.2; omega)) ?_;refine dq 117 (q_load tok rfl rfl rfl (.ptr _ _ _ _ _ _ _ _ rfl (by rw [regCells_len, hlen]) (rcell (by have := ha; omega))) rfl) ?_;refine dq 118 (q_convTo tok rfl rfl rfl rfl rfl (r := rget regs t.a) (by exact wrap_i64 (by omega) (by omega))) ?_;refine dq 119 (q_bin (r := .int .i64 (t.base + rget regs t.a)) rfl rfl rfl z25q) ?_;refine dq 120 (q_index_ref tok rfl rfl rfl rfl rfl rfl rfl (by rw [regCells_len, hm.len]) rfl hidx.1 (by have := hidx.2; omega)) ?_;refine dq 121 (q_load tok rfl rfl rfl (.ptr _ _ _ _ _ _ _ _ rfl (by rw [regCells_len, hm.len]) (rcell (by have := hidx; have := hm.len; omega))) rfl) ?_;refine dq 122 (q_index_ref tok rfl rfl rfl rfl rfl rfl rfl (by rw [regCells_len, hlen]) rfl hd.1 (by have := hd.2; omega)) ?_
   refine DOps.w rfl rfl (o_store tok rfl rfl rfl rfl rfl rfl (by rw [regCells_len, hlen]) (rcell (by have := hd; omega)) rfl (by decide) rfl z33q) ?_;refine DOps.nil (by kernel_rfl) ?_;refine ⟨[], trivial, rfl, ?_⟩
   rw [mone6 ho6 hsz]
   exact HSub.put (HSub.put (HSub.put (HSub.put (HSub.none _) rfl) rfl) rfl) z15q
  refine acf ?_
  have ho7 : t.op = 7 := by have h := hb12; simp at h; omega
  have hb := ht.b (by simp [use2, ho7])
  refine AGo.draw mix ?_;refine dQ tok 9 rfl ?_;refine dq 132 (q_index_ref tok rfl rfl rfl rfl rfl rfl rfl (by rw [regCells_len, hlen]) rfl ha.1 (by have := ha.2; omega)) ?_;refine dq 133 (q_load tok rfl rfl rfl (.ptr _ _ _ _ _ _ _ _ rfl (by rw [regCells_len, hlen]) (rcell (by have := ha; omega))) rfl) ?_;refine dq 134 (q_convTo tok rfl rfl rfl rfl rfl (r := rget regs t.a) (by exact wrap_i64 (by omega) (by omega))) ?_;refine dq 135 (q_bin (r := .int .i64 (t.base + rget regs t.a)) rfl rfl rfl z25q) ?_;refine dQ tok 3 rfl ?_;refine dq 139 (q_index_ref tok rfl rfl rfl rfl rfl rfl rfl (by rw [regCells_len, hlen]) rfl hb.1 (by have := hb.2; omega)) ?_;refine dq 140 (q_load tok rfl rfl rfl (.ptr _ _ _ _ _ _ _ _ rfl (by rw [regCells_len, hlen]) (rcell (by have := hb; omega))) rfl) ?_;refine dq 141 (q_index_ref tok rfl rfl rfl rfl rfl rfl rfl (by rw [regCells_len, hm.len]) rfl hidx.1 (by have := hidx.2; omega)) ?_
  refine DOps.w rfl rfl (o_store tok rfl rfl rfl rfl rfl rfl (by rw [regCells_len, hm.len]) (rcell (by have := hidx; have := hm.len; omega)) rfl (by decide) rfl z33q) ?_;refine DOps.nil (by kernel_rfl) ?_;refine ⟨[], trivial, rfl, ?_⟩
  rw [mone7 ho7 hsz]
  exact HSub.put (HSub.put (HSub.put (HSub.put (HSub.none _) rfl) z15q) rfl) rfl
 refine acf ?_;refine asr ?_;refine aQ tok 2 rfl ?_;refine an ?_;refine asp 142 (fun hb13 => ?_) fun hb13 => ?_
 ·
  refine act ?_
  have ho : t.op = 8 := by simpa using hb13
  have hd := ht.d (by simp [setsOp, ho])
  refine asr ?_;refine aQ tok 3 rfl ?_;refine aq 147 (q_index_ref tok rfl rfl rfl rfl rfl rfl rfl (by rw [regCells_len, hlen]) rfl hd.1 (by have := hd.2; omega)) ?_;refine AOps.w rfl rfl (o_store tok rfl rfl rfl rfl rfl rfl (by rw [regCells_len, hlen]) (rcell (by have := hd; omega)) rfl (by decide) rfl z33q) ?_;refine an ?_;refine asq ?_;refine AGo.draw mix ?_;refine dQ tok 10 rfl ?_;refine DOps.nil (by kernel_rfl) ?_;refine asp 157 (fun hb14 => ?_) fun hb14 => ?_
  ·
   refine act ?_
   have hrd : m.read < s.size := by have h := hb14; simp at h; omega
   refine asq ?_;refine AGo.draw mix ?_;refine dQ tok 11 rfl ?_;refine dq 169 (q_index_str (c := inAt s m.read) tok rfl rfl rfl rfl rfl (Int.natCast_nonneg _) (inAt_get hrd)) ?_;refine dq 170 (q_convTo tok rfl rfl rfl rfl rfl (r := ((inAt s m.read).toNat : Int)) (by rw [IntKind.wrap_u32]; have := (byte_w (inAt s m.read)).2; omega)) ?_;refine dq 171 (q_index_ref tok rfl rfl rfl rfl rfl rfl rfl (by rw [List.length_set, regCells_len, hlen]) rfl hd.1 (by have := hd.2; omega)) ?_;refine DOps.w rfl rfl (o_store tok rfl rfl rfl rfl rfl rfl (by rw [List.length_set, regCells_len, hlen]) (get_set_self (rcell (by have := hd; omega))) rfl (by decide) rfl z33q) ?_;refine DOps.nil (by kernel_rfl) ?_;refine agr ?_;refine aQ tok 4 rfl ?_;refine aq 176 (q_inc rfl rfl hrd (by simp only [maxLen]; omega)) ?_;refine aQ tok 2 rfl ?_;refine AOps.w rfl rfl (o_store tok rfl rfl rfl rfl rfl rfl rfl rfl rfl (by decide) rfl z33q) ?_
   refine an ?_;refine ⟨[], trivial, rfl, ?_⟩
   rw [mone8 ho hrd]
   exact HSub.put (HSub.put (HSub.put (HSub.put (HSub.none _) rfl) rfl) rfl) z15q
  refine acf ?_
  have hrd : ¬ m.read < s.size := by have h := hb14; simp at h; omega
  refine agk ?_;refine ⟨[], trivial, rfl, ?_⟩
  rw [mone8z ho hrd]
  exact HSub.put (HSub.put (HSub.put (HSub.put (HSub.none _) rfl) rfl) rfl) z15q
 refine acf ?_;refine asr ?_;refine aQ tok 2 rfl ?_;refine an ?_;refine asp 179 (fun hb15 => ?_) fun hb15 => ?_
 ·
  refine act ?_
  have ho : t.op = 9 := by simpa using hb15
  have ha := ht.a (by simp [use1, use2, ho])
  have hwa := rget_w hr t.a
  have hwa1 := hwa.1
  have hwa2 := hwa.2
  refine asq ?_;refine asr ?_;refine aQ tok 6 rfl ?_;refine an ?_;refine asp 186 (fun hb16 => ?_) fun hb16 => ?_
  ·
   refine act ?_
   have hou : m.out.length ≥ 65536 := by have h := hb16; simp [byteCells] at h; omega
   refine asr ?_;refine aQ tok 3 rfl ?_;refine AOps.w rfl rfl (o_store tok rfl rfl rfl rfl rfl rfl rfl rfl rfl (by decide) rfl z33q) ?_;refine an ?_;refine agt ?_;refine ⟨[], trivial, rfl, ?_⟩
   rw [mone9z ho hou]
   exact HSub.put (HSub.put (HSub.put (HSub.put (HSub.none _) rfl) rfl) rfl) rfl
  refine acf ?_
  have hou : ¬ m.out.length ≥ 65536 := by have h := hb16; simp [byteCells] at h; omega
  refine agk ?_;refine AGo.draw mix ?_;refine dQ tok 8 rfl ?_;refine dq 198 (q_index_ref tok rfl rfl rfl rfl rfl rfl rfl (by rw [regCells_len, hlen]) rfl ha.1 (by have := ha.2; omega)) ?_;refine dq 199 (q_load tok rfl rfl rfl (.ptr _ _ _ _ _ _ _ _ rfl (by rw [regCells_len, hlen]) (rcell (by have := ha; omega))) rfl) ?_;refine dq 200 (q_convTo tok rfl rfl rfl rfl rfl (wrap_byte hwa)) ?_;refine dx 201 (o_lit' tok rfl rfl rfl rfl rfl rfl (by decide) rfl rfl rfl rfl rfl rfl) ?_;refine dx 202 (o_append tok (n := m.out.length) (m := 1) rfl rfl rfl rfl rfl rfl rfl rfl rfl (by simp [byteCells]) rfl rfl (Nat.zero_lt_succ _) (.lst _ _) (by intro cs h; simp [partVals] at h; subst h; rfl) (fun _ cs h => by simp [partVals] at h; subst h; rfl) rfl (by simp [byteCells, partVals]; have := hm.out; omega) (by simp [byteCells, partVals]; simp only [maxLen]; have := hm.out; omega)) ?_
  refine dQ tok 2 rfl ?_;refine DOps.w rfl rfl (o_store tok rfl rfl rfl rfl rfl rfl rfl rfl rfl (by decide) rfl z33q) ?_;refine DOps.nil (by kernel_rfl) ?_;refine ⟨[], trivial, rfl, ?_⟩
  rw [mone9 ho hou]
  exact HSub.put (HSub.put (HSub.put (HSub.put (HSub.none _) (by first | rfl | exact congrArg (fun n => some (AObj.row false 9 [[.int .i64 b.words, funcsAV b.funcs, .str s, .int .i64 fuel, .ref 1 b.words.toNat 0 b.words.toNat, .ref 2 n 0 n, .int .i64 (m.read : Int), .int .i64 (m.steps : Int), .int .i64 m.fin]])) (by simp))) rfl) (by first | rfl | exact congrArg (fun es => some (AObj.row true 1 es)) (by simp [byteCells, partVals]; rfl))) rfl
 refine acf ?_;refine asr ?_;refine aQ tok 2 rfl ?_;refine an ?_;refine asp 205 (fun hb17 => ?_) fun hb17 => ?_
 ·
  refine act ?_
  have ho : t.op = 10 := by simpa using hb17
  have hcl := ht.call ho
  refine agr ?_;refine aQ tok 3 rfl ?_;refine ax 210 (oct (hcall t.base hcl.1 hcl.2) [2, 1, 0] [(0, (.row false 9 [runCells b s fuel (call t.base m)])), (1, (.row true 1 (regCells ((call t.base m)).words))), (2, (.row true 1 (byteCells ((call t.base m)).out)))] rfl Tryz.func39 (by kernel_rfl) rfl rfl rfl ⟨⟨_, rfl, rfl⟩, ⟨_, rfl, rfl⟩, ⟨_, rfl, rfl⟩, trivial⟩ rfl (hres_cons rfl (hres_cons rfl (hres_cons rfl (hres_nil _)))) ⟨⟨_, rfl, rfl, rfl⟩, ⟨_, rfl, rfl, rfl⟩, ⟨_, rfl, rfl, rfl⟩, trivial⟩ rfl) ?_;refine an ?_;refine ⟨[], trivial, rfl, ?_⟩
  rw [mone10 ho]
  exact HSub.put (HSub.put (HSub.put (HSub.put (HSub.none _) rfl) rfl) rfl) rfl
 refine acf ?_;refine agk ?_;exact absurd ht.op (by simp_all; omega)
theorem fun_step (b : Blocks) (s : ByteArray) (fuel : Int) (call : Int → Mach → Mach) (i : Int) (f : BFunc) (m : Mach) (hfu : fuel ≤ 9223372036854775807) (hs : s.size ≤ 9223372036854775807) (hbw : b.words ≤ 1048576) (hf : b.funcs[i.toNat]? = some f) (hi : 0 ≤ i) (hone : f.one i b.words = true)
    (hfw : ∀ x ∈ f.blocks, insW x.ins) (hfl : ∀ x ∈ f.blocks, x.ins.length ≤ maxLen)
    (hcall : ∀ (j : Int) (m : Mach), 0 ≤ j → j < i → m.fin = 0 → m.good b.words.toNat → ACall Tryz.prog 39 [.ptr 0 1 0 0, .int .i64 j] (mheap hNew b s fuel m) (fun r h' => r = .tup [] ∧ HSub (mheap hNone b s fuel (call j m)) h'))
    (hcg : ∀ i m, m.good b.words.toNat → (call i m).good b.words.toNat) (hcs : ∀ i m, m.steps ≤ (call i m).steps) (hm : m.good b.words.toNat) (h0 : m.fin = 0) : ACall Tryz.prog 39 [.ptr 0 1 0 0, .int .i64 i] (mheap hNew b s fuel m) (fun r h' => r = .tup [] ∧ HSub (mheap hNone b s fuel (mblk call s fuel f (fuel.toNat + 1) 0 (List.replicate f.regs.toNat 0) m)) h') := by
 have hsp := one_spec hone
 refine ACall.of_body (n := 76) tok Tryz.func39 rfl rfl ?_;refine asr ?_;refine aQ tok 6 rfl ?_;refine aq 15 (q_index_lst tok rfl rfl rfl rfl rfl rfl hi (idx_map2 hf) rfl) ?_;refine al 16 tok ?_;refine ax 4 (oal tok 3) ?_;refine AOps.w rfl rfl (o_store tok rfl rfl rfl rfl rfl rfl rfl rfl rfl (by decide) rfl z33q) ?_;refine an ?_;refine asr ?_;refine aQ tok 2 rfl ?_;refine ax 19 (o_makeSlice tok (n := f.regs.toNat) (m := f.regs.toNat) 4 true rfl rfl rfl (by have := hsp.1; omega) (by have := hsp.1; omega) rfl rfl rfl rfl rfl (Nat.zero_lt_succ _) rfl (Nat.le_refl _) (by show 4 * f.regs.toNat ≤ _; have := hsp.2.1; omega) (by simp only [maxLen]; have := hsp.2.1; omega)) ?_;refine aa 5 ?_;refine an ?_;refine asr ?_;refine aa 6 ?_;refine an ?_;refine AGo.block ?_;refine AGo.loopD (γ := FG) 5 (fun q => ⟨76, (eput (eput (eput (eput eNew 0 (.ptr 0 1 0 0)) 4 (.ptr 3 1 0 0)) 5 (.ref 4 f.regs.toNat 0 f.regs.toNat)) 6 (.int .i64 q.i)), (hput (hput (hput (hput (hput (hFrom 5) 0 (.row false 9 [runCells b s fuel q.m])) 1 (.row true 1 (regCells (q.m).words))) 2 (.row true 1 (byteCells (q.m).out))) 3 (.row false 2 [f.cells])) 4 (.row true 1 (regCells q.regs)))⟩) (fun q => FInv call s fuel f b.words.toNat f.regs.toNat (mblk call s fuel f (fuel.toNat + 1) 0 (List.replicate f.regs.toNat 0) m) q) (fun q => q.g) ⟨0, List.replicate f.regs.toNat 0, m, fuel.toNat + 1⟩ (Sub.mk' z29q z6q) (FInv.first hm h0 hsp.2.2.1) (fun _ => hput_free (hput_free (hput_free (hput_free (hput_free (fun b hb => hFrom_free hb) rfl) rfl) rfl) rfl) rfl) ?_
 intro q hF
 refine asq ?_;refine asr ?_;refine aQ tok 5 rfl ?_;refine an ?_;refine asp 24 (fun hb1 => ?_) fun hb1 => ?_
 ·
  refine act ?_
  obtain ⟨k, hk⟩ := get_of_lt (l := f.blocks) (k := q.i.toNat) (by have := hF.i; omega)
  have hkm := List.mem_of_getElem? hk
  have hks := hsp.2.2.2 k hkm
  refine agk ?_;refine AGo.block ?_;refine asr ?_;refine aQ tok 3 rfl ?_;refine aq 28 (q_index_lst tok rfl rfl rfl rfl rfl rfl hF.i.1 (idx_map2 hk) rfl) ?_;refine al 29 tok ?_;refine ax 7 (oal tok 5) ?_;refine AOps.w rfl rfl (o_store tok rfl rfl rfl rfl rfl rfl rfl rfl rfl (by decide) rfl z33q) ?_;refine an ?_;refine asq ?_;refine asr ?_;refine aa 8 ?_;refine an ?_;refine AGo.block ?_;refine AGo.loopD (γ := IG) 6 (fun r => ⟨76, (eput (eput (eput (eput (eput (eput eNew 0 (.ptr 0 1 0 0)) 4 (.ptr 3 1 0 0)) 5 (.ref 4 f.regs.toNat 0 f.regs.toNat)) 6 (.int .i64 q.i)) 7 (.ptr 5 1 0 0)) 8 (.int .i64 (r.j : Int))), (hput (hput (hput (hput (hput (hput (hFrom 6) 0 (.row false 9 [runCells b s fuel r.m])) 1 (.row true 1 (regCells (r.m).words))) 2 (.row true 1 (byteCells (r.m).out))) 3 (.row false 2 [f.cells])) 4 (.row true 1 (regCells r.regs))) 5 (.row false 5 [k.cells]))⟩) (fun r => IInv call s fuel k q b.words.toNat f.regs.toNat r) (fun r => k.ins.length - r.j) ⟨0, q.regs, q.m⟩ (Sub.mk' z29q z9q) hF.start (fun _ => hput_free (hput_free (hput_free (hput_free (hput_free (hput_free (fun b hb => hFrom_free hb) rfl) rfl) rfl) rfl) rfl) rfl) ?_
  intro r hI
  refine asq ?_;refine asr ?_;refine aQ tok 5 rfl ?_;refine an ?_;refine asp 34 (fun hb2 => ?_) fun hb2 => ?_
  ·
   refine act ?_
   have hjl : r.j < k.ins.length := lt_of_idx hb2
   obtain ⟨u, hu⟩ := get_of_lt hjl
   have hum := List.mem_of_getElem? hu
   have hut := tacIn_of (hks.2 u hum)
   have huw := hfw k hkm u hum
   refine agk ?_;refine asq ?_;refine AGo.block ?_;refine asq ?_;refine asr ?_;refine am 37 ?_;refine ax 38 (oct (step_ok b s fuel r.m hfu) [2, 1, 0] [(0, (.row false 9 [runCells b s fuel (mstep fuel r.m).2])), (1, (.row true 1 (regCells ((mstep fuel r.m).2).words))), (2, (.row true 1 (byteCells ((mstep fuel r.m).2).out)))] rfl Tryz.func52 (by kernel_rfl) rfl rfl rfl ⟨⟨_, rfl, rfl⟩, ⟨_, rfl, rfl⟩, ⟨_, rfl, rfl⟩, trivial⟩ rfl (hres_cons rfl (hres_cons rfl (hres_cons rfl (hres_nil _)))) ⟨⟨_, rfl, rfl, rfl⟩, ⟨_, rfl, rfl, rfl⟩, ⟨_, rfl, rfl, rfl⟩, trivial⟩ rfl) ?_;refine aq 39 (q_not rfl rfl) ?_;refine an ?_;refine asp 39 (fun hb3 => ?_) fun hb3 => ?_
   ·
    refine act ?_
    have hst : (mstep fuel r.m).1 = false := by simpa using hb3
    refine agt ?_;refine ⟨[], trivial, rfl, ?_⟩
    rw [show (mblk call s fuel f (fuel.toNat + 1) 0 (List.replicate f.regs.toNat 0) m) = _ from fin_A hF hk hI hu hst]
    exact HSub.put (HSub.put (HSub.put (HSub.none _) rfl) rfl) rfl
   refine acf ?_
   have hst : (mstep fuel r.m).1 = true := by simpa using hb3
   have hsf : (mstep fuel r.m).2.fin = 0 := by rw [(mstep_true hst).2]; exact hI.fin
   refine agk ?_;refine asr ?_;refine aQ tok 4 rfl ?_;refine aq 44 (q_index_lst tok rfl rfl rfl rfl rfl rfl (Int.natCast_nonneg _) (idx_map (by assumption)) rfl) ?_;refine aQ tok 2 rfl ?_;refine ax 47 (oct (one_okR b s fuel call u r.regs (mstep fuel r.m).2 i.toNat f.regs.toNat hut hI.regs hI.len (mstep_good hI.good) hsf hbw hs huw (fun j h1 h2 => hcall j _ h1 (by omega) hsf (mstep_good hI.good))) [4, 2, 1, 0] [(0, (.row false 9 [runCells b s fuel (mone call s u r.regs (mstep fuel r.m).2).2])), (1, (.row true 1 (regCells ((mone call s u r.regs (mstep fuel r.m).2).2).words))), (2, (.row true 1 (byteCells ((mone call s u r.regs (mstep fuel r.m).2).2).out))), (4, (.row true 1 (regCells (mone call s u r.regs (mstep fuel r.m).2).1)))] rfl Tryz.func53 (by kernel_rfl) rfl rfl rfl ⟨⟨_, rfl, rfl⟩, ⟨_, rfl, rfl⟩, ⟨_, rfl, rfl⟩, ⟨_, rfl, rfl⟩, trivial⟩ rfl (hres_cons rfl (hres_cons rfl (hres_cons rfl (hres_cons rfl (hres_nil _))))) ⟨⟨_, rfl, rfl, rfl⟩, ⟨_, rfl, rfl, rfl⟩, ⟨_, rfl, rfl, rfl⟩, ⟨_, rfl, rfl, rfl⟩, trivial⟩ rfl) ?_
   refine an ?_;refine asr ?_;refine aQ tok 5 rfl ?_;refine an ?_;refine asp 52 (fun hb4 => ?_) fun hb4 => ?_
   ·
    refine act ?_
    have hnz := hb4
    refine agt ?_;refine ⟨[], trivial, rfl, ?_⟩
    rw [show (mblk call s fuel f (fuel.toNat + 1) 0 (List.replicate f.regs.toNat 0) m) = _ from fin_B hF hk hI hu hst hnz]
    exact HSub.put (HSub.put (HSub.put (HSub.none _) rfl) rfl) rfl
   refine acf ?_
   have hnz := hb4
   refine agk ?_;refine agr ?_;refine am 35 ?_;refine aq 36 (q_inc rfl rfl hjl (hfl k hkm)) ?_;refine aa 8 ?_;refine an ?_;exact ⟨⟨r.j + 1, (mone call s u r.regs (mstep fuel r.m).2).1, (mone call s u r.regs (mstep fuel r.m).2).2⟩, Drop.mk' z20q z14q, (hI.next hcg hcs hu huw hst hnz), (by show k.ins.length - (r.j + 1) < k.ins.length - r.j; omega)⟩
  refine acf ?_
  have hge := ge_of_idx hb2
  refine AGo.exit ?_;refine asq ?_;refine asr ?_;refine am 53 ?_;refine ax 54 (oct (step_ok b s fuel r.m hfu) [2, 1, 0] [(0, (.row false 9 [runCells b s fuel (mstep fuel r.m).2])), (1, (.row true 1 (regCells ((mstep fuel r.m).2).words))), (2, (.row true 1 (byteCells ((mstep fuel r.m).2).out)))] rfl Tryz.func52 (by kernel_rfl) rfl rfl rfl ⟨⟨_, rfl, rfl⟩, ⟨_, rfl, rfl⟩, ⟨_, rfl, rfl⟩, trivial⟩ rfl (hres_cons rfl (hres_cons rfl (hres_cons rfl (hres_nil _)))) ⟨⟨_, rfl, rfl, rfl⟩, ⟨_, rfl, rfl, rfl⟩, ⟨_, rfl, rfl, rfl⟩, trivial⟩ rfl) ?_;refine aQ tok 2 rfl ?_;refine aop 56 (fun hb5 => ?_) fun hb5 => ?_
  ·
   refine aQ tok 4 rfl ?_;refine an ?_;refine act ?_;refine agt ?_;refine ⟨[], trivial, rfl, ?_⟩
   rw [show (mblk call s fuel f (fuel.toNat + 1) 0 (List.replicate f.regs.toNat 0) m) = _ from fin_C hF hk hI hge (by first | exact .inl (by simpa using ‹(!(mstep fuel r.m).1) = true›) | exact .inr ‹_›)]
   exact HSub.put (HSub.put (HSub.put (HSub.none _) rfl) rfl) rfl
  have hst : (mstep fuel r.m).1 = true := by simpa using hb5
  refine aQ tok 4 rfl ?_;refine an ?_;refine asp 60 (fun hb6 => ?_) fun hb6 => ?_
  ·
   refine act ?_;refine agt ?_;refine ⟨[], trivial, rfl, ?_⟩
   rw [show (mblk call s fuel f (fuel.toNat + 1) 0 (List.replicate f.regs.toNat 0) m) = _ from fin_C hF hk hI hge (by first | exact .inl (by simpa using ‹(!(mstep fuel r.m).1) = true›) | exact .inr ‹_›)]
   exact HSub.put (HSub.put (HSub.put (HSub.none _) rfl) rfl) rfl
  refine acf ?_;refine agk ?_;refine asr ?_;refine aQ tok 3 rfl ?_;refine an ?_;refine asr ?_;refine aQ tok 4 rfl ?_;refine aop 66 (fun hb7 => ?_) fun hb7 => ?_
  ·
   have hv := ends_v hks.1 hb7
   refine aQ tok 3 rfl ?_;refine aq 70 (q_index_ref tok rfl rfl rfl rfl rfl rfl rfl (by rw [regCells_len, hI.len]) rfl hv.1 (by have := hv.2; omega)) ?_;refine aq 71 (q_load tok rfl rfl rfl (.ptr _ _ _ _ _ _ _ _ rfl (by rw [regCells_len, hI.len]) (rcell (by have := hv; have := hI.len; omega))) rfl) ?_;refine aQ tok 2 rfl ?_;refine an ?_;refine asp 73 (fun hb8 => ?_) fun hb8 => ?_
   ·
    refine act ?_;refine agr ?_;refine aQ tok 3 rfl ?_;refine an ?_
    have hft : (k.fin == 3) = false := by simp_all
    have hnx := hF.next hk hI hge hst hft (ends_next hks.1 hft r.regs)
    exact ⟨⟨k.next r.regs, r.regs, (mstep fuel r.m).2, q.g - 1⟩, Drop.mk' z13q z14q, hnx.1, hnx.2⟩
   refine acf ?_;refine agk ?_
   have hft : (k.fin == 3) = false := by simp_all
   have hnx := hF.next hk hI hge hst hft (ends_next hks.1 hft r.regs)
   exact ⟨⟨k.next r.regs, r.regs, (mstep fuel r.m).2, q.g - 1⟩, Drop.mk' z13q z14q, hnx.1, hnx.2⟩
  refine aQ tok 7 rfl ?_;refine an ?_;refine acf ?_;refine agk ?_
  have hft : (k.fin == 3) = false := by simp_all
  have hnx := hF.next hk hI hge hst hft (ends_next hks.1 hft r.regs)
  exact ⟨⟨k.next r.regs, r.regs, (mstep fuel r.m).2, q.g - 1⟩, Drop.mk' z13q z14q, hnx.1, hnx.2⟩
 refine acf ?_
 have hbad := hb1
 refine AGo.exit ?_;exact absurd hF.fin (by simpa using hbad)
theorem fun_ok (b : Blocks) (s : ByteArray) (fuel : Int) (hfu : fuel ≤ 9223372036854775807) (hs : s.size ≤ 9223372036854775807) (hb : b.right = true) (hbw : b.insW) (hbl : ∀ f ∈ b.funcs, ∀ x ∈ f.blocks, x.ins.length ≤ maxLen) :
    ∀ (n : Nat) (i : Int) (m : Mach), 0 ≤ i → i < n → i < b.funcs.length → m.fin = 0 → m.good b.words.toNat → ACall Tryz.prog 39 [.ptr 0 1 0 0, .int .i64 i] (mheap hNew b s fuel m) (fun r h' => r = .tup [] ∧ HSub (mheap hNone b s fuel (mfun b s fuel n i m)) h')
  | 0, i, m, h1, h2, _, _, _ => absurd h2 (by omega)
  | n + 1, i, m, h1, h2, h3, h4, h5 => by
    obtain ⟨f, hf⟩ := get_of_lt (l := b.funcs) (k := i.toNat) (by omega)
    have hr := right_spec hb
    have hfm := List.mem_of_getElem? hf
    have hone : f.one i b.words = true := by
      have := hr.2.2.2 i.toNat f hf
      rwa [Int.toNat_of_nonneg h1] at this
    have key := fun_step b s fuel (mfun b s fuel n) i f m hfu hs hr.2.1 hf h1 hone (hbw f hfm) (hbl f hfm)
      (fun j m' j1 j2 j3 j4 => fun_ok b s fuel hfu hs hb hbw hbl n j m' j1 (by omega) (by omega) j3 j4) (fun j m' hg => mfun_good hbw n j m' hg) (fun j m' => mfun_steps n j m') h5 h4
    have e : mfun b s fuel (n + 1) i m = mblk (mfun b s fuel n) s fuel f (fuel.toNat + 1) 0 (List.replicate f.regs.toNat 0) m := by
      rw [mfun, hf]
    rw [e]; exact key
theorem run_ok (b : Blocks) (s : ByteArray) (fuel : Int) (hfu : fuel ≤ 9223372036854775807) (hs : s.size ≤ 9223372036854775807) (hb : b.right = true) (hbw : b.insW) (hbl : ∀ f ∈ b.funcs, ∀ x ∈ f.blocks, x.ins.length ≤ maxLen) : APure Tryz.prog 26 [.agg b.cells, .str s, .int .i64 fuel] (fun r => r = .agg (resCells (mrun b s fuel))) := by
 have hr := right_spec hb
 have hne : 0 < b.funcs.length := List.length_pos_iff.2 hr.2.2.1
 refine APure.of_body (n := 51) tok Tryz.func26 rfl rfl ?_;refine asq ?_;refine AGo.slot 0 rfl (fun H ι v => rel_prog) (fun hfit => ?_)
 refine agr ?_;refine ax 3 (obx 2 3) ?_;refine ax 6 (oal tok 4) ?_;refine an ?_;refine asq ?_;refine asr ?_;refine aQ tok 4 rfl ?_;refine an ?_;refine asp 11 (fun hb1 => ?_) fun hb1 => ?_
 ·
  refine act ?_;refine asr ?_;refine aq 12 (q_build tok rfl rfl rfl rfl rfl (by decide) rfl rfl rfl) ?_;refine AOps.w rfl rfl (o_store tok rfl rfl rfl rfl rfl rfl rfl rfl rfl (by decide) rfl z33q) ?_;refine an ?_;refine agt ?_;exact absurd hne (by have h := hb1; simp [funcsAV] at h; simp [h])
 refine acf ?_;refine agk ?_;refine asq ?_;refine AGo.join (γ := Unit) (fun _u => ⟨51, (eput (eput (eput (eput (eput eNew 0 (.agg b.cells)) 1 (.str s)) 3 (.ptr 3 1 0 0)) 6 (.ptr 4 1 0 0)) 2 (.int .i64 (fuel0 fuel))), (hput (hput (hput (hput (hput (hFrom 5) 3 (.row false 2 [b.cells])) 4 (.row false 3 [[.int .i64 0, .str .empty, .int .i64 0]])) 0 .free) 1 .free) 2 .free)⟩) (fun _u => True) ?_ ?_
 ·
  refine asr ?_;refine aQ tok 2 rfl ?_;refine an ?_;refine asp 14 (fun hb2 => ?_) fun hb2 => ?_
  ·
   refine act ?_;refine agr ?_;refine aa 2 ?_;refine an ?_;exact ⟨(), Sub.mk' (by repeat (first | exact ESub.new _ | refine ESub.put ?_ (by first | rfl | exact congrArg (fun (n : Int) => some (AV.int .i64 n)) (by simp [fuel0, *])))) z9q, trivial⟩
  refine acf ?_;refine agk ?_;exact ⟨(), Sub.mk' (by repeat (first | exact ESub.new _ | refine ESub.put ?_ (by first | rfl | exact congrArg (fun (n : Int) => some (AV.int .i64 n)) (by simp [fuel0, *])))) z9q, trivial⟩
 intro _u _
 refine asq ?_
 have hfu0 : fuel0 fuel ≤ 9223372036854775807 := by unfold fuel0; cases decide (fuel < 0) <;> simp <;> omega
 have m0_good : (m0 b).good b.words.toNat := ⟨by simp [m0], allR_rep _, by simp [m0]⟩
 refine AGo.draw mix ?_;refine dQ tok 5 rfl ?_;refine dx 20 (o_makeSlice tok (n := b.words.toNat) (m := b.words.toNat) 1 true rfl rfl rfl (by have := hr.1; omega) (by have := hr.1; omega) rfl rfl rfl rfl rfl (Nat.zero_lt_succ _) rfl (Nat.le_refl _) (by show 4 * b.words.toNat ≤ _; have := hr.2.1; omega) (by simp only [maxLen]; have := hr.2.1; omega)) ?_;refine dq 21 (q_build tok rfl rfl rfl rfl rfl (by decide) rfl rfl rfl) ?_;refine dx 22 (obx 9 0) ?_;refine da 7 ?_;refine DOps.nil (by kernel_rfl) ?_;refine asq ?_;refine AGo.ghost (.dryCell 0 0 5 2 1 true rfl rfl rfl rfl rfl (by decide)) ?_;refine AGo.sub (s' := ⟨51, (eput (eput (eput (eput (eput eNew 0 (.agg b.cells)) 1 (.str s)) 3 (.ptr 3 1 0 0)) 6 (.ptr 4 1 0 0)) 7 (.ptr 0 1 0 0)), (hput (hput (hput (hput (hput hNone 0 (.row false 9 [runCells b s (fuel0 fuel) (m0 b)])) 1 (.row true 1 (regCells ((m0 b)).words))) 2 (.row true 1 (byteCells ((m0 b)).out))) 3 (.row false 2 [b.cells])) 4 (.row false 3 [[.int .i64 0, .str .empty, .int .i64 0]]))⟩) (Sub.mk' z29q z6q) ?_
 refine agr ?_
 have hmx := hfit.1
 refine aQ tok 4 rfl ?_;refine aq 27 (q_bin (r := .int .i64 ((b.funcs.length : Int) - 1)) rfl rfl rfl (by simp only [evalBin, evalInt, isShift, cond_false, if_true]; rw [List.length_map, wrap_i64 (by omega) (by simp only [maxLen] at hmx; omega)])) ?_;refine ax 28 (oct (fun_ok b s (fuel0 fuel) hfu0 hs hb hbw hbl b.funcs.length ((b.funcs.length : Int) - 1) (m0 b) (by omega) (by omega) (by omega) rfl m0_good) [2, 1, 0] [(0, (.row false 9 [runCells b s (fuel0 fuel) (mfun b s (fuel0 fuel) b.funcs.length ((b.funcs.length : Int) - 1) (m0 b))])), (1, (.row true 1 (regCells ((mfun b s (fuel0 fuel) b.funcs.length ((b.funcs.length : Int) - 1) (m0 b))).words))), (2, (.row true 1 (byteCells ((mfun b s (fuel0 fuel) b.funcs.length ((b.funcs.length : Int) - 1) (m0 b))).out)))] rfl Tryz.func39 (by kernel_rfl) rfl rfl rfl ⟨⟨_, rfl, rfl⟩, ⟨_, rfl, rfl⟩, ⟨_, rfl, rfl⟩, trivial⟩ rfl (hres_cons rfl (hres_cons rfl (hres_cons rfl (hres_nil _)))) ⟨⟨_, rfl, rfl, rfl⟩, ⟨_, rfl, rfl, rfl⟩, ⟨_, rfl, rfl, rfl⟩, trivial⟩ rfl) ?_
 refine an ?_;refine asq ?_;refine AGo.join (γ := Mach) (fun m => ⟨51, (eput (eput (eput (eput (eput eNew 0 (.agg b.cells)) 1 (.str s)) 3 (.ptr 3 1 0 0)) 6 (.ptr 4 1 0 0)) 7 (.ptr 0 1 0 0)), (hput (hput (hput (hput (hput hNone 0 (.row false 9 [runCells b s (fuel0 fuel) m])) 1 (.row true 1 (regCells (m).words))) 2 (.row true 1 (byteCells (m).out))) 3 (.row false 2 [b.cells])) 4 (.row false 3 [[.int .i64 0, .str .empty, .int .i64 0]]))⟩) (fun m => m = mrun b s fuel) ?_ ?_
 ·
  refine asr ?_;refine aQ tok 5 rfl ?_;refine an ?_;refine asp 33 (fun hb3 => ?_) fun hb3 => ?_
  ·
   refine act ?_;refine agr ?_;refine aQ tok 3 rfl ?_;refine AOps.w rfl rfl (o_store tok rfl rfl rfl rfl rfl rfl rfl rfl rfl (by decide) rfl z33q) ?_;refine an ?_;exact ⟨{ (mfun b s (fuel0 fuel) b.funcs.length ((b.funcs.length : Int) - 1) (m0 b)) with fin := 1 }, Sub.mk' z29q z9q, (by simp [mrun, *])⟩
  refine acf ?_;refine agk ?_;exact ⟨(mfun b s (fuel0 fuel) b.funcs.length ((b.funcs.length : Int) - 1) (m0 b)), Sub.mk' z29q z9q, (by simp [mrun, *])⟩
 intro m hm
 refine asq ?_;refine AGo.ghost (.freezeCell 0 0 5 2 rfl rfl rfl rfl (by simp [byteCells]) (by decide)) ?_;refine AGo.draw mix ?_;refine dQ tok 8 rfl ?_;refine dq 45 (q_bytesStr (l := m.out) tok rfl (by show some (AV.lst false _) = _; rw [List.drop_zero, List.take_of_length_le (by simp [byteCells])]) rfl rfl rfl rfl rfl rfl) ?_;refine dQ tok 4 rfl ?_;refine dq 50 (q_build tok rfl rfl rfl rfl rfl (by decide) rfl rfl rfl) ?_;refine DOps.w rfl rfl (o_store tok rfl rfl rfl rfl rfl rfl rfl rfl rfl (by decide) rfl z33q) ?_;refine DOps.nil (by kernel_rfl) ?_;refine agt ?_;refine ⟨[_], ⟨⟨_, _, _, _, rfl, rfl, .ptr _ _ _ _ _ _ _ _ rfl rfl rfl, rfl⟩, trivial⟩, ?_, rfl⟩
 subst hm
 rfl
theorem alike_ok (a b : Blocks) (s : ByteArray) (n : Int) (hn : 0 ≤ n ∧ n ≤ 1000) (hs : s.size ≤ 1000000) (ha : a.right = true) (hb : b.right = true) (haw : a.insW) (hbw : b.insW) (hac : a.count ≤ 1048576) (hbc : b.count ≤ 1048576) (hP : PS a b) : APure Tryz.prog 19 [.agg a.cells, .agg b.cells, .str s, .int .i64 n] (fun r => r = .bool true) := by
 have hcap := mrun_cap a s hn.1
 have hrun : (mrun a s n).fin ≠ 5 → (mrun b s (((((mrun a s n).steps + 1) * (b.count + 1) : Nat) : Nat) : Int)).fin = (mrun a s n).fin ∧ (mrun b s (((((mrun a s n).steps + 1) * (b.count + 1) : Nat) : Nat) : Int)).out = (mrun a s n).out := fun h => run_alike hP s n (K := b.count + 1) (fun f hf x hx => by have := count_ins hf hx; omega) (by rw [Nat.mul_comm]; exact Int.le_refl _) h
 have hmul : ((mrun a s n).steps + 1) * (b.count + 1) ≤ 1001 * 1048577 := Nat.mul_le_mul (by omega) (by omega)
 refine APure.of_body (n := 40) tok Tryz.func19 rfl rfl ?_;refine asr ?_;refine ax 4 (obx 2 0) ?_;refine ax 5 (obx 2 1) ?_;refine aa 8 ?_;refine an ?_;refine asr ?_;refine aQ tok 3 rfl ?_;refine ax 14 (opu Tryz.func26 (run_ok a s n (by omega) (by omega) ha haw (fun f hf x hx => by have := count_ins hf hx; simp only [maxLen]; omega))) ?_
 refine ax 9 (oal tok 2) ?_;refine AOps.w rfl rfl (o_store tok rfl rfl rfl rfl rfl rfl rfl rfl rfl (by decide) rfl z33q) ?_;refine an ?_;refine asq ?_;refine asr ?_;refine aQ tok 3 rfl ?_;refine an ?_;refine asp 17 (fun hb1 => ?_) fun hb1 => ?_
 ·
  refine act ?_
  skip
  refine asr ?_;refine aa 8 ?_;refine an ?_;refine agt ⟨[_], ⟨rfl, trivial⟩, ?_, rfl⟩
  rfl
 refine acf ?_
 have h5 : (mrun a s n).fin ≠ 5 := by simpa using hb1
 obtain ⟨hr1, hr2⟩ := hrun h5
 refine agk ?_;refine asq ?_;refine AGo.draw mix ?_;refine dQ tok 4 rfl ?_;refine dq 22 (q_bin (r := .int .i64 (((mrun a s n).steps + 1 : Nat) : Int)) rfl rfl rfl (by simp only [evalBin, evalInt, isShift, cond_false, if_true]; rw [wrap_i64 (by omega) (by omega)]; rfl)) ?_;refine dl 23 tok ?_;refine dx 24 (opu Tryz.func27 (rsize_ok b (by omega))) ?_;refine dq 25 (q_bin (r := .int .i64 ((b.count + 1 : Nat) : Int)) rfl rfl rfl (by simp only [evalBin, evalInt, isShift, cond_false, if_true]; rw [wrap_i64 (by omega) (by omega)]; rfl)) ?_;refine dq 26 (q_bin (r := .int .i64 ((((mrun a s n).steps + 1) * (b.count + 1) : Nat) : Int)) rfl rfl rfl (by simp only [evalBin, evalInt, isShift, cond_false, if_true]; rw [← Int.natCast_mul, wrap_i64 (by omega) (by omega)])) ?_;refine dx 27 (opu Tryz.func26 (run_ok b s ((((mrun a s n).steps + 1) * (b.count + 1) : Nat) : Int) (by omega) (by omega) hb hbw (fun f hf x hx => by have := count_ins hf hx; simp only [maxLen]; omega))) ?_
 refine dx 10 (oal tok 3) ?_;refine DOps.w rfl rfl (o_store tok rfl rfl rfl rfl rfl rfl rfl rfl rfl (by decide) rfl z33q) ?_;refine DOps.nil (by kernel_rfl) ?_;refine asr ?_;refine aQ tok 6 rfl ?_;refine aop 33 (fun hb2 => ?_) fun hb2 => ?_
 ·
  refine aQ tok 7 rfl ?_;refine an ?_;refine agt ⟨[_], ⟨rfl, trivial⟩, ?_, rfl⟩
  refine bc ?_
  first | (rw [hr2]; simp; done) | (exfalso; simp_all)
 refine aQ tok 7 rfl ?_;refine an ?_;refine agt ⟨[_], ⟨rfl, trivial⟩, ?_, rfl⟩
 refine bc ?_
 first | (rw [hr2]; simp; done) | (exfalso; simp_all)
theorem optimizeTrue_ok (z : Ask35) (hz : AskLim z) : APure Tryz.prog 6 [.agg z.cells] (fun r => r = .bool true) := by
 obtain ⟨hO, hN, hl, hOw, hNw⟩ := hz
 refine APure.of_body (n := 27) tok Tryz.func6 rfl rfl ?_;refine asr ?_;refine ax 1 (obx 6 0) ?_;refine aa 2 ?_;refine an ?_;refine asq ?_;refine asr ?_;refine al 3 tok ?_;refine ax 4 (opu Tryz.func20 (few35_ok z hO hN hl)) ?_;refine aQ tok 2 rfl ?_;refine aop 6 (fun hb1 => ?_) fun hb1 => ?_
 ·
  refine aQ tok 9 rfl ?_;refine an ?_;refine act ?_;refine asr ?_;refine ax 16 (opu Tryz.func14 (awake_ev tiny_of vlog_ok)) ?_;refine aa 2 ?_;refine an ?_;refine agt ⟨[_], ⟨rfl, trivial⟩, ?_, rfl⟩
  rfl
 have hF := few35_of (z := z) (by simpa using hb1)
 refine aQ tok 6 rfl ?_;refine ax 13 (opu Tryz.func18 (checkL_ok z.old z.new z.l hO.n (hF.old.i hOw) (fun ps hp => ⟨Nat.le_trans (hF.pass hl ps hp).1 (by decide), (hF.pass hl ps hp).2⟩))) ?_;refine aQ tok 2 rfl ?_;refine an ?_;refine asp 15 (fun hb2 => ?_) fun hb2 => ?_
 ·
  refine act ?_;refine asr ?_;refine ax 16 (opu Tryz.func14 (awake_ev tiny_of vlog_ok)) ?_;refine aa 2 ?_;refine an ?_;refine agt ⟨[_], ⟨rfl, trivial⟩, ?_, rfl⟩
  rfl
 refine acf ?_
 have hck : ocheck z.old z.new z.l = true := by simpa using hb2
 refine agk ?_;refine asr ?_;refine ax 17 (opu Tryz.func14 (awake_ev tiny_of vlog_ok)) ?_;refine aQ tok 7 rfl ?_;refine ax 25 (opu Tryz.func19 (alike_ok z.old z.new z.s 200 (by decide) (by have := hF.s; omega) hF.old.r (ocheck_spec hck).2.1 hOw hNw hO.c hN.c (ocheck_ps hOw hl.w hck))) ?_;refine aQ tok 2 rfl ?_;refine an ?_;refine agt ⟨[_], ⟨rfl, trivial⟩, ?_, rfl⟩
 rfl
end Go.Proofs.YtbbfelelocccmaaGreat.Sv

namespace Go.Proofs.YtbbfelelocccmaaGreat
open Go.ChangeShapes Go.WideShapes Go.ChangeAt Go.RowKit Sv
section
variable {H : Type} {enc : TypeId × Value → H} {W : World}
theorem decStr : Dec enc Tryz.prog W 9 (fun s : ByteArray => [.str s]) (fun s => s.size ≤ maxLen ∧ s.size ≤ reachBytes) := Dec.string' tok rfl rfl
end
end Go.Proofs.YtbbfelelocccmaaGreat

namespace Go.Proofs.YtbbfelelocccmaaGreat
open Go Go.ChangeShapes Go.WideShapes Go.ChangeAt Go.RowKit Sv
section
variable {H : Type} {enc : TypeId × Value → H} {W : World}
theorem decIntsR : DecR enc Tryz.prog W 25 (fun l : List Int => [intsAV l]) (fun l n => (∀ x ∈ l, isI x) ∧ l.length + 1 ≤ n) := fun fuel cs x h hw => by
  obtain ⟨l, h1, _, h2⟩ := DecR.slice' (j := ty3) tok rfl rfl rfl (Nat.zero_lt_succ _) (DecR.of (Dec.int' tok rfl rfl)) fuel cs x h hw
  refine ⟨l, h1, fun y hy => ?_, h2.len (fun a m h => h.2)⟩
  obtain ⟨m, hm, _⟩ := h2.all y hy; exact wf_i64 hm.1
theorem decPathsR : DecR enc Tryz.prog W 38 (fun l : List (List Int) => [pathsAV l]) (fun l n => l.length + 1 ≤ n ∧ ∀ r ∈ l, r.length + 1 ≤ n) := fun fuel cs x h hw => by
  obtain ⟨l, h1, _, h2⟩ := DecR.slice' (j := ty25) tok rfl rfl rfl (Nat.zero_lt_succ _) decIntsR fuel cs x h hw
  refine ⟨l, h1, h2.len (fun a m h => by have := h.2; omega), fun y hy => ?_⟩
  obtain ⟨m, hm, h3⟩ := h2.all y hy; have := hm.2; omega
theorem decBools : Dec enc Tryz.prog W 112 (fun l : List Bool => [boolsAV l]) (fun l => l.length * 1 ≤ reachBytes ∧ ∀ n ∈ l, True) := Dec.slice' (j := ty4) tok rfl rfl rfl (Nat.zero_lt_succ _) (Dec.bool' tok rfl rfl)
theorem decRowsR : DecR enc Tryz.prog W 35 (fun l : List (List Bool) => [rowsAV l]) (fun l n => l.length ≤ n) := fun fuel cs x h hw => by
  obtain ⟨l, h1, _, h2⟩ := DecR.slice' (j := ty112) tok rfl rfl rfl (Nat.zero_lt_succ _) (DecR.of decBools) fuel cs x h hw
  exact ⟨l, h1, by have := h2.len (fun a m h => h.2); omega⟩
theorem decCertR : DecR enc Tryz.prog W 37 Cert.cells (fun c n => c.same.length ≤ n) := fun fuel cs x h hw => by
  obtain ⟨hl, hp⟩ := struct_partsR tok (i := ty37) rfl rfl h hw
  have hl' : cs.length = 1 := hl
  obtain ⟨x0, a0, m0, b0, c0⟩ := hp 0 _ _ rfl decRowsR
  have k0 := app1 tok (n := 1) rfl rfl (Reads.nil W cs) a0 (by omega)
  exact ⟨⟨x0⟩, k0.all hl', (by show x0.length ≤ _; omega)⟩
def PassN (p : OPass) (n : Nat) : Prop := p.f.Ok ∧ isI p.kind ∧ p.f.count + 1 ≤ n ∧ p.paths.length ≤ n ∧ (∀ r ∈ p.paths, r.length ≤ n) ∧ p.cert.same.length ≤ n
theorem decPassR : DecR enc Tryz.prog W 43 OPass.cells PassN := fun fuel cs x h hw => by
  obtain ⟨hl, hp⟩ := struct_partsR (i := ty43) tok rfl rfl h hw
  have hl' : cs.length = 5 := hl
  obtain ⟨x0, a0, _, _, b0, _⟩ := hp 0 _ _ rfl (DecR.of (Dec.int' tok rfl rfl))
  obtain ⟨x1, a1, m1, c1, b1⟩ := hp 1 _ _ rfl decCertR
  obtain ⟨x2, a2, m2, c2, d2, e2⟩ := hp 2 _ _ rfl decPathsR
  obtain ⟨x3, a3, m3, c3, d3, e3⟩ := hp 3 _ _ rfl decBFuncR
  have k0 := app1 tok (n := 1) rfl rfl (Reads.nil W cs) a0 (by omega)
  have k1 := app1 tok (n := 1) rfl rfl k0 a1 (by omega)
  have k2 := app1 tok (n := 1) rfl rfl k1 a2 (by omega)
  have k3 := app1 tok (n := 2) rfl rfl k2 a3 (by omega)
  exact ⟨⟨x0, x1, x2, x3⟩, k3.all hl', d3, wf_i64 b0, (by show x3.count + 1 ≤ _; omega), (by show x2.length ≤ _; omega), fun r hr => by have := e2 r hr; omega, (by show x1.same.length ≤ _; omega)⟩
def ListsN (ls : List (List OPass)) (n : Nat) : Prop := ls.length + 1 ≤ n ∧ ∀ ps ∈ ls, ps.length ≤ n ∧ ∀ p ∈ ps, PassN p n
theorem PassN.mono {p : OPass} {m n : Nat} (h : PassN p m) (hm : m ≤ n) : PassN p n := ⟨h.1, h.2.1, Nat.le_trans h.2.2.1 hm, Nat.le_trans h.2.2.2.1 hm, fun r hr => Nat.le_trans (h.2.2.2.2.1 r hr) hm, Nat.le_trans h.2.2.2.2.2 hm⟩
theorem decListsR : DecR enc Tryz.prog W 28 (fun ls : List (List OPass) => [listAV ls]) ListsN := fun fuel cs x h hw => by
  obtain ⟨ls, h1, _, h2⟩ := DecR.slice' (j := ty34) tok rfl rfl rfl (Nat.zero_lt_succ _) (DecR.slice' (j := ty43) tok rfl rfl rfl (Nat.zero_lt_succ _) decPassR) fuel cs x h hw
  have one : ∀ (a : OPass) (m : Nat), PassN a m → 1 ≤ m := fun a m h => by have := h.2.2.1; omega
  refine ⟨ls, h1, h2.len (fun a m h => by have := h.2.len one; omega), fun ps hps => ?_⟩
  obtain ⟨m, ⟨_, hm⟩, h3⟩ := h2.all ps hps
  refine ⟨by have := hm.len one; omega, fun p hp => ?_⟩
  obtain ⟨k, hk, h4⟩ := hm.all p hp
  exact hk.mono (by omega)
theorem lists_row {ls : List (List OPass)} {n : Nat} (h : ListsN ls n) (hn : n ≤ 1048576) : ListLim ls := by
  refine ⟨by have := h.1; omega, fun ps hp => by have := (h.2 ps hp).1; omega, fun ps hp p hpp => ?_⟩
  have q := ((h.2 ps hp).2 p hpp).mono hn
  exact ⟨by have := q.2.2.1; omega, fun x hx => BFunc.Ok.insW q.1 hx, q.2.2.2.1, q.2.2.2.2.1⟩
theorem words_row {b : Blocks} (h : b.Ok) : ∀ f ∈ b.funcs, f.words := fun f hf x hx => BFunc.Ok.insW (h.funcs f hf) hx
def AskN (z : Ask35) (n : Nat) : Prop := (z.old.Ok ∧ z.old.count + z.old.funcs.length ≤ n) ∧ (z.new.Ok ∧ z.new.count + z.new.funcs.length ≤ n) ∧ ListsN z.l n
theorem decAskR : DecR enc Tryz.prog W 48 Ask35.cells AskN := fun fuel cs x h hw => by
  obtain ⟨hl, hp⟩ := struct_partsR (i := ty48) tok rfl rfl h hw
  have hl' : cs.length = 6 := hl
  obtain ⟨x0, a0, m0, c0, d0, e0⟩ := hp 0 _ _ rfl decBlocksR
  obtain ⟨x1, a1, m1, c1, d1, e1⟩ := hp 1 _ _ rfl decBlocksR
  obtain ⟨x2, a2, m2, c2, d2, e2⟩ := hp 2 _ _ rfl decListsR
  obtain ⟨x3, a3, _, _, b3, _⟩ := hp 3 _ _ rfl (DecR.of decStr)
  have k0 := app1 tok (n := 2) rfl rfl (Reads.nil W cs) a0 (by omega)
  have k1 := app1 tok (n := 2) rfl rfl k0 a1 (by omega)
  have k2 := app1 tok (n := 1) rfl rfl k1 a2 (by omega)
  have k3 := app1 tok (n := 1) rfl rfl k2 a3 (by omega)
  refine ⟨⟨x0, x1, x2, x3⟩, k3.all hl', ⟨d0, (by show x0.count + x0.funcs.length ≤ _; omega)⟩, ⟨d1, (by show x1.count + x1.funcs.length ≤ _; omega)⟩, (by show x2.length + 1 ≤ _; omega), fun ps hps => ?_⟩
  have := e2 ps hps
  exact ⟨by omega, fun p hp => (this.2 p hp).mono (by omega)⟩
theorem ask_row {z : Ask35} {n : Nat} (h : AskN z n) (hn : n ≤ 1048576) : AskLim z := ⟨lim_row h.1 hn, lim_row h.2.1 hn, lists_row h.2.2 hn, words_row h.1.1, words_row h.2.1.1⟩
end
end Go.Proofs.YtbbfelelocccmaaGreat

namespace Go.Proofs.YtbbfelelocccmaaGreat
open Go.ChangeShapes Go.WideShapes Go.ChangeAt Go.RowKit Sv
set_option linter.unusedVariables false

set_option maxRecDepth 100000 in
theorem optimizeTrue_lifted (os : Os) (started : os.Started) (H : Type) (enc : TypeId × Value → H) (F : Stop.Interp) :
    ReturnsInHanded {} Tryz.checked os 6 .any ((Rows.OpenSpec.upto Rows.optimizeTrueSpec).pre6 enc Tryz.prog Tryz.f6 Rows.optimizeTrueUptoRow.domain false) (((Rows.OpenSpec.upto Rows.optimizeTrueSpec).at F).post enc Tryz.prog Tryz.f6 false true false false) := by
  refine returnsInHanded_of_cond_sized (C := Tryz.checked) (s := Rows.OpenSpec.upto Rows.optimizeTrueSpec) (k := Rows.uptoSmall) rfl own' started (by kernel_rfl) Tryz.func6
    (OpenSpec.witness (enc := enc) (C := Tryz.checked) (s := Rows.OpenSpec.upto Rows.optimizeTrueSpec) (k := Rows.uptoSmall) rfl false ⟨#[], #[.agg #[.int .i64 0, .slice none 0 0, .int .i64 0, .slice none 0 0, .slice none 0 0, .string ⟨#[]⟩]], []⟩ 8 (by kernel_rfl) (by kernel_rfl) (by kernel_rfl) (x := ([.agg [.agg [.lit (.int .i64 0), .nil], .agg [.lit (.int .i64 0), .nil], .nil, .lit (.string [])]], [], [])) (by kernel_rfl) rfl (by kernel_rfl)) ?_
  intro W base args ds gs before hval0 hW hcnd hk hwt0 hh
  have hval : ∀ (j : Nat) t v, Tryz.f6.params[j]? = some t → args[j]? = some v → Value.okWide Tryz.prog W .any base t v := hval0
  have hW' := hW
  obtain ⟨p, q, hA0, hV, rfl, hfz, hnd⟩ := hW
  have hA : DataW.TrodAll enc Tryz.prog W 0 (fun _ => true) true Tryz.f6.params.toList args.toList ds p := hA0
  have hwt : (DataW.weightsEach Tryz.prog (Tryz.f6.params.toList ++ (Rows.OpenSpec.upto Rows.optimizeTrueSpec).bare.plain.varTypes Tryz.prog) (ds ++ gs)).all (· ≤ reachBytes) = true := hwt0
  rw [Tryz.params6] at hA hval hwt
  obtain ⟨v0, vs0, d0, ds0, p0, q0, hargs, rfl, rfl, h0, r0⟩ := trodAll_cons hA
  obtain ⟨rfl, rfl, rfl⟩ := trodAll_nil r0
  obtain rfl : args = #[v0] := by cases args; simp_all
  obtain ⟨rfl, rfl⟩ := trodVars_none hV
  obtain ⟨x0, e0, g0⟩ := arg_oneR h0 (weightsEach_get hwt (i := 0) rfl rfl) decAskR
  have u0 := upto_get hk (i := 0) rfl
  exact law_calls laidOut' rfl (by kernel_rfl) rfl bool' rfl rfl rfl hW' (.cons (e0.val (okWide_agg tok rfl rfl (hval 0 48 v0 rfl rfl))) .nil) (optimizeTrue_ok x0 (ask_row g0 u0)) (fun g l h => by cases h)

theorem optimizeTrue_holds : Rows.OptimizeTrueUptoSaid :=
  OpenClaim.holds_of_cond 6 Tryz.f6 rfl rfl rfl rfl rfl rfl rfl ⟨rfl, rfl, rfl, rfl, rfl⟩ rfl rfl rfl rfl rfl (by kernel_rfl) Tryz.func6 (by kernel_rfl)
    (of_decide_eq_true (by kernel_rfl)) (by unfold Func.isWrapper; first | (rw [if_pos (by decide +kernel)]; kernel_rfl) | (rw [if_neg (by decide +kernel)]; exact ⟨rfl, rfl⟩))
    (fun os started H enc _ F => optimizeTrue_lifted os started H enc F)

end Go.Proofs.YtbbfelelocccmaaGreat
