/-
  WALKS: printed by a program of our own from the code's tree.
  WALKS: printed by a program of our own from the code's tree.
  WALKS: printed by a program of our own from the code's tree.
  WALKS: printed by a program of our own from the code's tree.
  WALKS: printed by a program of our own from the code's tree.
  WALKS: printed by a program of our own from the code's tree.
  WALKS: printed by a program of our own from the code's tree.
  WALKS: printed by a program of our own from the code's tree.
-/
import Derived.Test.YtpijoieooikfgaaPValidMeans4
import Derived.Test.YtpijoieooikfgaaPValidMeans3
import Derived.Test.YtpijoieooikfgaaPValidMeans2
namespace Go.Proofs.Ytpijoieooikfgaa.Sv
open Go

set_option maxHeartbeats 2000000 in
set_option maxRecDepth 100000 in
theorem vstepa_ok (first : Int) (R m : Nat) (w : VW) (h : VOk first R m w) (hm : m ≤ 80000) (t : Tac) (ht : TacV t R) : ACall Try.prog 35 [.ptr 6 1 0 0, .agg t.cells] (hput (hput (hput (hput (hput (hput hNew 3 (.map (kvsA .i64 (vmap first ((w).K))))) 4 (.row false 3 [[.int .i64 first, .map 3, slA 9 (((w).K).map (arrAV .i64))]])) 9 (slO 4 (((w).K).map (arrAV .i64)))) 6 (.row false 4 [[.ptr 4 1 0 0, vaA 5 (valC ((w).vals)), slA 10 (((w).effs).map (arrAV .i64)), .int .i64 ((w).time)]])) 5 (vaO (valC ((w).vals)))) 10 (slO 6 (((w).effs).map (arrAV .i64)))) (fun r h' => r = .tup [] ∧ HSub (hput (hput (hput (hput (hput (hput hNone 3 (.map (kvsA .i64 (vmap first (((w.step first t)).K))))) 4 (.row false 3 [[.int .i64 first, .map 3, slA 9 ((((w.step first t)).K).map (arrAV .i64))]])) 9 (slO 4 ((((w.step first t)).K).map (arrAV .i64)))) 6 (.row false 4 [[.ptr 4 1 0 0, vaA 5 (valC (((w.step first t)).vals)), slA 10 ((((w.step first t)).effs).map (arrAV .i64)), .int .i64 (((w.step first t)).time)]])) 5 (vaO (valC (((w.step first t)).vals)))) 10 (slO 6 ((((w.step first t)).effs).map (arrAV .i64)))) h') := by
 have hel := h.el
 have hkl := h.kl
 have htl := h.tl
 refine ACall.of_body (n := 148) tok Try.func35 rfl rfl ?_
 refine AGo.seq ?_
 refine AGo.region ?_
 refine ax 3 (o_box (sz := 8) 12 rfl rfl rfl rfl (Nat.zero_lt_succ _) rfl) ?_
 refine AOps.nil ?_
 refine AGo.seq ?_
 refine AGo.region ?_
 refine am 5 ?_
 refine aq 6 (q_nilCheck rfl rfl rfl) ?_
 refine af 7 tok ?_
 refine al 8 tok ?_
 refine aa 4 ?_
 refine AOps.nil ?_
 refine AGo.seq ?_
 refine AGo.region ?_
 refine af 9 tok ?_
 refine al 10 tok ?_
 refine AOps.nil ?_
 refine AGo.block ?_
 refine AGo.seq ?_
 refine AGo.region ?_
 refine aq 12 (q_bin rfl rfl rfl rfl) ?_
 refine aa 11 ?_
 refine AOps.nil ?_
 refine AGo.split 11 rfl (fun hb1 => ?_) (fun hb1 => ?_)
 ·
  refine AGo.cond_true true rfl rfl ?_
  have ho : t.op = 1 := by simpa using hb1
  have hxd := h.at (ht.d (by rw [ho]; rfl))
  
  refine AGo.draw mix ?_
  refine dm 13 ?_
  refine df 14 tok ?_
  refine dl 15 tok ?_
  refine dm 16 ?_
  refine dq 17 (q_nilCheck rfl rfl rfl) ?_
  refine df 18 tok ?_
  refine dl 19 tok ?_
  refine df 20 tok ?_
  refine dl 21 tok ?_
  refine dq 22 (q_convTo tok rfl rfl rfl rfl rfl (r := t.n) (by obtain ⟨h1, h2⟩ := ht.n; exact wrap_i64 (by omega) (by omega))) ?_
  refine dq 23 (q_build_arr tok rfl rfl rfl rfl rfl rfl (by decide) rfl rfl) ?_
  refine dx 24 (o_call (hc := (hput (hput (hput hNew 3 (.map (kvsA .i64 (vmap first (w.K))))) 4 (.row false 3 [[.int .i64 first, .map 3, slA 9 ((w.K).map (arrAV .i64))]])) 9 (slO 4 ((w.K).map (arrAV .i64))))) (hw := (hput (hput (hput hNone 3 (.map (kvsA .i64 (vmap first ((vnum first w.K [1, t.n, 0, 0]).2))))) 4 (.row false 3 [[.int .i64 first, .map 3, slA 9 (((vnum first w.K [1, t.n, 0, 0]).2).map (arrAV .i64))]])) 9 (slO 4 (((vnum first w.K [1, t.n, 0, 0]).2).map (arrAV .i64))))) [9, 4, 3] [(3, (.map (kvsA .i64 (vmap first ((vnum first w.K [1, t.n, 0, 0]).2))))), (4, (.row false 3 [[.int .i64 first, .map 3, slA 9 (((vnum first w.K [1, t.n, 0, 0]).2).map (arrAV .i64))]])), (9, (slO 4 (((vnum first w.K [1, t.n, 0, 0]).2).map (arrAV .i64))))] rfl Try.func45 (by kernel_rfl) rfl rfl rfl ⟨⟨_, rfl, (by first | rfl | exact slO_avoid _ _ | exact vaO_avoid _ | exact tab_avoid _ _ rfl rfl | exact wlk_avoid _ _ _ rfl rfl rfl)⟩, ⟨_, rfl, (by first | rfl | exact slO_avoid _ _ | exact vaO_avoid _ | exact tab_avoid _ _ rfl rfl | exact wlk_avoid _ _ _ rfl rfl rfl)⟩, ⟨_, rfl, (by first | rfl | exact slO_avoid _ _ | exact vaO_avoid _ | exact tab_avoid _ _ rfl rfl | exact wlk_avoid _ _ _ rfl rfl rfl)⟩, trivial⟩ rfl (hres_cons rfl (hres_cons rfl (hres_cons rfl (hres_nil _)))) ⟨⟨_, rfl, rfl, (by first | rfl | exact slO_avoid _ _ | exact vaO_avoid _ | exact tab_avoid _ _ rfl rfl | exact wlk_avoid _ _ _ rfl rfl rfl)⟩, ⟨_, rfl, rfl, (by first | rfl | exact slO_avoid _ _ | exact vaO_avoid _ | exact tab_avoid _ _ rfl rfl | exact wlk_avoid _ _ _ rfl rfl rfl)⟩, ⟨_, rfl, rfl, (by first | rfl | exact slO_avoid _ _ | exact vaO_avoid _ | exact tab_avoid _ _ rfl rfl | exact wlk_avoid _ _ _ rfl rfl rfl)⟩, trivial⟩ rfl (number_ok first w.K h.f h.k4 (by omega) (1) (t.n) (0) (0))) ?_
  refine dq 25 (q_indexV tok rfl rfl rfl rfl rfl rfl rfl rfl hxd.1 hxd.2.2.1) ?_
  refine DOps.w rfl rfl (o_storeV tok rfl rfl rfl rfl rfl rfl rfl (by have h1 := hxd.2.2.1; have h0 := hxd.1; omega) (valC_one _) rfl rfl rfl) ?_
  refine DOps.nil (by kernel_rfl) ?_
  refine ⟨[], trivial, rfl, ?_⟩
  rw [vstep1 ho]
  exact HSub.put (HSub.put (HSub.put (HSub.put (HSub.put (HSub.put (HSub.none _) rfl) rfl) rfl) (by show _ = some (AObj.row false 4 [[.ptr 4 1 0 0, vaA 5 (valC (rset w.vals t.d _)), slA 10 (w.effs.map (arrAV .i64)), .int .i64 w.time]]); rw [valC_vaA]; rfl)) (by show _ = some (vaO (valC (rset w.vals t.d _))); rw [valC_set]; rfl)) rfl
 ·
  refine AGo.cond_false false rfl rfl ?_
  refine AGo.seq ?_
  refine AGo.region ?_
  refine aq 27 (q_bin rfl rfl rfl rfl) ?_
  refine aa 26 ?_
  refine AOps.nil ?_
  refine AGo.split 26 rfl (fun hb2 => ?_) (fun hb2 => ?_)
  ·
   refine AGo.cond_true true rfl rfl ?_
   have ho : t.op = 2 := by simpa using hb2
   have hxd := h.at (ht.d (by rw [ho]; rfl))
   have hxa := h.at (ht.a (.inl (by rw [ho]; rfl)))
   
   refine AGo.draw mix ?_
   refine dm 28 ?_
   refine df 29 tok ?_
   refine dl 30 tok ?_
   refine dm 31 ?_
   refine df 32 tok ?_
   refine dl 33 tok ?_
   refine dq 34 (q_indexV tok rfl rfl rfl rfl rfl rfl rfl rfl hxa.1 hxa.2.2.1) ?_
   refine dq 35 (q_load tok rfl rfl rfl (ptsV rfl (valC_get ⟨hxa.1, hxa.2.1⟩)) rfl) ?_
   refine dq 36 (q_indexV tok rfl rfl rfl rfl rfl rfl rfl rfl hxd.1 hxd.2.2.1) ?_
   refine DOps.w rfl rfl (o_storeV tok rfl rfl rfl rfl rfl rfl rfl (by have h1 := hxd.2.2.1; have h0 := hxd.1; omega) (valC_one _) rfl rfl rfl) ?_
   refine DOps.nil (by kernel_rfl) ?_
   refine ⟨[], trivial, rfl, ?_⟩
   rw [vstep2 ho]
   exact HSub.put (HSub.put (HSub.put (HSub.put (HSub.put (HSub.put (HSub.none _) rfl) rfl) rfl) (by show _ = some (AObj.row false 4 [[.ptr 4 1 0 0, vaA 5 (valC (rset w.vals t.d _)), slA 10 (w.effs.map (arrAV .i64)), .int .i64 w.time]]); rw [valC_vaA]; rfl)) (by show _ = some (vaO (valC (rset w.vals t.d _))); rw [valC_set]; rfl)) rfl
  ·
   refine AGo.cond_false false rfl rfl ?_
   refine AGo.seq ?_
   refine AGo.region ?_
   refine aq 38 (q_bin rfl rfl rfl rfl) ?_
   refine aa 37 ?_
   refine AOps.nil ?_
   refine AGo.split 37 rfl (fun hb3 => ?_) (fun hb3 => ?_)
   ·
    refine AGo.cond_true true rfl rfl ?_
    have ho : t.op = 3 := by simpa using hb3
    
    refine AGo.region ?_
    refine am 39 ?_
    refine al 40 tok ?_
    refine ax 41 (o_call (hc := (hput (hput (hput (hput (hput (hput hNew 3 (.map (kvsA .i64 (vmap first ((w).K))))) 4 (.row false 3 [[.int .i64 first, .map 3, slA 9 (((w).K).map (arrAV .i64))]])) 9 (slO 4 (((w).K).map (arrAV .i64)))) 6 (.row false 4 [[.ptr 4 1 0 0, vaA 5 (valC ((w).vals)), slA 10 (((w).effs).map (arrAV .i64)), .int .i64 ((w).time)]])) 5 (vaO (valC ((w).vals)))) 10 (slO 6 (((w).effs).map (arrAV .i64))))) (hw := (hput (hput (hput (hput (hput (hput hNone 3 (.map (kvsA .i64 (vmap first (((w.bin first t)).K))))) 4 (.row false 3 [[.int .i64 first, .map 3, slA 9 ((((w.bin first t)).K).map (arrAV .i64))]])) 9 (slO 4 ((((w.bin first t)).K).map (arrAV .i64)))) 6 (.row false 4 [[.ptr 4 1 0 0, vaA 5 (valC (((w.bin first t)).vals)), slA 10 ((((w.bin first t)).effs).map (arrAV .i64)), .int .i64 (((w.bin first t)).time)]])) 5 (vaO (valC (((w.bin first t)).vals)))) 10 (slO 6 ((((w.bin first t)).effs).map (arrAV .i64))))) [10, 5, 6, 9, 4, 3] [(3, (.map (kvsA .i64 (vmap first (((w.bin first t)).K))))), (4, (.row false 3 [[.int .i64 first, .map 3, slA 9 ((((w.bin first t)).K).map (arrAV .i64))]])), (9, (slO 4 ((((w.bin first t)).K).map (arrAV .i64)))), (6, (.row false 4 [[.ptr 4 1 0 0, vaA 5 (valC (((w.bin first t)).vals)), slA 10 ((((w.bin first t)).effs).map (arrAV .i64)), .int .i64 (((w.bin first t)).time)]])), (5, (vaO (valC (((w.bin first t)).vals)))), (10, (slO 6 ((((w.bin first t)).effs).map (arrAV .i64))))] rfl Try.func46 (by kernel_rfl) rfl rfl rfl ⟨⟨_, rfl, (by first | rfl | exact slO_avoid _ _ | exact vaO_avoid _ | exact tab_avoid _ _ rfl rfl | exact wlk_avoid _ _ _ rfl rfl rfl)⟩, ⟨_, rfl, (by first | rfl | exact slO_avoid _ _ | exact vaO_avoid _ | exact tab_avoid _ _ rfl rfl | exact wlk_avoid _ _ _ rfl rfl rfl)⟩, ⟨_, rfl, (by first | rfl | exact slO_avoid _ _ | exact vaO_avoid _ | exact tab_avoid _ _ rfl rfl | exact wlk_avoid _ _ _ rfl rfl rfl)⟩, ⟨_, rfl, (by first | rfl | exact slO_avoid _ _ | exact vaO_avoid _ | exact tab_avoid _ _ rfl rfl | exact wlk_avoid _ _ _ rfl rfl rfl)⟩, ⟨_, rfl, (by first | rfl | exact slO_avoid _ _ | exact vaO_avoid _ | exact tab_avoid _ _ rfl rfl | exact wlk_avoid _ _ _ rfl rfl rfl)⟩, ⟨_, rfl, (by first | rfl | exact slO_avoid _ _ | exact vaO_avoid _ | exact tab_avoid _ _ rfl rfl | exact wlk_avoid _ _ _ rfl rfl rfl)⟩, trivial⟩ rfl (hres_cons rfl (hres_cons rfl (hres_cons rfl (hres_cons rfl (hres_cons rfl (hres_cons rfl (hres_nil _))))))) ⟨⟨_, rfl, rfl, (by first | rfl | exact slO_avoid _ _ | exact vaO_avoid _ | exact tab_avoid _ _ rfl rfl | exact wlk_avoid _ _ _ rfl rfl rfl)⟩, ⟨_, rfl, rfl, (by first | rfl | exact slO_avoid _ _ | exact vaO_avoid _ | exact tab_avoid _ _ rfl rfl | exact wlk_avoid _ _ _ rfl rfl rfl)⟩, ⟨_, rfl, rfl, (by first | rfl | exact slO_avoid _ _ | exact vaO_avoid _ | exact tab_avoid _ _ rfl rfl | exact wlk_avoid _ _ _ rfl rfl rfl)⟩, ⟨_, rfl, rfl, (by first | rfl | exact slO_avoid _ _ | exact vaO_avoid _ | exact tab_avoid _ _ rfl rfl | exact wlk_avoid _ _ _ rfl rfl rfl)⟩, ⟨_, rfl, rfl, (by first | rfl | exact slO_avoid _ _ | exact vaO_avoid _ | exact tab_avoid _ _ rfl rfl | exact wlk_avoid _ _ _ rfl rfl rfl)⟩, ⟨_, rfl, rfl, (by first | rfl | exact slO_avoid _ _ | exact vaO_avoid _ | exact tab_avoid _ _ rfl rfl | exact wlk_avoid _ _ _ rfl rfl rfl)⟩, trivial⟩ rfl (binarya_ok first R m w h (by omega) t (ht.d (by rw [ho]; rfl)) (ht.a (.inr (by rw [ho]; rfl))) (ht.b (by rw [ho]; rfl)))) ?_
    refine AOps.nil ?_
    refine ⟨[], trivial, rfl, ?_⟩
    rw [vstep3 ho]
    exact HSub.put (HSub.put (HSub.put (HSub.put (HSub.put (HSub.put (HSub.none _) rfl) rfl) rfl) rfl) rfl) rfl
   ·
    refine AGo.cond_false false rfl rfl ?_
    refine AGo.seq ?_
    refine AGo.region ?_
    refine aq 43 (q_bin rfl rfl rfl rfl) ?_
    refine aa 42 ?_
    refine AOps.nil ?_
    refine AGo.split 42 rfl (fun hb4 => ?_) (fun hb4 => ?_)
    ·
     refine AGo.cond_true true rfl rfl ?_
     have ho : t.op = 4 := by simpa using hb4
     have hxd := h.at (ht.d (by rw [ho]; rfl))
     
     refine AGo.draw mix ?_
     refine dm 44 ?_
     refine df 45 tok ?_
     refine dl 46 tok ?_
     refine dm 47 ?_
     refine dq 48 (q_nilCheck rfl rfl rfl) ?_
     refine df 49 tok ?_
     refine dl 50 tok ?_
     refine df 51 tok ?_
     refine dl 52 tok ?_
     refine dm 53 ?_
     refine dq 54 (q_nilCheck rfl rfl rfl) ?_
     refine df 55 tok ?_
     refine dl 56 tok ?_
     refine dq 57 (q_build_arr tok rfl rfl rfl rfl rfl rfl (by decide) rfl rfl) ?_
     refine dx 58 (o_call (hc := (hput (hput (hput hNew 3 (.map (kvsA .i64 (vmap first (w.K))))) 4 (.row false 3 [[.int .i64 first, .map 3, slA 9 ((w.K).map (arrAV .i64))]])) 9 (slO 4 ((w.K).map (arrAV .i64))))) (hw := (hput (hput (hput hNone 3 (.map (kvsA .i64 (vmap first ((vnum first w.K [3, t.base, w.time, 0]).2))))) 4 (.row false 3 [[.int .i64 first, .map 3, slA 9 (((vnum first w.K [3, t.base, w.time, 0]).2).map (arrAV .i64))]])) 9 (slO 4 (((vnum first w.K [3, t.base, w.time, 0]).2).map (arrAV .i64))))) [9, 4, 3] [(3, (.map (kvsA .i64 (vmap first ((vnum first w.K [3, t.base, w.time, 0]).2))))), (4, (.row false 3 [[.int .i64 first, .map 3, slA 9 (((vnum first w.K [3, t.base, w.time, 0]).2).map (arrAV .i64))]])), (9, (slO 4 (((vnum first w.K [3, t.base, w.time, 0]).2).map (arrAV .i64))))] rfl Try.func45 (by kernel_rfl) rfl rfl rfl ⟨⟨_, rfl, (by first | rfl | exact slO_avoid _ _ | exact vaO_avoid _ | exact tab_avoid _ _ rfl rfl | exact wlk_avoid _ _ _ rfl rfl rfl)⟩, ⟨_, rfl, (by first | rfl | exact slO_avoid _ _ | exact vaO_avoid _ | exact tab_avoid _ _ rfl rfl | exact wlk_avoid _ _ _ rfl rfl rfl)⟩, ⟨_, rfl, (by first | rfl | exact slO_avoid _ _ | exact vaO_avoid _ | exact tab_avoid _ _ rfl rfl | exact wlk_avoid _ _ _ rfl rfl rfl)⟩, trivial⟩ rfl (hres_cons rfl (hres_cons rfl (hres_cons rfl (hres_nil _)))) ⟨⟨_, rfl, rfl, (by first | rfl | exact slO_avoid _ _ | exact vaO_avoid _ | exact tab_avoid _ _ rfl rfl | exact wlk_avoid _ _ _ rfl rfl rfl)⟩, ⟨_, rfl, rfl, (by first | rfl | exact slO_avoid _ _ | exact vaO_avoid _ | exact tab_avoid _ _ rfl rfl | exact wlk_avoid _ _ _ rfl rfl rfl)⟩, ⟨_, rfl, rfl, (by first | rfl | exact slO_avoid _ _ | exact vaO_avoid _ | exact tab_avoid _ _ rfl rfl | exact wlk_avoid _ _ _ rfl rfl rfl)⟩, trivial⟩ rfl (number_ok first w.K h.f h.k4 (by omega) (3) (t.base) (w.time) (0))) ?_
     refine dq 59 (q_indexV tok rfl rfl rfl rfl rfl rfl rfl rfl hxd.1 hxd.2.2.1) ?_
     refine DOps.w rfl rfl (o_storeV tok rfl rfl rfl rfl rfl rfl rfl (by have h1 := hxd.2.2.1; have h0 := hxd.1; omega) (valC_one _) rfl rfl rfl) ?_
     refine DOps.nil (by kernel_rfl) ?_
     refine ⟨[], trivial, rfl, ?_⟩
     rw [vstep4 ho]
     exact HSub.put (HSub.put (HSub.put (HSub.put (HSub.put (HSub.put (HSub.none _) rfl) rfl) rfl) (by show _ = some (AObj.row false 4 [[.ptr 4 1 0 0, vaA 5 (valC (rset w.vals t.d _)), slA 10 (w.effs.map (arrAV .i64)), .int .i64 w.time]]); rw [valC_vaA]; rfl)) (by show _ = some (vaO (valC (rset w.vals t.d _))); rw [valC_set]; rfl)) rfl
    ·
     refine AGo.cond_false false rfl rfl ?_
     refine AGo.seq ?_
     refine AGo.region ?_
     refine aq 61 (q_bin rfl rfl rfl rfl) ?_
     refine aa 60 ?_
     refine AOps.nil ?_
     refine AGo.split 60 rfl (fun hb5 => ?_) (fun hb5 => ?_)
     ·
      refine AGo.cond_true true rfl rfl ?_
      have ho : t.op = 5 := by simpa using hb5
      have hxa := h.at (ht.a (.inl (by rw [ho]; rfl)))
      
      refine AGo.seq ?_
      refine AGo.draw mix ?_
      refine dm 62 ?_
      refine dl 63 tok ?_
      refine dm 64 ?_
      refine df 65 tok ?_
      refine dl 66 tok ?_
      refine dq 67 (q_indexV tok rfl rfl rfl rfl rfl rfl rfl rfl hxa.1 hxa.2.2.1) ?_
      refine dq 68 (q_load tok rfl rfl rfl (ptsV rfl (valC_get ⟨hxa.1, hxa.2.1⟩)) rfl) ?_
      refine dx 69 (o_call (hc := (hput (hput (hput (hput (hput (hput hNew 3 (.map (kvsA .i64 (vmap first ((w).K))))) 4 (.row false 3 [[.int .i64 first, .map 3, slA 9 (((w).K).map (arrAV .i64))]])) 9 (slO 4 (((w).K).map (arrAV .i64)))) 6 (.row false 4 [[.ptr 4 1 0 0, vaA 5 (valC ((w).vals)), slA 10 (((w).effs).map (arrAV .i64)), .int .i64 ((w).time)]])) 5 (vaO (valC ((w).vals)))) 10 (slO 6 (((w).effs).map (arrAV .i64))))) (hw := (hput (hput (hput (hput (hput (hput hNone 3 (.map (kvsA .i64 (vmap first (((w.hap t (rget w.vals t.a) 0)).K))))) 4 (.row false 3 [[.int .i64 first, .map 3, slA 9 ((((w.hap t (rget w.vals t.a) 0)).K).map (arrAV .i64))]])) 9 (slO 4 ((((w.hap t (rget w.vals t.a) 0)).K).map (arrAV .i64)))) 6 (.row false 4 [[.ptr 4 1 0 0, vaA 5 (valC (((w.hap t (rget w.vals t.a) 0)).vals)), slA 10 ((((w.hap t (rget w.vals t.a) 0)).effs).map (arrAV .i64)), .int .i64 (((w.hap t (rget w.vals t.a) 0)).time)]])) 5 (vaO (valC (((w.hap t (rget w.vals t.a) 0)).vals)))) 10 (slO 6 ((((w.hap t (rget w.vals t.a) 0)).effs).map (arrAV .i64))))) [10, 5, 6, 9, 4, 3] [(3, (.map (kvsA .i64 (vmap first (((w.hap t (rget w.vals t.a) 0)).K))))), (4, (.row false 3 [[.int .i64 first, .map 3, slA 9 ((((w.hap t (rget w.vals t.a) 0)).K).map (arrAV .i64))]])), (9, (slO 4 ((((w.hap t (rget w.vals t.a) 0)).K).map (arrAV .i64)))), (6, (.row false 4 [[.ptr 4 1 0 0, vaA 5 (valC (((w.hap t (rget w.vals t.a) 0)).vals)), slA 10 ((((w.hap t (rget w.vals t.a) 0)).effs).map (arrAV .i64)), .int .i64 (((w.hap t (rget w.vals t.a) 0)).time)]])), (5, (vaO (valC (((w.hap t (rget w.vals t.a) 0)).vals)))), (10, (slO 6 ((((w.hap t (rget w.vals t.a) 0)).effs).map (arrAV .i64))))] rfl Try.func47 (by kernel_rfl) rfl rfl rfl ⟨⟨_, rfl, (by first | rfl | exact slO_avoid _ _ | exact vaO_avoid _ | exact tab_avoid _ _ rfl rfl | exact wlk_avoid _ _ _ rfl rfl rfl)⟩, ⟨_, rfl, (by first | rfl | exact slO_avoid _ _ | exact vaO_avoid _ | exact tab_avoid _ _ rfl rfl | exact wlk_avoid _ _ _ rfl rfl rfl)⟩, ⟨_, rfl, (by first | rfl | exact slO_avoid _ _ | exact vaO_avoid _ | exact tab_avoid _ _ rfl rfl | exact wlk_avoid _ _ _ rfl rfl rfl)⟩, ⟨_, rfl, (by first | rfl | exact slO_avoid _ _ | exact vaO_avoid _ | exact tab_avoid _ _ rfl rfl | exact wlk_avoid _ _ _ rfl rfl rfl)⟩, ⟨_, rfl, (by first | rfl | exact slO_avoid _ _ | exact vaO_avoid _ | exact tab_avoid _ _ rfl rfl | exact wlk_avoid _ _ _ rfl rfl rfl)⟩, ⟨_, rfl, (by first | rfl | exact slO_avoid _ _ | exact vaO_avoid _ | exact tab_avoid _ _ rfl rfl | exact wlk_avoid _ _ _ rfl rfl rfl)⟩, trivial⟩ rfl (hres_cons rfl (hres_cons rfl (hres_cons rfl (hres_cons rfl (hres_cons rfl (hres_cons rfl (hres_nil _))))))) ⟨⟨_, rfl, rfl, (by first | rfl | exact slO_avoid _ _ | exact vaO_avoid _ | exact tab_avoid _ _ rfl rfl | exact wlk_avoid _ _ _ rfl rfl rfl)⟩, ⟨_, rfl, rfl, (by first | rfl | exact slO_avoid _ _ | exact vaO_avoid _ | exact tab_avoid _ _ rfl rfl | exact wlk_avoid _ _ _ rfl rfl rfl)⟩, ⟨_, rfl, rfl, (by first | rfl | exact slO_avoid _ _ | exact vaO_avoid _ | exact tab_avoid _ _ rfl rfl | exact wlk_avoid _ _ _ rfl rfl rfl)⟩, ⟨_, rfl, rfl, (by first | rfl | exact slO_avoid _ _ | exact vaO_avoid _ | exact tab_avoid _ _ rfl rfl | exact wlk_avoid _ _ _ rfl rfl rfl)⟩, ⟨_, rfl, rfl, (by first | rfl | exact slO_avoid _ _ | exact vaO_avoid _ | exact tab_avoid _ _ rfl rfl | exact wlk_avoid _ _ _ rfl rfl rfl)⟩, ⟨_, rfl, rfl, (by first | rfl | exact slO_avoid _ _ | exact vaO_avoid _ | exact tab_avoid _ _ rfl rfl | exact wlk_avoid _ _ _ rfl rfl rfl)⟩, trivial⟩ rfl (happensa_ok first R m w h (by omega) t (rget w.vals t.a) 0)) ?_
      refine DOps.nil (by kernel_rfl) ?_
      refine AGo.region ?_
      refine am 70 ?_
      refine aq 71 (q_nilCheck rfl rfl rfl) ?_
      refine af 72 tok ?_
      refine al 73 tok ?_
      refine aq 74 (q_bin (r := .int .i64 (w.time + 1)) rfl rfl rfl (by exact timeZ (x := w.time) (by omega))) ?_
      refine aq 75 (q_nilCheck rfl rfl rfl) ?_
      refine af 76 tok ?_
      refine AOps.w rfl rfl (o_store tok rfl rfl rfl rfl rfl rfl rfl rfl rfl (by decide) rfl (by first | exact fun _ => rfl | (intro h; cases h))) ?_
      refine AOps.nil ?_
      refine ⟨[], trivial, rfl, ?_⟩
      rw [vstep5 ho]
      exact HSub.put (HSub.put (HSub.put (HSub.put (HSub.put (HSub.put (HSub.none _) rfl) rfl) rfl) rfl) rfl) rfl
     ·
      refine AGo.cond_false false rfl rfl ?_
      refine AGo.seq ?_
      refine AGo.region ?_
      refine aq 78 (q_bin rfl rfl rfl rfl) ?_
      refine aa 77 ?_
      refine AOps.nil ?_
      refine AGo.split 77 rfl (fun hb6 => ?_) (fun hb6 => ?_)
      ·
       refine AGo.cond_true true rfl rfl ?_
       have ho : t.op = 6 := by simpa using hb6
       have hxd := h.at (ht.d (by rw [ho]; rfl))
       have hxa := h.at (ht.a (.inl (by rw [ho]; rfl)))
       
       refine AGo.seq ?_
       refine AGo.draw mix ?_
       refine dm 79 ?_
       refine dl 80 tok ?_
       refine dm 81 ?_
       refine df 82 tok ?_
       refine dl 83 tok ?_
       refine dq 84 (q_indexV tok rfl rfl rfl rfl rfl rfl rfl rfl hxa.1 hxa.2.2.1) ?_
       refine dq 85 (q_load tok rfl rfl rfl (ptsV rfl (valC_get ⟨hxa.1, hxa.2.1⟩)) rfl) ?_
       refine dx 86 (o_call (hc := (hput (hput (hput (hput (hput (hput hNew 3 (.map (kvsA .i64 (vmap first ((w).K))))) 4 (.row false 3 [[.int .i64 first, .map 3, slA 9 (((w).K).map (arrAV .i64))]])) 9 (slO 4 (((w).K).map (arrAV .i64)))) 6 (.row false 4 [[.ptr 4 1 0 0, vaA 5 (valC ((w).vals)), slA 10 (((w).effs).map (arrAV .i64)), .int .i64 ((w).time)]])) 5 (vaO (valC ((w).vals)))) 10 (slO 6 (((w).effs).map (arrAV .i64))))) (hw := (hput (hput (hput (hput (hput (hput hNone 3 (.map (kvsA .i64 (vmap first (((w.hap t (rget w.vals t.a) 0)).K))))) 4 (.row false 3 [[.int .i64 first, .map 3, slA 9 ((((w.hap t (rget w.vals t.a) 0)).K).map (arrAV .i64))]])) 9 (slO 4 ((((w.hap t (rget w.vals t.a) 0)).K).map (arrAV .i64)))) 6 (.row false 4 [[.ptr 4 1 0 0, vaA 5 (valC (((w.hap t (rget w.vals t.a) 0)).vals)), slA 10 ((((w.hap t (rget w.vals t.a) 0)).effs).map (arrAV .i64)), .int .i64 (((w.hap t (rget w.vals t.a) 0)).time)]])) 5 (vaO (valC (((w.hap t (rget w.vals t.a) 0)).vals)))) 10 (slO 6 ((((w.hap t (rget w.vals t.a) 0)).effs).map (arrAV .i64))))) [10, 5, 6, 9, 4, 3] [(3, (.map (kvsA .i64 (vmap first (((w.hap t (rget w.vals t.a) 0)).K))))), (4, (.row false 3 [[.int .i64 first, .map 3, slA 9 ((((w.hap t (rget w.vals t.a) 0)).K).map (arrAV .i64))]])), (9, (slO 4 ((((w.hap t (rget w.vals t.a) 0)).K).map (arrAV .i64)))), (6, (.row false 4 [[.ptr 4 1 0 0, vaA 5 (valC (((w.hap t (rget w.vals t.a) 0)).vals)), slA 10 ((((w.hap t (rget w.vals t.a) 0)).effs).map (arrAV .i64)), .int .i64 (((w.hap t (rget w.vals t.a) 0)).time)]])), (5, (vaO (valC (((w.hap t (rget w.vals t.a) 0)).vals)))), (10, (slO 6 ((((w.hap t (rget w.vals t.a) 0)).effs).map (arrAV .i64))))] rfl Try.func47 (by kernel_rfl) rfl rfl rfl ⟨⟨_, rfl, (by first | rfl | exact slO_avoid _ _ | exact vaO_avoid _ | exact tab_avoid _ _ rfl rfl | exact wlk_avoid _ _ _ rfl rfl rfl)⟩, ⟨_, rfl, (by first | rfl | exact slO_avoid _ _ | exact vaO_avoid _ | exact tab_avoid _ _ rfl rfl | exact wlk_avoid _ _ _ rfl rfl rfl)⟩, ⟨_, rfl, (by first | rfl | exact slO_avoid _ _ | exact vaO_avoid _ | exact tab_avoid _ _ rfl rfl | exact wlk_avoid _ _ _ rfl rfl rfl)⟩, ⟨_, rfl, (by first | rfl | exact slO_avoid _ _ | exact vaO_avoid _ | exact tab_avoid _ _ rfl rfl | exact wlk_avoid _ _ _ rfl rfl rfl)⟩, ⟨_, rfl, (by first | rfl | exact slO_avoid _ _ | exact vaO_avoid _ | exact tab_avoid _ _ rfl rfl | exact wlk_avoid _ _ _ rfl rfl rfl)⟩, ⟨_, rfl, (by first | rfl | exact slO_avoid _ _ | exact vaO_avoid _ | exact tab_avoid _ _ rfl rfl | exact wlk_avoid _ _ _ rfl rfl rfl)⟩, trivial⟩ rfl (hres_cons rfl (hres_cons rfl (hres_cons rfl (hres_cons rfl (hres_cons rfl (hres_cons rfl (hres_nil _))))))) ⟨⟨_, rfl, rfl, (by first | rfl | exact slO_avoid _ _ | exact vaO_avoid _ | exact tab_avoid _ _ rfl rfl | exact wlk_avoid _ _ _ rfl rfl rfl)⟩, ⟨_, rfl, rfl, (by first | rfl | exact slO_avoid _ _ | exact vaO_avoid _ | exact tab_avoid _ _ rfl rfl | exact wlk_avoid _ _ _ rfl rfl rfl)⟩, ⟨_, rfl, rfl, (by first | rfl | exact slO_avoid _ _ | exact vaO_avoid _ | exact tab_avoid _ _ rfl rfl | exact wlk_avoid _ _ _ rfl rfl rfl)⟩, ⟨_, rfl, rfl, (by first | rfl | exact slO_avoid _ _ | exact vaO_avoid _ | exact tab_avoid _ _ rfl rfl | exact wlk_avoid _ _ _ rfl rfl rfl)⟩, ⟨_, rfl, rfl, (by first | rfl | exact slO_avoid _ _ | exact vaO_avoid _ | exact tab_avoid _ _ rfl rfl | exact wlk_avoid _ _ _ rfl rfl rfl)⟩, ⟨_, rfl, rfl, (by first | rfl | exact slO_avoid _ _ | exact vaO_avoid _ | exact tab_avoid _ _ rfl rfl | exact wlk_avoid _ _ _ rfl rfl rfl)⟩, trivial⟩ rfl (happensa_ok first R m w h (by omega) t (rget w.vals t.a) 0)) ?_
       refine DOps.nil (by kernel_rfl) ?_
       refine AGo.draw mix ?_
       refine dm 87 ?_
       refine df 88 tok ?_
       refine dl 89 tok ?_
       refine dm 90 ?_
       refine dx 91 (o_call (hc := (hput (hput (hput (hput (hput (hput hNew 3 (.map (kvsA .i64 (vmap first (((w.hap t (rget w.vals t.a) 0)).K))))) 4 (.row false 3 [[.int .i64 first, .map 3, slA 9 ((((w.hap t (rget w.vals t.a) 0)).K).map (arrAV .i64))]])) 9 (slO 4 ((((w.hap t (rget w.vals t.a) 0)).K).map (arrAV .i64)))) 6 (.row false 4 [[.ptr 4 1 0 0, vaA 5 (valC (((w.hap t (rget w.vals t.a) 0)).vals)), slA 10 ((((w.hap t (rget w.vals t.a) 0)).effs).map (arrAV .i64)), .int .i64 (((w.hap t (rget w.vals t.a) 0)).time)]])) 5 (vaO (valC (((w.hap t (rget w.vals t.a) 0)).vals)))) 10 (slO 6 ((((w.hap t (rget w.vals t.a) 0)).effs).map (arrAV .i64))))) (hw := (hput (hput (hput (hput (hput (hput hNone 3 (.map (kvsA .i64 (vmap first ((vunk first (w.hap t (rget w.vals t.a) 0)).2))))) 4 (.row false 3 [[.int .i64 first, .map 3, slA 9 (((vunk first (w.hap t (rget w.vals t.a) 0)).2).map (arrAV .i64))]])) 9 (slO 4 (((vunk first (w.hap t (rget w.vals t.a) 0)).2).map (arrAV .i64)))) 6 (.row false 4 [[.ptr 4 1 0 0, vaA 5 (valC (((w.hap t (rget w.vals t.a) 0)).vals)), slA 10 ((((w.hap t (rget w.vals t.a) 0)).effs).map (arrAV .i64)), .int .i64 (((w.hap t (rget w.vals t.a) 0)).time)]])) 5 (vaO (valC (((w.hap t (rget w.vals t.a) 0)).vals)))) 10 (slO 6 ((((w.hap t (rget w.vals t.a) 0)).effs).map (arrAV .i64))))) [10, 5, 6, 9, 4, 3] [(3, (.map (kvsA .i64 (vmap first ((vunk first (w.hap t (rget w.vals t.a) 0)).2))))), (4, (.row false 3 [[.int .i64 first, .map 3, slA 9 (((vunk first (w.hap t (rget w.vals t.a) 0)).2).map (arrAV .i64))]])), (9, (slO 4 (((vunk first (w.hap t (rget w.vals t.a) 0)).2).map (arrAV .i64)))), (6, (.row false 4 [[.ptr 4 1 0 0, vaA 5 (valC (((w.hap t (rget w.vals t.a) 0)).vals)), slA 10 ((((w.hap t (rget w.vals t.a) 0)).effs).map (arrAV .i64)), .int .i64 (((w.hap t (rget w.vals t.a) 0)).time)]])), (5, (vaO (valC (((w.hap t (rget w.vals t.a) 0)).vals)))), (10, (slO 6 ((((w.hap t (rget w.vals t.a) 0)).effs).map (arrAV .i64))))] rfl Try.func48 (by kernel_rfl) rfl rfl rfl ⟨⟨_, rfl, (by first | rfl | exact slO_avoid _ _ | exact vaO_avoid _ | exact tab_avoid _ _ rfl rfl | exact wlk_avoid _ _ _ rfl rfl rfl)⟩, ⟨_, rfl, (by first | rfl | exact slO_avoid _ _ | exact vaO_avoid _ | exact tab_avoid _ _ rfl rfl | exact wlk_avoid _ _ _ rfl rfl rfl)⟩, ⟨_, rfl, (by first | rfl | exact slO_avoid _ _ | exact vaO_avoid _ | exact tab_avoid _ _ rfl rfl | exact wlk_avoid _ _ _ rfl rfl rfl)⟩, ⟨_, rfl, (by first | rfl | exact slO_avoid _ _ | exact vaO_avoid _ | exact tab_avoid _ _ rfl rfl | exact wlk_avoid _ _ _ rfl rfl rfl)⟩, ⟨_, rfl, (by first | rfl | exact slO_avoid _ _ | exact vaO_avoid _ | exact tab_avoid _ _ rfl rfl | exact wlk_avoid _ _ _ rfl rfl rfl)⟩, ⟨_, rfl, (by first | rfl | exact slO_avoid _ _ | exact vaO_avoid _ | exact tab_avoid _ _ rfl rfl | exact wlk_avoid _ _ _ rfl rfl rfl)⟩, trivial⟩ rfl (hres_cons rfl (hres_cons rfl (hres_cons rfl (hres_cons rfl (hres_cons rfl (hres_cons rfl (hres_nil _))))))) ⟨⟨_, rfl, rfl, (by first | rfl | exact slO_avoid _ _ | exact vaO_avoid _ | exact tab_avoid _ _ rfl rfl | exact wlk_avoid _ _ _ rfl rfl rfl)⟩, ⟨_, rfl, rfl, (by first | rfl | exact slO_avoid _ _ | exact vaO_avoid _ | exact tab_avoid _ _ rfl rfl | exact wlk_avoid _ _ _ rfl rfl rfl)⟩, ⟨_, rfl, rfl, (by first | rfl | exact slO_avoid _ _ | exact vaO_avoid _ | exact tab_avoid _ _ rfl rfl | exact wlk_avoid _ _ _ rfl rfl rfl)⟩, ⟨_, rfl, rfl, (by first | rfl | exact slO_avoid _ _ | exact vaO_avoid _ | exact tab_avoid _ _ rfl rfl | exact wlk_avoid _ _ _ rfl rfl rfl)⟩, ⟨_, rfl, rfl, (by first | rfl | exact slO_avoid _ _ | exact vaO_avoid _ | exact tab_avoid _ _ rfl rfl | exact wlk_avoid _ _ _ rfl rfl rfl)⟩, ⟨_, rfl, rfl, (by first | rfl | exact slO_avoid _ _ | exact vaO_avoid _ | exact tab_avoid _ _ rfl rfl | exact wlk_avoid _ _ _ rfl rfl rfl)⟩, trivial⟩ rfl (unknowna_ok first R (m + 1) (w.hap t (rget w.vals t.a) 0) (h.eff rfl) (by omega))) ?_
       refine dq 92 (q_indexV tok rfl rfl rfl rfl rfl rfl rfl rfl hxd.1 hxd.2.2.1) ?_
       refine DOps.w rfl rfl (o_storeV tok rfl rfl rfl rfl rfl rfl rfl (by have h1 := hxd.2.2.1; have h0 := hxd.1; omega) (valC_one _) rfl rfl rfl) ?_
       refine DOps.nil (by kernel_rfl) ?_
       refine ⟨[], trivial, rfl, ?_⟩
       rw [vstep6 ho]
       exact HSub.put (HSub.put (HSub.put (HSub.put (HSub.put (HSub.put (HSub.none _) rfl) rfl) rfl) (by show _ = some (AObj.row false 4 [[.ptr 4 1 0 0, vaA 5 (valC (rset w.vals t.d _)), slA 10 ((w.hap t (rget w.vals t.a) 0).effs.map (arrAV .i64)), .int .i64 w.time]]); rw [valC_vaA]; rfl)) (by show _ = some (vaO (valC (rset w.vals t.d _))); rw [valC_set]; rfl)) rfl
      ·
       refine AGo.cond_false false rfl rfl ?_
       refine AGo.seq ?_
       refine AGo.region ?_
       refine aq 94 (q_bin rfl rfl rfl rfl) ?_
       refine aa 93 ?_
       refine AOps.nil ?_
       refine AGo.split 93 rfl (fun hb7 => ?_) (fun hb7 => ?_)
       ·
        refine AGo.cond_true true rfl rfl ?_
        have ho : t.op = 7 := by simpa using hb7
        have hxa := h.at (ht.a (.inr (by rw [ho]; rfl)))
        have hxb := h.at (ht.b (by rw [ho]; rfl))
        
        refine AGo.seq ?_
        refine AGo.draw mix ?_
        refine dm 95 ?_
        refine dl 96 tok ?_
        refine dm 97 ?_
        refine df 98 tok ?_
        refine dl 99 tok ?_
        refine dq 100 (q_indexV tok rfl rfl rfl rfl rfl rfl rfl rfl hxa.1 hxa.2.2.1) ?_
        refine dq 101 (q_load tok rfl rfl rfl (ptsV rfl (valC_get ⟨hxa.1, hxa.2.1⟩)) rfl) ?_
        refine dm 102 ?_
        refine df 103 tok ?_
        refine dl 104 tok ?_
        refine dq 105 (q_indexV tok rfl rfl rfl rfl rfl rfl rfl rfl hxb.1 hxb.2.2.1) ?_
        refine dq 106 (q_load tok rfl rfl rfl (ptsV rfl (valC_get ⟨hxb.1, hxb.2.1⟩)) rfl) ?_
        refine dx 107 (o_call (hc := (hput (hput (hput (hput (hput (hput hNew 3 (.map (kvsA .i64 (vmap first ((w).K))))) 4 (.row false 3 [[.int .i64 first, .map 3, slA 9 (((w).K).map (arrAV .i64))]])) 9 (slO 4 (((w).K).map (arrAV .i64)))) 6 (.row false 4 [[.ptr 4 1 0 0, vaA 5 (valC ((w).vals)), slA 10 (((w).effs).map (arrAV .i64)), .int .i64 ((w).time)]])) 5 (vaO (valC ((w).vals)))) 10 (slO 6 (((w).effs).map (arrAV .i64))))) (hw := (hput (hput (hput (hput (hput (hput hNone 3 (.map (kvsA .i64 (vmap first (((w.hap t (rget w.vals t.a) (rget w.vals t.b))).K))))) 4 (.row false 3 [[.int .i64 first, .map 3, slA 9 ((((w.hap t (rget w.vals t.a) (rget w.vals t.b))).K).map (arrAV .i64))]])) 9 (slO 4 ((((w.hap t (rget w.vals t.a) (rget w.vals t.b))).K).map (arrAV .i64)))) 6 (.row false 4 [[.ptr 4 1 0 0, vaA 5 (valC (((w.hap t (rget w.vals t.a) (rget w.vals t.b))).vals)), slA 10 ((((w.hap t (rget w.vals t.a) (rget w.vals t.b))).effs).map (arrAV .i64)), .int .i64 (((w.hap t (rget w.vals t.a) (rget w.vals t.b))).time)]])) 5 (vaO (valC (((w.hap t (rget w.vals t.a) (rget w.vals t.b))).vals)))) 10 (slO 6 ((((w.hap t (rget w.vals t.a) (rget w.vals t.b))).effs).map (arrAV .i64))))) [10, 5, 6, 9, 4, 3] [(3, (.map (kvsA .i64 (vmap first (((w.hap t (rget w.vals t.a) (rget w.vals t.b))).K))))), (4, (.row false 3 [[.int .i64 first, .map 3, slA 9 ((((w.hap t (rget w.vals t.a) (rget w.vals t.b))).K).map (arrAV .i64))]])), (9, (slO 4 ((((w.hap t (rget w.vals t.a) (rget w.vals t.b))).K).map (arrAV .i64)))), (6, (.row false 4 [[.ptr 4 1 0 0, vaA 5 (valC (((w.hap t (rget w.vals t.a) (rget w.vals t.b))).vals)), slA 10 ((((w.hap t (rget w.vals t.a) (rget w.vals t.b))).effs).map (arrAV .i64)), .int .i64 (((w.hap t (rget w.vals t.a) (rget w.vals t.b))).time)]])), (5, (vaO (valC (((w.hap t (rget w.vals t.a) (rget w.vals t.b))).vals)))), (10, (slO 6 ((((w.hap t (rget w.vals t.a) (rget w.vals t.b))).effs).map (arrAV .i64))))] rfl Try.func47 (by kernel_rfl) rfl rfl rfl ⟨⟨_, rfl, (by first | rfl | exact slO_avoid _ _ | exact vaO_avoid _ | exact tab_avoid _ _ rfl rfl | exact wlk_avoid _ _ _ rfl rfl rfl)⟩, ⟨_, rfl, (by first | rfl | exact slO_avoid _ _ | exact vaO_avoid _ | exact tab_avoid _ _ rfl rfl | exact wlk_avoid _ _ _ rfl rfl rfl)⟩, ⟨_, rfl, (by first | rfl | exact slO_avoid _ _ | exact vaO_avoid _ | exact tab_avoid _ _ rfl rfl | exact wlk_avoid _ _ _ rfl rfl rfl)⟩, ⟨_, rfl, (by first | rfl | exact slO_avoid _ _ | exact vaO_avoid _ | exact tab_avoid _ _ rfl rfl | exact wlk_avoid _ _ _ rfl rfl rfl)⟩, ⟨_, rfl, (by first | rfl | exact slO_avoid _ _ | exact vaO_avoid _ | exact tab_avoid _ _ rfl rfl | exact wlk_avoid _ _ _ rfl rfl rfl)⟩, ⟨_, rfl, (by first | rfl | exact slO_avoid _ _ | exact vaO_avoid _ | exact tab_avoid _ _ rfl rfl | exact wlk_avoid _ _ _ rfl rfl rfl)⟩, trivial⟩ rfl (hres_cons rfl (hres_cons rfl (hres_cons rfl (hres_cons rfl (hres_cons rfl (hres_cons rfl (hres_nil _))))))) ⟨⟨_, rfl, rfl, (by first | rfl | exact slO_avoid _ _ | exact vaO_avoid _ | exact tab_avoid _ _ rfl rfl | exact wlk_avoid _ _ _ rfl rfl rfl)⟩, ⟨_, rfl, rfl, (by first | rfl | exact slO_avoid _ _ | exact vaO_avoid _ | exact tab_avoid _ _ rfl rfl | exact wlk_avoid _ _ _ rfl rfl rfl)⟩, ⟨_, rfl, rfl, (by first | rfl | exact slO_avoid _ _ | exact vaO_avoid _ | exact tab_avoid _ _ rfl rfl | exact wlk_avoid _ _ _ rfl rfl rfl)⟩, ⟨_, rfl, rfl, (by first | rfl | exact slO_avoid _ _ | exact vaO_avoid _ | exact tab_avoid _ _ rfl rfl | exact wlk_avoid _ _ _ rfl rfl rfl)⟩, ⟨_, rfl, rfl, (by first | rfl | exact slO_avoid _ _ | exact vaO_avoid _ | exact tab_avoid _ _ rfl rfl | exact wlk_avoid _ _ _ rfl rfl rfl)⟩, ⟨_, rfl, rfl, (by first | rfl | exact slO_avoid _ _ | exact vaO_avoid _ | exact tab_avoid _ _ rfl rfl | exact wlk_avoid _ _ _ rfl rfl rfl)⟩, trivial⟩ rfl (happensa_ok first R m w h (by omega) t (rget w.vals t.a) (rget w.vals t.b))) ?_
        refine DOps.nil (by kernel_rfl) ?_
        refine AGo.region ?_
        refine am 108 ?_
        refine aq 109 (q_nilCheck rfl rfl rfl) ?_
        refine af 110 tok ?_
        refine al 111 tok ?_
        refine aq 112 (q_bin (r := .int .i64 (w.time + 1)) rfl rfl rfl (by exact timeZ (x := w.time) (by omega))) ?_
        refine aq 113 (q_nilCheck rfl rfl rfl) ?_
        refine af 114 tok ?_
        refine AOps.w rfl rfl (o_store tok rfl rfl rfl rfl rfl rfl rfl rfl rfl (by decide) rfl (by first | exact fun _ => rfl | (intro h; cases h))) ?_
        refine AOps.nil ?_
        refine ⟨[], trivial, rfl, ?_⟩
        rw [vstep7 ho]
        exact HSub.put (HSub.put (HSub.put (HSub.put (HSub.put (HSub.put (HSub.none _) rfl) rfl) rfl) rfl) rfl) rfl
       ·
        refine AGo.cond_false false rfl rfl ?_
        refine AGo.seq ?_
        refine AGo.region ?_
        refine aq 116 (q_bin rfl rfl rfl rfl) ?_
        refine aa 115 ?_
        refine AOps.nil ?_
        refine AGo.split 115 rfl (fun hb8 => ?_) (fun hb8 => ?_)
        ·
         refine AGo.cond_true true rfl rfl ?_
         have ho : t.op = 8 := by simpa using hb8
         have hxd := h.at (ht.d (by rw [ho]; rfl))
         
         refine AGo.seq ?_
         refine AGo.region ?_
         refine am 117 ?_
         refine al 118 tok ?_
         refine ax 119 (o_call (hc := (hput (hput (hput (hput (hput (hput hNew 3 (.map (kvsA .i64 (vmap first ((w).K))))) 4 (.row false 3 [[.int .i64 first, .map 3, slA 9 (((w).K).map (arrAV .i64))]])) 9 (slO 4 (((w).K).map (arrAV .i64)))) 6 (.row false 4 [[.ptr 4 1 0 0, vaA 5 (valC ((w).vals)), slA 10 (((w).effs).map (arrAV .i64)), .int .i64 ((w).time)]])) 5 (vaO (valC ((w).vals)))) 10 (slO 6 (((w).effs).map (arrAV .i64))))) (hw := (hput (hput (hput (hput (hput (hput hNone 3 (.map (kvsA .i64 (vmap first (((w.hap t 0 0)).K))))) 4 (.row false 3 [[.int .i64 first, .map 3, slA 9 ((((w.hap t 0 0)).K).map (arrAV .i64))]])) 9 (slO 4 ((((w.hap t 0 0)).K).map (arrAV .i64)))) 6 (.row false 4 [[.ptr 4 1 0 0, vaA 5 (valC (((w.hap t 0 0)).vals)), slA 10 ((((w.hap t 0 0)).effs).map (arrAV .i64)), .int .i64 (((w.hap t 0 0)).time)]])) 5 (vaO (valC (((w.hap t 0 0)).vals)))) 10 (slO 6 ((((w.hap t 0 0)).effs).map (arrAV .i64))))) [10, 5, 6, 9, 4, 3] [(3, (.map (kvsA .i64 (vmap first (((w.hap t 0 0)).K))))), (4, (.row false 3 [[.int .i64 first, .map 3, slA 9 ((((w.hap t 0 0)).K).map (arrAV .i64))]])), (9, (slO 4 ((((w.hap t 0 0)).K).map (arrAV .i64)))), (6, (.row false 4 [[.ptr 4 1 0 0, vaA 5 (valC (((w.hap t 0 0)).vals)), slA 10 ((((w.hap t 0 0)).effs).map (arrAV .i64)), .int .i64 (((w.hap t 0 0)).time)]])), (5, (vaO (valC (((w.hap t 0 0)).vals)))), (10, (slO 6 ((((w.hap t 0 0)).effs).map (arrAV .i64))))] rfl Try.func47 (by kernel_rfl) rfl rfl rfl ⟨⟨_, rfl, (by first | rfl | exact slO_avoid _ _ | exact vaO_avoid _ | exact tab_avoid _ _ rfl rfl | exact wlk_avoid _ _ _ rfl rfl rfl)⟩, ⟨_, rfl, (by first | rfl | exact slO_avoid _ _ | exact vaO_avoid _ | exact tab_avoid _ _ rfl rfl | exact wlk_avoid _ _ _ rfl rfl rfl)⟩, ⟨_, rfl, (by first | rfl | exact slO_avoid _ _ | exact vaO_avoid _ | exact tab_avoid _ _ rfl rfl | exact wlk_avoid _ _ _ rfl rfl rfl)⟩, ⟨_, rfl, (by first | rfl | exact slO_avoid _ _ | exact vaO_avoid _ | exact tab_avoid _ _ rfl rfl | exact wlk_avoid _ _ _ rfl rfl rfl)⟩, ⟨_, rfl, (by first | rfl | exact slO_avoid _ _ | exact vaO_avoid _ | exact tab_avoid _ _ rfl rfl | exact wlk_avoid _ _ _ rfl rfl rfl)⟩, ⟨_, rfl, (by first | rfl | exact slO_avoid _ _ | exact vaO_avoid _ | exact tab_avoid _ _ rfl rfl | exact wlk_avoid _ _ _ rfl rfl rfl)⟩, trivial⟩ rfl (hres_cons rfl (hres_cons rfl (hres_cons rfl (hres_cons rfl (hres_cons rfl (hres_cons rfl (hres_nil _))))))) ⟨⟨_, rfl, rfl, (by first | rfl | exact slO_avoid _ _ | exact vaO_avoid _ | exact tab_avoid _ _ rfl rfl | exact wlk_avoid _ _ _ rfl rfl rfl)⟩, ⟨_, rfl, rfl, (by first | rfl | exact slO_avoid _ _ | exact vaO_avoid _ | exact tab_avoid _ _ rfl rfl | exact wlk_avoid _ _ _ rfl rfl rfl)⟩, ⟨_, rfl, rfl, (by first | rfl | exact slO_avoid _ _ | exact vaO_avoid _ | exact tab_avoid _ _ rfl rfl | exact wlk_avoid _ _ _ rfl rfl rfl)⟩, ⟨_, rfl, rfl, (by first | rfl | exact slO_avoid _ _ | exact vaO_avoid _ | exact tab_avoid _ _ rfl rfl | exact wlk_avoid _ _ _ rfl rfl rfl)⟩, ⟨_, rfl, rfl, (by first | rfl | exact slO_avoid _ _ | exact vaO_avoid _ | exact tab_avoid _ _ rfl rfl | exact wlk_avoid _ _ _ rfl rfl rfl)⟩, ⟨_, rfl, rfl, (by first | rfl | exact slO_avoid _ _ | exact vaO_avoid _ | exact tab_avoid _ _ rfl rfl | exact wlk_avoid _ _ _ rfl rfl rfl)⟩, trivial⟩ rfl (happensa_ok first R m w h (by omega) t 0 0)) ?_
         refine AOps.nil ?_
         refine AGo.draw mix ?_
         refine dm 120 ?_
         refine df 121 tok ?_
         refine dl 122 tok ?_
         refine dm 123 ?_
         refine dx 124 (o_call (hc := (hput (hput (hput (hput (hput (hput hNew 3 (.map (kvsA .i64 (vmap first (((w.hap t 0 0)).K))))) 4 (.row false 3 [[.int .i64 first, .map 3, slA 9 ((((w.hap t 0 0)).K).map (arrAV .i64))]])) 9 (slO 4 ((((w.hap t 0 0)).K).map (arrAV .i64)))) 6 (.row false 4 [[.ptr 4 1 0 0, vaA 5 (valC (((w.hap t 0 0)).vals)), slA 10 ((((w.hap t 0 0)).effs).map (arrAV .i64)), .int .i64 (((w.hap t 0 0)).time)]])) 5 (vaO (valC (((w.hap t 0 0)).vals)))) 10 (slO 6 ((((w.hap t 0 0)).effs).map (arrAV .i64))))) (hw := (hput (hput (hput (hput (hput (hput hNone 3 (.map (kvsA .i64 (vmap first ((vunk first (w.hap t 0 0)).2))))) 4 (.row false 3 [[.int .i64 first, .map 3, slA 9 (((vunk first (w.hap t 0 0)).2).map (arrAV .i64))]])) 9 (slO 4 (((vunk first (w.hap t 0 0)).2).map (arrAV .i64)))) 6 (.row false 4 [[.ptr 4 1 0 0, vaA 5 (valC (((w.hap t 0 0)).vals)), slA 10 ((((w.hap t 0 0)).effs).map (arrAV .i64)), .int .i64 (((w.hap t 0 0)).time)]])) 5 (vaO (valC (((w.hap t 0 0)).vals)))) 10 (slO 6 ((((w.hap t 0 0)).effs).map (arrAV .i64))))) [10, 5, 6, 9, 4, 3] [(3, (.map (kvsA .i64 (vmap first ((vunk first (w.hap t 0 0)).2))))), (4, (.row false 3 [[.int .i64 first, .map 3, slA 9 (((vunk first (w.hap t 0 0)).2).map (arrAV .i64))]])), (9, (slO 4 (((vunk first (w.hap t 0 0)).2).map (arrAV .i64)))), (6, (.row false 4 [[.ptr 4 1 0 0, vaA 5 (valC (((w.hap t 0 0)).vals)), slA 10 ((((w.hap t 0 0)).effs).map (arrAV .i64)), .int .i64 (((w.hap t 0 0)).time)]])), (5, (vaO (valC (((w.hap t 0 0)).vals)))), (10, (slO 6 ((((w.hap t 0 0)).effs).map (arrAV .i64))))] rfl Try.func48 (by kernel_rfl) rfl rfl rfl ⟨⟨_, rfl, (by first | rfl | exact slO_avoid _ _ | exact vaO_avoid _ | exact tab_avoid _ _ rfl rfl | exact wlk_avoid _ _ _ rfl rfl rfl)⟩, ⟨_, rfl, (by first | rfl | exact slO_avoid _ _ | exact vaO_avoid _ | exact tab_avoid _ _ rfl rfl | exact wlk_avoid _ _ _ rfl rfl rfl)⟩, ⟨_, rfl, (by first | rfl | exact slO_avoid _ _ | exact vaO_avoid _ | exact tab_avoid _ _ rfl rfl | exact wlk_avoid _ _ _ rfl rfl rfl)⟩, ⟨_, rfl, (by first | rfl | exact slO_avoid _ _ | exact vaO_avoid _ | exact tab_avoid _ _ rfl rfl | exact wlk_avoid _ _ _ rfl rfl rfl)⟩, ⟨_, rfl, (by first | rfl | exact slO_avoid _ _ | exact vaO_avoid _ | exact tab_avoid _ _ rfl rfl | exact wlk_avoid _ _ _ rfl rfl rfl)⟩, ⟨_, rfl, (by first | rfl | exact slO_avoid _ _ | exact vaO_avoid _ | exact tab_avoid _ _ rfl rfl | exact wlk_avoid _ _ _ rfl rfl rfl)⟩, trivial⟩ rfl (hres_cons rfl (hres_cons rfl (hres_cons rfl (hres_cons rfl (hres_cons rfl (hres_cons rfl (hres_nil _))))))) ⟨⟨_, rfl, rfl, (by first | rfl | exact slO_avoid _ _ | exact vaO_avoid _ | exact tab_avoid _ _ rfl rfl | exact wlk_avoid _ _ _ rfl rfl rfl)⟩, ⟨_, rfl, rfl, (by first | rfl | exact slO_avoid _ _ | exact vaO_avoid _ | exact tab_avoid _ _ rfl rfl | exact wlk_avoid _ _ _ rfl rfl rfl)⟩, ⟨_, rfl, rfl, (by first | rfl | exact slO_avoid _ _ | exact vaO_avoid _ | exact tab_avoid _ _ rfl rfl | exact wlk_avoid _ _ _ rfl rfl rfl)⟩, ⟨_, rfl, rfl, (by first | rfl | exact slO_avoid _ _ | exact vaO_avoid _ | exact tab_avoid _ _ rfl rfl | exact wlk_avoid _ _ _ rfl rfl rfl)⟩, ⟨_, rfl, rfl, (by first | rfl | exact slO_avoid _ _ | exact vaO_avoid _ | exact tab_avoid _ _ rfl rfl | exact wlk_avoid _ _ _ rfl rfl rfl)⟩, ⟨_, rfl, rfl, (by first | rfl | exact slO_avoid _ _ | exact vaO_avoid _ | exact tab_avoid _ _ rfl rfl | exact wlk_avoid _ _ _ rfl rfl rfl)⟩, trivial⟩ rfl (unknowna_ok first R (m + 1) (w.hap t 0 0) (h.eff rfl) (by omega))) ?_
         refine dq 125 (q_indexV tok rfl rfl rfl rfl rfl rfl rfl rfl hxd.1 hxd.2.2.1) ?_
         refine DOps.w rfl rfl (o_storeV tok rfl rfl rfl rfl rfl rfl rfl (by have h1 := hxd.2.2.1; have h0 := hxd.1; omega) (valC_one _) rfl rfl rfl) ?_
         refine DOps.nil (by kernel_rfl) ?_
         refine ⟨[], trivial, rfl, ?_⟩
         rw [vstep8 ho]
         exact HSub.put (HSub.put (HSub.put (HSub.put (HSub.put (HSub.put (HSub.none _) rfl) rfl) rfl) (by show _ = some (AObj.row false 4 [[.ptr 4 1 0 0, vaA 5 (valC (rset w.vals t.d _)), slA 10 ((w.hap t 0 0).effs.map (arrAV .i64)), .int .i64 w.time]]); rw [valC_vaA]; rfl)) (by show _ = some (vaO (valC (rset w.vals t.d _))); rw [valC_set]; rfl)) rfl
        ·
         refine AGo.cond_false false rfl rfl ?_
         refine AGo.seq ?_
         refine AGo.region ?_
         refine aq 127 (q_bin rfl rfl rfl rfl) ?_
         refine aa 126 ?_
         refine AOps.nil ?_
         refine AGo.split 126 rfl (fun hb9 => ?_) (fun hb9 => ?_)
         ·
          refine AGo.cond_true true rfl rfl ?_
          have ho : t.op = 9 := by simpa using hb9
          have hxa := h.at (ht.a (.inl (by rw [ho]; rfl)))
          
          refine AGo.draw mix ?_
          refine dm 128 ?_
          refine dl 129 tok ?_
          refine dm 130 ?_
          refine df 131 tok ?_
          refine dl 132 tok ?_
          refine dq 133 (q_indexV tok rfl rfl rfl rfl rfl rfl rfl rfl hxa.1 hxa.2.2.1) ?_
          refine dq 134 (q_load tok rfl rfl rfl (ptsV rfl (valC_get ⟨hxa.1, hxa.2.1⟩)) rfl) ?_
          refine dx 135 (o_call (hc := (hput (hput (hput (hput (hput (hput hNew 3 (.map (kvsA .i64 (vmap first ((w).K))))) 4 (.row false 3 [[.int .i64 first, .map 3, slA 9 (((w).K).map (arrAV .i64))]])) 9 (slO 4 (((w).K).map (arrAV .i64)))) 6 (.row false 4 [[.ptr 4 1 0 0, vaA 5 (valC ((w).vals)), slA 10 (((w).effs).map (arrAV .i64)), .int .i64 ((w).time)]])) 5 (vaO (valC ((w).vals)))) 10 (slO 6 (((w).effs).map (arrAV .i64))))) (hw := (hput (hput (hput (hput (hput (hput hNone 3 (.map (kvsA .i64 (vmap first (((w.hap t (rget w.vals t.a) 0)).K))))) 4 (.row false 3 [[.int .i64 first, .map 3, slA 9 ((((w.hap t (rget w.vals t.a) 0)).K).map (arrAV .i64))]])) 9 (slO 4 ((((w.hap t (rget w.vals t.a) 0)).K).map (arrAV .i64)))) 6 (.row false 4 [[.ptr 4 1 0 0, vaA 5 (valC (((w.hap t (rget w.vals t.a) 0)).vals)), slA 10 ((((w.hap t (rget w.vals t.a) 0)).effs).map (arrAV .i64)), .int .i64 (((w.hap t (rget w.vals t.a) 0)).time)]])) 5 (vaO (valC (((w.hap t (rget w.vals t.a) 0)).vals)))) 10 (slO 6 ((((w.hap t (rget w.vals t.a) 0)).effs).map (arrAV .i64))))) [10, 5, 6, 9, 4, 3] [(3, (.map (kvsA .i64 (vmap first (((w.hap t (rget w.vals t.a) 0)).K))))), (4, (.row false 3 [[.int .i64 first, .map 3, slA 9 ((((w.hap t (rget w.vals t.a) 0)).K).map (arrAV .i64))]])), (9, (slO 4 ((((w.hap t (rget w.vals t.a) 0)).K).map (arrAV .i64)))), (6, (.row false 4 [[.ptr 4 1 0 0, vaA 5 (valC (((w.hap t (rget w.vals t.a) 0)).vals)), slA 10 ((((w.hap t (rget w.vals t.a) 0)).effs).map (arrAV .i64)), .int .i64 (((w.hap t (rget w.vals t.a) 0)).time)]])), (5, (vaO (valC (((w.hap t (rget w.vals t.a) 0)).vals)))), (10, (slO 6 ((((w.hap t (rget w.vals t.a) 0)).effs).map (arrAV .i64))))] rfl Try.func47 (by kernel_rfl) rfl rfl rfl ⟨⟨_, rfl, (by first | rfl | exact slO_avoid _ _ | exact vaO_avoid _ | exact tab_avoid _ _ rfl rfl | exact wlk_avoid _ _ _ rfl rfl rfl)⟩, ⟨_, rfl, (by first | rfl | exact slO_avoid _ _ | exact vaO_avoid _ | exact tab_avoid _ _ rfl rfl | exact wlk_avoid _ _ _ rfl rfl rfl)⟩, ⟨_, rfl, (by first | rfl | exact slO_avoid _ _ | exact vaO_avoid _ | exact tab_avoid _ _ rfl rfl | exact wlk_avoid _ _ _ rfl rfl rfl)⟩, ⟨_, rfl, (by first | rfl | exact slO_avoid _ _ | exact vaO_avoid _ | exact tab_avoid _ _ rfl rfl | exact wlk_avoid _ _ _ rfl rfl rfl)⟩, ⟨_, rfl, (by first | rfl | exact slO_avoid _ _ | exact vaO_avoid _ | exact tab_avoid _ _ rfl rfl | exact wlk_avoid _ _ _ rfl rfl rfl)⟩, ⟨_, rfl, (by first | rfl | exact slO_avoid _ _ | exact vaO_avoid _ | exact tab_avoid _ _ rfl rfl | exact wlk_avoid _ _ _ rfl rfl rfl)⟩, trivial⟩ rfl (hres_cons rfl (hres_cons rfl (hres_cons rfl (hres_cons rfl (hres_cons rfl (hres_cons rfl (hres_nil _))))))) ⟨⟨_, rfl, rfl, (by first | rfl | exact slO_avoid _ _ | exact vaO_avoid _ | exact tab_avoid _ _ rfl rfl | exact wlk_avoid _ _ _ rfl rfl rfl)⟩, ⟨_, rfl, rfl, (by first | rfl | exact slO_avoid _ _ | exact vaO_avoid _ | exact tab_avoid _ _ rfl rfl | exact wlk_avoid _ _ _ rfl rfl rfl)⟩, ⟨_, rfl, rfl, (by first | rfl | exact slO_avoid _ _ | exact vaO_avoid _ | exact tab_avoid _ _ rfl rfl | exact wlk_avoid _ _ _ rfl rfl rfl)⟩, ⟨_, rfl, rfl, (by first | rfl | exact slO_avoid _ _ | exact vaO_avoid _ | exact tab_avoid _ _ rfl rfl | exact wlk_avoid _ _ _ rfl rfl rfl)⟩, ⟨_, rfl, rfl, (by first | rfl | exact slO_avoid _ _ | exact vaO_avoid _ | exact tab_avoid _ _ rfl rfl | exact wlk_avoid _ _ _ rfl rfl rfl)⟩, ⟨_, rfl, rfl, (by first | rfl | exact slO_avoid _ _ | exact vaO_avoid _ | exact tab_avoid _ _ rfl rfl | exact wlk_avoid _ _ _ rfl rfl rfl)⟩, trivial⟩ rfl (happensa_ok first R m w h (by omega) t (rget w.vals t.a) 0)) ?_
          refine DOps.nil (by kernel_rfl) ?_
          refine ⟨[], trivial, rfl, ?_⟩
          rw [vstep9 ho]
          exact HSub.put (HSub.put (HSub.put (HSub.put (HSub.put (HSub.put (HSub.none _) rfl) rfl) rfl) rfl) rfl) rfl
         ·
          refine AGo.cond_false false rfl rfl ?_
          refine AGo.seq ?_
          refine AGo.region ?_
          refine aq 137 (q_bin rfl rfl rfl rfl) ?_
          refine aa 136 ?_
          refine AOps.nil ?_
          refine AGo.split 136 rfl (fun hb10 => ?_) (fun hb10 => ?_)
          ·
           refine AGo.cond_true true rfl rfl ?_
           have ho : t.op = 10 := by simpa using hb10
           
           refine AGo.seq ?_
           refine AGo.region ?_
           refine am 138 ?_
           refine al 139 tok ?_
           refine ax 140 (o_call (hc := (hput (hput (hput (hput (hput (hput hNew 3 (.map (kvsA .i64 (vmap first ((w).K))))) 4 (.row false 3 [[.int .i64 first, .map 3, slA 9 (((w).K).map (arrAV .i64))]])) 9 (slO 4 (((w).K).map (arrAV .i64)))) 6 (.row false 4 [[.ptr 4 1 0 0, vaA 5 (valC ((w).vals)), slA 10 (((w).effs).map (arrAV .i64)), .int .i64 ((w).time)]])) 5 (vaO (valC ((w).vals)))) 10 (slO 6 (((w).effs).map (arrAV .i64))))) (hw := (hput (hput (hput (hput (hput (hput hNone 3 (.map (kvsA .i64 (vmap first (((w.hap t 0 0)).K))))) 4 (.row false 3 [[.int .i64 first, .map 3, slA 9 ((((w.hap t 0 0)).K).map (arrAV .i64))]])) 9 (slO 4 ((((w.hap t 0 0)).K).map (arrAV .i64)))) 6 (.row false 4 [[.ptr 4 1 0 0, vaA 5 (valC (((w.hap t 0 0)).vals)), slA 10 ((((w.hap t 0 0)).effs).map (arrAV .i64)), .int .i64 (((w.hap t 0 0)).time)]])) 5 (vaO (valC (((w.hap t 0 0)).vals)))) 10 (slO 6 ((((w.hap t 0 0)).effs).map (arrAV .i64))))) [10, 5, 6, 9, 4, 3] [(3, (.map (kvsA .i64 (vmap first (((w.hap t 0 0)).K))))), (4, (.row false 3 [[.int .i64 first, .map 3, slA 9 ((((w.hap t 0 0)).K).map (arrAV .i64))]])), (9, (slO 4 ((((w.hap t 0 0)).K).map (arrAV .i64)))), (6, (.row false 4 [[.ptr 4 1 0 0, vaA 5 (valC (((w.hap t 0 0)).vals)), slA 10 ((((w.hap t 0 0)).effs).map (arrAV .i64)), .int .i64 (((w.hap t 0 0)).time)]])), (5, (vaO (valC (((w.hap t 0 0)).vals)))), (10, (slO 6 ((((w.hap t 0 0)).effs).map (arrAV .i64))))] rfl Try.func47 (by kernel_rfl) rfl rfl rfl ⟨⟨_, rfl, (by first | rfl | exact slO_avoid _ _ | exact vaO_avoid _ | exact tab_avoid _ _ rfl rfl | exact wlk_avoid _ _ _ rfl rfl rfl)⟩, ⟨_, rfl, (by first | rfl | exact slO_avoid _ _ | exact vaO_avoid _ | exact tab_avoid _ _ rfl rfl | exact wlk_avoid _ _ _ rfl rfl rfl)⟩, ⟨_, rfl, (by first | rfl | exact slO_avoid _ _ | exact vaO_avoid _ | exact tab_avoid _ _ rfl rfl | exact wlk_avoid _ _ _ rfl rfl rfl)⟩, ⟨_, rfl, (by first | rfl | exact slO_avoid _ _ | exact vaO_avoid _ | exact tab_avoid _ _ rfl rfl | exact wlk_avoid _ _ _ rfl rfl rfl)⟩, ⟨_, rfl, (by first | rfl | exact slO_avoid _ _ | exact vaO_avoid _ | exact tab_avoid _ _ rfl rfl | exact wlk_avoid _ _ _ rfl rfl rfl)⟩, ⟨_, rfl, (by first | rfl | exact slO_avoid _ _ | exact vaO_avoid _ | exact tab_avoid _ _ rfl rfl | exact wlk_avoid _ _ _ rfl rfl rfl)⟩, trivial⟩ rfl (hres_cons rfl (hres_cons rfl (hres_cons rfl (hres_cons rfl (hres_cons rfl (hres_cons rfl (hres_nil _))))))) ⟨⟨_, rfl, rfl, (by first | rfl | exact slO_avoid _ _ | exact vaO_avoid _ | exact tab_avoid _ _ rfl rfl | exact wlk_avoid _ _ _ rfl rfl rfl)⟩, ⟨_, rfl, rfl, (by first | rfl | exact slO_avoid _ _ | exact vaO_avoid _ | exact tab_avoid _ _ rfl rfl | exact wlk_avoid _ _ _ rfl rfl rfl)⟩, ⟨_, rfl, rfl, (by first | rfl | exact slO_avoid _ _ | exact vaO_avoid _ | exact tab_avoid _ _ rfl rfl | exact wlk_avoid _ _ _ rfl rfl rfl)⟩, ⟨_, rfl, rfl, (by first | rfl | exact slO_avoid _ _ | exact vaO_avoid _ | exact tab_avoid _ _ rfl rfl | exact wlk_avoid _ _ _ rfl rfl rfl)⟩, ⟨_, rfl, rfl, (by first | rfl | exact slO_avoid _ _ | exact vaO_avoid _ | exact tab_avoid _ _ rfl rfl | exact wlk_avoid _ _ _ rfl rfl rfl)⟩, ⟨_, rfl, rfl, (by first | rfl | exact slO_avoid _ _ | exact vaO_avoid _ | exact tab_avoid _ _ rfl rfl | exact wlk_avoid _ _ _ rfl rfl rfl)⟩, trivial⟩ rfl (happensa_ok first R m w h (by omega) t 0 0)) ?_
           refine AOps.nil ?_
           refine AGo.region ?_
           refine am 141 ?_
           refine aq 142 (q_nilCheck rfl rfl rfl) ?_
           refine af 143 tok ?_
           refine al 144 tok ?_
           refine aq 145 (q_bin (r := .int .i64 (w.time + 1)) rfl rfl rfl (by exact timeZ (x := w.time) (by omega))) ?_
           refine aq 146 (q_nilCheck rfl rfl rfl) ?_
           refine af 147 tok ?_
           refine AOps.w rfl rfl (o_store tok rfl rfl rfl rfl rfl rfl rfl rfl rfl (by decide) rfl (by first | exact fun _ => rfl | (intro h; cases h))) ?_
           refine AOps.nil ?_
           refine ⟨[], trivial, rfl, ?_⟩
           rw [vstep10 ho]
           exact HSub.put (HSub.put (HSub.put (HSub.put (HSub.put (HSub.put (HSub.none _) rfl) rfl) rfl) rfl) rfl) rfl
          ·
           refine AGo.cond_false false rfl rfl ?_
           refine AGo.skip ?_
           refine ⟨[], trivial, rfl, ?_⟩
           rw [vstep0 hb1 hb2 hb3 hb4 hb5 hb6 hb7 hb8 hb9 hb10]
           exact HSub.put (HSub.put (HSub.put (HSub.put (HSub.put (HSub.put (HSub.none _) rfl) rfl) rfl) rfl) rfl) rfl

end Go.Proofs.Ytpijoieooikfgaa.Sv

namespace Go.Proofs.Ytpijoieooikfgaa.Sv
open Go

set_option maxHeartbeats 4000000 in
set_option maxRecDepth 100000 in
theorem vsame_ok (old new : Block) (R : Nat) (c : Cert) (i : Int) (next : List Int) (hR : R ≤ 40000) (hc : ∀ r ∈ c.same, r.length = R) (hi : 0 ≤ i ∧ i < c.same.length) (hnx : ∀ k ∈ next, 0 ≤ k ∧ k < c.same.length) (hv : old.fin = 2 → (0 ≤ old.v ∧ old.v < R) ∧ (0 ≤ new.v ∧ new.v < R)) (ho : ∀ t ∈ old.ins, TacV t R) (hn : ∀ t ∈ new.ins, TacV t R) (hlo : old.ins.length ≤ 10000) (hln : new.ins.length ≤ 10000) (hnl : next.length ≤ 100000) : APure Try.prog 28 [.agg old.cells, .agg new.cells, .int .i64 (R : Int), .agg c.cells, .int .i64 i, intsAV next] (fun r => r = .bool (vsame R old new c i next)) := by
 obtain ⟨row, hrow⟩ := get_of_lt (l := c.same) (k := i.toNat) (by omega)
 have hat : c.at' i = row := by unfold Cert.at'; rw [hrow]; rfl
 have hrl := hc row (List.mem_of_getElem? hrow)
 have hoa0 := vfold_ok (vok_a hR) ho
 have hoa : VOk ((2 * R : Nat) : Int) R (0 + 2 * old.ins.length) (vrunA R old) := hoa0
 have hob : VOk ((2 * R : Nat) : Int) R (0 + 2 * old.ins.length + 2 * new.ins.length) (vrunB R old new (c.at' i)) := vfold_ok (vok_b hoa _) hn
 refine APure.of_body (n := 146) tok Try.func28 rfl rfl ?_
 refine AGo.seq ?_
 refine AGo.region ?_
 refine ax 6 (o_box (sz := 5) 0 rfl rfl rfl rfl (Nat.zero_lt_succ _) rfl) ?_
 refine ax 7 (o_box (sz := 5) 1 rfl rfl rfl rfl (Nat.zero_lt_succ _) rfl) ?_
 refine ax 9 (o_box (sz := 1) 2 rfl rfl rfl rfl (Nat.zero_lt_succ _) rfl) ?_
 refine aa 12 ?_
 refine AOps.nil ?_
 refine AGo.seq ?_
 refine AGo.region ?_
 refine am 25 ?_
 refine aq 26 (q_bin (r := .int .i64 ((2 * R : Nat) : Int)) rfl rfl rfl (mulZ (by omega) (by omega) (by omega))) ?_
 refine ax 27 (o_makeMapA .i64 3 rfl rfl) ?_
 refine aq 28 (q_buildM tok (z0 := .int .i64 0) (z1 := .map none) (x := .int .i64 ((2 * R : Nat) : Int)) (y := .map 3) rfl rfl rfl rfl rfl rfl rfl rfl rfl (by kernel_rfl) rfl rfl) ?_
 refine ax 29 (o_box (sz := 3) 4 rfl rfl rfl rfl (Nat.zero_lt_succ _) rfl) ?_
 refine aa 13 ?_
 refine AOps.nil ?_
 refine AGo.seq ?_
 refine AGo.region ?_
 refine am 30 ?_
 refine am 31 ?_
 refine ax 32 (o_makeSliceV tok (n := R) 5 rfl rfl rfl rfl rfl rfl rfl rfl rfl rfl rfl rfl (by show 8 * R ≤ _; omega) (by simp only [maxLen]; omega)) ?_
 refine aq 33 (q_build tok (ps := [(0, .ptr 4 1 0 0), (1, vaA 5 (List.replicate R [.int .i64 0]))]) (r := [.ptr 4 1 0 0, vaA 5 (List.replicate R [.int .i64 0]), .nil, .int .i64 0]) rfl rfl rfl rfl rfl (by decide) (by simp only [partsFit, vaA_cells]; rfl) rfl (by simp only [partCells, vaA_cells]; rfl)) ?_
 refine ax 14 (o_alloc tok 6 rfl rfl rfl rfl (Nat.zero_lt_succ _) rfl) ?_
 refine AOps.w rfl rfl (o_store tok rfl rfl rfl rfl rfl rfl rfl rfl rfl (by decide) (by simp only [AV.cells, List.all_cons, List.all_nil, vaA_cell1]; rfl) (by intro h; cases h)) ?_
 refine AOps.nil ?_
 refine AGo.seq ?_
 refine AGo.ghost (.weakRowF 4 (es' := [[.int .i64 ((2 * R : Nat) : Int), .map 3, .lst true []]]) rfl rfl weakTab) ?_
 refine AGo.ghost (.weakRowF 6 (es' := [[.ptr 4 1 0 0, vaA 5 (List.replicate R [.int .i64 0]), .lst true [], .int .i64 0]]) rfl rfl weakWlk) ?_
 refine AGo.region ?_
 refine am 34 ?_
 refine am 35 ?_
 refine ax 36 (o_makeSliceV tok (n := R) 7 rfl rfl rfl rfl rfl rfl rfl rfl rfl rfl rfl rfl (by show 8 * R ≤ _; omega) (by simp only [maxLen]; omega)) ?_
 refine aq 37 (q_build tok (ps := [(0, .ptr 4 1 0 0), (1, vaA 7 (List.replicate R [.int .i64 0]))]) (r := [.ptr 4 1 0 0, vaA 7 (List.replicate R [.int .i64 0]), .nil, .int .i64 0]) rfl rfl rfl rfl rfl (by decide) (by simp only [partsFit, vaA_cells]; rfl) rfl (by simp only [partCells, vaA_cells]; rfl)) ?_
 refine ax 15 (o_alloc tok 8 rfl rfl rfl rfl (Nat.zero_lt_succ _) rfl) ?_
 refine AOps.w rfl rfl (o_store tok rfl rfl rfl rfl rfl rfl rfl rfl rfl (by decide) (by simp only [AV.cells, List.all_cons, List.all_nil, vaA_cell1]; rfl) (by intro h; cases h)) ?_
 refine AOps.nil ?_
 refine AGo.seq ?_
 refine AGo.seq ?_
 refine AGo.ghost (.weakRowF 8 (es' := [[.ptr 4 1 0 0, vaA 7 (List.replicate R [.int .i64 0]), .lst true [], .int .i64 0]]) rfl rfl weakWlk) ?_
 refine AGo.region ?_
 refine am 38 ?_
 refine am 39 ?_
 refine AOps.nil ?_
 refine AGo.block ?_
 refine AGo.loopD (γ := Nat) 12 (fun k => ⟨146, (eput (eput (eput (eput (eput (eput (eput (eput (eput (eput eNew 2 (.int .i64 (R : Int))) 4 (.int .i64 i)) 5 (intsAV next)) 6 (.ptr 0 1 0 0)) 7 (.ptr 1 1 0 0)) 9 (.ptr 2 1 0 0)) 14 (.ptr 6 1 0 0)) 15 (.ptr 8 1 0 0)) 38 (.int .i64 (R : Int))) 39 (.int .i64 (k : Int))), (hput (hput (hput (hput (hput (hput (hput (hput (hput (hput (hput (hput (hFrom 12) 0 (.row false 5 [old.cells])) 1 (.row false 5 [new.cells])) 2 (.row false 1 [c.cells])) 3 (.map (kvsA .i64 (vmap ((2 * R : Nat) : Int) ([]))))) 4 (.row false 3 [[.int .i64 ((2 * R : Nat) : Int), .map 3, slA 9 (([]).map (arrAV .i64))]])) 9 (slO 4 (([]).map (arrAV .i64)))) 6 (.row false 4 [[.ptr 4 1 0 0, vaA 5 (valC (fillI R k (fun v : Nat => (v : Int)))), slA 10 (([]).map (arrAV .i64)), .int .i64 (0)]])) 5 (vaO (valC (fillI R k (fun v : Nat => (v : Int)))))) 10 (slO 6 (([]).map (arrAV .i64)))) 8 (.row false 4 [[.ptr 4 1 0 0, vaA 7 (valC (fillI R k (sideB R (c.at' i)))), slA 11 (([]).map (arrAV .i64)), .int .i64 (0)]])) 7 (vaO (valC (fillI R k (sideB R (c.at' i)))))) 11 (slO 6 (([]).map (arrAV .i64))))⟩) (fun k => k ≤ R) (fun k => R - k) 0 (Sub.mk' (by repeat (first | exact ESub.new _ | refine ESub.put ?_ (by rfl))) (by repeat (first | exact HSub.refl _ | exact HSub.none _ | exact HSub.from_new _ | exact HSub.from_from (by first | decide | omega | (dsimp only; omega)) | refine HSub.put ?_ (by first | rfl | exact fill0R _ | exact fill0W _ _ _ _) | refine HSub.from_put ?_ (by first | decide | omega | (dsimp only; omega)) | refine HSub.from_rm ?_ (by decide)))) (Nat.zero_le _) (fun _ => hput_free (hput_free (hput_free (hput_free (hput_free (hput_free (hput_free (hput_free (hput_free (hput_free (hput_free (hput_free (fun b hb => hFrom_free hb) rfl) rfl) rfl) rfl) rfl) rfl) rfl) rfl) rfl) rfl) rfl) rfl) ?_
 intro k hk
 refine AGo.seq ?_
 refine AGo.region ?_
 refine aq 40 (q_bin rfl rfl rfl rfl) ?_
 refine AOps.nil ?_
 refine AGo.seq ?_
 refine AGo.split 40 rfl (fun hb1 => ?_) (fun hb1 => ?_)
 ·
  refine AGo.cond_true true rfl rfl ?_
  have hkl : k < R := by have h := hb1; simp only [decide_eq_true_eq] at h; omega
  obtain ⟨bit, hbit⟩ := get_of_lt (l := row) (k := k) (by omega)
  refine AGo.skip ?_
  refine AGo.seq ?_
  refine AGo.block ?_
  refine AGo.seq ?_
  refine AGo.region ?_
  refine am 41 ?_
  refine aa 16 ?_
  refine AOps.nil ?_
  refine AGo.seq ?_
  refine AGo.region ?_
  refine af 42 tok ?_
  refine al 43 tok ?_
  refine am 44 ?_
  refine af 45 tok ?_
  refine al 46 tok ?_
  refine am 47 ?_
  refine am 48 ?_
  refine am 49 ?_
  refine aq 50 (q_indexV tok rfl rfl rfl rfl rfl rfl rfl rfl (Int.natCast_nonneg _) (by rw [valC_len, (fillI_len (fun v : Nat => (v : Int)) (Nat.le_of_lt hkl))]; omega)) ?_
  refine AOps.w rfl rfl (o_storeV tok rfl rfl rfl rfl rfl rfl rfl (by rw [valC_len, (fillI_len (fun v : Nat => (v : Int)) (Nat.le_of_lt hkl)), Int.toNat_natCast]; exact hkl) (valC_one _) rfl rfl rfl) ?_
  refine aq 51 (q_indexV tok rfl rfl rfl rfl rfl rfl rfl rfl (Int.natCast_nonneg _) (by rw [valC_len, (fillI_len (sideB R (c.at' i)) (Nat.le_of_lt hkl))]; omega)) ?_
  refine AOps.w rfl rfl (o_storeV tok rfl rfl rfl rfl rfl rfl rfl (by rw [valC_len, (fillI_len (sideB R (c.at' i)) (Nat.le_of_lt hkl)), Int.toNat_natCast]; exact hkl) (valC_one _) rfl rfl rfl) ?_
  refine AOps.nil ?_
  refine AGo.seq ?_
  refine AGo.region ?_
  refine af 52 tok ?_
  refine al 53 tok ?_
  refine am 54 ?_
  refine aq 55 (q_index_lst tok rfl rfl rfl rfl rfl rfl hi.1 (by rw [List.getElem?_map, hrow]; rfl) rfl) ?_
  refine al 56 tok ?_
  refine am 57 ?_
  refine aq 58 (q_index_lst tok rfl rfl rfl rfl rfl rfl (Int.natCast_nonneg _) (idx_map hbit) rfl) ?_
  refine al 59 tok ?_
  refine aq 60 (q_not rfl rfl) ?_
  refine AOps.nil ?_
  refine AGo.split 60 rfl (fun hb2 => ?_) (fun hb2 => ?_)
  ·
   refine AGo.cond_true true rfl rfl ?_
   have hbf : bit = false := by simpa using hb2
   subst hbf
   refine AGo.region ?_
   refine af 61 tok ?_
   refine al 62 tok ?_
   refine am 63 ?_
   refine am 64 ?_
   refine am 65 ?_
   refine aq 66 (q_bin (r := .int .i64 ((R + k : Nat) : Int)) rfl rfl rfl (addZ (by omega) (by omega) (by omega))) ?_
   refine aq 67 (q_indexV2 tok rfl rfl rfl rfl rfl rfl rfl rfl (by rw [List.length_set]) (Int.natCast_nonneg _) (by rw [List.length_set, valC_len, (fillI_len (sideB R (c.at' i)) (Nat.le_of_lt hkl))]; omega)) ?_
   refine AOps.w rfl rfl (o_storeV tok rfl rfl rfl rfl rfl rfl rfl (by rw [List.length_set, valC_len, (fillI_len (sideB R (c.at' i)) (Nat.le_of_lt hkl)), Int.toNat_natCast]; exact hkl) (by intro cs hc; rcases List.mem_or_eq_of_mem_set hc with hc | rfl; exact valC_one _ _ hc; rfl) rfl rfl rfl) ?_
   refine AOps.nil ?_
   refine AGo.region ?_
   refine aq 68 (q_inc rfl rfl hkl (show R ≤ maxLen by simp only [maxLen]; omega)) ?_
   refine am 39 ?_
   refine AOps.nil ?_
   exact ⟨k+1, Drop.mk' (by repeat (first | exact EDrop.new _ _ | refine EDrop.put ?_ (by rfl) (by first | rfl | exact slA_avoid _ rfl | exact vaA_avoid _ rfl))) (by repeat (first | exact HDrop.none _ _ | exact HDrop.tail _ _ | refine HDrop.put ?_ (by first | rfl | exact fillRowA hkl | exact fillRowB hkl (hat ▸ hbit) | exact fillRowB2 hkl (hat ▸ hbit) | exact fillWlk _ _ _ _ hkl) rfl (by first | rfl | exact slO_avoid _ _ | exact vaO_avoid _ | exact tab_avoid _ _ rfl rfl | exact wlk_avoid _ _ _ rfl rfl rfl))), hkl, by omega⟩
  ·
   refine AGo.cond_false false rfl rfl ?_
   have hbf : bit = true := by simpa using hb2
   subst hbf
   refine AGo.skip ?_
   refine AGo.region ?_
   refine aq 68 (q_inc rfl rfl hkl (show R ≤ maxLen by simp only [maxLen]; omega)) ?_
   refine am 39 ?_
   refine AOps.nil ?_
   exact ⟨k+1, Drop.mk' (by repeat (first | exact EDrop.new _ _ | refine EDrop.put ?_ (by rfl) (by first | rfl | exact slA_avoid _ rfl | exact vaA_avoid _ rfl))) (by repeat (first | exact HDrop.none _ _ | exact HDrop.tail _ _ | refine HDrop.put ?_ (by first | rfl | exact fillRowA hkl | exact fillRowB hkl (hat ▸ hbit) | exact fillRowB2 hkl (hat ▸ hbit) | exact fillWlk _ _ _ _ hkl) rfl (by first | rfl | exact slO_avoid _ _ | exact vaO_avoid _ | exact tab_avoid _ _ rfl rfl | exact wlk_avoid _ _ _ rfl rfl rfl))), hkl, by omega⟩
 ·
  refine AGo.cond_false false rfl rfl ?_
  obtain rfl : R = k := by have h := hb1; simp only [decide_eq_false_iff_not] at h; omega
  refine AGo.exit ?_
  refine AGo.seq ?_
  refine AGo.seq ?_
  refine AGo.region ?_
  refine af 69 tok ?_
  refine al 70 tok ?_
  refine aq 71 (q_len tok rfl rfl rfl rfl rfl) ?_
  refine am 72 ?_
  refine AOps.nil ?_
  refine AGo.block ?_
  refine AGo.loopD (γ := Nat) 12 (fun k => ⟨146, (eput (eput (eput (eput (eput (eput (eput (eput (eput (eput (eput eNew 2 (.int .i64 (R : Int))) 4 (.int .i64 i)) 5 (intsAV next)) 6 (.ptr 0 1 0 0)) 7 (.ptr 1 1 0 0)) 9 (.ptr 2 1 0 0)) 14 (.ptr 6 1 0 0)) 15 (.ptr 8 1 0 0)) 70 (insAV old.ins)) 71 (.int .i64 (old.ins.length : Int))) 72 (.int .i64 (k : Int))), (hput (hput (hput (hput (hput (hput (hput (hput (hput (hput (hput (hput (hFrom 12) 0 (.row false 5 [old.cells])) 1 (.row false 5 [new.cells])) 2 (.row false 1 [c.cells])) 3 (.map (kvsA .i64 (vmap ((2 * R : Nat) : Int) (((vfold ((2 * R : Nat) : Int) (old.ins.take (k)) ⟨[], idsA R, [], 0⟩)).K))))) 4 (.row false 3 [[.int .i64 ((2 * R : Nat) : Int), .map 3, slA 9 ((((vfold ((2 * R : Nat) : Int) (old.ins.take (k)) ⟨[], idsA R, [], 0⟩)).K).map (arrAV .i64))]])) 9 (slO 4 ((((vfold ((2 * R : Nat) : Int) (old.ins.take (k)) ⟨[], idsA R, [], 0⟩)).K).map (arrAV .i64)))) 6 (.row false 4 [[.ptr 4 1 0 0, vaA 5 (valC ((vfold ((2 * R : Nat) : Int) (old.ins.take (k)) ⟨[], idsA R, [], 0⟩)).vals), slA 10 ((((vfold ((2 * R : Nat) : Int) (old.ins.take (k)) ⟨[], idsA R, [], 0⟩)).effs).map (arrAV .i64)), .int .i64 (((vfold ((2 * R : Nat) : Int) (old.ins.take (k)) ⟨[], idsA R, [], 0⟩)).time)]])) 5 (vaO (valC ((vfold ((2 * R : Nat) : Int) (old.ins.take (k)) ⟨[], idsA R, [], 0⟩)).vals))) 10 (slO 6 ((((vfold ((2 * R : Nat) : Int) (old.ins.take (k)) ⟨[], idsA R, [], 0⟩)).effs).map (arrAV .i64)))) 8 (.row false 4 [[.ptr 4 1 0 0, vaA 7 (valC (idsB R (c.at' i))), slA 11 (([]).map (arrAV .i64)), .int .i64 (0)]])) 7 (vaO (valC (idsB R (c.at' i))))) 11 (slO 6 (([]).map (arrAV .i64))))⟩) (fun k => k ≤ old.ins.length) (fun k => old.ins.length - k) 0 (Sub.mk' (by repeat (first | exact ESub.new _ | refine ESub.put ?_ (by first | rfl | exact congrArg (fun (n : Nat) => some (AV.int .i64 (n : Int))) (by simp)))) (by repeat (first | exact HSub.refl _ | exact HSub.none _ | exact HSub.from_new _ | exact HSub.from_from (by first | decide | omega | (dsimp only; omega)) | refine HSub.put ?_ (by first | rfl | exact initA | exact initB _ | exact initWA _ _ _ | exact initWB _ _ _ _) | refine HSub.from_put ?_ (by first | decide | omega | (dsimp only; omega)) | refine HSub.from_rm ?_ (by decide)))) (Nat.zero_le _) (fun _ => hput_free (hput_free (hput_free (hput_free (hput_free (hput_free (hput_free (hput_free (hput_free (hput_free (hput_free (hput_free (fun b hb => hFrom_free hb) rfl) rfl) rfl) rfl) rfl) rfl) rfl) rfl) rfl) rfl) rfl) rfl) ?_
  intro k hk
  refine AGo.seq ?_
  refine AGo.region ?_
  refine aq 73 (q_bin rfl rfl rfl rfl) ?_
  refine AOps.nil ?_
  refine AGo.seq ?_
  refine AGo.split 73 rfl (fun hb3 => ?_) (fun hb3 => ?_)
  ·
   refine AGo.cond_true true rfl rfl ?_
   have hkl : k < old.ins.length := by have h := hb3; simp only [List.length_map, decide_eq_true_eq] at h; omega
   obtain ⟨t, ht⟩ := get_of_lt hkl
   refine AGo.skip ?_
   refine AGo.seq ?_
   refine AGo.block ?_
   refine AGo.seq ?_
   refine AGo.region ?_
   refine aq 74 (q_index_lst tok rfl rfl rfl rfl rfl rfl (Int.natCast_nonneg _) (idx_map ht) rfl) ?_
   refine al 75 tok ?_
   refine ax 18 (o_alloc tok 12 rfl rfl rfl rfl (Nat.zero_lt_succ _) rfl) ?_
   refine AOps.w rfl rfl (o_store tok rfl rfl rfl rfl rfl rfl rfl rfl rfl (by decide) rfl (by first | exact fun _ => rfl | (intro h; cases h))) ?_
   refine AOps.nil ?_
   refine AGo.region ?_
   refine al 76 tok ?_
   refine ax 77 (o_call (hc := (hput (hput (hput (hput (hput (hput hNew 3 (.map (kvsA .i64 (vmap ((2 * R : Nat) : Int) (((vfold ((2 * R : Nat) : Int) (old.ins.take (k)) ⟨[], idsA R, [], 0⟩)).K))))) 4 (.row false 3 [[.int .i64 ((2 * R : Nat) : Int), .map 3, slA 9 ((((vfold ((2 * R : Nat) : Int) (old.ins.take (k)) ⟨[], idsA R, [], 0⟩)).K).map (arrAV .i64))]])) 9 (slO 4 ((((vfold ((2 * R : Nat) : Int) (old.ins.take (k)) ⟨[], idsA R, [], 0⟩)).K).map (arrAV .i64)))) 6 (.row false 4 [[.ptr 4 1 0 0, vaA 5 (valC ((vfold ((2 * R : Nat) : Int) (old.ins.take (k)) ⟨[], idsA R, [], 0⟩)).vals), slA 10 ((((vfold ((2 * R : Nat) : Int) (old.ins.take (k)) ⟨[], idsA R, [], 0⟩)).effs).map (arrAV .i64)), .int .i64 (((vfold ((2 * R : Nat) : Int) (old.ins.take (k)) ⟨[], idsA R, [], 0⟩)).time)]])) 5 (vaO (valC ((vfold ((2 * R : Nat) : Int) (old.ins.take (k)) ⟨[], idsA R, [], 0⟩)).vals))) 10 (slO 6 ((((vfold ((2 * R : Nat) : Int) (old.ins.take (k)) ⟨[], idsA R, [], 0⟩)).effs).map (arrAV .i64))))) (hw := (hput (hput (hput (hput (hput (hput hNone 3 (.map (kvsA .i64 (vmap ((2 * R : Nat) : Int) (((VW.step ((2 * R : Nat) : Int) (vfold ((2 * R : Nat) : Int) (old.ins.take (k)) ⟨[], idsA R, [], 0⟩) t)).K))))) 4 (.row false 3 [[.int .i64 ((2 * R : Nat) : Int), .map 3, slA 9 ((((VW.step ((2 * R : Nat) : Int) (vfold ((2 * R : Nat) : Int) (old.ins.take (k)) ⟨[], idsA R, [], 0⟩) t)).K).map (arrAV .i64))]])) 9 (slO 4 ((((VW.step ((2 * R : Nat) : Int) (vfold ((2 * R : Nat) : Int) (old.ins.take (k)) ⟨[], idsA R, [], 0⟩) t)).K).map (arrAV .i64)))) 6 (.row false 4 [[.ptr 4 1 0 0, vaA 5 (valC ((VW.step ((2 * R : Nat) : Int) (vfold ((2 * R : Nat) : Int) (old.ins.take (k)) ⟨[], idsA R, [], 0⟩) t)).vals), slA 10 ((((VW.step ((2 * R : Nat) : Int) (vfold ((2 * R : Nat) : Int) (old.ins.take (k)) ⟨[], idsA R, [], 0⟩) t)).effs).map (arrAV .i64)), .int .i64 (((VW.step ((2 * R : Nat) : Int) (vfold ((2 * R : Nat) : Int) (old.ins.take (k)) ⟨[], idsA R, [], 0⟩) t)).time)]])) 5 (vaO (valC ((VW.step ((2 * R : Nat) : Int) (vfold ((2 * R : Nat) : Int) (old.ins.take (k)) ⟨[], idsA R, [], 0⟩) t)).vals))) 10 (slO 6 ((((VW.step ((2 * R : Nat) : Int) (vfold ((2 * R : Nat) : Int) (old.ins.take (k)) ⟨[], idsA R, [], 0⟩) t)).effs).map (arrAV .i64))))) [10, 5, 6, 9, 4, 3] [(3, (.map (kvsA .i64 (vmap ((2 * R : Nat) : Int) (((VW.step ((2 * R : Nat) : Int) (vfold ((2 * R : Nat) : Int) (old.ins.take (k)) ⟨[], idsA R, [], 0⟩) t)).K))))), (4, (.row false 3 [[.int .i64 ((2 * R : Nat) : Int), .map 3, slA 9 ((((VW.step ((2 * R : Nat) : Int) (vfold ((2 * R : Nat) : Int) (old.ins.take (k)) ⟨[], idsA R, [], 0⟩) t)).K).map (arrAV .i64))]])), (9, (slO 4 ((((VW.step ((2 * R : Nat) : Int) (vfold ((2 * R : Nat) : Int) (old.ins.take (k)) ⟨[], idsA R, [], 0⟩) t)).K).map (arrAV .i64)))), (6, (.row false 4 [[.ptr 4 1 0 0, vaA 5 (valC ((VW.step ((2 * R : Nat) : Int) (vfold ((2 * R : Nat) : Int) (old.ins.take (k)) ⟨[], idsA R, [], 0⟩) t)).vals), slA 10 ((((VW.step ((2 * R : Nat) : Int) (vfold ((2 * R : Nat) : Int) (old.ins.take (k)) ⟨[], idsA R, [], 0⟩) t)).effs).map (arrAV .i64)), .int .i64 (((VW.step ((2 * R : Nat) : Int) (vfold ((2 * R : Nat) : Int) (old.ins.take (k)) ⟨[], idsA R, [], 0⟩) t)).time)]])), (5, (vaO (valC ((VW.step ((2 * R : Nat) : Int) (vfold ((2 * R : Nat) : Int) (old.ins.take (k)) ⟨[], idsA R, [], 0⟩) t)).vals))), (10, (slO 6 ((((VW.step ((2 * R : Nat) : Int) (vfold ((2 * R : Nat) : Int) (old.ins.take (k)) ⟨[], idsA R, [], 0⟩) t)).effs).map (arrAV .i64))))] rfl Try.func35 (by kernel_rfl) rfl rfl rfl ⟨⟨_, rfl, (by first | rfl | exact slO_avoid _ _ | exact vaO_avoid _ | exact tab_avoid _ _ rfl rfl | exact wlk_avoid _ _ _ rfl rfl rfl)⟩, ⟨_, rfl, (by first | rfl | exact slO_avoid _ _ | exact vaO_avoid _ | exact tab_avoid _ _ rfl rfl | exact wlk_avoid _ _ _ rfl rfl rfl)⟩, ⟨_, rfl, (by first | rfl | exact slO_avoid _ _ | exact vaO_avoid _ | exact tab_avoid _ _ rfl rfl | exact wlk_avoid _ _ _ rfl rfl rfl)⟩, ⟨_, rfl, (by first | rfl | exact slO_avoid _ _ | exact vaO_avoid _ | exact tab_avoid _ _ rfl rfl | exact wlk_avoid _ _ _ rfl rfl rfl)⟩, ⟨_, rfl, (by first | rfl | exact slO_avoid _ _ | exact vaO_avoid _ | exact tab_avoid _ _ rfl rfl | exact wlk_avoid _ _ _ rfl rfl rfl)⟩, ⟨_, rfl, (by first | rfl | exact slO_avoid _ _ | exact vaO_avoid _ | exact tab_avoid _ _ rfl rfl | exact wlk_avoid _ _ _ rfl rfl rfl)⟩, trivial⟩ rfl (hres_cons rfl (hres_cons rfl (hres_cons rfl (hres_cons rfl (hres_cons rfl (hres_cons rfl (hres_nil _))))))) ⟨⟨_, rfl, rfl, (by first | rfl | exact slO_avoid _ _ | exact vaO_avoid _ | exact tab_avoid _ _ rfl rfl | exact wlk_avoid _ _ _ rfl rfl rfl)⟩, ⟨_, rfl, rfl, (by first | rfl | exact slO_avoid _ _ | exact vaO_avoid _ | exact tab_avoid _ _ rfl rfl | exact wlk_avoid _ _ _ rfl rfl rfl)⟩, ⟨_, rfl, rfl, (by first | rfl | exact slO_avoid _ _ | exact vaO_avoid _ | exact tab_avoid _ _ rfl rfl | exact wlk_avoid _ _ _ rfl rfl rfl)⟩, ⟨_, rfl, rfl, (by first | rfl | exact slO_avoid _ _ | exact vaO_avoid _ | exact tab_avoid _ _ rfl rfl | exact wlk_avoid _ _ _ rfl rfl rfl)⟩, ⟨_, rfl, rfl, (by first | rfl | exact slO_avoid _ _ | exact vaO_avoid _ | exact tab_avoid _ _ rfl rfl | exact wlk_avoid _ _ _ rfl rfl rfl)⟩, ⟨_, rfl, rfl, (by first | rfl | exact slO_avoid _ _ | exact vaO_avoid _ | exact tab_avoid _ _ rfl rfl | exact wlk_avoid _ _ _ rfl rfl rfl)⟩, trivial⟩ rfl (vstepa_ok ((2 * R : Nat) : Int) R _ (vfold ((2 * R : Nat) : Int) (old.ins.take (k)) ⟨[], idsA R, [], 0⟩) (vfold_okk (vok_a hR) ho k) (by omega) t (ho t (List.mem_of_getElem? ht)))) ?_
   refine AOps.nil ?_
   refine AGo.region ?_
   refine aq 78 (q_inc rfl rfl hkl (show old.ins.length ≤ maxLen by simp only [maxLen]; omega)) ?_
   refine am 72 ?_
   refine AOps.nil ?_
   exact ⟨k+1, Drop.mk' (by repeat (first | exact EDrop.new _ _ | refine EDrop.put ?_ (by rfl) (by first | rfl | exact slA_avoid _ rfl | exact vaA_avoid _ rfl))) (by repeat (first | exact HDrop.none _ _ | exact HDrop.tail _ _ | refine HDrop.put ?_ (by first | rfl | (rw [vfold_succ ht]; rfl)) rfl (by first | rfl | exact slO_avoid _ _ | exact vaO_avoid _ | exact tab_avoid _ _ rfl rfl | exact wlk_avoid _ _ _ rfl rfl rfl))), hkl, by omega⟩
  ·
   refine AGo.cond_false false rfl rfl ?_
   have hge : old.ins.length ≤ k := by have h := hb3; simp only [List.length_map, decide_eq_false_iff_not] at h; omega
   refine AGo.exit ?_
   refine AGo.seq ?_
   refine AGo.seq ?_
   refine AGo.region ?_
   refine af 79 tok ?_
   refine al 80 tok ?_
   refine aq 81 (q_len tok rfl rfl rfl rfl rfl) ?_
   refine am 82 ?_
   refine AOps.nil ?_
   refine AGo.block ?_
   refine AGo.loopD (γ := Nat) 12 (fun k => ⟨146, (eput (eput (eput (eput (eput (eput (eput (eput (eput (eput (eput eNew 2 (.int .i64 (R : Int))) 4 (.int .i64 i)) 5 (intsAV next)) 6 (.ptr 0 1 0 0)) 7 (.ptr 1 1 0 0)) 9 (.ptr 2 1 0 0)) 14 (.ptr 6 1 0 0)) 15 (.ptr 8 1 0 0)) 80 (insAV new.ins)) 81 (.int .i64 (new.ins.length : Int))) 82 (.int .i64 (k : Int))), (hput (hput (hput (hput (hput (hput (hput (hput (hput (hput (hput (hput (hFrom 12) 0 (.row false 5 [old.cells])) 1 (.row false 5 [new.cells])) 2 (.row false 1 [c.cells])) 3 (.map (kvsA .i64 (vmap ((2 * R : Nat) : Int) (((vfold ((2 * R : Nat) : Int) (new.ins.take (k)) ⟨(vrunA R old).K, idsB R (c.at' i), [], 0⟩)).K))))) 4 (.row false 3 [[.int .i64 ((2 * R : Nat) : Int), .map 3, slA 9 ((((vfold ((2 * R : Nat) : Int) (new.ins.take (k)) ⟨(vrunA R old).K, idsB R (c.at' i), [], 0⟩)).K).map (arrAV .i64))]])) 9 (slO 4 ((((vfold ((2 * R : Nat) : Int) (new.ins.take (k)) ⟨(vrunA R old).K, idsB R (c.at' i), [], 0⟩)).K).map (arrAV .i64)))) 8 (.row false 4 [[.ptr 4 1 0 0, vaA 7 (valC ((vfold ((2 * R : Nat) : Int) (new.ins.take (k)) ⟨(vrunA R old).K, idsB R (c.at' i), [], 0⟩)).vals), slA 11 ((((vfold ((2 * R : Nat) : Int) (new.ins.take (k)) ⟨(vrunA R old).K, idsB R (c.at' i), [], 0⟩)).effs).map (arrAV .i64)), .int .i64 (((vfold ((2 * R : Nat) : Int) (new.ins.take (k)) ⟨(vrunA R old).K, idsB R (c.at' i), [], 0⟩)).time)]])) 7 (vaO (valC ((vfold ((2 * R : Nat) : Int) (new.ins.take (k)) ⟨(vrunA R old).K, idsB R (c.at' i), [], 0⟩)).vals))) 11 (slO 6 ((((vfold ((2 * R : Nat) : Int) (new.ins.take (k)) ⟨(vrunA R old).K, idsB R (c.at' i), [], 0⟩)).effs).map (arrAV .i64)))) 6 (.row false 4 [[.ptr 4 1 0 0, vaA 5 (valC (vrunA R old).vals), slA 10 (((vrunA R old).effs).map (arrAV .i64)), .int .i64 ((vrunA R old).time)]])) 5 (vaO (valC (vrunA R old).vals))) 10 (slO 6 (((vrunA R old).effs).map (arrAV .i64))))⟩) (fun k => k ≤ new.ins.length) (fun k => new.ins.length - k) 0 (Sub.mk' (by repeat (first | exact ESub.new _ | refine ESub.put ?_ (by first | rfl | exact congrArg (fun (n : Nat) => some (AV.int .i64 (n : Int))) (by simp)))) (by repeat (first | exact HSub.refl _ | exact HSub.none _ | exact HSub.from_new _ | exact HSub.from_from (by first | decide | omega | (dsimp only; omega)) | refine HSub.put ?_ (by first | rfl | (rw [vfold_end hge]; rfl)) | refine HSub.from_put ?_ (by first | decide | omega | (dsimp only; omega)) | refine HSub.from_rm ?_ (by decide)))) (Nat.zero_le _) (fun _ => hput_free (hput_free (hput_free (hput_free (hput_free (hput_free (hput_free (hput_free (hput_free (hput_free (hput_free (hput_free (fun b hb => hFrom_free hb) rfl) rfl) rfl) rfl) rfl) rfl) rfl) rfl) rfl) rfl) rfl) rfl) ?_
   intro k hk
   refine AGo.seq ?_
   refine AGo.region ?_
   refine aq 83 (q_bin rfl rfl rfl rfl) ?_
   refine AOps.nil ?_
   refine AGo.seq ?_
   refine AGo.split 83 rfl (fun hb4 => ?_) (fun hb4 => ?_)
   ·
    refine AGo.cond_true true rfl rfl ?_
    have hkl : k < new.ins.length := by have h := hb4; simp only [List.length_map, decide_eq_true_eq] at h; omega
    obtain ⟨t, ht⟩ := get_of_lt hkl
    refine AGo.skip ?_
    refine AGo.seq ?_
    refine AGo.block ?_
    refine AGo.seq ?_
    refine AGo.region ?_
    refine aq 84 (q_index_lst tok rfl rfl rfl rfl rfl rfl (Int.natCast_nonneg _) (idx_map ht) rfl) ?_
    refine al 85 tok ?_
    refine ax 20 (o_alloc tok 12 rfl rfl rfl rfl (Nat.zero_lt_succ _) rfl) ?_
    refine AOps.w rfl rfl (o_store tok rfl rfl rfl rfl rfl rfl rfl rfl rfl (by decide) rfl (by first | exact fun _ => rfl | (intro h; cases h))) ?_
    refine AOps.nil ?_
    refine AGo.region ?_
    refine al 86 tok ?_
    refine ax 87 (o_call (hc := (hput (hput (hput (hput (hput (hput hNew 3 (.map (kvsA .i64 (vmap ((2 * R : Nat) : Int) (((vfold ((2 * R : Nat) : Int) (new.ins.take (k)) ⟨(vrunA R old).K, idsB R (c.at' i), [], 0⟩)).K))))) 4 (.row false 3 [[.int .i64 ((2 * R : Nat) : Int), .map 3, slA 9 ((((vfold ((2 * R : Nat) : Int) (new.ins.take (k)) ⟨(vrunA R old).K, idsB R (c.at' i), [], 0⟩)).K).map (arrAV .i64))]])) 9 (slO 4 ((((vfold ((2 * R : Nat) : Int) (new.ins.take (k)) ⟨(vrunA R old).K, idsB R (c.at' i), [], 0⟩)).K).map (arrAV .i64)))) 8 (.row false 4 [[.ptr 4 1 0 0, vaA 7 (valC ((vfold ((2 * R : Nat) : Int) (new.ins.take (k)) ⟨(vrunA R old).K, idsB R (c.at' i), [], 0⟩)).vals), slA 11 ((((vfold ((2 * R : Nat) : Int) (new.ins.take (k)) ⟨(vrunA R old).K, idsB R (c.at' i), [], 0⟩)).effs).map (arrAV .i64)), .int .i64 (((vfold ((2 * R : Nat) : Int) (new.ins.take (k)) ⟨(vrunA R old).K, idsB R (c.at' i), [], 0⟩)).time)]])) 7 (vaO (valC ((vfold ((2 * R : Nat) : Int) (new.ins.take (k)) ⟨(vrunA R old).K, idsB R (c.at' i), [], 0⟩)).vals))) 11 (slO 6 ((((vfold ((2 * R : Nat) : Int) (new.ins.take (k)) ⟨(vrunA R old).K, idsB R (c.at' i), [], 0⟩)).effs).map (arrAV .i64))))) (hw := (hput (hput (hput (hput (hput (hput hNone 3 (.map (kvsA .i64 (vmap ((2 * R : Nat) : Int) (((VW.step ((2 * R : Nat) : Int) (vfold ((2 * R : Nat) : Int) (new.ins.take (k)) ⟨(vrunA R old).K, idsB R (c.at' i), [], 0⟩) t)).K))))) 4 (.row false 3 [[.int .i64 ((2 * R : Nat) : Int), .map 3, slA 9 ((((VW.step ((2 * R : Nat) : Int) (vfold ((2 * R : Nat) : Int) (new.ins.take (k)) ⟨(vrunA R old).K, idsB R (c.at' i), [], 0⟩) t)).K).map (arrAV .i64))]])) 9 (slO 4 ((((VW.step ((2 * R : Nat) : Int) (vfold ((2 * R : Nat) : Int) (new.ins.take (k)) ⟨(vrunA R old).K, idsB R (c.at' i), [], 0⟩) t)).K).map (arrAV .i64)))) 8 (.row false 4 [[.ptr 4 1 0 0, vaA 7 (valC ((VW.step ((2 * R : Nat) : Int) (vfold ((2 * R : Nat) : Int) (new.ins.take (k)) ⟨(vrunA R old).K, idsB R (c.at' i), [], 0⟩) t)).vals), slA 11 ((((VW.step ((2 * R : Nat) : Int) (vfold ((2 * R : Nat) : Int) (new.ins.take (k)) ⟨(vrunA R old).K, idsB R (c.at' i), [], 0⟩) t)).effs).map (arrAV .i64)), .int .i64 (((VW.step ((2 * R : Nat) : Int) (vfold ((2 * R : Nat) : Int) (new.ins.take (k)) ⟨(vrunA R old).K, idsB R (c.at' i), [], 0⟩) t)).time)]])) 7 (vaO (valC ((VW.step ((2 * R : Nat) : Int) (vfold ((2 * R : Nat) : Int) (new.ins.take (k)) ⟨(vrunA R old).K, idsB R (c.at' i), [], 0⟩) t)).vals))) 11 (slO 6 ((((VW.step ((2 * R : Nat) : Int) (vfold ((2 * R : Nat) : Int) (new.ins.take (k)) ⟨(vrunA R old).K, idsB R (c.at' i), [], 0⟩) t)).effs).map (arrAV .i64))))) [11, 7, 8, 9, 4, 3] [(3, (.map (kvsA .i64 (vmap ((2 * R : Nat) : Int) (((VW.step ((2 * R : Nat) : Int) (vfold ((2 * R : Nat) : Int) (new.ins.take (k)) ⟨(vrunA R old).K, idsB R (c.at' i), [], 0⟩) t)).K))))), (4, (.row false 3 [[.int .i64 ((2 * R : Nat) : Int), .map 3, slA 9 ((((VW.step ((2 * R : Nat) : Int) (vfold ((2 * R : Nat) : Int) (new.ins.take (k)) ⟨(vrunA R old).K, idsB R (c.at' i), [], 0⟩) t)).K).map (arrAV .i64))]])), (9, (slO 4 ((((VW.step ((2 * R : Nat) : Int) (vfold ((2 * R : Nat) : Int) (new.ins.take (k)) ⟨(vrunA R old).K, idsB R (c.at' i), [], 0⟩) t)).K).map (arrAV .i64)))), (8, (.row false 4 [[.ptr 4 1 0 0, vaA 7 (valC ((VW.step ((2 * R : Nat) : Int) (vfold ((2 * R : Nat) : Int) (new.ins.take (k)) ⟨(vrunA R old).K, idsB R (c.at' i), [], 0⟩) t)).vals), slA 11 ((((VW.step ((2 * R : Nat) : Int) (vfold ((2 * R : Nat) : Int) (new.ins.take (k)) ⟨(vrunA R old).K, idsB R (c.at' i), [], 0⟩) t)).effs).map (arrAV .i64)), .int .i64 (((VW.step ((2 * R : Nat) : Int) (vfold ((2 * R : Nat) : Int) (new.ins.take (k)) ⟨(vrunA R old).K, idsB R (c.at' i), [], 0⟩) t)).time)]])), (7, (vaO (valC ((VW.step ((2 * R : Nat) : Int) (vfold ((2 * R : Nat) : Int) (new.ins.take (k)) ⟨(vrunA R old).K, idsB R (c.at' i), [], 0⟩) t)).vals))), (11, (slO 6 ((((VW.step ((2 * R : Nat) : Int) (vfold ((2 * R : Nat) : Int) (new.ins.take (k)) ⟨(vrunA R old).K, idsB R (c.at' i), [], 0⟩) t)).effs).map (arrAV .i64))))] rfl Try.func35 (by kernel_rfl) rfl rfl rfl ⟨⟨_, rfl, (by first | rfl | exact slO_avoid _ _ | exact vaO_avoid _ | exact tab_avoid _ _ rfl rfl | exact wlk_avoid _ _ _ rfl rfl rfl)⟩, ⟨_, rfl, (by first | rfl | exact slO_avoid _ _ | exact vaO_avoid _ | exact tab_avoid _ _ rfl rfl | exact wlk_avoid _ _ _ rfl rfl rfl)⟩, ⟨_, rfl, (by first | rfl | exact slO_avoid _ _ | exact vaO_avoid _ | exact tab_avoid _ _ rfl rfl | exact wlk_avoid _ _ _ rfl rfl rfl)⟩, ⟨_, rfl, (by first | rfl | exact slO_avoid _ _ | exact vaO_avoid _ | exact tab_avoid _ _ rfl rfl | exact wlk_avoid _ _ _ rfl rfl rfl)⟩, ⟨_, rfl, (by first | rfl | exact slO_avoid _ _ | exact vaO_avoid _ | exact tab_avoid _ _ rfl rfl | exact wlk_avoid _ _ _ rfl rfl rfl)⟩, ⟨_, rfl, (by first | rfl | exact slO_avoid _ _ | exact vaO_avoid _ | exact tab_avoid _ _ rfl rfl | exact wlk_avoid _ _ _ rfl rfl rfl)⟩, trivial⟩ rfl (hres_cons rfl (hres_cons rfl (hres_cons rfl (hres_cons rfl (hres_cons rfl (hres_cons rfl (hres_nil _))))))) ⟨⟨_, rfl, rfl, (by first | rfl | exact slO_avoid _ _ | exact vaO_avoid _ | exact tab_avoid _ _ rfl rfl | exact wlk_avoid _ _ _ rfl rfl rfl)⟩, ⟨_, rfl, rfl, (by first | rfl | exact slO_avoid _ _ | exact vaO_avoid _ | exact tab_avoid _ _ rfl rfl | exact wlk_avoid _ _ _ rfl rfl rfl)⟩, ⟨_, rfl, rfl, (by first | rfl | exact slO_avoid _ _ | exact vaO_avoid _ | exact tab_avoid _ _ rfl rfl | exact wlk_avoid _ _ _ rfl rfl rfl)⟩, ⟨_, rfl, rfl, (by first | rfl | exact slO_avoid _ _ | exact vaO_avoid _ | exact tab_avoid _ _ rfl rfl | exact wlk_avoid _ _ _ rfl rfl rfl)⟩, ⟨_, rfl, rfl, (by first | rfl | exact slO_avoid _ _ | exact vaO_avoid _ | exact tab_avoid _ _ rfl rfl | exact wlk_avoid _ _ _ rfl rfl rfl)⟩, ⟨_, rfl, rfl, (by first | rfl | exact slO_avoid _ _ | exact vaO_avoid _ | exact tab_avoid _ _ rfl rfl | exact wlk_avoid _ _ _ rfl rfl rfl)⟩, trivial⟩ rfl (vstepb_ok ((2 * R : Nat) : Int) R _ (vfold ((2 * R : Nat) : Int) (new.ins.take (k)) ⟨(vrunA R old).K, idsB R (c.at' i), [], 0⟩) (vfold_okk (vok_b hoa _) hn k) (by omega) t (hn t (List.mem_of_getElem? ht)))) ?_
    refine AOps.nil ?_
    refine AGo.region ?_
    refine aq 88 (q_inc rfl rfl hkl (show new.ins.length ≤ maxLen by simp only [maxLen]; omega)) ?_
    refine am 82 ?_
    refine AOps.nil ?_
    exact ⟨k+1, Drop.mk' (by repeat (first | exact EDrop.new _ _ | refine EDrop.put ?_ (by rfl) (by first | rfl | exact slA_avoid _ rfl | exact vaA_avoid _ rfl))) (by repeat (first | exact HDrop.none _ _ | exact HDrop.tail _ _ | refine HDrop.put ?_ (by first | rfl | (rw [vfold_succ ht]; rfl)) rfl (by first | rfl | exact slO_avoid _ _ | exact vaO_avoid _ | exact tab_avoid _ _ rfl rfl | exact wlk_avoid _ _ _ rfl rfl rfl))), hkl, by omega⟩
   ·
    refine AGo.cond_false false rfl rfl ?_
    have hge : new.ins.length ≤ k := by have h := hb4; simp only [List.length_map, decide_eq_false_iff_not] at h; omega
    rw [vfold_end hge]
    refine AGo.exit ?_
    refine AGo.seq ?_
    refine AGo.seq ?_
    refine AGo.region ?_
    refine af 89 tok ?_
    refine al 90 tok ?_
    refine af 91 tok ?_
    refine al 92 tok ?_
    refine ax 93 (o_call (hc := (hput (hput hNew 10 (slO 6 (((vrunA R old).effs).map (arrAV .i64)))) 11 (slO 6 (((vrunB R old new (c.at' i)).effs).map (arrAV .i64))))) (hw := (hput (hput hNone 10 (slO 6 (((vrunA R old).effs).map (arrAV .i64)))) 11 (slO 6 (((vrunB R old new (c.at' i)).effs).map (arrAV .i64))))) [11, 10] [] rfl Try.func36 (by kernel_rfl) rfl rfl (by simp only [List.all_cons, List.all_nil, slA_avoid _ (show mem [11, 10] 10 = true from rfl), slA_avoid _ (show mem [11, 10] 11 = true from rfl)]; rfl) ⟨⟨_, rfl, (by first | rfl | exact slO_avoid _ _ | exact vaO_avoid _ | exact tab_avoid _ _ rfl rfl | exact wlk_avoid _ _ _ rfl rfl rfl)⟩, ⟨_, rfl, (by first | rfl | exact slO_avoid _ _ | exact vaO_avoid _ | exact tab_avoid _ _ rfl rfl | exact wlk_avoid _ _ _ rfl rfl rfl)⟩, trivial⟩ rfl (hres_cons rfl (hres_cons rfl (hres_nil _))) ⟨⟨_, rfl, rfl, (by first | rfl | exact slO_avoid _ _ | exact vaO_avoid _ | exact tab_avoid _ _ rfl rfl | exact wlk_avoid _ _ _ rfl rfl rfl)⟩, ⟨_, rfl, rfl, (by first | rfl | exact slO_avoid _ _ | exact vaO_avoid _ | exact tab_avoid _ _ rfl rfl | exact wlk_avoid _ _ _ rfl rfl rfl)⟩, trivial⟩ rfl (effs_ok (vrunA R old).effs (vrunB R old new (c.at' i)).effs hoa.e6 hob.e6 (by have := hoa.el; omega))) ?_
    refine aq 94 (q_not rfl rfl) ?_
    refine AOps.nil ?_
    refine AGo.split 94 rfl (fun hb5 => ?_) (fun hb5 => ?_)
    ·
     refine AGo.cond_true true rfl rfl ?_
     have hef := hb5
     refine AGo.seq ?_
     refine AGo.region ?_
     refine aa 12 ?_
     refine AOps.nil ?_
     refine AGo.ret ?_
     refine ⟨[_], ⟨rfl, trivial⟩, ?_, rfl⟩
     show AV.bool _ = AV.bool _
     congr 1
     exact (vsame_no1 (ndec_no hef)).symm
    ·
     refine AGo.cond_false false rfl rfl ?_
     have hef := hb5
     refine AGo.skip ?_
     refine AGo.seq ?_
     refine AGo.seq ?_
     refine AGo.draw mix ?_
     refine df 95 tok ?_
     refine dl 96 tok ?_
     refine dq 97 (q_bin rfl rfl rfl rfl) ?_
     refine dm 98 ?_
     refine DOps.split 98 rfl (fun hb6 => ?_) (fun hb6 => ?_)
     ·
      have hf2 : old.fin = 2 := by simpa using hb6
      have hxo := hoa.at (hv hf2).1
      have hxn := hob.at (hv hf2).2
      refine df 99 tok ?_
      refine dl 100 tok ?_
      refine df 101 tok ?_
      refine dl 102 tok ?_
      refine dq 103 (q_indexV tok rfl rfl rfl rfl rfl rfl rfl rfl hxo.1 hxo.2.2.1) ?_
      refine dq 104 (q_load tok rfl rfl rfl (ptsV rfl (valC_get ⟨hxo.1, hxo.2.1⟩)) rfl) ?_
      refine df 105 tok ?_
      refine dl 106 tok ?_
      refine df 107 tok ?_
      refine dl 108 tok ?_
      refine dq 109 (q_indexV tok rfl rfl rfl rfl rfl rfl rfl rfl hxn.1 hxn.2.2.1) ?_
      refine dq 110 (q_load tok rfl rfl rfl (ptsV rfl (valC_get ⟨hxn.1, hxn.2.1⟩)) rfl) ?_
      refine dq 111 (q_bin rfl rfl rfl rfl) ?_
      refine dq 112 (q_pick_true true rfl rfl rfl rfl) ?_
      refine DOps.nil (by kernel_rfl) ?_
      refine AGo.split 112 rfl (fun hb7 => ?_) (fun hb7 => ?_)
      ·
       refine AGo.cond_true true rfl rfl ?_
       have hvf := hb7
       refine AGo.seq ?_
       refine AGo.region ?_
       refine aa 12 ?_
       refine AOps.nil ?_
       refine AGo.ret ?_
       refine ⟨[_], ⟨rfl, trivial⟩, ?_, rfl⟩
       show AV.bool _ = AV.bool _
       congr 1
       exact (vsame_no2 hf2 (bne_ne' hvf)).symm
      ·
       refine AGo.cond_false false rfl rfl ?_
       have hvf := hb7
       refine AGo.skip ?_
       refine AGo.seq ?_
       refine AGo.seq ?_
       refine AGo.region ?_
       refine am 113 ?_
       refine aq 114 (q_len tok rfl rfl rfl rfl rfl) ?_
       refine am 115 ?_
       refine AOps.nil ?_
       refine AGo.block ?_
       refine AGo.loopD (γ := Nat) 12 (fun j => ⟨146, (eput (eput (eput (eput (eput (eput (eput (eput (eput (eput (eput eNew 2 (.int .i64 (R : Int))) 4 (.int .i64 i)) 5 (intsAV next)) 6 (.ptr 0 1 0 0)) 7 (.ptr 1 1 0 0)) 9 (.ptr 2 1 0 0)) 14 (.ptr 6 1 0 0)) 15 (.ptr 8 1 0 0)) 113 (intsAV next)) 114 (.int .i64 (next.length : Int))) 115 (.int .i64 (j : Int))), (hput (hput (hput (hput (hput (hput (hput (hput (hput (hput (hput (hput (hFrom 12) 0 (.row false 5 [old.cells])) 1 (.row false 5 [new.cells])) 2 (.row false 1 [c.cells])) 3 (.map (kvsA .i64 (vmap ((2 * R : Nat) : Int) (((vrunB R old new (c.at' i))).K))))) 4 (.row false 3 [[.int .i64 ((2 * R : Nat) : Int), .map 3, slA 9 ((((vrunB R old new (c.at' i))).K).map (arrAV .i64))]])) 9 (slO 4 ((((vrunB R old new (c.at' i))).K).map (arrAV .i64)))) 8 (.row false 4 [[.ptr 4 1 0 0, vaA 7 (valC ((vrunB R old new (c.at' i))).vals), slA 11 ((((vrunB R old new (c.at' i))).effs).map (arrAV .i64)), .int .i64 (((vrunB R old new (c.at' i))).time)]])) 7 (vaO (valC ((vrunB R old new (c.at' i))).vals))) 11 (slO 6 ((((vrunB R old new (c.at' i))).effs).map (arrAV .i64)))) 6 (.row false 4 [[.ptr 4 1 0 0, vaA 5 (valC (vrunA R old).vals), slA 10 (((vrunA R old).effs).map (arrAV .i64)), .int .i64 ((vrunA R old).time)]])) 5 (vaO (valC (vrunA R old).vals))) 10 (slO 6 (((vrunA R old).effs).map (arrAV .i64))))⟩) (fun j => j ≤ next.length ∧ (next.take j).all (fun k => vagree (vrunA R old) (vrunB R old new (c.at' i)) (c.at' k)) = true) (fun j => next.length - j) 0 (Sub.mk' (by repeat (first | exact ESub.new _ | refine ESub.put ?_ (by first | rfl | exact congrArg (fun (n : Nat) => some (AV.int .i64 (n : Int))) (by simp)))) (by repeat (first | exact HSub.refl _ | exact HSub.none _ | exact HSub.from_new _ | exact HSub.from_from (by first | decide | omega | (dsimp only; omega)) | refine HSub.put ?_ (by first | rfl | (rw [vfold_end hge]; rfl)) | refine HSub.from_put ?_ (by first | decide | omega | (dsimp only; omega)) | refine HSub.from_rm ?_ (by decide)))) ⟨Nat.zero_le _, rfl⟩ (fun _ => hput_free (hput_free (hput_free (hput_free (hput_free (hput_free (hput_free (hput_free (hput_free (hput_free (hput_free (hput_free (fun b hb => hFrom_free hb) rfl) rfl) rfl) rfl) rfl) rfl) rfl) rfl) rfl) rfl) rfl) rfl) ?_
       intro j ⟨hj, hall⟩
       refine AGo.seq ?_
       refine AGo.region ?_
       refine aq 116 (q_bin rfl rfl rfl rfl) ?_
       refine AOps.nil ?_
       refine AGo.seq ?_
       refine AGo.split 116 rfl (fun hb8 => ?_) (fun hb8 => ?_)
       ·
        refine AGo.cond_true true rfl rfl ?_
        have hjl : j < next.length := by have h := hb8; simp only [List.length_map, decide_eq_true_eq] at h; omega
        obtain ⟨nk, hnk⟩ := get_of_lt hjl
        have hkr := hnx nk (List.mem_of_getElem? hnk)
        obtain ⟨row2, hrow2⟩ := get_of_lt (l := c.same) (k := nk.toNat) (by omega)
        have hat2 : c.at' nk = row2 := by unfold Cert.at'; rw [hrow2]; rfl
        have hrl2 := hc row2 (List.mem_of_getElem? hrow2)
        refine AGo.skip ?_
        refine AGo.seq ?_
        refine AGo.block ?_
        refine AGo.seq ?_
        refine AGo.region ?_
        refine aq 117 (q_index_lst tok rfl rfl rfl rfl rfl rfl (Int.natCast_nonneg _) (idx_map hnk) rfl) ?_
        refine al 118 tok ?_
        refine aa 22 ?_
        refine AOps.nil ?_
        refine AGo.seq ?_
        refine AGo.region ?_
        refine af 119 tok ?_
        refine al 120 tok ?_
        refine am 121 ?_
        refine aq 122 (q_index_lst tok rfl rfl rfl rfl rfl rfl hkr.1 (by rw [List.getElem?_map, hrow2]; rfl) rfl) ?_
        refine al 123 tok ?_
        refine aq 124 (q_len tok rfl rfl rfl rfl rfl) ?_
        refine am 125 ?_
        refine AOps.nil ?_
        refine AGo.block ?_
        refine AGo.loopD (γ := Nat) 12 (fun k => ⟨146, (eput (eput (eput (eput (eput (eput (eput (eput (eput (eput (eput (eput (eput (eput eNew 2 (.int .i64 (R : Int))) 4 (.int .i64 i)) 5 (intsAV next)) 6 (.ptr 0 1 0 0)) 7 (.ptr 1 1 0 0)) 9 (.ptr 2 1 0 0)) 14 (.ptr 6 1 0 0)) 15 (.ptr 8 1 0 0)) 113 (intsAV next)) 114 (.int .i64 (next.length : Int))) 115 (.int .i64 (j : Int))) 123 (boolsAV row2)) 124 (.int .i64 (row2.length : Int))) 125 (.int .i64 (k : Int))), (hput (hput (hput (hput (hput (hput (hput (hput (hput (hput (hput (hput (hFrom 12) 0 (.row false 5 [old.cells])) 1 (.row false 5 [new.cells])) 2 (.row false 1 [c.cells])) 3 (.map (kvsA .i64 (vmap ((2 * R : Nat) : Int) (((vrunB R old new (c.at' i))).K))))) 4 (.row false 3 [[.int .i64 ((2 * R : Nat) : Int), .map 3, slA 9 ((((vrunB R old new (c.at' i))).K).map (arrAV .i64))]])) 9 (slO 4 ((((vrunB R old new (c.at' i))).K).map (arrAV .i64)))) 8 (.row false 4 [[.ptr 4 1 0 0, vaA 7 (valC ((vrunB R old new (c.at' i))).vals), slA 11 ((((vrunB R old new (c.at' i))).effs).map (arrAV .i64)), .int .i64 (((vrunB R old new (c.at' i))).time)]])) 7 (vaO (valC ((vrunB R old new (c.at' i))).vals))) 11 (slO 6 ((((vrunB R old new (c.at' i))).effs).map (arrAV .i64)))) 6 (.row false 4 [[.ptr 4 1 0 0, vaA 5 (valC (vrunA R old).vals), slA 10 (((vrunA R old).effs).map (arrAV .i64)), .int .i64 ((vrunA R old).time)]])) 5 (vaO (valC (vrunA R old).vals))) 10 (slO 6 (((vrunA R old).effs).map (arrAV .i64))))⟩) (fun k => k ≤ row2.length ∧ vagreeTo (vrunA R old) (vrunB R old new (c.at' i)) row2 k) (fun k => row2.length - k) 0 (Sub.mk' (by repeat (first | exact ESub.new _ | refine ESub.put ?_ (by first | rfl | exact congrArg (fun (n : Nat) => some (AV.int .i64 (n : Int))) (by simp)))) (by repeat (first | exact HSub.refl _ | exact HSub.none _ | exact HSub.from_new _ | exact HSub.from_from (by first | decide | omega | (dsimp only; omega)) | refine HSub.put ?_ (by rfl) | refine HSub.from_put ?_ (by first | decide | omega | (dsimp only; omega)) | refine HSub.from_rm ?_ (by decide)))) ⟨Nat.zero_le _, vagree_zero⟩ (fun _ => hput_free (hput_free (hput_free (hput_free (hput_free (hput_free (hput_free (hput_free (hput_free (hput_free (hput_free (hput_free (fun b hb => hFrom_free hb) rfl) rfl) rfl) rfl) rfl) rfl) rfl) rfl) rfl) rfl) rfl) rfl) ?_
        intro k ⟨hk, hagr⟩
        refine AGo.seq ?_
        refine AGo.region ?_
        refine aq 126 (q_bin rfl rfl rfl rfl) ?_
        refine AOps.nil ?_
        refine AGo.seq ?_
        refine AGo.split 126 rfl (fun hb9 => ?_) (fun hb9 => ?_)
        ·
         refine AGo.cond_true true rfl rfl ?_
         have hkl : k < row2.length := by have h := hb9; simp only [List.length_map, decide_eq_true_eq] at h; omega
         obtain ⟨must, hmu⟩ := get_of_lt hkl
         refine AGo.skip ?_
         refine AGo.seq ?_
         refine AGo.block ?_
         refine AGo.seq ?_
         refine AGo.region ?_
         refine am 127 ?_
         refine aq 128 (q_index_lst tok rfl rfl rfl rfl rfl rfl (Int.natCast_nonneg _) (idx_map hmu) rfl) ?_
         refine al 129 tok ?_
         refine aa 23 ?_
         refine aa 24 ?_
         refine AOps.nil ?_
         refine AGo.seq ?_
         refine AGo.draw mix ?_
         refine dm 130 ?_
         refine dm 131 ?_
         refine DOps.split 131 rfl (fun hb10 => ?_) (fun hb10 => ?_)
         ·
          have hmt : must = true := by simpa using hb10
          have hxv := hoa.at (z := (k : Int)) (by omega)
          have hyv := hob.at (z := (k : Int)) (by omega)
          refine df 132 tok ?_
          refine dl 133 tok ?_
          refine dm 134 ?_
          refine dq 135 (q_indexV tok rfl rfl rfl rfl rfl rfl rfl rfl hxv.1 hxv.2.2.1) ?_
          refine dq 136 (q_load tok rfl rfl rfl (ptsV rfl (valC_get ⟨hxv.1, hxv.2.1⟩)) rfl) ?_
          refine df 137 tok ?_
          refine dl 138 tok ?_
          refine dm 139 ?_
          refine dq 140 (q_indexV tok rfl rfl rfl rfl rfl rfl rfl rfl hyv.1 hyv.2.2.1) ?_
          refine dq 141 (q_load tok rfl rfl rfl (ptsV rfl (valC_get ⟨hyv.1, hyv.2.1⟩)) rfl) ?_
          refine dq 142 (q_bin rfl rfl rfl rfl) ?_
          refine dq 143 (q_pick_true true rfl rfl rfl rfl) ?_
          refine DOps.nil (by kernel_rfl) ?_
          refine AGo.split 143 rfl (fun hb11 => ?_) (fun hb11 => ?_)
          ·
           refine AGo.cond_true true rfl rfl ?_
           have hag := hb11
           refine AGo.seq ?_
           refine AGo.region ?_
           refine aa 12 ?_
           refine AOps.nil ?_
           refine AGo.ret ?_
           refine ⟨[_], ⟨rfl, trivial⟩, ?_, rfl⟩
           show AV.bool _ = AV.bool _
           congr 1
           exact (vsame_no3 hnk (by rw [hat2]; exact vagree_no hmu hmt (bne_ne' hag))).symm
          ·
           refine AGo.cond_false false rfl rfl ?_
           have hag := hb11
           refine AGo.skip ?_
           refine AGo.region ?_
           refine aq 144 (q_inc rfl rfl hkl (show row2.length ≤ maxLen by simp only [maxLen]; omega)) ?_
           refine am 125 ?_
           refine AOps.nil ?_
           exact ⟨k+1, Drop.mk' (by repeat (first | exact EDrop.new _ _ | refine EDrop.put ?_ (by rfl) (by first | rfl | exact slA_avoid _ rfl | exact vaA_avoid _ rfl))) (by repeat (first | exact HDrop.none _ _ | exact HDrop.tail _ _ | refine HDrop.put ?_ (by rfl) rfl (by first | rfl | exact slO_avoid _ _ | exact vaO_avoid _ | exact tab_avoid _ _ rfl rfl | exact wlk_avoid _ _ _ rfl rfl rfl))), ⟨hkl, vagree_succ hagr hmu (by first | exact fun _ => bne_eq' hag | (exact fun h => by rw [hag] at h; cases h))⟩, by omega⟩
         ·
          refine dk 132 ?_
          refine dk 133 ?_
          refine dk 134 ?_
          refine dk 135 ?_
          refine dk 136 ?_
          refine dk 137 ?_
          refine dk 138 ?_
          refine dk 139 ?_
          refine dk 140 ?_
          refine dk 141 ?_
          refine dk 142 ?_
          refine dq 143 (q_pick_false false rfl rfl rfl rfl) ?_
          refine DOps.nil (by kernel_rfl) ?_
          refine AGo.cond_false false rfl rfl ?_
          have hag := hb10
          refine AGo.skip ?_
          refine AGo.region ?_
          refine aq 144 (q_inc rfl rfl hkl (show row2.length ≤ maxLen by simp only [maxLen]; omega)) ?_
          refine am 125 ?_
          refine AOps.nil ?_
          exact ⟨k+1, Drop.mk' (by repeat (first | exact EDrop.new _ _ | refine EDrop.put ?_ (by rfl) (by first | rfl | exact slA_avoid _ rfl | exact vaA_avoid _ rfl))) (by repeat (first | exact HDrop.none _ _ | exact HDrop.tail _ _ | refine HDrop.put ?_ (by rfl) rfl (by first | rfl | exact slO_avoid _ _ | exact vaO_avoid _ | exact tab_avoid _ _ rfl rfl | exact wlk_avoid _ _ _ rfl rfl rfl))), ⟨hkl, vagree_succ hagr hmu (by first | exact fun _ => bne_eq' hag | (exact fun h => by rw [hag] at h; cases h))⟩, by omega⟩
        ·
         refine AGo.cond_false false rfl rfl ?_
         have hkge : row2.length ≤ k := by have h := hb9; simp only [List.length_map, decide_eq_false_iff_not] at h; omega
         refine AGo.exit ?_
         refine AGo.region ?_
         refine aq 145 (q_inc rfl rfl hjl (show next.length ≤ maxLen by simp only [maxLen]; omega)) ?_
         refine am 115 ?_
         refine AOps.nil ?_
         exact ⟨j+1, Drop.mk' (by repeat (first | exact EDrop.new _ _ | refine EDrop.put ?_ (by rfl) (by first | rfl | exact slA_avoid _ rfl | exact vaA_avoid _ rfl))) (by repeat (first | exact HDrop.none _ _ | exact HDrop.tail _ _ | refine HDrop.put ?_ (by rfl) rfl (by first | rfl | exact slO_avoid _ _ | exact vaO_avoid _ | exact tab_avoid _ _ rfl rfl | exact wlk_avoid _ _ _ rfl rfl rfl))), ⟨hjl, all_succ hnk hall (by rw [hat2]; exact vagree_end hkge hagr)⟩, by omega⟩
       ·
        refine AGo.cond_false false rfl rfl ?_
        have hjge : next.length ≤ j := by have h := hb8; simp only [List.length_map, decide_eq_false_iff_not] at h; omega
        refine AGo.exit ?_
        refine AGo.seq ?_
        refine AGo.region ?_
        refine aa 12 ?_
        refine AOps.nil ?_
        refine AGo.ret ?_
        refine ⟨[_], ⟨rfl, trivial⟩, ?_, rfl⟩
        show AV.bool _ = AV.bool _
        congr 1
        exact (vsame_yes (ndec_yes hef) (by first | exact fun _ => bne_eq' hvf | (exact fun hf => absurd hf (by simpa using hvf))) (all_end hall hjge)).symm
     ·
      refine dk 99 ?_
      refine dk 100 ?_
      refine dk 101 ?_
      refine dk 102 ?_
      refine dk 103 ?_
      refine dk 104 ?_
      refine dk 105 ?_
      refine dk 106 ?_
      refine dk 107 ?_
      refine dk 108 ?_
      refine dk 109 ?_
      refine dk 110 ?_
      refine dk 111 ?_
      refine dq 112 (q_pick_false false rfl rfl rfl rfl) ?_
      refine DOps.nil (by kernel_rfl) ?_
      refine AGo.cond_false false rfl rfl ?_
      have hvf := hb6
      refine AGo.skip ?_
      refine AGo.seq ?_
      refine AGo.seq ?_
      refine AGo.region ?_
      refine am 113 ?_
      refine aq 114 (q_len tok rfl rfl rfl rfl rfl) ?_
      refine am 115 ?_
      refine AOps.nil ?_
      refine AGo.block ?_
      refine AGo.loopD (γ := Nat) 12 (fun j => ⟨146, (eput (eput (eput (eput (eput (eput (eput (eput (eput (eput (eput eNew 2 (.int .i64 (R : Int))) 4 (.int .i64 i)) 5 (intsAV next)) 6 (.ptr 0 1 0 0)) 7 (.ptr 1 1 0 0)) 9 (.ptr 2 1 0 0)) 14 (.ptr 6 1 0 0)) 15 (.ptr 8 1 0 0)) 113 (intsAV next)) 114 (.int .i64 (next.length : Int))) 115 (.int .i64 (j : Int))), (hput (hput (hput (hput (hput (hput (hput (hput (hput (hput (hput (hput (hFrom 12) 0 (.row false 5 [old.cells])) 1 (.row false 5 [new.cells])) 2 (.row false 1 [c.cells])) 3 (.map (kvsA .i64 (vmap ((2 * R : Nat) : Int) (((vrunB R old new (c.at' i))).K))))) 4 (.row false 3 [[.int .i64 ((2 * R : Nat) : Int), .map 3, slA 9 ((((vrunB R old new (c.at' i))).K).map (arrAV .i64))]])) 9 (slO 4 ((((vrunB R old new (c.at' i))).K).map (arrAV .i64)))) 8 (.row false 4 [[.ptr 4 1 0 0, vaA 7 (valC ((vrunB R old new (c.at' i))).vals), slA 11 ((((vrunB R old new (c.at' i))).effs).map (arrAV .i64)), .int .i64 (((vrunB R old new (c.at' i))).time)]])) 7 (vaO (valC ((vrunB R old new (c.at' i))).vals))) 11 (slO 6 ((((vrunB R old new (c.at' i))).effs).map (arrAV .i64)))) 6 (.row false 4 [[.ptr 4 1 0 0, vaA 5 (valC (vrunA R old).vals), slA 10 (((vrunA R old).effs).map (arrAV .i64)), .int .i64 ((vrunA R old).time)]])) 5 (vaO (valC (vrunA R old).vals))) 10 (slO 6 (((vrunA R old).effs).map (arrAV .i64))))⟩) (fun j => j ≤ next.length ∧ (next.take j).all (fun k => vagree (vrunA R old) (vrunB R old new (c.at' i)) (c.at' k)) = true) (fun j => next.length - j) 0 (Sub.mk' (by repeat (first | exact ESub.new _ | refine ESub.put ?_ (by first | rfl | exact congrArg (fun (n : Nat) => some (AV.int .i64 (n : Int))) (by simp)))) (by repeat (first | exact HSub.refl _ | exact HSub.none _ | exact HSub.from_new _ | exact HSub.from_from (by first | decide | omega | (dsimp only; omega)) | refine HSub.put ?_ (by first | rfl | (rw [vfold_end hge]; rfl)) | refine HSub.from_put ?_ (by first | decide | omega | (dsimp only; omega)) | refine HSub.from_rm ?_ (by decide)))) ⟨Nat.zero_le _, rfl⟩ (fun _ => hput_free (hput_free (hput_free (hput_free (hput_free (hput_free (hput_free (hput_free (hput_free (hput_free (hput_free (hput_free (fun b hb => hFrom_free hb) rfl) rfl) rfl) rfl) rfl) rfl) rfl) rfl) rfl) rfl) rfl) rfl) ?_
      intro j ⟨hj, hall⟩
      refine AGo.seq ?_
      refine AGo.region ?_
      refine aq 116 (q_bin rfl rfl rfl rfl) ?_
      refine AOps.nil ?_
      refine AGo.seq ?_
      refine AGo.split 116 rfl (fun hb12 => ?_) (fun hb12 => ?_)
      ·
       refine AGo.cond_true true rfl rfl ?_
       have hjl : j < next.length := by have h := hb12; simp only [List.length_map, decide_eq_true_eq] at h; omega
       obtain ⟨nk, hnk⟩ := get_of_lt hjl
       have hkr := hnx nk (List.mem_of_getElem? hnk)
       obtain ⟨row2, hrow2⟩ := get_of_lt (l := c.same) (k := nk.toNat) (by omega)
       have hat2 : c.at' nk = row2 := by unfold Cert.at'; rw [hrow2]; rfl
       have hrl2 := hc row2 (List.mem_of_getElem? hrow2)
       refine AGo.skip ?_
       refine AGo.seq ?_
       refine AGo.block ?_
       refine AGo.seq ?_
       refine AGo.region ?_
       refine aq 117 (q_index_lst tok rfl rfl rfl rfl rfl rfl (Int.natCast_nonneg _) (idx_map hnk) rfl) ?_
       refine al 118 tok ?_
       refine aa 22 ?_
       refine AOps.nil ?_
       refine AGo.seq ?_
       refine AGo.region ?_
       refine af 119 tok ?_
       refine al 120 tok ?_
       refine am 121 ?_
       refine aq 122 (q_index_lst tok rfl rfl rfl rfl rfl rfl hkr.1 (by rw [List.getElem?_map, hrow2]; rfl) rfl) ?_
       refine al 123 tok ?_
       refine aq 124 (q_len tok rfl rfl rfl rfl rfl) ?_
       refine am 125 ?_
       refine AOps.nil ?_
       refine AGo.block ?_
       refine AGo.loopD (γ := Nat) 12 (fun k => ⟨146, (eput (eput (eput (eput (eput (eput (eput (eput (eput (eput (eput (eput (eput (eput eNew 2 (.int .i64 (R : Int))) 4 (.int .i64 i)) 5 (intsAV next)) 6 (.ptr 0 1 0 0)) 7 (.ptr 1 1 0 0)) 9 (.ptr 2 1 0 0)) 14 (.ptr 6 1 0 0)) 15 (.ptr 8 1 0 0)) 113 (intsAV next)) 114 (.int .i64 (next.length : Int))) 115 (.int .i64 (j : Int))) 123 (boolsAV row2)) 124 (.int .i64 (row2.length : Int))) 125 (.int .i64 (k : Int))), (hput (hput (hput (hput (hput (hput (hput (hput (hput (hput (hput (hput (hFrom 12) 0 (.row false 5 [old.cells])) 1 (.row false 5 [new.cells])) 2 (.row false 1 [c.cells])) 3 (.map (kvsA .i64 (vmap ((2 * R : Nat) : Int) (((vrunB R old new (c.at' i))).K))))) 4 (.row false 3 [[.int .i64 ((2 * R : Nat) : Int), .map 3, slA 9 ((((vrunB R old new (c.at' i))).K).map (arrAV .i64))]])) 9 (slO 4 ((((vrunB R old new (c.at' i))).K).map (arrAV .i64)))) 8 (.row false 4 [[.ptr 4 1 0 0, vaA 7 (valC ((vrunB R old new (c.at' i))).vals), slA 11 ((((vrunB R old new (c.at' i))).effs).map (arrAV .i64)), .int .i64 (((vrunB R old new (c.at' i))).time)]])) 7 (vaO (valC ((vrunB R old new (c.at' i))).vals))) 11 (slO 6 ((((vrunB R old new (c.at' i))).effs).map (arrAV .i64)))) 6 (.row false 4 [[.ptr 4 1 0 0, vaA 5 (valC (vrunA R old).vals), slA 10 (((vrunA R old).effs).map (arrAV .i64)), .int .i64 ((vrunA R old).time)]])) 5 (vaO (valC (vrunA R old).vals))) 10 (slO 6 (((vrunA R old).effs).map (arrAV .i64))))⟩) (fun k => k ≤ row2.length ∧ vagreeTo (vrunA R old) (vrunB R old new (c.at' i)) row2 k) (fun k => row2.length - k) 0 (Sub.mk' (by repeat (first | exact ESub.new _ | refine ESub.put ?_ (by first | rfl | exact congrArg (fun (n : Nat) => some (AV.int .i64 (n : Int))) (by simp)))) (by repeat (first | exact HSub.refl _ | exact HSub.none _ | exact HSub.from_new _ | exact HSub.from_from (by first | decide | omega | (dsimp only; omega)) | refine HSub.put ?_ (by rfl) | refine HSub.from_put ?_ (by first | decide | omega | (dsimp only; omega)) | refine HSub.from_rm ?_ (by decide)))) ⟨Nat.zero_le _, vagree_zero⟩ (fun _ => hput_free (hput_free (hput_free (hput_free (hput_free (hput_free (hput_free (hput_free (hput_free (hput_free (hput_free (hput_free (fun b hb => hFrom_free hb) rfl) rfl) rfl) rfl) rfl) rfl) rfl) rfl) rfl) rfl) rfl) rfl) ?_
       intro k ⟨hk, hagr⟩
       refine AGo.seq ?_
       refine AGo.region ?_
       refine aq 126 (q_bin rfl rfl rfl rfl) ?_
       refine AOps.nil ?_
       refine AGo.seq ?_
       refine AGo.split 126 rfl (fun hb13 => ?_) (fun hb13 => ?_)
       ·
        refine AGo.cond_true true rfl rfl ?_
        have hkl : k < row2.length := by have h := hb13; simp only [List.length_map, decide_eq_true_eq] at h; omega
        obtain ⟨must, hmu⟩ := get_of_lt hkl
        refine AGo.skip ?_
        refine AGo.seq ?_
        refine AGo.block ?_
        refine AGo.seq ?_
        refine AGo.region ?_
        refine am 127 ?_
        refine aq 128 (q_index_lst tok rfl rfl rfl rfl rfl rfl (Int.natCast_nonneg _) (idx_map hmu) rfl) ?_
        refine al 129 tok ?_
        refine aa 23 ?_
        refine aa 24 ?_
        refine AOps.nil ?_
        refine AGo.seq ?_
        refine AGo.draw mix ?_
        refine dm 130 ?_
        refine dm 131 ?_
        refine DOps.split 131 rfl (fun hb14 => ?_) (fun hb14 => ?_)
        ·
         have hmt : must = true := by simpa using hb14
         have hxv := hoa.at (z := (k : Int)) (by omega)
         have hyv := hob.at (z := (k : Int)) (by omega)
         refine df 132 tok ?_
         refine dl 133 tok ?_
         refine dm 134 ?_
         refine dq 135 (q_indexV tok rfl rfl rfl rfl rfl rfl rfl rfl hxv.1 hxv.2.2.1) ?_
         refine dq 136 (q_load tok rfl rfl rfl (ptsV rfl (valC_get ⟨hxv.1, hxv.2.1⟩)) rfl) ?_
         refine df 137 tok ?_
         refine dl 138 tok ?_
         refine dm 139 ?_
         refine dq 140 (q_indexV tok rfl rfl rfl rfl rfl rfl rfl rfl hyv.1 hyv.2.2.1) ?_
         refine dq 141 (q_load tok rfl rfl rfl (ptsV rfl (valC_get ⟨hyv.1, hyv.2.1⟩)) rfl) ?_
         refine dq 142 (q_bin rfl rfl rfl rfl) ?_
         refine dq 143 (q_pick_true true rfl rfl rfl rfl) ?_
         refine DOps.nil (by kernel_rfl) ?_
         refine AGo.split 143 rfl (fun hb15 => ?_) (fun hb15 => ?_)
         ·
          refine AGo.cond_true true rfl rfl ?_
          have hag := hb15
          refine AGo.seq ?_
          refine AGo.region ?_
          refine aa 12 ?_
          refine AOps.nil ?_
          refine AGo.ret ?_
          refine ⟨[_], ⟨rfl, trivial⟩, ?_, rfl⟩
          show AV.bool _ = AV.bool _
          congr 1
          exact (vsame_no3 hnk (by rw [hat2]; exact vagree_no hmu hmt (bne_ne' hag))).symm
         ·
          refine AGo.cond_false false rfl rfl ?_
          have hag := hb15
          refine AGo.skip ?_
          refine AGo.region ?_
          refine aq 144 (q_inc rfl rfl hkl (show row2.length ≤ maxLen by simp only [maxLen]; omega)) ?_
          refine am 125 ?_
          refine AOps.nil ?_
          exact ⟨k+1, Drop.mk' (by repeat (first | exact EDrop.new _ _ | refine EDrop.put ?_ (by rfl) (by first | rfl | exact slA_avoid _ rfl | exact vaA_avoid _ rfl))) (by repeat (first | exact HDrop.none _ _ | exact HDrop.tail _ _ | refine HDrop.put ?_ (by rfl) rfl (by first | rfl | exact slO_avoid _ _ | exact vaO_avoid _ | exact tab_avoid _ _ rfl rfl | exact wlk_avoid _ _ _ rfl rfl rfl))), ⟨hkl, vagree_succ hagr hmu (by first | exact fun _ => bne_eq' hag | (exact fun h => by rw [hag] at h; cases h))⟩, by omega⟩
        ·
         refine dk 132 ?_
         refine dk 133 ?_
         refine dk 134 ?_
         refine dk 135 ?_
         refine dk 136 ?_
         refine dk 137 ?_
         refine dk 138 ?_
         refine dk 139 ?_
         refine dk 140 ?_
         refine dk 141 ?_
         refine dk 142 ?_
         refine dq 143 (q_pick_false false rfl rfl rfl rfl) ?_
         refine DOps.nil (by kernel_rfl) ?_
         refine AGo.cond_false false rfl rfl ?_
         have hag := hb14
         refine AGo.skip ?_
         refine AGo.region ?_
         refine aq 144 (q_inc rfl rfl hkl (show row2.length ≤ maxLen by simp only [maxLen]; omega)) ?_
         refine am 125 ?_
         refine AOps.nil ?_
         exact ⟨k+1, Drop.mk' (by repeat (first | exact EDrop.new _ _ | refine EDrop.put ?_ (by rfl) (by first | rfl | exact slA_avoid _ rfl | exact vaA_avoid _ rfl))) (by repeat (first | exact HDrop.none _ _ | exact HDrop.tail _ _ | refine HDrop.put ?_ (by rfl) rfl (by first | rfl | exact slO_avoid _ _ | exact vaO_avoid _ | exact tab_avoid _ _ rfl rfl | exact wlk_avoid _ _ _ rfl rfl rfl))), ⟨hkl, vagree_succ hagr hmu (by first | exact fun _ => bne_eq' hag | (exact fun h => by rw [hag] at h; cases h))⟩, by omega⟩
       ·
        refine AGo.cond_false false rfl rfl ?_
        have hkge : row2.length ≤ k := by have h := hb13; simp only [List.length_map, decide_eq_false_iff_not] at h; omega
        refine AGo.exit ?_
        refine AGo.region ?_
        refine aq 145 (q_inc rfl rfl hjl (show next.length ≤ maxLen by simp only [maxLen]; omega)) ?_
        refine am 115 ?_
        refine AOps.nil ?_
        exact ⟨j+1, Drop.mk' (by repeat (first | exact EDrop.new _ _ | refine EDrop.put ?_ (by rfl) (by first | rfl | exact slA_avoid _ rfl | exact vaA_avoid _ rfl))) (by repeat (first | exact HDrop.none _ _ | exact HDrop.tail _ _ | refine HDrop.put ?_ (by rfl) rfl (by first | rfl | exact slO_avoid _ _ | exact vaO_avoid _ | exact tab_avoid _ _ rfl rfl | exact wlk_avoid _ _ _ rfl rfl rfl))), ⟨hjl, all_succ hnk hall (by rw [hat2]; exact vagree_end hkge hagr)⟩, by omega⟩
      ·
       refine AGo.cond_false false rfl rfl ?_
       have hjge : next.length ≤ j := by have h := hb12; simp only [List.length_map, decide_eq_false_iff_not] at h; omega
       refine AGo.exit ?_
       refine AGo.seq ?_
       refine AGo.region ?_
       refine aa 12 ?_
       refine AOps.nil ?_
       refine AGo.ret ?_
       refine ⟨[_], ⟨rfl, trivial⟩, ?_, rfl⟩
       show AV.bool _ = AV.bool _
       congr 1
       exact (vsame_yes (ndec_yes hef) (by first | exact fun _ => bne_eq' hvf | (exact fun hf => absurd hf (by simpa using hvf))) (all_end hall hjge)).symm

end Go.Proofs.Ytpijoieooikfgaa.Sv

namespace Go.Proofs.Ytpijoieooikfgaa.Sv
open Go

set_option maxHeartbeats 1000000 in
set_option maxRecDepth 100000 in
theorem shaped_ok (old new : BFunc) (hno : old.blocks.length ≤ 10000) (hnn : new.blocks.length ≤ 10000) (hio : ∀ x ∈ old.blocks, x.ins.length ≤ 10000 ∧ insW x.ins) (hin : ∀ x ∈ new.blocks, x.ins.length ≤ 10000 ∧ insW x.ins) : APure Try.prog 26 [.agg old.cells, .agg new.cells] (fun r => r = .bool (vshaped old new)) := by
 refine APure.of_body (n := 65) tok Try.func26 rfl rfl ?_
 refine AGo.seq ?_
 refine AGo.region ?_
 refine ax 2 (o_box (sz := 2) 0 rfl rfl rfl rfl (Nat.zero_lt_succ _) rfl) ?_
 refine ax 3 (o_box (sz := 2) 1 rfl rfl rfl rfl (Nat.zero_lt_succ _) rfl) ?_
 refine aa 4 ?_
 refine AOps.nil ?_
 refine AGo.seq ?_
 refine AGo.seq ?_
 refine AGo.region ?_
 refine af 8 tok ?_
 refine al 9 tok ?_
 refine af 10 tok ?_
 refine al 11 tok ?_
 refine aq 12 (q_bin rfl rfl rfl rfl) ?_
 refine am 13 ?_
 refine AOps.split 13 rfl (fun hb1 => ?_) (fun hb1 => ?_)
 ·
  refine ak 14 ?_
  refine ak 15 ?_
  refine ak 16 ?_
  refine ak 17 ?_
  refine ak 18 ?_
  refine ak 19 ?_
  refine ak 20 ?_
  refine aq 21 (q_pick_true true rfl rfl rfl rfl) ?_
  refine am 22 ?_
  refine ak 23 ?_
  refine ak 24 ?_
  refine ak 25 ?_
  refine aq 26 (q_pick_true true rfl rfl rfl rfl) ?_
  refine am 27 ?_
  refine ak 28 ?_
  refine ak 29 ?_
  refine ak 30 ?_
  refine aq 31 (q_pick_true true rfl rfl rfl rfl) ?_
  refine AOps.nil ?_
  refine AGo.cond_true true rfl rfl ?_
  refine AGo.seq ?_
  refine AGo.region ?_
  refine aa 4 ?_
  refine AOps.nil ?_
  refine AGo.ret ?_
  refine ⟨[_], ⟨rfl, trivial⟩, ?_, rfl⟩
  show AV.bool _ = AV.bool _
  congr 1
  first
  | exact (vshaped_regs (by assumption)).symm
  | exact (vshaped_len' (by assumption)).symm
  | exact (vshaped_s1 (ndec_same' (b := old.stands) (by assumption))).symm
  | exact (vshaped_s2 (ndec_same' (b := new.stands) (by assumption))).symm
 ·
  refine af 14 tok ?_
  refine al 15 tok ?_
  refine aq 16 (q_len tok rfl rfl rfl rfl rfl) ?_
  refine af 17 tok ?_
  refine al 18 tok ?_
  refine aq 19 (q_len tok rfl rfl rfl rfl rfl) ?_
  refine aq 20 (q_bin rfl rfl rfl rfl) ?_
  refine aq 21 (q_pick_false false rfl rfl rfl rfl) ?_
  refine am 22 ?_
  refine AOps.split 22 rfl (fun hb2 => ?_) (fun hb2 => ?_)
  ·
   refine ak 23 ?_
   refine ak 24 ?_
   refine ak 25 ?_
   refine aq 26 (q_pick_true true rfl rfl rfl rfl) ?_
   refine am 27 ?_
   refine ak 28 ?_
   refine ak 29 ?_
   refine ak 30 ?_
   refine aq 31 (q_pick_true true rfl rfl rfl rfl) ?_
   refine AOps.nil ?_
   refine AGo.cond_true true rfl rfl ?_
   refine AGo.seq ?_
   refine AGo.region ?_
   refine aa 4 ?_
   refine AOps.nil ?_
   refine AGo.ret ?_
   refine ⟨[_], ⟨rfl, trivial⟩, ?_, rfl⟩
   show AV.bool _ = AV.bool _
   congr 1
   first
   | exact (vshaped_regs (by assumption)).symm
   | exact (vshaped_len' (by assumption)).symm
   | exact (vshaped_s1 (ndec_same' (b := old.stands) (by assumption))).symm
   | exact (vshaped_s2 (ndec_same' (b := new.stands) (by assumption))).symm
  ·
   refine al 23 tok ?_
   refine ax 24 (o_pure rfl Try.func34 (by kernel_rfl) rfl rfl rfl (stands_ok old (by omega) (fun x hx => by have := (hio x hx).1; omega))) ?_
   refine aq 25 (q_not rfl rfl) ?_
   refine aq 26 (q_pick_false false rfl rfl rfl rfl) ?_
   refine am 27 ?_
   refine AOps.split 27 rfl (fun hb3 => ?_) (fun hb3 => ?_)
   ·
    refine ak 28 ?_
    refine ak 29 ?_
    refine ak 30 ?_
    refine aq 31 (q_pick_true true rfl rfl rfl rfl) ?_
    refine AOps.nil ?_
    refine AGo.cond_true true rfl rfl ?_
    refine AGo.seq ?_
    refine AGo.region ?_
    refine aa 4 ?_
    refine AOps.nil ?_
    refine AGo.ret ?_
    refine ⟨[_], ⟨rfl, trivial⟩, ?_, rfl⟩
    show AV.bool _ = AV.bool _
    congr 1
    first
    | exact (vshaped_regs (by assumption)).symm
    | exact (vshaped_len' (by assumption)).symm
    | exact (vshaped_s1 (ndec_same' (b := old.stands) (by assumption))).symm
    | exact (vshaped_s2 (ndec_same' (b := new.stands) (by assumption))).symm
   ·
    refine al 28 tok ?_
    refine ax 29 (o_pure rfl Try.func34 (by kernel_rfl) rfl rfl rfl (stands_ok new (by omega) (fun x hx => by have := (hin x hx).1; omega))) ?_
    refine aq 30 (q_not rfl rfl) ?_
    refine aq 31 (q_pick_false false rfl rfl rfl rfl) ?_
    refine AOps.nil ?_
    refine AGo.split 31 rfl (fun hb4 => ?_) (fun hb4 => ?_)
    ·
     refine AGo.cond_true true rfl rfl ?_
     refine AGo.seq ?_
     refine AGo.region ?_
     refine aa 4 ?_
     refine AOps.nil ?_
     refine AGo.ret ?_
     refine ⟨[_], ⟨rfl, trivial⟩, ?_, rfl⟩
     show AV.bool _ = AV.bool _
     congr 1
     first
     | exact (vshaped_regs (by assumption)).symm
     | exact (vshaped_len' (by assumption)).symm
     | exact (vshaped_s1 (ndec_same' (b := old.stands) (by assumption))).symm
     | exact (vshaped_s2 (ndec_same' (b := new.stands) (by assumption))).symm
    ·
     refine AGo.cond_false false rfl rfl ?_
     have hlen := len_eq' (by assumption)
     refine AGo.skip ?_
     refine AGo.seq ?_
     refine AGo.seq ?_
     refine AGo.region ?_
     refine af 32 tok ?_
     refine al 33 tok ?_
     refine aq 34 (q_len tok rfl rfl rfl rfl rfl) ?_
     refine am 35 ?_
     refine AOps.nil ?_
     refine AGo.block ?_
     refine AGo.loopD (γ := Nat) 2 (fun k => ⟨65, (eput (eput (eput (eput (eput eNew 2 (.ptr 0 1 0 0)) 3 (.ptr 1 1 0 0)) 33 (blocksAV old.blocks)) 34 (.int .i64 (old.blocks.length : Int))) 35 (.int .i64 (k : Int))), (hput (hput (hFrom 2) 0 (.row false 2 [old.cells])) 1 (.row false 2 [new.cells]))⟩) (fun k => k ≤ old.blocks.length ∧ ((old.blocks.zip new.blocks).take k).all (fun p => shapeB p.1 p.2) = true) (fun k => old.blocks.length - k) 0 (Sub.mk' (by repeat (first | exact ESub.new _ | refine ESub.put ?_ (by first | rfl | exact congrArg (fun (n : Nat) => some (AV.int .i64 (n : Int))) (by simp)))) (by repeat (first | exact HSub.refl _ | exact HSub.none _ | exact HSub.from_new _ | exact HSub.from_from (by first | decide | omega | (dsimp only; omega)) | refine HSub.put ?_ (by rfl) | refine HSub.from_put ?_ (by first | decide | omega | (dsimp only; omega)) | refine HSub.from_rm ?_ (by decide)))) ⟨Nat.zero_le _, rfl⟩ (fun _ => hput_free (hput_free (fun b hb => hFrom_free hb) rfl) rfl) ?_
     intro k ⟨hk, hall⟩
     refine AGo.seq ?_
     refine AGo.region ?_
     refine aq 36 (q_bin rfl rfl rfl rfl) ?_
     refine AOps.nil ?_
     refine AGo.seq ?_
     refine AGo.split 36 rfl (fun hb5 => ?_) (fun hb5 => ?_)
     ·
      refine AGo.cond_true true rfl rfl ?_
      have hkl : k < old.blocks.length := by simpa using hb5
      obtain ⟨x, hx⟩ := get_of_lt hkl
      obtain ⟨y, hy⟩ := get_of_lt (l := new.blocks) (k := k) (by omega)
      refine AGo.skip ?_
      refine AGo.seq ?_
      refine AGo.block ?_
      refine AGo.seq ?_
      refine AGo.region ?_
      refine am 37 ?_
      refine aq 38 (q_index_lst tok rfl rfl rfl rfl rfl rfl (Int.natCast_nonneg _) (idx_map hx) rfl) ?_
      refine al 39 tok ?_
      refine ax 6 (o_alloc tok 2 rfl rfl rfl rfl (Nat.zero_lt_succ _) rfl) ?_
      refine aa 5 ?_
      refine AOps.w rfl rfl (o_store tok rfl rfl rfl rfl rfl rfl rfl rfl rfl (by decide) rfl (by first | exact fun _ => rfl | (intro h; cases h))) ?_
      refine AOps.nil ?_
      refine AGo.seq ?_
      refine AGo.region ?_
      refine af 40 tok ?_
      refine al 41 tok ?_
      refine am 42 ?_
      refine aq 43 (q_index_lst tok rfl rfl rfl rfl rfl rfl (Int.natCast_nonneg _) (idx_map hy) rfl) ?_
      refine al 44 tok ?_
      refine ax 7 (o_alloc tok 3 rfl rfl rfl rfl (Nat.zero_lt_succ _) rfl) ?_
      refine AOps.w rfl rfl (o_store tok rfl rfl rfl rfl rfl rfl rfl rfl rfl (by decide) rfl (by first | exact fun _ => rfl | (intro h; cases h))) ?_
      refine AOps.nil ?_
      refine AGo.seq ?_
      refine AGo.region ?_
      refine af 45 tok ?_
      refine al 46 tok ?_
      refine af 47 tok ?_
      refine al 48 tok ?_
      refine aq 49 (q_bin rfl rfl rfl rfl) ?_
      refine am 50 ?_
      refine AOps.split 50 rfl (fun hb6 => ?_) (fun hb6 => ?_)
      ·
       refine ak 51 ?_
       refine ak 52 ?_
       refine ak 53 ?_
       refine ak 54 ?_
       refine ak 55 ?_
       refine aq 56 (q_pick_true true rfl rfl rfl rfl) ?_
       refine am 57 ?_
       refine ak 58 ?_
       refine ak 59 ?_
       refine ak 60 ?_
       refine ak 61 ?_
       refine ak 62 ?_
       refine aq 63 (q_pick_true true rfl rfl rfl rfl) ?_
       refine AOps.nil ?_
       refine AGo.cond_true true rfl rfl ?_
       refine AGo.seq ?_
       refine AGo.region ?_
       refine aa 4 ?_
       refine AOps.nil ?_
       refine AGo.ret ?_
       refine ⟨[_], ⟨rfl, trivial⟩, ?_, rfl⟩
       show AV.bool _ = AV.bool _
       congr 1
       first
       | exact (vshaped_b hx hy (shape_f (by assumption))).symm
       | exact (vshaped_b hx hy (shape_t (by assumption))).symm
       | exact (vshaped_b hx hy (shape_e (by assumption))).symm
      ·
       refine af 51 tok ?_
       refine al 52 tok ?_
       refine af 53 tok ?_
       refine al 54 tok ?_
       refine aq 55 (q_bin rfl rfl rfl rfl) ?_
       refine aq 56 (q_pick_false false rfl rfl rfl rfl) ?_
       refine am 57 ?_
       refine AOps.split 57 rfl (fun hb7 => ?_) (fun hb7 => ?_)
       ·
        refine ak 58 ?_
        refine ak 59 ?_
        refine ak 60 ?_
        refine ak 61 ?_
        refine ak 62 ?_
        refine aq 63 (q_pick_true true rfl rfl rfl rfl) ?_
        refine AOps.nil ?_
        refine AGo.cond_true true rfl rfl ?_
        refine AGo.seq ?_
        refine AGo.region ?_
        refine aa 4 ?_
        refine AOps.nil ?_
        refine AGo.ret ?_
        refine ⟨[_], ⟨rfl, trivial⟩, ?_, rfl⟩
        show AV.bool _ = AV.bool _
        congr 1
        first
        | exact (vshaped_b hx hy (shape_f (by assumption))).symm
        | exact (vshaped_b hx hy (shape_t (by assumption))).symm
        | exact (vshaped_b hx hy (shape_e (by assumption))).symm
       ·
        refine af 58 tok ?_
        refine al 59 tok ?_
        refine af 60 tok ?_
        refine al 61 tok ?_
        refine aq 62 (q_bin rfl rfl rfl rfl) ?_
        refine aq 63 (q_pick_false false rfl rfl rfl rfl) ?_
        refine AOps.nil ?_
        refine AGo.split 63 rfl (fun hb8 => ?_) (fun hb8 => ?_)
        ·
         refine AGo.cond_true true rfl rfl ?_
         refine AGo.seq ?_
         refine AGo.region ?_
         refine aa 4 ?_
         refine AOps.nil ?_
         refine AGo.ret ?_
         refine ⟨[_], ⟨rfl, trivial⟩, ?_, rfl⟩
         show AV.bool _ = AV.bool _
         congr 1
         first
         | exact (vshaped_b hx hy (shape_f (by assumption))).symm
         | exact (vshaped_b hx hy (shape_t (by assumption))).symm
         | exact (vshaped_b hx hy (shape_e (by assumption))).symm
        ·
         refine AGo.cond_false false rfl rfl ?_
         refine AGo.skip ?_
         refine AGo.region ?_
         refine aq 64 (q_inc rfl rfl hkl (show old.blocks.length ≤ maxLen by simp only [maxLen]; omega)) ?_
         refine am 35 ?_
         refine AOps.nil ?_
         exact ⟨k+1, Drop.mk' (by repeat (first | exact EDrop.new _ _ | refine EDrop.put ?_ (by rfl) (by first | rfl | exact slA_avoid _ rfl | exact vaA_avoid _ rfl))) (by repeat (first | exact HDrop.none _ _ | exact HDrop.tail _ _ | refine HDrop.put ?_ (by rfl) rfl (by first | rfl | exact slO_avoid _ _ | exact vaO_avoid _ | exact tab_avoid _ _ rfl rfl | exact wlk_avoid _ _ _ rfl rfl rfl))), ⟨hkl, all_succ (zip_at hx hy) hall (shape_y (by assumption) (by assumption) (by assumption))⟩, by omega⟩
     ·
      refine AGo.cond_false false rfl rfl ?_
      have hge : old.blocks.length ≤ k := by simpa using hb5
      refine AGo.exit ?_
      refine AGo.seq ?_
      refine AGo.region ?_
      refine aa 4 ?_
      refine AOps.nil ?_
      refine AGo.ret ?_
      refine ⟨[_], ⟨rfl, trivial⟩, ?_, rfl⟩
      show AV.bool _ = AV.bool _
      congr 1
      exact (vshaped_yes (bne_eq' (by assumption)) hlen (ndec_same (by assumption)) (ndec_same (by assumption)) (all_end hall (by rw [List.length_zip]; omega))).symm

set_option maxHeartbeats 1000000 in
set_option maxRecDepth 100000 in
theorem vcheck_ok (old new : BFunc) (hno : old.blocks.length ≤ 10000) (hnn : new.blocks.length ≤ 10000) (hio : ∀ x ∈ old.blocks, x.ins.length ≤ 10000 ∧ insW x.ins) (hin : ∀ x ∈ new.blocks, x.ins.length ≤ 10000 ∧ insW x.ins) (c : Cert) : APure Try.prog 14 [.agg old.cells, .agg new.cells, .agg c.cells] (fun r => r = .bool (vcheck old new c)) := by
 refine APure.of_body (n := 66) tok Try.func14 rfl rfl ?_
 refine AGo.seq ?_
 refine AGo.region ?_
 refine ax 3 (o_box (sz := 2) 0 rfl rfl rfl rfl (Nat.zero_lt_succ _) rfl) ?_
 refine ax 4 (o_box (sz := 2) 1 rfl rfl rfl rfl (Nat.zero_lt_succ _) rfl) ?_
 refine ax 5 (o_box (sz := 1) 2 rfl rfl rfl rfl (Nat.zero_lt_succ _) rfl) ?_
 refine aa 6 ?_
 refine AOps.nil ?_
 refine AGo.seq ?_
 refine AGo.seq ?_
 refine AGo.region ?_
 refine al 11 tok ?_
 refine al 12 tok ?_
 refine ax 13 (o_pure rfl Try.func26 (by kernel_rfl) rfl rfl rfl (shaped_ok old new hno hnn hio hin)) ?_
 refine aq 14 (q_not rfl rfl) ?_
 refine am 15 ?_
 refine AOps.split 15 rfl (fun hb1 => ?_) (fun hb1 => ?_)
 ·
  refine ak 16 ?_
  refine ak 17 ?_
  refine ak 18 ?_
  refine ak 19 ?_
  refine ak 20 ?_
  refine ak 21 ?_
  refine ak 22 ?_
  refine aq 23 (q_pick_true true rfl rfl rfl rfl) ?_
  refine AOps.nil ?_
  refine AGo.cond_true true rfl rfl ?_
  refine AGo.seq ?_
  refine AGo.region ?_
  refine aa 6 ?_
  refine AOps.nil ?_
  refine AGo.ret ?_
  refine ⟨[_], ⟨rfl, trivial⟩, ?_, rfl⟩
  show AV.bool _ = AV.bool _
  congr 1
  first
  | exact (vcheck_no1 (ndec_same' (b := vshaped old new) (by assumption))).symm
  | exact (vcheck_no2 (by assumption)).symm
 ·
  refine af 16 tok ?_
  refine al 17 tok ?_
  refine aq 18 (q_len tok rfl rfl rfl rfl rfl) ?_
  refine af 19 tok ?_
  refine al 20 tok ?_
  refine aq 21 (q_len tok rfl rfl rfl rfl rfl) ?_
  refine aq 22 (q_bin rfl rfl rfl rfl) ?_
  refine aq 23 (q_pick_false false rfl rfl rfl rfl) ?_
  refine AOps.nil ?_
  refine AGo.split 23 rfl (fun hb2 => ?_) (fun hb2 => ?_)
  ·
   refine AGo.cond_true true rfl rfl ?_
   refine AGo.seq ?_
   refine AGo.region ?_
   refine aa 6 ?_
   refine AOps.nil ?_
   refine AGo.ret ?_
   refine ⟨[_], ⟨rfl, trivial⟩, ?_, rfl⟩
   show AV.bool _ = AV.bool _
   congr 1
   first
   | exact (vcheck_no1 (ndec_same' (b := vshaped old new) (by assumption))).symm
   | exact (vcheck_no2 (by assumption)).symm
  ·
   refine AGo.cond_false false rfl rfl ?_
   have hsh : vshaped old new = true := ndec_same (by assumption)
   have hcl := cert_len (old := old) (c := c) (by assumption)
   have hV := vshaped_of hsh
   have hSo := stands_of hV.so
   have hSn := stands_of hV.sn
   have hr0 := hSo.r0
   have hr1 := hSo.r1
   have hR : ((old.regs.toNat : Nat) : Int) = old.regs := Int.toNat_of_nonneg hr0
   refine AGo.skip ?_
   refine AGo.seq ?_
   refine AGo.seq ?_
   refine AGo.region ?_
   refine af 24 tok ?_
   refine al 25 tok ?_
   refine aq 26 (q_len tok rfl rfl rfl rfl rfl) ?_
   refine am 27 ?_
   refine AOps.nil ?_
   refine AGo.block ?_
   refine AGo.loopD (γ := Nat) 3 (fun j => ⟨66, (eput (eput (eput (eput (eput (eput eNew 3 (.ptr 0 1 0 0)) 4 (.ptr 1 1 0 0)) 5 (.ptr 2 1 0 0)) 25 (rowsAV c.same)) 26 (.int .i64 (c.same.length : Int))) 27 (.int .i64 (j : Int))), (hput (hput (hput (hFrom 3) 0 (.row false 2 [old.cells])) 1 (.row false 2 [new.cells])) 2 (.row false 1 [c.cells]))⟩) (fun j => j ≤ c.same.length ∧ (c.same.take j).all (fun r => decide ((r.length : Int) = old.regs)) = true) (fun j => c.same.length - j) 0 (Sub.mk' (by repeat (first | exact ESub.new _ | refine ESub.put ?_ (by first | rfl | exact congrArg (fun (n : Nat) => some (AV.int .i64 (n : Int))) (by simp)))) (by repeat (first | exact HSub.refl _ | exact HSub.none _ | exact HSub.from_new _ | exact HSub.from_from (by first | decide | omega | (dsimp only; omega)) | refine HSub.put ?_ (by rfl) | refine HSub.from_put ?_ (by first | decide | omega | (dsimp only; omega)) | refine HSub.from_rm ?_ (by decide)))) ⟨Nat.zero_le _, rfl⟩ (fun _ => hput_free (hput_free (hput_free (fun b hb => hFrom_free hb) rfl) rfl) rfl) ?_
   intro j ⟨hj, hall⟩
   refine AGo.seq ?_
   refine AGo.region ?_
   refine aq 28 (q_bin rfl rfl rfl rfl) ?_
   refine AOps.nil ?_
   refine AGo.seq ?_
   refine AGo.split 28 rfl (fun hb3 => ?_) (fun hb3 => ?_)
   ·
    refine AGo.cond_true true rfl rfl ?_
    have hjl : j < c.same.length := by have h := hb3; simp only [List.length_map, decide_eq_true_eq] at h; omega
    obtain ⟨r, hr⟩ := get_of_lt hjl
    refine AGo.skip ?_
    refine AGo.seq ?_
    refine AGo.block ?_
    refine AGo.seq ?_
    refine AGo.region ?_
    refine aq 29 (q_index_lst tok rfl rfl rfl rfl rfl rfl (Int.natCast_nonneg _) (idx_map hr) rfl) ?_
    refine al 30 tok ?_
    refine aa 8 ?_
    refine AOps.nil ?_
    refine AGo.seq ?_
    refine AGo.region ?_
    refine am 31 ?_
    refine aq 32 (q_len tok rfl rfl rfl rfl rfl) ?_
    refine af 33 tok ?_
    refine al 34 tok ?_
    refine aq 35 (q_bin rfl rfl rfl rfl) ?_
    refine AOps.nil ?_
    refine AGo.split 35 rfl (fun hb4 => ?_) (fun hb4 => ?_)
    ·
     refine AGo.cond_true true rfl rfl ?_
     have hne : ¬ (r.length : Int) = old.regs := by have h := bne_ne' hb4; rw [List.length_map] at h; exact h
     refine AGo.seq ?_
     refine AGo.region ?_
     refine aa 6 ?_
     refine AOps.nil ?_
     refine AGo.ret ?_
     refine ⟨[_], ⟨rfl, trivial⟩, ?_, rfl⟩
     show AV.bool _ = AV.bool _
     congr 1
     exact (vcheck_no3 hr hne).symm
    ·
     refine AGo.cond_false false rfl rfl ?_
     have heq : (r.length : Int) = old.regs := by have h := bne_eq' hb4; rw [List.length_map] at h; exact h
     refine AGo.skip ?_
     refine AGo.region ?_
     refine aq 36 (q_inc rfl rfl hjl (show c.same.length ≤ maxLen by simp only [maxLen]; omega)) ?_
     refine am 27 ?_
     refine AOps.nil ?_
     exact ⟨j+1, Drop.mk' (by repeat (first | exact EDrop.new _ _ | refine EDrop.put ?_ (by rfl) (by first | rfl | exact slA_avoid _ rfl | exact vaA_avoid _ rfl))) (by repeat (first | exact HDrop.none _ _ | exact HDrop.tail _ _ | refine HDrop.put ?_ (by rfl) rfl (by first | rfl | exact slO_avoid _ _ | exact vaO_avoid _ | exact tab_avoid _ _ rfl rfl | exact wlk_avoid _ _ _ rfl rfl rfl))), ⟨hjl, all_succ hr hall (decide_eq_true heq)⟩, by omega⟩
   ·
    refine AGo.cond_false false rfl rfl ?_
    have hjge : c.same.length ≤ j := by have h := hb3; simp only [List.length_map, decide_eq_false_iff_not] at h; omega
    have hall2 := all_end hall hjge
    have hrl : ∀ r ∈ c.same, r.length = old.regs.toNat := fun r hr => by have := List.all_eq_true.1 hall2 r hr; simp only [decide_eq_true_eq] at this; omega
    refine AGo.exit ?_
    refine AGo.seq ?_
    refine AGo.region ?_
    refine al 37 tok ?_
    refine ax 38 (o_pure rfl Try.func27 (by kernel_rfl) rfl rfl rfl (next_ok old (by omega))) ?_
    refine aa 9 ?_
    refine AOps.nil ?_
    refine AGo.seq ?_
    refine AGo.seq ?_
    refine AGo.region ?_
    refine af 39 tok ?_
    refine al 40 tok ?_
    refine aq 41 (q_len tok rfl rfl rfl rfl rfl) ?_
    refine am 42 ?_
    refine AOps.nil ?_
    refine AGo.block ?_
    refine AGo.loopD (γ := Nat) 3 (fun k => ⟨66, (eput (eput (eput (eput (eput (eput eNew 3 (.ptr 0 1 0 0)) 4 (.ptr 1 1 0 0)) 5 (.ptr 2 1 0 0)) 9 (pathsAV old.nexts)) 41 (.int .i64 (old.blocks.length : Int))) 42 (.int .i64 (k : Int))), (hput (hput (hput (hFrom 3) 0 (.row false 2 [old.cells])) 1 (.row false 2 [new.cells])) 2 (.row false 1 [c.cells]))⟩) (fun k => k ≤ old.blocks.length ∧ ((old.blocks.zip new.blocks).zipIdx.take k).all (fun p => vsame old.regs.toNat p.1.1 p.1.2 c (p.2 : Int) p.1.1.nexts) = true) (fun k => old.blocks.length - k) 0 (Sub.mk' (by repeat (first | exact ESub.new _ | refine ESub.put ?_ (by first | rfl | exact congrArg (fun (n : Nat) => some (AV.int .i64 (n : Int))) (by simp)))) (by repeat (first | exact HSub.refl _ | exact HSub.none _ | exact HSub.from_new _ | exact HSub.from_from (by first | decide | omega | (dsimp only; omega)) | refine HSub.put ?_ (by rfl) | refine HSub.from_put ?_ (by first | decide | omega | (dsimp only; omega)) | refine HSub.from_rm ?_ (by decide)))) ⟨Nat.zero_le _, rfl⟩ (fun _ => hput_free (hput_free (hput_free (fun b hb => hFrom_free hb) rfl) rfl) rfl) ?_
    intro k ⟨hk, hallb⟩
    refine AGo.seq ?_
    refine AGo.region ?_
    refine aq 43 (q_bin rfl rfl rfl rfl) ?_
    refine AOps.nil ?_
    refine AGo.seq ?_
    refine AGo.split 43 rfl (fun hb5 => ?_) (fun hb5 => ?_)
    ·
     refine AGo.cond_true true rfl rfl ?_
     have hkl : k < old.blocks.length := by simpa using hb5
     obtain ⟨x, hx⟩ := get_of_lt hkl
     have hxm := List.mem_of_getElem? hx
     obtain ⟨y, hy⟩ := get_of_lt (l := new.blocks) (k := k) (by have := hV.len; omega)
     have hym := List.mem_of_getElem? hy
     have hsb := hV.b k x y hx hy
     have hnx : ∀ q ∈ x.nexts, 0 ≤ q ∧ q < c.same.length := fun q hq => by rw [hcl]; exact hSo.next x hxm q hq
     have hvv : x.fin = 2 → (0 ≤ x.v ∧ x.v < (old.regs.toNat : Int)) ∧ (0 ≤ y.v ∧ y.v < (old.regs.toNat : Int)) := fun hf => by rw [hR]; refine ⟨hSo.v x hxm hf, ?_⟩; rw [hV.regs]; exact hSn.v y hym (by rw [← hsb.1]; exact hf)
     have hto : ∀ t ∈ x.ins, TacV t old.regs.toNat := fun t ht => hSo.tacs x hxm t ht ((hio x hxm).2 t ht)
     have htn : ∀ t ∈ y.ins, TacV t old.regs.toNat := fun t ht => by rw [hV.regs]; exact hSn.tacs y hym t ht ((hin y hym).2 t ht)
     have hnl : x.nexts.length ≤ 100000 := nexts_short x
     refine AGo.skip ?_
     refine AGo.seq ?_
     refine AGo.block ?_
     refine AGo.seq ?_
     refine AGo.region ?_
     refine am 44 ?_
     refine aa 10 ?_
     refine AOps.nil ?_
     refine AGo.seq ?_
     refine AGo.draw mix ?_
     refine df 45 tok ?_
     refine dl 46 tok ?_
     refine dm 47 ?_
     refine dq 48 (q_index_lst tok rfl rfl rfl rfl rfl rfl (Int.natCast_nonneg _) (idx_map hx) rfl) ?_
     refine dl 49 tok ?_
     refine df 50 tok ?_
     refine dl 51 tok ?_
     refine dm 52 ?_
     refine dq 53 (q_index_lst tok rfl rfl rfl rfl rfl rfl (Int.natCast_nonneg _) (idx_map hy) rfl) ?_
     refine dl 54 tok ?_
     refine df 55 tok ?_
     refine dl 56 tok ?_
     refine dl 57 tok ?_
     refine dm 58 ?_
     refine dm 59 ?_
     refine dm 60 ?_
     refine dq 61 (q_index_lst tok rfl rfl rfl rfl rfl rfl (Int.natCast_nonneg _) (idx_map (nexts_get hx)) rfl) ?_
     refine dl 62 tok ?_
     refine dx 63 (o_pure rfl Try.func28 (by kernel_rfl) rfl rfl rfl ((by have h := vsame_ok x y old.regs.toNat c (k : Int) x.nexts (by omega) hrl (by omega) hnx hvv hto htn (hio x (List.mem_of_getElem? hx)).1 (hin y (List.mem_of_getElem? hy)).1 hnl; rw [hR] at h; exact h))) ?_
     refine dq 64 (q_not rfl rfl) ?_
     refine DOps.nil (by kernel_rfl) ?_
     refine AGo.split 64 rfl (fun hb6 => ?_) (fun hb6 => ?_)
     ·
      refine AGo.cond_true true rfl rfl ?_
      have hbad := ndec_same' hb6
      refine AGo.seq ?_
      refine AGo.region ?_
      refine aa 6 ?_
      refine AOps.nil ?_
      refine AGo.ret ?_
      refine ⟨[_], ⟨rfl, trivial⟩, ?_, rfl⟩
      show AV.bool _ = AV.bool _
      congr 1
      exact (vcheck_no4 hx hy hbad).symm
     ·
      refine AGo.cond_false false rfl rfl ?_
      have hgood := ndec_same hb6
      refine AGo.skip ?_
      refine AGo.region ?_
      refine aq 65 (q_inc rfl rfl hkl (show old.blocks.length ≤ maxLen by simp only [maxLen]; omega)) ?_
      refine am 42 ?_
      refine AOps.nil ?_
      exact ⟨k+1, Drop.mk' (by repeat (first | exact EDrop.new _ _ | refine EDrop.put ?_ (by rfl) (by first | rfl | exact slA_avoid _ rfl | exact vaA_avoid _ rfl))) (by repeat (first | exact HDrop.none _ _ | exact HDrop.tail _ _ | refine HDrop.put ?_ (by rfl) rfl (by first | rfl | exact slO_avoid _ _ | exact vaO_avoid _ | exact tab_avoid _ _ rfl rfl | exact wlk_avoid _ _ _ rfl rfl rfl))), ⟨hkl, all_succ (zipIdx_get (zip_at hx hy)) hallb hgood⟩, by omega⟩
    ·
     refine AGo.cond_false false rfl rfl ?_
     have hge : old.blocks.length ≤ k := by simpa using hb5
     refine AGo.exit ?_
     refine AGo.seq ?_
     refine AGo.region ?_
     refine aa 6 ?_
     refine AOps.nil ?_
     refine AGo.ret ?_
     refine ⟨[_], ⟨rfl, trivial⟩, ?_, rfl⟩
     show AV.bool _ = AV.bool _
     congr 1
     exact (vcheck_yes hsh hcl hall2 (all_end hallb (by rw [List.length_zipIdx, List.length_zip]; omega))).symm

end Go.Proofs.Ytpijoieooikfgaa.Sv

namespace Go.Proofs.Ytpijoieooikfgaa.Sv
open Go

set_option maxRecDepth 100000 in
theorem awake34_ok  : APure Try.prog 13 [] (fun r => r = .bool true) := by
 refine APure.of_body (n := 80) tok Try.func13 rfl rfl ?_
 refine AGo.seq ?_
 refine AGo.region ?_
 refine aa 0 ?_
 refine AOps.nil ?_
 refine AGo.seq ?_
 refine AGo.region ?_
 refine aq 7 (q_build tok rfl rfl rfl rfl rfl (by decide) rfl rfl rfl) ?_
 refine aq 8 (q_build tok rfl rfl rfl rfl rfl (by decide) rfl rfl rfl) ?_
 refine ax 9 (o_lit' tok rfl rfl rfl rfl rfl rfl (by decide) rfl rfl rfl rfl rfl rfl) ?_
 refine ax 10 (o_pure rfl Try.func24 (by kernel_rfl) rfl rfl rfl (one34_ok [tA, tB])) ?_
 refine ax 1 (o_alloc tok 0 rfl rfl rfl rfl (Nat.zero_lt_succ _) rfl) ?_
 refine AOps.w rfl rfl (o_store tok rfl rfl rfl rfl rfl rfl rfl rfl rfl (by decide) rfl (by first | exact fun _ => rfl | (intro h; cases h))) ?_
 refine AOps.nil ?_
 refine AGo.seq ?_
 refine AGo.region ?_
 refine aq 11 (q_build tok rfl rfl rfl rfl rfl (by decide) rfl rfl rfl) ?_
 refine aq 12 (q_build tok rfl rfl rfl rfl rfl (by decide) rfl rfl rfl) ?_
 refine aq 13 (q_build tok rfl rfl rfl rfl rfl (by decide) rfl rfl rfl) ?_
 refine ax 14 (o_lit' tok rfl rfl rfl rfl rfl rfl (by decide) rfl rfl rfl rfl rfl rfl) ?_
 refine ax 15 (o_pure rfl Try.func24 (by kernel_rfl) rfl rfl rfl (one34_ok [tC, tA, tB])) ?_
 refine ax 2 (o_alloc tok 1 rfl rfl rfl rfl (Nat.zero_lt_succ _) rfl) ?_
 refine AOps.w rfl rfl (o_store tok rfl rfl rfl rfl rfl rfl rfl rfl rfl (by decide) rfl (by first | exact fun _ => rfl | (intro h; cases h))) ?_
 refine AOps.nil ?_
 refine AGo.seq ?_
 refine AGo.region ?_
 refine aq 16 (q_build tok rfl rfl rfl rfl rfl (by decide) rfl rfl rfl) ?_
 refine aq 17 (q_build tok rfl rfl rfl rfl rfl (by decide) rfl rfl rfl) ?_
 refine aq 18 (q_build tok rfl rfl rfl rfl rfl (by decide) rfl rfl rfl) ?_
 refine ax 19 (o_lit' tok rfl rfl rfl rfl rfl rfl (by decide) rfl rfl rfl rfl rfl rfl) ?_
 refine ax 20 (o_pure rfl Try.func24 (by kernel_rfl) rfl rfl rfl (one34_ok [tD, tE, tF])) ?_
 refine ax 3 (o_alloc tok 2 rfl rfl rfl rfl (Nat.zero_lt_succ _) rfl) ?_
 refine AOps.w rfl rfl (o_store tok rfl rfl rfl rfl rfl rfl rfl rfl rfl (by decide) rfl (by first | exact fun _ => rfl | (intro h; cases h))) ?_
 refine AOps.nil ?_
 refine AGo.seq ?_
 refine AGo.region ?_
 refine aq 21 (q_build tok rfl rfl rfl rfl rfl (by decide) rfl rfl rfl) ?_
 refine ax 22 (o_lit' tok rfl rfl rfl rfl rfl rfl (by decide) rfl rfl rfl rfl rfl rfl) ?_
 refine ax 23 (o_pure rfl Try.func24 (by kernel_rfl) rfl rfl rfl (one34_ok [tG])) ?_
 refine ax 4 (o_alloc tok 3 rfl rfl rfl rfl (Nat.zero_lt_succ _) rfl) ?_
 refine AOps.w rfl rfl (o_store tok rfl rfl rfl rfl rfl rfl rfl rfl rfl (by decide) rfl (by first | exact fun _ => rfl | (intro h; cases h))) ?_
 refine AOps.nil ?_
 refine AGo.seq ?_
 refine AGo.region ?_
 refine aq 24 (q_build tok rfl rfl rfl rfl rfl (by decide) rfl rfl rfl) ?_
 refine ax 25 (o_lit' tok rfl rfl rfl rfl rfl rfl (by decide) rfl rfl rfl rfl rfl rfl) ?_
 refine ax 26 (o_pure rfl Try.func24 (by kernel_rfl) rfl rfl rfl (one34_ok [tH])) ?_
 refine ax 5 (o_alloc tok 4 rfl rfl rfl rfl (Nat.zero_lt_succ _) rfl) ?_
 refine AOps.w rfl rfl (o_store tok rfl rfl rfl rfl rfl rfl rfl rfl rfl (by decide) rfl (by first | exact fun _ => rfl | (intro h; cases h))) ?_
 refine AOps.nil ?_
 refine AGo.seq ?_
 refine AGo.region ?_
 refine ax 27 (o_pure rfl Try.func24 (by kernel_rfl) rfl rfl rfl (one34n_ok)) ?_
 refine ax 6 (o_alloc tok 5 rfl rfl rfl rfl (Nat.zero_lt_succ _) rfl) ?_
 refine AOps.w rfl rfl (o_store tok rfl rfl rfl rfl rfl rfl rfl rfl rfl (by decide) rfl (by first | exact fun _ => rfl | (intro h; cases h))) ?_
 refine AOps.nil ?_
 refine AGo.seq ?_
 refine AGo.draw mix ?_
 refine dl 28 tok ?_
 refine dl 29 tok ?_
 refine dx 30 (o_pure rfl Try.func25 (by kernel_rfl) rfl rfl rfl (none34_ok)) ?_
 refine dx 31 (o_pure rfl Try.func14 (by kernel_rfl) rfl rfl rfl ((by have h := vcheck_ok (oneF [tA, tB]) (oneF [tC, tA, tB]) (by decide) (by decide) (one_ins [tA, tB] (by decide) (by decide)) (one_ins [tC, tA, tB] (by decide) (by decide)) noneC; rw [aw1] at h; exact h))) ?_
 refine dm 32 ?_
 refine dl 33 tok ?_
 refine dl 34 tok ?_
 refine dx 35 (o_pure rfl Try.func25 (by kernel_rfl) rfl rfl rfl (none34_ok)) ?_
 refine dx 36 (o_pure rfl Try.func14 (by kernel_rfl) rfl rfl rfl ((by have h := vcheck_ok (oneF [tA, tB]) (oneF [tD, tE, tF]) (by decide) (by decide) (one_ins [tA, tB] (by decide) (by decide)) (one_ins [tD, tE, tF] (by decide) (by decide)) noneC; rw [aw2] at h; exact h))) ?_
 refine dq 37 (q_pick_true true rfl rfl rfl rfl) ?_
 refine dm 38 ?_
 refine dl 39 tok ?_
 refine dl 40 tok ?_
 refine dx 41 (o_pure rfl Try.func25 (by kernel_rfl) rfl rfl rfl (none34_ok)) ?_
 refine dx 42 (o_pure rfl Try.func14 (by kernel_rfl) rfl rfl rfl ((by have h := vcheck_ok (oneF [tG]) (oneF []) (by decide) (by decide) (one_ins [tG] (by decide) (by decide)) (one_ins [] (by decide) (by decide)) noneC; rw [aw3] at h; exact h))) ?_
 refine dq 43 (q_not rfl rfl) ?_
 refine dq 44 (q_pick_true true rfl rfl rfl rfl) ?_
 refine dm 45 ?_
 refine dl 46 tok ?_
 refine dl 47 tok ?_
 refine dx 48 (o_pure rfl Try.func25 (by kernel_rfl) rfl rfl rfl (none34_ok)) ?_
 refine dx 49 (o_pure rfl Try.func14 (by kernel_rfl) rfl rfl rfl ((by have h := vcheck_ok (oneF []) (oneF [tG]) (by decide) (by decide) (one_ins [] (by decide) (by decide)) (one_ins [tG] (by decide) (by decide)) noneC; rw [aw4] at h; exact h))) ?_
 refine dq 50 (q_not rfl rfl) ?_
 refine dq 51 (q_pick_true true rfl rfl rfl rfl) ?_
 refine dm 52 ?_
 refine dl 53 tok ?_
 refine dl 54 tok ?_
 refine dx 55 (o_pure rfl Try.func25 (by kernel_rfl) rfl rfl rfl (none34_ok)) ?_
 refine dx 56 (o_pure rfl Try.func14 (by kernel_rfl) rfl rfl rfl ((by have h := vcheck_ok (oneF [tH]) (oneF []) (by decide) (by decide) (one_ins [tH] (by decide) (by decide)) (one_ins [] (by decide) (by decide)) noneC; rw [aw5] at h; exact h))) ?_
 refine dq 57 (q_not rfl rfl) ?_
 refine dq 58 (q_pick_true true rfl rfl rfl rfl) ?_
 refine dm 59 ?_
 refine dl 60 tok ?_
 refine dl 61 tok ?_
 refine dx 62 (o_pure rfl Try.func25 (by kernel_rfl) rfl rfl rfl (none34_ok)) ?_
 refine dx 63 (o_pure rfl Try.func14 (by kernel_rfl) rfl rfl rfl ((by have h := vcheck_ok (oneF [tA, tB]) (oneF []) (by decide) (by decide) (one_ins [tA, tB] (by decide) (by decide)) (one_ins [] (by decide) (by decide)) noneC; rw [aw6] at h; exact h))) ?_
 refine dq 64 (q_not rfl rfl) ?_
 refine dq 65 (q_pick_true true rfl rfl rfl rfl) ?_
 refine dm 66 ?_
 refine dl 67 tok ?_
 refine dl 68 tok ?_
 refine dl 69 tok ?_
 refine dx 70 (o_pure rfl Try.func17 (by kernel_rfl) rfl rfl rfl (vweak_ok (oneF [tG]) (by decide) (by decide))) ?_
 refine dx 71 (o_pure rfl Try.func14 (by kernel_rfl) rfl rfl rfl ((by have h := vcheck_ok (oneF [tG]) (oneF [tG]) (by decide) (by decide) (one_ins [tG] (by decide) (by decide)) (one_ins [tG] (by decide) (by decide)) (vweak (oneF [tG])); rw [aw7] at h; exact h))) ?_
 refine dq 72 (q_pick_true true rfl rfl rfl rfl) ?_
 refine dm 73 ?_
 refine dl 74 tok ?_
 refine dl 75 tok ?_
 refine dq 76 (q_build tok rfl rfl rfl rfl rfl (by decide) rfl rfl rfl) ?_
 refine dx 77 (o_pure rfl Try.func14 (by kernel_rfl) rfl rfl rfl ((by have h := vcheck_ok (oneF [tA, tB]) (oneF [tA, tB]) (by decide) (by decide) (one_ins [tA, tB] (by decide) (by decide)) (one_ins [tA, tB] (by decide) (by decide)) ⟨[]⟩; rw [aw8] at h; exact h.weak nil_cert))) ?_
 refine dq 78 (q_not rfl rfl) ?_
 refine dq 79 (q_pick_true true rfl rfl rfl rfl) ?_
 refine da 0 ?_
 refine DOps.nil (by kernel_rfl) ?_
 refine AGo.ret ?_
 refine ⟨[_], ⟨rfl, trivial⟩, ?_, rfl⟩
 rfl

end Go.Proofs.Ytpijoieooikfgaa.Sv

namespace Go.Proofs.Ytpijoieooikfgaa.Sv
open Go

set_option maxRecDepth 100000 in
theorem sets_ok (t : Tac) : APure Try.prog 51 [.agg t.cells] (fun r => r = .int .i64 t.sets) := by
 refine APure.of_body (n := 14) tok Try.func51 rfl rfl ?_
 refine AGo.seq ?_
 refine AGo.region ?_
 refine ax 1 (o_box (sz := 8) 0 rfl rfl rfl rfl (Nat.zero_lt_succ _) rfl) ?_
 refine aa 2 ?_
 refine AOps.nil ?_
 refine AGo.seq ?_
 refine AGo.seq ?_
 refine AGo.region ?_
 refine af 3 tok ?_
 refine al 4 tok ?_
 refine AOps.nil ?_
 refine AGo.block ?_
 refine AGo.seq ?_
 refine AGo.seq ?_
 refine AGo.region ?_
 refine aq 6 (q_bin rfl rfl rfl rfl) ?_
 refine aa 5 ?_
 refine AOps.nil ?_
 refine AGo.split 5 rfl (fun hb1 => ?_) (fun hb1 => ?_)
 ·
  refine AGo.cond_true true rfl rfl ?_
  refine AGo.skip ?_
  refine AGo.cond_true true rfl rfl ?_
  refine AGo.seq ?_
  refine AGo.region ?_
  refine af 12 tok ?_
  refine al 13 tok ?_
  refine aa 2 ?_
  refine AOps.nil ?_
  refine AGo.ret ?_
  refine ⟨[_], ⟨rfl, trivial⟩, ?_, rfl⟩
  show AV.int .i64 _ = AV.int .i64 _
  congr 1
  simp [Tac.sets, setsOp, *]
 ·
  refine AGo.cond_false false rfl rfl ?_
  refine AGo.seq ?_
  refine AGo.region ?_
  refine aq 7 (q_bin rfl rfl rfl rfl) ?_
  refine aa 5 ?_
  refine AOps.nil ?_
  refine AGo.split 5 rfl (fun hb2 => ?_) (fun hb2 => ?_)
  ·
   refine AGo.cond_true true rfl rfl ?_
   refine AGo.skip ?_
   refine AGo.cond_true true rfl rfl ?_
   refine AGo.seq ?_
   refine AGo.region ?_
   refine af 12 tok ?_
   refine al 13 tok ?_
   refine aa 2 ?_
   refine AOps.nil ?_
   refine AGo.ret ?_
   refine ⟨[_], ⟨rfl, trivial⟩, ?_, rfl⟩
   show AV.int .i64 _ = AV.int .i64 _
   congr 1
   simp [Tac.sets, setsOp, *]
  ·
   refine AGo.cond_false false rfl rfl ?_
   refine AGo.seq ?_
   refine AGo.region ?_
   refine aq 8 (q_bin rfl rfl rfl rfl) ?_
   refine aa 5 ?_
   refine AOps.nil ?_
   refine AGo.split 5 rfl (fun hb3 => ?_) (fun hb3 => ?_)
   ·
    refine AGo.cond_true true rfl rfl ?_
    refine AGo.skip ?_
    refine AGo.cond_true true rfl rfl ?_
    refine AGo.seq ?_
    refine AGo.region ?_
    refine af 12 tok ?_
    refine al 13 tok ?_
    refine aa 2 ?_
    refine AOps.nil ?_
    refine AGo.ret ?_
    refine ⟨[_], ⟨rfl, trivial⟩, ?_, rfl⟩
    show AV.int .i64 _ = AV.int .i64 _
    congr 1
    simp [Tac.sets, setsOp, *]
   ·
    refine AGo.cond_false false rfl rfl ?_
    refine AGo.seq ?_
    refine AGo.region ?_
    refine aq 9 (q_bin rfl rfl rfl rfl) ?_
    refine aa 5 ?_
    refine AOps.nil ?_
    refine AGo.split 5 rfl (fun hb4 => ?_) (fun hb4 => ?_)
    ·
     refine AGo.cond_true true rfl rfl ?_
     refine AGo.skip ?_
     refine AGo.cond_true true rfl rfl ?_
     refine AGo.seq ?_
     refine AGo.region ?_
     refine af 12 tok ?_
     refine al 13 tok ?_
     refine aa 2 ?_
     refine AOps.nil ?_
     refine AGo.ret ?_
     refine ⟨[_], ⟨rfl, trivial⟩, ?_, rfl⟩
     show AV.int .i64 _ = AV.int .i64 _
     congr 1
     simp [Tac.sets, setsOp, *]
    ·
     refine AGo.cond_false false rfl rfl ?_
     refine AGo.seq ?_
     refine AGo.region ?_
     refine aq 10 (q_bin rfl rfl rfl rfl) ?_
     refine aa 5 ?_
     refine AOps.nil ?_
     refine AGo.split 5 rfl (fun hb5 => ?_) (fun hb5 => ?_)
     ·
      refine AGo.cond_true true rfl rfl ?_
      refine AGo.skip ?_
      refine AGo.cond_true true rfl rfl ?_
      refine AGo.seq ?_
      refine AGo.region ?_
      refine af 12 tok ?_
      refine al 13 tok ?_
      refine aa 2 ?_
      refine AOps.nil ?_
      refine AGo.ret ?_
      refine ⟨[_], ⟨rfl, trivial⟩, ?_, rfl⟩
      show AV.int .i64 _ = AV.int .i64 _
      congr 1
      simp [Tac.sets, setsOp, *]
     ·
      refine AGo.cond_false false rfl rfl ?_
      refine AGo.region ?_
      refine aq 11 (q_bin rfl rfl rfl rfl) ?_
      refine aa 5 ?_
      refine AOps.nil ?_
      refine AGo.split 5 rfl (fun hb6 => ?_) (fun hb6 => ?_)
      ·
       refine AGo.cond_true true rfl rfl ?_
       refine AGo.seq ?_
       refine AGo.region ?_
       refine af 12 tok ?_
       refine al 13 tok ?_
       refine aa 2 ?_
       refine AOps.nil ?_
       refine AGo.ret ?_
       refine ⟨[_], ⟨rfl, trivial⟩, ?_, rfl⟩
       show AV.int .i64 _ = AV.int .i64 _
       congr 1
       simp [Tac.sets, setsOp, *]
      ·
       refine AGo.cond_false false rfl rfl ?_
       refine AGo.skip ?_
       refine AGo.seq ?_
       refine AGo.region ?_
       refine aa 2 ?_
       refine AOps.nil ?_
       refine AGo.ret ?_
       refine ⟨[_], ⟨rfl, trivial⟩, ?_, rfl⟩
       show AV.int .i64 _ = AV.int .i64 _
       congr 1
       simp [Tac.sets, setsOp, *]

set_option maxRecDepth 100000 in
theorem uses_ok (t : Tac) : APure Try.prog 52 [.agg t.cells] (fun r => r = intsAV t.uses) := by
 refine APure.of_body (n := 21) tok Try.func52 rfl rfl ?_
 refine AGo.seq ?_
 refine AGo.region ?_
 refine ax 1 (o_box (sz := 8) 0 rfl rfl rfl rfl (Nat.zero_lt_succ _) rfl) ?_
 refine aa 2 ?_
 refine AOps.nil ?_
 refine AGo.seq ?_
 refine AGo.seq ?_
 refine AGo.region ?_
 refine af 3 tok ?_
 refine al 4 tok ?_
 refine AOps.nil ?_
 refine AGo.block ?_
 refine AGo.seq ?_
 refine AGo.seq ?_
 refine AGo.region ?_
 refine aq 6 (q_bin rfl rfl rfl rfl) ?_
 refine aa 5 ?_
 refine AOps.nil ?_
 refine AGo.split 5 rfl (fun hb1 => ?_) (fun hb1 => ?_)
 ·
  refine AGo.cond_true true rfl rfl ?_
  refine AGo.skip ?_
  refine AGo.cond_true true rfl rfl ?_
  refine AGo.seq ?_
  refine AGo.region ?_
  refine af 10 tok ?_
  refine al 11 tok ?_
  refine ax 12 (o_lit' tok rfl rfl rfl rfl rfl rfl (by decide) rfl rfl rfl rfl rfl rfl) ?_
  refine aa 2 ?_
  refine AOps.nil ?_
  refine AGo.ret ?_
  refine ⟨[_], ⟨rfl, trivial⟩, ?_, rfl⟩
  show AV.lst false _ = _
  simp [Tac.uses, use1, use2, intsAV, partVals, AV.cells, *]
 ·
  refine AGo.cond_false false rfl rfl ?_
  refine AGo.seq ?_
  refine AGo.region ?_
  refine aq 7 (q_bin rfl rfl rfl rfl) ?_
  refine aa 5 ?_
  refine AOps.nil ?_
  refine AGo.split 5 rfl (fun hb2 => ?_) (fun hb2 => ?_)
  ·
   refine AGo.cond_true true rfl rfl ?_
   refine AGo.skip ?_
   refine AGo.cond_true true rfl rfl ?_
   refine AGo.seq ?_
   refine AGo.region ?_
   refine af 10 tok ?_
   refine al 11 tok ?_
   refine ax 12 (o_lit' tok rfl rfl rfl rfl rfl rfl (by decide) rfl rfl rfl rfl rfl rfl) ?_
   refine aa 2 ?_
   refine AOps.nil ?_
   refine AGo.ret ?_
   refine ⟨[_], ⟨rfl, trivial⟩, ?_, rfl⟩
   show AV.lst false _ = _
   simp [Tac.uses, use1, use2, intsAV, partVals, AV.cells, *]
  ·
   refine AGo.cond_false false rfl rfl ?_
   refine AGo.seq ?_
   refine AGo.region ?_
   refine aq 8 (q_bin rfl rfl rfl rfl) ?_
   refine aa 5 ?_
   refine AOps.nil ?_
   refine AGo.split 5 rfl (fun hb3 => ?_) (fun hb3 => ?_)
   ·
    refine AGo.cond_true true rfl rfl ?_
    refine AGo.skip ?_
    refine AGo.cond_true true rfl rfl ?_
    refine AGo.seq ?_
    refine AGo.region ?_
    refine af 10 tok ?_
    refine al 11 tok ?_
    refine ax 12 (o_lit' tok rfl rfl rfl rfl rfl rfl (by decide) rfl rfl rfl rfl rfl rfl) ?_
    refine aa 2 ?_
    refine AOps.nil ?_
    refine AGo.ret ?_
    refine ⟨[_], ⟨rfl, trivial⟩, ?_, rfl⟩
    show AV.lst false _ = _
    simp [Tac.uses, use1, use2, intsAV, partVals, AV.cells, *]
   ·
    refine AGo.cond_false false rfl rfl ?_
    refine AGo.region ?_
    refine aq 9 (q_bin rfl rfl rfl rfl) ?_
    refine aa 5 ?_
    refine AOps.nil ?_
    refine AGo.split 5 rfl (fun hb4 => ?_) (fun hb4 => ?_)
    ·
     refine AGo.cond_true true rfl rfl ?_
     refine AGo.seq ?_
     refine AGo.region ?_
     refine af 10 tok ?_
     refine al 11 tok ?_
     refine ax 12 (o_lit' tok rfl rfl rfl rfl rfl rfl (by decide) rfl rfl rfl rfl rfl rfl) ?_
     refine aa 2 ?_
     refine AOps.nil ?_
     refine AGo.ret ?_
     refine ⟨[_], ⟨rfl, trivial⟩, ?_, rfl⟩
     show AV.lst false _ = _
     simp [Tac.uses, use1, use2, intsAV, partVals, AV.cells, *]
    ·
     refine AGo.cond_false false rfl rfl ?_
     refine AGo.seq ?_
     refine AGo.seq ?_
     refine AGo.region ?_
     refine aq 14 (q_bin rfl rfl rfl rfl) ?_
     refine aa 13 ?_
     refine AOps.nil ?_
     refine AGo.split 13 rfl (fun hb5 => ?_) (fun hb5 => ?_)
     ·
      refine AGo.cond_true true rfl rfl ?_
      refine AGo.skip ?_
      refine AGo.cond_true true rfl rfl ?_
      refine AGo.seq ?_
      refine AGo.region ?_
      refine af 16 tok ?_
      refine al 17 tok ?_
      refine af 18 tok ?_
      refine al 19 tok ?_
      refine ax 20 (o_lit' tok rfl rfl rfl rfl rfl rfl (by decide) rfl rfl rfl rfl rfl rfl) ?_
      refine aa 2 ?_
      refine AOps.nil ?_
      refine AGo.ret ?_
      refine ⟨[_], ⟨rfl, trivial⟩, ?_, rfl⟩
      show AV.lst false _ = _
      simp [Tac.uses, use1, use2, intsAV, partVals, AV.cells, *]
     ·
      refine AGo.cond_false false rfl rfl ?_
      refine AGo.region ?_
      refine aq 15 (q_bin rfl rfl rfl rfl) ?_
      refine aa 13 ?_
      refine AOps.nil ?_
      refine AGo.split 13 rfl (fun hb6 => ?_) (fun hb6 => ?_)
      ·
       refine AGo.cond_true true rfl rfl ?_
       refine AGo.seq ?_
       refine AGo.region ?_
       refine af 16 tok ?_
       refine al 17 tok ?_
       refine af 18 tok ?_
       refine al 19 tok ?_
       refine ax 20 (o_lit' tok rfl rfl rfl rfl rfl rfl (by decide) rfl rfl rfl rfl rfl rfl) ?_
       refine aa 2 ?_
       refine AOps.nil ?_
       refine AGo.ret ?_
       refine ⟨[_], ⟨rfl, trivial⟩, ?_, rfl⟩
       show AV.lst false _ = _
       simp [Tac.uses, use1, use2, intsAV, partVals, AV.cells, *]
      ·
       refine AGo.cond_false false rfl rfl ?_
       refine AGo.skip ?_
       refine AGo.seq ?_
       refine AGo.region ?_
       refine aa 2 ?_
       refine AOps.nil ?_
       refine AGo.ghost (.empty 2 rfl) ?_
       refine AGo.ret ?_
       refine ⟨[_], ⟨rfl, trivial⟩, ?_, rfl⟩
       show AV.lst false _ = _
       simp [Tac.uses, use1, use2, intsAV, partVals, AV.cells, *]

set_option maxRecDepth 100000 in
theorem within_ok (i j : Int) : APure Try.prog 50 [.int .i64 i, .int .i64 j] (fun r => r = .bool (within i j)) := by
 refine APure.of_body (n := 12) tok Try.func50 rfl rfl ?_
 refine AGo.seq ?_
 refine AGo.region ?_
 refine aa 4 ?_
 refine AOps.nil ?_
 refine AGo.seq ?_
 refine AGo.region ?_
 refine am 5 ?_
 refine aq 6 (q_bin rfl rfl rfl rfl) ?_
 refine am 7 ?_
 refine AOps.split 7 rfl (fun hb1 => ?_) (fun hb1 => ?_)
 ·
  refine am 8 ?_
  refine am 9 ?_
  refine aq 10 (q_bin rfl rfl rfl rfl) ?_
  refine aq 11 (q_pick_true true rfl rfl rfl rfl) ?_
  refine aa 4 ?_
  refine AOps.nil ?_
  refine AGo.ret ?_
  refine ⟨[_], ⟨rfl, trivial⟩, ?_, rfl⟩
  show AV.bool _ = AV.bool _
  congr 1
  simp_all [within] <;> omega
 ·
  refine ak 8 ?_
  refine ak 9 ?_
  refine ak 10 ?_
  refine aq 11 (q_pick_false false rfl rfl rfl rfl) ?_
  refine aa 4 ?_
  refine AOps.nil ?_
  refine AGo.ret ?_
  refine ⟨[_], ⟨rfl, trivial⟩, ?_, rfl⟩
  show AV.bool _ = AV.bool _
  congr 1
  simp_all [within] <;> omega

set_option maxRecDepth 100000 in
theorem ends_ok (b : Block) (blocks regs : Int) : APure Try.prog 40 [.agg b.cells, .int .i64 blocks, .int .i64 regs] (fun r => r = .bool (b.ends blocks regs)) := by
 refine APure.of_body (n := 61) tok Try.func40 rfl rfl ?_
 refine AGo.seq ?_
 refine AGo.region ?_
 refine ax 3 (o_box (sz := 5) 0 rfl rfl rfl rfl (Nat.zero_lt_succ _) rfl) ?_
 refine aa 6 ?_
 refine AOps.nil ?_
 refine AGo.seq ?_
 refine AGo.seq ?_
 refine AGo.region ?_
 refine af 7 tok ?_
 refine al 8 tok ?_
 refine AOps.nil ?_
 refine AGo.block ?_
 refine AGo.seq ?_
 refine AGo.region ?_
 refine aq 10 (q_bin rfl rfl rfl rfl) ?_
 refine aa 9 ?_
 refine AOps.nil ?_
 refine AGo.split 9 rfl (fun hb1 => ?_) (fun hb1 => ?_)
 ·
  refine AGo.cond_true true rfl rfl ?_
  refine AGo.seq ?_
  refine AGo.region ?_
  refine af 11 tok ?_
  refine al 12 tok ?_
  refine am 13 ?_
  refine ax 14 (o_pure rfl Try.func50 (by kernel_rfl) rfl rfl rfl (within_ok _ _)) ?_
  refine am 15 ?_
  refine AOps.split 15 rfl (fun hb2 => ?_) (fun hb2 => ?_)
  ·
   refine af 16 tok ?_
   refine al 17 tok ?_
   refine aq 18 (q_bin rfl rfl rfl rfl) ?_
   refine aq 19 (q_pick_true true rfl rfl rfl rfl) ?_
   refine am 20 ?_
   refine AOps.split 20 rfl (fun hb3 => ?_) (fun hb3 => ?_)
   ·
    refine af 21 tok ?_
    refine al 22 tok ?_
    refine aq 23 (q_bin rfl rfl rfl rfl) ?_
    refine aq 24 (q_pick_true true rfl rfl rfl rfl) ?_
    refine aa 6 ?_
    refine AOps.nil ?_
    refine AGo.ret ?_
    refine ⟨[_], ⟨rfl, trivial⟩, ?_, rfl⟩
    show AV.bool _ = AV.bool _
    congr 1
    simp_all [Block.ends]
   ·
    refine ak 21 ?_
    refine ak 22 ?_
    refine ak 23 ?_
    refine aq 24 (q_pick_false false rfl rfl rfl rfl) ?_
    refine aa 6 ?_
    refine AOps.nil ?_
    refine AGo.ret ?_
    refine ⟨[_], ⟨rfl, trivial⟩, ?_, rfl⟩
    show AV.bool _ = AV.bool _
    congr 1
    simp_all [Block.ends]
  ·
   refine ak 16 ?_
   refine ak 17 ?_
   refine ak 18 ?_
   refine aq 19 (q_pick_false false rfl rfl rfl rfl) ?_
   refine am 20 ?_
   refine ak 21 ?_
   refine ak 22 ?_
   refine ak 23 ?_
   refine aq 24 (q_pick_false false rfl rfl rfl rfl) ?_
   refine aa 6 ?_
   refine AOps.nil ?_
   refine AGo.ret ?_
   refine ⟨[_], ⟨rfl, trivial⟩, ?_, rfl⟩
   show AV.bool _ = AV.bool _
   congr 1
   simp_all [Block.ends]
 ·
  refine AGo.cond_false false rfl rfl ?_
  refine AGo.seq ?_
  refine AGo.region ?_
  refine aq 26 (q_bin rfl rfl rfl rfl) ?_
  refine aa 25 ?_
  refine AOps.nil ?_
  refine AGo.split 25 rfl (fun hb4 => ?_) (fun hb4 => ?_)
  ·
   refine AGo.cond_true true rfl rfl ?_
   refine AGo.seq ?_
   refine AGo.region ?_
   refine af 27 tok ?_
   refine al 28 tok ?_
   refine am 29 ?_
   refine ax 30 (o_pure rfl Try.func50 (by kernel_rfl) rfl rfl rfl (within_ok _ _)) ?_
   refine am 31 ?_
   refine AOps.split 31 rfl (fun hb5 => ?_) (fun hb5 => ?_)
   ·
    refine af 32 tok ?_
    refine al 33 tok ?_
    refine am 34 ?_
    refine ax 35 (o_pure rfl Try.func50 (by kernel_rfl) rfl rfl rfl (within_ok _ _)) ?_
    refine aq 36 (q_pick_true true rfl rfl rfl rfl) ?_
    refine am 37 ?_
    refine AOps.split 37 rfl (fun hb6 => ?_) (fun hb6 => ?_)
    ·
     refine af 38 tok ?_
     refine al 39 tok ?_
     refine am 40 ?_
     refine ax 41 (o_pure rfl Try.func50 (by kernel_rfl) rfl rfl rfl (within_ok _ _)) ?_
     refine aq 42 (q_pick_true true rfl rfl rfl rfl) ?_
     refine aa 6 ?_
     refine AOps.nil ?_
     refine AGo.ret ?_
     refine ⟨[_], ⟨rfl, trivial⟩, ?_, rfl⟩
     show AV.bool _ = AV.bool _
     congr 1
     simp_all [Block.ends]
    ·
     refine ak 38 ?_
     refine ak 39 ?_
     refine ak 40 ?_
     refine ak 41 ?_
     refine aq 42 (q_pick_false false rfl rfl rfl rfl) ?_
     refine aa 6 ?_
     refine AOps.nil ?_
     refine AGo.ret ?_
     refine ⟨[_], ⟨rfl, trivial⟩, ?_, rfl⟩
     show AV.bool _ = AV.bool _
     congr 1
     simp_all [Block.ends]
   ·
    refine ak 32 ?_
    refine ak 33 ?_
    refine ak 34 ?_
    refine ak 35 ?_
    refine aq 36 (q_pick_false false rfl rfl rfl rfl) ?_
    refine am 37 ?_
    refine ak 38 ?_
    refine ak 39 ?_
    refine ak 40 ?_
    refine ak 41 ?_
    refine aq 42 (q_pick_false false rfl rfl rfl rfl) ?_
    refine aa 6 ?_
    refine AOps.nil ?_
    refine AGo.ret ?_
    refine ⟨[_], ⟨rfl, trivial⟩, ?_, rfl⟩
    show AV.bool _ = AV.bool _
    congr 1
    simp_all [Block.ends]
  ·
   refine AGo.cond_false false rfl rfl ?_
   refine AGo.skip ?_
   refine AGo.seq ?_
   refine AGo.region ?_
   refine af 43 tok ?_
   refine al 44 tok ?_
   refine aq 45 (q_bin rfl rfl rfl rfl) ?_
   refine am 46 ?_
   refine AOps.split 46 rfl (fun hb7 => ?_) (fun hb7 => ?_)
   ·
    refine af 47 tok ?_
    refine al 48 tok ?_
    refine aq 49 (q_bin rfl rfl rfl rfl) ?_
    refine aq 50 (q_pick_true true rfl rfl rfl rfl) ?_
    refine am 51 ?_
    refine AOps.split 51 rfl (fun hb8 => ?_) (fun hb8 => ?_)
    ·
     refine af 52 tok ?_
     refine al 53 tok ?_
     refine aq 54 (q_bin rfl rfl rfl rfl) ?_
     refine aq 55 (q_pick_true true rfl rfl rfl rfl) ?_
     refine am 56 ?_
     refine AOps.split 56 rfl (fun hb9 => ?_) (fun hb9 => ?_)
     ·
      refine af 57 tok ?_
      refine al 58 tok ?_
      refine aq 59 (q_bin rfl rfl rfl rfl) ?_
      refine aq 60 (q_pick_true true rfl rfl rfl rfl) ?_
      refine aa 6 ?_
      refine AOps.nil ?_
      refine AGo.ret ?_
      refine ⟨[_], ⟨rfl, trivial⟩, ?_, rfl⟩
      show AV.bool _ = AV.bool _
      congr 1
      simp_all [Block.ends]
     ·
      refine ak 57 ?_
      refine ak 58 ?_
      refine ak 59 ?_
      refine aq 60 (q_pick_false false rfl rfl rfl rfl) ?_
      refine aa 6 ?_
      refine AOps.nil ?_
      refine AGo.ret ?_
      refine ⟨[_], ⟨rfl, trivial⟩, ?_, rfl⟩
      show AV.bool _ = AV.bool _
      congr 1
      simp_all [Block.ends]
    ·
     refine ak 52 ?_
     refine ak 53 ?_
     refine ak 54 ?_
     refine aq 55 (q_pick_false false rfl rfl rfl rfl) ?_
     refine am 56 ?_
     refine ak 57 ?_
     refine ak 58 ?_
     refine ak 59 ?_
     refine aq 60 (q_pick_false false rfl rfl rfl rfl) ?_
     refine aa 6 ?_
     refine AOps.nil ?_
     refine AGo.ret ?_
     refine ⟨[_], ⟨rfl, trivial⟩, ?_, rfl⟩
     show AV.bool _ = AV.bool _
     congr 1
     simp_all [Block.ends]
   ·
    refine ak 47 ?_
    refine ak 48 ?_
    refine ak 49 ?_
    refine aq 50 (q_pick_false false rfl rfl rfl rfl) ?_
    refine am 51 ?_
    refine ak 52 ?_
    refine ak 53 ?_
    refine ak 54 ?_
    refine aq 55 (q_pick_false false rfl rfl rfl rfl) ?_
    refine am 56 ?_
    refine ak 57 ?_
    refine ak 58 ?_
    refine ak 59 ?_
    refine aq 60 (q_pick_false false rfl rfl rfl rfl) ?_
    refine aa 6 ?_
    refine AOps.nil ?_
    refine AGo.ret ?_
    refine ⟨[_], ⟨rfl, trivial⟩, ?_, rfl⟩
    show AV.bool _ = AV.bool _
    congr 1
    simp_all [Block.ends]

set_option maxRecDepth 100000 in
theorem fits_ok (t : Tac) (f regs words : Int) (hw : 0 ≤ words) (hw2 : words ≤ 1048576) : APure Try.prog 41 [.agg t.cells, .int .i64 f, .int .i64 regs, .int .i64 words] (fun r => r = .bool (t.fits f regs words)) := by
 refine APure.of_body (n := 166) tok Try.func41 rfl rfl ?_
 refine AGo.seq ?_
 refine AGo.region ?_
 refine ax 4 (o_box (sz := 8) 0 rfl rfl rfl rfl (Nat.zero_lt_succ _) rfl) ?_
 refine aa 8 ?_
 refine AOps.nil ?_
 refine AGo.seq ?_
 refine AGo.seq ?_
 refine AGo.region ?_
 refine af 12 tok ?_
 refine al 13 tok ?_
 refine aq 14 (q_bin rfl rfl rfl rfl) ?_
 refine am 15 ?_
 refine AOps.split 15 rfl (fun hb1 => ?_) (fun hb1 => ?_)
 ·
  refine ak 16 ?_
  refine ak 17 ?_
  refine ak 18 ?_
  refine aq 19 (q_pick_true true rfl rfl rfl rfl) ?_
  refine AOps.nil ?_
  refine AGo.cond_true true rfl rfl ?_
  refine AGo.seq ?_
  refine AGo.region ?_
  refine aa 8 ?_
  refine AOps.nil ?_
  refine AGo.ret ?_
  refine ⟨[_], ⟨rfl, trivial⟩, ?_, rfl⟩
  show AV.bool _ = AV.bool _
  congr 1
  exact (fits_op (by simp_all <;> omega)).symm
 ·
  refine af 16 tok ?_
  refine al 17 tok ?_
  refine aq 18 (q_bin rfl rfl rfl rfl) ?_
  refine aq 19 (q_pick_false false rfl rfl rfl rfl) ?_
  refine AOps.nil ?_
  refine AGo.split 19 rfl (fun hb2 => ?_) (fun hb2 => ?_)
  ·
   refine AGo.cond_true true rfl rfl ?_
   refine AGo.seq ?_
   refine AGo.region ?_
   refine aa 8 ?_
   refine AOps.nil ?_
   refine AGo.ret ?_
   refine ⟨[_], ⟨rfl, trivial⟩, ?_, rfl⟩
   show AV.bool _ = AV.bool _
   congr 1
   exact (fits_op (by simp_all <;> omega)).symm
  ·
   refine AGo.cond_false false rfl rfl ?_
   refine AGo.skip ?_
   refine AGo.seq ?_
   refine AGo.region ?_
   refine af 20 tok ?_
   refine al 21 tok ?_
   refine aq 22 (q_build tok rfl rfl rfl rfl rfl (by decide) rfl rfl rfl) ?_
   refine ax 9 (o_alloc tok 1 rfl rfl rfl rfl (Nat.zero_lt_succ _) rfl) ?_
   refine AOps.w rfl rfl (o_store tok rfl rfl rfl rfl rfl rfl rfl rfl rfl (by decide) rfl (by first | exact fun _ => rfl | (intro h; cases h))) ?_
   refine AOps.nil ?_
   refine AGo.seq ?_
   refine AGo.join (γ := Int) (fun d => ⟨166, (eput (eput (eput (eput (eput eNew 1 (.int .i64 f)) 2 (.int .i64 regs)) 3 (.int .i64 words)) 4 (.ptr 0 1 0 0)) 9 (.ptr 1 1 0 0)), (hput (hput (hFrom 2) 0 (.row false 8 [t.cells])) 1 (.row false 8 [[.int .i64 t.op, .int .i64 d, .int .i64 0, .int .i64 0, .int .i64 0, .int .i64 0, .int .i64 0, .int .u32 0]]))⟩) (fun d => (!setsOp t.op || within t.d regs) = true ∧ d = bif setsOp t.op then t.d else 0) ?_ ?_
   ·
    refine AGo.seq ?_
    refine AGo.region ?_
    refine al 23 tok ?_
    refine ax 24 (o_pure rfl Try.func51 (by kernel_rfl) rfl rfl rfl (sets_ok _)) ?_
    refine aq 25 (q_bin rfl rfl rfl rfl) ?_
    refine am 26 ?_
    refine AOps.split 26 rfl (fun hb3 => ?_) (fun hb3 => ?_)
    ·
     refine ak 27 ?_
     refine ak 28 ?_
     refine ak 29 ?_
     refine aq 30 (q_pick_true true rfl rfl rfl rfl) ?_
     refine am 31 ?_
     refine ak 32 ?_
     refine ak 33 ?_
     refine ak 34 ?_
     refine aq 35 (q_pick_true true rfl rfl rfl rfl) ?_
     refine am 36 ?_
     refine ak 37 ?_
     refine ak 38 ?_
     refine ak 39 ?_
     refine aq 40 (q_pick_true true rfl rfl rfl rfl) ?_
     refine am 41 ?_
     refine ak 42 ?_
     refine ak 43 ?_
     refine ak 44 ?_
     refine aq 45 (q_pick_true true rfl rfl rfl rfl) ?_
     refine am 46 ?_
     refine ak 47 ?_
     refine ak 48 ?_
     refine ak 49 ?_
     refine aq 50 (q_pick_true true rfl rfl rfl rfl) ?_
     refine am 51 ?_
     refine ak 52 ?_
     refine ak 53 ?_
     refine ak 54 ?_
     refine aq 55 (q_pick_true true rfl rfl rfl rfl) ?_
     refine AOps.nil ?_
     refine AGo.cond_true true rfl rfl ?_
     refine AGo.seq ?_
     refine AGo.region ?_
     refine af 56 tok ?_
     refine al 57 tok ?_
     refine af 58 tok ?_
     refine AOps.w rfl rfl (o_store tok rfl rfl rfl rfl rfl rfl rfl rfl rfl (by decide) rfl (by first | exact fun _ => rfl | (intro h; cases h))) ?_
     refine AOps.nil ?_
     refine AGo.seq ?_
     refine AGo.region ?_
     refine af 59 tok ?_
     refine al 60 tok ?_
     refine am 61 ?_
     refine ax 62 (o_pure rfl Try.func50 (by kernel_rfl) rfl rfl rfl (within_ok _ _)) ?_
     refine aq 63 (q_not rfl rfl) ?_
     refine AOps.nil ?_
     refine AGo.split 63 rfl (fun hb4 => ?_) (fun hb4 => ?_)
     ·
      refine AGo.cond_true true rfl rfl ?_
      refine AGo.seq ?_
      refine AGo.region ?_
      refine aa 8 ?_
      refine AOps.nil ?_
      refine AGo.ret ?_
      refine ⟨[_], ⟨rfl, trivial⟩, ?_, rfl⟩
      show AV.bool _ = AV.bool _
      congr 1
      exact (fits_d (by first | (simp [setsOp, *]; done) | exact sets_pos ‹_›) (by simpa using ‹(!within t.d regs) = true›)).symm
     ·
      refine AGo.cond_false false rfl rfl ?_
      refine AGo.skip ?_
      exact ⟨t.d, Sub.mk' (by repeat (first | exact ESub.new _ | refine ESub.put ?_ (by rfl))) (by repeat (first | exact HSub.refl _ | exact HSub.none _ | exact HSub.from_new _ | exact HSub.from_from (by first | decide | omega | (dsimp only; omega)) | refine HSub.put ?_ (by rfl) | refine HSub.from_put ?_ (by first | decide | omega | (dsimp only; omega)) | refine HSub.from_rm ?_ (by decide))), ⟨by have h := ‹(!within t.d regs) = false›; simp at h; simp [h], by first | (simp [setsOp, *]; done) | simp [sets_pos ‹_›]⟩⟩
    ·
     refine af 27 tok ?_
     refine al 28 tok ?_
     refine aq 29 (q_bin rfl rfl rfl rfl) ?_
     refine aq 30 (q_pick_false false rfl rfl rfl rfl) ?_
     refine am 31 ?_
     refine AOps.split 31 rfl (fun hb5 => ?_) (fun hb5 => ?_)
     ·
      refine ak 32 ?_
      refine ak 33 ?_
      refine ak 34 ?_
      refine aq 35 (q_pick_true true rfl rfl rfl rfl) ?_
      refine am 36 ?_
      refine ak 37 ?_
      refine ak 38 ?_
      refine ak 39 ?_
      refine aq 40 (q_pick_true true rfl rfl rfl rfl) ?_
      refine am 41 ?_
      refine ak 42 ?_
      refine ak 43 ?_
      refine ak 44 ?_
      refine aq 45 (q_pick_true true rfl rfl rfl rfl) ?_
      refine am 46 ?_
      refine ak 47 ?_
      refine ak 48 ?_
      refine ak 49 ?_
      refine aq 50 (q_pick_true true rfl rfl rfl rfl) ?_
      refine am 51 ?_
      refine ak 52 ?_
      refine ak 53 ?_
      refine ak 54 ?_
      refine aq 55 (q_pick_true true rfl rfl rfl rfl) ?_
      refine AOps.nil ?_
      refine AGo.cond_true true rfl rfl ?_
      refine AGo.seq ?_
      refine AGo.region ?_
      refine af 56 tok ?_
      refine al 57 tok ?_
      refine af 58 tok ?_
      refine AOps.w rfl rfl (o_store tok rfl rfl rfl rfl rfl rfl rfl rfl rfl (by decide) rfl (by first | exact fun _ => rfl | (intro h; cases h))) ?_
      refine AOps.nil ?_
      refine AGo.seq ?_
      refine AGo.region ?_
      refine af 59 tok ?_
      refine al 60 tok ?_
      refine am 61 ?_
      refine ax 62 (o_pure rfl Try.func50 (by kernel_rfl) rfl rfl rfl (within_ok _ _)) ?_
      refine aq 63 (q_not rfl rfl) ?_
      refine AOps.nil ?_
      refine AGo.split 63 rfl (fun hb6 => ?_) (fun hb6 => ?_)
      ·
       refine AGo.cond_true true rfl rfl ?_
       refine AGo.seq ?_
       refine AGo.region ?_
       refine aa 8 ?_
       refine AOps.nil ?_
       refine AGo.ret ?_
       refine ⟨[_], ⟨rfl, trivial⟩, ?_, rfl⟩
       show AV.bool _ = AV.bool _
       congr 1
       exact (fits_d (by first | (simp [setsOp, *]; done) | exact sets_pos ‹_›) (by simpa using ‹(!within t.d regs) = true›)).symm
      ·
       refine AGo.cond_false false rfl rfl ?_
       refine AGo.skip ?_
       exact ⟨t.d, Sub.mk' (by repeat (first | exact ESub.new _ | refine ESub.put ?_ (by rfl))) (by repeat (first | exact HSub.refl _ | exact HSub.none _ | exact HSub.from_new _ | exact HSub.from_from (by first | decide | omega | (dsimp only; omega)) | refine HSub.put ?_ (by rfl) | refine HSub.from_put ?_ (by first | decide | omega | (dsimp only; omega)) | refine HSub.from_rm ?_ (by decide))), ⟨by have h := ‹(!within t.d regs) = false›; simp at h; simp [h], by first | (simp [setsOp, *]; done) | simp [sets_pos ‹_›]⟩⟩
     ·
      refine af 32 tok ?_
      refine al 33 tok ?_
      refine aq 34 (q_bin rfl rfl rfl rfl) ?_
      refine aq 35 (q_pick_false false rfl rfl rfl rfl) ?_
      refine am 36 ?_
      refine AOps.split 36 rfl (fun hb7 => ?_) (fun hb7 => ?_)
      ·
       refine ak 37 ?_
       refine ak 38 ?_
       refine ak 39 ?_
       refine aq 40 (q_pick_true true rfl rfl rfl rfl) ?_
       refine am 41 ?_
       refine ak 42 ?_
       refine ak 43 ?_
       refine ak 44 ?_
       refine aq 45 (q_pick_true true rfl rfl rfl rfl) ?_
       refine am 46 ?_
       refine ak 47 ?_
       refine ak 48 ?_
       refine ak 49 ?_
       refine aq 50 (q_pick_true true rfl rfl rfl rfl) ?_
       refine am 51 ?_
       refine ak 52 ?_
       refine ak 53 ?_
       refine ak 54 ?_
       refine aq 55 (q_pick_true true rfl rfl rfl rfl) ?_
       refine AOps.nil ?_
       refine AGo.cond_true true rfl rfl ?_
       refine AGo.seq ?_
       refine AGo.region ?_
       refine af 56 tok ?_
       refine al 57 tok ?_
       refine af 58 tok ?_
       refine AOps.w rfl rfl (o_store tok rfl rfl rfl rfl rfl rfl rfl rfl rfl (by decide) rfl (by first | exact fun _ => rfl | (intro h; cases h))) ?_
       refine AOps.nil ?_
       refine AGo.seq ?_
       refine AGo.region ?_
       refine af 59 tok ?_
       refine al 60 tok ?_
       refine am 61 ?_
       refine ax 62 (o_pure rfl Try.func50 (by kernel_rfl) rfl rfl rfl (within_ok _ _)) ?_
       refine aq 63 (q_not rfl rfl) ?_
       refine AOps.nil ?_
       refine AGo.split 63 rfl (fun hb8 => ?_) (fun hb8 => ?_)
       ·
        refine AGo.cond_true true rfl rfl ?_
        refine AGo.seq ?_
        refine AGo.region ?_
        refine aa 8 ?_
        refine AOps.nil ?_
        refine AGo.ret ?_
        refine ⟨[_], ⟨rfl, trivial⟩, ?_, rfl⟩
        show AV.bool _ = AV.bool _
        congr 1
        exact (fits_d (by first | (simp [setsOp, *]; done) | exact sets_pos ‹_›) (by simpa using ‹(!within t.d regs) = true›)).symm
       ·
        refine AGo.cond_false false rfl rfl ?_
        refine AGo.skip ?_
        exact ⟨t.d, Sub.mk' (by repeat (first | exact ESub.new _ | refine ESub.put ?_ (by rfl))) (by repeat (first | exact HSub.refl _ | exact HSub.none _ | exact HSub.from_new _ | exact HSub.from_from (by first | decide | omega | (dsimp only; omega)) | refine HSub.put ?_ (by rfl) | refine HSub.from_put ?_ (by first | decide | omega | (dsimp only; omega)) | refine HSub.from_rm ?_ (by decide))), ⟨by have h := ‹(!within t.d regs) = false›; simp at h; simp [h], by first | (simp [setsOp, *]; done) | simp [sets_pos ‹_›]⟩⟩
      ·
       refine af 37 tok ?_
       refine al 38 tok ?_
       refine aq 39 (q_bin rfl rfl rfl rfl) ?_
       refine aq 40 (q_pick_false false rfl rfl rfl rfl) ?_
       refine am 41 ?_
       refine AOps.split 41 rfl (fun hb9 => ?_) (fun hb9 => ?_)
       ·
        refine ak 42 ?_
        refine ak 43 ?_
        refine ak 44 ?_
        refine aq 45 (q_pick_true true rfl rfl rfl rfl) ?_
        refine am 46 ?_
        refine ak 47 ?_
        refine ak 48 ?_
        refine ak 49 ?_
        refine aq 50 (q_pick_true true rfl rfl rfl rfl) ?_
        refine am 51 ?_
        refine ak 52 ?_
        refine ak 53 ?_
        refine ak 54 ?_
        refine aq 55 (q_pick_true true rfl rfl rfl rfl) ?_
        refine AOps.nil ?_
        refine AGo.cond_true true rfl rfl ?_
        refine AGo.seq ?_
        refine AGo.region ?_
        refine af 56 tok ?_
        refine al 57 tok ?_
        refine af 58 tok ?_
        refine AOps.w rfl rfl (o_store tok rfl rfl rfl rfl rfl rfl rfl rfl rfl (by decide) rfl (by first | exact fun _ => rfl | (intro h; cases h))) ?_
        refine AOps.nil ?_
        refine AGo.seq ?_
        refine AGo.region ?_
        refine af 59 tok ?_
        refine al 60 tok ?_
        refine am 61 ?_
        refine ax 62 (o_pure rfl Try.func50 (by kernel_rfl) rfl rfl rfl (within_ok _ _)) ?_
        refine aq 63 (q_not rfl rfl) ?_
        refine AOps.nil ?_
        refine AGo.split 63 rfl (fun hb10 => ?_) (fun hb10 => ?_)
        ·
         refine AGo.cond_true true rfl rfl ?_
         refine AGo.seq ?_
         refine AGo.region ?_
         refine aa 8 ?_
         refine AOps.nil ?_
         refine AGo.ret ?_
         refine ⟨[_], ⟨rfl, trivial⟩, ?_, rfl⟩
         show AV.bool _ = AV.bool _
         congr 1
         exact (fits_d (by first | (simp [setsOp, *]; done) | exact sets_pos ‹_›) (by simpa using ‹(!within t.d regs) = true›)).symm
        ·
         refine AGo.cond_false false rfl rfl ?_
         refine AGo.skip ?_
         exact ⟨t.d, Sub.mk' (by repeat (first | exact ESub.new _ | refine ESub.put ?_ (by rfl))) (by repeat (first | exact HSub.refl _ | exact HSub.none _ | exact HSub.from_new _ | exact HSub.from_from (by first | decide | omega | (dsimp only; omega)) | refine HSub.put ?_ (by rfl) | refine HSub.from_put ?_ (by first | decide | omega | (dsimp only; omega)) | refine HSub.from_rm ?_ (by decide))), ⟨by have h := ‹(!within t.d regs) = false›; simp at h; simp [h], by first | (simp [setsOp, *]; done) | simp [sets_pos ‹_›]⟩⟩
       ·
        refine af 42 tok ?_
        refine al 43 tok ?_
        refine aq 44 (q_bin rfl rfl rfl rfl) ?_
        refine aq 45 (q_pick_false false rfl rfl rfl rfl) ?_
        refine am 46 ?_
        refine AOps.split 46 rfl (fun hb11 => ?_) (fun hb11 => ?_)
        ·
         refine ak 47 ?_
         refine ak 48 ?_
         refine ak 49 ?_
         refine aq 50 (q_pick_true true rfl rfl rfl rfl) ?_
         refine am 51 ?_
         refine ak 52 ?_
         refine ak 53 ?_
         refine ak 54 ?_
         refine aq 55 (q_pick_true true rfl rfl rfl rfl) ?_
         refine AOps.nil ?_
         refine AGo.cond_true true rfl rfl ?_
         refine AGo.seq ?_
         refine AGo.region ?_
         refine af 56 tok ?_
         refine al 57 tok ?_
         refine af 58 tok ?_
         refine AOps.w rfl rfl (o_store tok rfl rfl rfl rfl rfl rfl rfl rfl rfl (by decide) rfl (by first | exact fun _ => rfl | (intro h; cases h))) ?_
         refine AOps.nil ?_
         refine AGo.seq ?_
         refine AGo.region ?_
         refine af 59 tok ?_
         refine al 60 tok ?_
         refine am 61 ?_
         refine ax 62 (o_pure rfl Try.func50 (by kernel_rfl) rfl rfl rfl (within_ok _ _)) ?_
         refine aq 63 (q_not rfl rfl) ?_
         refine AOps.nil ?_
         refine AGo.split 63 rfl (fun hb12 => ?_) (fun hb12 => ?_)
         ·
          refine AGo.cond_true true rfl rfl ?_
          refine AGo.seq ?_
          refine AGo.region ?_
          refine aa 8 ?_
          refine AOps.nil ?_
          refine AGo.ret ?_
          refine ⟨[_], ⟨rfl, trivial⟩, ?_, rfl⟩
          show AV.bool _ = AV.bool _
          congr 1
          exact (fits_d (by first | (simp [setsOp, *]; done) | exact sets_pos ‹_›) (by simpa using ‹(!within t.d regs) = true›)).symm
         ·
          refine AGo.cond_false false rfl rfl ?_
          refine AGo.skip ?_
          exact ⟨t.d, Sub.mk' (by repeat (first | exact ESub.new _ | refine ESub.put ?_ (by rfl))) (by repeat (first | exact HSub.refl _ | exact HSub.none _ | exact HSub.from_new _ | exact HSub.from_from (by first | decide | omega | (dsimp only; omega)) | refine HSub.put ?_ (by rfl) | refine HSub.from_put ?_ (by first | decide | omega | (dsimp only; omega)) | refine HSub.from_rm ?_ (by decide))), ⟨by have h := ‹(!within t.d regs) = false›; simp at h; simp [h], by first | (simp [setsOp, *]; done) | simp [sets_pos ‹_›]⟩⟩
        ·
         refine af 47 tok ?_
         refine al 48 tok ?_
         refine aq 49 (q_bin rfl rfl rfl rfl) ?_
         refine aq 50 (q_pick_false false rfl rfl rfl rfl) ?_
         refine am 51 ?_
         refine AOps.split 51 rfl (fun hb13 => ?_) (fun hb13 => ?_)
         ·
          refine ak 52 ?_
          refine ak 53 ?_
          refine ak 54 ?_
          refine aq 55 (q_pick_true true rfl rfl rfl rfl) ?_
          refine AOps.nil ?_
          refine AGo.cond_true true rfl rfl ?_
          refine AGo.seq ?_
          refine AGo.region ?_
          refine af 56 tok ?_
          refine al 57 tok ?_
          refine af 58 tok ?_
          refine AOps.w rfl rfl (o_store tok rfl rfl rfl rfl rfl rfl rfl rfl rfl (by decide) rfl (by first | exact fun _ => rfl | (intro h; cases h))) ?_
          refine AOps.nil ?_
          refine AGo.seq ?_
          refine AGo.region ?_
          refine af 59 tok ?_
          refine al 60 tok ?_
          refine am 61 ?_
          refine ax 62 (o_pure rfl Try.func50 (by kernel_rfl) rfl rfl rfl (within_ok _ _)) ?_
          refine aq 63 (q_not rfl rfl) ?_
          refine AOps.nil ?_
          refine AGo.split 63 rfl (fun hb14 => ?_) (fun hb14 => ?_)
          ·
           refine AGo.cond_true true rfl rfl ?_
           refine AGo.seq ?_
           refine AGo.region ?_
           refine aa 8 ?_
           refine AOps.nil ?_
           refine AGo.ret ?_
           refine ⟨[_], ⟨rfl, trivial⟩, ?_, rfl⟩
           show AV.bool _ = AV.bool _
           congr 1
           exact (fits_d (by first | (simp [setsOp, *]; done) | exact sets_pos ‹_›) (by simpa using ‹(!within t.d regs) = true›)).symm
          ·
           refine AGo.cond_false false rfl rfl ?_
           refine AGo.skip ?_
           exact ⟨t.d, Sub.mk' (by repeat (first | exact ESub.new _ | refine ESub.put ?_ (by rfl))) (by repeat (first | exact HSub.refl _ | exact HSub.none _ | exact HSub.from_new _ | exact HSub.from_from (by first | decide | omega | (dsimp only; omega)) | refine HSub.put ?_ (by rfl) | refine HSub.from_put ?_ (by first | decide | omega | (dsimp only; omega)) | refine HSub.from_rm ?_ (by decide))), ⟨by have h := ‹(!within t.d regs) = false›; simp at h; simp [h], by first | (simp [setsOp, *]; done) | simp [sets_pos ‹_›]⟩⟩
         ·
          refine af 52 tok ?_
          refine al 53 tok ?_
          refine aq 54 (q_bin rfl rfl rfl rfl) ?_
          refine aq 55 (q_pick_false false rfl rfl rfl rfl) ?_
          refine AOps.nil ?_
          refine AGo.split 55 rfl (fun hb15 => ?_) (fun hb15 => ?_)
          ·
           refine AGo.cond_true true rfl rfl ?_
           refine AGo.seq ?_
           refine AGo.region ?_
           refine af 56 tok ?_
           refine al 57 tok ?_
           refine af 58 tok ?_
           refine AOps.w rfl rfl (o_store tok rfl rfl rfl rfl rfl rfl rfl rfl rfl (by decide) rfl (by first | exact fun _ => rfl | (intro h; cases h))) ?_
           refine AOps.nil ?_
           refine AGo.seq ?_
           refine AGo.region ?_
           refine af 59 tok ?_
           refine al 60 tok ?_
           refine am 61 ?_
           refine ax 62 (o_pure rfl Try.func50 (by kernel_rfl) rfl rfl rfl (within_ok _ _)) ?_
           refine aq 63 (q_not rfl rfl) ?_
           refine AOps.nil ?_
           refine AGo.split 63 rfl (fun hb16 => ?_) (fun hb16 => ?_)
           ·
            refine AGo.cond_true true rfl rfl ?_
            refine AGo.seq ?_
            refine AGo.region ?_
            refine aa 8 ?_
            refine AOps.nil ?_
            refine AGo.ret ?_
            refine ⟨[_], ⟨rfl, trivial⟩, ?_, rfl⟩
            show AV.bool _ = AV.bool _
            congr 1
            exact (fits_d (by first | (simp [setsOp, *]; done) | exact sets_pos ‹_›) (by simpa using ‹(!within t.d regs) = true›)).symm
           ·
            refine AGo.cond_false false rfl rfl ?_
            refine AGo.skip ?_
            exact ⟨t.d, Sub.mk' (by repeat (first | exact ESub.new _ | refine ESub.put ?_ (by rfl))) (by repeat (first | exact HSub.refl _ | exact HSub.none _ | exact HSub.from_new _ | exact HSub.from_from (by first | decide | omega | (dsimp only; omega)) | refine HSub.put ?_ (by rfl) | refine HSub.from_put ?_ (by first | decide | omega | (dsimp only; omega)) | refine HSub.from_rm ?_ (by decide))), ⟨by have h := ‹(!within t.d regs) = false›; simp at h; simp [h], by first | (simp [setsOp, *]; done) | simp [sets_pos ‹_›]⟩⟩
          ·
           refine AGo.cond_false false rfl rfl ?_
           refine AGo.skip ?_
           exact ⟨0, Sub.mk' (by repeat (first | exact ESub.new _ | refine ESub.put ?_ (by rfl))) (by repeat (first | exact HSub.refl _ | exact HSub.none _ | exact HSub.from_new _ | exact HSub.from_from (by first | decide | omega | (dsimp only; omega)) | refine HSub.put ?_ (by rfl) | refine HSub.from_put ?_ (by first | decide | omega | (dsimp only; omega)) | refine HSub.from_rm ?_ (by decide))), ⟨by simp [setsOp, *], by simp [setsOp, *]⟩⟩
   intro d ⟨hd, hdd⟩
   refine AGo.seq ?_
   refine AGo.region ?_
   refine al 64 tok ?_
   refine ax 65 (o_pure rfl Try.func52 (by kernel_rfl) rfl rfl rfl (uses_ok _)) ?_
   refine aa 10 ?_
   refine AOps.nil ?_
   refine AGo.seq ?_
   refine AGo.seq ?_
   refine AGo.region ?_
   refine aa 11 ?_
   refine AOps.nil ?_
   refine AGo.block ?_
   refine AGo.loopD (γ := Nat) 2 (fun j => ⟨166, (eput (eput (eput (eput (eput (eput (eput eNew 1 (.int .i64 f)) 2 (.int .i64 regs)) 3 (.int .i64 words)) 4 (.ptr 0 1 0 0)) 9 (.ptr 1 1 0 0)) 10 (intsAV t.uses)) 11 (.int .i64 (j : Int))), (hput (hput (hFrom 2) 0 (.row false 8 [t.cells])) 1 (.row false 8 [[.int .i64 t.op, .int .i64 d, .int .i64 0, .int .i64 0, .int .i64 0, .int .i64 0, .int .i64 0, .int .u32 0]]))⟩) (fun j => (t.uses.take j).all (fun r => within r regs) = true) (fun j => t.uses.length - j) 0 (Sub.mk' (by repeat (first | exact ESub.new _ | refine ESub.put ?_ (by rfl))) (by repeat (first | exact HSub.refl _ | exact HSub.none _ | exact HSub.from_new _ | exact HSub.from_from (by first | decide | omega | (dsimp only; omega)) | refine HSub.put ?_ (by rfl) | refine HSub.from_put ?_ (by first | decide | omega | (dsimp only; omega)) | refine HSub.from_rm ?_ (by decide)))) rfl (fun _ => hput_free (hput_free (fun b hb => hFrom_free hb) rfl) rfl) ?_
   intro j hj
   refine AGo.seq ?_
   refine AGo.seq ?_
   refine AGo.region ?_
   refine am 66 ?_
   refine am 67 ?_
   refine aq 68 (q_len tok rfl rfl rfl rfl rfl) ?_
   refine aq 69 (q_bin rfl rfl rfl rfl) ?_
   refine AOps.nil ?_
   refine AGo.split 69 rfl (fun hb17 => ?_) (fun hb17 => ?_)
   ·
    refine AGo.cond_true true rfl rfl ?_
    have hjl : j < t.uses.length := lt_of_idx hb17
    obtain ⟨u, hu⟩ := get_of_lt hjl
    refine AGo.skip ?_
    refine AGo.seq ?_
    refine AGo.block ?_
    refine AGo.seq ?_
    refine AGo.region ?_
    refine am 72 ?_
    refine am 73 ?_
    refine aq 74 (q_index_lst tok rfl rfl rfl rfl rfl rfl (Int.natCast_nonneg _) (idx_map (by assumption)) rfl) ?_
    refine al 75 tok ?_
    refine am 76 ?_
    refine ax 77 (o_pure rfl Try.func50 (by kernel_rfl) rfl rfl rfl (within_ok _ _)) ?_
    refine aq 78 (q_not rfl rfl) ?_
    refine AOps.nil ?_
    refine AGo.split 78 rfl (fun hb18 => ?_) (fun hb18 => ?_)
    ·
     refine AGo.cond_true true rfl rfl ?_
     have hbw := hb18
     refine AGo.seq ?_
     refine AGo.region ?_
     refine aa 8 ?_
     refine AOps.nil ?_
     refine AGo.ret ?_
     refine ⟨[_], ⟨rfl, trivial⟩, ?_, rfl⟩
     show AV.bool _ = AV.bool _
     congr 1
     exact (fits_use (all_bad hu (by simpa using hbw))).symm
    ·
     refine AGo.cond_false false rfl rfl ?_
     have hbw := hb18
     refine AGo.skip ?_
     refine AGo.region ?_
     refine am 70 ?_
     refine aq 71 (q_inc rfl rfl hjl (Nat.le_trans (uses_len t) (by decide))) ?_
     refine aa 11 ?_
     refine AOps.nil ?_
     exact ⟨j+1, Drop.mk' (by repeat (first | exact EDrop.new _ _ | refine EDrop.put ?_ (by rfl) (by first | rfl | exact slA_avoid _ rfl | exact vaA_avoid _ rfl))) (by repeat (first | exact HDrop.none _ _ | exact HDrop.tail _ _ | refine HDrop.put ?_ (by rfl) rfl (by first | rfl | exact slO_avoid _ _ | exact vaO_avoid _ | exact tab_avoid _ _ rfl rfl | exact wlk_avoid _ _ _ rfl rfl rfl))), all_succ hu hj (by simpa using hbw), by omega⟩
   ·
    refine AGo.cond_false false rfl rfl ?_
    have hall := all_end hj (ge_of_idx hb17)
    refine AGo.exit ?_
    refine AGo.seq ?_
    refine AGo.join (γ := Int) (fun a => ⟨166, (eput (eput (eput (eput (eput (eput eNew 1 (.int .i64 f)) 2 (.int .i64 regs)) 3 (.int .i64 words)) 4 (.ptr 0 1 0 0)) 9 (.ptr 1 1 0 0)) 10 (intsAV t.uses)), (hput (hput (hFrom 2) 0 (.row false 8 [t.cells])) 1 (.row false 8 [[.int .i64 t.op, .int .i64 d, .int .i64 a, .int .i64 0, .int .i64 0, .int .i64 0, .int .i64 0, .int .u32 0]]))⟩) (fun a => a = bif use1 t.op || use2 t.op then t.a else 0) ?_ ?_
    ·
     refine AGo.seq ?_
     refine AGo.region ?_
     refine am 79 ?_
     refine aq 80 (q_len tok rfl rfl rfl rfl rfl) ?_
     refine aq 81 (q_bin rfl rfl rfl rfl) ?_
     refine AOps.nil ?_
     refine AGo.split 81 rfl (fun hb19 => ?_) (fun hb19 => ?_)
     ·
      refine AGo.cond_true true rfl rfl ?_
      refine AGo.region ?_
      refine af 82 tok ?_
      refine al 83 tok ?_
      refine af 84 tok ?_
      refine AOps.w rfl rfl (o_store tok rfl rfl rfl rfl rfl rfl rfl rfl rfl (by decide) rfl (by first | exact fun _ => rfl | (intro h; cases h))) ?_
      refine AOps.nil ?_
      exact ⟨t.a, Sub.mk' (by repeat (first | exact ESub.new _ | refine ESub.put ?_ (by rfl))) (by repeat (first | exact HSub.refl _ | exact HSub.none _ | exact HSub.from_new _ | exact HSub.from_from (by first | decide | omega | (dsimp only; omega)) | refine HSub.put ?_ (by rfl) | refine HSub.from_put ?_ (by first | decide | omega | (dsimp only; omega)) | refine HSub.from_rm ?_ (by decide))), by have h3 := use12 t.op; cases h1 : use1 t.op <;> cases h2 : use2 t.op <;> simp_all [Tac.uses]⟩
     ·
      refine AGo.cond_false false rfl rfl ?_
      refine AGo.skip ?_
      exact ⟨0, Sub.mk' (by repeat (first | exact ESub.new _ | refine ESub.put ?_ (by rfl))) (by repeat (first | exact HSub.refl _ | exact HSub.none _ | exact HSub.from_new _ | exact HSub.from_from (by first | decide | omega | (dsimp only; omega)) | refine HSub.put ?_ (by rfl) | refine HSub.from_put ?_ (by first | decide | omega | (dsimp only; omega)) | refine HSub.from_rm ?_ (by decide))), by have h3 := use12 t.op; cases h1 : use1 t.op <;> cases h2 : use2 t.op <;> simp_all [Tac.uses]⟩
    intro a haa
    refine AGo.seq ?_
    refine AGo.join (γ := Int) (fun b => ⟨166, (eput (eput (eput (eput (eput eNew 1 (.int .i64 f)) 2 (.int .i64 regs)) 3 (.int .i64 words)) 4 (.ptr 0 1 0 0)) 9 (.ptr 1 1 0 0)), (hput (hput (hFrom 2) 0 (.row false 8 [t.cells])) 1 (.row false 8 [[.int .i64 t.op, .int .i64 d, .int .i64 a, .int .i64 b, .int .i64 0, .int .i64 0, .int .i64 0, .int .u32 0]]))⟩) (fun b => b = bif use2 t.op then t.b else 0) ?_ ?_
    ·
     refine AGo.seq ?_
     refine AGo.region ?_
     refine am 85 ?_
     refine aq 86 (q_len tok rfl rfl rfl rfl rfl) ?_
     refine aq 87 (q_bin rfl rfl rfl rfl) ?_
     refine AOps.nil ?_
     refine AGo.split 87 rfl (fun hb20 => ?_) (fun hb20 => ?_)
     ·
      refine AGo.cond_true true rfl rfl ?_
      refine AGo.region ?_
      refine af 88 tok ?_
      refine al 89 tok ?_
      refine af 90 tok ?_
      refine AOps.w rfl rfl (o_store tok rfl rfl rfl rfl rfl rfl rfl rfl rfl (by decide) rfl (by first | exact fun _ => rfl | (intro h; cases h))) ?_
      refine AOps.nil ?_
      exact ⟨t.b, Sub.mk' (by repeat (first | exact ESub.new _ | refine ESub.put ?_ (by rfl))) (by repeat (first | exact HSub.refl _ | exact HSub.none _ | exact HSub.from_new _ | exact HSub.from_from (by first | decide | omega | (dsimp only; omega)) | refine HSub.put ?_ (by rfl) | refine HSub.from_put ?_ (by first | decide | omega | (dsimp only; omega)) | refine HSub.from_rm ?_ (by decide))), by have h3 := use12 t.op; cases h1 : use1 t.op <;> cases h2 : use2 t.op <;> simp_all [Tac.uses]⟩
     ·
      refine AGo.cond_false false rfl rfl ?_
      refine AGo.skip ?_
      exact ⟨0, Sub.mk' (by repeat (first | exact ESub.new _ | refine ESub.put ?_ (by rfl))) (by repeat (first | exact HSub.refl _ | exact HSub.none _ | exact HSub.from_new _ | exact HSub.from_from (by first | decide | omega | (dsimp only; omega)) | refine HSub.put ?_ (by rfl) | refine HSub.from_put ?_ (by first | decide | omega | (dsimp only; omega)) | refine HSub.from_rm ?_ (by decide))), by have h3 := use12 t.op; cases h1 : use1 t.op <;> cases h2 : use2 t.op <;> simp_all [Tac.uses]⟩
    intro b hbb
    refine AGo.seq ?_
    refine AGo.seq ?_
    refine AGo.region ?_
    refine af 91 tok ?_
    refine al 92 tok ?_
    refine AOps.nil ?_
    refine AGo.block ?_
    refine AGo.seq ?_
    refine AGo.region ?_
    refine aq 94 (q_bin rfl rfl rfl rfl) ?_
    refine aa 93 ?_
    refine AOps.nil ?_
    refine AGo.split 93 rfl (fun hb21 => ?_) (fun hb21 => ?_)
    ·
     refine AGo.cond_true true rfl rfl ?_
     refine AGo.region ?_
     refine af 95 tok ?_
     refine al 96 tok ?_
     refine af 97 tok ?_
     refine AOps.w rfl rfl (o_store tok rfl rfl rfl rfl rfl rfl rfl rfl rfl (by decide) rfl (by first | exact fun _ => rfl | (intro h; cases h))) ?_
     refine AOps.nil ?_
     refine AGo.seq ?_
     refine AGo.region ?_
     refine al 163 tok ?_
     refine al 164 tok ?_
     refine aq 165 (q_eqStruct tok false rfl rfl rfl (by kernel_rfl) rfl rfl rfl rfl rfl) ?_
     refine aa 8 ?_
     refine AOps.nil ?_
     refine AGo.ret ?_
     refine ⟨[_], ⟨rfl, trivial⟩, ?_, rfl⟩
     show AV.bool _ = AV.bool _
     congr 1
     have hwr : 1 ≤ t.size → t.size ≤ 4096 → IntKind.i64.wrap (words - t.size) = words - t.size := fun h1 h2 => wrap_i64 (by omega) (by omega)
     rw [fits_same hb1 hb2 hd hall (by simp_all [Tac.rest, baseOp, arrOp] <;> omega)]
     subst hdd haa hbb
     clear hd hj hall hwr hw hw2 hb1 hb2
     first | (simp_all [Tac.same, Tac.want, baseOp, arrOp, setsOp, use1, use2]; done) | simp [Tac.same, Tac.want, baseOp, arrOp, *]
    ·
     refine AGo.cond_false false rfl rfl ?_
     refine AGo.seq ?_
     refine AGo.region ?_
     refine aq 99 (q_bin rfl rfl rfl rfl) ?_
     refine aa 98 ?_
     refine AOps.nil ?_
     refine AGo.split 98 rfl (fun hb22 => ?_) (fun hb22 => ?_)
     ·
      refine AGo.cond_true true rfl rfl ?_
      refine AGo.seq ?_
      refine AGo.region ?_
      refine af 100 tok ?_
      refine al 101 tok ?_
      refine af 102 tok ?_
      refine AOps.w rfl rfl (o_store tok rfl rfl rfl rfl rfl rfl rfl rfl rfl (by decide) rfl (by first | exact fun _ => rfl | (intro h; cases h))) ?_
      refine AOps.nil ?_
      refine AGo.seq ?_
      refine AGo.region ?_
      refine af 103 tok ?_
      refine al 104 tok ?_
      refine aq 105 (q_bin rfl rfl rfl rfl) ?_
      refine am 106 ?_
      refine AOps.split 106 rfl (fun hb23 => ?_) (fun hb23 => ?_)
      ·
       refine ak 107 ?_
       refine ak 108 ?_
       refine ak 109 ?_
       refine aq 110 (q_pick_true true rfl rfl rfl rfl) ?_
       refine AOps.nil ?_
       refine AGo.cond_true true rfl rfl ?_
       refine AGo.seq ?_
       refine AGo.region ?_
       refine aa 8 ?_
       refine AOps.nil ?_
       refine AGo.ret ?_
       refine ⟨[_], ⟨rfl, trivial⟩, ?_, rfl⟩
       show AV.bool _ = AV.bool _
       congr 1
       exact (fits_rest (by simp_all [Tac.rest, baseOp, arrOp] <;> omega)).symm
      ·
       refine af 107 tok ?_
       refine al 108 tok ?_
       refine aq 109 (q_bin rfl rfl rfl rfl) ?_
       refine aq 110 (q_pick_false false rfl rfl rfl rfl) ?_
       refine AOps.nil ?_
       refine AGo.split 110 rfl (fun hb24 => ?_) (fun hb24 => ?_)
       ·
        refine AGo.cond_true true rfl rfl ?_
        refine AGo.seq ?_
        refine AGo.region ?_
        refine aa 8 ?_
        refine AOps.nil ?_
        refine AGo.ret ?_
        refine ⟨[_], ⟨rfl, trivial⟩, ?_, rfl⟩
        show AV.bool _ = AV.bool _
        congr 1
        exact (fits_rest (by simp_all [Tac.rest, baseOp, arrOp] <;> omega)).symm
       ·
        refine AGo.cond_false false rfl rfl ?_
        refine AGo.skip ?_
        refine AGo.seq ?_
        refine AGo.region ?_
        refine al 163 tok ?_
        refine al 164 tok ?_
        refine aq 165 (q_eqStruct tok false rfl rfl rfl (by kernel_rfl) rfl rfl rfl rfl rfl) ?_
        refine aa 8 ?_
        refine AOps.nil ?_
        refine AGo.ret ?_
        refine ⟨[_], ⟨rfl, trivial⟩, ?_, rfl⟩
        show AV.bool _ = AV.bool _
        congr 1
        have hwr : 1 ≤ t.size → t.size ≤ 4096 → IntKind.i64.wrap (words - t.size) = words - t.size := fun h1 h2 => wrap_i64 (by omega) (by omega)
        rw [fits_same hb1 hb2 hd hall (by simp_all [Tac.rest, baseOp, arrOp] <;> omega)]
        subst hdd haa hbb
        clear hd hj hall hwr hw hw2 hb1 hb2
        first | (simp_all [Tac.same, Tac.want, baseOp, arrOp, setsOp, use1, use2]; done) | simp [Tac.same, Tac.want, baseOp, arrOp, *]
     ·
      refine AGo.cond_false false rfl rfl ?_
      refine AGo.seq ?_
      refine AGo.seq ?_
      refine AGo.region ?_
      refine aq 112 (q_bin rfl rfl rfl rfl) ?_
      refine aa 111 ?_
      refine AOps.nil ?_
      refine AGo.split 111 rfl (fun hb25 => ?_) (fun hb25 => ?_)
      ·
       refine AGo.cond_true true rfl rfl ?_
       refine AGo.skip ?_
       refine AGo.cond_true true rfl rfl ?_
       refine AGo.seq ?_
       refine AGo.region ?_
       refine af 114 tok ?_
       refine al 115 tok ?_
       refine af 116 tok ?_
       refine AOps.w rfl rfl (o_store tok rfl rfl rfl rfl rfl rfl rfl rfl rfl (by decide) rfl (by first | exact fun _ => rfl | (intro h; cases h))) ?_
       refine AOps.nil ?_
       refine AGo.seq ?_
       refine AGo.region ?_
       refine af 117 tok ?_
       refine al 118 tok ?_
       refine am 119 ?_
       refine ax 120 (o_pure rfl Try.func50 (by kernel_rfl) rfl rfl rfl (within_ok _ _)) ?_
       refine aq 121 (q_not rfl rfl) ?_
       refine AOps.nil ?_
       refine AGo.split 121 rfl (fun hb26 => ?_) (fun hb26 => ?_)
       ·
        refine AGo.cond_true true rfl rfl ?_
        refine AGo.seq ?_
        refine AGo.region ?_
        refine aa 8 ?_
        refine AOps.nil ?_
        refine AGo.ret ?_
        refine ⟨[_], ⟨rfl, trivial⟩, ?_, rfl⟩
        show AV.bool _ = AV.bool _
        congr 1
        exact (fits_rest (by simp_all [Tac.rest, baseOp, arrOp] <;> omega)).symm
       ·
        refine AGo.cond_false false rfl rfl ?_
        refine AGo.skip ?_
        refine AGo.seq ?_
        refine AGo.region ?_
        refine al 163 tok ?_
        refine al 164 tok ?_
        refine aq 165 (q_eqStruct tok false rfl rfl rfl (by kernel_rfl) rfl rfl rfl rfl rfl) ?_
        refine aa 8 ?_
        refine AOps.nil ?_
        refine AGo.ret ?_
        refine ⟨[_], ⟨rfl, trivial⟩, ?_, rfl⟩
        show AV.bool _ = AV.bool _
        congr 1
        have hwr : 1 ≤ t.size → t.size ≤ 4096 → IntKind.i64.wrap (words - t.size) = words - t.size := fun h1 h2 => wrap_i64 (by omega) (by omega)
        rw [fits_same hb1 hb2 hd hall (by simp_all [Tac.rest, baseOp, arrOp] <;> omega)]
        subst hdd haa hbb
        clear hd hj hall hwr hw hw2 hb1 hb2
        first | (simp_all [Tac.same, Tac.want, baseOp, arrOp, setsOp, use1, use2]; done) | simp [Tac.same, Tac.want, baseOp, arrOp, *]
      ·
       refine AGo.cond_false false rfl rfl ?_
       refine AGo.region ?_
       refine aq 113 (q_bin rfl rfl rfl rfl) ?_
       refine aa 111 ?_
       refine AOps.nil ?_
       refine AGo.split 111 rfl (fun hb27 => ?_) (fun hb27 => ?_)
       ·
        refine AGo.cond_true true rfl rfl ?_
        refine AGo.seq ?_
        refine AGo.region ?_
        refine af 114 tok ?_
        refine al 115 tok ?_
        refine af 116 tok ?_
        refine AOps.w rfl rfl (o_store tok rfl rfl rfl rfl rfl rfl rfl rfl rfl (by decide) rfl (by first | exact fun _ => rfl | (intro h; cases h))) ?_
        refine AOps.nil ?_
        refine AGo.seq ?_
        refine AGo.region ?_
        refine af 117 tok ?_
        refine al 118 tok ?_
        refine am 119 ?_
        refine ax 120 (o_pure rfl Try.func50 (by kernel_rfl) rfl rfl rfl (within_ok _ _)) ?_
        refine aq 121 (q_not rfl rfl) ?_
        refine AOps.nil ?_
        refine AGo.split 121 rfl (fun hb28 => ?_) (fun hb28 => ?_)
        ·
         refine AGo.cond_true true rfl rfl ?_
         refine AGo.seq ?_
         refine AGo.region ?_
         refine aa 8 ?_
         refine AOps.nil ?_
         refine AGo.ret ?_
         refine ⟨[_], ⟨rfl, trivial⟩, ?_, rfl⟩
         show AV.bool _ = AV.bool _
         congr 1
         exact (fits_rest (by simp_all [Tac.rest, baseOp, arrOp] <;> omega)).symm
        ·
         refine AGo.cond_false false rfl rfl ?_
         refine AGo.skip ?_
         refine AGo.seq ?_
         refine AGo.region ?_
         refine al 163 tok ?_
         refine al 164 tok ?_
         refine aq 165 (q_eqStruct tok false rfl rfl rfl (by kernel_rfl) rfl rfl rfl rfl rfl) ?_
         refine aa 8 ?_
         refine AOps.nil ?_
         refine AGo.ret ?_
         refine ⟨[_], ⟨rfl, trivial⟩, ?_, rfl⟩
         show AV.bool _ = AV.bool _
         congr 1
         have hwr : 1 ≤ t.size → t.size ≤ 4096 → IntKind.i64.wrap (words - t.size) = words - t.size := fun h1 h2 => wrap_i64 (by omega) (by omega)
         rw [fits_same hb1 hb2 hd hall (by simp_all [Tac.rest, baseOp, arrOp] <;> omega)]
         subst hdd haa hbb
         clear hd hj hall hwr hw hw2 hb1 hb2
         first | (simp_all [Tac.same, Tac.want, baseOp, arrOp, setsOp, use1, use2]; done) | simp [Tac.same, Tac.want, baseOp, arrOp, *]
       ·
        refine AGo.cond_false false rfl rfl ?_
        refine AGo.seq ?_
        refine AGo.seq ?_
        refine AGo.region ?_
        refine aq 123 (q_bin rfl rfl rfl rfl) ?_
        refine aa 122 ?_
        refine AOps.nil ?_
        refine AGo.split 122 rfl (fun hb29 => ?_) (fun hb29 => ?_)
        ·
         refine AGo.cond_true true rfl rfl ?_
         refine AGo.skip ?_
         refine AGo.cond_true true rfl rfl ?_
         refine AGo.seq ?_
         refine AGo.draw mix ?_
         refine df 125 tok ?_
         refine dl 126 tok ?_
         refine df 127 tok ?_
         refine dl 128 tok ?_
         refine df 129 tok ?_
         refine DOps.w rfl rfl (o_store tok rfl rfl rfl rfl rfl rfl rfl rfl rfl (by decide) rfl (by first | exact fun _ => rfl | (intro h; cases h))) ?_
         refine df 130 tok ?_
         refine DOps.w rfl rfl (o_store tok rfl rfl rfl rfl rfl rfl rfl rfl rfl (by decide) rfl (by first | exact fun _ => rfl | (intro h; cases h))) ?_
         refine DOps.nil (by kernel_rfl) ?_
         refine AGo.seq ?_
         refine AGo.region ?_
         refine af 131 tok ?_
         refine al 132 tok ?_
         refine aq 133 (q_bin rfl rfl rfl rfl) ?_
         refine am 134 ?_
         refine AOps.split 134 rfl (fun hb30 => ?_) (fun hb30 => ?_)
         ·
          refine ak 135 ?_
          refine ak 136 ?_
          refine ak 137 ?_
          refine aq 138 (q_pick_true true rfl rfl rfl rfl) ?_
          refine am 139 ?_
          refine ak 140 ?_
          refine ak 141 ?_
          refine ak 142 ?_
          refine aq 143 (q_pick_true true rfl rfl rfl rfl) ?_
          refine am 144 ?_
          refine ak 145 ?_
          refine ak 146 ?_
          refine ak 147 ?_
          refine ak 148 ?_
          refine ak 149 ?_
          refine ak 150 ?_
          refine ak 151 ?_
          refine aq 152 (q_pick_true true rfl rfl rfl rfl) ?_
          refine AOps.nil ?_
          refine AGo.cond_true true rfl rfl ?_
          refine AGo.seq ?_
          refine AGo.region ?_
          refine aa 8 ?_
          refine AOps.nil ?_
          refine AGo.ret ?_
          refine ⟨[_], ⟨rfl, trivial⟩, ?_, rfl⟩
          show AV.bool _ = AV.bool _
          congr 1
          have hwr : 1 ≤ t.size → t.size ≤ 4096 → IntKind.i64.wrap (words - t.size) = words - t.size := fun h1 h2 => wrap_i64 (by omega) (by omega)
          exact (fits_rest (by simp_all [Tac.rest, baseOp, arrOp] <;> omega)).symm
         ·
          refine af 135 tok ?_
          refine al 136 tok ?_
          refine aq 137 (q_bin rfl rfl rfl rfl) ?_
          refine aq 138 (q_pick_false false rfl rfl rfl rfl) ?_
          refine am 139 ?_
          refine AOps.split 139 rfl (fun hb31 => ?_) (fun hb31 => ?_)
          ·
           refine ak 140 ?_
           refine ak 141 ?_
           refine ak 142 ?_
           refine aq 143 (q_pick_true true rfl rfl rfl rfl) ?_
           refine am 144 ?_
           refine ak 145 ?_
           refine ak 146 ?_
           refine ak 147 ?_
           refine ak 148 ?_
           refine ak 149 ?_
           refine ak 150 ?_
           refine ak 151 ?_
           refine aq 152 (q_pick_true true rfl rfl rfl rfl) ?_
           refine AOps.nil ?_
           refine AGo.cond_true true rfl rfl ?_
           refine AGo.seq ?_
           refine AGo.region ?_
           refine aa 8 ?_
           refine AOps.nil ?_
           refine AGo.ret ?_
           refine ⟨[_], ⟨rfl, trivial⟩, ?_, rfl⟩
           show AV.bool _ = AV.bool _
           congr 1
           have hwr : 1 ≤ t.size → t.size ≤ 4096 → IntKind.i64.wrap (words - t.size) = words - t.size := fun h1 h2 => wrap_i64 (by omega) (by omega)
           exact (fits_rest (by simp_all [Tac.rest, baseOp, arrOp] <;> omega)).symm
          ·
           refine af 140 tok ?_
           refine al 141 tok ?_
           refine aq 142 (q_bin rfl rfl rfl rfl) ?_
           refine aq 143 (q_pick_false false rfl rfl rfl rfl) ?_
           refine am 144 ?_
           refine AOps.split 144 rfl (fun hb32 => ?_) (fun hb32 => ?_)
           ·
            refine ak 145 ?_
            refine ak 146 ?_
            refine ak 147 ?_
            refine ak 148 ?_
            refine ak 149 ?_
            refine ak 150 ?_
            refine ak 151 ?_
            refine aq 152 (q_pick_true true rfl rfl rfl rfl) ?_
            refine AOps.nil ?_
            refine AGo.cond_true true rfl rfl ?_
            refine AGo.seq ?_
            refine AGo.region ?_
            refine aa 8 ?_
            refine AOps.nil ?_
            refine AGo.ret ?_
            refine ⟨[_], ⟨rfl, trivial⟩, ?_, rfl⟩
            show AV.bool _ = AV.bool _
            congr 1
            have hwr : 1 ≤ t.size → t.size ≤ 4096 → IntKind.i64.wrap (words - t.size) = words - t.size := fun h1 h2 => wrap_i64 (by omega) (by omega)
            exact (fits_rest (by simp_all [Tac.rest, baseOp, arrOp] <;> omega)).symm
           ·
            refine af 145 tok ?_
            refine al 146 tok ?_
            refine am 147 ?_
            refine af 148 tok ?_
            refine al 149 tok ?_
            refine aq 150 (q_bin rfl rfl rfl rfl) ?_
            refine aq 151 (q_bin rfl rfl rfl rfl) ?_
            refine aq 152 (q_pick_false false rfl rfl rfl rfl) ?_
            refine AOps.nil ?_
            refine AGo.split 152 rfl (fun hb33 => ?_) (fun hb33 => ?_)
            ·
             refine AGo.cond_true true rfl rfl ?_
             refine AGo.seq ?_
             refine AGo.region ?_
             refine aa 8 ?_
             refine AOps.nil ?_
             refine AGo.ret ?_
             refine ⟨[_], ⟨rfl, trivial⟩, ?_, rfl⟩
             show AV.bool _ = AV.bool _
             congr 1
             have hwr : 1 ≤ t.size → t.size ≤ 4096 → IntKind.i64.wrap (words - t.size) = words - t.size := fun h1 h2 => wrap_i64 (by omega) (by omega)
             exact (fits_rest (by simp_all [Tac.rest, baseOp, arrOp] <;> omega)).symm
            ·
             refine AGo.cond_false false rfl rfl ?_
             refine AGo.skip ?_
             refine AGo.seq ?_
             refine AGo.region ?_
             refine al 163 tok ?_
             refine al 164 tok ?_
             refine aq 165 (q_eqStruct tok false rfl rfl rfl (by kernel_rfl) rfl rfl rfl rfl rfl) ?_
             refine aa 8 ?_
             refine AOps.nil ?_
             refine AGo.ret ?_
             refine ⟨[_], ⟨rfl, trivial⟩, ?_, rfl⟩
             show AV.bool _ = AV.bool _
             congr 1
             have hwr : 1 ≤ t.size → t.size ≤ 4096 → IntKind.i64.wrap (words - t.size) = words - t.size := fun h1 h2 => wrap_i64 (by omega) (by omega)
             rw [fits_same hb1 hb2 hd hall (by simp_all [Tac.rest, baseOp, arrOp] <;> omega)]
             subst hdd haa hbb
             clear hd hj hall hwr hw hw2 hb1 hb2
             first | (simp_all [Tac.same, Tac.want, baseOp, arrOp, setsOp, use1, use2]; done) | simp [Tac.same, Tac.want, baseOp, arrOp, *]
        ·
         refine AGo.cond_false false rfl rfl ?_
         refine AGo.region ?_
         refine aq 124 (q_bin rfl rfl rfl rfl) ?_
         refine aa 122 ?_
         refine AOps.nil ?_
         refine AGo.split 122 rfl (fun hb34 => ?_) (fun hb34 => ?_)
         ·
          refine AGo.cond_true true rfl rfl ?_
          refine AGo.seq ?_
          refine AGo.draw mix ?_
          refine df 125 tok ?_
          refine dl 126 tok ?_
          refine df 127 tok ?_
          refine dl 128 tok ?_
          refine df 129 tok ?_
          refine DOps.w rfl rfl (o_store tok rfl rfl rfl rfl rfl rfl rfl rfl rfl (by decide) rfl (by first | exact fun _ => rfl | (intro h; cases h))) ?_
          refine df 130 tok ?_
          refine DOps.w rfl rfl (o_store tok rfl rfl rfl rfl rfl rfl rfl rfl rfl (by decide) rfl (by first | exact fun _ => rfl | (intro h; cases h))) ?_
          refine DOps.nil (by kernel_rfl) ?_
          refine AGo.seq ?_
          refine AGo.region ?_
          refine af 131 tok ?_
          refine al 132 tok ?_
          refine aq 133 (q_bin rfl rfl rfl rfl) ?_
          refine am 134 ?_
          refine AOps.split 134 rfl (fun hb35 => ?_) (fun hb35 => ?_)
          ·
           refine ak 135 ?_
           refine ak 136 ?_
           refine ak 137 ?_
           refine aq 138 (q_pick_true true rfl rfl rfl rfl) ?_
           refine am 139 ?_
           refine ak 140 ?_
           refine ak 141 ?_
           refine ak 142 ?_
           refine aq 143 (q_pick_true true rfl rfl rfl rfl) ?_
           refine am 144 ?_
           refine ak 145 ?_
           refine ak 146 ?_
           refine ak 147 ?_
           refine ak 148 ?_
           refine ak 149 ?_
           refine ak 150 ?_
           refine ak 151 ?_
           refine aq 152 (q_pick_true true rfl rfl rfl rfl) ?_
           refine AOps.nil ?_
           refine AGo.cond_true true rfl rfl ?_
           refine AGo.seq ?_
           refine AGo.region ?_
           refine aa 8 ?_
           refine AOps.nil ?_
           refine AGo.ret ?_
           refine ⟨[_], ⟨rfl, trivial⟩, ?_, rfl⟩
           show AV.bool _ = AV.bool _
           congr 1
           have hwr : 1 ≤ t.size → t.size ≤ 4096 → IntKind.i64.wrap (words - t.size) = words - t.size := fun h1 h2 => wrap_i64 (by omega) (by omega)
           exact (fits_rest (by simp_all [Tac.rest, baseOp, arrOp] <;> omega)).symm
          ·
           refine af 135 tok ?_
           refine al 136 tok ?_
           refine aq 137 (q_bin rfl rfl rfl rfl) ?_
           refine aq 138 (q_pick_false false rfl rfl rfl rfl) ?_
           refine am 139 ?_
           refine AOps.split 139 rfl (fun hb36 => ?_) (fun hb36 => ?_)
           ·
            refine ak 140 ?_
            refine ak 141 ?_
            refine ak 142 ?_
            refine aq 143 (q_pick_true true rfl rfl rfl rfl) ?_
            refine am 144 ?_
            refine ak 145 ?_
            refine ak 146 ?_
            refine ak 147 ?_
            refine ak 148 ?_
            refine ak 149 ?_
            refine ak 150 ?_
            refine ak 151 ?_
            refine aq 152 (q_pick_true true rfl rfl rfl rfl) ?_
            refine AOps.nil ?_
            refine AGo.cond_true true rfl rfl ?_
            refine AGo.seq ?_
            refine AGo.region ?_
            refine aa 8 ?_
            refine AOps.nil ?_
            refine AGo.ret ?_
            refine ⟨[_], ⟨rfl, trivial⟩, ?_, rfl⟩
            show AV.bool _ = AV.bool _
            congr 1
            have hwr : 1 ≤ t.size → t.size ≤ 4096 → IntKind.i64.wrap (words - t.size) = words - t.size := fun h1 h2 => wrap_i64 (by omega) (by omega)
            exact (fits_rest (by simp_all [Tac.rest, baseOp, arrOp] <;> omega)).symm
           ·
            refine af 140 tok ?_
            refine al 141 tok ?_
            refine aq 142 (q_bin rfl rfl rfl rfl) ?_
            refine aq 143 (q_pick_false false rfl rfl rfl rfl) ?_
            refine am 144 ?_
            refine AOps.split 144 rfl (fun hb37 => ?_) (fun hb37 => ?_)
            ·
             refine ak 145 ?_
             refine ak 146 ?_
             refine ak 147 ?_
             refine ak 148 ?_
             refine ak 149 ?_
             refine ak 150 ?_
             refine ak 151 ?_
             refine aq 152 (q_pick_true true rfl rfl rfl rfl) ?_
             refine AOps.nil ?_
             refine AGo.cond_true true rfl rfl ?_
             refine AGo.seq ?_
             refine AGo.region ?_
             refine aa 8 ?_
             refine AOps.nil ?_
             refine AGo.ret ?_
             refine ⟨[_], ⟨rfl, trivial⟩, ?_, rfl⟩
             show AV.bool _ = AV.bool _
             congr 1
             have hwr : 1 ≤ t.size → t.size ≤ 4096 → IntKind.i64.wrap (words - t.size) = words - t.size := fun h1 h2 => wrap_i64 (by omega) (by omega)
             exact (fits_rest (by simp_all [Tac.rest, baseOp, arrOp] <;> omega)).symm
            ·
             refine af 145 tok ?_
             refine al 146 tok ?_
             refine am 147 ?_
             refine af 148 tok ?_
             refine al 149 tok ?_
             refine aq 150 (q_bin rfl rfl rfl rfl) ?_
             refine aq 151 (q_bin rfl rfl rfl rfl) ?_
             refine aq 152 (q_pick_false false rfl rfl rfl rfl) ?_
             refine AOps.nil ?_
             refine AGo.split 152 rfl (fun hb38 => ?_) (fun hb38 => ?_)
             ·
              refine AGo.cond_true true rfl rfl ?_
              refine AGo.seq ?_
              refine AGo.region ?_
              refine aa 8 ?_
              refine AOps.nil ?_
              refine AGo.ret ?_
              refine ⟨[_], ⟨rfl, trivial⟩, ?_, rfl⟩
              show AV.bool _ = AV.bool _
              congr 1
              have hwr : 1 ≤ t.size → t.size ≤ 4096 → IntKind.i64.wrap (words - t.size) = words - t.size := fun h1 h2 => wrap_i64 (by omega) (by omega)
              exact (fits_rest (by simp_all [Tac.rest, baseOp, arrOp] <;> omega)).symm
             ·
              refine AGo.cond_false false rfl rfl ?_
              refine AGo.skip ?_
              refine AGo.seq ?_
              refine AGo.region ?_
              refine al 163 tok ?_
              refine al 164 tok ?_
              refine aq 165 (q_eqStruct tok false rfl rfl rfl (by kernel_rfl) rfl rfl rfl rfl rfl) ?_
              refine aa 8 ?_
              refine AOps.nil ?_
              refine AGo.ret ?_
              refine ⟨[_], ⟨rfl, trivial⟩, ?_, rfl⟩
              show AV.bool _ = AV.bool _
              congr 1
              have hwr : 1 ≤ t.size → t.size ≤ 4096 → IntKind.i64.wrap (words - t.size) = words - t.size := fun h1 h2 => wrap_i64 (by omega) (by omega)
              rw [fits_same hb1 hb2 hd hall (by simp_all [Tac.rest, baseOp, arrOp] <;> omega)]
              subst hdd haa hbb
              clear hd hj hall hwr hw hw2 hb1 hb2
              first | (simp_all [Tac.same, Tac.want, baseOp, arrOp, setsOp, use1, use2]; done) | simp [Tac.same, Tac.want, baseOp, arrOp, *]
         ·
          refine AGo.cond_false false rfl rfl ?_
          refine AGo.seq ?_
          refine AGo.region ?_
          refine aq 154 (q_bin rfl rfl rfl rfl) ?_
          refine aa 153 ?_
          refine AOps.nil ?_
          refine AGo.split 153 rfl (fun hb39 => ?_) (fun hb39 => ?_)
          ·
           refine AGo.cond_true true rfl rfl ?_
           refine AGo.seq ?_
           refine AGo.region ?_
           refine af 155 tok ?_
           refine al 156 tok ?_
           refine af 157 tok ?_
           refine AOps.w rfl rfl (o_store tok rfl rfl rfl rfl rfl rfl rfl rfl rfl (by decide) rfl (by first | exact fun _ => rfl | (intro h; cases h))) ?_
           refine AOps.nil ?_
           refine AGo.seq ?_
           refine AGo.region ?_
           refine af 158 tok ?_
           refine al 159 tok ?_
           refine am 160 ?_
           refine ax 161 (o_pure rfl Try.func50 (by kernel_rfl) rfl rfl rfl (within_ok _ _)) ?_
           refine aq 162 (q_not rfl rfl) ?_
           refine AOps.nil ?_
           refine AGo.split 162 rfl (fun hb40 => ?_) (fun hb40 => ?_)
           ·
            refine AGo.cond_true true rfl rfl ?_
            refine AGo.seq ?_
            refine AGo.region ?_
            refine aa 8 ?_
            refine AOps.nil ?_
            refine AGo.ret ?_
            refine ⟨[_], ⟨rfl, trivial⟩, ?_, rfl⟩
            show AV.bool _ = AV.bool _
            congr 1
            exact (fits_rest (by simp_all [Tac.rest, baseOp, arrOp] <;> omega)).symm
           ·
            refine AGo.cond_false false rfl rfl ?_
            refine AGo.skip ?_
            refine AGo.seq ?_
            refine AGo.region ?_
            refine al 163 tok ?_
            refine al 164 tok ?_
            refine aq 165 (q_eqStruct tok false rfl rfl rfl (by kernel_rfl) rfl rfl rfl rfl rfl) ?_
            refine aa 8 ?_
            refine AOps.nil ?_
            refine AGo.ret ?_
            refine ⟨[_], ⟨rfl, trivial⟩, ?_, rfl⟩
            show AV.bool _ = AV.bool _
            congr 1
            have hwr : 1 ≤ t.size → t.size ≤ 4096 → IntKind.i64.wrap (words - t.size) = words - t.size := fun h1 h2 => wrap_i64 (by omega) (by omega)
            rw [fits_same hb1 hb2 hd hall (by simp_all [Tac.rest, baseOp, arrOp] <;> omega)]
            subst hdd haa hbb
            clear hd hj hall hwr hw hw2 hb1 hb2
            first | (simp_all [Tac.same, Tac.want, baseOp, arrOp, setsOp, use1, use2]; done) | simp [Tac.same, Tac.want, baseOp, arrOp, *]
          ·
           refine AGo.cond_false false rfl rfl ?_
           refine AGo.skip ?_
           refine AGo.seq ?_
           refine AGo.region ?_
           refine al 163 tok ?_
           refine al 164 tok ?_
           refine aq 165 (q_eqStruct tok false rfl rfl rfl (by kernel_rfl) rfl rfl rfl rfl rfl) ?_
           refine aa 8 ?_
           refine AOps.nil ?_
           refine AGo.ret ?_
           refine ⟨[_], ⟨rfl, trivial⟩, ?_, rfl⟩
           show AV.bool _ = AV.bool _
           congr 1
           have hwr : 1 ≤ t.size → t.size ≤ 4096 → IntKind.i64.wrap (words - t.size) = words - t.size := fun h1 h2 => wrap_i64 (by omega) (by omega)
           rw [fits_same hb1 hb2 hd hall (by simp_all [Tac.rest, baseOp, arrOp] <;> omega)]
           subst hdd haa hbb
           clear hd hj hall hwr hw hw2 hb1 hb2
           first | (simp_all [Tac.same, Tac.want, baseOp, arrOp, setsOp, use1, use2]; done) | simp [Tac.same, Tac.want, baseOp, arrOp, *]

set_option maxRecDepth 100000 in
theorem one_ok (f : BFunc) (number words : Int) (hw : 0 ≤ words) (hw2 : words ≤ 1048576) : APure Try.prog 32 [.agg f.cells, .int .i64 number, .int .i64 words] (fun r => r = .bool (f.one number words)) := by
 refine APure.of_body (n := 68) tok Try.func32 rfl rfl ?_
 refine AGo.seq ?_
 refine AGo.slot 0 rfl (fun H ι v => rel_bfunc) (fun hfit => ?_)
 refine AGo.region ?_
 refine ax 3 (o_box (sz := 2) 0 rfl rfl rfl rfl (Nat.zero_lt_succ _) rfl) ?_
 refine aa 6 ?_
 refine AOps.nil ?_
 refine AGo.seq ?_
 refine AGo.seq ?_
 refine AGo.region ?_
 refine af 9 tok ?_
 refine al 10 tok ?_
 refine aq 11 (q_bin rfl rfl rfl rfl) ?_
 refine am 12 ?_
 refine AOps.split 12 rfl (fun hb1 => ?_) (fun hb1 => ?_)
 ·
  refine ak 13 ?_
  refine ak 14 ?_
  refine ak 15 ?_
  refine aq 16 (q_pick_true true rfl rfl rfl rfl) ?_
  refine am 17 ?_
  refine ak 18 ?_
  refine ak 19 ?_
  refine ak 20 ?_
  refine ak 21 ?_
  refine aq 22 (q_pick_true true rfl rfl rfl rfl) ?_
  refine AOps.nil ?_
  refine AGo.cond_true true rfl rfl ?_
  refine AGo.seq ?_
  refine AGo.region ?_
  refine aa 6 ?_
  refine AOps.nil ?_
  refine AGo.ret ?_
  refine ⟨[_], ⟨rfl, trivial⟩, ?_, rfl⟩
  show AV.bool _ = AV.bool _
  congr 1
  exact (one_bad (by simp_all <;> omega)).symm
 ·
  refine af 13 tok ?_
  refine al 14 tok ?_
  refine aq 15 (q_bin rfl rfl rfl rfl) ?_
  refine aq 16 (q_pick_false false rfl rfl rfl rfl) ?_
  refine am 17 ?_
  refine AOps.split 17 rfl (fun hb2 => ?_) (fun hb2 => ?_)
  ·
   refine ak 18 ?_
   refine ak 19 ?_
   refine ak 20 ?_
   refine ak 21 ?_
   refine aq 22 (q_pick_true true rfl rfl rfl rfl) ?_
   refine AOps.nil ?_
   refine AGo.cond_true true rfl rfl ?_
   refine AGo.seq ?_
   refine AGo.region ?_
   refine aa 6 ?_
   refine AOps.nil ?_
   refine AGo.ret ?_
   refine ⟨[_], ⟨rfl, trivial⟩, ?_, rfl⟩
   show AV.bool _ = AV.bool _
   congr 1
   exact (one_bad (by simp_all <;> omega)).symm
  ·
   refine af 18 tok ?_
   refine al 19 tok ?_
   refine aq 20 (q_len tok rfl rfl rfl rfl rfl) ?_
   refine aq 21 (q_bin rfl rfl rfl rfl) ?_
   refine aq 22 (q_pick_false false rfl rfl rfl rfl) ?_
   refine AOps.nil ?_
   refine AGo.split 22 rfl (fun hb3 => ?_) (fun hb3 => ?_)
   ·
    refine AGo.cond_true true rfl rfl ?_
    refine AGo.seq ?_
    refine AGo.region ?_
    refine aa 6 ?_
    refine AOps.nil ?_
    refine AGo.ret ?_
    refine ⟨[_], ⟨rfl, trivial⟩, ?_, rfl⟩
    show AV.bool _ = AV.bool _
    congr 1
    exact (one_bad (by simp_all <;> omega)).symm
   ·
    refine AGo.cond_false false rfl rfl ?_
    have h0 : 0 ≤ f.regs ∧ f.regs ≤ 4000 ∧ f.blocks.length ≠ 0 := by simp_all <;> omega
    refine AGo.skip ?_
    refine AGo.seq ?_
    refine AGo.seq ?_
    refine AGo.region ?_
    refine aa 7 ?_
    refine AOps.nil ?_
    refine AGo.block ?_
    refine AGo.loopD (γ := Nat) 1 (fun k => ⟨68, (eput (eput (eput (eput eNew 1 (.int .i64 number)) 2 (.int .i64 words)) 3 (.ptr 0 1 0 0)) 7 (.int .i64 (k : Int))), (hput (hFrom 1) 0 (.row false 2 [f.cells]))⟩) (fun k => (f.blocks.take k).all (fun x => x.ok f.blocks.length f.regs number words) = true) (fun k => f.blocks.length - k) 0 (Sub.mk' (by repeat (first | exact ESub.new _ | refine ESub.put ?_ (by rfl))) (by repeat (first | exact HSub.refl _ | exact HSub.none _ | exact HSub.from_new _ | exact HSub.from_from (by first | decide | omega | (dsimp only; omega)) | refine HSub.put ?_ (by rfl) | refine HSub.from_put ?_ (by first | decide | omega | (dsimp only; omega)) | refine HSub.from_rm ?_ (by decide)))) rfl (fun _ => hput_free (fun b hb => hFrom_free hb) rfl) ?_
    intro k hk
    refine AGo.seq ?_
    refine AGo.seq ?_
    refine AGo.region ?_
    refine am 23 ?_
    refine af 24 tok ?_
    refine al 25 tok ?_
    refine aq 26 (q_len tok rfl rfl rfl rfl rfl) ?_
    refine aq 27 (q_bin rfl rfl rfl rfl) ?_
    refine AOps.nil ?_
    refine AGo.split 27 rfl (fun hb4 => ?_) (fun hb4 => ?_)
    ·
     refine AGo.cond_true true rfl rfl ?_
     have hkl : k < f.blocks.length := lt_of_idx hb4
     obtain ⟨x, hx⟩ := get_of_lt hkl
     refine AGo.skip ?_
     refine AGo.seq ?_
     refine AGo.block ?_
     refine AGo.seq ?_
     refine AGo.seq ?_
     refine AGo.draw mix ?_
     refine df 30 tok ?_
     refine dl 31 tok ?_
     refine dm 32 ?_
     refine dq 33 (q_index_lst tok rfl rfl rfl rfl rfl rfl (Int.natCast_nonneg _) (idx_map (by assumption)) rfl) ?_
     refine dl 34 tok ?_
     refine df 35 tok ?_
     refine dl 36 tok ?_
     refine dq 37 (q_len tok rfl rfl rfl rfl rfl) ?_
     refine df 38 tok ?_
     refine dl 39 tok ?_
     refine dx 40 (o_pure rfl Try.func40 (by kernel_rfl) rfl rfl rfl (ends_ok x _ _)) ?_
     refine dq 41 (q_not rfl rfl) ?_
     refine DOps.nil (by kernel_rfl) ?_
     refine AGo.split 41 rfl (fun hb5 => ?_) (fun hb5 => ?_)
     ·
      refine AGo.cond_true true rfl rfl ?_
      have hends : x.ends f.blocks.length f.regs = false := by simpa using hb5
      refine AGo.seq ?_
      refine AGo.region ?_
      refine aa 6 ?_
      refine AOps.nil ?_
      refine AGo.ret ?_
      refine ⟨[_], ⟨rfl, trivial⟩, ?_, rfl⟩
      show AV.bool _ = AV.bool _
      congr 1
      rw [one_all h0.1 h0.2.1 h0.2.2, all_bad hx (by simp [Block.ok, hends])]
     ·
      refine AGo.cond_false false rfl rfl ?_
      have hends : x.ends f.blocks.length f.regs = true := by simpa using hb5
      refine AGo.skip ?_
      refine AGo.seq ?_
      refine AGo.region ?_
      refine aa 8 ?_
      refine AOps.nil ?_
      refine AGo.block ?_
      refine AGo.loopD (γ := Nat) 1 (fun j => ⟨68, (eput (eput (eput (eput (eput eNew 1 (.int .i64 number)) 2 (.int .i64 words)) 3 (.ptr 0 1 0 0)) 7 (.int .i64 (k : Int))) 8 (.int .i64 (j : Int))), (hput (hFrom 1) 0 (.row false 2 [f.cells]))⟩) (fun j => (x.ins.take j).all (fun t => t.fits number f.regs words) = true) (fun j => x.ins.length - j) 0 (Sub.mk' (by repeat (first | exact ESub.new _ | refine ESub.put ?_ (by rfl))) (by repeat (first | exact HSub.refl _ | exact HSub.none _ | exact HSub.from_new _ | exact HSub.from_from (by first | decide | omega | (dsimp only; omega)) | refine HSub.put ?_ (by rfl) | refine HSub.from_put ?_ (by first | decide | omega | (dsimp only; omega)) | refine HSub.from_rm ?_ (by decide)))) rfl (fun _ => hput_free (fun b hb => hFrom_free hb) rfl) ?_
      intro j hj
      refine AGo.seq ?_
      refine AGo.seq ?_
      refine AGo.region ?_
      refine am 42 ?_
      refine af 43 tok ?_
      refine al 44 tok ?_
      refine am 45 ?_
      refine aq 46 (q_index_lst tok rfl rfl rfl rfl rfl rfl (Int.natCast_nonneg _) (idx_map (by assumption)) rfl) ?_
      refine af 47 tok ?_
      refine al 48 tok ?_
      refine aq 49 (q_len tok rfl rfl rfl rfl rfl) ?_
      refine aq 50 (q_bin rfl rfl rfl rfl) ?_
      refine AOps.nil ?_
      refine AGo.split 50 rfl (fun hb6 => ?_) (fun hb6 => ?_)
      ·
       refine AGo.cond_true true rfl rfl ?_
       have hjl : j < x.ins.length := lt_of_idx hb6
       obtain ⟨u, hu⟩ := get_of_lt hjl
       refine AGo.skip ?_
       refine AGo.seq ?_
       refine AGo.block ?_
       refine AGo.seq ?_
       refine AGo.draw mix ?_
       refine df 53 tok ?_
       refine dl 54 tok ?_
       refine dm 55 ?_
       refine dq 56 (q_index_lst tok rfl rfl rfl rfl rfl rfl (Int.natCast_nonneg _) (idx_map (by assumption)) rfl) ?_
       refine df 57 tok ?_
       refine dl 58 tok ?_
       refine dm 59 ?_
       refine dq 60 (q_index_lst tok rfl rfl rfl rfl rfl rfl (Int.natCast_nonneg _) (idx_map (by assumption)) rfl) ?_
       refine dl 61 tok ?_
       refine dm 62 ?_
       refine df 63 tok ?_
       refine dl 64 tok ?_
       refine dm 65 ?_
       refine dx 66 (o_pure rfl Try.func41 (by kernel_rfl) rfl rfl rfl (fits_ok u _ _ _ hw hw2)) ?_
       refine dq 67 (q_not rfl rfl) ?_
       refine DOps.nil (by kernel_rfl) ?_
       refine AGo.split 67 rfl (fun hb7 => ?_) (fun hb7 => ?_)
       ·
        refine AGo.cond_true true rfl rfl ?_
        have hbw := hb7
        refine AGo.seq ?_
        refine AGo.region ?_
        refine aa 6 ?_
        refine AOps.nil ?_
        refine AGo.ret ?_
        refine ⟨[_], ⟨rfl, trivial⟩, ?_, rfl⟩
        show AV.bool _ = AV.bool _
        congr 1
        rw [one_all h0.1 h0.2.1 h0.2.2, all_bad hx (by simp only [Block.ok, all_bad (p := fun t => Tac.fits t number f.regs words) hu (by simpa using hbw), Bool.and_false])]
       ·
        refine AGo.cond_false false rfl rfl ?_
        have hbw := hb7
        refine AGo.skip ?_
        refine AGo.region ?_
        refine am 51 ?_
        refine aq 52 (q_inc rfl rfl hjl (hfit.2 x (List.mem_of_getElem? hx))) ?_
        refine aa 8 ?_
        refine AOps.nil ?_
        exact ⟨j+1, Drop.mk' (by repeat (first | exact EDrop.new _ _ | refine EDrop.put ?_ (by rfl) (by first | rfl | exact slA_avoid _ rfl | exact vaA_avoid _ rfl))) (by repeat (first | exact HDrop.none _ _ | exact HDrop.tail _ _ | refine HDrop.put ?_ (by rfl) rfl (by first | rfl | exact slO_avoid _ _ | exact vaO_avoid _ | exact tab_avoid _ _ rfl rfl | exact wlk_avoid _ _ _ rfl rfl rfl))), all_succ hu hj (by simpa using hbw), by omega⟩
      ·
       refine AGo.cond_false false rfl rfl ?_
       have hins := all_end hj (ge_of_idx hb6)
       refine AGo.exit ?_
       refine AGo.region ?_
       refine am 28 ?_
       refine aq 29 (q_inc rfl rfl hkl hfit.1) ?_
       refine aa 7 ?_
       refine AOps.nil ?_
       exact ⟨k+1, Drop.mk' (by repeat (first | exact EDrop.new _ _ | refine EDrop.put ?_ (by rfl) (by first | rfl | exact slA_avoid _ rfl | exact vaA_avoid _ rfl))) (by repeat (first | exact HDrop.none _ _ | exact HDrop.tail _ _ | refine HDrop.put ?_ (by rfl) rfl (by first | rfl | exact slO_avoid _ _ | exact vaO_avoid _ | exact tab_avoid _ _ rfl rfl | exact wlk_avoid _ _ _ rfl rfl rfl))), all_succ hx hk (by simp [Block.ok, hends, hins]), by omega⟩
    ·
     refine AGo.cond_false false rfl rfl ?_
     have hall := all_end hk (ge_of_idx hb4)
     refine AGo.exit ?_
     refine AGo.seq ?_
     refine AGo.region ?_
     refine aa 6 ?_
     refine AOps.nil ?_
     refine AGo.ret ?_
     refine ⟨[_], ⟨rfl, trivial⟩, ?_, rfl⟩
     show AV.bool _ = AV.bool _
     congr 1
     rw [one_all h0.1 h0.2.1 h0.2.2, hall]

set_option maxRecDepth 100000 in
theorem right_ok (b : Blocks) : APure Try.prog 20 [.agg b.cells] (fun r => r = .bool b.right) := by
 refine APure.of_body (n := 35) tok Try.func20 rfl rfl ?_
 refine AGo.seq ?_
 refine AGo.slot 0 rfl (fun H ι v => rel_prog) (fun hfit => ?_)
 refine AGo.region ?_
 refine ax 1 (o_box (sz := 2) 0 rfl rfl rfl rfl (Nat.zero_lt_succ _) rfl) ?_
 refine aa 2 ?_
 refine AOps.nil ?_
 refine AGo.seq ?_
 refine AGo.seq ?_
 refine AGo.region ?_
 refine af 4 tok ?_
 refine al 5 tok ?_
 refine aq 6 (q_bin rfl rfl rfl rfl) ?_
 refine am 7 ?_
 refine AOps.split 7 rfl (fun hb1 => ?_) (fun hb1 => ?_)
 ·
  refine ak 8 ?_
  refine ak 9 ?_
  refine ak 10 ?_
  refine aq 11 (q_pick_true true rfl rfl rfl rfl) ?_
  refine am 12 ?_
  refine ak 13 ?_
  refine ak 14 ?_
  refine ak 15 ?_
  refine ak 16 ?_
  refine aq 17 (q_pick_true true rfl rfl rfl rfl) ?_
  refine AOps.nil ?_
  refine AGo.cond_true true rfl rfl ?_
  refine AGo.seq ?_
  refine AGo.region ?_
  refine aa 2 ?_
  refine AOps.nil ?_
  refine AGo.ret ?_
  refine ⟨[_], ⟨rfl, trivial⟩, ?_, rfl⟩
  show AV.bool _ = AV.bool _
  congr 1
  exact (right_bad (by simp_all <;> omega)).symm
 ·
  refine af 8 tok ?_
  refine al 9 tok ?_
  refine aq 10 (q_bin rfl rfl rfl rfl) ?_
  refine aq 11 (q_pick_false false rfl rfl rfl rfl) ?_
  refine am 12 ?_
  refine AOps.split 12 rfl (fun hb2 => ?_) (fun hb2 => ?_)
  ·
   refine ak 13 ?_
   refine ak 14 ?_
   refine ak 15 ?_
   refine ak 16 ?_
   refine aq 17 (q_pick_true true rfl rfl rfl rfl) ?_
   refine AOps.nil ?_
   refine AGo.cond_true true rfl rfl ?_
   refine AGo.seq ?_
   refine AGo.region ?_
   refine aa 2 ?_
   refine AOps.nil ?_
   refine AGo.ret ?_
   refine ⟨[_], ⟨rfl, trivial⟩, ?_, rfl⟩
   show AV.bool _ = AV.bool _
   congr 1
   exact (right_bad (by simp_all <;> omega)).symm
  ·
   refine af 13 tok ?_
   refine al 14 tok ?_
   refine aq 15 (q_len tok rfl rfl rfl rfl rfl) ?_
   refine aq 16 (q_bin rfl rfl rfl rfl) ?_
   refine aq 17 (q_pick_false false rfl rfl rfl rfl) ?_
   refine AOps.nil ?_
   refine AGo.split 17 rfl (fun hb3 => ?_) (fun hb3 => ?_)
   ·
    refine AGo.cond_true true rfl rfl ?_
    refine AGo.seq ?_
    refine AGo.region ?_
    refine aa 2 ?_
    refine AOps.nil ?_
    refine AGo.ret ?_
    refine ⟨[_], ⟨rfl, trivial⟩, ?_, rfl⟩
    show AV.bool _ = AV.bool _
    congr 1
    exact (right_bad (by simp_all <;> omega)).symm
   ·
    refine AGo.cond_false false rfl rfl ?_
    have h0 : 0 ≤ b.words ∧ b.words ≤ 1048576 ∧ b.funcs.length ≠ 0 := by simp_all <;> omega
    refine AGo.skip ?_
    refine AGo.seq ?_
    refine AGo.seq ?_
    refine AGo.region ?_
    refine aa 3 ?_
    refine AOps.nil ?_
    refine AGo.block ?_
    refine AGo.loopD (γ := Nat) 1 (fun k => ⟨35, (eput (eput eNew 1 (.ptr 0 1 0 0)) 3 (.int .i64 (k : Int))), (hput (hFrom 1) 0 (.row false 2 [b.cells]))⟩) (fun k => (b.funcs.zipIdx.take k).all (fun p => p.1.one (p.2 : Int) b.words) = true) (fun k => b.funcs.length - k) 0 (Sub.mk' (by repeat (first | exact ESub.new _ | refine ESub.put ?_ (by rfl))) (by repeat (first | exact HSub.refl _ | exact HSub.none _ | exact HSub.from_new _ | exact HSub.from_from (by first | decide | omega | (dsimp only; omega)) | refine HSub.put ?_ (by rfl) | refine HSub.from_put ?_ (by first | decide | omega | (dsimp only; omega)) | refine HSub.from_rm ?_ (by decide)))) rfl (fun _ => hput_free (fun b hb => hFrom_free hb) rfl) ?_
    intro k hk
    refine AGo.seq ?_
    refine AGo.seq ?_
    refine AGo.region ?_
    refine am 18 ?_
    refine af 19 tok ?_
    refine al 20 tok ?_
    refine aq 21 (q_len tok rfl rfl rfl rfl rfl) ?_
    refine aq 22 (q_bin rfl rfl rfl rfl) ?_
    refine AOps.nil ?_
    refine AGo.split 22 rfl (fun hb4 => ?_) (fun hb4 => ?_)
    ·
     refine AGo.cond_true true rfl rfl ?_
     have hkl : k < b.funcs.length := lt_of_idx hb4
     obtain ⟨x, hx⟩ := get_of_lt hkl
     refine AGo.skip ?_
     refine AGo.seq ?_
     refine AGo.block ?_
     refine AGo.seq ?_
     refine AGo.draw mix ?_
     refine df 25 tok ?_
     refine dl 26 tok ?_
     refine dm 27 ?_
     refine dq 28 (q_index_lst tok rfl rfl rfl rfl rfl rfl (Int.natCast_nonneg _) (idx_map (by assumption)) rfl) ?_
     refine dl 29 tok ?_
     refine dm 30 ?_
     refine df 31 tok ?_
     refine dl 32 tok ?_
     refine dx 33 (o_pure rfl Try.func32 (by kernel_rfl) rfl rfl rfl (one_ok x _ _ h0.1 h0.2.1)) ?_
     refine dq 34 (q_not rfl rfl) ?_
     refine DOps.nil (by kernel_rfl) ?_
     refine AGo.split 34 rfl (fun hb5 => ?_) (fun hb5 => ?_)
     ·
      refine AGo.cond_true true rfl rfl ?_
      have hone := hb5
      refine AGo.seq ?_
      refine AGo.region ?_
      refine aa 2 ?_
      refine AOps.nil ?_
      refine AGo.ret ?_
      refine ⟨[_], ⟨rfl, trivial⟩, ?_, rfl⟩
      show AV.bool _ = AV.bool _
      congr 1
      rw [right_all h0.1 h0.2.1 h0.2.2, all_bad (zipIdx_get hx) (by simpa using hone)]
     ·
      refine AGo.cond_false false rfl rfl ?_
      have hone := hb5
      refine AGo.skip ?_
      refine AGo.region ?_
      refine am 23 ?_
      refine aq 24 (q_inc rfl rfl hkl hfit.1) ?_
      refine aa 3 ?_
      refine AOps.nil ?_
      exact ⟨k+1, Drop.mk' (by repeat (first | exact EDrop.new _ _ | refine EDrop.put ?_ (by rfl) (by first | rfl | exact slA_avoid _ rfl | exact vaA_avoid _ rfl))) (by repeat (first | exact HDrop.none _ _ | exact HDrop.tail _ _ | refine HDrop.put ?_ (by rfl) rfl (by first | rfl | exact slO_avoid _ _ | exact vaO_avoid _ | exact tab_avoid _ _ rfl rfl | exact wlk_avoid _ _ _ rfl rfl rfl))), all_succ (zipIdx_get hx) hk (by simpa using hone), by omega⟩
    ·
     refine AGo.cond_false false rfl rfl ?_
     have hall := all_end hk (by rw [List.length_zipIdx]; exact ge_of_idx hb4)
     refine AGo.exit ?_
     refine AGo.seq ?_
     refine AGo.region ?_
     refine aa 2 ?_
     refine AOps.nil ?_
     refine AGo.ret ?_
     refine ⟨[_], ⟨rfl, trivial⟩, ?_, rfl⟩
     show AV.bool _ = AV.bool _
     congr 1
     rw [right_all h0.1 h0.2.1 h0.2.2, hall]

end Go.Proofs.Ytpijoieooikfgaa.Sv

namespace Go.Proofs.Ytpijoieooikfgaa.Sv
open Go

set_option maxRecDepth 100000 in
theorem few34_ok (f : BFunc) (nb ni : Int) (hb : 0 ≤ ni ∧ ni ≤ 1000) (hn : f.blocks.length ≤ big) (hi : ∀ x ∈ f.blocks, x.ins.length ≤ big) : APure Try.prog 11 [.agg f.cells, .int .i64 nb, .int .i64 ni] (fun r => r = .bool (few34 f nb ni)) := by
 refine APure.of_body (n := 36) tok Try.func11 rfl rfl ?_
 refine AGo.seq ?_
 refine AGo.region ?_
 refine ax 3 (o_box (sz := 2) 0 rfl rfl rfl rfl (Nat.zero_lt_succ _) rfl) ?_
 refine aa 6 ?_
 refine AOps.nil ?_
 refine AGo.seq ?_
 refine AGo.seq ?_
 refine AGo.region ?_
 refine af 8 tok ?_
 refine al 9 tok ?_
 refine aq 10 (q_len tok rfl rfl rfl rfl rfl) ?_
 refine am 11 ?_
 refine aq 12 (q_bin rfl rfl rfl rfl) ?_
 refine am 13 ?_
 refine AOps.split 13 rfl (fun hb1 => ?_) (fun hb1 => ?_)
 ·
  refine ak 14 ?_
  refine ak 15 ?_
  refine ak 16 ?_
  refine aq 17 (q_pick_true true rfl rfl rfl rfl) ?_
  refine AOps.nil ?_
  refine AGo.cond_true true rfl rfl ?_
  refine AGo.seq ?_
  refine AGo.region ?_
  refine aa 6 ?_
  refine AOps.nil ?_
  refine AGo.ret ?_
  refine ⟨[_], ⟨rfl, trivial⟩, ?_, rfl⟩
  show AV.bool _ = AV.bool _
  congr 1
  simp_all [few34]; try omega
 ·
  refine af 14 tok ?_
  refine al 15 tok ?_
  refine aq 16 (q_bin rfl rfl rfl rfl) ?_
  refine aq 17 (q_pick_false false rfl rfl rfl rfl) ?_
  refine AOps.nil ?_
  refine AGo.split 17 rfl (fun hb2 => ?_) (fun hb2 => ?_)
  ·
   refine AGo.cond_true true rfl rfl ?_
   refine AGo.seq ?_
   refine AGo.region ?_
   refine aa 6 ?_
   refine AOps.nil ?_
   refine AGo.ret ?_
   refine ⟨[_], ⟨rfl, trivial⟩, ?_, rfl⟩
   show AV.bool _ = AV.bool _
   congr 1
   simp_all [few34]; try omega
  ·
   refine AGo.cond_false false rfl rfl ?_
   have hg1 : (f.blocks.length : Int) ≤ nb := by have h := hb1; simp only [List.length_map, decide_eq_false_iff_not] at h; omega
   have hg2 : f.regs ≤ 40 := by have h := hb2; simp only [decide_eq_false_iff_not] at h; omega
   refine AGo.skip ?_
   refine AGo.seq ?_
   refine AGo.seq ?_
   refine AGo.region ?_
   refine aa 7 ?_
   refine AOps.nil ?_
   refine AGo.block ?_
   refine AGo.loopD (γ := Nat) 1 (fun k => ⟨36, (eput (eput (eput (eput eNew 1 (.int .i64 nb)) 2 (.int .i64 (ni - (insSum' (f.blocks.take k) : Int)))) 3 (.ptr 0 1 0 0)) 7 (.int .i64 (k : Int))), (hput (hFrom 1) 0 (.row false 2 [f.cells]))⟩) (fun k => k ≤ f.blocks.length ∧ (k ≠ 0 → (insSum' (f.blocks.take k) : Int) ≤ ni)) (fun k => f.blocks.length - k) 0 (Sub.mk' (by repeat (first | exact ESub.new _ | refine ESub.put ?_ (by first | rfl | exact congrArg (fun n : Int => some (AV.int .i64 n)) (by simp [insSum'])))) (by repeat (first | exact HSub.refl _ | exact HSub.none _ | exact HSub.from_new _ | exact HSub.from_from (by first | decide | omega | (dsimp only; omega)) | refine HSub.put ?_ (by rfl) | refine HSub.from_put ?_ (by first | decide | omega | (dsimp only; omega)) | refine HSub.from_rm ?_ (by decide)))) ⟨Nat.zero_le _, fun h => absurd rfl h⟩ (fun _ => hput_free (fun b hb => hFrom_free hb) rfl) ?_
   intro k ⟨hk, hF⟩
   refine AGo.seq ?_
   refine AGo.seq ?_
   refine AGo.region ?_
   refine am 18 ?_
   refine af 19 tok ?_
   refine al 20 tok ?_
   refine aq 21 (q_len tok rfl rfl rfl rfl rfl) ?_
   refine aq 22 (q_bin rfl rfl rfl rfl) ?_
   refine AOps.nil ?_
   refine AGo.split 22 rfl (fun hb3 => ?_) (fun hb3 => ?_)
   ·
    refine AGo.cond_true true rfl rfl ?_
    have hkl : k < f.blocks.length := by simpa using hb3
    obtain ⟨x, hx⟩ := get_of_lt hkl
    have hxb := hi x (List.mem_of_getElem? hx)
    have hsx := insSum_succ' hx
    simp only [big] at hxb hn
    have hsum : (insSum' (f.blocks.take k) : Int) ≤ ni := by by_cases h0 : k = 0; { subst h0; simp [insSum']; omega }; exact hF h0
    refine AGo.skip ?_
    refine AGo.seq ?_
    refine AGo.block ?_
    refine AGo.seq ?_
    refine AGo.region ?_
    refine am 25 ?_
    refine af 26 tok ?_
    refine al 27 tok ?_
    refine am 28 ?_
    refine aq 29 (q_index_lst tok rfl rfl rfl rfl rfl rfl (Int.natCast_nonneg _) (idx_map hx) rfl) ?_
    refine af 30 tok ?_
    refine al 31 tok ?_
    refine aq 32 (q_len tok rfl rfl rfl rfl rfl) ?_
    refine aq 33 (q_bin (r := .int .i64 (ni - (insSum' (f.blocks.take (k + 1)) : Int))) rfl rfl rfl (subZ (by rw [List.length_map]; omega) (by rw [List.length_map]; omega) (by rw [List.length_map]; omega))) ?_
    refine aa 2 ?_
    refine AOps.nil ?_
    refine AGo.seq ?_
    refine AGo.region ?_
    refine am 34 ?_
    refine aq 35 (q_bin rfl rfl rfl rfl) ?_
    refine AOps.nil ?_
    refine AGo.split 35 rfl (fun hb4 => ?_) (fun hb4 => ?_)
    ·
     refine AGo.cond_true true rfl rfl ?_
     have hover : ¬ (insSum' f.blocks : Int) ≤ ni := by have h := hb4; simp only [decide_eq_true_eq] at h; have h2 := insSum_all f.blocks (k + 1); omega
     refine AGo.seq ?_
     refine AGo.region ?_
     refine aa 6 ?_
     refine AOps.nil ?_
     refine AGo.ret ?_
     refine ⟨[_], ⟨rfl, trivial⟩, ?_, rfl⟩
     show AV.bool _ = AV.bool _
     congr 1
     simp [few34, hover]
    ·
     refine AGo.cond_false false rfl rfl ?_
     have hin : (insSum' (f.blocks.take (k + 1)) : Int) ≤ ni := by have h := hb4; simp only [decide_eq_false_iff_not] at h; omega
     refine AGo.skip ?_
     refine AGo.region ?_
     refine am 23 ?_
     refine aq 24 (q_inc rfl rfl hkl (show f.blocks.length ≤ maxLen by simp only [maxLen]; (try simp only [big] at hn); omega)) ?_
     refine aa 7 ?_
     refine AOps.nil ?_
     exact ⟨k+1, Drop.mk' (by repeat (first | exact EDrop.new _ _ | refine EDrop.put ?_ (by first | rfl | exact congrArg (fun n : Int => some (AV.int .i64 n)) (by omega)) (by first | rfl | exact slA_avoid _ rfl | exact vaA_avoid _ rfl))) (by repeat (first | exact HDrop.none _ _ | exact HDrop.tail _ _ | refine HDrop.put ?_ (by rfl) rfl (by first | rfl | exact slO_avoid _ _ | exact vaO_avoid _ | exact tab_avoid _ _ rfl rfl | exact wlk_avoid _ _ _ rfl rfl rfl))), ⟨hkl, fun _ => by omega⟩, by omega⟩
   ·
    refine AGo.cond_false false rfl rfl ?_
    have hge : f.blocks.length ≤ k := by simpa using hb3
    have hsum : (insSum' f.blocks : Int) ≤ ni := by by_cases h0 : k = 0; { subst h0; have : f.blocks = [] := List.eq_nil_of_length_eq_zero (by omega); rw [this]; simp [insSum']; omega }; { have h := hF h0; rwa [List.take_of_length_le hge] at h }
    refine AGo.exit ?_
    refine AGo.seq ?_
    refine AGo.region ?_
    refine aa 6 ?_
    refine AOps.nil ?_
    refine AGo.ret ?_
    refine ⟨[_], ⟨rfl, trivial⟩, ?_, rfl⟩
    show AV.bool _ = AV.bool _
    congr 1
    simp [few34, hg1, hg2, hsum]

set_option maxRecDepth 100000 in
theorem great_ok (c : Cert) (hn : c.same.length ≤ big) : APure Try.prog 12 [.agg c.cells] (fun r => r = .bool (great34 c)) := by
 refine APure.of_body (n := 26) tok Try.func12 rfl rfl ?_
 refine AGo.seq ?_
 refine AGo.region ?_
 refine ax 1 (o_box (sz := 1) 0 rfl rfl rfl rfl (Nat.zero_lt_succ _) rfl) ?_
 refine aa 2 ?_
 refine AOps.nil ?_
 refine AGo.seq ?_
 refine AGo.seq ?_
 refine AGo.region ?_
 refine aa 3 ?_
 refine AOps.nil ?_
 refine AGo.block ?_
 refine AGo.loopD (γ := Nat) 1 (fun k => ⟨26, (eput (eput eNew 1 (.ptr 0 1 0 0)) 3 (.int .i64 (k : Int))), (hput (hFrom 1) 0 (.row false 1 [c.cells]))⟩) (fun k => k ≤ c.same.length ∧ k ≤ 21 ∧ (c.same.take k).any (fun r => decide (60 < r.length)) = false) (fun k => c.same.length - k) 0 (Sub.mk' (by repeat (first | exact ESub.new _ | refine ESub.put ?_ (by first | rfl | exact congrArg (fun (n : Nat) => some (AV.int .i64 (n : Int))) (by simp)))) (by repeat (first | exact HSub.refl _ | exact HSub.none _ | exact HSub.from_new _ | exact HSub.from_from (by first | decide | omega | (dsimp only; omega)) | refine HSub.put ?_ (by rfl) | refine HSub.from_put ?_ (by first | decide | omega | (dsimp only; omega)) | refine HSub.from_rm ?_ (by decide)))) ⟨Nat.zero_le _, Nat.zero_le _, rfl⟩ (fun _ => hput_free (fun b hb => hFrom_free hb) rfl) ?_
 intro k ⟨hk, hk21, hF⟩
 refine AGo.seq ?_
 refine AGo.seq ?_
 refine AGo.region ?_
 refine am 4 ?_
 refine af 5 tok ?_
 refine al 6 tok ?_
 refine aq 7 (q_len tok rfl rfl rfl rfl rfl) ?_
 refine aq 8 (q_bin rfl rfl rfl rfl) ?_
 refine am 9 ?_
 refine AOps.split 9 rfl (fun hb1 => ?_) (fun hb1 => ?_)
 ·
  have hkl : k < c.same.length := by have h := hb1; simp only [List.length_map, decide_eq_true_eq] at h; omega
  refine am 10 ?_
  refine aq 11 (q_bin rfl rfl rfl rfl) ?_
  refine aq 12 (q_pick_true true rfl rfl rfl rfl) ?_
  refine AOps.nil ?_
  refine AGo.split 12 rfl (fun hb2 => ?_) (fun hb2 => ?_)
  ·
   refine AGo.cond_true true rfl rfl ?_
   have hk20 : (k : Int) ≤ 20 := by have h := hb2; simpa using h
   obtain ⟨r, hr⟩ := get_of_lt hkl
   refine AGo.skip ?_
   refine AGo.seq ?_
   refine AGo.block ?_
   refine AGo.seq ?_
   refine AGo.region ?_
   refine af 15 tok ?_
   refine al 16 tok ?_
   refine am 17 ?_
   refine aq 18 (q_index_lst tok rfl rfl rfl rfl rfl rfl (Int.natCast_nonneg _) (idx_map hr) rfl) ?_
   refine al 19 tok ?_
   refine aq 20 (q_len tok rfl rfl rfl rfl rfl) ?_
   refine aq 21 (q_bin rfl rfl rfl rfl) ?_
   refine AOps.nil ?_
   refine AGo.split 21 rfl (fun hb3 => ?_) (fun hb3 => ?_)
   ·
    refine AGo.cond_true true rfl rfl ?_
    have hbad : (60 : Int) < r.length := by have h := hb3; simp only [List.length_map, decide_eq_true_eq] at h; omega
    refine AGo.seq ?_
    refine AGo.region ?_
    refine aa 2 ?_
    refine AOps.nil ?_
    refine AGo.ret ?_
    refine ⟨[_], ⟨rfl, trivial⟩, ?_, rfl⟩
    show AV.bool _ = AV.bool _
    congr 1
    exact (great_yes hr (by omega) (by omega)).symm
   ·
    refine AGo.cond_false false rfl rfl ?_
    have hgood : ¬ (60 : Int) < r.length := by have h := hb3; simp only [List.length_map, decide_eq_false_iff_not] at h; omega
    refine AGo.skip ?_
    refine AGo.region ?_
    refine am 13 ?_
    refine aq 14 (q_inc rfl rfl hkl (show c.same.length ≤ maxLen by simp only [maxLen]; (try simp only [big] at hn); omega)) ?_
    refine aa 3 ?_
    refine AOps.nil ?_
    exact ⟨k+1, Drop.mk' (by repeat (first | exact EDrop.new _ _ | refine EDrop.put ?_ (by rfl) (by first | rfl | exact slA_avoid _ rfl | exact vaA_avoid _ rfl))) (by repeat (first | exact HDrop.none _ _ | exact HDrop.tail _ _ | refine HDrop.put ?_ (by rfl) rfl (by first | rfl | exact slO_avoid _ _ | exact vaO_avoid _ | exact tab_avoid _ _ rfl rfl | exact wlk_avoid _ _ _ rfl rfl rfl))), ⟨hkl, by omega, by rw [take_succ_eq hr, List.any_append, hF]; simp; omega⟩, by omega⟩
  ·
   refine AGo.cond_false false rfl rfl ?_
   have hend := hb2
   refine AGo.exit ?_
   refine AGo.seq ?_
   refine AGo.region ?_
   refine af 22 tok ?_
   refine al 23 tok ?_
   refine aq 24 (q_len tok rfl rfl rfl rfl rfl) ?_
   refine aq 25 (q_bin rfl rfl rfl rfl) ?_
   refine aa 2 ?_
   refine AOps.nil ?_
   refine AGo.ret ?_
   refine ⟨[_], ⟨rfl, trivial⟩, ?_, rfl⟩
   show AV.bool _ = AV.bool _
   congr 1
   exact (great_end hF hk hk21 (by first | (simp only [List.length_map, decide_eq_false_iff_not] at hend; omega) | (simp only [decide_eq_false_iff_not] at hend; omega))).symm
 ·
  refine ak 10 ?_
  refine ak 11 ?_
  refine aq 12 (q_pick_false false rfl rfl rfl rfl) ?_
  refine AOps.nil ?_
  refine AGo.cond_false false rfl rfl ?_
  have hend := hb1
  refine AGo.exit ?_
  refine AGo.seq ?_
  refine AGo.region ?_
  refine af 22 tok ?_
  refine al 23 tok ?_
  refine aq 24 (q_len tok rfl rfl rfl rfl rfl) ?_
  refine aq 25 (q_bin rfl rfl rfl rfl) ?_
  refine aa 2 ?_
  refine AOps.nil ?_
  refine AGo.ret ?_
  refine ⟨[_], ⟨rfl, trivial⟩, ?_, rfl⟩
  show AV.bool _ = AV.bool _
  congr 1
  exact (great_end hF hk hk21 (by first | (simp only [List.length_map, decide_eq_false_iff_not] at hend; omega) | (simp only [decide_eq_false_iff_not] at hend; omega))).symm

end Go.Proofs.Ytpijoieooikfgaa.Sv

namespace Go.Proofs.Ytpijoieooikfgaa.Sv
open Go

end Go.Proofs.Ytpijoieooikfgaa.Sv

namespace Go.Proofs.Ytpijoieooikfgaa.Sv
open Go

end Go.Proofs.Ytpijoieooikfgaa.Sv
