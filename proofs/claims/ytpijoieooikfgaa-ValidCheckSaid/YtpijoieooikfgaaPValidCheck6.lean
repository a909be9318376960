/-
  WALKS: printed by a program of our own from the code's tree.
  WALKS: printed by a program of our own from the code's tree.
  WALKS: printed by a program of our own from the code's tree.
  WALKS: printed by a program of our own from the code's tree.
  WALKS: printed by a program of our own from the code's tree.
-/
import Derived.Test.YtpijoieooikfgaaPValidCheck5
import Derived.Test.YtpijoieooikfgaaPValidCheck3
namespace Go.Proofs.Ytpijoieooikfgaa.Sv
open Go

set_option maxHeartbeats 1000000 in
set_option maxRecDepth 100000 in
theorem reffectb_ok (R m : Nat) (w : RW) (h : ROk R m w) (hm : m ≤ 90000) (e : REff) : ACall Try.prog 59 [.ptr 8 1 0 0, .agg e.cells] (hput (hput (hput (hput (hput hNew 4 (.row false 1 [[slA 9 (((w).L).map RVal.cells)]])) 9 (slO 9 (((w).L).map RVal.cells))) 8 (.row false 4 [[.ptr 4 1 0 0, slA 7 (valC ((w).regs)), slA 11 (((w).out).map REff.cells), .int .i64 ((w).time)]])) 7 (slO 1 (valC ((w).regs)))) 11 (slO 6 (((w).out).map REff.cells))) (fun r h' => r = .int .i64 (w.out.length : Int) ∧ HSub (hput (hput (hput (hput (hput hNone 4 (.row false 1 [[slA 9 ((((w.eff e)).L).map RVal.cells)]])) 9 (slO 9 ((((w.eff e)).L).map RVal.cells))) 8 (.row false 4 [[.ptr 4 1 0 0, slA 7 (valC (((w.eff e)).regs)), slA 11 ((((w.eff e)).out).map REff.cells), .int .i64 (((w.eff e)).time)]])) 7 (slO 1 (valC (((w.eff e)).regs)))) 11 (slO 6 ((((w.eff e)).out).map REff.cells))) h') := by
 have hel := h.el
 refine ACall.of_body (n := 21) tok Try.func59 rfl rfl ?_
 refine AGo.seq ?_
 refine AGo.region ?_
 refine ax 3 (o_box (sz := 6) 12 rfl rfl rfl rfl (Nat.zero_lt_succ _) rfl) ?_
 refine aa 4 ?_
 refine AOps.nil ?_
 refine AGo.seq ?_
 refine AGo.draw mix ?_
 refine dm 5 ?_
 refine dm 6 ?_
 refine dq 7 (q_nilCheck rfl rfl rfl) ?_
 refine df 8 tok ?_
 refine dl 9 tok ?_
 refine dl 10 tok ?_
 refine dx 11 (o_lit' tok rfl rfl rfl rfl rfl rfl (by decide) rfl rfl rfl rfl rfl rfl) ?_
 refine dx 12 (o_append1J tok (b := 11) (es := ((w.out).map REff.cells)) rfl rfl rfl rfl rfl rfl rfl rfl rfl rfl rfl (Nat.zero_lt_succ _) (re_len _) (re_pure _) rfl rfl (by rw [List.length_map]; show _ * 48 ≤ _; omega) (by rw [List.length_map]; simp only [maxLen]; omega)) ?_
 refine dq 13 (q_nilCheck rfl rfl rfl) ?_
 refine df 14 tok ?_
 refine DOps.w rfl rfl (o_store1 tok rfl rfl rfl rfl rfl rfl rfl rfl rfl (slA_cells _ _) (by decide) (slA_cell1 _ _) (by intro h; cases h)) ?_
 refine DOps.nil (by kernel_rfl) ?_
 refine AGo.seq ?_
 refine AGo.region ?_
 refine am 15 ?_
 refine aq 16 (q_nilCheck rfl rfl rfl) ?_
 refine af 17 tok ?_
 refine al 18 tok ?_
 refine aq 19 (q_lenJ tok rfl rfl rfl rfl) ?_
 refine aq 20 (q_bin (r := .int .i64 (w.out.length : Int)) rfl rfl rfl (subZ (by rw [List.length_append, List.length_map, List.length_singleton]; omega) (by rw [List.length_append, List.length_map, List.length_singleton]; omega) (by rw [List.length_append, List.length_map, List.length_singleton]; omega))) ?_
 refine aa 4 ?_
 refine AOps.nil ?_
 refine AGo.ret ?_
 refine ⟨[_], ⟨rfl, trivial⟩, rfl, ?_⟩
 exact (HSub.put (HSub.put (HSub.put (HSub.put (HSub.put (HSub.none _) rfl) rfl) (by show _ = some (AObj.row false 4 [[.ptr 4 1 0 0, slA 7 (valC w.regs), slA 11 ((w.out ++ [e]).map REff.cells), .int .i64 w.time]]); rw [List.map_append]; rfl)) rfl) (by show _ = some (slO 6 ((w.out ++ [e]).map REff.cells)); rw [List.map_append]; rfl))

theorem rbin_db (w : RW) (t : Tac) : w.bin t = ⟨(rnum w.L (rapplyV w t)).2, rset w.regs t.d (rnum w.L (rapplyV w t)).1, (w.div t).out, w.time⟩ := by
  cases hr : rrisky w t with
  | true => rw [rbin_yes hr]; simp only [RW.div, hr, cond_true]; rfl
  | false => rw [rbin_no hr]; simp only [RW.div, hr, cond_false]
set_option maxHeartbeats 2000000 in
set_option maxRecDepth 100000 in
theorem rbinb_ok (R m : Nat) (w : RW) (h : ROk R m w) (hm : m ≤ 90000) (t : Tac) (hd : 0 ≤ t.d ∧ t.d < R) (ha : 0 ≤ t.a ∧ t.a < R) (hb : 0 ≤ t.b ∧ t.b < R) : ACall Try.prog 58 [.ptr 8 1 0 0, .agg t.cells] (hput (hput (hput (hput (hput hNew 4 (.row false 1 [[slA 9 (((w).L).map RVal.cells)]])) 9 (slO 9 (((w).L).map RVal.cells))) 8 (.row false 4 [[.ptr 4 1 0 0, slA 7 (valC ((w).regs)), slA 11 (((w).out).map REff.cells), .int .i64 ((w).time)]])) 7 (slO 1 (valC ((w).regs)))) 11 (slO 6 (((w).out).map REff.cells))) (fun r h' => r = .tup [] ∧ HSub (hput (hput (hput (hput (hput hNone 4 (.row false 1 [[slA 9 ((((w.bin t)).L).map RVal.cells)]])) 9 (slO 9 ((((w.bin t)).L).map RVal.cells))) 8 (.row false 4 [[.ptr 4 1 0 0, slA 7 (valC (((w.bin t)).regs)), slA 11 ((((w.bin t)).out).map REff.cells), .int .i64 (((w.bin t)).time)]])) 7 (slO 1 (valC (((w.bin t)).regs)))) 11 (slO 6 ((((w.bin t)).out).map REff.cells))) h') := by
 have hel := h.el
 have hkl := h.kl
 have hxd := h.at hd
 have hxa := h.at ha
 have hxb := h.at hb
 refine ACall.of_body (n := 120) tok Try.func58 rfl rfl ?_
 refine AGo.seq ?_
 refine AGo.region ?_
 refine ax 3 (o_box (sz := 8) 12 rfl rfl rfl rfl (Nat.zero_lt_succ _) rfl) ?_
 refine AOps.nil ?_
 refine AGo.seq ?_
 refine AGo.draw mix ?_
 refine dm 13 ?_
 refine dq 14 (q_nilCheck rfl rfl rfl) ?_
 refine df 15 tok ?_
 refine dl 16 tok ?_
 refine df 17 tok ?_
 refine dl 18 tok ?_
 refine dq 19 (q_indexJ tok rfl rfl rfl rfl rfl rfl rfl rfl hxa.1 hxa.2.2.1) ?_
 refine dq 20 (q_load tok rfl rfl rfl (ptsJ rfl (valC_get ⟨hxa.1, hxa.2.1⟩)) rfl) ?_
 refine dm 21 ?_
 refine dq 22 (q_nilCheck rfl rfl rfl) ?_
 refine df 23 tok ?_
 refine dl 24 tok ?_
 refine df 25 tok ?_
 refine dl 26 tok ?_
 refine dq 27 (q_indexJ tok rfl rfl rfl rfl rfl rfl rfl rfl hxb.1 hxb.2.2.1) ?_
 refine dq 28 (q_load tok rfl rfl rfl (ptsJ rfl (valC_get ⟨hxb.1, hxb.2.1⟩)) rfl) ?_
 refine da 4 ?_
 refine da 5 ?_
 refine DOps.nil (by kernel_rfl) ?_
 refine AGo.seq ?_
 refine AGo.region ?_
 refine am 30 ?_
 refine aq 31 (q_nilCheck rfl rfl rfl) ?_
 refine af 32 tok ?_
 refine al 33 tok ?_
 refine am 34 ?_
 refine ax 35 (o_call (hc := (hput (hput hNew 4 (.row false 1 [[slA 9 ((w.L).map RVal.cells)]])) 9 (slO 9 ((w.L).map RVal.cells)))) (hw := (hput (hput hNone 4 (.row false 1 [[slA 9 ((w.L).map RVal.cells)]])) 9 (slO 9 ((w.L).map RVal.cells)))) [9, 4] [(4, (.row false 1 [[slA 9 ((w.L).map RVal.cells)]])), (9, (slO 9 ((w.L).map RVal.cells)))] rfl Try.func68 (by kernel_rfl) rfl rfl rfl ⟨⟨_, rfl, (by first | rfl | exact slO_avoid _ _ | exact rtab_avoid _ rfl | exact rwlk_avoid _ _ _ rfl rfl rfl)⟩, ⟨_, rfl, (by first | rfl | exact slO_avoid _ _ | exact rtab_avoid _ rfl | exact rwlk_avoid _ _ _ rfl rfl rfl)⟩, trivial⟩ rfl (hres_cons rfl (hres_cons rfl (hres_nil _))) ⟨⟨_, rfl, rfl, (by first | rfl | exact slO_avoid _ _ | exact rtab_avoid _ rfl | exact rwlk_avoid _ _ _ rfl rfl rfl)⟩, ⟨_, rfl, rfl, (by first | rfl | exact slO_avoid _ _ | exact rtab_avoid _ rfl | exact rwlk_avoid _ _ _ rfl rfl rfl)⟩, trivial⟩ rfl (rconst_ok w.L (rget w.regs t.a) hxa.2.2.2)) ?_
 refine am 29 ?_
 refine aq 36 (q_extract rfl rfl rfl) ?_
 refine aq 37 (q_extract rfl rfl rfl) ?_
 refine aa 6 ?_
 refine aa 7 ?_
 refine AOps.nil ?_
 refine AGo.seq ?_
 refine AGo.region ?_
 refine am 39 ?_
 refine aq 40 (q_nilCheck rfl rfl rfl) ?_
 refine af 41 tok ?_
 refine al 42 tok ?_
 refine am 43 ?_
 refine ax 44 (o_call (hc := (hput (hput hNew 4 (.row false 1 [[slA 9 ((w.L).map RVal.cells)]])) 9 (slO 9 ((w.L).map RVal.cells)))) (hw := (hput (hput hNone 4 (.row false 1 [[slA 9 ((w.L).map RVal.cells)]])) 9 (slO 9 ((w.L).map RVal.cells)))) [9, 4] [(4, (.row false 1 [[slA 9 ((w.L).map RVal.cells)]])), (9, (slO 9 ((w.L).map RVal.cells)))] rfl Try.func68 (by kernel_rfl) rfl rfl rfl ⟨⟨_, rfl, (by first | rfl | exact slO_avoid _ _ | exact rtab_avoid _ rfl | exact rwlk_avoid _ _ _ rfl rfl rfl)⟩, ⟨_, rfl, (by first | rfl | exact slO_avoid _ _ | exact rtab_avoid _ rfl | exact rwlk_avoid _ _ _ rfl rfl rfl)⟩, trivial⟩ rfl (hres_cons rfl (hres_cons rfl (hres_nil _))) ⟨⟨_, rfl, rfl, (by first | rfl | exact slO_avoid _ _ | exact rtab_avoid _ rfl | exact rwlk_avoid _ _ _ rfl rfl rfl)⟩, ⟨_, rfl, rfl, (by first | rfl | exact slO_avoid _ _ | exact rtab_avoid _ rfl | exact rwlk_avoid _ _ _ rfl rfl rfl)⟩, trivial⟩ rfl (rconst_ok w.L (rget w.regs t.b) hxb.2.2.2)) ?_
 refine am 38 ?_
 refine aq 45 (q_extract rfl rfl rfl) ?_
 refine aq 46 (q_extract rfl rfl rfl) ?_
 refine aa 8 ?_
 refine aa 9 ?_
 refine AOps.nil ?_
 refine AGo.seq ?_
 refine AGo.join (γ := Unit) (fun _u => ⟨120, (eput (eput (eput (eput (eput (eput (eput (eput (eput eNew 0 (.ptr 8 1 0 0)) 3 (.ptr 12 1 0 0)) 4 (.int .i64 (rget w.regs t.a))) 5 (.int .i64 (rget w.regs t.b))) 6 (.int .u32 (rconst w.L (rget w.regs t.a)).1)) 8 (.int .u32 (rconst w.L (rget w.regs t.b)).1)) 7 (.bool (rconst w.L (rget w.regs t.a)).2)) 9 (.bool (rconst w.L (rget w.regs t.b)).2)) 10 (.bool (rrisky w t))), (hput (hput (hput (hput (hput (hput (hFrom 13) 12 (.row false 8 [t.cells])) 4 (.row false 1 [[slA 9 (((w).L).map RVal.cells)]])) 9 (slO 9 (((w).L).map RVal.cells))) 8 (.row false 4 [[.ptr 4 1 0 0, slA 7 (valC ((w).regs)), slA 11 (((w).out).map REff.cells), .int .i64 ((w).time)]])) 7 (slO 1 (valC ((w).regs)))) 11 (slO 6 (((w).out).map REff.cells)))⟩) (fun _u => True) ?_ ?_
 ·
  refine AGo.region ?_
  refine af 47 tok ?_
  refine al 48 tok ?_
  refine aq 49 (q_bin rfl rfl rfl rfl) ?_
  refine am 50 ?_
  refine AOps.split 50 rfl (fun hb1 => ?_) (fun hb1 => ?_)
  ·
   refine ak 51 ?_
   refine ak 52 ?_
   refine ak 53 ?_
   refine aq 54 (q_pick_true true rfl rfl rfl rfl) ?_
   refine am 55 ?_
   refine am 56 ?_
   refine aq 57 (q_not rfl rfl) ?_
   refine am 58 ?_
   refine AOps.split 58 rfl (fun hb2 => ?_) (fun hb2 => ?_)
   ·
    refine ak 59 ?_
    refine ak 60 ?_
    refine aq 61 (q_pick_true true rfl rfl rfl rfl) ?_
    refine aq 62 (q_pick_true true rfl rfl rfl rfl) ?_
    refine aa 10 ?_
    refine AOps.nil ?_
    exact ⟨(), Sub.mk' (by repeat (first | exact ESub.new _ | refine ESub.put ?_ (by first | rfl | exact congrArg (fun c => some (AV.bool c)) (by first | (simp [rrisky, *]; done) | (simp_all [rrisky]; done))))) (by repeat (first | exact HSub.refl _ | exact HSub.none _ | exact HSub.from_new _ | exact HSub.from_from (by first | decide | omega | (dsimp only; omega)) | refine HSub.put ?_ (by rfl) | refine HSub.from_put ?_ (by first | decide | omega | (dsimp only; omega)) | refine HSub.from_rm ?_ (by decide))), trivial⟩
   ·
    refine am 59 ?_
    refine aq 60 (q_bin rfl rfl rfl rfl) ?_
    refine aq 61 (q_pick_false false rfl rfl rfl rfl) ?_
    refine aq 62 (q_pick_true true rfl rfl rfl rfl) ?_
    refine aa 10 ?_
    refine AOps.nil ?_
    exact ⟨(), Sub.mk' (by repeat (first | exact ESub.new _ | refine ESub.put ?_ (by first | rfl | exact congrArg (fun c => some (AV.bool c)) (by first | (simp [rrisky, *]; done) | (simp_all [rrisky]; done))))) (by repeat (first | exact HSub.refl _ | exact HSub.none _ | exact HSub.from_new _ | exact HSub.from_from (by first | decide | omega | (dsimp only; omega)) | refine HSub.put ?_ (by rfl) | refine HSub.from_put ?_ (by first | decide | omega | (dsimp only; omega)) | refine HSub.from_rm ?_ (by decide))), trivial⟩
  ·
   refine af 51 tok ?_
   refine al 52 tok ?_
   refine aq 53 (q_bin rfl rfl rfl rfl) ?_
   refine aq 54 (q_pick_false false rfl rfl rfl rfl) ?_
   refine am 55 ?_
   refine AOps.split 55 rfl (fun hb3 => ?_) (fun hb3 => ?_)
   ·
    refine am 56 ?_
    refine aq 57 (q_not rfl rfl) ?_
    refine am 58 ?_
    refine AOps.split 58 rfl (fun hb4 => ?_) (fun hb4 => ?_)
    ·
     refine ak 59 ?_
     refine ak 60 ?_
     refine aq 61 (q_pick_true true rfl rfl rfl rfl) ?_
     refine aq 62 (q_pick_true true rfl rfl rfl rfl) ?_
     refine aa 10 ?_
     refine AOps.nil ?_
     exact ⟨(), Sub.mk' (by repeat (first | exact ESub.new _ | refine ESub.put ?_ (by first | rfl | exact congrArg (fun c => some (AV.bool c)) (by first | (simp [rrisky, *]; done) | (simp_all [rrisky]; done))))) (by repeat (first | exact HSub.refl _ | exact HSub.none _ | exact HSub.from_new _ | exact HSub.from_from (by first | decide | omega | (dsimp only; omega)) | refine HSub.put ?_ (by rfl) | refine HSub.from_put ?_ (by first | decide | omega | (dsimp only; omega)) | refine HSub.from_rm ?_ (by decide))), trivial⟩
    ·
     refine am 59 ?_
     refine aq 60 (q_bin rfl rfl rfl rfl) ?_
     refine aq 61 (q_pick_false false rfl rfl rfl rfl) ?_
     refine aq 62 (q_pick_true true rfl rfl rfl rfl) ?_
     refine aa 10 ?_
     refine AOps.nil ?_
     exact ⟨(), Sub.mk' (by repeat (first | exact ESub.new _ | refine ESub.put ?_ (by first | rfl | exact congrArg (fun c => some (AV.bool c)) (by first | (simp [rrisky, *]; done) | (simp_all [rrisky]; done))))) (by repeat (first | exact HSub.refl _ | exact HSub.none _ | exact HSub.from_new _ | exact HSub.from_from (by first | decide | omega | (dsimp only; omega)) | refine HSub.put ?_ (by rfl) | refine HSub.from_put ?_ (by first | decide | omega | (dsimp only; omega)) | refine HSub.from_rm ?_ (by decide))), trivial⟩
   ·
    refine ak 56 ?_
    refine ak 57 ?_
    refine ak 58 ?_
    refine ak 59 ?_
    refine ak 60 ?_
    refine ak 61 ?_
    refine aq 62 (q_pick_false false rfl rfl rfl rfl) ?_
    refine aa 10 ?_
    refine AOps.nil ?_
    exact ⟨(), Sub.mk' (by repeat (first | exact ESub.new _ | refine ESub.put ?_ (by first | rfl | exact congrArg (fun c => some (AV.bool c)) (by first | (simp [rrisky, *]; done) | (simp_all [rrisky]; done))))) (by repeat (first | exact HSub.refl _ | exact HSub.none _ | exact HSub.from_new _ | exact HSub.from_from (by first | decide | omega | (dsimp only; omega)) | refine HSub.put ?_ (by rfl) | refine HSub.from_put ?_ (by first | decide | omega | (dsimp only; omega)) | refine HSub.from_rm ?_ (by decide))), trivial⟩
 intro _u _
 refine AGo.seq ?_
 refine AGo.seq ?_
 refine AGo.region ?_
 refine am 63 ?_
 refine AOps.nil ?_
 refine AGo.split 63 rfl (fun hb5 => ?_) (fun hb5 => ?_)
 ·
  refine AGo.cond_true true rfl rfl ?_
  have hr : rrisky w t = true := hb5
  refine AGo.region ?_
  refine am 64 ?_
  refine af 65 tok ?_
  refine al 66 tok ?_
  refine af 67 tok ?_
  refine al 68 tok ?_
  refine am 69 ?_
  refine am 70 ?_
  refine aq 71 (q_build tok rfl rfl rfl rfl rfl (by decide) rfl rfl rfl) ?_
  refine ax 72 (o_call (hc := (hput (hput (hput (hput (hput hNew 4 (.row false 1 [[slA 9 (((w).L).map RVal.cells)]])) 9 (slO 9 (((w).L).map RVal.cells))) 8 (.row false 4 [[.ptr 4 1 0 0, slA 7 (valC ((w).regs)), slA 11 (((w).out).map REff.cells), .int .i64 ((w).time)]])) 7 (slO 1 (valC ((w).regs)))) 11 (slO 6 (((w).out).map REff.cells)))) (hw := (hput (hput (hput (hput (hput hNone 4 (.row false 1 [[slA 9 ((((w).eff ⟨t.op, t.k, 0, 0, (rget w.regs t.a), (rget w.regs t.b)⟩).L).map RVal.cells)]])) 9 (slO 9 ((((w).eff ⟨t.op, t.k, 0, 0, (rget w.regs t.a), (rget w.regs t.b)⟩).L).map RVal.cells))) 8 (.row false 4 [[.ptr 4 1 0 0, slA 7 (valC (((w).eff ⟨t.op, t.k, 0, 0, (rget w.regs t.a), (rget w.regs t.b)⟩).regs)), slA 11 ((((w).eff ⟨t.op, t.k, 0, 0, (rget w.regs t.a), (rget w.regs t.b)⟩).out).map REff.cells), .int .i64 (((w).eff ⟨t.op, t.k, 0, 0, (rget w.regs t.a), (rget w.regs t.b)⟩).time)]])) 7 (slO 1 (valC (((w).eff ⟨t.op, t.k, 0, 0, (rget w.regs t.a), (rget w.regs t.b)⟩).regs)))) 11 (slO 6 ((((w).eff ⟨t.op, t.k, 0, 0, (rget w.regs t.a), (rget w.regs t.b)⟩).out).map REff.cells)))) [11, 7, 8, 9, 4] [(4, (.row false 1 [[slA 9 ((((w).eff ⟨t.op, t.k, 0, 0, (rget w.regs t.a), (rget w.regs t.b)⟩).L).map RVal.cells)]])), (9, (slO 9 ((((w).eff ⟨t.op, t.k, 0, 0, (rget w.regs t.a), (rget w.regs t.b)⟩).L).map RVal.cells))), (8, (.row false 4 [[.ptr 4 1 0 0, slA 7 (valC (((w).eff ⟨t.op, t.k, 0, 0, (rget w.regs t.a), (rget w.regs t.b)⟩).regs)), slA 11 ((((w).eff ⟨t.op, t.k, 0, 0, (rget w.regs t.a), (rget w.regs t.b)⟩).out).map REff.cells), .int .i64 (((w).eff ⟨t.op, t.k, 0, 0, (rget w.regs t.a), (rget w.regs t.b)⟩).time)]])), (7, (slO 1 (valC (((w).eff ⟨t.op, t.k, 0, 0, (rget w.regs t.a), (rget w.regs t.b)⟩).regs)))), (11, (slO 6 ((((w).eff ⟨t.op, t.k, 0, 0, (rget w.regs t.a), (rget w.regs t.b)⟩).out).map REff.cells)))] rfl Try.func59 (by kernel_rfl) rfl rfl rfl ⟨⟨_, rfl, (by first | rfl | exact slO_avoid _ _ | exact rtab_avoid _ rfl | exact rwlk_avoid _ _ _ rfl rfl rfl)⟩, ⟨_, rfl, (by first | rfl | exact slO_avoid _ _ | exact rtab_avoid _ rfl | exact rwlk_avoid _ _ _ rfl rfl rfl)⟩, ⟨_, rfl, (by first | rfl | exact slO_avoid _ _ | exact rtab_avoid _ rfl | exact rwlk_avoid _ _ _ rfl rfl rfl)⟩, ⟨_, rfl, (by first | rfl | exact slO_avoid _ _ | exact rtab_avoid _ rfl | exact rwlk_avoid _ _ _ rfl rfl rfl)⟩, ⟨_, rfl, (by first | rfl | exact slO_avoid _ _ | exact rtab_avoid _ rfl | exact rwlk_avoid _ _ _ rfl rfl rfl)⟩, trivial⟩ rfl (hres_cons rfl (hres_cons rfl (hres_cons rfl (hres_cons rfl (hres_cons rfl (hres_nil _)))))) ⟨⟨_, rfl, rfl, (by first | rfl | exact slO_avoid _ _ | exact rtab_avoid _ rfl | exact rwlk_avoid _ _ _ rfl rfl rfl)⟩, ⟨_, rfl, rfl, (by first | rfl | exact slO_avoid _ _ | exact rtab_avoid _ rfl | exact rwlk_avoid _ _ _ rfl rfl rfl)⟩, ⟨_, rfl, rfl, (by first | rfl | exact slO_avoid _ _ | exact rtab_avoid _ rfl | exact rwlk_avoid _ _ _ rfl rfl rfl)⟩, ⟨_, rfl, rfl, (by first | rfl | exact slO_avoid _ _ | exact rtab_avoid _ rfl | exact rwlk_avoid _ _ _ rfl rfl rfl)⟩, ⟨_, rfl, rfl, (by first | rfl | exact slO_avoid _ _ | exact rtab_avoid _ rfl | exact rwlk_avoid _ _ _ rfl rfl rfl)⟩, trivial⟩ rfl (reffectb_ok R m w h (by omega) ⟨t.op, t.k, 0, 0, (rget w.regs t.a), (rget w.regs t.b)⟩)) ?_
  refine AOps.nil ?_
  refine AGo.seq ?_
  refine AGo.seq ?_
  refine AGo.join (γ := Unit) (fun _u => ⟨120, (eput (eput (eput (eput (eput (eput (eput eNew 0 (.ptr 8 1 0 0)) 3 (.ptr 12 1 0 0)) 4 (.int .i64 (rget w.regs t.a))) 5 (.int .i64 (rget w.regs t.b))) 6 (.int .u32 (rconst w.L (rget w.regs t.a)).1)) 8 (.int .u32 (rconst w.L (rget w.regs t.b)).1)) 80 (.bool (rfold w t))), (hput (hput (hput (hput (hput (hput (hFrom 13) 12 (.row false 8 [t.cells])) 4 (.row false 1 [[slA 9 ((w.L).map RVal.cells)]])) 9 (slO 9 ((w.L).map RVal.cells))) 8 (.row false 4 [[.ptr 4 1 0 0, slA 7 (valC (w.regs)), slA 11 (((w.div t).out).map REff.cells), .int .i64 (w.time)]])) 7 (slO 1 (valC (w.regs)))) 11 (slO 6 (((w.div t).out).map REff.cells)))⟩) (fun _u => True) ?_ ?_
  ·
   refine AGo.region ?_
   refine am 73 ?_
   refine am 74 ?_
   refine AOps.split 74 rfl (fun hb6 => ?_) (fun hb6 => ?_)
   ·
    refine am 75 ?_
    refine aq 76 (q_pick_true true rfl rfl rfl rfl) ?_
    refine am 77 ?_
    refine AOps.split 77 rfl (fun hb7 => ?_) (fun hb7 => ?_)
    ·
     refine am 78 ?_
     refine aq 79 (q_not rfl rfl) ?_
     refine aq 80 (q_pick_true true rfl rfl rfl rfl) ?_
     refine AOps.nil ?_
     exact ⟨(), Sub.mk' (by repeat (first | exact ESub.new _ | refine ESub.put ?_ (by first | rfl | exact congrArg (fun c => some (AV.bool c)) (by first | (simp [rfold, *]; done) | (simp_all [rfold]; done))))) (by repeat (first | exact HSub.refl _ | exact HSub.none _ | exact HSub.from_new _ | exact HSub.from_from (by first | decide | omega | (dsimp only; omega)) | refine HSub.put ?_ (by first | rfl | (simp only [RW.div, hr, cond_true, cond_false]; rfl)) | refine HSub.from_put ?_ (by first | decide | omega | (dsimp only; omega)) | refine HSub.from_rm ?_ (by decide))), trivial⟩
    ·
     refine ak 78 ?_
     refine ak 79 ?_
     refine aq 80 (q_pick_false false rfl rfl rfl rfl) ?_
     refine AOps.nil ?_
     exact ⟨(), Sub.mk' (by repeat (first | exact ESub.new _ | refine ESub.put ?_ (by first | rfl | exact congrArg (fun c => some (AV.bool c)) (by first | (simp [rfold, *]; done) | (simp_all [rfold]; done))))) (by repeat (first | exact HSub.refl _ | exact HSub.none _ | exact HSub.from_new _ | exact HSub.from_from (by first | decide | omega | (dsimp only; omega)) | refine HSub.put ?_ (by first | rfl | (simp only [RW.div, hr, cond_true, cond_false]; rfl)) | refine HSub.from_put ?_ (by first | decide | omega | (dsimp only; omega)) | refine HSub.from_rm ?_ (by decide))), trivial⟩
   ·
    refine ak 75 ?_
    refine aq 76 (q_pick_false false rfl rfl rfl rfl) ?_
    refine am 77 ?_
    refine ak 78 ?_
    refine ak 79 ?_
    refine aq 80 (q_pick_false false rfl rfl rfl rfl) ?_
    refine AOps.nil ?_
    exact ⟨(), Sub.mk' (by repeat (first | exact ESub.new _ | refine ESub.put ?_ (by first | rfl | exact congrArg (fun c => some (AV.bool c)) (by first | (simp [rfold, *]; done) | (simp_all [rfold]; done))))) (by repeat (first | exact HSub.refl _ | exact HSub.none _ | exact HSub.from_new _ | exact HSub.from_from (by first | decide | omega | (dsimp only; omega)) | refine HSub.put ?_ (by first | rfl | (simp only [RW.div, hr, cond_true, cond_false]; rfl)) | refine HSub.from_put ?_ (by first | decide | omega | (dsimp only; omega)) | refine HSub.from_rm ?_ (by decide))), trivial⟩
  intro _u _
  refine AGo.split 80 rfl (fun hb8 => ?_) (fun hb8 => ?_)
  ·
   refine AGo.cond_true true rfl rfl ?_
   have hf : rfold w t = true := hb8
   refine AGo.seq ?_
   refine AGo.region ?_
   refine af 82 tok ?_
   refine al 83 tok ?_
   refine am 84 ?_
   refine am 85 ?_
   refine ax 86 (o_pure rfl Try.func53 (by kernel_rfl) rfl rfl rfl (rapply_ok t.k _ _ (rval_n h.wn _) (rval_n h.wn _))) ?_
   refine am 81 ?_
   refine aq 87 (q_extract rfl rfl rfl) ?_
   refine aq 88 (q_extract rfl rfl rfl) ?_
   refine aa 11 ?_
   refine aa 12 ?_
   refine AOps.nil ?_
   refine AGo.seq ?_
   refine AGo.draw mix ?_
   refine dm 89 ?_
   refine dq 90 (q_nilCheck rfl rfl rfl) ?_
   refine df 91 tok ?_
   refine dl 92 tok ?_
   refine df 93 tok ?_
   refine dl 94 tok ?_
   refine dm 95 ?_
   refine dq 96 (q_nilCheck rfl rfl rfl) ?_
   refine df 97 tok ?_
   refine dl 98 tok ?_
   refine dm 99 ?_
   refine dq 100 (q_build tok rfl rfl rfl rfl rfl (by decide) rfl rfl rfl) ?_
   refine dx 101 (o_call (hc := (hput (hput hNew 4 (.row false 1 [[slA 9 ((w.L).map RVal.cells)]])) 9 (slO 9 ((w.L).map RVal.cells)))) (hw := (hput (hput hNone 4 (.row false 1 [[slA 9 (((rnum w.L ⟨1, 0, 0, 0, 0, 0, 0, 0, (wapp t.k (rconst w.L (rget w.regs t.a)).1 (rconst w.L (rget w.regs t.b)).1).1⟩).2).map RVal.cells)]])) 9 (slO 9 (((rnum w.L ⟨1, 0, 0, 0, 0, 0, 0, 0, (wapp t.k (rconst w.L (rget w.regs t.a)).1 (rconst w.L (rget w.regs t.b)).1).1⟩).2).map RVal.cells)))) [9, 4] [(4, (.row false 1 [[slA 9 (((rnum w.L ⟨1, 0, 0, 0, 0, 0, 0, 0, (wapp t.k (rconst w.L (rget w.regs t.a)).1 (rconst w.L (rget w.regs t.b)).1).1⟩).2).map RVal.cells)]])), (9, (slO 9 (((rnum w.L ⟨1, 0, 0, 0, 0, 0, 0, 0, (wapp t.k (rconst w.L (rget w.regs t.a)).1 (rconst w.L (rget w.regs t.b)).1).1⟩).2).map RVal.cells)))] rfl Try.func38 (by kernel_rfl) rfl rfl rfl ⟨⟨_, rfl, (by first | rfl | exact slO_avoid _ _ | exact rtab_avoid _ rfl | exact rwlk_avoid _ _ _ rfl rfl rfl)⟩, ⟨_, rfl, (by first | rfl | exact slO_avoid _ _ | exact rtab_avoid _ rfl | exact rwlk_avoid _ _ _ rfl rfl rfl)⟩, trivial⟩ rfl (hres_cons rfl (hres_cons rfl (hres_nil _))) ⟨⟨_, rfl, rfl, (by first | rfl | exact slO_avoid _ _ | exact rtab_avoid _ rfl | exact rwlk_avoid _ _ _ rfl rfl rfl)⟩, ⟨_, rfl, rfl, (by first | rfl | exact slO_avoid _ _ | exact rtab_avoid _ rfl | exact rwlk_avoid _ _ _ rfl rfl rfl)⟩, trivial⟩ rfl (rof_ok w.L (by omega) ⟨1, 0, 0, 0, 0, 0, 0, 0, (wapp t.k (rconst w.L (rget w.regs t.a)).1 (rconst w.L (rget w.regs t.b)).1).1⟩)) ?_
   refine dq 102 (q_indexJ tok rfl rfl rfl rfl rfl rfl rfl rfl hxd.1 hxd.2.2.1) ?_
   refine DOps.w rfl rfl (o_storeJ tok rfl rfl rfl rfl rfl rfl rfl (by have h1 := hxd.2.2.1; have h0 := hxd.1; show t.d.toNat < (valC w.regs).length; omega) (valC_one _) rfl rfl rfl) ?_
   refine DOps.nil (by kernel_rfl) ?_
   refine AGo.ret ?_
   refine ⟨[], trivial, rfl, ?_⟩
   rw [rbin_db, rapplyV_c hf]
   exact (HSub.put (HSub.put (HSub.put (HSub.put (HSub.put (HSub.none _) rfl) rfl) (by show _ = some (AObj.row false 4 [[.ptr 4 1 0 0, slA 7 (valC (rset w.regs t.d _)), slA 11 ((w.div t).out.map REff.cells), .int .i64 w.time]]); rw [valC_slA]; rfl)) (by show _ = some (slO 1 (valC (rset w.regs t.d _))); rw [valC_set]; rfl)) rfl)
  ·
   refine AGo.cond_false false rfl rfl ?_
   have hf : rfold w t = false := hb8
   refine AGo.skip ?_
   refine AGo.draw mix ?_
   refine dm 103 ?_
   refine dq 104 (q_nilCheck rfl rfl rfl) ?_
   refine df 105 tok ?_
   refine dl 106 tok ?_
   refine df 107 tok ?_
   refine dl 108 tok ?_
   refine dm 109 ?_
   refine dq 110 (q_nilCheck rfl rfl rfl) ?_
   refine df 111 tok ?_
   refine dl 112 tok ?_
   refine df 113 tok ?_
   refine dl 114 tok ?_
   refine dm 115 ?_
   refine dm 116 ?_
   refine dq 117 (q_build tok rfl rfl rfl rfl rfl (by decide) rfl rfl rfl) ?_
   refine dx 118 (o_call (hc := (hput (hput hNew 4 (.row false 1 [[slA 9 ((w.L).map RVal.cells)]])) 9 (slO 9 ((w.L).map RVal.cells)))) (hw := (hput (hput hNone 4 (.row false 1 [[slA 9 (((rnum w.L ⟨3, t.k, (rget w.regs t.a), (rget w.regs t.b), 0, 0, 0, 0, 0⟩).2).map RVal.cells)]])) 9 (slO 9 (((rnum w.L ⟨3, t.k, (rget w.regs t.a), (rget w.regs t.b), 0, 0, 0, 0, 0⟩).2).map RVal.cells)))) [9, 4] [(4, (.row false 1 [[slA 9 (((rnum w.L ⟨3, t.k, (rget w.regs t.a), (rget w.regs t.b), 0, 0, 0, 0, 0⟩).2).map RVal.cells)]])), (9, (slO 9 (((rnum w.L ⟨3, t.k, (rget w.regs t.a), (rget w.regs t.b), 0, 0, 0, 0, 0⟩).2).map RVal.cells)))] rfl Try.func38 (by kernel_rfl) rfl rfl rfl ⟨⟨_, rfl, (by first | rfl | exact slO_avoid _ _ | exact rtab_avoid _ rfl | exact rwlk_avoid _ _ _ rfl rfl rfl)⟩, ⟨_, rfl, (by first | rfl | exact slO_avoid _ _ | exact rtab_avoid _ rfl | exact rwlk_avoid _ _ _ rfl rfl rfl)⟩, trivial⟩ rfl (hres_cons rfl (hres_cons rfl (hres_nil _))) ⟨⟨_, rfl, rfl, (by first | rfl | exact slO_avoid _ _ | exact rtab_avoid _ rfl | exact rwlk_avoid _ _ _ rfl rfl rfl)⟩, ⟨_, rfl, rfl, (by first | rfl | exact slO_avoid _ _ | exact rtab_avoid _ rfl | exact rwlk_avoid _ _ _ rfl rfl rfl)⟩, trivial⟩ rfl (rof_ok w.L (by omega) ⟨3, t.k, (rget w.regs t.a), (rget w.regs t.b), 0, 0, 0, 0, 0⟩)) ?_
   refine dq 119 (q_indexJ tok rfl rfl rfl rfl rfl rfl rfl rfl hxd.1 hxd.2.2.1) ?_
   refine DOps.w rfl rfl (o_storeJ tok rfl rfl rfl rfl rfl rfl rfl (by have h1 := hxd.2.2.1; have h0 := hxd.1; show t.d.toNat < (valC w.regs).length; omega) (valC_one _) rfl rfl rfl) ?_
   refine DOps.nil (by kernel_rfl) ?_
   refine ⟨[], trivial, rfl, ?_⟩
   rw [rbin_db, rapplyV_o hf]
   exact (HSub.put (HSub.put (HSub.put (HSub.put (HSub.put (HSub.none _) rfl) rfl) (by show _ = some (AObj.row false 4 [[.ptr 4 1 0 0, slA 7 (valC (rset w.regs t.d _)), slA 11 ((w.div t).out.map REff.cells), .int .i64 w.time]]); rw [valC_slA]; rfl)) (by show _ = some (slO 1 (valC (rset w.regs t.d _))); rw [valC_set]; rfl)) rfl)
 ·
  refine AGo.cond_false false rfl rfl ?_
  have hr : rrisky w t = false := hb5
  refine AGo.skip ?_
  refine AGo.seq ?_
  refine AGo.seq ?_
  refine AGo.join (γ := Unit) (fun _u => ⟨120, (eput (eput (eput (eput (eput (eput (eput eNew 0 (.ptr 8 1 0 0)) 3 (.ptr 12 1 0 0)) 4 (.int .i64 (rget w.regs t.a))) 5 (.int .i64 (rget w.regs t.b))) 6 (.int .u32 (rconst w.L (rget w.regs t.a)).1)) 8 (.int .u32 (rconst w.L (rget w.regs t.b)).1)) 80 (.bool (rfold w t))), (hput (hput (hput (hput (hput (hput (hFrom 13) 12 (.row false 8 [t.cells])) 4 (.row false 1 [[slA 9 ((w.L).map RVal.cells)]])) 9 (slO 9 ((w.L).map RVal.cells))) 8 (.row false 4 [[.ptr 4 1 0 0, slA 7 (valC (w.regs)), slA 11 (((w.div t).out).map REff.cells), .int .i64 (w.time)]])) 7 (slO 1 (valC (w.regs)))) 11 (slO 6 (((w.div t).out).map REff.cells)))⟩) (fun _u => True) ?_ ?_
  ·
   refine AGo.region ?_
   refine am 73 ?_
   refine am 74 ?_
   refine AOps.split 74 rfl (fun hb9 => ?_) (fun hb9 => ?_)
   ·
    refine am 75 ?_
    refine aq 76 (q_pick_true true rfl rfl rfl rfl) ?_
    refine am 77 ?_
    refine AOps.split 77 rfl (fun hb10 => ?_) (fun hb10 => ?_)
    ·
     refine am 78 ?_
     refine aq 79 (q_not rfl rfl) ?_
     refine aq 80 (q_pick_true true rfl rfl rfl rfl) ?_
     refine AOps.nil ?_
     exact ⟨(), Sub.mk' (by repeat (first | exact ESub.new _ | refine ESub.put ?_ (by first | rfl | exact congrArg (fun c => some (AV.bool c)) (by first | (simp [rfold, *]; done) | (simp_all [rfold]; done))))) (by repeat (first | exact HSub.refl _ | exact HSub.none _ | exact HSub.from_new _ | exact HSub.from_from (by first | decide | omega | (dsimp only; omega)) | refine HSub.put ?_ (by first | rfl | (simp only [RW.div, hr, cond_true, cond_false]; rfl)) | refine HSub.from_put ?_ (by first | decide | omega | (dsimp only; omega)) | refine HSub.from_rm ?_ (by decide))), trivial⟩
    ·
     refine ak 78 ?_
     refine ak 79 ?_
     refine aq 80 (q_pick_false false rfl rfl rfl rfl) ?_
     refine AOps.nil ?_
     exact ⟨(), Sub.mk' (by repeat (first | exact ESub.new _ | refine ESub.put ?_ (by first | rfl | exact congrArg (fun c => some (AV.bool c)) (by first | (simp [rfold, *]; done) | (simp_all [rfold]; done))))) (by repeat (first | exact HSub.refl _ | exact HSub.none _ | exact HSub.from_new _ | exact HSub.from_from (by first | decide | omega | (dsimp only; omega)) | refine HSub.put ?_ (by first | rfl | (simp only [RW.div, hr, cond_true, cond_false]; rfl)) | refine HSub.from_put ?_ (by first | decide | omega | (dsimp only; omega)) | refine HSub.from_rm ?_ (by decide))), trivial⟩
   ·
    refine ak 75 ?_
    refine aq 76 (q_pick_false false rfl rfl rfl rfl) ?_
    refine am 77 ?_
    refine ak 78 ?_
    refine ak 79 ?_
    refine aq 80 (q_pick_false false rfl rfl rfl rfl) ?_
    refine AOps.nil ?_
    exact ⟨(), Sub.mk' (by repeat (first | exact ESub.new _ | refine ESub.put ?_ (by first | rfl | exact congrArg (fun c => some (AV.bool c)) (by first | (simp [rfold, *]; done) | (simp_all [rfold]; done))))) (by repeat (first | exact HSub.refl _ | exact HSub.none _ | exact HSub.from_new _ | exact HSub.from_from (by first | decide | omega | (dsimp only; omega)) | refine HSub.put ?_ (by first | rfl | (simp only [RW.div, hr, cond_true, cond_false]; rfl)) | refine HSub.from_put ?_ (by first | decide | omega | (dsimp only; omega)) | refine HSub.from_rm ?_ (by decide))), trivial⟩
  intro _u _
  refine AGo.split 80 rfl (fun hb11 => ?_) (fun hb11 => ?_)
  ·
   refine AGo.cond_true true rfl rfl ?_
   have hf : rfold w t = true := hb11
   refine AGo.seq ?_
   refine AGo.region ?_
   refine af 82 tok ?_
   refine al 83 tok ?_
   refine am 84 ?_
   refine am 85 ?_
   refine ax 86 (o_pure rfl Try.func53 (by kernel_rfl) rfl rfl rfl (rapply_ok t.k _ _ (rval_n h.wn _) (rval_n h.wn _))) ?_
   refine am 81 ?_
   refine aq 87 (q_extract rfl rfl rfl) ?_
   refine aq 88 (q_extract rfl rfl rfl) ?_
   refine aa 11 ?_
   refine aa 12 ?_
   refine AOps.nil ?_
   refine AGo.seq ?_
   refine AGo.draw mix ?_
   refine dm 89 ?_
   refine dq 90 (q_nilCheck rfl rfl rfl) ?_
   refine df 91 tok ?_
   refine dl 92 tok ?_
   refine df 93 tok ?_
   refine dl 94 tok ?_
   refine dm 95 ?_
   refine dq 96 (q_nilCheck rfl rfl rfl) ?_
   refine df 97 tok ?_
   refine dl 98 tok ?_
   refine dm 99 ?_
   refine dq 100 (q_build tok rfl rfl rfl rfl rfl (by decide) rfl rfl rfl) ?_
   refine dx 101 (o_call (hc := (hput (hput hNew 4 (.row false 1 [[slA 9 ((w.L).map RVal.cells)]])) 9 (slO 9 ((w.L).map RVal.cells)))) (hw := (hput (hput hNone 4 (.row false 1 [[slA 9 (((rnum w.L ⟨1, 0, 0, 0, 0, 0, 0, 0, (wapp t.k (rconst w.L (rget w.regs t.a)).1 (rconst w.L (rget w.regs t.b)).1).1⟩).2).map RVal.cells)]])) 9 (slO 9 (((rnum w.L ⟨1, 0, 0, 0, 0, 0, 0, 0, (wapp t.k (rconst w.L (rget w.regs t.a)).1 (rconst w.L (rget w.regs t.b)).1).1⟩).2).map RVal.cells)))) [9, 4] [(4, (.row false 1 [[slA 9 (((rnum w.L ⟨1, 0, 0, 0, 0, 0, 0, 0, (wapp t.k (rconst w.L (rget w.regs t.a)).1 (rconst w.L (rget w.regs t.b)).1).1⟩).2).map RVal.cells)]])), (9, (slO 9 (((rnum w.L ⟨1, 0, 0, 0, 0, 0, 0, 0, (wapp t.k (rconst w.L (rget w.regs t.a)).1 (rconst w.L (rget w.regs t.b)).1).1⟩).2).map RVal.cells)))] rfl Try.func38 (by kernel_rfl) rfl rfl rfl ⟨⟨_, rfl, (by first | rfl | exact slO_avoid _ _ | exact rtab_avoid _ rfl | exact rwlk_avoid _ _ _ rfl rfl rfl)⟩, ⟨_, rfl, (by first | rfl | exact slO_avoid _ _ | exact rtab_avoid _ rfl | exact rwlk_avoid _ _ _ rfl rfl rfl)⟩, trivial⟩ rfl (hres_cons rfl (hres_cons rfl (hres_nil _))) ⟨⟨_, rfl, rfl, (by first | rfl | exact slO_avoid _ _ | exact rtab_avoid _ rfl | exact rwlk_avoid _ _ _ rfl rfl rfl)⟩, ⟨_, rfl, rfl, (by first | rfl | exact slO_avoid _ _ | exact rtab_avoid _ rfl | exact rwlk_avoid _ _ _ rfl rfl rfl)⟩, trivial⟩ rfl (rof_ok w.L (by omega) ⟨1, 0, 0, 0, 0, 0, 0, 0, (wapp t.k (rconst w.L (rget w.regs t.a)).1 (rconst w.L (rget w.regs t.b)).1).1⟩)) ?_
   refine dq 102 (q_indexJ tok rfl rfl rfl rfl rfl rfl rfl rfl hxd.1 hxd.2.2.1) ?_
   refine DOps.w rfl rfl (o_storeJ tok rfl rfl rfl rfl rfl rfl rfl (by have h1 := hxd.2.2.1; have h0 := hxd.1; show t.d.toNat < (valC w.regs).length; omega) (valC_one _) rfl rfl rfl) ?_
   refine DOps.nil (by kernel_rfl) ?_
   refine AGo.ret ?_
   refine ⟨[], trivial, rfl, ?_⟩
   rw [rbin_db, rapplyV_c hf]
   exact (HSub.put (HSub.put (HSub.put (HSub.put (HSub.put (HSub.none _) rfl) rfl) (by show _ = some (AObj.row false 4 [[.ptr 4 1 0 0, slA 7 (valC (rset w.regs t.d _)), slA 11 ((w.div t).out.map REff.cells), .int .i64 w.time]]); rw [valC_slA]; rfl)) (by show _ = some (slO 1 (valC (rset w.regs t.d _))); rw [valC_set]; rfl)) rfl)
  ·
   refine AGo.cond_false false rfl rfl ?_
   have hf : rfold w t = false := hb11
   refine AGo.skip ?_
   refine AGo.draw mix ?_
   refine dm 103 ?_
   refine dq 104 (q_nilCheck rfl rfl rfl) ?_
   refine df 105 tok ?_
   refine dl 106 tok ?_
   refine df 107 tok ?_
   refine dl 108 tok ?_
   refine dm 109 ?_
   refine dq 110 (q_nilCheck rfl rfl rfl) ?_
   refine df 111 tok ?_
   refine dl 112 tok ?_
   refine df 113 tok ?_
   refine dl 114 tok ?_
   refine dm 115 ?_
   refine dm 116 ?_
   refine dq 117 (q_build tok rfl rfl rfl rfl rfl (by decide) rfl rfl rfl) ?_
   refine dx 118 (o_call (hc := (hput (hput hNew 4 (.row false 1 [[slA 9 ((w.L).map RVal.cells)]])) 9 (slO 9 ((w.L).map RVal.cells)))) (hw := (hput (hput hNone 4 (.row false 1 [[slA 9 (((rnum w.L ⟨3, t.k, (rget w.regs t.a), (rget w.regs t.b), 0, 0, 0, 0, 0⟩).2).map RVal.cells)]])) 9 (slO 9 (((rnum w.L ⟨3, t.k, (rget w.regs t.a), (rget w.regs t.b), 0, 0, 0, 0, 0⟩).2).map RVal.cells)))) [9, 4] [(4, (.row false 1 [[slA 9 (((rnum w.L ⟨3, t.k, (rget w.regs t.a), (rget w.regs t.b), 0, 0, 0, 0, 0⟩).2).map RVal.cells)]])), (9, (slO 9 (((rnum w.L ⟨3, t.k, (rget w.regs t.a), (rget w.regs t.b), 0, 0, 0, 0, 0⟩).2).map RVal.cells)))] rfl Try.func38 (by kernel_rfl) rfl rfl rfl ⟨⟨_, rfl, (by first | rfl | exact slO_avoid _ _ | exact rtab_avoid _ rfl | exact rwlk_avoid _ _ _ rfl rfl rfl)⟩, ⟨_, rfl, (by first | rfl | exact slO_avoid _ _ | exact rtab_avoid _ rfl | exact rwlk_avoid _ _ _ rfl rfl rfl)⟩, trivial⟩ rfl (hres_cons rfl (hres_cons rfl (hres_nil _))) ⟨⟨_, rfl, rfl, (by first | rfl | exact slO_avoid _ _ | exact rtab_avoid _ rfl | exact rwlk_avoid _ _ _ rfl rfl rfl)⟩, ⟨_, rfl, rfl, (by first | rfl | exact slO_avoid _ _ | exact rtab_avoid _ rfl | exact rwlk_avoid _ _ _ rfl rfl rfl)⟩, trivial⟩ rfl (rof_ok w.L (by omega) ⟨3, t.k, (rget w.regs t.a), (rget w.regs t.b), 0, 0, 0, 0, 0⟩)) ?_
   refine dq 119 (q_indexJ tok rfl rfl rfl rfl rfl rfl rfl rfl hxd.1 hxd.2.2.1) ?_
   refine DOps.w rfl rfl (o_storeJ tok rfl rfl rfl rfl rfl rfl rfl (by have h1 := hxd.2.2.1; have h0 := hxd.1; show t.d.toNat < (valC w.regs).length; omega) (valC_one _) rfl rfl rfl) ?_
   refine DOps.nil (by kernel_rfl) ?_
   refine ⟨[], trivial, rfl, ?_⟩
   rw [rbin_db, rapplyV_o hf]
   exact (HSub.put (HSub.put (HSub.put (HSub.put (HSub.put (HSub.none _) rfl) rfl) (by show _ = some (AObj.row false 4 [[.ptr 4 1 0 0, slA 7 (valC (rset w.regs t.d _)), slA 11 ((w.div t).out.map REff.cells), .int .i64 w.time]]); rw [valC_slA]; rfl)) (by show _ = some (slO 1 (valC (rset w.regs t.d _))); rw [valC_set]; rfl)) rfl)

set_option maxHeartbeats 2000000 in
set_option maxRecDepth 100000 in
theorem rstepb_ok (R m : Nat) (w : RW) (h : ROk R m w) (hm : m ≤ 80000) (t : Tac) (ht : TacV t R) : ACall Try.prog 49 [.ptr 8 1 0 0, .agg t.cells] (hput (hput (hput (hput (hput hNew 4 (.row false 1 [[slA 9 (((w).L).map RVal.cells)]])) 9 (slO 9 (((w).L).map RVal.cells))) 8 (.row false 4 [[.ptr 4 1 0 0, slA 7 (valC ((w).regs)), slA 11 (((w).out).map REff.cells), .int .i64 ((w).time)]])) 7 (slO 1 (valC ((w).regs)))) 11 (slO 6 (((w).out).map REff.cells))) (fun r h' => r = .tup [] ∧ HSub (hput (hput (hput (hput (hput hNone 4 (.row false 1 [[slA 9 ((((w.step t)).L).map RVal.cells)]])) 9 (slO 9 ((((w.step t)).L).map RVal.cells))) 8 (.row false 4 [[.ptr 4 1 0 0, slA 7 (valC (((w.step t)).regs)), slA 11 ((((w.step t)).out).map REff.cells), .int .i64 (((w.step t)).time)]])) 7 (slO 1 (valC (((w.step t)).regs)))) 11 (slO 6 ((((w.step t)).out).map REff.cells))) h') := by
 have hel := h.el
 have hkl := h.kl
 have htl := h.tl
 refine ACall.of_body (n := 209) tok Try.func49 rfl rfl ?_
 refine AGo.seq ?_
 refine AGo.region ?_
 refine ax 3 (o_box (sz := 8) 12 rfl rfl rfl rfl (Nat.zero_lt_succ _) rfl) ?_
 refine AOps.nil ?_
 refine AGo.seq ?_
 refine AGo.region ?_
 refine af 6 tok ?_
 refine al 7 tok ?_
 refine AOps.nil ?_
 refine AGo.block ?_
 refine AGo.seq ?_
 refine AGo.region ?_
 refine aq 23 (q_bin rfl rfl rfl rfl) ?_
 refine aa 22 ?_
 refine AOps.nil ?_
 refine AGo.split 22 rfl (fun hb1 => ?_) (fun hb1 => ?_)
 ·
  refine AGo.cond_true true rfl rfl ?_
  have ho : t.op = 1 := by simpa using hb1
  have hxd := h.at (ht.d (by rw [ho]; rfl))
  
  refine AGo.draw mix ?_
  refine dm 24 ?_
  refine dq 25 (q_nilCheck rfl rfl rfl) ?_
  refine df 26 tok ?_
  refine dl 27 tok ?_
  refine df 28 tok ?_
  refine dl 29 tok ?_
  refine dm 30 ?_
  refine dq 31 (q_nilCheck rfl rfl rfl) ?_
  refine df 32 tok ?_
  refine dl 33 tok ?_
  refine df 34 tok ?_
  refine dl 35 tok ?_
  refine dq 36 (q_build tok rfl rfl rfl rfl rfl (by decide) rfl rfl rfl) ?_
  refine dx 37 (o_call (hc := (hput (hput hNew 4 (.row false 1 [[slA 9 ((w.L).map RVal.cells)]])) 9 (slO 9 ((w.L).map RVal.cells)))) (hw := (hput (hput hNone 4 (.row false 1 [[slA 9 (((rnum w.L ⟨1, 0, 0, 0, 0, 0, 0, 0, t.n⟩).2).map RVal.cells)]])) 9 (slO 9 (((rnum w.L ⟨1, 0, 0, 0, 0, 0, 0, 0, t.n⟩).2).map RVal.cells)))) [9, 4] [(4, (.row false 1 [[slA 9 (((rnum w.L ⟨1, 0, 0, 0, 0, 0, 0, 0, t.n⟩).2).map RVal.cells)]])), (9, (slO 9 (((rnum w.L ⟨1, 0, 0, 0, 0, 0, 0, 0, t.n⟩).2).map RVal.cells)))] rfl Try.func38 (by kernel_rfl) rfl rfl rfl ⟨⟨_, rfl, (by first | rfl | exact slO_avoid _ _ | exact rtab_avoid _ rfl | exact rwlk_avoid _ _ _ rfl rfl rfl)⟩, ⟨_, rfl, (by first | rfl | exact slO_avoid _ _ | exact rtab_avoid _ rfl | exact rwlk_avoid _ _ _ rfl rfl rfl)⟩, trivial⟩ rfl (hres_cons rfl (hres_cons rfl (hres_nil _))) ⟨⟨_, rfl, rfl, (by first | rfl | exact slO_avoid _ _ | exact rtab_avoid _ rfl | exact rwlk_avoid _ _ _ rfl rfl rfl)⟩, ⟨_, rfl, rfl, (by first | rfl | exact slO_avoid _ _ | exact rtab_avoid _ rfl | exact rwlk_avoid _ _ _ rfl rfl rfl)⟩, trivial⟩ rfl (rof_ok w.L (by omega) ⟨1, 0, 0, 0, 0, 0, 0, 0, t.n⟩)) ?_
  refine dq 38 (q_indexJ tok rfl rfl rfl rfl rfl rfl rfl rfl hxd.1 hxd.2.2.1) ?_
  refine DOps.w rfl rfl (o_storeJ tok rfl rfl rfl rfl rfl rfl rfl (by have h1 := hxd.2.2.1; have h0 := hxd.1; show t.d.toNat < (valC w.regs).length; omega) (valC_one _) rfl rfl rfl) ?_
  refine DOps.nil (by kernel_rfl) ?_
  refine ⟨[], trivial, rfl, ?_⟩
  rw [rstep1 ho]
  exact (HSub.put (HSub.put (HSub.put (HSub.put (HSub.put (HSub.none _) rfl) rfl) (by show _ = some (AObj.row false 4 [[.ptr 4 1 0 0, slA 7 (valC (rset w.regs t.d _)), slA 11 (w.out.map REff.cells), .int .i64 w.time]]); rw [valC_slA]; rfl)) (by show _ = some (slO 1 (valC (rset w.regs t.d _))); rw [valC_set]; rfl)) rfl)
 ·
  refine AGo.cond_false false rfl rfl ?_
  refine AGo.seq ?_
  refine AGo.region ?_
  refine aq 40 (q_bin rfl rfl rfl rfl) ?_
  refine aa 39 ?_
  refine AOps.nil ?_
  refine AGo.split 39 rfl (fun hb2 => ?_) (fun hb2 => ?_)
  ·
   refine AGo.cond_true true rfl rfl ?_
   have ho : t.op = 2 := by simpa using hb2
   have hxd := h.at (ht.d (by rw [ho]; rfl))
   have hxa := h.at (ht.a (.inl (by rw [ho]; rfl)))
   
   refine AGo.draw mix ?_
   refine dm 41 ?_
   refine dq 42 (q_nilCheck rfl rfl rfl) ?_
   refine df 43 tok ?_
   refine dl 44 tok ?_
   refine df 45 tok ?_
   refine dl 46 tok ?_
   refine dm 47 ?_
   refine dq 48 (q_nilCheck rfl rfl rfl) ?_
   refine df 49 tok ?_
   refine dl 50 tok ?_
   refine df 51 tok ?_
   refine dl 52 tok ?_
   refine dq 53 (q_indexJ tok rfl rfl rfl rfl rfl rfl rfl rfl hxa.1 hxa.2.2.1) ?_
   refine dq 54 (q_load tok rfl rfl rfl (ptsJ rfl (valC_get ⟨hxa.1, hxa.2.1⟩)) rfl) ?_
   refine dq 55 (q_indexJ tok rfl rfl rfl rfl rfl rfl rfl rfl hxd.1 hxd.2.2.1) ?_
   refine DOps.w rfl rfl (o_storeJ tok rfl rfl rfl rfl rfl rfl rfl (by have h1 := hxd.2.2.1; have h0 := hxd.1; show t.d.toNat < (valC w.regs).length; omega) (valC_one _) rfl rfl rfl) ?_
   refine DOps.nil (by kernel_rfl) ?_
   refine ⟨[], trivial, rfl, ?_⟩
   rw [rstep2 ho]
   exact (HSub.put (HSub.put (HSub.put (HSub.put (HSub.put (HSub.none _) rfl) rfl) (by show _ = some (AObj.row false 4 [[.ptr 4 1 0 0, slA 7 (valC (rset w.regs t.d _)), slA 11 (w.out.map REff.cells), .int .i64 w.time]]); rw [valC_slA]; rfl)) (by show _ = some (slO 1 (valC (rset w.regs t.d _))); rw [valC_set]; rfl)) rfl)
  ·
   refine AGo.cond_false false rfl rfl ?_
   refine AGo.seq ?_
   refine AGo.region ?_
   refine aq 57 (q_bin rfl rfl rfl rfl) ?_
   refine aa 56 ?_
   refine AOps.nil ?_
   refine AGo.split 56 rfl (fun hb3 => ?_) (fun hb3 => ?_)
   ·
    refine AGo.cond_true true rfl rfl ?_
    have ho : t.op = 3 := by simpa using hb3
    
    refine AGo.region ?_
    refine am 58 ?_
    refine al 59 tok ?_
    refine ax 60 (o_call (hc := (hput (hput (hput (hput (hput hNew 4 (.row false 1 [[slA 9 (((w).L).map RVal.cells)]])) 9 (slO 9 (((w).L).map RVal.cells))) 8 (.row false 4 [[.ptr 4 1 0 0, slA 7 (valC ((w).regs)), slA 11 (((w).out).map REff.cells), .int .i64 ((w).time)]])) 7 (slO 1 (valC ((w).regs)))) 11 (slO 6 (((w).out).map REff.cells)))) (hw := (hput (hput (hput (hput (hput hNone 4 (.row false 1 [[slA 9 ((((w.bin t)).L).map RVal.cells)]])) 9 (slO 9 ((((w.bin t)).L).map RVal.cells))) 8 (.row false 4 [[.ptr 4 1 0 0, slA 7 (valC (((w.bin t)).regs)), slA 11 ((((w.bin t)).out).map REff.cells), .int .i64 (((w.bin t)).time)]])) 7 (slO 1 (valC (((w.bin t)).regs)))) 11 (slO 6 ((((w.bin t)).out).map REff.cells)))) [11, 7, 8, 9, 4] [(4, (.row false 1 [[slA 9 ((((w.bin t)).L).map RVal.cells)]])), (9, (slO 9 ((((w.bin t)).L).map RVal.cells))), (8, (.row false 4 [[.ptr 4 1 0 0, slA 7 (valC (((w.bin t)).regs)), slA 11 ((((w.bin t)).out).map REff.cells), .int .i64 (((w.bin t)).time)]])), (7, (slO 1 (valC (((w.bin t)).regs)))), (11, (slO 6 ((((w.bin t)).out).map REff.cells)))] rfl Try.func58 (by kernel_rfl) rfl rfl rfl ⟨⟨_, rfl, (by first | rfl | exact slO_avoid _ _ | exact rtab_avoid _ rfl | exact rwlk_avoid _ _ _ rfl rfl rfl)⟩, ⟨_, rfl, (by first | rfl | exact slO_avoid _ _ | exact rtab_avoid _ rfl | exact rwlk_avoid _ _ _ rfl rfl rfl)⟩, ⟨_, rfl, (by first | rfl | exact slO_avoid _ _ | exact rtab_avoid _ rfl | exact rwlk_avoid _ _ _ rfl rfl rfl)⟩, ⟨_, rfl, (by first | rfl | exact slO_avoid _ _ | exact rtab_avoid _ rfl | exact rwlk_avoid _ _ _ rfl rfl rfl)⟩, ⟨_, rfl, (by first | rfl | exact slO_avoid _ _ | exact rtab_avoid _ rfl | exact rwlk_avoid _ _ _ rfl rfl rfl)⟩, trivial⟩ rfl (hres_cons rfl (hres_cons rfl (hres_cons rfl (hres_cons rfl (hres_cons rfl (hres_nil _)))))) ⟨⟨_, rfl, rfl, (by first | rfl | exact slO_avoid _ _ | exact rtab_avoid _ rfl | exact rwlk_avoid _ _ _ rfl rfl rfl)⟩, ⟨_, rfl, rfl, (by first | rfl | exact slO_avoid _ _ | exact rtab_avoid _ rfl | exact rwlk_avoid _ _ _ rfl rfl rfl)⟩, ⟨_, rfl, rfl, (by first | rfl | exact slO_avoid _ _ | exact rtab_avoid _ rfl | exact rwlk_avoid _ _ _ rfl rfl rfl)⟩, ⟨_, rfl, rfl, (by first | rfl | exact slO_avoid _ _ | exact rtab_avoid _ rfl | exact rwlk_avoid _ _ _ rfl rfl rfl)⟩, ⟨_, rfl, rfl, (by first | rfl | exact slO_avoid _ _ | exact rtab_avoid _ rfl | exact rwlk_avoid _ _ _ rfl rfl rfl)⟩, trivial⟩ rfl (rbinb_ok R m w h (by omega) t (ht.d (by rw [ho]; rfl)) (ht.a (.inr (by rw [ho]; rfl))) (ht.b (by rw [ho]; rfl)))) ?_
    refine AOps.nil ?_
    refine ⟨[], trivial, rfl, ?_⟩
    rw [rstep3 ho]
    exact (HSub.put (HSub.put (HSub.put (HSub.put (HSub.put (HSub.none _) rfl) rfl) rfl) rfl) rfl)
   ·
    refine AGo.cond_false false rfl rfl ?_
    refine AGo.seq ?_
    refine AGo.region ?_
    refine aq 62 (q_bin rfl rfl rfl rfl) ?_
    refine aa 61 ?_
    refine AOps.nil ?_
    refine AGo.split 61 rfl (fun hb4 => ?_) (fun hb4 => ?_)
    ·
     refine AGo.cond_true true rfl rfl ?_
     have ho : t.op = 4 := by simpa using hb4
     have hxd := h.at (ht.d (by rw [ho]; rfl))
     
     refine AGo.draw mix ?_
     refine dm 63 ?_
     refine dq 64 (q_nilCheck rfl rfl rfl) ?_
     refine df 65 tok ?_
     refine dl 66 tok ?_
     refine df 67 tok ?_
     refine dl 68 tok ?_
     refine dm 69 ?_
     refine dq 70 (q_nilCheck rfl rfl rfl) ?_
     refine df 71 tok ?_
     refine dl 72 tok ?_
     refine df 73 tok ?_
     refine dl 74 tok ?_
     refine dm 75 ?_
     refine dq 76 (q_nilCheck rfl rfl rfl) ?_
     refine df 77 tok ?_
     refine dl 78 tok ?_
     refine dq 79 (q_build tok rfl rfl rfl rfl rfl (by decide) rfl rfl rfl) ?_
     refine dx 80 (o_call (hc := (hput (hput hNew 4 (.row false 1 [[slA 9 ((w.L).map RVal.cells)]])) 9 (slO 9 ((w.L).map RVal.cells)))) (hw := (hput (hput hNone 4 (.row false 1 [[slA 9 (((rnum w.L ⟨4, 0, 0, 0, 0, 0, t.base, w.time, 0⟩).2).map RVal.cells)]])) 9 (slO 9 (((rnum w.L ⟨4, 0, 0, 0, 0, 0, t.base, w.time, 0⟩).2).map RVal.cells)))) [9, 4] [(4, (.row false 1 [[slA 9 (((rnum w.L ⟨4, 0, 0, 0, 0, 0, t.base, w.time, 0⟩).2).map RVal.cells)]])), (9, (slO 9 (((rnum w.L ⟨4, 0, 0, 0, 0, 0, t.base, w.time, 0⟩).2).map RVal.cells)))] rfl Try.func38 (by kernel_rfl) rfl rfl rfl ⟨⟨_, rfl, (by first | rfl | exact slO_avoid _ _ | exact rtab_avoid _ rfl | exact rwlk_avoid _ _ _ rfl rfl rfl)⟩, ⟨_, rfl, (by first | rfl | exact slO_avoid _ _ | exact rtab_avoid _ rfl | exact rwlk_avoid _ _ _ rfl rfl rfl)⟩, trivial⟩ rfl (hres_cons rfl (hres_cons rfl (hres_nil _))) ⟨⟨_, rfl, rfl, (by first | rfl | exact slO_avoid _ _ | exact rtab_avoid _ rfl | exact rwlk_avoid _ _ _ rfl rfl rfl)⟩, ⟨_, rfl, rfl, (by first | rfl | exact slO_avoid _ _ | exact rtab_avoid _ rfl | exact rwlk_avoid _ _ _ rfl rfl rfl)⟩, trivial⟩ rfl (rof_ok w.L (by omega) ⟨4, 0, 0, 0, 0, 0, t.base, w.time, 0⟩)) ?_
     refine dq 81 (q_indexJ tok rfl rfl rfl rfl rfl rfl rfl rfl hxd.1 hxd.2.2.1) ?_
     refine DOps.w rfl rfl (o_storeJ tok rfl rfl rfl rfl rfl rfl rfl (by have h1 := hxd.2.2.1; have h0 := hxd.1; show t.d.toNat < (valC w.regs).length; omega) (valC_one _) rfl rfl rfl) ?_
     refine DOps.nil (by kernel_rfl) ?_
     refine ⟨[], trivial, rfl, ?_⟩
     rw [rstep4 ho]
     exact (HSub.put (HSub.put (HSub.put (HSub.put (HSub.put (HSub.none _) rfl) rfl) (by show _ = some (AObj.row false 4 [[.ptr 4 1 0 0, slA 7 (valC (rset w.regs t.d _)), slA 11 (w.out.map REff.cells), .int .i64 w.time]]); rw [valC_slA]; rfl)) (by show _ = some (slO 1 (valC (rset w.regs t.d _))); rw [valC_set]; rfl)) rfl)
    ·
     refine AGo.cond_false false rfl rfl ?_
     refine AGo.seq ?_
     refine AGo.region ?_
     refine aq 83 (q_bin rfl rfl rfl rfl) ?_
     refine aa 82 ?_
     refine AOps.nil ?_
     refine AGo.split 82 rfl (fun hb5 => ?_) (fun hb5 => ?_)
     ·
      refine AGo.cond_true true rfl rfl ?_
      have ho : t.op = 5 := by simpa using hb5
      have hxa := h.at (ht.a (.inl (by rw [ho]; rfl)))
      
      refine AGo.seq ?_
      refine AGo.draw mix ?_
      refine dm 84 ?_
      refine df 85 tok ?_
      refine dl 86 tok ?_
      refine df 87 tok ?_
      refine dl 88 tok ?_
      refine dm 89 ?_
      refine dq 90 (q_nilCheck rfl rfl rfl) ?_
      refine df 91 tok ?_
      refine dl 92 tok ?_
      refine df 93 tok ?_
      refine dl 94 tok ?_
      refine dq 95 (q_indexJ tok rfl rfl rfl rfl rfl rfl rfl rfl hxa.1 hxa.2.2.1) ?_
      refine dq 96 (q_load tok rfl rfl rfl (ptsJ rfl (valC_get ⟨hxa.1, hxa.2.1⟩)) rfl) ?_
      refine dq 97 (q_build tok rfl rfl rfl rfl rfl (by decide) rfl rfl rfl) ?_
      refine dx 98 (o_call (hc := (hput (hput (hput (hput (hput hNew 4 (.row false 1 [[slA 9 (((w).L).map RVal.cells)]])) 9 (slO 9 (((w).L).map RVal.cells))) 8 (.row false 4 [[.ptr 4 1 0 0, slA 7 (valC ((w).regs)), slA 11 (((w).out).map REff.cells), .int .i64 ((w).time)]])) 7 (slO 1 (valC ((w).regs)))) 11 (slO 6 (((w).out).map REff.cells)))) (hw := (hput (hput (hput (hput (hput hNone 4 (.row false 1 [[slA 9 ((((w).eff ⟨t.op, 0, t.base, 0, (rget w.regs t.a), 0⟩).L).map RVal.cells)]])) 9 (slO 9 ((((w).eff ⟨t.op, 0, t.base, 0, (rget w.regs t.a), 0⟩).L).map RVal.cells))) 8 (.row false 4 [[.ptr 4 1 0 0, slA 7 (valC (((w).eff ⟨t.op, 0, t.base, 0, (rget w.regs t.a), 0⟩).regs)), slA 11 ((((w).eff ⟨t.op, 0, t.base, 0, (rget w.regs t.a), 0⟩).out).map REff.cells), .int .i64 (((w).eff ⟨t.op, 0, t.base, 0, (rget w.regs t.a), 0⟩).time)]])) 7 (slO 1 (valC (((w).eff ⟨t.op, 0, t.base, 0, (rget w.regs t.a), 0⟩).regs)))) 11 (slO 6 ((((w).eff ⟨t.op, 0, t.base, 0, (rget w.regs t.a), 0⟩).out).map REff.cells)))) [11, 7, 8, 9, 4] [(4, (.row false 1 [[slA 9 ((((w).eff ⟨t.op, 0, t.base, 0, (rget w.regs t.a), 0⟩).L).map RVal.cells)]])), (9, (slO 9 ((((w).eff ⟨t.op, 0, t.base, 0, (rget w.regs t.a), 0⟩).L).map RVal.cells))), (8, (.row false 4 [[.ptr 4 1 0 0, slA 7 (valC (((w).eff ⟨t.op, 0, t.base, 0, (rget w.regs t.a), 0⟩).regs)), slA 11 ((((w).eff ⟨t.op, 0, t.base, 0, (rget w.regs t.a), 0⟩).out).map REff.cells), .int .i64 (((w).eff ⟨t.op, 0, t.base, 0, (rget w.regs t.a), 0⟩).time)]])), (7, (slO 1 (valC (((w).eff ⟨t.op, 0, t.base, 0, (rget w.regs t.a), 0⟩).regs)))), (11, (slO 6 ((((w).eff ⟨t.op, 0, t.base, 0, (rget w.regs t.a), 0⟩).out).map REff.cells)))] rfl Try.func59 (by kernel_rfl) rfl rfl rfl ⟨⟨_, rfl, (by first | rfl | exact slO_avoid _ _ | exact rtab_avoid _ rfl | exact rwlk_avoid _ _ _ rfl rfl rfl)⟩, ⟨_, rfl, (by first | rfl | exact slO_avoid _ _ | exact rtab_avoid _ rfl | exact rwlk_avoid _ _ _ rfl rfl rfl)⟩, ⟨_, rfl, (by first | rfl | exact slO_avoid _ _ | exact rtab_avoid _ rfl | exact rwlk_avoid _ _ _ rfl rfl rfl)⟩, ⟨_, rfl, (by first | rfl | exact slO_avoid _ _ | exact rtab_avoid _ rfl | exact rwlk_avoid _ _ _ rfl rfl rfl)⟩, ⟨_, rfl, (by first | rfl | exact slO_avoid _ _ | exact rtab_avoid _ rfl | exact rwlk_avoid _ _ _ rfl rfl rfl)⟩, trivial⟩ rfl (hres_cons rfl (hres_cons rfl (hres_cons rfl (hres_cons rfl (hres_cons rfl (hres_nil _)))))) ⟨⟨_, rfl, rfl, (by first | rfl | exact slO_avoid _ _ | exact rtab_avoid _ rfl | exact rwlk_avoid _ _ _ rfl rfl rfl)⟩, ⟨_, rfl, rfl, (by first | rfl | exact slO_avoid _ _ | exact rtab_avoid _ rfl | exact rwlk_avoid _ _ _ rfl rfl rfl)⟩, ⟨_, rfl, rfl, (by first | rfl | exact slO_avoid _ _ | exact rtab_avoid _ rfl | exact rwlk_avoid _ _ _ rfl rfl rfl)⟩, ⟨_, rfl, rfl, (by first | rfl | exact slO_avoid _ _ | exact rtab_avoid _ rfl | exact rwlk_avoid _ _ _ rfl rfl rfl)⟩, ⟨_, rfl, rfl, (by first | rfl | exact slO_avoid _ _ | exact rtab_avoid _ rfl | exact rwlk_avoid _ _ _ rfl rfl rfl)⟩, trivial⟩ rfl (reffectb_ok R m w h (by omega) ⟨t.op, 0, t.base, 0, (rget w.regs t.a), 0⟩)) ?_
      refine DOps.nil (by kernel_rfl) ?_
      refine AGo.region ?_
      refine am 99 ?_
      refine aq 100 (q_nilCheck rfl rfl rfl) ?_
      refine af 101 tok ?_
      refine al 102 tok ?_
      refine aq 103 (q_bin (r := .int .i64 (w.time + 1)) rfl rfl rfl (by exact timeZ (x := w.time) (by omega))) ?_
      refine aq 104 (q_nilCheck rfl rfl rfl) ?_
      refine af 105 tok ?_
      refine AOps.w rfl rfl (o_store tok rfl rfl rfl rfl rfl rfl rfl rfl rfl (by decide) rfl (by first | exact fun _ => rfl | (intro h; cases h))) ?_
      refine AOps.nil ?_
      refine ⟨[], trivial, rfl, ?_⟩
      rw [rstep5 ho]
      exact (HSub.put (HSub.put (HSub.put (HSub.put (HSub.put (HSub.none _) rfl) rfl) rfl) rfl) rfl)
     ·
      refine AGo.cond_false false rfl rfl ?_
      refine AGo.seq ?_
      refine AGo.region ?_
      refine aq 107 (q_bin rfl rfl rfl rfl) ?_
      refine aa 106 ?_
      refine AOps.nil ?_
      refine AGo.split 106 rfl (fun hb6 => ?_) (fun hb6 => ?_)
      ·
       refine AGo.cond_true true rfl rfl ?_
       have ho : t.op = 6 := by simpa using hb6
       have hxd := h.at (ht.d (by rw [ho]; rfl))
       have hxa := h.at (ht.a (.inl (by rw [ho]; rfl)))
       
       refine AGo.seq ?_
       refine AGo.draw mix ?_
       refine dm 108 ?_
       refine df 109 tok ?_
       refine dl 110 tok ?_
       refine df 111 tok ?_
       refine dl 112 tok ?_
       refine df 113 tok ?_
       refine dl 114 tok ?_
       refine dm 115 ?_
       refine dq 116 (q_nilCheck rfl rfl rfl) ?_
       refine df 117 tok ?_
       refine dl 118 tok ?_
       refine df 119 tok ?_
       refine dl 120 tok ?_
       refine dq 121 (q_indexJ tok rfl rfl rfl rfl rfl rfl rfl rfl hxa.1 hxa.2.2.1) ?_
       refine dq 122 (q_load tok rfl rfl rfl (ptsJ rfl (valC_get ⟨hxa.1, hxa.2.1⟩)) rfl) ?_
       refine dq 123 (q_build tok rfl rfl rfl rfl rfl (by decide) rfl rfl rfl) ?_
       refine dx 124 (o_call (hc := (hput (hput (hput (hput (hput hNew 4 (.row false 1 [[slA 9 (((w).L).map RVal.cells)]])) 9 (slO 9 (((w).L).map RVal.cells))) 8 (.row false 4 [[.ptr 4 1 0 0, slA 7 (valC ((w).regs)), slA 11 (((w).out).map REff.cells), .int .i64 ((w).time)]])) 7 (slO 1 (valC ((w).regs)))) 11 (slO 6 (((w).out).map REff.cells)))) (hw := (hput (hput (hput (hput (hput hNone 4 (.row false 1 [[slA 9 ((((w).eff ⟨t.op, 0, t.base, t.size, (rget w.regs t.a), 0⟩).L).map RVal.cells)]])) 9 (slO 9 ((((w).eff ⟨t.op, 0, t.base, t.size, (rget w.regs t.a), 0⟩).L).map RVal.cells))) 8 (.row false 4 [[.ptr 4 1 0 0, slA 7 (valC (((w).eff ⟨t.op, 0, t.base, t.size, (rget w.regs t.a), 0⟩).regs)), slA 11 ((((w).eff ⟨t.op, 0, t.base, t.size, (rget w.regs t.a), 0⟩).out).map REff.cells), .int .i64 (((w).eff ⟨t.op, 0, t.base, t.size, (rget w.regs t.a), 0⟩).time)]])) 7 (slO 1 (valC (((w).eff ⟨t.op, 0, t.base, t.size, (rget w.regs t.a), 0⟩).regs)))) 11 (slO 6 ((((w).eff ⟨t.op, 0, t.base, t.size, (rget w.regs t.a), 0⟩).out).map REff.cells)))) [11, 7, 8, 9, 4] [(4, (.row false 1 [[slA 9 ((((w).eff ⟨t.op, 0, t.base, t.size, (rget w.regs t.a), 0⟩).L).map RVal.cells)]])), (9, (slO 9 ((((w).eff ⟨t.op, 0, t.base, t.size, (rget w.regs t.a), 0⟩).L).map RVal.cells))), (8, (.row false 4 [[.ptr 4 1 0 0, slA 7 (valC (((w).eff ⟨t.op, 0, t.base, t.size, (rget w.regs t.a), 0⟩).regs)), slA 11 ((((w).eff ⟨t.op, 0, t.base, t.size, (rget w.regs t.a), 0⟩).out).map REff.cells), .int .i64 (((w).eff ⟨t.op, 0, t.base, t.size, (rget w.regs t.a), 0⟩).time)]])), (7, (slO 1 (valC (((w).eff ⟨t.op, 0, t.base, t.size, (rget w.regs t.a), 0⟩).regs)))), (11, (slO 6 ((((w).eff ⟨t.op, 0, t.base, t.size, (rget w.regs t.a), 0⟩).out).map REff.cells)))] rfl Try.func59 (by kernel_rfl) rfl rfl rfl ⟨⟨_, rfl, (by first | rfl | exact slO_avoid _ _ | exact rtab_avoid _ rfl | exact rwlk_avoid _ _ _ rfl rfl rfl)⟩, ⟨_, rfl, (by first | rfl | exact slO_avoid _ _ | exact rtab_avoid _ rfl | exact rwlk_avoid _ _ _ rfl rfl rfl)⟩, ⟨_, rfl, (by first | rfl | exact slO_avoid _ _ | exact rtab_avoid _ rfl | exact rwlk_avoid _ _ _ rfl rfl rfl)⟩, ⟨_, rfl, (by first | rfl | exact slO_avoid _ _ | exact rtab_avoid _ rfl | exact rwlk_avoid _ _ _ rfl rfl rfl)⟩, ⟨_, rfl, (by first | rfl | exact slO_avoid _ _ | exact rtab_avoid _ rfl | exact rwlk_avoid _ _ _ rfl rfl rfl)⟩, trivial⟩ rfl (hres_cons rfl (hres_cons rfl (hres_cons rfl (hres_cons rfl (hres_cons rfl (hres_nil _)))))) ⟨⟨_, rfl, rfl, (by first | rfl | exact slO_avoid _ _ | exact rtab_avoid _ rfl | exact rwlk_avoid _ _ _ rfl rfl rfl)⟩, ⟨_, rfl, rfl, (by first | rfl | exact slO_avoid _ _ | exact rtab_avoid _ rfl | exact rwlk_avoid _ _ _ rfl rfl rfl)⟩, ⟨_, rfl, rfl, (by first | rfl | exact slO_avoid _ _ | exact rtab_avoid _ rfl | exact rwlk_avoid _ _ _ rfl rfl rfl)⟩, ⟨_, rfl, rfl, (by first | rfl | exact slO_avoid _ _ | exact rtab_avoid _ rfl | exact rwlk_avoid _ _ _ rfl rfl rfl)⟩, ⟨_, rfl, rfl, (by first | rfl | exact slO_avoid _ _ | exact rtab_avoid _ rfl | exact rwlk_avoid _ _ _ rfl rfl rfl)⟩, trivial⟩ rfl (reffectb_ok R m w h (by omega) ⟨t.op, 0, t.base, t.size, (rget w.regs t.a), 0⟩)) ?_
       refine da 4 ?_
       refine DOps.nil (by kernel_rfl) ?_
       refine AGo.draw mix ?_
       refine dm 125 ?_
       refine dq 126 (q_nilCheck rfl rfl rfl) ?_
       refine df 127 tok ?_
       refine dl 128 tok ?_
       refine df 129 tok ?_
       refine dl 130 tok ?_
       refine dm 131 ?_
       refine dq 132 (q_nilCheck rfl rfl rfl) ?_
       refine df 133 tok ?_
       refine dl 134 tok ?_
       refine dm 135 ?_
       refine dq 136 (q_build tok rfl rfl rfl rfl rfl (by decide) rfl rfl rfl) ?_
       refine dx 137 (o_call (hc := (hput (hput hNew 4 (.row false 1 [[slA 9 ((w.L).map RVal.cells)]])) 9 (slO 9 ((w.L).map RVal.cells)))) (hw := (hput (hput hNone 4 (.row false 1 [[slA 9 (((rnum w.L (runkV w.out.length)).2).map RVal.cells)]])) 9 (slO 9 (((rnum w.L (runkV w.out.length)).2).map RVal.cells)))) [9, 4] [(4, (.row false 1 [[slA 9 (((rnum w.L (runkV w.out.length)).2).map RVal.cells)]])), (9, (slO 9 (((rnum w.L (runkV w.out.length)).2).map RVal.cells)))] rfl Try.func38 (by kernel_rfl) rfl rfl rfl ⟨⟨_, rfl, (by first | rfl | exact slO_avoid _ _ | exact rtab_avoid _ rfl | exact rwlk_avoid _ _ _ rfl rfl rfl)⟩, ⟨_, rfl, (by first | rfl | exact slO_avoid _ _ | exact rtab_avoid _ rfl | exact rwlk_avoid _ _ _ rfl rfl rfl)⟩, trivial⟩ rfl (hres_cons rfl (hres_cons rfl (hres_nil _))) ⟨⟨_, rfl, rfl, (by first | rfl | exact slO_avoid _ _ | exact rtab_avoid _ rfl | exact rwlk_avoid _ _ _ rfl rfl rfl)⟩, ⟨_, rfl, rfl, (by first | rfl | exact slO_avoid _ _ | exact rtab_avoid _ rfl | exact rwlk_avoid _ _ _ rfl rfl rfl)⟩, trivial⟩ rfl (rof_ok w.L (by omega) (runkV w.out.length))) ?_
       refine dq 138 (q_indexJ tok rfl rfl rfl rfl rfl rfl rfl rfl hxd.1 hxd.2.2.1) ?_
       refine DOps.w rfl rfl (o_storeJ tok rfl rfl rfl rfl rfl rfl rfl (by have h1 := hxd.2.2.1; have h0 := hxd.1; show t.d.toNat < (valC w.regs).length; omega) (valC_one _) rfl rfl rfl) ?_
       refine DOps.nil (by kernel_rfl) ?_
       refine ⟨[], trivial, rfl, ?_⟩
       rw [rstep6 ho]
       exact (HSub.put (HSub.put (HSub.put (HSub.put (HSub.put (HSub.none _) rfl) rfl) (by show _ = some (AObj.row false 4 [[.ptr 4 1 0 0, slA 7 (valC (rset w.regs t.d _)), slA 11 ((w.eff ⟨t.op, 0, t.base, t.size, (rget w.regs t.a), 0⟩).out.map REff.cells), .int .i64 w.time]]); rw [valC_slA]; rfl)) (by show _ = some (slO 1 (valC (rset w.regs t.d _))); rw [valC_set]; rfl)) rfl)
      ·
       refine AGo.cond_false false rfl rfl ?_
       refine AGo.seq ?_
       refine AGo.region ?_
       refine aq 140 (q_bin rfl rfl rfl rfl) ?_
       refine aa 139 ?_
       refine AOps.nil ?_
       refine AGo.split 139 rfl (fun hb7 => ?_) (fun hb7 => ?_)
       ·
        refine AGo.cond_true true rfl rfl ?_
        have ho : t.op = 7 := by simpa using hb7
        have hxa := h.at (ht.a (.inr (by rw [ho]; rfl)))
        have hxb := h.at (ht.b (by rw [ho]; rfl))
        
        refine AGo.seq ?_
        refine AGo.draw mix ?_
        refine dm 141 ?_
        refine df 142 tok ?_
        refine dl 143 tok ?_
        refine df 144 tok ?_
        refine dl 145 tok ?_
        refine df 146 tok ?_
        refine dl 147 tok ?_
        refine dm 148 ?_
        refine dq 149 (q_nilCheck rfl rfl rfl) ?_
        refine df 150 tok ?_
        refine dl 151 tok ?_
        refine df 152 tok ?_
        refine dl 153 tok ?_
        refine dq 154 (q_indexJ tok rfl rfl rfl rfl rfl rfl rfl rfl hxa.1 hxa.2.2.1) ?_
        refine dq 155 (q_load tok rfl rfl rfl (ptsJ rfl (valC_get ⟨hxa.1, hxa.2.1⟩)) rfl) ?_
        refine dm 156 ?_
        refine dq 157 (q_nilCheck rfl rfl rfl) ?_
        refine df 158 tok ?_
        refine dl 159 tok ?_
        refine df 160 tok ?_
        refine dl 161 tok ?_
        refine dq 162 (q_indexJ tok rfl rfl rfl rfl rfl rfl rfl rfl hxb.1 hxb.2.2.1) ?_
        refine dq 163 (q_load tok rfl rfl rfl (ptsJ rfl (valC_get ⟨hxb.1, hxb.2.1⟩)) rfl) ?_
        refine dq 164 (q_build tok rfl rfl rfl rfl rfl (by decide) rfl rfl rfl) ?_
        refine dx 165 (o_call (hc := (hput (hput (hput (hput (hput hNew 4 (.row false 1 [[slA 9 (((w).L).map RVal.cells)]])) 9 (slO 9 (((w).L).map RVal.cells))) 8 (.row false 4 [[.ptr 4 1 0 0, slA 7 (valC ((w).regs)), slA 11 (((w).out).map REff.cells), .int .i64 ((w).time)]])) 7 (slO 1 (valC ((w).regs)))) 11 (slO 6 (((w).out).map REff.cells)))) (hw := (hput (hput (hput (hput (hput hNone 4 (.row false 1 [[slA 9 ((((w).eff ⟨t.op, 0, t.base, t.size, (rget w.regs t.a), (rget w.regs t.b)⟩).L).map RVal.cells)]])) 9 (slO 9 ((((w).eff ⟨t.op, 0, t.base, t.size, (rget w.regs t.a), (rget w.regs t.b)⟩).L).map RVal.cells))) 8 (.row false 4 [[.ptr 4 1 0 0, slA 7 (valC (((w).eff ⟨t.op, 0, t.base, t.size, (rget w.regs t.a), (rget w.regs t.b)⟩).regs)), slA 11 ((((w).eff ⟨t.op, 0, t.base, t.size, (rget w.regs t.a), (rget w.regs t.b)⟩).out).map REff.cells), .int .i64 (((w).eff ⟨t.op, 0, t.base, t.size, (rget w.regs t.a), (rget w.regs t.b)⟩).time)]])) 7 (slO 1 (valC (((w).eff ⟨t.op, 0, t.base, t.size, (rget w.regs t.a), (rget w.regs t.b)⟩).regs)))) 11 (slO 6 ((((w).eff ⟨t.op, 0, t.base, t.size, (rget w.regs t.a), (rget w.regs t.b)⟩).out).map REff.cells)))) [11, 7, 8, 9, 4] [(4, (.row false 1 [[slA 9 ((((w).eff ⟨t.op, 0, t.base, t.size, (rget w.regs t.a), (rget w.regs t.b)⟩).L).map RVal.cells)]])), (9, (slO 9 ((((w).eff ⟨t.op, 0, t.base, t.size, (rget w.regs t.a), (rget w.regs t.b)⟩).L).map RVal.cells))), (8, (.row false 4 [[.ptr 4 1 0 0, slA 7 (valC (((w).eff ⟨t.op, 0, t.base, t.size, (rget w.regs t.a), (rget w.regs t.b)⟩).regs)), slA 11 ((((w).eff ⟨t.op, 0, t.base, t.size, (rget w.regs t.a), (rget w.regs t.b)⟩).out).map REff.cells), .int .i64 (((w).eff ⟨t.op, 0, t.base, t.size, (rget w.regs t.a), (rget w.regs t.b)⟩).time)]])), (7, (slO 1 (valC (((w).eff ⟨t.op, 0, t.base, t.size, (rget w.regs t.a), (rget w.regs t.b)⟩).regs)))), (11, (slO 6 ((((w).eff ⟨t.op, 0, t.base, t.size, (rget w.regs t.a), (rget w.regs t.b)⟩).out).map REff.cells)))] rfl Try.func59 (by kernel_rfl) rfl rfl rfl ⟨⟨_, rfl, (by first | rfl | exact slO_avoid _ _ | exact rtab_avoid _ rfl | exact rwlk_avoid _ _ _ rfl rfl rfl)⟩, ⟨_, rfl, (by first | rfl | exact slO_avoid _ _ | exact rtab_avoid _ rfl | exact rwlk_avoid _ _ _ rfl rfl rfl)⟩, ⟨_, rfl, (by first | rfl | exact slO_avoid _ _ | exact rtab_avoid _ rfl | exact rwlk_avoid _ _ _ rfl rfl rfl)⟩, ⟨_, rfl, (by first | rfl | exact slO_avoid _ _ | exact rtab_avoid _ rfl | exact rwlk_avoid _ _ _ rfl rfl rfl)⟩, ⟨_, rfl, (by first | rfl | exact slO_avoid _ _ | exact rtab_avoid _ rfl | exact rwlk_avoid _ _ _ rfl rfl rfl)⟩, trivial⟩ rfl (hres_cons rfl (hres_cons rfl (hres_cons rfl (hres_cons rfl (hres_cons rfl (hres_nil _)))))) ⟨⟨_, rfl, rfl, (by first | rfl | exact slO_avoid _ _ | exact rtab_avoid _ rfl | exact rwlk_avoid _ _ _ rfl rfl rfl)⟩, ⟨_, rfl, rfl, (by first | rfl | exact slO_avoid _ _ | exact rtab_avoid _ rfl | exact rwlk_avoid _ _ _ rfl rfl rfl)⟩, ⟨_, rfl, rfl, (by first | rfl | exact slO_avoid _ _ | exact rtab_avoid _ rfl | exact rwlk_avoid _ _ _ rfl rfl rfl)⟩, ⟨_, rfl, rfl, (by first | rfl | exact slO_avoid _ _ | exact rtab_avoid _ rfl | exact rwlk_avoid _ _ _ rfl rfl rfl)⟩, ⟨_, rfl, rfl, (by first | rfl | exact slO_avoid _ _ | exact rtab_avoid _ rfl | exact rwlk_avoid _ _ _ rfl rfl rfl)⟩, trivial⟩ rfl (reffectb_ok R m w h (by omega) ⟨t.op, 0, t.base, t.size, (rget w.regs t.a), (rget w.regs t.b)⟩)) ?_
        refine DOps.nil (by kernel_rfl) ?_
        refine AGo.region ?_
        refine am 166 ?_
        refine aq 167 (q_nilCheck rfl rfl rfl) ?_
        refine af 168 tok ?_
        refine al 169 tok ?_
        refine aq 170 (q_bin (r := .int .i64 (w.time + 1)) rfl rfl rfl (by exact timeZ (x := w.time) (by omega))) ?_
        refine aq 171 (q_nilCheck rfl rfl rfl) ?_
        refine af 172 tok ?_
        refine AOps.w rfl rfl (o_store tok rfl rfl rfl rfl rfl rfl rfl rfl rfl (by decide) rfl (by first | exact fun _ => rfl | (intro h; cases h))) ?_
        refine AOps.nil ?_
        refine ⟨[], trivial, rfl, ?_⟩
        rw [rstep7 ho]
        exact (HSub.put (HSub.put (HSub.put (HSub.put (HSub.put (HSub.none _) rfl) rfl) rfl) rfl) rfl)
       ·
        refine AGo.cond_false false rfl rfl ?_
        refine AGo.seq ?_
        refine AGo.region ?_
        refine aq 174 (q_bin rfl rfl rfl rfl) ?_
        refine aa 173 ?_
        refine AOps.nil ?_
        refine AGo.split 173 rfl (fun hb8 => ?_) (fun hb8 => ?_)
        ·
         refine AGo.cond_true true rfl rfl ?_
         have ho : t.op = 8 := by simpa using hb8
         have hxd := h.at (ht.d (by rw [ho]; rfl))
         
         refine AGo.seq ?_
         refine AGo.region ?_
         refine am 175 ?_
         refine af 176 tok ?_
         refine al 177 tok ?_
         refine aq 178 (q_build tok rfl rfl rfl rfl rfl (by decide) rfl rfl rfl) ?_
         refine ax 179 (o_call (hc := (hput (hput (hput (hput (hput hNew 4 (.row false 1 [[slA 9 (((w).L).map RVal.cells)]])) 9 (slO 9 (((w).L).map RVal.cells))) 8 (.row false 4 [[.ptr 4 1 0 0, slA 7 (valC ((w).regs)), slA 11 (((w).out).map REff.cells), .int .i64 ((w).time)]])) 7 (slO 1 (valC ((w).regs)))) 11 (slO 6 (((w).out).map REff.cells)))) (hw := (hput (hput (hput (hput (hput hNone 4 (.row false 1 [[slA 9 ((((w).eff ⟨t.op, 0, 0, 0, 0, 0⟩).L).map RVal.cells)]])) 9 (slO 9 ((((w).eff ⟨t.op, 0, 0, 0, 0, 0⟩).L).map RVal.cells))) 8 (.row false 4 [[.ptr 4 1 0 0, slA 7 (valC (((w).eff ⟨t.op, 0, 0, 0, 0, 0⟩).regs)), slA 11 ((((w).eff ⟨t.op, 0, 0, 0, 0, 0⟩).out).map REff.cells), .int .i64 (((w).eff ⟨t.op, 0, 0, 0, 0, 0⟩).time)]])) 7 (slO 1 (valC (((w).eff ⟨t.op, 0, 0, 0, 0, 0⟩).regs)))) 11 (slO 6 ((((w).eff ⟨t.op, 0, 0, 0, 0, 0⟩).out).map REff.cells)))) [11, 7, 8, 9, 4] [(4, (.row false 1 [[slA 9 ((((w).eff ⟨t.op, 0, 0, 0, 0, 0⟩).L).map RVal.cells)]])), (9, (slO 9 ((((w).eff ⟨t.op, 0, 0, 0, 0, 0⟩).L).map RVal.cells))), (8, (.row false 4 [[.ptr 4 1 0 0, slA 7 (valC (((w).eff ⟨t.op, 0, 0, 0, 0, 0⟩).regs)), slA 11 ((((w).eff ⟨t.op, 0, 0, 0, 0, 0⟩).out).map REff.cells), .int .i64 (((w).eff ⟨t.op, 0, 0, 0, 0, 0⟩).time)]])), (7, (slO 1 (valC (((w).eff ⟨t.op, 0, 0, 0, 0, 0⟩).regs)))), (11, (slO 6 ((((w).eff ⟨t.op, 0, 0, 0, 0, 0⟩).out).map REff.cells)))] rfl Try.func59 (by kernel_rfl) rfl rfl rfl ⟨⟨_, rfl, (by first | rfl | exact slO_avoid _ _ | exact rtab_avoid _ rfl | exact rwlk_avoid _ _ _ rfl rfl rfl)⟩, ⟨_, rfl, (by first | rfl | exact slO_avoid _ _ | exact rtab_avoid _ rfl | exact rwlk_avoid _ _ _ rfl rfl rfl)⟩, ⟨_, rfl, (by first | rfl | exact slO_avoid _ _ | exact rtab_avoid _ rfl | exact rwlk_avoid _ _ _ rfl rfl rfl)⟩, ⟨_, rfl, (by first | rfl | exact slO_avoid _ _ | exact rtab_avoid _ rfl | exact rwlk_avoid _ _ _ rfl rfl rfl)⟩, ⟨_, rfl, (by first | rfl | exact slO_avoid _ _ | exact rtab_avoid _ rfl | exact rwlk_avoid _ _ _ rfl rfl rfl)⟩, trivial⟩ rfl (hres_cons rfl (hres_cons rfl (hres_cons rfl (hres_cons rfl (hres_cons rfl (hres_nil _)))))) ⟨⟨_, rfl, rfl, (by first | rfl | exact slO_avoid _ _ | exact rtab_avoid _ rfl | exact rwlk_avoid _ _ _ rfl rfl rfl)⟩, ⟨_, rfl, rfl, (by first | rfl | exact slO_avoid _ _ | exact rtab_avoid _ rfl | exact rwlk_avoid _ _ _ rfl rfl rfl)⟩, ⟨_, rfl, rfl, (by first | rfl | exact slO_avoid _ _ | exact rtab_avoid _ rfl | exact rwlk_avoid _ _ _ rfl rfl rfl)⟩, ⟨_, rfl, rfl, (by first | rfl | exact slO_avoid _ _ | exact rtab_avoid _ rfl | exact rwlk_avoid _ _ _ rfl rfl rfl)⟩, ⟨_, rfl, rfl, (by first | rfl | exact slO_avoid _ _ | exact rtab_avoid _ rfl | exact rwlk_avoid _ _ _ rfl rfl rfl)⟩, trivial⟩ rfl (reffectb_ok R m w h (by omega) ⟨t.op, 0, 0, 0, 0, 0⟩)) ?_
         refine aa 5 ?_
         refine AOps.nil ?_
         refine AGo.draw mix ?_
         refine dm 180 ?_
         refine dq 181 (q_nilCheck rfl rfl rfl) ?_
         refine df 182 tok ?_
         refine dl 183 tok ?_
         refine df 184 tok ?_
         refine dl 185 tok ?_
         refine dm 186 ?_
         refine dq 187 (q_nilCheck rfl rfl rfl) ?_
         refine df 188 tok ?_
         refine dl 189 tok ?_
         refine dm 190 ?_
         refine dq 191 (q_build tok rfl rfl rfl rfl rfl (by decide) rfl rfl rfl) ?_
         refine dx 192 (o_call (hc := (hput (hput hNew 4 (.row false 1 [[slA 9 ((w.L).map RVal.cells)]])) 9 (slO 9 ((w.L).map RVal.cells)))) (hw := (hput (hput hNone 4 (.row false 1 [[slA 9 (((rnum w.L (runkV w.out.length)).2).map RVal.cells)]])) 9 (slO 9 (((rnum w.L (runkV w.out.length)).2).map RVal.cells)))) [9, 4] [(4, (.row false 1 [[slA 9 (((rnum w.L (runkV w.out.length)).2).map RVal.cells)]])), (9, (slO 9 (((rnum w.L (runkV w.out.length)).2).map RVal.cells)))] rfl Try.func38 (by kernel_rfl) rfl rfl rfl ⟨⟨_, rfl, (by first | rfl | exact slO_avoid _ _ | exact rtab_avoid _ rfl | exact rwlk_avoid _ _ _ rfl rfl rfl)⟩, ⟨_, rfl, (by first | rfl | exact slO_avoid _ _ | exact rtab_avoid _ rfl | exact rwlk_avoid _ _ _ rfl rfl rfl)⟩, trivial⟩ rfl (hres_cons rfl (hres_cons rfl (hres_nil _))) ⟨⟨_, rfl, rfl, (by first | rfl | exact slO_avoid _ _ | exact rtab_avoid _ rfl | exact rwlk_avoid _ _ _ rfl rfl rfl)⟩, ⟨_, rfl, rfl, (by first | rfl | exact slO_avoid _ _ | exact rtab_avoid _ rfl | exact rwlk_avoid _ _ _ rfl rfl rfl)⟩, trivial⟩ rfl (rof_ok w.L (by omega) (runkV w.out.length))) ?_
         refine dq 193 (q_indexJ tok rfl rfl rfl rfl rfl rfl rfl rfl hxd.1 hxd.2.2.1) ?_
         refine DOps.w rfl rfl (o_storeJ tok rfl rfl rfl rfl rfl rfl rfl (by have h1 := hxd.2.2.1; have h0 := hxd.1; show t.d.toNat < (valC w.regs).length; omega) (valC_one _) rfl rfl rfl) ?_
         refine DOps.nil (by kernel_rfl) ?_
         refine ⟨[], trivial, rfl, ?_⟩
         rw [rstep8 ho]
         exact (HSub.put (HSub.put (HSub.put (HSub.put (HSub.put (HSub.none _) rfl) rfl) (by show _ = some (AObj.row false 4 [[.ptr 4 1 0 0, slA 7 (valC (rset w.regs t.d _)), slA 11 ((w.eff ⟨t.op, 0, 0, 0, 0, 0⟩).out.map REff.cells), .int .i64 w.time]]); rw [valC_slA]; rfl)) (by show _ = some (slO 1 (valC (rset w.regs t.d _))); rw [valC_set]; rfl)) rfl)
        ·
         refine AGo.cond_false false rfl rfl ?_
         refine AGo.seq ?_
         refine AGo.region ?_
         refine aq 195 (q_bin rfl rfl rfl rfl) ?_
         refine aa 194 ?_
         refine AOps.nil ?_
         refine AGo.split 194 rfl (fun hb9 => ?_) (fun hb9 => ?_)
         ·
          refine AGo.cond_true true rfl rfl ?_
          have ho : t.op = 9 := by simpa using hb9
          have hxa := h.at (ht.a (.inl (by rw [ho]; rfl)))
          
          refine AGo.draw mix ?_
          refine dm 196 ?_
          refine df 197 tok ?_
          refine dl 198 tok ?_
          refine dm 199 ?_
          refine dq 200 (q_nilCheck rfl rfl rfl) ?_
          refine df 201 tok ?_
          refine dl 202 tok ?_
          refine df 203 tok ?_
          refine dl 204 tok ?_
          refine dq 205 (q_indexJ tok rfl rfl rfl rfl rfl rfl rfl rfl hxa.1 hxa.2.2.1) ?_
          refine dq 206 (q_load tok rfl rfl rfl (ptsJ rfl (valC_get ⟨hxa.1, hxa.2.1⟩)) rfl) ?_
          refine dq 207 (q_build tok rfl rfl rfl rfl rfl (by decide) rfl rfl rfl) ?_
          refine dx 208 (o_call (hc := (hput (hput (hput (hput (hput hNew 4 (.row false 1 [[slA 9 (((w).L).map RVal.cells)]])) 9 (slO 9 (((w).L).map RVal.cells))) 8 (.row false 4 [[.ptr 4 1 0 0, slA 7 (valC ((w).regs)), slA 11 (((w).out).map REff.cells), .int .i64 ((w).time)]])) 7 (slO 1 (valC ((w).regs)))) 11 (slO 6 (((w).out).map REff.cells)))) (hw := (hput (hput (hput (hput (hput hNone 4 (.row false 1 [[slA 9 ((((w).eff ⟨t.op, 0, 0, 0, (rget w.regs t.a), 0⟩).L).map RVal.cells)]])) 9 (slO 9 ((((w).eff ⟨t.op, 0, 0, 0, (rget w.regs t.a), 0⟩).L).map RVal.cells))) 8 (.row false 4 [[.ptr 4 1 0 0, slA 7 (valC (((w).eff ⟨t.op, 0, 0, 0, (rget w.regs t.a), 0⟩).regs)), slA 11 ((((w).eff ⟨t.op, 0, 0, 0, (rget w.regs t.a), 0⟩).out).map REff.cells), .int .i64 (((w).eff ⟨t.op, 0, 0, 0, (rget w.regs t.a), 0⟩).time)]])) 7 (slO 1 (valC (((w).eff ⟨t.op, 0, 0, 0, (rget w.regs t.a), 0⟩).regs)))) 11 (slO 6 ((((w).eff ⟨t.op, 0, 0, 0, (rget w.regs t.a), 0⟩).out).map REff.cells)))) [11, 7, 8, 9, 4] [(4, (.row false 1 [[slA 9 ((((w).eff ⟨t.op, 0, 0, 0, (rget w.regs t.a), 0⟩).L).map RVal.cells)]])), (9, (slO 9 ((((w).eff ⟨t.op, 0, 0, 0, (rget w.regs t.a), 0⟩).L).map RVal.cells))), (8, (.row false 4 [[.ptr 4 1 0 0, slA 7 (valC (((w).eff ⟨t.op, 0, 0, 0, (rget w.regs t.a), 0⟩).regs)), slA 11 ((((w).eff ⟨t.op, 0, 0, 0, (rget w.regs t.a), 0⟩).out).map REff.cells), .int .i64 (((w).eff ⟨t.op, 0, 0, 0, (rget w.regs t.a), 0⟩).time)]])), (7, (slO 1 (valC (((w).eff ⟨t.op, 0, 0, 0, (rget w.regs t.a), 0⟩).regs)))), (11, (slO 6 ((((w).eff ⟨t.op, 0, 0, 0, (rget w.regs t.a), 0⟩).out).map REff.cells)))] rfl Try.func59 (by kernel_rfl) rfl rfl rfl ⟨⟨_, rfl, (by first | rfl | exact slO_avoid _ _ | exact rtab_avoid _ rfl | exact rwlk_avoid _ _ _ rfl rfl rfl)⟩, ⟨_, rfl, (by first | rfl | exact slO_avoid _ _ | exact rtab_avoid _ rfl | exact rwlk_avoid _ _ _ rfl rfl rfl)⟩, ⟨_, rfl, (by first | rfl | exact slO_avoid _ _ | exact rtab_avoid _ rfl | exact rwlk_avoid _ _ _ rfl rfl rfl)⟩, ⟨_, rfl, (by first | rfl | exact slO_avoid _ _ | exact rtab_avoid _ rfl | exact rwlk_avoid _ _ _ rfl rfl rfl)⟩, ⟨_, rfl, (by first | rfl | exact slO_avoid _ _ | exact rtab_avoid _ rfl | exact rwlk_avoid _ _ _ rfl rfl rfl)⟩, trivial⟩ rfl (hres_cons rfl (hres_cons rfl (hres_cons rfl (hres_cons rfl (hres_cons rfl (hres_nil _)))))) ⟨⟨_, rfl, rfl, (by first | rfl | exact slO_avoid _ _ | exact rtab_avoid _ rfl | exact rwlk_avoid _ _ _ rfl rfl rfl)⟩, ⟨_, rfl, rfl, (by first | rfl | exact slO_avoid _ _ | exact rtab_avoid _ rfl | exact rwlk_avoid _ _ _ rfl rfl rfl)⟩, ⟨_, rfl, rfl, (by first | rfl | exact slO_avoid _ _ | exact rtab_avoid _ rfl | exact rwlk_avoid _ _ _ rfl rfl rfl)⟩, ⟨_, rfl, rfl, (by first | rfl | exact slO_avoid _ _ | exact rtab_avoid _ rfl | exact rwlk_avoid _ _ _ rfl rfl rfl)⟩, ⟨_, rfl, rfl, (by first | rfl | exact slO_avoid _ _ | exact rtab_avoid _ rfl | exact rwlk_avoid _ _ _ rfl rfl rfl)⟩, trivial⟩ rfl (reffectb_ok R m w h (by omega) ⟨t.op, 0, 0, 0, (rget w.regs t.a), 0⟩)) ?_
          refine DOps.nil (by kernel_rfl) ?_
          refine ⟨[], trivial, rfl, ?_⟩
          rw [rstep9 ho]
          exact (HSub.put (HSub.put (HSub.put (HSub.put (HSub.put (HSub.none _) rfl) rfl) rfl) rfl) rfl)
         ·
          refine AGo.cond_false false rfl rfl ?_
          refine AGo.seq ?_
          refine AGo.region ?_
          refine am 8 ?_
          refine af 9 tok ?_
          refine al 10 tok ?_
          refine af 11 tok ?_
          refine al 12 tok ?_
          refine aq 13 (q_build tok rfl rfl rfl rfl rfl (by decide) rfl rfl rfl) ?_
          refine ax 14 (o_call (hc := (hput (hput (hput (hput (hput hNew 4 (.row false 1 [[slA 9 (((w).L).map RVal.cells)]])) 9 (slO 9 (((w).L).map RVal.cells))) 8 (.row false 4 [[.ptr 4 1 0 0, slA 7 (valC ((w).regs)), slA 11 (((w).out).map REff.cells), .int .i64 ((w).time)]])) 7 (slO 1 (valC ((w).regs)))) 11 (slO 6 (((w).out).map REff.cells)))) (hw := (hput (hput (hput (hput (hput hNone 4 (.row false 1 [[slA 9 ((((w).eff ⟨t.op, 0, t.base, 0, 0, 0⟩).L).map RVal.cells)]])) 9 (slO 9 ((((w).eff ⟨t.op, 0, t.base, 0, 0, 0⟩).L).map RVal.cells))) 8 (.row false 4 [[.ptr 4 1 0 0, slA 7 (valC (((w).eff ⟨t.op, 0, t.base, 0, 0, 0⟩).regs)), slA 11 ((((w).eff ⟨t.op, 0, t.base, 0, 0, 0⟩).out).map REff.cells), .int .i64 (((w).eff ⟨t.op, 0, t.base, 0, 0, 0⟩).time)]])) 7 (slO 1 (valC (((w).eff ⟨t.op, 0, t.base, 0, 0, 0⟩).regs)))) 11 (slO 6 ((((w).eff ⟨t.op, 0, t.base, 0, 0, 0⟩).out).map REff.cells)))) [11, 7, 8, 9, 4] [(4, (.row false 1 [[slA 9 ((((w).eff ⟨t.op, 0, t.base, 0, 0, 0⟩).L).map RVal.cells)]])), (9, (slO 9 ((((w).eff ⟨t.op, 0, t.base, 0, 0, 0⟩).L).map RVal.cells))), (8, (.row false 4 [[.ptr 4 1 0 0, slA 7 (valC (((w).eff ⟨t.op, 0, t.base, 0, 0, 0⟩).regs)), slA 11 ((((w).eff ⟨t.op, 0, t.base, 0, 0, 0⟩).out).map REff.cells), .int .i64 (((w).eff ⟨t.op, 0, t.base, 0, 0, 0⟩).time)]])), (7, (slO 1 (valC (((w).eff ⟨t.op, 0, t.base, 0, 0, 0⟩).regs)))), (11, (slO 6 ((((w).eff ⟨t.op, 0, t.base, 0, 0, 0⟩).out).map REff.cells)))] rfl Try.func59 (by kernel_rfl) rfl rfl rfl ⟨⟨_, rfl, (by first | rfl | exact slO_avoid _ _ | exact rtab_avoid _ rfl | exact rwlk_avoid _ _ _ rfl rfl rfl)⟩, ⟨_, rfl, (by first | rfl | exact slO_avoid _ _ | exact rtab_avoid _ rfl | exact rwlk_avoid _ _ _ rfl rfl rfl)⟩, ⟨_, rfl, (by first | rfl | exact slO_avoid _ _ | exact rtab_avoid _ rfl | exact rwlk_avoid _ _ _ rfl rfl rfl)⟩, ⟨_, rfl, (by first | rfl | exact slO_avoid _ _ | exact rtab_avoid _ rfl | exact rwlk_avoid _ _ _ rfl rfl rfl)⟩, ⟨_, rfl, (by first | rfl | exact slO_avoid _ _ | exact rtab_avoid _ rfl | exact rwlk_avoid _ _ _ rfl rfl rfl)⟩, trivial⟩ rfl (hres_cons rfl (hres_cons rfl (hres_cons rfl (hres_cons rfl (hres_cons rfl (hres_nil _)))))) ⟨⟨_, rfl, rfl, (by first | rfl | exact slO_avoid _ _ | exact rtab_avoid _ rfl | exact rwlk_avoid _ _ _ rfl rfl rfl)⟩, ⟨_, rfl, rfl, (by first | rfl | exact slO_avoid _ _ | exact rtab_avoid _ rfl | exact rwlk_avoid _ _ _ rfl rfl rfl)⟩, ⟨_, rfl, rfl, (by first | rfl | exact slO_avoid _ _ | exact rtab_avoid _ rfl | exact rwlk_avoid _ _ _ rfl rfl rfl)⟩, ⟨_, rfl, rfl, (by first | rfl | exact slO_avoid _ _ | exact rtab_avoid _ rfl | exact rwlk_avoid _ _ _ rfl rfl rfl)⟩, ⟨_, rfl, rfl, (by first | rfl | exact slO_avoid _ _ | exact rtab_avoid _ rfl | exact rwlk_avoid _ _ _ rfl rfl rfl)⟩, trivial⟩ rfl (reffectb_ok R m w h (by omega) ⟨t.op, 0, t.base, 0, 0, 0⟩)) ?_
          refine AOps.nil ?_
          refine AGo.region ?_
          refine am 15 ?_
          refine aq 16 (q_nilCheck rfl rfl rfl) ?_
          refine af 17 tok ?_
          refine al 18 tok ?_
          refine aq 19 (q_bin (r := .int .i64 (w.time + 1)) rfl rfl rfl (by exact timeZ (x := w.time) (by omega))) ?_
          refine aq 20 (q_nilCheck rfl rfl rfl) ?_
          refine af 21 tok ?_
          refine AOps.w rfl rfl (o_store tok rfl rfl rfl rfl rfl rfl rfl rfl rfl (by decide) rfl (by first | exact fun _ => rfl | (intro h; cases h))) ?_
          refine AOps.nil ?_
          refine ⟨[], trivial, rfl, ?_⟩
          rw [rstep0 hb1 hb2 hb3 hb4 hb5 hb6 hb7 hb8 hb9]
          exact (HSub.put (HSub.put (HSub.put (HSub.put (HSub.put (HSub.none _) rfl) rfl) rfl) rfl) rfl)

end Go.Proofs.Ytpijoieooikfgaa.Sv

namespace Go.Proofs.Ytpijoieooikfgaa.Sv
open Go

set_option maxHeartbeats 1000000 in
set_option maxRecDepth 100000 in
theorem throughb_ok (R m : Nat) (L : List RVal) (regs : List Int) (b : Block) (h : ROk R m ⟨L, regs, [], 0⟩) (hl : ∀ t ∈ b.ins, TacV t R) (hm : m + 2 * b.ins.length ≤ 80000) : ACall Try.prog 39 [.ptr 4 1 0 0, .agg b.cells, slA 7 (valC regs)] (hput (hput (hput (hput (hput hNew 4 (.row false 1 [[slA 9 ((L).map RVal.cells)]])) 9 (slO 9 ((L).map RVal.cells))) 7 (slO 1 (valC regs))) 8 .free) 11 .free) (fun r h' => r = .ptr 8 1 0 0 ∧ HSub (hput (hput (hput (hput (hput hNone 4 (.row false 1 [[slA 9 ((((rrun L regs b.ins)).L).map RVal.cells)]])) 9 (slO 9 ((((rrun L regs b.ins)).L).map RVal.cells))) 8 (.row false 4 [[.ptr 4 1 0 0, slA 7 (valC (((rrun L regs b.ins)).regs)), slA 11 ((((rrun L regs b.ins)).out).map REff.cells), .int .i64 (((rrun L regs b.ins)).time)]])) 7 (slO 1 (valC (((rrun L regs b.ins)).regs)))) 11 (slO 6 ((((rrun L regs b.ins)).out).map REff.cells))) h') := by
 refine ACall.of_body (n := 28) tok Try.func39 rfl rfl ?_
 refine AGo.seq ?_
 refine AGo.region ?_
 refine ax 4 (o_box (sz := 5) 12 rfl rfl rfl rfl (Nat.zero_lt_succ _) rfl) ?_
 refine aa 6 ?_
 refine AOps.nil ?_
 refine AGo.seq ?_
 refine AGo.region ?_
 refine am 9 ?_
 refine am 10 ?_
 refine aq 11 (q_build tok (ps := [(0, .ptr 4 1 0 0), (1, slA 7 (valC regs))]) (r := [.ptr 4 1 0 0, slA 7 (valC regs), .nil, .int .i64 0]) rfl rfl rfl rfl rfl (by decide) (by simp only [partsFit, slA_cells]; rfl) rfl (by simp only [partCells, slA_cells]; rfl)) ?_
 refine ax 12 (o_box (sz := 4) 8 rfl rfl rfl rfl (Nat.zero_lt_succ _) (by simp only [AV.cells, List.all_cons, List.all_nil, slA_cell1]; rfl)) ?_
 refine aa 7 ?_
 refine AOps.nil ?_
 refine AGo.seq ?_
 refine AGo.seq ?_
 refine AGo.ghost (.weakRowF 8 (es' := [[.ptr 4 1 0 0, slA 7 (valC regs), .lst true [], .int .i64 0]]) rfl rfl weakWlk) ?_
 refine AGo.region ?_
 refine aa 8 ?_
 refine AOps.nil ?_
 refine AGo.block ?_
 refine AGo.loopD (γ := Nat) 13 (fun k => ⟨28, (eput (eput (eput eNew 4 (.ptr 12 1 0 0)) 7 (.ptr 8 1 0 0)) 8 (.int .i64 (k : Int))), (hput (hput (hput (hput (hput (hput (hFrom 13) 12 (.row false 5 [b.cells])) 4 (.row false 1 [[slA 9 ((((rrun L regs (b.ins.take (k)))).L).map RVal.cells)]])) 9 (slO 9 ((((rrun L regs (b.ins.take (k)))).L).map RVal.cells))) 8 (.row false 4 [[.ptr 4 1 0 0, slA 7 (valC (((rrun L regs (b.ins.take (k)))).regs)), slA 11 ((((rrun L regs (b.ins.take (k)))).out).map REff.cells), .int .i64 (((rrun L regs (b.ins.take (k)))).time)]])) 7 (slO 1 (valC (((rrun L regs (b.ins.take (k)))).regs)))) 11 (slO 6 ((((rrun L regs (b.ins.take (k)))).out).map REff.cells)))⟩) (fun k => k ≤ b.ins.length) (fun k => b.ins.length - k) 0 (Sub.mk' (by repeat (first | exact ESub.new _ | refine ESub.put ?_ (by first | rfl | exact congrArg (fun (n : Nat) => some (AV.int .i64 (n : Int))) (by simp)))) (by repeat (first | exact HSub.refl _ | exact HSub.none _ | exact HSub.from_new _ | exact HSub.from_from (by first | decide | omega | (dsimp only; omega)) | refine HSub.put ?_ (by rfl) | refine HSub.from_put ?_ (by first | decide | omega | (dsimp only; omega)) | refine HSub.from_rm ?_ (by decide)))) (Nat.zero_le _) (fun _ => hput_free (hput_free (hput_free (hput_free (hput_free (hput_free (fun b hb => hFrom_free hb) rfl) rfl) rfl) rfl) rfl) rfl) ?_
 intro k hk
 refine AGo.seq ?_
 refine AGo.seq ?_
 refine AGo.region ?_
 refine am 13 ?_
 refine af 14 tok ?_
 refine al 15 tok ?_
 refine aq 16 (q_len tok rfl rfl rfl rfl rfl) ?_
 refine aq 17 (q_bin rfl rfl rfl rfl) ?_
 refine AOps.nil ?_
 refine AGo.split 17 rfl (fun hb1 => ?_) (fun hb1 => ?_)
 ·
  refine AGo.cond_true true rfl rfl ?_
  have hkl : k < b.ins.length := by have h := hb1; simp only [List.length_map, decide_eq_true_eq] at h; omega
  obtain ⟨t, ht⟩ := get_of_lt hkl
  refine AGo.skip ?_
  refine AGo.seq ?_
  refine AGo.block ?_
  refine AGo.region ?_
  refine am 20 ?_
  refine af 21 tok ?_
  refine al 22 tok ?_
  refine am 23 ?_
  refine aq 24 (q_index_lst tok rfl rfl rfl rfl rfl rfl (Int.natCast_nonneg _) (idx_map ht) rfl) ?_
  refine al 25 tok ?_
  refine ax 26 (o_call (hc := (hput (hput (hput (hput (hput hNew 4 (.row false 1 [[slA 9 ((((rrun L regs (b.ins.take (k)))).L).map RVal.cells)]])) 9 (slO 9 ((((rrun L regs (b.ins.take (k)))).L).map RVal.cells))) 8 (.row false 4 [[.ptr 4 1 0 0, slA 7 (valC (((rrun L regs (b.ins.take (k)))).regs)), slA 11 ((((rrun L regs (b.ins.take (k)))).out).map REff.cells), .int .i64 (((rrun L regs (b.ins.take (k)))).time)]])) 7 (slO 1 (valC (((rrun L regs (b.ins.take (k)))).regs)))) 11 (slO 6 ((((rrun L regs (b.ins.take (k)))).out).map REff.cells)))) (hw := (hput (hput (hput (hput (hput hNone 4 (.row false 1 [[slA 9 (((((rrun L regs (b.ins.take (k))).step t)).L).map RVal.cells)]])) 9 (slO 9 (((((rrun L regs (b.ins.take (k))).step t)).L).map RVal.cells))) 8 (.row false 4 [[.ptr 4 1 0 0, slA 7 (valC ((((rrun L regs (b.ins.take (k))).step t)).regs)), slA 11 (((((rrun L regs (b.ins.take (k))).step t)).out).map REff.cells), .int .i64 ((((rrun L regs (b.ins.take (k))).step t)).time)]])) 7 (slO 1 (valC ((((rrun L regs (b.ins.take (k))).step t)).regs)))) 11 (slO 6 (((((rrun L regs (b.ins.take (k))).step t)).out).map REff.cells)))) [11, 7, 8, 9, 4] [(4, (.row false 1 [[slA 9 (((((rrun L regs (b.ins.take (k))).step t)).L).map RVal.cells)]])), (9, (slO 9 (((((rrun L regs (b.ins.take (k))).step t)).L).map RVal.cells))), (8, (.row false 4 [[.ptr 4 1 0 0, slA 7 (valC ((((rrun L regs (b.ins.take (k))).step t)).regs)), slA 11 (((((rrun L regs (b.ins.take (k))).step t)).out).map REff.cells), .int .i64 ((((rrun L regs (b.ins.take (k))).step t)).time)]])), (7, (slO 1 (valC ((((rrun L regs (b.ins.take (k))).step t)).regs)))), (11, (slO 6 (((((rrun L regs (b.ins.take (k))).step t)).out).map REff.cells)))] rfl Try.func49 (by kernel_rfl) rfl rfl rfl ⟨⟨_, rfl, (by first | rfl | exact slO_avoid _ _ | exact rtab_avoid _ rfl | exact rwlk_avoid _ _ _ rfl rfl rfl)⟩, ⟨_, rfl, (by first | rfl | exact slO_avoid _ _ | exact rtab_avoid _ rfl | exact rwlk_avoid _ _ _ rfl rfl rfl)⟩, ⟨_, rfl, (by first | rfl | exact slO_avoid _ _ | exact rtab_avoid _ rfl | exact rwlk_avoid _ _ _ rfl rfl rfl)⟩, ⟨_, rfl, (by first | rfl | exact slO_avoid _ _ | exact rtab_avoid _ rfl | exact rwlk_avoid _ _ _ rfl rfl rfl)⟩, ⟨_, rfl, (by first | rfl | exact slO_avoid _ _ | exact rtab_avoid _ rfl | exact rwlk_avoid _ _ _ rfl rfl rfl)⟩, trivial⟩ rfl (hres_cons rfl (hres_cons rfl (hres_cons rfl (hres_cons rfl (hres_cons rfl (hres_nil _)))))) ⟨⟨_, rfl, rfl, (by first | rfl | exact slO_avoid _ _ | exact rtab_avoid _ rfl | exact rwlk_avoid _ _ _ rfl rfl rfl)⟩, ⟨_, rfl, rfl, (by first | rfl | exact slO_avoid _ _ | exact rtab_avoid _ rfl | exact rwlk_avoid _ _ _ rfl rfl rfl)⟩, ⟨_, rfl, rfl, (by first | rfl | exact slO_avoid _ _ | exact rtab_avoid _ rfl | exact rwlk_avoid _ _ _ rfl rfl rfl)⟩, ⟨_, rfl, rfl, (by first | rfl | exact slO_avoid _ _ | exact rtab_avoid _ rfl | exact rwlk_avoid _ _ _ rfl rfl rfl)⟩, ⟨_, rfl, rfl, (by first | rfl | exact slO_avoid _ _ | exact rtab_avoid _ rfl | exact rwlk_avoid _ _ _ rfl rfl rfl)⟩, trivial⟩ rfl (rstepb_ok R _ (rrun L regs (b.ins.take (k))) (rrun_okk h hl k) hm t (hl t (List.mem_of_getElem? ht)))) ?_
  refine AOps.nil ?_
  refine AGo.region ?_
  refine am 18 ?_
  refine aq 19 (q_inc rfl rfl hkl (show b.ins.length ≤ maxLen by simp only [maxLen]; omega)) ?_
  refine aa 8 ?_
  refine AOps.nil ?_
  exact ⟨k+1, Drop.mk' (by repeat (first | exact EDrop.new _ _ | refine EDrop.put ?_ (by rfl) (by first | rfl | exact slA_avoid _ rfl | exact vaA_avoid _ rfl))) (by repeat (first | exact HDrop.none _ _ | exact HDrop.tail _ _ | refine HDrop.put ?_ (by first | rfl | (rw [rrun_succ ht]; rfl)) rfl (by first | rfl | exact slO_avoid _ _ | exact rtab_avoid _ rfl | exact rwlk_avoid _ _ _ rfl rfl rfl))), hkl, by omega⟩
 ·
  refine AGo.cond_false false rfl rfl ?_
  have hge : b.ins.length ≤ k := by have h := hb1; simp only [List.length_map, decide_eq_false_iff_not] at h; omega
  rw [rrun_end hge]
  refine AGo.exit ?_
  refine AGo.seq ?_
  refine AGo.region ?_
  refine am 27 ?_
  refine aa 6 ?_
  refine AOps.nil ?_
  refine AGo.ret ?_
  refine ⟨[_], ⟨rfl, trivial⟩, rfl, ?_⟩
  exact (HSub.put (HSub.put (HSub.put (HSub.put (HSub.put (HSub.none _) rfl) rfl) rfl) rfl) rfl)

end Go.Proofs.Ytpijoieooikfgaa.Sv

namespace Go.Proofs.Ytpijoieooikfgaa.Sv
open Go

set_option maxHeartbeats 1000000 in
set_option maxRecDepth 100000 in
theorem reffecta_ok (R m : Nat) (w : RW) (h : ROk R m w) (hm : m ≤ 90000) (e : REff) : ACall Try.prog 59 [.ptr 6 1 0 0, .agg e.cells] (hput (hput (hput (hput (hput hNew 4 (.row false 1 [[slA 9 (((w).L).map RVal.cells)]])) 9 (slO 9 (((w).L).map RVal.cells))) 6 (.row false 4 [[.ptr 4 1 0 0, slA 5 (valC ((w).regs)), slA 10 (((w).out).map REff.cells), .int .i64 ((w).time)]])) 5 (slO 1 (valC ((w).regs)))) 10 (slO 6 (((w).out).map REff.cells))) (fun r h' => r = .int .i64 (w.out.length : Int) ∧ HSub (hput (hput (hput (hput (hput hNone 4 (.row false 1 [[slA 9 ((((w.eff e)).L).map RVal.cells)]])) 9 (slO 9 ((((w.eff e)).L).map RVal.cells))) 6 (.row false 4 [[.ptr 4 1 0 0, slA 5 (valC (((w.eff e)).regs)), slA 10 ((((w.eff e)).out).map REff.cells), .int .i64 (((w.eff e)).time)]])) 5 (slO 1 (valC (((w.eff e)).regs)))) 10 (slO 6 ((((w.eff e)).out).map REff.cells))) h') := by
 have hel := h.el
 refine ACall.of_body (n := 21) tok Try.func59 rfl rfl ?_
 refine AGo.seq ?_
 refine AGo.region ?_
 refine ax 3 (o_box (sz := 6) 12 rfl rfl rfl rfl (Nat.zero_lt_succ _) rfl) ?_
 refine aa 4 ?_
 refine AOps.nil ?_
 refine AGo.seq ?_
 refine AGo.draw mix ?_
 refine dm 5 ?_
 refine dm 6 ?_
 refine dq 7 (q_nilCheck rfl rfl rfl) ?_
 refine df 8 tok ?_
 refine dl 9 tok ?_
 refine dl 10 tok ?_
 refine dx 11 (o_lit' tok rfl rfl rfl rfl rfl rfl (by decide) rfl rfl rfl rfl rfl rfl) ?_
 refine dx 12 (o_append1J tok (b := 10) (es := ((w.out).map REff.cells)) rfl rfl rfl rfl rfl rfl rfl rfl rfl rfl rfl (Nat.zero_lt_succ _) (re_len _) (re_pure _) rfl rfl (by rw [List.length_map]; show _ * 48 ≤ _; omega) (by rw [List.length_map]; simp only [maxLen]; omega)) ?_
 refine dq 13 (q_nilCheck rfl rfl rfl) ?_
 refine df 14 tok ?_
 refine DOps.w rfl rfl (o_store1 tok rfl rfl rfl rfl rfl rfl rfl rfl rfl (slA_cells _ _) (by decide) (slA_cell1 _ _) (by intro h; cases h)) ?_
 refine DOps.nil (by kernel_rfl) ?_
 refine AGo.seq ?_
 refine AGo.region ?_
 refine am 15 ?_
 refine aq 16 (q_nilCheck rfl rfl rfl) ?_
 refine af 17 tok ?_
 refine al 18 tok ?_
 refine aq 19 (q_lenJ tok rfl rfl rfl rfl) ?_
 refine aq 20 (q_bin (r := .int .i64 (w.out.length : Int)) rfl rfl rfl (subZ (by rw [List.length_append, List.length_map, List.length_singleton]; omega) (by rw [List.length_append, List.length_map, List.length_singleton]; omega) (by rw [List.length_append, List.length_map, List.length_singleton]; omega))) ?_
 refine aa 4 ?_
 refine AOps.nil ?_
 refine AGo.ret ?_
 refine ⟨[_], ⟨rfl, trivial⟩, rfl, ?_⟩
 exact (HSub.put (HSub.put (HSub.put (HSub.put (HSub.put (HSub.none _) rfl) rfl) (by show _ = some (AObj.row false 4 [[.ptr 4 1 0 0, slA 5 (valC w.regs), slA 10 ((w.out ++ [e]).map REff.cells), .int .i64 w.time]]); rw [List.map_append]; rfl)) rfl) (by show _ = some (slO 6 ((w.out ++ [e]).map REff.cells)); rw [List.map_append]; rfl))

theorem rbin_da (w : RW) (t : Tac) : w.bin t = ⟨(rnum w.L (rapplyV w t)).2, rset w.regs t.d (rnum w.L (rapplyV w t)).1, (w.div t).out, w.time⟩ := by
  cases hr : rrisky w t with
  | true => rw [rbin_yes hr]; simp only [RW.div, hr, cond_true]; rfl
  | false => rw [rbin_no hr]; simp only [RW.div, hr, cond_false]
set_option maxHeartbeats 2000000 in
set_option maxRecDepth 100000 in
theorem rbina_ok (R m : Nat) (w : RW) (h : ROk R m w) (hm : m ≤ 90000) (t : Tac) (hd : 0 ≤ t.d ∧ t.d < R) (ha : 0 ≤ t.a ∧ t.a < R) (hb : 0 ≤ t.b ∧ t.b < R) : ACall Try.prog 58 [.ptr 6 1 0 0, .agg t.cells] (hput (hput (hput (hput (hput hNew 4 (.row false 1 [[slA 9 (((w).L).map RVal.cells)]])) 9 (slO 9 (((w).L).map RVal.cells))) 6 (.row false 4 [[.ptr 4 1 0 0, slA 5 (valC ((w).regs)), slA 10 (((w).out).map REff.cells), .int .i64 ((w).time)]])) 5 (slO 1 (valC ((w).regs)))) 10 (slO 6 (((w).out).map REff.cells))) (fun r h' => r = .tup [] ∧ HSub (hput (hput (hput (hput (hput hNone 4 (.row false 1 [[slA 9 ((((w.bin t)).L).map RVal.cells)]])) 9 (slO 9 ((((w.bin t)).L).map RVal.cells))) 6 (.row false 4 [[.ptr 4 1 0 0, slA 5 (valC (((w.bin t)).regs)), slA 10 ((((w.bin t)).out).map REff.cells), .int .i64 (((w.bin t)).time)]])) 5 (slO 1 (valC (((w.bin t)).regs)))) 10 (slO 6 ((((w.bin t)).out).map REff.cells))) h') := by
 have hel := h.el
 have hkl := h.kl
 have hxd := h.at hd
 have hxa := h.at ha
 have hxb := h.at hb
 refine ACall.of_body (n := 120) tok Try.func58 rfl rfl ?_
 refine AGo.seq ?_
 refine AGo.region ?_
 refine ax 3 (o_box (sz := 8) 12 rfl rfl rfl rfl (Nat.zero_lt_succ _) rfl) ?_
 refine AOps.nil ?_
 refine AGo.seq ?_
 refine AGo.draw mix ?_
 refine dm 13 ?_
 refine dq 14 (q_nilCheck rfl rfl rfl) ?_
 refine df 15 tok ?_
 refine dl 16 tok ?_
 refine df 17 tok ?_
 refine dl 18 tok ?_
 refine dq 19 (q_indexJ tok rfl rfl rfl rfl rfl rfl rfl rfl hxa.1 hxa.2.2.1) ?_
 refine dq 20 (q_load tok rfl rfl rfl (ptsJ rfl (valC_get ⟨hxa.1, hxa.2.1⟩)) rfl) ?_
 refine dm 21 ?_
 refine dq 22 (q_nilCheck rfl rfl rfl) ?_
 refine df 23 tok ?_
 refine dl 24 tok ?_
 refine df 25 tok ?_
 refine dl 26 tok ?_
 refine dq 27 (q_indexJ tok rfl rfl rfl rfl rfl rfl rfl rfl hxb.1 hxb.2.2.1) ?_
 refine dq 28 (q_load tok rfl rfl rfl (ptsJ rfl (valC_get ⟨hxb.1, hxb.2.1⟩)) rfl) ?_
 refine da 4 ?_
 refine da 5 ?_
 refine DOps.nil (by kernel_rfl) ?_
 refine AGo.seq ?_
 refine AGo.region ?_
 refine am 30 ?_
 refine aq 31 (q_nilCheck rfl rfl rfl) ?_
 refine af 32 tok ?_
 refine al 33 tok ?_
 refine am 34 ?_
 refine ax 35 (o_call (hc := (hput (hput hNew 4 (.row false 1 [[slA 9 ((w.L).map RVal.cells)]])) 9 (slO 9 ((w.L).map RVal.cells)))) (hw := (hput (hput hNone 4 (.row false 1 [[slA 9 ((w.L).map RVal.cells)]])) 9 (slO 9 ((w.L).map RVal.cells)))) [9, 4] [(4, (.row false 1 [[slA 9 ((w.L).map RVal.cells)]])), (9, (slO 9 ((w.L).map RVal.cells)))] rfl Try.func68 (by kernel_rfl) rfl rfl rfl ⟨⟨_, rfl, (by first | rfl | exact slO_avoid _ _ | exact rtab_avoid _ rfl | exact rwlk_avoid _ _ _ rfl rfl rfl)⟩, ⟨_, rfl, (by first | rfl | exact slO_avoid _ _ | exact rtab_avoid _ rfl | exact rwlk_avoid _ _ _ rfl rfl rfl)⟩, trivial⟩ rfl (hres_cons rfl (hres_cons rfl (hres_nil _))) ⟨⟨_, rfl, rfl, (by first | rfl | exact slO_avoid _ _ | exact rtab_avoid _ rfl | exact rwlk_avoid _ _ _ rfl rfl rfl)⟩, ⟨_, rfl, rfl, (by first | rfl | exact slO_avoid _ _ | exact rtab_avoid _ rfl | exact rwlk_avoid _ _ _ rfl rfl rfl)⟩, trivial⟩ rfl (rconst_ok w.L (rget w.regs t.a) hxa.2.2.2)) ?_
 refine am 29 ?_
 refine aq 36 (q_extract rfl rfl rfl) ?_
 refine aq 37 (q_extract rfl rfl rfl) ?_
 refine aa 6 ?_
 refine aa 7 ?_
 refine AOps.nil ?_
 refine AGo.seq ?_
 refine AGo.region ?_
 refine am 39 ?_
 refine aq 40 (q_nilCheck rfl rfl rfl) ?_
 refine af 41 tok ?_
 refine al 42 tok ?_
 refine am 43 ?_
 refine ax 44 (o_call (hc := (hput (hput hNew 4 (.row false 1 [[slA 9 ((w.L).map RVal.cells)]])) 9 (slO 9 ((w.L).map RVal.cells)))) (hw := (hput (hput hNone 4 (.row false 1 [[slA 9 ((w.L).map RVal.cells)]])) 9 (slO 9 ((w.L).map RVal.cells)))) [9, 4] [(4, (.row false 1 [[slA 9 ((w.L).map RVal.cells)]])), (9, (slO 9 ((w.L).map RVal.cells)))] rfl Try.func68 (by kernel_rfl) rfl rfl rfl ⟨⟨_, rfl, (by first | rfl | exact slO_avoid _ _ | exact rtab_avoid _ rfl | exact rwlk_avoid _ _ _ rfl rfl rfl)⟩, ⟨_, rfl, (by first | rfl | exact slO_avoid _ _ | exact rtab_avoid _ rfl | exact rwlk_avoid _ _ _ rfl rfl rfl)⟩, trivial⟩ rfl (hres_cons rfl (hres_cons rfl (hres_nil _))) ⟨⟨_, rfl, rfl, (by first | rfl | exact slO_avoid _ _ | exact rtab_avoid _ rfl | exact rwlk_avoid _ _ _ rfl rfl rfl)⟩, ⟨_, rfl, rfl, (by first | rfl | exact slO_avoid _ _ | exact rtab_avoid _ rfl | exact rwlk_avoid _ _ _ rfl rfl rfl)⟩, trivial⟩ rfl (rconst_ok w.L (rget w.regs t.b) hxb.2.2.2)) ?_
 refine am 38 ?_
 refine aq 45 (q_extract rfl rfl rfl) ?_
 refine aq 46 (q_extract rfl rfl rfl) ?_
 refine aa 8 ?_
 refine aa 9 ?_
 refine AOps.nil ?_
 refine AGo.seq ?_
 refine AGo.join (γ := Unit) (fun _u => ⟨120, (eput (eput (eput (eput (eput (eput (eput (eput (eput eNew 0 (.ptr 6 1 0 0)) 3 (.ptr 12 1 0 0)) 4 (.int .i64 (rget w.regs t.a))) 5 (.int .i64 (rget w.regs t.b))) 6 (.int .u32 (rconst w.L (rget w.regs t.a)).1)) 8 (.int .u32 (rconst w.L (rget w.regs t.b)).1)) 7 (.bool (rconst w.L (rget w.regs t.a)).2)) 9 (.bool (rconst w.L (rget w.regs t.b)).2)) 10 (.bool (rrisky w t))), (hput (hput (hput (hput (hput (hput (hFrom 13) 12 (.row false 8 [t.cells])) 4 (.row false 1 [[slA 9 (((w).L).map RVal.cells)]])) 9 (slO 9 (((w).L).map RVal.cells))) 6 (.row false 4 [[.ptr 4 1 0 0, slA 5 (valC ((w).regs)), slA 10 (((w).out).map REff.cells), .int .i64 ((w).time)]])) 5 (slO 1 (valC ((w).regs)))) 10 (slO 6 (((w).out).map REff.cells)))⟩) (fun _u => True) ?_ ?_
 ·
  refine AGo.region ?_
  refine af 47 tok ?_
  refine al 48 tok ?_
  refine aq 49 (q_bin rfl rfl rfl rfl) ?_
  refine am 50 ?_
  refine AOps.split 50 rfl (fun hb1 => ?_) (fun hb1 => ?_)
  ·
   refine ak 51 ?_
   refine ak 52 ?_
   refine ak 53 ?_
   refine aq 54 (q_pick_true true rfl rfl rfl rfl) ?_
   refine am 55 ?_
   refine am 56 ?_
   refine aq 57 (q_not rfl rfl) ?_
   refine am 58 ?_
   refine AOps.split 58 rfl (fun hb2 => ?_) (fun hb2 => ?_)
   ·
    refine ak 59 ?_
    refine ak 60 ?_
    refine aq 61 (q_pick_true true rfl rfl rfl rfl) ?_
    refine aq 62 (q_pick_true true rfl rfl rfl rfl) ?_
    refine aa 10 ?_
    refine AOps.nil ?_
    exact ⟨(), Sub.mk' (by repeat (first | exact ESub.new _ | refine ESub.put ?_ (by first | rfl | exact congrArg (fun c => some (AV.bool c)) (by first | (simp [rrisky, *]; done) | (simp_all [rrisky]; done))))) (by repeat (first | exact HSub.refl _ | exact HSub.none _ | exact HSub.from_new _ | exact HSub.from_from (by first | decide | omega | (dsimp only; omega)) | refine HSub.put ?_ (by rfl) | refine HSub.from_put ?_ (by first | decide | omega | (dsimp only; omega)) | refine HSub.from_rm ?_ (by decide))), trivial⟩
   ·
    refine am 59 ?_
    refine aq 60 (q_bin rfl rfl rfl rfl) ?_
    refine aq 61 (q_pick_false false rfl rfl rfl rfl) ?_
    refine aq 62 (q_pick_true true rfl rfl rfl rfl) ?_
    refine aa 10 ?_
    refine AOps.nil ?_
    exact ⟨(), Sub.mk' (by repeat (first | exact ESub.new _ | refine ESub.put ?_ (by first | rfl | exact congrArg (fun c => some (AV.bool c)) (by first | (simp [rrisky, *]; done) | (simp_all [rrisky]; done))))) (by repeat (first | exact HSub.refl _ | exact HSub.none _ | exact HSub.from_new _ | exact HSub.from_from (by first | decide | omega | (dsimp only; omega)) | refine HSub.put ?_ (by rfl) | refine HSub.from_put ?_ (by first | decide | omega | (dsimp only; omega)) | refine HSub.from_rm ?_ (by decide))), trivial⟩
  ·
   refine af 51 tok ?_
   refine al 52 tok ?_
   refine aq 53 (q_bin rfl rfl rfl rfl) ?_
   refine aq 54 (q_pick_false false rfl rfl rfl rfl) ?_
   refine am 55 ?_
   refine AOps.split 55 rfl (fun hb3 => ?_) (fun hb3 => ?_)
   ·
    refine am 56 ?_
    refine aq 57 (q_not rfl rfl) ?_
    refine am 58 ?_
    refine AOps.split 58 rfl (fun hb4 => ?_) (fun hb4 => ?_)
    ·
     refine ak 59 ?_
     refine ak 60 ?_
     refine aq 61 (q_pick_true true rfl rfl rfl rfl) ?_
     refine aq 62 (q_pick_true true rfl rfl rfl rfl) ?_
     refine aa 10 ?_
     refine AOps.nil ?_
     exact ⟨(), Sub.mk' (by repeat (first | exact ESub.new _ | refine ESub.put ?_ (by first | rfl | exact congrArg (fun c => some (AV.bool c)) (by first | (simp [rrisky, *]; done) | (simp_all [rrisky]; done))))) (by repeat (first | exact HSub.refl _ | exact HSub.none _ | exact HSub.from_new _ | exact HSub.from_from (by first | decide | omega | (dsimp only; omega)) | refine HSub.put ?_ (by rfl) | refine HSub.from_put ?_ (by first | decide | omega | (dsimp only; omega)) | refine HSub.from_rm ?_ (by decide))), trivial⟩
    ·
     refine am 59 ?_
     refine aq 60 (q_bin rfl rfl rfl rfl) ?_
     refine aq 61 (q_pick_false false rfl rfl rfl rfl) ?_
     refine aq 62 (q_pick_true true rfl rfl rfl rfl) ?_
     refine aa 10 ?_
     refine AOps.nil ?_
     exact ⟨(), Sub.mk' (by repeat (first | exact ESub.new _ | refine ESub.put ?_ (by first | rfl | exact congrArg (fun c => some (AV.bool c)) (by first | (simp [rrisky, *]; done) | (simp_all [rrisky]; done))))) (by repeat (first | exact HSub.refl _ | exact HSub.none _ | exact HSub.from_new _ | exact HSub.from_from (by first | decide | omega | (dsimp only; omega)) | refine HSub.put ?_ (by rfl) | refine HSub.from_put ?_ (by first | decide | omega | (dsimp only; omega)) | refine HSub.from_rm ?_ (by decide))), trivial⟩
   ·
    refine ak 56 ?_
    refine ak 57 ?_
    refine ak 58 ?_
    refine ak 59 ?_
    refine ak 60 ?_
    refine ak 61 ?_
    refine aq 62 (q_pick_false false rfl rfl rfl rfl) ?_
    refine aa 10 ?_
    refine AOps.nil ?_
    exact ⟨(), Sub.mk' (by repeat (first | exact ESub.new _ | refine ESub.put ?_ (by first | rfl | exact congrArg (fun c => some (AV.bool c)) (by first | (simp [rrisky, *]; done) | (simp_all [rrisky]; done))))) (by repeat (first | exact HSub.refl _ | exact HSub.none _ | exact HSub.from_new _ | exact HSub.from_from (by first | decide | omega | (dsimp only; omega)) | refine HSub.put ?_ (by rfl) | refine HSub.from_put ?_ (by first | decide | omega | (dsimp only; omega)) | refine HSub.from_rm ?_ (by decide))), trivial⟩
 intro _u _
 refine AGo.seq ?_
 refine AGo.seq ?_
 refine AGo.region ?_
 refine am 63 ?_
 refine AOps.nil ?_
 refine AGo.split 63 rfl (fun hb5 => ?_) (fun hb5 => ?_)
 ·
  refine AGo.cond_true true rfl rfl ?_
  have hr : rrisky w t = true := hb5
  refine AGo.region ?_
  refine am 64 ?_
  refine af 65 tok ?_
  refine al 66 tok ?_
  refine af 67 tok ?_
  refine al 68 tok ?_
  refine am 69 ?_
  refine am 70 ?_
  refine aq 71 (q_build tok rfl rfl rfl rfl rfl (by decide) rfl rfl rfl) ?_
  refine ax 72 (o_call (hc := (hput (hput (hput (hput (hput hNew 4 (.row false 1 [[slA 9 (((w).L).map RVal.cells)]])) 9 (slO 9 (((w).L).map RVal.cells))) 6 (.row false 4 [[.ptr 4 1 0 0, slA 5 (valC ((w).regs)), slA 10 (((w).out).map REff.cells), .int .i64 ((w).time)]])) 5 (slO 1 (valC ((w).regs)))) 10 (slO 6 (((w).out).map REff.cells)))) (hw := (hput (hput (hput (hput (hput hNone 4 (.row false 1 [[slA 9 ((((w).eff ⟨t.op, t.k, 0, 0, (rget w.regs t.a), (rget w.regs t.b)⟩).L).map RVal.cells)]])) 9 (slO 9 ((((w).eff ⟨t.op, t.k, 0, 0, (rget w.regs t.a), (rget w.regs t.b)⟩).L).map RVal.cells))) 6 (.row false 4 [[.ptr 4 1 0 0, slA 5 (valC (((w).eff ⟨t.op, t.k, 0, 0, (rget w.regs t.a), (rget w.regs t.b)⟩).regs)), slA 10 ((((w).eff ⟨t.op, t.k, 0, 0, (rget w.regs t.a), (rget w.regs t.b)⟩).out).map REff.cells), .int .i64 (((w).eff ⟨t.op, t.k, 0, 0, (rget w.regs t.a), (rget w.regs t.b)⟩).time)]])) 5 (slO 1 (valC (((w).eff ⟨t.op, t.k, 0, 0, (rget w.regs t.a), (rget w.regs t.b)⟩).regs)))) 10 (slO 6 ((((w).eff ⟨t.op, t.k, 0, 0, (rget w.regs t.a), (rget w.regs t.b)⟩).out).map REff.cells)))) [10, 5, 6, 9, 4] [(4, (.row false 1 [[slA 9 ((((w).eff ⟨t.op, t.k, 0, 0, (rget w.regs t.a), (rget w.regs t.b)⟩).L).map RVal.cells)]])), (9, (slO 9 ((((w).eff ⟨t.op, t.k, 0, 0, (rget w.regs t.a), (rget w.regs t.b)⟩).L).map RVal.cells))), (6, (.row false 4 [[.ptr 4 1 0 0, slA 5 (valC (((w).eff ⟨t.op, t.k, 0, 0, (rget w.regs t.a), (rget w.regs t.b)⟩).regs)), slA 10 ((((w).eff ⟨t.op, t.k, 0, 0, (rget w.regs t.a), (rget w.regs t.b)⟩).out).map REff.cells), .int .i64 (((w).eff ⟨t.op, t.k, 0, 0, (rget w.regs t.a), (rget w.regs t.b)⟩).time)]])), (5, (slO 1 (valC (((w).eff ⟨t.op, t.k, 0, 0, (rget w.regs t.a), (rget w.regs t.b)⟩).regs)))), (10, (slO 6 ((((w).eff ⟨t.op, t.k, 0, 0, (rget w.regs t.a), (rget w.regs t.b)⟩).out).map REff.cells)))] rfl Try.func59 (by kernel_rfl) rfl rfl rfl ⟨⟨_, rfl, (by first | rfl | exact slO_avoid _ _ | exact rtab_avoid _ rfl | exact rwlk_avoid _ _ _ rfl rfl rfl)⟩, ⟨_, rfl, (by first | rfl | exact slO_avoid _ _ | exact rtab_avoid _ rfl | exact rwlk_avoid _ _ _ rfl rfl rfl)⟩, ⟨_, rfl, (by first | rfl | exact slO_avoid _ _ | exact rtab_avoid _ rfl | exact rwlk_avoid _ _ _ rfl rfl rfl)⟩, ⟨_, rfl, (by first | rfl | exact slO_avoid _ _ | exact rtab_avoid _ rfl | exact rwlk_avoid _ _ _ rfl rfl rfl)⟩, ⟨_, rfl, (by first | rfl | exact slO_avoid _ _ | exact rtab_avoid _ rfl | exact rwlk_avoid _ _ _ rfl rfl rfl)⟩, trivial⟩ rfl (hres_cons rfl (hres_cons rfl (hres_cons rfl (hres_cons rfl (hres_cons rfl (hres_nil _)))))) ⟨⟨_, rfl, rfl, (by first | rfl | exact slO_avoid _ _ | exact rtab_avoid _ rfl | exact rwlk_avoid _ _ _ rfl rfl rfl)⟩, ⟨_, rfl, rfl, (by first | rfl | exact slO_avoid _ _ | exact rtab_avoid _ rfl | exact rwlk_avoid _ _ _ rfl rfl rfl)⟩, ⟨_, rfl, rfl, (by first | rfl | exact slO_avoid _ _ | exact rtab_avoid _ rfl | exact rwlk_avoid _ _ _ rfl rfl rfl)⟩, ⟨_, rfl, rfl, (by first | rfl | exact slO_avoid _ _ | exact rtab_avoid _ rfl | exact rwlk_avoid _ _ _ rfl rfl rfl)⟩, ⟨_, rfl, rfl, (by first | rfl | exact slO_avoid _ _ | exact rtab_avoid _ rfl | exact rwlk_avoid _ _ _ rfl rfl rfl)⟩, trivial⟩ rfl (reffecta_ok R m w h (by omega) ⟨t.op, t.k, 0, 0, (rget w.regs t.a), (rget w.regs t.b)⟩)) ?_
  refine AOps.nil ?_
  refine AGo.seq ?_
  refine AGo.seq ?_
  refine AGo.join (γ := Unit) (fun _u => ⟨120, (eput (eput (eput (eput (eput (eput (eput eNew 0 (.ptr 6 1 0 0)) 3 (.ptr 12 1 0 0)) 4 (.int .i64 (rget w.regs t.a))) 5 (.int .i64 (rget w.regs t.b))) 6 (.int .u32 (rconst w.L (rget w.regs t.a)).1)) 8 (.int .u32 (rconst w.L (rget w.regs t.b)).1)) 80 (.bool (rfold w t))), (hput (hput (hput (hput (hput (hput (hFrom 13) 12 (.row false 8 [t.cells])) 4 (.row false 1 [[slA 9 ((w.L).map RVal.cells)]])) 9 (slO 9 ((w.L).map RVal.cells))) 6 (.row false 4 [[.ptr 4 1 0 0, slA 5 (valC (w.regs)), slA 10 (((w.div t).out).map REff.cells), .int .i64 (w.time)]])) 5 (slO 1 (valC (w.regs)))) 10 (slO 6 (((w.div t).out).map REff.cells)))⟩) (fun _u => True) ?_ ?_
  ·
   refine AGo.region ?_
   refine am 73 ?_
   refine am 74 ?_
   refine AOps.split 74 rfl (fun hb6 => ?_) (fun hb6 => ?_)
   ·
    refine am 75 ?_
    refine aq 76 (q_pick_true true rfl rfl rfl rfl) ?_
    refine am 77 ?_
    refine AOps.split 77 rfl (fun hb7 => ?_) (fun hb7 => ?_)
    ·
     refine am 78 ?_
     refine aq 79 (q_not rfl rfl) ?_
     refine aq 80 (q_pick_true true rfl rfl rfl rfl) ?_
     refine AOps.nil ?_
     exact ⟨(), Sub.mk' (by repeat (first | exact ESub.new _ | refine ESub.put ?_ (by first | rfl | exact congrArg (fun c => some (AV.bool c)) (by first | (simp [rfold, *]; done) | (simp_all [rfold]; done))))) (by repeat (first | exact HSub.refl _ | exact HSub.none _ | exact HSub.from_new _ | exact HSub.from_from (by first | decide | omega | (dsimp only; omega)) | refine HSub.put ?_ (by first | rfl | (simp only [RW.div, hr, cond_true, cond_false]; rfl)) | refine HSub.from_put ?_ (by first | decide | omega | (dsimp only; omega)) | refine HSub.from_rm ?_ (by decide))), trivial⟩
    ·
     refine ak 78 ?_
     refine ak 79 ?_
     refine aq 80 (q_pick_false false rfl rfl rfl rfl) ?_
     refine AOps.nil ?_
     exact ⟨(), Sub.mk' (by repeat (first | exact ESub.new _ | refine ESub.put ?_ (by first | rfl | exact congrArg (fun c => some (AV.bool c)) (by first | (simp [rfold, *]; done) | (simp_all [rfold]; done))))) (by repeat (first | exact HSub.refl _ | exact HSub.none _ | exact HSub.from_new _ | exact HSub.from_from (by first | decide | omega | (dsimp only; omega)) | refine HSub.put ?_ (by first | rfl | (simp only [RW.div, hr, cond_true, cond_false]; rfl)) | refine HSub.from_put ?_ (by first | decide | omega | (dsimp only; omega)) | refine HSub.from_rm ?_ (by decide))), trivial⟩
   ·
    refine ak 75 ?_
    refine aq 76 (q_pick_false false rfl rfl rfl rfl) ?_
    refine am 77 ?_
    refine ak 78 ?_
    refine ak 79 ?_
    refine aq 80 (q_pick_false false rfl rfl rfl rfl) ?_
    refine AOps.nil ?_
    exact ⟨(), Sub.mk' (by repeat (first | exact ESub.new _ | refine ESub.put ?_ (by first | rfl | exact congrArg (fun c => some (AV.bool c)) (by first | (simp [rfold, *]; done) | (simp_all [rfold]; done))))) (by repeat (first | exact HSub.refl _ | exact HSub.none _ | exact HSub.from_new _ | exact HSub.from_from (by first | decide | omega | (dsimp only; omega)) | refine HSub.put ?_ (by first | rfl | (simp only [RW.div, hr, cond_true, cond_false]; rfl)) | refine HSub.from_put ?_ (by first | decide | omega | (dsimp only; omega)) | refine HSub.from_rm ?_ (by decide))), trivial⟩
  intro _u _
  refine AGo.split 80 rfl (fun hb8 => ?_) (fun hb8 => ?_)
  ·
   refine AGo.cond_true true rfl rfl ?_
   have hf : rfold w t = true := hb8
   refine AGo.seq ?_
   refine AGo.region ?_
   refine af 82 tok ?_
   refine al 83 tok ?_
   refine am 84 ?_
   refine am 85 ?_
   refine ax 86 (o_pure rfl Try.func53 (by kernel_rfl) rfl rfl rfl (rapply_ok t.k _ _ (rval_n h.wn _) (rval_n h.wn _))) ?_
   refine am 81 ?_
   refine aq 87 (q_extract rfl rfl rfl) ?_
   refine aq 88 (q_extract rfl rfl rfl) ?_
   refine aa 11 ?_
   refine aa 12 ?_
   refine AOps.nil ?_
   refine AGo.seq ?_
   refine AGo.draw mix ?_
   refine dm 89 ?_
   refine dq 90 (q_nilCheck rfl rfl rfl) ?_
   refine df 91 tok ?_
   refine dl 92 tok ?_
   refine df 93 tok ?_
   refine dl 94 tok ?_
   refine dm 95 ?_
   refine dq 96 (q_nilCheck rfl rfl rfl) ?_
   refine df 97 tok ?_
   refine dl 98 tok ?_
   refine dm 99 ?_
   refine dq 100 (q_build tok rfl rfl rfl rfl rfl (by decide) rfl rfl rfl) ?_
   refine dx 101 (o_call (hc := (hput (hput hNew 4 (.row false 1 [[slA 9 ((w.L).map RVal.cells)]])) 9 (slO 9 ((w.L).map RVal.cells)))) (hw := (hput (hput hNone 4 (.row false 1 [[slA 9 (((rnum w.L ⟨1, 0, 0, 0, 0, 0, 0, 0, (wapp t.k (rconst w.L (rget w.regs t.a)).1 (rconst w.L (rget w.regs t.b)).1).1⟩).2).map RVal.cells)]])) 9 (slO 9 (((rnum w.L ⟨1, 0, 0, 0, 0, 0, 0, 0, (wapp t.k (rconst w.L (rget w.regs t.a)).1 (rconst w.L (rget w.regs t.b)).1).1⟩).2).map RVal.cells)))) [9, 4] [(4, (.row false 1 [[slA 9 (((rnum w.L ⟨1, 0, 0, 0, 0, 0, 0, 0, (wapp t.k (rconst w.L (rget w.regs t.a)).1 (rconst w.L (rget w.regs t.b)).1).1⟩).2).map RVal.cells)]])), (9, (slO 9 (((rnum w.L ⟨1, 0, 0, 0, 0, 0, 0, 0, (wapp t.k (rconst w.L (rget w.regs t.a)).1 (rconst w.L (rget w.regs t.b)).1).1⟩).2).map RVal.cells)))] rfl Try.func38 (by kernel_rfl) rfl rfl rfl ⟨⟨_, rfl, (by first | rfl | exact slO_avoid _ _ | exact rtab_avoid _ rfl | exact rwlk_avoid _ _ _ rfl rfl rfl)⟩, ⟨_, rfl, (by first | rfl | exact slO_avoid _ _ | exact rtab_avoid _ rfl | exact rwlk_avoid _ _ _ rfl rfl rfl)⟩, trivial⟩ rfl (hres_cons rfl (hres_cons rfl (hres_nil _))) ⟨⟨_, rfl, rfl, (by first | rfl | exact slO_avoid _ _ | exact rtab_avoid _ rfl | exact rwlk_avoid _ _ _ rfl rfl rfl)⟩, ⟨_, rfl, rfl, (by first | rfl | exact slO_avoid _ _ | exact rtab_avoid _ rfl | exact rwlk_avoid _ _ _ rfl rfl rfl)⟩, trivial⟩ rfl (rof_ok w.L (by omega) ⟨1, 0, 0, 0, 0, 0, 0, 0, (wapp t.k (rconst w.L (rget w.regs t.a)).1 (rconst w.L (rget w.regs t.b)).1).1⟩)) ?_
   refine dq 102 (q_indexJ tok rfl rfl rfl rfl rfl rfl rfl rfl hxd.1 hxd.2.2.1) ?_
   refine DOps.w rfl rfl (o_storeJ tok rfl rfl rfl rfl rfl rfl rfl (by have h1 := hxd.2.2.1; have h0 := hxd.1; show t.d.toNat < (valC w.regs).length; omega) (valC_one _) rfl rfl rfl) ?_
   refine DOps.nil (by kernel_rfl) ?_
   refine AGo.ret ?_
   refine ⟨[], trivial, rfl, ?_⟩
   rw [rbin_da, rapplyV_c hf]
   exact (HSub.put (HSub.put (HSub.put (HSub.put (HSub.put (HSub.none _) rfl) rfl) (by show _ = some (AObj.row false 4 [[.ptr 4 1 0 0, slA 5 (valC (rset w.regs t.d _)), slA 10 ((w.div t).out.map REff.cells), .int .i64 w.time]]); rw [valC_slA]; rfl)) (by show _ = some (slO 1 (valC (rset w.regs t.d _))); rw [valC_set]; rfl)) rfl)
  ·
   refine AGo.cond_false false rfl rfl ?_
   have hf : rfold w t = false := hb8
   refine AGo.skip ?_
   refine AGo.draw mix ?_
   refine dm 103 ?_
   refine dq 104 (q_nilCheck rfl rfl rfl) ?_
   refine df 105 tok ?_
   refine dl 106 tok ?_
   refine df 107 tok ?_
   refine dl 108 tok ?_
   refine dm 109 ?_
   refine dq 110 (q_nilCheck rfl rfl rfl) ?_
   refine df 111 tok ?_
   refine dl 112 tok ?_
   refine df 113 tok ?_
   refine dl 114 tok ?_
   refine dm 115 ?_
   refine dm 116 ?_
   refine dq 117 (q_build tok rfl rfl rfl rfl rfl (by decide) rfl rfl rfl) ?_
   refine dx 118 (o_call (hc := (hput (hput hNew 4 (.row false 1 [[slA 9 ((w.L).map RVal.cells)]])) 9 (slO 9 ((w.L).map RVal.cells)))) (hw := (hput (hput hNone 4 (.row false 1 [[slA 9 (((rnum w.L ⟨3, t.k, (rget w.regs t.a), (rget w.regs t.b), 0, 0, 0, 0, 0⟩).2).map RVal.cells)]])) 9 (slO 9 (((rnum w.L ⟨3, t.k, (rget w.regs t.a), (rget w.regs t.b), 0, 0, 0, 0, 0⟩).2).map RVal.cells)))) [9, 4] [(4, (.row false 1 [[slA 9 (((rnum w.L ⟨3, t.k, (rget w.regs t.a), (rget w.regs t.b), 0, 0, 0, 0, 0⟩).2).map RVal.cells)]])), (9, (slO 9 (((rnum w.L ⟨3, t.k, (rget w.regs t.a), (rget w.regs t.b), 0, 0, 0, 0, 0⟩).2).map RVal.cells)))] rfl Try.func38 (by kernel_rfl) rfl rfl rfl ⟨⟨_, rfl, (by first | rfl | exact slO_avoid _ _ | exact rtab_avoid _ rfl | exact rwlk_avoid _ _ _ rfl rfl rfl)⟩, ⟨_, rfl, (by first | rfl | exact slO_avoid _ _ | exact rtab_avoid _ rfl | exact rwlk_avoid _ _ _ rfl rfl rfl)⟩, trivial⟩ rfl (hres_cons rfl (hres_cons rfl (hres_nil _))) ⟨⟨_, rfl, rfl, (by first | rfl | exact slO_avoid _ _ | exact rtab_avoid _ rfl | exact rwlk_avoid _ _ _ rfl rfl rfl)⟩, ⟨_, rfl, rfl, (by first | rfl | exact slO_avoid _ _ | exact rtab_avoid _ rfl | exact rwlk_avoid _ _ _ rfl rfl rfl)⟩, trivial⟩ rfl (rof_ok w.L (by omega) ⟨3, t.k, (rget w.regs t.a), (rget w.regs t.b), 0, 0, 0, 0, 0⟩)) ?_
   refine dq 119 (q_indexJ tok rfl rfl rfl rfl rfl rfl rfl rfl hxd.1 hxd.2.2.1) ?_
   refine DOps.w rfl rfl (o_storeJ tok rfl rfl rfl rfl rfl rfl rfl (by have h1 := hxd.2.2.1; have h0 := hxd.1; show t.d.toNat < (valC w.regs).length; omega) (valC_one _) rfl rfl rfl) ?_
   refine DOps.nil (by kernel_rfl) ?_
   refine ⟨[], trivial, rfl, ?_⟩
   rw [rbin_da, rapplyV_o hf]
   exact (HSub.put (HSub.put (HSub.put (HSub.put (HSub.put (HSub.none _) rfl) rfl) (by show _ = some (AObj.row false 4 [[.ptr 4 1 0 0, slA 5 (valC (rset w.regs t.d _)), slA 10 ((w.div t).out.map REff.cells), .int .i64 w.time]]); rw [valC_slA]; rfl)) (by show _ = some (slO 1 (valC (rset w.regs t.d _))); rw [valC_set]; rfl)) rfl)
 ·
  refine AGo.cond_false false rfl rfl ?_
  have hr : rrisky w t = false := hb5
  refine AGo.skip ?_
  refine AGo.seq ?_
  refine AGo.seq ?_
  refine AGo.join (γ := Unit) (fun _u => ⟨120, (eput (eput (eput (eput (eput (eput (eput eNew 0 (.ptr 6 1 0 0)) 3 (.ptr 12 1 0 0)) 4 (.int .i64 (rget w.regs t.a))) 5 (.int .i64 (rget w.regs t.b))) 6 (.int .u32 (rconst w.L (rget w.regs t.a)).1)) 8 (.int .u32 (rconst w.L (rget w.regs t.b)).1)) 80 (.bool (rfold w t))), (hput (hput (hput (hput (hput (hput (hFrom 13) 12 (.row false 8 [t.cells])) 4 (.row false 1 [[slA 9 ((w.L).map RVal.cells)]])) 9 (slO 9 ((w.L).map RVal.cells))) 6 (.row false 4 [[.ptr 4 1 0 0, slA 5 (valC (w.regs)), slA 10 (((w.div t).out).map REff.cells), .int .i64 (w.time)]])) 5 (slO 1 (valC (w.regs)))) 10 (slO 6 (((w.div t).out).map REff.cells)))⟩) (fun _u => True) ?_ ?_
  ·
   refine AGo.region ?_
   refine am 73 ?_
   refine am 74 ?_
   refine AOps.split 74 rfl (fun hb9 => ?_) (fun hb9 => ?_)
   ·
    refine am 75 ?_
    refine aq 76 (q_pick_true true rfl rfl rfl rfl) ?_
    refine am 77 ?_
    refine AOps.split 77 rfl (fun hb10 => ?_) (fun hb10 => ?_)
    ·
     refine am 78 ?_
     refine aq 79 (q_not rfl rfl) ?_
     refine aq 80 (q_pick_true true rfl rfl rfl rfl) ?_
     refine AOps.nil ?_
     exact ⟨(), Sub.mk' (by repeat (first | exact ESub.new _ | refine ESub.put ?_ (by first | rfl | exact congrArg (fun c => some (AV.bool c)) (by first | (simp [rfold, *]; done) | (simp_all [rfold]; done))))) (by repeat (first | exact HSub.refl _ | exact HSub.none _ | exact HSub.from_new _ | exact HSub.from_from (by first | decide | omega | (dsimp only; omega)) | refine HSub.put ?_ (by first | rfl | (simp only [RW.div, hr, cond_true, cond_false]; rfl)) | refine HSub.from_put ?_ (by first | decide | omega | (dsimp only; omega)) | refine HSub.from_rm ?_ (by decide))), trivial⟩
    ·
     refine ak 78 ?_
     refine ak 79 ?_
     refine aq 80 (q_pick_false false rfl rfl rfl rfl) ?_
     refine AOps.nil ?_
     exact ⟨(), Sub.mk' (by repeat (first | exact ESub.new _ | refine ESub.put ?_ (by first | rfl | exact congrArg (fun c => some (AV.bool c)) (by first | (simp [rfold, *]; done) | (simp_all [rfold]; done))))) (by repeat (first | exact HSub.refl _ | exact HSub.none _ | exact HSub.from_new _ | exact HSub.from_from (by first | decide | omega | (dsimp only; omega)) | refine HSub.put ?_ (by first | rfl | (simp only [RW.div, hr, cond_true, cond_false]; rfl)) | refine HSub.from_put ?_ (by first | decide | omega | (dsimp only; omega)) | refine HSub.from_rm ?_ (by decide))), trivial⟩
   ·
    refine ak 75 ?_
    refine aq 76 (q_pick_false false rfl rfl rfl rfl) ?_
    refine am 77 ?_
    refine ak 78 ?_
    refine ak 79 ?_
    refine aq 80 (q_pick_false false rfl rfl rfl rfl) ?_
    refine AOps.nil ?_
    exact ⟨(), Sub.mk' (by repeat (first | exact ESub.new _ | refine ESub.put ?_ (by first | rfl | exact congrArg (fun c => some (AV.bool c)) (by first | (simp [rfold, *]; done) | (simp_all [rfold]; done))))) (by repeat (first | exact HSub.refl _ | exact HSub.none _ | exact HSub.from_new _ | exact HSub.from_from (by first | decide | omega | (dsimp only; omega)) | refine HSub.put ?_ (by first | rfl | (simp only [RW.div, hr, cond_true, cond_false]; rfl)) | refine HSub.from_put ?_ (by first | decide | omega | (dsimp only; omega)) | refine HSub.from_rm ?_ (by decide))), trivial⟩
  intro _u _
  refine AGo.split 80 rfl (fun hb11 => ?_) (fun hb11 => ?_)
  ·
   refine AGo.cond_true true rfl rfl ?_
   have hf : rfold w t = true := hb11
   refine AGo.seq ?_
   refine AGo.region ?_
   refine af 82 tok ?_
   refine al 83 tok ?_
   refine am 84 ?_
   refine am 85 ?_
   refine ax 86 (o_pure rfl Try.func53 (by kernel_rfl) rfl rfl rfl (rapply_ok t.k _ _ (rval_n h.wn _) (rval_n h.wn _))) ?_
   refine am 81 ?_
   refine aq 87 (q_extract rfl rfl rfl) ?_
   refine aq 88 (q_extract rfl rfl rfl) ?_
   refine aa 11 ?_
   refine aa 12 ?_
   refine AOps.nil ?_
   refine AGo.seq ?_
   refine AGo.draw mix ?_
   refine dm 89 ?_
   refine dq 90 (q_nilCheck rfl rfl rfl) ?_
   refine df 91 tok ?_
   refine dl 92 tok ?_
   refine df 93 tok ?_
   refine dl 94 tok ?_
   refine dm 95 ?_
   refine dq 96 (q_nilCheck rfl rfl rfl) ?_
   refine df 97 tok ?_
   refine dl 98 tok ?_
   refine dm 99 ?_
   refine dq 100 (q_build tok rfl rfl rfl rfl rfl (by decide) rfl rfl rfl) ?_
   refine dx 101 (o_call (hc := (hput (hput hNew 4 (.row false 1 [[slA 9 ((w.L).map RVal.cells)]])) 9 (slO 9 ((w.L).map RVal.cells)))) (hw := (hput (hput hNone 4 (.row false 1 [[slA 9 (((rnum w.L ⟨1, 0, 0, 0, 0, 0, 0, 0, (wapp t.k (rconst w.L (rget w.regs t.a)).1 (rconst w.L (rget w.regs t.b)).1).1⟩).2).map RVal.cells)]])) 9 (slO 9 (((rnum w.L ⟨1, 0, 0, 0, 0, 0, 0, 0, (wapp t.k (rconst w.L (rget w.regs t.a)).1 (rconst w.L (rget w.regs t.b)).1).1⟩).2).map RVal.cells)))) [9, 4] [(4, (.row false 1 [[slA 9 (((rnum w.L ⟨1, 0, 0, 0, 0, 0, 0, 0, (wapp t.k (rconst w.L (rget w.regs t.a)).1 (rconst w.L (rget w.regs t.b)).1).1⟩).2).map RVal.cells)]])), (9, (slO 9 (((rnum w.L ⟨1, 0, 0, 0, 0, 0, 0, 0, (wapp t.k (rconst w.L (rget w.regs t.a)).1 (rconst w.L (rget w.regs t.b)).1).1⟩).2).map RVal.cells)))] rfl Try.func38 (by kernel_rfl) rfl rfl rfl ⟨⟨_, rfl, (by first | rfl | exact slO_avoid _ _ | exact rtab_avoid _ rfl | exact rwlk_avoid _ _ _ rfl rfl rfl)⟩, ⟨_, rfl, (by first | rfl | exact slO_avoid _ _ | exact rtab_avoid _ rfl | exact rwlk_avoid _ _ _ rfl rfl rfl)⟩, trivial⟩ rfl (hres_cons rfl (hres_cons rfl (hres_nil _))) ⟨⟨_, rfl, rfl, (by first | rfl | exact slO_avoid _ _ | exact rtab_avoid _ rfl | exact rwlk_avoid _ _ _ rfl rfl rfl)⟩, ⟨_, rfl, rfl, (by first | rfl | exact slO_avoid _ _ | exact rtab_avoid _ rfl | exact rwlk_avoid _ _ _ rfl rfl rfl)⟩, trivial⟩ rfl (rof_ok w.L (by omega) ⟨1, 0, 0, 0, 0, 0, 0, 0, (wapp t.k (rconst w.L (rget w.regs t.a)).1 (rconst w.L (rget w.regs t.b)).1).1⟩)) ?_
   refine dq 102 (q_indexJ tok rfl rfl rfl rfl rfl rfl rfl rfl hxd.1 hxd.2.2.1) ?_
   refine DOps.w rfl rfl (o_storeJ tok rfl rfl rfl rfl rfl rfl rfl (by have h1 := hxd.2.2.1; have h0 := hxd.1; show t.d.toNat < (valC w.regs).length; omega) (valC_one _) rfl rfl rfl) ?_
   refine DOps.nil (by kernel_rfl) ?_
   refine AGo.ret ?_
   refine ⟨[], trivial, rfl, ?_⟩
   rw [rbin_da, rapplyV_c hf]
   exact (HSub.put (HSub.put (HSub.put (HSub.put (HSub.put (HSub.none _) rfl) rfl) (by show _ = some (AObj.row false 4 [[.ptr 4 1 0 0, slA 5 (valC (rset w.regs t.d _)), slA 10 ((w.div t).out.map REff.cells), .int .i64 w.time]]); rw [valC_slA]; rfl)) (by show _ = some (slO 1 (valC (rset w.regs t.d _))); rw [valC_set]; rfl)) rfl)
  ·
   refine AGo.cond_false false rfl rfl ?_
   have hf : rfold w t = false := hb11
   refine AGo.skip ?_
   refine AGo.draw mix ?_
   refine dm 103 ?_
   refine dq 104 (q_nilCheck rfl rfl rfl) ?_
   refine df 105 tok ?_
   refine dl 106 tok ?_
   refine df 107 tok ?_
   refine dl 108 tok ?_
   refine dm 109 ?_
   refine dq 110 (q_nilCheck rfl rfl rfl) ?_
   refine df 111 tok ?_
   refine dl 112 tok ?_
   refine df 113 tok ?_
   refine dl 114 tok ?_
   refine dm 115 ?_
   refine dm 116 ?_
   refine dq 117 (q_build tok rfl rfl rfl rfl rfl (by decide) rfl rfl rfl) ?_
   refine dx 118 (o_call (hc := (hput (hput hNew 4 (.row false 1 [[slA 9 ((w.L).map RVal.cells)]])) 9 (slO 9 ((w.L).map RVal.cells)))) (hw := (hput (hput hNone 4 (.row false 1 [[slA 9 (((rnum w.L ⟨3, t.k, (rget w.regs t.a), (rget w.regs t.b), 0, 0, 0, 0, 0⟩).2).map RVal.cells)]])) 9 (slO 9 (((rnum w.L ⟨3, t.k, (rget w.regs t.a), (rget w.regs t.b), 0, 0, 0, 0, 0⟩).2).map RVal.cells)))) [9, 4] [(4, (.row false 1 [[slA 9 (((rnum w.L ⟨3, t.k, (rget w.regs t.a), (rget w.regs t.b), 0, 0, 0, 0, 0⟩).2).map RVal.cells)]])), (9, (slO 9 (((rnum w.L ⟨3, t.k, (rget w.regs t.a), (rget w.regs t.b), 0, 0, 0, 0, 0⟩).2).map RVal.cells)))] rfl Try.func38 (by kernel_rfl) rfl rfl rfl ⟨⟨_, rfl, (by first | rfl | exact slO_avoid _ _ | exact rtab_avoid _ rfl | exact rwlk_avoid _ _ _ rfl rfl rfl)⟩, ⟨_, rfl, (by first | rfl | exact slO_avoid _ _ | exact rtab_avoid _ rfl | exact rwlk_avoid _ _ _ rfl rfl rfl)⟩, trivial⟩ rfl (hres_cons rfl (hres_cons rfl (hres_nil _))) ⟨⟨_, rfl, rfl, (by first | rfl | exact slO_avoid _ _ | exact rtab_avoid _ rfl | exact rwlk_avoid _ _ _ rfl rfl rfl)⟩, ⟨_, rfl, rfl, (by first | rfl | exact slO_avoid _ _ | exact rtab_avoid _ rfl | exact rwlk_avoid _ _ _ rfl rfl rfl)⟩, trivial⟩ rfl (rof_ok w.L (by omega) ⟨3, t.k, (rget w.regs t.a), (rget w.regs t.b), 0, 0, 0, 0, 0⟩)) ?_
   refine dq 119 (q_indexJ tok rfl rfl rfl rfl rfl rfl rfl rfl hxd.1 hxd.2.2.1) ?_
   refine DOps.w rfl rfl (o_storeJ tok rfl rfl rfl rfl rfl rfl rfl (by have h1 := hxd.2.2.1; have h0 := hxd.1; show t.d.toNat < (valC w.regs).length; omega) (valC_one _) rfl rfl rfl) ?_
   refine DOps.nil (by kernel_rfl) ?_
   refine ⟨[], trivial, rfl, ?_⟩
   rw [rbin_da, rapplyV_o hf]
   exact (HSub.put (HSub.put (HSub.put (HSub.put (HSub.put (HSub.none _) rfl) rfl) (by show _ = some (AObj.row false 4 [[.ptr 4 1 0 0, slA 5 (valC (rset w.regs t.d _)), slA 10 ((w.div t).out.map REff.cells), .int .i64 w.time]]); rw [valC_slA]; rfl)) (by show _ = some (slO 1 (valC (rset w.regs t.d _))); rw [valC_set]; rfl)) rfl)

set_option maxHeartbeats 2000000 in
set_option maxRecDepth 100000 in
theorem rstepa_ok (R m : Nat) (w : RW) (h : ROk R m w) (hm : m ≤ 80000) (t : Tac) (ht : TacV t R) : ACall Try.prog 49 [.ptr 6 1 0 0, .agg t.cells] (hput (hput (hput (hput (hput hNew 4 (.row false 1 [[slA 9 (((w).L).map RVal.cells)]])) 9 (slO 9 (((w).L).map RVal.cells))) 6 (.row false 4 [[.ptr 4 1 0 0, slA 5 (valC ((w).regs)), slA 10 (((w).out).map REff.cells), .int .i64 ((w).time)]])) 5 (slO 1 (valC ((w).regs)))) 10 (slO 6 (((w).out).map REff.cells))) (fun r h' => r = .tup [] ∧ HSub (hput (hput (hput (hput (hput hNone 4 (.row false 1 [[slA 9 ((((w.step t)).L).map RVal.cells)]])) 9 (slO 9 ((((w.step t)).L).map RVal.cells))) 6 (.row false 4 [[.ptr 4 1 0 0, slA 5 (valC (((w.step t)).regs)), slA 10 ((((w.step t)).out).map REff.cells), .int .i64 (((w.step t)).time)]])) 5 (slO 1 (valC (((w.step t)).regs)))) 10 (slO 6 ((((w.step t)).out).map REff.cells))) h') := by
 have hel := h.el
 have hkl := h.kl
 have htl := h.tl
 refine ACall.of_body (n := 209) tok Try.func49 rfl rfl ?_
 refine AGo.seq ?_
 refine AGo.region ?_
 refine ax 3 (o_box (sz := 8) 12 rfl rfl rfl rfl (Nat.zero_lt_succ _) rfl) ?_
 refine AOps.nil ?_
 refine AGo.seq ?_
 refine AGo.region ?_
 refine af 6 tok ?_
 refine al 7 tok ?_
 refine AOps.nil ?_
 refine AGo.block ?_
 refine AGo.seq ?_
 refine AGo.region ?_
 refine aq 23 (q_bin rfl rfl rfl rfl) ?_
 refine aa 22 ?_
 refine AOps.nil ?_
 refine AGo.split 22 rfl (fun hb1 => ?_) (fun hb1 => ?_)
 ·
  refine AGo.cond_true true rfl rfl ?_
  have ho : t.op = 1 := by simpa using hb1
  have hxd := h.at (ht.d (by rw [ho]; rfl))
  
  refine AGo.draw mix ?_
  refine dm 24 ?_
  refine dq 25 (q_nilCheck rfl rfl rfl) ?_
  refine df 26 tok ?_
  refine dl 27 tok ?_
  refine df 28 tok ?_
  refine dl 29 tok ?_
  refine dm 30 ?_
  refine dq 31 (q_nilCheck rfl rfl rfl) ?_
  refine df 32 tok ?_
  refine dl 33 tok ?_
  refine df 34 tok ?_
  refine dl 35 tok ?_
  refine dq 36 (q_build tok rfl rfl rfl rfl rfl (by decide) rfl rfl rfl) ?_
  refine dx 37 (o_call (hc := (hput (hput hNew 4 (.row false 1 [[slA 9 ((w.L).map RVal.cells)]])) 9 (slO 9 ((w.L).map RVal.cells)))) (hw := (hput (hput hNone 4 (.row false 1 [[slA 9 (((rnum w.L ⟨1, 0, 0, 0, 0, 0, 0, 0, t.n⟩).2).map RVal.cells)]])) 9 (slO 9 (((rnum w.L ⟨1, 0, 0, 0, 0, 0, 0, 0, t.n⟩).2).map RVal.cells)))) [9, 4] [(4, (.row false 1 [[slA 9 (((rnum w.L ⟨1, 0, 0, 0, 0, 0, 0, 0, t.n⟩).2).map RVal.cells)]])), (9, (slO 9 (((rnum w.L ⟨1, 0, 0, 0, 0, 0, 0, 0, t.n⟩).2).map RVal.cells)))] rfl Try.func38 (by kernel_rfl) rfl rfl rfl ⟨⟨_, rfl, (by first | rfl | exact slO_avoid _ _ | exact rtab_avoid _ rfl | exact rwlk_avoid _ _ _ rfl rfl rfl)⟩, ⟨_, rfl, (by first | rfl | exact slO_avoid _ _ | exact rtab_avoid _ rfl | exact rwlk_avoid _ _ _ rfl rfl rfl)⟩, trivial⟩ rfl (hres_cons rfl (hres_cons rfl (hres_nil _))) ⟨⟨_, rfl, rfl, (by first | rfl | exact slO_avoid _ _ | exact rtab_avoid _ rfl | exact rwlk_avoid _ _ _ rfl rfl rfl)⟩, ⟨_, rfl, rfl, (by first | rfl | exact slO_avoid _ _ | exact rtab_avoid _ rfl | exact rwlk_avoid _ _ _ rfl rfl rfl)⟩, trivial⟩ rfl (rof_ok w.L (by omega) ⟨1, 0, 0, 0, 0, 0, 0, 0, t.n⟩)) ?_
  refine dq 38 (q_indexJ tok rfl rfl rfl rfl rfl rfl rfl rfl hxd.1 hxd.2.2.1) ?_
  refine DOps.w rfl rfl (o_storeJ tok rfl rfl rfl rfl rfl rfl rfl (by have h1 := hxd.2.2.1; have h0 := hxd.1; show t.d.toNat < (valC w.regs).length; omega) (valC_one _) rfl rfl rfl) ?_
  refine DOps.nil (by kernel_rfl) ?_
  refine ⟨[], trivial, rfl, ?_⟩
  rw [rstep1 ho]
  exact (HSub.put (HSub.put (HSub.put (HSub.put (HSub.put (HSub.none _) rfl) rfl) (by show _ = some (AObj.row false 4 [[.ptr 4 1 0 0, slA 5 (valC (rset w.regs t.d _)), slA 10 (w.out.map REff.cells), .int .i64 w.time]]); rw [valC_slA]; rfl)) (by show _ = some (slO 1 (valC (rset w.regs t.d _))); rw [valC_set]; rfl)) rfl)
 ·
  refine AGo.cond_false false rfl rfl ?_
  refine AGo.seq ?_
  refine AGo.region ?_
  refine aq 40 (q_bin rfl rfl rfl rfl) ?_
  refine aa 39 ?_
  refine AOps.nil ?_
  refine AGo.split 39 rfl (fun hb2 => ?_) (fun hb2 => ?_)
  ·
   refine AGo.cond_true true rfl rfl ?_
   have ho : t.op = 2 := by simpa using hb2
   have hxd := h.at (ht.d (by rw [ho]; rfl))
   have hxa := h.at (ht.a (.inl (by rw [ho]; rfl)))
   
   refine AGo.draw mix ?_
   refine dm 41 ?_
   refine dq 42 (q_nilCheck rfl rfl rfl) ?_
   refine df 43 tok ?_
   refine dl 44 tok ?_
   refine df 45 tok ?_
   refine dl 46 tok ?_
   refine dm 47 ?_
   refine dq 48 (q_nilCheck rfl rfl rfl) ?_
   refine df 49 tok ?_
   refine dl 50 tok ?_
   refine df 51 tok ?_
   refine dl 52 tok ?_
   refine dq 53 (q_indexJ tok rfl rfl rfl rfl rfl rfl rfl rfl hxa.1 hxa.2.2.1) ?_
   refine dq 54 (q_load tok rfl rfl rfl (ptsJ rfl (valC_get ⟨hxa.1, hxa.2.1⟩)) rfl) ?_
   refine dq 55 (q_indexJ tok rfl rfl rfl rfl rfl rfl rfl rfl hxd.1 hxd.2.2.1) ?_
   refine DOps.w rfl rfl (o_storeJ tok rfl rfl rfl rfl rfl rfl rfl (by have h1 := hxd.2.2.1; have h0 := hxd.1; show t.d.toNat < (valC w.regs).length; omega) (valC_one _) rfl rfl rfl) ?_
   refine DOps.nil (by kernel_rfl) ?_
   refine ⟨[], trivial, rfl, ?_⟩
   rw [rstep2 ho]
   exact (HSub.put (HSub.put (HSub.put (HSub.put (HSub.put (HSub.none _) rfl) rfl) (by show _ = some (AObj.row false 4 [[.ptr 4 1 0 0, slA 5 (valC (rset w.regs t.d _)), slA 10 (w.out.map REff.cells), .int .i64 w.time]]); rw [valC_slA]; rfl)) (by show _ = some (slO 1 (valC (rset w.regs t.d _))); rw [valC_set]; rfl)) rfl)
  ·
   refine AGo.cond_false false rfl rfl ?_
   refine AGo.seq ?_
   refine AGo.region ?_
   refine aq 57 (q_bin rfl rfl rfl rfl) ?_
   refine aa 56 ?_
   refine AOps.nil ?_
   refine AGo.split 56 rfl (fun hb3 => ?_) (fun hb3 => ?_)
   ·
    refine AGo.cond_true true rfl rfl ?_
    have ho : t.op = 3 := by simpa using hb3
    
    refine AGo.region ?_
    refine am 58 ?_
    refine al 59 tok ?_
    refine ax 60 (o_call (hc := (hput (hput (hput (hput (hput hNew 4 (.row false 1 [[slA 9 (((w).L).map RVal.cells)]])) 9 (slO 9 (((w).L).map RVal.cells))) 6 (.row false 4 [[.ptr 4 1 0 0, slA 5 (valC ((w).regs)), slA 10 (((w).out).map REff.cells), .int .i64 ((w).time)]])) 5 (slO 1 (valC ((w).regs)))) 10 (slO 6 (((w).out).map REff.cells)))) (hw := (hput (hput (hput (hput (hput hNone 4 (.row false 1 [[slA 9 ((((w.bin t)).L).map RVal.cells)]])) 9 (slO 9 ((((w.bin t)).L).map RVal.cells))) 6 (.row false 4 [[.ptr 4 1 0 0, slA 5 (valC (((w.bin t)).regs)), slA 10 ((((w.bin t)).out).map REff.cells), .int .i64 (((w.bin t)).time)]])) 5 (slO 1 (valC (((w.bin t)).regs)))) 10 (slO 6 ((((w.bin t)).out).map REff.cells)))) [10, 5, 6, 9, 4] [(4, (.row false 1 [[slA 9 ((((w.bin t)).L).map RVal.cells)]])), (9, (slO 9 ((((w.bin t)).L).map RVal.cells))), (6, (.row false 4 [[.ptr 4 1 0 0, slA 5 (valC (((w.bin t)).regs)), slA 10 ((((w.bin t)).out).map REff.cells), .int .i64 (((w.bin t)).time)]])), (5, (slO 1 (valC (((w.bin t)).regs)))), (10, (slO 6 ((((w.bin t)).out).map REff.cells)))] rfl Try.func58 (by kernel_rfl) rfl rfl rfl ⟨⟨_, rfl, (by first | rfl | exact slO_avoid _ _ | exact rtab_avoid _ rfl | exact rwlk_avoid _ _ _ rfl rfl rfl)⟩, ⟨_, rfl, (by first | rfl | exact slO_avoid _ _ | exact rtab_avoid _ rfl | exact rwlk_avoid _ _ _ rfl rfl rfl)⟩, ⟨_, rfl, (by first | rfl | exact slO_avoid _ _ | exact rtab_avoid _ rfl | exact rwlk_avoid _ _ _ rfl rfl rfl)⟩, ⟨_, rfl, (by first | rfl | exact slO_avoid _ _ | exact rtab_avoid _ rfl | exact rwlk_avoid _ _ _ rfl rfl rfl)⟩, ⟨_, rfl, (by first | rfl | exact slO_avoid _ _ | exact rtab_avoid _ rfl | exact rwlk_avoid _ _ _ rfl rfl rfl)⟩, trivial⟩ rfl (hres_cons rfl (hres_cons rfl (hres_cons rfl (hres_cons rfl (hres_cons rfl (hres_nil _)))))) ⟨⟨_, rfl, rfl, (by first | rfl | exact slO_avoid _ _ | exact rtab_avoid _ rfl | exact rwlk_avoid _ _ _ rfl rfl rfl)⟩, ⟨_, rfl, rfl, (by first | rfl | exact slO_avoid _ _ | exact rtab_avoid _ rfl | exact rwlk_avoid _ _ _ rfl rfl rfl)⟩, ⟨_, rfl, rfl, (by first | rfl | exact slO_avoid _ _ | exact rtab_avoid _ rfl | exact rwlk_avoid _ _ _ rfl rfl rfl)⟩, ⟨_, rfl, rfl, (by first | rfl | exact slO_avoid _ _ | exact rtab_avoid _ rfl | exact rwlk_avoid _ _ _ rfl rfl rfl)⟩, ⟨_, rfl, rfl, (by first | rfl | exact slO_avoid _ _ | exact rtab_avoid _ rfl | exact rwlk_avoid _ _ _ rfl rfl rfl)⟩, trivial⟩ rfl (rbina_ok R m w h (by omega) t (ht.d (by rw [ho]; rfl)) (ht.a (.inr (by rw [ho]; rfl))) (ht.b (by rw [ho]; rfl)))) ?_
    refine AOps.nil ?_
    refine ⟨[], trivial, rfl, ?_⟩
    rw [rstep3 ho]
    exact (HSub.put (HSub.put (HSub.put (HSub.put (HSub.put (HSub.none _) rfl) rfl) rfl) rfl) rfl)
   ·
    refine AGo.cond_false false rfl rfl ?_
    refine AGo.seq ?_
    refine AGo.region ?_
    refine aq 62 (q_bin rfl rfl rfl rfl) ?_
    refine aa 61 ?_
    refine AOps.nil ?_
    refine AGo.split 61 rfl (fun hb4 => ?_) (fun hb4 => ?_)
    ·
     refine AGo.cond_true true rfl rfl ?_
     have ho : t.op = 4 := by simpa using hb4
     have hxd := h.at (ht.d (by rw [ho]; rfl))
     
     refine AGo.draw mix ?_
     refine dm 63 ?_
     refine dq 64 (q_nilCheck rfl rfl rfl) ?_
     refine df 65 tok ?_
     refine dl 66 tok ?_
     refine df 67 tok ?_
     refine dl 68 tok ?_
     refine dm 69 ?_
     refine dq 70 (q_nilCheck rfl rfl rfl) ?_
     refine df 71 tok ?_
     refine dl 72 tok ?_
     refine df 73 tok ?_
     refine dl 74 tok ?_
     refine dm 75 ?_
     refine dq 76 (q_nilCheck rfl rfl rfl) ?_
     refine df 77 tok ?_
     refine dl 78 tok ?_
     refine dq 79 (q_build tok rfl rfl rfl rfl rfl (by decide) rfl rfl rfl) ?_
     refine dx 80 (o_call (hc := (hput (hput hNew 4 (.row false 1 [[slA 9 ((w.L).map RVal.cells)]])) 9 (slO 9 ((w.L).map RVal.cells)))) (hw := (hput (hput hNone 4 (.row false 1 [[slA 9 (((rnum w.L ⟨4, 0, 0, 0, 0, 0, t.base, w.time, 0⟩).2).map RVal.cells)]])) 9 (slO 9 (((rnum w.L ⟨4, 0, 0, 0, 0, 0, t.base, w.time, 0⟩).2).map RVal.cells)))) [9, 4] [(4, (.row false 1 [[slA 9 (((rnum w.L ⟨4, 0, 0, 0, 0, 0, t.base, w.time, 0⟩).2).map RVal.cells)]])), (9, (slO 9 (((rnum w.L ⟨4, 0, 0, 0, 0, 0, t.base, w.time, 0⟩).2).map RVal.cells)))] rfl Try.func38 (by kernel_rfl) rfl rfl rfl ⟨⟨_, rfl, (by first | rfl | exact slO_avoid _ _ | exact rtab_avoid _ rfl | exact rwlk_avoid _ _ _ rfl rfl rfl)⟩, ⟨_, rfl, (by first | rfl | exact slO_avoid _ _ | exact rtab_avoid _ rfl | exact rwlk_avoid _ _ _ rfl rfl rfl)⟩, trivial⟩ rfl (hres_cons rfl (hres_cons rfl (hres_nil _))) ⟨⟨_, rfl, rfl, (by first | rfl | exact slO_avoid _ _ | exact rtab_avoid _ rfl | exact rwlk_avoid _ _ _ rfl rfl rfl)⟩, ⟨_, rfl, rfl, (by first | rfl | exact slO_avoid _ _ | exact rtab_avoid _ rfl | exact rwlk_avoid _ _ _ rfl rfl rfl)⟩, trivial⟩ rfl (rof_ok w.L (by omega) ⟨4, 0, 0, 0, 0, 0, t.base, w.time, 0⟩)) ?_
     refine dq 81 (q_indexJ tok rfl rfl rfl rfl rfl rfl rfl rfl hxd.1 hxd.2.2.1) ?_
     refine DOps.w rfl rfl (o_storeJ tok rfl rfl rfl rfl rfl rfl rfl (by have h1 := hxd.2.2.1; have h0 := hxd.1; show t.d.toNat < (valC w.regs).length; omega) (valC_one _) rfl rfl rfl) ?_
     refine DOps.nil (by kernel_rfl) ?_
     refine ⟨[], trivial, rfl, ?_⟩
     rw [rstep4 ho]
     exact (HSub.put (HSub.put (HSub.put (HSub.put (HSub.put (HSub.none _) rfl) rfl) (by show _ = some (AObj.row false 4 [[.ptr 4 1 0 0, slA 5 (valC (rset w.regs t.d _)), slA 10 (w.out.map REff.cells), .int .i64 w.time]]); rw [valC_slA]; rfl)) (by show _ = some (slO 1 (valC (rset w.regs t.d _))); rw [valC_set]; rfl)) rfl)
    ·
     refine AGo.cond_false false rfl rfl ?_
     refine AGo.seq ?_
     refine AGo.region ?_
     refine aq 83 (q_bin rfl rfl rfl rfl) ?_
     refine aa 82 ?_
     refine AOps.nil ?_
     refine AGo.split 82 rfl (fun hb5 => ?_) (fun hb5 => ?_)
     ·
      refine AGo.cond_true true rfl rfl ?_
      have ho : t.op = 5 := by simpa using hb5
      have hxa := h.at (ht.a (.inl (by rw [ho]; rfl)))
      
      refine AGo.seq ?_
      refine AGo.draw mix ?_
      refine dm 84 ?_
      refine df 85 tok ?_
      refine dl 86 tok ?_
      refine df 87 tok ?_
      refine dl 88 tok ?_
      refine dm 89 ?_
      refine dq 90 (q_nilCheck rfl rfl rfl) ?_
      refine df 91 tok ?_
      refine dl 92 tok ?_
      refine df 93 tok ?_
      refine dl 94 tok ?_
      refine dq 95 (q_indexJ tok rfl rfl rfl rfl rfl rfl rfl rfl hxa.1 hxa.2.2.1) ?_
      refine dq 96 (q_load tok rfl rfl rfl (ptsJ rfl (valC_get ⟨hxa.1, hxa.2.1⟩)) rfl) ?_
      refine dq 97 (q_build tok rfl rfl rfl rfl rfl (by decide) rfl rfl rfl) ?_
      refine dx 98 (o_call (hc := (hput (hput (hput (hput (hput hNew 4 (.row false 1 [[slA 9 (((w).L).map RVal.cells)]])) 9 (slO 9 (((w).L).map RVal.cells))) 6 (.row false 4 [[.ptr 4 1 0 0, slA 5 (valC ((w).regs)), slA 10 (((w).out).map REff.cells), .int .i64 ((w).time)]])) 5 (slO 1 (valC ((w).regs)))) 10 (slO 6 (((w).out).map REff.cells)))) (hw := (hput (hput (hput (hput (hput hNone 4 (.row false 1 [[slA 9 ((((w).eff ⟨t.op, 0, t.base, 0, (rget w.regs t.a), 0⟩).L).map RVal.cells)]])) 9 (slO 9 ((((w).eff ⟨t.op, 0, t.base, 0, (rget w.regs t.a), 0⟩).L).map RVal.cells))) 6 (.row false 4 [[.ptr 4 1 0 0, slA 5 (valC (((w).eff ⟨t.op, 0, t.base, 0, (rget w.regs t.a), 0⟩).regs)), slA 10 ((((w).eff ⟨t.op, 0, t.base, 0, (rget w.regs t.a), 0⟩).out).map REff.cells), .int .i64 (((w).eff ⟨t.op, 0, t.base, 0, (rget w.regs t.a), 0⟩).time)]])) 5 (slO 1 (valC (((w).eff ⟨t.op, 0, t.base, 0, (rget w.regs t.a), 0⟩).regs)))) 10 (slO 6 ((((w).eff ⟨t.op, 0, t.base, 0, (rget w.regs t.a), 0⟩).out).map REff.cells)))) [10, 5, 6, 9, 4] [(4, (.row false 1 [[slA 9 ((((w).eff ⟨t.op, 0, t.base, 0, (rget w.regs t.a), 0⟩).L).map RVal.cells)]])), (9, (slO 9 ((((w).eff ⟨t.op, 0, t.base, 0, (rget w.regs t.a), 0⟩).L).map RVal.cells))), (6, (.row false 4 [[.ptr 4 1 0 0, slA 5 (valC (((w).eff ⟨t.op, 0, t.base, 0, (rget w.regs t.a), 0⟩).regs)), slA 10 ((((w).eff ⟨t.op, 0, t.base, 0, (rget w.regs t.a), 0⟩).out).map REff.cells), .int .i64 (((w).eff ⟨t.op, 0, t.base, 0, (rget w.regs t.a), 0⟩).time)]])), (5, (slO 1 (valC (((w).eff ⟨t.op, 0, t.base, 0, (rget w.regs t.a), 0⟩).regs)))), (10, (slO 6 ((((w).eff ⟨t.op, 0, t.base, 0, (rget w.regs t.a), 0⟩).out).map REff.cells)))] rfl Try.func59 (by kernel_rfl) rfl rfl rfl ⟨⟨_, rfl, (by first | rfl | exact slO_avoid _ _ | exact rtab_avoid _ rfl | exact rwlk_avoid _ _ _ rfl rfl rfl)⟩, ⟨_, rfl, (by first | rfl | exact slO_avoid _ _ | exact rtab_avoid _ rfl | exact rwlk_avoid _ _ _ rfl rfl rfl)⟩, ⟨_, rfl, (by first | rfl | exact slO_avoid _ _ | exact rtab_avoid _ rfl | exact rwlk_avoid _ _ _ rfl rfl rfl)⟩, ⟨_, rfl, (by first | rfl | exact slO_avoid _ _ | exact rtab_avoid _ rfl | exact rwlk_avoid _ _ _ rfl rfl rfl)⟩, ⟨_, rfl, (by first | rfl | exact slO_avoid _ _ | exact rtab_avoid _ rfl | exact rwlk_avoid _ _ _ rfl rfl rfl)⟩, trivial⟩ rfl (hres_cons rfl (hres_cons rfl (hres_cons rfl (hres_cons rfl (hres_cons rfl (hres_nil _)))))) ⟨⟨_, rfl, rfl, (by first | rfl | exact slO_avoid _ _ | exact rtab_avoid _ rfl | exact rwlk_avoid _ _ _ rfl rfl rfl)⟩, ⟨_, rfl, rfl, (by first | rfl | exact slO_avoid _ _ | exact rtab_avoid _ rfl | exact rwlk_avoid _ _ _ rfl rfl rfl)⟩, ⟨_, rfl, rfl, (by first | rfl | exact slO_avoid _ _ | exact rtab_avoid _ rfl | exact rwlk_avoid _ _ _ rfl rfl rfl)⟩, ⟨_, rfl, rfl, (by first | rfl | exact slO_avoid _ _ | exact rtab_avoid _ rfl | exact rwlk_avoid _ _ _ rfl rfl rfl)⟩, ⟨_, rfl, rfl, (by first | rfl | exact slO_avoid _ _ | exact rtab_avoid _ rfl | exact rwlk_avoid _ _ _ rfl rfl rfl)⟩, trivial⟩ rfl (reffecta_ok R m w h (by omega) ⟨t.op, 0, t.base, 0, (rget w.regs t.a), 0⟩)) ?_
      refine DOps.nil (by kernel_rfl) ?_
      refine AGo.region ?_
      refine am 99 ?_
      refine aq 100 (q_nilCheck rfl rfl rfl) ?_
      refine af 101 tok ?_
      refine al 102 tok ?_
      refine aq 103 (q_bin (r := .int .i64 (w.time + 1)) rfl rfl rfl (by exact timeZ (x := w.time) (by omega))) ?_
      refine aq 104 (q_nilCheck rfl rfl rfl) ?_
      refine af 105 tok ?_
      refine AOps.w rfl rfl (o_store tok rfl rfl rfl rfl rfl rfl rfl rfl rfl (by decide) rfl (by first | exact fun _ => rfl | (intro h; cases h))) ?_
      refine AOps.nil ?_
      refine ⟨[], trivial, rfl, ?_⟩
      rw [rstep5 ho]
      exact (HSub.put (HSub.put (HSub.put (HSub.put (HSub.put (HSub.none _) rfl) rfl) rfl) rfl) rfl)
     ·
      refine AGo.cond_false false rfl rfl ?_
      refine AGo.seq ?_
      refine AGo.region ?_
      refine aq 107 (q_bin rfl rfl rfl rfl) ?_
      refine aa 106 ?_
      refine AOps.nil ?_
      refine AGo.split 106 rfl (fun hb6 => ?_) (fun hb6 => ?_)
      ·
       refine AGo.cond_true true rfl rfl ?_
       have ho : t.op = 6 := by simpa using hb6
       have hxd := h.at (ht.d (by rw [ho]; rfl))
       have hxa := h.at (ht.a (.inl (by rw [ho]; rfl)))
       
       refine AGo.seq ?_
       refine AGo.draw mix ?_
       refine dm 108 ?_
       refine df 109 tok ?_
       refine dl 110 tok ?_
       refine df 111 tok ?_
       refine dl 112 tok ?_
       refine df 113 tok ?_
       refine dl 114 tok ?_
       refine dm 115 ?_
       refine dq 116 (q_nilCheck rfl rfl rfl) ?_
       refine df 117 tok ?_
       refine dl 118 tok ?_
       refine df 119 tok ?_
       refine dl 120 tok ?_
       refine dq 121 (q_indexJ tok rfl rfl rfl rfl rfl rfl rfl rfl hxa.1 hxa.2.2.1) ?_
       refine dq 122 (q_load tok rfl rfl rfl (ptsJ rfl (valC_get ⟨hxa.1, hxa.2.1⟩)) rfl) ?_
       refine dq 123 (q_build tok rfl rfl rfl rfl rfl (by decide) rfl rfl rfl) ?_
       refine dx 124 (o_call (hc := (hput (hput (hput (hput (hput hNew 4 (.row false 1 [[slA 9 (((w).L).map RVal.cells)]])) 9 (slO 9 (((w).L).map RVal.cells))) 6 (.row false 4 [[.ptr 4 1 0 0, slA 5 (valC ((w).regs)), slA 10 (((w).out).map REff.cells), .int .i64 ((w).time)]])) 5 (slO 1 (valC ((w).regs)))) 10 (slO 6 (((w).out).map REff.cells)))) (hw := (hput (hput (hput (hput (hput hNone 4 (.row false 1 [[slA 9 ((((w).eff ⟨t.op, 0, t.base, t.size, (rget w.regs t.a), 0⟩).L).map RVal.cells)]])) 9 (slO 9 ((((w).eff ⟨t.op, 0, t.base, t.size, (rget w.regs t.a), 0⟩).L).map RVal.cells))) 6 (.row false 4 [[.ptr 4 1 0 0, slA 5 (valC (((w).eff ⟨t.op, 0, t.base, t.size, (rget w.regs t.a), 0⟩).regs)), slA 10 ((((w).eff ⟨t.op, 0, t.base, t.size, (rget w.regs t.a), 0⟩).out).map REff.cells), .int .i64 (((w).eff ⟨t.op, 0, t.base, t.size, (rget w.regs t.a), 0⟩).time)]])) 5 (slO 1 (valC (((w).eff ⟨t.op, 0, t.base, t.size, (rget w.regs t.a), 0⟩).regs)))) 10 (slO 6 ((((w).eff ⟨t.op, 0, t.base, t.size, (rget w.regs t.a), 0⟩).out).map REff.cells)))) [10, 5, 6, 9, 4] [(4, (.row false 1 [[slA 9 ((((w).eff ⟨t.op, 0, t.base, t.size, (rget w.regs t.a), 0⟩).L).map RVal.cells)]])), (9, (slO 9 ((((w).eff ⟨t.op, 0, t.base, t.size, (rget w.regs t.a), 0⟩).L).map RVal.cells))), (6, (.row false 4 [[.ptr 4 1 0 0, slA 5 (valC (((w).eff ⟨t.op, 0, t.base, t.size, (rget w.regs t.a), 0⟩).regs)), slA 10 ((((w).eff ⟨t.op, 0, t.base, t.size, (rget w.regs t.a), 0⟩).out).map REff.cells), .int .i64 (((w).eff ⟨t.op, 0, t.base, t.size, (rget w.regs t.a), 0⟩).time)]])), (5, (slO 1 (valC (((w).eff ⟨t.op, 0, t.base, t.size, (rget w.regs t.a), 0⟩).regs)))), (10, (slO 6 ((((w).eff ⟨t.op, 0, t.base, t.size, (rget w.regs t.a), 0⟩).out).map REff.cells)))] rfl Try.func59 (by kernel_rfl) rfl rfl rfl ⟨⟨_, rfl, (by first | rfl | exact slO_avoid _ _ | exact rtab_avoid _ rfl | exact rwlk_avoid _ _ _ rfl rfl rfl)⟩, ⟨_, rfl, (by first | rfl | exact slO_avoid _ _ | exact rtab_avoid _ rfl | exact rwlk_avoid _ _ _ rfl rfl rfl)⟩, ⟨_, rfl, (by first | rfl | exact slO_avoid _ _ | exact rtab_avoid _ rfl | exact rwlk_avoid _ _ _ rfl rfl rfl)⟩, ⟨_, rfl, (by first | rfl | exact slO_avoid _ _ | exact rtab_avoid _ rfl | exact rwlk_avoid _ _ _ rfl rfl rfl)⟩, ⟨_, rfl, (by first | rfl | exact slO_avoid _ _ | exact rtab_avoid _ rfl | exact rwlk_avoid _ _ _ rfl rfl rfl)⟩, trivial⟩ rfl (hres_cons rfl (hres_cons rfl (hres_cons rfl (hres_cons rfl (hres_cons rfl (hres_nil _)))))) ⟨⟨_, rfl, rfl, (by first | rfl | exact slO_avoid _ _ | exact rtab_avoid _ rfl | exact rwlk_avoid _ _ _ rfl rfl rfl)⟩, ⟨_, rfl, rfl, (by first | rfl | exact slO_avoid _ _ | exact rtab_avoid _ rfl | exact rwlk_avoid _ _ _ rfl rfl rfl)⟩, ⟨_, rfl, rfl, (by first | rfl | exact slO_avoid _ _ | exact rtab_avoid _ rfl | exact rwlk_avoid _ _ _ rfl rfl rfl)⟩, ⟨_, rfl, rfl, (by first | rfl | exact slO_avoid _ _ | exact rtab_avoid _ rfl | exact rwlk_avoid _ _ _ rfl rfl rfl)⟩, ⟨_, rfl, rfl, (by first | rfl | exact slO_avoid _ _ | exact rtab_avoid _ rfl | exact rwlk_avoid _ _ _ rfl rfl rfl)⟩, trivial⟩ rfl (reffecta_ok R m w h (by omega) ⟨t.op, 0, t.base, t.size, (rget w.regs t.a), 0⟩)) ?_
       refine da 4 ?_
       refine DOps.nil (by kernel_rfl) ?_
       refine AGo.draw mix ?_
       refine dm 125 ?_
       refine dq 126 (q_nilCheck rfl rfl rfl) ?_
       refine df 127 tok ?_
       refine dl 128 tok ?_
       refine df 129 tok ?_
       refine dl 130 tok ?_
       refine dm 131 ?_
       refine dq 132 (q_nilCheck rfl rfl rfl) ?_
       refine df 133 tok ?_
       refine dl 134 tok ?_
       refine dm 135 ?_
       refine dq 136 (q_build tok rfl rfl rfl rfl rfl (by decide) rfl rfl rfl) ?_
       refine dx 137 (o_call (hc := (hput (hput hNew 4 (.row false 1 [[slA 9 ((w.L).map RVal.cells)]])) 9 (slO 9 ((w.L).map RVal.cells)))) (hw := (hput (hput hNone 4 (.row false 1 [[slA 9 (((rnum w.L (runkV w.out.length)).2).map RVal.cells)]])) 9 (slO 9 (((rnum w.L (runkV w.out.length)).2).map RVal.cells)))) [9, 4] [(4, (.row false 1 [[slA 9 (((rnum w.L (runkV w.out.length)).2).map RVal.cells)]])), (9, (slO 9 (((rnum w.L (runkV w.out.length)).2).map RVal.cells)))] rfl Try.func38 (by kernel_rfl) rfl rfl rfl ⟨⟨_, rfl, (by first | rfl | exact slO_avoid _ _ | exact rtab_avoid _ rfl | exact rwlk_avoid _ _ _ rfl rfl rfl)⟩, ⟨_, rfl, (by first | rfl | exact slO_avoid _ _ | exact rtab_avoid _ rfl | exact rwlk_avoid _ _ _ rfl rfl rfl)⟩, trivial⟩ rfl (hres_cons rfl (hres_cons rfl (hres_nil _))) ⟨⟨_, rfl, rfl, (by first | rfl | exact slO_avoid _ _ | exact rtab_avoid _ rfl | exact rwlk_avoid _ _ _ rfl rfl rfl)⟩, ⟨_, rfl, rfl, (by first | rfl | exact slO_avoid _ _ | exact rtab_avoid _ rfl | exact rwlk_avoid _ _ _ rfl rfl rfl)⟩, trivial⟩ rfl (rof_ok w.L (by omega) (runkV w.out.length))) ?_
       refine dq 138 (q_indexJ tok rfl rfl rfl rfl rfl rfl rfl rfl hxd.1 hxd.2.2.1) ?_
       refine DOps.w rfl rfl (o_storeJ tok rfl rfl rfl rfl rfl rfl rfl (by have h1 := hxd.2.2.1; have h0 := hxd.1; show t.d.toNat < (valC w.regs).length; omega) (valC_one _) rfl rfl rfl) ?_
       refine DOps.nil (by kernel_rfl) ?_
       refine ⟨[], trivial, rfl, ?_⟩
       rw [rstep6 ho]
       exact (HSub.put (HSub.put (HSub.put (HSub.put (HSub.put (HSub.none _) rfl) rfl) (by show _ = some (AObj.row false 4 [[.ptr 4 1 0 0, slA 5 (valC (rset w.regs t.d _)), slA 10 ((w.eff ⟨t.op, 0, t.base, t.size, (rget w.regs t.a), 0⟩).out.map REff.cells), .int .i64 w.time]]); rw [valC_slA]; rfl)) (by show _ = some (slO 1 (valC (rset w.regs t.d _))); rw [valC_set]; rfl)) rfl)
      ·
       refine AGo.cond_false false rfl rfl ?_
       refine AGo.seq ?_
       refine AGo.region ?_
       refine aq 140 (q_bin rfl rfl rfl rfl) ?_
       refine aa 139 ?_
       refine AOps.nil ?_
       refine AGo.split 139 rfl (fun hb7 => ?_) (fun hb7 => ?_)
       ·
        refine AGo.cond_true true rfl rfl ?_
        have ho : t.op = 7 := by simpa using hb7
        have hxa := h.at (ht.a (.inr (by rw [ho]; rfl)))
        have hxb := h.at (ht.b (by rw [ho]; rfl))
        
        refine AGo.seq ?_
        refine AGo.draw mix ?_
        refine dm 141 ?_
        refine df 142 tok ?_
        refine dl 143 tok ?_
        refine df 144 tok ?_
        refine dl 145 tok ?_
        refine df 146 tok ?_
        refine dl 147 tok ?_
        refine dm 148 ?_
        refine dq 149 (q_nilCheck rfl rfl rfl) ?_
        refine df 150 tok ?_
        refine dl 151 tok ?_
        refine df 152 tok ?_
        refine dl 153 tok ?_
        refine dq 154 (q_indexJ tok rfl rfl rfl rfl rfl rfl rfl rfl hxa.1 hxa.2.2.1) ?_
        refine dq 155 (q_load tok rfl rfl rfl (ptsJ rfl (valC_get ⟨hxa.1, hxa.2.1⟩)) rfl) ?_
        refine dm 156 ?_
        refine dq 157 (q_nilCheck rfl rfl rfl) ?_
        refine df 158 tok ?_
        refine dl 159 tok ?_
        refine df 160 tok ?_
        refine dl 161 tok ?_
        refine dq 162 (q_indexJ tok rfl rfl rfl rfl rfl rfl rfl rfl hxb.1 hxb.2.2.1) ?_
        refine dq 163 (q_load tok rfl rfl rfl (ptsJ rfl (valC_get ⟨hxb.1, hxb.2.1⟩)) rfl) ?_
        refine dq 164 (q_build tok rfl rfl rfl rfl rfl (by decide) rfl rfl rfl) ?_
        refine dx 165 (o_call (hc := (hput (hput (hput (hput (hput hNew 4 (.row false 1 [[slA 9 (((w).L).map RVal.cells)]])) 9 (slO 9 (((w).L).map RVal.cells))) 6 (.row false 4 [[.ptr 4 1 0 0, slA 5 (valC ((w).regs)), slA 10 (((w).out).map REff.cells), .int .i64 ((w).time)]])) 5 (slO 1 (valC ((w).regs)))) 10 (slO 6 (((w).out).map REff.cells)))) (hw := (hput (hput (hput (hput (hput hNone 4 (.row false 1 [[slA 9 ((((w).eff ⟨t.op, 0, t.base, t.size, (rget w.regs t.a), (rget w.regs t.b)⟩).L).map RVal.cells)]])) 9 (slO 9 ((((w).eff ⟨t.op, 0, t.base, t.size, (rget w.regs t.a), (rget w.regs t.b)⟩).L).map RVal.cells))) 6 (.row false 4 [[.ptr 4 1 0 0, slA 5 (valC (((w).eff ⟨t.op, 0, t.base, t.size, (rget w.regs t.a), (rget w.regs t.b)⟩).regs)), slA 10 ((((w).eff ⟨t.op, 0, t.base, t.size, (rget w.regs t.a), (rget w.regs t.b)⟩).out).map REff.cells), .int .i64 (((w).eff ⟨t.op, 0, t.base, t.size, (rget w.regs t.a), (rget w.regs t.b)⟩).time)]])) 5 (slO 1 (valC (((w).eff ⟨t.op, 0, t.base, t.size, (rget w.regs t.a), (rget w.regs t.b)⟩).regs)))) 10 (slO 6 ((((w).eff ⟨t.op, 0, t.base, t.size, (rget w.regs t.a), (rget w.regs t.b)⟩).out).map REff.cells)))) [10, 5, 6, 9, 4] [(4, (.row false 1 [[slA 9 ((((w).eff ⟨t.op, 0, t.base, t.size, (rget w.regs t.a), (rget w.regs t.b)⟩).L).map RVal.cells)]])), (9, (slO 9 ((((w).eff ⟨t.op, 0, t.base, t.size, (rget w.regs t.a), (rget w.regs t.b)⟩).L).map RVal.cells))), (6, (.row false 4 [[.ptr 4 1 0 0, slA 5 (valC (((w).eff ⟨t.op, 0, t.base, t.size, (rget w.regs t.a), (rget w.regs t.b)⟩).regs)), slA 10 ((((w).eff ⟨t.op, 0, t.base, t.size, (rget w.regs t.a), (rget w.regs t.b)⟩).out).map REff.cells), .int .i64 (((w).eff ⟨t.op, 0, t.base, t.size, (rget w.regs t.a), (rget w.regs t.b)⟩).time)]])), (5, (slO 1 (valC (((w).eff ⟨t.op, 0, t.base, t.size, (rget w.regs t.a), (rget w.regs t.b)⟩).regs)))), (10, (slO 6 ((((w).eff ⟨t.op, 0, t.base, t.size, (rget w.regs t.a), (rget w.regs t.b)⟩).out).map REff.cells)))] rfl Try.func59 (by kernel_rfl) rfl rfl rfl ⟨⟨_, rfl, (by first | rfl | exact slO_avoid _ _ | exact rtab_avoid _ rfl | exact rwlk_avoid _ _ _ rfl rfl rfl)⟩, ⟨_, rfl, (by first | rfl | exact slO_avoid _ _ | exact rtab_avoid _ rfl | exact rwlk_avoid _ _ _ rfl rfl rfl)⟩, ⟨_, rfl, (by first | rfl | exact slO_avoid _ _ | exact rtab_avoid _ rfl | exact rwlk_avoid _ _ _ rfl rfl rfl)⟩, ⟨_, rfl, (by first | rfl | exact slO_avoid _ _ | exact rtab_avoid _ rfl | exact rwlk_avoid _ _ _ rfl rfl rfl)⟩, ⟨_, rfl, (by first | rfl | exact slO_avoid _ _ | exact rtab_avoid _ rfl | exact rwlk_avoid _ _ _ rfl rfl rfl)⟩, trivial⟩ rfl (hres_cons rfl (hres_cons rfl (hres_cons rfl (hres_cons rfl (hres_cons rfl (hres_nil _)))))) ⟨⟨_, rfl, rfl, (by first | rfl | exact slO_avoid _ _ | exact rtab_avoid _ rfl | exact rwlk_avoid _ _ _ rfl rfl rfl)⟩, ⟨_, rfl, rfl, (by first | rfl | exact slO_avoid _ _ | exact rtab_avoid _ rfl | exact rwlk_avoid _ _ _ rfl rfl rfl)⟩, ⟨_, rfl, rfl, (by first | rfl | exact slO_avoid _ _ | exact rtab_avoid _ rfl | exact rwlk_avoid _ _ _ rfl rfl rfl)⟩, ⟨_, rfl, rfl, (by first | rfl | exact slO_avoid _ _ | exact rtab_avoid _ rfl | exact rwlk_avoid _ _ _ rfl rfl rfl)⟩, ⟨_, rfl, rfl, (by first | rfl | exact slO_avoid _ _ | exact rtab_avoid _ rfl | exact rwlk_avoid _ _ _ rfl rfl rfl)⟩, trivial⟩ rfl (reffecta_ok R m w h (by omega) ⟨t.op, 0, t.base, t.size, (rget w.regs t.a), (rget w.regs t.b)⟩)) ?_
        refine DOps.nil (by kernel_rfl) ?_
        refine AGo.region ?_
        refine am 166 ?_
        refine aq 167 (q_nilCheck rfl rfl rfl) ?_
        refine af 168 tok ?_
        refine al 169 tok ?_
        refine aq 170 (q_bin (r := .int .i64 (w.time + 1)) rfl rfl rfl (by exact timeZ (x := w.time) (by omega))) ?_
        refine aq 171 (q_nilCheck rfl rfl rfl) ?_
        refine af 172 tok ?_
        refine AOps.w rfl rfl (o_store tok rfl rfl rfl rfl rfl rfl rfl rfl rfl (by decide) rfl (by first | exact fun _ => rfl | (intro h; cases h))) ?_
        refine AOps.nil ?_
        refine ⟨[], trivial, rfl, ?_⟩
        rw [rstep7 ho]
        exact (HSub.put (HSub.put (HSub.put (HSub.put (HSub.put (HSub.none _) rfl) rfl) rfl) rfl) rfl)
       ·
        refine AGo.cond_false false rfl rfl ?_
        refine AGo.seq ?_
        refine AGo.region ?_
        refine aq 174 (q_bin rfl rfl rfl rfl) ?_
        refine aa 173 ?_
        refine AOps.nil ?_
        refine AGo.split 173 rfl (fun hb8 => ?_) (fun hb8 => ?_)
        ·
         refine AGo.cond_true true rfl rfl ?_
         have ho : t.op = 8 := by simpa using hb8
         have hxd := h.at (ht.d (by rw [ho]; rfl))
         
         refine AGo.seq ?_
         refine AGo.region ?_
         refine am 175 ?_
         refine af 176 tok ?_
         refine al 177 tok ?_
         refine aq 178 (q_build tok rfl rfl rfl rfl rfl (by decide) rfl rfl rfl) ?_
         refine ax 179 (o_call (hc := (hput (hput (hput (hput (hput hNew 4 (.row false 1 [[slA 9 (((w).L).map RVal.cells)]])) 9 (slO 9 (((w).L).map RVal.cells))) 6 (.row false 4 [[.ptr 4 1 0 0, slA 5 (valC ((w).regs)), slA 10 (((w).out).map REff.cells), .int .i64 ((w).time)]])) 5 (slO 1 (valC ((w).regs)))) 10 (slO 6 (((w).out).map REff.cells)))) (hw := (hput (hput (hput (hput (hput hNone 4 (.row false 1 [[slA 9 ((((w).eff ⟨t.op, 0, 0, 0, 0, 0⟩).L).map RVal.cells)]])) 9 (slO 9 ((((w).eff ⟨t.op, 0, 0, 0, 0, 0⟩).L).map RVal.cells))) 6 (.row false 4 [[.ptr 4 1 0 0, slA 5 (valC (((w).eff ⟨t.op, 0, 0, 0, 0, 0⟩).regs)), slA 10 ((((w).eff ⟨t.op, 0, 0, 0, 0, 0⟩).out).map REff.cells), .int .i64 (((w).eff ⟨t.op, 0, 0, 0, 0, 0⟩).time)]])) 5 (slO 1 (valC (((w).eff ⟨t.op, 0, 0, 0, 0, 0⟩).regs)))) 10 (slO 6 ((((w).eff ⟨t.op, 0, 0, 0, 0, 0⟩).out).map REff.cells)))) [10, 5, 6, 9, 4] [(4, (.row false 1 [[slA 9 ((((w).eff ⟨t.op, 0, 0, 0, 0, 0⟩).L).map RVal.cells)]])), (9, (slO 9 ((((w).eff ⟨t.op, 0, 0, 0, 0, 0⟩).L).map RVal.cells))), (6, (.row false 4 [[.ptr 4 1 0 0, slA 5 (valC (((w).eff ⟨t.op, 0, 0, 0, 0, 0⟩).regs)), slA 10 ((((w).eff ⟨t.op, 0, 0, 0, 0, 0⟩).out).map REff.cells), .int .i64 (((w).eff ⟨t.op, 0, 0, 0, 0, 0⟩).time)]])), (5, (slO 1 (valC (((w).eff ⟨t.op, 0, 0, 0, 0, 0⟩).regs)))), (10, (slO 6 ((((w).eff ⟨t.op, 0, 0, 0, 0, 0⟩).out).map REff.cells)))] rfl Try.func59 (by kernel_rfl) rfl rfl rfl ⟨⟨_, rfl, (by first | rfl | exact slO_avoid _ _ | exact rtab_avoid _ rfl | exact rwlk_avoid _ _ _ rfl rfl rfl)⟩, ⟨_, rfl, (by first | rfl | exact slO_avoid _ _ | exact rtab_avoid _ rfl | exact rwlk_avoid _ _ _ rfl rfl rfl)⟩, ⟨_, rfl, (by first | rfl | exact slO_avoid _ _ | exact rtab_avoid _ rfl | exact rwlk_avoid _ _ _ rfl rfl rfl)⟩, ⟨_, rfl, (by first | rfl | exact slO_avoid _ _ | exact rtab_avoid _ rfl | exact rwlk_avoid _ _ _ rfl rfl rfl)⟩, ⟨_, rfl, (by first | rfl | exact slO_avoid _ _ | exact rtab_avoid _ rfl | exact rwlk_avoid _ _ _ rfl rfl rfl)⟩, trivial⟩ rfl (hres_cons rfl (hres_cons rfl (hres_cons rfl (hres_cons rfl (hres_cons rfl (hres_nil _)))))) ⟨⟨_, rfl, rfl, (by first | rfl | exact slO_avoid _ _ | exact rtab_avoid _ rfl | exact rwlk_avoid _ _ _ rfl rfl rfl)⟩, ⟨_, rfl, rfl, (by first | rfl | exact slO_avoid _ _ | exact rtab_avoid _ rfl | exact rwlk_avoid _ _ _ rfl rfl rfl)⟩, ⟨_, rfl, rfl, (by first | rfl | exact slO_avoid _ _ | exact rtab_avoid _ rfl | exact rwlk_avoid _ _ _ rfl rfl rfl)⟩, ⟨_, rfl, rfl, (by first | rfl | exact slO_avoid _ _ | exact rtab_avoid _ rfl | exact rwlk_avoid _ _ _ rfl rfl rfl)⟩, ⟨_, rfl, rfl, (by first | rfl | exact slO_avoid _ _ | exact rtab_avoid _ rfl | exact rwlk_avoid _ _ _ rfl rfl rfl)⟩, trivial⟩ rfl (reffecta_ok R m w h (by omega) ⟨t.op, 0, 0, 0, 0, 0⟩)) ?_
         refine aa 5 ?_
         refine AOps.nil ?_
         refine AGo.draw mix ?_
         refine dm 180 ?_
         refine dq 181 (q_nilCheck rfl rfl rfl) ?_
         refine df 182 tok ?_
         refine dl 183 tok ?_
         refine df 184 tok ?_
         refine dl 185 tok ?_
         refine dm 186 ?_
         refine dq 187 (q_nilCheck rfl rfl rfl) ?_
         refine df 188 tok ?_
         refine dl 189 tok ?_
         refine dm 190 ?_
         refine dq 191 (q_build tok rfl rfl rfl rfl rfl (by decide) rfl rfl rfl) ?_
         refine dx 192 (o_call (hc := (hput (hput hNew 4 (.row false 1 [[slA 9 ((w.L).map RVal.cells)]])) 9 (slO 9 ((w.L).map RVal.cells)))) (hw := (hput (hput hNone 4 (.row false 1 [[slA 9 (((rnum w.L (runkV w.out.length)).2).map RVal.cells)]])) 9 (slO 9 (((rnum w.L (runkV w.out.length)).2).map RVal.cells)))) [9, 4] [(4, (.row false 1 [[slA 9 (((rnum w.L (runkV w.out.length)).2).map RVal.cells)]])), (9, (slO 9 (((rnum w.L (runkV w.out.length)).2).map RVal.cells)))] rfl Try.func38 (by kernel_rfl) rfl rfl rfl ⟨⟨_, rfl, (by first | rfl | exact slO_avoid _ _ | exact rtab_avoid _ rfl | exact rwlk_avoid _ _ _ rfl rfl rfl)⟩, ⟨_, rfl, (by first | rfl | exact slO_avoid _ _ | exact rtab_avoid _ rfl | exact rwlk_avoid _ _ _ rfl rfl rfl)⟩, trivial⟩ rfl (hres_cons rfl (hres_cons rfl (hres_nil _))) ⟨⟨_, rfl, rfl, (by first | rfl | exact slO_avoid _ _ | exact rtab_avoid _ rfl | exact rwlk_avoid _ _ _ rfl rfl rfl)⟩, ⟨_, rfl, rfl, (by first | rfl | exact slO_avoid _ _ | exact rtab_avoid _ rfl | exact rwlk_avoid _ _ _ rfl rfl rfl)⟩, trivial⟩ rfl (rof_ok w.L (by omega) (runkV w.out.length))) ?_
         refine dq 193 (q_indexJ tok rfl rfl rfl rfl rfl rfl rfl rfl hxd.1 hxd.2.2.1) ?_
         refine DOps.w rfl rfl (o_storeJ tok rfl rfl rfl rfl rfl rfl rfl (by have h1 := hxd.2.2.1; have h0 := hxd.1; show t.d.toNat < (valC w.regs).length; omega) (valC_one _) rfl rfl rfl) ?_
         refine DOps.nil (by kernel_rfl) ?_
         refine ⟨[], trivial, rfl, ?_⟩
         rw [rstep8 ho]
         exact (HSub.put (HSub.put (HSub.put (HSub.put (HSub.put (HSub.none _) rfl) rfl) (by show _ = some (AObj.row false 4 [[.ptr 4 1 0 0, slA 5 (valC (rset w.regs t.d _)), slA 10 ((w.eff ⟨t.op, 0, 0, 0, 0, 0⟩).out.map REff.cells), .int .i64 w.time]]); rw [valC_slA]; rfl)) (by show _ = some (slO 1 (valC (rset w.regs t.d _))); rw [valC_set]; rfl)) rfl)
        ·
         refine AGo.cond_false false rfl rfl ?_
         refine AGo.seq ?_
         refine AGo.region ?_
         refine aq 195 (q_bin rfl rfl rfl rfl) ?_
         refine aa 194 ?_
         refine AOps.nil ?_
         refine AGo.split 194 rfl (fun hb9 => ?_) (fun hb9 => ?_)
         ·
          refine AGo.cond_true true rfl rfl ?_
          have ho : t.op = 9 := by simpa using hb9
          have hxa := h.at (ht.a (.inl (by rw [ho]; rfl)))
          
          refine AGo.draw mix ?_
          refine dm 196 ?_
          refine df 197 tok ?_
          refine dl 198 tok ?_
          refine dm 199 ?_
          refine dq 200 (q_nilCheck rfl rfl rfl) ?_
          refine df 201 tok ?_
          refine dl 202 tok ?_
          refine df 203 tok ?_
          refine dl 204 tok ?_
          refine dq 205 (q_indexJ tok rfl rfl rfl rfl rfl rfl rfl rfl hxa.1 hxa.2.2.1) ?_
          refine dq 206 (q_load tok rfl rfl rfl (ptsJ rfl (valC_get ⟨hxa.1, hxa.2.1⟩)) rfl) ?_
          refine dq 207 (q_build tok rfl rfl rfl rfl rfl (by decide) rfl rfl rfl) ?_
          refine dx 208 (o_call (hc := (hput (hput (hput (hput (hput hNew 4 (.row false 1 [[slA 9 (((w).L).map RVal.cells)]])) 9 (slO 9 (((w).L).map RVal.cells))) 6 (.row false 4 [[.ptr 4 1 0 0, slA 5 (valC ((w).regs)), slA 10 (((w).out).map REff.cells), .int .i64 ((w).time)]])) 5 (slO 1 (valC ((w).regs)))) 10 (slO 6 (((w).out).map REff.cells)))) (hw := (hput (hput (hput (hput (hput hNone 4 (.row false 1 [[slA 9 ((((w).eff ⟨t.op, 0, 0, 0, (rget w.regs t.a), 0⟩).L).map RVal.cells)]])) 9 (slO 9 ((((w).eff ⟨t.op, 0, 0, 0, (rget w.regs t.a), 0⟩).L).map RVal.cells))) 6 (.row false 4 [[.ptr 4 1 0 0, slA 5 (valC (((w).eff ⟨t.op, 0, 0, 0, (rget w.regs t.a), 0⟩).regs)), slA 10 ((((w).eff ⟨t.op, 0, 0, 0, (rget w.regs t.a), 0⟩).out).map REff.cells), .int .i64 (((w).eff ⟨t.op, 0, 0, 0, (rget w.regs t.a), 0⟩).time)]])) 5 (slO 1 (valC (((w).eff ⟨t.op, 0, 0, 0, (rget w.regs t.a), 0⟩).regs)))) 10 (slO 6 ((((w).eff ⟨t.op, 0, 0, 0, (rget w.regs t.a), 0⟩).out).map REff.cells)))) [10, 5, 6, 9, 4] [(4, (.row false 1 [[slA 9 ((((w).eff ⟨t.op, 0, 0, 0, (rget w.regs t.a), 0⟩).L).map RVal.cells)]])), (9, (slO 9 ((((w).eff ⟨t.op, 0, 0, 0, (rget w.regs t.a), 0⟩).L).map RVal.cells))), (6, (.row false 4 [[.ptr 4 1 0 0, slA 5 (valC (((w).eff ⟨t.op, 0, 0, 0, (rget w.regs t.a), 0⟩).regs)), slA 10 ((((w).eff ⟨t.op, 0, 0, 0, (rget w.regs t.a), 0⟩).out).map REff.cells), .int .i64 (((w).eff ⟨t.op, 0, 0, 0, (rget w.regs t.a), 0⟩).time)]])), (5, (slO 1 (valC (((w).eff ⟨t.op, 0, 0, 0, (rget w.regs t.a), 0⟩).regs)))), (10, (slO 6 ((((w).eff ⟨t.op, 0, 0, 0, (rget w.regs t.a), 0⟩).out).map REff.cells)))] rfl Try.func59 (by kernel_rfl) rfl rfl rfl ⟨⟨_, rfl, (by first | rfl | exact slO_avoid _ _ | exact rtab_avoid _ rfl | exact rwlk_avoid _ _ _ rfl rfl rfl)⟩, ⟨_, rfl, (by first | rfl | exact slO_avoid _ _ | exact rtab_avoid _ rfl | exact rwlk_avoid _ _ _ rfl rfl rfl)⟩, ⟨_, rfl, (by first | rfl | exact slO_avoid _ _ | exact rtab_avoid _ rfl | exact rwlk_avoid _ _ _ rfl rfl rfl)⟩, ⟨_, rfl, (by first | rfl | exact slO_avoid _ _ | exact rtab_avoid _ rfl | exact rwlk_avoid _ _ _ rfl rfl rfl)⟩, ⟨_, rfl, (by first | rfl | exact slO_avoid _ _ | exact rtab_avoid _ rfl | exact rwlk_avoid _ _ _ rfl rfl rfl)⟩, trivial⟩ rfl (hres_cons rfl (hres_cons rfl (hres_cons rfl (hres_cons rfl (hres_cons rfl (hres_nil _)))))) ⟨⟨_, rfl, rfl, (by first | rfl | exact slO_avoid _ _ | exact rtab_avoid _ rfl | exact rwlk_avoid _ _ _ rfl rfl rfl)⟩, ⟨_, rfl, rfl, (by first | rfl | exact slO_avoid _ _ | exact rtab_avoid _ rfl | exact rwlk_avoid _ _ _ rfl rfl rfl)⟩, ⟨_, rfl, rfl, (by first | rfl | exact slO_avoid _ _ | exact rtab_avoid _ rfl | exact rwlk_avoid _ _ _ rfl rfl rfl)⟩, ⟨_, rfl, rfl, (by first | rfl | exact slO_avoid _ _ | exact rtab_avoid _ rfl | exact rwlk_avoid _ _ _ rfl rfl rfl)⟩, ⟨_, rfl, rfl, (by first | rfl | exact slO_avoid _ _ | exact rtab_avoid _ rfl | exact rwlk_avoid _ _ _ rfl rfl rfl)⟩, trivial⟩ rfl (reffecta_ok R m w h (by omega) ⟨t.op, 0, 0, 0, (rget w.regs t.a), 0⟩)) ?_
          refine DOps.nil (by kernel_rfl) ?_
          refine ⟨[], trivial, rfl, ?_⟩
          rw [rstep9 ho]
          exact (HSub.put (HSub.put (HSub.put (HSub.put (HSub.put (HSub.none _) rfl) rfl) rfl) rfl) rfl)
         ·
          refine AGo.cond_false false rfl rfl ?_
          refine AGo.seq ?_
          refine AGo.region ?_
          refine am 8 ?_
          refine af 9 tok ?_
          refine al 10 tok ?_
          refine af 11 tok ?_
          refine al 12 tok ?_
          refine aq 13 (q_build tok rfl rfl rfl rfl rfl (by decide) rfl rfl rfl) ?_
          refine ax 14 (o_call (hc := (hput (hput (hput (hput (hput hNew 4 (.row false 1 [[slA 9 (((w).L).map RVal.cells)]])) 9 (slO 9 (((w).L).map RVal.cells))) 6 (.row false 4 [[.ptr 4 1 0 0, slA 5 (valC ((w).regs)), slA 10 (((w).out).map REff.cells), .int .i64 ((w).time)]])) 5 (slO 1 (valC ((w).regs)))) 10 (slO 6 (((w).out).map REff.cells)))) (hw := (hput (hput (hput (hput (hput hNone 4 (.row false 1 [[slA 9 ((((w).eff ⟨t.op, 0, t.base, 0, 0, 0⟩).L).map RVal.cells)]])) 9 (slO 9 ((((w).eff ⟨t.op, 0, t.base, 0, 0, 0⟩).L).map RVal.cells))) 6 (.row false 4 [[.ptr 4 1 0 0, slA 5 (valC (((w).eff ⟨t.op, 0, t.base, 0, 0, 0⟩).regs)), slA 10 ((((w).eff ⟨t.op, 0, t.base, 0, 0, 0⟩).out).map REff.cells), .int .i64 (((w).eff ⟨t.op, 0, t.base, 0, 0, 0⟩).time)]])) 5 (slO 1 (valC (((w).eff ⟨t.op, 0, t.base, 0, 0, 0⟩).regs)))) 10 (slO 6 ((((w).eff ⟨t.op, 0, t.base, 0, 0, 0⟩).out).map REff.cells)))) [10, 5, 6, 9, 4] [(4, (.row false 1 [[slA 9 ((((w).eff ⟨t.op, 0, t.base, 0, 0, 0⟩).L).map RVal.cells)]])), (9, (slO 9 ((((w).eff ⟨t.op, 0, t.base, 0, 0, 0⟩).L).map RVal.cells))), (6, (.row false 4 [[.ptr 4 1 0 0, slA 5 (valC (((w).eff ⟨t.op, 0, t.base, 0, 0, 0⟩).regs)), slA 10 ((((w).eff ⟨t.op, 0, t.base, 0, 0, 0⟩).out).map REff.cells), .int .i64 (((w).eff ⟨t.op, 0, t.base, 0, 0, 0⟩).time)]])), (5, (slO 1 (valC (((w).eff ⟨t.op, 0, t.base, 0, 0, 0⟩).regs)))), (10, (slO 6 ((((w).eff ⟨t.op, 0, t.base, 0, 0, 0⟩).out).map REff.cells)))] rfl Try.func59 (by kernel_rfl) rfl rfl rfl ⟨⟨_, rfl, (by first | rfl | exact slO_avoid _ _ | exact rtab_avoid _ rfl | exact rwlk_avoid _ _ _ rfl rfl rfl)⟩, ⟨_, rfl, (by first | rfl | exact slO_avoid _ _ | exact rtab_avoid _ rfl | exact rwlk_avoid _ _ _ rfl rfl rfl)⟩, ⟨_, rfl, (by first | rfl | exact slO_avoid _ _ | exact rtab_avoid _ rfl | exact rwlk_avoid _ _ _ rfl rfl rfl)⟩, ⟨_, rfl, (by first | rfl | exact slO_avoid _ _ | exact rtab_avoid _ rfl | exact rwlk_avoid _ _ _ rfl rfl rfl)⟩, ⟨_, rfl, (by first | rfl | exact slO_avoid _ _ | exact rtab_avoid _ rfl | exact rwlk_avoid _ _ _ rfl rfl rfl)⟩, trivial⟩ rfl (hres_cons rfl (hres_cons rfl (hres_cons rfl (hres_cons rfl (hres_cons rfl (hres_nil _)))))) ⟨⟨_, rfl, rfl, (by first | rfl | exact slO_avoid _ _ | exact rtab_avoid _ rfl | exact rwlk_avoid _ _ _ rfl rfl rfl)⟩, ⟨_, rfl, rfl, (by first | rfl | exact slO_avoid _ _ | exact rtab_avoid _ rfl | exact rwlk_avoid _ _ _ rfl rfl rfl)⟩, ⟨_, rfl, rfl, (by first | rfl | exact slO_avoid _ _ | exact rtab_avoid _ rfl | exact rwlk_avoid _ _ _ rfl rfl rfl)⟩, ⟨_, rfl, rfl, (by first | rfl | exact slO_avoid _ _ | exact rtab_avoid _ rfl | exact rwlk_avoid _ _ _ rfl rfl rfl)⟩, ⟨_, rfl, rfl, (by first | rfl | exact slO_avoid _ _ | exact rtab_avoid _ rfl | exact rwlk_avoid _ _ _ rfl rfl rfl)⟩, trivial⟩ rfl (reffecta_ok R m w h (by omega) ⟨t.op, 0, t.base, 0, 0, 0⟩)) ?_
          refine AOps.nil ?_
          refine AGo.region ?_
          refine am 15 ?_
          refine aq 16 (q_nilCheck rfl rfl rfl) ?_
          refine af 17 tok ?_
          refine al 18 tok ?_
          refine aq 19 (q_bin (r := .int .i64 (w.time + 1)) rfl rfl rfl (by exact timeZ (x := w.time) (by omega))) ?_
          refine aq 20 (q_nilCheck rfl rfl rfl) ?_
          refine af 21 tok ?_
          refine AOps.w rfl rfl (o_store tok rfl rfl rfl rfl rfl rfl rfl rfl rfl (by decide) rfl (by first | exact fun _ => rfl | (intro h; cases h))) ?_
          refine AOps.nil ?_
          refine ⟨[], trivial, rfl, ?_⟩
          rw [rstep0 hb1 hb2 hb3 hb4 hb5 hb6 hb7 hb8 hb9]
          exact (HSub.put (HSub.put (HSub.put (HSub.put (HSub.put (HSub.none _) rfl) rfl) rfl) rfl) rfl)

end Go.Proofs.Ytpijoieooikfgaa.Sv

namespace Go.Proofs.Ytpijoieooikfgaa.Sv
open Go

set_option maxHeartbeats 1000000 in
set_option maxRecDepth 100000 in
theorem througha_ok (R m : Nat) (L : List RVal) (regs : List Int) (b : Block) (h : ROk R m ⟨L, regs, [], 0⟩) (hl : ∀ t ∈ b.ins, TacV t R) (hm : m + 2 * b.ins.length ≤ 80000) : ACall Try.prog 39 [.ptr 4 1 0 0, .agg b.cells, slA 5 (valC regs)] (hput (hput (hput (hput (hput hNew 4 (.row false 1 [[slA 9 ((L).map RVal.cells)]])) 9 (slO 9 ((L).map RVal.cells))) 5 (slO 1 (valC regs))) 6 .free) 10 .free) (fun r h' => r = .ptr 6 1 0 0 ∧ HSub (hput (hput (hput (hput (hput hNone 4 (.row false 1 [[slA 9 ((((rrun L regs b.ins)).L).map RVal.cells)]])) 9 (slO 9 ((((rrun L regs b.ins)).L).map RVal.cells))) 6 (.row false 4 [[.ptr 4 1 0 0, slA 5 (valC (((rrun L regs b.ins)).regs)), slA 10 ((((rrun L regs b.ins)).out).map REff.cells), .int .i64 (((rrun L regs b.ins)).time)]])) 5 (slO 1 (valC (((rrun L regs b.ins)).regs)))) 10 (slO 6 ((((rrun L regs b.ins)).out).map REff.cells))) h') := by
 refine ACall.of_body (n := 28) tok Try.func39 rfl rfl ?_
 refine AGo.seq ?_
 refine AGo.region ?_
 refine ax 4 (o_box (sz := 5) 12 rfl rfl rfl rfl (Nat.zero_lt_succ _) rfl) ?_
 refine aa 6 ?_
 refine AOps.nil ?_
 refine AGo.seq ?_
 refine AGo.region ?_
 refine am 9 ?_
 refine am 10 ?_
 refine aq 11 (q_build tok (ps := [(0, .ptr 4 1 0 0), (1, slA 5 (valC regs))]) (r := [.ptr 4 1 0 0, slA 5 (valC regs), .nil, .int .i64 0]) rfl rfl rfl rfl rfl (by decide) (by simp only [partsFit, slA_cells]; rfl) rfl (by simp only [partCells, slA_cells]; rfl)) ?_
 refine ax 12 (o_box (sz := 4) 6 rfl rfl rfl rfl (Nat.zero_lt_succ _) (by simp only [AV.cells, List.all_cons, List.all_nil, slA_cell1]; rfl)) ?_
 refine aa 7 ?_
 refine AOps.nil ?_
 refine AGo.seq ?_
 refine AGo.seq ?_
 refine AGo.ghost (.weakRowF 6 (es' := [[.ptr 4 1 0 0, slA 5 (valC regs), .lst true [], .int .i64 0]]) rfl rfl weakWlk) ?_
 refine AGo.region ?_
 refine aa 8 ?_
 refine AOps.nil ?_
 refine AGo.block ?_
 refine AGo.loopD (γ := Nat) 13 (fun k => ⟨28, (eput (eput (eput eNew 4 (.ptr 12 1 0 0)) 7 (.ptr 6 1 0 0)) 8 (.int .i64 (k : Int))), (hput (hput (hput (hput (hput (hput (hFrom 13) 12 (.row false 5 [b.cells])) 4 (.row false 1 [[slA 9 ((((rrun L regs (b.ins.take (k)))).L).map RVal.cells)]])) 9 (slO 9 ((((rrun L regs (b.ins.take (k)))).L).map RVal.cells))) 6 (.row false 4 [[.ptr 4 1 0 0, slA 5 (valC (((rrun L regs (b.ins.take (k)))).regs)), slA 10 ((((rrun L regs (b.ins.take (k)))).out).map REff.cells), .int .i64 (((rrun L regs (b.ins.take (k)))).time)]])) 5 (slO 1 (valC (((rrun L regs (b.ins.take (k)))).regs)))) 10 (slO 6 ((((rrun L regs (b.ins.take (k)))).out).map REff.cells)))⟩) (fun k => k ≤ b.ins.length) (fun k => b.ins.length - k) 0 (Sub.mk' (by repeat (first | exact ESub.new _ | refine ESub.put ?_ (by first | rfl | exact congrArg (fun (n : Nat) => some (AV.int .i64 (n : Int))) (by simp)))) (by repeat (first | exact HSub.refl _ | exact HSub.none _ | exact HSub.from_new _ | exact HSub.from_from (by first | decide | omega | (dsimp only; omega)) | refine HSub.put ?_ (by rfl) | refine HSub.from_put ?_ (by first | decide | omega | (dsimp only; omega)) | refine HSub.from_rm ?_ (by decide)))) (Nat.zero_le _) (fun _ => hput_free (hput_free (hput_free (hput_free (hput_free (hput_free (fun b hb => hFrom_free hb) rfl) rfl) rfl) rfl) rfl) rfl) ?_
 intro k hk
 refine AGo.seq ?_
 refine AGo.seq ?_
 refine AGo.region ?_
 refine am 13 ?_
 refine af 14 tok ?_
 refine al 15 tok ?_
 refine aq 16 (q_len tok rfl rfl rfl rfl rfl) ?_
 refine aq 17 (q_bin rfl rfl rfl rfl) ?_
 refine AOps.nil ?_
 refine AGo.split 17 rfl (fun hb1 => ?_) (fun hb1 => ?_)
 ·
  refine AGo.cond_true true rfl rfl ?_
  have hkl : k < b.ins.length := by have h := hb1; simp only [List.length_map, decide_eq_true_eq] at h; omega
  obtain ⟨t, ht⟩ := get_of_lt hkl
  refine AGo.skip ?_
  refine AGo.seq ?_
  refine AGo.block ?_
  refine AGo.region ?_
  refine am 20 ?_
  refine af 21 tok ?_
  refine al 22 tok ?_
  refine am 23 ?_
  refine aq 24 (q_index_lst tok rfl rfl rfl rfl rfl rfl (Int.natCast_nonneg _) (idx_map ht) rfl) ?_
  refine al 25 tok ?_
  refine ax 26 (o_call (hc := (hput (hput (hput (hput (hput hNew 4 (.row false 1 [[slA 9 ((((rrun L regs (b.ins.take (k)))).L).map RVal.cells)]])) 9 (slO 9 ((((rrun L regs (b.ins.take (k)))).L).map RVal.cells))) 6 (.row false 4 [[.ptr 4 1 0 0, slA 5 (valC (((rrun L regs (b.ins.take (k)))).regs)), slA 10 ((((rrun L regs (b.ins.take (k)))).out).map REff.cells), .int .i64 (((rrun L regs (b.ins.take (k)))).time)]])) 5 (slO 1 (valC (((rrun L regs (b.ins.take (k)))).regs)))) 10 (slO 6 ((((rrun L regs (b.ins.take (k)))).out).map REff.cells)))) (hw := (hput (hput (hput (hput (hput hNone 4 (.row false 1 [[slA 9 (((((rrun L regs (b.ins.take (k))).step t)).L).map RVal.cells)]])) 9 (slO 9 (((((rrun L regs (b.ins.take (k))).step t)).L).map RVal.cells))) 6 (.row false 4 [[.ptr 4 1 0 0, slA 5 (valC ((((rrun L regs (b.ins.take (k))).step t)).regs)), slA 10 (((((rrun L regs (b.ins.take (k))).step t)).out).map REff.cells), .int .i64 ((((rrun L regs (b.ins.take (k))).step t)).time)]])) 5 (slO 1 (valC ((((rrun L regs (b.ins.take (k))).step t)).regs)))) 10 (slO 6 (((((rrun L regs (b.ins.take (k))).step t)).out).map REff.cells)))) [10, 5, 6, 9, 4] [(4, (.row false 1 [[slA 9 (((((rrun L regs (b.ins.take (k))).step t)).L).map RVal.cells)]])), (9, (slO 9 (((((rrun L regs (b.ins.take (k))).step t)).L).map RVal.cells))), (6, (.row false 4 [[.ptr 4 1 0 0, slA 5 (valC ((((rrun L regs (b.ins.take (k))).step t)).regs)), slA 10 (((((rrun L regs (b.ins.take (k))).step t)).out).map REff.cells), .int .i64 ((((rrun L regs (b.ins.take (k))).step t)).time)]])), (5, (slO 1 (valC ((((rrun L regs (b.ins.take (k))).step t)).regs)))), (10, (slO 6 (((((rrun L regs (b.ins.take (k))).step t)).out).map REff.cells)))] rfl Try.func49 (by kernel_rfl) rfl rfl rfl ⟨⟨_, rfl, (by first | rfl | exact slO_avoid _ _ | exact rtab_avoid _ rfl | exact rwlk_avoid _ _ _ rfl rfl rfl)⟩, ⟨_, rfl, (by first | rfl | exact slO_avoid _ _ | exact rtab_avoid _ rfl | exact rwlk_avoid _ _ _ rfl rfl rfl)⟩, ⟨_, rfl, (by first | rfl | exact slO_avoid _ _ | exact rtab_avoid _ rfl | exact rwlk_avoid _ _ _ rfl rfl rfl)⟩, ⟨_, rfl, (by first | rfl | exact slO_avoid _ _ | exact rtab_avoid _ rfl | exact rwlk_avoid _ _ _ rfl rfl rfl)⟩, ⟨_, rfl, (by first | rfl | exact slO_avoid _ _ | exact rtab_avoid _ rfl | exact rwlk_avoid _ _ _ rfl rfl rfl)⟩, trivial⟩ rfl (hres_cons rfl (hres_cons rfl (hres_cons rfl (hres_cons rfl (hres_cons rfl (hres_nil _)))))) ⟨⟨_, rfl, rfl, (by first | rfl | exact slO_avoid _ _ | exact rtab_avoid _ rfl | exact rwlk_avoid _ _ _ rfl rfl rfl)⟩, ⟨_, rfl, rfl, (by first | rfl | exact slO_avoid _ _ | exact rtab_avoid _ rfl | exact rwlk_avoid _ _ _ rfl rfl rfl)⟩, ⟨_, rfl, rfl, (by first | rfl | exact slO_avoid _ _ | exact rtab_avoid _ rfl | exact rwlk_avoid _ _ _ rfl rfl rfl)⟩, ⟨_, rfl, rfl, (by first | rfl | exact slO_avoid _ _ | exact rtab_avoid _ rfl | exact rwlk_avoid _ _ _ rfl rfl rfl)⟩, ⟨_, rfl, rfl, (by first | rfl | exact slO_avoid _ _ | exact rtab_avoid _ rfl | exact rwlk_avoid _ _ _ rfl rfl rfl)⟩, trivial⟩ rfl (rstepa_ok R _ (rrun L regs (b.ins.take (k))) (rrun_okk h hl k) hm t (hl t (List.mem_of_getElem? ht)))) ?_
  refine AOps.nil ?_
  refine AGo.region ?_
  refine am 18 ?_
  refine aq 19 (q_inc rfl rfl hkl (show b.ins.length ≤ maxLen by simp only [maxLen]; omega)) ?_
  refine aa 8 ?_
  refine AOps.nil ?_
  exact ⟨k+1, Drop.mk' (by repeat (first | exact EDrop.new _ _ | refine EDrop.put ?_ (by rfl) (by first | rfl | exact slA_avoid _ rfl | exact vaA_avoid _ rfl))) (by repeat (first | exact HDrop.none _ _ | exact HDrop.tail _ _ | refine HDrop.put ?_ (by first | rfl | (rw [rrun_succ ht]; rfl)) rfl (by first | rfl | exact slO_avoid _ _ | exact rtab_avoid _ rfl | exact rwlk_avoid _ _ _ rfl rfl rfl))), hkl, by omega⟩
 ·
  refine AGo.cond_false false rfl rfl ?_
  have hge : b.ins.length ≤ k := by have h := hb1; simp only [List.length_map, decide_eq_false_iff_not] at h; omega
  rw [rrun_end hge]
  refine AGo.exit ?_
  refine AGo.seq ?_
  refine AGo.region ?_
  refine am 27 ?_
  refine aa 6 ?_
  refine AOps.nil ?_
  refine AGo.ret ?_
  refine ⟨[_], ⟨rfl, trivial⟩, rfl, ?_⟩
  exact (HSub.put (HSub.put (HSub.put (HSub.put (HSub.put (HSub.none _) rfl) rfl) rfl) rfl) rfl)

end Go.Proofs.Ytpijoieooikfgaa.Sv

namespace Go.Proofs.Ytpijoieooikfgaa.Sv
open Go

set_option maxHeartbeats 4000000 in
set_option maxRecDepth 100000 in
theorem rblock_ok (old new : BFunc) (x y : Block) (R : Nat) (c : Cert) (i : Int) (next : List Int) (hreg : old.regs = (R : Int)) (hR : R ≤ 10000) (hx : old.blocks[i.toNat]? = some x) (hy : new.blocks[i.toNat]? = some y) (hc : ∀ r ∈ c.same, r.length = R) (hi : 0 ≤ i ∧ i < c.same.length) (hnx : ∀ k ∈ next, 0 ≤ k ∧ k < c.same.length) (hv : x.fin = 2 → (0 ≤ x.v ∧ x.v < R) ∧ (0 ≤ y.v ∧ y.v < R)) (htx : ∀ t ∈ x.ins, TacV t R) (hty : ∀ t ∈ y.ins, TacV t R) (hlx : x.ins.length ≤ 10000) (hly : y.ins.length ≤ 10000) (hnl : next.length ≤ 100000) : APure Try.prog 31 [.agg old.cells, .agg new.cells, .agg c.cells, .int .i64 i, intsAV next] (fun r => r = .bool (rsame R x y c i next)) := by
 obtain ⟨row, hrow⟩ := get_of_lt (l := c.same) (k := i.toNat) (by omega)
 have hat : c.at' i = row := by unfold Cert.at'; rw [hrow]; rfl
 have hrl := hc row (List.mem_of_getElem? hrow)
 have hoa : ROk R (2 * R + 2 * x.ins.length) (rrunA R (c.at' i) x) := rrun_ok (rok_a (c.at' i) R) htx
 have hob : ROk R (2 * R + 2 * x.ins.length + 2 * y.ins.length) (rrunB R (c.at' i) x y) := rrun_ok (rok_b hoa (rfold_mono x.ins)) hty
 refine APure.of_body (n := 177) tok Try.func31 rfl rfl ?_
 refine AGo.seq ?_
 refine AGo.region ?_
 refine ax 5 (o_box (sz := 2) 0 rfl rfl rfl rfl (Nat.zero_lt_succ _) rfl) ?_
 refine ax 6 (o_box (sz := 2) 1 rfl rfl rfl rfl (Nat.zero_lt_succ _) rfl) ?_
 refine ax 7 (o_box (sz := 1) 2 rfl rfl rfl rfl (Nat.zero_lt_succ _) rfl) ?_
 refine aa 10 ?_
 refine AOps.nil ?_
 refine AGo.seq ?_
 refine AGo.region ?_
 refine aq 21 (q_build tok rfl rfl rfl rfl rfl (by decide) rfl rfl rfl) ?_
 refine ax 22 (o_box (sz := 1) 4 rfl rfl rfl rfl (Nat.zero_lt_succ _) rfl) ?_
 refine aa 11 ?_
 refine AOps.nil ?_
 refine AGo.seq ?_
 refine AGo.ghost (.weakRowF 4 (es' := [[.lst true []]]) rfl rfl weakNil1) ?_
 refine AGo.region ?_
 refine aa 12 ?_
 refine aa 13 ?_
 refine AOps.nil ?_
 refine AGo.seq ?_
 refine AGo.seq ?_
 refine AGo.ghost (.weakSlot 12 (y := .lst true []) rfl (fun _ _ _ => nil_lst)) ?_
 refine AGo.ghost (.weakSlot 13 (y := .lst true []) rfl (fun _ _ _ => nil_lst)) ?_
 refine AGo.region ?_
 refine aa 14 ?_
 refine AOps.nil ?_
 refine AGo.block ?_
 refine AGo.loopD (γ := Nat) 12 (fun k => ⟨177, (eput (eput (eput (eput (eput (eput (eput (eput (eput eNew 3 (.int .i64 i)) 4 (intsAV next)) 5 (.ptr 0 1 0 0)) 6 (.ptr 1 1 0 0)) 7 (.ptr 2 1 0 0)) 11 (.ptr 4 1 0 0)) 12 (slA 5 (valC (rinit (c.at' i) (k)).xs))) 13 (slA 7 (valC (rinit (c.at' i) (k)).ys))) 14 (.int .i64 (k : Int))), (hput (hput (hput (hput (hput (hput (hput (hput (hput (hput (hput (hFrom 12) 0 (.row false 2 [old.cells])) 1 (.row false 2 [new.cells])) 2 (.row false 1 [c.cells])) 4 (.row false 1 [[slA 9 (((rinit (c.at' i) (k)).L).map RVal.cells)]])) 9 (slO 9 (((rinit (c.at' i) (k)).L).map RVal.cells))) 5 (slO 1 (valC (rinit (c.at' i) (k)).xs))) 7 (slO 1 (valC (rinit (c.at' i) (k)).ys))) 6 .free) 8 .free) 10 .free) 11 .free)⟩) (fun k => k ≤ R) (fun k => R - k) 0 (Sub.mk' (by repeat (first | exact ESub.new _ | refine ESub.put ?_ (by first | rfl))) (by repeat (first | exact HSub.refl _ | exact HSub.none _ | exact HSub.from_new _ | exact HSub.from_from (by first | decide | omega | (dsimp only; omega)) | refine HSub.put ?_ (by rfl) | refine HSub.from_put ?_ (by first | decide | omega | (dsimp only; omega)) | refine HSub.from_rm ?_ (by decide)))) (Nat.zero_le _) (fun _ => hput_free (hput_free (hput_free (hput_free (hput_free (hput_free (hput_free (hput_free (hput_free (hput_free (hput_free (fun b hb => hFrom_free hb) rfl) rfl) rfl) rfl) rfl) rfl) rfl) rfl) rfl) rfl) rfl) ?_
 intro k hk
 refine AGo.seq ?_
 refine AGo.seq ?_
 refine AGo.region ?_
 refine am 23 ?_
 refine af 24 tok ?_
 refine al 25 tok ?_
 refine aq 26 (q_bin rfl rfl rfl rfl) ?_
 refine AOps.nil ?_
 refine AGo.split 26 rfl (fun hb1 => ?_) (fun hb1 => ?_)
 ·
  refine AGo.cond_true true rfl rfl ?_
  have hkl : k < R := by have h := hb1; rw [hreg] at h; simp only [decide_eq_true_eq] at h; omega
  obtain ⟨bit, hbit⟩ := get_of_lt (l := row) (k := k) (by omega)
  refine AGo.skip ?_
  refine AGo.seq ?_
  refine AGo.block ?_
  refine AGo.seq ?_
  refine AGo.region ?_
  refine am 29 ?_
  refine am 30 ?_
  refine am 31 ?_
  refine aq 32 (q_build tok rfl rfl rfl rfl rfl (by decide) rfl rfl rfl) ?_
  refine ax 33 (o_call (hc := (hput (hput hNew 4 (.row false 1 [[slA 9 (((rinit (c.at' i) (k)).L).map RVal.cells)]])) 9 (slO 9 (((rinit (c.at' i) (k)).L).map RVal.cells)))) (hw := (hput (hput hNone 4 (.row false 1 [[slA 9 (((rnum (rinit (c.at' i) (k)).L (RVal.reg k 0)).2).map RVal.cells)]])) 9 (slO 9 (((rnum (rinit (c.at' i) (k)).L (RVal.reg k 0)).2).map RVal.cells)))) [9, 4] [(4, (.row false 1 [[slA 9 (((rnum (rinit (c.at' i) (k)).L (RVal.reg k 0)).2).map RVal.cells)]])), (9, (slO 9 (((rnum (rinit (c.at' i) (k)).L (RVal.reg k 0)).2).map RVal.cells)))] rfl Try.func38 (by kernel_rfl) rfl rfl rfl ⟨⟨_, rfl, (by first | rfl | exact slO_avoid _ _ | exact rtab_avoid _ rfl | exact rwlk_avoid _ _ _ rfl rfl rfl)⟩, ⟨_, rfl, (by first | rfl | exact slO_avoid _ _ | exact rtab_avoid _ rfl | exact rwlk_avoid _ _ _ rfl rfl rfl)⟩, trivial⟩ rfl (hres_cons rfl (hres_cons rfl (hres_nil _))) ⟨⟨_, rfl, rfl, (by first | rfl | exact slO_avoid _ _ | exact rtab_avoid _ rfl | exact rwlk_avoid _ _ _ rfl rfl rfl)⟩, ⟨_, rfl, rfl, (by first | rfl | exact slO_avoid _ _ | exact rtab_avoid _ rfl | exact rwlk_avoid _ _ _ rfl rfl rfl)⟩, trivial⟩ rfl (rof_ok (rinit (c.at' i) (k)).L (by have h := (rinit_ok (c.at' i) k).kl; first | omega | (have h2 := (rnum_ok (v := RVal.reg k 0) (L := (rinit (c.at' i) (k)).L)).2.1; show (rnum (rinit (c.at' i) (k)).L (RVal.reg k 0)).2.length ≤ _; omega)) (RVal.reg k 0))) ?_
  refine ax 34 (o_lit' tok rfl rfl rfl rfl rfl rfl (by decide) rfl rfl rfl rfl rfl rfl) ?_
  refine ax 35 (o_append1J tok (b := 5) (es := valC (rinit (c.at' i) (k)).xs) rfl rfl rfl rfl rfl rfl rfl rfl rfl rfl rfl (Nat.zero_lt_succ _) (valC_one _) (valC_pure _) rfl rfl (by rw [valC_len]; have h := (rinit_ok (c.at' i) k).xl; show ((rinit (c.at' i) (k)).xs.length + 1) * 8 ≤ _; omega) (by rw [valC_len]; have h := (rinit_ok (c.at' i) k).xl; simp only [maxLen]; show (rinit (c.at' i) (k)).xs.length + 1 ≤ _; omega)) ?_
  refine aa 12 ?_
  refine AOps.nil ?_
  refine AGo.seq ?_
  refine AGo.region ?_
  refine aa 15 ?_
  refine AOps.nil ?_
  refine AGo.seq ?_
  refine AGo.seq ?_
  refine AGo.region ?_
  refine af 36 tok ?_
  refine al 37 tok ?_
  refine am 38 ?_
  refine aq 39 (q_index_lst tok rfl rfl rfl rfl rfl rfl hi.1 (by rw [List.getElem?_map, hrow]; rfl) rfl) ?_
  refine al 40 tok ?_
  refine am 41 ?_
  refine aq 42 (q_index_lst tok rfl rfl rfl rfl rfl rfl (Int.natCast_nonneg _) (idx_map hbit) rfl) ?_
  refine al 43 tok ?_
  refine AOps.nil ?_
  refine AGo.split 43 rfl (fun hb2 => ?_) (fun hb2 => ?_)
  ·
   refine AGo.cond_true true rfl rfl ?_
   have hside : sideR (c.at' i) k = 0 := side_yes (by rw [hat]; exact hbit) hb2
   refine AGo.region ?_
   refine aa 15 ?_
   refine AOps.nil ?_
   refine AGo.region ?_
   refine am 44 ?_
   refine am 45 ?_
   refine am 46 ?_
   refine am 47 ?_
   refine aq 48 (q_build tok rfl rfl rfl rfl rfl (by decide) rfl rfl rfl) ?_
   refine ax 49 (by first | exact o_call (hc := (hput (hput hNew 4 (.row false 1 [[slA 9 ((((rinit (c.at' i) (k)).first k).L).map RVal.cells)]])) 9 (slO 9 ((((rinit (c.at' i) (k)).first k).L).map RVal.cells)))) (hw := (hput (hput hNone 4 (.row false 1 [[slA 9 (((rnum ((rinit (c.at' i) (k)).first k).L (RVal.reg k 0)).2).map RVal.cells)]])) 9 (slO 9 (((rnum ((rinit (c.at' i) (k)).first k).L (RVal.reg k 0)).2).map RVal.cells)))) [9, 4] [(4, (.row false 1 [[slA 9 (((rnum ((rinit (c.at' i) (k)).first k).L (RVal.reg k 0)).2).map RVal.cells)]])), (9, (slO 9 (((rnum ((rinit (c.at' i) (k)).first k).L (RVal.reg k 0)).2).map RVal.cells)))] rfl Try.func38 (by kernel_rfl) rfl rfl rfl ⟨⟨_, rfl, (by first | rfl | exact slO_avoid _ _ | exact rtab_avoid _ rfl | exact rwlk_avoid _ _ _ rfl rfl rfl)⟩, ⟨_, rfl, (by first | rfl | exact slO_avoid _ _ | exact rtab_avoid _ rfl | exact rwlk_avoid _ _ _ rfl rfl rfl)⟩, trivial⟩ rfl (hres_cons rfl (hres_cons rfl (hres_nil _))) ⟨⟨_, rfl, rfl, (by first | rfl | exact slO_avoid _ _ | exact rtab_avoid _ rfl | exact rwlk_avoid _ _ _ rfl rfl rfl)⟩, ⟨_, rfl, rfl, (by first | rfl | exact slO_avoid _ _ | exact rtab_avoid _ rfl | exact rwlk_avoid _ _ _ rfl rfl rfl)⟩, trivial⟩ rfl (rof_ok ((rinit (c.at' i) (k)).first k).L (by have h := (rinit_ok (c.at' i) k).kl; first | omega | (have h2 := (rnum_ok (v := RVal.reg k 0) (L := (rinit (c.at' i) (k)).L)).2.1; show (rnum (rinit (c.at' i) (k)).L (RVal.reg k 0)).2.length ≤ _; omega)) (RVal.reg k 0)) | exact o_call (hc := (hput (hput hNew 4 (.row false 1 [[slA 9 ((((rinit (c.at' i) (k)).first k).L).map RVal.cells)]])) 9 (slO 9 ((((rinit (c.at' i) (k)).first k).L).map RVal.cells)))) (hw := (hput (hput hNone 4 (.row false 1 [[slA 9 (((rnum ((rinit (c.at' i) (k)).first k).L (RVal.reg k 1)).2).map RVal.cells)]])) 9 (slO 9 (((rnum ((rinit (c.at' i) (k)).first k).L (RVal.reg k 1)).2).map RVal.cells)))) [9, 4] [(4, (.row false 1 [[slA 9 (((rnum ((rinit (c.at' i) (k)).first k).L (RVal.reg k 1)).2).map RVal.cells)]])), (9, (slO 9 (((rnum ((rinit (c.at' i) (k)).first k).L (RVal.reg k 1)).2).map RVal.cells)))] rfl Try.func38 (by kernel_rfl) rfl rfl rfl ⟨⟨_, rfl, (by first | rfl | exact slO_avoid _ _ | exact rtab_avoid _ rfl | exact rwlk_avoid _ _ _ rfl rfl rfl)⟩, ⟨_, rfl, (by first | rfl | exact slO_avoid _ _ | exact rtab_avoid _ rfl | exact rwlk_avoid _ _ _ rfl rfl rfl)⟩, trivial⟩ rfl (hres_cons rfl (hres_cons rfl (hres_nil _))) ⟨⟨_, rfl, rfl, (by first | rfl | exact slO_avoid _ _ | exact rtab_avoid _ rfl | exact rwlk_avoid _ _ _ rfl rfl rfl)⟩, ⟨_, rfl, rfl, (by first | rfl | exact slO_avoid _ _ | exact rtab_avoid _ rfl | exact rwlk_avoid _ _ _ rfl rfl rfl)⟩, trivial⟩ rfl (rof_ok ((rinit (c.at' i) (k)).first k).L (by have h := (rinit_ok (c.at' i) k).kl; first | omega | (have h2 := (rnum_ok (v := RVal.reg k 0) (L := (rinit (c.at' i) (k)).L)).2.1; show (rnum (rinit (c.at' i) (k)).L (RVal.reg k 0)).2.length ≤ _; omega)) (RVal.reg k 1))) ?_
   refine ax 50 (o_lit' tok rfl rfl rfl rfl rfl rfl (by decide) rfl rfl rfl rfl rfl rfl) ?_
   refine ax 51 (o_append1J tok (b := 7) (es := valC (rinit (c.at' i) (k)).ys) rfl rfl rfl rfl rfl rfl rfl rfl rfl rfl rfl (Nat.zero_lt_succ _) (valC_one _) (valC_pure _) rfl rfl (by rw [valC_len]; have h := (rinit_ok (c.at' i) k).yl; show ((rinit (c.at' i) (k)).ys.length + 1) * 8 ≤ _; omega) (by rw [valC_len]; have h := (rinit_ok (c.at' i) k).yl; simp only [maxLen]; show (rinit (c.at' i) (k)).ys.length + 1 ≤ _; omega)) ?_
   refine aa 13 ?_
   refine AOps.nil ?_
   refine AGo.region ?_
   refine am 27 ?_
   refine aq 28 (q_inc rfl rfl hkl (show R ≤ maxLen by simp only [maxLen]; omega)) ?_
   refine aa 14 ?_
   refine AOps.nil ?_
   exact ⟨k+1, Drop.mk' (by repeat (first | exact EDrop.new _ _ | refine EDrop.put ?_ (by first | rfl | (rw [rinit_succ hside]; exact slA_snocV _ _ _)) (by first | rfl | exact slA_avoid _ rfl | exact vaA_avoid _ rfl))) (by repeat (first | exact HDrop.none _ _ | exact HDrop.tail _ _ | refine HDrop.put ?_ (by first | rfl | (rw [rinit_succ hside]; rfl) | (rw [rinit_succ hside]; exact slO_snocV _ _)) rfl (by first | rfl | exact slO_avoid _ _ | exact rtab_avoid _ rfl | exact rwlk_avoid _ _ _ rfl rfl rfl))), hkl, by omega⟩
  ·
   refine AGo.cond_false false rfl rfl ?_
   have hside : sideR (c.at' i) k = 1 := side_no (by rw [hat]; exact hbit) hb2
   refine AGo.skip ?_
   refine AGo.region ?_
   refine am 44 ?_
   refine am 45 ?_
   refine am 46 ?_
   refine am 47 ?_
   refine aq 48 (q_build tok rfl rfl rfl rfl rfl (by decide) rfl rfl rfl) ?_
   refine ax 49 (by first | exact o_call (hc := (hput (hput hNew 4 (.row false 1 [[slA 9 ((((rinit (c.at' i) (k)).first k).L).map RVal.cells)]])) 9 (slO 9 ((((rinit (c.at' i) (k)).first k).L).map RVal.cells)))) (hw := (hput (hput hNone 4 (.row false 1 [[slA 9 (((rnum ((rinit (c.at' i) (k)).first k).L (RVal.reg k 0)).2).map RVal.cells)]])) 9 (slO 9 (((rnum ((rinit (c.at' i) (k)).first k).L (RVal.reg k 0)).2).map RVal.cells)))) [9, 4] [(4, (.row false 1 [[slA 9 (((rnum ((rinit (c.at' i) (k)).first k).L (RVal.reg k 0)).2).map RVal.cells)]])), (9, (slO 9 (((rnum ((rinit (c.at' i) (k)).first k).L (RVal.reg k 0)).2).map RVal.cells)))] rfl Try.func38 (by kernel_rfl) rfl rfl rfl ⟨⟨_, rfl, (by first | rfl | exact slO_avoid _ _ | exact rtab_avoid _ rfl | exact rwlk_avoid _ _ _ rfl rfl rfl)⟩, ⟨_, rfl, (by first | rfl | exact slO_avoid _ _ | exact rtab_avoid _ rfl | exact rwlk_avoid _ _ _ rfl rfl rfl)⟩, trivial⟩ rfl (hres_cons rfl (hres_cons rfl (hres_nil _))) ⟨⟨_, rfl, rfl, (by first | rfl | exact slO_avoid _ _ | exact rtab_avoid _ rfl | exact rwlk_avoid _ _ _ rfl rfl rfl)⟩, ⟨_, rfl, rfl, (by first | rfl | exact slO_avoid _ _ | exact rtab_avoid _ rfl | exact rwlk_avoid _ _ _ rfl rfl rfl)⟩, trivial⟩ rfl (rof_ok ((rinit (c.at' i) (k)).first k).L (by have h := (rinit_ok (c.at' i) k).kl; first | omega | (have h2 := (rnum_ok (v := RVal.reg k 0) (L := (rinit (c.at' i) (k)).L)).2.1; show (rnum (rinit (c.at' i) (k)).L (RVal.reg k 0)).2.length ≤ _; omega)) (RVal.reg k 0)) | exact o_call (hc := (hput (hput hNew 4 (.row false 1 [[slA 9 ((((rinit (c.at' i) (k)).first k).L).map RVal.cells)]])) 9 (slO 9 ((((rinit (c.at' i) (k)).first k).L).map RVal.cells)))) (hw := (hput (hput hNone 4 (.row false 1 [[slA 9 (((rnum ((rinit (c.at' i) (k)).first k).L (RVal.reg k 1)).2).map RVal.cells)]])) 9 (slO 9 (((rnum ((rinit (c.at' i) (k)).first k).L (RVal.reg k 1)).2).map RVal.cells)))) [9, 4] [(4, (.row false 1 [[slA 9 (((rnum ((rinit (c.at' i) (k)).first k).L (RVal.reg k 1)).2).map RVal.cells)]])), (9, (slO 9 (((rnum ((rinit (c.at' i) (k)).first k).L (RVal.reg k 1)).2).map RVal.cells)))] rfl Try.func38 (by kernel_rfl) rfl rfl rfl ⟨⟨_, rfl, (by first | rfl | exact slO_avoid _ _ | exact rtab_avoid _ rfl | exact rwlk_avoid _ _ _ rfl rfl rfl)⟩, ⟨_, rfl, (by first | rfl | exact slO_avoid _ _ | exact rtab_avoid _ rfl | exact rwlk_avoid _ _ _ rfl rfl rfl)⟩, trivial⟩ rfl (hres_cons rfl (hres_cons rfl (hres_nil _))) ⟨⟨_, rfl, rfl, (by first | rfl | exact slO_avoid _ _ | exact rtab_avoid _ rfl | exact rwlk_avoid _ _ _ rfl rfl rfl)⟩, ⟨_, rfl, rfl, (by first | rfl | exact slO_avoid _ _ | exact rtab_avoid _ rfl | exact rwlk_avoid _ _ _ rfl rfl rfl)⟩, trivial⟩ rfl (rof_ok ((rinit (c.at' i) (k)).first k).L (by have h := (rinit_ok (c.at' i) k).kl; first | omega | (have h2 := (rnum_ok (v := RVal.reg k 0) (L := (rinit (c.at' i) (k)).L)).2.1; show (rnum (rinit (c.at' i) (k)).L (RVal.reg k 0)).2.length ≤ _; omega)) (RVal.reg k 1))) ?_
   refine ax 50 (o_lit' tok rfl rfl rfl rfl rfl rfl (by decide) rfl rfl rfl rfl rfl rfl) ?_
   refine ax 51 (o_append1J tok (b := 7) (es := valC (rinit (c.at' i) (k)).ys) rfl rfl rfl rfl rfl rfl rfl rfl rfl rfl rfl (Nat.zero_lt_succ _) (valC_one _) (valC_pure _) rfl rfl (by rw [valC_len]; have h := (rinit_ok (c.at' i) k).yl; show ((rinit (c.at' i) (k)).ys.length + 1) * 8 ≤ _; omega) (by rw [valC_len]; have h := (rinit_ok (c.at' i) k).yl; simp only [maxLen]; show (rinit (c.at' i) (k)).ys.length + 1 ≤ _; omega)) ?_
   refine aa 13 ?_
   refine AOps.nil ?_
   refine AGo.region ?_
   refine am 27 ?_
   refine aq 28 (q_inc rfl rfl hkl (show R ≤ maxLen by simp only [maxLen]; omega)) ?_
   refine aa 14 ?_
   refine AOps.nil ?_
   exact ⟨k+1, Drop.mk' (by repeat (first | exact EDrop.new _ _ | refine EDrop.put ?_ (by first | rfl | (rw [rinit_succ hside]; exact slA_snocV _ _ _)) (by first | rfl | exact slA_avoid _ rfl | exact vaA_avoid _ rfl))) (by repeat (first | exact HDrop.none _ _ | exact HDrop.tail _ _ | refine HDrop.put ?_ (by first | rfl | (rw [rinit_succ hside]; rfl) | (rw [rinit_succ hside]; exact slO_snocV _ _)) rfl (by first | rfl | exact slO_avoid _ _ | exact rtab_avoid _ rfl | exact rwlk_avoid _ _ _ rfl rfl rfl))), hkl, by omega⟩
 ·
  refine AGo.cond_false false rfl rfl ?_
  obtain rfl : R = k := by have h := hb1; rw [hreg] at h; simp only [decide_eq_false_iff_not] at h; omega
  refine AGo.exit ?_
  refine AGo.seq ?_
  refine AGo.draw mix ?_
  refine dm 52 ?_
  refine df 53 tok ?_
  refine dl 54 tok ?_
  refine dm 55 ?_
  refine dq 56 (q_index_lst tok rfl rfl rfl rfl rfl rfl hi.1 (by rw [List.getElem?_map, hx]; rfl) rfl) ?_
  refine dl 57 tok ?_
  refine dm 58 ?_
  refine dx 59 (o_call (hc := (hput (hput (hput (hput (hput hNew 4 (.row false 1 [[slA 9 (((rinit (c.at' i) (R)).L).map RVal.cells)]])) 9 (slO 9 (((rinit (c.at' i) (R)).L).map RVal.cells))) 5 (slO 1 (valC (rinit (c.at' i) (R)).xs))) 6 .free) 10 .free)) (hw := (hput (hput (hput (hput (hput hNone 4 (.row false 1 [[slA 9 ((((rrunA R (c.at' i) x)).L).map RVal.cells)]])) 9 (slO 9 ((((rrunA R (c.at' i) x)).L).map RVal.cells))) 6 (.row false 4 [[.ptr 4 1 0 0, slA 5 (valC (((rrunA R (c.at' i) x)).regs)), slA 10 ((((rrunA R (c.at' i) x)).out).map REff.cells), .int .i64 (((rrunA R (c.at' i) x)).time)]])) 5 (slO 1 (valC (((rrunA R (c.at' i) x)).regs)))) 10 (slO 6 ((((rrunA R (c.at' i) x)).out).map REff.cells)))) [10, 6, 5, 9, 4] [(4, (.row false 1 [[slA 9 ((((rrunA R (c.at' i) x)).L).map RVal.cells)]])), (9, (slO 9 ((((rrunA R (c.at' i) x)).L).map RVal.cells))), (6, (.row false 4 [[.ptr 4 1 0 0, slA 5 (valC (((rrunA R (c.at' i) x)).regs)), slA 10 ((((rrunA R (c.at' i) x)).out).map REff.cells), .int .i64 (((rrunA R (c.at' i) x)).time)]])), (5, (slO 1 (valC (((rrunA R (c.at' i) x)).regs)))), (10, (slO 6 ((((rrunA R (c.at' i) x)).out).map REff.cells)))] rfl Try.func39 (by kernel_rfl) rfl rfl (by simp only [List.all_cons, List.all_nil, slA_avoid _ (show mem [10, 6, 5, 9, 4] 5 = true from rfl)]; rfl) ⟨⟨_, rfl, (by first | rfl | exact slO_avoid _ _ | exact rtab_avoid _ rfl | exact rwlk_avoid _ _ _ rfl rfl rfl)⟩, ⟨_, rfl, (by first | rfl | exact slO_avoid _ _ | exact rtab_avoid _ rfl | exact rwlk_avoid _ _ _ rfl rfl rfl)⟩, ⟨_, rfl, (by first | rfl | exact slO_avoid _ _ | exact rtab_avoid _ rfl | exact rwlk_avoid _ _ _ rfl rfl rfl)⟩, ⟨_, rfl, (by first | rfl | exact slO_avoid _ _ | exact rtab_avoid _ rfl | exact rwlk_avoid _ _ _ rfl rfl rfl)⟩, ⟨_, rfl, (by first | rfl | exact slO_avoid _ _ | exact rtab_avoid _ rfl | exact rwlk_avoid _ _ _ rfl rfl rfl)⟩, trivial⟩ rfl (hres_cons rfl (hres_cons rfl (hres_cons rfl (hres_cons rfl (hres_cons rfl (hres_nil _)))))) ⟨⟨_, rfl, rfl, (by first | rfl | exact slO_avoid _ _ | exact rtab_avoid _ rfl | exact rwlk_avoid _ _ _ rfl rfl rfl)⟩, ⟨_, rfl, rfl, (by first | rfl | exact slO_avoid _ _ | exact rtab_avoid _ rfl | exact rwlk_avoid _ _ _ rfl rfl rfl)⟩, ⟨_, rfl, rfl, (by first | rfl | exact slO_avoid _ _ | exact rtab_avoid _ rfl | exact rwlk_avoid _ _ _ rfl rfl rfl)⟩, ⟨_, rfl, rfl, (by first | rfl | exact slO_avoid _ _ | exact rtab_avoid _ rfl | exact rwlk_avoid _ _ _ rfl rfl rfl)⟩, ⟨_, rfl, rfl, (by first | rfl | exact slO_avoid _ _ | exact rtab_avoid _ rfl | exact rwlk_avoid _ _ _ rfl rfl rfl)⟩, trivial⟩ rfl (througha_ok R (2 * R) (rinit (c.at' i) (R)).L (rinit (c.at' i) (R)).xs x (rok_a (c.at' i) R) htx (by omega))) ?_
  refine dm 60 ?_
  refine df 61 tok ?_
  refine dl 62 tok ?_
  refine dm 63 ?_
  refine dq 64 (q_index_lst tok rfl rfl rfl rfl rfl rfl hi.1 (by rw [List.getElem?_map, hy]; rfl) rfl) ?_
  refine dl 65 tok ?_
  refine dm 66 ?_
  refine dx 67 (o_call (hc := (hput (hput (hput (hput (hput hNew 4 (.row false 1 [[slA 9 (((rrunA R (c.at' i) x).L).map RVal.cells)]])) 9 (slO 9 (((rrunA R (c.at' i) x).L).map RVal.cells))) 7 (slO 1 (valC (rinit (c.at' i) (R)).ys))) 8 .free) 11 .free)) (hw := (hput (hput (hput (hput (hput hNone 4 (.row false 1 [[slA 9 ((((rrunB R (c.at' i) x y)).L).map RVal.cells)]])) 9 (slO 9 ((((rrunB R (c.at' i) x y)).L).map RVal.cells))) 8 (.row false 4 [[.ptr 4 1 0 0, slA 7 (valC (((rrunB R (c.at' i) x y)).regs)), slA 11 ((((rrunB R (c.at' i) x y)).out).map REff.cells), .int .i64 (((rrunB R (c.at' i) x y)).time)]])) 7 (slO 1 (valC (((rrunB R (c.at' i) x y)).regs)))) 11 (slO 6 ((((rrunB R (c.at' i) x y)).out).map REff.cells)))) [11, 8, 7, 9, 4] [(4, (.row false 1 [[slA 9 ((((rrunB R (c.at' i) x y)).L).map RVal.cells)]])), (9, (slO 9 ((((rrunB R (c.at' i) x y)).L).map RVal.cells))), (8, (.row false 4 [[.ptr 4 1 0 0, slA 7 (valC (((rrunB R (c.at' i) x y)).regs)), slA 11 ((((rrunB R (c.at' i) x y)).out).map REff.cells), .int .i64 (((rrunB R (c.at' i) x y)).time)]])), (7, (slO 1 (valC (((rrunB R (c.at' i) x y)).regs)))), (11, (slO 6 ((((rrunB R (c.at' i) x y)).out).map REff.cells)))] rfl Try.func39 (by kernel_rfl) rfl rfl (by simp only [List.all_cons, List.all_nil, slA_avoid _ (show mem [11, 8, 7, 9, 4] 7 = true from rfl)]; rfl) ⟨⟨_, rfl, (by first | rfl | exact slO_avoid _ _ | exact rtab_avoid _ rfl | exact rwlk_avoid _ _ _ rfl rfl rfl)⟩, ⟨_, rfl, (by first | rfl | exact slO_avoid _ _ | exact rtab_avoid _ rfl | exact rwlk_avoid _ _ _ rfl rfl rfl)⟩, ⟨_, rfl, (by first | rfl | exact slO_avoid _ _ | exact rtab_avoid _ rfl | exact rwlk_avoid _ _ _ rfl rfl rfl)⟩, ⟨_, rfl, (by first | rfl | exact slO_avoid _ _ | exact rtab_avoid _ rfl | exact rwlk_avoid _ _ _ rfl rfl rfl)⟩, ⟨_, rfl, (by first | rfl | exact slO_avoid _ _ | exact rtab_avoid _ rfl | exact rwlk_avoid _ _ _ rfl rfl rfl)⟩, trivial⟩ rfl (hres_cons rfl (hres_cons rfl (hres_cons rfl (hres_cons rfl (hres_cons rfl (hres_nil _)))))) ⟨⟨_, rfl, rfl, (by first | rfl | exact slO_avoid _ _ | exact rtab_avoid _ rfl | exact rwlk_avoid _ _ _ rfl rfl rfl)⟩, ⟨_, rfl, rfl, (by first | rfl | exact slO_avoid _ _ | exact rtab_avoid _ rfl | exact rwlk_avoid _ _ _ rfl rfl rfl)⟩, ⟨_, rfl, rfl, (by first | rfl | exact slO_avoid _ _ | exact rtab_avoid _ rfl | exact rwlk_avoid _ _ _ rfl rfl rfl)⟩, ⟨_, rfl, rfl, (by first | rfl | exact slO_avoid _ _ | exact rtab_avoid _ rfl | exact rwlk_avoid _ _ _ rfl rfl rfl)⟩, ⟨_, rfl, rfl, (by first | rfl | exact slO_avoid _ _ | exact rtab_avoid _ rfl | exact rwlk_avoid _ _ _ rfl rfl rfl)⟩, trivial⟩ rfl (throughb_ok R _ (rrunA R (c.at' i) x).L (rinit (c.at' i) (R)).ys y (rok_b hoa (rfold_mono x.ins)) hty (by omega))) ?_
  refine da 16 ?_
  refine da 17 ?_
  refine DOps.nil (by kernel_rfl) ?_
  refine AGo.seq ?_
  refine AGo.seq ?_
  refine AGo.draw mix ?_
  refine dm 68 ?_
  refine dq 69 (q_nilCheck rfl rfl rfl) ?_
  refine df 70 tok ?_
  refine dl 71 tok ?_
  refine dq 72 (q_lenJ tok rfl rfl rfl rfl) ?_
  refine dm 73 ?_
  refine dq 74 (q_nilCheck rfl rfl rfl) ?_
  refine df 75 tok ?_
  refine dl 76 tok ?_
  refine dq 77 (q_lenJ tok rfl rfl rfl rfl) ?_
  refine dq 78 (q_bin rfl rfl rfl rfl) ?_
  refine DOps.nil (by kernel_rfl) ?_
  refine AGo.split 78 rfl (fun hb3 => ?_) (fun hb3 => ?_)
  ·
   refine AGo.cond_true true rfl rfl ?_
   have hne : ¬ (rrunA R (c.at' i) x).out = (rrunB R (c.at' i) x y).out := fun e => by have h := bne_ne' hb3; rw [List.length_map, List.length_map, e] at h; exact h rfl
   refine AGo.seq ?_
   refine AGo.region ?_
   refine aa 10 ?_
   refine AOps.nil ?_
   refine AGo.ret ?_
   refine ⟨[_], ⟨rfl, trivial⟩, ?_, rfl⟩
   show AV.bool _ = AV.bool _
   congr 1
   exact (rsame_no1 hne).symm
  ·
   refine AGo.cond_false false rfl rfl ?_
   have hlen : (rrunA R (c.at' i) x).out.length = (rrunB R (c.at' i) x y).out.length := by have h := bne_eq' hb3; rw [List.length_map, List.length_map] at h; omega
   refine AGo.skip ?_
   refine AGo.seq ?_
   refine AGo.seq ?_
   refine AGo.region ?_
   refine aa 18 ?_
   refine AOps.nil ?_
   refine AGo.block ?_
   refine AGo.loopD (γ := Nat) 12 (fun k => ⟨177, (eput (eput (eput (eput (eput (eput (eput (eput eNew 3 (.int .i64 i)) 4 (intsAV next)) 5 (.ptr 0 1 0 0)) 6 (.ptr 1 1 0 0)) 7 (.ptr 2 1 0 0)) 16 (.ptr 6 1 0 0)) 17 (.ptr 8 1 0 0)) 18 (.int .i64 (k : Int))), (hput (hput (hput (hput (hput (hput (hput (hput (hput (hput (hput (hFrom 12) 0 (.row false 2 [old.cells])) 1 (.row false 2 [new.cells])) 2 (.row false 1 [c.cells])) 4 (.row false 1 [[slA 9 ((((rrunB R (c.at' i) x y)).L).map RVal.cells)]])) 9 (slO 9 ((((rrunB R (c.at' i) x y)).L).map RVal.cells))) 8 (.row false 4 [[.ptr 4 1 0 0, slA 7 (valC (((rrunB R (c.at' i) x y)).regs)), slA 11 ((((rrunB R (c.at' i) x y)).out).map REff.cells), .int .i64 (((rrunB R (c.at' i) x y)).time)]])) 7 (slO 1 (valC (((rrunB R (c.at' i) x y)).regs)))) 11 (slO 6 ((((rrunB R (c.at' i) x y)).out).map REff.cells))) 6 (.row false 4 [[.ptr 4 1 0 0, slA 5 (valC ((rrunA R (c.at' i) x).regs)), slA 10 (((rrunA R (c.at' i) x).out).map REff.cells), .int .i64 ((rrunA R (c.at' i) x).time)]])) 5 (slO 1 (valC ((rrunA R (c.at' i) x).regs)))) 10 (slO 6 (((rrunA R (c.at' i) x).out).map REff.cells)))⟩) (fun k => k ≤ (rrunA R (c.at' i) x).out.length ∧ (rrunA R (c.at' i) x).out.take k = (rrunB R (c.at' i) x y).out.take k) (fun k => (rrunA R (c.at' i) x).out.length - k) 0 (Sub.mk' (by repeat (first | exact ESub.new _ | refine ESub.put ?_ (by rfl))) (by repeat (first | exact HSub.refl _ | exact HSub.none _ | exact HSub.from_new _ | exact HSub.from_from (by first | decide | omega | (dsimp only; omega)) | refine HSub.put ?_ (by rfl) | refine HSub.from_put ?_ (by first | decide | omega | (dsimp only; omega)) | refine HSub.from_rm ?_ (by decide)))) ⟨Nat.zero_le _, rfl⟩ (fun _ => hput_free (hput_free (hput_free (hput_free (hput_free (hput_free (hput_free (hput_free (hput_free (hput_free (hput_free (fun b hb => hFrom_free hb) rfl) rfl) rfl) rfl) rfl) rfl) rfl) rfl) rfl) rfl) rfl) ?_
   intro k ⟨hk, htk⟩
   refine AGo.seq ?_
   refine AGo.seq ?_
   refine AGo.region ?_
   refine am 79 ?_
   refine am 80 ?_
   refine aq 81 (q_nilCheck rfl rfl rfl) ?_
   refine af 82 tok ?_
   refine al 83 tok ?_
   refine aq 84 (q_lenJ tok rfl rfl rfl rfl) ?_
   refine aq 85 (q_bin rfl rfl rfl rfl) ?_
   refine AOps.nil ?_
   refine AGo.split 85 rfl (fun hb4 => ?_) (fun hb4 => ?_)
   ·
    refine AGo.cond_true true rfl rfl ?_
    have hkl : k < (rrunA R (c.at' i) x).out.length := by have h := hb4; simp only [List.length_map, decide_eq_true_eq] at h; omega
    obtain ⟨ex, hex⟩ := get_of_lt hkl
    obtain ⟨ey, hey⟩ := get_of_lt (l := (rrunB R (c.at' i) x y).out) (k := k) (by omega)
    refine AGo.skip ?_
    refine AGo.seq ?_
    refine AGo.block ?_
    refine AGo.seq ?_
    refine AGo.draw mix ?_
    refine dm 88 ?_
    refine dq 89 (q_nilCheck rfl rfl rfl) ?_
    refine df 90 tok ?_
    refine dl 91 tok ?_
    refine dm 92 ?_
    refine dq 93 (q_indexJ tok rfl rfl rfl rfl rfl rfl rfl rfl (Int.natCast_nonneg _) (by rw [List.length_map]; omega)) ?_
    refine dq 94 (q_load tok rfl rfl rfl (ptsJ rfl (idx_map hex)) rfl) ?_
    refine dm 95 ?_
    refine dq 96 (q_nilCheck rfl rfl rfl) ?_
    refine df 97 tok ?_
    refine dl 98 tok ?_
    refine dm 99 ?_
    refine dq 100 (q_indexJ tok rfl rfl rfl rfl rfl rfl rfl rfl (Int.natCast_nonneg _) (by rw [List.length_map]; omega)) ?_
    refine dq 101 (q_load tok rfl rfl rfl (ptsJ rfl (idx_map hey)) rfl) ?_
    refine dq 102 (q_eqStruct tok true rfl rfl rfl (by kernel_rfl) rfl rfl rfl rfl rfl) ?_
    refine DOps.nil (by kernel_rfl) ?_
    refine AGo.split 102 rfl (fun hb5 => ?_) (fun hb5 => ?_)
    ·
     refine AGo.cond_true true rfl rfl ?_
     have hne : ¬ ex = ey := rsame_eff hb5
     refine AGo.seq ?_
     refine AGo.region ?_
     refine aa 10 ?_
     refine AOps.nil ?_
     refine AGo.ret ?_
     refine ⟨[_], ⟨rfl, trivial⟩, ?_, rfl⟩
     show AV.bool _ = AV.bool _
     congr 1
     exact (rsame_no1 (take_ne hex hey hne)).symm
    ·
     refine AGo.cond_false false rfl rfl ?_
     obtain rfl : ex = ey := rsame_eff' hb5
     refine AGo.skip ?_
     refine AGo.region ?_
     refine am 86 ?_
     refine aq 87 (q_inc rfl rfl hkl (show (rrunA R (c.at' i) x).out.length ≤ maxLen by have := hoa.el; simp only [maxLen]; omega)) ?_
     refine aa 18 ?_
     refine AOps.nil ?_
     exact ⟨k+1, Drop.mk' (by repeat (first | exact EDrop.new _ _ | refine EDrop.put ?_ (by rfl) (by first | rfl | exact slA_avoid _ rfl | exact vaA_avoid _ rfl))) (by repeat (first | exact HDrop.none _ _ | exact HDrop.tail _ _ | refine HDrop.put ?_ (by rfl) rfl (by first | rfl | exact slO_avoid _ _ | exact rtab_avoid _ rfl | exact rwlk_avoid _ _ _ rfl rfl rfl))), ⟨hkl, take_eq_succ htk hex hey⟩, by omega⟩
   ·
    refine AGo.cond_false false rfl rfl ?_
    have hge : (rrunA R (c.at' i) x).out.length ≤ k := by have h := hb4; simp only [List.length_map, decide_eq_false_iff_not] at h; omega
    have hout : (rrunA R (c.at' i) x).out = (rrunB R (c.at' i) x y).out := take_all htk hge (by omega)
    refine AGo.exit ?_
    refine AGo.seq ?_
    refine AGo.seq ?_
    refine AGo.draw mix ?_
    refine df 103 tok ?_
    refine dl 104 tok ?_
    refine dm 105 ?_
    refine dq 106 (q_index_lst tok rfl rfl rfl rfl rfl rfl hi.1 (by rw [List.getElem?_map, hx]; rfl) rfl) ?_
    refine df 107 tok ?_
    refine dl 108 tok ?_
    refine dq 109 (q_bin rfl rfl rfl rfl) ?_
    refine dm 110 ?_
    refine DOps.split 110 rfl (fun hb6 => ?_) (fun hb6 => ?_)
    ·
     have hf2 : x.fin = 2 := by simpa using hb6
     have hxo := hoa.at (hv hf2).1
     have hxn := hob.at (hv hf2).2
     refine dm 111 ?_
     refine dq 112 (q_nilCheck rfl rfl rfl) ?_
     refine df 113 tok ?_
     refine dl 114 tok ?_
     refine df 115 tok ?_
     refine dl 116 tok ?_
     refine dm 117 ?_
     refine dq 118 (q_index_lst tok rfl rfl rfl rfl rfl rfl hi.1 (by rw [List.getElem?_map, hx]; rfl) rfl) ?_
     refine df 119 tok ?_
     refine dl 120 tok ?_
     refine dq 121 (q_indexJ tok rfl rfl rfl rfl rfl rfl rfl rfl hxo.1 hxo.2.2.1) ?_
     refine dq 122 (q_load tok rfl rfl rfl (ptsJ rfl (valC_get ⟨hxo.1, hxo.2.1⟩)) rfl) ?_
     refine dm 123 ?_
     refine dq 124 (q_nilCheck rfl rfl rfl) ?_
     refine df 125 tok ?_
     refine dl 126 tok ?_
     refine df 127 tok ?_
     refine dl 128 tok ?_
     refine dm 129 ?_
     refine dq 130 (q_index_lst tok rfl rfl rfl rfl rfl rfl hi.1 (by rw [List.getElem?_map, hy]; rfl) rfl) ?_
     refine df 131 tok ?_
     refine dl 132 tok ?_
     refine dq 133 (q_indexJ tok rfl rfl rfl rfl rfl rfl rfl rfl hxn.1 hxn.2.2.1) ?_
     refine dq 134 (q_load tok rfl rfl rfl (ptsJ rfl (valC_get ⟨hxn.1, hxn.2.1⟩)) rfl) ?_
     refine dq 135 (q_bin rfl rfl rfl rfl) ?_
     refine dq 136 (q_pick_true true rfl rfl rfl rfl) ?_
     refine DOps.nil (by kernel_rfl) ?_
     refine AGo.split 136 rfl (fun hb7 => ?_) (fun hb7 => ?_)
     ·
      refine AGo.cond_true true rfl rfl ?_
      have hvf := hb7
      refine AGo.seq ?_
      refine AGo.region ?_
      refine aa 10 ?_
      refine AOps.nil ?_
      refine AGo.ret ?_
      refine ⟨[_], ⟨rfl, trivial⟩, ?_, rfl⟩
      show AV.bool _ = AV.bool _
      congr 1
      exact (rsame_no2 hf2 (bne_ne' hvf)).symm
     ·
      refine AGo.cond_false false rfl rfl ?_
      have hvf := hb7
      refine AGo.skip ?_
      refine AGo.seq ?_
      refine AGo.seq ?_
      refine AGo.region ?_
      refine aa 19 ?_
      refine AOps.nil ?_
      refine AGo.block ?_
      refine AGo.loopD (γ := Nat) 12 (fun j => ⟨177, (eput (eput (eput (eput (eput (eput (eput (eput eNew 3 (.int .i64 i)) 4 (intsAV next)) 5 (.ptr 0 1 0 0)) 6 (.ptr 1 1 0 0)) 7 (.ptr 2 1 0 0)) 16 (.ptr 6 1 0 0)) 17 (.ptr 8 1 0 0)) 19 (.int .i64 (j : Int))), (hput (hput (hput (hput (hput (hput (hput (hput (hput (hput (hput (hFrom 12) 0 (.row false 2 [old.cells])) 1 (.row false 2 [new.cells])) 2 (.row false 1 [c.cells])) 4 (.row false 1 [[slA 9 ((((rrunB R (c.at' i) x y)).L).map RVal.cells)]])) 9 (slO 9 ((((rrunB R (c.at' i) x y)).L).map RVal.cells))) 8 (.row false 4 [[.ptr 4 1 0 0, slA 7 (valC (((rrunB R (c.at' i) x y)).regs)), slA 11 ((((rrunB R (c.at' i) x y)).out).map REff.cells), .int .i64 (((rrunB R (c.at' i) x y)).time)]])) 7 (slO 1 (valC (((rrunB R (c.at' i) x y)).regs)))) 11 (slO 6 ((((rrunB R (c.at' i) x y)).out).map REff.cells))) 6 (.row false 4 [[.ptr 4 1 0 0, slA 5 (valC ((rrunA R (c.at' i) x).regs)), slA 10 (((rrunA R (c.at' i) x).out).map REff.cells), .int .i64 ((rrunA R (c.at' i) x).time)]])) 5 (slO 1 (valC ((rrunA R (c.at' i) x).regs)))) 10 (slO 6 (((rrunA R (c.at' i) x).out).map REff.cells)))⟩) (fun j => j ≤ next.length ∧ (next.take j).all (fun k => vagree (rrunA R (c.at' i) x).vw (rrunB R (c.at' i) x y).vw (c.at' k)) = true) (fun j => next.length - j) 0 (Sub.mk' (by repeat (first | exact ESub.new _ | refine ESub.put ?_ (by rfl))) (by repeat (first | exact HSub.refl _ | exact HSub.none _ | exact HSub.from_new _ | exact HSub.from_from (by first | decide | omega | (dsimp only; omega)) | refine HSub.put ?_ (by rfl) | refine HSub.from_put ?_ (by first | decide | omega | (dsimp only; omega)) | refine HSub.from_rm ?_ (by decide)))) ⟨Nat.zero_le _, rfl⟩ (fun _ => hput_free (hput_free (hput_free (hput_free (hput_free (hput_free (hput_free (hput_free (hput_free (hput_free (hput_free (fun b hb => hFrom_free hb) rfl) rfl) rfl) rfl) rfl) rfl) rfl) rfl) rfl) rfl) rfl) ?_
      intro j ⟨hj, hall⟩
      refine AGo.seq ?_
      refine AGo.seq ?_
      refine AGo.region ?_
      refine am 137 ?_
      refine am 138 ?_
      refine aq 139 (q_len tok rfl rfl rfl rfl rfl) ?_
      refine aq 140 (q_bin rfl rfl rfl rfl) ?_
      refine AOps.nil ?_
      refine AGo.split 140 rfl (fun hb8 => ?_) (fun hb8 => ?_)
      ·
       refine AGo.cond_true true rfl rfl ?_
       have hjl : j < next.length := by have h := hb8; simp only [List.length_map, decide_eq_true_eq] at h; omega
       obtain ⟨nk, hnk⟩ := get_of_lt hjl
       have hkr := hnx nk (List.mem_of_getElem? hnk)
       obtain ⟨row2, hrow2⟩ := get_of_lt (l := c.same) (k := nk.toNat) (by omega)
       have hat2 : c.at' nk = row2 := by unfold Cert.at'; rw [hrow2]; rfl
       have hrl2 := hc row2 (List.mem_of_getElem? hrow2)
       refine AGo.skip ?_
       refine AGo.seq ?_
       refine AGo.block ?_
       refine AGo.seq ?_
       refine AGo.region ?_
       refine aa 20 ?_
       refine AOps.nil ?_
       refine AGo.block ?_
       refine AGo.loopD (γ := Nat) 12 (fun k => ⟨177, (eput (eput (eput (eput (eput (eput (eput (eput (eput eNew 3 (.int .i64 i)) 4 (intsAV next)) 5 (.ptr 0 1 0 0)) 6 (.ptr 1 1 0 0)) 7 (.ptr 2 1 0 0)) 16 (.ptr 6 1 0 0)) 17 (.ptr 8 1 0 0)) 19 (.int .i64 (j : Int))) 20 (.int .i64 (k : Int))), (hput (hput (hput (hput (hput (hput (hput (hput (hput (hput (hput (hFrom 12) 0 (.row false 2 [old.cells])) 1 (.row false 2 [new.cells])) 2 (.row false 1 [c.cells])) 4 (.row false 1 [[slA 9 ((((rrunB R (c.at' i) x y)).L).map RVal.cells)]])) 9 (slO 9 ((((rrunB R (c.at' i) x y)).L).map RVal.cells))) 8 (.row false 4 [[.ptr 4 1 0 0, slA 7 (valC (((rrunB R (c.at' i) x y)).regs)), slA 11 ((((rrunB R (c.at' i) x y)).out).map REff.cells), .int .i64 (((rrunB R (c.at' i) x y)).time)]])) 7 (slO 1 (valC (((rrunB R (c.at' i) x y)).regs)))) 11 (slO 6 ((((rrunB R (c.at' i) x y)).out).map REff.cells))) 6 (.row false 4 [[.ptr 4 1 0 0, slA 5 (valC ((rrunA R (c.at' i) x).regs)), slA 10 (((rrunA R (c.at' i) x).out).map REff.cells), .int .i64 ((rrunA R (c.at' i) x).time)]])) 5 (slO 1 (valC ((rrunA R (c.at' i) x).regs)))) 10 (slO 6 (((rrunA R (c.at' i) x).out).map REff.cells)))⟩) (fun k => k ≤ R ∧ vagreeTo (rrunA R (c.at' i) x).vw (rrunB R (c.at' i) x y).vw row2 k) (fun k => R - k) 0 (Sub.mk' (by repeat (first | exact ESub.new _ | refine ESub.put ?_ (by rfl))) (by repeat (first | exact HSub.refl _ | exact HSub.none _ | exact HSub.from_new _ | exact HSub.from_from (by first | decide | omega | (dsimp only; omega)) | refine HSub.put ?_ (by rfl) | refine HSub.from_put ?_ (by first | decide | omega | (dsimp only; omega)) | refine HSub.from_rm ?_ (by decide)))) ⟨Nat.zero_le _, vagree_zero⟩ (fun _ => hput_free (hput_free (hput_free (hput_free (hput_free (hput_free (hput_free (hput_free (hput_free (hput_free (hput_free (fun b hb => hFrom_free hb) rfl) rfl) rfl) rfl) rfl) rfl) rfl) rfl) rfl) rfl) rfl) ?_
       intro k ⟨hk, hagr⟩
       refine AGo.seq ?_
       refine AGo.seq ?_
       refine AGo.region ?_
       refine am 143 ?_
       refine af 144 tok ?_
       refine al 145 tok ?_
       refine aq 146 (q_bin rfl rfl rfl rfl) ?_
       refine AOps.nil ?_
       refine AGo.split 146 rfl (fun hb9 => ?_) (fun hb9 => ?_)
       ·
        refine AGo.cond_true true rfl rfl ?_
        have hkl : k < R := by have h := hb9; rw [hreg] at h; simp only [decide_eq_true_eq] at h; omega
        refine AGo.skip ?_
        refine AGo.seq ?_
        refine AGo.block ?_
        refine AGo.seq ?_
        refine AGo.draw mix ?_
        refine df 149 tok ?_
        refine dl 150 tok ?_
        refine dm 151 ?_
        refine dm 152 ?_
        refine dq 153 (q_index_lst tok rfl rfl rfl rfl rfl rfl (Int.natCast_nonneg _) (idx_map hnk) rfl) ?_
        refine dl 154 tok ?_
        refine dq 155 (q_index_lst tok rfl rfl rfl rfl rfl rfl hkr.1 (by rw [List.getElem?_map, hrow2]; rfl) rfl) ?_
        refine dl 156 tok ?_
        refine dm 157 ?_
        obtain ⟨must, hmu⟩ := get_of_lt (l := row2) (k := k) (by omega)
        refine dq 158 (q_index_lst tok rfl rfl rfl rfl rfl rfl (Int.natCast_nonneg _) (idx_map hmu) rfl) ?_
        refine dl 159 tok ?_
        refine dm 160 ?_
        refine DOps.split 160 rfl (fun hb10 => ?_) (fun hb10 => ?_)
        ·
         have hmt : must = true := by simpa using hb10
         have hxv := hoa.at (z := (k : Int)) (by omega)
         have hyv := hob.at (z := (k : Int)) (by omega)
         refine dm 161 ?_
         refine dq 162 (q_nilCheck rfl rfl rfl) ?_
         refine df 163 tok ?_
         refine dl 164 tok ?_
         refine dm 165 ?_
         refine dq 166 (q_indexJ tok rfl rfl rfl rfl rfl rfl rfl rfl hxv.1 hxv.2.2.1) ?_
         refine dq 167 (q_load tok rfl rfl rfl (ptsJ rfl (valC_get ⟨hxv.1, hxv.2.1⟩)) rfl) ?_
         refine dm 168 ?_
         refine dq 169 (q_nilCheck rfl rfl rfl) ?_
         refine df 170 tok ?_
         refine dl 171 tok ?_
         refine dm 172 ?_
         refine dq 173 (q_indexJ tok rfl rfl rfl rfl rfl rfl rfl rfl hyv.1 hyv.2.2.1) ?_
         refine dq 174 (q_load tok rfl rfl rfl (ptsJ rfl (valC_get ⟨hyv.1, hyv.2.1⟩)) rfl) ?_
         refine dq 175 (q_bin rfl rfl rfl rfl) ?_
         refine dq 176 (q_pick_true true rfl rfl rfl rfl) ?_
         refine DOps.nil (by kernel_rfl) ?_
         refine AGo.split 176 rfl (fun hb11 => ?_) (fun hb11 => ?_)
         ·
          refine AGo.cond_true true rfl rfl ?_
          have hag := hb11
          refine AGo.seq ?_
          refine AGo.region ?_
          refine aa 10 ?_
          refine AOps.nil ?_
          refine AGo.ret ?_
          refine ⟨[_], ⟨rfl, trivial⟩, ?_, rfl⟩
          show AV.bool _ = AV.bool _
          congr 1
          exact (rsame_no3 hnk (by rw [hat2]; exact vagree_no hmu hmt (bne_ne' hag))).symm
         ·
          refine AGo.cond_false false rfl rfl ?_
          have hag := hb11
          refine AGo.skip ?_
          refine AGo.region ?_
          refine am 147 ?_
          refine aq 148 (q_inc rfl rfl hkl (show R ≤ maxLen by simp only [maxLen]; omega)) ?_
          refine aa 20 ?_
          refine AOps.nil ?_
          exact ⟨k+1, Drop.mk' (by repeat (first | exact EDrop.new _ _ | refine EDrop.put ?_ (by rfl) (by first | rfl | exact slA_avoid _ rfl | exact vaA_avoid _ rfl))) (by repeat (first | exact HDrop.none _ _ | exact HDrop.tail _ _ | refine HDrop.put ?_ (by rfl) rfl (by first | rfl | exact slO_avoid _ _ | exact rtab_avoid _ rfl | exact rwlk_avoid _ _ _ rfl rfl rfl))), ⟨hkl, vagree_succ hagr hmu (by first | exact fun _ => bne_eq' hag | (exact fun h => by rw [hag] at h; cases h))⟩, by omega⟩
        ·
         refine dk 161 ?_
         refine dk 162 ?_
         refine dk 163 ?_
         refine dk 164 ?_
         refine dk 165 ?_
         refine dk 166 ?_
         refine dk 167 ?_
         refine dk 168 ?_
         refine dk 169 ?_
         refine dk 170 ?_
         refine dk 171 ?_
         refine dk 172 ?_
         refine dk 173 ?_
         refine dk 174 ?_
         refine dk 175 ?_
         refine dq 176 (q_pick_false false rfl rfl rfl rfl) ?_
         refine DOps.nil (by kernel_rfl) ?_
         refine AGo.cond_false false rfl rfl ?_
         have hag := hb10
         refine AGo.skip ?_
         refine AGo.region ?_
         refine am 147 ?_
         refine aq 148 (q_inc rfl rfl hkl (show R ≤ maxLen by simp only [maxLen]; omega)) ?_
         refine aa 20 ?_
         refine AOps.nil ?_
         exact ⟨k+1, Drop.mk' (by repeat (first | exact EDrop.new _ _ | refine EDrop.put ?_ (by rfl) (by first | rfl | exact slA_avoid _ rfl | exact vaA_avoid _ rfl))) (by repeat (first | exact HDrop.none _ _ | exact HDrop.tail _ _ | refine HDrop.put ?_ (by rfl) rfl (by first | rfl | exact slO_avoid _ _ | exact rtab_avoid _ rfl | exact rwlk_avoid _ _ _ rfl rfl rfl))), ⟨hkl, vagree_succ hagr hmu (by first | exact fun _ => bne_eq' hag | (exact fun h => by rw [hag] at h; cases h))⟩, by omega⟩
       ·
        refine AGo.cond_false false rfl rfl ?_
        have hkge : row2.length ≤ k := by have h := hb9; rw [hreg] at h; simp only [decide_eq_false_iff_not] at h; omega
        refine AGo.exit ?_
        refine AGo.region ?_
        refine am 141 ?_
        refine aq 142 (q_inc rfl rfl hjl (show next.length ≤ maxLen by simp only [maxLen]; omega)) ?_
        refine aa 19 ?_
        refine AOps.nil ?_
        exact ⟨j+1, Drop.mk' (by repeat (first | exact EDrop.new _ _ | refine EDrop.put ?_ (by rfl) (by first | rfl | exact slA_avoid _ rfl | exact vaA_avoid _ rfl))) (by repeat (first | exact HDrop.none _ _ | exact HDrop.tail _ _ | refine HDrop.put ?_ (by rfl) rfl (by first | rfl | exact slO_avoid _ _ | exact rtab_avoid _ rfl | exact rwlk_avoid _ _ _ rfl rfl rfl))), ⟨hjl, all_succ hnk hall (by rw [hat2]; exact vagree_end hkge hagr)⟩, by omega⟩
      ·
       refine AGo.cond_false false rfl rfl ?_
       have hjge : next.length ≤ j := by have h := hb8; simp only [List.length_map, decide_eq_false_iff_not] at h; omega
       refine AGo.exit ?_
       refine AGo.seq ?_
       refine AGo.region ?_
       refine aa 10 ?_
       refine AOps.nil ?_
       refine AGo.ret ?_
       refine ⟨[_], ⟨rfl, trivial⟩, ?_, rfl⟩
       show AV.bool _ = AV.bool _
       congr 1
       exact (rsame_yes hout (by first | exact fun _ => bne_eq' hvf | (exact fun hf => absurd hf (by simpa using hvf))) (all_end hall hjge)).symm
    ·
     refine dk 111 ?_
     refine dk 112 ?_
     refine dk 113 ?_
     refine dk 114 ?_
     refine dk 115 ?_
     refine dk 116 ?_
     refine dk 117 ?_
     refine dk 118 ?_
     refine dk 119 ?_
     refine dk 120 ?_
     refine dk 121 ?_
     refine dk 122 ?_
     refine dk 123 ?_
     refine dk 124 ?_
     refine dk 125 ?_
     refine dk 126 ?_
     refine dk 127 ?_
     refine dk 128 ?_
     refine dk 129 ?_
     refine dk 130 ?_
     refine dk 131 ?_
     refine dk 132 ?_
     refine dk 133 ?_
     refine dk 134 ?_
     refine dk 135 ?_
     refine dq 136 (q_pick_false false rfl rfl rfl rfl) ?_
     refine DOps.nil (by kernel_rfl) ?_
     refine AGo.cond_false false rfl rfl ?_
     have hvf := hb6
     refine AGo.skip ?_
     refine AGo.seq ?_
     refine AGo.seq ?_
     refine AGo.region ?_
     refine aa 19 ?_
     refine AOps.nil ?_
     refine AGo.block ?_
     refine AGo.loopD (γ := Nat) 12 (fun j => ⟨177, (eput (eput (eput (eput (eput (eput (eput (eput eNew 3 (.int .i64 i)) 4 (intsAV next)) 5 (.ptr 0 1 0 0)) 6 (.ptr 1 1 0 0)) 7 (.ptr 2 1 0 0)) 16 (.ptr 6 1 0 0)) 17 (.ptr 8 1 0 0)) 19 (.int .i64 (j : Int))), (hput (hput (hput (hput (hput (hput (hput (hput (hput (hput (hput (hFrom 12) 0 (.row false 2 [old.cells])) 1 (.row false 2 [new.cells])) 2 (.row false 1 [c.cells])) 4 (.row false 1 [[slA 9 ((((rrunB R (c.at' i) x y)).L).map RVal.cells)]])) 9 (slO 9 ((((rrunB R (c.at' i) x y)).L).map RVal.cells))) 8 (.row false 4 [[.ptr 4 1 0 0, slA 7 (valC (((rrunB R (c.at' i) x y)).regs)), slA 11 ((((rrunB R (c.at' i) x y)).out).map REff.cells), .int .i64 (((rrunB R (c.at' i) x y)).time)]])) 7 (slO 1 (valC (((rrunB R (c.at' i) x y)).regs)))) 11 (slO 6 ((((rrunB R (c.at' i) x y)).out).map REff.cells))) 6 (.row false 4 [[.ptr 4 1 0 0, slA 5 (valC ((rrunA R (c.at' i) x).regs)), slA 10 (((rrunA R (c.at' i) x).out).map REff.cells), .int .i64 ((rrunA R (c.at' i) x).time)]])) 5 (slO 1 (valC ((rrunA R (c.at' i) x).regs)))) 10 (slO 6 (((rrunA R (c.at' i) x).out).map REff.cells)))⟩) (fun j => j ≤ next.length ∧ (next.take j).all (fun k => vagree (rrunA R (c.at' i) x).vw (rrunB R (c.at' i) x y).vw (c.at' k)) = true) (fun j => next.length - j) 0 (Sub.mk' (by repeat (first | exact ESub.new _ | refine ESub.put ?_ (by rfl))) (by repeat (first | exact HSub.refl _ | exact HSub.none _ | exact HSub.from_new _ | exact HSub.from_from (by first | decide | omega | (dsimp only; omega)) | refine HSub.put ?_ (by rfl) | refine HSub.from_put ?_ (by first | decide | omega | (dsimp only; omega)) | refine HSub.from_rm ?_ (by decide)))) ⟨Nat.zero_le _, rfl⟩ (fun _ => hput_free (hput_free (hput_free (hput_free (hput_free (hput_free (hput_free (hput_free (hput_free (hput_free (hput_free (fun b hb => hFrom_free hb) rfl) rfl) rfl) rfl) rfl) rfl) rfl) rfl) rfl) rfl) rfl) ?_
     intro j ⟨hj, hall⟩
     refine AGo.seq ?_
     refine AGo.seq ?_
     refine AGo.region ?_
     refine am 137 ?_
     refine am 138 ?_
     refine aq 139 (q_len tok rfl rfl rfl rfl rfl) ?_
     refine aq 140 (q_bin rfl rfl rfl rfl) ?_
     refine AOps.nil ?_
     refine AGo.split 140 rfl (fun hb12 => ?_) (fun hb12 => ?_)
     ·
      refine AGo.cond_true true rfl rfl ?_
      have hjl : j < next.length := by have h := hb12; simp only [List.length_map, decide_eq_true_eq] at h; omega
      obtain ⟨nk, hnk⟩ := get_of_lt hjl
      have hkr := hnx nk (List.mem_of_getElem? hnk)
      obtain ⟨row2, hrow2⟩ := get_of_lt (l := c.same) (k := nk.toNat) (by omega)
      have hat2 : c.at' nk = row2 := by unfold Cert.at'; rw [hrow2]; rfl
      have hrl2 := hc row2 (List.mem_of_getElem? hrow2)
      refine AGo.skip ?_
      refine AGo.seq ?_
      refine AGo.block ?_
      refine AGo.seq ?_
      refine AGo.region ?_
      refine aa 20 ?_
      refine AOps.nil ?_
      refine AGo.block ?_
      refine AGo.loopD (γ := Nat) 12 (fun k => ⟨177, (eput (eput (eput (eput (eput (eput (eput (eput (eput eNew 3 (.int .i64 i)) 4 (intsAV next)) 5 (.ptr 0 1 0 0)) 6 (.ptr 1 1 0 0)) 7 (.ptr 2 1 0 0)) 16 (.ptr 6 1 0 0)) 17 (.ptr 8 1 0 0)) 19 (.int .i64 (j : Int))) 20 (.int .i64 (k : Int))), (hput (hput (hput (hput (hput (hput (hput (hput (hput (hput (hput (hFrom 12) 0 (.row false 2 [old.cells])) 1 (.row false 2 [new.cells])) 2 (.row false 1 [c.cells])) 4 (.row false 1 [[slA 9 ((((rrunB R (c.at' i) x y)).L).map RVal.cells)]])) 9 (slO 9 ((((rrunB R (c.at' i) x y)).L).map RVal.cells))) 8 (.row false 4 [[.ptr 4 1 0 0, slA 7 (valC (((rrunB R (c.at' i) x y)).regs)), slA 11 ((((rrunB R (c.at' i) x y)).out).map REff.cells), .int .i64 (((rrunB R (c.at' i) x y)).time)]])) 7 (slO 1 (valC (((rrunB R (c.at' i) x y)).regs)))) 11 (slO 6 ((((rrunB R (c.at' i) x y)).out).map REff.cells))) 6 (.row false 4 [[.ptr 4 1 0 0, slA 5 (valC ((rrunA R (c.at' i) x).regs)), slA 10 (((rrunA R (c.at' i) x).out).map REff.cells), .int .i64 ((rrunA R (c.at' i) x).time)]])) 5 (slO 1 (valC ((rrunA R (c.at' i) x).regs)))) 10 (slO 6 (((rrunA R (c.at' i) x).out).map REff.cells)))⟩) (fun k => k ≤ R ∧ vagreeTo (rrunA R (c.at' i) x).vw (rrunB R (c.at' i) x y).vw row2 k) (fun k => R - k) 0 (Sub.mk' (by repeat (first | exact ESub.new _ | refine ESub.put ?_ (by rfl))) (by repeat (first | exact HSub.refl _ | exact HSub.none _ | exact HSub.from_new _ | exact HSub.from_from (by first | decide | omega | (dsimp only; omega)) | refine HSub.put ?_ (by rfl) | refine HSub.from_put ?_ (by first | decide | omega | (dsimp only; omega)) | refine HSub.from_rm ?_ (by decide)))) ⟨Nat.zero_le _, vagree_zero⟩ (fun _ => hput_free (hput_free (hput_free (hput_free (hput_free (hput_free (hput_free (hput_free (hput_free (hput_free (hput_free (fun b hb => hFrom_free hb) rfl) rfl) rfl) rfl) rfl) rfl) rfl) rfl) rfl) rfl) rfl) ?_
      intro k ⟨hk, hagr⟩
      refine AGo.seq ?_
      refine AGo.seq ?_
      refine AGo.region ?_
      refine am 143 ?_
      refine af 144 tok ?_
      refine al 145 tok ?_
      refine aq 146 (q_bin rfl rfl rfl rfl) ?_
      refine AOps.nil ?_
      refine AGo.split 146 rfl (fun hb13 => ?_) (fun hb13 => ?_)
      ·
       refine AGo.cond_true true rfl rfl ?_
       have hkl : k < R := by have h := hb13; rw [hreg] at h; simp only [decide_eq_true_eq] at h; omega
       refine AGo.skip ?_
       refine AGo.seq ?_
       refine AGo.block ?_
       refine AGo.seq ?_
       refine AGo.draw mix ?_
       refine df 149 tok ?_
       refine dl 150 tok ?_
       refine dm 151 ?_
       refine dm 152 ?_
       refine dq 153 (q_index_lst tok rfl rfl rfl rfl rfl rfl (Int.natCast_nonneg _) (idx_map hnk) rfl) ?_
       refine dl 154 tok ?_
       refine dq 155 (q_index_lst tok rfl rfl rfl rfl rfl rfl hkr.1 (by rw [List.getElem?_map, hrow2]; rfl) rfl) ?_
       refine dl 156 tok ?_
       refine dm 157 ?_
       obtain ⟨must, hmu⟩ := get_of_lt (l := row2) (k := k) (by omega)
       refine dq 158 (q_index_lst tok rfl rfl rfl rfl rfl rfl (Int.natCast_nonneg _) (idx_map hmu) rfl) ?_
       refine dl 159 tok ?_
       refine dm 160 ?_
       refine DOps.split 160 rfl (fun hb14 => ?_) (fun hb14 => ?_)
       ·
        have hmt : must = true := by simpa using hb14
        have hxv := hoa.at (z := (k : Int)) (by omega)
        have hyv := hob.at (z := (k : Int)) (by omega)
        refine dm 161 ?_
        refine dq 162 (q_nilCheck rfl rfl rfl) ?_
        refine df 163 tok ?_
        refine dl 164 tok ?_
        refine dm 165 ?_
        refine dq 166 (q_indexJ tok rfl rfl rfl rfl rfl rfl rfl rfl hxv.1 hxv.2.2.1) ?_
        refine dq 167 (q_load tok rfl rfl rfl (ptsJ rfl (valC_get ⟨hxv.1, hxv.2.1⟩)) rfl) ?_
        refine dm 168 ?_
        refine dq 169 (q_nilCheck rfl rfl rfl) ?_
        refine df 170 tok ?_
        refine dl 171 tok ?_
        refine dm 172 ?_
        refine dq 173 (q_indexJ tok rfl rfl rfl rfl rfl rfl rfl rfl hyv.1 hyv.2.2.1) ?_
        refine dq 174 (q_load tok rfl rfl rfl (ptsJ rfl (valC_get ⟨hyv.1, hyv.2.1⟩)) rfl) ?_
        refine dq 175 (q_bin rfl rfl rfl rfl) ?_
        refine dq 176 (q_pick_true true rfl rfl rfl rfl) ?_
        refine DOps.nil (by kernel_rfl) ?_
        refine AGo.split 176 rfl (fun hb15 => ?_) (fun hb15 => ?_)
        ·
         refine AGo.cond_true true rfl rfl ?_
         have hag := hb15
         refine AGo.seq ?_
         refine AGo.region ?_
         refine aa 10 ?_
         refine AOps.nil ?_
         refine AGo.ret ?_
         refine ⟨[_], ⟨rfl, trivial⟩, ?_, rfl⟩
         show AV.bool _ = AV.bool _
         congr 1
         exact (rsame_no3 hnk (by rw [hat2]; exact vagree_no hmu hmt (bne_ne' hag))).symm
        ·
         refine AGo.cond_false false rfl rfl ?_
         have hag := hb15
         refine AGo.skip ?_
         refine AGo.region ?_
         refine am 147 ?_
         refine aq 148 (q_inc rfl rfl hkl (show R ≤ maxLen by simp only [maxLen]; omega)) ?_
         refine aa 20 ?_
         refine AOps.nil ?_
         exact ⟨k+1, Drop.mk' (by repeat (first | exact EDrop.new _ _ | refine EDrop.put ?_ (by rfl) (by first | rfl | exact slA_avoid _ rfl | exact vaA_avoid _ rfl))) (by repeat (first | exact HDrop.none _ _ | exact HDrop.tail _ _ | refine HDrop.put ?_ (by rfl) rfl (by first | rfl | exact slO_avoid _ _ | exact rtab_avoid _ rfl | exact rwlk_avoid _ _ _ rfl rfl rfl))), ⟨hkl, vagree_succ hagr hmu (by first | exact fun _ => bne_eq' hag | (exact fun h => by rw [hag] at h; cases h))⟩, by omega⟩
       ·
        refine dk 161 ?_
        refine dk 162 ?_
        refine dk 163 ?_
        refine dk 164 ?_
        refine dk 165 ?_
        refine dk 166 ?_
        refine dk 167 ?_
        refine dk 168 ?_
        refine dk 169 ?_
        refine dk 170 ?_
        refine dk 171 ?_
        refine dk 172 ?_
        refine dk 173 ?_
        refine dk 174 ?_
        refine dk 175 ?_
        refine dq 176 (q_pick_false false rfl rfl rfl rfl) ?_
        refine DOps.nil (by kernel_rfl) ?_
        refine AGo.cond_false false rfl rfl ?_
        have hag := hb14
        refine AGo.skip ?_
        refine AGo.region ?_
        refine am 147 ?_
        refine aq 148 (q_inc rfl rfl hkl (show R ≤ maxLen by simp only [maxLen]; omega)) ?_
        refine aa 20 ?_
        refine AOps.nil ?_
        exact ⟨k+1, Drop.mk' (by repeat (first | exact EDrop.new _ _ | refine EDrop.put ?_ (by rfl) (by first | rfl | exact slA_avoid _ rfl | exact vaA_avoid _ rfl))) (by repeat (first | exact HDrop.none _ _ | exact HDrop.tail _ _ | refine HDrop.put ?_ (by rfl) rfl (by first | rfl | exact slO_avoid _ _ | exact rtab_avoid _ rfl | exact rwlk_avoid _ _ _ rfl rfl rfl))), ⟨hkl, vagree_succ hagr hmu (by first | exact fun _ => bne_eq' hag | (exact fun h => by rw [hag] at h; cases h))⟩, by omega⟩
      ·
       refine AGo.cond_false false rfl rfl ?_
       have hkge : row2.length ≤ k := by have h := hb13; rw [hreg] at h; simp only [decide_eq_false_iff_not] at h; omega
       refine AGo.exit ?_
       refine AGo.region ?_
       refine am 141 ?_
       refine aq 142 (q_inc rfl rfl hjl (show next.length ≤ maxLen by simp only [maxLen]; omega)) ?_
       refine aa 19 ?_
       refine AOps.nil ?_
       exact ⟨j+1, Drop.mk' (by repeat (first | exact EDrop.new _ _ | refine EDrop.put ?_ (by rfl) (by first | rfl | exact slA_avoid _ rfl | exact vaA_avoid _ rfl))) (by repeat (first | exact HDrop.none _ _ | exact HDrop.tail _ _ | refine HDrop.put ?_ (by rfl) rfl (by first | rfl | exact slO_avoid _ _ | exact rtab_avoid _ rfl | exact rwlk_avoid _ _ _ rfl rfl rfl))), ⟨hjl, all_succ hnk hall (by rw [hat2]; exact vagree_end hkge hagr)⟩, by omega⟩
     ·
      refine AGo.cond_false false rfl rfl ?_
      have hjge : next.length ≤ j := by have h := hb12; simp only [List.length_map, decide_eq_false_iff_not] at h; omega
      refine AGo.exit ?_
      refine AGo.seq ?_
      refine AGo.region ?_
      refine aa 10 ?_
      refine AOps.nil ?_
      refine AGo.ret ?_
      refine ⟨[_], ⟨rfl, trivial⟩, ?_, rfl⟩
      show AV.bool _ = AV.bool _
      congr 1
      exact (rsame_yes hout (by first | exact fun _ => bne_eq' hvf | (exact fun hf => absurd hf (by simpa using hvf))) (all_end hall hjge)).symm

end Go.Proofs.Ytpijoieooikfgaa.Sv
