/-
  WALKS: printed by a program of our own from the code's tree.
  WALKS: printed by a program of our own from the code's tree.
  WALKS: printed by a program of our own from the code's tree.
  WALKS: printed by a program of our own from the code's tree.
  WALKS: printed by a program of our own from the code's tree.
  WALKS: printed by a program of our own from the code's tree.
  WALKS: printed by a program of our own from the code's tree.
  WALKS: printed by a program of our own from the code's tree.
  WALKS: printed by a program of our own from the code's tree.
-/
import Derived.Test.YtpijoieooikfgaaPValidSpare2
import Derived.Test.YtpijoieooikfgaaPValidSpare3
namespace Go.Proofs.Ytpijoieooikfgaa.Sv
open Go

set_option maxHeartbeats 1000000 in
set_option maxRecDepth 100000 in
theorem stands_ok (f : BFunc) (hn : f.blocks.length ≤ 100000) (hi : ∀ x ∈ f.blocks, x.ins.length ≤ 100000) : APure Try.prog 34 [.agg f.cells] (fun r => r = .bool f.stands) := by
 refine APure.of_body (n := 65) tok Try.func34 rfl rfl ?_
 refine AGo.seq ?_
 refine AGo.region ?_
 refine ax 1 (o_box (sz := 2) 0 rfl rfl rfl rfl (Nat.zero_lt_succ _) rfl) ?_
 refine aa 2 ?_
 refine AOps.nil ?_
 refine AGo.seq ?_
 refine AGo.draw mix ?_
 refine df 9 tok ?_
 refine dl 10 tok ?_
 refine df 11 tok ?_
 refine dl 12 tok ?_
 refine dq 13 (q_len tok rfl rfl rfl rfl rfl) ?_
 refine dx 14 (o_makeSlice tok (n := f.blocks.length) (m := f.blocks.length) 1 true rfl rfl rfl (by simp) (by simp) rfl rfl rfl rfl rfl (Nat.zero_lt_succ _) rfl (Nat.le_refl _) (by show 56 * f.blocks.length ≤ _; omega) (by simp only [maxLen]; omega)) ?_
 refine dq 15 (q_build tok rfl rfl rfl rfl rfl (by decide) rfl rfl rfl) ?_
 refine dx 3 (o_alloc tok 2 rfl rfl rfl rfl (Nat.zero_lt_succ _) rfl) ?_
 refine DOps.w rfl rfl (o_store tok rfl rfl rfl rfl rfl rfl rfl rfl rfl (by decide) rfl (by first | exact fun _ => rfl | (intro h; cases h))) ?_
 refine DOps.nil (by kernel_rfl) ?_
 refine AGo.seq ?_
 refine AGo.seq ?_
 refine AGo.region ?_
 refine af 16 tok ?_
 refine al 17 tok ?_
 refine aq 18 (q_len tok rfl rfl rfl rfl rfl) ?_
 refine am 19 ?_
 refine AOps.nil ?_
 refine AGo.block ?_
 refine AGo.loopD (γ := Nat) 3 (fun k => ⟨65, (eput (eput (eput (eput (eput eNew 1 (.ptr 0 1 0 0)) 3 (.ptr 2 1 0 0)) 17 (blocksAV f.blocks)) 18 (.int .i64 (f.blocks.length : Int))) 19 (.int .i64 (k : Int))), (hput (hput (hput (hFrom 3) 0 (.row false 2 [f.cells])) 1 (.row true 5 ((((f.blocks.map Block.bare).take (k)).map Block.cells) ++ List.replicate (f.blocks.length - (k)) [.nil, .int .i64 0, .int .i64 0, .int .i64 0, .int .i64 0]))) 2 (.row false 2 [[.int .i64 f.regs, .ref 1 f.blocks.length 0 f.blocks.length]]))⟩) (fun k => k ≤ f.blocks.length ∧ (f.blocks.take k).all (fun x => x.ins.all Tac.callOk) = true) (fun k => f.blocks.length - k) 0 (Sub.mk' (by repeat (first | exact ESub.new _ | refine ESub.put ?_ (by first | rfl | exact congrArg (fun (n : Nat) => some (AV.int .i64 (n : Int))) (by simp)))) (by repeat (first | exact HSub.refl _ | exact HSub.none _ | exact HSub.from_new _ | exact HSub.from_from (by first | decide | omega | (dsimp only; omega)) | refine HSub.put ?_ (by rfl) | refine HSub.from_put ?_ (by first | decide | omega | (dsimp only; omega)) | refine HSub.from_rm ?_ (by decide)))) ⟨Nat.zero_le _, rfl⟩ (fun _ => hput_free (hput_free (hput_free (fun b hb => hFrom_free hb) rfl) rfl) rfl) ?_
 intro k ⟨hk, hall⟩
 refine AGo.seq ?_
 refine AGo.region ?_
 refine aq 20 (q_bin rfl rfl rfl rfl) ?_
 refine AOps.nil ?_
 refine AGo.seq ?_
 refine AGo.split 20 rfl (fun hb1 => ?_) (fun hb1 => ?_)
 ·
  refine AGo.cond_true true rfl rfl ?_
  have hkl : k < f.blocks.length := by simpa using hb1
  obtain ⟨x, hx⟩ := get_of_lt hkl
  have hxm := List.mem_of_getElem? hx
  refine AGo.skip ?_
  refine AGo.seq ?_
  refine AGo.block ?_
  refine AGo.seq ?_
  refine AGo.region ?_
  refine am 21 ?_
  refine aq 22 (q_index_lst tok rfl rfl rfl rfl rfl rfl (Int.natCast_nonneg _) (idx_map hx) rfl) ?_
  refine al 23 tok ?_
  refine ax 5 (o_alloc tok 3 rfl rfl rfl rfl (Nat.zero_lt_succ _) rfl) ?_
  refine aa 4 ?_
  refine AOps.w rfl rfl (o_store tok rfl rfl rfl rfl rfl rfl rfl rfl rfl (by decide) rfl (by first | exact fun _ => rfl | (intro h; cases h))) ?_
  refine AOps.nil ?_
  refine AGo.seq ?_
  refine AGo.region ?_
  refine af 24 tok ?_
  refine al 25 tok ?_
  refine aq 26 (q_len tok rfl rfl rfl rfl rfl) ?_
  refine ax 27 (o_makeSlice tok (n := 0) (m := x.ins.length) 4 true rfl rfl rfl (rfl) (by simp) rfl rfl rfl rfl rfl (Nat.zero_lt_succ _) rfl (Nat.zero_le _) (by have := hi x hxm; show 64 * x.ins.length ≤ _; omega) (by have := hi x hxm; simp only [maxLen]; omega)) ?_
  refine aa 6 ?_
  refine AOps.nil ?_
  refine AGo.seq ?_
  refine AGo.seq ?_
  refine AGo.region ?_
  refine af 28 tok ?_
  refine al 29 tok ?_
  refine aq 30 (q_len tok rfl rfl rfl rfl rfl) ?_
  refine am 31 ?_
  refine AOps.nil ?_
  refine AGo.block ?_
  refine AGo.loopD (γ := Nat) 5 (fun j => ⟨65, (eput (eput (eput (eput (eput (eput (eput (eput (eput (eput (eput eNew 1 (.ptr 0 1 0 0)) 3 (.ptr 2 1 0 0)) 17 (blocksAV f.blocks)) 18 (.int .i64 (f.blocks.length : Int))) 19 (.int .i64 (k : Int))) 4 (.int .i64 (k : Int))) 5 (.ptr 3 1 0 0)) 6 (.ref 4 (noCall (x.ins.take j)).length 0 (noCall (x.ins.take j)).length)) 29 (insAV x.ins)) 30 (.int .i64 (x.ins.length : Int))) 31 (.int .i64 (j : Int))), (hput (hput (hput (hput (hput (hFrom 5) 0 (.row false 2 [f.cells])) 1 (.row true 5 ((((f.blocks.map Block.bare).take (k)).map Block.cells) ++ List.replicate (f.blocks.length - (k)) [.nil, .int .i64 0, .int .i64 0, .int .i64 0, .int .i64 0]))) 2 (.row false 2 [[.int .i64 f.regs, .ref 1 f.blocks.length 0 f.blocks.length]])) 3 (.row false 5 [x.cells])) 4 (.row true 8 ((noCall (x.ins.take j)).map Tac.cells)))⟩) (fun j => j ≤ x.ins.length ∧ (x.ins.take j).all Tac.callOk = true) (fun j => x.ins.length - j) 0 (Sub.mk' (by repeat (first | exact ESub.new _ | refine ESub.put ?_ (by first | rfl | exact congrArg (fun (n : Nat) => some (AV.int .i64 (n : Int))) (by simp)))) (by repeat (first | exact HSub.refl _ | exact HSub.none _ | exact HSub.from_new _ | exact HSub.from_from (by first | decide | omega | (dsimp only; omega)) | refine HSub.put ?_ (by rfl) | refine HSub.from_put ?_ (by first | decide | omega | (dsimp only; omega)) | refine HSub.from_rm ?_ (by decide)))) ⟨Nat.zero_le _, rfl⟩ (fun _ => hput_free (hput_free (hput_free (hput_free (hput_free (fun b hb => hFrom_free hb) rfl) rfl) rfl) rfl) rfl) ?_
  intro j ⟨hj, hja⟩
  refine AGo.seq ?_
  refine AGo.region ?_
  refine aq 32 (q_bin rfl rfl rfl rfl) ?_
  refine AOps.nil ?_
  refine AGo.seq ?_
  refine AGo.split 32 rfl (fun hb2 => ?_) (fun hb2 => ?_)
  ·
   refine AGo.cond_true true rfl rfl ?_
   have hjl : j < x.ins.length := by have h := hb2; simp only [List.length_map, decide_eq_true_eq] at h; omega
   obtain ⟨t, ht⟩ := get_of_lt hjl
   refine AGo.skip ?_
   refine AGo.seq ?_
   refine AGo.block ?_
   refine AGo.seq ?_
   refine AGo.region ?_
   refine aq 33 (q_index_lst tok rfl rfl rfl rfl rfl rfl (Int.natCast_nonneg _) (idx_map ht) rfl) ?_
   refine al 34 tok ?_
   refine ax 8 (o_alloc tok 5 rfl rfl rfl rfl (Nat.zero_lt_succ _) rfl) ?_
   refine AOps.w rfl rfl (o_store tok rfl rfl rfl rfl rfl rfl rfl rfl rfl (by decide) rfl (by first | exact fun _ => rfl | (intro h; cases h))) ?_
   refine AOps.nil ?_
   refine AGo.seq ?_
   refine AGo.seq ?_
   refine AGo.region ?_
   skip
   refine af 35 tok ?_
   refine al 36 tok ?_
   refine aq 37 (q_bin rfl rfl rfl rfl) ?_
   refine AOps.nil ?_
   refine AGo.split 37 rfl (fun hb3 => ?_) (fun hb3 => ?_)
   ·
    refine AGo.cond_true true rfl rfl ?_
    have h10 : (t.op != 10) = true := hb3
    have hnc := noCall_yes ht h10
    have hok := callOk_no h10
    refine AGo.seq ?_
    refine AGo.region ?_
    refine am 38 ?_
    refine al 39 tok ?_
    refine ax 40 (o_lit' tok rfl rfl rfl rfl rfl rfl (by decide) rfl rfl rfl rfl rfl rfl) ?_
    refine ax 41 (o_append tok (n := (noCall (x.ins.take j)).length) (m := 1) rfl rfl rfl rfl rfl rfl rfl rfl rfl (by rw [List.length_map]) rfl rfl (Nat.zero_lt_succ _) (.lst _ _) (by intro cs h; simp [partVals] at h; subst h; rfl) (fun _ cs h => by simp [partVals] at h; subst h; rfl) rfl (by have h1 := noCall_take x.ins j; have h2 := hi x hxm; simp [partVals]; omega) (by have h1 := noCall_take x.ins j; have h2 := hi x hxm; simp [partVals]; simp only [maxLen]; omega)) ?_
    refine aa 6 ?_
    refine AOps.nil ?_
    refine AGo.exit ?_
    refine AGo.region ?_
    refine aq 52 (q_inc rfl rfl hjl (by have := hi x hxm; simp only [maxLen]; omega)) ?_
    refine am 31 ?_
    refine AOps.nil ?_
    exact ⟨j+1, Drop.mk' (by repeat (first | exact EDrop.new _ _ | refine EDrop.put ?_ (by first | rfl | (rw [hnc]; rfl) | (rw [hnc, List.length_append]; rfl) | exact congrArg (fun n : Nat => some (AV.ref 4 n 0 n)) (by rw [hnc]; simp [partVals])) (by first | rfl | exact slA_avoid _ rfl | exact vaA_avoid _ rfl))) (by repeat (first | exact HDrop.none _ _ | exact HDrop.tail _ _ | refine HDrop.put ?_ (by first | rfl | (rw [hnc]; rfl) | (rw [hnc, List.map_append]; rfl)) rfl (by first | rfl | exact slO_avoid _ _ | exact vaO_avoid _ | exact tab_avoid _ _ rfl rfl | exact wlk_avoid _ _ _ rfl rfl rfl))), ⟨hjl, all_succ ht hja (by first | exact hok | exact callOk_yes h10 hb0 (ndec_same hgood))⟩, by omega⟩
   ·
    refine AGo.cond_false false rfl rfl ?_
    have h10 : (t.op != 10) = false := hb3
    have hnc := noCall_no ht h10
    refine AGo.skip ?_
    refine AGo.seq ?_
    refine AGo.region ?_
    refine af 42 tok ?_
    refine al 43 tok ?_
    refine aq 44 (q_bin rfl rfl rfl rfl) ?_
    refine am 45 ?_
    refine AOps.split 45 rfl (fun hb4 => ?_) (fun hb4 => ?_)
    ·
     refine ak 46 ?_
     refine ak 47 ?_
     refine ak 48 ?_
     refine ak 49 ?_
     refine ak 50 ?_
     refine aq 51 (q_pick_true true rfl rfl rfl rfl) ?_
     refine AOps.nil ?_
     refine AGo.cond_true true rfl rfl ?_
     have hbad := hb4
     refine AGo.seq ?_
     refine AGo.region ?_
     refine aa 2 ?_
     refine AOps.nil ?_
     refine AGo.ret ?_
     refine ⟨[_], ⟨rfl, trivial⟩, ?_, rfl⟩
     show AV.bool _ = AV.bool _
     congr 1
     exact (stands_bad hx ht (by first | exact callOk_bad1 h10 hbad | exact callOk_bad2 h10 (ndec_same' hbad))).symm
    ·
     have hb0 := hb4
     refine al 46 tok ?_
     refine af 47 tok ?_
     refine al 48 tok ?_
     refine aq 49 (q_build tok rfl rfl rfl rfl rfl (by decide) rfl rfl rfl) ?_
     refine aq 50 (q_eqStruct tok true rfl rfl rfl (by kernel_rfl) rfl rfl rfl rfl rfl) ?_
     refine aq 51 (q_pick_false false rfl rfl rfl rfl) ?_
     refine AOps.nil ?_
     refine AGo.split 51 rfl (fun hb5 => ?_) (fun hb5 => ?_)
     ·
      refine AGo.cond_true true rfl rfl ?_
      have hbad := hb5
      refine AGo.seq ?_
      refine AGo.region ?_
      refine aa 2 ?_
      refine AOps.nil ?_
      refine AGo.ret ?_
      refine ⟨[_], ⟨rfl, trivial⟩, ?_, rfl⟩
      show AV.bool _ = AV.bool _
      congr 1
      exact (stands_bad hx ht (by first | exact callOk_bad1 h10 hbad | exact callOk_bad2 h10 (ndec_same' hbad))).symm
     ·
      refine AGo.cond_false false rfl rfl ?_
      have hgood := hb5
      refine AGo.skip ?_
      refine AGo.region ?_
      refine aq 52 (q_inc rfl rfl hjl (by have := hi x hxm; simp only [maxLen]; omega)) ?_
      refine am 31 ?_
      refine AOps.nil ?_
      exact ⟨j+1, Drop.mk' (by repeat (first | exact EDrop.new _ _ | refine EDrop.put ?_ (by first | rfl | (rw [hnc]; rfl) | (rw [hnc, List.length_append]; rfl) | exact congrArg (fun n : Nat => some (AV.ref 4 n 0 n)) (by rw [hnc]; simp [partVals])) (by first | rfl | exact slA_avoid _ rfl | exact vaA_avoid _ rfl))) (by repeat (first | exact HDrop.none _ _ | exact HDrop.tail _ _ | refine HDrop.put ?_ (by first | rfl | (rw [hnc]; rfl) | (rw [hnc, List.map_append]; rfl)) rfl (by first | rfl | exact slO_avoid _ _ | exact vaO_avoid _ | exact tab_avoid _ _ rfl rfl | exact wlk_avoid _ _ _ rfl rfl rfl))), ⟨hjl, all_succ ht hja (by first | exact hok | exact callOk_yes h10 hb0 (ndec_same hgood))⟩, by omega⟩
  ·
   refine AGo.cond_false false rfl rfl ?_
   have hjge : x.ins.length ≤ j := by have h := hb2; simp only [List.length_map, decide_eq_false_iff_not] at h; omega
   refine AGo.exit ?_
   refine AGo.seq ?_
   refine AGo.ghost (.freezeAll0 6 4 rfl rfl (by rw [List.length_map])) ?_
   rw [List.take_of_length_le hjge]
   refine AGo.region ?_
   refine am 53 ?_
   refine af 54 tok ?_
   refine AOps.w rfl rfl (o_store tok rfl rfl rfl rfl rfl rfl rfl rfl rfl (by decide) rfl (by first | exact fun _ => rfl | (intro h; cases h))) ?_
   refine AOps.nil ?_
   refine AGo.region ?_
   refine af 55 tok ?_
   refine al 56 tok ?_
   refine am 57 ?_
   refine al 58 tok ?_
   refine aq 59 (q_index_ref tok rfl rfl rfl rfl rfl rfl rfl (fill_len (by simp : (f.blocks.map Block.bare).length = f.blocks.length) (Nat.le_of_lt hkl)) rfl (Int.natCast_nonneg _) (by omega)) ?_
   refine AOps.w rfl rfl (o_store tok rfl rfl rfl rfl rfl rfl (fill_len (by simp : (f.blocks.map Block.bare).length = f.blocks.length) (Nat.le_of_lt hkl)) (fill_get (by simp : (f.blocks.map Block.bare).length = f.blocks.length) hkl) rfl (by decide) rfl (by first | exact fun _ => rfl | (intro h; cases h))) ?_
   refine AOps.nil ?_
   refine AGo.region ?_
   refine aq 60 (q_inc rfl rfl hkl (show f.blocks.length ≤ maxLen by simp only [maxLen]; omega)) ?_
   refine am 19 ?_
   refine AOps.nil ?_
   exact ⟨k+1, Drop.mk' (by repeat (first | exact EDrop.new _ _ | refine EDrop.put ?_ (by rfl) (by first | rfl | exact slA_avoid _ rfl | exact vaA_avoid _ rfl))) (by repeat (first | exact HDrop.none _ _ | exact HDrop.tail _ _ | refine HDrop.put ?_ (by first | rfl | exact congrArg (fun es => some (AObj.row true 5 es)) (fill_put (f := Block.cells) (x := x.bare) (by simp : (f.blocks.map Block.bare).length = f.blocks.length) (bare_get hx))) rfl (by first | rfl | exact slO_avoid _ _ | exact vaO_avoid _ | exact tab_avoid _ _ rfl rfl | exact wlk_avoid _ _ _ rfl rfl rfl))), ⟨hkl, all_succ hx hall (all_end hja hjge)⟩, by omega⟩
 ·
  refine AGo.cond_false false rfl rfl ?_
  have hge : f.blocks.length ≤ k := by simpa using hb1
  refine AGo.exit ?_
  refine AGo.seq ?_
  refine AGo.ghost (.freezeCell 2 0 1 1 rfl rfl rfl rfl (fill_len (by simp : (f.blocks.map Block.bare).length = f.blocks.length) hk) (by decide)) ?_
  rw [fill_end (by simp : (f.blocks.map Block.bare).length = f.blocks.length) hge]
  refine AGo.region ?_
  refine al 61 tok ?_
  refine ax 62 (o_lit' tok rfl rfl rfl rfl rfl rfl (by decide) rfl rfl rfl rfl rfl rfl) ?_
  refine aq 63 (q_build tok rfl rfl rfl rfl rfl (by decide) rfl rfl rfl) ?_
  refine ax 64 (o_pure rfl Try.func44 (by kernel_rfl) rfl rfl rfl (bright_ok (Blocks.mk 1048576 [f.bare]))) ?_
  refine aa 2 ?_
  refine AOps.nil ?_
  refine AGo.ret ?_
  refine ⟨[_], ⟨rfl, trivial⟩, ?_, rfl⟩
  show AV.bool _ = AV.bool _
  congr 1
  exact (stands_all (all_end hall hge)).symm

end Go.Proofs.Ytpijoieooikfgaa.Sv

namespace Go.Proofs.Ytpijoieooikfgaa.Sv
open Go

set_option maxHeartbeats 1000000 in
set_option maxRecDepth 100000 in
theorem effs_ok (E1 E2 : List (List Int)) (h1 : ∀ x ∈ E1, x.length = 6) (h2 : ∀ x ∈ E2, x.length = 6) (hl : E1.length ≤ 100000) : ACall Try.prog 36 [slA 10 ((E1).map (arrAV .i64)), slA 11 ((E2).map (arrAV .i64))] (hput (hput hNew 10 (slO 6 ((E1).map (arrAV .i64)))) 11 (slO 6 ((E2).map (arrAV .i64)))) (fun r h' => r = .bool (decide (E1 = E2)) ∧ HSub (hput (hput hNone 10 (slO 6 ((E1).map (arrAV .i64)))) 11 (slO 6 ((E2).map (arrAV .i64)))) h') := by
 refine ACall.of_body (n := 26) tok Try.func36 rfl rfl ?_
 refine AGo.seq ?_
 refine AGo.region ?_
 refine aa 4 ?_
 refine AOps.nil ?_
 refine AGo.seq ?_
 refine AGo.seq ?_
 refine AGo.region ?_
 refine am 6 ?_
 refine aq 7 (q_lenJ tok rfl rfl rfl rfl) ?_
 refine am 8 ?_
 refine aq 9 (q_lenJ tok rfl rfl rfl rfl) ?_
 refine aq 10 (q_bin rfl rfl rfl rfl) ?_
 refine AOps.nil ?_
 refine AGo.split 10 rfl (fun hb1 => ?_) (fun hb1 => ?_)
 ·
  refine AGo.cond_true true rfl rfl ?_
  have hne : E1.length ≠ E2.length := by have h := hb1; simp only [List.length_map, bne_iff_ne, ne_eq, Int.natCast_inj] at h; exact h
  refine AGo.seq ?_
  refine AGo.region ?_
  refine aa 4 ?_
  refine AOps.nil ?_
  refine AGo.ret ?_
  refine ⟨[_], ⟨rfl, trivial⟩, ?_, HSub.put (HSub.put (HSub.none _) rfl) rfl⟩
  show AV.bool _ = AV.bool _
  congr 1
  exact (decide_eq_false (fun e => hne (by rw [e]))).symm
 ·
  refine AGo.cond_false false rfl rfl ?_
  have hel : E1.length = E2.length := by have h := hb1; simp only [List.length_map, bne_eq_false_iff_eq, Int.natCast_inj] at h; exact h
  refine AGo.skip ?_
  refine AGo.seq ?_
  refine AGo.seq ?_
  refine AGo.region ?_
  refine am 11 ?_
  refine aq 12 (q_lenJ tok rfl rfl rfl rfl) ?_
  refine am 13 ?_
  refine AOps.nil ?_
  refine AGo.block ?_
  refine AGo.loopD (γ := Nat) 12 (fun k => ⟨26, (eput (eput (eput (eput eNew 0 (slA 10 ((E1).map (arrAV .i64)))) 1 (slA 11 ((E2).map (arrAV .i64)))) 12 (.int .i64 (((E1).map (arrAV .i64)).length : Int))) 13 (.int .i64 (k : Int))), (hput (hput (hFrom 12) 10 (slO 6 ((E1).map (arrAV .i64)))) 11 (slO 6 ((E2).map (arrAV .i64))))⟩) (fun k => k ≤ E1.length ∧ E1.take k = E2.take k) (fun k => E1.length - k) 0 (Sub.mk' (by repeat (first | exact ESub.new _ | refine ESub.put ?_ (by rfl))) (by repeat (first | exact HSub.refl _ | exact HSub.none _ | exact HSub.from_new _ | exact HSub.from_from (by first | decide | omega | (dsimp only; omega)) | refine HSub.put ?_ (by rfl) | refine HSub.from_put ?_ (by first | decide | omega | (dsimp only; omega)) | refine HSub.from_rm ?_ (by decide)))) ⟨Nat.zero_le _, rfl⟩ (fun _ => hput_free (hput_free (fun b hb => hFrom_free hb) rfl) rfl) ?_
  intro k ⟨hk, htk⟩
  refine AGo.seq ?_
  refine AGo.region ?_
  refine aq 14 (q_bin rfl rfl rfl rfl) ?_
  refine AOps.nil ?_
  refine AGo.seq ?_
  refine AGo.split 14 rfl (fun hb2 => ?_) (fun hb2 => ?_)
  ·
   refine AGo.cond_true true rfl rfl ?_
   have hkl : k < E1.length := by have h := hb2; simp only [List.length_map, decide_eq_true_eq] at h; omega
   obtain ⟨x, hx⟩ := get_of_lt hkl
   obtain ⟨y, hy⟩ := get_of_lt (l := E2) (k := k) (by omega)
   refine AGo.skip ?_
   refine AGo.seq ?_
   refine AGo.block ?_
   refine AGo.seq ?_
   refine AGo.region ?_
   refine am 15 ?_
   refine aa 5 ?_
   refine AOps.nil ?_
   refine AGo.seq ?_
   refine AGo.draw mix ?_
   refine dm 16 ?_
   refine dm 17 ?_
   refine dq 18 (q_indexJ tok rfl rfl rfl rfl rfl rfl rfl rfl (Int.natCast_nonneg _) (by rw [List.length_map]; omega)) ?_
   refine dq 19 (q_load tok rfl rfl rfl (ptsJ rfl (arr_get hx)) (load_arr rfl (by rw [h1 _ (List.mem_of_getElem? hx)]))) ?_
   refine dm 20 ?_
   refine dm 21 ?_
   refine dq 22 (q_indexJ tok rfl rfl rfl rfl rfl rfl rfl rfl (Int.natCast_nonneg _) (by rw [List.length_map]; omega)) ?_
   refine dq 23 (q_load tok rfl rfl rfl (ptsJ rfl (arr_get hy)) (load_arr rfl (by rw [h2 _ (List.mem_of_getElem? hy)]))) ?_
   refine dq 24 (q_eqInts tok (K := .i64) (l1 := x) (l2 := y) true rfl rfl rfl (by kernel_rfl) rfl rfl rfl rfl (by rw [h1 _ (List.mem_of_getElem? hx)]) (by rw [h2 _ (List.mem_of_getElem? hy)]) (by kernel_rfl)) ?_
   refine DOps.nil (by kernel_rfl) ?_
   refine AGo.split 24 rfl (fun hb3 => ?_) (fun hb3 => ?_)
   ·
    refine AGo.cond_true true rfl rfl ?_
    have hxy : ¬ x = y := by have h := hb3; simpa using h
    refine AGo.seq ?_
    refine AGo.region ?_
    refine aa 4 ?_
    refine AOps.nil ?_
    refine AGo.ret ?_
    refine ⟨[_], ⟨rfl, trivial⟩, ?_, HSub.put (HSub.put (HSub.none _) rfl) rfl⟩
    show AV.bool _ = AV.bool _
    congr 1
    exact (decide_eq_false (fun e => by subst e; rw [hx] at hy; exact hxy (Option.some.inj hy))).symm
   ·
    refine AGo.cond_false false rfl rfl ?_
    have hxy : x = y := by have h := hb3; simpa using h
    subst hxy
    refine AGo.skip ?_
    refine AGo.region ?_
    refine aq 25 (q_inc rfl rfl hkl (by simp only [maxLen]; omega)) ?_
    refine am 13 ?_
    refine AOps.nil ?_
    exact ⟨k+1, Drop.mk' (by repeat (first | exact EDrop.new _ _ | refine EDrop.put ?_ (by rfl) (by first | rfl | exact slA_avoid _ rfl | exact vaA_avoid _ rfl))) (by repeat (first | exact HDrop.none _ _ | exact HDrop.tail _ _ | refine HDrop.put ?_ (by rfl) rfl (by first | rfl | exact slO_avoid _ _ | exact vaO_avoid _ | exact tab_avoid _ _ rfl rfl | exact wlk_avoid _ _ _ rfl rfl rfl))), ⟨hkl, take_eq_succ htk hx hy⟩, by omega⟩
  ·
   refine AGo.cond_false false rfl rfl ?_
   have hge : E1.length ≤ k := by have h := hb2; simp only [List.length_map, decide_eq_false_iff_not] at h; omega
   refine AGo.exit ?_
   refine AGo.seq ?_
   refine AGo.region ?_
   refine aa 4 ?_
   refine AOps.nil ?_
   refine AGo.ret ?_
   refine ⟨[_], ⟨rfl, trivial⟩, ?_, HSub.put (HSub.put (HSub.none _) rfl) rfl⟩
   show AV.bool _ = AV.bool _
   congr 1
   exact (decide_eq_true (take_all htk hge (by omega))).symm

end Go.Proofs.Ytpijoieooikfgaa.Sv

namespace Go.Proofs.Ytpijoieooikfgaa.Sv
open Go

set_option maxHeartbeats 1000000 in
set_option maxRecDepth 100000 in
theorem number_ok (first : Int) (K : List (List Int)) (hf : 0 ≤ first ∧ first ≤ 100000) (h4 : ∀ k ∈ K, k.length = 4) (hK : K.length ≤ 100000) (a b c d : Int) : ACall Try.prog 45 [.ptr 4 1 0 0, .agg [.int .i64 a, .int .i64 b, .int .i64 c, .int .i64 d]] (hput (hput (hput hNew 3 (.map (kvsA .i64 (vmap first (K))))) 4 (.row false 3 [[.int .i64 first, .map 3, slA 9 ((K).map (arrAV .i64))]])) 9 (slO 4 ((K).map (arrAV .i64)))) (fun r h' => r = .int .i64 (vnum first K [a, b, c, d]).1 ∧ HSub (hput (hput (hput hNone 3 (.map (kvsA .i64 (vmap first ((vnum first K [a, b, c, d]).2))))) 4 (.row false 3 [[.int .i64 first, .map 3, slA 9 (((vnum first K [a, b, c, d]).2).map (arrAV .i64))]])) 9 (slO 4 (((vnum first K [a, b, c, d]).2).map (arrAV .i64)))) h') := by
 refine ACall.of_body (n := 45) tok Try.func45 rfl rfl ?_
 refine AGo.seq ?_
 refine AGo.region ?_
 refine ax 3 (o_box (sz := 4) 12 rfl rfl rfl rfl (Nat.zero_lt_succ _) rfl) ?_
 refine aa 4 ?_
 refine AOps.nil ?_
 refine AGo.seq ?_
 refine AGo.draw mix ?_
 refine dm 8 ?_
 refine dq 9 (q_nilCheck rfl rfl rfl) ?_
 refine df 10 tok ?_
 refine dl 11 tok ?_
 refine dl 12 tok ?_
 refine dq 13 (q_lookupOkA tok (z := [a, b, c, d]) (m := vmap first K) (n := 4) (zv := .int .i64 0) rfl rfl rfl rfl rfl rfl rfl rfl rfl rfl (by kernel_rfl) rfl (vmap_keys h4) (by kernel_rfl) rfl) ?_
 refine dm 7 ?_
 refine dq 14 (q_extract rfl rfl rfl) ?_
 refine dq 15 (q_extract rfl rfl rfl) ?_
 refine da 5 ?_
 refine da 6 ?_
 refine DOps.nil (by kernel_rfl) ?_
 refine AGo.seq ?_
 refine AGo.seq ?_
 refine AGo.region ?_
 refine am 16 ?_
 refine aq 17 (q_not rfl rfl) ?_
 refine AOps.nil ?_
 refine AGo.split 17 rfl (fun hb1 => ?_) (fun hb1 => ?_)
 ·
  refine AGo.cond_true true rfl rfl ?_
  have hn : kidx [a, b, c, d] K = none := vnone (hb1)
  refine AGo.seq ?_
  refine AGo.draw mix ?_
  refine dm 18 ?_
  refine dq 19 (q_nilCheck rfl rfl rfl) ?_
  refine df 20 tok ?_
  refine dl 21 tok ?_
  refine dm 22 ?_
  refine dq 23 (q_nilCheck rfl rfl rfl) ?_
  refine df 24 tok ?_
  refine dl 25 tok ?_
  refine dq 26 (q_lenJ tok rfl rfl rfl rfl) ?_
  refine dq 27 (q_bin (r := .int .i64 (first + (K.length : Int))) rfl rfl rfl (by rw [List.length_map]; exact addZ (by omega) (by omega) rfl)) ?_
  refine da 5 ?_
  refine DOps.nil (by kernel_rfl) ?_
  refine AGo.seq ?_
  refine AGo.draw mix ?_
  refine dm 28 ?_
  refine dq 29 (q_nilCheck rfl rfl rfl) ?_
  refine df 30 tok ?_
  refine dl 31 tok ?_
  refine dl 32 tok ?_
  refine dm 33 ?_
  refine DOps.w rfl rfl (o_mapUpdateA tok (z := [a, b, c, d]) (m := vmap first K) (n := 4) rfl rfl rfl rfl rfl rfl rfl rfl rfl rfl rfl rfl rfl (by kernel_rfl) rfl (vmap_keys h4)) ?_
  refine DOps.nil (by kernel_rfl) ?_
  refine AGo.draw mix ?_
  refine dm 34 ?_
  refine dm 35 ?_
  refine dq 36 (q_nilCheck rfl rfl rfl) ?_
  refine df 37 tok ?_
  refine dl 38 tok ?_
  refine dl 39 tok ?_
  refine dx 40 (o_lit' tok rfl rfl rfl rfl rfl rfl (by decide) rfl rfl rfl rfl rfl rfl) ?_
  refine dx 41 (o_append1J tok (b := 9) (es := ((K).map (arrAV .i64))) rfl rfl rfl rfl rfl rfl rfl rfl rfl rfl rfl (Nat.zero_lt_succ _) (arr_len h4) (arr_pure _) rfl rfl (by rw [List.length_map]; show _ * 32 ≤ _; omega) (by rw [List.length_map]; simp only [maxLen]; omega)) ?_
  refine dq 42 (q_nilCheck rfl rfl rfl) ?_
  refine df 43 tok ?_
  refine DOps.w rfl rfl (o_store1 tok rfl rfl rfl rfl rfl rfl rfl rfl rfl (slA_cells _ _) (by decide) (slA_cell1 _ _) (by intro h; cases h)) ?_
  refine DOps.nil (by kernel_rfl) ?_
  refine AGo.seq ?_
  refine AGo.region ?_
  refine am 44 ?_
  refine aa 4 ?_
  refine AOps.nil ?_
  refine AGo.ret ?_
  refine ⟨[_], ⟨rfl, trivial⟩, ?_, ?_⟩
  · first
    | (rw [vnum_new hn]; rfl)
    | (rw [vnum_old hi]; exact (by rw [vmap_get, hi]; rfl))
  · first
    | (rw [vnum_new hn]; exact HSub.put (HSub.put (HSub.put (HSub.none _) (by dsimp only; rw [← vmap_set hn]; rfl)) (by dsimp only; rw [List.map_append]; rfl)) (by dsimp only; rw [List.map_append]; rfl))
    | (rw [vnum_old hi]; exact HSub.put (HSub.put (HSub.put (HSub.none _) rfl) rfl) rfl)
 ·
  refine AGo.cond_false false rfl rfl ?_
  obtain ⟨i, hi⟩ : ∃ i, kidx [a, b, c, d] K = some i := vsome (hb1)
  refine AGo.skip ?_
  refine AGo.seq ?_
  refine AGo.region ?_
  refine am 44 ?_
  refine aa 4 ?_
  refine AOps.nil ?_
  refine AGo.ret ?_
  refine ⟨[_], ⟨rfl, trivial⟩, ?_, ?_⟩
  · first
    | (rw [vnum_new hn]; rfl)
    | (rw [vnum_old hi]; exact (by rw [vmap_get, hi]; rfl))
  · first
    | (rw [vnum_new hn]; exact HSub.put (HSub.put (HSub.put (HSub.none _) (by dsimp only; rw [← vmap_set hn]; rfl)) (by dsimp only; rw [List.map_append]; rfl)) (by dsimp only; rw [List.map_append]; rfl))
    | (rw [vnum_old hi]; exact HSub.put (HSub.put (HSub.put (HSub.none _) rfl) rfl) rfl)

end Go.Proofs.Ytpijoieooikfgaa.Sv

namespace Go.Proofs.Ytpijoieooikfgaa.Sv
open Go

set_option maxRecDepth 100000 in
theorem divide_ok (op a b : Int) (hb : 0 ≤ b) : APure Try.prog 71 [.int .i64 op, .int .u32 a, .int .u32 b] (fun r => r = wpair (wdivide op a b)) := by
 refine APure.of_body (n := 18) tok Try.func71 rfl rfl ?_
 refine AGo.seq ?_
 refine AGo.region ?_
 refine aa 6 ?_
 refine aa 7 ?_
 refine AOps.nil ?_
 refine AGo.seq ?_
 refine AGo.seq ?_
 refine AGo.region ?_
 refine am 8 ?_
 refine aq 9 (q_bin rfl rfl rfl rfl) ?_
 refine AOps.nil ?_
 refine AGo.split 9 rfl (fun hb1 => ?_) (fun hb1 => ?_)
 ·
  refine AGo.cond_true true rfl rfl ?_
  refine AGo.seq ?_
  refine AGo.region ?_
  refine aa 6 ?_
  refine aa 7 ?_
  refine AOps.nil ?_
  refine AGo.ret ?_
  refine ⟨[_, _], ⟨rfl, rfl, trivial⟩, ?_, rfl⟩
  show AV.tup _ = AV.tup _
  simp [wdivide, *]
 ·
  refine AGo.cond_false false rfl rfl ?_
  have hb0 : ¬ b = 0 := by simpa using hb1
  refine AGo.skip ?_
  refine AGo.seq ?_
  refine AGo.seq ?_
  refine AGo.region ?_
  refine am 10 ?_
  refine aq 11 (q_bin rfl rfl rfl rfl) ?_
  refine AOps.nil ?_
  refine AGo.split 11 rfl (fun hb2 => ?_) (fun hb2 => ?_)
  ·
   refine AGo.cond_true true rfl rfl ?_
   refine AGo.seq ?_
   refine AGo.region ?_
   refine am 12 ?_
   refine am 13 ?_
   refine aq 14 (q_bin (r := .int .u32 (IntKind.u32.wrap (a.tdiv b))) rfl rfl rfl (by simp [evalBin, evalInt, isShift, hb0])) ?_
   refine aa 6 ?_
   refine aa 7 ?_
   refine AOps.nil ?_
   refine AGo.ret ?_
   refine ⟨[_, _], ⟨rfl, rfl, trivial⟩, ?_, rfl⟩
   show AV.tup _ = AV.tup _
   simp [wdivide, *]
  ·
   refine AGo.cond_false false rfl rfl ?_
   refine AGo.skip ?_
   refine AGo.seq ?_
   refine AGo.region ?_
   refine am 15 ?_
   refine am 16 ?_
   refine aq 17 (q_bin (r := .int .u32 (a.tmod b)) rfl rfl rfl (by simp [evalBin, evalInt, isShift, hb0])) ?_
   refine aa 6 ?_
   refine aa 7 ?_
   refine AOps.nil ?_
   refine AGo.ret ?_
   refine ⟨[_, _], ⟨rfl, rfl, trivial⟩, ?_, rfl⟩
   show AV.tup _ = AV.tup _
   simp [wdivide, *]

set_option maxRecDepth 100000 in
theorem shift_ok (op a b : Int) (hb : 0 ≤ b) : APure Try.prog 72 [.int .i64 op, .int .u32 a, .int .u32 b] (fun r => r = .int .u32 (wshift op a b)) := by
 refine APure.of_body (n := 19) tok Try.func72 rfl rfl ?_
 refine AGo.seq ?_
 refine AGo.region ?_
 refine aa 6 ?_
 refine AOps.nil ?_
 refine AGo.seq ?_
 refine AGo.block ?_
 refine AGo.seq ?_
 refine AGo.region ?_
 refine am 8 ?_
 refine aq 9 (q_bin rfl rfl rfl rfl) ?_
 refine aa 7 ?_
 refine AOps.nil ?_
 refine AGo.split 7 rfl (fun hb1 => ?_) (fun hb1 => ?_)
 ·
  refine AGo.cond_true true rfl rfl ?_
  refine AGo.seq ?_
  refine AGo.region ?_
  refine aa 6 ?_
  refine AOps.nil ?_
  refine AGo.ret ?_
  refine ⟨[_], ⟨rfl, trivial⟩, ?_, rfl⟩
  show AV.int .u32 _ = AV.int .u32 _
  simp only [wshift, *, cond_true, cond_false]
 ·
  refine AGo.cond_false false rfl rfl ?_
  refine AGo.seq ?_
  refine AGo.region ?_
  refine am 11 ?_
  refine aq 12 (q_bin rfl rfl rfl rfl) ?_
  refine aa 10 ?_
  refine AOps.nil ?_
  refine AGo.split 10 rfl (fun hb2 => ?_) (fun hb2 => ?_)
  ·
   refine AGo.cond_true true rfl rfl ?_
   refine AGo.seq ?_
   refine AGo.region ?_
   refine am 13 ?_
   refine am 14 ?_
   refine aq 15 (q_bin (r := .int .u32 (IntKind.u32.wrap (a * 2 ^ (min b.toNat IntKind.u32.bits)))) rfl rfl rfl (by simp only [evalBin, evalInt, isShift, cond_true, if_neg (show ¬ b < 0 by omega)])) ?_
   refine aa 6 ?_
   refine AOps.nil ?_
   refine AGo.ret ?_
   refine ⟨[_], ⟨rfl, trivial⟩, ?_, rfl⟩
   show AV.int .u32 _ = AV.int .u32 _
   simp only [wshift, *, cond_true, cond_false]
  ·
   refine AGo.cond_false false rfl rfl ?_
   refine AGo.skip ?_
   refine AGo.seq ?_
   refine AGo.region ?_
   refine am 16 ?_
   refine am 17 ?_
   refine aq 18 (q_bin (r := .int .u32 (a.fdiv (2 ^ (min b.toNat IntKind.u32.bits)))) rfl rfl rfl (by simp only [evalBin, evalInt, isShift, cond_true, if_neg (show ¬ b < 0 by omega)])) ?_
   refine aa 6 ?_
   refine AOps.nil ?_
   refine AGo.ret ?_
   refine ⟨[_], ⟨rfl, trivial⟩, ?_, rfl⟩
   show AV.int .u32 _ = AV.int .u32 _
   simp only [wshift, *, cond_true, cond_false]

set_option maxRecDepth 100000 in
theorem compare_ok (op a b : Int) (hb : 0 ≤ b) : APure Try.prog 73 [.int .i64 op, .int .u32 a, .int .u32 b] (fun r => r = .int .u32 (wcompare op a b)) := by
 refine APure.of_body (n := 23) tok Try.func73 rfl rfl ?_
 refine AGo.seq ?_
 refine AGo.region ?_
 refine aa 6 ?_
 refine AOps.nil ?_
 refine AGo.seq ?_
 refine AGo.block ?_
 refine AGo.seq ?_
 refine AGo.block ?_
 refine AGo.block ?_
 refine AGo.seq ?_
 refine AGo.seq ?_
 refine AGo.seq ?_
 refine AGo.region ?_
 refine am 8 ?_
 refine aq 9 (q_bin rfl rfl rfl rfl) ?_
 refine am 10 ?_
 refine AOps.split 10 rfl (fun hb1 => ?_) (fun hb1 => ?_)
 ·
  refine am 11 ?_
  refine am 12 ?_
  refine aq 13 (q_bin rfl rfl rfl rfl) ?_
  refine aq 14 (q_pick_true true rfl rfl rfl rfl) ?_
  refine aa 7 ?_
  refine AOps.nil ?_
  refine AGo.split 7 rfl (fun hb2 => ?_) (fun hb2 => ?_)
  ·
   refine AGo.cond_true true rfl rfl ?_
   refine AGo.exit ?_
   refine AGo.seq ?_
   refine AGo.seq ?_
   refine AGo.region ?_
   refine aa 6 ?_
   refine AOps.nil ?_
   refine AGo.ret ?_
   refine ⟨[_], ⟨rfl, trivial⟩, ?_, rfl⟩
   show AV.int .u32 _ = AV.int .u32 _
   simp [wcompare, *]
  ·
   refine AGo.cond_false false rfl rfl ?_
   refine AGo.skip ?_
   refine AGo.seq ?_
   refine AGo.region ?_
   refine am 16 ?_
   refine aq 17 (q_bin rfl rfl rfl rfl) ?_
   refine am 18 ?_
   refine AOps.split 18 rfl (fun hb3 => ?_) (fun hb3 => ?_)
   ·
    refine am 19 ?_
    refine am 20 ?_
    refine aq 21 (q_bin rfl rfl rfl rfl) ?_
    refine aq 22 (q_pick_true true rfl rfl rfl rfl) ?_
    refine aa 15 ?_
    refine AOps.nil ?_
    refine AGo.split 15 rfl (fun hb4 => ?_) (fun hb4 => ?_)
    ·
     refine AGo.cond_true true rfl rfl ?_
     refine AGo.exit ?_
     refine AGo.seq ?_
     refine AGo.seq ?_
     refine AGo.region ?_
     refine aa 6 ?_
     refine AOps.nil ?_
     refine AGo.ret ?_
     refine ⟨[_], ⟨rfl, trivial⟩, ?_, rfl⟩
     show AV.int .u32 _ = AV.int .u32 _
     simp [wcompare, *]
    ·
     refine AGo.cond_false false rfl rfl ?_
     refine AGo.skip ?_
     refine AGo.exit ?_
     refine AGo.seq ?_
     refine AGo.region ?_
     refine aa 6 ?_
     refine AOps.nil ?_
     refine AGo.ret ?_
     refine ⟨[_], ⟨rfl, trivial⟩, ?_, rfl⟩
     show AV.int .u32 _ = AV.int .u32 _
     simp [wcompare, *]
   ·
    refine ak 19 ?_
    refine ak 20 ?_
    refine ak 21 ?_
    refine aq 22 (q_pick_false false rfl rfl rfl rfl) ?_
    refine aa 15 ?_
    refine AOps.nil ?_
    refine AGo.cond_false false rfl rfl ?_
    refine AGo.skip ?_
    refine AGo.exit ?_
    refine AGo.seq ?_
    refine AGo.region ?_
    refine aa 6 ?_
    refine AOps.nil ?_
    refine AGo.ret ?_
    refine ⟨[_], ⟨rfl, trivial⟩, ?_, rfl⟩
    show AV.int .u32 _ = AV.int .u32 _
    simp [wcompare, *]
 ·
  refine ak 11 ?_
  refine ak 12 ?_
  refine ak 13 ?_
  refine aq 14 (q_pick_false false rfl rfl rfl rfl) ?_
  refine aa 7 ?_
  refine AOps.nil ?_
  refine AGo.cond_false false rfl rfl ?_
  refine AGo.skip ?_
  refine AGo.seq ?_
  refine AGo.region ?_
  refine am 16 ?_
  refine aq 17 (q_bin rfl rfl rfl rfl) ?_
  refine am 18 ?_
  refine AOps.split 18 rfl (fun hb5 => ?_) (fun hb5 => ?_)
  ·
   refine am 19 ?_
   refine am 20 ?_
   refine aq 21 (q_bin rfl rfl rfl rfl) ?_
   refine aq 22 (q_pick_true true rfl rfl rfl rfl) ?_
   refine aa 15 ?_
   refine AOps.nil ?_
   refine AGo.split 15 rfl (fun hb6 => ?_) (fun hb6 => ?_)
   ·
    refine AGo.cond_true true rfl rfl ?_
    refine AGo.exit ?_
    refine AGo.seq ?_
    refine AGo.seq ?_
    refine AGo.region ?_
    refine aa 6 ?_
    refine AOps.nil ?_
    refine AGo.ret ?_
    refine ⟨[_], ⟨rfl, trivial⟩, ?_, rfl⟩
    show AV.int .u32 _ = AV.int .u32 _
    simp [wcompare, *]
   ·
    refine AGo.cond_false false rfl rfl ?_
    refine AGo.skip ?_
    refine AGo.exit ?_
    refine AGo.seq ?_
    refine AGo.region ?_
    refine aa 6 ?_
    refine AOps.nil ?_
    refine AGo.ret ?_
    refine ⟨[_], ⟨rfl, trivial⟩, ?_, rfl⟩
    show AV.int .u32 _ = AV.int .u32 _
    simp [wcompare, *]
  ·
   refine ak 19 ?_
   refine ak 20 ?_
   refine ak 21 ?_
   refine aq 22 (q_pick_false false rfl rfl rfl rfl) ?_
   refine aa 15 ?_
   refine AOps.nil ?_
   refine AGo.cond_false false rfl rfl ?_
   refine AGo.skip ?_
   refine AGo.exit ?_
   refine AGo.seq ?_
   refine AGo.region ?_
   refine aa 6 ?_
   refine AOps.nil ?_
   refine AGo.ret ?_
   refine ⟨[_], ⟨rfl, trivial⟩, ?_, rfl⟩
   show AV.int .u32 _ = AV.int .u32 _
   simp [wcompare, *]

set_option maxRecDepth 100000 in
theorem apply_ok (op a b : Int) (hb : 0 ≤ b) : APure Try.prog 67 [.int .i64 op, .int .u32 a, .int .u32 b] (fun r => r = wpair (wapp op a b)) := by
 refine APure.of_body (n := 62) tok Try.func67 rfl rfl ?_
 refine AGo.seq ?_
 refine AGo.region ?_
 refine aa 6 ?_
 refine aa 7 ?_
 refine AOps.nil ?_
 refine AGo.seq ?_
 refine AGo.seq ?_
 refine AGo.region ?_
 refine am 8 ?_
 refine AOps.nil ?_
 refine AGo.block ?_
 refine AGo.seq ?_
 refine AGo.region ?_
 refine aq 10 (q_bin rfl rfl rfl rfl) ?_
 refine aa 9 ?_
 refine AOps.nil ?_
 refine AGo.split 9 rfl (fun hb1 => ?_) (fun hb1 => ?_)
 ·
  refine AGo.cond_true true rfl rfl ?_
  refine AGo.seq ?_
  refine AGo.region ?_
  refine am 11 ?_
  refine am 12 ?_
  refine aq 13 (q_bin rfl rfl rfl rfl) ?_
  refine aa 6 ?_
  refine aa 7 ?_
  refine AOps.nil ?_
  refine AGo.ret ?_
  refine ⟨[_, _], ⟨rfl, rfl, trivial⟩, ?_, rfl⟩
  show AV.tup _ = AV.tup _
  simp [wapp, *]
 ·
  refine AGo.cond_false false rfl rfl ?_
  refine AGo.seq ?_
  refine AGo.region ?_
  refine aq 15 (q_bin rfl rfl rfl rfl) ?_
  refine aa 14 ?_
  refine AOps.nil ?_
  refine AGo.split 14 rfl (fun hb2 => ?_) (fun hb2 => ?_)
  ·
   refine AGo.cond_true true rfl rfl ?_
   refine AGo.seq ?_
   refine AGo.region ?_
   refine am 16 ?_
   refine am 17 ?_
   refine aq 18 (q_bin rfl rfl rfl rfl) ?_
   refine aa 6 ?_
   refine aa 7 ?_
   refine AOps.nil ?_
   refine AGo.ret ?_
   refine ⟨[_, _], ⟨rfl, rfl, trivial⟩, ?_, rfl⟩
   show AV.tup _ = AV.tup _
   simp [wapp, *]
  ·
   refine AGo.cond_false false rfl rfl ?_
   refine AGo.seq ?_
   refine AGo.region ?_
   refine aq 20 (q_bin rfl rfl rfl rfl) ?_
   refine aa 19 ?_
   refine AOps.nil ?_
   refine AGo.split 19 rfl (fun hb3 => ?_) (fun hb3 => ?_)
   ·
    refine AGo.cond_true true rfl rfl ?_
    refine AGo.seq ?_
    refine AGo.region ?_
    refine am 21 ?_
    refine am 22 ?_
    refine aq 23 (q_bin rfl rfl rfl rfl) ?_
    refine aa 6 ?_
    refine aa 7 ?_
    refine AOps.nil ?_
    refine AGo.ret ?_
    refine ⟨[_, _], ⟨rfl, rfl, trivial⟩, ?_, rfl⟩
    show AV.tup _ = AV.tup _
    simp [wapp, *]
   ·
    refine AGo.cond_false false rfl rfl ?_
    refine AGo.seq ?_
    refine AGo.seq ?_
    refine AGo.region ?_
    refine aq 25 (q_bin rfl rfl rfl rfl) ?_
    refine aa 24 ?_
    refine AOps.nil ?_
    refine AGo.split 24 rfl (fun hb4 => ?_) (fun hb4 => ?_)
    ·
     refine AGo.cond_true true rfl rfl ?_
     refine AGo.skip ?_
     refine AGo.cond_true true rfl rfl ?_
     refine AGo.seq ?_
     refine AGo.region ?_
     refine am 27 ?_
     refine am 28 ?_
     refine am 29 ?_
     refine ax 30 (o_pure rfl Try.func71 (by kernel_rfl) rfl rfl rfl (divide_ok _ _ _ hb)) ?_
     refine aq 31 (q_extract rfl rfl rfl) ?_
     refine aq 32 (q_extract rfl rfl rfl) ?_
     refine aa 6 ?_
     refine aa 7 ?_
     refine AOps.nil ?_
     refine AGo.ret ?_
     refine ⟨[_, _], ⟨rfl, rfl, trivial⟩, ?_, rfl⟩
     show AV.tup _ = AV.tup _
     simp [wapp, *]
    ·
     refine AGo.cond_false false rfl rfl ?_
     refine AGo.region ?_
     refine aq 26 (q_bin rfl rfl rfl rfl) ?_
     refine aa 24 ?_
     refine AOps.nil ?_
     refine AGo.split 24 rfl (fun hb5 => ?_) (fun hb5 => ?_)
     ·
      refine AGo.cond_true true rfl rfl ?_
      refine AGo.seq ?_
      refine AGo.region ?_
      refine am 27 ?_
      refine am 28 ?_
      refine am 29 ?_
      refine ax 30 (o_pure rfl Try.func71 (by kernel_rfl) rfl rfl rfl (divide_ok _ _ _ hb)) ?_
      refine aq 31 (q_extract rfl rfl rfl) ?_
      refine aq 32 (q_extract rfl rfl rfl) ?_
      refine aa 6 ?_
      refine aa 7 ?_
      refine AOps.nil ?_
      refine AGo.ret ?_
      refine ⟨[_, _], ⟨rfl, rfl, trivial⟩, ?_, rfl⟩
      show AV.tup _ = AV.tup _
      simp [wapp, *]
     ·
      refine AGo.cond_false false rfl rfl ?_
      refine AGo.seq ?_
      refine AGo.region ?_
      refine aq 34 (q_bin rfl rfl rfl rfl) ?_
      refine aa 33 ?_
      refine AOps.nil ?_
      refine AGo.split 33 rfl (fun hb6 => ?_) (fun hb6 => ?_)
      ·
       refine AGo.cond_true true rfl rfl ?_
       refine AGo.seq ?_
       refine AGo.region ?_
       refine am 35 ?_
       refine am 36 ?_
       refine aq 37 (q_bin rfl rfl rfl rfl) ?_
       refine aa 6 ?_
       refine aa 7 ?_
       refine AOps.nil ?_
       refine AGo.ret ?_
       refine ⟨[_, _], ⟨rfl, rfl, trivial⟩, ?_, rfl⟩
       show AV.tup _ = AV.tup _
       simp [wapp, *]
      ·
       refine AGo.cond_false false rfl rfl ?_
       refine AGo.seq ?_
       refine AGo.region ?_
       refine aq 39 (q_bin rfl rfl rfl rfl) ?_
       refine aa 38 ?_
       refine AOps.nil ?_
       refine AGo.split 38 rfl (fun hb7 => ?_) (fun hb7 => ?_)
       ·
        refine AGo.cond_true true rfl rfl ?_
        refine AGo.seq ?_
        refine AGo.region ?_
        refine am 40 ?_
        refine am 41 ?_
        refine aq 42 (q_bin rfl rfl rfl rfl) ?_
        refine aa 6 ?_
        refine aa 7 ?_
        refine AOps.nil ?_
        refine AGo.ret ?_
        refine ⟨[_, _], ⟨rfl, rfl, trivial⟩, ?_, rfl⟩
        show AV.tup _ = AV.tup _
        simp [wapp, *]
       ·
        refine AGo.cond_false false rfl rfl ?_
        refine AGo.seq ?_
        refine AGo.region ?_
        refine aq 44 (q_bin rfl rfl rfl rfl) ?_
        refine aa 43 ?_
        refine AOps.nil ?_
        refine AGo.split 43 rfl (fun hb8 => ?_) (fun hb8 => ?_)
        ·
         refine AGo.cond_true true rfl rfl ?_
         refine AGo.seq ?_
         refine AGo.region ?_
         refine am 45 ?_
         refine am 46 ?_
         refine aq 47 (q_bin rfl rfl rfl rfl) ?_
         refine aa 6 ?_
         refine aa 7 ?_
         refine AOps.nil ?_
         refine AGo.ret ?_
         refine ⟨[_, _], ⟨rfl, rfl, trivial⟩, ?_, rfl⟩
         show AV.tup _ = AV.tup _
         simp [wapp, *]
        ·
         refine AGo.cond_false false rfl rfl ?_
         refine AGo.seq ?_
         refine AGo.seq ?_
         refine AGo.region ?_
         refine aq 49 (q_bin rfl rfl rfl rfl) ?_
         refine aa 48 ?_
         refine AOps.nil ?_
         refine AGo.split 48 rfl (fun hb9 => ?_) (fun hb9 => ?_)
         ·
          refine AGo.cond_true true rfl rfl ?_
          refine AGo.skip ?_
          refine AGo.cond_true true rfl rfl ?_
          refine AGo.seq ?_
          refine AGo.region ?_
          refine am 51 ?_
          refine am 52 ?_
          refine am 53 ?_
          refine ax 54 (o_pure rfl Try.func72 (by kernel_rfl) rfl rfl rfl (shift_ok _ _ _ hb)) ?_
          refine aa 6 ?_
          refine aa 7 ?_
          refine AOps.nil ?_
          refine AGo.ret ?_
          refine ⟨[_, _], ⟨rfl, rfl, trivial⟩, ?_, rfl⟩
          show AV.tup _ = AV.tup _
          simp [wapp, *]
         ·
          refine AGo.cond_false false rfl rfl ?_
          refine AGo.region ?_
          refine aq 50 (q_bin rfl rfl rfl rfl) ?_
          refine aa 48 ?_
          refine AOps.nil ?_
          refine AGo.split 48 rfl (fun hb10 => ?_) (fun hb10 => ?_)
          ·
           refine AGo.cond_true true rfl rfl ?_
           refine AGo.seq ?_
           refine AGo.region ?_
           refine am 51 ?_
           refine am 52 ?_
           refine am 53 ?_
           refine ax 54 (o_pure rfl Try.func72 (by kernel_rfl) rfl rfl rfl (shift_ok _ _ _ hb)) ?_
           refine aa 6 ?_
           refine aa 7 ?_
           refine AOps.nil ?_
           refine AGo.ret ?_
           refine ⟨[_, _], ⟨rfl, rfl, trivial⟩, ?_, rfl⟩
           show AV.tup _ = AV.tup _
           simp [wapp, *]
          ·
           refine AGo.cond_false false rfl rfl ?_
           refine AGo.seq ?_
           refine AGo.seq ?_
           refine AGo.region ?_
           refine aq 56 (q_bin rfl rfl rfl rfl) ?_
           refine aa 55 ?_
           refine AOps.nil ?_
           refine AGo.split 55 rfl (fun hb11 => ?_) (fun hb11 => ?_)
           ·
            refine AGo.cond_true true rfl rfl ?_
            refine AGo.skip ?_
            refine AGo.cond_true true rfl rfl ?_
            refine AGo.seq ?_
            refine AGo.region ?_
            refine am 58 ?_
            refine am 59 ?_
            refine am 60 ?_
            refine ax 61 (o_pure rfl Try.func73 (by kernel_rfl) rfl rfl rfl (compare_ok _ _ _ hb)) ?_
            refine aa 6 ?_
            refine aa 7 ?_
            refine AOps.nil ?_
            refine AGo.ret ?_
            refine ⟨[_, _], ⟨rfl, rfl, trivial⟩, ?_, rfl⟩
            show AV.tup _ = AV.tup _
            simp [wapp, *]
           ·
            refine AGo.cond_false false rfl rfl ?_
            refine AGo.region ?_
            refine aq 57 (q_bin rfl rfl rfl rfl) ?_
            refine aa 55 ?_
            refine AOps.nil ?_
            refine AGo.split 55 rfl (fun hb12 => ?_) (fun hb12 => ?_)
            ·
             refine AGo.cond_true true rfl rfl ?_
             refine AGo.seq ?_
             refine AGo.region ?_
             refine am 58 ?_
             refine am 59 ?_
             refine am 60 ?_
             refine ax 61 (o_pure rfl Try.func73 (by kernel_rfl) rfl rfl rfl (compare_ok _ _ _ hb)) ?_
             refine aa 6 ?_
             refine aa 7 ?_
             refine AOps.nil ?_
             refine AGo.ret ?_
             refine ⟨[_, _], ⟨rfl, rfl, trivial⟩, ?_, rfl⟩
             show AV.tup _ = AV.tup _
             simp [wapp, *]
            ·
             refine AGo.cond_false false rfl rfl ?_
             refine AGo.skip ?_
             refine AGo.seq ?_
             refine AGo.region ?_
             refine aa 6 ?_
             refine aa 7 ?_
             refine AOps.nil ?_
             refine AGo.ret ?_
             refine ⟨[_, _], ⟨rfl, rfl, trivial⟩, ?_, rfl⟩
             show AV.tup _ = AV.tup _
             simp [wapp, *]

end Go.Proofs.Ytpijoieooikfgaa.Sv

namespace Go.Proofs.Ytpijoieooikfgaa.Sv
open Go

set_option maxHeartbeats 1000000 in
set_option maxRecDepth 100000 in
theorem constant_ok (first : Int) (K : List (List Int)) (hf : 0 ≤ first ∧ first ≤ 100000) (h4 : ∀ k ∈ K, k.length = 4) (hK : K.length ≤ 100000) (n : Int) (hn : 0 ≤ n ∧ n < first + K.length) : ACall Try.prog 56 [.ptr 4 1 0 0, .int .i64 n] (hput (hput (hput hNew 3 (.map (kvsA .i64 (vmap first (K))))) 4 (.row false 3 [[.int .i64 first, .map 3, slA 9 ((K).map (arrAV .i64))]])) 9 (slO 4 ((K).map (arrAV .i64)))) (fun r h' => r = .tup [.int .u32 (vconst first K n).1, .bool (vconst first K n).2] ∧ HSub (hput (hput (hput hNone 3 (.map (kvsA .i64 (vmap first (K))))) 4 (.row false 3 [[.int .i64 first, .map 3, slA 9 ((K).map (arrAV .i64))]])) 9 (slO 4 ((K).map (arrAV .i64)))) h') := by
 refine ACall.of_body (n := 31) tok Try.func56 rfl rfl ?_
 refine AGo.seq ?_
 refine AGo.region ?_
 refine aa 4 ?_
 refine aa 5 ?_
 refine AOps.nil ?_
 refine AGo.seq ?_
 refine AGo.seq ?_
 refine AGo.region ?_
 refine am 7 ?_
 refine am 8 ?_
 refine aq 9 (q_nilCheck rfl rfl rfl) ?_
 refine af 10 tok ?_
 refine al 11 tok ?_
 refine aq 12 (q_bin rfl rfl rfl rfl) ?_
 refine AOps.nil ?_
 refine AGo.split 12 rfl (fun hb1 => ?_) (fun hb1 => ?_)
 ·
  refine AGo.cond_true true rfl rfl ?_
  have hlo := hb1
  refine AGo.seq ?_
  refine AGo.region ?_
  refine aa 4 ?_
  refine aa 5 ?_
  refine AOps.nil ?_
  refine AGo.ret ?_
  refine ⟨[_, _], ⟨rfl, rfl, trivial⟩, ?_, ?_⟩
  · first
    | (rw [vconst_low hlo]; rfl)
    | (rw [hv]; rfl)
  · exact HSub.put (HSub.put (HSub.put (HSub.none _) rfl) rfl) rfl
 ·
  refine AGo.cond_false false rfl rfl ?_
  obtain ⟨hi1, hi2, a, b, c, d, hg, hv⟩ := vkey h4 hn hb1
  refine AGo.skip ?_
  refine AGo.seq ?_
  refine AGo.draw mix ?_
  refine dm 13 ?_
  refine dq 14 (q_nilCheck rfl rfl rfl) ?_
  refine df 15 tok ?_
  refine dl 16 tok ?_
  refine dm 17 ?_
  refine dm 18 ?_
  refine dq 19 (q_nilCheck rfl rfl rfl) ?_
  refine df 20 tok ?_
  refine dl 21 tok ?_
  refine dq 22 (q_bin (r := .int .i64 (n - first)) rfl rfl rfl (subZ (by omega) (by omega) rfl)) ?_
  refine dq 23 (q_indexJ tok rfl rfl rfl rfl rfl rfl rfl rfl hi1 hi2) ?_
  refine dq 24 (q_load tok rfl rfl rfl (ptsJ rfl hg) rfl) ?_
  refine dx 6 (o_alloc tok 12 rfl rfl rfl rfl (Nat.zero_lt_succ _) rfl) ?_
  refine DOps.w rfl rfl (o_store tok rfl rfl rfl rfl rfl rfl rfl rfl rfl (by decide) rfl (by first | exact fun _ => rfl | (intro h; cases h))) ?_
  refine DOps.nil (by kernel_rfl) ?_
  refine AGo.seq ?_
  refine AGo.draw mix ?_
  refine dq 25 (q_index_arr tok rfl rfl rfl rfl rfl rfl (by decide) (by decide) rfl) ?_
  refine dl 26 tok ?_
  refine dq 27 (q_convInt tok rfl rfl rfl rfl rfl) ?_
  refine dq 28 (q_index_arr tok rfl rfl rfl rfl rfl rfl (by decide) (by decide) rfl) ?_
  refine dl 29 tok ?_
  refine dq 30 (q_bin rfl rfl rfl rfl) ?_
  refine da 4 ?_
  refine da 5 ?_
  refine DOps.nil (by kernel_rfl) ?_
  refine AGo.ret ?_
  refine ⟨[_, _], ⟨rfl, rfl, trivial⟩, ?_, ?_⟩
  · first
    | (rw [vconst_low hlo]; rfl)
    | (rw [hv]; rfl)
  · exact HSub.put (HSub.put (HSub.put (HSub.none _) rfl) rfl) rfl

set_option maxHeartbeats 1000000 in
set_option maxRecDepth 100000 in
theorem vapply_ok' (first : Int) (K : List (List Int)) (hf : 0 ≤ first ∧ first ≤ 100000) (h4 : ∀ k ∈ K, k.length = 4) (hK : K.length ≤ 100000) (op a b : Int) (ha : 0 ≤ a ∧ a < first + K.length) (hb : 0 ≤ b ∧ b < first + K.length) : ACall Try.prog 57 [.ptr 4 1 0 0, .int .i64 op, .int .i64 a, .int .i64 b] (hput (hput (hput hNew 3 (.map (kvsA .i64 (vmap first (K))))) 4 (.row false 3 [[.int .i64 first, .map 3, slA 9 ((K).map (arrAV .i64))]])) 9 (slO 4 ((K).map (arrAV .i64)))) (fun r h' => r = .int .i64 (vapply first K op a b).1 ∧ HSub (hput (hput (hput hNone 3 (.map (kvsA .i64 (vmap first ((vapply first K op a b).2))))) 4 (.row false 3 [[.int .i64 first, .map 3, slA 9 (((vapply first K op a b).2).map (arrAV .i64))]])) 9 (slO 4 (((vapply first K op a b).2).map (arrAV .i64)))) h') := by
 refine ACall.of_body (n := 51) tok Try.func57 rfl rfl ?_
 refine AGo.seq ?_
 refine AGo.region ?_
 refine aa 8 ?_
 refine AOps.nil ?_
 refine AGo.seq ?_
 refine AGo.region ?_
 refine am 16 ?_
 refine am 17 ?_
 refine ax 18 (o_call (hc := (hput (hput (hput hNew 3 (.map (kvsA .i64 (vmap first (K))))) 4 (.row false 3 [[.int .i64 first, .map 3, slA 9 ((K).map (arrAV .i64))]])) 9 (slO 4 ((K).map (arrAV .i64))))) (hw := (hput (hput (hput hNone 3 (.map (kvsA .i64 (vmap first (K))))) 4 (.row false 3 [[.int .i64 first, .map 3, slA 9 ((K).map (arrAV .i64))]])) 9 (slO 4 ((K).map (arrAV .i64))))) [9, 4, 3] [(3, (.map (kvsA .i64 (vmap first (K))))), (4, (.row false 3 [[.int .i64 first, .map 3, slA 9 ((K).map (arrAV .i64))]])), (9, (slO 4 ((K).map (arrAV .i64))))] rfl Try.func56 (by kernel_rfl) rfl rfl rfl ⟨⟨_, rfl, (by first | rfl | exact slO_avoid _ _ | exact vaO_avoid _ | exact tab_avoid _ _ rfl rfl | exact wlk_avoid _ _ _ rfl rfl rfl)⟩, ⟨_, rfl, (by first | rfl | exact slO_avoid _ _ | exact vaO_avoid _ | exact tab_avoid _ _ rfl rfl | exact wlk_avoid _ _ _ rfl rfl rfl)⟩, ⟨_, rfl, (by first | rfl | exact slO_avoid _ _ | exact vaO_avoid _ | exact tab_avoid _ _ rfl rfl | exact wlk_avoid _ _ _ rfl rfl rfl)⟩, trivial⟩ rfl (hres_cons rfl (hres_cons rfl (hres_cons rfl (hres_nil _)))) ⟨⟨_, rfl, rfl, (by first | rfl | exact slO_avoid _ _ | exact vaO_avoid _ | exact tab_avoid _ _ rfl rfl | exact wlk_avoid _ _ _ rfl rfl rfl)⟩, ⟨_, rfl, rfl, (by first | rfl | exact slO_avoid _ _ | exact vaO_avoid _ | exact tab_avoid _ _ rfl rfl | exact wlk_avoid _ _ _ rfl rfl rfl)⟩, ⟨_, rfl, rfl, (by first | rfl | exact slO_avoid _ _ | exact vaO_avoid _ | exact tab_avoid _ _ rfl rfl | exact wlk_avoid _ _ _ rfl rfl rfl)⟩, trivial⟩ rfl (constant_ok first K hf h4 hK a ha)) ?_
 refine am 15 ?_
 refine aq 19 (q_extract rfl rfl rfl) ?_
 refine aq 20 (q_extract rfl rfl rfl) ?_
 refine aa 9 ?_
 refine aa 10 ?_
 refine AOps.nil ?_
 refine AGo.seq ?_
 refine AGo.region ?_
 refine am 22 ?_
 refine am 23 ?_
 refine ax 24 (o_call (hc := (hput (hput (hput hNew 3 (.map (kvsA .i64 (vmap first (K))))) 4 (.row false 3 [[.int .i64 first, .map 3, slA 9 ((K).map (arrAV .i64))]])) 9 (slO 4 ((K).map (arrAV .i64))))) (hw := (hput (hput (hput hNone 3 (.map (kvsA .i64 (vmap first (K))))) 4 (.row false 3 [[.int .i64 first, .map 3, slA 9 ((K).map (arrAV .i64))]])) 9 (slO 4 ((K).map (arrAV .i64))))) [9, 4, 3] [(3, (.map (kvsA .i64 (vmap first (K))))), (4, (.row false 3 [[.int .i64 first, .map 3, slA 9 ((K).map (arrAV .i64))]])), (9, (slO 4 ((K).map (arrAV .i64))))] rfl Try.func56 (by kernel_rfl) rfl rfl rfl ⟨⟨_, rfl, (by first | rfl | exact slO_avoid _ _ | exact vaO_avoid _ | exact tab_avoid _ _ rfl rfl | exact wlk_avoid _ _ _ rfl rfl rfl)⟩, ⟨_, rfl, (by first | rfl | exact slO_avoid _ _ | exact vaO_avoid _ | exact tab_avoid _ _ rfl rfl | exact wlk_avoid _ _ _ rfl rfl rfl)⟩, ⟨_, rfl, (by first | rfl | exact slO_avoid _ _ | exact vaO_avoid _ | exact tab_avoid _ _ rfl rfl | exact wlk_avoid _ _ _ rfl rfl rfl)⟩, trivial⟩ rfl (hres_cons rfl (hres_cons rfl (hres_cons rfl (hres_nil _)))) ⟨⟨_, rfl, rfl, (by first | rfl | exact slO_avoid _ _ | exact vaO_avoid _ | exact tab_avoid _ _ rfl rfl | exact wlk_avoid _ _ _ rfl rfl rfl)⟩, ⟨_, rfl, rfl, (by first | rfl | exact slO_avoid _ _ | exact vaO_avoid _ | exact tab_avoid _ _ rfl rfl | exact wlk_avoid _ _ _ rfl rfl rfl)⟩, ⟨_, rfl, rfl, (by first | rfl | exact slO_avoid _ _ | exact vaO_avoid _ | exact tab_avoid _ _ rfl rfl | exact wlk_avoid _ _ _ rfl rfl rfl)⟩, trivial⟩ rfl (constant_ok first K hf h4 hK b hb)) ?_
 refine am 21 ?_
 refine aq 25 (q_extract rfl rfl rfl) ?_
 refine aq 26 (q_extract rfl rfl rfl) ?_
 refine aa 11 ?_
 refine aa 12 ?_
 refine AOps.nil ?_
 refine AGo.seq ?_
 refine AGo.seq ?_
 refine AGo.region ?_
 refine am 27 ?_
 refine am 28 ?_
 refine AOps.split 28 rfl (fun hb1 => ?_) (fun hb1 => ?_)
 ·
  refine am 29 ?_
  refine aq 30 (q_pick_true true rfl rfl rfl rfl) ?_
  refine AOps.nil ?_
  refine AGo.split 30 rfl (fun hb2 => ?_) (fun hb2 => ?_)
  ·
   refine AGo.cond_true true rfl rfl ?_
   refine AGo.seq ?_
   refine AGo.region ?_
   refine am 32 ?_
   refine am 33 ?_
   refine am 34 ?_
   refine ax 35 (o_pure rfl Try.func67 (by kernel_rfl) rfl rfl rfl (apply_ok op _ _ (vconst_w first K b).1)) ?_
   refine am 31 ?_
   refine aq 36 (q_extract rfl rfl rfl) ?_
   refine aq 37 (q_extract rfl rfl rfl) ?_
   refine aa 13 ?_
   refine aa 14 ?_
   refine AOps.nil ?_
   refine AGo.seq ?_
   refine AGo.region ?_
   refine am 38 ?_
   refine aq 39 (q_bin rfl rfl rfl rfl) ?_
   refine AOps.nil ?_
   refine AGo.split 39 rfl (fun hb3 => ?_) (fun hb3 => ?_)
   ·
    refine AGo.cond_true true rfl rfl ?_
    refine AGo.seq ?_
    refine AGo.region ?_
    refine am 40 ?_
    refine am 41 ?_
    refine aq 42 (q_convTo tok rfl rfl rfl rfl rfl (r := (wapp op (vconst first K a).1 (vconst first K b).1).1) (by have h := wapp_word (op := op) (vconst_w first K a) (vconst_w first K b); obtain ⟨h1, h2⟩ := h; exact wrap_i64 (by omega) (by omega))) ?_
    refine aq 43 (q_build_arr tok rfl rfl rfl rfl rfl rfl (by decide) rfl rfl) ?_
    refine ax 44 (o_call (hc := (hput (hput (hput hNew 3 (.map (kvsA .i64 (vmap first (K))))) 4 (.row false 3 [[.int .i64 first, .map 3, slA 9 ((K).map (arrAV .i64))]])) 9 (slO 4 ((K).map (arrAV .i64))))) (hw := (hput (hput (hput hNone 3 (.map (kvsA .i64 (vmap first ((vnum first K [1, (wapp op (vconst first K a).1 (vconst first K b).1).1, 0, 0]).2))))) 4 (.row false 3 [[.int .i64 first, .map 3, slA 9 (((vnum first K [1, (wapp op (vconst first K a).1 (vconst first K b).1).1, 0, 0]).2).map (arrAV .i64))]])) 9 (slO 4 (((vnum first K [1, (wapp op (vconst first K a).1 (vconst first K b).1).1, 0, 0]).2).map (arrAV .i64))))) [9, 4, 3] [(3, (.map (kvsA .i64 (vmap first ((vnum first K [1, (wapp op (vconst first K a).1 (vconst first K b).1).1, 0, 0]).2))))), (4, (.row false 3 [[.int .i64 first, .map 3, slA 9 (((vnum first K [1, (wapp op (vconst first K a).1 (vconst first K b).1).1, 0, 0]).2).map (arrAV .i64))]])), (9, (slO 4 (((vnum first K [1, (wapp op (vconst first K a).1 (vconst first K b).1).1, 0, 0]).2).map (arrAV .i64))))] rfl Try.func45 (by kernel_rfl) rfl rfl rfl ⟨⟨_, rfl, (by first | rfl | exact slO_avoid _ _ | exact vaO_avoid _ | exact tab_avoid _ _ rfl rfl | exact wlk_avoid _ _ _ rfl rfl rfl)⟩, ⟨_, rfl, (by first | rfl | exact slO_avoid _ _ | exact vaO_avoid _ | exact tab_avoid _ _ rfl rfl | exact wlk_avoid _ _ _ rfl rfl rfl)⟩, ⟨_, rfl, (by first | rfl | exact slO_avoid _ _ | exact vaO_avoid _ | exact tab_avoid _ _ rfl rfl | exact wlk_avoid _ _ _ rfl rfl rfl)⟩, trivial⟩ rfl (hres_cons rfl (hres_cons rfl (hres_cons rfl (hres_nil _)))) ⟨⟨_, rfl, rfl, (by first | rfl | exact slO_avoid _ _ | exact vaO_avoid _ | exact tab_avoid _ _ rfl rfl | exact wlk_avoid _ _ _ rfl rfl rfl)⟩, ⟨_, rfl, rfl, (by first | rfl | exact slO_avoid _ _ | exact vaO_avoid _ | exact tab_avoid _ _ rfl rfl | exact wlk_avoid _ _ _ rfl rfl rfl)⟩, ⟨_, rfl, rfl, (by first | rfl | exact slO_avoid _ _ | exact vaO_avoid _ | exact tab_avoid _ _ rfl rfl | exact wlk_avoid _ _ _ rfl rfl rfl)⟩, trivial⟩ rfl (number_ok first K hf h4 hK 1 (wapp op (vconst first K a).1 (vconst first K b).1).1 0 0)) ?_
    refine aa 8 ?_
    refine AOps.nil ?_
    refine AGo.ret ?_
    first
    | (refine ⟨[_], ⟨rfl, trivial⟩, ?_, ?_⟩ <;> rw [vapply_c (by assumption) (by assumption) (by assumption)] <;> first | rfl | exact HSub.put (HSub.put (HSub.put (HSub.none _) rfl) rfl) rfl)
   ·
    refine AGo.cond_false false rfl rfl ?_
    refine AGo.skip ?_
    refine AGo.seq ?_
    refine AGo.region ?_
    refine am 45 ?_
    refine am 46 ?_
    refine am 47 ?_
    refine am 48 ?_
    refine aq 49 (q_build_arr tok rfl rfl rfl rfl rfl rfl (by decide) rfl rfl) ?_
    refine ax 50 (o_call (hc := (hput (hput (hput hNew 3 (.map (kvsA .i64 (vmap first (K))))) 4 (.row false 3 [[.int .i64 first, .map 3, slA 9 ((K).map (arrAV .i64))]])) 9 (slO 4 ((K).map (arrAV .i64))))) (hw := (hput (hput (hput hNone 3 (.map (kvsA .i64 (vmap first ((vnum first K [2, op, a, b]).2))))) 4 (.row false 3 [[.int .i64 first, .map 3, slA 9 (((vnum first K [2, op, a, b]).2).map (arrAV .i64))]])) 9 (slO 4 (((vnum first K [2, op, a, b]).2).map (arrAV .i64))))) [9, 4, 3] [(3, (.map (kvsA .i64 (vmap first ((vnum first K [2, op, a, b]).2))))), (4, (.row false 3 [[.int .i64 first, .map 3, slA 9 (((vnum first K [2, op, a, b]).2).map (arrAV .i64))]])), (9, (slO 4 (((vnum first K [2, op, a, b]).2).map (arrAV .i64))))] rfl Try.func45 (by kernel_rfl) rfl rfl rfl ⟨⟨_, rfl, (by first | rfl | exact slO_avoid _ _ | exact vaO_avoid _ | exact tab_avoid _ _ rfl rfl | exact wlk_avoid _ _ _ rfl rfl rfl)⟩, ⟨_, rfl, (by first | rfl | exact slO_avoid _ _ | exact vaO_avoid _ | exact tab_avoid _ _ rfl rfl | exact wlk_avoid _ _ _ rfl rfl rfl)⟩, ⟨_, rfl, (by first | rfl | exact slO_avoid _ _ | exact vaO_avoid _ | exact tab_avoid _ _ rfl rfl | exact wlk_avoid _ _ _ rfl rfl rfl)⟩, trivial⟩ rfl (hres_cons rfl (hres_cons rfl (hres_cons rfl (hres_nil _)))) ⟨⟨_, rfl, rfl, (by first | rfl | exact slO_avoid _ _ | exact vaO_avoid _ | exact tab_avoid _ _ rfl rfl | exact wlk_avoid _ _ _ rfl rfl rfl)⟩, ⟨_, rfl, rfl, (by first | rfl | exact slO_avoid _ _ | exact vaO_avoid _ | exact tab_avoid _ _ rfl rfl | exact wlk_avoid _ _ _ rfl rfl rfl)⟩, ⟨_, rfl, rfl, (by first | rfl | exact slO_avoid _ _ | exact vaO_avoid _ | exact tab_avoid _ _ rfl rfl | exact wlk_avoid _ _ _ rfl rfl rfl)⟩, trivial⟩ rfl (number_ok first K hf h4 hK 2 op a b)) ?_
    refine aa 8 ?_
    refine AOps.nil ?_
    refine AGo.ret ?_
    first
    | (refine ⟨[_], ⟨rfl, trivial⟩, ?_, ?_⟩ <;> rw [vapply_o1 (by assumption)] <;> first | rfl | exact HSub.put (HSub.put (HSub.put (HSub.none _) rfl) rfl) rfl)
    | (refine ⟨[_], ⟨rfl, trivial⟩, ?_, ?_⟩ <;> rw [vapply_o2 (by assumption)] <;> first | rfl | exact HSub.put (HSub.put (HSub.put (HSub.none _) rfl) rfl) rfl)
    | (refine ⟨[_], ⟨rfl, trivial⟩, ?_, ?_⟩ <;> rw [vapply_o3 (by assumption)] <;> first | rfl | exact HSub.put (HSub.put (HSub.put (HSub.none _) rfl) rfl) rfl)
  ·
   refine AGo.cond_false false rfl rfl ?_
   refine AGo.skip ?_
   refine AGo.seq ?_
   refine AGo.region ?_
   refine am 45 ?_
   refine am 46 ?_
   refine am 47 ?_
   refine am 48 ?_
   refine aq 49 (q_build_arr tok rfl rfl rfl rfl rfl rfl (by decide) rfl rfl) ?_
   refine ax 50 (o_call (hc := (hput (hput (hput hNew 3 (.map (kvsA .i64 (vmap first (K))))) 4 (.row false 3 [[.int .i64 first, .map 3, slA 9 ((K).map (arrAV .i64))]])) 9 (slO 4 ((K).map (arrAV .i64))))) (hw := (hput (hput (hput hNone 3 (.map (kvsA .i64 (vmap first ((vnum first K [2, op, a, b]).2))))) 4 (.row false 3 [[.int .i64 first, .map 3, slA 9 (((vnum first K [2, op, a, b]).2).map (arrAV .i64))]])) 9 (slO 4 (((vnum first K [2, op, a, b]).2).map (arrAV .i64))))) [9, 4, 3] [(3, (.map (kvsA .i64 (vmap first ((vnum first K [2, op, a, b]).2))))), (4, (.row false 3 [[.int .i64 first, .map 3, slA 9 (((vnum first K [2, op, a, b]).2).map (arrAV .i64))]])), (9, (slO 4 (((vnum first K [2, op, a, b]).2).map (arrAV .i64))))] rfl Try.func45 (by kernel_rfl) rfl rfl rfl ⟨⟨_, rfl, (by first | rfl | exact slO_avoid _ _ | exact vaO_avoid _ | exact tab_avoid _ _ rfl rfl | exact wlk_avoid _ _ _ rfl rfl rfl)⟩, ⟨_, rfl, (by first | rfl | exact slO_avoid _ _ | exact vaO_avoid _ | exact tab_avoid _ _ rfl rfl | exact wlk_avoid _ _ _ rfl rfl rfl)⟩, ⟨_, rfl, (by first | rfl | exact slO_avoid _ _ | exact vaO_avoid _ | exact tab_avoid _ _ rfl rfl | exact wlk_avoid _ _ _ rfl rfl rfl)⟩, trivial⟩ rfl (hres_cons rfl (hres_cons rfl (hres_cons rfl (hres_nil _)))) ⟨⟨_, rfl, rfl, (by first | rfl | exact slO_avoid _ _ | exact vaO_avoid _ | exact tab_avoid _ _ rfl rfl | exact wlk_avoid _ _ _ rfl rfl rfl)⟩, ⟨_, rfl, rfl, (by first | rfl | exact slO_avoid _ _ | exact vaO_avoid _ | exact tab_avoid _ _ rfl rfl | exact wlk_avoid _ _ _ rfl rfl rfl)⟩, ⟨_, rfl, rfl, (by first | rfl | exact slO_avoid _ _ | exact vaO_avoid _ | exact tab_avoid _ _ rfl rfl | exact wlk_avoid _ _ _ rfl rfl rfl)⟩, trivial⟩ rfl (number_ok first K hf h4 hK 2 op a b)) ?_
   refine aa 8 ?_
   refine AOps.nil ?_
   refine AGo.ret ?_
   first
   | (refine ⟨[_], ⟨rfl, trivial⟩, ?_, ?_⟩ <;> rw [vapply_o1 (by assumption)] <;> first | rfl | exact HSub.put (HSub.put (HSub.put (HSub.none _) rfl) rfl) rfl)
   | (refine ⟨[_], ⟨rfl, trivial⟩, ?_, ?_⟩ <;> rw [vapply_o2 (by assumption)] <;> first | rfl | exact HSub.put (HSub.put (HSub.put (HSub.none _) rfl) rfl) rfl)
   | (refine ⟨[_], ⟨rfl, trivial⟩, ?_, ?_⟩ <;> rw [vapply_o3 (by assumption)] <;> first | rfl | exact HSub.put (HSub.put (HSub.put (HSub.none _) rfl) rfl) rfl)
 ·
  refine ak 29 ?_
  refine aq 30 (q_pick_false false rfl rfl rfl rfl) ?_
  refine AOps.nil ?_
  refine AGo.cond_false false rfl rfl ?_
  refine AGo.skip ?_
  refine AGo.seq ?_
  refine AGo.region ?_
  refine am 45 ?_
  refine am 46 ?_
  refine am 47 ?_
  refine am 48 ?_
  refine aq 49 (q_build_arr tok rfl rfl rfl rfl rfl rfl (by decide) rfl rfl) ?_
  refine ax 50 (o_call (hc := (hput (hput (hput hNew 3 (.map (kvsA .i64 (vmap first (K))))) 4 (.row false 3 [[.int .i64 first, .map 3, slA 9 ((K).map (arrAV .i64))]])) 9 (slO 4 ((K).map (arrAV .i64))))) (hw := (hput (hput (hput hNone 3 (.map (kvsA .i64 (vmap first ((vnum first K [2, op, a, b]).2))))) 4 (.row false 3 [[.int .i64 first, .map 3, slA 9 (((vnum first K [2, op, a, b]).2).map (arrAV .i64))]])) 9 (slO 4 (((vnum first K [2, op, a, b]).2).map (arrAV .i64))))) [9, 4, 3] [(3, (.map (kvsA .i64 (vmap first ((vnum first K [2, op, a, b]).2))))), (4, (.row false 3 [[.int .i64 first, .map 3, slA 9 (((vnum first K [2, op, a, b]).2).map (arrAV .i64))]])), (9, (slO 4 (((vnum first K [2, op, a, b]).2).map (arrAV .i64))))] rfl Try.func45 (by kernel_rfl) rfl rfl rfl ⟨⟨_, rfl, (by first | rfl | exact slO_avoid _ _ | exact vaO_avoid _ | exact tab_avoid _ _ rfl rfl | exact wlk_avoid _ _ _ rfl rfl rfl)⟩, ⟨_, rfl, (by first | rfl | exact slO_avoid _ _ | exact vaO_avoid _ | exact tab_avoid _ _ rfl rfl | exact wlk_avoid _ _ _ rfl rfl rfl)⟩, ⟨_, rfl, (by first | rfl | exact slO_avoid _ _ | exact vaO_avoid _ | exact tab_avoid _ _ rfl rfl | exact wlk_avoid _ _ _ rfl rfl rfl)⟩, trivial⟩ rfl (hres_cons rfl (hres_cons rfl (hres_cons rfl (hres_nil _)))) ⟨⟨_, rfl, rfl, (by first | rfl | exact slO_avoid _ _ | exact vaO_avoid _ | exact tab_avoid _ _ rfl rfl | exact wlk_avoid _ _ _ rfl rfl rfl)⟩, ⟨_, rfl, rfl, (by first | rfl | exact slO_avoid _ _ | exact vaO_avoid _ | exact tab_avoid _ _ rfl rfl | exact wlk_avoid _ _ _ rfl rfl rfl)⟩, ⟨_, rfl, rfl, (by first | rfl | exact slO_avoid _ _ | exact vaO_avoid _ | exact tab_avoid _ _ rfl rfl | exact wlk_avoid _ _ _ rfl rfl rfl)⟩, trivial⟩ rfl (number_ok first K hf h4 hK 2 op a b)) ?_
  refine aa 8 ?_
  refine AOps.nil ?_
  refine AGo.ret ?_
  first
  | (refine ⟨[_], ⟨rfl, trivial⟩, ?_, ?_⟩ <;> rw [vapply_o1 (by assumption)] <;> first | rfl | exact HSub.put (HSub.put (HSub.put (HSub.none _) rfl) rfl) rfl)
  | (refine ⟨[_], ⟨rfl, trivial⟩, ?_, ?_⟩ <;> rw [vapply_o2 (by assumption)] <;> first | rfl | exact HSub.put (HSub.put (HSub.put (HSub.none _) rfl) rfl) rfl)
  | (refine ⟨[_], ⟨rfl, trivial⟩, ?_, ?_⟩ <;> rw [vapply_o3 (by assumption)] <;> first | rfl | exact HSub.put (HSub.put (HSub.put (HSub.none _) rfl) rfl) rfl)

end Go.Proofs.Ytpijoieooikfgaa.Sv

namespace Go.Proofs.Ytpijoieooikfgaa.Sv
open Go

set_option maxHeartbeats 1000000 in
set_option maxRecDepth 100000 in
theorem happensb_ok (first : Int) (R m : Nat) (w : VW) (h : VOk first R m w) (hm : m ≤ 90000) (t : Tac) (a b : Int) : ACall Try.prog 47 [.ptr 8 1 0 0, .agg t.cells, .int .i64 a, .int .i64 b] (hput (hput (hput (hput (hput (hput hNew 3 (.map (kvsA .i64 (vmap first ((w).K))))) 4 (.row false 3 [[.int .i64 first, .map 3, slA 9 (((w).K).map (arrAV .i64))]])) 9 (slO 4 (((w).K).map (arrAV .i64)))) 8 (.row false 4 [[.ptr 4 1 0 0, vaA 7 (valC ((w).vals)), slA 11 (((w).effs).map (arrAV .i64)), .int .i64 ((w).time)]])) 7 (vaO (valC ((w).vals)))) 11 (slO 6 (((w).effs).map (arrAV .i64)))) (fun r h' => r = .tup [] ∧ HSub (hput (hput (hput (hput (hput (hput hNone 3 (.map (kvsA .i64 (vmap first (((w.hap t a b)).K))))) 4 (.row false 3 [[.int .i64 first, .map 3, slA 9 ((((w.hap t a b)).K).map (arrAV .i64))]])) 9 (slO 4 ((((w.hap t a b)).K).map (arrAV .i64)))) 8 (.row false 4 [[.ptr 4 1 0 0, vaA 7 (valC (((w.hap t a b)).vals)), slA 11 ((((w.hap t a b)).effs).map (arrAV .i64)), .int .i64 (((w.hap t a b)).time)]])) 7 (vaO (valC (((w.hap t a b)).vals)))) 11 (slO 6 ((((w.hap t a b)).effs).map (arrAV .i64)))) h') := by
 have hel := h.el
 refine ACall.of_body (n := 26) tok Try.func47 rfl rfl ?_
 refine AGo.seq ?_
 refine AGo.region ?_
 refine ax 5 (o_box (sz := 8) 12 rfl rfl rfl rfl (Nat.zero_lt_succ _) rfl) ?_
 refine AOps.nil ?_
 refine AGo.draw mix ?_
 refine dm 8 ?_
 refine dm 9 ?_
 refine dq 10 (q_nilCheck rfl rfl rfl) ?_
 refine df 11 tok ?_
 refine dl 12 tok ?_
 refine df 13 tok ?_
 refine dl 14 tok ?_
 refine df 15 tok ?_
 refine dl 16 tok ?_
 refine df 17 tok ?_
 refine dl 18 tok ?_
 refine dm 19 ?_
 refine dm 20 ?_
 refine dq 21 (q_build_arr tok rfl rfl rfl rfl rfl rfl (by decide) rfl rfl) ?_
 refine dx 22 (o_lit' tok rfl rfl rfl rfl rfl rfl (by decide) rfl rfl rfl rfl rfl rfl) ?_
 refine dx 23 (o_append1J tok (b := 11) (es := ((w.effs).map (arrAV .i64))) rfl rfl rfl rfl rfl rfl rfl rfl rfl rfl rfl (Nat.zero_lt_succ _) (arr_len h.e6) (arr_pure _) rfl rfl (by rw [List.length_map]; show _ * 48 ≤ _; omega) (by rw [List.length_map]; simp only [maxLen]; omega)) ?_
 refine dq 24 (q_nilCheck rfl rfl rfl) ?_
 refine df 25 tok ?_
 refine DOps.w rfl rfl (o_store1 tok rfl rfl rfl rfl rfl rfl rfl rfl rfl (slA_cells _ _) (by decide) (slA_cell1 _ _) (by intro h; cases h)) ?_
 refine DOps.nil (by kernel_rfl) ?_
 refine ⟨[], trivial, rfl, ?_⟩
 exact HSub.put (HSub.put (HSub.put (HSub.put (HSub.put (HSub.put (HSub.none _) rfl) rfl) rfl) (by show _ = some (AObj.row false 4 [[.ptr 4 1 0 0, vaA 7 (valC (w.vals)), slA 11 ((w.effs ++ [_]).map (arrAV .i64)), .int .i64 w.time]]); rw [List.map_append]; rfl)) rfl) (by show _ = some (slO 6 ((w.effs ++ [_]).map (arrAV .i64))); rw [List.map_append]; rfl)

set_option maxHeartbeats 1000000 in
set_option maxRecDepth 100000 in
theorem unknownb_ok (first : Int) (R m : Nat) (w : VW) (h : VOk first R m w) (hm : m ≤ 90000) : ACall Try.prog 48 [.ptr 8 1 0 0] (hput (hput (hput (hput (hput (hput hNew 3 (.map (kvsA .i64 (vmap first ((w).K))))) 4 (.row false 3 [[.int .i64 first, .map 3, slA 9 (((w).K).map (arrAV .i64))]])) 9 (slO 4 (((w).K).map (arrAV .i64)))) 8 (.row false 4 [[.ptr 4 1 0 0, vaA 7 (valC ((w).vals)), slA 11 (((w).effs).map (arrAV .i64)), .int .i64 ((w).time)]])) 7 (vaO (valC ((w).vals)))) 11 (slO 6 (((w).effs).map (arrAV .i64)))) (fun r h' => r = .int .i64 (vunk first w).1 ∧ HSub (hput (hput (hput (hput (hput (hput hNone 3 (.map (kvsA .i64 (vmap first ((vunk first w).2))))) 4 (.row false 3 [[.int .i64 first, .map 3, slA 9 (((vunk first w).2).map (arrAV .i64))]])) 9 (slO 4 (((vunk first w).2).map (arrAV .i64)))) 8 (.row false 4 [[.ptr 4 1 0 0, vaA 7 (valC ((w).vals)), slA 11 (((w).effs).map (arrAV .i64)), .int .i64 ((w).time)]])) 7 (vaO (valC ((w).vals)))) 11 (slO 6 (((w).effs).map (arrAV .i64)))) h') := by
 have hkl := h.kl
 refine ACall.of_body (n := 14) tok Try.func48 rfl rfl ?_
 refine AGo.seq ?_
 refine AGo.region ?_
 refine aa 2 ?_
 refine AOps.nil ?_
 refine AGo.seq ?_
 refine AGo.draw mix ?_
 refine dm 3 ?_
 refine dq 4 (q_nilCheck rfl rfl rfl) ?_
 refine df 5 tok ?_
 refine dl 6 tok ?_
 refine dm 7 ?_
 refine dq 8 (q_nilCheck rfl rfl rfl) ?_
 refine df 9 tok ?_
 refine dl 10 tok ?_
 refine dq 11 (q_lenJ tok rfl rfl rfl rfl) ?_
 refine dq 12 (q_build_arr tok rfl rfl rfl rfl rfl rfl (by decide) rfl rfl) ?_
 refine dx 13 (o_call (hc := (hput (hput (hput hNew 3 (.map (kvsA .i64 (vmap first (w.K))))) 4 (.row false 3 [[.int .i64 first, .map 3, slA 9 ((w.K).map (arrAV .i64))]])) 9 (slO 4 ((w.K).map (arrAV .i64))))) (hw := (hput (hput (hput hNone 3 (.map (kvsA .i64 (vmap first ((vunk first w).2))))) 4 (.row false 3 [[.int .i64 first, .map 3, slA 9 (((vunk first w).2).map (arrAV .i64))]])) 9 (slO 4 (((vunk first w).2).map (arrAV .i64))))) [9, 4, 3] [(3, (.map (kvsA .i64 (vmap first ((vunk first w).2))))), (4, (.row false 3 [[.int .i64 first, .map 3, slA 9 (((vunk first w).2).map (arrAV .i64))]])), (9, (slO 4 (((vunk first w).2).map (arrAV .i64))))] rfl Try.func45 (by kernel_rfl) rfl rfl rfl ⟨⟨_, rfl, (by first | rfl | exact slO_avoid _ _ | exact vaO_avoid _ | exact tab_avoid _ _ rfl rfl | exact wlk_avoid _ _ _ rfl rfl rfl)⟩, ⟨_, rfl, (by first | rfl | exact slO_avoid _ _ | exact vaO_avoid _ | exact tab_avoid _ _ rfl rfl | exact wlk_avoid _ _ _ rfl rfl rfl)⟩, ⟨_, rfl, (by first | rfl | exact slO_avoid _ _ | exact vaO_avoid _ | exact tab_avoid _ _ rfl rfl | exact wlk_avoid _ _ _ rfl rfl rfl)⟩, trivial⟩ rfl (hres_cons rfl (hres_cons rfl (hres_cons rfl (hres_nil _)))) ⟨⟨_, rfl, rfl, (by first | rfl | exact slO_avoid _ _ | exact vaO_avoid _ | exact tab_avoid _ _ rfl rfl | exact wlk_avoid _ _ _ rfl rfl rfl)⟩, ⟨_, rfl, rfl, (by first | rfl | exact slO_avoid _ _ | exact vaO_avoid _ | exact tab_avoid _ _ rfl rfl | exact wlk_avoid _ _ _ rfl rfl rfl)⟩, ⟨_, rfl, rfl, (by first | rfl | exact slO_avoid _ _ | exact vaO_avoid _ | exact tab_avoid _ _ rfl rfl | exact wlk_avoid _ _ _ rfl rfl rfl)⟩, trivial⟩ rfl ((by rw [List.length_map]; exact number_ok first w.K h.f h.k4 (by omega) 4 (w.effs.length : Int) 0 0))) ?_
 refine da 2 ?_
 refine DOps.nil (by kernel_rfl) ?_
 refine AGo.ret ?_
 refine ⟨[_], ⟨rfl, trivial⟩, rfl, ?_⟩
 exact HSub.put (HSub.put (HSub.put (HSub.put (HSub.put (HSub.put (HSub.none _) rfl) rfl) rfl) rfl) rfl) rfl

theorem bin_db (first : Int) (w : VW) (t : Tac) : w.bin first t = ⟨(vapply first w.K t.k (rget w.vals t.a) (rget w.vals t.b)).2, rset w.vals t.d (vapply first w.K t.k (rget w.vals t.a) (rget w.vals t.b)).1, (w.div first t).effs, w.time⟩ := by
  cases hr : vrisky first w t with
  | true => rw [bin_yes hr]; simp only [VW.div, hr, cond_true]
  | false => rw [bin_no hr]; simp only [VW.div, hr, cond_false]
set_option maxHeartbeats 2000000 in
set_option maxRecDepth 100000 in
theorem binaryb_ok (first : Int) (R m : Nat) (w : VW) (h : VOk first R m w) (hm : m ≤ 90000) (t : Tac) (hd : 0 ≤ t.d ∧ t.d < R) (ha : 0 ≤ t.a ∧ t.a < R) (hb : 0 ≤ t.b ∧ t.b < R) : ACall Try.prog 46 [.ptr 8 1 0 0, .agg t.cells] (hput (hput (hput (hput (hput (hput hNew 3 (.map (kvsA .i64 (vmap first ((w).K))))) 4 (.row false 3 [[.int .i64 first, .map 3, slA 9 (((w).K).map (arrAV .i64))]])) 9 (slO 4 (((w).K).map (arrAV .i64)))) 8 (.row false 4 [[.ptr 4 1 0 0, vaA 7 (valC ((w).vals)), slA 11 (((w).effs).map (arrAV .i64)), .int .i64 ((w).time)]])) 7 (vaO (valC ((w).vals)))) 11 (slO 6 (((w).effs).map (arrAV .i64)))) (fun r h' => r = .tup [] ∧ HSub (hput (hput (hput (hput (hput (hput hNone 3 (.map (kvsA .i64 (vmap first (((w.bin first t)).K))))) 4 (.row false 3 [[.int .i64 first, .map 3, slA 9 ((((w.bin first t)).K).map (arrAV .i64))]])) 9 (slO 4 ((((w.bin first t)).K).map (arrAV .i64)))) 8 (.row false 4 [[.ptr 4 1 0 0, vaA 7 (valC (((w.bin first t)).vals)), slA 11 ((((w.bin first t)).effs).map (arrAV .i64)), .int .i64 (((w.bin first t)).time)]])) 7 (vaO (valC (((w.bin first t)).vals)))) 11 (slO 6 ((((w.bin first t)).effs).map (arrAV .i64)))) h') := by
 have hel := h.el
 have hkl := h.kl
 have hxd := h.at hd
 have hxa := h.at ha
 have hxb := h.at hb
 refine ACall.of_body (n := 77) tok Try.func46 rfl rfl ?_
 refine AGo.seq ?_
 refine AGo.region ?_
 refine ax 3 (o_box (sz := 8) 12 rfl rfl rfl rfl (Nat.zero_lt_succ _) rfl) ?_
 refine AOps.nil ?_
 refine AGo.seq ?_
 refine AGo.draw mix ?_
 refine dm 8 ?_
 refine dq 9 (q_nilCheck rfl rfl rfl) ?_
 refine df 10 tok ?_
 refine dl 11 tok ?_
 refine df 12 tok ?_
 refine dl 13 tok ?_
 refine dq 14 (q_indexV tok rfl rfl rfl rfl rfl rfl rfl rfl hxa.1 hxa.2.2.1) ?_
 refine dq 15 (q_load tok rfl rfl rfl (ptsV rfl (valC_get ⟨hxa.1, hxa.2.1⟩)) rfl) ?_
 refine dm 16 ?_
 refine dq 17 (q_nilCheck rfl rfl rfl) ?_
 refine df 18 tok ?_
 refine dl 19 tok ?_
 refine df 20 tok ?_
 refine dl 21 tok ?_
 refine dq 22 (q_indexV tok rfl rfl rfl rfl rfl rfl rfl rfl hxb.1 hxb.2.2.1) ?_
 refine dq 23 (q_load tok rfl rfl rfl (ptsV rfl (valC_get ⟨hxb.1, hxb.2.1⟩)) rfl) ?_
 refine da 4 ?_
 refine da 5 ?_
 refine DOps.nil (by kernel_rfl) ?_
 refine AGo.seq ?_
 refine AGo.seq ?_
 refine AGo.join (γ := Unit) (fun _u => ⟨77, (eput (eput (eput (eput (eput eNew 0 (.ptr 8 1 0 0)) 3 (.ptr 12 1 0 0)) 4 (.int .i64 (rget w.vals t.a))) 5 (.int .i64 (rget w.vals t.b))) 31 (.bool (t.k == 7 || t.k == 8))), (hput (hput (hput (hput (hput (hput (hput (hFrom 13) 12 (.row false 8 [t.cells])) 3 (.map (kvsA .i64 (vmap first ((w).K))))) 4 (.row false 3 [[.int .i64 first, .map 3, slA 9 (((w).K).map (arrAV .i64))]])) 9 (slO 4 (((w).K).map (arrAV .i64)))) 8 (.row false 4 [[.ptr 4 1 0 0, vaA 7 (valC ((w).vals)), slA 11 (((w).effs).map (arrAV .i64)), .int .i64 ((w).time)]])) 7 (vaO (valC ((w).vals)))) 11 (slO 6 (((w).effs).map (arrAV .i64))))⟩) (fun _u => True) ?_ ?_
 ·
  refine AGo.region ?_
  refine af 24 tok ?_
  refine al 25 tok ?_
  refine aq 26 (q_bin rfl rfl rfl rfl) ?_
  refine am 27 ?_
  refine AOps.split 27 rfl (fun hb1 => ?_) (fun hb1 => ?_)
  ·
   refine ak 28 ?_
   refine ak 29 ?_
   refine ak 30 ?_
   refine aq 31 (q_pick_true true rfl rfl rfl rfl) ?_
   refine AOps.nil ?_
   exact ⟨(), Sub.mk' (by repeat (first | exact ESub.new _ | refine ESub.put ?_ (by first | rfl | exact congrArg (fun c => some (AV.bool c)) (by simp_all)))) (by repeat (first | exact HSub.refl _ | exact HSub.none _ | exact HSub.from_new _ | exact HSub.from_from (by first | decide | omega | (dsimp only; omega)) | refine HSub.put ?_ (by rfl) | refine HSub.from_put ?_ (by first | decide | omega | (dsimp only; omega)) | refine HSub.from_rm ?_ (by decide))), trivial⟩
  ·
   refine af 28 tok ?_
   refine al 29 tok ?_
   refine aq 30 (q_bin rfl rfl rfl rfl) ?_
   refine aq 31 (q_pick_false false rfl rfl rfl rfl) ?_
   refine AOps.nil ?_
   exact ⟨(), Sub.mk' (by repeat (first | exact ESub.new _ | refine ESub.put ?_ (by first | rfl | exact congrArg (fun c => some (AV.bool c)) (by simp_all)))) (by repeat (first | exact HSub.refl _ | exact HSub.none _ | exact HSub.from_new _ | exact HSub.from_from (by first | decide | omega | (dsimp only; omega)) | refine HSub.put ?_ (by rfl) | refine HSub.from_put ?_ (by first | decide | omega | (dsimp only; omega)) | refine HSub.from_rm ?_ (by decide))), trivial⟩
 intro _u _
 refine AGo.join (γ := Unit) (fun _u => ⟨77, (eput (eput (eput (eput eNew 0 (.ptr 8 1 0 0)) 3 (.ptr 12 1 0 0)) 4 (.int .i64 (rget w.vals t.a))) 5 (.int .i64 (rget w.vals t.b))), (hput (hput (hput (hput (hput (hput (hput (hFrom 13) 12 (.row false 8 [t.cells])) 3 (.map (kvsA .i64 (vmap first (w.K))))) 4 (.row false 3 [[.int .i64 first, .map 3, slA 9 ((w.K).map (arrAV .i64))]])) 9 (slO 4 ((w.K).map (arrAV .i64)))) 8 (.row false 4 [[.ptr 4 1 0 0, vaA 7 (valC ((w).vals)), slA 11 (((w.div first t).effs).map (arrAV .i64)), .int .i64 (w.time)]])) 7 (vaO (valC ((w).vals)))) 11 (slO 6 (((w.div first t).effs).map (arrAV .i64))))⟩) (fun _u => True) ?_ ?_
 ·
  refine AGo.split 31 rfl (fun hb2 => ?_) (fun hb2 => ?_)
  ·
   refine AGo.cond_true true rfl rfl ?_
   refine AGo.seq ?_
   refine AGo.region ?_
   refine am 33 ?_
   refine aq 34 (q_nilCheck rfl rfl rfl) ?_
   refine af 35 tok ?_
   refine al 36 tok ?_
   refine am 37 ?_
   refine ax 38 (o_call (hc := (hput (hput (hput hNew 3 (.map (kvsA .i64 (vmap first (w.K))))) 4 (.row false 3 [[.int .i64 first, .map 3, slA 9 ((w.K).map (arrAV .i64))]])) 9 (slO 4 ((w.K).map (arrAV .i64))))) (hw := (hput (hput (hput hNone 3 (.map (kvsA .i64 (vmap first (w.K))))) 4 (.row false 3 [[.int .i64 first, .map 3, slA 9 ((w.K).map (arrAV .i64))]])) 9 (slO 4 ((w.K).map (arrAV .i64))))) [9, 4, 3] [(3, (.map (kvsA .i64 (vmap first (w.K))))), (4, (.row false 3 [[.int .i64 first, .map 3, slA 9 ((w.K).map (arrAV .i64))]])), (9, (slO 4 ((w.K).map (arrAV .i64))))] rfl Try.func56 (by kernel_rfl) rfl rfl rfl ⟨⟨_, rfl, (by first | rfl | exact slO_avoid _ _ | exact vaO_avoid _ | exact tab_avoid _ _ rfl rfl | exact wlk_avoid _ _ _ rfl rfl rfl)⟩, ⟨_, rfl, (by first | rfl | exact slO_avoid _ _ | exact vaO_avoid _ | exact tab_avoid _ _ rfl rfl | exact wlk_avoid _ _ _ rfl rfl rfl)⟩, ⟨_, rfl, (by first | rfl | exact slO_avoid _ _ | exact vaO_avoid _ | exact tab_avoid _ _ rfl rfl | exact wlk_avoid _ _ _ rfl rfl rfl)⟩, trivial⟩ rfl (hres_cons rfl (hres_cons rfl (hres_cons rfl (hres_nil _)))) ⟨⟨_, rfl, rfl, (by first | rfl | exact slO_avoid _ _ | exact vaO_avoid _ | exact tab_avoid _ _ rfl rfl | exact wlk_avoid _ _ _ rfl rfl rfl)⟩, ⟨_, rfl, rfl, (by first | rfl | exact slO_avoid _ _ | exact vaO_avoid _ | exact tab_avoid _ _ rfl rfl | exact wlk_avoid _ _ _ rfl rfl rfl)⟩, ⟨_, rfl, rfl, (by first | rfl | exact slO_avoid _ _ | exact vaO_avoid _ | exact tab_avoid _ _ rfl rfl | exact wlk_avoid _ _ _ rfl rfl rfl)⟩, trivial⟩ rfl (constant_ok first w.K h.f h.k4 (by omega) (rget w.vals t.b) hxb.2.2.2)) ?_
   refine am 32 ?_
   refine aq 39 (q_extract rfl rfl rfl) ?_
   refine aq 40 (q_extract rfl rfl rfl) ?_
   refine aa 6 ?_
   refine aa 7 ?_
   refine AOps.nil ?_
   refine AGo.seq ?_
   refine AGo.region ?_
   refine am 41 ?_
   refine aq 42 (q_not rfl rfl) ?_
   refine am 43 ?_
   refine AOps.split 43 rfl (fun hb3 => ?_) (fun hb3 => ?_)
   ·
    refine ak 44 ?_
    refine ak 45 ?_
    refine aq 46 (q_pick_true true rfl rfl rfl rfl) ?_
    refine AOps.nil ?_
    refine AGo.cond_true true rfl rfl ?_
    refine AGo.draw mix ?_
    refine dm 47 ?_
    refine dm 48 ?_
    refine dq 49 (q_nilCheck rfl rfl rfl) ?_
    refine df 50 tok ?_
    refine dl 51 tok ?_
    refine df 52 tok ?_
    refine dl 53 tok ?_
    refine dm 54 ?_
    refine dm 55 ?_
    refine dq 56 (q_build_arr tok rfl rfl rfl rfl rfl rfl (by decide) rfl rfl) ?_
    refine dx 57 (o_lit' tok rfl rfl rfl rfl rfl rfl (by decide) rfl rfl rfl rfl rfl rfl) ?_
    refine dx 58 (o_append1J tok (b := 11) (es := ((w.effs).map (arrAV .i64))) rfl rfl rfl rfl rfl rfl rfl rfl rfl rfl rfl (Nat.zero_lt_succ _) (arr_len h.e6) (arr_pure _) rfl rfl (by rw [List.length_map]; show _ * 48 ≤ _; omega) (by rw [List.length_map]; simp only [maxLen]; omega)) ?_
    refine dq 59 (q_nilCheck rfl rfl rfl) ?_
    refine df 60 tok ?_
    refine DOps.w rfl rfl (o_store1 tok rfl rfl rfl rfl rfl rfl rfl rfl rfl (slA_cells _ _) (by decide) (slA_cell1 _ _) (by intro h; cases h)) ?_
    refine DOps.nil (by kernel_rfl) ?_
    exact ⟨(), Sub.mk' (by repeat (first | exact ESub.new _ | refine ESub.put ?_ (by rfl))) (by repeat (first | exact HSub.refl _ | exact HSub.none _ | exact HSub.from_new _ | exact HSub.from_from (by first | decide | omega | (dsimp only; omega)) | refine HSub.put ?_ (by first | rfl | ((have hr : vrisky first w t = true := by (first | (simp [vrisky, *]; done) | (simp_all [vrisky]; done))); simp only [VW.div, hr, cond_true, cond_false, List.map_append]; rfl) | ((have hr : vrisky first w t = false := by (first | (simp [vrisky, *]; done) | (simp_all [vrisky]; done))); simp only [VW.div, hr, cond_true, cond_false, List.map_append]; rfl)) | refine HSub.from_put ?_ (by first | decide | omega | (dsimp only; omega)) | refine HSub.from_rm ?_ (by decide))), trivial⟩
   ·
    refine am 44 ?_
    refine aq 45 (q_bin rfl rfl rfl rfl) ?_
    refine aq 46 (q_pick_false false rfl rfl rfl rfl) ?_
    refine AOps.nil ?_
    refine AGo.split 46 rfl (fun hb4 => ?_) (fun hb4 => ?_)
    ·
     refine AGo.cond_true true rfl rfl ?_
     refine AGo.draw mix ?_
     refine dm 47 ?_
     refine dm 48 ?_
     refine dq 49 (q_nilCheck rfl rfl rfl) ?_
     refine df 50 tok ?_
     refine dl 51 tok ?_
     refine df 52 tok ?_
     refine dl 53 tok ?_
     refine dm 54 ?_
     refine dm 55 ?_
     refine dq 56 (q_build_arr tok rfl rfl rfl rfl rfl rfl (by decide) rfl rfl) ?_
     refine dx 57 (o_lit' tok rfl rfl rfl rfl rfl rfl (by decide) rfl rfl rfl rfl rfl rfl) ?_
     refine dx 58 (o_append1J tok (b := 11) (es := ((w.effs).map (arrAV .i64))) rfl rfl rfl rfl rfl rfl rfl rfl rfl rfl rfl (Nat.zero_lt_succ _) (arr_len h.e6) (arr_pure _) rfl rfl (by rw [List.length_map]; show _ * 48 ≤ _; omega) (by rw [List.length_map]; simp only [maxLen]; omega)) ?_
     refine dq 59 (q_nilCheck rfl rfl rfl) ?_
     refine df 60 tok ?_
     refine DOps.w rfl rfl (o_store1 tok rfl rfl rfl rfl rfl rfl rfl rfl rfl (slA_cells _ _) (by decide) (slA_cell1 _ _) (by intro h; cases h)) ?_
     refine DOps.nil (by kernel_rfl) ?_
     exact ⟨(), Sub.mk' (by repeat (first | exact ESub.new _ | refine ESub.put ?_ (by rfl))) (by repeat (first | exact HSub.refl _ | exact HSub.none _ | exact HSub.from_new _ | exact HSub.from_from (by first | decide | omega | (dsimp only; omega)) | refine HSub.put ?_ (by first | rfl | ((have hr : vrisky first w t = true := by (first | (simp [vrisky, *]; done) | (simp_all [vrisky]; done))); simp only [VW.div, hr, cond_true, cond_false, List.map_append]; rfl) | ((have hr : vrisky first w t = false := by (first | (simp [vrisky, *]; done) | (simp_all [vrisky]; done))); simp only [VW.div, hr, cond_true, cond_false, List.map_append]; rfl)) | refine HSub.from_put ?_ (by first | decide | omega | (dsimp only; omega)) | refine HSub.from_rm ?_ (by decide))), trivial⟩
    ·
     refine AGo.cond_false false rfl rfl ?_
     refine AGo.skip ?_
     exact ⟨(), Sub.mk' (by repeat (first | exact ESub.new _ | refine ESub.put ?_ (by rfl))) (by repeat (first | exact HSub.refl _ | exact HSub.none _ | exact HSub.from_new _ | exact HSub.from_from (by first | decide | omega | (dsimp only; omega)) | refine HSub.put ?_ (by first | rfl | ((have hr : vrisky first w t = true := by (first | (simp [vrisky, *]; done) | (simp_all [vrisky]; done))); simp only [VW.div, hr, cond_true, cond_false, List.map_append]; rfl) | ((have hr : vrisky first w t = false := by (first | (simp [vrisky, *]; done) | (simp_all [vrisky]; done))); simp only [VW.div, hr, cond_true, cond_false, List.map_append]; rfl)) | refine HSub.from_put ?_ (by first | decide | omega | (dsimp only; omega)) | refine HSub.from_rm ?_ (by decide))), trivial⟩
  ·
   refine AGo.cond_false false rfl rfl ?_
   refine AGo.skip ?_
   exact ⟨(), Sub.mk' (by repeat (first | exact ESub.new _ | refine ESub.put ?_ (by rfl))) (by repeat (first | exact HSub.refl _ | exact HSub.none _ | exact HSub.from_new _ | exact HSub.from_from (by first | decide | omega | (dsimp only; omega)) | refine HSub.put ?_ (by first | rfl | ((have hr : vrisky first w t = true := by (first | (simp [vrisky, *]; done) | (simp_all [vrisky]; done))); simp only [VW.div, hr, cond_true, cond_false, List.map_append]; rfl) | ((have hr : vrisky first w t = false := by (first | (simp [vrisky, *]; done) | (simp_all [vrisky]; done))); simp only [VW.div, hr, cond_true, cond_false, List.map_append]; rfl)) | refine HSub.from_put ?_ (by first | decide | omega | (dsimp only; omega)) | refine HSub.from_rm ?_ (by decide))), trivial⟩
 intro _u _
 refine AGo.draw mix ?_
 refine dm 61 ?_
 refine dq 62 (q_nilCheck rfl rfl rfl) ?_
 refine df 63 tok ?_
 refine dl 64 tok ?_
 refine df 65 tok ?_
 refine dl 66 tok ?_
 refine dm 67 ?_
 refine dq 68 (q_nilCheck rfl rfl rfl) ?_
 refine df 69 tok ?_
 refine dl 70 tok ?_
 refine df 71 tok ?_
 refine dl 72 tok ?_
 refine dm 73 ?_
 refine dm 74 ?_
 refine dx 75 (o_call (hc := (hput (hput (hput hNew 3 (.map (kvsA .i64 (vmap first (w.K))))) 4 (.row false 3 [[.int .i64 first, .map 3, slA 9 ((w.K).map (arrAV .i64))]])) 9 (slO 4 ((w.K).map (arrAV .i64))))) (hw := (hput (hput (hput hNone 3 (.map (kvsA .i64 (vmap first ((vapply first w.K t.k (rget w.vals t.a) (rget w.vals t.b)).2))))) 4 (.row false 3 [[.int .i64 first, .map 3, slA 9 (((vapply first w.K t.k (rget w.vals t.a) (rget w.vals t.b)).2).map (arrAV .i64))]])) 9 (slO 4 (((vapply first w.K t.k (rget w.vals t.a) (rget w.vals t.b)).2).map (arrAV .i64))))) [9, 4, 3] [(3, (.map (kvsA .i64 (vmap first ((vapply first w.K t.k (rget w.vals t.a) (rget w.vals t.b)).2))))), (4, (.row false 3 [[.int .i64 first, .map 3, slA 9 (((vapply first w.K t.k (rget w.vals t.a) (rget w.vals t.b)).2).map (arrAV .i64))]])), (9, (slO 4 (((vapply first w.K t.k (rget w.vals t.a) (rget w.vals t.b)).2).map (arrAV .i64))))] rfl Try.func57 (by kernel_rfl) rfl rfl rfl ⟨⟨_, rfl, (by first | rfl | exact slO_avoid _ _ | exact vaO_avoid _ | exact tab_avoid _ _ rfl rfl | exact wlk_avoid _ _ _ rfl rfl rfl)⟩, ⟨_, rfl, (by first | rfl | exact slO_avoid _ _ | exact vaO_avoid _ | exact tab_avoid _ _ rfl rfl | exact wlk_avoid _ _ _ rfl rfl rfl)⟩, ⟨_, rfl, (by first | rfl | exact slO_avoid _ _ | exact vaO_avoid _ | exact tab_avoid _ _ rfl rfl | exact wlk_avoid _ _ _ rfl rfl rfl)⟩, trivial⟩ rfl (hres_cons rfl (hres_cons rfl (hres_cons rfl (hres_nil _)))) ⟨⟨_, rfl, rfl, (by first | rfl | exact slO_avoid _ _ | exact vaO_avoid _ | exact tab_avoid _ _ rfl rfl | exact wlk_avoid _ _ _ rfl rfl rfl)⟩, ⟨_, rfl, rfl, (by first | rfl | exact slO_avoid _ _ | exact vaO_avoid _ | exact tab_avoid _ _ rfl rfl | exact wlk_avoid _ _ _ rfl rfl rfl)⟩, ⟨_, rfl, rfl, (by first | rfl | exact slO_avoid _ _ | exact vaO_avoid _ | exact tab_avoid _ _ rfl rfl | exact wlk_avoid _ _ _ rfl rfl rfl)⟩, trivial⟩ rfl (vapply_ok' first w.K h.f h.k4 (by omega) t.k (rget w.vals t.a) (rget w.vals t.b) hxa.2.2.2 hxb.2.2.2)) ?_
 refine dq 76 (q_indexV tok rfl rfl rfl rfl rfl rfl rfl rfl hxd.1 hxd.2.2.1) ?_
 refine DOps.w rfl rfl (o_storeV tok rfl rfl rfl rfl rfl rfl rfl (by have h1 := hxd.2.2.1; have h0 := hxd.1; omega) (valC_one _) rfl rfl rfl) ?_
 refine DOps.nil (by kernel_rfl) ?_
 refine ⟨[], trivial, rfl, ?_⟩
 rw [bin_db]
 exact HSub.put (HSub.put (HSub.put (HSub.put (HSub.put (HSub.put (HSub.none _) rfl) rfl) rfl) (by show _ = some (AObj.row false 4 [[.ptr 4 1 0 0, vaA 7 (valC (rset w.vals t.d _)), slA 11 ((w.div first t).effs.map (arrAV .i64)), .int .i64 w.time]]); rw [valC_vaA]; rfl)) (by show _ = some (vaO (valC (rset w.vals t.d _))); rw [valC_set]; rfl)) rfl

set_option maxHeartbeats 2000000 in
set_option maxRecDepth 100000 in
theorem vstepb_ok (first : Int) (R m : Nat) (w : VW) (h : VOk first R m w) (hm : m ≤ 80000) (t : Tac) (ht : TacV t R) : ACall Try.prog 35 [.ptr 8 1 0 0, .agg t.cells] (hput (hput (hput (hput (hput (hput hNew 3 (.map (kvsA .i64 (vmap first ((w).K))))) 4 (.row false 3 [[.int .i64 first, .map 3, slA 9 (((w).K).map (arrAV .i64))]])) 9 (slO 4 (((w).K).map (arrAV .i64)))) 8 (.row false 4 [[.ptr 4 1 0 0, vaA 7 (valC ((w).vals)), slA 11 (((w).effs).map (arrAV .i64)), .int .i64 ((w).time)]])) 7 (vaO (valC ((w).vals)))) 11 (slO 6 (((w).effs).map (arrAV .i64)))) (fun r h' => r = .tup [] ∧ HSub (hput (hput (hput (hput (hput (hput hNone 3 (.map (kvsA .i64 (vmap first (((w.step first t)).K))))) 4 (.row false 3 [[.int .i64 first, .map 3, slA 9 ((((w.step first t)).K).map (arrAV .i64))]])) 9 (slO 4 ((((w.step first t)).K).map (arrAV .i64)))) 8 (.row false 4 [[.ptr 4 1 0 0, vaA 7 (valC (((w.step first t)).vals)), slA 11 ((((w.step first t)).effs).map (arrAV .i64)), .int .i64 (((w.step first t)).time)]])) 7 (vaO (valC (((w.step first t)).vals)))) 11 (slO 6 ((((w.step first t)).effs).map (arrAV .i64)))) h') := by
 have hel := h.el
 have hkl := h.kl
 have htl := h.tl
 refine ACall.of_body (n := 148) tok Try.func35 rfl rfl ?_
 refine AGo.seq ?_
 refine AGo.region ?_
 refine ax 3 (o_box (sz := 8) 12 rfl rfl rfl rfl (Nat.zero_lt_succ _) rfl) ?_
 refine AOps.nil ?_
 refine AGo.seq ?_
 refine AGo.region ?_
 refine am 5 ?_
 refine aq 6 (q_nilCheck rfl rfl rfl) ?_
 refine af 7 tok ?_
 refine al 8 tok ?_
 refine aa 4 ?_
 refine AOps.nil ?_
 refine AGo.seq ?_
 refine AGo.region ?_
 refine af 9 tok ?_
 refine al 10 tok ?_
 refine AOps.nil ?_
 refine AGo.block ?_
 refine AGo.seq ?_
 refine AGo.region ?_
 refine aq 12 (q_bin rfl rfl rfl rfl) ?_
 refine aa 11 ?_
 refine AOps.nil ?_
 refine AGo.split 11 rfl (fun hb1 => ?_) (fun hb1 => ?_)
 ·
  refine AGo.cond_true true rfl rfl ?_
  have ho : t.op = 1 := by simpa using hb1
  have hxd := h.at (ht.d (by rw [ho]; rfl))
  
  refine AGo.draw mix ?_
  refine dm 13 ?_
  refine df 14 tok ?_
  refine dl 15 tok ?_
  refine dm 16 ?_
  refine dq 17 (q_nilCheck rfl rfl rfl) ?_
  refine df 18 tok ?_
  refine dl 19 tok ?_
  refine df 20 tok ?_
  refine dl 21 tok ?_
  refine dq 22 (q_convTo tok rfl rfl rfl rfl rfl (r := t.n) (by obtain ⟨h1, h2⟩ := ht.n; exact wrap_i64 (by omega) (by omega))) ?_
  refine dq 23 (q_build_arr tok rfl rfl rfl rfl rfl rfl (by decide) rfl rfl) ?_
  refine dx 24 (o_call (hc := (hput (hput (hput hNew 3 (.map (kvsA .i64 (vmap first (w.K))))) 4 (.row false 3 [[.int .i64 first, .map 3, slA 9 ((w.K).map (arrAV .i64))]])) 9 (slO 4 ((w.K).map (arrAV .i64))))) (hw := (hput (hput (hput hNone 3 (.map (kvsA .i64 (vmap first ((vnum first w.K [1, t.n, 0, 0]).2))))) 4 (.row false 3 [[.int .i64 first, .map 3, slA 9 (((vnum first w.K [1, t.n, 0, 0]).2).map (arrAV .i64))]])) 9 (slO 4 (((vnum first w.K [1, t.n, 0, 0]).2).map (arrAV .i64))))) [9, 4, 3] [(3, (.map (kvsA .i64 (vmap first ((vnum first w.K [1, t.n, 0, 0]).2))))), (4, (.row false 3 [[.int .i64 first, .map 3, slA 9 (((vnum first w.K [1, t.n, 0, 0]).2).map (arrAV .i64))]])), (9, (slO 4 (((vnum first w.K [1, t.n, 0, 0]).2).map (arrAV .i64))))] rfl Try.func45 (by kernel_rfl) rfl rfl rfl ⟨⟨_, rfl, (by first | rfl | exact slO_avoid _ _ | exact vaO_avoid _ | exact tab_avoid _ _ rfl rfl | exact wlk_avoid _ _ _ rfl rfl rfl)⟩, ⟨_, rfl, (by first | rfl | exact slO_avoid _ _ | exact vaO_avoid _ | exact tab_avoid _ _ rfl rfl | exact wlk_avoid _ _ _ rfl rfl rfl)⟩, ⟨_, rfl, (by first | rfl | exact slO_avoid _ _ | exact vaO_avoid _ | exact tab_avoid _ _ rfl rfl | exact wlk_avoid _ _ _ rfl rfl rfl)⟩, trivial⟩ rfl (hres_cons rfl (hres_cons rfl (hres_cons rfl (hres_nil _)))) ⟨⟨_, rfl, rfl, (by first | rfl | exact slO_avoid _ _ | exact vaO_avoid _ | exact tab_avoid _ _ rfl rfl | exact wlk_avoid _ _ _ rfl rfl rfl)⟩, ⟨_, rfl, rfl, (by first | rfl | exact slO_avoid _ _ | exact vaO_avoid _ | exact tab_avoid _ _ rfl rfl | exact wlk_avoid _ _ _ rfl rfl rfl)⟩, ⟨_, rfl, rfl, (by first | rfl | exact slO_avoid _ _ | exact vaO_avoid _ | exact tab_avoid _ _ rfl rfl | exact wlk_avoid _ _ _ rfl rfl rfl)⟩, trivial⟩ rfl (number_ok first w.K h.f h.k4 (by omega) (1) (t.n) (0) (0))) ?_
  refine dq 25 (q_indexV tok rfl rfl rfl rfl rfl rfl rfl rfl hxd.1 hxd.2.2.1) ?_
  refine DOps.w rfl rfl (o_storeV tok rfl rfl rfl rfl rfl rfl rfl (by have h1 := hxd.2.2.1; have h0 := hxd.1; omega) (valC_one _) rfl rfl rfl) ?_
  refine DOps.nil (by kernel_rfl) ?_
  refine ⟨[], trivial, rfl, ?_⟩
  rw [vstep1 ho]
  exact HSub.put (HSub.put (HSub.put (HSub.put (HSub.put (HSub.put (HSub.none _) rfl) rfl) rfl) (by show _ = some (AObj.row false 4 [[.ptr 4 1 0 0, vaA 7 (valC (rset w.vals t.d _)), slA 11 (w.effs.map (arrAV .i64)), .int .i64 w.time]]); rw [valC_vaA]; rfl)) (by show _ = some (vaO (valC (rset w.vals t.d _))); rw [valC_set]; rfl)) rfl
 ·
  refine AGo.cond_false false rfl rfl ?_
  refine AGo.seq ?_
  refine AGo.region ?_
  refine aq 27 (q_bin rfl rfl rfl rfl) ?_
  refine aa 26 ?_
  refine AOps.nil ?_
  refine AGo.split 26 rfl (fun hb2 => ?_) (fun hb2 => ?_)
  ·
   refine AGo.cond_true true rfl rfl ?_
   have ho : t.op = 2 := by simpa using hb2
   have hxd := h.at (ht.d (by rw [ho]; rfl))
   have hxa := h.at (ht.a (.inl (by rw [ho]; rfl)))
   
   refine AGo.draw mix ?_
   refine dm 28 ?_
   refine df 29 tok ?_
   refine dl 30 tok ?_
   refine dm 31 ?_
   refine df 32 tok ?_
   refine dl 33 tok ?_
   refine dq 34 (q_indexV tok rfl rfl rfl rfl rfl rfl rfl rfl hxa.1 hxa.2.2.1) ?_
   refine dq 35 (q_load tok rfl rfl rfl (ptsV rfl (valC_get ⟨hxa.1, hxa.2.1⟩)) rfl) ?_
   refine dq 36 (q_indexV tok rfl rfl rfl rfl rfl rfl rfl rfl hxd.1 hxd.2.2.1) ?_
   refine DOps.w rfl rfl (o_storeV tok rfl rfl rfl rfl rfl rfl rfl (by have h1 := hxd.2.2.1; have h0 := hxd.1; omega) (valC_one _) rfl rfl rfl) ?_
   refine DOps.nil (by kernel_rfl) ?_
   refine ⟨[], trivial, rfl, ?_⟩
   rw [vstep2 ho]
   exact HSub.put (HSub.put (HSub.put (HSub.put (HSub.put (HSub.put (HSub.none _) rfl) rfl) rfl) (by show _ = some (AObj.row false 4 [[.ptr 4 1 0 0, vaA 7 (valC (rset w.vals t.d _)), slA 11 (w.effs.map (arrAV .i64)), .int .i64 w.time]]); rw [valC_vaA]; rfl)) (by show _ = some (vaO (valC (rset w.vals t.d _))); rw [valC_set]; rfl)) rfl
  ·
   refine AGo.cond_false false rfl rfl ?_
   refine AGo.seq ?_
   refine AGo.region ?_
   refine aq 38 (q_bin rfl rfl rfl rfl) ?_
   refine aa 37 ?_
   refine AOps.nil ?_
   refine AGo.split 37 rfl (fun hb3 => ?_) (fun hb3 => ?_)
   ·
    refine AGo.cond_true true rfl rfl ?_
    have ho : t.op = 3 := by simpa using hb3
    
    refine AGo.region ?_
    refine am 39 ?_
    refine al 40 tok ?_
    refine ax 41 (o_call (hc := (hput (hput (hput (hput (hput (hput hNew 3 (.map (kvsA .i64 (vmap first ((w).K))))) 4 (.row false 3 [[.int .i64 first, .map 3, slA 9 (((w).K).map (arrAV .i64))]])) 9 (slO 4 (((w).K).map (arrAV .i64)))) 8 (.row false 4 [[.ptr 4 1 0 0, vaA 7 (valC ((w).vals)), slA 11 (((w).effs).map (arrAV .i64)), .int .i64 ((w).time)]])) 7 (vaO (valC ((w).vals)))) 11 (slO 6 (((w).effs).map (arrAV .i64))))) (hw := (hput (hput (hput (hput (hput (hput hNone 3 (.map (kvsA .i64 (vmap first (((w.bin first t)).K))))) 4 (.row false 3 [[.int .i64 first, .map 3, slA 9 ((((w.bin first t)).K).map (arrAV .i64))]])) 9 (slO 4 ((((w.bin first t)).K).map (arrAV .i64)))) 8 (.row false 4 [[.ptr 4 1 0 0, vaA 7 (valC (((w.bin first t)).vals)), slA 11 ((((w.bin first t)).effs).map (arrAV .i64)), .int .i64 (((w.bin first t)).time)]])) 7 (vaO (valC (((w.bin first t)).vals)))) 11 (slO 6 ((((w.bin first t)).effs).map (arrAV .i64))))) [11, 7, 8, 9, 4, 3] [(3, (.map (kvsA .i64 (vmap first (((w.bin first t)).K))))), (4, (.row false 3 [[.int .i64 first, .map 3, slA 9 ((((w.bin first t)).K).map (arrAV .i64))]])), (9, (slO 4 ((((w.bin first t)).K).map (arrAV .i64)))), (8, (.row false 4 [[.ptr 4 1 0 0, vaA 7 (valC (((w.bin first t)).vals)), slA 11 ((((w.bin first t)).effs).map (arrAV .i64)), .int .i64 (((w.bin first t)).time)]])), (7, (vaO (valC (((w.bin first t)).vals)))), (11, (slO 6 ((((w.bin first t)).effs).map (arrAV .i64))))] rfl Try.func46 (by kernel_rfl) rfl rfl rfl ⟨⟨_, rfl, (by first | rfl | exact slO_avoid _ _ | exact vaO_avoid _ | exact tab_avoid _ _ rfl rfl | exact wlk_avoid _ _ _ rfl rfl rfl)⟩, ⟨_, rfl, (by first | rfl | exact slO_avoid _ _ | exact vaO_avoid _ | exact tab_avoid _ _ rfl rfl | exact wlk_avoid _ _ _ rfl rfl rfl)⟩, ⟨_, rfl, (by first | rfl | exact slO_avoid _ _ | exact vaO_avoid _ | exact tab_avoid _ _ rfl rfl | exact wlk_avoid _ _ _ rfl rfl rfl)⟩, ⟨_, rfl, (by first | rfl | exact slO_avoid _ _ | exact vaO_avoid _ | exact tab_avoid _ _ rfl rfl | exact wlk_avoid _ _ _ rfl rfl rfl)⟩, ⟨_, rfl, (by first | rfl | exact slO_avoid _ _ | exact vaO_avoid _ | exact tab_avoid _ _ rfl rfl | exact wlk_avoid _ _ _ rfl rfl rfl)⟩, ⟨_, rfl, (by first | rfl | exact slO_avoid _ _ | exact vaO_avoid _ | exact tab_avoid _ _ rfl rfl | exact wlk_avoid _ _ _ rfl rfl rfl)⟩, trivial⟩ rfl (hres_cons rfl (hres_cons rfl (hres_cons rfl (hres_cons rfl (hres_cons rfl (hres_cons rfl (hres_nil _))))))) ⟨⟨_, rfl, rfl, (by first | rfl | exact slO_avoid _ _ | exact vaO_avoid _ | exact tab_avoid _ _ rfl rfl | exact wlk_avoid _ _ _ rfl rfl rfl)⟩, ⟨_, rfl, rfl, (by first | rfl | exact slO_avoid _ _ | exact vaO_avoid _ | exact tab_avoid _ _ rfl rfl | exact wlk_avoid _ _ _ rfl rfl rfl)⟩, ⟨_, rfl, rfl, (by first | rfl | exact slO_avoid _ _ | exact vaO_avoid _ | exact tab_avoid _ _ rfl rfl | exact wlk_avoid _ _ _ rfl rfl rfl)⟩, ⟨_, rfl, rfl, (by first | rfl | exact slO_avoid _ _ | exact vaO_avoid _ | exact tab_avoid _ _ rfl rfl | exact wlk_avoid _ _ _ rfl rfl rfl)⟩, ⟨_, rfl, rfl, (by first | rfl | exact slO_avoid _ _ | exact vaO_avoid _ | exact tab_avoid _ _ rfl rfl | exact wlk_avoid _ _ _ rfl rfl rfl)⟩, ⟨_, rfl, rfl, (by first | rfl | exact slO_avoid _ _ | exact vaO_avoid _ | exact tab_avoid _ _ rfl rfl | exact wlk_avoid _ _ _ rfl rfl rfl)⟩, trivial⟩ rfl (binaryb_ok first R m w h (by omega) t (ht.d (by rw [ho]; rfl)) (ht.a (.inr (by rw [ho]; rfl))) (ht.b (by rw [ho]; rfl)))) ?_
    refine AOps.nil ?_
    refine ⟨[], trivial, rfl, ?_⟩
    rw [vstep3 ho]
    exact HSub.put (HSub.put (HSub.put (HSub.put (HSub.put (HSub.put (HSub.none _) rfl) rfl) rfl) rfl) rfl) rfl
   ·
    refine AGo.cond_false false rfl rfl ?_
    refine AGo.seq ?_
    refine AGo.region ?_
    refine aq 43 (q_bin rfl rfl rfl rfl) ?_
    refine aa 42 ?_
    refine AOps.nil ?_
    refine AGo.split 42 rfl (fun hb4 => ?_) (fun hb4 => ?_)
    ·
     refine AGo.cond_true true rfl rfl ?_
     have ho : t.op = 4 := by simpa using hb4
     have hxd := h.at (ht.d (by rw [ho]; rfl))
     
     refine AGo.draw mix ?_
     refine dm 44 ?_
     refine df 45 tok ?_
     refine dl 46 tok ?_
     refine dm 47 ?_
     refine dq 48 (q_nilCheck rfl rfl rfl) ?_
     refine df 49 tok ?_
     refine dl 50 tok ?_
     refine df 51 tok ?_
     refine dl 52 tok ?_
     refine dm 53 ?_
     refine dq 54 (q_nilCheck rfl rfl rfl) ?_
     refine df 55 tok ?_
     refine dl 56 tok ?_
     refine dq 57 (q_build_arr tok rfl rfl rfl rfl rfl rfl (by decide) rfl rfl) ?_
     refine dx 58 (o_call (hc := (hput (hput (hput hNew 3 (.map (kvsA .i64 (vmap first (w.K))))) 4 (.row false 3 [[.int .i64 first, .map 3, slA 9 ((w.K).map (arrAV .i64))]])) 9 (slO 4 ((w.K).map (arrAV .i64))))) (hw := (hput (hput (hput hNone 3 (.map (kvsA .i64 (vmap first ((vnum first w.K [3, t.base, w.time, 0]).2))))) 4 (.row false 3 [[.int .i64 first, .map 3, slA 9 (((vnum first w.K [3, t.base, w.time, 0]).2).map (arrAV .i64))]])) 9 (slO 4 (((vnum first w.K [3, t.base, w.time, 0]).2).map (arrAV .i64))))) [9, 4, 3] [(3, (.map (kvsA .i64 (vmap first ((vnum first w.K [3, t.base, w.time, 0]).2))))), (4, (.row false 3 [[.int .i64 first, .map 3, slA 9 (((vnum first w.K [3, t.base, w.time, 0]).2).map (arrAV .i64))]])), (9, (slO 4 (((vnum first w.K [3, t.base, w.time, 0]).2).map (arrAV .i64))))] rfl Try.func45 (by kernel_rfl) rfl rfl rfl ⟨⟨_, rfl, (by first | rfl | exact slO_avoid _ _ | exact vaO_avoid _ | exact tab_avoid _ _ rfl rfl | exact wlk_avoid _ _ _ rfl rfl rfl)⟩, ⟨_, rfl, (by first | rfl | exact slO_avoid _ _ | exact vaO_avoid _ | exact tab_avoid _ _ rfl rfl | exact wlk_avoid _ _ _ rfl rfl rfl)⟩, ⟨_, rfl, (by first | rfl | exact slO_avoid _ _ | exact vaO_avoid _ | exact tab_avoid _ _ rfl rfl | exact wlk_avoid _ _ _ rfl rfl rfl)⟩, trivial⟩ rfl (hres_cons rfl (hres_cons rfl (hres_cons rfl (hres_nil _)))) ⟨⟨_, rfl, rfl, (by first | rfl | exact slO_avoid _ _ | exact vaO_avoid _ | exact tab_avoid _ _ rfl rfl | exact wlk_avoid _ _ _ rfl rfl rfl)⟩, ⟨_, rfl, rfl, (by first | rfl | exact slO_avoid _ _ | exact vaO_avoid _ | exact tab_avoid _ _ rfl rfl | exact wlk_avoid _ _ _ rfl rfl rfl)⟩, ⟨_, rfl, rfl, (by first | rfl | exact slO_avoid _ _ | exact vaO_avoid _ | exact tab_avoid _ _ rfl rfl | exact wlk_avoid _ _ _ rfl rfl rfl)⟩, trivial⟩ rfl (number_ok first w.K h.f h.k4 (by omega) (3) (t.base) (w.time) (0))) ?_
     refine dq 59 (q_indexV tok rfl rfl rfl rfl rfl rfl rfl rfl hxd.1 hxd.2.2.1) ?_
     refine DOps.w rfl rfl (o_storeV tok rfl rfl rfl rfl rfl rfl rfl (by have h1 := hxd.2.2.1; have h0 := hxd.1; omega) (valC_one _) rfl rfl rfl) ?_
     refine DOps.nil (by kernel_rfl) ?_
     refine ⟨[], trivial, rfl, ?_⟩
     rw [vstep4 ho]
     exact HSub.put (HSub.put (HSub.put (HSub.put (HSub.put (HSub.put (HSub.none _) rfl) rfl) rfl) (by show _ = some (AObj.row false 4 [[.ptr 4 1 0 0, vaA 7 (valC (rset w.vals t.d _)), slA 11 (w.effs.map (arrAV .i64)), .int .i64 w.time]]); rw [valC_vaA]; rfl)) (by show _ = some (vaO (valC (rset w.vals t.d _))); rw [valC_set]; rfl)) rfl
    ·
     refine AGo.cond_false false rfl rfl ?_
     refine AGo.seq ?_
     refine AGo.region ?_
     refine aq 61 (q_bin rfl rfl rfl rfl) ?_
     refine aa 60 ?_
     refine AOps.nil ?_
     refine AGo.split 60 rfl (fun hb5 => ?_) (fun hb5 => ?_)
     ·
      refine AGo.cond_true true rfl rfl ?_
      have ho : t.op = 5 := by simpa using hb5
      have hxa := h.at (ht.a (.inl (by rw [ho]; rfl)))
      
      refine AGo.seq ?_
      refine AGo.draw mix ?_
      refine dm 62 ?_
      refine dl 63 tok ?_
      refine dm 64 ?_
      refine df 65 tok ?_
      refine dl 66 tok ?_
      refine dq 67 (q_indexV tok rfl rfl rfl rfl rfl rfl rfl rfl hxa.1 hxa.2.2.1) ?_
      refine dq 68 (q_load tok rfl rfl rfl (ptsV rfl (valC_get ⟨hxa.1, hxa.2.1⟩)) rfl) ?_
      refine dx 69 (o_call (hc := (hput (hput (hput (hput (hput (hput hNew 3 (.map (kvsA .i64 (vmap first ((w).K))))) 4 (.row false 3 [[.int .i64 first, .map 3, slA 9 (((w).K).map (arrAV .i64))]])) 9 (slO 4 (((w).K).map (arrAV .i64)))) 8 (.row false 4 [[.ptr 4 1 0 0, vaA 7 (valC ((w).vals)), slA 11 (((w).effs).map (arrAV .i64)), .int .i64 ((w).time)]])) 7 (vaO (valC ((w).vals)))) 11 (slO 6 (((w).effs).map (arrAV .i64))))) (hw := (hput (hput (hput (hput (hput (hput hNone 3 (.map (kvsA .i64 (vmap first (((w.hap t (rget w.vals t.a) 0)).K))))) 4 (.row false 3 [[.int .i64 first, .map 3, slA 9 ((((w.hap t (rget w.vals t.a) 0)).K).map (arrAV .i64))]])) 9 (slO 4 ((((w.hap t (rget w.vals t.a) 0)).K).map (arrAV .i64)))) 8 (.row false 4 [[.ptr 4 1 0 0, vaA 7 (valC (((w.hap t (rget w.vals t.a) 0)).vals)), slA 11 ((((w.hap t (rget w.vals t.a) 0)).effs).map (arrAV .i64)), .int .i64 (((w.hap t (rget w.vals t.a) 0)).time)]])) 7 (vaO (valC (((w.hap t (rget w.vals t.a) 0)).vals)))) 11 (slO 6 ((((w.hap t (rget w.vals t.a) 0)).effs).map (arrAV .i64))))) [11, 7, 8, 9, 4, 3] [(3, (.map (kvsA .i64 (vmap first (((w.hap t (rget w.vals t.a) 0)).K))))), (4, (.row false 3 [[.int .i64 first, .map 3, slA 9 ((((w.hap t (rget w.vals t.a) 0)).K).map (arrAV .i64))]])), (9, (slO 4 ((((w.hap t (rget w.vals t.a) 0)).K).map (arrAV .i64)))), (8, (.row false 4 [[.ptr 4 1 0 0, vaA 7 (valC (((w.hap t (rget w.vals t.a) 0)).vals)), slA 11 ((((w.hap t (rget w.vals t.a) 0)).effs).map (arrAV .i64)), .int .i64 (((w.hap t (rget w.vals t.a) 0)).time)]])), (7, (vaO (valC (((w.hap t (rget w.vals t.a) 0)).vals)))), (11, (slO 6 ((((w.hap t (rget w.vals t.a) 0)).effs).map (arrAV .i64))))] rfl Try.func47 (by kernel_rfl) rfl rfl rfl ⟨⟨_, rfl, (by first | rfl | exact slO_avoid _ _ | exact vaO_avoid _ | exact tab_avoid _ _ rfl rfl | exact wlk_avoid _ _ _ rfl rfl rfl)⟩, ⟨_, rfl, (by first | rfl | exact slO_avoid _ _ | exact vaO_avoid _ | exact tab_avoid _ _ rfl rfl | exact wlk_avoid _ _ _ rfl rfl rfl)⟩, ⟨_, rfl, (by first | rfl | exact slO_avoid _ _ | exact vaO_avoid _ | exact tab_avoid _ _ rfl rfl | exact wlk_avoid _ _ _ rfl rfl rfl)⟩, ⟨_, rfl, (by first | rfl | exact slO_avoid _ _ | exact vaO_avoid _ | exact tab_avoid _ _ rfl rfl | exact wlk_avoid _ _ _ rfl rfl rfl)⟩, ⟨_, rfl, (by first | rfl | exact slO_avoid _ _ | exact vaO_avoid _ | exact tab_avoid _ _ rfl rfl | exact wlk_avoid _ _ _ rfl rfl rfl)⟩, ⟨_, rfl, (by first | rfl | exact slO_avoid _ _ | exact vaO_avoid _ | exact tab_avoid _ _ rfl rfl | exact wlk_avoid _ _ _ rfl rfl rfl)⟩, trivial⟩ rfl (hres_cons rfl (hres_cons rfl (hres_cons rfl (hres_cons rfl (hres_cons rfl (hres_cons rfl (hres_nil _))))))) ⟨⟨_, rfl, rfl, (by first | rfl | exact slO_avoid _ _ | exact vaO_avoid _ | exact tab_avoid _ _ rfl rfl | exact wlk_avoid _ _ _ rfl rfl rfl)⟩, ⟨_, rfl, rfl, (by first | rfl | exact slO_avoid _ _ | exact vaO_avoid _ | exact tab_avoid _ _ rfl rfl | exact wlk_avoid _ _ _ rfl rfl rfl)⟩, ⟨_, rfl, rfl, (by first | rfl | exact slO_avoid _ _ | exact vaO_avoid _ | exact tab_avoid _ _ rfl rfl | exact wlk_avoid _ _ _ rfl rfl rfl)⟩, ⟨_, rfl, rfl, (by first | rfl | exact slO_avoid _ _ | exact vaO_avoid _ | exact tab_avoid _ _ rfl rfl | exact wlk_avoid _ _ _ rfl rfl rfl)⟩, ⟨_, rfl, rfl, (by first | rfl | exact slO_avoid _ _ | exact vaO_avoid _ | exact tab_avoid _ _ rfl rfl | exact wlk_avoid _ _ _ rfl rfl rfl)⟩, ⟨_, rfl, rfl, (by first | rfl | exact slO_avoid _ _ | exact vaO_avoid _ | exact tab_avoid _ _ rfl rfl | exact wlk_avoid _ _ _ rfl rfl rfl)⟩, trivial⟩ rfl (happensb_ok first R m w h (by omega) t (rget w.vals t.a) 0)) ?_
      refine DOps.nil (by kernel_rfl) ?_
      refine AGo.region ?_
      refine am 70 ?_
      refine aq 71 (q_nilCheck rfl rfl rfl) ?_
      refine af 72 tok ?_
      refine al 73 tok ?_
      refine aq 74 (q_bin (r := .int .i64 (w.time + 1)) rfl rfl rfl (by exact timeZ (x := w.time) (by omega))) ?_
      refine aq 75 (q_nilCheck rfl rfl rfl) ?_
      refine af 76 tok ?_
      refine AOps.w rfl rfl (o_store tok rfl rfl rfl rfl rfl rfl rfl rfl rfl (by decide) rfl (by first | exact fun _ => rfl | (intro h; cases h))) ?_
      refine AOps.nil ?_
      refine ⟨[], trivial, rfl, ?_⟩
      rw [vstep5 ho]
      exact HSub.put (HSub.put (HSub.put (HSub.put (HSub.put (HSub.put (HSub.none _) rfl) rfl) rfl) rfl) rfl) rfl
     ·
      refine AGo.cond_false false rfl rfl ?_
      refine AGo.seq ?_
      refine AGo.region ?_
      refine aq 78 (q_bin rfl rfl rfl rfl) ?_
      refine aa 77 ?_
      refine AOps.nil ?_
      refine AGo.split 77 rfl (fun hb6 => ?_) (fun hb6 => ?_)
      ·
       refine AGo.cond_true true rfl rfl ?_
       have ho : t.op = 6 := by simpa using hb6
       have hxd := h.at (ht.d (by rw [ho]; rfl))
       have hxa := h.at (ht.a (.inl (by rw [ho]; rfl)))
       
       refine AGo.seq ?_
       refine AGo.draw mix ?_
       refine dm 79 ?_
       refine dl 80 tok ?_
       refine dm 81 ?_
       refine df 82 tok ?_
       refine dl 83 tok ?_
       refine dq 84 (q_indexV tok rfl rfl rfl rfl rfl rfl rfl rfl hxa.1 hxa.2.2.1) ?_
       refine dq 85 (q_load tok rfl rfl rfl (ptsV rfl (valC_get ⟨hxa.1, hxa.2.1⟩)) rfl) ?_
       refine dx 86 (o_call (hc := (hput (hput (hput (hput (hput (hput hNew 3 (.map (kvsA .i64 (vmap first ((w).K))))) 4 (.row false 3 [[.int .i64 first, .map 3, slA 9 (((w).K).map (arrAV .i64))]])) 9 (slO 4 (((w).K).map (arrAV .i64)))) 8 (.row false 4 [[.ptr 4 1 0 0, vaA 7 (valC ((w).vals)), slA 11 (((w).effs).map (arrAV .i64)), .int .i64 ((w).time)]])) 7 (vaO (valC ((w).vals)))) 11 (slO 6 (((w).effs).map (arrAV .i64))))) (hw := (hput (hput (hput (hput (hput (hput hNone 3 (.map (kvsA .i64 (vmap first (((w.hap t (rget w.vals t.a) 0)).K))))) 4 (.row false 3 [[.int .i64 first, .map 3, slA 9 ((((w.hap t (rget w.vals t.a) 0)).K).map (arrAV .i64))]])) 9 (slO 4 ((((w.hap t (rget w.vals t.a) 0)).K).map (arrAV .i64)))) 8 (.row false 4 [[.ptr 4 1 0 0, vaA 7 (valC (((w.hap t (rget w.vals t.a) 0)).vals)), slA 11 ((((w.hap t (rget w.vals t.a) 0)).effs).map (arrAV .i64)), .int .i64 (((w.hap t (rget w.vals t.a) 0)).time)]])) 7 (vaO (valC (((w.hap t (rget w.vals t.a) 0)).vals)))) 11 (slO 6 ((((w.hap t (rget w.vals t.a) 0)).effs).map (arrAV .i64))))) [11, 7, 8, 9, 4, 3] [(3, (.map (kvsA .i64 (vmap first (((w.hap t (rget w.vals t.a) 0)).K))))), (4, (.row false 3 [[.int .i64 first, .map 3, slA 9 ((((w.hap t (rget w.vals t.a) 0)).K).map (arrAV .i64))]])), (9, (slO 4 ((((w.hap t (rget w.vals t.a) 0)).K).map (arrAV .i64)))), (8, (.row false 4 [[.ptr 4 1 0 0, vaA 7 (valC (((w.hap t (rget w.vals t.a) 0)).vals)), slA 11 ((((w.hap t (rget w.vals t.a) 0)).effs).map (arrAV .i64)), .int .i64 (((w.hap t (rget w.vals t.a) 0)).time)]])), (7, (vaO (valC (((w.hap t (rget w.vals t.a) 0)).vals)))), (11, (slO 6 ((((w.hap t (rget w.vals t.a) 0)).effs).map (arrAV .i64))))] rfl Try.func47 (by kernel_rfl) rfl rfl rfl ⟨⟨_, rfl, (by first | rfl | exact slO_avoid _ _ | exact vaO_avoid _ | exact tab_avoid _ _ rfl rfl | exact wlk_avoid _ _ _ rfl rfl rfl)⟩, ⟨_, rfl, (by first | rfl | exact slO_avoid _ _ | exact vaO_avoid _ | exact tab_avoid _ _ rfl rfl | exact wlk_avoid _ _ _ rfl rfl rfl)⟩, ⟨_, rfl, (by first | rfl | exact slO_avoid _ _ | exact vaO_avoid _ | exact tab_avoid _ _ rfl rfl | exact wlk_avoid _ _ _ rfl rfl rfl)⟩, ⟨_, rfl, (by first | rfl | exact slO_avoid _ _ | exact vaO_avoid _ | exact tab_avoid _ _ rfl rfl | exact wlk_avoid _ _ _ rfl rfl rfl)⟩, ⟨_, rfl, (by first | rfl | exact slO_avoid _ _ | exact vaO_avoid _ | exact tab_avoid _ _ rfl rfl | exact wlk_avoid _ _ _ rfl rfl rfl)⟩, ⟨_, rfl, (by first | rfl | exact slO_avoid _ _ | exact vaO_avoid _ | exact tab_avoid _ _ rfl rfl | exact wlk_avoid _ _ _ rfl rfl rfl)⟩, trivial⟩ rfl (hres_cons rfl (hres_cons rfl (hres_cons rfl (hres_cons rfl (hres_cons rfl (hres_cons rfl (hres_nil _))))))) ⟨⟨_, rfl, rfl, (by first | rfl | exact slO_avoid _ _ | exact vaO_avoid _ | exact tab_avoid _ _ rfl rfl | exact wlk_avoid _ _ _ rfl rfl rfl)⟩, ⟨_, rfl, rfl, (by first | rfl | exact slO_avoid _ _ | exact vaO_avoid _ | exact tab_avoid _ _ rfl rfl | exact wlk_avoid _ _ _ rfl rfl rfl)⟩, ⟨_, rfl, rfl, (by first | rfl | exact slO_avoid _ _ | exact vaO_avoid _ | exact tab_avoid _ _ rfl rfl | exact wlk_avoid _ _ _ rfl rfl rfl)⟩, ⟨_, rfl, rfl, (by first | rfl | exact slO_avoid _ _ | exact vaO_avoid _ | exact tab_avoid _ _ rfl rfl | exact wlk_avoid _ _ _ rfl rfl rfl)⟩, ⟨_, rfl, rfl, (by first | rfl | exact slO_avoid _ _ | exact vaO_avoid _ | exact tab_avoid _ _ rfl rfl | exact wlk_avoid _ _ _ rfl rfl rfl)⟩, ⟨_, rfl, rfl, (by first | rfl | exact slO_avoid _ _ | exact vaO_avoid _ | exact tab_avoid _ _ rfl rfl | exact wlk_avoid _ _ _ rfl rfl rfl)⟩, trivial⟩ rfl (happensb_ok first R m w h (by omega) t (rget w.vals t.a) 0)) ?_
       refine DOps.nil (by kernel_rfl) ?_
       refine AGo.draw mix ?_
       refine dm 87 ?_
       refine df 88 tok ?_
       refine dl 89 tok ?_
       refine dm 90 ?_
       refine dx 91 (o_call (hc := (hput (hput (hput (hput (hput (hput hNew 3 (.map (kvsA .i64 (vmap first (((w.hap t (rget w.vals t.a) 0)).K))))) 4 (.row false 3 [[.int .i64 first, .map 3, slA 9 ((((w.hap t (rget w.vals t.a) 0)).K).map (arrAV .i64))]])) 9 (slO 4 ((((w.hap t (rget w.vals t.a) 0)).K).map (arrAV .i64)))) 8 (.row false 4 [[.ptr 4 1 0 0, vaA 7 (valC (((w.hap t (rget w.vals t.a) 0)).vals)), slA 11 ((((w.hap t (rget w.vals t.a) 0)).effs).map (arrAV .i64)), .int .i64 (((w.hap t (rget w.vals t.a) 0)).time)]])) 7 (vaO (valC (((w.hap t (rget w.vals t.a) 0)).vals)))) 11 (slO 6 ((((w.hap t (rget w.vals t.a) 0)).effs).map (arrAV .i64))))) (hw := (hput (hput (hput (hput (hput (hput hNone 3 (.map (kvsA .i64 (vmap first ((vunk first (w.hap t (rget w.vals t.a) 0)).2))))) 4 (.row false 3 [[.int .i64 first, .map 3, slA 9 (((vunk first (w.hap t (rget w.vals t.a) 0)).2).map (arrAV .i64))]])) 9 (slO 4 (((vunk first (w.hap t (rget w.vals t.a) 0)).2).map (arrAV .i64)))) 8 (.row false 4 [[.ptr 4 1 0 0, vaA 7 (valC (((w.hap t (rget w.vals t.a) 0)).vals)), slA 11 ((((w.hap t (rget w.vals t.a) 0)).effs).map (arrAV .i64)), .int .i64 (((w.hap t (rget w.vals t.a) 0)).time)]])) 7 (vaO (valC (((w.hap t (rget w.vals t.a) 0)).vals)))) 11 (slO 6 ((((w.hap t (rget w.vals t.a) 0)).effs).map (arrAV .i64))))) [11, 7, 8, 9, 4, 3] [(3, (.map (kvsA .i64 (vmap first ((vunk first (w.hap t (rget w.vals t.a) 0)).2))))), (4, (.row false 3 [[.int .i64 first, .map 3, slA 9 (((vunk first (w.hap t (rget w.vals t.a) 0)).2).map (arrAV .i64))]])), (9, (slO 4 (((vunk first (w.hap t (rget w.vals t.a) 0)).2).map (arrAV .i64)))), (8, (.row false 4 [[.ptr 4 1 0 0, vaA 7 (valC (((w.hap t (rget w.vals t.a) 0)).vals)), slA 11 ((((w.hap t (rget w.vals t.a) 0)).effs).map (arrAV .i64)), .int .i64 (((w.hap t (rget w.vals t.a) 0)).time)]])), (7, (vaO (valC (((w.hap t (rget w.vals t.a) 0)).vals)))), (11, (slO 6 ((((w.hap t (rget w.vals t.a) 0)).effs).map (arrAV .i64))))] rfl Try.func48 (by kernel_rfl) rfl rfl rfl ⟨⟨_, rfl, (by first | rfl | exact slO_avoid _ _ | exact vaO_avoid _ | exact tab_avoid _ _ rfl rfl | exact wlk_avoid _ _ _ rfl rfl rfl)⟩, ⟨_, rfl, (by first | rfl | exact slO_avoid _ _ | exact vaO_avoid _ | exact tab_avoid _ _ rfl rfl | exact wlk_avoid _ _ _ rfl rfl rfl)⟩, ⟨_, rfl, (by first | rfl | exact slO_avoid _ _ | exact vaO_avoid _ | exact tab_avoid _ _ rfl rfl | exact wlk_avoid _ _ _ rfl rfl rfl)⟩, ⟨_, rfl, (by first | rfl | exact slO_avoid _ _ | exact vaO_avoid _ | exact tab_avoid _ _ rfl rfl | exact wlk_avoid _ _ _ rfl rfl rfl)⟩, ⟨_, rfl, (by first | rfl | exact slO_avoid _ _ | exact vaO_avoid _ | exact tab_avoid _ _ rfl rfl | exact wlk_avoid _ _ _ rfl rfl rfl)⟩, ⟨_, rfl, (by first | rfl | exact slO_avoid _ _ | exact vaO_avoid _ | exact tab_avoid _ _ rfl rfl | exact wlk_avoid _ _ _ rfl rfl rfl)⟩, trivial⟩ rfl (hres_cons rfl (hres_cons rfl (hres_cons rfl (hres_cons rfl (hres_cons rfl (hres_cons rfl (hres_nil _))))))) ⟨⟨_, rfl, rfl, (by first | rfl | exact slO_avoid _ _ | exact vaO_avoid _ | exact tab_avoid _ _ rfl rfl | exact wlk_avoid _ _ _ rfl rfl rfl)⟩, ⟨_, rfl, rfl, (by first | rfl | exact slO_avoid _ _ | exact vaO_avoid _ | exact tab_avoid _ _ rfl rfl | exact wlk_avoid _ _ _ rfl rfl rfl)⟩, ⟨_, rfl, rfl, (by first | rfl | exact slO_avoid _ _ | exact vaO_avoid _ | exact tab_avoid _ _ rfl rfl | exact wlk_avoid _ _ _ rfl rfl rfl)⟩, ⟨_, rfl, rfl, (by first | rfl | exact slO_avoid _ _ | exact vaO_avoid _ | exact tab_avoid _ _ rfl rfl | exact wlk_avoid _ _ _ rfl rfl rfl)⟩, ⟨_, rfl, rfl, (by first | rfl | exact slO_avoid _ _ | exact vaO_avoid _ | exact tab_avoid _ _ rfl rfl | exact wlk_avoid _ _ _ rfl rfl rfl)⟩, ⟨_, rfl, rfl, (by first | rfl | exact slO_avoid _ _ | exact vaO_avoid _ | exact tab_avoid _ _ rfl rfl | exact wlk_avoid _ _ _ rfl rfl rfl)⟩, trivial⟩ rfl (unknownb_ok first R (m + 1) (w.hap t (rget w.vals t.a) 0) (h.eff rfl) (by omega))) ?_
       refine dq 92 (q_indexV tok rfl rfl rfl rfl rfl rfl rfl rfl hxd.1 hxd.2.2.1) ?_
       refine DOps.w rfl rfl (o_storeV tok rfl rfl rfl rfl rfl rfl rfl (by have h1 := hxd.2.2.1; have h0 := hxd.1; omega) (valC_one _) rfl rfl rfl) ?_
       refine DOps.nil (by kernel_rfl) ?_
       refine ⟨[], trivial, rfl, ?_⟩
       rw [vstep6 ho]
       exact HSub.put (HSub.put (HSub.put (HSub.put (HSub.put (HSub.put (HSub.none _) rfl) rfl) rfl) (by show _ = some (AObj.row false 4 [[.ptr 4 1 0 0, vaA 7 (valC (rset w.vals t.d _)), slA 11 ((w.hap t (rget w.vals t.a) 0).effs.map (arrAV .i64)), .int .i64 w.time]]); rw [valC_vaA]; rfl)) (by show _ = some (vaO (valC (rset w.vals t.d _))); rw [valC_set]; rfl)) rfl
      ·
       refine AGo.cond_false false rfl rfl ?_
       refine AGo.seq ?_
       refine AGo.region ?_
       refine aq 94 (q_bin rfl rfl rfl rfl) ?_
       refine aa 93 ?_
       refine AOps.nil ?_
       refine AGo.split 93 rfl (fun hb7 => ?_) (fun hb7 => ?_)
       ·
        refine AGo.cond_true true rfl rfl ?_
        have ho : t.op = 7 := by simpa using hb7
        have hxa := h.at (ht.a (.inr (by rw [ho]; rfl)))
        have hxb := h.at (ht.b (by rw [ho]; rfl))
        
        refine AGo.seq ?_
        refine AGo.draw mix ?_
        refine dm 95 ?_
        refine dl 96 tok ?_
        refine dm 97 ?_
        refine df 98 tok ?_
        refine dl 99 tok ?_
        refine dq 100 (q_indexV tok rfl rfl rfl rfl rfl rfl rfl rfl hxa.1 hxa.2.2.1) ?_
        refine dq 101 (q_load tok rfl rfl rfl (ptsV rfl (valC_get ⟨hxa.1, hxa.2.1⟩)) rfl) ?_
        refine dm 102 ?_
        refine df 103 tok ?_
        refine dl 104 tok ?_
        refine dq 105 (q_indexV tok rfl rfl rfl rfl rfl rfl rfl rfl hxb.1 hxb.2.2.1) ?_
        refine dq 106 (q_load tok rfl rfl rfl (ptsV rfl (valC_get ⟨hxb.1, hxb.2.1⟩)) rfl) ?_
        refine dx 107 (o_call (hc := (hput (hput (hput (hput (hput (hput hNew 3 (.map (kvsA .i64 (vmap first ((w).K))))) 4 (.row false 3 [[.int .i64 first, .map 3, slA 9 (((w).K).map (arrAV .i64))]])) 9 (slO 4 (((w).K).map (arrAV .i64)))) 8 (.row false 4 [[.ptr 4 1 0 0, vaA 7 (valC ((w).vals)), slA 11 (((w).effs).map (arrAV .i64)), .int .i64 ((w).time)]])) 7 (vaO (valC ((w).vals)))) 11 (slO 6 (((w).effs).map (arrAV .i64))))) (hw := (hput (hput (hput (hput (hput (hput hNone 3 (.map (kvsA .i64 (vmap first (((w.hap t (rget w.vals t.a) (rget w.vals t.b))).K))))) 4 (.row false 3 [[.int .i64 first, .map 3, slA 9 ((((w.hap t (rget w.vals t.a) (rget w.vals t.b))).K).map (arrAV .i64))]])) 9 (slO 4 ((((w.hap t (rget w.vals t.a) (rget w.vals t.b))).K).map (arrAV .i64)))) 8 (.row false 4 [[.ptr 4 1 0 0, vaA 7 (valC (((w.hap t (rget w.vals t.a) (rget w.vals t.b))).vals)), slA 11 ((((w.hap t (rget w.vals t.a) (rget w.vals t.b))).effs).map (arrAV .i64)), .int .i64 (((w.hap t (rget w.vals t.a) (rget w.vals t.b))).time)]])) 7 (vaO (valC (((w.hap t (rget w.vals t.a) (rget w.vals t.b))).vals)))) 11 (slO 6 ((((w.hap t (rget w.vals t.a) (rget w.vals t.b))).effs).map (arrAV .i64))))) [11, 7, 8, 9, 4, 3] [(3, (.map (kvsA .i64 (vmap first (((w.hap t (rget w.vals t.a) (rget w.vals t.b))).K))))), (4, (.row false 3 [[.int .i64 first, .map 3, slA 9 ((((w.hap t (rget w.vals t.a) (rget w.vals t.b))).K).map (arrAV .i64))]])), (9, (slO 4 ((((w.hap t (rget w.vals t.a) (rget w.vals t.b))).K).map (arrAV .i64)))), (8, (.row false 4 [[.ptr 4 1 0 0, vaA 7 (valC (((w.hap t (rget w.vals t.a) (rget w.vals t.b))).vals)), slA 11 ((((w.hap t (rget w.vals t.a) (rget w.vals t.b))).effs).map (arrAV .i64)), .int .i64 (((w.hap t (rget w.vals t.a) (rget w.vals t.b))).time)]])), (7, (vaO (valC (((w.hap t (rget w.vals t.a) (rget w.vals t.b))).vals)))), (11, (slO 6 ((((w.hap t (rget w.vals t.a) (rget w.vals t.b))).effs).map (arrAV .i64))))] rfl Try.func47 (by kernel_rfl) rfl rfl rfl ⟨⟨_, rfl, (by first | rfl | exact slO_avoid _ _ | exact vaO_avoid _ | exact tab_avoid _ _ rfl rfl | exact wlk_avoid _ _ _ rfl rfl rfl)⟩, ⟨_, rfl, (by first | rfl | exact slO_avoid _ _ | exact vaO_avoid _ | exact tab_avoid _ _ rfl rfl | exact wlk_avoid _ _ _ rfl rfl rfl)⟩, ⟨_, rfl, (by first | rfl | exact slO_avoid _ _ | exact vaO_avoid _ | exact tab_avoid _ _ rfl rfl | exact wlk_avoid _ _ _ rfl rfl rfl)⟩, ⟨_, rfl, (by first | rfl | exact slO_avoid _ _ | exact vaO_avoid _ | exact tab_avoid _ _ rfl rfl | exact wlk_avoid _ _ _ rfl rfl rfl)⟩, ⟨_, rfl, (by first | rfl | exact slO_avoid _ _ | exact vaO_avoid _ | exact tab_avoid _ _ rfl rfl | exact wlk_avoid _ _ _ rfl rfl rfl)⟩, ⟨_, rfl, (by first | rfl | exact slO_avoid _ _ | exact vaO_avoid _ | exact tab_avoid _ _ rfl rfl | exact wlk_avoid _ _ _ rfl rfl rfl)⟩, trivial⟩ rfl (hres_cons rfl (hres_cons rfl (hres_cons rfl (hres_cons rfl (hres_cons rfl (hres_cons rfl (hres_nil _))))))) ⟨⟨_, rfl, rfl, (by first | rfl | exact slO_avoid _ _ | exact vaO_avoid _ | exact tab_avoid _ _ rfl rfl | exact wlk_avoid _ _ _ rfl rfl rfl)⟩, ⟨_, rfl, rfl, (by first | rfl | exact slO_avoid _ _ | exact vaO_avoid _ | exact tab_avoid _ _ rfl rfl | exact wlk_avoid _ _ _ rfl rfl rfl)⟩, ⟨_, rfl, rfl, (by first | rfl | exact slO_avoid _ _ | exact vaO_avoid _ | exact tab_avoid _ _ rfl rfl | exact wlk_avoid _ _ _ rfl rfl rfl)⟩, ⟨_, rfl, rfl, (by first | rfl | exact slO_avoid _ _ | exact vaO_avoid _ | exact tab_avoid _ _ rfl rfl | exact wlk_avoid _ _ _ rfl rfl rfl)⟩, ⟨_, rfl, rfl, (by first | rfl | exact slO_avoid _ _ | exact vaO_avoid _ | exact tab_avoid _ _ rfl rfl | exact wlk_avoid _ _ _ rfl rfl rfl)⟩, ⟨_, rfl, rfl, (by first | rfl | exact slO_avoid _ _ | exact vaO_avoid _ | exact tab_avoid _ _ rfl rfl | exact wlk_avoid _ _ _ rfl rfl rfl)⟩, trivial⟩ rfl (happensb_ok first R m w h (by omega) t (rget w.vals t.a) (rget w.vals t.b))) ?_
        refine DOps.nil (by kernel_rfl) ?_
        refine AGo.region ?_
        refine am 108 ?_
        refine aq 109 (q_nilCheck rfl rfl rfl) ?_
        refine af 110 tok ?_
        refine al 111 tok ?_
        refine aq 112 (q_bin (r := .int .i64 (w.time + 1)) rfl rfl rfl (by exact timeZ (x := w.time) (by omega))) ?_
        refine aq 113 (q_nilCheck rfl rfl rfl) ?_
        refine af 114 tok ?_
        refine AOps.w rfl rfl (o_store tok rfl rfl rfl rfl rfl rfl rfl rfl rfl (by decide) rfl (by first | exact fun _ => rfl | (intro h; cases h))) ?_
        refine AOps.nil ?_
        refine ⟨[], trivial, rfl, ?_⟩
        rw [vstep7 ho]
        exact HSub.put (HSub.put (HSub.put (HSub.put (HSub.put (HSub.put (HSub.none _) rfl) rfl) rfl) rfl) rfl) rfl
       ·
        refine AGo.cond_false false rfl rfl ?_
        refine AGo.seq ?_
        refine AGo.region ?_
        refine aq 116 (q_bin rfl rfl rfl rfl) ?_
        refine aa 115 ?_
        refine AOps.nil ?_
        refine AGo.split 115 rfl (fun hb8 => ?_) (fun hb8 => ?_)
        ·
         refine AGo.cond_true true rfl rfl ?_
         have ho : t.op = 8 := by simpa using hb8
         have hxd := h.at (ht.d (by rw [ho]; rfl))
         
         refine AGo.seq ?_
         refine AGo.region ?_
         refine am 117 ?_
         refine al 118 tok ?_
         refine ax 119 (o_call (hc := (hput (hput (hput (hput (hput (hput hNew 3 (.map (kvsA .i64 (vmap first ((w).K))))) 4 (.row false 3 [[.int .i64 first, .map 3, slA 9 (((w).K).map (arrAV .i64))]])) 9 (slO 4 (((w).K).map (arrAV .i64)))) 8 (.row false 4 [[.ptr 4 1 0 0, vaA 7 (valC ((w).vals)), slA 11 (((w).effs).map (arrAV .i64)), .int .i64 ((w).time)]])) 7 (vaO (valC ((w).vals)))) 11 (slO 6 (((w).effs).map (arrAV .i64))))) (hw := (hput (hput (hput (hput (hput (hput hNone 3 (.map (kvsA .i64 (vmap first (((w.hap t 0 0)).K))))) 4 (.row false 3 [[.int .i64 first, .map 3, slA 9 ((((w.hap t 0 0)).K).map (arrAV .i64))]])) 9 (slO 4 ((((w.hap t 0 0)).K).map (arrAV .i64)))) 8 (.row false 4 [[.ptr 4 1 0 0, vaA 7 (valC (((w.hap t 0 0)).vals)), slA 11 ((((w.hap t 0 0)).effs).map (arrAV .i64)), .int .i64 (((w.hap t 0 0)).time)]])) 7 (vaO (valC (((w.hap t 0 0)).vals)))) 11 (slO 6 ((((w.hap t 0 0)).effs).map (arrAV .i64))))) [11, 7, 8, 9, 4, 3] [(3, (.map (kvsA .i64 (vmap first (((w.hap t 0 0)).K))))), (4, (.row false 3 [[.int .i64 first, .map 3, slA 9 ((((w.hap t 0 0)).K).map (arrAV .i64))]])), (9, (slO 4 ((((w.hap t 0 0)).K).map (arrAV .i64)))), (8, (.row false 4 [[.ptr 4 1 0 0, vaA 7 (valC (((w.hap t 0 0)).vals)), slA 11 ((((w.hap t 0 0)).effs).map (arrAV .i64)), .int .i64 (((w.hap t 0 0)).time)]])), (7, (vaO (valC (((w.hap t 0 0)).vals)))), (11, (slO 6 ((((w.hap t 0 0)).effs).map (arrAV .i64))))] rfl Try.func47 (by kernel_rfl) rfl rfl rfl ⟨⟨_, rfl, (by first | rfl | exact slO_avoid _ _ | exact vaO_avoid _ | exact tab_avoid _ _ rfl rfl | exact wlk_avoid _ _ _ rfl rfl rfl)⟩, ⟨_, rfl, (by first | rfl | exact slO_avoid _ _ | exact vaO_avoid _ | exact tab_avoid _ _ rfl rfl | exact wlk_avoid _ _ _ rfl rfl rfl)⟩, ⟨_, rfl, (by first | rfl | exact slO_avoid _ _ | exact vaO_avoid _ | exact tab_avoid _ _ rfl rfl | exact wlk_avoid _ _ _ rfl rfl rfl)⟩, ⟨_, rfl, (by first | rfl | exact slO_avoid _ _ | exact vaO_avoid _ | exact tab_avoid _ _ rfl rfl | exact wlk_avoid _ _ _ rfl rfl rfl)⟩, ⟨_, rfl, (by first | rfl | exact slO_avoid _ _ | exact vaO_avoid _ | exact tab_avoid _ _ rfl rfl | exact wlk_avoid _ _ _ rfl rfl rfl)⟩, ⟨_, rfl, (by first | rfl | exact slO_avoid _ _ | exact vaO_avoid _ | exact tab_avoid _ _ rfl rfl | exact wlk_avoid _ _ _ rfl rfl rfl)⟩, trivial⟩ rfl (hres_cons rfl (hres_cons rfl (hres_cons rfl (hres_cons rfl (hres_cons rfl (hres_cons rfl (hres_nil _))))))) ⟨⟨_, rfl, rfl, (by first | rfl | exact slO_avoid _ _ | exact vaO_avoid _ | exact tab_avoid _ _ rfl rfl | exact wlk_avoid _ _ _ rfl rfl rfl)⟩, ⟨_, rfl, rfl, (by first | rfl | exact slO_avoid _ _ | exact vaO_avoid _ | exact tab_avoid _ _ rfl rfl | exact wlk_avoid _ _ _ rfl rfl rfl)⟩, ⟨_, rfl, rfl, (by first | rfl | exact slO_avoid _ _ | exact vaO_avoid _ | exact tab_avoid _ _ rfl rfl | exact wlk_avoid _ _ _ rfl rfl rfl)⟩, ⟨_, rfl, rfl, (by first | rfl | exact slO_avoid _ _ | exact vaO_avoid _ | exact tab_avoid _ _ rfl rfl | exact wlk_avoid _ _ _ rfl rfl rfl)⟩, ⟨_, rfl, rfl, (by first | rfl | exact slO_avoid _ _ | exact vaO_avoid _ | exact tab_avoid _ _ rfl rfl | exact wlk_avoid _ _ _ rfl rfl rfl)⟩, ⟨_, rfl, rfl, (by first | rfl | exact slO_avoid _ _ | exact vaO_avoid _ | exact tab_avoid _ _ rfl rfl | exact wlk_avoid _ _ _ rfl rfl rfl)⟩, trivial⟩ rfl (happensb_ok first R m w h (by omega) t 0 0)) ?_
         refine AOps.nil ?_
         refine AGo.draw mix ?_
         refine dm 120 ?_
         refine df 121 tok ?_
         refine dl 122 tok ?_
         refine dm 123 ?_
         refine dx 124 (o_call (hc := (hput (hput (hput (hput (hput (hput hNew 3 (.map (kvsA .i64 (vmap first (((w.hap t 0 0)).K))))) 4 (.row false 3 [[.int .i64 first, .map 3, slA 9 ((((w.hap t 0 0)).K).map (arrAV .i64))]])) 9 (slO 4 ((((w.hap t 0 0)).K).map (arrAV .i64)))) 8 (.row false 4 [[.ptr 4 1 0 0, vaA 7 (valC (((w.hap t 0 0)).vals)), slA 11 ((((w.hap t 0 0)).effs).map (arrAV .i64)), .int .i64 (((w.hap t 0 0)).time)]])) 7 (vaO (valC (((w.hap t 0 0)).vals)))) 11 (slO 6 ((((w.hap t 0 0)).effs).map (arrAV .i64))))) (hw := (hput (hput (hput (hput (hput (hput hNone 3 (.map (kvsA .i64 (vmap first ((vunk first (w.hap t 0 0)).2))))) 4 (.row false 3 [[.int .i64 first, .map 3, slA 9 (((vunk first (w.hap t 0 0)).2).map (arrAV .i64))]])) 9 (slO 4 (((vunk first (w.hap t 0 0)).2).map (arrAV .i64)))) 8 (.row false 4 [[.ptr 4 1 0 0, vaA 7 (valC (((w.hap t 0 0)).vals)), slA 11 ((((w.hap t 0 0)).effs).map (arrAV .i64)), .int .i64 (((w.hap t 0 0)).time)]])) 7 (vaO (valC (((w.hap t 0 0)).vals)))) 11 (slO 6 ((((w.hap t 0 0)).effs).map (arrAV .i64))))) [11, 7, 8, 9, 4, 3] [(3, (.map (kvsA .i64 (vmap first ((vunk first (w.hap t 0 0)).2))))), (4, (.row false 3 [[.int .i64 first, .map 3, slA 9 (((vunk first (w.hap t 0 0)).2).map (arrAV .i64))]])), (9, (slO 4 (((vunk first (w.hap t 0 0)).2).map (arrAV .i64)))), (8, (.row false 4 [[.ptr 4 1 0 0, vaA 7 (valC (((w.hap t 0 0)).vals)), slA 11 ((((w.hap t 0 0)).effs).map (arrAV .i64)), .int .i64 (((w.hap t 0 0)).time)]])), (7, (vaO (valC (((w.hap t 0 0)).vals)))), (11, (slO 6 ((((w.hap t 0 0)).effs).map (arrAV .i64))))] rfl Try.func48 (by kernel_rfl) rfl rfl rfl ⟨⟨_, rfl, (by first | rfl | exact slO_avoid _ _ | exact vaO_avoid _ | exact tab_avoid _ _ rfl rfl | exact wlk_avoid _ _ _ rfl rfl rfl)⟩, ⟨_, rfl, (by first | rfl | exact slO_avoid _ _ | exact vaO_avoid _ | exact tab_avoid _ _ rfl rfl | exact wlk_avoid _ _ _ rfl rfl rfl)⟩, ⟨_, rfl, (by first | rfl | exact slO_avoid _ _ | exact vaO_avoid _ | exact tab_avoid _ _ rfl rfl | exact wlk_avoid _ _ _ rfl rfl rfl)⟩, ⟨_, rfl, (by first | rfl | exact slO_avoid _ _ | exact vaO_avoid _ | exact tab_avoid _ _ rfl rfl | exact wlk_avoid _ _ _ rfl rfl rfl)⟩, ⟨_, rfl, (by first | rfl | exact slO_avoid _ _ | exact vaO_avoid _ | exact tab_avoid _ _ rfl rfl | exact wlk_avoid _ _ _ rfl rfl rfl)⟩, ⟨_, rfl, (by first | rfl | exact slO_avoid _ _ | exact vaO_avoid _ | exact tab_avoid _ _ rfl rfl | exact wlk_avoid _ _ _ rfl rfl rfl)⟩, trivial⟩ rfl (hres_cons rfl (hres_cons rfl (hres_cons rfl (hres_cons rfl (hres_cons rfl (hres_cons rfl (hres_nil _))))))) ⟨⟨_, rfl, rfl, (by first | rfl | exact slO_avoid _ _ | exact vaO_avoid _ | exact tab_avoid _ _ rfl rfl | exact wlk_avoid _ _ _ rfl rfl rfl)⟩, ⟨_, rfl, rfl, (by first | rfl | exact slO_avoid _ _ | exact vaO_avoid _ | exact tab_avoid _ _ rfl rfl | exact wlk_avoid _ _ _ rfl rfl rfl)⟩, ⟨_, rfl, rfl, (by first | rfl | exact slO_avoid _ _ | exact vaO_avoid _ | exact tab_avoid _ _ rfl rfl | exact wlk_avoid _ _ _ rfl rfl rfl)⟩, ⟨_, rfl, rfl, (by first | rfl | exact slO_avoid _ _ | exact vaO_avoid _ | exact tab_avoid _ _ rfl rfl | exact wlk_avoid _ _ _ rfl rfl rfl)⟩, ⟨_, rfl, rfl, (by first | rfl | exact slO_avoid _ _ | exact vaO_avoid _ | exact tab_avoid _ _ rfl rfl | exact wlk_avoid _ _ _ rfl rfl rfl)⟩, ⟨_, rfl, rfl, (by first | rfl | exact slO_avoid _ _ | exact vaO_avoid _ | exact tab_avoid _ _ rfl rfl | exact wlk_avoid _ _ _ rfl rfl rfl)⟩, trivial⟩ rfl (unknownb_ok first R (m + 1) (w.hap t 0 0) (h.eff rfl) (by omega))) ?_
         refine dq 125 (q_indexV tok rfl rfl rfl rfl rfl rfl rfl rfl hxd.1 hxd.2.2.1) ?_
         refine DOps.w rfl rfl (o_storeV tok rfl rfl rfl rfl rfl rfl rfl (by have h1 := hxd.2.2.1; have h0 := hxd.1; omega) (valC_one _) rfl rfl rfl) ?_
         refine DOps.nil (by kernel_rfl) ?_
         refine ⟨[], trivial, rfl, ?_⟩
         rw [vstep8 ho]
         exact HSub.put (HSub.put (HSub.put (HSub.put (HSub.put (HSub.put (HSub.none _) rfl) rfl) rfl) (by show _ = some (AObj.row false 4 [[.ptr 4 1 0 0, vaA 7 (valC (rset w.vals t.d _)), slA 11 ((w.hap t 0 0).effs.map (arrAV .i64)), .int .i64 w.time]]); rw [valC_vaA]; rfl)) (by show _ = some (vaO (valC (rset w.vals t.d _))); rw [valC_set]; rfl)) rfl
        ·
         refine AGo.cond_false false rfl rfl ?_
         refine AGo.seq ?_
         refine AGo.region ?_
         refine aq 127 (q_bin rfl rfl rfl rfl) ?_
         refine aa 126 ?_
         refine AOps.nil ?_
         refine AGo.split 126 rfl (fun hb9 => ?_) (fun hb9 => ?_)
         ·
          refine AGo.cond_true true rfl rfl ?_
          have ho : t.op = 9 := by simpa using hb9
          have hxa := h.at (ht.a (.inl (by rw [ho]; rfl)))
          
          refine AGo.draw mix ?_
          refine dm 128 ?_
          refine dl 129 tok ?_
          refine dm 130 ?_
          refine df 131 tok ?_
          refine dl 132 tok ?_
          refine dq 133 (q_indexV tok rfl rfl rfl rfl rfl rfl rfl rfl hxa.1 hxa.2.2.1) ?_
          refine dq 134 (q_load tok rfl rfl rfl (ptsV rfl (valC_get ⟨hxa.1, hxa.2.1⟩)) rfl) ?_
          refine dx 135 (o_call (hc := (hput (hput (hput (hput (hput (hput hNew 3 (.map (kvsA .i64 (vmap first ((w).K))))) 4 (.row false 3 [[.int .i64 first, .map 3, slA 9 (((w).K).map (arrAV .i64))]])) 9 (slO 4 (((w).K).map (arrAV .i64)))) 8 (.row false 4 [[.ptr 4 1 0 0, vaA 7 (valC ((w).vals)), slA 11 (((w).effs).map (arrAV .i64)), .int .i64 ((w).time)]])) 7 (vaO (valC ((w).vals)))) 11 (slO 6 (((w).effs).map (arrAV .i64))))) (hw := (hput (hput (hput (hput (hput (hput hNone 3 (.map (kvsA .i64 (vmap first (((w.hap t (rget w.vals t.a) 0)).K))))) 4 (.row false 3 [[.int .i64 first, .map 3, slA 9 ((((w.hap t (rget w.vals t.a) 0)).K).map (arrAV .i64))]])) 9 (slO 4 ((((w.hap t (rget w.vals t.a) 0)).K).map (arrAV .i64)))) 8 (.row false 4 [[.ptr 4 1 0 0, vaA 7 (valC (((w.hap t (rget w.vals t.a) 0)).vals)), slA 11 ((((w.hap t (rget w.vals t.a) 0)).effs).map (arrAV .i64)), .int .i64 (((w.hap t (rget w.vals t.a) 0)).time)]])) 7 (vaO (valC (((w.hap t (rget w.vals t.a) 0)).vals)))) 11 (slO 6 ((((w.hap t (rget w.vals t.a) 0)).effs).map (arrAV .i64))))) [11, 7, 8, 9, 4, 3] [(3, (.map (kvsA .i64 (vmap first (((w.hap t (rget w.vals t.a) 0)).K))))), (4, (.row false 3 [[.int .i64 first, .map 3, slA 9 ((((w.hap t (rget w.vals t.a) 0)).K).map (arrAV .i64))]])), (9, (slO 4 ((((w.hap t (rget w.vals t.a) 0)).K).map (arrAV .i64)))), (8, (.row false 4 [[.ptr 4 1 0 0, vaA 7 (valC (((w.hap t (rget w.vals t.a) 0)).vals)), slA 11 ((((w.hap t (rget w.vals t.a) 0)).effs).map (arrAV .i64)), .int .i64 (((w.hap t (rget w.vals t.a) 0)).time)]])), (7, (vaO (valC (((w.hap t (rget w.vals t.a) 0)).vals)))), (11, (slO 6 ((((w.hap t (rget w.vals t.a) 0)).effs).map (arrAV .i64))))] rfl Try.func47 (by kernel_rfl) rfl rfl rfl ⟨⟨_, rfl, (by first | rfl | exact slO_avoid _ _ | exact vaO_avoid _ | exact tab_avoid _ _ rfl rfl | exact wlk_avoid _ _ _ rfl rfl rfl)⟩, ⟨_, rfl, (by first | rfl | exact slO_avoid _ _ | exact vaO_avoid _ | exact tab_avoid _ _ rfl rfl | exact wlk_avoid _ _ _ rfl rfl rfl)⟩, ⟨_, rfl, (by first | rfl | exact slO_avoid _ _ | exact vaO_avoid _ | exact tab_avoid _ _ rfl rfl | exact wlk_avoid _ _ _ rfl rfl rfl)⟩, ⟨_, rfl, (by first | rfl | exact slO_avoid _ _ | exact vaO_avoid _ | exact tab_avoid _ _ rfl rfl | exact wlk_avoid _ _ _ rfl rfl rfl)⟩, ⟨_, rfl, (by first | rfl | exact slO_avoid _ _ | exact vaO_avoid _ | exact tab_avoid _ _ rfl rfl | exact wlk_avoid _ _ _ rfl rfl rfl)⟩, ⟨_, rfl, (by first | rfl | exact slO_avoid _ _ | exact vaO_avoid _ | exact tab_avoid _ _ rfl rfl | exact wlk_avoid _ _ _ rfl rfl rfl)⟩, trivial⟩ rfl (hres_cons rfl (hres_cons rfl (hres_cons rfl (hres_cons rfl (hres_cons rfl (hres_cons rfl (hres_nil _))))))) ⟨⟨_, rfl, rfl, (by first | rfl | exact slO_avoid _ _ | exact vaO_avoid _ | exact tab_avoid _ _ rfl rfl | exact wlk_avoid _ _ _ rfl rfl rfl)⟩, ⟨_, rfl, rfl, (by first | rfl | exact slO_avoid _ _ | exact vaO_avoid _ | exact tab_avoid _ _ rfl rfl | exact wlk_avoid _ _ _ rfl rfl rfl)⟩, ⟨_, rfl, rfl, (by first | rfl | exact slO_avoid _ _ | exact vaO_avoid _ | exact tab_avoid _ _ rfl rfl | exact wlk_avoid _ _ _ rfl rfl rfl)⟩, ⟨_, rfl, rfl, (by first | rfl | exact slO_avoid _ _ | exact vaO_avoid _ | exact tab_avoid _ _ rfl rfl | exact wlk_avoid _ _ _ rfl rfl rfl)⟩, ⟨_, rfl, rfl, (by first | rfl | exact slO_avoid _ _ | exact vaO_avoid _ | exact tab_avoid _ _ rfl rfl | exact wlk_avoid _ _ _ rfl rfl rfl)⟩, ⟨_, rfl, rfl, (by first | rfl | exact slO_avoid _ _ | exact vaO_avoid _ | exact tab_avoid _ _ rfl rfl | exact wlk_avoid _ _ _ rfl rfl rfl)⟩, trivial⟩ rfl (happensb_ok first R m w h (by omega) t (rget w.vals t.a) 0)) ?_
          refine DOps.nil (by kernel_rfl) ?_
          refine ⟨[], trivial, rfl, ?_⟩
          rw [vstep9 ho]
          exact HSub.put (HSub.put (HSub.put (HSub.put (HSub.put (HSub.put (HSub.none _) rfl) rfl) rfl) rfl) rfl) rfl
         ·
          refine AGo.cond_false false rfl rfl ?_
          refine AGo.seq ?_
          refine AGo.region ?_
          refine aq 137 (q_bin rfl rfl rfl rfl) ?_
          refine aa 136 ?_
          refine AOps.nil ?_
          refine AGo.split 136 rfl (fun hb10 => ?_) (fun hb10 => ?_)
          ·
           refine AGo.cond_true true rfl rfl ?_
           have ho : t.op = 10 := by simpa using hb10
           
           refine AGo.seq ?_
           refine AGo.region ?_
           refine am 138 ?_
           refine al 139 tok ?_
           refine ax 140 (o_call (hc := (hput (hput (hput (hput (hput (hput hNew 3 (.map (kvsA .i64 (vmap first ((w).K))))) 4 (.row false 3 [[.int .i64 first, .map 3, slA 9 (((w).K).map (arrAV .i64))]])) 9 (slO 4 (((w).K).map (arrAV .i64)))) 8 (.row false 4 [[.ptr 4 1 0 0, vaA 7 (valC ((w).vals)), slA 11 (((w).effs).map (arrAV .i64)), .int .i64 ((w).time)]])) 7 (vaO (valC ((w).vals)))) 11 (slO 6 (((w).effs).map (arrAV .i64))))) (hw := (hput (hput (hput (hput (hput (hput hNone 3 (.map (kvsA .i64 (vmap first (((w.hap t 0 0)).K))))) 4 (.row false 3 [[.int .i64 first, .map 3, slA 9 ((((w.hap t 0 0)).K).map (arrAV .i64))]])) 9 (slO 4 ((((w.hap t 0 0)).K).map (arrAV .i64)))) 8 (.row false 4 [[.ptr 4 1 0 0, vaA 7 (valC (((w.hap t 0 0)).vals)), slA 11 ((((w.hap t 0 0)).effs).map (arrAV .i64)), .int .i64 (((w.hap t 0 0)).time)]])) 7 (vaO (valC (((w.hap t 0 0)).vals)))) 11 (slO 6 ((((w.hap t 0 0)).effs).map (arrAV .i64))))) [11, 7, 8, 9, 4, 3] [(3, (.map (kvsA .i64 (vmap first (((w.hap t 0 0)).K))))), (4, (.row false 3 [[.int .i64 first, .map 3, slA 9 ((((w.hap t 0 0)).K).map (arrAV .i64))]])), (9, (slO 4 ((((w.hap t 0 0)).K).map (arrAV .i64)))), (8, (.row false 4 [[.ptr 4 1 0 0, vaA 7 (valC (((w.hap t 0 0)).vals)), slA 11 ((((w.hap t 0 0)).effs).map (arrAV .i64)), .int .i64 (((w.hap t 0 0)).time)]])), (7, (vaO (valC (((w.hap t 0 0)).vals)))), (11, (slO 6 ((((w.hap t 0 0)).effs).map (arrAV .i64))))] rfl Try.func47 (by kernel_rfl) rfl rfl rfl ⟨⟨_, rfl, (by first | rfl | exact slO_avoid _ _ | exact vaO_avoid _ | exact tab_avoid _ _ rfl rfl | exact wlk_avoid _ _ _ rfl rfl rfl)⟩, ⟨_, rfl, (by first | rfl | exact slO_avoid _ _ | exact vaO_avoid _ | exact tab_avoid _ _ rfl rfl | exact wlk_avoid _ _ _ rfl rfl rfl)⟩, ⟨_, rfl, (by first | rfl | exact slO_avoid _ _ | exact vaO_avoid _ | exact tab_avoid _ _ rfl rfl | exact wlk_avoid _ _ _ rfl rfl rfl)⟩, ⟨_, rfl, (by first | rfl | exact slO_avoid _ _ | exact vaO_avoid _ | exact tab_avoid _ _ rfl rfl | exact wlk_avoid _ _ _ rfl rfl rfl)⟩, ⟨_, rfl, (by first | rfl | exact slO_avoid _ _ | exact vaO_avoid _ | exact tab_avoid _ _ rfl rfl | exact wlk_avoid _ _ _ rfl rfl rfl)⟩, ⟨_, rfl, (by first | rfl | exact slO_avoid _ _ | exact vaO_avoid _ | exact tab_avoid _ _ rfl rfl | exact wlk_avoid _ _ _ rfl rfl rfl)⟩, trivial⟩ rfl (hres_cons rfl (hres_cons rfl (hres_cons rfl (hres_cons rfl (hres_cons rfl (hres_cons rfl (hres_nil _))))))) ⟨⟨_, rfl, rfl, (by first | rfl | exact slO_avoid _ _ | exact vaO_avoid _ | exact tab_avoid _ _ rfl rfl | exact wlk_avoid _ _ _ rfl rfl rfl)⟩, ⟨_, rfl, rfl, (by first | rfl | exact slO_avoid _ _ | exact vaO_avoid _ | exact tab_avoid _ _ rfl rfl | exact wlk_avoid _ _ _ rfl rfl rfl)⟩, ⟨_, rfl, rfl, (by first | rfl | exact slO_avoid _ _ | exact vaO_avoid _ | exact tab_avoid _ _ rfl rfl | exact wlk_avoid _ _ _ rfl rfl rfl)⟩, ⟨_, rfl, rfl, (by first | rfl | exact slO_avoid _ _ | exact vaO_avoid _ | exact tab_avoid _ _ rfl rfl | exact wlk_avoid _ _ _ rfl rfl rfl)⟩, ⟨_, rfl, rfl, (by first | rfl | exact slO_avoid _ _ | exact vaO_avoid _ | exact tab_avoid _ _ rfl rfl | exact wlk_avoid _ _ _ rfl rfl rfl)⟩, ⟨_, rfl, rfl, (by first | rfl | exact slO_avoid _ _ | exact vaO_avoid _ | exact tab_avoid _ _ rfl rfl | exact wlk_avoid _ _ _ rfl rfl rfl)⟩, trivial⟩ rfl (happensb_ok first R m w h (by omega) t 0 0)) ?_
           refine AOps.nil ?_
           refine AGo.region ?_
           refine am 141 ?_
           refine aq 142 (q_nilCheck rfl rfl rfl) ?_
           refine af 143 tok ?_
           refine al 144 tok ?_
           refine aq 145 (q_bin (r := .int .i64 (w.time + 1)) rfl rfl rfl (by exact timeZ (x := w.time) (by omega))) ?_
           refine aq 146 (q_nilCheck rfl rfl rfl) ?_
           refine af 147 tok ?_
           refine AOps.w rfl rfl (o_store tok rfl rfl rfl rfl rfl rfl rfl rfl rfl (by decide) rfl (by first | exact fun _ => rfl | (intro h; cases h))) ?_
           refine AOps.nil ?_
           refine ⟨[], trivial, rfl, ?_⟩
           rw [vstep10 ho]
           exact HSub.put (HSub.put (HSub.put (HSub.put (HSub.put (HSub.put (HSub.none _) rfl) rfl) rfl) rfl) rfl) rfl
          ·
           refine AGo.cond_false false rfl rfl ?_
           refine AGo.skip ?_
           refine ⟨[], trivial, rfl, ?_⟩
           rw [vstep0 hb1 hb2 hb3 hb4 hb5 hb6 hb7 hb8 hb9 hb10]
           exact HSub.put (HSub.put (HSub.put (HSub.put (HSub.put (HSub.put (HSub.none _) rfl) rfl) rfl) rfl) rfl) rfl

end Go.Proofs.Ytpijoieooikfgaa.Sv

namespace Go.Proofs.Ytpijoieooikfgaa.Sv
open Go

set_option maxHeartbeats 1000000 in
set_option maxRecDepth 100000 in
theorem happensa_ok (first : Int) (R m : Nat) (w : VW) (h : VOk first R m w) (hm : m ≤ 90000) (t : Tac) (a b : Int) : ACall Try.prog 47 [.ptr 6 1 0 0, .agg t.cells, .int .i64 a, .int .i64 b] (hput (hput (hput (hput (hput (hput hNew 3 (.map (kvsA .i64 (vmap first ((w).K))))) 4 (.row false 3 [[.int .i64 first, .map 3, slA 9 (((w).K).map (arrAV .i64))]])) 9 (slO 4 (((w).K).map (arrAV .i64)))) 6 (.row false 4 [[.ptr 4 1 0 0, vaA 5 (valC ((w).vals)), slA 10 (((w).effs).map (arrAV .i64)), .int .i64 ((w).time)]])) 5 (vaO (valC ((w).vals)))) 10 (slO 6 (((w).effs).map (arrAV .i64)))) (fun r h' => r = .tup [] ∧ HSub (hput (hput (hput (hput (hput (hput hNone 3 (.map (kvsA .i64 (vmap first (((w.hap t a b)).K))))) 4 (.row false 3 [[.int .i64 first, .map 3, slA 9 ((((w.hap t a b)).K).map (arrAV .i64))]])) 9 (slO 4 ((((w.hap t a b)).K).map (arrAV .i64)))) 6 (.row false 4 [[.ptr 4 1 0 0, vaA 5 (valC (((w.hap t a b)).vals)), slA 10 ((((w.hap t a b)).effs).map (arrAV .i64)), .int .i64 (((w.hap t a b)).time)]])) 5 (vaO (valC (((w.hap t a b)).vals)))) 10 (slO 6 ((((w.hap t a b)).effs).map (arrAV .i64)))) h') := by
 have hel := h.el
 refine ACall.of_body (n := 26) tok Try.func47 rfl rfl ?_
 refine AGo.seq ?_
 refine AGo.region ?_
 refine ax 5 (o_box (sz := 8) 12 rfl rfl rfl rfl (Nat.zero_lt_succ _) rfl) ?_
 refine AOps.nil ?_
 refine AGo.draw mix ?_
 refine dm 8 ?_
 refine dm 9 ?_
 refine dq 10 (q_nilCheck rfl rfl rfl) ?_
 refine df 11 tok ?_
 refine dl 12 tok ?_
 refine df 13 tok ?_
 refine dl 14 tok ?_
 refine df 15 tok ?_
 refine dl 16 tok ?_
 refine df 17 tok ?_
 refine dl 18 tok ?_
 refine dm 19 ?_
 refine dm 20 ?_
 refine dq 21 (q_build_arr tok rfl rfl rfl rfl rfl rfl (by decide) rfl rfl) ?_
 refine dx 22 (o_lit' tok rfl rfl rfl rfl rfl rfl (by decide) rfl rfl rfl rfl rfl rfl) ?_
 refine dx 23 (o_append1J tok (b := 10) (es := ((w.effs).map (arrAV .i64))) rfl rfl rfl rfl rfl rfl rfl rfl rfl rfl rfl (Nat.zero_lt_succ _) (arr_len h.e6) (arr_pure _) rfl rfl (by rw [List.length_map]; show _ * 48 ≤ _; omega) (by rw [List.length_map]; simp only [maxLen]; omega)) ?_
 refine dq 24 (q_nilCheck rfl rfl rfl) ?_
 refine df 25 tok ?_
 refine DOps.w rfl rfl (o_store1 tok rfl rfl rfl rfl rfl rfl rfl rfl rfl (slA_cells _ _) (by decide) (slA_cell1 _ _) (by intro h; cases h)) ?_
 refine DOps.nil (by kernel_rfl) ?_
 refine ⟨[], trivial, rfl, ?_⟩
 exact HSub.put (HSub.put (HSub.put (HSub.put (HSub.put (HSub.put (HSub.none _) rfl) rfl) rfl) (by show _ = some (AObj.row false 4 [[.ptr 4 1 0 0, vaA 5 (valC (w.vals)), slA 10 ((w.effs ++ [_]).map (arrAV .i64)), .int .i64 w.time]]); rw [List.map_append]; rfl)) rfl) (by show _ = some (slO 6 ((w.effs ++ [_]).map (arrAV .i64))); rw [List.map_append]; rfl)

set_option maxHeartbeats 1000000 in
set_option maxRecDepth 100000 in
theorem unknowna_ok (first : Int) (R m : Nat) (w : VW) (h : VOk first R m w) (hm : m ≤ 90000) : ACall Try.prog 48 [.ptr 6 1 0 0] (hput (hput (hput (hput (hput (hput hNew 3 (.map (kvsA .i64 (vmap first ((w).K))))) 4 (.row false 3 [[.int .i64 first, .map 3, slA 9 (((w).K).map (arrAV .i64))]])) 9 (slO 4 (((w).K).map (arrAV .i64)))) 6 (.row false 4 [[.ptr 4 1 0 0, vaA 5 (valC ((w).vals)), slA 10 (((w).effs).map (arrAV .i64)), .int .i64 ((w).time)]])) 5 (vaO (valC ((w).vals)))) 10 (slO 6 (((w).effs).map (arrAV .i64)))) (fun r h' => r = .int .i64 (vunk first w).1 ∧ HSub (hput (hput (hput (hput (hput (hput hNone 3 (.map (kvsA .i64 (vmap first ((vunk first w).2))))) 4 (.row false 3 [[.int .i64 first, .map 3, slA 9 (((vunk first w).2).map (arrAV .i64))]])) 9 (slO 4 (((vunk first w).2).map (arrAV .i64)))) 6 (.row false 4 [[.ptr 4 1 0 0, vaA 5 (valC ((w).vals)), slA 10 (((w).effs).map (arrAV .i64)), .int .i64 ((w).time)]])) 5 (vaO (valC ((w).vals)))) 10 (slO 6 (((w).effs).map (arrAV .i64)))) h') := by
 have hkl := h.kl
 refine ACall.of_body (n := 14) tok Try.func48 rfl rfl ?_
 refine AGo.seq ?_
 refine AGo.region ?_
 refine aa 2 ?_
 refine AOps.nil ?_
 refine AGo.seq ?_
 refine AGo.draw mix ?_
 refine dm 3 ?_
 refine dq 4 (q_nilCheck rfl rfl rfl) ?_
 refine df 5 tok ?_
 refine dl 6 tok ?_
 refine dm 7 ?_
 refine dq 8 (q_nilCheck rfl rfl rfl) ?_
 refine df 9 tok ?_
 refine dl 10 tok ?_
 refine dq 11 (q_lenJ tok rfl rfl rfl rfl) ?_
 refine dq 12 (q_build_arr tok rfl rfl rfl rfl rfl rfl (by decide) rfl rfl) ?_
 refine dx 13 (o_call (hc := (hput (hput (hput hNew 3 (.map (kvsA .i64 (vmap first (w.K))))) 4 (.row false 3 [[.int .i64 first, .map 3, slA 9 ((w.K).map (arrAV .i64))]])) 9 (slO 4 ((w.K).map (arrAV .i64))))) (hw := (hput (hput (hput hNone 3 (.map (kvsA .i64 (vmap first ((vunk first w).2))))) 4 (.row false 3 [[.int .i64 first, .map 3, slA 9 (((vunk first w).2).map (arrAV .i64))]])) 9 (slO 4 (((vunk first w).2).map (arrAV .i64))))) [9, 4, 3] [(3, (.map (kvsA .i64 (vmap first ((vunk first w).2))))), (4, (.row false 3 [[.int .i64 first, .map 3, slA 9 (((vunk first w).2).map (arrAV .i64))]])), (9, (slO 4 (((vunk first w).2).map (arrAV .i64))))] rfl Try.func45 (by kernel_rfl) rfl rfl rfl ⟨⟨_, rfl, (by first | rfl | exact slO_avoid _ _ | exact vaO_avoid _ | exact tab_avoid _ _ rfl rfl | exact wlk_avoid _ _ _ rfl rfl rfl)⟩, ⟨_, rfl, (by first | rfl | exact slO_avoid _ _ | exact vaO_avoid _ | exact tab_avoid _ _ rfl rfl | exact wlk_avoid _ _ _ rfl rfl rfl)⟩, ⟨_, rfl, (by first | rfl | exact slO_avoid _ _ | exact vaO_avoid _ | exact tab_avoid _ _ rfl rfl | exact wlk_avoid _ _ _ rfl rfl rfl)⟩, trivial⟩ rfl (hres_cons rfl (hres_cons rfl (hres_cons rfl (hres_nil _)))) ⟨⟨_, rfl, rfl, (by first | rfl | exact slO_avoid _ _ | exact vaO_avoid _ | exact tab_avoid _ _ rfl rfl | exact wlk_avoid _ _ _ rfl rfl rfl)⟩, ⟨_, rfl, rfl, (by first | rfl | exact slO_avoid _ _ | exact vaO_avoid _ | exact tab_avoid _ _ rfl rfl | exact wlk_avoid _ _ _ rfl rfl rfl)⟩, ⟨_, rfl, rfl, (by first | rfl | exact slO_avoid _ _ | exact vaO_avoid _ | exact tab_avoid _ _ rfl rfl | exact wlk_avoid _ _ _ rfl rfl rfl)⟩, trivial⟩ rfl ((by rw [List.length_map]; exact number_ok first w.K h.f h.k4 (by omega) 4 (w.effs.length : Int) 0 0))) ?_
 refine da 2 ?_
 refine DOps.nil (by kernel_rfl) ?_
 refine AGo.ret ?_
 refine ⟨[_], ⟨rfl, trivial⟩, rfl, ?_⟩
 exact HSub.put (HSub.put (HSub.put (HSub.put (HSub.put (HSub.put (HSub.none _) rfl) rfl) rfl) rfl) rfl) rfl

end Go.Proofs.Ytpijoieooikfgaa.Sv

namespace Go.Proofs.Ytpijoieooikfgaa.Sv
open Go

theorem bin_da (first : Int) (w : VW) (t : Tac) : w.bin first t = ⟨(vapply first w.K t.k (rget w.vals t.a) (rget w.vals t.b)).2, rset w.vals t.d (vapply first w.K t.k (rget w.vals t.a) (rget w.vals t.b)).1, (w.div first t).effs, w.time⟩ := by
  cases hr : vrisky first w t with
  | true => rw [bin_yes hr]; simp only [VW.div, hr, cond_true]
  | false => rw [bin_no hr]; simp only [VW.div, hr, cond_false]
set_option maxHeartbeats 2000000 in
set_option maxRecDepth 100000 in
theorem binarya_ok (first : Int) (R m : Nat) (w : VW) (h : VOk first R m w) (hm : m ≤ 90000) (t : Tac) (hd : 0 ≤ t.d ∧ t.d < R) (ha : 0 ≤ t.a ∧ t.a < R) (hb : 0 ≤ t.b ∧ t.b < R) : ACall Try.prog 46 [.ptr 6 1 0 0, .agg t.cells] (hput (hput (hput (hput (hput (hput hNew 3 (.map (kvsA .i64 (vmap first ((w).K))))) 4 (.row false 3 [[.int .i64 first, .map 3, slA 9 (((w).K).map (arrAV .i64))]])) 9 (slO 4 (((w).K).map (arrAV .i64)))) 6 (.row false 4 [[.ptr 4 1 0 0, vaA 5 (valC ((w).vals)), slA 10 (((w).effs).map (arrAV .i64)), .int .i64 ((w).time)]])) 5 (vaO (valC ((w).vals)))) 10 (slO 6 (((w).effs).map (arrAV .i64)))) (fun r h' => r = .tup [] ∧ HSub (hput (hput (hput (hput (hput (hput hNone 3 (.map (kvsA .i64 (vmap first (((w.bin first t)).K))))) 4 (.row false 3 [[.int .i64 first, .map 3, slA 9 ((((w.bin first t)).K).map (arrAV .i64))]])) 9 (slO 4 ((((w.bin first t)).K).map (arrAV .i64)))) 6 (.row false 4 [[.ptr 4 1 0 0, vaA 5 (valC (((w.bin first t)).vals)), slA 10 ((((w.bin first t)).effs).map (arrAV .i64)), .int .i64 (((w.bin first t)).time)]])) 5 (vaO (valC (((w.bin first t)).vals)))) 10 (slO 6 ((((w.bin first t)).effs).map (arrAV .i64)))) h') := by
 have hel := h.el
 have hkl := h.kl
 have hxd := h.at hd
 have hxa := h.at ha
 have hxb := h.at hb
 refine ACall.of_body (n := 77) tok Try.func46 rfl rfl ?_
 refine AGo.seq ?_
 refine AGo.region ?_
 refine ax 3 (o_box (sz := 8) 12 rfl rfl rfl rfl (Nat.zero_lt_succ _) rfl) ?_
 refine AOps.nil ?_
 refine AGo.seq ?_
 refine AGo.draw mix ?_
 refine dm 8 ?_
 refine dq 9 (q_nilCheck rfl rfl rfl) ?_
 refine df 10 tok ?_
 refine dl 11 tok ?_
 refine df 12 tok ?_
 refine dl 13 tok ?_
 refine dq 14 (q_indexV tok rfl rfl rfl rfl rfl rfl rfl rfl hxa.1 hxa.2.2.1) ?_
 refine dq 15 (q_load tok rfl rfl rfl (ptsV rfl (valC_get ⟨hxa.1, hxa.2.1⟩)) rfl) ?_
 refine dm 16 ?_
 refine dq 17 (q_nilCheck rfl rfl rfl) ?_
 refine df 18 tok ?_
 refine dl 19 tok ?_
 refine df 20 tok ?_
 refine dl 21 tok ?_
 refine dq 22 (q_indexV tok rfl rfl rfl rfl rfl rfl rfl rfl hxb.1 hxb.2.2.1) ?_
 refine dq 23 (q_load tok rfl rfl rfl (ptsV rfl (valC_get ⟨hxb.1, hxb.2.1⟩)) rfl) ?_
 refine da 4 ?_
 refine da 5 ?_
 refine DOps.nil (by kernel_rfl) ?_
 refine AGo.seq ?_
 refine AGo.seq ?_
 refine AGo.join (γ := Unit) (fun _u => ⟨77, (eput (eput (eput (eput (eput eNew 0 (.ptr 6 1 0 0)) 3 (.ptr 12 1 0 0)) 4 (.int .i64 (rget w.vals t.a))) 5 (.int .i64 (rget w.vals t.b))) 31 (.bool (t.k == 7 || t.k == 8))), (hput (hput (hput (hput (hput (hput (hput (hFrom 13) 12 (.row false 8 [t.cells])) 3 (.map (kvsA .i64 (vmap first ((w).K))))) 4 (.row false 3 [[.int .i64 first, .map 3, slA 9 (((w).K).map (arrAV .i64))]])) 9 (slO 4 (((w).K).map (arrAV .i64)))) 6 (.row false 4 [[.ptr 4 1 0 0, vaA 5 (valC ((w).vals)), slA 10 (((w).effs).map (arrAV .i64)), .int .i64 ((w).time)]])) 5 (vaO (valC ((w).vals)))) 10 (slO 6 (((w).effs).map (arrAV .i64))))⟩) (fun _u => True) ?_ ?_
 ·
  refine AGo.region ?_
  refine af 24 tok ?_
  refine al 25 tok ?_
  refine aq 26 (q_bin rfl rfl rfl rfl) ?_
  refine am 27 ?_
  refine AOps.split 27 rfl (fun hb1 => ?_) (fun hb1 => ?_)
  ·
   refine ak 28 ?_
   refine ak 29 ?_
   refine ak 30 ?_
   refine aq 31 (q_pick_true true rfl rfl rfl rfl) ?_
   refine AOps.nil ?_
   exact ⟨(), Sub.mk' (by repeat (first | exact ESub.new _ | refine ESub.put ?_ (by first | rfl | exact congrArg (fun c => some (AV.bool c)) (by simp_all)))) (by repeat (first | exact HSub.refl _ | exact HSub.none _ | exact HSub.from_new _ | exact HSub.from_from (by first | decide | omega | (dsimp only; omega)) | refine HSub.put ?_ (by rfl) | refine HSub.from_put ?_ (by first | decide | omega | (dsimp only; omega)) | refine HSub.from_rm ?_ (by decide))), trivial⟩
  ·
   refine af 28 tok ?_
   refine al 29 tok ?_
   refine aq 30 (q_bin rfl rfl rfl rfl) ?_
   refine aq 31 (q_pick_false false rfl rfl rfl rfl) ?_
   refine AOps.nil ?_
   exact ⟨(), Sub.mk' (by repeat (first | exact ESub.new _ | refine ESub.put ?_ (by first | rfl | exact congrArg (fun c => some (AV.bool c)) (by simp_all)))) (by repeat (first | exact HSub.refl _ | exact HSub.none _ | exact HSub.from_new _ | exact HSub.from_from (by first | decide | omega | (dsimp only; omega)) | refine HSub.put ?_ (by rfl) | refine HSub.from_put ?_ (by first | decide | omega | (dsimp only; omega)) | refine HSub.from_rm ?_ (by decide))), trivial⟩
 intro _u _
 refine AGo.join (γ := Unit) (fun _u => ⟨77, (eput (eput (eput (eput eNew 0 (.ptr 6 1 0 0)) 3 (.ptr 12 1 0 0)) 4 (.int .i64 (rget w.vals t.a))) 5 (.int .i64 (rget w.vals t.b))), (hput (hput (hput (hput (hput (hput (hput (hFrom 13) 12 (.row false 8 [t.cells])) 3 (.map (kvsA .i64 (vmap first (w.K))))) 4 (.row false 3 [[.int .i64 first, .map 3, slA 9 ((w.K).map (arrAV .i64))]])) 9 (slO 4 ((w.K).map (arrAV .i64)))) 6 (.row false 4 [[.ptr 4 1 0 0, vaA 5 (valC ((w).vals)), slA 10 (((w.div first t).effs).map (arrAV .i64)), .int .i64 (w.time)]])) 5 (vaO (valC ((w).vals)))) 10 (slO 6 (((w.div first t).effs).map (arrAV .i64))))⟩) (fun _u => True) ?_ ?_
 ·
  refine AGo.split 31 rfl (fun hb2 => ?_) (fun hb2 => ?_)
  ·
   refine AGo.cond_true true rfl rfl ?_
   refine AGo.seq ?_
   refine AGo.region ?_
   refine am 33 ?_
   refine aq 34 (q_nilCheck rfl rfl rfl) ?_
   refine af 35 tok ?_
   refine al 36 tok ?_
   refine am 37 ?_
   refine ax 38 (o_call (hc := (hput (hput (hput hNew 3 (.map (kvsA .i64 (vmap first (w.K))))) 4 (.row false 3 [[.int .i64 first, .map 3, slA 9 ((w.K).map (arrAV .i64))]])) 9 (slO 4 ((w.K).map (arrAV .i64))))) (hw := (hput (hput (hput hNone 3 (.map (kvsA .i64 (vmap first (w.K))))) 4 (.row false 3 [[.int .i64 first, .map 3, slA 9 ((w.K).map (arrAV .i64))]])) 9 (slO 4 ((w.K).map (arrAV .i64))))) [9, 4, 3] [(3, (.map (kvsA .i64 (vmap first (w.K))))), (4, (.row false 3 [[.int .i64 first, .map 3, slA 9 ((w.K).map (arrAV .i64))]])), (9, (slO 4 ((w.K).map (arrAV .i64))))] rfl Try.func56 (by kernel_rfl) rfl rfl rfl ⟨⟨_, rfl, (by first | rfl | exact slO_avoid _ _ | exact vaO_avoid _ | exact tab_avoid _ _ rfl rfl | exact wlk_avoid _ _ _ rfl rfl rfl)⟩, ⟨_, rfl, (by first | rfl | exact slO_avoid _ _ | exact vaO_avoid _ | exact tab_avoid _ _ rfl rfl | exact wlk_avoid _ _ _ rfl rfl rfl)⟩, ⟨_, rfl, (by first | rfl | exact slO_avoid _ _ | exact vaO_avoid _ | exact tab_avoid _ _ rfl rfl | exact wlk_avoid _ _ _ rfl rfl rfl)⟩, trivial⟩ rfl (hres_cons rfl (hres_cons rfl (hres_cons rfl (hres_nil _)))) ⟨⟨_, rfl, rfl, (by first | rfl | exact slO_avoid _ _ | exact vaO_avoid _ | exact tab_avoid _ _ rfl rfl | exact wlk_avoid _ _ _ rfl rfl rfl)⟩, ⟨_, rfl, rfl, (by first | rfl | exact slO_avoid _ _ | exact vaO_avoid _ | exact tab_avoid _ _ rfl rfl | exact wlk_avoid _ _ _ rfl rfl rfl)⟩, ⟨_, rfl, rfl, (by first | rfl | exact slO_avoid _ _ | exact vaO_avoid _ | exact tab_avoid _ _ rfl rfl | exact wlk_avoid _ _ _ rfl rfl rfl)⟩, trivial⟩ rfl (constant_ok first w.K h.f h.k4 (by omega) (rget w.vals t.b) hxb.2.2.2)) ?_
   refine am 32 ?_
   refine aq 39 (q_extract rfl rfl rfl) ?_
   refine aq 40 (q_extract rfl rfl rfl) ?_
   refine aa 6 ?_
   refine aa 7 ?_
   refine AOps.nil ?_
   refine AGo.seq ?_
   refine AGo.region ?_
   refine am 41 ?_
   refine aq 42 (q_not rfl rfl) ?_
   refine am 43 ?_
   refine AOps.split 43 rfl (fun hb3 => ?_) (fun hb3 => ?_)
   ·
    refine ak 44 ?_
    refine ak 45 ?_
    refine aq 46 (q_pick_true true rfl rfl rfl rfl) ?_
    refine AOps.nil ?_
    refine AGo.cond_true true rfl rfl ?_
    refine AGo.draw mix ?_
    refine dm 47 ?_
    refine dm 48 ?_
    refine dq 49 (q_nilCheck rfl rfl rfl) ?_
    refine df 50 tok ?_
    refine dl 51 tok ?_
    refine df 52 tok ?_
    refine dl 53 tok ?_
    refine dm 54 ?_
    refine dm 55 ?_
    refine dq 56 (q_build_arr tok rfl rfl rfl rfl rfl rfl (by decide) rfl rfl) ?_
    refine dx 57 (o_lit' tok rfl rfl rfl rfl rfl rfl (by decide) rfl rfl rfl rfl rfl rfl) ?_
    refine dx 58 (o_append1J tok (b := 10) (es := ((w.effs).map (arrAV .i64))) rfl rfl rfl rfl rfl rfl rfl rfl rfl rfl rfl (Nat.zero_lt_succ _) (arr_len h.e6) (arr_pure _) rfl rfl (by rw [List.length_map]; show _ * 48 ≤ _; omega) (by rw [List.length_map]; simp only [maxLen]; omega)) ?_
    refine dq 59 (q_nilCheck rfl rfl rfl) ?_
    refine df 60 tok ?_
    refine DOps.w rfl rfl (o_store1 tok rfl rfl rfl rfl rfl rfl rfl rfl rfl (slA_cells _ _) (by decide) (slA_cell1 _ _) (by intro h; cases h)) ?_
    refine DOps.nil (by kernel_rfl) ?_
    exact ⟨(), Sub.mk' (by repeat (first | exact ESub.new _ | refine ESub.put ?_ (by rfl))) (by repeat (first | exact HSub.refl _ | exact HSub.none _ | exact HSub.from_new _ | exact HSub.from_from (by first | decide | omega | (dsimp only; omega)) | refine HSub.put ?_ (by first | rfl | ((have hr : vrisky first w t = true := by (first | (simp [vrisky, *]; done) | (simp_all [vrisky]; done))); simp only [VW.div, hr, cond_true, cond_false, List.map_append]; rfl) | ((have hr : vrisky first w t = false := by (first | (simp [vrisky, *]; done) | (simp_all [vrisky]; done))); simp only [VW.div, hr, cond_true, cond_false, List.map_append]; rfl)) | refine HSub.from_put ?_ (by first | decide | omega | (dsimp only; omega)) | refine HSub.from_rm ?_ (by decide))), trivial⟩
   ·
    refine am 44 ?_
    refine aq 45 (q_bin rfl rfl rfl rfl) ?_
    refine aq 46 (q_pick_false false rfl rfl rfl rfl) ?_
    refine AOps.nil ?_
    refine AGo.split 46 rfl (fun hb4 => ?_) (fun hb4 => ?_)
    ·
     refine AGo.cond_true true rfl rfl ?_
     refine AGo.draw mix ?_
     refine dm 47 ?_
     refine dm 48 ?_
     refine dq 49 (q_nilCheck rfl rfl rfl) ?_
     refine df 50 tok ?_
     refine dl 51 tok ?_
     refine df 52 tok ?_
     refine dl 53 tok ?_
     refine dm 54 ?_
     refine dm 55 ?_
     refine dq 56 (q_build_arr tok rfl rfl rfl rfl rfl rfl (by decide) rfl rfl) ?_
     refine dx 57 (o_lit' tok rfl rfl rfl rfl rfl rfl (by decide) rfl rfl rfl rfl rfl rfl) ?_
     refine dx 58 (o_append1J tok (b := 10) (es := ((w.effs).map (arrAV .i64))) rfl rfl rfl rfl rfl rfl rfl rfl rfl rfl rfl (Nat.zero_lt_succ _) (arr_len h.e6) (arr_pure _) rfl rfl (by rw [List.length_map]; show _ * 48 ≤ _; omega) (by rw [List.length_map]; simp only [maxLen]; omega)) ?_
     refine dq 59 (q_nilCheck rfl rfl rfl) ?_
     refine df 60 tok ?_
     refine DOps.w rfl rfl (o_store1 tok rfl rfl rfl rfl rfl rfl rfl rfl rfl (slA_cells _ _) (by decide) (slA_cell1 _ _) (by intro h; cases h)) ?_
     refine DOps.nil (by kernel_rfl) ?_
     exact ⟨(), Sub.mk' (by repeat (first | exact ESub.new _ | refine ESub.put ?_ (by rfl))) (by repeat (first | exact HSub.refl _ | exact HSub.none _ | exact HSub.from_new _ | exact HSub.from_from (by first | decide | omega | (dsimp only; omega)) | refine HSub.put ?_ (by first | rfl | ((have hr : vrisky first w t = true := by (first | (simp [vrisky, *]; done) | (simp_all [vrisky]; done))); simp only [VW.div, hr, cond_true, cond_false, List.map_append]; rfl) | ((have hr : vrisky first w t = false := by (first | (simp [vrisky, *]; done) | (simp_all [vrisky]; done))); simp only [VW.div, hr, cond_true, cond_false, List.map_append]; rfl)) | refine HSub.from_put ?_ (by first | decide | omega | (dsimp only; omega)) | refine HSub.from_rm ?_ (by decide))), trivial⟩
    ·
     refine AGo.cond_false false rfl rfl ?_
     refine AGo.skip ?_
     exact ⟨(), Sub.mk' (by repeat (first | exact ESub.new _ | refine ESub.put ?_ (by rfl))) (by repeat (first | exact HSub.refl _ | exact HSub.none _ | exact HSub.from_new _ | exact HSub.from_from (by first | decide | omega | (dsimp only; omega)) | refine HSub.put ?_ (by first | rfl | ((have hr : vrisky first w t = true := by (first | (simp [vrisky, *]; done) | (simp_all [vrisky]; done))); simp only [VW.div, hr, cond_true, cond_false, List.map_append]; rfl) | ((have hr : vrisky first w t = false := by (first | (simp [vrisky, *]; done) | (simp_all [vrisky]; done))); simp only [VW.div, hr, cond_true, cond_false, List.map_append]; rfl)) | refine HSub.from_put ?_ (by first | decide | omega | (dsimp only; omega)) | refine HSub.from_rm ?_ (by decide))), trivial⟩
  ·
   refine AGo.cond_false false rfl rfl ?_
   refine AGo.skip ?_
   exact ⟨(), Sub.mk' (by repeat (first | exact ESub.new _ | refine ESub.put ?_ (by rfl))) (by repeat (first | exact HSub.refl _ | exact HSub.none _ | exact HSub.from_new _ | exact HSub.from_from (by first | decide | omega | (dsimp only; omega)) | refine HSub.put ?_ (by first | rfl | ((have hr : vrisky first w t = true := by (first | (simp [vrisky, *]; done) | (simp_all [vrisky]; done))); simp only [VW.div, hr, cond_true, cond_false, List.map_append]; rfl) | ((have hr : vrisky first w t = false := by (first | (simp [vrisky, *]; done) | (simp_all [vrisky]; done))); simp only [VW.div, hr, cond_true, cond_false, List.map_append]; rfl)) | refine HSub.from_put ?_ (by first | decide | omega | (dsimp only; omega)) | refine HSub.from_rm ?_ (by decide))), trivial⟩
 intro _u _
 refine AGo.draw mix ?_
 refine dm 61 ?_
 refine dq 62 (q_nilCheck rfl rfl rfl) ?_
 refine df 63 tok ?_
 refine dl 64 tok ?_
 refine df 65 tok ?_
 refine dl 66 tok ?_
 refine dm 67 ?_
 refine dq 68 (q_nilCheck rfl rfl rfl) ?_
 refine df 69 tok ?_
 refine dl 70 tok ?_
 refine df 71 tok ?_
 refine dl 72 tok ?_
 refine dm 73 ?_
 refine dm 74 ?_
 refine dx 75 (o_call (hc := (hput (hput (hput hNew 3 (.map (kvsA .i64 (vmap first (w.K))))) 4 (.row false 3 [[.int .i64 first, .map 3, slA 9 ((w.K).map (arrAV .i64))]])) 9 (slO 4 ((w.K).map (arrAV .i64))))) (hw := (hput (hput (hput hNone 3 (.map (kvsA .i64 (vmap first ((vapply first w.K t.k (rget w.vals t.a) (rget w.vals t.b)).2))))) 4 (.row false 3 [[.int .i64 first, .map 3, slA 9 (((vapply first w.K t.k (rget w.vals t.a) (rget w.vals t.b)).2).map (arrAV .i64))]])) 9 (slO 4 (((vapply first w.K t.k (rget w.vals t.a) (rget w.vals t.b)).2).map (arrAV .i64))))) [9, 4, 3] [(3, (.map (kvsA .i64 (vmap first ((vapply first w.K t.k (rget w.vals t.a) (rget w.vals t.b)).2))))), (4, (.row false 3 [[.int .i64 first, .map 3, slA 9 (((vapply first w.K t.k (rget w.vals t.a) (rget w.vals t.b)).2).map (arrAV .i64))]])), (9, (slO 4 (((vapply first w.K t.k (rget w.vals t.a) (rget w.vals t.b)).2).map (arrAV .i64))))] rfl Try.func57 (by kernel_rfl) rfl rfl rfl ⟨⟨_, rfl, (by first | rfl | exact slO_avoid _ _ | exact vaO_avoid _ | exact tab_avoid _ _ rfl rfl | exact wlk_avoid _ _ _ rfl rfl rfl)⟩, ⟨_, rfl, (by first | rfl | exact slO_avoid _ _ | exact vaO_avoid _ | exact tab_avoid _ _ rfl rfl | exact wlk_avoid _ _ _ rfl rfl rfl)⟩, ⟨_, rfl, (by first | rfl | exact slO_avoid _ _ | exact vaO_avoid _ | exact tab_avoid _ _ rfl rfl | exact wlk_avoid _ _ _ rfl rfl rfl)⟩, trivial⟩ rfl (hres_cons rfl (hres_cons rfl (hres_cons rfl (hres_nil _)))) ⟨⟨_, rfl, rfl, (by first | rfl | exact slO_avoid _ _ | exact vaO_avoid _ | exact tab_avoid _ _ rfl rfl | exact wlk_avoid _ _ _ rfl rfl rfl)⟩, ⟨_, rfl, rfl, (by first | rfl | exact slO_avoid _ _ | exact vaO_avoid _ | exact tab_avoid _ _ rfl rfl | exact wlk_avoid _ _ _ rfl rfl rfl)⟩, ⟨_, rfl, rfl, (by first | rfl | exact slO_avoid _ _ | exact vaO_avoid _ | exact tab_avoid _ _ rfl rfl | exact wlk_avoid _ _ _ rfl rfl rfl)⟩, trivial⟩ rfl (vapply_ok' first w.K h.f h.k4 (by omega) t.k (rget w.vals t.a) (rget w.vals t.b) hxa.2.2.2 hxb.2.2.2)) ?_
 refine dq 76 (q_indexV tok rfl rfl rfl rfl rfl rfl rfl rfl hxd.1 hxd.2.2.1) ?_
 refine DOps.w rfl rfl (o_storeV tok rfl rfl rfl rfl rfl rfl rfl (by have h1 := hxd.2.2.1; have h0 := hxd.1; omega) (valC_one _) rfl rfl rfl) ?_
 refine DOps.nil (by kernel_rfl) ?_
 refine ⟨[], trivial, rfl, ?_⟩
 rw [bin_da]
 exact HSub.put (HSub.put (HSub.put (HSub.put (HSub.put (HSub.put (HSub.none _) rfl) rfl) rfl) (by show _ = some (AObj.row false 4 [[.ptr 4 1 0 0, vaA 5 (valC (rset w.vals t.d _)), slA 10 ((w.div first t).effs.map (arrAV .i64)), .int .i64 w.time]]); rw [valC_vaA]; rfl)) (by show _ = some (vaO (valC (rset w.vals t.d _))); rw [valC_set]; rfl)) rfl

end Go.Proofs.Ytpijoieooikfgaa.Sv

namespace Go.Proofs.Ytpijoieooikfgaa.Sv
open Go

set_option maxHeartbeats 2000000 in
set_option maxRecDepth 100000 in
theorem vstepa_ok (first : Int) (R m : Nat) (w : VW) (h : VOk first R m w) (hm : m ≤ 80000) (t : Tac) (ht : TacV t R) : ACall Try.prog 35 [.ptr 6 1 0 0, .agg t.cells] (hput (hput (hput (hput (hput (hput hNew 3 (.map (kvsA .i64 (vmap first ((w).K))))) 4 (.row false 3 [[.int .i64 first, .map 3, slA 9 (((w).K).map (arrAV .i64))]])) 9 (slO 4 (((w).K).map (arrAV .i64)))) 6 (.row false 4 [[.ptr 4 1 0 0, vaA 5 (valC ((w).vals)), slA 10 (((w).effs).map (arrAV .i64)), .int .i64 ((w).time)]])) 5 (vaO (valC ((w).vals)))) 10 (slO 6 (((w).effs).map (arrAV .i64)))) (fun r h' => r = .tup [] ∧ HSub (hput (hput (hput (hput (hput (hput hNone 3 (.map (kvsA .i64 (vmap first (((w.step first t)).K))))) 4 (.row false 3 [[.int .i64 first, .map 3, slA 9 ((((w.step first t)).K).map (arrAV .i64))]])) 9 (slO 4 ((((w.step first t)).K).map (arrAV .i64)))) 6 (.row false 4 [[.ptr 4 1 0 0, vaA 5 (valC (((w.step first t)).vals)), slA 10 ((((w.step first t)).effs).map (arrAV .i64)), .int .i64 (((w.step first t)).time)]])) 5 (vaO (valC (((w.step first t)).vals)))) 10 (slO 6 ((((w.step first t)).effs).map (arrAV .i64)))) h') := by
 have hel := h.el
 have hkl := h.kl
 have htl := h.tl
 refine ACall.of_body (n := 148) tok Try.func35 rfl rfl ?_
 refine AGo.seq ?_
 refine AGo.region ?_
 refine ax 3 (o_box (sz := 8) 12 rfl rfl rfl rfl (Nat.zero_lt_succ _) rfl) ?_
 refine AOps.nil ?_
 refine AGo.seq ?_
 refine AGo.region ?_
 refine am 5 ?_
 refine aq 6 (q_nilCheck rfl rfl rfl) ?_
 refine af 7 tok ?_
 refine al 8 tok ?_
 refine aa 4 ?_
 refine AOps.nil ?_
 refine AGo.seq ?_
 refine AGo.region ?_
 refine af 9 tok ?_
 refine al 10 tok ?_
 refine AOps.nil ?_
 refine AGo.block ?_
 refine AGo.seq ?_
 refine AGo.region ?_
 refine aq 12 (q_bin rfl rfl rfl rfl) ?_
 refine aa 11 ?_
 refine AOps.nil ?_
 refine AGo.split 11 rfl (fun hb1 => ?_) (fun hb1 => ?_)
 ·
  refine AGo.cond_true true rfl rfl ?_
  have ho : t.op = 1 := by simpa using hb1
  have hxd := h.at (ht.d (by rw [ho]; rfl))
  
  refine AGo.draw mix ?_
  refine dm 13 ?_
  refine df 14 tok ?_
  refine dl 15 tok ?_
  refine dm 16 ?_
  refine dq 17 (q_nilCheck rfl rfl rfl) ?_
  refine df 18 tok ?_
  refine dl 19 tok ?_
  refine df 20 tok ?_
  refine dl 21 tok ?_
  refine dq 22 (q_convTo tok rfl rfl rfl rfl rfl (r := t.n) (by obtain ⟨h1, h2⟩ := ht.n; exact wrap_i64 (by omega) (by omega))) ?_
  refine dq 23 (q_build_arr tok rfl rfl rfl rfl rfl rfl (by decide) rfl rfl) ?_
  refine dx 24 (o_call (hc := (hput (hput (hput hNew 3 (.map (kvsA .i64 (vmap first (w.K))))) 4 (.row false 3 [[.int .i64 first, .map 3, slA 9 ((w.K).map (arrAV .i64))]])) 9 (slO 4 ((w.K).map (arrAV .i64))))) (hw := (hput (hput (hput hNone 3 (.map (kvsA .i64 (vmap first ((vnum first w.K [1, t.n, 0, 0]).2))))) 4 (.row false 3 [[.int .i64 first, .map 3, slA 9 (((vnum first w.K [1, t.n, 0, 0]).2).map (arrAV .i64))]])) 9 (slO 4 (((vnum first w.K [1, t.n, 0, 0]).2).map (arrAV .i64))))) [9, 4, 3] [(3, (.map (kvsA .i64 (vmap first ((vnum first w.K [1, t.n, 0, 0]).2))))), (4, (.row false 3 [[.int .i64 first, .map 3, slA 9 (((vnum first w.K [1, t.n, 0, 0]).2).map (arrAV .i64))]])), (9, (slO 4 (((vnum first w.K [1, t.n, 0, 0]).2).map (arrAV .i64))))] rfl Try.func45 (by kernel_rfl) rfl rfl rfl ⟨⟨_, rfl, (by first | rfl | exact slO_avoid _ _ | exact vaO_avoid _ | exact tab_avoid _ _ rfl rfl | exact wlk_avoid _ _ _ rfl rfl rfl)⟩, ⟨_, rfl, (by first | rfl | exact slO_avoid _ _ | exact vaO_avoid _ | exact tab_avoid _ _ rfl rfl | exact wlk_avoid _ _ _ rfl rfl rfl)⟩, ⟨_, rfl, (by first | rfl | exact slO_avoid _ _ | exact vaO_avoid _ | exact tab_avoid _ _ rfl rfl | exact wlk_avoid _ _ _ rfl rfl rfl)⟩, trivial⟩ rfl (hres_cons rfl (hres_cons rfl (hres_cons rfl (hres_nil _)))) ⟨⟨_, rfl, rfl, (by first | rfl | exact slO_avoid _ _ | exact vaO_avoid _ | exact tab_avoid _ _ rfl rfl | exact wlk_avoid _ _ _ rfl rfl rfl)⟩, ⟨_, rfl, rfl, (by first | rfl | exact slO_avoid _ _ | exact vaO_avoid _ | exact tab_avoid _ _ rfl rfl | exact wlk_avoid _ _ _ rfl rfl rfl)⟩, ⟨_, rfl, rfl, (by first | rfl | exact slO_avoid _ _ | exact vaO_avoid _ | exact tab_avoid _ _ rfl rfl | exact wlk_avoid _ _ _ rfl rfl rfl)⟩, trivial⟩ rfl (number_ok first w.K h.f h.k4 (by omega) (1) (t.n) (0) (0))) ?_
  refine dq 25 (q_indexV tok rfl rfl rfl rfl rfl rfl rfl rfl hxd.1 hxd.2.2.1) ?_
  refine DOps.w rfl rfl (o_storeV tok rfl rfl rfl rfl rfl rfl rfl (by have h1 := hxd.2.2.1; have h0 := hxd.1; omega) (valC_one _) rfl rfl rfl) ?_
  refine DOps.nil (by kernel_rfl) ?_
  refine ⟨[], trivial, rfl, ?_⟩
  rw [vstep1 ho]
  exact HSub.put (HSub.put (HSub.put (HSub.put (HSub.put (HSub.put (HSub.none _) rfl) rfl) rfl) (by show _ = some (AObj.row false 4 [[.ptr 4 1 0 0, vaA 5 (valC (rset w.vals t.d _)), slA 10 (w.effs.map (arrAV .i64)), .int .i64 w.time]]); rw [valC_vaA]; rfl)) (by show _ = some (vaO (valC (rset w.vals t.d _))); rw [valC_set]; rfl)) rfl
 ·
  refine AGo.cond_false false rfl rfl ?_
  refine AGo.seq ?_
  refine AGo.region ?_
  refine aq 27 (q_bin rfl rfl rfl rfl) ?_
  refine aa 26 ?_
  refine AOps.nil ?_
  refine AGo.split 26 rfl (fun hb2 => ?_) (fun hb2 => ?_)
  ·
   refine AGo.cond_true true rfl rfl ?_
   have ho : t.op = 2 := by simpa using hb2
   have hxd := h.at (ht.d (by rw [ho]; rfl))
   have hxa := h.at (ht.a (.inl (by rw [ho]; rfl)))
   
   refine AGo.draw mix ?_
   refine dm 28 ?_
   refine df 29 tok ?_
   refine dl 30 tok ?_
   refine dm 31 ?_
   refine df 32 tok ?_
   refine dl 33 tok ?_
   refine dq 34 (q_indexV tok rfl rfl rfl rfl rfl rfl rfl rfl hxa.1 hxa.2.2.1) ?_
   refine dq 35 (q_load tok rfl rfl rfl (ptsV rfl (valC_get ⟨hxa.1, hxa.2.1⟩)) rfl) ?_
   refine dq 36 (q_indexV tok rfl rfl rfl rfl rfl rfl rfl rfl hxd.1 hxd.2.2.1) ?_
   refine DOps.w rfl rfl (o_storeV tok rfl rfl rfl rfl rfl rfl rfl (by have h1 := hxd.2.2.1; have h0 := hxd.1; omega) (valC_one _) rfl rfl rfl) ?_
   refine DOps.nil (by kernel_rfl) ?_
   refine ⟨[], trivial, rfl, ?_⟩
   rw [vstep2 ho]
   exact HSub.put (HSub.put (HSub.put (HSub.put (HSub.put (HSub.put (HSub.none _) rfl) rfl) rfl) (by show _ = some (AObj.row false 4 [[.ptr 4 1 0 0, vaA 5 (valC (rset w.vals t.d _)), slA 10 (w.effs.map (arrAV .i64)), .int .i64 w.time]]); rw [valC_vaA]; rfl)) (by show _ = some (vaO (valC (rset w.vals t.d _))); rw [valC_set]; rfl)) rfl
  ·
   refine AGo.cond_false false rfl rfl ?_
   refine AGo.seq ?_
   refine AGo.region ?_
   refine aq 38 (q_bin rfl rfl rfl rfl) ?_
   refine aa 37 ?_
   refine AOps.nil ?_
   refine AGo.split 37 rfl (fun hb3 => ?_) (fun hb3 => ?_)
   ·
    refine AGo.cond_true true rfl rfl ?_
    have ho : t.op = 3 := by simpa using hb3
    
    refine AGo.region ?_
    refine am 39 ?_
    refine al 40 tok ?_
    refine ax 41 (o_call (hc := (hput (hput (hput (hput (hput (hput hNew 3 (.map (kvsA .i64 (vmap first ((w).K))))) 4 (.row false 3 [[.int .i64 first, .map 3, slA 9 (((w).K).map (arrAV .i64))]])) 9 (slO 4 (((w).K).map (arrAV .i64)))) 6 (.row false 4 [[.ptr 4 1 0 0, vaA 5 (valC ((w).vals)), slA 10 (((w).effs).map (arrAV .i64)), .int .i64 ((w).time)]])) 5 (vaO (valC ((w).vals)))) 10 (slO 6 (((w).effs).map (arrAV .i64))))) (hw := (hput (hput (hput (hput (hput (hput hNone 3 (.map (kvsA .i64 (vmap first (((w.bin first t)).K))))) 4 (.row false 3 [[.int .i64 first, .map 3, slA 9 ((((w.bin first t)).K).map (arrAV .i64))]])) 9 (slO 4 ((((w.bin first t)).K).map (arrAV .i64)))) 6 (.row false 4 [[.ptr 4 1 0 0, vaA 5 (valC (((w.bin first t)).vals)), slA 10 ((((w.bin first t)).effs).map (arrAV .i64)), .int .i64 (((w.bin first t)).time)]])) 5 (vaO (valC (((w.bin first t)).vals)))) 10 (slO 6 ((((w.bin first t)).effs).map (arrAV .i64))))) [10, 5, 6, 9, 4, 3] [(3, (.map (kvsA .i64 (vmap first (((w.bin first t)).K))))), (4, (.row false 3 [[.int .i64 first, .map 3, slA 9 ((((w.bin first t)).K).map (arrAV .i64))]])), (9, (slO 4 ((((w.bin first t)).K).map (arrAV .i64)))), (6, (.row false 4 [[.ptr 4 1 0 0, vaA 5 (valC (((w.bin first t)).vals)), slA 10 ((((w.bin first t)).effs).map (arrAV .i64)), .int .i64 (((w.bin first t)).time)]])), (5, (vaO (valC (((w.bin first t)).vals)))), (10, (slO 6 ((((w.bin first t)).effs).map (arrAV .i64))))] rfl Try.func46 (by kernel_rfl) rfl rfl rfl ⟨⟨_, rfl, (by first | rfl | exact slO_avoid _ _ | exact vaO_avoid _ | exact tab_avoid _ _ rfl rfl | exact wlk_avoid _ _ _ rfl rfl rfl)⟩, ⟨_, rfl, (by first | rfl | exact slO_avoid _ _ | exact vaO_avoid _ | exact tab_avoid _ _ rfl rfl | exact wlk_avoid _ _ _ rfl rfl rfl)⟩, ⟨_, rfl, (by first | rfl | exact slO_avoid _ _ | exact vaO_avoid _ | exact tab_avoid _ _ rfl rfl | exact wlk_avoid _ _ _ rfl rfl rfl)⟩, ⟨_, rfl, (by first | rfl | exact slO_avoid _ _ | exact vaO_avoid _ | exact tab_avoid _ _ rfl rfl | exact wlk_avoid _ _ _ rfl rfl rfl)⟩, ⟨_, rfl, (by first | rfl | exact slO_avoid _ _ | exact vaO_avoid _ | exact tab_avoid _ _ rfl rfl | exact wlk_avoid _ _ _ rfl rfl rfl)⟩, ⟨_, rfl, (by first | rfl | exact slO_avoid _ _ | exact vaO_avoid _ | exact tab_avoid _ _ rfl rfl | exact wlk_avoid _ _ _ rfl rfl rfl)⟩, trivial⟩ rfl (hres_cons rfl (hres_cons rfl (hres_cons rfl (hres_cons rfl (hres_cons rfl (hres_cons rfl (hres_nil _))))))) ⟨⟨_, rfl, rfl, (by first | rfl | exact slO_avoid _ _ | exact vaO_avoid _ | exact tab_avoid _ _ rfl rfl | exact wlk_avoid _ _ _ rfl rfl rfl)⟩, ⟨_, rfl, rfl, (by first | rfl | exact slO_avoid _ _ | exact vaO_avoid _ | exact tab_avoid _ _ rfl rfl | exact wlk_avoid _ _ _ rfl rfl rfl)⟩, ⟨_, rfl, rfl, (by first | rfl | exact slO_avoid _ _ | exact vaO_avoid _ | exact tab_avoid _ _ rfl rfl | exact wlk_avoid _ _ _ rfl rfl rfl)⟩, ⟨_, rfl, rfl, (by first | rfl | exact slO_avoid _ _ | exact vaO_avoid _ | exact tab_avoid _ _ rfl rfl | exact wlk_avoid _ _ _ rfl rfl rfl)⟩, ⟨_, rfl, rfl, (by first | rfl | exact slO_avoid _ _ | exact vaO_avoid _ | exact tab_avoid _ _ rfl rfl | exact wlk_avoid _ _ _ rfl rfl rfl)⟩, ⟨_, rfl, rfl, (by first | rfl | exact slO_avoid _ _ | exact vaO_avoid _ | exact tab_avoid _ _ rfl rfl | exact wlk_avoid _ _ _ rfl rfl rfl)⟩, trivial⟩ rfl (binarya_ok first R m w h (by omega) t (ht.d (by rw [ho]; rfl)) (ht.a (.inr (by rw [ho]; rfl))) (ht.b (by rw [ho]; rfl)))) ?_
    refine AOps.nil ?_
    refine ⟨[], trivial, rfl, ?_⟩
    rw [vstep3 ho]
    exact HSub.put (HSub.put (HSub.put (HSub.put (HSub.put (HSub.put (HSub.none _) rfl) rfl) rfl) rfl) rfl) rfl
   ·
    refine AGo.cond_false false rfl rfl ?_
    refine AGo.seq ?_
    refine AGo.region ?_
    refine aq 43 (q_bin rfl rfl rfl rfl) ?_
    refine aa 42 ?_
    refine AOps.nil ?_
    refine AGo.split 42 rfl (fun hb4 => ?_) (fun hb4 => ?_)
    ·
     refine AGo.cond_true true rfl rfl ?_
     have ho : t.op = 4 := by simpa using hb4
     have hxd := h.at (ht.d (by rw [ho]; rfl))
     
     refine AGo.draw mix ?_
     refine dm 44 ?_
     refine df 45 tok ?_
     refine dl 46 tok ?_
     refine dm 47 ?_
     refine dq 48 (q_nilCheck rfl rfl rfl) ?_
     refine df 49 tok ?_
     refine dl 50 tok ?_
     refine df 51 tok ?_
     refine dl 52 tok ?_
     refine dm 53 ?_
     refine dq 54 (q_nilCheck rfl rfl rfl) ?_
     refine df 55 tok ?_
     refine dl 56 tok ?_
     refine dq 57 (q_build_arr tok rfl rfl rfl rfl rfl rfl (by decide) rfl rfl) ?_
     refine dx 58 (o_call (hc := (hput (hput (hput hNew 3 (.map (kvsA .i64 (vmap first (w.K))))) 4 (.row false 3 [[.int .i64 first, .map 3, slA 9 ((w.K).map (arrAV .i64))]])) 9 (slO 4 ((w.K).map (arrAV .i64))))) (hw := (hput (hput (hput hNone 3 (.map (kvsA .i64 (vmap first ((vnum first w.K [3, t.base, w.time, 0]).2))))) 4 (.row false 3 [[.int .i64 first, .map 3, slA 9 (((vnum first w.K [3, t.base, w.time, 0]).2).map (arrAV .i64))]])) 9 (slO 4 (((vnum first w.K [3, t.base, w.time, 0]).2).map (arrAV .i64))))) [9, 4, 3] [(3, (.map (kvsA .i64 (vmap first ((vnum first w.K [3, t.base, w.time, 0]).2))))), (4, (.row false 3 [[.int .i64 first, .map 3, slA 9 (((vnum first w.K [3, t.base, w.time, 0]).2).map (arrAV .i64))]])), (9, (slO 4 (((vnum first w.K [3, t.base, w.time, 0]).2).map (arrAV .i64))))] rfl Try.func45 (by kernel_rfl) rfl rfl rfl ⟨⟨_, rfl, (by first | rfl | exact slO_avoid _ _ | exact vaO_avoid _ | exact tab_avoid _ _ rfl rfl | exact wlk_avoid _ _ _ rfl rfl rfl)⟩, ⟨_, rfl, (by first | rfl | exact slO_avoid _ _ | exact vaO_avoid _ | exact tab_avoid _ _ rfl rfl | exact wlk_avoid _ _ _ rfl rfl rfl)⟩, ⟨_, rfl, (by first | rfl | exact slO_avoid _ _ | exact vaO_avoid _ | exact tab_avoid _ _ rfl rfl | exact wlk_avoid _ _ _ rfl rfl rfl)⟩, trivial⟩ rfl (hres_cons rfl (hres_cons rfl (hres_cons rfl (hres_nil _)))) ⟨⟨_, rfl, rfl, (by first | rfl | exact slO_avoid _ _ | exact vaO_avoid _ | exact tab_avoid _ _ rfl rfl | exact wlk_avoid _ _ _ rfl rfl rfl)⟩, ⟨_, rfl, rfl, (by first | rfl | exact slO_avoid _ _ | exact vaO_avoid _ | exact tab_avoid _ _ rfl rfl | exact wlk_avoid _ _ _ rfl rfl rfl)⟩, ⟨_, rfl, rfl, (by first | rfl | exact slO_avoid _ _ | exact vaO_avoid _ | exact tab_avoid _ _ rfl rfl | exact wlk_avoid _ _ _ rfl rfl rfl)⟩, trivial⟩ rfl (number_ok first w.K h.f h.k4 (by omega) (3) (t.base) (w.time) (0))) ?_
     refine dq 59 (q_indexV tok rfl rfl rfl rfl rfl rfl rfl rfl hxd.1 hxd.2.2.1) ?_
     refine DOps.w rfl rfl (o_storeV tok rfl rfl rfl rfl rfl rfl rfl (by have h1 := hxd.2.2.1; have h0 := hxd.1; omega) (valC_one _) rfl rfl rfl) ?_
     refine DOps.nil (by kernel_rfl) ?_
     refine ⟨[], trivial, rfl, ?_⟩
     rw [vstep4 ho]
     exact HSub.put (HSub.put (HSub.put (HSub.put (HSub.put (HSub.put (HSub.none _) rfl) rfl) rfl) (by show _ = some (AObj.row false 4 [[.ptr 4 1 0 0, vaA 5 (valC (rset w.vals t.d _)), slA 10 (w.effs.map (arrAV .i64)), .int .i64 w.time]]); rw [valC_vaA]; rfl)) (by show _ = some (vaO (valC (rset w.vals t.d _))); rw [valC_set]; rfl)) rfl
    ·
     refine AGo.cond_false false rfl rfl ?_
     refine AGo.seq ?_
     refine AGo.region ?_
     refine aq 61 (q_bin rfl rfl rfl rfl) ?_
     refine aa 60 ?_
     refine AOps.nil ?_
     refine AGo.split 60 rfl (fun hb5 => ?_) (fun hb5 => ?_)
     ·
      refine AGo.cond_true true rfl rfl ?_
      have ho : t.op = 5 := by simpa using hb5
      have hxa := h.at (ht.a (.inl (by rw [ho]; rfl)))
      
      refine AGo.seq ?_
      refine AGo.draw mix ?_
      refine dm 62 ?_
      refine dl 63 tok ?_
      refine dm 64 ?_
      refine df 65 tok ?_
      refine dl 66 tok ?_
      refine dq 67 (q_indexV tok rfl rfl rfl rfl rfl rfl rfl rfl hxa.1 hxa.2.2.1) ?_
      refine dq 68 (q_load tok rfl rfl rfl (ptsV rfl (valC_get ⟨hxa.1, hxa.2.1⟩)) rfl) ?_
      refine dx 69 (o_call (hc := (hput (hput (hput (hput (hput (hput hNew 3 (.map (kvsA .i64 (vmap first ((w).K))))) 4 (.row false 3 [[.int .i64 first, .map 3, slA 9 (((w).K).map (arrAV .i64))]])) 9 (slO 4 (((w).K).map (arrAV .i64)))) 6 (.row false 4 [[.ptr 4 1 0 0, vaA 5 (valC ((w).vals)), slA 10 (((w).effs).map (arrAV .i64)), .int .i64 ((w).time)]])) 5 (vaO (valC ((w).vals)))) 10 (slO 6 (((w).effs).map (arrAV .i64))))) (hw := (hput (hput (hput (hput (hput (hput hNone 3 (.map (kvsA .i64 (vmap first (((w.hap t (rget w.vals t.a) 0)).K))))) 4 (.row false 3 [[.int .i64 first, .map 3, slA 9 ((((w.hap t (rget w.vals t.a) 0)).K).map (arrAV .i64))]])) 9 (slO 4 ((((w.hap t (rget w.vals t.a) 0)).K).map (arrAV .i64)))) 6 (.row false 4 [[.ptr 4 1 0 0, vaA 5 (valC (((w.hap t (rget w.vals t.a) 0)).vals)), slA 10 ((((w.hap t (rget w.vals t.a) 0)).effs).map (arrAV .i64)), .int .i64 (((w.hap t (rget w.vals t.a) 0)).time)]])) 5 (vaO (valC (((w.hap t (rget w.vals t.a) 0)).vals)))) 10 (slO 6 ((((w.hap t (rget w.vals t.a) 0)).effs).map (arrAV .i64))))) [10, 5, 6, 9, 4, 3] [(3, (.map (kvsA .i64 (vmap first (((w.hap t (rget w.vals t.a) 0)).K))))), (4, (.row false 3 [[.int .i64 first, .map 3, slA 9 ((((w.hap t (rget w.vals t.a) 0)).K).map (arrAV .i64))]])), (9, (slO 4 ((((w.hap t (rget w.vals t.a) 0)).K).map (arrAV .i64)))), (6, (.row false 4 [[.ptr 4 1 0 0, vaA 5 (valC (((w.hap t (rget w.vals t.a) 0)).vals)), slA 10 ((((w.hap t (rget w.vals t.a) 0)).effs).map (arrAV .i64)), .int .i64 (((w.hap t (rget w.vals t.a) 0)).time)]])), (5, (vaO (valC (((w.hap t (rget w.vals t.a) 0)).vals)))), (10, (slO 6 ((((w.hap t (rget w.vals t.a) 0)).effs).map (arrAV .i64))))] rfl Try.func47 (by kernel_rfl) rfl rfl rfl ⟨⟨_, rfl, (by first | rfl | exact slO_avoid _ _ | exact vaO_avoid _ | exact tab_avoid _ _ rfl rfl | exact wlk_avoid _ _ _ rfl rfl rfl)⟩, ⟨_, rfl, (by first | rfl | exact slO_avoid _ _ | exact vaO_avoid _ | exact tab_avoid _ _ rfl rfl | exact wlk_avoid _ _ _ rfl rfl rfl)⟩, ⟨_, rfl, (by first | rfl | exact slO_avoid _ _ | exact vaO_avoid _ | exact tab_avoid _ _ rfl rfl | exact wlk_avoid _ _ _ rfl rfl rfl)⟩, ⟨_, rfl, (by first | rfl | exact slO_avoid _ _ | exact vaO_avoid _ | exact tab_avoid _ _ rfl rfl | exact wlk_avoid _ _ _ rfl rfl rfl)⟩, ⟨_, rfl, (by first | rfl | exact slO_avoid _ _ | exact vaO_avoid _ | exact tab_avoid _ _ rfl rfl | exact wlk_avoid _ _ _ rfl rfl rfl)⟩, ⟨_, rfl, (by first | rfl | exact slO_avoid _ _ | exact vaO_avoid _ | exact tab_avoid _ _ rfl rfl | exact wlk_avoid _ _ _ rfl rfl rfl)⟩, trivial⟩ rfl (hres_cons rfl (hres_cons rfl (hres_cons rfl (hres_cons rfl (hres_cons rfl (hres_cons rfl (hres_nil _))))))) ⟨⟨_, rfl, rfl, (by first | rfl | exact slO_avoid _ _ | exact vaO_avoid _ | exact tab_avoid _ _ rfl rfl | exact wlk_avoid _ _ _ rfl rfl rfl)⟩, ⟨_, rfl, rfl, (by first | rfl | exact slO_avoid _ _ | exact vaO_avoid _ | exact tab_avoid _ _ rfl rfl | exact wlk_avoid _ _ _ rfl rfl rfl)⟩, ⟨_, rfl, rfl, (by first | rfl | exact slO_avoid _ _ | exact vaO_avoid _ | exact tab_avoid _ _ rfl rfl | exact wlk_avoid _ _ _ rfl rfl rfl)⟩, ⟨_, rfl, rfl, (by first | rfl | exact slO_avoid _ _ | exact vaO_avoid _ | exact tab_avoid _ _ rfl rfl | exact wlk_avoid _ _ _ rfl rfl rfl)⟩, ⟨_, rfl, rfl, (by first | rfl | exact slO_avoid _ _ | exact vaO_avoid _ | exact tab_avoid _ _ rfl rfl | exact wlk_avoid _ _ _ rfl rfl rfl)⟩, ⟨_, rfl, rfl, (by first | rfl | exact slO_avoid _ _ | exact vaO_avoid _ | exact tab_avoid _ _ rfl rfl | exact wlk_avoid _ _ _ rfl rfl rfl)⟩, trivial⟩ rfl (happensa_ok first R m w h (by omega) t (rget w.vals t.a) 0)) ?_
      refine DOps.nil (by kernel_rfl) ?_
      refine AGo.region ?_
      refine am 70 ?_
      refine aq 71 (q_nilCheck rfl rfl rfl) ?_
      refine af 72 tok ?_
      refine al 73 tok ?_
      refine aq 74 (q_bin (r := .int .i64 (w.time + 1)) rfl rfl rfl (by exact timeZ (x := w.time) (by omega))) ?_
      refine aq 75 (q_nilCheck rfl rfl rfl) ?_
      refine af 76 tok ?_
      refine AOps.w rfl rfl (o_store tok rfl rfl rfl rfl rfl rfl rfl rfl rfl (by decide) rfl (by first | exact fun _ => rfl | (intro h; cases h))) ?_
      refine AOps.nil ?_
      refine ⟨[], trivial, rfl, ?_⟩
      rw [vstep5 ho]
      exact HSub.put (HSub.put (HSub.put (HSub.put (HSub.put (HSub.put (HSub.none _) rfl) rfl) rfl) rfl) rfl) rfl
     ·
      refine AGo.cond_false false rfl rfl ?_
      refine AGo.seq ?_
      refine AGo.region ?_
      refine aq 78 (q_bin rfl rfl rfl rfl) ?_
      refine aa 77 ?_
      refine AOps.nil ?_
      refine AGo.split 77 rfl (fun hb6 => ?_) (fun hb6 => ?_)
      ·
       refine AGo.cond_true true rfl rfl ?_
       have ho : t.op = 6 := by simpa using hb6
       have hxd := h.at (ht.d (by rw [ho]; rfl))
       have hxa := h.at (ht.a (.inl (by rw [ho]; rfl)))
       
       refine AGo.seq ?_
       refine AGo.draw mix ?_
       refine dm 79 ?_
       refine dl 80 tok ?_
       refine dm 81 ?_
       refine df 82 tok ?_
       refine dl 83 tok ?_
       refine dq 84 (q_indexV tok rfl rfl rfl rfl rfl rfl rfl rfl hxa.1 hxa.2.2.1) ?_
       refine dq 85 (q_load tok rfl rfl rfl (ptsV rfl (valC_get ⟨hxa.1, hxa.2.1⟩)) rfl) ?_
       refine dx 86 (o_call (hc := (hput (hput (hput (hput (hput (hput hNew 3 (.map (kvsA .i64 (vmap first ((w).K))))) 4 (.row false 3 [[.int .i64 first, .map 3, slA 9 (((w).K).map (arrAV .i64))]])) 9 (slO 4 (((w).K).map (arrAV .i64)))) 6 (.row false 4 [[.ptr 4 1 0 0, vaA 5 (valC ((w).vals)), slA 10 (((w).effs).map (arrAV .i64)), .int .i64 ((w).time)]])) 5 (vaO (valC ((w).vals)))) 10 (slO 6 (((w).effs).map (arrAV .i64))))) (hw := (hput (hput (hput (hput (hput (hput hNone 3 (.map (kvsA .i64 (vmap first (((w.hap t (rget w.vals t.a) 0)).K))))) 4 (.row false 3 [[.int .i64 first, .map 3, slA 9 ((((w.hap t (rget w.vals t.a) 0)).K).map (arrAV .i64))]])) 9 (slO 4 ((((w.hap t (rget w.vals t.a) 0)).K).map (arrAV .i64)))) 6 (.row false 4 [[.ptr 4 1 0 0, vaA 5 (valC (((w.hap t (rget w.vals t.a) 0)).vals)), slA 10 ((((w.hap t (rget w.vals t.a) 0)).effs).map (arrAV .i64)), .int .i64 (((w.hap t (rget w.vals t.a) 0)).time)]])) 5 (vaO (valC (((w.hap t (rget w.vals t.a) 0)).vals)))) 10 (slO 6 ((((w.hap t (rget w.vals t.a) 0)).effs).map (arrAV .i64))))) [10, 5, 6, 9, 4, 3] [(3, (.map (kvsA .i64 (vmap first (((w.hap t (rget w.vals t.a) 0)).K))))), (4, (.row false 3 [[.int .i64 first, .map 3, slA 9 ((((w.hap t (rget w.vals t.a) 0)).K).map (arrAV .i64))]])), (9, (slO 4 ((((w.hap t (rget w.vals t.a) 0)).K).map (arrAV .i64)))), (6, (.row false 4 [[.ptr 4 1 0 0, vaA 5 (valC (((w.hap t (rget w.vals t.a) 0)).vals)), slA 10 ((((w.hap t (rget w.vals t.a) 0)).effs).map (arrAV .i64)), .int .i64 (((w.hap t (rget w.vals t.a) 0)).time)]])), (5, (vaO (valC (((w.hap t (rget w.vals t.a) 0)).vals)))), (10, (slO 6 ((((w.hap t (rget w.vals t.a) 0)).effs).map (arrAV .i64))))] rfl Try.func47 (by kernel_rfl) rfl rfl rfl ⟨⟨_, rfl, (by first | rfl | exact slO_avoid _ _ | exact vaO_avoid _ | exact tab_avoid _ _ rfl rfl | exact wlk_avoid _ _ _ rfl rfl rfl)⟩, ⟨_, rfl, (by first | rfl | exact slO_avoid _ _ | exact vaO_avoid _ | exact tab_avoid _ _ rfl rfl | exact wlk_avoid _ _ _ rfl rfl rfl)⟩, ⟨_, rfl, (by first | rfl | exact slO_avoid _ _ | exact vaO_avoid _ | exact tab_avoid _ _ rfl rfl | exact wlk_avoid _ _ _ rfl rfl rfl)⟩, ⟨_, rfl, (by first | rfl | exact slO_avoid _ _ | exact vaO_avoid _ | exact tab_avoid _ _ rfl rfl | exact wlk_avoid _ _ _ rfl rfl rfl)⟩, ⟨_, rfl, (by first | rfl | exact slO_avoid _ _ | exact vaO_avoid _ | exact tab_avoid _ _ rfl rfl | exact wlk_avoid _ _ _ rfl rfl rfl)⟩, ⟨_, rfl, (by first | rfl | exact slO_avoid _ _ | exact vaO_avoid _ | exact tab_avoid _ _ rfl rfl | exact wlk_avoid _ _ _ rfl rfl rfl)⟩, trivial⟩ rfl (hres_cons rfl (hres_cons rfl (hres_cons rfl (hres_cons rfl (hres_cons rfl (hres_cons rfl (hres_nil _))))))) ⟨⟨_, rfl, rfl, (by first | rfl | exact slO_avoid _ _ | exact vaO_avoid _ | exact tab_avoid _ _ rfl rfl | exact wlk_avoid _ _ _ rfl rfl rfl)⟩, ⟨_, rfl, rfl, (by first | rfl | exact slO_avoid _ _ | exact vaO_avoid _ | exact tab_avoid _ _ rfl rfl | exact wlk_avoid _ _ _ rfl rfl rfl)⟩, ⟨_, rfl, rfl, (by first | rfl | exact slO_avoid _ _ | exact vaO_avoid _ | exact tab_avoid _ _ rfl rfl | exact wlk_avoid _ _ _ rfl rfl rfl)⟩, ⟨_, rfl, rfl, (by first | rfl | exact slO_avoid _ _ | exact vaO_avoid _ | exact tab_avoid _ _ rfl rfl | exact wlk_avoid _ _ _ rfl rfl rfl)⟩, ⟨_, rfl, rfl, (by first | rfl | exact slO_avoid _ _ | exact vaO_avoid _ | exact tab_avoid _ _ rfl rfl | exact wlk_avoid _ _ _ rfl rfl rfl)⟩, ⟨_, rfl, rfl, (by first | rfl | exact slO_avoid _ _ | exact vaO_avoid _ | exact tab_avoid _ _ rfl rfl | exact wlk_avoid _ _ _ rfl rfl rfl)⟩, trivial⟩ rfl (happensa_ok first R m w h (by omega) t (rget w.vals t.a) 0)) ?_
       refine DOps.nil (by kernel_rfl) ?_
       refine AGo.draw mix ?_
       refine dm 87 ?_
       refine df 88 tok ?_
       refine dl 89 tok ?_
       refine dm 90 ?_
       refine dx 91 (o_call (hc := (hput (hput (hput (hput (hput (hput hNew 3 (.map (kvsA .i64 (vmap first (((w.hap t (rget w.vals t.a) 0)).K))))) 4 (.row false 3 [[.int .i64 first, .map 3, slA 9 ((((w.hap t (rget w.vals t.a) 0)).K).map (arrAV .i64))]])) 9 (slO 4 ((((w.hap t (rget w.vals t.a) 0)).K).map (arrAV .i64)))) 6 (.row false 4 [[.ptr 4 1 0 0, vaA 5 (valC (((w.hap t (rget w.vals t.a) 0)).vals)), slA 10 ((((w.hap t (rget w.vals t.a) 0)).effs).map (arrAV .i64)), .int .i64 (((w.hap t (rget w.vals t.a) 0)).time)]])) 5 (vaO (valC (((w.hap t (rget w.vals t.a) 0)).vals)))) 10 (slO 6 ((((w.hap t (rget w.vals t.a) 0)).effs).map (arrAV .i64))))) (hw := (hput (hput (hput (hput (hput (hput hNone 3 (.map (kvsA .i64 (vmap first ((vunk first (w.hap t (rget w.vals t.a) 0)).2))))) 4 (.row false 3 [[.int .i64 first, .map 3, slA 9 (((vunk first (w.hap t (rget w.vals t.a) 0)).2).map (arrAV .i64))]])) 9 (slO 4 (((vunk first (w.hap t (rget w.vals t.a) 0)).2).map (arrAV .i64)))) 6 (.row false 4 [[.ptr 4 1 0 0, vaA 5 (valC (((w.hap t (rget w.vals t.a) 0)).vals)), slA 10 ((((w.hap t (rget w.vals t.a) 0)).effs).map (arrAV .i64)), .int .i64 (((w.hap t (rget w.vals t.a) 0)).time)]])) 5 (vaO (valC (((w.hap t (rget w.vals t.a) 0)).vals)))) 10 (slO 6 ((((w.hap t (rget w.vals t.a) 0)).effs).map (arrAV .i64))))) [10, 5, 6, 9, 4, 3] [(3, (.map (kvsA .i64 (vmap first ((vunk first (w.hap t (rget w.vals t.a) 0)).2))))), (4, (.row false 3 [[.int .i64 first, .map 3, slA 9 (((vunk first (w.hap t (rget w.vals t.a) 0)).2).map (arrAV .i64))]])), (9, (slO 4 (((vunk first (w.hap t (rget w.vals t.a) 0)).2).map (arrAV .i64)))), (6, (.row false 4 [[.ptr 4 1 0 0, vaA 5 (valC (((w.hap t (rget w.vals t.a) 0)).vals)), slA 10 ((((w.hap t (rget w.vals t.a) 0)).effs).map (arrAV .i64)), .int .i64 (((w.hap t (rget w.vals t.a) 0)).time)]])), (5, (vaO (valC (((w.hap t (rget w.vals t.a) 0)).vals)))), (10, (slO 6 ((((w.hap t (rget w.vals t.a) 0)).effs).map (arrAV .i64))))] rfl Try.func48 (by kernel_rfl) rfl rfl rfl ⟨⟨_, rfl, (by first | rfl | exact slO_avoid _ _ | exact vaO_avoid _ | exact tab_avoid _ _ rfl rfl | exact wlk_avoid _ _ _ rfl rfl rfl)⟩, ⟨_, rfl, (by first | rfl | exact slO_avoid _ _ | exact vaO_avoid _ | exact tab_avoid _ _ rfl rfl | exact wlk_avoid _ _ _ rfl rfl rfl)⟩, ⟨_, rfl, (by first | rfl | exact slO_avoid _ _ | exact vaO_avoid _ | exact tab_avoid _ _ rfl rfl | exact wlk_avoid _ _ _ rfl rfl rfl)⟩, ⟨_, rfl, (by first | rfl | exact slO_avoid _ _ | exact vaO_avoid _ | exact tab_avoid _ _ rfl rfl | exact wlk_avoid _ _ _ rfl rfl rfl)⟩, ⟨_, rfl, (by first | rfl | exact slO_avoid _ _ | exact vaO_avoid _ | exact tab_avoid _ _ rfl rfl | exact wlk_avoid _ _ _ rfl rfl rfl)⟩, ⟨_, rfl, (by first | rfl | exact slO_avoid _ _ | exact vaO_avoid _ | exact tab_avoid _ _ rfl rfl | exact wlk_avoid _ _ _ rfl rfl rfl)⟩, trivial⟩ rfl (hres_cons rfl (hres_cons rfl (hres_cons rfl (hres_cons rfl (hres_cons rfl (hres_cons rfl (hres_nil _))))))) ⟨⟨_, rfl, rfl, (by first | rfl | exact slO_avoid _ _ | exact vaO_avoid _ | exact tab_avoid _ _ rfl rfl | exact wlk_avoid _ _ _ rfl rfl rfl)⟩, ⟨_, rfl, rfl, (by first | rfl | exact slO_avoid _ _ | exact vaO_avoid _ | exact tab_avoid _ _ rfl rfl | exact wlk_avoid _ _ _ rfl rfl rfl)⟩, ⟨_, rfl, rfl, (by first | rfl | exact slO_avoid _ _ | exact vaO_avoid _ | exact tab_avoid _ _ rfl rfl | exact wlk_avoid _ _ _ rfl rfl rfl)⟩, ⟨_, rfl, rfl, (by first | rfl | exact slO_avoid _ _ | exact vaO_avoid _ | exact tab_avoid _ _ rfl rfl | exact wlk_avoid _ _ _ rfl rfl rfl)⟩, ⟨_, rfl, rfl, (by first | rfl | exact slO_avoid _ _ | exact vaO_avoid _ | exact tab_avoid _ _ rfl rfl | exact wlk_avoid _ _ _ rfl rfl rfl)⟩, ⟨_, rfl, rfl, (by first | rfl | exact slO_avoid _ _ | exact vaO_avoid _ | exact tab_avoid _ _ rfl rfl | exact wlk_avoid _ _ _ rfl rfl rfl)⟩, trivial⟩ rfl (unknowna_ok first R (m + 1) (w.hap t (rget w.vals t.a) 0) (h.eff rfl) (by omega))) ?_
       refine dq 92 (q_indexV tok rfl rfl rfl rfl rfl rfl rfl rfl hxd.1 hxd.2.2.1) ?_
       refine DOps.w rfl rfl (o_storeV tok rfl rfl rfl rfl rfl rfl rfl (by have h1 := hxd.2.2.1; have h0 := hxd.1; omega) (valC_one _) rfl rfl rfl) ?_
       refine DOps.nil (by kernel_rfl) ?_
       refine ⟨[], trivial, rfl, ?_⟩
       rw [vstep6 ho]
       exact HSub.put (HSub.put (HSub.put (HSub.put (HSub.put (HSub.put (HSub.none _) rfl) rfl) rfl) (by show _ = some (AObj.row false 4 [[.ptr 4 1 0 0, vaA 5 (valC (rset w.vals t.d _)), slA 10 ((w.hap t (rget w.vals t.a) 0).effs.map (arrAV .i64)), .int .i64 w.time]]); rw [valC_vaA]; rfl)) (by show _ = some (vaO (valC (rset w.vals t.d _))); rw [valC_set]; rfl)) rfl
      ·
       refine AGo.cond_false false rfl rfl ?_
       refine AGo.seq ?_
       refine AGo.region ?_
       refine aq 94 (q_bin rfl rfl rfl rfl) ?_
       refine aa 93 ?_
       refine AOps.nil ?_
       refine AGo.split 93 rfl (fun hb7 => ?_) (fun hb7 => ?_)
       ·
        refine AGo.cond_true true rfl rfl ?_
        have ho : t.op = 7 := by simpa using hb7
        have hxa := h.at (ht.a (.inr (by rw [ho]; rfl)))
        have hxb := h.at (ht.b (by rw [ho]; rfl))
        
        refine AGo.seq ?_
        refine AGo.draw mix ?_
        refine dm 95 ?_
        refine dl 96 tok ?_
        refine dm 97 ?_
        refine df 98 tok ?_
        refine dl 99 tok ?_
        refine dq 100 (q_indexV tok rfl rfl rfl rfl rfl rfl rfl rfl hxa.1 hxa.2.2.1) ?_
        refine dq 101 (q_load tok rfl rfl rfl (ptsV rfl (valC_get ⟨hxa.1, hxa.2.1⟩)) rfl) ?_
        refine dm 102 ?_
        refine df 103 tok ?_
        refine dl 104 tok ?_
        refine dq 105 (q_indexV tok rfl rfl rfl rfl rfl rfl rfl rfl hxb.1 hxb.2.2.1) ?_
        refine dq 106 (q_load tok rfl rfl rfl (ptsV rfl (valC_get ⟨hxb.1, hxb.2.1⟩)) rfl) ?_
        refine dx 107 (o_call (hc := (hput (hput (hput (hput (hput (hput hNew 3 (.map (kvsA .i64 (vmap first ((w).K))))) 4 (.row false 3 [[.int .i64 first, .map 3, slA 9 (((w).K).map (arrAV .i64))]])) 9 (slO 4 (((w).K).map (arrAV .i64)))) 6 (.row false 4 [[.ptr 4 1 0 0, vaA 5 (valC ((w).vals)), slA 10 (((w).effs).map (arrAV .i64)), .int .i64 ((w).time)]])) 5 (vaO (valC ((w).vals)))) 10 (slO 6 (((w).effs).map (arrAV .i64))))) (hw := (hput (hput (hput (hput (hput (hput hNone 3 (.map (kvsA .i64 (vmap first (((w.hap t (rget w.vals t.a) (rget w.vals t.b))).K))))) 4 (.row false 3 [[.int .i64 first, .map 3, slA 9 ((((w.hap t (rget w.vals t.a) (rget w.vals t.b))).K).map (arrAV .i64))]])) 9 (slO 4 ((((w.hap t (rget w.vals t.a) (rget w.vals t.b))).K).map (arrAV .i64)))) 6 (.row false 4 [[.ptr 4 1 0 0, vaA 5 (valC (((w.hap t (rget w.vals t.a) (rget w.vals t.b))).vals)), slA 10 ((((w.hap t (rget w.vals t.a) (rget w.vals t.b))).effs).map (arrAV .i64)), .int .i64 (((w.hap t (rget w.vals t.a) (rget w.vals t.b))).time)]])) 5 (vaO (valC (((w.hap t (rget w.vals t.a) (rget w.vals t.b))).vals)))) 10 (slO 6 ((((w.hap t (rget w.vals t.a) (rget w.vals t.b))).effs).map (arrAV .i64))))) [10, 5, 6, 9, 4, 3] [(3, (.map (kvsA .i64 (vmap first (((w.hap t (rget w.vals t.a) (rget w.vals t.b))).K))))), (4, (.row false 3 [[.int .i64 first, .map 3, slA 9 ((((w.hap t (rget w.vals t.a) (rget w.vals t.b))).K).map (arrAV .i64))]])), (9, (slO 4 ((((w.hap t (rget w.vals t.a) (rget w.vals t.b))).K).map (arrAV .i64)))), (6, (.row false 4 [[.ptr 4 1 0 0, vaA 5 (valC (((w.hap t (rget w.vals t.a) (rget w.vals t.b))).vals)), slA 10 ((((w.hap t (rget w.vals t.a) (rget w.vals t.b))).effs).map (arrAV .i64)), .int .i64 (((w.hap t (rget w.vals t.a) (rget w.vals t.b))).time)]])), (5, (vaO (valC (((w.hap t (rget w.vals t.a) (rget w.vals t.b))).vals)))), (10, (slO 6 ((((w.hap t (rget w.vals t.a) (rget w.vals t.b))).effs).map (arrAV .i64))))] rfl Try.func47 (by kernel_rfl) rfl rfl rfl ⟨⟨_, rfl, (by first | rfl | exact slO_avoid _ _ | exact vaO_avoid _ | exact tab_avoid _ _ rfl rfl | exact wlk_avoid _ _ _ rfl rfl rfl)⟩, ⟨_, rfl, (by first | rfl | exact slO_avoid _ _ | exact vaO_avoid _ | exact tab_avoid _ _ rfl rfl | exact wlk_avoid _ _ _ rfl rfl rfl)⟩, ⟨_, rfl, (by first | rfl | exact slO_avoid _ _ | exact vaO_avoid _ | exact tab_avoid _ _ rfl rfl | exact wlk_avoid _ _ _ rfl rfl rfl)⟩, ⟨_, rfl, (by first | rfl | exact slO_avoid _ _ | exact vaO_avoid _ | exact tab_avoid _ _ rfl rfl | exact wlk_avoid _ _ _ rfl rfl rfl)⟩, ⟨_, rfl, (by first | rfl | exact slO_avoid _ _ | exact vaO_avoid _ | exact tab_avoid _ _ rfl rfl | exact wlk_avoid _ _ _ rfl rfl rfl)⟩, ⟨_, rfl, (by first | rfl | exact slO_avoid _ _ | exact vaO_avoid _ | exact tab_avoid _ _ rfl rfl | exact wlk_avoid _ _ _ rfl rfl rfl)⟩, trivial⟩ rfl (hres_cons rfl (hres_cons rfl (hres_cons rfl (hres_cons rfl (hres_cons rfl (hres_cons rfl (hres_nil _))))))) ⟨⟨_, rfl, rfl, (by first | rfl | exact slO_avoid _ _ | exact vaO_avoid _ | exact tab_avoid _ _ rfl rfl | exact wlk_avoid _ _ _ rfl rfl rfl)⟩, ⟨_, rfl, rfl, (by first | rfl | exact slO_avoid _ _ | exact vaO_avoid _ | exact tab_avoid _ _ rfl rfl | exact wlk_avoid _ _ _ rfl rfl rfl)⟩, ⟨_, rfl, rfl, (by first | rfl | exact slO_avoid _ _ | exact vaO_avoid _ | exact tab_avoid _ _ rfl rfl | exact wlk_avoid _ _ _ rfl rfl rfl)⟩, ⟨_, rfl, rfl, (by first | rfl | exact slO_avoid _ _ | exact vaO_avoid _ | exact tab_avoid _ _ rfl rfl | exact wlk_avoid _ _ _ rfl rfl rfl)⟩, ⟨_, rfl, rfl, (by first | rfl | exact slO_avoid _ _ | exact vaO_avoid _ | exact tab_avoid _ _ rfl rfl | exact wlk_avoid _ _ _ rfl rfl rfl)⟩, ⟨_, rfl, rfl, (by first | rfl | exact slO_avoid _ _ | exact vaO_avoid _ | exact tab_avoid _ _ rfl rfl | exact wlk_avoid _ _ _ rfl rfl rfl)⟩, trivial⟩ rfl (happensa_ok first R m w h (by omega) t (rget w.vals t.a) (rget w.vals t.b))) ?_
        refine DOps.nil (by kernel_rfl) ?_
        refine AGo.region ?_
        refine am 108 ?_
        refine aq 109 (q_nilCheck rfl rfl rfl) ?_
        refine af 110 tok ?_
        refine al 111 tok ?_
        refine aq 112 (q_bin (r := .int .i64 (w.time + 1)) rfl rfl rfl (by exact timeZ (x := w.time) (by omega))) ?_
        refine aq 113 (q_nilCheck rfl rfl rfl) ?_
        refine af 114 tok ?_
        refine AOps.w rfl rfl (o_store tok rfl rfl rfl rfl rfl rfl rfl rfl rfl (by decide) rfl (by first | exact fun _ => rfl | (intro h; cases h))) ?_
        refine AOps.nil ?_
        refine ⟨[], trivial, rfl, ?_⟩
        rw [vstep7 ho]
        exact HSub.put (HSub.put (HSub.put (HSub.put (HSub.put (HSub.put (HSub.none _) rfl) rfl) rfl) rfl) rfl) rfl
       ·
        refine AGo.cond_false false rfl rfl ?_
        refine AGo.seq ?_
        refine AGo.region ?_
        refine aq 116 (q_bin rfl rfl rfl rfl) ?_
        refine aa 115 ?_
        refine AOps.nil ?_
        refine AGo.split 115 rfl (fun hb8 => ?_) (fun hb8 => ?_)
        ·
         refine AGo.cond_true true rfl rfl ?_
         have ho : t.op = 8 := by simpa using hb8
         have hxd := h.at (ht.d (by rw [ho]; rfl))
         
         refine AGo.seq ?_
         refine AGo.region ?_
         refine am 117 ?_
         refine al 118 tok ?_
         refine ax 119 (o_call (hc := (hput (hput (hput (hput (hput (hput hNew 3 (.map (kvsA .i64 (vmap first ((w).K))))) 4 (.row false 3 [[.int .i64 first, .map 3, slA 9 (((w).K).map (arrAV .i64))]])) 9 (slO 4 (((w).K).map (arrAV .i64)))) 6 (.row false 4 [[.ptr 4 1 0 0, vaA 5 (valC ((w).vals)), slA 10 (((w).effs).map (arrAV .i64)), .int .i64 ((w).time)]])) 5 (vaO (valC ((w).vals)))) 10 (slO 6 (((w).effs).map (arrAV .i64))))) (hw := (hput (hput (hput (hput (hput (hput hNone 3 (.map (kvsA .i64 (vmap first (((w.hap t 0 0)).K))))) 4 (.row false 3 [[.int .i64 first, .map 3, slA 9 ((((w.hap t 0 0)).K).map (arrAV .i64))]])) 9 (slO 4 ((((w.hap t 0 0)).K).map (arrAV .i64)))) 6 (.row false 4 [[.ptr 4 1 0 0, vaA 5 (valC (((w.hap t 0 0)).vals)), slA 10 ((((w.hap t 0 0)).effs).map (arrAV .i64)), .int .i64 (((w.hap t 0 0)).time)]])) 5 (vaO (valC (((w.hap t 0 0)).vals)))) 10 (slO 6 ((((w.hap t 0 0)).effs).map (arrAV .i64))))) [10, 5, 6, 9, 4, 3] [(3, (.map (kvsA .i64 (vmap first (((w.hap t 0 0)).K))))), (4, (.row false 3 [[.int .i64 first, .map 3, slA 9 ((((w.hap t 0 0)).K).map (arrAV .i64))]])), (9, (slO 4 ((((w.hap t 0 0)).K).map (arrAV .i64)))), (6, (.row false 4 [[.ptr 4 1 0 0, vaA 5 (valC (((w.hap t 0 0)).vals)), slA 10 ((((w.hap t 0 0)).effs).map (arrAV .i64)), .int .i64 (((w.hap t 0 0)).time)]])), (5, (vaO (valC (((w.hap t 0 0)).vals)))), (10, (slO 6 ((((w.hap t 0 0)).effs).map (arrAV .i64))))] rfl Try.func47 (by kernel_rfl) rfl rfl rfl ⟨⟨_, rfl, (by first | rfl | exact slO_avoid _ _ | exact vaO_avoid _ | exact tab_avoid _ _ rfl rfl | exact wlk_avoid _ _ _ rfl rfl rfl)⟩, ⟨_, rfl, (by first | rfl | exact slO_avoid _ _ | exact vaO_avoid _ | exact tab_avoid _ _ rfl rfl | exact wlk_avoid _ _ _ rfl rfl rfl)⟩, ⟨_, rfl, (by first | rfl | exact slO_avoid _ _ | exact vaO_avoid _ | exact tab_avoid _ _ rfl rfl | exact wlk_avoid _ _ _ rfl rfl rfl)⟩, ⟨_, rfl, (by first | rfl | exact slO_avoid _ _ | exact vaO_avoid _ | exact tab_avoid _ _ rfl rfl | exact wlk_avoid _ _ _ rfl rfl rfl)⟩, ⟨_, rfl, (by first | rfl | exact slO_avoid _ _ | exact vaO_avoid _ | exact tab_avoid _ _ rfl rfl | exact wlk_avoid _ _ _ rfl rfl rfl)⟩, ⟨_, rfl, (by first | rfl | exact slO_avoid _ _ | exact vaO_avoid _ | exact tab_avoid _ _ rfl rfl | exact wlk_avoid _ _ _ rfl rfl rfl)⟩, trivial⟩ rfl (hres_cons rfl (hres_cons rfl (hres_cons rfl (hres_cons rfl (hres_cons rfl (hres_cons rfl (hres_nil _))))))) ⟨⟨_, rfl, rfl, (by first | rfl | exact slO_avoid _ _ | exact vaO_avoid _ | exact tab_avoid _ _ rfl rfl | exact wlk_avoid _ _ _ rfl rfl rfl)⟩, ⟨_, rfl, rfl, (by first | rfl | exact slO_avoid _ _ | exact vaO_avoid _ | exact tab_avoid _ _ rfl rfl | exact wlk_avoid _ _ _ rfl rfl rfl)⟩, ⟨_, rfl, rfl, (by first | rfl | exact slO_avoid _ _ | exact vaO_avoid _ | exact tab_avoid _ _ rfl rfl | exact wlk_avoid _ _ _ rfl rfl rfl)⟩, ⟨_, rfl, rfl, (by first | rfl | exact slO_avoid _ _ | exact vaO_avoid _ | exact tab_avoid _ _ rfl rfl | exact wlk_avoid _ _ _ rfl rfl rfl)⟩, ⟨_, rfl, rfl, (by first | rfl | exact slO_avoid _ _ | exact vaO_avoid _ | exact tab_avoid _ _ rfl rfl | exact wlk_avoid _ _ _ rfl rfl rfl)⟩, ⟨_, rfl, rfl, (by first | rfl | exact slO_avoid _ _ | exact vaO_avoid _ | exact tab_avoid _ _ rfl rfl | exact wlk_avoid _ _ _ rfl rfl rfl)⟩, trivial⟩ rfl (happensa_ok first R m w h (by omega) t 0 0)) ?_
         refine AOps.nil ?_
         refine AGo.draw mix ?_
         refine dm 120 ?_
         refine df 121 tok ?_
         refine dl 122 tok ?_
         refine dm 123 ?_
         refine dx 124 (o_call (hc := (hput (hput (hput (hput (hput (hput hNew 3 (.map (kvsA .i64 (vmap first (((w.hap t 0 0)).K))))) 4 (.row false 3 [[.int .i64 first, .map 3, slA 9 ((((w.hap t 0 0)).K).map (arrAV .i64))]])) 9 (slO 4 ((((w.hap t 0 0)).K).map (arrAV .i64)))) 6 (.row false 4 [[.ptr 4 1 0 0, vaA 5 (valC (((w.hap t 0 0)).vals)), slA 10 ((((w.hap t 0 0)).effs).map (arrAV .i64)), .int .i64 (((w.hap t 0 0)).time)]])) 5 (vaO (valC (((w.hap t 0 0)).vals)))) 10 (slO 6 ((((w.hap t 0 0)).effs).map (arrAV .i64))))) (hw := (hput (hput (hput (hput (hput (hput hNone 3 (.map (kvsA .i64 (vmap first ((vunk first (w.hap t 0 0)).2))))) 4 (.row false 3 [[.int .i64 first, .map 3, slA 9 (((vunk first (w.hap t 0 0)).2).map (arrAV .i64))]])) 9 (slO 4 (((vunk first (w.hap t 0 0)).2).map (arrAV .i64)))) 6 (.row false 4 [[.ptr 4 1 0 0, vaA 5 (valC (((w.hap t 0 0)).vals)), slA 10 ((((w.hap t 0 0)).effs).map (arrAV .i64)), .int .i64 (((w.hap t 0 0)).time)]])) 5 (vaO (valC (((w.hap t 0 0)).vals)))) 10 (slO 6 ((((w.hap t 0 0)).effs).map (arrAV .i64))))) [10, 5, 6, 9, 4, 3] [(3, (.map (kvsA .i64 (vmap first ((vunk first (w.hap t 0 0)).2))))), (4, (.row false 3 [[.int .i64 first, .map 3, slA 9 (((vunk first (w.hap t 0 0)).2).map (arrAV .i64))]])), (9, (slO 4 (((vunk first (w.hap t 0 0)).2).map (arrAV .i64)))), (6, (.row false 4 [[.ptr 4 1 0 0, vaA 5 (valC (((w.hap t 0 0)).vals)), slA 10 ((((w.hap t 0 0)).effs).map (arrAV .i64)), .int .i64 (((w.hap t 0 0)).time)]])), (5, (vaO (valC (((w.hap t 0 0)).vals)))), (10, (slO 6 ((((w.hap t 0 0)).effs).map (arrAV .i64))))] rfl Try.func48 (by kernel_rfl) rfl rfl rfl ⟨⟨_, rfl, (by first | rfl | exact slO_avoid _ _ | exact vaO_avoid _ | exact tab_avoid _ _ rfl rfl | exact wlk_avoid _ _ _ rfl rfl rfl)⟩, ⟨_, rfl, (by first | rfl | exact slO_avoid _ _ | exact vaO_avoid _ | exact tab_avoid _ _ rfl rfl | exact wlk_avoid _ _ _ rfl rfl rfl)⟩, ⟨_, rfl, (by first | rfl | exact slO_avoid _ _ | exact vaO_avoid _ | exact tab_avoid _ _ rfl rfl | exact wlk_avoid _ _ _ rfl rfl rfl)⟩, ⟨_, rfl, (by first | rfl | exact slO_avoid _ _ | exact vaO_avoid _ | exact tab_avoid _ _ rfl rfl | exact wlk_avoid _ _ _ rfl rfl rfl)⟩, ⟨_, rfl, (by first | rfl | exact slO_avoid _ _ | exact vaO_avoid _ | exact tab_avoid _ _ rfl rfl | exact wlk_avoid _ _ _ rfl rfl rfl)⟩, ⟨_, rfl, (by first | rfl | exact slO_avoid _ _ | exact vaO_avoid _ | exact tab_avoid _ _ rfl rfl | exact wlk_avoid _ _ _ rfl rfl rfl)⟩, trivial⟩ rfl (hres_cons rfl (hres_cons rfl (hres_cons rfl (hres_cons rfl (hres_cons rfl (hres_cons rfl (hres_nil _))))))) ⟨⟨_, rfl, rfl, (by first | rfl | exact slO_avoid _ _ | exact vaO_avoid _ | exact tab_avoid _ _ rfl rfl | exact wlk_avoid _ _ _ rfl rfl rfl)⟩, ⟨_, rfl, rfl, (by first | rfl | exact slO_avoid _ _ | exact vaO_avoid _ | exact tab_avoid _ _ rfl rfl | exact wlk_avoid _ _ _ rfl rfl rfl)⟩, ⟨_, rfl, rfl, (by first | rfl | exact slO_avoid _ _ | exact vaO_avoid _ | exact tab_avoid _ _ rfl rfl | exact wlk_avoid _ _ _ rfl rfl rfl)⟩, ⟨_, rfl, rfl, (by first | rfl | exact slO_avoid _ _ | exact vaO_avoid _ | exact tab_avoid _ _ rfl rfl | exact wlk_avoid _ _ _ rfl rfl rfl)⟩, ⟨_, rfl, rfl, (by first | rfl | exact slO_avoid _ _ | exact vaO_avoid _ | exact tab_avoid _ _ rfl rfl | exact wlk_avoid _ _ _ rfl rfl rfl)⟩, ⟨_, rfl, rfl, (by first | rfl | exact slO_avoid _ _ | exact vaO_avoid _ | exact tab_avoid _ _ rfl rfl | exact wlk_avoid _ _ _ rfl rfl rfl)⟩, trivial⟩ rfl (unknowna_ok first R (m + 1) (w.hap t 0 0) (h.eff rfl) (by omega))) ?_
         refine dq 125 (q_indexV tok rfl rfl rfl rfl rfl rfl rfl rfl hxd.1 hxd.2.2.1) ?_
         refine DOps.w rfl rfl (o_storeV tok rfl rfl rfl rfl rfl rfl rfl (by have h1 := hxd.2.2.1; have h0 := hxd.1; omega) (valC_one _) rfl rfl rfl) ?_
         refine DOps.nil (by kernel_rfl) ?_
         refine ⟨[], trivial, rfl, ?_⟩
         rw [vstep8 ho]
         exact HSub.put (HSub.put (HSub.put (HSub.put (HSub.put (HSub.put (HSub.none _) rfl) rfl) rfl) (by show _ = some (AObj.row false 4 [[.ptr 4 1 0 0, vaA 5 (valC (rset w.vals t.d _)), slA 10 ((w.hap t 0 0).effs.map (arrAV .i64)), .int .i64 w.time]]); rw [valC_vaA]; rfl)) (by show _ = some (vaO (valC (rset w.vals t.d _))); rw [valC_set]; rfl)) rfl
        ·
         refine AGo.cond_false false rfl rfl ?_
         refine AGo.seq ?_
         refine AGo.region ?_
         refine aq 127 (q_bin rfl rfl rfl rfl) ?_
         refine aa 126 ?_
         refine AOps.nil ?_
         refine AGo.split 126 rfl (fun hb9 => ?_) (fun hb9 => ?_)
         ·
          refine AGo.cond_true true rfl rfl ?_
          have ho : t.op = 9 := by simpa using hb9
          have hxa := h.at (ht.a (.inl (by rw [ho]; rfl)))
          
          refine AGo.draw mix ?_
          refine dm 128 ?_
          refine dl 129 tok ?_
          refine dm 130 ?_
          refine df 131 tok ?_
          refine dl 132 tok ?_
          refine dq 133 (q_indexV tok rfl rfl rfl rfl rfl rfl rfl rfl hxa.1 hxa.2.2.1) ?_
          refine dq 134 (q_load tok rfl rfl rfl (ptsV rfl (valC_get ⟨hxa.1, hxa.2.1⟩)) rfl) ?_
          refine dx 135 (o_call (hc := (hput (hput (hput (hput (hput (hput hNew 3 (.map (kvsA .i64 (vmap first ((w).K))))) 4 (.row false 3 [[.int .i64 first, .map 3, slA 9 (((w).K).map (arrAV .i64))]])) 9 (slO 4 (((w).K).map (arrAV .i64)))) 6 (.row false 4 [[.ptr 4 1 0 0, vaA 5 (valC ((w).vals)), slA 10 (((w).effs).map (arrAV .i64)), .int .i64 ((w).time)]])) 5 (vaO (valC ((w).vals)))) 10 (slO 6 (((w).effs).map (arrAV .i64))))) (hw := (hput (hput (hput (hput (hput (hput hNone 3 (.map (kvsA .i64 (vmap first (((w.hap t (rget w.vals t.a) 0)).K))))) 4 (.row false 3 [[.int .i64 first, .map 3, slA 9 ((((w.hap t (rget w.vals t.a) 0)).K).map (arrAV .i64))]])) 9 (slO 4 ((((w.hap t (rget w.vals t.a) 0)).K).map (arrAV .i64)))) 6 (.row false 4 [[.ptr 4 1 0 0, vaA 5 (valC (((w.hap t (rget w.vals t.a) 0)).vals)), slA 10 ((((w.hap t (rget w.vals t.a) 0)).effs).map (arrAV .i64)), .int .i64 (((w.hap t (rget w.vals t.a) 0)).time)]])) 5 (vaO (valC (((w.hap t (rget w.vals t.a) 0)).vals)))) 10 (slO 6 ((((w.hap t (rget w.vals t.a) 0)).effs).map (arrAV .i64))))) [10, 5, 6, 9, 4, 3] [(3, (.map (kvsA .i64 (vmap first (((w.hap t (rget w.vals t.a) 0)).K))))), (4, (.row false 3 [[.int .i64 first, .map 3, slA 9 ((((w.hap t (rget w.vals t.a) 0)).K).map (arrAV .i64))]])), (9, (slO 4 ((((w.hap t (rget w.vals t.a) 0)).K).map (arrAV .i64)))), (6, (.row false 4 [[.ptr 4 1 0 0, vaA 5 (valC (((w.hap t (rget w.vals t.a) 0)).vals)), slA 10 ((((w.hap t (rget w.vals t.a) 0)).effs).map (arrAV .i64)), .int .i64 (((w.hap t (rget w.vals t.a) 0)).time)]])), (5, (vaO (valC (((w.hap t (rget w.vals t.a) 0)).vals)))), (10, (slO 6 ((((w.hap t (rget w.vals t.a) 0)).effs).map (arrAV .i64))))] rfl Try.func47 (by kernel_rfl) rfl rfl rfl ⟨⟨_, rfl, (by first | rfl | exact slO_avoid _ _ | exact vaO_avoid _ | exact tab_avoid _ _ rfl rfl | exact wlk_avoid _ _ _ rfl rfl rfl)⟩, ⟨_, rfl, (by first | rfl | exact slO_avoid _ _ | exact vaO_avoid _ | exact tab_avoid _ _ rfl rfl | exact wlk_avoid _ _ _ rfl rfl rfl)⟩, ⟨_, rfl, (by first | rfl | exact slO_avoid _ _ | exact vaO_avoid _ | exact tab_avoid _ _ rfl rfl | exact wlk_avoid _ _ _ rfl rfl rfl)⟩, ⟨_, rfl, (by first | rfl | exact slO_avoid _ _ | exact vaO_avoid _ | exact tab_avoid _ _ rfl rfl | exact wlk_avoid _ _ _ rfl rfl rfl)⟩, ⟨_, rfl, (by first | rfl | exact slO_avoid _ _ | exact vaO_avoid _ | exact tab_avoid _ _ rfl rfl | exact wlk_avoid _ _ _ rfl rfl rfl)⟩, ⟨_, rfl, (by first | rfl | exact slO_avoid _ _ | exact vaO_avoid _ | exact tab_avoid _ _ rfl rfl | exact wlk_avoid _ _ _ rfl rfl rfl)⟩, trivial⟩ rfl (hres_cons rfl (hres_cons rfl (hres_cons rfl (hres_cons rfl (hres_cons rfl (hres_cons rfl (hres_nil _))))))) ⟨⟨_, rfl, rfl, (by first | rfl | exact slO_avoid _ _ | exact vaO_avoid _ | exact tab_avoid _ _ rfl rfl | exact wlk_avoid _ _ _ rfl rfl rfl)⟩, ⟨_, rfl, rfl, (by first | rfl | exact slO_avoid _ _ | exact vaO_avoid _ | exact tab_avoid _ _ rfl rfl | exact wlk_avoid _ _ _ rfl rfl rfl)⟩, ⟨_, rfl, rfl, (by first | rfl | exact slO_avoid _ _ | exact vaO_avoid _ | exact tab_avoid _ _ rfl rfl | exact wlk_avoid _ _ _ rfl rfl rfl)⟩, ⟨_, rfl, rfl, (by first | rfl | exact slO_avoid _ _ | exact vaO_avoid _ | exact tab_avoid _ _ rfl rfl | exact wlk_avoid _ _ _ rfl rfl rfl)⟩, ⟨_, rfl, rfl, (by first | rfl | exact slO_avoid _ _ | exact vaO_avoid _ | exact tab_avoid _ _ rfl rfl | exact wlk_avoid _ _ _ rfl rfl rfl)⟩, ⟨_, rfl, rfl, (by first | rfl | exact slO_avoid _ _ | exact vaO_avoid _ | exact tab_avoid _ _ rfl rfl | exact wlk_avoid _ _ _ rfl rfl rfl)⟩, trivial⟩ rfl (happensa_ok first R m w h (by omega) t (rget w.vals t.a) 0)) ?_
          refine DOps.nil (by kernel_rfl) ?_
          refine ⟨[], trivial, rfl, ?_⟩
          rw [vstep9 ho]
          exact HSub.put (HSub.put (HSub.put (HSub.put (HSub.put (HSub.put (HSub.none _) rfl) rfl) rfl) rfl) rfl) rfl
         ·
          refine AGo.cond_false false rfl rfl ?_
          refine AGo.seq ?_
          refine AGo.region ?_
          refine aq 137 (q_bin rfl rfl rfl rfl) ?_
          refine aa 136 ?_
          refine AOps.nil ?_
          refine AGo.split 136 rfl (fun hb10 => ?_) (fun hb10 => ?_)
          ·
           refine AGo.cond_true true rfl rfl ?_
           have ho : t.op = 10 := by simpa using hb10
           
           refine AGo.seq ?_
           refine AGo.region ?_
           refine am 138 ?_
           refine al 139 tok ?_
           refine ax 140 (o_call (hc := (hput (hput (hput (hput (hput (hput hNew 3 (.map (kvsA .i64 (vmap first ((w).K))))) 4 (.row false 3 [[.int .i64 first, .map 3, slA 9 (((w).K).map (arrAV .i64))]])) 9 (slO 4 (((w).K).map (arrAV .i64)))) 6 (.row false 4 [[.ptr 4 1 0 0, vaA 5 (valC ((w).vals)), slA 10 (((w).effs).map (arrAV .i64)), .int .i64 ((w).time)]])) 5 (vaO (valC ((w).vals)))) 10 (slO 6 (((w).effs).map (arrAV .i64))))) (hw := (hput (hput (hput (hput (hput (hput hNone 3 (.map (kvsA .i64 (vmap first (((w.hap t 0 0)).K))))) 4 (.row false 3 [[.int .i64 first, .map 3, slA 9 ((((w.hap t 0 0)).K).map (arrAV .i64))]])) 9 (slO 4 ((((w.hap t 0 0)).K).map (arrAV .i64)))) 6 (.row false 4 [[.ptr 4 1 0 0, vaA 5 (valC (((w.hap t 0 0)).vals)), slA 10 ((((w.hap t 0 0)).effs).map (arrAV .i64)), .int .i64 (((w.hap t 0 0)).time)]])) 5 (vaO (valC (((w.hap t 0 0)).vals)))) 10 (slO 6 ((((w.hap t 0 0)).effs).map (arrAV .i64))))) [10, 5, 6, 9, 4, 3] [(3, (.map (kvsA .i64 (vmap first (((w.hap t 0 0)).K))))), (4, (.row false 3 [[.int .i64 first, .map 3, slA 9 ((((w.hap t 0 0)).K).map (arrAV .i64))]])), (9, (slO 4 ((((w.hap t 0 0)).K).map (arrAV .i64)))), (6, (.row false 4 [[.ptr 4 1 0 0, vaA 5 (valC (((w.hap t 0 0)).vals)), slA 10 ((((w.hap t 0 0)).effs).map (arrAV .i64)), .int .i64 (((w.hap t 0 0)).time)]])), (5, (vaO (valC (((w.hap t 0 0)).vals)))), (10, (slO 6 ((((w.hap t 0 0)).effs).map (arrAV .i64))))] rfl Try.func47 (by kernel_rfl) rfl rfl rfl ⟨⟨_, rfl, (by first | rfl | exact slO_avoid _ _ | exact vaO_avoid _ | exact tab_avoid _ _ rfl rfl | exact wlk_avoid _ _ _ rfl rfl rfl)⟩, ⟨_, rfl, (by first | rfl | exact slO_avoid _ _ | exact vaO_avoid _ | exact tab_avoid _ _ rfl rfl | exact wlk_avoid _ _ _ rfl rfl rfl)⟩, ⟨_, rfl, (by first | rfl | exact slO_avoid _ _ | exact vaO_avoid _ | exact tab_avoid _ _ rfl rfl | exact wlk_avoid _ _ _ rfl rfl rfl)⟩, ⟨_, rfl, (by first | rfl | exact slO_avoid _ _ | exact vaO_avoid _ | exact tab_avoid _ _ rfl rfl | exact wlk_avoid _ _ _ rfl rfl rfl)⟩, ⟨_, rfl, (by first | rfl | exact slO_avoid _ _ | exact vaO_avoid _ | exact tab_avoid _ _ rfl rfl | exact wlk_avoid _ _ _ rfl rfl rfl)⟩, ⟨_, rfl, (by first | rfl | exact slO_avoid _ _ | exact vaO_avoid _ | exact tab_avoid _ _ rfl rfl | exact wlk_avoid _ _ _ rfl rfl rfl)⟩, trivial⟩ rfl (hres_cons rfl (hres_cons rfl (hres_cons rfl (hres_cons rfl (hres_cons rfl (hres_cons rfl (hres_nil _))))))) ⟨⟨_, rfl, rfl, (by first | rfl | exact slO_avoid _ _ | exact vaO_avoid _ | exact tab_avoid _ _ rfl rfl | exact wlk_avoid _ _ _ rfl rfl rfl)⟩, ⟨_, rfl, rfl, (by first | rfl | exact slO_avoid _ _ | exact vaO_avoid _ | exact tab_avoid _ _ rfl rfl | exact wlk_avoid _ _ _ rfl rfl rfl)⟩, ⟨_, rfl, rfl, (by first | rfl | exact slO_avoid _ _ | exact vaO_avoid _ | exact tab_avoid _ _ rfl rfl | exact wlk_avoid _ _ _ rfl rfl rfl)⟩, ⟨_, rfl, rfl, (by first | rfl | exact slO_avoid _ _ | exact vaO_avoid _ | exact tab_avoid _ _ rfl rfl | exact wlk_avoid _ _ _ rfl rfl rfl)⟩, ⟨_, rfl, rfl, (by first | rfl | exact slO_avoid _ _ | exact vaO_avoid _ | exact tab_avoid _ _ rfl rfl | exact wlk_avoid _ _ _ rfl rfl rfl)⟩, ⟨_, rfl, rfl, (by first | rfl | exact slO_avoid _ _ | exact vaO_avoid _ | exact tab_avoid _ _ rfl rfl | exact wlk_avoid _ _ _ rfl rfl rfl)⟩, trivial⟩ rfl (happensa_ok first R m w h (by omega) t 0 0)) ?_
           refine AOps.nil ?_
           refine AGo.region ?_
           refine am 141 ?_
           refine aq 142 (q_nilCheck rfl rfl rfl) ?_
           refine af 143 tok ?_
           refine al 144 tok ?_
           refine aq 145 (q_bin (r := .int .i64 (w.time + 1)) rfl rfl rfl (by exact timeZ (x := w.time) (by omega))) ?_
           refine aq 146 (q_nilCheck rfl rfl rfl) ?_
           refine af 147 tok ?_
           refine AOps.w rfl rfl (o_store tok rfl rfl rfl rfl rfl rfl rfl rfl rfl (by decide) rfl (by first | exact fun _ => rfl | (intro h; cases h))) ?_
           refine AOps.nil ?_
           refine ⟨[], trivial, rfl, ?_⟩
           rw [vstep10 ho]
           exact HSub.put (HSub.put (HSub.put (HSub.put (HSub.put (HSub.put (HSub.none _) rfl) rfl) rfl) rfl) rfl) rfl
          ·
           refine AGo.cond_false false rfl rfl ?_
           refine AGo.skip ?_
           refine ⟨[], trivial, rfl, ?_⟩
           rw [vstep0 hb1 hb2 hb3 hb4 hb5 hb6 hb7 hb8 hb9 hb10]
           exact HSub.put (HSub.put (HSub.put (HSub.put (HSub.put (HSub.put (HSub.none _) rfl) rfl) rfl) rfl) rfl) rfl

end Go.Proofs.Ytpijoieooikfgaa.Sv
