/-
  WALKS: printed by a program of our own from the code's tree.
  WALKS: printed by a program of our own from the code's tree.
  WALKS: printed by a program of our own from the code's tree.
  WALKS: printed by a program of our own from the code's tree.
  WALKS: printed by a program of our own from the code's tree.
  WALKS: printed by a program of our own from the code's tree.
  WALKS: printed by a program of our own from the code's tree.
  WALKS: printed by a program of our own from the code's tree.
  WALKS: printed by a program of our own from the code's tree.
  WALKS: printed by a program of our own from the code's tree.
  WALKS: printed by a program of our own from the code's tree.
  TIDYING, AS THE PROGRAM DOES IT, IN PLAIN LEAN: own work, over no program.
  WALKS: printed by a program of our own from the code's tree.
  WALKS: printed by a program of our own from the code's tree.
  WALKS: printed by a program of our own from the code's tree.
  WALKS: printed by a program of our own from the code's tree.
  WALKS: printed by a program of our own from the code's tree.
  WALKS: printed by a program of our own from the code's tree.
  SMALL LEMMAS FOR THE WALKS OF TIDY: own work, over no program.
  WALKS: printed by a program of our own from the code's tree.
  WALKS: printed by a program of our own from the code's tree.
  WALKS: printed by a program of our own from the code's tree.
  WALKS: printed by a program of our own from the code's tree.
-/
import Derived.Test.YtjmjmedjjbginaaPDeadRuns3
import Derived.Test.YtjmjmedjjbginaaPDeadRuns4
import Derived.Test.YtjmjmedjjbginaaPDeadRuns2
namespace Go.Proofs.Ytjmjmedjjbginaa.Sv
open Go

set_option maxHeartbeats 2000000 in
set_option maxRecDepth 100000 in
theorem solverOf_ok (f : BFunc) (hs : f.sane) (R : Nat) (hRf : f.regs = (R : Int)) (hR : R ≤ 100000) (hn0 : 0 < f.blocks.length) (hn : f.blocks.length ≤ 100000) (hi : ∀ x ∈ f.blocks, x.ins.length ≤ 100000) : ACall Try.prog 50 [.agg f.cells] hNew (fun r h' => r = .ptr 2 1 0 0 ∧ HSub (putS hNone (HS f R ((List.range f.blocks.length).map natC) f.blocks.length (fun b => decide (b < f.blocks.length)) (F3 (rI f.blocks.length R B0) (rI f.blocks.length R B0) (rA f.blocks.length (aheadL f))))) h') := by
 refine ACall.of_body (n := 121) tok Try.func50 rfl rfl ?_
 refine AGo.seq ?_
 refine AGo.region ?_
 refine ax 1 (o_box (sz := 2) 0 rfl rfl rfl rfl (Nat.zero_lt_succ _) rfl) ?_
 refine aa 2 ?_
 refine AOps.nil ?_
 refine AGo.seq ?_
 refine AGo.region ?_
 refine af 12 tok ?_
 refine al 13 tok ?_
 refine aq 14 (q_len tok rfl rfl rfl rfl rfl) ?_
 refine aa 3 ?_
 refine AOps.nil ?_
 refine AGo.seq ?_
 refine AGo.draw mix ?_
 refine dl 15 tok ?_
 refine dx 16 (o_pure rfl Try.func42 (by kernel_rfl) rfl rfl rfl (next_ok _ (by assumption))) ?_
 refine dm 17 ?_
 refine dx 18 (o_makeSlice tok (n := f.blocks.length) (m := f.blocks.length) 7 false rfl rfl rfl (by simp) (by simp) rfl rfl rfl rfl rfl (Nat.zero_lt_succ _) rfl (Nat.le_refl _) (by show 24 * f.blocks.length ≤ _; omega) (by simp only [maxLen]; omega)) ?_
 refine dm 19 ?_
 refine dx 20 (o_makeSlice tok (n := f.blocks.length) (m := f.blocks.length) 5 true rfl rfl rfl (by simp) (by simp) rfl rfl rfl rfl rfl (Nat.zero_lt_succ _) rfl (Nat.le_refl _) (by show 1 * f.blocks.length ≤ _; omega) (by simp only [maxLen]; omega)) ?_
 refine dq 21 (q_build tok rfl rfl rfl rfl rfl (by decide) rfl rfl rfl) ?_
 refine dx 22 (o_box (sz := 8) 2 rfl rfl rfl rfl (Nat.zero_lt_succ _) rfl) ?_
 refine da 4 ?_
 refine DOps.nil (by kernel_rfl) ?_
 refine AGo.seq ?_
 refine AGo.seq ?_
 refine AGo.ghost (Ghost.weakRowF 2 (es' := [SBb f R 0]) rfl rfl (weak_one ⟨Wk.refl _, Wk.refl _, Wk.nil _, Wk.nil _, Wk.nil _, Wk.nil _, Wk.refl _, Wk.refl _, trivial⟩)) ?_
 refine AGo.ghost (Ghost.weakRowF 7 (es' := colF (ahR (fun _ => [])) f.blocks.length) rfl (by rw [colF_len, List.length_replicate]) (weak_col fun b => Wk.nil _)) ?_
 refine AGo.region ?_
 refine am 23 ?_
 refine aq 24 (q_nilCheck rfl rfl rfl) ?_
 refine af 25 tok ?_
 refine al 26 tok ?_
 refine aq 27 (q_len tok rfl rfl rfl rfl rfl) ?_
 refine am 28 ?_
 refine AOps.nil ?_
 refine AGo.block ?_
 refine AGo.loopK (γ := Nat) (kf 10) (fun k => ⟨121, (eput (eput (eput (eput (eput (eput eNew 1 (.ptr 0 1 0 0)) 3 (.int .i64 (f.blocks.length : Int))) 4 (.ptr 2 1 0 0)) 26 (pathsAV f.nexts)) 27 (.int .i64 (f.blocks.length : Int))) 28 (.int .i64 (k : Int))), (fam (nb [(.row false 2 [f.cells]), .free, (.row false 8 [SBb f R k]), (slP 1 (colF (rG 0 (nw R)) k)), (slP 1 (colF (rG 1 (nw R)) k)), (.row true 1 (bC f.blocks.length (fun _ => false))), .free, (.row false 1 (colF (ahR (aheadP f k 0)) f.blocks.length)), (slO 1 ((f.blocks.take k).map (rdC R))), (slO 1 ((f.blocks.take k).map (stC R)))]) (F3 (rI k R B0) (rI k R B0) (rA f.blocks.length (aheadP f k 0))))⟩) (fun k => k ≤ f.blocks.length) (fun k => f.blocks.length - k) 0 (Sub.mk' z25q (famSub (k0 := 10) rfl (by repeat (first | exact trivial | refine ⟨⟨by first | rfl | exact congrArg (fun es => some (AObj.row true 1 es)) (colF_rep _ _) | exact congrArg (fun A => some (AObj.row false 1 (colF (ahR A) f.blocks.length))) (funext fun c => (aheadP_zero f 0 c).symm), by first | rfl | exact sbb_avoid f R (by decide) | exact slO_avoid _ _ | exact slP_avoid (fun _ _ => rG_avoid _ _ _ _) | exact colF_avoid (fun _ _ => ahR_avoid _ _ _)⟩, ?_⟩)) (fun x_ => by rw [rA_congr (aheadP_zero f 0)]; (try simp only [hputs]); (repeat (first | refine hput_skip (by exact beq_false_of_ne (by omega)) ?_ | refine hrm_skip (by omega) ?_)); exact congrArg some rI_start.symm) (fun c h1 h2 => by rcases (by omega : c = 10 ∨ c = 11 ∨ c = 12 ∨ c = 13 ∨ c = 14 ∨ c = 15) with rfl | rfl | rfl | rfl | rfl | rfl <;> first | rfl | (try simp only [hputs]; repeat (first | rfl | refine hput_skip (by exact beq_false_of_ne (by omega)) ?_ | refine hrm_skip (by omega) ?_))))) (Nat.zero_le _) (fun g b hb => famFree (k0 := 10) rfl hb) ?_
 intro k hk
 refine AGo.seq ?_
 refine AGo.region ?_
 refine aq 29 (q_bin rfl rfl rfl rfl) ?_
 refine AOps.nil ?_
 refine AGo.seq ?_
 refine AGo.split 29 rfl (fun hb1 => ?_) (fun hb1 => ?_)
 ·
  refine AGo.cond_true true rfl rfl ?_
  have hkl : k < f.blocks.length := by have h := hb1; simp at h; exact h
  obtain ⟨x, hx⟩ := get_of_lt hkl
  have hxm := List.mem_of_getElem? hx
  refine AGo.skip ?_
  refine AGo.seq ?_
  refine AGo.block ?_
  refine AGo.seq ?_
  refine AGo.region ?_
  refine am 30 ?_
  refine aq 31 (q_index_lst tok rfl rfl rfl rfl rfl rfl (Int.natCast_nonneg _) (idx_map (nexts_get hx)) rfl) ?_
  refine al 32 tok ?_
  refine aa 5 ?_
  refine aa 6 ?_
  refine AOps.nil ?_
  refine AGo.seq ?_
  refine AGo.seq ?_
  refine AGo.region ?_
  refine am 33 ?_
  refine aq 34 (q_len tok rfl rfl rfl rfl rfl) ?_
  refine am 35 ?_
  refine AOps.nil ?_
  refine AGo.block ?_
  refine AGo.loopK (γ := Nat) (kf 10) (fun j => ⟨121, (eput (eput (eput (eput (eput (eput (eput (eput (eput (eput eNew 1 (.ptr 0 1 0 0)) 3 (.int .i64 (f.blocks.length : Int))) 4 (.ptr 2 1 0 0)) 26 (pathsAV f.nexts)) 27 (.int .i64 (f.blocks.length : Int))) 28 (.int .i64 (k : Int))) 5 (.int .i64 (k : Int))) 33 (intsAV x.nexts)) 34 (.int .i64 (x.nexts.length : Int))) 35 (.int .i64 (j : Int))), (fam (nb [(.row false 2 [f.cells]), .free, (.row false 8 [SBb f R k]), (slP 1 (colF (rG 0 (nw R)) k)), (slP 1 (colF (rG 1 (nw R)) k)), (.row true 1 (bC f.blocks.length (fun _ => false))), .free, (.row false 1 (colF (ahR (aheadP f k j)) f.blocks.length)), (slO 1 ((f.blocks.take k).map (rdC R))), (slO 1 ((f.blocks.take k).map (stC R)))]) (F3 (rI k R B0) (rI k R B0) (rA f.blocks.length (aheadP f k j))))⟩) (fun j => True) (fun j => x.nexts.length - j) 0 (Sub.mk' z44q (famSub (k0 := 10) rfl (by repeat (first | exact trivial | refine ⟨⟨by rfl, by first | rfl | exact sbb_avoid f R (by decide) | exact slO_avoid _ _ | exact slP_avoid (fun _ _ => rG_avoid _ _ _ _) | exact colF_avoid (fun _ _ => ahR_avoid _ _ _)⟩, ?_⟩)) z42q (fun c h1 h2 => by rcases (by omega : c = 10 ∨ c = 11 ∨ c = 12 ∨ c = 13 ∨ c = 14 ∨ c = 15) with rfl | rfl | rfl | rfl | rfl | rfl <;> first | rfl | (try simp only [hputs]; repeat (first | rfl | refine hput_skip (by exact beq_false_of_ne (by omega)) ?_ | refine hrm_skip (by omega) ?_))))) trivial (fun g b hb => famFree (k0 := 10) rfl hb) ?_
  intro j _
  refine AGo.seq ?_
  refine AGo.region ?_
  refine aq 36 (q_bin rfl rfl rfl rfl) ?_
  refine AOps.nil ?_
  refine AGo.seq ?_
  refine AGo.split 36 rfl (fun hb2 => ?_) (fun hb2 => ?_)
  ·
   refine AGo.cond_true true rfl rfl ?_
   have hjl : j < x.nexts.length := by have h := hb2; simp [intsAV] at h; exact h
   obtain ⟨d, hd⟩ := get_of_lt hjl
   have hd0 := hs.next x hxm d (List.mem_of_getElem? hd)
   have hdn : d.toNat < f.blocks.length := by omega
   refine AGo.skip ?_
   refine AGo.seq ?_
   refine AGo.block ?_
   refine AGo.seq ?_
   refine AGo.region ?_
   refine aq 37 (q_index_lst tok rfl rfl rfl rfl rfl rfl (Int.natCast_nonneg _) (idx_map hd) rfl) ?_
   refine al 38 tok ?_
   refine aa 8 ?_
   refine AOps.nil ?_
   refine AGo.draw mix ?_
   refine dm 39 ?_
   refine dq 40 (q_nilCheck rfl rfl rfl) ?_
   refine df 41 tok ?_
   refine dl 42 tok ?_
   refine dm 43 ?_
   refine dm 44 ?_
   refine dq 45 (q_nilCheck rfl rfl rfl) ?_
   refine df 46 tok ?_
   refine dl 47 tok ?_
   refine dm 48 ?_
   refine dq 49 (q_index_ref tok rfl rfl rfl rfl rfl rfl rfl (colF_len _ _).symm rfl hd0.1 (by omega)) ?_
   refine dq 50 (q_load tok rfl rfl rfl (.ptr _ _ _ _ _ _ _ [ahR (aheadP f k j) d.toNat] rfl (colF_len _ _).symm (by rw [Nat.zero_add]; exact colF_get hdn)) rfl) ?_
   refine dm 51 ?_
   refine dx 52 (o_lit' tok rfl rfl rfl rfl rfl rfl (by decide) rfl rfl rfl rfl rfl rfl) ?_
   refine dx 53 (o_append1J tok (b := 3 * d.toNat + 2 + 16) (es := (aheadP f k j d.toNat).map natC) rfl rfl rfl rfl rfl rfl rfl rfl ((fam_hi _ _ _).trans (congrArg some (rA_2 hdn))) rfl rfl (Nat.zero_lt_succ _) (one_len fun _ => rfl) (one_pure fun _ => rfl) rfl rfl (by rw [List.length_map]; have := aheadP_len f k j d.toNat; show (_ + 1) * 8 ≤ _; omega) (by rw [List.length_map]; have := aheadP_len f k j d.toNat; simp only [maxLen]; omega)) ?_
   refine dq 54 (q_index_ref tok rfl rfl rfl rfl rfl rfl rfl (colF_len _ _).symm rfl hd0.1 (by omega)) ?_
   refine DOps.w rfl rfl (o_store1 tok (p := false) (sz := 1) (es := colF (ahR (aheadP f k j)) f.blocks.length) (cs := [ahR (aheadP f k j) d.toNat]) rfl rfl rfl rfl rfl rfl z28q (colF_len _ _).symm (by rw [Nat.zero_add]; exact colF_get hdn) (slA_cells _ _) (by decide) (slA_cell1 _ _) (by intro h; cases h)) ?_
   refine DOps.nilC cls3 [([],[]), ([],[]), ([],[]), ([2],[]), ([],[]), ([],[]), ([],[]), ([],[]), ([2],[]), ([],[]), ([7],[]), ([7],[]), ([],[]), ([],[]), ([18],[18]), ([7],[]), ([7],[7])] z1q (by kernel_rfl) ?_
   refine AGo.region ?_
   refine aq 55 (q_inc rfl rfl hjl (by simp only [maxLen]; have := nexts_le2 x; omega)) ?_
   refine am 35 ?_
   refine AOps.nil ?_
   exact ⟨j+1, DropK.mk' z51q (famDrop (k0 := 10) rfl (by repeat (first | exact trivial | refine ⟨⟨by first | rfl | exact congrArg (fun es => some (AObj.row false 1 es)) (ah_put (aheadP_succ hx hd hd0.1)), by first | rfl | exact sbb_avoid f R (by decide) | exact slO_avoid _ _ | exact slP_avoid (fun _ _ => rG_avoid _ _ _ _) | exact colF_avoid (fun _ _ => ahR_avoid _ _ _)⟩, ?_⟩)) (fun x_ => by (try simp only [hputs]); (repeat (first | refine hput_skip (by exact beq_false_of_ne (by omega)) ?_ | refine hrm_skip (by omega) ?_)); exact (hput_hi (fun y_ => by (try simp only [hputs]); repeat (first | exact fam_hi _ _ _ | refine hput_skip (by exact beq_false_of_ne (by omega)) ?_ | refine hrm_skip (by omega) ?_)) _ _ x_).trans (congrArg some (rA_put hdn (aheadP_succ hx hd hd0.1) x_).symm)) (F3_avoid (fun _ => rI_avoid _) (fun _ => rI_avoid _) (fun _ => rA_avoid _))), trivial, by omega⟩
  ·
   refine AGo.cond_false false rfl rfl ?_
   have hjge : x.nexts.length ≤ j := by have h := hb2; simp [intsAV] at h; omega
   refine AGo.exit ?_
   refine AGo.seq ?_
   refine AGo.draw mix ?_
   refine df 57 tok ?_
   refine dl 58 tok ?_
   refine dm 59 ?_
   refine dq 60 (q_index_lst tok rfl rfl rfl rfl rfl rfl (Int.natCast_nonneg _) (idx_map hx) rfl) ?_
   refine dl 61 tok ?_
   refine df 62 tok ?_
   refine dl 63 tok ?_
   refine dx 64 (o_call (r := .tup [.lst false (rowW R (readP x)), .lst false (rowW R (fun v => setsAny v x.ins))]) (hc := hNew) (hw := hNone) [] [] rfl Try.func66 (by kernel_rfl) rfl rfl rfl trivial rfl (hres_nil _) trivial rfl (by rw [hRf]; exact touch_ok x R hR (hi x hxm) (fun t ht => by rw [← hRf]; exact hs.low x hxm t ht) (fun e => by rw [← hRf]; exact hs.fin x hxm e))) ?_
   refine dm 56 ?_
   refine dq 65 (q_extract rfl rfl rfl) ?_
   refine dq 66 (q_extract rfl rfl rfl) ?_
   refine da 9 ?_
   refine da 10 ?_
   refine DOps.nil (by kernel_rfl) ?_
   refine AGo.seq ?_
   refine AGo.region ?_
   refine am 67 ?_
   refine am 68 ?_
   refine aq 69 (q_nilCheck rfl rfl rfl) ?_
   refine af 70 tok ?_
   refine al 71 tok ?_
   refine am 72 ?_
   refine ax 73 (o_lit' tok rfl rfl rfl rfl rfl rfl (by decide) rfl rfl rfl rfl rfl rfl) ?_
   refine ax 74 (o_append1J tok (b := 8) (es := (f.blocks.take k).map (rdC R)) rfl rfl rfl rfl rfl rfl rfl rfl z28q rfl rfl (Nat.zero_lt_succ _) (one_len fun _ => rfl) (one_pure fun _ => rfl) rfl rfl (by rw [List.length_map, List.length_take]; show (_ + 1) * 24 ≤ _; omega) (by rw [List.length_map, List.length_take]; simp only [maxLen]; omega)) ?_
   refine aq 75 (q_nilCheck rfl rfl rfl) ?_
   refine af 76 tok ?_
   refine AOps.w rfl rfl (o_store1 tok rfl rfl rfl rfl rfl rfl rfl rfl rfl (slA_cells _ _) (by decide) (slA_cell1 _ _) (by intro h; cases h)) ?_
   refine AOps.nil ?_
   refine AGo.seq ?_
   refine AGo.region ?_
   refine am 77 ?_
   refine am 78 ?_
   refine aq 79 (q_nilCheck rfl rfl rfl) ?_
   refine af 80 tok ?_
   refine al 81 tok ?_
   refine am 82 ?_
   refine ax 83 (o_lit' tok rfl rfl rfl rfl rfl rfl (by decide) rfl rfl rfl rfl rfl rfl) ?_
   refine ax 84 (o_append1J tok (b := 9) (es := (f.blocks.take k).map (stC R)) rfl rfl rfl rfl rfl rfl rfl rfl z28q rfl rfl (Nat.zero_lt_succ _) (one_len fun _ => rfl) (one_pure fun _ => rfl) rfl rfl (by rw [List.length_map, List.length_take]; show (_ + 1) * 24 ≤ _; omega) (by rw [List.length_map, List.length_take]; simp only [maxLen]; omega)) ?_
   refine aq 85 (q_nilCheck rfl rfl rfl) ?_
   refine af 86 tok ?_
   refine AOps.w rfl rfl (o_store1 tok rfl rfl rfl rfl rfl rfl rfl rfl rfl (slA_cells _ _) (by decide) (slA_cell1 _ _) (by intro h; cases h)) ?_
   refine AOps.nil ?_
   refine AGo.seq ?_
   refine AGo.draw mix ?_
   refine dm 87 ?_
   refine dm 88 ?_
   refine dq 89 (q_nilCheck rfl rfl rfl) ?_
   refine df 90 tok ?_
   refine dl 91 tok ?_
   refine df 92 tok ?_
   refine dl 93 tok ?_
   refine dx 94 (o_callNew (q := wRow R (fun _ => false)) (r := .ref (3 * k + 0 + 16) (nw R) 0 (nw R)) (3 * k + 0 + 16) rfl Try.func67 (by kernel_rfl) rfl rfl rfl (by (try simp only [hputs]); (repeat (first | refine hput_skip (by exact beq_false_of_ne (by omega)) ?_ | refine hrm_skip (by omega) ?_)); exact (fam_hi _ _ _).trans (congrArg some rI_new0)) rfl (by show mem _ _ = true; exact mem_one _) (by rw [hRf]; exact rowOf_ok (3 * k + 0 + 16) R hR)) ?_
   refine dx 95 (o_litRow tok 10 false rfl rfl rfl rfl rfl rfl (by decide) z28q rfl rfl rfl (by intro h; cases h) rfl rfl) ?_
   refine dx 96 (o_append1S tok (b := 3) (es := colF (rG 0 (nw R)) k) (x0 := [rG 0 (nw R) k]) rfl rfl rfl rfl rfl rfl rfl rfl z28q rfl rfl (Nat.zero_lt_succ _) (src_ref (p := false) (sz := 1) z28q rfl) rfl (by rw [colF_len]; show _ * 24 ≤ _; omega) (by rw [colF_len]; simp only [maxLen]; omega)) ?_
   refine dq 97 (q_nilCheck rfl rfl rfl) ?_
   refine df 98 tok ?_
   refine DOps.w rfl rfl (o_store1 tok rfl rfl rfl rfl rfl rfl rfl rfl rfl (slA_cells _ _) (by decide) (slA_cell1 _ _) (by intro h; cases h)) ?_
   refine DOps.nilC cls3 [([],[]), ([],[]), ([],[]), ([],[]), ([2],[]), ([],[]), ([0],[]), ([16],[16]), ([10],[10]), ([3, 10],[3]), ([],[]), ([],[]), ([2],[2])] z1q (by kernel_rfl) ?_
   refine AGo.draw mix ?_
   refine dm 99 ?_
   refine dm 100 ?_
   refine dq 101 (q_nilCheck rfl rfl rfl) ?_
   refine df 102 tok ?_
   refine dl 103 tok ?_
   refine df 104 tok ?_
   refine dl 105 tok ?_
   refine dx 106 (o_callNew (q := wRow R (fun _ => false)) (r := .ref (3 * k + 1 + 16) (nw R) 0 (nw R)) (3 * k + 1 + 16) rfl Try.func67 (by kernel_rfl) rfl rfl rfl (by (try simp only [hputs]); (repeat (first | refine hput_skip (by exact beq_false_of_ne (by omega)) ?_ | refine hrm_skip (by omega) ?_)); exact (fam_hi _ _ _).trans (congrArg some rI_new1)) rfl (by show mem _ _ = true; exact mem_one _) (by rw [hRf]; exact rowOf_ok (3 * k + 1 + 16) R hR)) ?_
   refine dx 107 (o_litRow tok 11 false rfl rfl rfl rfl rfl rfl (by decide) z28q rfl rfl rfl (by intro h; cases h) rfl rfl) ?_
   refine dx 108 (o_append1S tok (b := 4) (es := colF (rG 1 (nw R)) k) (x0 := [rG 1 (nw R) k]) rfl rfl rfl rfl rfl rfl rfl rfl z28q rfl rfl (Nat.zero_lt_succ _) (src_ref (p := false) (sz := 1) z28q rfl) rfl (by rw [colF_len]; show _ * 24 ≤ _; omega) (by rw [colF_len]; simp only [maxLen]; omega)) ?_
   refine dq 109 (q_nilCheck rfl rfl rfl) ?_
   refine df 110 tok ?_
   refine DOps.w rfl rfl (o_store1 tok rfl rfl rfl rfl rfl rfl rfl rfl rfl (slA_cells _ _) (by decide) (slA_cell1 _ _) (by intro h; cases h)) ?_
   refine DOps.nilC cls3 [([],[]), ([],[]), ([],[]), ([],[]), ([2],[]), ([],[]), ([0],[]), ([17],[17]), ([11],[11]), ([4, 11],[4]), ([],[]), ([],[]), ([2],[2])] z1q (by kernel_rfl) ?_
   refine AGo.region ?_
   refine aq 111 (q_inc rfl rfl hkl (by simp only [maxLen]; omega)) ?_
   refine am 28 ?_
   refine AOps.nil ?_
   exact ⟨k+1, DropK.mk' z51q (famDrop (k0 := 10) rfl (by repeat (first | exact trivial | refine ⟨⟨by first | rfl | exact congrArg (fun s => some (AObj.row false 8 [s])) (sbb_succ hx) | exact congrArg some (slP_col _ _ _).symm | exact congrArg (fun A => some (AObj.row false 1 (colF (ahR A) f.blocks.length))) (funext (aheadP_next hx hjge)) | exact congrArg (fun es => some (slO 1 es)) (map_take_succ hx _), by first | rfl | exact sbb_avoid f R (by decide) | exact slO_avoid _ _ | exact slP_avoid (fun _ _ => rG_avoid _ _ _ _) | exact colF_avoid (fun _ _ => ahR_avoid _ _ _)⟩, ?_⟩)) (fun x_ => by rw [← rA_congr (aheadP_next hx hjge)]; (try simp only [hputs]); (repeat (first | refine hput_skip (by exact beq_false_of_ne (by omega)) ?_ | refine hrm_skip (by omega) ?_)); refine (hput_hi (F := F3 (rI (k + 1) R B0) (rI k R B0) (rA f.blocks.length (aheadP f k j))) (fun y_ => ?_) _ _ x_).trans (congrArg some (rI_succ1 x_).symm); (repeat (first | refine hput_skip (by exact beq_false_of_ne (by omega)) ?_ | refine hrm_skip (by omega) ?_)); exact (hput_hi (fun z_ => by (repeat (first | refine hput_skip (by exact beq_false_of_ne (by omega)) ?_ | refine hrm_skip (by omega) ?_)); exact fam_hi _ _ _) _ _ y_).trans (congrArg some (rI_succ0 y_).symm)) (F3_avoid (fun _ => rI_avoid _) (fun _ => rI_avoid _) (fun _ => rA_avoid _))), hkl, by omega⟩
 ·
  refine AGo.cond_false false rfl rfl ?_
  have hge : f.blocks.length ≤ k := by have h := hb1; simp at h; omega
  refine AGo.exit ?_
  refine AGo.seq ?_
  refine AGo.seq ?_
  have hkn : k = f.blocks.length := by omega
  subst hkn
  rw [sbb_end hn0, slP_col' hn0, slP_col' hn0, List.take_length, slO_map hn0, slO_map hn0, show aheadP f f.blocks.length 0 = aheadL f from funext fun c => aheadP_zero f _ c]
  refine AGo.ghost (.dryCell 2 0 6 6 1 true rfl rfl rfl rfl rfl (by decide)) ?_
  refine AGo.region ?_
  refine am 112 ?_
  refine am 113 ?_
  refine AOps.nil ?_
  refine AGo.block ?_
  refine AGo.loopK (γ := Nat) (kf 10) (fun k => ⟨121, (eput (eput (eput (eput (eput eNew 1 (.ptr 0 1 0 0)) 3 (.int .i64 (f.blocks.length : Int))) 4 (.ptr 2 1 0 0)) 112 (.int .i64 (f.blocks.length : Int))) 113 (.int .i64 (k : Int))), (fam (nb [(.row false 2 [f.cells]), .free, (.row false 8 [SBc f ((List.range k).map natC).length (k)]), (.row false 1 (colF (rG 0 (nw R)) f.blocks.length)), (.row false 1 (colF (rG 1 (nw R)) f.blocks.length)), (.row true 1 (bC f.blocks.length (fun b => decide (b < k)))), (.row true 1 ((List.range k).map natC)), (.row false 1 (colF (ahR (aheadL f)) f.blocks.length)), (.row true 1 (f.blocks.map (rdC R))), (.row true 1 (f.blocks.map (stC R)))]) (F3 (rI f.blocks.length R B0) (rI f.blocks.length R B0) (rA f.blocks.length (aheadL f))))⟩) (fun k => k ≤ f.blocks.length) (fun k => f.blocks.length - k) 0 (Sub.mk' z44q (famSub (k0 := 10) rfl (by repeat (first | exact trivial | refine ⟨⟨by first | rfl | exact congrArg (fun w => some (AObj.row true 1 (bC _ w))) (funext fun b => (decide_eq_false (Nat.not_lt_zero b)).symm), by first | rfl | exact colF_avoid (fun _ _ => rG_avoid _ _ _ _) | exact colF_avoid (fun _ _ => ahR_avoid _ _ _)⟩, ?_⟩)) z42q (fun c h1 h2 => by rcases (by omega : c = 10 ∨ c = 11 ∨ c = 12 ∨ c = 13 ∨ c = 14 ∨ c = 15) with rfl | rfl | rfl | rfl | rfl | rfl <;> first | rfl | (try simp only [hputs]; repeat (first | rfl | refine hput_skip (by exact beq_false_of_ne (by omega)) ?_ | refine hrm_skip (by omega) ?_))))) (Nat.zero_le _) (fun g b hb => famFree (k0 := 10) rfl hb) ?_
  intro k hk
  refine AGo.seq ?_
  refine AGo.region ?_
  refine aq 114 (q_bin rfl rfl rfl rfl) ?_
  refine AOps.nil ?_
  refine AGo.seq ?_
  refine AGo.split 114 rfl (fun hb3 => ?_) (fun hb3 => ?_)
  ·
   refine AGo.cond_true true rfl rfl ?_
   have hkl : k < f.blocks.length := by have h := hb3; simp at h; exact h
   refine AGo.skip ?_
   refine AGo.seq ?_
   refine AGo.block ?_
   refine AGo.seq ?_
   refine AGo.region ?_
   refine am 115 ?_
   refine aa 11 ?_
   refine AOps.nil ?_
   refine AGo.region ?_
   refine am 116 ?_
   refine am 117 ?_
   refine AOps.call 118 (hn := putS _ (HS f R ((List.range (k + 1)).map natC) (k + 1) (fun b => decide (b < k + 1)) (F3 (rI f.blocks.length R B0) (rI f.blocks.length R B0) (rA f.blocks.length (aheadL f))))) (r := .tup []) rfl rfl rfl (o_callHS (es := (List.range k).map natC) (len := k) (w := fun b => decide (b < k)) rfl Try.func52 (by kernel_rfl) rfl rfl rfl z58q (fun x_ => fam_hi _ _ _) (F3_avoid (fun _ => rI_avoid _) (fun _ => rI_avoid _) (fun _ => rA_avoid _)) (F3_avoid (fun _ => rI_avoid _) (fun _ => rI_avoid _) (fun _ => rA_avoid _)) rfl (by have h := wait_ok f R ((List.range k).map natC) k (fun b => decide (b < k)) (F3 (rI f.blocks.length R B0) (rI f.blocks.length R B0) (rA f.blocks.length (aheadL f))) k hkl hn (by simp) (by simp; omega); rw [push_range, len_range, upd_range] at h; exact h)) ?_
   refine AOps.nil ?_
   refine AGo.region ?_
   refine aq 119 (q_inc rfl rfl hkl (by simp only [maxLen]; omega)) ?_
   refine am 113 ?_
   refine AOps.nil ?_
   exact ⟨k+1, DropK.mk' z51q (famDrop (k0 := 10) rfl z37q (fun x_ => (putS_hi _ _ x_).trans (fam_hi _ _ _)) (F3_avoid (fun _ => rI_avoid _) (fun _ => rI_avoid _) (fun _ => rA_avoid _))), hkl, by omega⟩
  ·
   refine AGo.cond_false false rfl rfl ?_
   have hge : f.blocks.length ≤ k := by have h := hb3; simp at h; omega
   refine AGo.exit ?_
   refine AGo.seq ?_
   refine AGo.region ?_
   refine am 120 ?_
   refine aa 2 ?_
   refine AOps.nil ?_
   refine AGo.ret ?_
   have hkn : k = f.blocks.length := by omega
   subst hkn
   exact ⟨[_], ⟨rfl, trivial⟩, rfl, hs_sub z58q (fun x_ => by dsimp only; exact fam_hi _ _ _)⟩

end Go.Proofs.Ytjmjmedjjbginaa.Sv

namespace Go.Proofs.Ytjmjmedjjbginaa.Sv
open Go

set_option maxHeartbeats 2000000 in
set_option maxRecDepth 100000 in
theorem live_ok (f : BFunc) (hs : f.sane) (hn0 : 0 < f.blocks.length) (hn : f.blocks.length ≤ 100000) (hr : f.regs ≤ 100000) (hi : ∀ x ∈ f.blocks, x.ins.length ≤ 100000) : APure Try.prog 30 [.agg f.cells] (fun r => r = .agg [rowsAV (inRows f), rowsAV (outRows f)]) := by
 have hr0 := hs.regs
 obtain ⟨R, hRf⟩ : ∃ R : Nat, f.regs = (R : Int) := ⟨f.regs.toNat, by omega⟩
 have hRt : R = f.regs.toNat := by omega
 have hR : R ≤ 100000 := by omega
 refine APure.of_body (n := 103) tok Try.func30 rfl rfl ?_
 refine AGo.seq ?_
 refine AGo.region ?_
 refine ax 1 (o_box (sz := 2) 0 rfl rfl rfl rfl (Nat.zero_lt_succ _) rfl) ?_
 refine ax 2 (o_alloc tok 1 rfl rfl rfl rfl (Nat.zero_lt_succ _) rfl) ?_
 refine AOps.nil ?_
 refine AGo.seq ?_
 refine AGo.region ?_
 refine al 10 tok ?_
 refine AOps.call 11 (hn := putS _ (HS f R ((List.range f.blocks.length).map natC) f.blocks.length (fun b => decide (b < f.blocks.length)) (F3 (rI f.blocks.length R B0) (rI f.blocks.length R B0) (rA f.blocks.length (aheadL f))))) (r := .ptr 2 1 0 0) rfl rfl rfl (o_callK (hc := hNew) (hw := putS hNone (HS f R ((List.range f.blocks.length).map natC) f.blocks.length (fun b => decide (b < f.blocks.length)) (F3 (rI f.blocks.length R B0) (rI f.blocks.length R B0) (rA f.blocks.length (aheadL f))))) kS rfl Try.func50 (by kernel_rfl) rfl rfl rfl (fun b hb => ⟨.free, by have := kS_true hb; (try simp only [hputs]); (repeat (first | refine hput_skip (by exact beq_false_of_ne (by omega)) ?_ | refine hrm_skip (by omega) ?_)); rfl, rfl⟩) (funext fun b => by unfold hresK; cases e : kS b with
   | false => rfl
   | true => (have := kS_true e; (try simp only [hputs]); show _ = some AObj.free; (repeat (first | refine hput_skip (by exact beq_false_of_ne (by omega)) ?_ | refine hrm_skip (by omega) ?_)); rfl)) (fun b hb => putS_no hb) (fun b hb => by obtain ⟨q, q1, q2⟩ := HS_avoid (f := f) (R := R) (es := (List.range f.blocks.length).map natC) (len := f.blocks.length) (w := fun b => decide (b < f.blocks.length)) (F := (F3 (rI f.blocks.length R B0) (rI f.blocks.length R B0) (rA f.blocks.length (aheadL f)))) (F3_avoid (fun _ => rI_avoid _) (fun _ => rI_avoid _) (fun _ => rA_avoid _)) hb; exact ⟨q, (putS_yes hb).trans q1, (putS_yes hb).trans q1, q2⟩) rfl (solverOf_ok f hs R hRf hR hn0 hn hi)) ?_
 refine aa 3 ?_
 refine AOps.nil ?_
 refine AGo.seq ?_
 refine AGo.block ?_
 refine AGo.loopK (γ := LQ) (kf 10) (fun q => ⟨103, (eput (eput (eput eNew 1 (.ptr 0 1 0 0)) 2 (.ptr 1 1 0 0)) 3 (.ptr 2 1 0 0)), (fam (nb [(.row false 2 [f.cells]), (.row false 2 [[.nil, .nil]]), (.row false 8 [SBc f (q.es).length (q.ws.length)]), (.row false 1 (colF (rG 0 (nw R)) f.blocks.length)), (.row false 1 (colF (rG 1 (nw R)) f.blocks.length)), (.row true 1 (bC f.blocks.length (q.w))), (.row true 1 (q.es)), (.row false 1 (colF (ahR (aheadL f)) f.blocks.length)), (.row true 1 (f.blocks.map (rdC R))), (.row true 1 (f.blocks.map (stC R)))]) (F3 (rI f.blocks.length R q.I) (rI f.blocks.length R q.O) (rA f.blocks.length (aheadL f))))⟩) (fun q => LQI f R q) (fun q => lmu f R q) (lq0 f.blocks.length) (Sub.mk' z53q (famSub (k0 := 10) rfl (by repeat (first | exact trivial | refine ⟨⟨by first | rfl | exact putS_yes rfl | (show some (AObj.row false 8 [SBc f ((List.range f.blocks.length).map natC).length f.blocks.length]) = some (AObj.row false 8 [SBc f ((List.range f.blocks.length).map natC).length (List.range f.blocks.length).length]); rw [List.length_range]), by first | rfl | exact colF_avoid (fun _ _ => rG_avoid _ _ _ _) | exact colF_avoid (fun _ _ => ahR_avoid _ _ _)⟩, ?_⟩)) (fun x_ => (putS_hi _ _ x_).trans (fam_hi _ _ _)) (fun c h1 h2 => by rcases (by omega : c = 10 ∨ c = 11 ∨ c = 12 ∨ c = 13 ∨ c = 14 ∨ c = 15) with rfl | rfl | rfl | rfl | rfl | rfl <;> first | rfl | (try simp only [hputs]; repeat (first | rfl | refine hput_skip (by exact beq_false_of_ne (by omega)) ?_ | refine hrm_skip (by omega) ?_))))) (LQI.first f R) (fun g b hb => famFree (k0 := 10) rfl hb) ?_
 intro q hQ
 obtain ⟨I, O, w, ws, es⟩ := q
 dsimp only at hQ ⊢
 refine AGo.seq ?_
 refine AGo.seq ?_
 refine AGo.region ?_
 refine am 12 ?_
 refine aq 13 (q_nilCheck rfl rfl rfl) ?_
 refine af 14 tok ?_
 refine al 15 tok ?_
 refine aq 16 (q_len tok rfl rfl rfl rfl rfl) ?_
 refine aq 17 (q_bin rfl rfl rfl rfl) ?_
 refine AOps.nil ?_
 refine AGo.split 17 rfl (fun hb1 => ?_) (fun hb1 => ?_)
 ·
  refine AGo.cond_true true rfl rfl ?_
  obtain ⟨ws', b, hws⟩ : ∃ ws' b, ws = ws' ++ [b] := by
    rcases snoc_cases ws with h | h
    · have h2 := hb1; rw [h] at h2; simp at h2
    · exact h
  subst hws
  have hpop := hQ.wt.pop
  have hb := hpop.2.1
  obtain ⟨x, hx⟩ := get_of_lt hb
  have hxm := List.mem_of_getElem? hx
  have hle := hQ.wt.le
  have hgr := hQ.k.grow hs hx hRt
  refine AGo.skip ?_
  refine AGo.block ?_
  refine AGo.seq ?_
  refine AGo.region ?_
  refine am 18 ?_
  refine aq 19 (q_nilCheck rfl rfl rfl) ?_
  refine af 20 tok ?_
  refine al 21 tok ?_
  refine aq 22 (q_len tok rfl rfl rfl rfl rfl) ?_
  refine aq 23 (q_bin (r := .int .i64 (ws'.length : Int)) rfl rfl rfl (pop_len (by have := hQ.wt.le; simp at this; omega))) ?_
  refine aa 4 ?_
  refine AOps.nil ?_
  refine AGo.seq ?_
  refine AGo.region ?_
  refine am 24 ?_
  refine aq 25 (q_nilCheck rfl rfl rfl) ?_
  refine af 26 tok ?_
  refine al 27 tok ?_
  refine am 28 ?_
  refine aq 29 (q_index_ref tok rfl rfl rfl rfl rfl rfl rfl rfl rfl (Int.natCast_nonneg _) (by simp; omega)) ?_
  refine aq 30 (q_load tok rfl rfl rfl (.ptr _ _ _ _ _ _ _ (natC b) rfl rfl (by rw [Nat.zero_add, Int.toNat_natCast]; exact hQ.st.get)) rfl) ?_
  refine aa 5 ?_
  refine AOps.nil ?_
  refine AGo.seq ?_
  refine AGo.region ?_
  refine am 31 ?_
  refine am 32 ?_
  refine aq 33 (q_nilCheck rfl rfl rfl) ?_
  refine af 34 tok ?_
  refine al 35 tok ?_
  refine am 36 ?_
  refine aq 37 (q_slice_ref tok (es := es) (m := ws'.length) rfl rfl rfl rfl rfl rfl rfl rfl rfl (by simp)) ?_
  refine aq 38 (q_nilCheck rfl rfl rfl) ?_
  refine af 39 tok ?_
  refine AOps.w rfl rfl (o_store tok rfl rfl rfl rfl rfl rfl rfl rfl rfl (by decide) rfl z61q) ?_
  refine AOps.nil ?_
  refine AGo.seq ?_
  refine AGo.region ?_
  refine am 40 ?_
  refine aq 41 (q_nilCheck rfl rfl rfl) ?_
  refine af 42 tok ?_
  refine al 43 tok ?_
  refine am 44 ?_
  refine aq 45 (q_index_ref tok rfl rfl rfl rfl rfl rfl rfl (colF_len _ _).symm rfl (Int.natCast_nonneg _) (by omega)) ?_
  refine AOps.w rfl rfl (o_store tok rfl rfl rfl rfl rfl rfl (colF_len _ _).symm z55q rfl (by decide) rfl z61q) ?_
  refine AOps.nil ?_
  refine AGo.seq ?_
  refine AGo.region ?_
  refine am 46 ?_
  refine am 47 ?_
  refine AOps.call 48 (hn := putS _ (HS f R es ws'.length (updB w b false) (F3 (rI f.blocks.length R (setRow I b (inN x (outN I (O b) x)))) (rI f.blocks.length R (setRow O b (outN I (O b) x))) (rA f.blocks.length (aheadL f))))) (r := .bool (chg (inN x (outN I (O b) x)) (I b) (nw R))) rfl rfl rfl (o_callHS (es := es) (len := ws'.length) (w := updB w b false) rfl Try.func51 (by kernel_rfl) rfl rfl rfl (by repeat (first | exact trivial | refine ⟨by first | rfl | exact congrArg (fun es => some (AObj.row true 1 es)) (bC_set' false), ?_⟩)) z23q (F3_avoid (fun _ => rI_avoid _) (fun _ => rI_avoid _) (fun _ => rA_avoid _)) (F3_avoid (fun _ => rI_avoid _) (fun _ => rI_avoid _) (fun _ => rA_avoid _)) rfl (grow_ok f hs R hR es ws'.length (updB w b false) I O (rA f.blocks.length (aheadL f)) (fun _ => rA_avoid _) b x hx hn)) ?_
  refine AOps.nil ?_
  refine AGo.split 48 rfl (fun hb2 => ?_) (fun hb2 => ?_)
  ·
   refine AGo.cond_true true rfl rfl ?_
   have hch : chg (inN x (outN I (O b) x)) (I b) (nw R) = true := hb2
   refine AGo.seq ?_
   refine AGo.region ?_
   refine am 49 ?_
   refine aq 50 (q_nilCheck rfl rfl rfl) ?_
   refine af 51 tok ?_
   refine al 52 tok ?_
   refine am 53 ?_
   refine aq 54 (q_index_ref tok rfl rfl rfl rfl rfl rfl rfl (colF_len _ _).symm rfl (Int.natCast_nonneg _) (by omega)) ?_
   refine aq 55 (q_load tok rfl rfl rfl (.ptr _ _ _ _ _ _ _ [ahR (aheadL f) b] rfl (colF_len _ _).symm z55q) rfl) ?_
   refine aq 56 (q_lenJ tok rfl rfl rfl rfl) ?_
   refine am 57 ?_
   refine AOps.nil ?_
   refine AGo.block ?_
   refine AGo.loopK (γ := LP) (kf 10) (fun p => ⟨103, (eput (eput (eput (eput (eput (eput (eput eNew 1 (.ptr 0 1 0 0)) 2 (.ptr 1 1 0 0)) 3 (.ptr 2 1 0 0)) 5 (.int .i64 (b : Int))) 55 (ahR (aheadL f) b)) 56 (.int .i64 ((aheadL f b).length : Int))) 57 (.int .i64 (p.j : Int))), (fam (nb [(.row false 2 [f.cells]), (.row false 2 [[.nil, .nil]]), (.row false 8 [SBc f (p.es).length (p.ws.length)]), (.row false 1 (colF (rG 0 (nw R)) f.blocks.length)), (.row false 1 (colF (rG 1 (nw R)) f.blocks.length)), (.row true 1 (bC f.blocks.length (p.w))), (.row true 1 (p.es)), (.row false 1 (colF (ahR (aheadL f)) f.blocks.length)), (.row true 1 (f.blocks.map (rdC R))), (.row true 1 (f.blocks.map (stC R)))]) (F3 (rI f.blocks.length R (setRow I b (inN x (outN I (O b) x)))) (rI f.blocks.length R (setRow O b (outN I (O b) x))) (rA f.blocks.length (aheadL f))))⟩) (fun p => LPI f R (setRow I b (inN x (outN I (O b) x))) (setRow O b (outN I (O b) x)) b p) (fun p => (aheadL f b).length - p.j) ⟨updB w b false, ws', es, 0⟩ (Sub.mk' (by repeat (first | exact ESub.new _ | refine ESub.put ?_ (by first | rfl | exact congrArg (fun m : Nat => some (AV.int .i64 (m : Int))) (by simp)))) (famSub (k0 := 10) rfl z37q (fun x_ => (putS_hi _ _ x_).trans (fam_hi _ _ _)) (fun c h1 h2 => by rcases (by omega : c = 10 ∨ c = 11 ∨ c = 12 ∨ c = 13 ∨ c = 14 ∨ c = 15) with rfl | rfl | rfl | rfl | rfl | rfl <;> first | rfl | (try simp only [hputs]; repeat (first | rfl | refine hput_skip (by exact beq_false_of_ne (by omega)) ?_ | refine hrm_skip (by omega) ?_))))) ⟨by have h := hgr.1; rw [hch] at h; exact h, hpop.1, hQ.st.pop⟩ (fun g b hb => famFree (k0 := 10) rfl hb) ?_
   intro p hP
   refine AGo.seq ?_
   refine AGo.region ?_
   refine aq 58 (q_bin rfl rfl rfl rfl) ?_
   refine AOps.nil ?_
   refine AGo.seq ?_
   refine AGo.split 58 rfl (fun hb3 => ?_) (fun hb3 => ?_)
   ·
    refine AGo.cond_true true rfl rfl ?_
    have hjl : p.j < (aheadL f b).length := by have h := hb3; simp at h; exact h
    obtain ⟨a, ha⟩ := get_of_lt hjl
    have ha2 := aheadL_lt (List.mem_of_getElem? ha)
    refine AGo.skip ?_
    refine AGo.seq ?_
    refine AGo.block ?_
    refine AGo.seq ?_
    refine AGo.region ?_
    refine aq 59 (q_indexJ tok (b := 3 * b + 2 + 16) (es := (aheadL f b).map natC) rfl rfl rfl rfl rfl rfl ((fam_hi _ _ _).trans (congrArg some (rA_2 hb))) rfl (Int.natCast_nonneg _) (by rw [List.length_map]; omega)) ?_
    refine aq 60 (q_load tok rfl rfl rfl (.ptr _ _ _ _ true 1 ((aheadL f b).map natC) (natC a) ((fam_hi _ _ _).trans (congrArg some ((rA_2 hb).trans (slO_at (k := p.j) (by rw [List.length_map]; omega))))) rfl (by rw [Int.toNat_natCast, List.getElem?_map, ha]; rfl)) rfl) ?_
    refine aa 7 ?_
    refine AOps.nil ?_
    refine AGo.region ?_
    refine am 61 ?_
    refine am 62 ?_
    refine AOps.call 63 (hn := putS _ (HS f R (waitEs p.w p.es p.ws.length a) (waitL p.w p.ws a).length (waitW p.w a) (F3 (rI f.blocks.length R (setRow I b (inN x (outN I (O b) x)))) (rI f.blocks.length R (setRow O b (outN I (O b) x))) (rA f.blocks.length (aheadL f))))) (r := .tup []) rfl rfl rfl (o_callHS (es := p.es) (len := p.ws.length) (w := p.w) rfl Try.func52 (by kernel_rfl) rfl rfl rfl z58q z23q (F3_avoid (fun _ => rI_avoid _) (fun _ => rI_avoid _) (fun _ => rA_avoid _)) (F3_avoid (fun _ => rI_avoid _) (fun _ => rI_avoid _) (fun _ => rA_avoid _)) rfl (by have h := wait_ok f R p.es p.ws.length p.w (F3 (rI f.blocks.length R (setRow I b (inN x (outN I (O b) x)))) (rI f.blocks.length R (setRow O b (outN I (O b) x))) (rA f.blocks.length (aheadL f))) a ha2 hn hP.st.le hP.st.max; rw [waitLen_eq] at h; exact h)) ?_
    refine AOps.nil ?_
    refine AGo.region ?_
    refine aq 64 (q_inc rfl rfl hjl (by have := aheadL_len f b; simp only [maxLen]; omega)) ?_
    refine am 57 ?_
    refine AOps.nil ?_
    exact ⟨⟨waitW p.w a, waitL p.w p.ws a, waitEs p.w p.es p.ws.length a, p.j + 1⟩, DropK.mk' (by repeat (first | exact EDropK.new _ _ | refine EDropK.put ?_ (by first | rfl) (by first | rfl | exact ahR_avoid _ _ _))) (famDrop (k0 := 10) rfl z37q (fun x_ => (putS_hi _ _ x_).trans (fam_hi _ _ _)) (F3_avoid (fun _ => rI_avoid _) (fun _ => rI_avoid _) (fun _ => rA_avoid _))), (hP.next ha), (by show (aheadL f b).length - (p.j + 1) < (aheadL f b).length - p.j; omega)⟩
   ·
    refine AGo.cond_false false rfl rfl ?_
    have hjge : (aheadL f b).length ≤ p.j := by have h := hb3; simp at h; omega
    refine AGo.exit ?_
    exact ⟨⟨(setRow I b (inN x (outN I (O b) x))), (setRow O b (outN I (O b) x)), p.w, p.ws, p.es⟩, DropK.mk' z51q (famDrop (k0 := 10) rfl z37q z23q (F3_avoid (fun _ => rI_avoid _) (fun _ => rI_avoid _) (fun _ => rA_avoid _))), (hP.done hjge), (mu_more (hgr.2.1 hch) hP.wt.le)⟩
  ·
   refine AGo.cond_false false rfl rfl ?_
   have hch : chg (inN x (outN I (O b) x)) (I b) (nw R) = false := hb2
   refine AGo.skip ?_
   exact ⟨⟨(setRow I b (inN x (outN I (O b) x))), (setRow O b (outN I (O b) x)), updB w b false, ws', es⟩, DropK.mk' z51q (famDrop (k0 := 10) rfl z37q z23q (F3_avoid (fun _ => rI_avoid _) (fun _ => rI_avoid _) (fun _ => rA_avoid _))), ⟨by have h := hgr.1; rw [hch] at h; exact h, hpop.1, hQ.st.pop⟩, (mu_less hgr.2.2 (by simp))⟩
 ·
  refine AGo.cond_false false rfl rfl ?_
  have hws : ws = [] := by
    rcases snoc_cases ws with h | ⟨L, b, h⟩
    · exact h
    · have h2 := hb1; rw [h] at h2; simp at h2
  subst hws
  have hK := hQ.k
  have hW := hQ.wt
  refine AGo.exit ?_
  refine AGo.seq ?_
  refine AGo.region ?_
  refine ax 8 (o_alloc tok 10 rfl rfl rfl rfl (Nat.zero_lt_succ _) rfl) ?_
  refine AOps.nil ?_
  refine AGo.seq ?_
  refine AGo.seq ?_
  refine AGo.ghost (Ghost.weakRowF 10 (es' := [[slA 11 [], slA 12 []]]) rfl rfl (weak_one ⟨Wk.nil _, Wk.nil _, trivial⟩)) ?_
  refine AGo.region ?_
  refine af 65 tok ?_
  refine al 66 tok ?_
  refine aq 67 (q_len tok rfl rfl rfl rfl rfl) ?_
  refine am 68 ?_
  refine AOps.nil ?_
  refine AGo.block ?_
  refine AGo.loopK (γ := Nat) (kf 13) (fun k => ⟨103, (eput (eput (eput (eput (eput (eput eNew 1 (.ptr 0 1 0 0)) 2 (.ptr 1 1 0 0)) 3 (.ptr 2 1 0 0)) 8 (.ptr 10 1 0 0)) 67 (.int .i64 (f.blocks.length : Int))) 68 (.int .i64 (k : Int))), (fam (nb [(.row false 2 [f.cells]), (.row false 2 [[.nil, .nil]]), (.row false 8 [SBc f (es).length (0)]), (.row false 1 (colF (rG 0 (nw R)) f.blocks.length)), (.row false 1 (colF (rG 1 (nw R)) f.blocks.length)), (.row true 1 (bC f.blocks.length (w))), (.row true 1 (es)), (.row false 1 (colF (ahR (aheadL f)) f.blocks.length)), (.row true 1 (f.blocks.map (rdC R))), (.row true 1 (f.blocks.map (stC R))), (.row false 2 [[slA 11 (((inRows f).take k).map rowCell), slA 12 (((outRows f).take k).map rowCell)]]), (slO 1 (((inRows f).take k).map rowCell)), (slO 1 (((outRows f).take k).map rowCell))]) (F3 (rI f.blocks.length R I) (rI f.blocks.length R O) (rA f.blocks.length (aheadL f))))⟩) (fun k => k ≤ f.blocks.length) (fun k => f.blocks.length - k) 0 (Sub.mk' z44q (famSub (k0 := 13) rfl (by repeat (first | exact trivial | refine ⟨⟨by rfl, by first | rfl | exact rows2_avoid (by decide) | exact slO_avoid _ _ | exact colF_avoid (fun _ _ => rG_avoid _ _ _ _) | exact colF_avoid (fun _ _ => ahR_avoid _ _ _)⟩, ?_⟩)) z42q (fun c h1 h2 => by rcases (by omega : c = 13 ∨ c = 14 ∨ c = 15) with rfl | rfl | rfl <;> first | rfl | (try simp only [hputs]; repeat (first | rfl | refine hput_skip (by exact beq_false_of_ne (by omega)) ?_ | refine hrm_skip (by omega) ?_))))) (Nat.zero_le _) (fun g b hb => famFree (k0 := 13) rfl hb) ?_
  intro k hk
  refine AGo.seq ?_
  refine AGo.region ?_
  refine aq 69 (q_bin rfl rfl rfl rfl) ?_
  refine AOps.nil ?_
  refine AGo.seq ?_
  refine AGo.split 69 rfl (fun hb4 => ?_) (fun hb4 => ?_)
  ·
   refine AGo.cond_true true rfl rfl ?_
   have hkl : k < f.blocks.length := by have h := hb4; simp at h; exact h
   obtain ⟨x, hx⟩ := get_of_lt hkl
   have hxm := List.mem_of_getElem? hx
   refine AGo.skip ?_
   refine AGo.seq ?_
   refine AGo.block ?_
   refine AGo.seq ?_
   refine AGo.region ?_
   refine am 70 ?_
   refine aa 9 ?_
   refine AOps.nil ?_
   refine AGo.seq ?_
   refine AGo.draw mix ?_
   refine df 71 tok ?_
   refine dl 72 tok ?_
   refine dm 73 ?_
   refine dq 74 (q_nilCheck rfl rfl rfl) ?_
   refine df 75 tok ?_
   refine dl 76 tok ?_
   refine dm 77 ?_
   refine dq 78 (q_index_ref tok rfl rfl rfl rfl rfl rfl rfl (colF_len _ _).symm rfl (Int.natCast_nonneg _) (by omega)) ?_
   refine dq 79 (q_load tok rfl rfl rfl (.ptr _ _ _ _ _ _ _ [rG 0 (nw R) k] rfl (colF_len _ _).symm (by rw [Nat.zero_add, Int.toNat_natCast]; exact colF_get hkl)) rfl) ?_
   refine df 80 tok ?_
   refine dl 81 tok ?_
   refine dx 82 (o_callSee (q := AObj.row true 1 (rowW R (I k))) (r := boolsAV (inRow f k)) (3 * k + 0 + 16) rfl Try.func53 (by kernel_rfl) rfl rfl (by simp only [List.all_cons, List.all_nil, Bool.and_true]; exact and_both (by show mem _ _ = true; exact mem_one _) rfl) (by (try simp only [hputs]); (repeat (first | refine hput_skip (by exact beq_false_of_ne (by omega)) ?_ | refine hrm_skip (by omega) ?_)); exact (fam_hi _ _ _).trans (congrArg some (rI_0 hkl))) rfl rfl (by have h := rspread_ok (3 * k + 0) R (I k) hR; rw [hK.inRow hs hRt hW hkl] at h; rw [hRf]; exact h)) ?_
   refine dx 83 (o_lit' tok rfl rfl rfl rfl rfl rfl (by decide) rfl rfl rfl rfl rfl rfl) ?_
   refine dx 84 (o_append1J tok (b := 11) (es := ((inRows f).take k).map rowCell) rfl rfl rfl rfl rfl rfl rfl rfl z28q rfl rfl (Nat.zero_lt_succ _) (one_len fun _ => rfl) (one_pure fun _ => rfl) rfl rfl (by rw [List.length_map, List.length_take]; show (_ + 1) * 24 ≤ _; omega) (by rw [List.length_map, List.length_take]; simp only [maxLen]; omega)) ?_
   refine df 85 tok ?_
   refine DOps.w rfl rfl (o_store1 tok rfl rfl rfl rfl rfl rfl rfl rfl rfl (slA_cells _ _) (by decide) (slA_cell1 _ _) (by intro h; cases h)) ?_
   refine DOps.nilC cls3 [([],[]), ([10],[]), ([],[]), ([],[]), ([],[]), ([2],[]), ([],[]), ([3],[]), ([3],[]), ([],[]), ([0],[]), ([16],[]), ([],[]), ([11],[11]), ([],[]), ([10],[10])] z1q (by kernel_rfl) ?_
   refine AGo.draw mix ?_
   refine df 86 tok ?_
   refine dl 87 tok ?_
   refine dm 88 ?_
   refine dq 89 (q_nilCheck rfl rfl rfl) ?_
   refine df 90 tok ?_
   refine dl 91 tok ?_
   refine dm 92 ?_
   refine dq 93 (q_index_ref tok rfl rfl rfl rfl rfl rfl rfl (colF_len _ _).symm rfl (Int.natCast_nonneg _) (by omega)) ?_
   refine dq 94 (q_load tok rfl rfl rfl (.ptr _ _ _ _ _ _ _ [rG 1 (nw R) k] rfl (colF_len _ _).symm (by rw [Nat.zero_add, Int.toNat_natCast]; exact colF_get hkl)) rfl) ?_
   refine df 95 tok ?_
   refine dl 96 tok ?_
   refine dx 97 (o_callSee (q := AObj.row true 1 (rowW R (O k))) (r := boolsAV (outRow f x)) (3 * k + 1 + 16) rfl Try.func53 (by kernel_rfl) rfl rfl (by simp only [List.all_cons, List.all_nil, Bool.and_true]; exact and_both (by show mem _ _ = true; exact mem_one _) rfl) (by (try simp only [hputs]); (repeat (first | refine hput_skip (by exact beq_false_of_ne (by omega)) ?_ | refine hrm_skip (by omega) ?_)); exact (fam_hi _ _ _).trans (congrArg some (rI_1 hkl))) rfl rfl (by have h := rspread_ok (3 * k + 1) R (O k) hR; rw [hK.outRow hs hRt hW hx] at h; rw [hRf]; exact h)) ?_
   refine dx 98 (o_lit' tok rfl rfl rfl rfl rfl rfl (by decide) rfl rfl rfl rfl rfl rfl) ?_
   refine dx 99 (o_append1J tok (b := 12) (es := ((outRows f).take k).map rowCell) rfl rfl rfl rfl rfl rfl rfl rfl z28q rfl rfl (Nat.zero_lt_succ _) (one_len fun _ => rfl) (one_pure fun _ => rfl) rfl rfl (by rw [List.length_map, List.length_take]; show (_ + 1) * 24 ≤ _; omega) (by rw [List.length_map, List.length_take]; simp only [maxLen]; omega)) ?_
   refine df 100 tok ?_
   refine DOps.w rfl rfl (o_store1 tok rfl rfl rfl rfl rfl rfl rfl rfl rfl (slA_cells _ _) (by decide) (slA_cell1 _ _) (by intro h; cases h)) ?_
   refine DOps.nilC cls3 [([],[]), ([10],[]), ([],[]), ([],[]), ([],[]), ([2],[]), ([],[]), ([4],[]), ([4],[]), ([],[]), ([0],[]), ([17],[]), ([],[]), ([12],[12]), ([],[]), ([10],[10])] z1q (by kernel_rfl) ?_
   refine AGo.region ?_
   refine aq 101 (q_inc rfl rfl hkl (by simp only [maxLen]; omega)) ?_
   refine am 68 ?_
   refine AOps.nil ?_
   exact ⟨k+1, DropK.mk' z51q (famDrop (k0 := 13) rfl (by repeat (first | exact trivial | refine ⟨⟨by first | rfl | exact congrArg (fun es => some (slO 1 es)) (row_take_succ (inRows_get hkl)) | exact congrArg (fun es => some (slO 1 es)) (row_take_succ (outRows_get hx)) | (rw [← row_take_succ (inRows_get hkl), ← row_take_succ (outRows_get hx)]; rfl), by first | rfl | exact rows2_avoid (by decide) | exact slO_avoid _ _ | exact colF_avoid (fun _ _ => rG_avoid _ _ _ _) | exact colF_avoid (fun _ _ => ahR_avoid _ _ _)⟩, ?_⟩)) z42q (F3_avoid (fun _ => rI_avoid _) (fun _ => rI_avoid _) (fun _ => rA_avoid _))), hkl, by omega⟩
  ·
   refine AGo.cond_false false rfl rfl ?_
   have hge : f.blocks.length ≤ k := by have h := hb4; simp at h; omega
   refine AGo.exit ?_
   refine AGo.seq ?_
   have hkn : k = f.blocks.length := by omega
   subst hkn
   refine AGo.ghost (.endCell 10 0 11 rfl rfl rfl (by decide)) ?_
   refine AGo.ghost (.endCell 10 1 12 rfl rfl rfl (by decide)) ?_
   refine AGo.region ?_
   refine al 102 tok ?_
   refine AOps.w rfl rfl (o_store tok rfl rfl rfl rfl rfl rfl rfl rfl rfl (by decide) rfl z61q) ?_
   refine AOps.nil ?_
   refine AGo.ret ?_
   refine ⟨[_], ⟨⟨_, _, _, _, rfl, rfl, .ptr _ _ _ _ _ _ _ _ rfl rfl rfl, rfl⟩, trivial⟩, ?_, rfl⟩
   show AV.agg [AV.lst false _, AV.lst false _] = AV.agg [AV.lst false _, AV.lst false _]
   rw [List.take_of_length_le (by simp [inRows]), List.take_of_length_le (by simp [outRows])]
   rfl

end Go.Proofs.Ytjmjmedjjbginaa.Sv

namespace Go.Proofs.Ytjmjmedjjbginaa.Sv
open Go

set_option maxRecDepth 100000 in
theorem dpush_ok (f : BFunc) (R : Nat) (S : SS) (G : GG) (es : List (List AV)) (len : Nat) (w : Nat → Bool) (b : Nat) (hb : b < R) (hR : R ≤ 100000) (hl : len ≤ es.length) (he : es.length ≤ R) : ACall Try.prog 46 [.ptr 2 1 0 0, .int .i64 (b : Int)] (DH (DSL f R S (es) (len) (w)) (DF f R S G)) (fun r h' => r = .tup [] ∧ HSub (putD hNone (DH (DSL f R S (waitEs w es len b) (waitLen w len b) (updB w b true)) (DF f R S G))) h') := by
 refine ACall.of_body (n := 28) tok Try.func46 rfl rfl ?_
 refine AGo.seq ?_
 refine AGo.region ?_
 refine am 4 ?_
 refine aq 5 (q_nilCheck rfl rfl rfl) ?_
 refine af 6 tok ?_
 refine al 7 tok ?_
 refine am 8 ?_
 refine aq 9 (q_index_ref tok rfl rfl rfl rfl rfl rfl rfl (colF_len _ _).symm rfl (Int.natCast_nonneg _) (by omega)) ?_
 refine aq 10 (q_load tok rfl rfl rfl (.ptr _ _ _ _ _ _ _ [.bool (w b)] rfl (colF_len _ _).symm z55q) rfl) ?_
 refine aq 11 (q_not rfl rfl) ?_
 refine AOps.nil ?_
 refine AGo.split 11 rfl (fun hb1 => ?_) (fun hb1 => ?_)
 ·
  refine AGo.cond_true true rfl rfl ?_
  have hwb : w b = false := by have h := hb1; simpa using h
  refine AGo.seq ?_
  refine AGo.region ?_
  refine am 12 ?_
  refine aq 13 (q_nilCheck rfl rfl rfl) ?_
  refine af 14 tok ?_
  refine al 15 tok ?_
  refine am 16 ?_
  refine aq 17 (q_index_ref tok rfl rfl rfl rfl rfl rfl rfl (colF_len _ _).symm rfl (Int.natCast_nonneg _) (by omega)) ?_
  refine AOps.w rfl rfl (o_store tok rfl rfl rfl rfl rfl rfl (colF_len _ _).symm z55q rfl (by decide) rfl z61q) ?_
  refine AOps.nil ?_
  refine AGo.region ?_
  refine am 18 ?_
  refine am 19 ?_
  refine aq 20 (q_nilCheck rfl rfl rfl) ?_
  refine af 21 tok ?_
  refine al 22 tok ?_
  refine am 23 ?_
  refine ax 24 (o_lit' tok rfl rfl rfl rfl rfl rfl (by decide) rfl rfl rfl rfl rfl rfl) ?_
  refine ax 25 (o_push tok (es := es) rfl rfl rfl rfl rfl rfl rfl rfl rfl rfl hl rfl rfl (Nat.zero_lt_succ _) (.lst _ _) rfl (fun _ => rfl) (by show _ * 8 ≤ _; omega) (by simp only [maxLen]; omega)) ?_
  refine aq 26 (q_nilCheck rfl rfl rfl) ?_
  refine af 27 tok ?_
  refine AOps.w rfl rfl (o_store tok rfl rfl rfl rfl rfl rfl rfl rfl rfl (by decide) rfl z61q) ?_
  refine AOps.nil ?_
  have e1 : waitEs w es len b = pushE es len (natC b) := by unfold waitEs; rw [hwb]; rfl
  have e2 : waitLen w len b = len + 1 := by unfold waitLen; rw [hwb]; rfl
  rw [e1, e2]
  exact ⟨[], trivial, rfl, (dh_sub rfl (by repeat (first | exact trivial | refine ⟨by first | rfl | exact congrArg (fun es => some (AObj.row true 1 es)) (bC_set' true), ?_⟩)) z24q)⟩
 ·
  refine AGo.cond_false false rfl rfl ?_
  have hwb : w b = true := by have h := hb1; simpa using h
  refine AGo.skip ?_
  have e1 : waitEs w es len b = es := by unfold waitEs; rw [hwb]; rfl
  have e2 : waitLen w len b = len := by unfold waitLen; rw [hwb]; rfl
  rw [e1, e2, updB_self hwb]
  exact ⟨[], trivial, rfl, (dh_sub rfl z58q z24q)⟩

end Go.Proofs.Ytjmjmedjjbginaa.Sv

namespace Go.Proofs.Ytjmjmedjjbginaa.Sv
open Go

set_option maxRecDepth 100000 in
theorem dleft_ok (f : BFunc) (R : Nat) (S : SS) (G : GG) (es : List (List AV)) (len : Nat) (w : Nat → Bool) (b : Nat) (x : Block) (hx : f.blocks[b]? = some x) (s : Site) (hat : s.at_ ≤ x.ins.length) : ACall Try.prog 48 [.ptr 2 1 0 0, .int .i64 (b : Int), .agg (siC s)] (DH (DSL f R S (es) (len) (w)) (DF f R S G)) (fun r h' => r = .bool (leftS (G b) x.ins.length s) ∧ HSub (putD hNone (DH (DSL f R S (es) (len) (w)) (DF f R S G))) h') := by
 have hb : b < f.blocks.length := (List.getElem?_eq_some_iff.1 hx).1
 refine ACall.of_body (n := 34) tok Try.func48 rfl rfl ?_
 refine AGo.seq ?_
 refine AGo.region ?_
 refine ax 5 (o_box (sz := 3) 8 rfl rfl rfl rfl (Nat.zero_lt_succ _) rfl) ?_
 refine aa 6 ?_
 refine AOps.nil ?_
 refine AGo.seq ?_
 refine AGo.draw mix ?_
 refine df 7 tok ?_
 refine dl 8 tok ?_
 refine dm 9 ?_
 refine dq 10 (q_nilCheck rfl rfl rfl) ?_
 refine df 11 tok ?_
 refine df 12 tok ?_
 refine dl 13 tok ?_
 refine dm 14 ?_
 refine dq 15 (q_index_lst tok rfl rfl rfl rfl rfl rfl (Int.natCast_nonneg _) (idx_map hx) rfl) ?_
 refine df 16 tok ?_
 refine dl 17 tok ?_
 refine dq 18 (q_len tok rfl rfl rfl rfl rfl) ?_
 refine dq 19 (q_bin rfl rfl rfl rfl) ?_
 refine dm 20 ?_
 refine DOps.split 20 rfl (fun hb1 => ?_) (fun hb1 => ?_)
 ·
  refine dk 21 ?_
  refine dk 22 ?_
  refine dk 23 ?_
  refine dk 24 ?_
  refine dk 25 ?_
  refine dk 26 ?_
  refine dk 27 ?_
  refine dk 28 ?_
  refine dk 29 ?_
  refine dk 30 ?_
  refine dk 31 ?_
  refine dk 32 ?_
  refine dq 33 (q_pick_true true rfl rfl rfl rfl) ?_
  refine da 6 ?_
  refine DOps.nil (by kernel_rfl) ?_
  refine AGo.ret ?_
  refine ⟨[_], ⟨rfl, trivial⟩, ?_, (dh_sub rfl z16q z24q)⟩
  show AV.bool _ = AV.bool _
  congr 1
  unfold leftS
  first | exact left_no hne | exact left_yes (by have h := hb1; simp at h; omega)
 ·
  have hc0 := hb1
  have hne : ¬ s.at_ = x.ins.length := by have h := hc0; simp at h; omega
  refine dm 21 ?_
  refine dq 22 (q_nilCheck rfl rfl rfl) ?_
  refine df 23 tok ?_
  refine dl 24 tok ?_
  refine dm 25 ?_
  refine dq 26 (q_index_ref tok rfl rfl rfl rfl rfl rfl rfl (colF_len _ _).symm rfl (Int.natCast_nonneg _) (by omega)) ?_
  refine dq 27 (q_load tok rfl rfl rfl (.ptr _ _ _ _ _ _ _ [gR f b] rfl (colF_len _ _).symm z55q) rfl) ?_
  refine df 28 tok ?_
  refine dl 29 tok ?_
  refine dq 30 (q_index_ref tok rfl rfl rfl rfl rfl rfl z38q (by rw [colF_len, insLen_eq hx]) rfl (Int.natCast_nonneg _) (by rw [insLen_eq hx]; omega)) ?_
  refine dq 31 (q_load tok rfl rfl rfl (.ptr _ _ _ _ true 1 (bC x.ins.length (G b)) [.bool (G b s.at_)] z38q (by rw [colF_len, insLen_eq hx]) (by rw [Nat.zero_add, Int.toNat_natCast]; exact colF_get (by omega))) rfl) ?_
  refine dq 32 (q_not rfl rfl) ?_
  refine dq 33 (q_pick_false false rfl rfl rfl rfl) ?_
  refine da 6 ?_
  refine DOps.nil (by kernel_rfl) ?_
  refine AGo.ret ?_
  refine ⟨[_], ⟨rfl, trivial⟩, ?_, (dh_sub rfl z16q z24q)⟩
  show AV.bool _ = AV.bool _
  congr 1
  unfold leftS
  first | exact left_no hne | exact left_yes (by have h := hb1; simp at h; omega)

end Go.Proofs.Ytjmjmedjjbginaa.Sv

namespace Go.Proofs.Ytjmjmedjjbginaa.Sv
open Go

set_option maxHeartbeats 1000000 in
set_option maxRecDepth 100000 in
theorem dleave_ok (f : BFunc) (R : Nat) (S : SS) (G : GG) (es : List (List AV)) (ws : List Nat) (w : Nat → Bool) (b p : Nat) (x : Block) (hx : f.blocks[b]? = some x) (hp : p < x.ins.length) (t : Tac) (ht : ∀ u ∈ t.uses, 0 ≤ u ∧ u < R) (hR : R ≤ 100000) (hq : QI R ⟨G, w, ws, es⟩) : ACall Try.prog 49 [.ptr 2 1 0 0, .int .i64 (b : Int), .int .i64 (p : Int), .agg t.cells] (DH (DSL f R S (es) (ws.length) (w)) (DF f R S G)) (fun r h' => r = .tup [] ∧ HSub (putD hNone (DH (DSL f R S (leaveR b p t.uses ⟨G, w, ws, es⟩).es (leaveR b p t.uses ⟨G, w, ws, es⟩).ws.length (leaveR b p t.uses ⟨G, w, ws, es⟩).w) (DF f R S (leaveR b p t.uses ⟨G, w, ws, es⟩).G))) h') := by
 have hb : b < f.blocks.length := (List.getElem?_eq_some_iff.1 hx).1
 refine ACall.of_body (n := 30) tok Try.func49 rfl rfl ?_
 refine AGo.seq ?_
 refine AGo.region ?_
 refine ax 7 (o_box (sz := 8) 0 rfl rfl rfl rfl (Nat.zero_lt_succ _) rfl) ?_
 refine AOps.nil ?_
 refine AGo.seq ?_
 refine AGo.region ?_
 refine am 10 ?_
 refine aq 11 (q_nilCheck rfl rfl rfl) ?_
 refine af 12 tok ?_
 refine al 13 tok ?_
 refine am 14 ?_
 refine aq 15 (q_index_ref tok rfl rfl rfl rfl rfl rfl rfl (colF_len _ _).symm rfl (Int.natCast_nonneg _) (by omega)) ?_
 refine aq 16 (q_load tok rfl rfl rfl (.ptr _ _ _ _ _ _ _ [gR f b] rfl (colF_len _ _).symm z55q) rfl) ?_
 refine am 17 ?_
 refine aq 18 (q_index_ref tok rfl rfl rfl rfl rfl rfl z38q (by rw [colF_len, insLen_eq hx]) rfl (Int.natCast_nonneg _) (by rw [insLen_eq hx]; omega)) ?_
 refine AOps.w rfl rfl (o_store tok (es := bC x.ins.length (G b)) (cs := [.bool (G b p)]) rfl rfl rfl rfl rfl z38q (by rw [colF_len, insLen_eq hx]) (by rw [Nat.zero_add, Int.toNat_natCast]; exact colF_get hp) rfl (by decide) rfl (fun _ => rfl)) ?_
 refine AOps.nil ?_
 refine AGo.seq ?_
 refine AGo.region ?_
 refine al 19 tok ?_
 refine ax 20 (o_pure rfl Try.func43 (by kernel_rfl) rfl rfl rfl (bUses_ok _)) ?_
 refine aq 21 (q_len tok rfl rfl rfl rfl rfl) ?_
 refine am 22 ?_
 refine AOps.nil ?_
 refine AGo.block ?_
 refine AGo.loopK (γ := Nat) (kf 8) (fun k => ⟨30, (eput (eput (eput (eput eNew 0 (.ptr 2 1 0 0)) 20 (intsAV t.uses)) 21 (.int .i64 (t.uses.length : Int))) 22 (.int .i64 (k : Int))), (fam (nb [(.row false 8 [t.cells]), .free, (.row false 8 [SDc f R (((t.uses.take k).foldl (fun st u => pushR st u.toNat) (⟨putG G b p, w, ws, es⟩ : RS)).es).length (((t.uses.take k).foldl (fun st u => pushR st u.toNat) (⟨putG G b p, w, ws, es⟩ : RS)).ws.length)]), (.row false 1 (colF (aR (aheadL f)) f.blocks.length)), (.row false 1 (colF (oR f.blocks.length R S) R)), (.row false 1 (colF (gR f) f.blocks.length)), (.row true 1 (((t.uses.take k).foldl (fun st u => pushR st u.toNat) (⟨putG G b p, w, ws, es⟩ : RS)).es)), (.row true 1 (bC R (((t.uses.take k).foldl (fun st u => pushR st u.toNat) (⟨putG G b p, w, ws, es⟩ : RS)).w)))]) (DF f R S (putG G b p)))⟩) (fun k => QI R ((t.uses.take k).foldl (fun st u => pushR st u.toNat) (⟨putG G b p, w, ws, es⟩ : RS)) ∧ k ≤ t.uses.length) (fun k => t.uses.length - k) 0 (Sub.mk' z44q (famSub (k0 := 8) rfl z30q (fun x_ => by (try simp only [hputs]); (repeat (first | refine hput_skip (by exact beq_false_of_ne (by omega)) ?_ | refine hrm_skip (by omega) ?_)); exact (hput_hi (fun y_ => by (try simp only [hputs]); repeat (first | exact fam_hi _ _ _ | refine hput_skip (by exact beq_false_of_ne (by omega)) ?_ | refine hrm_skip (by omega) ?_)) _ _ x_).trans (congrArg some (DF_put hb hx x_).symm)) (fun c h1 h2 => by rcases (by omega : c = 8 ∨ c = 9 ∨ c = 10 ∨ c = 11 ∨ c = 12 ∨ c = 13 ∨ c = 14 ∨ c = 15) with rfl | rfl | rfl | rfl | rfl | rfl | rfl | rfl <;> first | rfl | (try simp only [hputs]; repeat (first | rfl | refine hput_skip (by exact beq_false_of_ne (by omega)) ?_ | refine hrm_skip (by omega) ?_))))) ⟨⟨hq.wt, hq.st⟩, Nat.zero_le _⟩ (fun g b hb => famFree (k0 := 8) rfl hb) ?_
 intro k hQ
 generalize hqe : ((t.uses.take k).foldl (fun st u => pushR st u.toNat) (⟨putG G b p, w, ws, es⟩ : RS)) = q at hQ ⊢
 refine AGo.seq ?_
 refine AGo.region ?_
 refine aq 23 (q_bin rfl rfl rfl rfl) ?_
 refine AOps.nil ?_
 refine AGo.seq ?_
 refine AGo.split 23 rfl (fun hb1 => ?_) (fun hb1 => ?_)
 ·
  refine AGo.cond_true true rfl rfl ?_
  have hkl : k < t.uses.length := by have h := hb1; simp [intsAV] at h; exact h
  obtain ⟨u, hu⟩ := get_of_lt hkl
  have hub := ht u (List.mem_of_getElem? hu)
  refine AGo.skip ?_
  refine AGo.seq ?_
  refine AGo.block ?_
  refine AGo.seq ?_
  refine AGo.region ?_
  refine aq 24 (q_index_lst tok rfl rfl rfl rfl rfl rfl (Int.natCast_nonneg _) (idx_map hu) rfl) ?_
  refine al 25 tok ?_
  refine aa 9 ?_
  refine AOps.nil ?_
  refine AGo.region ?_
  refine am 26 ?_
  refine am 27 ?_
  refine AOps.call 28 (hn := putD _ (DH (DSL f R S (waitEs q.w q.es q.ws.length u.toNat) ((waitL q.w q.ws u.toNat).length) (waitW q.w u.toNat)) (DF f R S (putG G b p)))) (r := .tup []) rfl rfl rfl (o_callDH (DSL f R S (q.es) (q.ws.length) (q.w)) (DSL f R S (waitEs q.w q.es q.ws.length u.toNat) ((waitL q.w q.ws u.toNat).length) (waitW q.w u.toNat)) (DF f R S (putG G b p)) rfl Try.func46 (by kernel_rfl) rfl rfl rfl rfl rfl (DSL_avoid _ _ _ _ _ _) (DSL_avoid _ _ _ _ _ _) z52q z24q (DF_avoid kD_hi f R _ _) (DF_avoid kD_hi f R _ _) rfl (by have h := dpush_ok f R S (putG G b p) q.es q.ws.length q.w u.toNat (by omega) hR hQ.1.st.le hQ.1.st.max; rw [waitLen_eq, Int.toNat_of_nonneg hub.1] at h; exact h)) ?_
  refine AOps.nil ?_
  refine AGo.region ?_
  refine aq 29 (q_inc rfl rfl hkl (by have := uses_len t; simp only [maxLen]; omega)) ?_
  refine am 22 ?_
  refine AOps.nil ?_
  exact ⟨k+1, DropK.mk' z51q (famDrop (k0 := 8) rfl (by repeat (first | exact trivial | refine ⟨⟨by first | rfl | exact putD_yes rfl | (rw [pushes_succ hu, hqe]; first | rfl | exact putD_yes rfl), by first | rfl | exact colF_avoid (fun _ _ => aR_avoid (kf_hi' _) _ _) | exact colF_avoid (fun _ _ => oR_avoid (kf_hi' _) _ _ _ _) | exact colF_avoid (fun _ _ => gR_avoid (kf_hi' _) _ _)⟩, ?_⟩)) z24q (DF_avoid (kf_hi' _) f R _ _)), ⟨by rw [pushes_succ hu, hqe]; exact hQ.1.push (by omega), hkl⟩, by omega⟩
 ·
  refine AGo.cond_false false rfl rfl ?_
  have hge : t.uses.length ≤ k := by have h := hb1; simp [intsAV] at h; omega
  refine AGo.exit ?_
  have hk : k = t.uses.length := by omega
  subst hk
  rw [List.take_length] at hqe
  have e1 : leaveR b p t.uses ⟨G, w, ws, es⟩ = q := hqe
  have e2 : q.G = putG G b p := by rw [← e1]; exact leave_G _ _ _ _
  rw [e1, e2]
  exact ⟨[], trivial, rfl, (dh_sub rfl z58q z24q)⟩

end Go.Proofs.Ytjmjmedjjbginaa.Sv

namespace Go.Proofs.Ytjmjmedjjbginaa.Sv
open Go

set_option maxHeartbeats 2000000 in
set_option maxRecDepth 100000 in
theorem dmatters_ok (f : BFunc) (hs : f.sane) (R : Nat) (G : GG) (es : List (List AV)) (len : Nat) (w : Nat → Bool) (v : Nat) (hv : v < R) (hn : f.blocks.length ≤ 100000) (hR : R ≤ 100000) (hi : ∀ x ∈ f.blocks, x.ins.length ≤ 100000) : ACall Try.prog 47 [.ptr 2 1 0 0, .int .i64 (v : Int)] (DH (DSL f R (SB f) (es) (len) (w)) (DF f R (SB f) G)) (fun r h' => r = boolsAV (mrow f.blocks.length (fun b => inB (cutF f G) v b)) ∧ HSub (putD hNone (DH (DSL f R (SB f) (es) (len) (w)) (DF f R (SB f) G))) h') := by
 refine ACall.of_body (n := 122) tok Try.func47 rfl rfl ?_
 refine AGo.seq ?_
 refine AGo.region ?_
 refine aa 4 ?_
 refine AOps.nil ?_
 refine AGo.seq ?_
 refine AGo.region ?_
 refine am 15 ?_
 refine aq 16 (q_nilCheck rfl rfl rfl) ?_
 refine af 17 tok ?_
 refine af 18 tok ?_
 refine al 19 tok ?_
 refine aq 20 (q_len tok rfl rfl rfl rfl rfl) ?_
 refine ax 21 (o_makeSlice tok (n := f.blocks.length) (m := f.blocks.length) 0 true rfl rfl rfl ((by simp)) ((by simp)) rfl rfl rfl rfl rfl (Nat.zero_lt_succ _) rfl (Nat.le_refl _) (by show 8 * f.blocks.length ≤ _; omega) (by simp only [maxLen]; omega)) ?_
 refine aa 5 ?_
 refine AOps.nil ?_
 refine AGo.seq ?_
 refine AGo.region ?_
 refine am 22 ?_
 refine aq 23 (q_nilCheck rfl rfl rfl) ?_
 refine af 24 tok ?_
 refine af 25 tok ?_
 refine al 26 tok ?_
 refine aq 27 (q_len tok rfl rfl rfl rfl rfl) ?_
 refine ax 28 (o_makeSlice tok (n := f.blocks.length) (m := f.blocks.length) 1 true rfl rfl rfl ((by simp)) ((by simp)) rfl rfl rfl rfl rfl (Nat.zero_lt_succ _) rfl (Nat.le_refl _) (by show 1 * f.blocks.length ≤ _; omega) (by simp only [maxLen]; omega)) ?_
 refine aa 6 ?_
 refine AOps.nil ?_
 refine AGo.seq ?_
 refine AGo.region ?_
 refine aa 7 ?_
 refine AOps.nil ?_
 refine AGo.seq ?_
 refine AGo.seq ?_
 refine AGo.ghost (.dry 7 8 1 true rfl rfl rfl (by decide)) ?_
 refine AGo.region ?_
 refine am 29 ?_
 refine aq 30 (q_nilCheck rfl rfl rfl) ?_
 refine af 31 tok ?_
 refine al 32 tok ?_
 refine am 33 ?_
 refine aq 34 (q_index_ref tok rfl rfl rfl rfl rfl rfl z28q (colF_len _ _).symm rfl (Int.natCast_nonneg _) (by omega)) ?_
 refine aq 35 (q_load tok rfl rfl rfl (.ptr _ _ _ _ _ _ _ [oR f.blocks.length R (SB f) v] z28q (colF_len _ _).symm z56q) rfl) ?_
 refine aq 36 (q_lenJ tok rfl rfl rfl rfl) ?_
 refine am 37 ?_
 refine AOps.nil ?_
 refine AGo.block ?_
 refine AGo.loopK (γ := Nat × List (List AV)) (kf 9) (fun q => ⟨122, (eput (eput (eput (eput (eput (eput (eput (eput eNew 0 (.ptr 2 1 0 0)) 1 (.int .i64 (v : Int))) 5 (.ref 0 f.blocks.length 0 f.blocks.length)) 6 (.ref 1 f.blocks.length 0 f.blocks.length)) 7 (.ref 8 q.2.length 0 (todoK f G v q.1).length)) 35 (oR f.blocks.length R (SB f) v)) 36 (.int .i64 ((grs f.blocks.length R (SB f) v).length : Int))) 37 (.int .i64 (q.1 : Int))), (fam (nb [(.row true 1 (iC f.blocks.length (fstK f G v q.1))), (.row true 1 (bC f.blocks.length (inK f G v q.1))), (.row false 8 [SDc f R (es).length (len)]), (.row false 1 (colF (aR (aheadL f)) f.blocks.length)), (.row false 1 (colF (oR f.blocks.length R (SB f)) R)), (.row false 1 (colF (gR f) f.blocks.length)), (.row true 1 (es)), (.row true 1 (bC R (w))), (.row true 1 q.2)]) (DF f R (SB f) G))⟩) (fun q => q.1 ≤ (gsB f v).length ∧ StackI f.blocks.length q.2 (todoK f G v q.1)) (fun q => (gsB f v).length - q.1) (0, []) (Sub.mk' (by repeat (first | exact ESub.new _ | refine ESub.put ?_ (by first | rfl))) (famSub (k0 := 9) rfl (by repeat (first | exact trivial | refine ⟨⟨by first | rfl | exact congrArg (fun es => some (AObj.row true 1 es)) ((colF_rep _ _).trans (by rw [fstK_zero]; rfl)) | exact congrArg (fun es => some (AObj.row true 1 es)) ((colF_rep _ _).trans (by unfold inK; rw [fstK_zero]; rfl)) | ((try simp only [hputs]); repeat (first | rfl | exact hput_same _ _ _ | refine hput_skip (by exact beq_false_of_ne (by omega)) ?_ | refine hrm_skip (by omega) ?_ | refine (famW_out _ (fun i_ _ => by first | omega | (dsimp only; omega))).trans ?_)), by first | rfl | exact colF_avoid (fun _ _ => aR_avoid (kf_hi' _) _ _) | exact colF_avoid (fun _ _ => oR_avoid (kf_hi' _) _ _ _ _) | exact colF_avoid (fun _ _ => gR_avoid (kf_hi' _) _ _) | exact gb_avoid _⟩, ?_⟩)) z42q (fun c h1 h2 => by rcases (by omega : c = 9 ∨ c = 10 ∨ c = 11 ∨ c = 12 ∨ c = 13 ∨ c = 14 ∨ c = 15) with rfl | rfl | rfl | rfl | rfl | rfl | rfl <;> first | rfl | (try simp only [hputs]; repeat (first | rfl | refine hput_skip (by exact beq_false_of_ne (by omega)) ?_ | refine hrm_skip (by omega) ?_))))) ⟨Nat.zero_le _, by unfold todoK; exact StackI.none _⟩ (fun g b hb => famFree (k0 := 9) rfl hb) ?_
 intro q hq
 refine AGo.seq ?_
 refine AGo.region ?_
 refine aq 38 (q_bin rfl rfl rfl rfl) ?_
 refine AOps.nil ?_
 refine AGo.seq ?_
 refine AGo.split 38 rfl (fun hb1 => ?_) (fun hb1 => ?_)
 ·
  refine AGo.cond_true true rfl rfl ?_
  have hkl : q.1 < (gsB f v).length := by have h := hb1; rw [grs_len] at h; simp only [decide_eq_true_eq] at h; exact Int.ofNat_lt.1 h
  obtain ⟨i, hgi⟩ := get_of_lt hkl
  have hig : i < f.blocks.length ∧ 0 < (SB f i v).length := gsS_get (S := SB f) hgi
  obtain ⟨x, hx⟩ := get_of_lt hig.1
  refine AGo.skip ?_
  refine AGo.seq ?_
  refine AGo.block ?_
  refine AGo.seq ?_
  refine AGo.region ?_
  refine aq 39 (q_indexP tok rfl rfl rfl rfl rfl rfl ((fam_hi _ _ _).trans (congrArg some (DF_grp hv))) rfl (Int.natCast_nonneg _) (by rw [grs_len]; exact Int.ofNat_lt.2 hkl)) ?_
  refine aq 40 (q_load tok rfl rfl rfl (.ptr _ _ _ _ false 2 (grs f.blocks.length R (SB f) v) (grC R (SB f) v i) ((fam_hi _ _ _).trans (congrArg some ((DF_grp hv).trans (slP_at (k := q.1) (by rw [grs_len]; exact hkl))))) rfl (by rw [Int.toNat_natCast]; show ((gsB f v).map (grC R (SB f) v))[_]? = _; rw [List.getElem?_map, hgi]; rfl)) rfl) ?_
  refine ax 9 (o_alloc tok 9 rfl rfl z28q rfl (Nat.zero_lt_succ _) rfl) ?_
  refine AOps.w rfl rfl (o_store tok rfl rfl rfl rfl rfl rfl rfl rfl rfl (by decide) rfl z61q) ?_
  refine AOps.nil ?_
  refine AGo.seq ?_
  refine AGo.region ?_
  refine af 41 tok ?_
  refine al 42 tok ?_
  refine aq 43 (q_len tok rfl rfl rfl rfl rfl) ?_
  refine am 44 ?_
  refine AOps.nil ?_
  refine AGo.block ?_
  refine AGo.loopK (γ := Nat) (kf 10) (fun j => ⟨122, (eput (eput (eput (eput (eput (eput (eput (eput (eput (eput (eput (eput eNew 0 (.ptr 2 1 0 0)) 1 (.int .i64 (v : Int))) 5 (.ref 0 f.blocks.length 0 f.blocks.length)) 6 (.ref 1 f.blocks.length 0 f.blocks.length)) 7 (.ref 8 q.2.length 0 (todoK f G v q.1).length)) 35 (oR f.blocks.length R (SB f) v)) 36 (.int .i64 ((grs f.blocks.length R (SB f) v).length : Int))) 37 (.int .i64 (q.1 : Int))) 9 (.ptr 9 1 0 0)) 42 (.ref (4 * (v + R * i) + 3 + 16) (siB f v i).length 0 (siB f v i).length)) 43 (.int .i64 ((siB f v i).length : Int))) 44 (.int .i64 (j : Int))), (fam (nb [(.row true 1 (iC f.blocks.length (fstK f G v q.1))), (.row true 1 (bC f.blocks.length (inK f G v q.1))), (.row false 8 [SDc f R (es).length (len)]), (.row false 1 (colF (aR (aheadL f)) f.blocks.length)), (.row false 1 (colF (oR f.blocks.length R (SB f)) R)), (.row false 1 (colF (gR f) f.blocks.length)), (.row true 1 (es)), (.row true 1 (bC R (w))), (.row true 1 q.2), (.row false 2 [grC R (SB f) v i])]) (DF f R (SB f) G))⟩) (fun j => firstS (G i) x.ins.length ((siB f v i).drop j) = firstG f G v i ∧ j ≤ (siB f v i).length) (fun j => (siB f v i).length - j) 0 (Sub.mk' z44q (famSub (k0 := 10) rfl z8q z42q (fun c h1 h2 => by rcases (by omega : c = 10 ∨ c = 11 ∨ c = 12 ∨ c = 13 ∨ c = 14 ∨ c = 15) with rfl | rfl | rfl | rfl | rfl | rfl <;> first | rfl | (try simp only [hputs]; repeat (first | rfl | refine hput_skip (by exact beq_false_of_ne (by omega)) ?_ | refine hrm_skip (by omega) ?_))))) ⟨by rw [List.drop_zero, siB_eq hx, firstG_eq hx], Nat.zero_le _⟩ (fun g b hb => famFree (k0 := 10) rfl hb) ?_
  intro j hF
  refine AGo.seq ?_
  refine AGo.region ?_
  refine aq 45 (q_bin rfl rfl rfl rfl) ?_
  refine AOps.nil ?_
  refine AGo.seq ?_
  refine AGo.split 45 rfl (fun hb2 => ?_) (fun hb2 => ?_)
  ·
   refine AGo.cond_true true rfl rfl ?_
   have hjl : j < (siB f v i).length := by have h := hb2; simp at h; exact h
   obtain ⟨s, hsj⟩ := get_of_lt hjl
   have hat := site_at hx hsj
   refine AGo.skip ?_
   refine AGo.seq ?_
   refine AGo.block ?_
   refine AGo.seq ?_
   refine AGo.region ?_
   refine aq 46 (q_index_ref tok rfl rfl rfl rfl rfl rfl ((fam_hi _ _ _).trans (congrArg some (DF_site hv hig.2))) (List.length_map _).symm rfl (Int.natCast_nonneg _) (by omega)) ?_
   refine aq 47 (q_load tok rfl rfl rfl (.ptr _ _ _ _ true 3 ((siB f v i).map siC) (siC s) ((fam_hi _ _ _).trans (congrArg some (DF_site hv hig.2))) (List.length_map _).symm (by rw [Nat.zero_add, Int.toNat_natCast, List.getElem?_map, hsj]; rfl)) rfl) ?_
   refine ax 11 (o_alloc tok 10 rfl rfl z28q rfl (Nat.zero_lt_succ _) rfl) ?_
   refine AOps.w rfl rfl (o_store tok rfl rfl rfl rfl rfl rfl rfl rfl rfl (by decide) rfl z61q) ?_
   refine AOps.nil ?_
   refine AGo.seq ?_
   refine AGo.seq ?_
   refine AGo.region ?_
   refine am 48 ?_
   refine af 49 tok ?_
   refine al 50 tok ?_
   refine al 51 tok ?_
   refine AOps.call 52 (hn := putD _ (DH (DSL f R (SB f) (es) (len) (w)) (DF f R (SB f) G))) (r := .bool (leftS (G i) x.ins.length s)) rfl rfl rfl (o_callDH (DSL f R (SB f) (es) (len) (w)) (DSL f R (SB f) (es) (len) (w)) (DF f R (SB f) G) rfl Try.func48 (by kernel_rfl) rfl rfl rfl rfl rfl (DSL_avoid _ _ _ _ _ _) (DSL_avoid _ _ _ _ _ _) z52q z24q (DF_avoid kD_hi f R _ _) (DF_avoid kD_hi f R _ _) rfl (dleft_ok f R (SB f) G es len w i x hx s hat)) ?_
   refine aq 53 (q_not rfl rfl) ?_
   refine AOps.nil ?_
   refine AGo.split 53 rfl (fun hb3 => ?_) (fun hb3 => ?_)
   ·
    refine AGo.cond_true true rfl rfl ?_
    have hlf : leftS (G i) x.ins.length s = false := by have h := hb3; simpa using h
    refine AGo.exit ?_
    refine AGo.region ?_
    refine aq 73 (q_inc rfl rfl hjl (by have := siB_len hx (v := v); have := hi x (List.mem_of_getElem? hx); simp only [maxLen]; omega)) ?_
    refine am 44 ?_
    refine AOps.nil ?_
    exact ⟨j + 1, DropK.mk' (by repeat (first | exact EDropK.new _ _ | refine EDropK.put ?_ (by first | rfl | exact congrArg (fun (n : Nat) => some (AV.int .i64 (n : Int))) (by simp)) (by first | rfl | exact oR_avoid (kf_hi' _) _ _ _ _ | exact kf_hi _ _))) (famDrop (k0 := 10) rfl z7q z24q (DF_avoid (kf_hi' _) f R _ _)), ⟨by rw [← first_skip hsj hlf]; exact hF.1, hjl⟩, (by omega)⟩
   ·
    refine AGo.cond_false false rfl rfl ?_
    have hlf : leftS (G i) x.ins.length s = true := by have h := hb3; simpa using h
    refine AGo.skip ?_
    refine AGo.seq ?_
    refine AGo.region ?_
    refine am 54 ?_
    refine af 55 tok ?_
    refine al 56 tok ?_
    refine aq 57 (q_index_ref tok rfl rfl rfl rfl rfl rfl z28q (colF_len _ _).symm rfl (Int.natCast_nonneg _) (by omega)) ?_
    refine AOps.w rfl rfl (o_store tok rfl rfl rfl rfl rfl z28q (colF_len _ _).symm (by rw [Nat.zero_add, Int.toNat_natCast]; exact colF_get hig.1) rfl (by decide) rfl (fun _ => rfl)) ?_
    refine AOps.nil ?_
    refine AGo.seq ?_
    refine AGo.seq ?_
    refine AGo.region ?_
    refine af 58 tok ?_
    refine al 59 tok ?_
    refine AOps.nil ?_
    refine AGo.split 59 rfl (fun hb4 => ?_) (fun hb4 => ?_)
    ·
     refine AGo.cond_true true rfl rfl ?_
     have hfg : firstG f G v i = 1 := by rw [← hF.1, first_left hsj hlf, show s.r = true from hb4]; rfl
     refine AGo.seq ?_
     refine AGo.region ?_
     refine am 60 ?_
     refine af 61 tok ?_
     refine al 62 tok ?_
     refine aq 63 (q_index_ref tok rfl rfl rfl rfl rfl rfl z28q (by rw [List.length_set]; exact (colF_len _ _).symm) rfl (Int.natCast_nonneg _) (by omega)) ?_
     refine AOps.w rfl rfl (o_store tok rfl rfl rfl rfl rfl z28q (by rw [List.length_set]; exact (colF_len _ _).symm) (List.getElem?_set_self (by rw [colF_len]; omega)) rfl (by decide) rfl (fun _ => rfl)) ?_
     refine AOps.nil ?_
     refine AGo.seq ?_
     refine AGo.region ?_
     refine am 64 ?_
     refine af 65 tok ?_
     refine al 66 tok ?_
     refine aq 67 (q_index_ref tok rfl rfl rfl rfl rfl rfl z28q (colF_len _ _).symm rfl (Int.natCast_nonneg _) (by omega)) ?_
     refine AOps.w rfl rfl (o_store tok rfl rfl rfl rfl rfl z28q (colF_len _ _).symm (by rw [Nat.zero_add, Int.toNat_natCast]; exact colF_get hig.1) rfl (by decide) rfl (fun _ => rfl)) ?_
     refine AOps.nil ?_
     refine AGo.region ?_
     refine am 68 ?_
     refine af 69 tok ?_
     refine al 70 tok ?_
     refine ax 71 (o_lit' tok rfl rfl rfl rfl rfl rfl (by decide) rfl rfl rfl rfl rfl rfl) ?_
     refine ax 72 (o_push tok (es := q.2) rfl rfl rfl rfl rfl rfl rfl rfl z28q rfl hq.2.le rfl rfl (Nat.zero_lt_succ _) (.lst _ _) rfl (fun _ => rfl) (by have := hq.2.max; show _ * 8 ≤ _; omega) (by have := hq.2.max; simp only [maxLen]; omega)) ?_
     refine aa 7 ?_
     refine AOps.nil ?_
     refine AGo.exit ?_
     refine AGo.region ?_
     refine aq 74 (q_inc rfl rfl hkl z45q) ?_
     refine am 37 ?_
     refine AOps.nil ?_
     exact ⟨(q.1 + 1, pushE q.2 (todoK f G v q.1).length (natC i)), DropK.mk' z13q (famDrop (k0 := 9) rfl z2q z24q (DF_avoid (kf_hi' _) f R _ _)), ⟨hkl, by rw [← todoK_succ hgi hfg]; exact hq.2.push (Nat.lt_of_le_of_lt (todoK_len f G v q.1) (Nat.lt_of_lt_of_le hkl (gsS_len (SB f) f.blocks.length v)))⟩, (by show (gsB f v).length - (q.1 + 1) < (gsB f v).length - q.1; omega)⟩
    ·
     refine AGo.cond_false false rfl rfl ?_
     have hfg : firstG f G v i = 2 := by rw [← hF.1, first_left hsj hlf, show s.r = false from hb4]; rfl
     refine AGo.skip ?_
     refine AGo.exit ?_
     refine AGo.region ?_
     refine aq 74 (q_inc rfl rfl hkl z45q) ?_
     refine am 37 ?_
     refine AOps.nil ?_
     exact ⟨(q.1 + 1, q.2), DropK.mk' z13q (famDrop (k0 := 9) rfl z2q z24q (DF_avoid (kf_hi' _) f R _ _)), ⟨hkl, by rw [← todoK_skip hgi (by omega)]; exact hq.2⟩, (by show (gsB f v).length - (q.1 + 1) < (gsB f v).length - q.1; omega)⟩
  ·
   refine AGo.cond_false false rfl rfl ?_
   have hjge : (siB f v i).length ≤ j := by have h := hb2; simp at h; omega
   have hfg : firstG f G v i = 0 := by rw [← hF.1, List.drop_eq_nil_iff.2 hjge]; rfl
   refine AGo.exit ?_
   refine AGo.region ?_
   refine aq 74 (q_inc rfl rfl hkl z45q) ?_
   refine am 37 ?_
   refine AOps.nil ?_
   exact ⟨(q.1 + 1, q.2), DropK.mk' z13q (famDrop (k0 := 9) rfl z2q z24q (DF_avoid (kf_hi' _) f R _ _)), ⟨hkl, by rw [← todoK_skip hgi (by omega)]; exact hq.2⟩, (by show (gsB f v).length - (q.1 + 1) < (gsB f v).length - q.1; omega)⟩
 ·
  refine AGo.cond_false false rfl rfl ?_
  have hkge : (gsB f v).length ≤ q.1 := by have h := hb1; rw [grs_len] at h; simp only [decide_eq_false_iff_not] at h; exact Nat.le_of_not_lt fun e => h (Int.ofNat_lt.2 e)
  refine AGo.exit ?_
  refine AGo.seq ?_
  refine AGo.block ?_
  refine AGo.loopK (γ := MQ) (kf 9) (fun m => ⟨122, (eput (eput (eput (eput (eput eNew 0 (.ptr 2 1 0 0)) 1 (.int .i64 (v : Int))) 5 (.ref 0 f.blocks.length 0 f.blocks.length)) 6 (.ref 1 f.blocks.length 0 f.blocks.length)) 7 (.ref 8 m.es.length 0 m.todo.length)), (fam (nb [(.row true 1 (iC f.blocks.length (firstG f G v))), (.row true 1 (bC f.blocks.length m.inn)), (.row false 8 [SDc f R (es).length (len)]), (.row false 1 (colF (aR (aheadL f)) f.blocks.length)), (.row false 1 (colF (oR f.blocks.length R (SB f)) R)), (.row false 1 (colF (gR f) f.blocks.length)), (.row true 1 (es)), (.row true 1 (bC R (w))), (.row true 1 m.es)]) (DF f R (SB f) G))⟩) (fun m => BfI f G v m.inn m.todo 0 [] ∧ StackI f.blocks.length m.es m.todo) (fun m => 2 * cntF f.blocks.length m.inn + m.todo.length) ⟨inK f G v q.1, todoK f G v q.1, q.2⟩ (Sub.mk' z53q (famSub (k0 := 9) rfl (by repeat (first | exact trivial | refine ⟨⟨by first | rfl | exact congrArg (fun w => some (AObj.row true 1 (iC _ w))) (fstK_all hkge), by first | rfl | exact colF_avoid (fun _ _ => aR_avoid (kf_hi' _) _ _) | exact colF_avoid (fun _ _ => oR_avoid (kf_hi' _) _ _ _ _) | exact colF_avoid (fun _ _ => gR_avoid (kf_hi' _) _ _) | exact gb_avoid _⟩, ?_⟩)) z42q (fun c h1 h2 => by rcases (by omega : c = 9 ∨ c = 10 ∨ c = 11 ∨ c = 12 ∨ c = 13 ∨ c = 14 ∨ c = 15) with rfl | rfl | rfl | rfl | rfl | rfl | rfl <;> first | rfl | (try simp only [hputs]; repeat (first | rfl | refine hput_skip (by exact beq_false_of_ne (by omega)) ?_ | refine hrm_skip (by omega) ?_))))) ⟨BfI.first hkge, hq.2⟩ (fun g b hb => famFree (k0 := 9) rfl hb) ?_
  intro m hM
  obtain ⟨inn, todo, es'⟩ := m
  dsimp only at hM ⊢
  refine AGo.seq ?_
  refine AGo.seq ?_
  refine AGo.region ?_
  refine am 75 ?_
  refine aq 76 (q_len tok rfl rfl rfl rfl rfl) ?_
  refine aq 77 (q_bin rfl rfl rfl rfl) ?_
  refine AOps.nil ?_
  refine AGo.split 77 rfl (fun hb5 => ?_) (fun hb5 => ?_)
  ·
   refine AGo.cond_true true rfl rfl ?_
   obtain ⟨todo', b, htd⟩ : ∃ todo' b, todo = todo' ++ [b] := by
     rcases snoc_cases todo with h | h
     · have h2 := hb5; rw [h] at h2; simp at h2
     · exact h
   subst htd
   have hib := hM.1.tod b (List.mem_append.2 (.inr (List.mem_singleton.2 rfl)))
   have hb := (hM.1.sound b hib).1
   refine AGo.skip ?_
   refine AGo.block ?_
   refine AGo.seq ?_
   refine AGo.region ?_
   refine am 78 ?_
   refine am 79 ?_
   refine aq 80 (q_len tok rfl rfl rfl rfl rfl) ?_
   refine aq 81 (q_bin (r := .int .i64 (todo'.length : Int)) rfl rfl rfl (pop_len (by have := hM.1.cnt; simp at this; omega))) ?_
   refine aq 82 (q_index_ref tok rfl rfl rfl rfl rfl rfl z28q rfl rfl (Int.natCast_nonneg _) (by simp; omega)) ?_
   refine aq 83 (q_load tok rfl rfl rfl (.ptr _ _ _ _ _ _ _ (natC b) z28q rfl (by rw [Nat.zero_add, Int.toNat_natCast]; exact hM.2.get)) rfl) ?_
   refine aa 12 ?_
   refine AOps.nil ?_
   refine AGo.seq ?_
   refine AGo.region ?_
   refine am 84 ?_
   refine am 85 ?_
   refine aq 86 (q_len tok rfl rfl rfl rfl rfl) ?_
   refine aq 87 (q_bin (r := .int .i64 (todo'.length : Int)) rfl rfl rfl (pop_len (by have := hM.1.cnt; simp at this; omega))) ?_
   refine aq 88 (q_slice_ref tok (es := es') (m := todo'.length) rfl rfl rfl rfl rfl rfl z28q rfl rfl (by simp)) ?_
   refine aa 7 ?_
   refine AOps.nil ?_
   refine AGo.seq ?_
   refine AGo.region ?_
   refine am 89 ?_
   refine aq 90 (q_nilCheck rfl rfl rfl) ?_
   refine af 91 tok ?_
   refine al 92 tok ?_
   refine am 93 ?_
   refine aq 94 (q_index_ref tok rfl rfl rfl rfl rfl rfl z28q (colF_len _ _).symm rfl (Int.natCast_nonneg _) (by omega)) ?_
   refine aq 95 (q_load tok rfl rfl rfl (.ptr _ _ _ _ _ _ _ [aR (aheadL f) b] z28q (colF_len _ _).symm z55q) rfl) ?_
   refine aq 96 (q_lenJ tok rfl rfl rfl rfl) ?_
   refine am 97 ?_
   refine AOps.nil ?_
   refine AGo.block ?_
   refine AGo.loopK (γ := MP) (kf 9) (fun p => ⟨122, (eput (eput (eput (eput (eput (eput (eput (eput (eput eNew 0 (.ptr 2 1 0 0)) 1 (.int .i64 (v : Int))) 5 (.ref 0 f.blocks.length 0 f.blocks.length)) 6 (.ref 1 f.blocks.length 0 f.blocks.length)) 7 (.ref 8 p.es.length 0 p.todo.length)) 12 (.int .i64 (b : Int))) 95 (aR (aheadL f) b)) 96 (.int .i64 ((aheadL f b).length : Int))) 97 (.int .i64 (p.j : Int))), (fam (nb [(.row true 1 (iC f.blocks.length (firstG f G v))), (.row true 1 (bC f.blocks.length p.inn)), (.row false 8 [SDc f R (es).length (len)]), (.row false 1 (colF (aR (aheadL f)) f.blocks.length)), (.row false 1 (colF (oR f.blocks.length R (SB f)) R)), (.row false 1 (colF (gR f) f.blocks.length)), (.row true 1 (es)), (.row true 1 (bC R (w))), (.row true 1 p.es)]) (DF f R (SB f) G))⟩) (fun p => MPI f G v b (2 * cntF f.blocks.length inn + todo'.length) p) (fun p => (aheadL f b).length - p.j) ⟨inn, todo', es', 0⟩ (Sub.mk' (by repeat (first | exact ESub.new _ | refine ESub.put ?_ (by first | rfl | exact congrArg (fun m : Nat => some (AV.int .i64 (m : Int))) (by simp)))) (famSub (k0 := 9) rfl z22q z42q (fun c h1 h2 => by rcases (by omega : c = 9 ∨ c = 10 ∨ c = 11 ∨ c = 12 ∨ c = 13 ∨ c = 14 ∨ c = 15) with rfl | rfl | rfl | rfl | rfl | rfl | rfl <;> first | rfl | (try simp only [hputs]; repeat (first | rfl | refine hput_skip (by exact beq_false_of_ne (by omega)) ?_ | refine hrm_skip (by omega) ?_))))) ⟨hM.1.pop, hib, hM.2.pop, Nat.le_refl _⟩ (fun g b hb => famFree (k0 := 9) rfl hb) ?_
   intro p hP
   refine AGo.seq ?_
   refine AGo.region ?_
   refine aq 98 (q_bin rfl rfl rfl rfl) ?_
   refine AOps.nil ?_
   refine AGo.seq ?_
   refine AGo.split 98 rfl (fun hb6 => ?_) (fun hb6 => ?_)
   ·
    refine AGo.cond_true true rfl rfl ?_
    have hjl : p.j < (aheadL f b).length := by have h := hb6; simp at h; exact h
    obtain ⟨a, ha⟩ := get_of_lt hjl
    have ha2 := aheadL_lt (List.mem_of_getElem? ha)
    refine AGo.skip ?_
    refine AGo.seq ?_
    refine AGo.block ?_
    refine AGo.seq ?_
    refine AGo.region ?_
    refine aq 99 (q_indexJ tok (b := 4 * b + 0 + 16) (es := (aheadL f b).map natC) rfl rfl rfl rfl rfl rfl ((fam_hi _ _ _).trans (congrArg some (DF_ah hb))) rfl (Int.natCast_nonneg _) (by rw [List.length_map]; omega)) ?_
    refine aq 100 (q_load tok rfl rfl rfl (.ptr _ _ _ _ true 1 ((aheadL f b).map natC) (natC a) ((fam_hi _ _ _).trans (congrArg some ((DF_ah hb).trans (slO_at (k := p.j) (by rw [List.length_map]; omega))))) rfl (by rw [Int.toNat_natCast, List.getElem?_map, ha]; rfl)) rfl) ?_
    refine aa 14 ?_
    refine AOps.nil ?_
    refine AGo.seq ?_
    refine AGo.region ?_
    refine am 101 ?_
    refine am 102 ?_
    refine aq 103 (q_index_ref tok rfl rfl rfl rfl rfl rfl z28q (colF_len _ _).symm rfl (Int.natCast_nonneg _) (by omega)) ?_
    refine aq 104 (q_load tok rfl rfl rfl (.ptr _ _ _ _ _ _ _ [.int .i64 (firstG f G v a : Int)] z28q (colF_len _ _).symm (by rw [Nat.zero_add, Int.toNat_natCast]; exact colF_get ha2)) rfl) ?_
    refine aq 105 (q_bin rfl rfl rfl rfl) ?_
    refine am 106 ?_
    refine AOps.split 106 rfl (fun hb7 => ?_) (fun hb7 => ?_)
    ·
     refine am 107 ?_
     have hz := hb7
     refine am 108 ?_
     refine aq 109 (q_index_ref tok rfl rfl rfl rfl rfl rfl z28q (colF_len _ _).symm rfl (Int.natCast_nonneg _) (by omega)) ?_
     refine aq 110 (q_load tok rfl rfl rfl (.ptr _ _ _ _ _ _ _ [.bool (p.inn a)] z28q (colF_len _ _).symm (by rw [Nat.zero_add, Int.toNat_natCast]; exact colF_get ha2)) rfl) ?_
     refine aq 111 (q_not rfl rfl) ?_
     refine aq 112 (q_pick_true true rfl rfl rfl rfl) ?_
     refine AOps.nil ?_
     refine AGo.split 112 rfl (fun hb8 => ?_) (fun hb8 => ?_)
     ·
      refine AGo.cond_true true rfl rfl ?_
      have h0 : firstG f G v a = 0 := by have h := hz; simp at h; omega
      have hni : p.inn a = false := by have h := hb8; simpa using h
      refine AGo.seq ?_
      refine AGo.region ?_
      refine am 113 ?_
      refine am 114 ?_
      refine aq 115 (q_index_ref tok rfl rfl rfl rfl rfl rfl z28q (colF_len _ _).symm rfl (Int.natCast_nonneg _) (by omega)) ?_
      refine AOps.w rfl rfl (o_store tok rfl rfl rfl rfl rfl z28q (colF_len _ _).symm (by rw [Nat.zero_add, Int.toNat_natCast]; exact colF_get ha2) rfl (by decide) rfl (fun _ => rfl)) ?_
      refine AOps.nil ?_
      refine AGo.region ?_
      refine am 116 ?_
      refine am 117 ?_
      refine ax 118 (o_lit' tok rfl rfl rfl rfl rfl rfl (by decide) rfl rfl rfl rfl rfl rfl) ?_
      refine ax 119 (o_push tok (es := p.es) rfl rfl rfl rfl rfl rfl rfl rfl z28q rfl hP.st.le rfl rfl (Nat.zero_lt_succ _) (.lst _ _) rfl (fun _ => rfl) (by have := hP.st.max; show _ * 8 ≤ _; omega) (by have := hP.st.max; simp only [maxLen]; omega)) ?_
      refine aa 7 ?_
      refine AOps.nil ?_
      refine AGo.region ?_
      refine aq 120 (q_inc rfl rfl hjl (by have := aheadL_len f b; simp only [maxLen]; omega)) ?_
      refine am 97 ?_
      refine AOps.nil ?_
      exact ⟨⟨updB p.inn a true, p.todo ++ [a], pushE p.es p.todo.length (natC a), p.j + 1⟩, DropK.mk' z20q (famDrop (k0 := 9) rfl z5q z42q (DF_avoid (kf_hi' _) f R _ _)), (hP.push ha h0 hni), (by show (aheadL f b).length - (p.j + 1) < (aheadL f b).length - p.j; omega)⟩
     ·
      refine AGo.cond_false false rfl rfl ?_
      have hno : ¬ (firstG f G v a = 0 ∧ p.inn a = false) := fun e => by
        have h := hz
        have h2 := hb8
        simp [e.1, e.2] at h h2
      refine AGo.skip ?_
      refine AGo.region ?_
      refine aq 120 (q_inc rfl rfl hjl (by have := aheadL_len f b; simp only [maxLen]; omega)) ?_
      refine am 97 ?_
      refine AOps.nil ?_
      exact ⟨⟨p.inn, p.todo, p.es, p.j + 1⟩, DropK.mk' z20q (famDrop (k0 := 9) rfl z5q z42q (DF_avoid (kf_hi' _) f R _ _)), (hP.skip ha hno), (by show (aheadL f b).length - (p.j + 1) < (aheadL f b).length - p.j; omega)⟩
    ·
     refine ak 107 ?_
     have hz := hb7
     refine ak 108 ?_
     refine ak 109 ?_
     refine ak 110 ?_
     refine ak 111 ?_
     refine aq 112 (q_pick_false false rfl rfl rfl rfl) ?_
     refine AOps.nil ?_
     refine AGo.cond_false false rfl rfl ?_
     have hno : ¬ (firstG f G v a = 0 ∧ p.inn a = false) := fun e => by
       have h := hz
       have h2 := hb7
       simp [e.1, e.2] at h h2
     refine AGo.skip ?_
     refine AGo.region ?_
     refine aq 120 (q_inc rfl rfl hjl (by have := aheadL_len f b; simp only [maxLen]; omega)) ?_
     refine am 97 ?_
     refine AOps.nil ?_
     exact ⟨⟨p.inn, p.todo, p.es, p.j + 1⟩, DropK.mk' z20q (famDrop (k0 := 9) rfl z5q z42q (DF_avoid (kf_hi' _) f R _ _)), (hP.skip ha hno), (by show (aheadL f b).length - (p.j + 1) < (aheadL f b).length - p.j; omega)⟩
   ·
    refine AGo.cond_false false rfl rfl ?_
    have hjge : (aheadL f b).length ≤ p.j := by have h := hb6; simp at h; omega
    refine AGo.exit ?_
    exact ⟨⟨p.inn, p.todo, p.es⟩, DropK.mk' z51q (famDrop (k0 := 9) rfl z22q z42q (DF_avoid (kf_hi' _) f R _ _)), ⟨(by have h := hP.k; rw [List.drop_eq_nil_iff.2 hjge] at h; exact h.any), hP.st⟩, (Nat.lt_of_le_of_lt hP.mu (by show 2 * cntF f.blocks.length inn + todo'.length < 2 * cntF f.blocks.length inn + (todo' ++ [b]).length; simp))⟩
  ·
   refine AGo.cond_false false rfl rfl ?_
   have htd : todo = [] := by
     rcases snoc_cases todo with h | ⟨L, b, h⟩
     · exact h
     · have h2 := hb5; rw [h] at h2; simp at h2
   subst htd
   refine AGo.exit ?_
   refine AGo.seq ?_
   refine AGo.ghost (.freezeA 6 1 rfl rfl (colF_len _ _).symm) ?_
   refine AGo.region ?_
   refine am 121 ?_
   refine aa 4 ?_
   refine AOps.nil ?_
   refine AGo.ret ?_
   refine ⟨[_], ⟨rfl, trivial⟩, ?_, (dh_sub rfl (by repeat (first | exact trivial | refine ⟨by first | rfl | ((try simp only [hputs]); repeat (first | rfl | exact hput_same _ _ _ | refine hput_skip (by exact beq_false_of_ne (by omega)) ?_ | refine hrm_skip (by omega) ?_ | refine (famW_out _ (fun i_ _ => by first | omega | (dsimp only; omega))).trans ?_)), ?_⟩)) (fun x_ => by dsimp only; rw [hrm_ne _ (by omega)]; exact fam_hi _ _ _))⟩
   show AV.lst false (bC f.blocks.length inn) = _
   rw [bC_bools]
   exact congrArg boolsAV (mrow_congr fun b hb => hM.1.done hs hb)

end Go.Proofs.Ytjmjmedjjbginaa.Sv

namespace Go.Proofs.Ytjmjmedjjbginaa.Sv
open Go

end Go.Proofs.Ytjmjmedjjbginaa.Sv

namespace Go.Proofs.Ytjmjmedjjbginaa.Sv
open Go

end Go.Proofs.Ytjmjmedjjbginaa.Sv

namespace Go.Proofs.Ytjmjmedjjbginaa.Sv
open Go

end Go.Proofs.Ytjmjmedjjbginaa.Sv

namespace Go.Proofs.Ytjmjmedjjbginaa.Sv
open Go

end Go.Proofs.Ytjmjmedjjbginaa.Sv

namespace Go.Proofs.Ytjmjmedjjbginaa.Sv
open Go

end Go.Proofs.Ytjmjmedjjbginaa.Sv

namespace Go.Proofs.Ytjmjmedjjbginaa.Sv
open Go

def iget (l : List Int) (z : Int) : Int := (l[z.toNat]?).getD 0
def iset (l : List Int) (z v : Int) : List Int := l.set z.toNat v
def bump (w : List Int) (k : Int) : List Int := iset w k (iget w k + 1)
def waysAt (next : List (List Int)) (reach : List Bool) : Nat → List Int
  | 0 => List.replicate next.length 0
  | k + 1 => bif (reach[k]?).getD false then ((next[k]?).getD []).foldl bump (waysAt next reach k) else waysAt next reach k
def waysF (next : List (List Int)) (reach : List Bool) : List Int := waysAt next reach next.length
def takeOf (next : List (List Int)) (reach : List Bool) (i : Nat) (b : Block) : Int :=
  bif (reach[i]?).getD false && (b.fin == 1 && (b.to != 0 && (b.to != (i : Int) && iget (waysF next reach) b.to == 1))) then b.to else -1
def BFunc.takes (f : BFunc) (reach : List Bool) : List Int := f.blocks.zipIdx.map fun p => takeOf f.nexts reach p.2 p.1
def BFunc.takenAt (f : BFunc) (reach : List Bool) : Nat → List Bool
  | 0 => List.replicate f.blocks.length false
  | k + 1 => match f.blocks[k]? with
    | some b => bif takeOf f.nexts reach k b == -1 then f.takenAt reach k else (f.takenAt reach k).set b.to.toNat true
    | none => f.takenAt reach k
def BFunc.leads (f : BFunc) : Prop := ∀ l ∈ f.nexts, ∀ k ∈ l, 0 ≤ k ∧ k < f.blocks.length
def chain (takes : List Int) : Nat → Int → List Int
  | 0, _ => []
  | g + 1, c => bif iget takes c == -1 then [] else iget takes c :: chain takes g (iget takes c)
def ends (takes : List Int) : Nat → Int → Bool
  | 0, c => iget takes c == -1
  | g + 1, c => iget takes c == -1 || ends takes g (iget takes c)
def pathOf (takes : List Int) (i : Int) : List Int := i :: chain takes takes.length i
structure FG2 where
  c : Int
  acc : List Int
  g : Nat
structure FInv2 (takes : List Int) (tgt : List Int) (q : FG2) : Prop where
  c : 0 ≤ q.c ∧ q.c < takes.length
  len : q.acc.length + q.g ≤ takes.length + 1
  fin : ends takes q.g q.c = true
  tgt : q.acc ++ chain takes q.g q.c = tgt
theorem FInv2.first {takes : List Int} {i : Int} (hi : 0 ≤ i ∧ i < takes.length) (he : ends takes takes.length i = true) : FInv2 takes (pathOf takes i) ⟨i, [i], takes.length⟩ := ⟨hi, by show 1 + takes.length ≤ _; omega, he, rfl⟩
theorem FInv2.next {takes : List Int} {tgt : List Int} {q : FG2} (hin : ∀ v ∈ takes, v = -1 ∨ (0 ≤ v ∧ v < takes.length)) (h : FInv2 takes tgt q) (hc : (iget takes q.c != -1) = true) :
    FInv2 takes tgt ⟨iget takes q.c, q.acc ++ [iget takes q.c], q.g - 1⟩ ∧ q.g - 1 < q.g := by
  have hne : (iget takes q.c == -1) = false := by simpa [bne] using hc
  obtain ⟨v, hv⟩ := get_of_lt (l := takes) (k := q.c.toNat) (by have := h.c; omega)
  have hi : iget takes q.c = v := by simp [iget, hv]
  have hlen := h.len
  have hfin := h.fin
  have htgt := h.tgt
  obtain ⟨g, hg⟩ : ∃ g, q.g = g + 1 := by
    cases e : q.g with
    | zero => rw [e] at hfin; simp only [ends, hne] at hfin; cases hfin
    | succ g => exact ⟨g, rfl⟩
  rw [hg] at hfin htgt hlen
  simp only [ends, chain, hne, Bool.false_or, cond_false] at hfin htgt
  rw [hg]
  refine ⟨⟨?_, ?_, hfin, ?_⟩, by simp⟩
  · rcases hin v (List.mem_of_getElem? hv) with e | e
    · rw [hi, e] at hne; simp at hne
    · rw [hi]; exact e
  · simp only [List.length_append, List.length_cons, List.length_nil]
    show q.acc.length + 1 + g ≤ _
    omega
  · show (q.acc ++ [iget takes q.c]) ++ chain takes g (iget takes q.c) = tgt
    rw [List.append_assoc]; exact htgt
theorem FInv2.done {takes : List Int} {tgt : List Int} {q : FG2} (h : FInv2 takes tgt q) (hc : (iget takes q.c != -1) = false) : q.acc = tgt := by
  have hne : (iget takes q.c == -1) = true := by simpa [bne] using hc
  have htgt := h.tgt
  cases e : q.g with
  | zero => rw [e] at htgt; simpa [chain] using htgt
  | succ g => rw [e] at htgt; simpa [chain, hne] using htgt
def BFunc.headOf (f : BFunc) (k : Nat) : Bool := (f.reach[k]?).getD false && !((f.takenAt f.reach f.blocks.length)[k]?).getD false
def BFunc.tk (f : BFunc) : List Int := f.takes f.reach
structure BFunc.tame (f : BFunc) : Prop where
  mild : f.blocks.length ≤ 1000
  ins : ∀ x ∈ f.blocks, x.ins.length ≤ 10000
  leads : f.leads
  ends : ∀ k, f.headOf k = true → ends f.tk f.tk.length k = true
end Go.Proofs.Ytjmjmedjjbginaa.Sv

namespace Go.Proofs.Ytjmjmedjjbginaa.Sv
open Go

def withinB (a b : List Bool) : Bool := (a.zip b).all (fun p => !(p.1 && !p.2))
theorem zip_get2 {a b : List Bool} {k : Nat} {p q : Bool} (hp : a[k]? = some p) (hq : b[k]? = some q) : (a.zip b)[k]? = some (p, q) := by
  rw [List.getElem?_zip_eq_some]; exact ⟨hp, hq⟩
theorem within_get {a b : List Bool} (h : withinB a b = true) (hl : a.length ≤ b.length) {k : Nat} (ha : a[k]? = some true) : b[k]? = some true := by
  obtain ⟨q, hq⟩ := get_of_lt (l := b) (k := k) (by have := (List.getElem?_eq_some_iff.1 ha).1; omega)
  have := List.all_eq_true.1 h _ (List.mem_of_getElem? (zip_get2 ha hq))
  rw [hq]; simpa using this
theorem within_refl (a : List Bool) : withinB a a = true := by
  unfold withinB
  rw [List.all_eq_true]
  intro p hp
  obtain ⟨k, hk⟩ := List.getElem?_of_mem hp
  rw [List.getElem?_zip_eq_some] at hk
  have := hk.1.symm.trans hk.2
  simp only [Option.some.injEq] at this
  rw [this]; simp
theorem within_both {a b : List Bool} (hl : a.length = b.length) (h1 : withinB a b = true) (h2 : withinB b a = true) : a = b := by
  refine List.ext_getElem? fun k => ?_
  cases ha : a[k]? with
  | none => rw [List.getElem?_eq_none_iff] at ha; exact (List.getElem?_eq_none_iff.2 (by omega)).symm
  | some p =>
    obtain ⟨q, hq⟩ := get_of_lt (l := b) (k := k) (by have := (List.getElem?_eq_some_iff.1 ha).1; omega)
    rw [hq]
    cases p with
    | true => rw [within_get h1 (by omega) ha] at hq; exact hq.symm ▸ rfl
    | false =>
      cases q with
      | false => rfl
      | true => rw [within_get h2 (by omega) hq] at ha; cases ha
theorem rows_ne1 {p q : List Bool} (h : (((p.map fun b => [AV.bool b]).length : Int) != ((q.map fun b => [AV.bool b]).length : Int)) = true) : ¬ p = q := fun e => by subst e; simp at h
theorem rows_ne2 {p q : List Bool} (h : (!withinB p q) = true) : ¬ p = q := fun e => by subst e; rw [within_refl] at h; cases h
theorem rows_ne3 {p q : List Bool} (h : (!withinB q p) = true) : ¬ p = q := fun e => by subst e; rw [within_refl] at h; cases h
theorem rows_eq {p q : List Bool} (hl : p.length = q.length) (h1 : (!withinB p q) = false) (h2 : (!withinB q p) = false) : p = q := within_both hl (by simpa using h1) (by simpa using h2)
theorem bne_eq' {a b : Int} (h : (a != b) = false) : a = b := by simpa using h
theorem bne_ne' {a b : Int} (h : (a != b) = true) : ¬ a = b := by simpa using h
set_option maxRecDepth 100000 in
theorem dpure_ok (t : Tac) : APure Try.prog 10 [.agg t.cells] (fun r => r = .bool t.pure) := by
 refine APure.of_body (n := 19) tok Try.func10 rfl rfl ?_
 refine AGo.seq ?_
 refine AGo.region ?_
 refine ax 1 (o_box (sz := 8) 0 rfl rfl rfl rfl (Nat.zero_lt_succ _) rfl) ?_
 refine aa 2 ?_
 refine AOps.nil ?_
 refine AGo.seq ?_
 refine AGo.seq ?_
 refine AGo.region ?_
 refine af 3 tok ?_
 refine al 4 tok ?_
 refine AOps.nil ?_
 refine AGo.block ?_
 refine AGo.seq ?_
 refine AGo.seq ?_
 refine AGo.region ?_
 refine aq 6 (q_bin rfl rfl rfl rfl) ?_
 refine aa 5 ?_
 refine AOps.nil ?_
 refine AGo.split 5 rfl (fun hb1 => ?_) (fun hb1 => ?_)
 ·
  refine AGo.cond_true true rfl rfl ?_
  refine AGo.skip ?_
  refine AGo.cond_true true rfl rfl ?_
  refine AGo.seq ?_
  refine AGo.region ?_
  refine aa 2 ?_
  refine AOps.nil ?_
  refine AGo.ret ?_
  refine ⟨[_], ⟨rfl, trivial⟩, ?_, rfl⟩
  show AV.bool _ = AV.bool _
  congr 1
  unfold Tac.pure
  first
  | (simp_all; done)
  | (simp_all [bne]; done)
 ·
  refine AGo.cond_false false rfl rfl ?_
  refine AGo.seq ?_
  refine AGo.region ?_
  refine aq 7 (q_bin rfl rfl rfl rfl) ?_
  refine aa 5 ?_
  refine AOps.nil ?_
  refine AGo.split 5 rfl (fun hb2 => ?_) (fun hb2 => ?_)
  ·
   refine AGo.cond_true true rfl rfl ?_
   refine AGo.skip ?_
   refine AGo.cond_true true rfl rfl ?_
   refine AGo.seq ?_
   refine AGo.region ?_
   refine aa 2 ?_
   refine AOps.nil ?_
   refine AGo.ret ?_
   refine ⟨[_], ⟨rfl, trivial⟩, ?_, rfl⟩
   show AV.bool _ = AV.bool _
   congr 1
   unfold Tac.pure
   first
   | (simp_all; done)
   | (simp_all [bne]; done)
  ·
   refine AGo.cond_false false rfl rfl ?_
   refine AGo.region ?_
   refine aq 8 (q_bin rfl rfl rfl rfl) ?_
   refine aa 5 ?_
   refine AOps.nil ?_
   refine AGo.split 5 rfl (fun hb3 => ?_) (fun hb3 => ?_)
   ·
    refine AGo.cond_true true rfl rfl ?_
    refine AGo.seq ?_
    refine AGo.region ?_
    refine aa 2 ?_
    refine AOps.nil ?_
    refine AGo.ret ?_
    refine ⟨[_], ⟨rfl, trivial⟩, ?_, rfl⟩
    show AV.bool _ = AV.bool _
    congr 1
    unfold Tac.pure
    first
    | (simp_all; done)
    | (simp_all [bne]; done)
   ·
    refine AGo.cond_false false rfl rfl ?_
    refine AGo.seq ?_
    refine AGo.region ?_
    refine aq 10 (q_bin rfl rfl rfl rfl) ?_
    refine aa 9 ?_
    refine AOps.nil ?_
    refine AGo.split 9 rfl (fun hb4 => ?_) (fun hb4 => ?_)
    ·
     refine AGo.cond_true true rfl rfl ?_
     refine AGo.seq ?_
     refine AGo.region ?_
     refine af 11 tok ?_
     refine al 12 tok ?_
     refine aq 13 (q_bin rfl rfl rfl rfl) ?_
     refine am 14 ?_
     refine AOps.split 14 rfl (fun hb5 => ?_) (fun hb5 => ?_)
     ·
      refine af 15 tok ?_
      refine al 16 tok ?_
      refine aq 17 (q_bin rfl rfl rfl rfl) ?_
      refine aq 18 (q_pick_true true rfl rfl rfl rfl) ?_
      refine aa 2 ?_
      refine AOps.nil ?_
      refine AGo.ret ?_
      refine ⟨[_], ⟨rfl, trivial⟩, ?_, rfl⟩
      show AV.bool _ = AV.bool _
      congr 1
      unfold Tac.pure
      first
      | (simp_all; done)
      | (simp_all [bne]; done)
     ·
      refine ak 15 ?_
      refine ak 16 ?_
      refine ak 17 ?_
      refine aq 18 (q_pick_false false rfl rfl rfl rfl) ?_
      refine aa 2 ?_
      refine AOps.nil ?_
      refine AGo.ret ?_
      refine ⟨[_], ⟨rfl, trivial⟩, ?_, rfl⟩
      show AV.bool _ = AV.bool _
      congr 1
      unfold Tac.pure
      first
      | (simp_all; done)
      | (simp_all [bne]; done)
    ·
     refine AGo.cond_false false rfl rfl ?_
     refine AGo.skip ?_
     refine AGo.seq ?_
     refine AGo.region ?_
     refine aa 2 ?_
     refine AOps.nil ?_
     refine AGo.ret ?_
     refine ⟨[_], ⟨rfl, trivial⟩, ?_, rfl⟩
     show AV.bool _ = AV.bool _
     congr 1
     unfold Tac.pure
     first
     | (simp_all; done)
     | (simp_all [bne]; done)

set_option maxRecDepth 100000 in
theorem rwithin_ok (a b : List Bool) (hl : a.length ≤ b.length) (hb : a.length ≤ 100000) : APure Try.prog 33 [boolsAV a, boolsAV b] (fun r => r = .bool (withinB a b)) := by
 refine APure.of_body (n := 23) tok Try.func33 rfl rfl ?_
 refine AGo.seq ?_
 refine AGo.region ?_
 refine aa 4 ?_
 refine AOps.nil ?_
 refine AGo.seq ?_
 refine AGo.seq ?_
 refine AGo.region ?_
 refine aa 5 ?_
 refine AOps.nil ?_
 refine AGo.block ?_
 refine AGo.loopI (γ := Nat) (fun k => ⟨23, (eput (eput (eput eNew 0 (boolsAV a)) 1 (boolsAV b)) 5 (.int .i64 (k : Int))), hNone⟩) (fun k => k ≤ a.length ∧ ((a.zip b).take k).all (fun p => !(p.1 && !p.2)) = true) (fun k => a.length - k) 0 (Sub.mk' z53q z18q) ⟨Nat.zero_le _, rfl⟩ ?_
 intro k ⟨hk, hall⟩
 refine AGo.seq ?_
 refine AGo.seq ?_
 refine AGo.region ?_
 refine am 6 ?_
 refine am 7 ?_
 refine aq 8 (q_len tok rfl rfl rfl rfl rfl) ?_
 refine aq 9 (q_bin rfl rfl rfl rfl) ?_
 refine AOps.nil ?_
 refine AGo.split 9 rfl (fun hb1 => ?_) (fun hb1 => ?_)
 ·
  refine AGo.cond_true true rfl rfl ?_
  have hkl : k < a.length := by have h := hb1; simp [boolsAV] at h; exact h
  obtain ⟨p, hp⟩ := get_of_lt hkl
  obtain ⟨q, hq⟩ := get_of_lt (l := b) (k := k) (by omega)
  refine AGo.skip ?_
  refine AGo.seq ?_
  refine AGo.block ?_
  refine AGo.seq ?_
  refine AGo.region ?_
  refine am 12 ?_
  refine am 13 ?_
  refine aq 14 (q_index_lst tok rfl rfl rfl rfl rfl rfl (Int.natCast_nonneg _) (idx_map hp) rfl) ?_
  refine al 15 tok ?_
  refine am 16 ?_
  refine AOps.split 16 rfl (fun hb2 => ?_) (fun hb2 => ?_)
  ·
   have hpv := hb2
   refine am 17 ?_
   refine am 18 ?_
   refine aq 19 (q_index_lst tok rfl rfl rfl rfl rfl rfl (Int.natCast_nonneg _) (idx_map hq) rfl) ?_
   refine al 20 tok ?_
   refine aq 21 (q_not rfl rfl) ?_
   refine aq 22 (q_pick_true true rfl rfl rfl rfl) ?_
   refine AOps.nil ?_
   refine AGo.split 22 rfl (fun hb3 => ?_) (fun hb3 => ?_)
   ·
    refine AGo.cond_true true rfl rfl ?_
    have hbad := hb3
    refine AGo.seq ?_
    refine AGo.region ?_
    refine aa 4 ?_
    refine AOps.nil ?_
    refine AGo.ret ?_
    refine ⟨[_], ⟨rfl, trivial⟩, ?_, rfl⟩
    show AV.bool _ = AV.bool _
    congr 1
    exact (all_bad (zip_get2 hp hq) (by simp [hpv, hbad])).symm
   ·
    refine AGo.cond_false false rfl rfl ?_
    have hgood : (p && !q) = false := by first | (rw [hpv]; exact hb3) | (rw [hb3]; rfl)
    refine AGo.skip ?_
    refine AGo.region ?_
    refine am 10 ?_
    refine aq 11 (q_inc rfl rfl hkl (by simp only [maxLen]; omega)) ?_
    refine aa 5 ?_
    refine AOps.nil ?_
    exact ⟨k+1, Sub.mk' z53q z18q, ⟨hkl, all_succ (zip_get2 hp hq) hall (by simp [hgood])⟩, by omega⟩
  ·
   refine ak 17 ?_
   refine ak 18 ?_
   refine ak 19 ?_
   refine ak 20 ?_
   refine ak 21 ?_
   refine aq 22 (q_pick_false false rfl rfl rfl rfl) ?_
   refine AOps.nil ?_
   refine AGo.cond_false false rfl rfl ?_
   have hgood : (p && !q) = false := by first | (rw [hpv]; exact hb2) | (rw [hb2]; rfl)
   refine AGo.skip ?_
   refine AGo.region ?_
   refine am 10 ?_
   refine aq 11 (q_inc rfl rfl hkl (by simp only [maxLen]; omega)) ?_
   refine aa 5 ?_
   refine AOps.nil ?_
   exact ⟨k+1, Sub.mk' z53q z18q, ⟨hkl, all_succ (zip_get2 hp hq) hall (by simp [hgood])⟩, by omega⟩
 ·
  refine AGo.cond_false false rfl rfl ?_
  have hge : a.length ≤ k := by have h := hb1; simp [boolsAV] at h; omega
  refine AGo.exit ?_
  refine AGo.seq ?_
  refine AGo.region ?_
  refine aa 4 ?_
  refine AOps.nil ?_
  refine AGo.ret ?_
  refine ⟨[_], ⟨rfl, trivial⟩, ?_, rfl⟩
  show AV.bool _ = AV.bool _
  congr 1
  exact (all_end hall (by rw [List.length_zip]; omega)).symm

set_option maxHeartbeats 1000000 in
set_option maxRecDepth 100000 in
theorem rrows_ok (a b : List (List Bool)) (ha : a.length ≤ 100000) (hra : ∀ r ∈ a, r.length ≤ 100000) : APure Try.prog 17 [rowsAV a, rowsAV b] (fun r => r = .bool (decide (a = b))) := by
 refine APure.of_body (n := 52) tok Try.func17 rfl rfl ?_
 refine AGo.seq ?_
 refine AGo.region ?_
 refine aa 4 ?_
 refine AOps.nil ?_
 refine AGo.seq ?_
 refine AGo.seq ?_
 refine AGo.region ?_
 refine am 6 ?_
 refine aq 7 (q_len tok rfl rfl rfl rfl rfl) ?_
 refine am 8 ?_
 refine aq 9 (q_len tok rfl rfl rfl rfl rfl) ?_
 refine aq 10 (q_bin rfl rfl rfl rfl) ?_
 refine AOps.nil ?_
 refine AGo.split 10 rfl (fun hb1 => ?_) (fun hb1 => ?_)
 ·
  refine AGo.cond_true true rfl rfl ?_
  have hne : ¬ a = b := fun e => by have h := bne_ne' hb1; rw [List.length_map, List.length_map, e] at h; exact h rfl
  refine AGo.seq ?_
  refine AGo.region ?_
  refine aa 4 ?_
  refine AOps.nil ?_
  refine AGo.ret ?_
  refine ⟨[_], ⟨rfl, trivial⟩, ?_, rfl⟩
  show AV.bool _ = AV.bool _
  congr 1
  exact (decide_eq_false hne).symm
 ·
  refine AGo.cond_false false rfl rfl ?_
  have hlen : a.length = b.length := by have h := bne_eq' hb1; rw [List.length_map, List.length_map] at h; omega
  refine AGo.skip ?_
  refine AGo.seq ?_
  refine AGo.seq ?_
  refine AGo.region ?_
  refine aa 5 ?_
  refine AOps.nil ?_
  refine AGo.block ?_
  refine AGo.loopI (γ := Nat) (fun k => ⟨52, (eput (eput (eput eNew 0 (rowsAV a)) 1 (rowsAV b)) 5 (.int .i64 (k : Int))), hNone⟩) (fun k => k ≤ a.length ∧ a.take k = b.take k) (fun k => a.length - k) 0 (Sub.mk' z53q z18q) ⟨Nat.zero_le _, rfl⟩ ?_
  intro k ⟨hk, hall⟩
  refine AGo.seq ?_
  refine AGo.seq ?_
  refine AGo.region ?_
  refine am 11 ?_
  refine am 12 ?_
  refine aq 13 (q_len tok rfl rfl rfl rfl rfl) ?_
  refine aq 14 (q_bin rfl rfl rfl rfl) ?_
  refine AOps.nil ?_
  refine AGo.split 14 rfl (fun hb2 => ?_) (fun hb2 => ?_)
  ·
   refine AGo.cond_true true rfl rfl ?_
   have hkl : k < a.length := by have h := hb2; simp [rowsAV] at h; exact h
   obtain ⟨p, hp⟩ := get_of_lt hkl
   obtain ⟨q, hq⟩ := get_of_lt (l := b) (k := k) (by omega)
   have hpl := hra p (List.mem_of_getElem? hp)
   refine AGo.skip ?_
   refine AGo.seq ?_
   refine AGo.block ?_
   refine AGo.seq ?_
   refine AGo.draw mix ?_
   refine dm 17 ?_
   refine dm 18 ?_
   refine dq 19 (q_index_lst tok rfl rfl rfl rfl rfl rfl (Int.natCast_nonneg _) (idx_map hp) rfl) ?_
   refine dl 20 tok ?_
   refine dq 21 (q_len tok rfl rfl rfl rfl rfl) ?_
   refine dm 22 ?_
   refine dm 23 ?_
   refine dq 24 (q_index_lst tok rfl rfl rfl rfl rfl rfl (Int.natCast_nonneg _) (idx_map hq) rfl) ?_
   refine dl 25 tok ?_
   refine dq 26 (q_len tok rfl rfl rfl rfl rfl) ?_
   refine dq 27 (q_bin rfl rfl rfl rfl) ?_
   refine dm 28 ?_
   refine DOps.split 28 rfl (fun hb3 => ?_) (fun hb3 => ?_)
   ·
    refine dk 29 ?_
    refine dk 30 ?_
    refine dk 31 ?_
    refine dk 32 ?_
    refine dk 33 ?_
    refine dk 34 ?_
    refine dk 35 ?_
    refine dk 36 ?_
    refine dk 37 ?_
    refine dk 38 ?_
    refine dq 39 (q_pick_true true rfl rfl rfl rfl) ?_
    refine dm 40 ?_
    refine dk 41 ?_
    refine dk 42 ?_
    refine dk 43 ?_
    refine dk 44 ?_
    refine dk 45 ?_
    refine dk 46 ?_
    refine dk 47 ?_
    refine dk 48 ?_
    refine dk 49 ?_
    refine dk 50 ?_
    refine dq 51 (q_pick_true true rfl rfl rfl rfl) ?_
    refine DOps.nil (by kernel_rfl) ?_
    refine AGo.cond_true true rfl rfl ?_
    have hne : ¬ p = q := by first | exact rows_ne1 hb3 | exact rows_ne1 hlb | exact rows_ne2 hb3 | exact rows_ne3 hb3
    refine AGo.seq ?_
    refine AGo.region ?_
    refine aa 4 ?_
    refine AOps.nil ?_
    refine AGo.ret ?_
    refine ⟨[_], ⟨rfl, trivial⟩, ?_, rfl⟩
    show AV.bool _ = AV.bool _
    congr 1
    exact (decide_eq_false (fun e => hne (by rw [e, hq] at hp; cases hp; rfl))).symm
   ·
    have hlb := hb3
    have hlb2 : p.length = q.length := by have h := bne_eq' hb3; rw [List.length_map, List.length_map] at h; omega
    refine dm 29 ?_
    refine dm 30 ?_
    refine dq 31 (q_index_lst tok rfl rfl rfl rfl rfl rfl (Int.natCast_nonneg _) (idx_map hp) rfl) ?_
    refine dl 32 tok ?_
    refine dm 33 ?_
    refine dm 34 ?_
    refine dq 35 (q_index_lst tok rfl rfl rfl rfl rfl rfl (Int.natCast_nonneg _) (idx_map hq) rfl) ?_
    refine dl 36 tok ?_
    refine dx 37 (o_pure rfl Try.func33 (by kernel_rfl) rfl rfl rfl (rwithin_ok p q (by omega) (by omega))) ?_
    refine dq 38 (q_not rfl rfl) ?_
    refine dq 39 (q_pick_false false rfl rfl rfl rfl) ?_
    refine dm 40 ?_
    refine DOps.split 40 rfl (fun hb4 => ?_) (fun hb4 => ?_)
    ·
     refine dk 41 ?_
     refine dk 42 ?_
     refine dk 43 ?_
     refine dk 44 ?_
     refine dk 45 ?_
     refine dk 46 ?_
     refine dk 47 ?_
     refine dk 48 ?_
     refine dk 49 ?_
     refine dk 50 ?_
     refine dq 51 (q_pick_true true rfl rfl rfl rfl) ?_
     refine DOps.nil (by kernel_rfl) ?_
     refine AGo.cond_true true rfl rfl ?_
     have hne : ¬ p = q := by first | exact rows_ne1 hb4 | exact rows_ne1 hlb | exact rows_ne2 hb4 | exact rows_ne3 hb4
     refine AGo.seq ?_
     refine AGo.region ?_
     refine aa 4 ?_
     refine AOps.nil ?_
     refine AGo.ret ?_
     refine ⟨[_], ⟨rfl, trivial⟩, ?_, rfl⟩
     show AV.bool _ = AV.bool _
     congr 1
     exact (decide_eq_false (fun e => hne (by rw [e, hq] at hp; cases hp; rfl))).symm
    ·
     have hw1 := hb4
     refine dm 41 ?_
     refine dm 42 ?_
     refine dq 43 (q_index_lst tok rfl rfl rfl rfl rfl rfl (Int.natCast_nonneg _) (idx_map hq) rfl) ?_
     refine dl 44 tok ?_
     refine dm 45 ?_
     refine dm 46 ?_
     refine dq 47 (q_index_lst tok rfl rfl rfl rfl rfl rfl (Int.natCast_nonneg _) (idx_map hp) rfl) ?_
     refine dl 48 tok ?_
     refine dx 49 (o_pure rfl Try.func33 (by kernel_rfl) rfl rfl rfl (rwithin_ok q p (by omega) (by omega))) ?_
     refine dq 50 (q_not rfl rfl) ?_
     refine dq 51 (q_pick_false false rfl rfl rfl rfl) ?_
     refine DOps.nil (by kernel_rfl) ?_
     refine AGo.split 51 rfl (fun hb5 => ?_) (fun hb5 => ?_)
     ·
      refine AGo.cond_true true rfl rfl ?_
      have hne : ¬ p = q := by first | exact rows_ne1 hb5 | exact rows_ne1 hlb | exact rows_ne2 hb5 | exact rows_ne3 hb5
      refine AGo.seq ?_
      refine AGo.region ?_
      refine aa 4 ?_
      refine AOps.nil ?_
      refine AGo.ret ?_
      refine ⟨[_], ⟨rfl, trivial⟩, ?_, rfl⟩
      show AV.bool _ = AV.bool _
      congr 1
      exact (decide_eq_false (fun e => hne (by rw [e, hq] at hp; cases hp; rfl))).symm
     ·
      refine AGo.cond_false false rfl rfl ?_
      have heq : p = q := rows_eq hlb2 hw1 hb5
      refine AGo.skip ?_
      refine AGo.region ?_
      refine am 15 ?_
      refine aq 16 (q_inc rfl rfl hkl (by simp only [maxLen]; omega)) ?_
      refine aa 5 ?_
      refine AOps.nil ?_
      exact ⟨k+1, Sub.mk' z53q z18q, ⟨hkl, by rw [take_succ_eq hp, take_succ_eq hq, hall, heq]⟩, by omega⟩
  ·
   refine AGo.cond_false false rfl rfl ?_
   have hge : a.length ≤ k := by have h := hb2; simp [rowsAV] at h; omega
   refine AGo.exit ?_
   refine AGo.seq ?_
   refine AGo.region ?_
   refine aa 4 ?_
   refine AOps.nil ?_
   refine AGo.ret ?_
   refine ⟨[_], ⟨rfl, trivial⟩, ?_, rfl⟩
   show AV.bool _ = AV.bool _
   congr 1
   exact (decide_eq_true (take_all hall hge (by omega))).symm

end Go.Proofs.Ytjmjmedjjbginaa.Sv

namespace Go.Proofs.Ytjmjmedjjbginaa.Sv
open Go

set_option maxHeartbeats 2000000 in
set_option maxRecDepth 100000 in
theorem dregister_ok (f : BFunc) (hs : f.sane) (R : Nat) (hRf : f.regs = (R : Int)) (st : RS) (hq : QI R st) (v : Nat) (hv : v < R) (hn : f.blocks.length ≤ 100000) (hR : R ≤ 100000) (hi : ∀ x ∈ f.blocks, x.ins.length ≤ 100000) : ACall Try.prog 27 [.ptr 2 1 0 0, .int .i64 (v : Int)] (DH (DSL f R (SB f) (st.es) (st.ws.length) (st.w)) (DF f R (SB f) st.G)) (fun r h' => r = .tup [] ∧ HSub (putD hNone (DH (DSL f R (SB f) (regR f v st).es (regR f v st).ws.length (regR f v st).w) (DF f R (SB f) (regR f v st).G))) h') := by
 obtain ⟨inn, hinn⟩ : ∃ inn : Nat → Bool, inn = fun b => inB (cutF f st.G) v b := ⟨_, rfl⟩
 refine ACall.of_body (n := 109) tok Try.func27 rfl rfl ?_
 refine AGo.seq ?_
 refine AGo.seq ?_
 refine AGo.region ?_
 refine am 13 ?_
 refine aq 14 (q_nilCheck rfl rfl rfl) ?_
 refine af 15 tok ?_
 refine al 16 tok ?_
 refine am 17 ?_
 refine aq 18 (q_index_ref tok rfl rfl rfl rfl rfl rfl rfl (colF_len _ _).symm rfl (Int.natCast_nonneg _) (by omega)) ?_
 refine aq 19 (q_load tok rfl rfl rfl (.ptr _ _ _ _ _ _ _ [oR f.blocks.length R (SB f) v] z28q (colF_len _ _).symm z56q) rfl) ?_
 refine aq 20 (q_lenJ tok rfl rfl rfl rfl) ?_
 refine aq 21 (q_bin rfl rfl rfl rfl) ?_
 refine AOps.nil ?_
 refine AGo.split 21 rfl (fun hb1 => ?_) (fun hb1 => ?_)
 ·
  refine AGo.cond_true true rfl rfl ?_
  have hz0 : (gsB f v).length = 0 := by have h := hb1; rw [grs_len] at h; simp only [beq_iff_eq] at h; exact Int.ofNat_inj.1 h
  refine AGo.ret ?_
  rw [regR_zero hz0]
  exact ⟨[], trivial, rfl, (dh_sub rfl z58q z24q)⟩
 ·
  refine AGo.cond_false false rfl rfl ?_
  skip
  refine AGo.skip ?_
  refine AGo.seq ?_
  refine AGo.region ?_
  refine am 22 ?_
  refine am 23 ?_
  refine AOps.call 24 (hn := putD _ (DH (DSL f R (SB f) (st.es) (st.ws.length) (st.w)) (DF f R (SB f) st.G))) (r := boolsAV (mrow f.blocks.length inn)) rfl rfl rfl (o_callDH (DSL f R (SB f) (st.es) (st.ws.length) (st.w)) (DSL f R (SB f) (st.es) (st.ws.length) (st.w)) (DF f R (SB f) st.G) rfl Try.func47 (by kernel_rfl) rfl rfl rfl rfl rfl (DSL_avoid _ _ _ _ _ _) (DSL_avoid _ _ _ _ _ _) z52q z24q (DF_avoid kD_hi f R _ _) (DF_avoid kD_hi f R _ _) rfl (by rw [hinn]; exact dmatters_ok f hs R st.G st.es st.ws.length st.w v hv hn hR hi)) ?_
  refine aa 4 ?_
  refine AOps.nil ?_
  refine AGo.seq ?_
  refine AGo.region ?_
  refine am 25 ?_
  refine aq 26 (q_nilCheck rfl rfl rfl) ?_
  refine af 27 tok ?_
  refine al 28 tok ?_
  refine am 29 ?_
  refine aq 30 (q_index_ref tok rfl rfl rfl rfl rfl rfl z28q (colF_len _ _).symm rfl (Int.natCast_nonneg _) (by omega)) ?_
  refine aq 31 (q_load tok rfl rfl rfl (.ptr _ _ _ _ _ _ _ [oR f.blocks.length R (SB f) v] z28q (colF_len _ _).symm z56q) rfl) ?_
  refine aq 32 (q_lenJ tok rfl rfl rfl rfl) ?_
  refine am 33 ?_
  refine AOps.nil ?_
  refine AGo.block ?_
  refine AGo.loopK (γ := Nat) (kf 8) (fun k => ⟨109, (eput (eput (eput (eput (eput (eput eNew 0 (.ptr 2 1 0 0)) 1 (.int .i64 (v : Int))) 4 (boolsAV (mrow f.blocks.length inn))) 31 (oR f.blocks.length R (SB f) v)) 32 (.int .i64 ((grs f.blocks.length R (SB f) v).length : Int))) 33 (.int .i64 (k : Int))), (fam (nb [.free, .free, (.row false 8 [SDc f R ((regK f inn v st k).es).length ((regK f inn v st k).ws.length)]), (.row false 1 (colF (aR (aheadL f)) f.blocks.length)), (.row false 1 (colF (oR f.blocks.length R (SB f)) R)), (.row false 1 (colF (gR f) f.blocks.length)), (.row true 1 ((regK f inn v st k).es)), (.row true 1 (bC R ((regK f inn v st k).w)))]) (DF f R (SB f) (regK f inn v st k).G))⟩) (fun k => k ≤ (gsB f v).length ∧ QI R (regK f inn v st k)) (fun k => (gsB f v).length - k) 0 (Sub.mk' (by repeat (first | exact ESub.new _ | refine ESub.put ?_ (by first | rfl))) (famSub (k0 := 8) rfl z7q z24q (fun c h1 h2 => by rcases (by omega : c = 8 ∨ c = 9 ∨ c = 10 ∨ c = 11 ∨ c = 12 ∨ c = 13 ∨ c = 14 ∨ c = 15) with rfl | rfl | rfl | rfl | rfl | rfl | rfl | rfl <;> first | rfl | (try simp only [hputs]; repeat (first | rfl | refine hput_skip (by exact beq_false_of_ne (by omega)) ?_ | refine hrm_skip (by omega) ?_))))) ⟨Nat.zero_le _, hq⟩ (fun g b hb => famFree (k0 := 8) rfl hb) ?_
  intro k hQ
  generalize hK : (regK f inn v st k) = q at hQ ⊢
  refine AGo.seq ?_
  refine AGo.region ?_
  refine aq 34 (q_bin rfl rfl rfl rfl) ?_
  refine AOps.nil ?_
  refine AGo.seq ?_
  refine AGo.split 34 rfl (fun hb2 => ?_) (fun hb2 => ?_)
  ·
   refine AGo.cond_true true rfl rfl ?_
   have hkl : k < (gsB f v).length := by have h := hb2; rw [grs_len] at h; simp only [decide_eq_true_eq] at h; exact Int.ofNat_lt.1 h
   obtain ⟨i, hgi⟩ := get_of_lt hkl
   have hig : i < f.blocks.length ∧ 0 < (SB f i v).length := gsS_get (S := SB f) hgi
   obtain ⟨x, hx⟩ := get_of_lt hig.1
   have hxm := List.mem_of_getElem? hx
   refine AGo.skip ?_
   refine AGo.seq ?_
   refine AGo.block ?_
   refine AGo.seq ?_
   refine AGo.region ?_
   refine aq 35 (q_indexP tok rfl rfl rfl rfl rfl rfl ((fam_hi _ _ _).trans (congrArg some (DF_grp hv))) rfl (Int.natCast_nonneg _) (by rw [grs_len]; exact Int.ofNat_lt.2 hkl)) ?_
   refine aq 36 (q_load tok rfl rfl rfl (.ptr _ _ _ _ false 2 (grs f.blocks.length R (SB f) v) (grC R (SB f) v i) ((fam_hi _ _ _).trans (congrArg some ((DF_grp hv).trans (slP_at (k := k) (by rw [grs_len]; exact hkl))))) rfl (by rw [Int.toNat_natCast]; show ((gsB f v).map (grC R (SB f) v))[_]? = _; rw [List.getElem?_map, hgi]; rfl)) rfl) ?_
   refine ax 6 (o_alloc tok 8 rfl rfl z28q rfl (Nat.zero_lt_succ _) rfl) ?_
   refine AOps.w rfl rfl (o_store tok rfl rfl rfl rfl rfl rfl rfl rfl rfl (by decide) rfl z61q) ?_
   refine AOps.nil ?_
   refine AGo.seq ?_
   refine AGo.region ?_
   refine aa 7 ?_
   refine AOps.nil ?_
   refine AGo.seq ?_
   refine AGo.seq ?_
   refine AGo.draw mix ?_
   refine dm 37 ?_
   refine dq 38 (q_nilCheck rfl rfl rfl) ?_
   refine df 39 tok ?_
   refine dl 40 tok ?_
   refine df 41 tok ?_
   refine dl 42 tok ?_
   refine dq 43 (q_index_lst tok rfl rfl rfl rfl rfl rfl (Int.natCast_nonneg _) (idx_map (nexts_get hx)) rfl) ?_
   refine dl 44 tok ?_
   refine dq 45 (q_len tok rfl rfl rfl rfl rfl) ?_
   refine dm 46 ?_
   refine DOps.nil (by kernel_rfl) ?_
   refine AGo.block ?_
   refine AGo.loopK (γ := Nat) (kf 9) (fun j => ⟨109, (eput (eput (eput (eput (eput (eput (eput (eput (eput (eput (eput eNew 0 (.ptr 2 1 0 0)) 1 (.int .i64 (v : Int))) 4 (boolsAV (mrow f.blocks.length inn))) 31 (oR f.blocks.length R (SB f) v)) 32 (.int .i64 ((grs f.blocks.length R (SB f) v).length : Int))) 33 (.int .i64 (k : Int))) 6 (.ptr 8 1 0 0)) 7 (.bool (anyK inn x j))) 44 (intsAV x.nexts)) 45 (.int .i64 (x.nexts.length : Int))) 46 (.int .i64 (j : Int))), (fam (nb [.free, .free, (.row false 8 [SDc f R (q.es).length (q.ws.length)]), (.row false 1 (colF (aR (aheadL f)) f.blocks.length)), (.row false 1 (colF (oR f.blocks.length R (SB f)) R)), (.row false 1 (colF (gR f) f.blocks.length)), (.row true 1 (q.es)), (.row true 1 (bC R (q.w))), (.row false 2 [grC R (SB f) v i])]) (DF f R (SB f) q.G))⟩) (fun j => True) (fun j => x.nexts.length - j) 0 (Sub.mk' z44q (famSub (k0 := 9) rfl z8q z42q (fun c h1 h2 => by rcases (by omega : c = 9 ∨ c = 10 ∨ c = 11 ∨ c = 12 ∨ c = 13 ∨ c = 14 ∨ c = 15) with rfl | rfl | rfl | rfl | rfl | rfl | rfl <;> first | rfl | (try simp only [hputs]; repeat (first | rfl | refine hput_skip (by exact beq_false_of_ne (by omega)) ?_ | refine hrm_skip (by omega) ?_))))) trivial (fun g b hb => famFree (k0 := 9) rfl hb) ?_
   intro j _
   refine AGo.seq ?_
   refine AGo.region ?_
   refine aq 47 (q_bin rfl rfl rfl rfl) ?_
   refine AOps.nil ?_
   refine AGo.seq ?_
   refine AGo.split 47 rfl (fun hb3 => ?_) (fun hb3 => ?_)
   ·
    refine AGo.cond_true true rfl rfl ?_
    have hjl : j < x.nexts.length := by have h := hb3; simp [intsAV] at h; exact h
    obtain ⟨d, hd⟩ := get_of_lt hjl
    have hd0 := hs.next x hxm d (List.mem_of_getElem? hd)
    have hdn : d.toNat < f.blocks.length := by omega
    refine AGo.skip ?_
    refine AGo.seq ?_
    refine AGo.block ?_
    refine AGo.seq ?_
    refine AGo.region ?_
    refine aq 48 (q_index_lst tok rfl rfl rfl rfl rfl rfl (Int.natCast_nonneg _) (idx_map hd) rfl) ?_
    refine al 49 tok ?_
    refine aa 9 ?_
    refine AOps.nil ?_
    refine AGo.region ?_
    refine am 50 ?_
    refine am 51 ?_
    refine AOps.split 51 rfl (fun hb4 => ?_) (fun hb4 => ?_)
    ·
     refine ak 52 ?_
     refine ak 53 ?_
     refine ak 54 ?_
     refine ak 55 ?_
     refine aq 56 (q_pick_true true rfl rfl rfl rfl) ?_
     refine aa 7 ?_
     refine AOps.nil ?_
     refine AGo.region ?_
     refine aq 57 (q_inc rfl rfl hjl (by simp only [maxLen]; have := nexts_le2 x; omega)) ?_
     refine am 46 ?_
     refine AOps.nil ?_
     exact ⟨j + 1, DropK.mk' z15q (famDrop (k0 := 9) rfl z22q z42q (DF_avoid (kf_hi' _) f R _ _)), trivial, (by omega)⟩
    ·
     refine am 52 ?_
     refine am 53 ?_
     have hz9 := hb4
     refine aq 54 (q_index_lst tok rfl rfl rfl rfl rfl rfl hd0.1 (idx_map (mrow_get hdn)) rfl) ?_
     refine al 55 tok ?_
     refine aq 56 (q_pick_false false rfl rfl rfl rfl) ?_
     refine aa 7 ?_
     refine AOps.nil ?_
     refine AGo.region ?_
     refine aq 57 (q_inc rfl rfl hjl (by simp only [maxLen]; have := nexts_le2 x; omega)) ?_
     refine am 46 ?_
     refine AOps.nil ?_
     exact ⟨j + 1, DropK.mk' z15q (famDrop (k0 := 9) rfl z22q z42q (DF_avoid (kf_hi' _) f R _ _)), trivial, (by omega)⟩
   ·
    refine AGo.cond_false false rfl rfl ?_
    have hjge : x.nexts.length ≤ j := by have h := hb3; simp [intsAV] at h; omega
    refine AGo.exit ?_
    refine AGo.seq ?_
    refine AGo.region ?_
    refine af 58 tok ?_
    refine al 59 tok ?_
    refine aq 60 (q_len tok rfl rfl rfl rfl rfl) ?_
    refine aq 61 (q_bin (r := .int .i64 ((((siB f v i).length - 0 : Nat) : Int) - 1)) rfl rfl rfl (rem_first (by have h1 : (SB f i v).length ≤ x.ins.length + 1 := siB_len hx; have := hi x hxm; omega))) ?_
    refine aa 10 ?_
    refine AOps.nil ?_
    refine AGo.block ?_
    refine AGo.loopK (γ := Nat) (kf 9) (fun m => ⟨109, (eput (eput (eput (eput (eput (eput (eput (eput (eput eNew 0 (.ptr 2 1 0 0)) 1 (.int .i64 (v : Int))) 4 (boolsAV (mrow f.blocks.length inn))) 31 (oR f.blocks.length R (SB f) v)) 32 (.int .i64 ((grs f.blocks.length R (SB f) v).length : Int))) 33 (.int .i64 (k : Int))) 6 (.ptr 8 1 0 0)) 7 (.bool (sitesR inn v x i q m).2)) 10 (.int .i64 ((((siB f v i).length - m : Nat) : Int) - 1))), (fam (nb [.free, .free, (.row false 8 [SDc f R ((sitesR inn v x i q m).1.es).length ((sitesR inn v x i q m).1.ws.length)]), (.row false 1 (colF (aR (aheadL f)) f.blocks.length)), (.row false 1 (colF (oR f.blocks.length R (SB f)) R)), (.row false 1 (colF (gR f) f.blocks.length)), (.row true 1 ((sitesR inn v x i q m).1.es)), (.row true 1 (bC R ((sitesR inn v x i q m).1.w))), (.row false 2 [grC R (SB f) v i])]) (DF f R (SB f) (sitesR inn v x i q m).1.G))⟩) (fun m => m ≤ (siB f v i).length ∧ QI R (sitesR inn v x i q m).1) (fun m => (siB f v i).length - m) 0 (Sub.mk' (by repeat (first | exact ESub.new _ | refine ESub.put ?_ (by first | rfl | exact congrArg (fun z => some (AV.bool z)) (anyK_end hjge) | exact congrArg (fun (n : Nat) => some (AV.int .i64 (n : Int))) (by simp)))) (famSub (k0 := 9) rfl z8q z42q (fun c h1 h2 => by rcases (by omega : c = 9 ∨ c = 10 ∨ c = 11 ∨ c = 12 ∨ c = 13 ∨ c = 14 ∨ c = 15) with rfl | rfl | rfl | rfl | rfl | rfl | rfl <;> first | rfl | (try simp only [hputs]; repeat (first | rfl | refine hput_skip (by exact beq_false_of_ne (by omega)) ?_ | refine hrm_skip (by omega) ?_))))) ⟨Nat.zero_le _, hQ.2⟩ (fun g b hb => famFree (k0 := 9) rfl hb) ?_
    intro m hF
    generalize hS2 : (sitesR inn v x i q m) = S2 at hF ⊢
    refine AGo.seq ?_
    refine AGo.seq ?_
    refine AGo.region ?_
    refine am 62 ?_
    refine aq 63 (q_bin rfl rfl rfl rfl) ?_
    refine AOps.nil ?_
    refine AGo.split 63 rfl (fun hb5 => ?_) (fun hb5 => ?_)
    ·
     refine AGo.cond_true true rfl rfl ?_
     obtain ⟨kk, hkk⟩ : ∃ kk, m + kk + 1 = (siB f v i).length := ⟨(siB f v i).length - m - 1, by have h := hb5; simp at h; omega⟩
     obtain ⟨s, hsk⟩ := get_of_lt (l := siB f v i) (k := kk) (by omega)
     have hat := site_at hx hsk
     rw [show (((siB f v i).length - m : Nat) : Int) - 1 = (kk : Int) by omega]
     refine AGo.skip ?_
     refine AGo.seq ?_
     refine AGo.block ?_
     refine AGo.seq ?_
     refine AGo.region ?_
     refine af 66 tok ?_
     refine al 67 tok ?_
     refine am 68 ?_
     refine aq 69 (q_index_ref tok rfl rfl rfl rfl rfl rfl ((fam_hi _ _ _).trans (congrArg some (DF_site hv hig.2))) (List.length_map _).symm rfl (Int.natCast_nonneg _) (by show ((kk : Nat) : Int) < ((siB f v i).length : Int); omega)) ?_
     refine aq 70 (q_load tok rfl rfl rfl (.ptr _ _ _ _ true 3 ((siB f v i).map siC) (siC s) ((fam_hi _ _ _).trans (congrArg some (DF_site hv hig.2))) (List.length_map _).symm (by rw [Nat.zero_add, Int.toNat_natCast, List.getElem?_map, hsk]; rfl)) rfl) ?_
     refine ax 11 (o_alloc tok 9 rfl rfl z28q rfl (Nat.zero_lt_succ _) rfl) ?_
     refine AOps.w rfl rfl (o_store tok rfl rfl rfl rfl rfl rfl rfl rfl rfl (by decide) rfl z61q) ?_
     refine AOps.nil ?_
     refine AGo.seq ?_
     refine AGo.seq ?_
     refine AGo.region ?_
     refine am 71 ?_
     refine af 72 tok ?_
     refine al 73 tok ?_
     refine al 74 tok ?_
     refine AOps.call 75 (hn := putD _ (DH (DSL f R (SB f) (S2.1.es) (S2.1.ws.length) (S2.1.w)) (DF f R (SB f) S2.1.G))) (r := .bool (leftS (S2.1.G i) x.ins.length s)) rfl rfl rfl (o_callDH (DSL f R (SB f) (S2.1.es) (S2.1.ws.length) (S2.1.w)) (DSL f R (SB f) (S2.1.es) (S2.1.ws.length) (S2.1.w)) (DF f R (SB f) S2.1.G) rfl Try.func48 (by kernel_rfl) rfl rfl rfl rfl rfl (DSL_avoid _ _ _ _ _ _) (DSL_avoid _ _ _ _ _ _) z52q z24q (DF_avoid kD_hi f R _ _) (DF_avoid kD_hi f R _ _) rfl (dleft_ok f R (SB f) S2.1.G S2.1.es S2.1.ws.length S2.1.w i x hx s hat)) ?_
     refine aq 76 (q_not rfl rfl) ?_
     refine AOps.nil ?_
     refine AGo.split 76 rfl (fun hb6 => ?_) (fun hb6 => ?_)
     ·
      refine AGo.cond_true true rfl rfl ?_
      have hlf : leftS (S2.1.G i) x.ins.length s = false := by have h := hb6; simpa using h
      have hnx2 : sitesR inn v x i q (m + 1) = S2 := by rw [sitesR_succ (by rw [← siB_eq hx]; exact hsk) (by rw [← siB_eq hx]; exact hkk), hS2]; exact siteR_skip hlf
      refine AGo.exit ?_
      refine AGo.region ?_
      refine am 64 ?_
      refine aq 65 (q_bin (r := .int .i64 ((((siB f v i).length - (m + 1) : Nat) : Int) - 1)) rfl rfl rfl (rem_k hkk z59q)) ?_
      refine aa 10 ?_
      refine AOps.nil ?_
      exact ⟨m + 1, DropK.mk' z27q (famDrop (k0 := 9) rfl z6q z19q (DF_avoid (kf_hi' _) f R _ _)), ⟨by omega, by rw [hnx2]; exact hF.2⟩, (by omega)⟩
     ·
      refine AGo.cond_false false rfl rfl ?_
      have hlf : leftS (S2.1.G i) x.ins.length s = true := by have h := hb6; simpa using h
      refine AGo.skip ?_
      refine AGo.seq ?_
      refine AGo.seq ?_
      refine AGo.region ?_
      refine af 77 tok ?_
      refine al 78 tok ?_
      refine AOps.nil ?_
      refine AGo.split 78 rfl (fun hb7 => ?_) (fun hb7 => ?_)
      ·
       refine AGo.cond_true true rfl rfl ?_
       have hss : s.s = true := hb7
       obtain ⟨t, ht⟩ := site_tac hx hsk hss
       have htu : ∀ u ∈ t.uses, 0 ≤ u ∧ u < R := fun u hu => by have := (hs.low x hxm t (List.mem_of_getElem? ht)).2 u hu; rw [hRf] at this; exact this
       refine AGo.seq ?_
       refine AGo.seq ?_
       refine AGo.draw mix ?_
       refine dm 79 ?_
       refine dq 80 (q_nilCheck rfl rfl rfl) ?_
       refine df 81 tok ?_
       refine df 82 tok ?_
       refine dl 83 tok ?_
       refine df 84 tok ?_
       refine dl 85 tok ?_
       refine dq 86 (q_index_lst tok rfl rfl rfl rfl rfl rfl (Int.natCast_nonneg _) (idx_map hx) rfl) ?_
       refine df 87 tok ?_
       refine dl 88 tok ?_
       refine df 89 tok ?_
       refine dl 90 tok ?_
       refine dq 91 (q_index_lst tok rfl rfl rfl rfl rfl rfl (Int.natCast_nonneg _) (idx_map ht) rfl) ?_
       refine dl 92 tok ?_
       refine dx 12 (o_alloc tok 10 rfl rfl z28q rfl (Nat.zero_lt_succ _) rfl) ?_
       refine DOps.w rfl rfl (o_store tok rfl rfl rfl rfl rfl rfl rfl rfl rfl (by decide) rfl z61q) ?_
       refine DOps.nil (by kernel_rfl) ?_
       refine AGo.seq ?_
       refine AGo.region ?_
       refine am 93 ?_
       refine aq 94 (q_not rfl rfl) ?_
       refine am 95 ?_
       refine AOps.split 95 rfl (fun hb8 => ?_) (fun hb8 => ?_)
       ·
        refine al 96 tok ?_
        have hz := hb8
        refine ax 97 (o_pure rfl Try.func10 (by kernel_rfl) rfl rfl rfl (dpure_ok _)) ?_
        refine aq 98 (q_pick_true true rfl rfl rfl rfl) ?_
        refine AOps.nil ?_
        refine AGo.split 98 rfl (fun hb9 => ?_) (fun hb9 => ?_)
        ·
         refine AGo.cond_true true rfl rfl ?_
         have hnx2 : sitesR inn v x i q (m + 1) = (leaveR i s.at_ t.uses S2.1, S2.2) := by rw [sitesR_succ (by rw [← siB_eq hx]; exact hsk) (by rw [← siB_eq hx]; exact hkk), hS2]; exact siteR_leave hlf ht hss (by have h := hz; simpa using h) hb9
         refine AGo.seq ?_
         refine AGo.region ?_
         refine am 99 ?_
         refine af 100 tok ?_
         refine al 101 tok ?_
         refine af 102 tok ?_
         refine al 103 tok ?_
         refine al 104 tok ?_
         refine AOps.call 105 (hn := putD _ (DH (DSL f R (SB f) ((leaveR i s.at_ t.uses S2.1).es) ((leaveR i s.at_ t.uses S2.1).ws.length) ((leaveR i s.at_ t.uses S2.1).w)) (DF f R (SB f) (leaveR i s.at_ t.uses S2.1).G))) (r := .tup []) rfl rfl rfl (o_callDH (DSL f R (SB f) (S2.1.es) (S2.1.ws.length) (S2.1.w)) (DSL f R (SB f) ((leaveR i s.at_ t.uses S2.1).es) ((leaveR i s.at_ t.uses S2.1).ws.length) ((leaveR i s.at_ t.uses S2.1).w)) (DF f R (SB f) (leaveR i s.at_ t.uses S2.1).G) rfl Try.func49 (by kernel_rfl) rfl rfl rfl rfl rfl (DSL_avoid _ _ _ _ _ _) (DSL_avoid _ _ _ _ _ _) z52q z24q (DF_avoid kD_hi f R _ _) (DF_avoid kD_hi f R _ _) rfl (dleave_ok f R (SB f) S2.1.G S2.1.es S2.1.ws S2.1.w i s.at_ x hx (List.getElem?_eq_some_iff.1 ht).1 t htu hR hF.2)) ?_
         refine AOps.nil ?_
         refine AGo.exit ?_
         refine AGo.region ?_
         refine am 64 ?_
         refine aq 65 (q_bin (r := .int .i64 ((((siB f v i).length - (m + 1) : Nat) : Int) - 1)) rfl rfl rfl (rem_k hkk z59q)) ?_
         refine aa 10 ?_
         refine AOps.nil ?_
         exact ⟨m + 1, DropK.mk' z27q (famDrop (k0 := 9) rfl z6q z19q (DF_avoid (kf_hi' _) f R _ _)), ⟨by omega, by rw [hnx2]; exact hF.2.leaveR htu⟩, (by omega)⟩
        ·
         refine AGo.cond_false false rfl rfl ?_
         have hk2 : s.s = true → ∀ t, x.ins[s.at_]? = some t → (!S2.2 && t.pure) = false := fun _ t' e => by
           rw [ht] at e; cases e
           first | (rw [show t.pure = false from hb9]; exact Bool.and_false _) | (rw [hz]; rfl)
         refine AGo.skip ?_
         refine AGo.region ?_
         refine aa 7 ?_
         refine AOps.nil ?_
         refine AGo.seq ?_
         refine AGo.region ?_
         refine af 106 tok ?_
         refine al 107 tok ?_
         refine AOps.nil ?_
         refine AGo.split 107 rfl (fun hb10 => ?_) (fun hb10 => ?_)
         ·
          refine AGo.cond_true true rfl rfl ?_
          have hr : s.r = true := hb10
          have hnx2 : sitesR inn v x i q (m + 1) = (S2.1, s.r || (!s.s && S2.2)) := by rw [sitesR_succ (by rw [← siB_eq hx]; exact hsk) (by rw [← siB_eq hx]; exact hkk), hS2]; exact siteR_keep hlf hk2
          refine AGo.region ?_
          refine aa 7 ?_
          refine AOps.nil ?_
          refine AGo.region ?_
          refine am 64 ?_
          refine aq 65 (q_bin (r := .int .i64 ((((siB f v i).length - (m + 1) : Nat) : Int) - 1)) rfl rfl rfl (rem_k hkk z59q)) ?_
          refine aa 10 ?_
          refine AOps.nil ?_
          exact ⟨m + 1, DropK.mk' z27q (famDrop (k0 := 9) rfl z6q z19q (DF_avoid (kf_hi' _) f R _ _)), ⟨by omega, by rw [hnx2]; exact hF.2⟩, (by omega)⟩
         ·
          refine AGo.cond_false false rfl rfl ?_
          have hr : s.r = false := hb10
          have hnx2 : sitesR inn v x i q (m + 1) = (S2.1, s.r || (!s.s && S2.2)) := by rw [sitesR_succ (by rw [← siB_eq hx]; exact hsk) (by rw [← siB_eq hx]; exact hkk), hS2]; exact siteR_keep hlf hk2
          refine AGo.skip ?_
          refine AGo.region ?_
          refine am 64 ?_
          refine aq 65 (q_bin (r := .int .i64 ((((siB f v i).length - (m + 1) : Nat) : Int) - 1)) rfl rfl rfl (rem_k hkk z59q)) ?_
          refine aa 10 ?_
          refine AOps.nil ?_
          exact ⟨m + 1, DropK.mk' z27q (famDrop (k0 := 9) rfl z6q z19q (DF_avoid (kf_hi' _) f R _ _)), ⟨by omega, by rw [hnx2]; exact hF.2⟩, (by omega)⟩
       ·
        refine ak 96 ?_
        have hz := hb8
        refine ak 97 ?_
        refine aq 98 (q_pick_false false rfl rfl rfl rfl) ?_
        refine AOps.nil ?_
        refine AGo.cond_false false rfl rfl ?_
        have hk2 : s.s = true → ∀ t, x.ins[s.at_]? = some t → (!S2.2 && t.pure) = false := fun _ t' e => by
          rw [ht] at e; cases e
          first | (rw [show t.pure = false from hb8]; exact Bool.and_false _) | (rw [hz]; rfl)
        refine AGo.skip ?_
        refine AGo.region ?_
        refine aa 7 ?_
        refine AOps.nil ?_
        refine AGo.seq ?_
        refine AGo.region ?_
        refine af 106 tok ?_
        refine al 107 tok ?_
        refine AOps.nil ?_
        refine AGo.split 107 rfl (fun hb11 => ?_) (fun hb11 => ?_)
        ·
         refine AGo.cond_true true rfl rfl ?_
         have hr : s.r = true := hb11
         have hnx2 : sitesR inn v x i q (m + 1) = (S2.1, s.r || (!s.s && S2.2)) := by rw [sitesR_succ (by rw [← siB_eq hx]; exact hsk) (by rw [← siB_eq hx]; exact hkk), hS2]; exact siteR_keep hlf hk2
         refine AGo.region ?_
         refine aa 7 ?_
         refine AOps.nil ?_
         refine AGo.region ?_
         refine am 64 ?_
         refine aq 65 (q_bin (r := .int .i64 ((((siB f v i).length - (m + 1) : Nat) : Int) - 1)) rfl rfl rfl (rem_k hkk z59q)) ?_
         refine aa 10 ?_
         refine AOps.nil ?_
         exact ⟨m + 1, DropK.mk' z27q (famDrop (k0 := 9) rfl z6q z19q (DF_avoid (kf_hi' _) f R _ _)), ⟨by omega, by rw [hnx2]; exact hF.2⟩, (by omega)⟩
        ·
         refine AGo.cond_false false rfl rfl ?_
         have hr : s.r = false := hb11
         have hnx2 : sitesR inn v x i q (m + 1) = (S2.1, s.r || (!s.s && S2.2)) := by rw [sitesR_succ (by rw [← siB_eq hx]; exact hsk) (by rw [← siB_eq hx]; exact hkk), hS2]; exact siteR_keep hlf hk2
         refine AGo.skip ?_
         refine AGo.region ?_
         refine am 64 ?_
         refine aq 65 (q_bin (r := .int .i64 ((((siB f v i).length - (m + 1) : Nat) : Int) - 1)) rfl rfl rfl (rem_k hkk z59q)) ?_
         refine aa 10 ?_
         refine AOps.nil ?_
         exact ⟨m + 1, DropK.mk' z27q (famDrop (k0 := 9) rfl z6q z19q (DF_avoid (kf_hi' _) f R _ _)), ⟨by omega, by rw [hnx2]; exact hF.2⟩, (by omega)⟩
      ·
       refine AGo.cond_false false rfl rfl ?_
       have hss : s.s = false := hb7
       have hk2 : s.s = true → ∀ t, x.ins[s.at_]? = some t → (!S2.2 && t.pure) = false := fun e => by rw [hss] at e; cases e
       refine AGo.skip ?_
       refine AGo.seq ?_
       refine AGo.region ?_
       refine af 106 tok ?_
       refine al 107 tok ?_
       refine AOps.nil ?_
       refine AGo.split 107 rfl (fun hb12 => ?_) (fun hb12 => ?_)
       ·
        refine AGo.cond_true true rfl rfl ?_
        have hr : s.r = true := hb12
        have hnx2 : sitesR inn v x i q (m + 1) = (S2.1, s.r || (!s.s && S2.2)) := by rw [sitesR_succ (by rw [← siB_eq hx]; exact hsk) (by rw [← siB_eq hx]; exact hkk), hS2]; exact siteR_keep hlf hk2
        refine AGo.region ?_
        refine aa 7 ?_
        refine AOps.nil ?_
        refine AGo.region ?_
        refine am 64 ?_
        refine aq 65 (q_bin (r := .int .i64 ((((siB f v i).length - (m + 1) : Nat) : Int) - 1)) rfl rfl rfl (rem_k hkk z59q)) ?_
        refine aa 10 ?_
        refine AOps.nil ?_
        exact ⟨m + 1, DropK.mk' z27q (famDrop (k0 := 9) rfl z6q z19q (DF_avoid (kf_hi' _) f R _ _)), ⟨by omega, by rw [hnx2]; exact hF.2⟩, (by omega)⟩
       ·
        refine AGo.cond_false false rfl rfl ?_
        have hr : s.r = false := hb12
        have hnx2 : sitesR inn v x i q (m + 1) = (S2.1, s.r || (!s.s && S2.2)) := by rw [sitesR_succ (by rw [← siB_eq hx]; exact hsk) (by rw [← siB_eq hx]; exact hkk), hS2]; exact siteR_keep hlf hk2
        refine AGo.skip ?_
        refine AGo.region ?_
        refine am 64 ?_
        refine aq 65 (q_bin (r := .int .i64 ((((siB f v i).length - (m + 1) : Nat) : Int) - 1)) rfl rfl rfl (rem_k hkk z59q)) ?_
        refine aa 10 ?_
        refine AOps.nil ?_
        exact ⟨m + 1, DropK.mk' z27q (famDrop (k0 := 9) rfl z6q z19q (DF_avoid (kf_hi' _) f R _ _)), ⟨by omega, by rw [hnx2]; exact hF.2⟩, (by omega)⟩
    ·
     refine AGo.cond_false false rfl rfl ?_
     have hmge : (siB f v i).length ≤ m := by have h := hb5; simp at h; omega
     have hnx : regK f inn v st (k + 1) = S2.1 := by rw [← regK_next hgi hx hmge, hK, hS2]
     refine AGo.exit ?_
     refine AGo.region ?_
     refine aq 108 (q_inc rfl rfl hkl z45q) ?_
     refine am 33 ?_
     refine AOps.nil ?_
     exact ⟨k + 1, DropK.mk' (by repeat (first | exact EDropK.new _ _ | refine EDropK.put ?_ (by first | rfl | exact congrArg (fun (n : Nat) => some (AV.int .i64 (n : Int))) (by simp)) (by first | rfl | exact oR_avoid (kf_hi' _) _ _ _ _))) (famDrop (k0 := 8) rfl (by repeat (first | exact trivial | refine ⟨⟨by first | rfl | exact putD_yes rfl | (rw [hnx]; first | rfl | exact putD_yes rfl), by first | rfl | exact colF_avoid (fun _ _ => aR_avoid (kf_hi' _) _ _) | exact colF_avoid (fun _ _ => oR_avoid (kf_hi' _) _ _ _ _) | exact colF_avoid (fun _ _ => gR_avoid (kf_hi' _) _ _) | exact gb_avoid _⟩, ?_⟩)) (fun x_ => by rw [hnx]; (try simp only [hputs]); (try dsimp only); first | exact fam_hi _ _ _ | exact (putD_hi _ _ x_).trans (fam_hi _ _ _)) (DF_avoid (kf_hi' _) f R _ _)), ⟨hkl, by rw [hnx]; exact hF.2⟩, (by omega)⟩
  ·
   refine AGo.cond_false false rfl rfl ?_
   have hkge : (gsB f v).length ≤ k := by have h := hb2; rw [grs_len] at h; simp only [decide_eq_false_iff_not] at h; exact Nat.le_of_not_lt fun e => h (Int.ofNat_lt.2 e)
   refine AGo.exit ?_
   have hkk0 : k = (gsB f v).length := by omega
   have hreg : regR f v st = q := by rw [← hK, hkk0, hinn]; rfl
   rw [hreg]
   exact ⟨[], trivial, rfl, (dh_sub rfl z58q z24q)⟩

end Go.Proofs.Ytjmjmedjjbginaa.Sv

namespace Go.Proofs.Ytjmjmedjjbginaa.Sv
open Go

set_option maxHeartbeats 2000000 in
set_option maxRecDepth 100000 in
theorem dnote_ok (n R : Nat) (S : SS) (v i p : Nat) (hv : v < R) (hi0 : i < n) (hlast : ∀ j, i < j → S j v = []) (hlen : (S i v).length ≤ 1000000) (hn : n ≤ 100000) (c0 c1 c2 c3 c5 c6 c7 : AV) (r3 r5 r6 r7 : AObj) (r0 r1 : Nat → AObj) : ACall Try.prog 44 [.ptr 2 1 0 0, .int .i64 (v : Int), .int .i64 (i : Int), .int .i64 (p : Int)] (DH [(.row false 8 [[c0, c1, c2, c3, .ref 4 R 0 R, c5, c6, c7]]), r3, (.row false 1 (colF (oR n R S) R)), r5, r6, r7] (F4 r0 r1 (rO4 n R S) (rS4 R S))) (fun r h' => r = .ptr (4 * (v + R * i) + 3 + 16) (noteL (S i v) p).length ((noteL (S i v) p).length - 1) 0 ∧ HSub (putD hNone (DH [(.row false 8 [[c0, c1, c2, c3, .ref 4 R 0 R, c5, c6, c7]]), r3, (.row false 1 (colF (oR n R (setS S i v (noteL (S i v) p))) R)), r5, r6, r7] (F4 r0 r1 (rO4 n R (setS S i v (noteL (S i v) p))) (rS4 R (setS S i v (noteL (S i v) p)))))) h') := by
 have hpl := pastS_len S i v
 have hgl := gsS_len S n v
 refine ACall.of_body (n := 94) tok Try.func44 rfl rfl ?_
 refine AGo.seq ?_
 refine AGo.region ?_
 refine aa 8 ?_
 refine AOps.nil ?_
 refine AGo.seq ?_
 refine AGo.region ?_
 refine am 11 ?_
 refine aq 12 (q_nilCheck rfl rfl rfl) ?_
 refine af 13 tok ?_
 refine al 14 tok ?_
 refine am 15 ?_
 refine aq 16 (q_index_ref tok rfl rfl rfl rfl rfl rfl rfl (colF_len _ _).symm rfl (Int.natCast_nonneg _) (by omega)) ?_
 refine aq 17 (q_load tok rfl rfl rfl (.ptr _ _ _ _ _ _ _ [oR n R S v] rfl (colF_len _ _).symm z56q) rfl) ?_
 refine aa 9 ?_
 refine AOps.nil ?_
 refine AGo.seq ?_
 refine AGo.seq ?_
 refine AGo.region ?_
 refine am 18 ?_
 refine aq 19 (q_lenJ tok rfl rfl rfl rfl) ?_
 refine aq 20 (q_bin rfl rfl rfl rfl) ?_
 refine am 21 ?_
 refine AOps.split 21 rfl (fun hb1 => ?_) (fun hb1 => ?_)
 ·
  refine ak 22 ?_
  refine ak 23 ?_
  refine ak 24 ?_
  refine ak 25 ?_
  refine ak 26 ?_
  refine ak 27 ?_
  refine ak 28 ?_
  refine ak 29 ?_
  refine ak 30 ?_
  refine aq 31 (q_pick_true true rfl rfl rfl rfl) ?_
  refine AOps.nil ?_
  refine AGo.join (γ := Unit) (fun _u => ⟨94, (eput (eput (eput (eput (eput eNew 0 (.ptr 2 1 0 0)) 1 (.int .i64 (v : Int))) 2 (.int .i64 (i : Int))) 3 (.int .i64 (p : Int))) 9 (.ref (4 * v + 2 + 16) ((pastS S i v).length + 1) 0 ((pastS S i v).length + 1))), (DH [(.row false 8 [[c0, c1, c2, c3, .ref 4 R 0 R, c5, c6, c7]]), r3, (.row false 1 (colF (oX n R S v i) R)), r5, r6, r7] (F4 r0 r1 (rOX n R S v i (S i v)) (rS4 R S)))⟩) (fun _u => True) ?_ ?_
  ·
   refine AGo.cond_true true rfl rfl ?_
   have hS0 : S i v = [] := by
     first
     | exact note_new2 hi0 hlast hj0 (by omega) (by have h := hb1; simp at h; omega)
     | exact note_new1 hi0 hlast (eq0_zero hb1)
   have hoR : oR n R S v = slA (4 * v + 2 + 16) (pastC R S v i) := by unfold oR; rw [grs_not hi0 hlast hS0]
   rw [hoR]
   refine AGo.seq ?_
   refine AGo.region ?_
   refine am 32 ?_
   refine am 33 ?_
   refine aq 34 (q_build tok rfl rfl rfl rfl rfl (by decide) rfl rfl rfl) ?_
   refine ax 35 (o_lit' tok rfl rfl rfl rfl rfl rfl (by decide) rfl rfl rfl rfl rfl rfl) ?_
   refine ax 36 (o_append1S tok (b := (4 * v + 2 + 16)) (es := pastC R S v i) (x0 := [.int .i64 (i : Int), .nil]) rfl rfl rfl rfl rfl rfl rfl rfl ((fam_hi _ _ _).trans (congrArg some ((rO4_at hv).trans (by rw [grs_not hi0 hlast hS0])))) rfl rfl (Nat.zero_lt_succ _) (.lst _ _) rfl (by rw [pastC_len]; show _ * 32 ≤ _; omega) (by rw [pastC_len]; simp only [maxLen]; omega)) ?_
   refine aa 9 ?_
   refine AOps.nil ?_
   refine AGo.ghost (Ghost.weakRowF (4 * v + 2 + 16) (es' := pastC R S v i ++ [[.int .i64 (i : Int), slA (4 * (v + R * i) + 3 + 16) []]]) z28q (by simp) (weak_snoc (show WkAll [AV.int .i64 (i : Int), .nil] _ from ⟨Wk.refl _, Wk.nil _, trivial⟩))) ?_
   refine AGo.region ?_
   refine am 37 ?_
   refine aq 38 (q_nilCheck rfl rfl rfl) ?_
   refine af 39 tok ?_
   refine al 40 tok ?_
   refine am 41 ?_
   refine am 42 ?_
   refine aq 43 (q_index_ref tok rfl rfl rfl rfl rfl rfl rfl (colF_len _ _).symm rfl (Int.natCast_nonneg _) (by omega)) ?_
   refine AOps.w rfl rfl (o_store1 tok (p := false) (sz := 1) (es := colF (oR n R S) R) (cs := [oR n R S v]) rfl rfl rfl rfl rfl rfl z28q (colF_len _ _).symm z56q (slA_cells _ _) (by decide) (slA_cell1 _ _) (by intro h; cases h)) ?_
   refine AOps.nil ?_
   exact ⟨(), Sub.mk' z43q (dh_full rfl rfl rfl (by repeat (first | exact trivial | refine ⟨by first | rfl | exact congrArg (fun es => some (AObj.row false 1 es)) (oX_put (pastC_len _ _ _ _)), ?_⟩)) z26q (fun c h1 h2 => by rcases (by omega : c = 8 ∨ c = 9 ∨ c = 10 ∨ c = 11 ∨ c = 12 ∨ c = 13 ∨ c = 14 ∨ c = 15) with rfl | rfl | rfl | rfl | rfl | rfl | rfl | rfl <;> first | rfl | (try simp only [hputs]; repeat (first | rfl | refine hput_skip (by exact beq_false_of_ne (by omega)) ?_ | refine hrm_skip (by omega) ?_)))), trivial⟩
  intro _ _
  refine AGo.seq ?_
  refine AGo.region ?_
  refine am 44 ?_
  refine am 45 ?_
  refine aq 46 (q_len tok rfl rfl rfl rfl rfl) ?_
  refine aq 47 (q_bin (r := .int .i64 (((pastS S i v).length : Nat) : Int)) rfl rfl rfl (sub_1 (L := (pastS S i v).length + 1) (Nat.succ_pos _) (by omega))) ?_
  refine aq 48 (q_index_ref tok rfl rfl rfl rfl rfl rfl ((fam_hi _ _ _).trans (congrArg some (rOX_at))) z66q rfl (Int.natCast_nonneg _) (by omega)) ?_
  refine aa 10 ?_
  refine AOps.nil ?_
  refine AGo.seq ?_
  refine AGo.seq ?_
  refine AGo.draw mix ?_
  refine dm 49 ?_
  refine dq 50 (q_nilCheck rfl rfl rfl) ?_
  refine df 51 tok ?_
  refine dq 52 (q_load tok rfl rfl rfl (.ptr _ _ _ _ false 2 (pastC R S v i ++ [grX R v i (S i v)]) (grX R v i (S i v)) ((fam_hi _ _ _).trans (congrArg some (rOX_at))) z66q z60q) rfl) ?_
  refine dq 53 (q_lenJ tok rfl rfl rfl rfl) ?_
  refine dq 54 (q_bin rfl rfl rfl rfl) ?_
  refine dm 55 ?_
  refine DOps.split 55 rfl (fun hb2 => ?_) (fun hb2 => ?_)
  ·
   refine dk 56 ?_
   refine dk 57 ?_
   refine dk 58 ?_
   refine dk 59 ?_
   refine dk 60 ?_
   refine dk 61 ?_
   refine dk 62 ?_
   refine dk 63 ?_
   refine dk 64 ?_
   refine dk 65 ?_
   refine dk 66 ?_
   refine dk 67 ?_
   refine dk 68 ?_
   refine dk 69 ?_
   refine dk 70 ?_
   refine dq 71 (q_pick_true true rfl rfl rfl rfl) ?_
   refine DOps.nil (by kernel_rfl) ?_
   refine AGo.join (γ := Unit) (fun _u => ⟨94, (eput eNew 10 (.ptr (4 * v + 2 + 16) ((pastS S i v).length + 1) (0 + (((pastS S i v).length : Nat) : Int).toNat) 0)), (DH [(.row false 8 [[c0, c1, c2, c3, .ref 4 R 0 R, c5, c6, c7]]), r3, (.row false 1 (colF (oX n R S v i) R)), r5, r6, r7] (F4 r0 r1 (rOX n R S v i (noteL (S i v) p)) (rSX R S v i (noteL (S i v) p))))⟩) (fun _u => True) ?_ ?_
   ·
    refine AGo.cond_true true rfl rfl ?_
    have hnl : noteL (S i v) p = S i v ++ [⟨p, false, false⟩] := by
      first
      | exact noteL_new hs0 (by omega) (by have h := hb2; simp at h; omega)
      | (have h0 : (S i v).length = 0 := (by have h := hb2; first | exact eq0_zero h | (rw [List.length_map] at h; exact eq0_zero h)); rw [len_nil h0]; rfl)
    refine AGo.region ?_
    refine am 72 ?_
    refine am 73 ?_
    refine aq 74 (q_nilCheck rfl rfl rfl) ?_
    refine af 75 tok ?_
    refine aq 76 (q_load tok rfl rfl rfl (.ptr _ _ _ _ false 2 (pastC R S v i ++ [grX R v i (S i v)]) (grX R v i (S i v)) ((fam_hi _ _ _).trans (congrArg some (rOX_at))) z66q z60q) rfl) ?_
    refine am 77 ?_
    refine aq 78 (q_build tok rfl rfl rfl rfl rfl (by decide) rfl rfl rfl) ?_
    refine ax 79 (o_lit' tok rfl rfl rfl rfl rfl rfl (by decide) rfl rfl rfl rfl rfl rfl) ?_
    refine ax 80 (o_append1J tok (b := (4 * (v + R * i) + 3 + 16)) (es := (S i v).map siC) rfl rfl rfl rfl rfl rfl rfl rfl ((fam_hi _ _ _).trans (congrArg some (rS4_F hv))) rfl rfl (Nat.zero_lt_succ _) (si_len _) (one_pure fun _ => rfl) rfl rfl (by rw [List.length_map]; show (_ + 1) * 16 ≤ _; omega) (by rw [List.length_map]; simp only [maxLen]; omega)) ?_
    refine aq 81 (q_nilCheck rfl rfl rfl) ?_
    refine af 82 tok ?_
    refine AOps.w rfl rfl (o_store1 tok (p := false) (sz := 2) (es := (pastC R S v i ++ [grX R v i (S i v)])) (cs := grX R v i (S i v)) rfl rfl rfl rfl rfl rfl z35q z66q z60q (slA_cells _ _) (by decide) (slA_cell1 _ _) (by intro h; cases h)) ?_
    refine AOps.nil ?_
    exact ⟨(), Sub.mk' z53q (dh_full rfl rfl rfl z58q z10q (fun c h1 h2 => by rcases (by omega : c = 8 ∨ c = 9 ∨ c = 10 ∨ c = 11 ∨ c = 12 ∨ c = 13 ∨ c = 14 ∨ c = 15) with rfl | rfl | rfl | rfl | rfl | rfl | rfl | rfl <;> first | rfl | (try simp only [hputs]; repeat (first | rfl | refine hput_skip (by exact beq_false_of_ne (by omega)) ?_ | refine hrm_skip (by omega) ?_)))), trivial⟩
   intro _ _
   refine AGo.seq ?_
   refine AGo.draw mix ?_
   refine dm 83 ?_
   refine dq 84 (q_nilCheck rfl rfl rfl) ?_
   refine df 85 tok ?_
   refine dq 86 (q_load tok rfl rfl rfl (.ptr _ _ _ _ false 2 (pastC R S v i ++ [grX R v i (noteL (S i v) p)]) (grX R v i (noteL (S i v) p)) ((fam_hi _ _ _).trans (congrArg some (rOX_at))) z66q z60q) rfl) ?_
   refine dm 87 ?_
   refine dq 88 (q_nilCheck rfl rfl rfl) ?_
   refine df 89 tok ?_
   refine dq 90 (q_load tok rfl rfl rfl (.ptr _ _ _ _ false 2 (pastC R S v i ++ [grX R v i (noteL (S i v) p)]) (grX R v i (noteL (S i v) p)) ((fam_hi _ _ _).trans (congrArg some (rOX_at))) z66q z60q) rfl) ?_
   refine dq 91 (q_lenJ tok rfl rfl rfl rfl) ?_
   refine dq 92 (q_bin (r := .int .i64 (((noteL (S i v) p).length - 1 : Nat) : Int)) rfl rfl rfl z50q) ?_
   refine dq 93 (q_indexJ tok (b := (4 * (v + R * i) + 3 + 16)) (es := (noteL (S i v) p).map siC) rfl rfl rfl rfl rfl rfl ((fam_hi _ _ _).trans (congrArg some (rSX_at))) rfl (Int.natCast_nonneg _) (by rw [List.length_map]; have := noteL_pos (S i v) p; omega)) ?_
   refine da 8 ?_
   refine DOps.nil (by kernel_rfl) ?_
   refine AGo.ret ?_
   refine ⟨[_], ⟨rfl, trivial⟩, ?_, ?_⟩
   · show AV.ptr _ _ _ _ = AV.ptr _ _ _ _
     rw [List.length_map, Int.toNat_natCast]
   · rw [← oX_eq hi0 hlast (noteL_pos _ _), ← rOX_eq hv hi0 hlast (noteL_pos _ _), ← rSX_eq hv]
     exact dh_sub rfl z58q (fun x_ => by dsimp only; exact fam_hi _ _ _)
  ·
   have hs1 : 0 < (S i v).length := by have h := hb2; rw [List.length_map] at h; exact eq0_pos h
   obtain ⟨s0, hs0⟩ := get_of_lt (l := S i v) (k := (S i v).length - 1) (by omega)
   refine dm 56 ?_
   refine dq 57 (q_nilCheck rfl rfl rfl) ?_
   refine df 58 tok ?_
   refine dq 59 (q_load tok rfl rfl rfl (.ptr _ _ _ _ false 2 (pastC R S v i ++ [grX R v i (S i v)]) (grX R v i (S i v)) ((fam_hi _ _ _).trans (congrArg some (rOX_at))) z66q z60q) rfl) ?_
   refine dm 60 ?_
   refine dq 61 (q_nilCheck rfl rfl rfl) ?_
   refine df 62 tok ?_
   refine dq 63 (q_load tok rfl rfl rfl (.ptr _ _ _ _ false 2 (pastC R S v i ++ [grX R v i (S i v)]) (grX R v i (S i v)) ((fam_hi _ _ _).trans (congrArg some (rOX_at))) z66q z60q) rfl) ?_
   refine dq 64 (q_lenJ tok rfl rfl rfl rfl) ?_
   refine dq 65 (q_bin (r := .int .i64 (((S i v).length - 1 : Nat) : Int)) rfl rfl rfl (by rw [List.length_map]; exact sub_1 hs1 (by omega))) ?_
   refine dq 66 (q_indexJ tok (b := (4 * (v + R * i) + 3 + 16)) (es := (S i v).map siC) rfl rfl rfl rfl rfl rfl ((fam_hi _ _ _).trans (congrArg some (rS4_F hv))) rfl (Int.natCast_nonneg _) (by rw [List.length_map]; omega)) ?_
   refine df 67 tok ?_
   refine dq 68 (q_load tok rfl rfl rfl (.ptr _ _ _ _ true 3 ((S i v).map siC) (siC s0) ((fam_hi _ _ _).trans (congrArg some ((rS4_F hv).trans (row_slO hs1)))) rfl (by rw [Int.toNat_natCast, List.getElem?_map, hs0]; rfl)) rfl) ?_
   refine dm 69 ?_
   refine dq 70 (q_bin rfl rfl rfl rfl) ?_
   refine dq 71 (q_pick_false false rfl rfl rfl rfl) ?_
   refine DOps.nil (by kernel_rfl) ?_
   refine AGo.join (γ := Unit) (fun _u => ⟨94, (eput eNew 10 (.ptr (4 * v + 2 + 16) ((pastS S i v).length + 1) (0 + (((pastS S i v).length : Nat) : Int).toNat) 0)), (DH [(.row false 8 [[c0, c1, c2, c3, .ref 4 R 0 R, c5, c6, c7]]), r3, (.row false 1 (colF (oX n R S v i) R)), r5, r6, r7] (F4 r0 r1 (rOX n R S v i (noteL (S i v) p)) (rSX R S v i (noteL (S i v) p))))⟩) (fun _u => True) ?_ ?_
   ·
    refine AGo.split 71 rfl (fun hb3 => ?_) (fun hb3 => ?_)
    ·
     refine AGo.cond_true true rfl rfl ?_
     have hnl : noteL (S i v) p = S i v ++ [⟨p, false, false⟩] := by
       first
       | exact noteL_new hs0 (by omega) (by have h := hb3; simp at h; omega)
       | (have h0 : (S i v).length = 0 := (by have h := hb3; first | exact eq0_zero h | (rw [List.length_map] at h; exact eq0_zero h)); rw [len_nil h0]; rfl)
     refine AGo.region ?_
     refine am 72 ?_
     refine am 73 ?_
     refine aq 74 (q_nilCheck rfl rfl rfl) ?_
     refine af 75 tok ?_
     refine aq 76 (q_load tok rfl rfl rfl (.ptr _ _ _ _ false 2 (pastC R S v i ++ [grX R v i (S i v)]) (grX R v i (S i v)) ((fam_hi _ _ _).trans (congrArg some (rOX_at))) z66q z60q) rfl) ?_
     refine am 77 ?_
     refine aq 78 (q_build tok rfl rfl rfl rfl rfl (by decide) rfl rfl rfl) ?_
     refine ax 79 (o_lit' tok rfl rfl rfl rfl rfl rfl (by decide) rfl rfl rfl rfl rfl rfl) ?_
     refine ax 80 (o_append1J tok (b := (4 * (v + R * i) + 3 + 16)) (es := (S i v).map siC) rfl rfl rfl rfl rfl rfl rfl rfl ((fam_hi _ _ _).trans (congrArg some (rS4_F hv))) rfl rfl (Nat.zero_lt_succ _) (si_len _) (one_pure fun _ => rfl) rfl rfl (by rw [List.length_map]; show (_ + 1) * 16 ≤ _; omega) (by rw [List.length_map]; simp only [maxLen]; omega)) ?_
     refine aq 81 (q_nilCheck rfl rfl rfl) ?_
     refine af 82 tok ?_
     refine AOps.w rfl rfl (o_store1 tok (p := false) (sz := 2) (es := (pastC R S v i ++ [grX R v i (S i v)])) (cs := grX R v i (S i v)) rfl rfl rfl rfl rfl rfl z35q z66q z60q (slA_cells _ _) (by decide) (slA_cell1 _ _) (by intro h; cases h)) ?_
     refine AOps.nil ?_
     exact ⟨(), Sub.mk' z53q (dh_full rfl rfl rfl z58q z10q (fun c h1 h2 => by rcases (by omega : c = 8 ∨ c = 9 ∨ c = 10 ∨ c = 11 ∨ c = 12 ∨ c = 13 ∨ c = 14 ∨ c = 15) with rfl | rfl | rfl | rfl | rfl | rfl | rfl | rfl <;> first | rfl | (try simp only [hputs]; repeat (first | rfl | refine hput_skip (by exact beq_false_of_ne (by omega)) ?_ | refine hrm_skip (by omega) ?_)))), trivial⟩
    ·
     refine AGo.cond_false false rfl rfl ?_
     have hnl : noteL (S i v) p = S i v := noteL_old hs0 (by omega) (by have h := hb3; simp at h; omega)
     refine AGo.skip ?_
     exact ⟨(), Sub.mk' z53q (dh_full rfl rfl rfl z58q (fun x_ => (fam_hi _ _ _).trans (congrArg some (by rw [hnl, rSX_self hv]))) (fun c h1 h2 => by rcases (by omega : c = 8 ∨ c = 9 ∨ c = 10 ∨ c = 11 ∨ c = 12 ∨ c = 13 ∨ c = 14 ∨ c = 15) with rfl | rfl | rfl | rfl | rfl | rfl | rfl | rfl <;> first | rfl | (try simp only [hputs]; repeat (first | rfl | refine hput_skip (by exact beq_false_of_ne (by omega)) ?_ | refine hrm_skip (by omega) ?_)))), trivial⟩
   intro _ _
   refine AGo.seq ?_
   refine AGo.draw mix ?_
   refine dm 83 ?_
   refine dq 84 (q_nilCheck rfl rfl rfl) ?_
   refine df 85 tok ?_
   refine dq 86 (q_load tok rfl rfl rfl (.ptr _ _ _ _ false 2 (pastC R S v i ++ [grX R v i (noteL (S i v) p)]) (grX R v i (noteL (S i v) p)) ((fam_hi _ _ _).trans (congrArg some (rOX_at))) z66q z60q) rfl) ?_
   refine dm 87 ?_
   refine dq 88 (q_nilCheck rfl rfl rfl) ?_
   refine df 89 tok ?_
   refine dq 90 (q_load tok rfl rfl rfl (.ptr _ _ _ _ false 2 (pastC R S v i ++ [grX R v i (noteL (S i v) p)]) (grX R v i (noteL (S i v) p)) ((fam_hi _ _ _).trans (congrArg some (rOX_at))) z66q z60q) rfl) ?_
   refine dq 91 (q_lenJ tok rfl rfl rfl rfl) ?_
   refine dq 92 (q_bin (r := .int .i64 (((noteL (S i v) p).length - 1 : Nat) : Int)) rfl rfl rfl z50q) ?_
   refine dq 93 (q_indexJ tok (b := (4 * (v + R * i) + 3 + 16)) (es := (noteL (S i v) p).map siC) rfl rfl rfl rfl rfl rfl ((fam_hi _ _ _).trans (congrArg some (rSX_at))) rfl (Int.natCast_nonneg _) (by rw [List.length_map]; have := noteL_pos (S i v) p; omega)) ?_
   refine da 8 ?_
   refine DOps.nil (by kernel_rfl) ?_
   refine AGo.ret ?_
   refine ⟨[_], ⟨rfl, trivial⟩, ?_, ?_⟩
   · show AV.ptr _ _ _ _ = AV.ptr _ _ _ _
     rw [List.length_map, Int.toNat_natCast]
   · rw [← oX_eq hi0 hlast (noteL_pos _ _), ← rOX_eq hv hi0 hlast (noteL_pos _ _), ← rSX_eq hv]
     exact dh_sub rfl z58q (fun x_ => by dsimp only; exact fam_hi _ _ _)
 ·
  have hg0 : 0 < (gsS S n v).length := by have h := hb1; rw [grs_len] at h; exact eq0_pos h
  obtain ⟨j0, hj0⟩ := get_of_lt (l := gsS S n v) (k := (gsS S n v).length - 1) (by omega)
  refine am 22 ?_
  refine am 23 ?_
  refine aq 24 (q_lenJ tok rfl rfl rfl rfl) ?_
  refine aq 25 (q_bin (r := .int .i64 (((gsS S n v).length - 1 : Nat) : Int)) rfl rfl rfl (by rw [grs_len]; exact sub_1 hg0 (by omega))) ?_
  refine aq 26 (q_indexP tok rfl rfl rfl rfl rfl rfl ((fam_hi _ _ _).trans (congrArg some (rO4_at hv))) rfl (Int.natCast_nonneg _) (by rw [grs_len]; omega)) ?_
  refine af 27 tok ?_
  refine aq 28 (q_load tok rfl rfl rfl (.ptr _ _ _ _ false 2 (grs n R S v) (grC R S v j0) ((fam_hi _ _ _).trans (congrArg some ((rO4_at hv).trans (slP_at (k := (gsS S n v).length - 1) (by rw [grs_len]; omega))))) rfl (by rw [Int.toNat_natCast]; show ((gsS S n v).map (grC R S v))[_]? = _; rw [List.getElem?_map, hj0]; rfl)) rfl) ?_
  refine am 29 ?_
  refine aq 30 (q_bin rfl rfl rfl rfl) ?_
  refine aq 31 (q_pick_false false rfl rfl rfl rfl) ?_
  refine AOps.nil ?_
  refine AGo.join (γ := Unit) (fun _u => ⟨94, (eput (eput (eput (eput (eput eNew 0 (.ptr 2 1 0 0)) 1 (.int .i64 (v : Int))) 2 (.int .i64 (i : Int))) 3 (.int .i64 (p : Int))) 9 (.ref (4 * v + 2 + 16) ((pastS S i v).length + 1) 0 ((pastS S i v).length + 1))), (DH [(.row false 8 [[c0, c1, c2, c3, .ref 4 R 0 R, c5, c6, c7]]), r3, (.row false 1 (colF (oX n R S v i) R)), r5, r6, r7] (F4 r0 r1 (rOX n R S v i (S i v)) (rS4 R S)))⟩) (fun _u => True) ?_ ?_
  ·
   refine AGo.split 31 rfl (fun hb4 => ?_) (fun hb4 => ?_)
   ·
    refine AGo.cond_true true rfl rfl ?_
    have hS0 : S i v = [] := by
      first
      | exact note_new2 hi0 hlast hj0 (by omega) (by have h := hb4; simp at h; omega)
      | exact note_new1 hi0 hlast (eq0_zero hb4)
    have hoR : oR n R S v = slA (4 * v + 2 + 16) (pastC R S v i) := by unfold oR; rw [grs_not hi0 hlast hS0]
    rw [hoR]
    refine AGo.seq ?_
    refine AGo.region ?_
    refine am 32 ?_
    refine am 33 ?_
    refine aq 34 (q_build tok rfl rfl rfl rfl rfl (by decide) rfl rfl rfl) ?_
    refine ax 35 (o_lit' tok rfl rfl rfl rfl rfl rfl (by decide) rfl rfl rfl rfl rfl rfl) ?_
    refine ax 36 (o_append1S tok (b := (4 * v + 2 + 16)) (es := pastC R S v i) (x0 := [.int .i64 (i : Int), .nil]) rfl rfl rfl rfl rfl rfl rfl rfl ((fam_hi _ _ _).trans (congrArg some ((rO4_at hv).trans (by rw [grs_not hi0 hlast hS0])))) rfl rfl (Nat.zero_lt_succ _) (.lst _ _) rfl (by rw [pastC_len]; show _ * 32 ≤ _; omega) (by rw [pastC_len]; simp only [maxLen]; omega)) ?_
    refine aa 9 ?_
    refine AOps.nil ?_
    refine AGo.ghost (Ghost.weakRowF (4 * v + 2 + 16) (es' := pastC R S v i ++ [[.int .i64 (i : Int), slA (4 * (v + R * i) + 3 + 16) []]]) z28q (by simp) (weak_snoc (show WkAll [AV.int .i64 (i : Int), .nil] _ from ⟨Wk.refl _, Wk.nil _, trivial⟩))) ?_
    refine AGo.region ?_
    refine am 37 ?_
    refine aq 38 (q_nilCheck rfl rfl rfl) ?_
    refine af 39 tok ?_
    refine al 40 tok ?_
    refine am 41 ?_
    refine am 42 ?_
    refine aq 43 (q_index_ref tok rfl rfl rfl rfl rfl rfl rfl (colF_len _ _).symm rfl (Int.natCast_nonneg _) (by omega)) ?_
    refine AOps.w rfl rfl (o_store1 tok (p := false) (sz := 1) (es := colF (oR n R S) R) (cs := [oR n R S v]) rfl rfl rfl rfl rfl rfl z28q (colF_len _ _).symm z56q (slA_cells _ _) (by decide) (slA_cell1 _ _) (by intro h; cases h)) ?_
    refine AOps.nil ?_
    exact ⟨(), Sub.mk' z43q (dh_full rfl rfl rfl (by repeat (first | exact trivial | refine ⟨by first | rfl | exact congrArg (fun es => some (AObj.row false 1 es)) (oX_put (pastC_len _ _ _ _)), ?_⟩)) z26q (fun c h1 h2 => by rcases (by omega : c = 8 ∨ c = 9 ∨ c = 10 ∨ c = 11 ∨ c = 12 ∨ c = 13 ∨ c = 14 ∨ c = 15) with rfl | rfl | rfl | rfl | rfl | rfl | rfl | rfl <;> first | rfl | (try simp only [hputs]; repeat (first | rfl | refine hput_skip (by exact beq_false_of_ne (by omega)) ?_ | refine hrm_skip (by omega) ?_)))), trivial⟩
   ·
    refine AGo.cond_false false rfl rfl ?_
    have hji : j0 = i := by have h := hb4; simp at h; omega
    rw [hji] at hj0
    have hS1 : 0 < (S i v).length := note_old hi0 hlast hj0
    refine AGo.skip ?_
    exact ⟨(), Sub.mk' z43q (dh_full rfl rfl rfl (by repeat (first | exact trivial | refine ⟨by first | rfl | exact congrArg (fun es => some (AObj.row false 1 es)) ((oX_self hi0 hlast hS1).symm), ?_⟩)) (fun x_ => (fam_hi _ _ _).trans (congrArg some (by rw [rOX_self hv hi0 hlast hS1]))) (fun c h1 h2 => by rcases (by omega : c = 8 ∨ c = 9 ∨ c = 10 ∨ c = 11 ∨ c = 12 ∨ c = 13 ∨ c = 14 ∨ c = 15) with rfl | rfl | rfl | rfl | rfl | rfl | rfl | rfl <;> first | rfl | (try simp only [hputs]; repeat (first | rfl | refine hput_skip (by exact beq_false_of_ne (by omega)) ?_ | refine hrm_skip (by omega) ?_)))), trivial⟩
  intro _ _
  refine AGo.seq ?_
  refine AGo.region ?_
  refine am 44 ?_
  refine am 45 ?_
  refine aq 46 (q_len tok rfl rfl rfl rfl rfl) ?_
  refine aq 47 (q_bin (r := .int .i64 (((pastS S i v).length : Nat) : Int)) rfl rfl rfl (sub_1 (L := (pastS S i v).length + 1) (Nat.succ_pos _) (by omega))) ?_
  refine aq 48 (q_index_ref tok rfl rfl rfl rfl rfl rfl ((fam_hi _ _ _).trans (congrArg some (rOX_at))) z66q rfl (Int.natCast_nonneg _) (by omega)) ?_
  refine aa 10 ?_
  refine AOps.nil ?_
  refine AGo.seq ?_
  refine AGo.seq ?_
  refine AGo.draw mix ?_
  refine dm 49 ?_
  refine dq 50 (q_nilCheck rfl rfl rfl) ?_
  refine df 51 tok ?_
  refine dq 52 (q_load tok rfl rfl rfl (.ptr _ _ _ _ false 2 (pastC R S v i ++ [grX R v i (S i v)]) (grX R v i (S i v)) ((fam_hi _ _ _).trans (congrArg some (rOX_at))) z66q z60q) rfl) ?_
  refine dq 53 (q_lenJ tok rfl rfl rfl rfl) ?_
  refine dq 54 (q_bin rfl rfl rfl rfl) ?_
  refine dm 55 ?_
  refine DOps.split 55 rfl (fun hb5 => ?_) (fun hb5 => ?_)
  ·
   refine dk 56 ?_
   refine dk 57 ?_
   refine dk 58 ?_
   refine dk 59 ?_
   refine dk 60 ?_
   refine dk 61 ?_
   refine dk 62 ?_
   refine dk 63 ?_
   refine dk 64 ?_
   refine dk 65 ?_
   refine dk 66 ?_
   refine dk 67 ?_
   refine dk 68 ?_
   refine dk 69 ?_
   refine dk 70 ?_
   refine dq 71 (q_pick_true true rfl rfl rfl rfl) ?_
   refine DOps.nil (by kernel_rfl) ?_
   refine AGo.join (γ := Unit) (fun _u => ⟨94, (eput eNew 10 (.ptr (4 * v + 2 + 16) ((pastS S i v).length + 1) (0 + (((pastS S i v).length : Nat) : Int).toNat) 0)), (DH [(.row false 8 [[c0, c1, c2, c3, .ref 4 R 0 R, c5, c6, c7]]), r3, (.row false 1 (colF (oX n R S v i) R)), r5, r6, r7] (F4 r0 r1 (rOX n R S v i (noteL (S i v) p)) (rSX R S v i (noteL (S i v) p))))⟩) (fun _u => True) ?_ ?_
   ·
    refine AGo.cond_true true rfl rfl ?_
    have hnl : noteL (S i v) p = S i v ++ [⟨p, false, false⟩] := by
      first
      | exact noteL_new hs0 (by omega) (by have h := hb5; simp at h; omega)
      | (have h0 : (S i v).length = 0 := (by have h := hb5; first | exact eq0_zero h | (rw [List.length_map] at h; exact eq0_zero h)); rw [len_nil h0]; rfl)
    refine AGo.region ?_
    refine am 72 ?_
    refine am 73 ?_
    refine aq 74 (q_nilCheck rfl rfl rfl) ?_
    refine af 75 tok ?_
    refine aq 76 (q_load tok rfl rfl rfl (.ptr _ _ _ _ false 2 (pastC R S v i ++ [grX R v i (S i v)]) (grX R v i (S i v)) ((fam_hi _ _ _).trans (congrArg some (rOX_at))) z66q z60q) rfl) ?_
    refine am 77 ?_
    refine aq 78 (q_build tok rfl rfl rfl rfl rfl (by decide) rfl rfl rfl) ?_
    refine ax 79 (o_lit' tok rfl rfl rfl rfl rfl rfl (by decide) rfl rfl rfl rfl rfl rfl) ?_
    refine ax 80 (o_append1J tok (b := (4 * (v + R * i) + 3 + 16)) (es := (S i v).map siC) rfl rfl rfl rfl rfl rfl rfl rfl ((fam_hi _ _ _).trans (congrArg some (rS4_F hv))) rfl rfl (Nat.zero_lt_succ _) (si_len _) (one_pure fun _ => rfl) rfl rfl (by rw [List.length_map]; show (_ + 1) * 16 ≤ _; omega) (by rw [List.length_map]; simp only [maxLen]; omega)) ?_
    refine aq 81 (q_nilCheck rfl rfl rfl) ?_
    refine af 82 tok ?_
    refine AOps.w rfl rfl (o_store1 tok (p := false) (sz := 2) (es := (pastC R S v i ++ [grX R v i (S i v)])) (cs := grX R v i (S i v)) rfl rfl rfl rfl rfl rfl z35q z66q z60q (slA_cells _ _) (by decide) (slA_cell1 _ _) (by intro h; cases h)) ?_
    refine AOps.nil ?_
    exact ⟨(), Sub.mk' z53q (dh_full rfl rfl rfl z58q z10q (fun c h1 h2 => by rcases (by omega : c = 8 ∨ c = 9 ∨ c = 10 ∨ c = 11 ∨ c = 12 ∨ c = 13 ∨ c = 14 ∨ c = 15) with rfl | rfl | rfl | rfl | rfl | rfl | rfl | rfl <;> first | rfl | (try simp only [hputs]; repeat (first | rfl | refine hput_skip (by exact beq_false_of_ne (by omega)) ?_ | refine hrm_skip (by omega) ?_)))), trivial⟩
   intro _ _
   refine AGo.seq ?_
   refine AGo.draw mix ?_
   refine dm 83 ?_
   refine dq 84 (q_nilCheck rfl rfl rfl) ?_
   refine df 85 tok ?_
   refine dq 86 (q_load tok rfl rfl rfl (.ptr _ _ _ _ false 2 (pastC R S v i ++ [grX R v i (noteL (S i v) p)]) (grX R v i (noteL (S i v) p)) ((fam_hi _ _ _).trans (congrArg some (rOX_at))) z66q z60q) rfl) ?_
   refine dm 87 ?_
   refine dq 88 (q_nilCheck rfl rfl rfl) ?_
   refine df 89 tok ?_
   refine dq 90 (q_load tok rfl rfl rfl (.ptr _ _ _ _ false 2 (pastC R S v i ++ [grX R v i (noteL (S i v) p)]) (grX R v i (noteL (S i v) p)) ((fam_hi _ _ _).trans (congrArg some (rOX_at))) z66q z60q) rfl) ?_
   refine dq 91 (q_lenJ tok rfl rfl rfl rfl) ?_
   refine dq 92 (q_bin (r := .int .i64 (((noteL (S i v) p).length - 1 : Nat) : Int)) rfl rfl rfl z50q) ?_
   refine dq 93 (q_indexJ tok (b := (4 * (v + R * i) + 3 + 16)) (es := (noteL (S i v) p).map siC) rfl rfl rfl rfl rfl rfl ((fam_hi _ _ _).trans (congrArg some (rSX_at))) rfl (Int.natCast_nonneg _) (by rw [List.length_map]; have := noteL_pos (S i v) p; omega)) ?_
   refine da 8 ?_
   refine DOps.nil (by kernel_rfl) ?_
   refine AGo.ret ?_
   refine ⟨[_], ⟨rfl, trivial⟩, ?_, ?_⟩
   · show AV.ptr _ _ _ _ = AV.ptr _ _ _ _
     rw [List.length_map, Int.toNat_natCast]
   · rw [← oX_eq hi0 hlast (noteL_pos _ _), ← rOX_eq hv hi0 hlast (noteL_pos _ _), ← rSX_eq hv]
     exact dh_sub rfl z58q (fun x_ => by dsimp only; exact fam_hi _ _ _)
  ·
   have hs1 : 0 < (S i v).length := by have h := hb5; rw [List.length_map] at h; exact eq0_pos h
   obtain ⟨s0, hs0⟩ := get_of_lt (l := S i v) (k := (S i v).length - 1) (by omega)
   refine dm 56 ?_
   refine dq 57 (q_nilCheck rfl rfl rfl) ?_
   refine df 58 tok ?_
   refine dq 59 (q_load tok rfl rfl rfl (.ptr _ _ _ _ false 2 (pastC R S v i ++ [grX R v i (S i v)]) (grX R v i (S i v)) ((fam_hi _ _ _).trans (congrArg some (rOX_at))) z66q z60q) rfl) ?_
   refine dm 60 ?_
   refine dq 61 (q_nilCheck rfl rfl rfl) ?_
   refine df 62 tok ?_
   refine dq 63 (q_load tok rfl rfl rfl (.ptr _ _ _ _ false 2 (pastC R S v i ++ [grX R v i (S i v)]) (grX R v i (S i v)) ((fam_hi _ _ _).trans (congrArg some (rOX_at))) z66q z60q) rfl) ?_
   refine dq 64 (q_lenJ tok rfl rfl rfl rfl) ?_
   refine dq 65 (q_bin (r := .int .i64 (((S i v).length - 1 : Nat) : Int)) rfl rfl rfl (by rw [List.length_map]; exact sub_1 hs1 (by omega))) ?_
   refine dq 66 (q_indexJ tok (b := (4 * (v + R * i) + 3 + 16)) (es := (S i v).map siC) rfl rfl rfl rfl rfl rfl ((fam_hi _ _ _).trans (congrArg some (rS4_F hv))) rfl (Int.natCast_nonneg _) (by rw [List.length_map]; omega)) ?_
   refine df 67 tok ?_
   refine dq 68 (q_load tok rfl rfl rfl (.ptr _ _ _ _ true 3 ((S i v).map siC) (siC s0) ((fam_hi _ _ _).trans (congrArg some ((rS4_F hv).trans (row_slO hs1)))) rfl (by rw [Int.toNat_natCast, List.getElem?_map, hs0]; rfl)) rfl) ?_
   refine dm 69 ?_
   refine dq 70 (q_bin rfl rfl rfl rfl) ?_
   refine dq 71 (q_pick_false false rfl rfl rfl rfl) ?_
   refine DOps.nil (by kernel_rfl) ?_
   refine AGo.join (γ := Unit) (fun _u => ⟨94, (eput eNew 10 (.ptr (4 * v + 2 + 16) ((pastS S i v).length + 1) (0 + (((pastS S i v).length : Nat) : Int).toNat) 0)), (DH [(.row false 8 [[c0, c1, c2, c3, .ref 4 R 0 R, c5, c6, c7]]), r3, (.row false 1 (colF (oX n R S v i) R)), r5, r6, r7] (F4 r0 r1 (rOX n R S v i (noteL (S i v) p)) (rSX R S v i (noteL (S i v) p))))⟩) (fun _u => True) ?_ ?_
   ·
    refine AGo.split 71 rfl (fun hb6 => ?_) (fun hb6 => ?_)
    ·
     refine AGo.cond_true true rfl rfl ?_
     have hnl : noteL (S i v) p = S i v ++ [⟨p, false, false⟩] := by
       first
       | exact noteL_new hs0 (by omega) (by have h := hb6; simp at h; omega)
       | (have h0 : (S i v).length = 0 := (by have h := hb6; first | exact eq0_zero h | (rw [List.length_map] at h; exact eq0_zero h)); rw [len_nil h0]; rfl)
     refine AGo.region ?_
     refine am 72 ?_
     refine am 73 ?_
     refine aq 74 (q_nilCheck rfl rfl rfl) ?_
     refine af 75 tok ?_
     refine aq 76 (q_load tok rfl rfl rfl (.ptr _ _ _ _ false 2 (pastC R S v i ++ [grX R v i (S i v)]) (grX R v i (S i v)) ((fam_hi _ _ _).trans (congrArg some (rOX_at))) z66q z60q) rfl) ?_
     refine am 77 ?_
     refine aq 78 (q_build tok rfl rfl rfl rfl rfl (by decide) rfl rfl rfl) ?_
     refine ax 79 (o_lit' tok rfl rfl rfl rfl rfl rfl (by decide) rfl rfl rfl rfl rfl rfl) ?_
     refine ax 80 (o_append1J tok (b := (4 * (v + R * i) + 3 + 16)) (es := (S i v).map siC) rfl rfl rfl rfl rfl rfl rfl rfl ((fam_hi _ _ _).trans (congrArg some (rS4_F hv))) rfl rfl (Nat.zero_lt_succ _) (si_len _) (one_pure fun _ => rfl) rfl rfl (by rw [List.length_map]; show (_ + 1) * 16 ≤ _; omega) (by rw [List.length_map]; simp only [maxLen]; omega)) ?_
     refine aq 81 (q_nilCheck rfl rfl rfl) ?_
     refine af 82 tok ?_
     refine AOps.w rfl rfl (o_store1 tok (p := false) (sz := 2) (es := (pastC R S v i ++ [grX R v i (S i v)])) (cs := grX R v i (S i v)) rfl rfl rfl rfl rfl rfl z35q z66q z60q (slA_cells _ _) (by decide) (slA_cell1 _ _) (by intro h; cases h)) ?_
     refine AOps.nil ?_
     exact ⟨(), Sub.mk' z53q (dh_full rfl rfl rfl z58q z10q (fun c h1 h2 => by rcases (by omega : c = 8 ∨ c = 9 ∨ c = 10 ∨ c = 11 ∨ c = 12 ∨ c = 13 ∨ c = 14 ∨ c = 15) with rfl | rfl | rfl | rfl | rfl | rfl | rfl | rfl <;> first | rfl | (try simp only [hputs]; repeat (first | rfl | refine hput_skip (by exact beq_false_of_ne (by omega)) ?_ | refine hrm_skip (by omega) ?_)))), trivial⟩
    ·
     refine AGo.cond_false false rfl rfl ?_
     have hnl : noteL (S i v) p = S i v := noteL_old hs0 (by omega) (by have h := hb6; simp at h; omega)
     refine AGo.skip ?_
     exact ⟨(), Sub.mk' z53q (dh_full rfl rfl rfl z58q (fun x_ => (fam_hi _ _ _).trans (congrArg some (by rw [hnl, rSX_self hv]))) (fun c h1 h2 => by rcases (by omega : c = 8 ∨ c = 9 ∨ c = 10 ∨ c = 11 ∨ c = 12 ∨ c = 13 ∨ c = 14 ∨ c = 15) with rfl | rfl | rfl | rfl | rfl | rfl | rfl | rfl <;> first | rfl | (try simp only [hputs]; repeat (first | rfl | refine hput_skip (by exact beq_false_of_ne (by omega)) ?_ | refine hrm_skip (by omega) ?_)))), trivial⟩
   intro _ _
   refine AGo.seq ?_
   refine AGo.draw mix ?_
   refine dm 83 ?_
   refine dq 84 (q_nilCheck rfl rfl rfl) ?_
   refine df 85 tok ?_
   refine dq 86 (q_load tok rfl rfl rfl (.ptr _ _ _ _ false 2 (pastC R S v i ++ [grX R v i (noteL (S i v) p)]) (grX R v i (noteL (S i v) p)) ((fam_hi _ _ _).trans (congrArg some (rOX_at))) z66q z60q) rfl) ?_
   refine dm 87 ?_
   refine dq 88 (q_nilCheck rfl rfl rfl) ?_
   refine df 89 tok ?_
   refine dq 90 (q_load tok rfl rfl rfl (.ptr _ _ _ _ false 2 (pastC R S v i ++ [grX R v i (noteL (S i v) p)]) (grX R v i (noteL (S i v) p)) ((fam_hi _ _ _).trans (congrArg some (rOX_at))) z66q z60q) rfl) ?_
   refine dq 91 (q_lenJ tok rfl rfl rfl rfl) ?_
   refine dq 92 (q_bin (r := .int .i64 (((noteL (S i v) p).length - 1 : Nat) : Int)) rfl rfl rfl z50q) ?_
   refine dq 93 (q_indexJ tok (b := (4 * (v + R * i) + 3 + 16)) (es := (noteL (S i v) p).map siC) rfl rfl rfl rfl rfl rfl ((fam_hi _ _ _).trans (congrArg some (rSX_at))) rfl (Int.natCast_nonneg _) (by rw [List.length_map]; have := noteL_pos (S i v) p; omega)) ?_
   refine da 8 ?_
   refine DOps.nil (by kernel_rfl) ?_
   refine AGo.ret ?_
   refine ⟨[_], ⟨rfl, trivial⟩, ?_, ?_⟩
   · show AV.ptr _ _ _ _ = AV.ptr _ _ _ _
     rw [List.length_map, Int.toNat_natCast]
   · rw [← oX_eq hi0 hlast (noteL_pos _ _), ← rOX_eq hv hi0 hlast (noteL_pos _ _), ← rSX_eq hv]
     exact dh_sub rfl z58q (fun x_ => by dsimp only; exact fam_hi _ _ _)

end Go.Proofs.Ytjmjmedjjbginaa.Sv

namespace Go.Proofs.Ytjmjmedjjbginaa.Sv
open Go

set_option maxHeartbeats 4000000 in
set_option maxRecDepth 100000 in
theorem newSearch_ok (f : BFunc) (hs : f.sane) (R : Nat) (hRf : f.regs = (R : Int)) (hR : R ≤ 100000) (hn : f.blocks.length ≤ 100000) (hi : ∀ x ∈ f.blocks, x.ins.length ≤ 100000) : ACall Try.prog 26 [.agg f.cells] hNew (fun r h' => r = .ptr 2 1 0 0 ∧ HSub (putD hNone (DH (DSL f R (SB f) ((List.range R).map natC) (R) (fun b => decide (b < R))) (DF f R (SB f) G0))) h') := by
 refine ACall.of_body (n := 152) tok Try.func26 rfl rfl ?_
 refine AGo.seq ?_
 refine AGo.region ?_
 refine ax 1 (o_box (sz := 2) 0 rfl rfl rfl rfl (Nat.zero_lt_succ _) rfl) ?_
 refine aa 2 ?_
 refine AOps.nil ?_
 refine AGo.seq ?_
 refine AGo.draw mix ?_
 refine dl 16 tok ?_
 refine dl 17 tok ?_
 refine dx 18 (o_pure rfl Try.func42 (by kernel_rfl) rfl rfl rfl (next_ok _ (by assumption))) ?_
 refine df 19 tok ?_
 refine dl 20 tok ?_
 refine dq 21 (q_len tok rfl rfl rfl rfl rfl) ?_
 refine dx 22 (o_makeSlice tok (n := f.blocks.length) (m := f.blocks.length) 3 false rfl rfl rfl (by simp) (by simp) rfl rfl rfl rfl rfl (Nat.zero_lt_succ _) rfl (Nat.le_refl _) (by show 24 * f.blocks.length ≤ _; omega) (by simp only [maxLen]; omega)) ?_
 refine df 23 tok ?_
 refine dl 24 tok ?_
 refine dx 25 (o_makeSlice tok (n := R) (m := R) 4 false rfl rfl rfl hRf hRf rfl rfl rfl rfl rfl (Nat.zero_lt_succ _) rfl (Nat.le_refl _) (by show 24 * R ≤ _; omega) (by simp only [maxLen]; omega)) ?_
 refine df 26 tok ?_
 refine dl 27 tok ?_
 refine dq 28 (q_len tok rfl rfl rfl rfl rfl) ?_
 refine dx 29 (o_makeSlice tok (n := f.blocks.length) (m := f.blocks.length) 5 false rfl rfl rfl (by simp) (by simp) rfl rfl rfl rfl rfl (Nat.zero_lt_succ _) rfl (Nat.le_refl _) (by show 24 * f.blocks.length ≤ _; omega) (by simp only [maxLen]; omega)) ?_
 refine dq 30 (q_build tok rfl rfl rfl rfl rfl (by decide) rfl rfl rfl) ?_
 refine dx 31 (o_box (sz := 8) 2 rfl rfl rfl rfl (Nat.zero_lt_succ _) rfl) ?_
 refine da 3 ?_
 refine DOps.nil (by kernel_rfl) ?_
 refine AGo.seq ?_
 refine AGo.seq ?_
 refine AGo.ghost (Ghost.weakRowF 3 (es' := colF (aR (fun _ => [])) f.blocks.length) rfl (by rw [colF_len, List.length_replicate]) (weak_col fun b => Wk.nil _)) ?_
 refine AGo.ghost (Ghost.weakRowF 4 (es' := colF (oR f.blocks.length R S0) R) rfl (by rw [colF_len, List.length_replicate]) (weak_col fun b => by rw [oR_none]; exact Wk.nil _)) ?_
 refine AGo.region ?_
 refine am 32 ?_
 refine aq 33 (q_nilCheck rfl rfl rfl) ?_
 refine af 34 tok ?_
 refine al 35 tok ?_
 refine aq 36 (q_len tok rfl rfl rfl rfl rfl) ?_
 refine am 37 ?_
 refine AOps.nil ?_
 refine AGo.block ?_
 refine AGo.loopK (γ := Nat) (kf 8) (fun k => ⟨152, (eput (eput (eput (eput (eput eNew 1 (.ptr 0 1 0 0)) 3 (.ptr 2 1 0 0)) 35 (pathsAV f.nexts)) 36 (.int .i64 (f.blocks.length : Int))) 37 (.int .i64 (k : Int))), (fam (nb [(.row false 2 [f.cells]), .free, (.row false 8 [NSc f R]), (.row false 1 (colF (aR (aheadP f k 0)) f.blocks.length)), (.row false 1 (colF (oR f.blocks.length R S0) R)), (.row false 1 (colF (gK f 0) f.blocks.length)), .free, .free]) (F4 (rA4 f.blocks.length (aheadP f k 0)) (rG4 f 0 G0) (rO4 f.blocks.length R S0) (rS4 R S0)))⟩) (fun k => k ≤ f.blocks.length) (fun k => f.blocks.length - k) 0 (Sub.mk' z25q (famSub (k0 := 8) rfl (by repeat (first | exact trivial | refine ⟨⟨by first | rfl | exact congrArg (fun A => some (AObj.row false 1 (colF (aR A) f.blocks.length))) (funext fun c => (aheadP_zero f 0 c).symm) | exact congrArg (fun es => some (AObj.row false 1 es)) (gK_zero f f.blocks.length), by first | rfl | exact colF_avoid (fun _ _ => aR_avoid (kf_hi' _) _ _) | exact colF_avoid (fun _ _ => oR_avoid (kf_hi' _) _ _ _ _) | exact colF_avoid (fun _ _ => gK_avoid (kf_hi' _) _ _ _)⟩, ?_⟩)) (fun x_ => by rw [rA4_congr (aheadP_zero f 0)]; (try simp only [hputs]); (repeat (first | refine hput_skip (by exact beq_false_of_ne (by omega)) ?_ | refine hrm_skip (by omega) ?_)); exact congrArg some F4_start.symm) (fun c h1 h2 => by rcases (by omega : c = 8 ∨ c = 9 ∨ c = 10 ∨ c = 11 ∨ c = 12 ∨ c = 13 ∨ c = 14 ∨ c = 15) with rfl | rfl | rfl | rfl | rfl | rfl | rfl | rfl <;> first | rfl | (try simp only [hputs]; repeat (first | rfl | refine hput_skip (by exact beq_false_of_ne (by omega)) ?_ | refine hrm_skip (by omega) ?_))))) (Nat.zero_le _) (fun g b hb => famFree (k0 := 8) rfl hb) ?_
 intro k hk
 refine AGo.seq ?_
 refine AGo.region ?_
 refine aq 38 (q_bin rfl rfl rfl rfl) ?_
 refine AOps.nil ?_
 refine AGo.seq ?_
 refine AGo.split 38 rfl (fun hb1 => ?_) (fun hb1 => ?_)
 ·
  refine AGo.cond_true true rfl rfl ?_
  have hkl : k < f.blocks.length := by have h := hb1; simp at h; exact h
  obtain ⟨x, hx⟩ := get_of_lt hkl
  have hxm := List.mem_of_getElem? hx
  refine AGo.skip ?_
  refine AGo.seq ?_
  refine AGo.block ?_
  refine AGo.seq ?_
  refine AGo.region ?_
  refine am 39 ?_
  refine aq 40 (q_index_lst tok rfl rfl rfl rfl rfl rfl (Int.natCast_nonneg _) (idx_map (nexts_get hx)) rfl) ?_
  refine al 41 tok ?_
  refine aa 4 ?_
  refine aa 5 ?_
  refine AOps.nil ?_
  refine AGo.seq ?_
  refine AGo.region ?_
  refine am 42 ?_
  refine aq 43 (q_len tok rfl rfl rfl rfl rfl) ?_
  refine am 44 ?_
  refine AOps.nil ?_
  refine AGo.block ?_
  refine AGo.loopK (γ := Nat) (kf 8) (fun j => ⟨152, (eput (eput (eput (eput (eput (eput (eput (eput (eput eNew 1 (.ptr 0 1 0 0)) 3 (.ptr 2 1 0 0)) 35 (pathsAV f.nexts)) 36 (.int .i64 (f.blocks.length : Int))) 37 (.int .i64 (k : Int))) 4 (.int .i64 (k : Int))) 42 (intsAV x.nexts)) 43 (.int .i64 (x.nexts.length : Int))) 44 (.int .i64 (j : Int))), (fam (nb [(.row false 2 [f.cells]), .free, (.row false 8 [NSc f R]), (.row false 1 (colF (aR (aheadP f k j)) f.blocks.length)), (.row false 1 (colF (oR f.blocks.length R S0) R)), (.row false 1 (colF (gK f 0) f.blocks.length)), .free, .free]) (F4 (rA4 f.blocks.length (aheadP f k j)) (rG4 f 0 G0) (rO4 f.blocks.length R S0) (rS4 R S0)))⟩) (fun j => True) (fun j => x.nexts.length - j) 0 (Sub.mk' z44q (famSub (k0 := 8) rfl z29q z42q (fun c h1 h2 => by rcases (by omega : c = 8 ∨ c = 9 ∨ c = 10 ∨ c = 11 ∨ c = 12 ∨ c = 13 ∨ c = 14 ∨ c = 15) with rfl | rfl | rfl | rfl | rfl | rfl | rfl | rfl <;> first | rfl | (try simp only [hputs]; repeat (first | rfl | refine hput_skip (by exact beq_false_of_ne (by omega)) ?_ | refine hrm_skip (by omega) ?_))))) trivial (fun g b hb => famFree (k0 := 8) rfl hb) ?_
  intro j _
  refine AGo.seq ?_
  refine AGo.region ?_
  refine aq 45 (q_bin rfl rfl rfl rfl) ?_
  refine AOps.nil ?_
  refine AGo.seq ?_
  refine AGo.split 45 rfl (fun hb2 => ?_) (fun hb2 => ?_)
  ·
   refine AGo.cond_true true rfl rfl ?_
   have hjl : j < x.nexts.length := by have h := hb2; simp [intsAV] at h; exact h
   obtain ⟨d, hd⟩ := get_of_lt hjl
   have hd0 := hs.next x hxm d (List.mem_of_getElem? hd)
   have hdn : d.toNat < f.blocks.length := by omega
   refine AGo.skip ?_
   refine AGo.seq ?_
   refine AGo.block ?_
   refine AGo.seq ?_
   refine AGo.region ?_
   refine aq 46 (q_index_lst tok rfl rfl rfl rfl rfl rfl (Int.natCast_nonneg _) (idx_map hd) rfl) ?_
   refine al 47 tok ?_
   refine aa 7 ?_
   refine AOps.nil ?_
   refine AGo.draw mix ?_
   refine dm 48 ?_
   refine dq 49 (q_nilCheck rfl rfl rfl) ?_
   refine df 50 tok ?_
   refine dl 51 tok ?_
   refine dm 52 ?_
   refine dm 53 ?_
   refine dq 54 (q_nilCheck rfl rfl rfl) ?_
   refine df 55 tok ?_
   refine dl 56 tok ?_
   refine dm 57 ?_
   refine dq 58 (q_index_ref tok rfl rfl rfl rfl rfl rfl rfl (colF_len _ _).symm rfl hd0.1 (by omega)) ?_
   refine dq 59 (q_load tok rfl rfl rfl (.ptr _ _ _ _ _ _ _ [aR (aheadP f k j) d.toNat] rfl (colF_len _ _).symm (by rw [Nat.zero_add]; exact colF_get hdn)) rfl) ?_
   refine dm 60 ?_
   refine dx 61 (o_lit' tok rfl rfl rfl rfl rfl rfl (by decide) rfl rfl rfl rfl rfl rfl) ?_
   refine dx 62 (o_append1J tok (b := 4 * d.toNat + 0 + 16) (es := (aheadP f k j d.toNat).map natC) rfl rfl rfl rfl rfl rfl rfl rfl ((fam_hi _ _ _).trans (congrArg some (rA4_0 hdn))) rfl rfl (Nat.zero_lt_succ _) (one_len fun _ => rfl) (one_pure fun _ => rfl) rfl rfl (by rw [List.length_map]; have := aheadP_len f k j d.toNat; show (_ + 1) * 8 ≤ _; omega) (by rw [List.length_map]; have := aheadP_len f k j d.toNat; simp only [maxLen]; omega)) ?_
   refine dq 63 (q_index_ref tok rfl rfl rfl rfl rfl rfl z28q (colF_len _ _).symm rfl hd0.1 (by omega)) ?_
   refine DOps.w rfl rfl (o_store1 tok (p := false) (sz := 1) (es := colF (aR (aheadP f k j)) f.blocks.length) (cs := [aR (aheadP f k j) d.toNat]) rfl rfl rfl rfl rfl rfl z28q (colF_len _ _).symm (by rw [Nat.zero_add]; exact colF_get hdn) (slA_cells _ _) (by decide) (slA_cell1 _ _) (by intro h; cases h)) ?_
   refine DOps.nilC cls4 [([],[]), ([],[]), ([],[]), ([2],[]), ([],[]), ([],[]), ([],[]), ([],[]), ([2],[]), ([],[]), ([3],[]), ([3],[]), ([],[]), ([],[]), ([16],[16]), ([3],[]), ([3],[3])] z0q (by kernel_rfl) ?_
   refine AGo.region ?_
   refine aq 64 (q_inc rfl rfl hjl (by simp only [maxLen]; have := nexts_le2 x; omega)) ?_
   refine am 44 ?_
   refine AOps.nil ?_
   exact ⟨j+1, DropK.mk' z51q (famDrop (k0 := 8) rfl (by repeat (first | exact trivial | refine ⟨⟨by first | rfl | exact congrArg (fun es => some (AObj.row false 1 es)) (aR_put (aheadP_succ hx hd hd0.1)), by first | rfl | exact colF_avoid (fun _ _ => aR_avoid (kf_hi' _) _ _) | exact colF_avoid (fun _ _ => oR_avoid (kf_hi' _) _ _ _ _) | exact colF_avoid (fun _ _ => gK_avoid (kf_hi' _) _ _ _)⟩, ?_⟩)) (fun x_ => by (try simp only [hputs]); (repeat (first | refine hput_skip (by exact beq_false_of_ne (by omega)) ?_ | refine hrm_skip (by omega) ?_)); exact (hput_hi (fun y_ => by (try simp only [hputs]); repeat (first | exact fam_hi _ _ _ | refine hput_skip (by exact beq_false_of_ne (by omega)) ?_ | refine hrm_skip (by omega) ?_)) _ _ x_).trans (congrArg some (rA4_put hdn (aheadP_succ hx hd hd0.1) x_).symm)) (F4_avoid (fun _ => rA4_avoid _) (fun _ => rG4_avoid _) (fun _ => rO4_avoid (kf_hi' _) _) (fun _ => rS4_avoid _))), trivial, by omega⟩
  ·
   refine AGo.cond_false false rfl rfl ?_
   have hjge : x.nexts.length ≤ j := by have h := hb2; simp [intsAV] at h; omega
   refine AGo.exit ?_
   refine AGo.region ?_
   refine aq 65 (q_inc rfl rfl hkl (by simp only [maxLen]; omega)) ?_
   refine am 37 ?_
   refine AOps.nil ?_
   exact ⟨k+1, DropK.mk' z51q (famDrop (k0 := 8) rfl (by repeat (first | exact trivial | refine ⟨⟨by first | rfl | exact congrArg (fun A => some (AObj.row false 1 (colF (aR A) f.blocks.length))) (funext (aheadP_next hx hjge)), by first | rfl | exact colF_avoid (fun _ _ => aR_avoid (kf_hi' _) _ _) | exact colF_avoid (fun _ _ => oR_avoid (kf_hi' _) _ _ _ _) | exact colF_avoid (fun _ _ => gK_avoid (kf_hi' _) _ _ _)⟩, ?_⟩)) (fun x_ => by rw [← rA4_congr (aheadP_next hx hjge)]; exact fam_hi _ _ _) (F4_avoid (fun _ => rA4_avoid _) (fun _ => rG4_avoid _) (fun _ => rO4_avoid (kf_hi' _) _) (fun _ => rS4_avoid _))), hkl, by omega⟩
 ·
  refine AGo.cond_false false rfl rfl ?_
  have hge : f.blocks.length ≤ k := by have h := hb1; simp at h; omega
  refine AGo.exit ?_
  refine AGo.seq ?_
  refine AGo.seq ?_
  have hkn : k = f.blocks.length := by omega
  subst hkn
  rw [show aheadP f f.blocks.length 0 = aheadL f from funext fun c => aheadP_zero f _ c, phS_start f]
  refine AGo.region ?_
  refine af 66 tok ?_
  refine al 67 tok ?_
  refine aq 68 (q_len tok rfl rfl rfl rfl rfl) ?_
  refine am 69 ?_
  refine AOps.nil ?_
  refine AGo.block ?_
  refine AGo.loopK (γ := Nat) (kf 8) (fun k => ⟨152, (eput (eput (eput (eput (eput eNew 1 (.ptr 0 1 0 0)) 3 (.ptr 2 1 0 0)) 67 (blocksAV f.blocks)) 68 (.int .i64 (f.blocks.length : Int))) 69 (.int .i64 (k : Int))), (fam (nb [(.row false 2 [f.cells]), .free, (.row false 8 [NSc f R]), (.row false 1 (colF (aR (aheadL f)) f.blocks.length)), (.row false 1 (colF (oR f.blocks.length R (phS f k (fun _ => []))) R)), (.row false 1 (colF (gK f k) f.blocks.length)), .free, .free]) (NSF f R (phS f k (fun _ => [])) k))⟩) (fun k => k ≤ f.blocks.length) (fun k => f.blocks.length - k) 0 (Sub.mk' z44q (famSub (k0 := 8) rfl z29q z42q (fun c h1 h2 => by rcases (by omega : c = 8 ∨ c = 9 ∨ c = 10 ∨ c = 11 ∨ c = 12 ∨ c = 13 ∨ c = 14 ∨ c = 15) with rfl | rfl | rfl | rfl | rfl | rfl | rfl | rfl <;> first | rfl | (try simp only [hputs]; repeat (first | rfl | refine hput_skip (by exact beq_false_of_ne (by omega)) ?_ | refine hrm_skip (by omega) ?_))))) (Nat.zero_le _) (fun g b hb => famFree (k0 := 8) rfl hb) ?_
  intro k hk
  refine AGo.seq ?_
  refine AGo.region ?_
  refine aq 70 (q_bin rfl rfl rfl rfl) ?_
  refine AOps.nil ?_
  refine AGo.seq ?_
  refine AGo.split 70 rfl (fun hb3 => ?_) (fun hb3 => ?_)
  ·
   refine AGo.cond_true true rfl rfl ?_
   have hkl : k < f.blocks.length := by have h := hb3; simp at h; exact h
   obtain ⟨x, hx⟩ := get_of_lt hkl
   have hxm := List.mem_of_getElem? hx
   have hix := hi x hxm
   refine AGo.skip ?_
   refine AGo.seq ?_
   refine AGo.block ?_
   refine AGo.seq ?_
   refine AGo.region ?_
   refine am 71 ?_
   refine aq 72 (q_index_lst tok rfl rfl rfl rfl rfl rfl (Int.natCast_nonneg _) (idx_map hx) rfl) ?_
   refine al 73 tok ?_
   refine ax 9 (o_alloc tok 8 rfl rfl rfl rfl (Nat.zero_lt_succ _) rfl) ?_
   refine aa 8 ?_
   refine AOps.w rfl rfl (o_store tok rfl rfl rfl rfl rfl rfl rfl rfl rfl (by decide) rfl z61q) ?_
   refine AOps.nil ?_
   refine AGo.seq ?_
   refine AGo.draw mix ?_
   refine dm 74 ?_
   refine dq 75 (q_nilCheck rfl rfl rfl) ?_
   refine df 76 tok ?_
   refine dl 77 tok ?_
   refine dm 78 ?_
   refine df 79 tok ?_
   refine dl 80 tok ?_
   refine dq 81 (q_len tok rfl rfl rfl rfl rfl) ?_
   refine dx 82 (o_makeSlice tok (n := x.ins.length) (m := x.ins.length) (4 * k + 1 + 16) true rfl rfl rfl (by simp) (by simp) rfl rfl rfl (by (try simp only [hputs]); (repeat (first | refine hput_skip (by exact beq_false_of_ne (by omega)) ?_ | refine hrm_skip (by omega) ?_)); exact (fam_hi _ _ _).trans (congrArg some rG4_new)) rfl (Nat.zero_lt_succ _) rfl (Nat.le_refl _) (by show 1 * x.ins.length ≤ _; omega) (by simp only [maxLen]; omega)) ?_
   refine dq 83 (q_index_ref tok rfl rfl rfl rfl rfl rfl z28q (colF_len _ _).symm rfl (Int.natCast_nonneg _) (by omega)) ?_
   refine DOps.w rfl rfl (o_store1 tok (p := false) (sz := 1) (es := colF (gK f k) f.blocks.length) (cs := [gK f k k]) rfl rfl rfl rfl rfl rfl z28q (colF_len _ _).symm (by rw [Nat.zero_add, Int.toNat_natCast]; exact colF_get hkl) rfl (by decide) rfl (by intro h; cases h)) ?_
   refine DOps.nilC cls4 [([],[]), ([],[]), ([],[]), ([2],[]), ([],[]), ([],[]), ([8],[]), ([],[]), ([17],[17]), ([5],[]), ([5],[5])] z0q (by kernel_rfl) ?_
   refine AGo.seq ?_
   refine AGo.seq ?_
   refine AGo.region ?_
   refine af 84 tok ?_
   refine aq 85 (q_load tok rfl rfl rfl (.ptr _ _ _ _ _ _ _ _ z28q rfl rfl) rfl) ?_
   refine aq 86 (q_len tok rfl rfl rfl rfl rfl) ?_
   refine am 87 ?_
   refine AOps.nil ?_
   refine AGo.block ?_
   refine AGo.loopK (γ := Nat) (kf 9) (fun j => ⟨152, (eput (eput (eput (eput (eput (eput (eput (eput (eput (eput eNew 1 (.ptr 0 1 0 0)) 3 (.ptr 2 1 0 0)) 67 (blocksAV f.blocks)) 68 (.int .i64 (f.blocks.length : Int))) 69 (.int .i64 (k : Int))) 8 (.int .i64 (k : Int))) 9 (.ptr 8 1 0 0)) 85 (insAV x.ins)) 86 (.int .i64 (x.ins.length : Int))) 87 (.int .i64 (j : Int))), (fam (nb [(.row false 2 [f.cells]), .free, (.row false 8 [NSc f R]), (.row false 1 (colF (aR (aheadL f)) f.blocks.length)), (.row false 1 (colF (oR f.blocks.length R (phS f k (curU x j []))) R)), (.row false 1 (colF (gK f (k + 1)) f.blocks.length)), .free, .free, (.row false 5 [x.cells])]) (NSF f R (phS f k (curU x j [])) (k + 1)))⟩) (fun j => j ≤ x.ins.length) (fun j => x.ins.length - j) 0 (Sub.mk' z44q (famSub (k0 := 9) rfl (by repeat (first | exact trivial | refine ⟨⟨by first | rfl | exact congrArg (fun S => some (AObj.row false 1 (colF (oR _ R S) R))) (phS_first f k x) | exact congrArg (fun es => some (AObj.row false 1 es)) (gK_put (insLen_eq hx)) | ((try simp only [hputs]); repeat (first | rfl | exact hput_same _ _ _ | refine hput_skip (by exact beq_false_of_ne (by omega)) ?_ | refine hrm_skip (by omega) ?_ | refine (famW_out _ (fun i_ _ => by first | omega | (dsimp only; omega))).trans ?_)), by first | rfl | exact colF_avoid (fun _ _ => aR_avoid (kf_hi' _) _ _) | exact colF_avoid (fun _ _ => oR_avoid (kf_hi' _) _ _ _ _) | exact colF_avoid (fun _ _ => gK_avoid (kf_hi' _) _ _ _)⟩, ?_⟩)) (fun x_ => by (try simp only [hputs]); rw [← phS_first f k x]; (repeat (first | refine hput_skip (by exact beq_false_of_ne (by omega)) ?_ | refine hrm_skip (by omega) ?_)); exact (hput_hi (fun y_ => by (try simp only [hputs]); (repeat (first | refine hput_skip (by exact beq_false_of_ne (by omega)) ?_ | refine hrm_skip (by omega) ?_)); exact fam_hi _ _ _) _ _ x_).trans (congrArg some (rG4_succ (insLen_eq hx) x_).symm)) (fun c h1 h2 => by rcases (by omega : c = 9 ∨ c = 10 ∨ c = 11 ∨ c = 12 ∨ c = 13 ∨ c = 14 ∨ c = 15) with rfl | rfl | rfl | rfl | rfl | rfl | rfl <;> first | rfl | (try simp only [hputs]; repeat (first | rfl | refine hput_skip (by exact beq_false_of_ne (by omega)) ?_ | refine hrm_skip (by omega) ?_))))) (Nat.zero_le _) (fun g b hb => famFree (k0 := 9) rfl hb) ?_
   intro j hj
   refine AGo.seq ?_
   refine AGo.region ?_
   refine aq 88 (q_bin rfl rfl rfl rfl) ?_
   refine AOps.nil ?_
   refine AGo.seq ?_
   refine AGo.split 88 rfl (fun hb4 => ?_) (fun hb4 => ?_)
   ·
    refine AGo.cond_true true rfl rfl ?_
    have hjl : j < x.ins.length := by have h := hb4; simp at h; exact h
    obtain ⟨t, ht⟩ := get_of_lt hjl
    have hin := hs.low x hxm t (List.mem_of_getElem? ht)
    refine AGo.skip ?_
    refine AGo.seq ?_
    refine AGo.block ?_
    refine AGo.seq ?_
    refine AGo.region ?_
    refine am 89 ?_
    refine aq 90 (q_index_lst tok rfl rfl rfl rfl rfl rfl (Int.natCast_nonneg _) (idx_map ht) rfl) ?_
    refine al 91 tok ?_
    refine ax 11 (o_alloc tok 9 rfl rfl rfl rfl (Nat.zero_lt_succ _) rfl) ?_
    refine aa 10 ?_
    refine AOps.w rfl rfl (o_store tok rfl rfl rfl rfl rfl rfl rfl rfl rfl (by decide) rfl z61q) ?_
    refine AOps.nil ?_
    refine AGo.seq ?_
    refine AGo.seq ?_
    refine AGo.region ?_
    refine al 92 tok ?_
    refine ax 93 (o_pure rfl Try.func43 (by kernel_rfl) rfl rfl rfl (bUses_ok _)) ?_
    refine aq 94 (q_len tok rfl rfl rfl rfl rfl) ?_
    refine am 95 ?_
    refine AOps.nil ?_
    refine AGo.block ?_
    refine AGo.loopK (γ := Nat) (kf 10) (fun q => ⟨152, (eput (eput (eput (eput (eput (eput (eput (eput (eput (eput (eput (eput (eput (eput (eput eNew 1 (.ptr 0 1 0 0)) 3 (.ptr 2 1 0 0)) 67 (blocksAV f.blocks)) 68 (.int .i64 (f.blocks.length : Int))) 69 (.int .i64 (k : Int))) 8 (.int .i64 (k : Int))) 9 (.ptr 8 1 0 0)) 85 (insAV x.ins)) 86 (.int .i64 (x.ins.length : Int))) 87 (.int .i64 (j : Int))) 10 (.int .i64 (j : Int))) 11 (.ptr 9 1 0 0)) 93 (intsAV t.uses)) 94 (.int .i64 (t.uses.length : Int))) 95 (.int .i64 (q : Int))), (fam (nb [(.row false 2 [f.cells]), .free, (.row false 8 [NSc f R]), (.row false 1 (colF (aR (aheadL f)) f.blocks.length)), (.row false 1 (colF (oR f.blocks.length R (phS f k (curU x j (t.uses.take q)))) R)), (.row false 1 (colF (gK f (k + 1)) f.blocks.length)), .free, .free, (.row false 5 [x.cells]), (.row false 8 [t.cells])]) (NSF f R (phS f k (curU x j (t.uses.take q))) (k + 1)))⟩) (fun q => True) (fun q => t.uses.length - q) 0 (Sub.mk' z44q (famSub (k0 := 10) rfl z29q z42q (fun c h1 h2 => by rcases (by omega : c = 10 ∨ c = 11 ∨ c = 12 ∨ c = 13 ∨ c = 14 ∨ c = 15) with rfl | rfl | rfl | rfl | rfl | rfl <;> first | rfl | (try simp only [hputs]; repeat (first | rfl | refine hput_skip (by exact beq_false_of_ne (by omega)) ?_ | refine hrm_skip (by omega) ?_))))) trivial (fun g b hb => famFree (k0 := 10) rfl hb) ?_
    intro q _
    refine AGo.seq ?_
    refine AGo.region ?_
    refine aq 96 (q_bin rfl rfl rfl rfl) ?_
    refine AOps.nil ?_
    refine AGo.seq ?_
    refine AGo.split 96 rfl (fun hb5 => ?_) (fun hb5 => ?_)
    ·
     refine AGo.cond_true true rfl rfl ?_
     have hql : q < t.uses.length := by have h := hb5; simp [intsAV] at h; exact h
     obtain ⟨u, hu⟩ := get_of_lt hql
     have hub := hin.2 u (List.mem_of_getElem? hu)
     have hub2 : u.toNat < R := by omega
     refine AGo.skip ?_
     refine AGo.seq ?_
     refine AGo.block ?_
     refine AGo.seq ?_
     refine AGo.region ?_
     refine aq 97 (q_index_lst tok rfl rfl rfl rfl rfl rfl (Int.natCast_nonneg _) (idx_map hu) rfl) ?_
     refine al 98 tok ?_
     refine aa 13 ?_
     refine AOps.nil ?_
     refine AGo.region ?_
     refine am 99 ?_
     refine am 100 ?_
     refine am 101 ?_
     refine am 102 ?_
     refine AOps.call 103 (hn := putD _ (DH (NSL f R (setS (phS f k (curU x j (t.uses.take q))) k u.toNat (noteL (phS f k (curU x j (t.uses.take q)) k u.toNat) j)) (k + 1)) (NSF f R (setS (phS f k (curU x j (t.uses.take q))) k u.toNat (noteL (phS f k (curU x j (t.uses.take q)) k u.toNat) j)) (k + 1)))) (r := .ptr (4 * (u.toNat + R * k) + 3 + 16) (noteL (phS f k (curU x j (t.uses.take q)) k u.toNat) j).length ((noteL (phS f k (curU x j (t.uses.take q)) k u.toNat) j).length - 1) 0) rfl rfl rfl (o_callDH (NSL f R (phS f k (curU x j (t.uses.take q))) (k + 1)) (NSL f R (setS (phS f k (curU x j (t.uses.take q))) k u.toNat (noteL (phS f k (curU x j (t.uses.take q)) k u.toNat) j)) (k + 1)) (NSF f R (setS (phS f k (curU x j (t.uses.take q))) k u.toNat (noteL (phS f k (curU x j (t.uses.take q)) k u.toNat) j)) (k + 1)) rfl Try.func44 (by kernel_rfl) rfl rfl rfl rfl rfl (NSL_avoid _ _ _ _) (NSL_avoid _ _ _ _) z52q z24q (NSF_avoid kD_hi f R _ _) (NSF_avoid kD_hi f R _ _) (by simp [AV.avoid, AV.flat, kD_hi]) (by have h := dnote_ok f.blocks.length R (phS f k (curU x j (t.uses.take q))) u.toNat k j hub2 hkl (phS_last f k _ _) (ph_len (by omega)) hn (.int .i64 f.regs) (blocksAV f.blocks) (pathsAV f.nexts) (.ref 3 f.blocks.length 0 f.blocks.length) (.ref 5 f.blocks.length 0 f.blocks.length) .nil .nil (.row false 1 (colF (aR (aheadL f)) f.blocks.length)) (.row false 1 (colF (gK f (k + 1)) f.blocks.length)) .free .free (rA4 f.blocks.length (aheadL f)) (rG4 f (k + 1) G0); rw [Int.toNat_of_nonneg hub.1] at h; first | exact h | (rw [List.length_map]; exact h))) ?_
     obtain ⟨s, hs1, hs2, hs3⟩ := si_last (noteL_pos (phS f k (curU x j (t.uses.take q)) k u.toNat) j)
     refine aq 104 (q_nilCheck rfl rfl rfl) ?_
     refine af 105 tok ?_
     refine AOps.w rfl rfl (o_store tok (es := (noteL (phS f k (curU x j (t.uses.take q)) k u.toNat) j).map siC) (cs := siC s) rfl rfl rfl rfl rfl (by (try simp only [hputs]); exact (putD_hi _ _ _).trans ((fam_hi _ _ _).trans (congrArg some (flag_row hub2 (noteL_pos _ _))))) (List.length_map _).symm (by rw [List.getElem?_map, hs1]; rfl) rfl (by decide) rfl (fun _ => rfl)) ?_
     refine AOps.nil ?_
     refine AGo.region ?_
     refine aq 106 (q_inc rfl rfl hql (by have := uses_len t; simp only [maxLen]; omega)) ?_
     refine am 95 ?_
     refine AOps.nil ?_
     exact ⟨q+1, DropK.mk' z51q (famDrop (k0 := 10) rfl (by repeat (first | exact trivial | refine ⟨⟨by first | rfl | exact congrArg (fun es => some (AObj.row false 1 es)) (NSL_put flagR_len (ph_use hu hub.1)) | (refine (putD_yes rfl).trans ?_; exact congrArg (fun es => some (AObj.row false 1 es)) (NSL_put flagR_len (ph_use hu hub.1))) | exact putD_yes rfl | ((try simp only [hputs]); repeat (first | rfl | exact hput_same _ _ _ | refine hput_skip (by exact beq_false_of_ne (by omega)) ?_ | refine hrm_skip (by omega) ?_ | refine (famW_out _ (fun i_ _ => by first | omega | (dsimp only; omega))).trans ?_)), by first | rfl | exact colF_avoid (fun _ _ => aR_avoid (kf_hi' _) _ _) | exact colF_avoid (fun _ _ => oR_avoid (kf_hi' _) _ _ _ _) | exact colF_avoid (fun _ _ => gK_avoid (kf_hi' _) _ _ _)⟩, ?_⟩)) (fun x_ => (hput_hi (fun y_ => (putD_hi _ _ y_).trans (fam_hi _ _ _)) _ _ x_).trans (congrArg some (NSF_put hub2 flagR_len (noteL_pos _ _) (ph_use hu hub.1) hs2 x_).symm)) (NSF_avoid (kf_hi' _) f R _ _)), trivial, by omega⟩
    ·
     refine AGo.cond_false false rfl rfl ?_
     have hqge : t.uses.length ≤ q := by have h := hb5; simp [intsAV] at h; omega
     rw [List.take_of_length_le hqge]
     refine AGo.exit ?_
     refine AGo.seq ?_
     refine AGo.region ?_
     refine al 107 tok ?_
     refine ax 108 (o_pure rfl Try.func45 (by kernel_rfl) rfl rfl rfl (bSets_ok _)) ?_
     refine aa 14 ?_
     refine AOps.nil ?_
     refine AGo.seq ?_
     refine AGo.region ?_
     refine am 109 ?_
     refine aq 110 (q_bin rfl rfl rfl rfl) ?_
     refine AOps.nil ?_
     refine AGo.split 110 rfl (fun hb6 => ?_) (fun hb6 => ?_)
     ·
      refine AGo.cond_true true rfl rfl ?_
      have hsp : 0 ≤ t.sets := by simpa using hb6
      have hs2_ : t.sets.toNat < R := by have := hin.1 (sets_pos (by simpa using hb6)); rw [← sets_eq (sets_pos (by simpa using hb6))] at this; omega
      refine AGo.region ?_
      refine am 111 ?_
      refine am 112 ?_
      refine am 113 ?_
      refine am 114 ?_
      refine AOps.call 115 (hn := putD _ (DH (NSL f R (setS (phS f k (curU x j t.uses)) k t.sets.toNat (noteL (phS f k (curU x j t.uses) k t.sets.toNat) j)) (k + 1)) (NSF f R (setS (phS f k (curU x j t.uses)) k t.sets.toNat (noteL (phS f k (curU x j t.uses) k t.sets.toNat) j)) (k + 1)))) (r := .ptr (4 * (t.sets.toNat + R * k) + 3 + 16) (noteL (phS f k (curU x j t.uses) k t.sets.toNat) j).length ((noteL (phS f k (curU x j t.uses) k t.sets.toNat) j).length - 1) 0) rfl rfl rfl (o_callDH (NSL f R (phS f k (curU x j t.uses)) (k + 1)) (NSL f R (setS (phS f k (curU x j t.uses)) k t.sets.toNat (noteL (phS f k (curU x j t.uses) k t.sets.toNat) j)) (k + 1)) (NSF f R (setS (phS f k (curU x j t.uses)) k t.sets.toNat (noteL (phS f k (curU x j t.uses) k t.sets.toNat) j)) (k + 1)) rfl Try.func44 (by kernel_rfl) rfl rfl rfl rfl rfl (NSL_avoid _ _ _ _) (NSL_avoid _ _ _ _) z52q z24q (NSF_avoid kD_hi f R _ _) (NSF_avoid kD_hi f R _ _) (by simp [AV.avoid, AV.flat, kD_hi]) (by have h := dnote_ok f.blocks.length R (phS f k (curU x j t.uses)) t.sets.toNat k j hs2_ hkl (phS_last f k _ _) (ph_len (by omega)) hn (.int .i64 f.regs) (blocksAV f.blocks) (pathsAV f.nexts) (.ref 3 f.blocks.length 0 f.blocks.length) (.ref 5 f.blocks.length 0 f.blocks.length) .nil .nil (.row false 1 (colF (aR (aheadL f)) f.blocks.length)) (.row false 1 (colF (gK f (k + 1)) f.blocks.length)) .free .free (rA4 f.blocks.length (aheadL f)) (rG4 f (k + 1) G0); rw [Int.toNat_of_nonneg hsp] at h; first | exact h | (rw [List.length_map]; exact h))) ?_
      obtain ⟨s, hs1, hs2, hs3⟩ := si_last (noteL_pos (phS f k (curU x j t.uses) k t.sets.toNat) j)
      refine aq 116 (q_nilCheck rfl rfl rfl) ?_
      refine af 117 tok ?_
      refine AOps.w rfl rfl (o_store tok (es := (noteL (phS f k (curU x j t.uses) k t.sets.toNat) j).map siC) (cs := siC s) rfl rfl rfl rfl rfl (by (try simp only [hputs]); exact (putD_hi _ _ _).trans ((fam_hi _ _ _).trans (congrArg some (flag_row hs2_ (noteL_pos _ _))))) (List.length_map _).symm (by rw [List.getElem?_map, hs1]; rfl) rfl (by decide) rfl (fun _ => rfl)) ?_
      refine AOps.nil ?_
      refine AGo.region ?_
      refine aq 118 (q_inc rfl rfl hjl (by simp only [maxLen]; omega)) ?_
      refine am 87 ?_
      refine AOps.nil ?_
      exact ⟨j+1, DropK.mk' z51q (famDrop (k0 := 9) rfl (by repeat (first | exact trivial | refine ⟨⟨by first | rfl | exact congrArg (fun es => some (AObj.row false 1 es)) (NSL_put flagS_len (ph_set ht hsp)) | (refine (putD_yes rfl).trans ?_; exact congrArg (fun es => some (AObj.row false 1 es)) (NSL_put flagS_len (ph_set ht hsp))) | exact putD_yes rfl | ((try simp only [hputs]); repeat (first | rfl | exact hput_same _ _ _ | refine hput_skip (by exact beq_false_of_ne (by omega)) ?_ | refine hrm_skip (by omega) ?_ | refine (famW_out _ (fun i_ _ => by first | omega | (dsimp only; omega))).trans ?_)), by first | rfl | exact colF_avoid (fun _ _ => aR_avoid (kf_hi' _) _ _) | exact colF_avoid (fun _ _ => oR_avoid (kf_hi' _) _ _ _ _) | exact colF_avoid (fun _ _ => gK_avoid (kf_hi' _) _ _ _)⟩, ?_⟩)) (fun x_ => (hput_hi (fun y_ => (putD_hi _ _ y_).trans (fam_hi _ _ _)) _ _ x_).trans (congrArg some (NSF_put hs2_ flagS_len (noteL_pos _ _) (ph_set ht hsp) hs3 x_).symm)) (NSF_avoid (kf_hi' _) f R _ _)), hjl, by omega⟩
     ·
      refine AGo.cond_false false rfl rfl ?_
      have hsp : ¬ 0 ≤ t.sets := by simpa using hb6
      refine AGo.skip ?_
      refine AGo.region ?_
      refine aq 118 (q_inc rfl rfl hjl (by simp only [maxLen]; omega)) ?_
      refine am 87 ?_
      refine AOps.nil ?_
      exact ⟨j+1, DropK.mk' z51q (famDrop (k0 := 9) rfl (by repeat (first | exact trivial | refine ⟨⟨by first | rfl | exact congrArg (fun S => some (AObj.row false 1 (colF (oR _ R S) R))) (ph_noset ht hsp), by first | rfl | exact colF_avoid (fun _ _ => aR_avoid (kf_hi' _) _ _) | exact colF_avoid (fun _ _ => oR_avoid (kf_hi' _) _ _ _ _) | exact colF_avoid (fun _ _ => gK_avoid (kf_hi' _) _ _ _)⟩, ?_⟩)) (fun x_ => by rw [← ph_noset ht hsp]; exact fam_hi _ _ _) (NSF_avoid (kf_hi' _) f R _ _)), hjl, by omega⟩
   ·
    refine AGo.cond_false false rfl rfl ?_
    have hje : j = x.ins.length := by have h := hb4; simp at h; omega
    subst hje
    refine AGo.exit ?_
    refine AGo.seq ?_
    refine AGo.region ?_
    refine af 119 tok ?_
    refine al 120 tok ?_
    refine aq 121 (q_bin rfl rfl rfl rfl) ?_
    refine AOps.nil ?_
    refine AGo.split 121 rfl (fun hb7 => ?_) (fun hb7 => ?_)
    ·
     refine AGo.cond_true true rfl rfl ?_
     have hfin : x.fin = 2 := by simpa using hb7
     have hv2 := hs.fin x hxm hfin
     have hv3 : x.v.toNat < R := by omega
     refine AGo.region ?_
     refine am 122 ?_
     refine af 123 tok ?_
     refine al 124 tok ?_
     refine am 125 ?_
     refine af 126 tok ?_
     refine al 127 tok ?_
     refine aq 128 (q_len tok rfl rfl rfl rfl rfl) ?_
     refine AOps.call 129 (hn := putD _ (DH (NSL f R (setS (phS f k (curU x x.ins.length [])) k x.v.toNat (noteL (phS f k (curU x x.ins.length []) k x.v.toNat) x.ins.length)) (k + 1)) (NSF f R (setS (phS f k (curU x x.ins.length [])) k x.v.toNat (noteL (phS f k (curU x x.ins.length []) k x.v.toNat) x.ins.length)) (k + 1)))) (r := .ptr (4 * (x.v.toNat + R * k) + 3 + 16) (noteL (phS f k (curU x x.ins.length []) k x.v.toNat) x.ins.length).length ((noteL (phS f k (curU x x.ins.length []) k x.v.toNat) x.ins.length).length - 1) 0) rfl rfl rfl (o_callDH (NSL f R (phS f k (curU x x.ins.length [])) (k + 1)) (NSL f R (setS (phS f k (curU x x.ins.length [])) k x.v.toNat (noteL (phS f k (curU x x.ins.length []) k x.v.toNat) x.ins.length)) (k + 1)) (NSF f R (setS (phS f k (curU x x.ins.length [])) k x.v.toNat (noteL (phS f k (curU x x.ins.length []) k x.v.toNat) x.ins.length)) (k + 1)) rfl Try.func44 (by kernel_rfl) rfl rfl rfl rfl rfl (NSL_avoid _ _ _ _) (NSL_avoid _ _ _ _) z52q z24q (NSF_avoid kD_hi f R _ _) (NSF_avoid kD_hi f R _ _) (by simp [AV.avoid, AV.flat, kD_hi]) (by have h := dnote_ok f.blocks.length R (phS f k (curU x x.ins.length [])) x.v.toNat k x.ins.length hv3 hkl (phS_last f k _ _) (ph_len (by omega)) hn (.int .i64 f.regs) (blocksAV f.blocks) (pathsAV f.nexts) (.ref 3 f.blocks.length 0 f.blocks.length) (.ref 5 f.blocks.length 0 f.blocks.length) .nil .nil (.row false 1 (colF (aR (aheadL f)) f.blocks.length)) (.row false 1 (colF (gK f (k + 1)) f.blocks.length)) .free .free (rA4 f.blocks.length (aheadL f)) (rG4 f (k + 1) G0); rw [Int.toNat_of_nonneg hv2.1] at h; first | exact h | (rw [List.length_map]; exact h))) ?_
     obtain ⟨s, hs1, hs2, hs3⟩ := si_last (noteL_pos (phS f k (curU x x.ins.length []) k x.v.toNat) x.ins.length)
     refine aq 130 (q_nilCheck rfl rfl rfl) ?_
     refine af 131 tok ?_
     refine AOps.w rfl rfl (o_store tok (es := (noteL (phS f k (curU x x.ins.length []) k x.v.toNat) x.ins.length).map siC) (cs := siC s) rfl rfl rfl rfl rfl (by (try simp only [hputs]); exact (putD_hi _ _ _).trans ((fam_hi _ _ _).trans (congrArg some (flag_row hv3 (noteL_pos _ _))))) (List.length_map _).symm (by rw [List.getElem?_map, hs1]; rfl) rfl (by decide) rfl (fun _ => rfl)) ?_
     refine AOps.nil ?_
     refine AGo.region ?_
     refine aq 132 (q_inc rfl rfl hkl (by simp only [maxLen]; omega)) ?_
     refine am 69 ?_
     refine AOps.nil ?_
     exact ⟨k+1, DropK.mk' z51q (famDrop (k0 := 8) rfl (by repeat (first | exact trivial | refine ⟨⟨by first | rfl | exact congrArg (fun es => some (AObj.row false 1 es)) (NSL_put flagR_len (ph_end hx hfin hv2.1)) | (refine (putD_yes rfl).trans ?_; exact congrArg (fun es => some (AObj.row false 1 es)) (NSL_put flagR_len (ph_end hx hfin hv2.1))) | exact putD_yes rfl | ((try simp only [hputs]); repeat (first | rfl | exact hput_same _ _ _ | refine hput_skip (by exact beq_false_of_ne (by omega)) ?_ | refine hrm_skip (by omega) ?_ | refine (famW_out _ (fun i_ _ => by first | omega | (dsimp only; omega))).trans ?_)), by first | rfl | exact colF_avoid (fun _ _ => aR_avoid (kf_hi' _) _ _) | exact colF_avoid (fun _ _ => oR_avoid (kf_hi' _) _ _ _ _) | exact colF_avoid (fun _ _ => gK_avoid (kf_hi' _) _ _ _)⟩, ?_⟩)) (fun x_ => (hput_hi (fun y_ => (putD_hi _ _ y_).trans (fam_hi _ _ _)) _ _ x_).trans (congrArg some (NSF_put hv3 flagR_len (noteL_pos _ _) (ph_end hx hfin hv2.1) hs2 x_).symm)) (NSF_avoid (kf_hi' _) f R _ _)), hkl, by omega⟩
    ·
     refine AGo.cond_false false rfl rfl ?_
     have hfin : ¬ x.fin = 2 := by simpa using hb7
     refine AGo.skip ?_
     refine AGo.region ?_
     refine aq 132 (q_inc rfl rfl hkl (by simp only [maxLen]; omega)) ?_
     refine am 69 ?_
     refine AOps.nil ?_
     exact ⟨k+1, DropK.mk' z51q (famDrop (k0 := 8) rfl (by repeat (first | exact trivial | refine ⟨⟨by first | rfl | exact congrArg (fun S => some (AObj.row false 1 (colF (oR _ R S) R))) (ph_noend hx hfin), by first | rfl | exact colF_avoid (fun _ _ => aR_avoid (kf_hi' _) _ _) | exact colF_avoid (fun _ _ => oR_avoid (kf_hi' _) _ _ _ _) | exact colF_avoid (fun _ _ => gK_avoid (kf_hi' _) _ _ _)⟩, ?_⟩)) (fun x_ => by rw [← ph_noend hx hfin]; exact fam_hi _ _ _) (NSF_avoid (kf_hi' _) f R _ _)), hkl, by omega⟩
  ·
   refine AGo.cond_false false rfl rfl ?_
   have hge : f.blocks.length ≤ k := by have h := hb3; simp at h; omega
   refine AGo.exit ?_
   refine AGo.seq ?_
   have hkn : k = f.blocks.length := by omega
   subst hkn
   rw [phS_all, gK_all]
   refine AGo.region ?_
   refine am 133 ?_
   refine af 134 tok ?_
   refine al 135 tok ?_
   refine ax 136 (o_makeSlice tok (n := R) (m := R) 7 true rfl rfl rfl hRf hRf rfl rfl rfl rfl rfl (Nat.zero_lt_succ _) rfl (Nat.le_refl _) (by show 1 * R ≤ _; omega) (by simp only [maxLen]; omega)) ?_
   refine aq 137 (q_nilCheck rfl rfl rfl) ?_
   refine af 138 tok ?_
   refine AOps.w rfl rfl (o_store tok rfl rfl rfl rfl rfl rfl rfl rfl rfl (by decide) rfl z61q) ?_
   refine AOps.nil ?_
   refine AGo.seq ?_
   refine AGo.seq ?_
   refine AGo.ghost (.dryCell 2 0 6 6 1 true rfl rfl rfl rfl rfl (by decide)) ?_
   refine AGo.region ?_
   refine am 139 ?_
   refine aq 140 (q_nilCheck rfl rfl rfl) ?_
   refine af 141 tok ?_
   refine al 142 tok ?_
   refine aq 143 (q_len tok rfl rfl rfl rfl rfl) ?_
   refine am 144 ?_
   refine AOps.nil ?_
   refine AGo.block ?_
   refine AGo.loopK (γ := Nat) (kf 8) (fun k => ⟨152, (eput (eput (eput (eput eNew 1 (.ptr 0 1 0 0)) 3 (.ptr 2 1 0 0)) 143 (.int .i64 (R : Int))) 144 (.int .i64 (k : Int))), (fam (nb [(.row false 2 [f.cells]), .free, (.row false 8 [SDc f R ((List.range k).map natC).length (k)]), (.row false 1 (colF (aR (aheadL f)) f.blocks.length)), (.row false 1 (colF (oR f.blocks.length R (SB f)) R)), (.row false 1 (colF (gR f) f.blocks.length)), (.row true 1 ((List.range k).map natC)), (.row true 1 (bC R (fun b => decide (b < k))))]) (DF f R (SB f) G0))⟩) (fun k => k ≤ R) (fun k => R - k) 0 (Sub.mk' z44q (famSub (k0 := 8) rfl (by repeat (first | exact trivial | refine ⟨⟨by first | rfl | exact congrArg (fun es => some (AObj.row true 1 es)) (bC_start R), by first | rfl | exact colF_avoid (fun _ _ => aR_avoid (kf_hi' _) _ _) | exact colF_avoid (fun _ _ => oR_avoid (kf_hi' _) _ _ _ _) | exact colF_avoid (fun _ _ => gR_avoid (kf_hi' _) _ _)⟩, ?_⟩)) z42q (fun c h1 h2 => by rcases (by omega : c = 8 ∨ c = 9 ∨ c = 10 ∨ c = 11 ∨ c = 12 ∨ c = 13 ∨ c = 14 ∨ c = 15) with rfl | rfl | rfl | rfl | rfl | rfl | rfl | rfl <;> first | rfl | (try simp only [hputs]; repeat (first | rfl | refine hput_skip (by exact beq_false_of_ne (by omega)) ?_ | refine hrm_skip (by omega) ?_))))) (Nat.zero_le _) (fun g b hb => famFree (k0 := 8) rfl hb) ?_
   intro k hk
   refine AGo.seq ?_
   refine AGo.region ?_
   refine aq 145 (q_bin rfl rfl rfl rfl) ?_
   refine AOps.nil ?_
   refine AGo.seq ?_
   refine AGo.split 145 rfl (fun hb8 => ?_) (fun hb8 => ?_)
   ·
    refine AGo.cond_true true rfl rfl ?_
    have hkl : k < R := by have h := hb8; simp at h; exact h
    refine AGo.skip ?_
    refine AGo.seq ?_
    refine AGo.block ?_
    refine AGo.seq ?_
    refine AGo.region ?_
    refine am 146 ?_
    refine aa 15 ?_
    refine AOps.nil ?_
    refine AGo.region ?_
    refine am 147 ?_
    refine am 148 ?_
    refine AOps.call 149 (hn := putD _ (DH (DSL f R (SB f) ((List.range (k + 1)).map natC) (k + 1) (fun b => decide (b < k + 1))) (DF f R (SB f) G0))) (r := .tup []) rfl rfl rfl (o_callDH (DSL f R (SB f) ((List.range k).map natC) (k) (fun b => decide (b < k))) (DSL f R (SB f) ((List.range (k + 1)).map natC) (k + 1) (fun b => decide (b < k + 1))) (DF f R (SB f) G0) rfl Try.func46 (by kernel_rfl) rfl rfl rfl rfl rfl (DSL_avoid _ _ _ _ _ _) (DSL_avoid _ _ _ _ _ _) z52q z24q (DF_avoid kD_hi f R _ _) (DF_avoid kD_hi f R _ _) rfl (by have h := dpush_ok f R (SB f) G0 ((List.range k).map natC) k (fun b => decide (b < k)) k hkl hR (by simp) (by simp; omega); rw [push_range, len_range, upd_range] at h; exact h)) ?_
    refine AOps.nil ?_
    refine AGo.region ?_
    refine aq 150 (q_inc rfl rfl hkl (by simp only [maxLen]; omega)) ?_
    refine am 144 ?_
    refine AOps.nil ?_
    exact ⟨k+1, DropK.mk' z51q (famDrop (k0 := 8) rfl z21q (fun x_ => (putD_hi _ _ x_).trans (fam_hi _ _ _)) (DF_avoid (kf_hi' _) f R _ _)), hkl, by omega⟩
   ·
    refine AGo.cond_false false rfl rfl ?_
    have hge : R ≤ k := by have h := hb8; simp at h; omega
    refine AGo.exit ?_
    refine AGo.seq ?_
    refine AGo.region ?_
    refine am 151 ?_
    refine aa 2 ?_
    refine AOps.nil ?_
    refine AGo.ret ?_
    have hkn : k = R := by omega
    subst hkn
    exact ⟨[_], ⟨rfl, trivial⟩, rfl, (dh_sub rfl z58q z24q)⟩

end Go.Proofs.Ytjmjmedjjbginaa.Sv

namespace Go.Proofs.Ytjmjmedjjbginaa.Sv
open Go

set_option maxRecDepth 100000 in
theorem gone_ok (f : BFunc) (R : Nat) (S : SS) (G : GG) (es : List (List AV)) (len : Nat) (w : Nat → Bool) (i : Nat) (x : Block) (hx : f.blocks[i]? = some x) (j : Nat) (hj : j < x.ins.length) : ACall Try.prog 29 [.int .i64 (j : Int), .ptr 8 1 0 0, .ptr 12 1 0 0] (WS f R S G es len w i) (fun r h' => r = .bool (G i j) ∧ HSub (putK kW hNone (WS f R S G es len w i)) h') := by
 have hb : i < f.blocks.length := (List.getElem?_eq_some_iff.1 hx).1
 refine ACall.of_body (n := 15) tok Try.func29 rfl rfl ?_
 refine AGo.seq ?_
 refine AGo.region ?_
 refine aa 4 ?_
 refine AOps.nil ?_
 refine AGo.seq ?_
 refine AGo.draw mix ?_
 refine dl 5 tok ?_
 refine dq 6 (q_nilCheck rfl rfl rfl) ?_
 refine df 7 tok ?_
 refine dl 8 tok ?_
 refine dl 9 tok ?_
 refine dq 10 (q_index_ref tok rfl rfl rfl rfl rfl rfl rfl (colF_len _ _).symm rfl (Int.natCast_nonneg _) (by omega)) ?_
 refine dq 11 (q_load tok rfl rfl rfl (.ptr _ _ _ _ _ _ _ [gR f i] rfl (colF_len _ _).symm z55q) rfl) ?_
 refine dm 12 ?_
 refine dq 13 (q_index_ref tok rfl rfl rfl rfl rfl rfl ((fam_hi _ _ _).trans (congrArg some (rG4_at hb hx))) (by rw [colF_len, insLen_eq hx]) rfl (Int.natCast_nonneg _) (by rw [insLen_eq hx]; omega)) ?_
 refine dq 14 (q_load tok rfl rfl rfl (.ptr _ _ _ _ true 1 (bC x.ins.length (G i)) [.bool (G i j)] ((fam_hi _ _ _).trans (congrArg some (rG4_at hb hx))) (by rw [colF_len, insLen_eq hx]) (by rw [Nat.zero_add, Int.toNat_natCast]; exact colF_get hj)) rfl) ?_
 refine da 4 ?_
 refine DOps.nil (by kernel_rfl) ?_
 refine AGo.ret ?_
 exact ⟨[_], ⟨rfl, trivial⟩, rfl, putK_sub (WH_of rfl rfl rfl rfl rfl rfl rfl rfl (fun x_ => by dsimp only; exact fam_hi _ _ _))⟩

set_option maxHeartbeats 1000000 in
set_option maxRecDepth 100000 in
theorem without_ok (f : BFunc) (R : Nat) (S : SS) (G : GG) (es : List (List AV)) (len : Nat) (w : Nat → Bool) (i : Nat) (x : Block) (hx : f.blocks[i]? = some x) (hi : x.ins.length ≤ 100000) : ACall Try.prog 28 [insAV x.ins, (.fn (.func 29) [] [.ptr 8 1 0 0, .ptr 12 1 0 0])] (WS f R S G es len w i) (fun r h' => r = insAV (kpI (G i) x.ins 0) ∧ HSub (putK kW hNone (WS f R S G es len w i)) h') := by
 refine ACall.of_body (n := 28) tok Try.func28 rfl rfl ?_
 refine AGo.seq ?_
 refine AGo.region ?_
 refine aa 4 ?_
 refine AOps.nil ?_
 refine AGo.seq ?_
 refine AGo.region ?_
 refine am 8 ?_
 refine aq 9 (q_len tok rfl rfl rfl rfl rfl) ?_
 refine ax 10 (o_makeSlice tok (n := 0) (m := x.ins.length) 9 true rfl rfl rfl (rfl) (by simp) rfl rfl rfl rfl rfl (Nat.zero_lt_succ _) rfl (Nat.zero_le _) (by show 64 * x.ins.length ≤ _; omega) (by simp only [maxLen]; omega)) ?_
 refine aa 5 ?_
 refine AOps.nil ?_
 refine AGo.seq ?_
 refine AGo.seq ?_
 refine AGo.region ?_
 refine am 11 ?_
 refine aq 12 (q_len tok rfl rfl rfl rfl rfl) ?_
 refine am 13 ?_
 refine AOps.nil ?_
 refine AGo.block ?_
 refine AGo.loopK (γ := Nat) (kf 13) (fun j => ⟨28, (eput (eput (eput (eput (eput eNew 1 (.fn (.func 29) [] [.ptr 8 1 0 0, .ptr 12 1 0 0])) 5 (.ref 9 (kpI (G i) (x.ins.take j) 0).length 0 (kpI (G i) (x.ins.take j) 0).length)) 11 (insAV x.ins)) 12 (.int .i64 (x.ins.length : Int))) 13 (.int .i64 (j : Int))), (fam (nb [.free, .free, (.row false 8 [SDc f R (es).length (len)]), (.row false 1 (colF (aR (aheadL f)) f.blocks.length)), (.row false 1 (colF (oR f.blocks.length R S) R)), (.row false 1 (colF (gR f) f.blocks.length)), (.row true 1 (es)), (.row true 1 (bC R (w))), ArW, (.row true 8 ((kpI (G i) (x.ins.take j) 0).map Tac.cells)), .free, .free, (BrW i)]) (DF f R S G))⟩) (fun j => j ≤ x.ins.length) (fun j => x.ins.length - j) 0 (Sub.mk' z44q (famSub (k0 := 13) rfl z30q z42q (fun c h1 h2 => by rcases (by omega : c = 13 ∨ c = 14 ∨ c = 15) with rfl | rfl | rfl <;> first | rfl | (try simp only [hputs]; repeat (first | rfl | refine hput_skip (by exact beq_false_of_ne (by omega)) ?_ | refine hrm_skip (by omega) ?_))))) (Nat.zero_le _) (fun g b hb => famFree (k0 := 13) rfl hb) ?_
 intro j hj
 refine AGo.seq ?_
 refine AGo.region ?_
 refine aq 14 (q_bin rfl rfl rfl rfl) ?_
 refine AOps.nil ?_
 refine AGo.seq ?_
 refine AGo.split 14 rfl (fun hb1 => ?_) (fun hb1 => ?_)
 ·
  refine AGo.cond_true true rfl rfl ?_
  have hjl : j < x.ins.length := by have h := hb1; simp at h; exact h
  obtain ⟨t, ht⟩ := get_of_lt hjl
  refine AGo.skip ?_
  refine AGo.seq ?_
  refine AGo.block ?_
  refine AGo.seq ?_
  refine AGo.region ?_
  refine am 15 ?_
  refine aq 16 (q_index_lst tok rfl rfl rfl rfl rfl rfl (Int.natCast_nonneg _) (idx_map ht) rfl) ?_
  refine al 17 tok ?_
  refine ax 7 (o_alloc tok 13 rfl rfl rfl rfl (Nat.zero_lt_succ _) rfl) ?_
  refine aa 6 ?_
  refine AOps.w rfl rfl (o_store tok rfl rfl rfl rfl rfl rfl rfl rfl rfl (by decide) rfl z61q) ?_
  refine AOps.nil ?_
  refine AGo.seq ?_
  refine AGo.region ?_
  refine am 18 ?_
  refine am 19 ?_
  refine AOps.call 20 (hn := _) (r := .bool (G i j)) rfl rfl rfl (o_callFR (W := (WS f R S G es len w i)) kW rfl rfl Try.func29 (by kernel_rfl) rfl rfl rfl (WH_of z28q z28q z28q z28q z28q z28q z28q z28q (fun x_ => by (try simp only [hputs]); (try dsimp only); first | exact fam_hi _ _ _ | ((repeat (first | refine hput_skip (by exact beq_false_of_ne (by omega)) ?_ | refine hrm_skip (by omega) ?_)); exact fam_hi _ _ _))) (WS_avoid f R S G es len w i) WH_free rfl (gone_ok f R S G es len w i x hx j hjl)) ?_
  refine aq 21 (q_not rfl rfl) ?_
  refine AOps.nil ?_
  refine AGo.split 21 rfl (fun hb2 => ?_) (fun hb2 => ?_)
  ·
   refine AGo.cond_true true rfl rfl ?_
   have hg : G i j = false := by have h := hb2; simpa using h
   refine AGo.region ?_
   refine am 22 ?_
   refine al 23 tok ?_
   refine ax 24 (o_lit' tok rfl rfl rfl rfl rfl rfl (by decide) rfl rfl rfl rfl rfl rfl) ?_
   refine ax 25 (o_append tok (n := (kpI (G i) (x.ins.take j) 0).length) (m := 1) (es := (kpI (G i) (x.ins.take j) 0).map Tac.cells) rfl rfl rfl rfl rfl rfl rfl rfl rfl (by rw [List.length_map]) rfl rfl (Nat.zero_lt_succ _) (.lst _ _) (by intro cs h; simp [partVals] at h; subst h; rfl) (fun _ cs h => by simp [partVals] at h; subst h; rfl) rfl (by have h1 := kpI_len (G i) (x.ins.take j) 0; rw [List.length_take] at h1; simp [partVals]; omega) (by have h1 := kpI_len (G i) (x.ins.take j) 0; rw [List.length_take] at h1; simp [partVals]; simp only [maxLen]; omega)) ?_
   refine aa 5 ?_
   refine AOps.nil ?_
   refine AGo.region ?_
   refine aq 26 (q_inc rfl rfl hjl (by simp only [maxLen]; omega)) ?_
   refine am 13 ?_
   refine AOps.nil ?_
   exact ⟨j+1, DropK.mk' z12q (famDrop (k0 := 13) rfl z4q z42q (DF_avoid (kf_hi' _) f R _ _)), hjl, by omega⟩
  ·
   refine AGo.cond_false false rfl rfl ?_
   have hg : G i j = true := by have h := hb2; simpa using h
   refine AGo.skip ?_
   refine AGo.region ?_
   refine aq 26 (q_inc rfl rfl hjl (by simp only [maxLen]; omega)) ?_
   refine am 13 ?_
   refine AOps.nil ?_
   exact ⟨j+1, DropK.mk' z12q (famDrop (k0 := 13) rfl z4q z42q (DF_avoid (kf_hi' _) f R _ _)), hjl, by omega⟩
 ·
  refine AGo.cond_false false rfl rfl ?_
  have hje : j = x.ins.length := by have h := hb1; simp at h; omega
  subst hje
  refine AGo.exit ?_
  refine AGo.seq ?_
  refine AGo.ghost (.freeze 5 9 rfl rfl (by rw [List.length_map])) ?_
  refine AGo.region ?_
  refine am 27 ?_
  refine aa 4 ?_
  refine AOps.nil ?_
  refine AGo.ret ?_
  refine ⟨[_], ⟨rfl, trivial⟩, ?_, putK_sub (WH_of z28q z28q z28q z28q z28q z28q z28q z28q (fun x_ => by dsimp only; rw [hrm_ne _ (by omega)]; exact fam_hi _ _ _))⟩
  show AV.lst false _ = AV.lst false _
  rw [List.take_length, List.drop_zero, List.take_of_length_le (by rw [List.length_map]; exact Nat.le_refl _)]

end Go.Proofs.Ytjmjmedjjbginaa.Sv

namespace Go.Proofs.Ytjmjmedjjbginaa.Sv
open Go

set_option maxHeartbeats 4000000 in
set_option maxRecDepth 100000 in
theorem deadOf_ok (f : BFunc) (hs : f.sane) (hn0 : 0 < f.blocks.length) (hn : f.blocks.length ≤ 100000) (hr : f.regs ≤ 100000) (hi : ∀ x ∈ f.blocks, x.ins.length ≤ 100000) : APure Try.prog 13 [.agg f.cells] (fun r => r = .tup [.agg (dnf f).cells, .agg [rowsAV (inRows (dnf f))]]) := by
 have hr0 := hs.regs
 obtain ⟨R, hRf⟩ : ∃ R : Nat, f.regs = (R : Int) := ⟨f.regs.toNat, by omega⟩
 have hR : R ≤ 100000 := by omega
 refine APure.of_body (n := 83) tok Try.func13 rfl rfl ?_
 refine AGo.seq ?_
 refine AGo.region ?_
 refine ax 1 (o_box (sz := 2) 0 rfl rfl rfl rfl (Nat.zero_lt_succ _) rfl) ?_
 refine ax 2 (o_alloc tok 1 rfl rfl rfl rfl (Nat.zero_lt_succ _) rfl) ?_
 refine ax 3 (o_alloc tok 9 rfl rfl rfl rfl (Nat.zero_lt_succ _) rfl) ?_
 refine AOps.nil ?_
 refine AGo.seq ?_
 refine AGo.region ?_
 refine al 9 tok ?_
 refine AOps.call 10 (hn := putD _ (DH (DSL f R (SB f) ((List.range R).map natC) (R) (fun b => decide (b < R))) (DF f R (SB f) G0))) (r := .ptr 2 1 0 0) rfl rfl rfl (o_callKW (W := hNew) (W' := (DH (DSL f R (SB f) ((List.range R).map natC) (R) (fun b => decide (b < R))) (DF f R (SB f) G0))) kD rfl Try.func26 (by kernel_rfl) rfl rfl rfl (fun b hb => by have := kD_true hb; (try simp only [hputs]); show _ = some AObj.free; (repeat (first | refine hput_skip (by exact beq_false_of_ne (by omega)) ?_ | refine hrm_skip (by omega) ?_)); rfl) (fun b hb => ⟨.free, rfl, rfl⟩) (fun b hb => rfl) (fun b hb => DH_avoid rfl (DSL_avoid _ _ _ _ _ _) (DF_avoid kD_hi f R _ _) hb) rfl (newSearch_ok f hs R hRf hR hn hi)) ?_
 refine ax 4 (o_alloc tok 8 rfl rfl rfl rfl (Nat.zero_lt_succ _) rfl) ?_
 refine AOps.w rfl rfl (o_store tok rfl rfl rfl rfl rfl rfl rfl rfl rfl (by decide) rfl z61q) ?_
 refine AOps.nil ?_
 refine AGo.seq ?_
 refine AGo.block ?_
 refine AGo.loopK (γ := RS) (kf 10) (fun st => ⟨83, (eput (eput (eput (eput eNew 1 (.ptr 0 1 0 0)) 2 (.ptr 1 1 0 0)) 3 (.ptr 9 1 0 0)) 4 (.ptr 8 1 0 0)), (fam (nb [(.row false 2 [f.cells]), (.row false 2 [[.int .i64 0, .nil]]), (.row false 8 [SDc f R (st.es).length (st.ws.length)]), (.row false 1 (colF (aR (aheadL f)) f.blocks.length)), (.row false 1 (colF (oR f.blocks.length R (SB f)) R)), (.row false 1 (colF (gR f) f.blocks.length)), (.row true 1 (st.es)), (.row true 1 (bC R (st.w))), ArW, (.row false 1 [[.nil]])]) (DF f R (SB f) st.G))⟩) (fun st => SI f R st) (fun st => smu f R st) (rs0 R) (Sub.mk' z53q (famSub (k0 := 10) rfl (by repeat (first | exact trivial | refine ⟨⟨by first | rfl | exact putD_yes rfl | exact rs0_row, by first | rfl | exact colF_avoid (fun _ _ => aR_avoid (kf_hi' _) _ _) | exact colF_avoid (fun _ _ => oR_avoid (kf_hi' _) _ _ _ _) | exact colF_avoid (fun _ _ => gR_avoid (kf_hi' _) _ _)⟩, ?_⟩)) z24q (fun c h1 h2 => by rcases (by omega : c = 10 ∨ c = 11 ∨ c = 12 ∨ c = 13 ∨ c = 14 ∨ c = 15) with rfl | rfl | rfl | rfl | rfl | rfl <;> first | rfl | (try simp only [hputs]; repeat (first | rfl | refine hput_skip (by exact beq_false_of_ne (by omega)) ?_ | refine hrm_skip (by omega) ?_))))) (SI.first hs hRf) (fun g b hb => famFree (k0 := 10) rfl hb) ?_
 intro st hQ
 obtain ⟨G, w, ws, es⟩ := st
 dsimp only at hQ ⊢
 refine AGo.seq ?_
 refine AGo.seq ?_
 refine AGo.region ?_
 refine al 11 tok ?_
 refine aq 12 (q_nilCheck rfl rfl rfl) ?_
 refine af 13 tok ?_
 refine al 14 tok ?_
 refine aq 15 (q_len tok rfl rfl rfl rfl rfl) ?_
 refine aq 16 (q_bin rfl rfl rfl rfl) ?_
 refine AOps.nil ?_
 refine AGo.split 16 rfl (fun hb1 => ?_) (fun hb1 => ?_)
 ·
  refine AGo.cond_true true rfl rfl ?_
  obtain ⟨ws', v, hws⟩ : ∃ ws' v, ws = ws' ++ [v] := by
    rcases snoc_cases ws with h | h
    · have h2 := hb1; rw [h] at h2; simp at h2
    · exact h
  subst hws
  have hpop := hQ.q.wt.pop
  have hv := hpop.2.1
  refine AGo.skip ?_
  refine AGo.block ?_
  refine AGo.seq ?_
  refine AGo.draw mix ?_
  refine dl 17 tok ?_
  refine dq 18 (q_nilCheck rfl rfl rfl) ?_
  refine df 19 tok ?_
  refine dl 20 tok ?_
  refine dl 21 tok ?_
  refine dq 22 (q_nilCheck rfl rfl rfl) ?_
  refine df 23 tok ?_
  refine dl 24 tok ?_
  refine dq 25 (q_len tok rfl rfl rfl rfl rfl) ?_
  refine dq 26 (q_bin (r := .int .i64 (ws'.length : Int)) rfl rfl rfl (pop_len (by have := hQ.q.wt.le; simp at this; omega))) ?_
  refine dq 27 (q_index_ref tok rfl rfl rfl rfl rfl rfl rfl rfl rfl (Int.natCast_nonneg _) (by simp; omega)) ?_
  refine dq 28 (q_load tok rfl rfl rfl (.ptr _ _ _ _ _ _ _ (natC v) rfl rfl (by rw [Nat.zero_add, Int.toNat_natCast]; exact hQ.q.st.get)) rfl) ?_
  refine da 5 ?_
  refine DOps.nil (by kernel_rfl) ?_
  refine AGo.seq ?_
  refine AGo.draw mix ?_
  refine dl 29 tok ?_
  refine dl 30 tok ?_
  refine dq 31 (q_nilCheck rfl rfl rfl) ?_
  refine df 32 tok ?_
  refine dl 33 tok ?_
  refine dl 34 tok ?_
  refine dq 35 (q_nilCheck rfl rfl rfl) ?_
  refine df 36 tok ?_
  refine dl 37 tok ?_
  refine dq 38 (q_len tok rfl rfl rfl rfl rfl) ?_
  refine dq 39 (q_bin (r := .int .i64 (ws'.length : Int)) rfl rfl rfl (pop_len (by have := hQ.q.wt.le; simp at this; omega))) ?_
  refine dq 40 (q_slice_ref tok (es := es) (m := ws'.length) rfl rfl rfl rfl rfl rfl rfl rfl rfl (by simp)) ?_
  refine dq 41 (q_nilCheck rfl rfl rfl) ?_
  refine df 42 tok ?_
  refine DOps.w rfl rfl (o_store tok rfl rfl rfl rfl rfl rfl rfl rfl rfl (by decide) rfl z61q) ?_
  refine DOps.nil (by kernel_rfl) ?_
  refine AGo.seq ?_
  refine AGo.region ?_
  refine al 43 tok ?_
  refine aq 44 (q_nilCheck rfl rfl rfl) ?_
  refine af 45 tok ?_
  refine al 46 tok ?_
  refine am 47 ?_
  refine aq 48 (q_index_ref tok rfl rfl rfl rfl rfl rfl rfl (colF_len _ _).symm rfl (Int.natCast_nonneg _) (by omega)) ?_
  refine AOps.w rfl rfl (o_store tok rfl rfl rfl rfl rfl rfl (colF_len _ _).symm z56q rfl (by decide) rfl z61q) ?_
  refine AOps.nil ?_
  refine AGo.region ?_
  refine al 49 tok ?_
  refine am 50 ?_
  refine AOps.call 51 (hn := putD _ (DH (DSL f R (SB f) ((regR f v (⟨G, updB w v false, ws', es⟩ : RS)).es) ((regR f v (⟨G, updB w v false, ws', es⟩ : RS)).ws.length) ((regR f v (⟨G, updB w v false, ws', es⟩ : RS)).w)) (DF f R (SB f) (regR f v (⟨G, updB w v false, ws', es⟩ : RS)).G))) (r := .tup []) rfl rfl rfl (o_callDH (DSL f R (SB f) es ws'.length (updB w v false)) (DSL f R (SB f) (regR f v (⟨G, updB w v false, ws', es⟩ : RS)).es (regR f v (⟨G, updB w v false, ws', es⟩ : RS)).ws.length (regR f v (⟨G, updB w v false, ws', es⟩ : RS)).w) (DF f R (SB f) (regR f v (⟨G, updB w v false, ws', es⟩ : RS)).G) rfl Try.func27 (by kernel_rfl) rfl rfl rfl rfl rfl (DSL_avoid _ _ _ _ _ _) (DSL_avoid _ _ _ _ _ _) (by repeat (first | exact trivial | refine ⟨by first | rfl | exact congrArg (fun es => some (AObj.row true 1 es)) (bC_set' false), ?_⟩)) z24q (DF_avoid kD_hi f R _ _) (DF_avoid kD_hi f R _ _) rfl (dregister_ok f hs R hRf (⟨G, updB w v false, ws', es⟩ : RS) ⟨hpop.1, hQ.q.st.pop⟩ v hv hn hR hi)) ?_
  refine AOps.nil ?_
  exact ⟨(regR f v (⟨G, updB w v false, ws', es⟩ : RS)), DropK.mk' z51q (famDrop (k0 := 10) rfl z21q z24q (DF_avoid (kf_hi' _) f R _ _)), (hQ.reg hs hRf rfl).1, (hQ.reg hs hRf rfl).2⟩
 ·
  refine AGo.cond_false false rfl rfl ?_
  have hws : ws = [] := by
    rcases snoc_cases ws with h | ⟨L, b, h⟩
    · exact h
    · have h2 := hb1; rw [h] at h2; simp at h2
  subst hws
  have hdn : cutF f G = dnf f := hQ.done hs hRf rfl
  refine AGo.exit ?_
  refine AGo.seq ?_
  refine AGo.draw mix ?_
  refine df 52 tok ?_
  refine dl 53 tok ?_
  refine df 54 tok ?_
  refine dl 55 tok ?_
  refine dq 56 (q_len tok rfl rfl rfl rfl rfl) ?_
  refine dx 57 (o_makeSlice tok (n := f.blocks.length) (m := f.blocks.length) 11 true rfl rfl rfl (by simp) (by simp) rfl rfl rfl rfl rfl (Nat.zero_lt_succ _) rfl (Nat.le_refl _) (by show 56 * f.blocks.length ≤ _; omega) (by simp only [maxLen]; omega)) ?_
  refine dq 58 (q_build tok rfl rfl rfl rfl rfl (by decide) rfl rfl rfl) ?_
  refine dx 6 (o_alloc tok 10 rfl rfl rfl rfl (Nat.zero_lt_succ _) rfl) ?_
  refine DOps.w rfl rfl (o_store tok rfl rfl rfl rfl rfl rfl rfl rfl rfl (by decide) rfl z61q) ?_
  refine DOps.nil (by kernel_rfl) ?_
  refine AGo.seq ?_
  refine AGo.seq ?_
  refine AGo.region ?_
  refine af 59 tok ?_
  refine al 60 tok ?_
  refine aq 61 (q_len tok rfl rfl rfl rfl rfl) ?_
  refine am 62 ?_
  refine AOps.nil ?_
  refine AGo.block ?_
  refine AGo.loopK (γ := Nat) (kf 12) (fun k => ⟨83, (eput (eput (eput (eput (eput (eput (eput (eput eNew 1 (.ptr 0 1 0 0)) 2 (.ptr 1 1 0 0)) 3 (.ptr 9 1 0 0)) 4 (.ptr 8 1 0 0)) 6 (.ptr 10 1 0 0)) 60 (blocksAV f.blocks)) 61 (.int .i64 (f.blocks.length : Int))) 62 (.int .i64 (k : Int))), (fam (nb [(.row false 2 [f.cells]), (.row false 2 [[.int .i64 0, .nil]]), (.row false 8 [SDc f R (es).length (([] : List Nat).length)]), (.row false 1 (colF (aR (aheadL f)) f.blocks.length)), (.row false 1 (colF (oR f.blocks.length R (SB f)) R)), (.row false 1 (colF (gR f) f.blocks.length)), (.row true 1 (es)), (.row true 1 (bC R (w))), ArW, (.row false 1 [[.nil]]), (.row false 2 [[.int .i64 f.regs, .ref 11 f.blocks.length 0 f.blocks.length]]), (.row true 5 (((cutF f G).blocks.take k).map Block.cells ++ List.replicate (f.blocks.length - k) [.nil, .int .i64 0, .int .i64 0, .int .i64 0, .int .i64 0]))]) (DF f R (SB f) G))⟩) (fun k => k ≤ f.blocks.length) (fun k => f.blocks.length - k) 0 (Sub.mk' z44q (famSub (k0 := 12) rfl z30q z42q (fun c h1 h2 => by rcases (by omega : c = 12 ∨ c = 13 ∨ c = 14 ∨ c = 15) with rfl | rfl | rfl | rfl <;> first | rfl | (try simp only [hputs]; repeat (first | rfl | refine hput_skip (by exact beq_false_of_ne (by omega)) ?_ | refine hrm_skip (by omega) ?_))))) (Nat.zero_le _) (fun g b hb => famFree (k0 := 12) rfl hb) ?_
  intro k hk
  refine AGo.seq ?_
  refine AGo.region ?_
  refine aq 63 (q_bin rfl rfl rfl rfl) ?_
  refine AOps.nil ?_
  refine AGo.seq ?_
  refine AGo.split 63 rfl (fun hb2 => ?_) (fun hb2 => ?_)
  ·
   refine AGo.cond_true true rfl rfl ?_
   have hkl : k < f.blocks.length := by have h := hb2; simp at h; exact h
   obtain ⟨x, hx⟩ := get_of_lt hkl
   have hxm := List.mem_of_getElem? hx
   refine AGo.skip ?_
   refine AGo.seq ?_
   refine AGo.block ?_
   refine AGo.seq ?_
   refine AGo.region ?_
   refine am 64 ?_
   refine aq 65 (q_index_lst tok rfl rfl rfl rfl rfl rfl (Int.natCast_nonneg _) (idx_map hx) rfl) ?_
   refine al 66 tok ?_
   refine ax 7 (o_alloc tok 12 rfl rfl rfl rfl (Nat.zero_lt_succ _) rfl) ?_
   refine ax 8 (o_alloc tok 13 rfl rfl rfl rfl (Nat.zero_lt_succ _) rfl) ?_
   refine AOps.w rfl rfl (o_store tok rfl rfl rfl rfl rfl rfl rfl rfl rfl (by decide) rfl z61q) ?_
   refine AOps.w rfl rfl (o_store tok rfl rfl rfl rfl rfl rfl rfl rfl rfl (by decide) rfl z61q) ?_
   refine AOps.nil ?_
   refine AGo.seq ?_
   refine AGo.region ?_
   refine af 67 tok ?_
   refine al 68 tok ?_
   refine aq 69 (q_makeFunc rfl rfl rfl) ?_
   refine AOps.call 70 (hn := _) (r := insAV (kpI (G k) x.ins 0)) rfl rfl rfl (o_callKR (W := WS f R (SB f) G es ([] : List Nat).length w k) kW rfl Try.func28 (by kernel_rfl) rfl rfl rfl (WH_of z28q z28q z28q z28q z28q z28q z28q z28q (fun x_ => by (try simp only [hputs]); (try dsimp only); first | exact fam_hi _ _ _ | ((repeat (first | refine hput_skip (by exact beq_false_of_ne (by omega)) ?_ | refine hrm_skip (by omega) ?_)); exact fam_hi _ _ _))) (WS_avoid f R (SB f) G es _ w k) WH_free rfl (without_ok f R (SB f) G es _ w k x hx (hi x hxm))) ?_
   refine af 71 tok ?_
   refine AOps.w rfl rfl (o_store tok rfl rfl rfl rfl rfl rfl rfl rfl rfl (by decide) rfl z61q) ?_
   refine AOps.nil ?_
   refine AGo.region ?_
   refine af 72 tok ?_
   refine al 73 tok ?_
   refine al 74 tok ?_
   refine al 75 tok ?_
   refine aq 76 (q_index_ref tok rfl rfl rfl rfl rfl rfl rfl (fill_len (cutF_len f G) (Nat.le_of_lt hkl)) rfl (Int.natCast_nonneg _) (by omega)) ?_
   refine AOps.w rfl rfl (o_store tok rfl rfl rfl rfl rfl rfl (fill_len (cutF_len f G) (Nat.le_of_lt hkl)) (fill_get (cutF_len f G) hkl) rfl (by decide) rfl z61q) ?_
   refine AOps.nil ?_
   refine AGo.region ?_
   refine aq 77 (q_inc rfl rfl hkl (by simp only [maxLen]; omega)) ?_
   refine am 62 ?_
   refine AOps.nil ?_
   exact ⟨k+1, DropK.mk' z51q (famDrop (k0 := 12) rfl (by repeat (first | exact trivial | refine ⟨⟨by first | rfl | exact congrArg (fun es => some (AObj.row true 5 es)) (fill_put (f := Block.cells) (x := x.mid (kpI (G k) x.ins 0)) (cutF_len f G) (cutF_get hx)), by first | rfl | exact colF_avoid (fun _ _ => aR_avoid (kf_hi' _) _ _) | exact colF_avoid (fun _ _ => oR_avoid (kf_hi' _) _ _ _ _) | exact colF_avoid (fun _ _ => gR_avoid (kf_hi' _) _ _)⟩, ?_⟩)) z42q (DF_avoid (kf_hi' _) f R _ _)), hkl, by omega⟩
  ·
   refine AGo.cond_false false rfl rfl ?_
   have hge : f.blocks.length ≤ k := by have h := hb2; simp at h; omega
   refine AGo.exit ?_
   refine AGo.seq ?_
   refine AGo.ghost (.freezeCell 10 0 1 11 rfl rfl rfl rfl (fill_len (cutF_len f G) hk) (by decide)) ?_
   rw [fill_end (f := Block.cells) (z := [.nil, .int .i64 0, .int .i64 0, .int .i64 0, .int .i64 0]) (cutF_len f G) hge]
   refine AGo.draw mix ?_
   refine dl 78 tok ?_
   refine dl 79 tok ?_
   refine dx 80 (o_pure rfl Try.func30 (by kernel_rfl) rfl rfl rfl (live_ok (cutF f G) (cuts_sane hQ.c hs) (by rw [cutF_len]; exact hn0) (by rw [cutF_len]; exact hn) hr (cutF_ins hi))) ?_
   refine dq 81 (q_field tok rfl rfl rfl rfl rfl rfl rfl rfl) ?_
   refine dq 82 (q_build tok rfl rfl rfl rfl rfl (by decide) rfl rfl rfl) ?_
   refine DOps.w rfl rfl (o_store tok rfl rfl rfl rfl rfl rfl rfl rfl rfl (by decide) rfl z61q) ?_
   refine DOps.w rfl rfl (o_store tok rfl rfl rfl rfl rfl rfl rfl rfl rfl (by decide) rfl z61q) ?_
   refine DOps.nil (by kernel_rfl) ?_
   refine AGo.ret ?_
   refine ⟨[_, _], ⟨⟨_, _, _, _, rfl, rfl, .ptr _ _ _ _ _ _ _ _ rfl rfl rfl, rfl⟩, ⟨_, _, _, _, rfl, rfl, .ptr _ _ _ _ _ _ _ _ rfl rfl rfl, rfl⟩, trivial⟩, ?_, rfl⟩
   rw [← hdn]
   rfl

end Go.Proofs.Ytjmjmedjjbginaa.Sv

namespace Go.Proofs.Ytjmjmedjjbginaa.Sv
open Go

theorem get_set_selfZ {α : Type} {l : List α} {i : Nat} {x y : α} (h : l[i]? = some x) : (l.set i y)[i]? = some y := by
  have hi := (List.getElem?_eq_some_iff.1 h).1
  simp [hi]
section
variable {P : Program} {T : Nat → Option TyI} {o : Oper} {e : AEnv} {h : AHeap}
end
end Go.Proofs.Ytjmjmedjjbginaa.Sv

namespace Go.Proofs.Ytjmjmedjjbginaa.Sv
open Go

end Go.Proofs.Ytjmjmedjjbginaa.Sv

namespace Go.Proofs.Ytjmjmedjjbginaa.Sv
open Go

end Go.Proofs.Ytjmjmedjjbginaa.Sv

namespace Go.Proofs.Ytjmjmedjjbginaa.Sv
open Go

set_option maxRecDepth 100000 in
theorem rsameBlock_ok (x y : Block) (hx : x.ins.length ≤ 1000000000000000) : APure Try.prog 31 [.agg x.cells, .agg y.cells] (fun r => r = .bool (decide (x = y))) := by
 refine APure.of_body (n := 59) tok Try.func31 rfl rfl ?_
 refine AGo.seq ?_
 refine AGo.region ?_
 refine ax 2 (o_box (sz := 5) 0 rfl rfl rfl rfl (Nat.zero_lt_succ _) rfl) ?_
 refine ax 3 (o_box (sz := 5) 1 rfl rfl rfl rfl (Nat.zero_lt_succ _) rfl) ?_
 refine aa 4 ?_
 refine AOps.nil ?_
 refine AGo.seq ?_
 refine AGo.seq ?_
 refine AGo.region ?_
 refine af 6 tok ?_
 refine al 7 tok ?_
 refine af 8 tok ?_
 refine al 9 tok ?_
 refine aq 10 (q_bin rfl rfl rfl rfl) ?_
 refine am 11 ?_
 refine AOps.split 11 rfl (fun hb1 => ?_) (fun hb1 => ?_)
 ·
  refine ak 12 ?_
  refine ak 13 ?_
  refine ak 14 ?_
  refine ak 15 ?_
  refine ak 16 ?_
  refine aq 17 (q_pick_true true rfl rfl rfl rfl) ?_
  refine am 18 ?_
  refine ak 19 ?_
  refine ak 20 ?_
  refine ak 21 ?_
  refine ak 22 ?_
  refine ak 23 ?_
  refine aq 24 (q_pick_true true rfl rfl rfl rfl) ?_
  refine am 25 ?_
  refine ak 26 ?_
  refine ak 27 ?_
  refine ak 28 ?_
  refine ak 29 ?_
  refine ak 30 ?_
  refine aq 31 (q_pick_true true rfl rfl rfl rfl) ?_
  refine am 32 ?_
  refine ak 33 ?_
  refine ak 34 ?_
  refine ak 35 ?_
  refine ak 36 ?_
  refine ak 37 ?_
  refine ak 38 ?_
  refine ak 39 ?_
  refine aq 40 (q_pick_true true rfl rfl rfl rfl) ?_
  refine AOps.nil ?_
  refine AGo.cond_true true rfl rfl ?_
  refine AGo.seq ?_
  refine AGo.region ?_
  refine aa 4 ?_
  refine AOps.nil ?_
  refine AGo.ret ?_
  refine ⟨[_], ⟨rfl, trivial⟩, ?_, rfl⟩
  show AV.bool false = _
  rw [decide_eq_false (by rintro rfl; simp_all)]
 ·
  refine af 12 tok ?_
  refine al 13 tok ?_
  refine af 14 tok ?_
  refine al 15 tok ?_
  refine aq 16 (q_bin rfl rfl rfl rfl) ?_
  refine aq 17 (q_pick_false false rfl rfl rfl rfl) ?_
  refine am 18 ?_
  refine AOps.split 18 rfl (fun hb2 => ?_) (fun hb2 => ?_)
  ·
   refine ak 19 ?_
   refine ak 20 ?_
   refine ak 21 ?_
   refine ak 22 ?_
   refine ak 23 ?_
   refine aq 24 (q_pick_true true rfl rfl rfl rfl) ?_
   refine am 25 ?_
   refine ak 26 ?_
   refine ak 27 ?_
   refine ak 28 ?_
   refine ak 29 ?_
   refine ak 30 ?_
   refine aq 31 (q_pick_true true rfl rfl rfl rfl) ?_
   refine am 32 ?_
   refine ak 33 ?_
   refine ak 34 ?_
   refine ak 35 ?_
   refine ak 36 ?_
   refine ak 37 ?_
   refine ak 38 ?_
   refine ak 39 ?_
   refine aq 40 (q_pick_true true rfl rfl rfl rfl) ?_
   refine AOps.nil ?_
   refine AGo.cond_true true rfl rfl ?_
   refine AGo.seq ?_
   refine AGo.region ?_
   refine aa 4 ?_
   refine AOps.nil ?_
   refine AGo.ret ?_
   refine ⟨[_], ⟨rfl, trivial⟩, ?_, rfl⟩
   show AV.bool false = _
   rw [decide_eq_false (by rintro rfl; simp_all)]
  ·
   refine af 19 tok ?_
   refine al 20 tok ?_
   refine af 21 tok ?_
   refine al 22 tok ?_
   refine aq 23 (q_bin rfl rfl rfl rfl) ?_
   refine aq 24 (q_pick_false false rfl rfl rfl rfl) ?_
   refine am 25 ?_
   refine AOps.split 25 rfl (fun hb3 => ?_) (fun hb3 => ?_)
   ·
    refine ak 26 ?_
    refine ak 27 ?_
    refine ak 28 ?_
    refine ak 29 ?_
    refine ak 30 ?_
    refine aq 31 (q_pick_true true rfl rfl rfl rfl) ?_
    refine am 32 ?_
    refine ak 33 ?_
    refine ak 34 ?_
    refine ak 35 ?_
    refine ak 36 ?_
    refine ak 37 ?_
    refine ak 38 ?_
    refine ak 39 ?_
    refine aq 40 (q_pick_true true rfl rfl rfl rfl) ?_
    refine AOps.nil ?_
    refine AGo.cond_true true rfl rfl ?_
    refine AGo.seq ?_
    refine AGo.region ?_
    refine aa 4 ?_
    refine AOps.nil ?_
    refine AGo.ret ?_
    refine ⟨[_], ⟨rfl, trivial⟩, ?_, rfl⟩
    show AV.bool false = _
    rw [decide_eq_false (by rintro rfl; simp_all)]
   ·
    refine af 26 tok ?_
    refine al 27 tok ?_
    refine af 28 tok ?_
    refine al 29 tok ?_
    refine aq 30 (q_bin rfl rfl rfl rfl) ?_
    refine aq 31 (q_pick_false false rfl rfl rfl rfl) ?_
    refine am 32 ?_
    refine AOps.split 32 rfl (fun hb4 => ?_) (fun hb4 => ?_)
    ·
     refine ak 33 ?_
     refine ak 34 ?_
     refine ak 35 ?_
     refine ak 36 ?_
     refine ak 37 ?_
     refine ak 38 ?_
     refine ak 39 ?_
     refine aq 40 (q_pick_true true rfl rfl rfl rfl) ?_
     refine AOps.nil ?_
     refine AGo.cond_true true rfl rfl ?_
     refine AGo.seq ?_
     refine AGo.region ?_
     refine aa 4 ?_
     refine AOps.nil ?_
     refine AGo.ret ?_
     refine ⟨[_], ⟨rfl, trivial⟩, ?_, rfl⟩
     show AV.bool false = _
     rw [decide_eq_false (by rintro rfl; simp_all)]
    ·
     refine af 33 tok ?_
     refine al 34 tok ?_
     refine aq 35 (q_len tok rfl rfl rfl rfl rfl) ?_
     refine af 36 tok ?_
     refine al 37 tok ?_
     refine aq 38 (q_len tok rfl rfl rfl rfl rfl) ?_
     refine aq 39 (q_bin rfl rfl rfl rfl) ?_
     refine aq 40 (q_pick_false false rfl rfl rfl rfl) ?_
     refine AOps.nil ?_
     refine AGo.split 40 rfl (fun hb5 => ?_) (fun hb5 => ?_)
     ·
      refine AGo.cond_true true rfl rfl ?_
      refine AGo.seq ?_
      refine AGo.region ?_
      refine aa 4 ?_
      refine AOps.nil ?_
      refine AGo.ret ?_
      refine ⟨[_], ⟨rfl, trivial⟩, ?_, rfl⟩
      show AV.bool false = _
      rw [decide_eq_false (by rintro rfl; simp_all)]
     ·
      refine AGo.cond_false false rfl rfl ?_
      have h0 : x.fin = y.fin ∧ x.v = y.v ∧ x.to = y.to ∧ x.els = y.els ∧ x.ins.length = y.ins.length := by simp_all <;> omega
      refine AGo.skip ?_
      refine AGo.seq ?_
      refine AGo.seq ?_
      refine AGo.region ?_
      refine aa 5 ?_
      refine AOps.nil ?_
      refine AGo.block ?_
      refine AGo.loopD (γ := Nat) 2 (fun i => ⟨59, (eput (eput (eput eNew 2 (.ptr 0 1 0 0)) 3 (.ptr 1 1 0 0)) 5 (.int .i64 (i : Int))), (hput (hput (hFrom 2) 0 (.row false 5 [x.cells])) 1 (.row false 5 [y.cells]))⟩) (fun i => x.ins.take i = y.ins.take i) (fun i => x.ins.length - i) 0 (Sub.mk' z44q z18q) rfl (fun _ => hput_free (hput_free (fun b hb => hFrom_free hb) rfl) rfl) ?_
      intro i ht
      refine AGo.seq ?_
      refine AGo.seq ?_
      refine AGo.region ?_
      refine am 41 ?_
      refine af 42 tok ?_
      refine al 43 tok ?_
      refine aq 44 (q_len tok rfl rfl rfl rfl rfl) ?_
      refine aq 45 (q_bin rfl rfl rfl rfl) ?_
      refine AOps.nil ?_
      refine AGo.split 45 rfl (fun hb6 => ?_) (fun hb6 => ?_)
      ·
       refine AGo.cond_true true rfl rfl ?_
       have hil : i < x.ins.length := by simpa using hb6
       obtain ⟨u, hu⟩ := get_of_lt hil
       obtain ⟨v, hv⟩ := get_of_lt (l := y.ins) (k := i) (by omega)
       refine AGo.skip ?_
       refine AGo.seq ?_
       refine AGo.block ?_
       refine AGo.seq ?_
       refine AGo.draw mix ?_
       refine df 48 tok ?_
       refine dl 49 tok ?_
       refine dm 50 ?_
       refine dq 51 (q_index_lst tok rfl rfl rfl rfl rfl rfl (Int.natCast_nonneg _) (idx_map (by assumption)) rfl) ?_
       refine dl 52 tok ?_
       refine df 53 tok ?_
       refine dl 54 tok ?_
       refine dm 55 ?_
       refine dq 56 (q_index_lst tok rfl rfl rfl rfl rfl rfl (Int.natCast_nonneg _) (idx_map (by assumption)) rfl) ?_
       refine dl 57 tok ?_
       refine dq 58 (q_eqStruct tok true rfl rfl rfl (by kernel_rfl) rfl rfl rfl rfl (Tac.eqCells u v)) ?_
       refine DOps.nil (by kernel_rfl) ?_
       refine AGo.split 58 rfl (fun hb7 => ?_) (fun hb7 => ?_)
       ·
        refine AGo.cond_true true rfl rfl ?_
        have huv : u ≠ v := by simpa using hb7
        refine AGo.seq ?_
        refine AGo.region ?_
        refine aa 4 ?_
        refine AOps.nil ?_
        refine AGo.ret ?_
        refine ⟨[_], ⟨rfl, trivial⟩, ?_, rfl⟩
        show AV.bool false = _
        rw [decide_eq_false (by rintro rfl; rw [hu] at hv; cases hv; exact huv rfl)]
       ·
        refine AGo.cond_false false rfl rfl ?_
        have huv : u = v := by simpa using hb7
        refine AGo.skip ?_
        refine AGo.region ?_
        refine am 46 ?_
        refine aq 47 (q_inc rfl rfl hil (by simp only [maxLen]; omega)) ?_
        refine aa 5 ?_
        refine AOps.nil ?_
        exact ⟨i+1, Drop.mk' z46q z34q, (by rw [take_succ_eq hu, take_succ_eq hv, ht, huv]), by omega⟩
      ·
       refine AGo.cond_false false rfl rfl ?_
       have hge : x.ins.length ≤ i := by simpa using hb6
       refine AGo.exit ?_
       refine AGo.seq ?_
       refine AGo.region ?_
       refine aa 4 ?_
       refine AOps.nil ?_
       refine AGo.ret ?_
       refine ⟨[_], ⟨rfl, trivial⟩, ?_, rfl⟩
       show AV.bool true = _
       rw [decide_eq_true (Block.ext5 h0.1 h0.2.1 h0.2.2.1 h0.2.2.2.1 (take_all ht hge (h0.2.2.2.2 ▸ hge)))]

set_option maxRecDepth 100000 in
theorem rsameFunc_ok (f g : BFunc) (hf : f.blocks.length ≤ 1000000000000000 ∧ ∀ x ∈ f.blocks, x.ins.length ≤ 1000000000000000) : APure Try.prog 14 [.agg f.cells, .agg g.cells] (fun r => r = .bool (decide (f = g))) := by
 refine APure.of_body (n := 39) tok Try.func14 rfl rfl ?_
 refine AGo.seq ?_
 refine AGo.region ?_
 refine ax 2 (o_box (sz := 2) 0 rfl rfl rfl rfl (Nat.zero_lt_succ _) rfl) ?_
 refine ax 3 (o_box (sz := 2) 1 rfl rfl rfl rfl (Nat.zero_lt_succ _) rfl) ?_
 refine aa 4 ?_
 refine AOps.nil ?_
 refine AGo.seq ?_
 refine AGo.seq ?_
 refine AGo.region ?_
 refine af 6 tok ?_
 refine al 7 tok ?_
 refine af 8 tok ?_
 refine al 9 tok ?_
 refine aq 10 (q_bin rfl rfl rfl rfl) ?_
 refine am 11 ?_
 refine AOps.split 11 rfl (fun hb1 => ?_) (fun hb1 => ?_)
 ·
  refine ak 12 ?_
  refine ak 13 ?_
  refine ak 14 ?_
  refine ak 15 ?_
  refine ak 16 ?_
  refine ak 17 ?_
  refine ak 18 ?_
  refine aq 19 (q_pick_true true rfl rfl rfl rfl) ?_
  refine AOps.nil ?_
  refine AGo.cond_true true rfl rfl ?_
  refine AGo.seq ?_
  refine AGo.region ?_
  refine aa 4 ?_
  refine AOps.nil ?_
  refine AGo.ret ?_
  refine ⟨[_], ⟨rfl, trivial⟩, ?_, rfl⟩
  show AV.bool false = _
  rw [decide_eq_false (by rintro rfl; simp_all)]
 ·
  refine af 12 tok ?_
  refine al 13 tok ?_
  refine aq 14 (q_len tok rfl rfl rfl rfl rfl) ?_
  refine af 15 tok ?_
  refine al 16 tok ?_
  refine aq 17 (q_len tok rfl rfl rfl rfl rfl) ?_
  refine aq 18 (q_bin rfl rfl rfl rfl) ?_
  refine aq 19 (q_pick_false false rfl rfl rfl rfl) ?_
  refine AOps.nil ?_
  refine AGo.split 19 rfl (fun hb2 => ?_) (fun hb2 => ?_)
  ·
   refine AGo.cond_true true rfl rfl ?_
   refine AGo.seq ?_
   refine AGo.region ?_
   refine aa 4 ?_
   refine AOps.nil ?_
   refine AGo.ret ?_
   refine ⟨[_], ⟨rfl, trivial⟩, ?_, rfl⟩
   show AV.bool false = _
   rw [decide_eq_false (by rintro rfl; simp_all)]
  ·
   refine AGo.cond_false false rfl rfl ?_
   have h0 : f.regs = g.regs ∧ f.blocks.length = g.blocks.length := by simp_all <;> omega
   refine AGo.skip ?_
   refine AGo.seq ?_
   refine AGo.seq ?_
   refine AGo.region ?_
   refine aa 5 ?_
   refine AOps.nil ?_
   refine AGo.block ?_
   refine AGo.loopD (γ := Nat) 2 (fun i => ⟨39, (eput (eput (eput eNew 2 (.ptr 0 1 0 0)) 3 (.ptr 1 1 0 0)) 5 (.int .i64 (i : Int))), (hput (hput (hFrom 2) 0 (.row false 2 [f.cells])) 1 (.row false 2 [g.cells]))⟩) (fun i => f.blocks.take i = g.blocks.take i) (fun i => f.blocks.length - i) 0 (Sub.mk' z44q z18q) rfl (fun _ => hput_free (hput_free (fun b hb => hFrom_free hb) rfl) rfl) ?_
   intro i ht
   refine AGo.seq ?_
   refine AGo.seq ?_
   refine AGo.region ?_
   refine am 20 ?_
   refine af 21 tok ?_
   refine al 22 tok ?_
   refine aq 23 (q_len tok rfl rfl rfl rfl rfl) ?_
   refine aq 24 (q_bin rfl rfl rfl rfl) ?_
   refine AOps.nil ?_
   refine AGo.split 24 rfl (fun hb3 => ?_) (fun hb3 => ?_)
   ·
    refine AGo.cond_true true rfl rfl ?_
    have hil : i < f.blocks.length := by simpa using hb3
    obtain ⟨x, hx⟩ := get_of_lt hil
    obtain ⟨y, hy⟩ := get_of_lt (l := g.blocks) (k := i) (by omega)
    have hil2 := hf.1
    refine AGo.skip ?_
    refine AGo.seq ?_
    refine AGo.block ?_
    refine AGo.seq ?_
    refine AGo.draw mix ?_
    refine df 27 tok ?_
    refine dl 28 tok ?_
    refine dm 29 ?_
    refine dq 30 (q_index_lst tok rfl rfl rfl rfl rfl rfl (Int.natCast_nonneg _) (idx_map hx) rfl) ?_
    refine dl 31 tok ?_
    refine df 32 tok ?_
    refine dl 33 tok ?_
    refine dm 34 ?_
    refine dq 35 (q_index_lst tok rfl rfl rfl rfl rfl rfl (Int.natCast_nonneg _) (idx_map hy) rfl) ?_
    refine dl 36 tok ?_
    refine dx 37 (o_pure rfl Try.func31 (by kernel_rfl) rfl rfl rfl (rsameBlock_ok x y (hf.2 x (List.mem_of_getElem? hx)))) ?_
    refine dq 38 (q_not rfl rfl) ?_
    refine DOps.nil (by kernel_rfl) ?_
    refine AGo.split 38 rfl (fun hb4 => ?_) (fun hb4 => ?_)
    ·
     refine AGo.cond_true true rfl rfl ?_
     have hxy : x ≠ y := by simpa using hb4
     refine AGo.seq ?_
     refine AGo.region ?_
     refine aa 4 ?_
     refine AOps.nil ?_
     refine AGo.ret ?_
     refine ⟨[_], ⟨rfl, trivial⟩, ?_, rfl⟩
     show AV.bool false = _
     rw [decide_eq_false (by rintro rfl; rw [hx] at hy; cases hy; exact hxy rfl)]
    ·
     refine AGo.cond_false false rfl rfl ?_
     have hxy : x = y := by simpa using hb4
     refine AGo.skip ?_
     refine AGo.region ?_
     refine am 25 ?_
     refine aq 26 (q_inc rfl rfl hil (by simp only [maxLen]; omega)) ?_
     refine aa 5 ?_
     refine AOps.nil ?_
     exact ⟨i+1, Drop.mk' z46q z34q, (by rw [take_succ_eq hx, take_succ_eq hy, ht, hxy]), by omega⟩
   ·
    refine AGo.cond_false false rfl rfl ?_
    have hge : f.blocks.length ≤ i := by simpa using hb3
    refine AGo.exit ?_
    refine AGo.seq ?_
    refine AGo.region ?_
    refine aa 4 ?_
    refine AOps.nil ?_
    refine AGo.ret ?_
    refine ⟨[_], ⟨rfl, trivial⟩, ?_, rfl⟩
    show AV.bool true = _
    rw [decide_eq_true (BFunc.ext' h0.1 (take_all ht hge (h0.2 ▸ hge)))]

end Go.Proofs.Ytjmjmedjjbginaa.Sv

namespace Go.Proofs.Ytjmjmedjjbginaa.Sv
open Go

set_option maxRecDepth 100000 in
theorem alive32_ok  : APure Try.prog 9 [] (fun r => r = .bool true) := by
 refine APure.of_body (n := 66) tok Try.func9 rfl rfl ?_
 refine AGo.seq ?_
 refine AGo.region ?_
 refine aa 0 ?_
 refine AOps.nil ?_
 refine AGo.seq ?_
 refine AGo.region ?_
 refine aq 7 (q_build tok rfl rfl rfl rfl rfl (by decide) rfl rfl rfl) ?_
 refine aq 8 (q_build tok rfl rfl rfl rfl rfl (by decide) rfl rfl rfl) ?_
 refine aq 9 (q_build tok rfl rfl rfl rfl rfl (by decide) rfl rfl rfl) ?_
 refine ax 10 (o_lit' tok rfl rfl rfl rfl rfl rfl (by decide) rfl rfl rfl rfl rfl rfl) ?_
 refine aq 11 (q_build tok rfl rfl rfl rfl rfl (by decide) rfl rfl rfl) ?_
 refine ax 12 (o_lit' tok rfl rfl rfl rfl rfl rfl (by decide) rfl rfl rfl rfl rfl rfl) ?_
 refine aq 13 (q_build tok rfl rfl rfl rfl rfl (by decide) rfl rfl rfl) ?_
 refine ax 1 (o_alloc tok 0 rfl rfl rfl rfl (Nat.zero_lt_succ _) rfl) ?_
 refine AOps.w rfl rfl (o_store tok rfl rfl rfl rfl rfl rfl rfl rfl rfl (by decide) rfl z61q) ?_
 refine AOps.nil ?_
 refine AGo.seq ?_
 refine AGo.region ?_
 refine al 15 tok ?_
 refine ax 16 (o_pure rfl Try.func13 (by kernel_rfl) rfl rfl rfl ((deadOf_ok (one32 3 [c32, y32, p32 2]) (aw32_few 3 [c32, y32, p32 2] (by decide)).s (aw32_few 3 [c32, y32, p32 2] (by decide)).n0 (aw32_few 3 [c32, y32, p32 2] (by decide)).n (aw32_few 3 [c32, y32, p32 2] (by decide)).r (aw32_few 3 [c32, y32, p32 2] (by decide)).i).mono (fun r h => by rw [h, aw32a, aw32c]))) ?_
 refine am 14 ?_
 refine aq 17 (q_extract rfl rfl rfl) ?_
 refine aq 18 (q_extract rfl rfl rfl) ?_
 refine ax 2 (o_alloc tok 1 rfl rfl rfl rfl (Nat.zero_lt_succ _) rfl) ?_
 refine ax 3 (o_alloc tok 2 rfl rfl rfl rfl (Nat.zero_lt_succ _) rfl) ?_
 refine AOps.w rfl rfl (o_store tok rfl rfl rfl rfl rfl rfl rfl rfl rfl (by decide) rfl z61q) ?_
 refine AOps.w rfl rfl (o_store tok rfl rfl rfl rfl rfl rfl rfl rfl rfl (by decide) rfl z61q) ?_
 refine AOps.nil ?_
 refine AGo.seq ?_
 refine AGo.region ?_
 refine aq 19 (q_build tok rfl rfl rfl rfl rfl (by decide) rfl rfl rfl) ?_
 refine aq 20 (q_build tok rfl rfl rfl rfl rfl (by decide) rfl rfl rfl) ?_
 refine ax 21 (o_lit' tok rfl rfl rfl rfl rfl rfl (by decide) rfl rfl rfl rfl rfl rfl) ?_
 refine aq 22 (q_build tok rfl rfl rfl rfl rfl (by decide) rfl rfl rfl) ?_
 refine ax 23 (o_lit' tok rfl rfl rfl rfl rfl rfl (by decide) rfl rfl rfl rfl rfl rfl) ?_
 refine aq 24 (q_build tok rfl rfl rfl rfl rfl (by decide) rfl rfl rfl) ?_
 refine ax 4 (o_alloc tok 3 rfl rfl rfl rfl (Nat.zero_lt_succ _) rfl) ?_
 refine AOps.w rfl rfl (o_store tok rfl rfl rfl rfl rfl rfl rfl rfl rfl (by decide) rfl z61q) ?_
 refine AOps.nil ?_
 refine AGo.seq ?_
 refine AGo.region ?_
 refine al 26 tok ?_
 refine ax 27 (o_pure rfl Try.func13 (by kernel_rfl) rfl rfl rfl ((deadOf_ok (one32 1 [c32, p32 0]) (aw32_few 1 [c32, p32 0] (by decide)).s (aw32_few 1 [c32, p32 0] (by decide)).n0 (aw32_few 1 [c32, p32 0] (by decide)).n (aw32_few 1 [c32, p32 0] (by decide)).r (aw32_few 1 [c32, p32 0] (by decide)).i).mono (fun r h => by rw [h, aw32b]))) ?_
 refine am 25 ?_
 refine aq 28 (q_extract rfl rfl rfl) ?_
 refine aq 29 (q_extract rfl rfl rfl) ?_
 refine ax 5 (o_alloc tok 4 rfl rfl rfl rfl (Nat.zero_lt_succ _) rfl) ?_
 refine ax 6 (o_alloc tok 5 rfl rfl rfl rfl (Nat.zero_lt_succ _) rfl) ?_
 refine AOps.w rfl rfl (o_store tok rfl rfl rfl rfl rfl rfl rfl rfl rfl (by decide) rfl z61q) ?_
 refine AOps.w rfl rfl (o_store tok rfl rfl rfl rfl rfl rfl rfl rfl rfl (by decide) rfl z61q) ?_
 refine AOps.nil ?_
 refine AGo.seq ?_
 refine AGo.region ?_
 refine af 30 tok ?_
 refine al 31 tok ?_
 refine aq 32 (q_len tok rfl rfl rfl rfl rfl) ?_
 refine aq 33 (q_bin (r := .bool true) rfl rfl rfl (by rfl)) ?_
 refine am 34 ?_
 refine af 35 tok ?_
 refine al 36 tok ?_
 refine aq 37 (q_index_lst tok rfl rfl rfl rfl rfl rfl (by decide) (cs := (⟨[p32 2], 3, 0, 0, 0⟩ : Block).cells) rfl rfl) ?_
 refine af 38 tok ?_
 refine al 39 tok ?_
 refine aq 40 (q_len tok rfl rfl rfl rfl rfl) ?_
 refine aq 41 (q_bin (r := .bool true) rfl rfl rfl (by rfl)) ?_
 refine aq 42 (q_pick_true true rfl rfl rfl rfl) ?_
 refine am 43 ?_
 refine af 44 tok ?_
 refine al 45 tok ?_
 refine aq 46 (q_index_lst tok rfl rfl rfl rfl rfl rfl (by decide) (cs := (⟨[p32 2], 3, 0, 0, 0⟩ : Block).cells) rfl rfl) ?_
 refine af 47 tok ?_
 refine al 48 tok ?_
 refine aq 49 (q_index_lst tok rfl rfl rfl rfl rfl rfl (by decide) (cs := (p32 2).cells) rfl rfl) ?_
 refine al 50 tok ?_
 refine aq 51 (q_build tok rfl rfl rfl rfl rfl (by decide) rfl rfl rfl) ?_
 refine aq 52 (q_eqStruct tok false (r := true) rfl rfl rfl (by kernel_rfl) rfl rfl rfl rfl rfl) ?_
 refine aq 53 (q_pick_true true rfl rfl rfl rfl) ?_
 refine am 54 ?_
 refine af 55 tok ?_
 refine al 56 tok ?_
 refine ax 57 (o_lit' tok rfl rfl rfl rfl rfl rfl (by decide) rfl rfl rfl rfl rfl rfl) ?_
 refine ax 58 (o_lit' tok rfl rfl rfl rfl rfl rfl (by decide) rfl rfl rfl rfl rfl rfl) ?_
 refine ax 59 (o_pure rfl Try.func17 (by kernel_rfl) rfl rfl rfl ((rrows_ok [[false, false, true]] [[false, false, true]] (by decide) (by decide)).mono (fun r h => by rw [h, decide_eq_true rfl]))) ?_
 refine aq 60 (q_pick_true true rfl rfl rfl rfl) ?_
 refine am 61 ?_
 refine al 62 tok ?_
 refine al 63 tok ?_
 refine ax 64 (o_pure rfl Try.func14 (by kernel_rfl) rfl rfl rfl ((rsameFunc_ok (one32 1 [c32, p32 0]) (one32 1 [c32, p32 0]) (small_lens32 (aw32_few 1 [c32, p32 0] (by decide)))).mono (fun r h => by rw [h, decide_eq_true rfl]))) ?_
 refine aq 65 (q_pick_true true rfl rfl rfl rfl) ?_
 refine aa 0 ?_
 refine AOps.nil ?_
 refine AGo.ret ?_
 refine ⟨[_], ⟨rfl, trivial⟩, ?_, rfl⟩
 rfl

set_option maxRecDepth 100000 in
theorem without32_ok (b : Blocks) (hF : ∀ f ∈ b.funcs, Few32 f) (hn : b.funcs.length ≤ 1000) : APure Try.prog 20 [.agg b.cells] (fun r => r = .agg b.dnf.cells) := by
 refine APure.of_body (n := 33) tok Try.func20 rfl rfl ?_
 refine AGo.seq ?_
 refine AGo.region ?_
 refine ax 1 (o_box (sz := 2) 0 rfl rfl rfl rfl (Nat.zero_lt_succ _) rfl) ?_
 refine ax 2 (o_alloc tok 1 rfl rfl rfl rfl (Nat.zero_lt_succ _) rfl) ?_
 refine AOps.nil ?_
 refine AGo.seq ?_
 refine AGo.region ?_
 refine af 7 tok ?_
 refine al 8 tok ?_
 refine aq 9 (q_build tok rfl rfl rfl rfl rfl (by decide) rfl rfl rfl) ?_
 refine ax 3 (o_alloc tok 2 rfl rfl rfl rfl (Nat.zero_lt_succ _) rfl) ?_
 refine AOps.w rfl rfl (o_store tok rfl rfl rfl rfl rfl rfl rfl rfl rfl (by decide) rfl z61q) ?_
 refine AOps.nil ?_
 refine AGo.seq ?_
 refine AGo.seq ?_
 refine AGo.ghost (Ghost.weakRowF 2 (es' := [[.int .i64 b.words, slA 3 []]]) rfl rfl (weak_one ⟨Wk.refl _, Wk.nil _, trivial⟩)) ?_
 refine AGo.region ?_
 refine aa 4 ?_
 refine AOps.nil ?_
 refine AGo.block ?_
 refine AGo.loopD (γ := Nat) 4 (fun k => ⟨33, (eput (eput (eput (eput eNew 1 (.ptr 0 1 0 0)) 2 (.ptr 1 1 0 0)) 3 (.ptr 2 1 0 0)) 4 (.int .i64 (k : Int))), (hput (hput (hput (hput (hFrom 4) 0 (.row false 2 [b.cells])) 1 (.row false 2 [[.int .i64 0, .nil]])) 2 (.row false 2 [[.int .i64 b.words, slA 3 ((b.dnf.funcs.take k).map BFunc.cells)]])) 3 (slO 2 ((b.dnf.funcs.take k).map BFunc.cells)))⟩) (fun k => k ≤ b.funcs.length) (fun k => b.funcs.length - k) 0 (Sub.mk' z44q z18q) (Nat.zero_le _) (fun _ => hput_free (hput_free (hput_free (hput_free (fun b hb => hFrom_free hb) rfl) rfl) rfl) rfl) ?_
 intro k hk
 refine AGo.seq ?_
 refine AGo.seq ?_
 refine AGo.region ?_
 refine am 10 ?_
 refine af 11 tok ?_
 refine al 12 tok ?_
 refine aq 13 (q_len tok rfl rfl rfl rfl rfl) ?_
 refine aq 14 (q_bin rfl rfl rfl rfl) ?_
 refine AOps.nil ?_
 refine AGo.split 14 rfl (fun hb1 => ?_) (fun hb1 => ?_)
 ·
  refine AGo.cond_true true rfl rfl ?_
  have hkl := lt_of_idx hb1
  obtain ⟨f, hf⟩ := get_of_lt hkl
  have hFf := hF f (List.mem_of_getElem? hf)
  refine AGo.skip ?_
  refine AGo.seq ?_
  refine AGo.block ?_
  refine AGo.seq ?_
  refine AGo.region ?_
  refine af 18 tok ?_
  refine al 19 tok ?_
  refine am 20 ?_
  refine aq 21 (q_index_lst tok rfl rfl rfl rfl rfl rfl (Int.natCast_nonneg _) (idx_map hf) rfl) ?_
  refine al 22 tok ?_
  refine ax 23 (o_pure rfl Try.func13 (by kernel_rfl) rfl rfl rfl ((deadOf_ok f hFf.s hFf.n0 hFf.n hFf.r hFf.i))) ?_
  refine am 17 ?_
  refine aq 24 (q_extract rfl rfl rfl) ?_
  refine aq 25 (q_extract rfl rfl rfl) ?_
  refine ax 5 (o_alloc tok 4 rfl rfl rfl rfl (Nat.zero_lt_succ _) rfl) ?_
  refine ax 6 (o_alloc tok 5 rfl rfl rfl rfl (Nat.zero_lt_succ _) rfl) ?_
  refine AOps.w rfl rfl (o_store tok rfl rfl rfl rfl rfl rfl rfl rfl rfl (by decide) rfl z61q) ?_
  refine AOps.w rfl rfl (o_store tok rfl rfl rfl rfl rfl rfl rfl rfl rfl (by decide) rfl z61q) ?_
  refine AOps.nil ?_
  refine AGo.region ?_
  refine af 26 tok ?_
  refine al 27 tok ?_
  refine al 28 tok ?_
  refine ax 29 (o_lit' tok rfl rfl rfl rfl rfl rfl (by decide) rfl rfl rfl rfl rfl rfl) ?_
  refine ax 30 (o_append1J tok (b := 3) (es := ((b.dnf.funcs.take k).map BFunc.cells)) rfl rfl rfl rfl rfl rfl rfl rfl rfl rfl rfl (Nat.zero_lt_succ _) (two_len _) (two_pure _) rfl rfl (by rw [List.length_map, List.length_take, dnf_flen]; show (_ + 1) * 32 ≤ _; omega) (by rw [List.length_map, List.length_take, dnf_flen]; simp only [maxLen]; omega)) ?_
  refine af 31 tok ?_
  refine AOps.w rfl rfl (o_store1 tok rfl rfl rfl rfl rfl rfl rfl rfl rfl (slA_cells _ _) (by decide) (slA_cell1 _ _) (by intro h; cases h)) ?_
  refine AOps.nil ?_
  refine AGo.region ?_
  refine am 15 ?_
  refine aq 16 (q_inc rfl rfl hkl (by simp only [maxLen]; omega)) ?_
  refine aa 4 ?_
  refine AOps.nil ?_
  exact ⟨k+1, Drop.mk' z46q (by repeat (first | exact HDrop.none _ _ | exact HDrop.tail _ _ | refine HDrop.put ?_ (by first | rfl | exact congrArg (fun es => some (AObj.row false 2 [[.int .i64 b.words, slA 3 es]])) (dnf_take hf) | exact congrArg (fun es => some (slO 2 es)) (dnf_take hf)) rfl (by first | rfl | exact slO_avoid _ _ | (show (List.all [_, _] (AV.avoid _) && true) = true; simp only [List.all_cons, List.all_nil, Bool.and_true, Bool.and_eq_true]; exact ⟨rfl, slA_avoid _ rfl⟩)))), hkl, by omega⟩
 ·
  refine AGo.cond_false false rfl rfl ?_
  have hge := ge_of_idx hb1
  refine AGo.exit ?_
  refine AGo.seq ?_
  refine AGo.ghost (.endCell 2 1 3 rfl rfl rfl (by decide)) ?_
  rw [List.take_of_length_le (by rw [dnf_flen]; exact hge)]
  refine AGo.region ?_
  refine al 32 tok ?_
  refine AOps.w rfl rfl (o_store tok rfl rfl rfl rfl rfl rfl rfl rfl rfl (by decide) rfl z61q) ?_
  refine AOps.nil ?_
  refine AGo.ret ?_
  refine ⟨[_], ⟨⟨_, _, _, _, rfl, rfl, .ptr _ _ _ _ _ _ _ _ rfl rfl rfl, rfl⟩, trivial⟩, ?_, rfl⟩
  rfl

end Go.Proofs.Ytjmjmedjjbginaa.Sv
