/-
  The law DeadMeans of the given program answers true for every input, and leaves its arguments as they were. There is no condition. Own work.
  WALKS: printed by a program of our own from the code's tree.
  WALKS: printed by a program of our own from the code's tree.
  WALKS: printed by a program of our own from the code's tree.
  WALKS: printed by a program of our own from the code's tree.
  WALKS: printed by a program of our own from the code's tree.
  WALKS: printed by a program of our own from the code's tree.
  WALKS: printed by a program of our own from the code's tree.
  How strings read: own work.
-/
import Derived.Test.YtjmjmedjjbginaaPDeadMeans3
import Derived.Test.YtjmjmedjjbginaaPDeadMeans2
import Derived.Test.YtjmjmedjjbginaaPDeadMeans4
import Derived.Test.YtjmjmedjjbginaaPDeadMeans5
namespace Go.Proofs.Ytjmjmedjjbginaa.Sv
open Go

set_option maxRecDepth 100000 in
theorem rsameBlock_ok (x y : Block) (hx : x.ins.length ≤ 1000000000000000) : APure Try.prog 31 [.agg x.cells, .agg y.cells] (fun r => r = .bool (decide (x = y))) := by
 refine APure.of_body (n := 59) tok Try.func31 rfl rfl ?_
 refine AGo.seq ?_
 refine AGo.region ?_
 refine ax 2 (o_box (sz := 5) 0 rfl rfl rfl rfl (Nat.zero_lt_succ _) rfl) ?_
 refine ax 3 (o_box (sz := 5) 1 rfl rfl rfl rfl (Nat.zero_lt_succ _) rfl) ?_
 refine aa 4 ?_
 refine AOps.nil ?_
 refine AGo.seq ?_
 refine AGo.seq ?_
 refine AGo.region ?_
 refine af 6 tok ?_
 refine al 7 tok ?_
 refine af 8 tok ?_
 refine al 9 tok ?_
 refine aq 10 (q_bin rfl rfl rfl rfl) ?_
 refine am 11 ?_
 refine AOps.split 11 rfl (fun hb1 => ?_) (fun hb1 => ?_)
 ·
  refine ak 12 ?_
  refine ak 13 ?_
  refine ak 14 ?_
  refine ak 15 ?_
  refine ak 16 ?_
  refine aq 17 (q_pick_true true rfl rfl rfl rfl) ?_
  refine am 18 ?_
  refine ak 19 ?_
  refine ak 20 ?_
  refine ak 21 ?_
  refine ak 22 ?_
  refine ak 23 ?_
  refine aq 24 (q_pick_true true rfl rfl rfl rfl) ?_
  refine am 25 ?_
  refine ak 26 ?_
  refine ak 27 ?_
  refine ak 28 ?_
  refine ak 29 ?_
  refine ak 30 ?_
  refine aq 31 (q_pick_true true rfl rfl rfl rfl) ?_
  refine am 32 ?_
  refine ak 33 ?_
  refine ak 34 ?_
  refine ak 35 ?_
  refine ak 36 ?_
  refine ak 37 ?_
  refine ak 38 ?_
  refine ak 39 ?_
  refine aq 40 (q_pick_true true rfl rfl rfl rfl) ?_
  refine AOps.nil ?_
  refine AGo.cond_true true rfl rfl ?_
  refine AGo.seq ?_
  refine AGo.region ?_
  refine aa 4 ?_
  refine AOps.nil ?_
  refine AGo.ret ?_
  refine ⟨[_], ⟨rfl, trivial⟩, ?_, rfl⟩
  show AV.bool false = _
  rw [decide_eq_false (by rintro rfl; simp_all)]
 ·
  refine af 12 tok ?_
  refine al 13 tok ?_
  refine af 14 tok ?_
  refine al 15 tok ?_
  refine aq 16 (q_bin rfl rfl rfl rfl) ?_
  refine aq 17 (q_pick_false false rfl rfl rfl rfl) ?_
  refine am 18 ?_
  refine AOps.split 18 rfl (fun hb2 => ?_) (fun hb2 => ?_)
  ·
   refine ak 19 ?_
   refine ak 20 ?_
   refine ak 21 ?_
   refine ak 22 ?_
   refine ak 23 ?_
   refine aq 24 (q_pick_true true rfl rfl rfl rfl) ?_
   refine am 25 ?_
   refine ak 26 ?_
   refine ak 27 ?_
   refine ak 28 ?_
   refine ak 29 ?_
   refine ak 30 ?_
   refine aq 31 (q_pick_true true rfl rfl rfl rfl) ?_
   refine am 32 ?_
   refine ak 33 ?_
   refine ak 34 ?_
   refine ak 35 ?_
   refine ak 36 ?_
   refine ak 37 ?_
   refine ak 38 ?_
   refine ak 39 ?_
   refine aq 40 (q_pick_true true rfl rfl rfl rfl) ?_
   refine AOps.nil ?_
   refine AGo.cond_true true rfl rfl ?_
   refine AGo.seq ?_
   refine AGo.region ?_
   refine aa 4 ?_
   refine AOps.nil ?_
   refine AGo.ret ?_
   refine ⟨[_], ⟨rfl, trivial⟩, ?_, rfl⟩
   show AV.bool false = _
   rw [decide_eq_false (by rintro rfl; simp_all)]
  ·
   refine af 19 tok ?_
   refine al 20 tok ?_
   refine af 21 tok ?_
   refine al 22 tok ?_
   refine aq 23 (q_bin rfl rfl rfl rfl) ?_
   refine aq 24 (q_pick_false false rfl rfl rfl rfl) ?_
   refine am 25 ?_
   refine AOps.split 25 rfl (fun hb3 => ?_) (fun hb3 => ?_)
   ·
    refine ak 26 ?_
    refine ak 27 ?_
    refine ak 28 ?_
    refine ak 29 ?_
    refine ak 30 ?_
    refine aq 31 (q_pick_true true rfl rfl rfl rfl) ?_
    refine am 32 ?_
    refine ak 33 ?_
    refine ak 34 ?_
    refine ak 35 ?_
    refine ak 36 ?_
    refine ak 37 ?_
    refine ak 38 ?_
    refine ak 39 ?_
    refine aq 40 (q_pick_true true rfl rfl rfl rfl) ?_
    refine AOps.nil ?_
    refine AGo.cond_true true rfl rfl ?_
    refine AGo.seq ?_
    refine AGo.region ?_
    refine aa 4 ?_
    refine AOps.nil ?_
    refine AGo.ret ?_
    refine ⟨[_], ⟨rfl, trivial⟩, ?_, rfl⟩
    show AV.bool false = _
    rw [decide_eq_false (by rintro rfl; simp_all)]
   ·
    refine af 26 tok ?_
    refine al 27 tok ?_
    refine af 28 tok ?_
    refine al 29 tok ?_
    refine aq 30 (q_bin rfl rfl rfl rfl) ?_
    refine aq 31 (q_pick_false false rfl rfl rfl rfl) ?_
    refine am 32 ?_
    refine AOps.split 32 rfl (fun hb4 => ?_) (fun hb4 => ?_)
    ·
     refine ak 33 ?_
     refine ak 34 ?_
     refine ak 35 ?_
     refine ak 36 ?_
     refine ak 37 ?_
     refine ak 38 ?_
     refine ak 39 ?_
     refine aq 40 (q_pick_true true rfl rfl rfl rfl) ?_
     refine AOps.nil ?_
     refine AGo.cond_true true rfl rfl ?_
     refine AGo.seq ?_
     refine AGo.region ?_
     refine aa 4 ?_
     refine AOps.nil ?_
     refine AGo.ret ?_
     refine ⟨[_], ⟨rfl, trivial⟩, ?_, rfl⟩
     show AV.bool false = _
     rw [decide_eq_false (by rintro rfl; simp_all)]
    ·
     refine af 33 tok ?_
     refine al 34 tok ?_
     refine aq 35 (q_len tok rfl rfl rfl rfl rfl) ?_
     refine af 36 tok ?_
     refine al 37 tok ?_
     refine aq 38 (q_len tok rfl rfl rfl rfl rfl) ?_
     refine aq 39 (q_bin rfl rfl rfl rfl) ?_
     refine aq 40 (q_pick_false false rfl rfl rfl rfl) ?_
     refine AOps.nil ?_
     refine AGo.split 40 rfl (fun hb5 => ?_) (fun hb5 => ?_)
     ·
      refine AGo.cond_true true rfl rfl ?_
      refine AGo.seq ?_
      refine AGo.region ?_
      refine aa 4 ?_
      refine AOps.nil ?_
      refine AGo.ret ?_
      refine ⟨[_], ⟨rfl, trivial⟩, ?_, rfl⟩
      show AV.bool false = _
      rw [decide_eq_false (by rintro rfl; simp_all)]
     ·
      refine AGo.cond_false false rfl rfl ?_
      have h0 : x.fin = y.fin ∧ x.v = y.v ∧ x.to = y.to ∧ x.els = y.els ∧ x.ins.length = y.ins.length := by simp_all <;> omega
      refine AGo.skip ?_
      refine AGo.seq ?_
      refine AGo.seq ?_
      refine AGo.region ?_
      refine aa 5 ?_
      refine AOps.nil ?_
      refine AGo.block ?_
      refine AGo.loopD (γ := Nat) 2 (fun i => ⟨59, (eput (eput (eput eNew 2 (.ptr 0 1 0 0)) 3 (.ptr 1 1 0 0)) 5 (.int .i64 (i : Int))), (hput (hput (hFrom 2) 0 (.row false 5 [x.cells])) 1 (.row false 5 [y.cells]))⟩) (fun i => x.ins.take i = y.ins.take i) (fun i => x.ins.length - i) 0 (Sub.mk' z43q z19q) rfl (fun _ => hput_free (hput_free (fun b hb => hFrom_free hb) rfl) rfl) ?_
      intro i ht
      refine AGo.seq ?_
      refine AGo.seq ?_
      refine AGo.region ?_
      refine am 41 ?_
      refine af 42 tok ?_
      refine al 43 tok ?_
      refine aq 44 (q_len tok rfl rfl rfl rfl rfl) ?_
      refine aq 45 (q_bin rfl rfl rfl rfl) ?_
      refine AOps.nil ?_
      refine AGo.split 45 rfl (fun hb6 => ?_) (fun hb6 => ?_)
      ·
       refine AGo.cond_true true rfl rfl ?_
       have hil : i < x.ins.length := by simpa using hb6
       obtain ⟨u, hu⟩ := get_of_lt hil
       obtain ⟨v, hv⟩ := get_of_lt (l := y.ins) (k := i) (by omega)
       refine AGo.skip ?_
       refine AGo.seq ?_
       refine AGo.block ?_
       refine AGo.seq ?_
       refine AGo.draw mix ?_
       refine df 48 tok ?_
       refine dl 49 tok ?_
       refine dm 50 ?_
       refine dq 51 (q_index_lst tok rfl rfl rfl rfl rfl rfl (Int.natCast_nonneg _) (idx_map (by assumption)) rfl) ?_
       refine dl 52 tok ?_
       refine df 53 tok ?_
       refine dl 54 tok ?_
       refine dm 55 ?_
       refine dq 56 (q_index_lst tok rfl rfl rfl rfl rfl rfl (Int.natCast_nonneg _) (idx_map (by assumption)) rfl) ?_
       refine dl 57 tok ?_
       refine dq 58 (q_eqStruct tok true rfl rfl rfl (by kernel_rfl) rfl rfl rfl rfl (Tac.eqCells u v)) ?_
       refine DOps.nil (by kernel_rfl) ?_
       refine AGo.split 58 rfl (fun hb7 => ?_) (fun hb7 => ?_)
       ·
        refine AGo.cond_true true rfl rfl ?_
        have huv : u ≠ v := by simpa using hb7
        refine AGo.seq ?_
        refine AGo.region ?_
        refine aa 4 ?_
        refine AOps.nil ?_
        refine AGo.ret ?_
        refine ⟨[_], ⟨rfl, trivial⟩, ?_, rfl⟩
        show AV.bool false = _
        rw [decide_eq_false (by rintro rfl; rw [hu] at hv; cases hv; exact huv rfl)]
       ·
        refine AGo.cond_false false rfl rfl ?_
        have huv : u = v := by simpa using hb7
        refine AGo.skip ?_
        refine AGo.region ?_
        refine am 46 ?_
        refine aq 47 (q_inc rfl rfl hil (by simp only [maxLen]; omega)) ?_
        refine aa 5 ?_
        refine AOps.nil ?_
        exact ⟨i+1, Drop.mk' z45q z34q, (by rw [take_succ_eq hu, take_succ_eq hv, ht, huv]), by omega⟩
      ·
       refine AGo.cond_false false rfl rfl ?_
       have hge : x.ins.length ≤ i := by simpa using hb6
       refine AGo.exit ?_
       refine AGo.seq ?_
       refine AGo.region ?_
       refine aa 4 ?_
       refine AOps.nil ?_
       refine AGo.ret ?_
       refine ⟨[_], ⟨rfl, trivial⟩, ?_, rfl⟩
       show AV.bool true = _
       rw [decide_eq_true (Block.ext5 h0.1 h0.2.1 h0.2.2.1 h0.2.2.2.1 (take_all ht hge (h0.2.2.2.2 ▸ hge)))]

set_option maxRecDepth 100000 in
theorem rsameFunc_ok (f g : BFunc) (hf : f.blocks.length ≤ 1000000000000000 ∧ ∀ x ∈ f.blocks, x.ins.length ≤ 1000000000000000) : APure Try.prog 14 [.agg f.cells, .agg g.cells] (fun r => r = .bool (decide (f = g))) := by
 refine APure.of_body (n := 39) tok Try.func14 rfl rfl ?_
 refine AGo.seq ?_
 refine AGo.region ?_
 refine ax 2 (o_box (sz := 2) 0 rfl rfl rfl rfl (Nat.zero_lt_succ _) rfl) ?_
 refine ax 3 (o_box (sz := 2) 1 rfl rfl rfl rfl (Nat.zero_lt_succ _) rfl) ?_
 refine aa 4 ?_
 refine AOps.nil ?_
 refine AGo.seq ?_
 refine AGo.seq ?_
 refine AGo.region ?_
 refine af 6 tok ?_
 refine al 7 tok ?_
 refine af 8 tok ?_
 refine al 9 tok ?_
 refine aq 10 (q_bin rfl rfl rfl rfl) ?_
 refine am 11 ?_
 refine AOps.split 11 rfl (fun hb1 => ?_) (fun hb1 => ?_)
 ·
  refine ak 12 ?_
  refine ak 13 ?_
  refine ak 14 ?_
  refine ak 15 ?_
  refine ak 16 ?_
  refine ak 17 ?_
  refine ak 18 ?_
  refine aq 19 (q_pick_true true rfl rfl rfl rfl) ?_
  refine AOps.nil ?_
  refine AGo.cond_true true rfl rfl ?_
  refine AGo.seq ?_
  refine AGo.region ?_
  refine aa 4 ?_
  refine AOps.nil ?_
  refine AGo.ret ?_
  refine ⟨[_], ⟨rfl, trivial⟩, ?_, rfl⟩
  show AV.bool false = _
  rw [decide_eq_false (by rintro rfl; simp_all)]
 ·
  refine af 12 tok ?_
  refine al 13 tok ?_
  refine aq 14 (q_len tok rfl rfl rfl rfl rfl) ?_
  refine af 15 tok ?_
  refine al 16 tok ?_
  refine aq 17 (q_len tok rfl rfl rfl rfl rfl) ?_
  refine aq 18 (q_bin rfl rfl rfl rfl) ?_
  refine aq 19 (q_pick_false false rfl rfl rfl rfl) ?_
  refine AOps.nil ?_
  refine AGo.split 19 rfl (fun hb2 => ?_) (fun hb2 => ?_)
  ·
   refine AGo.cond_true true rfl rfl ?_
   refine AGo.seq ?_
   refine AGo.region ?_
   refine aa 4 ?_
   refine AOps.nil ?_
   refine AGo.ret ?_
   refine ⟨[_], ⟨rfl, trivial⟩, ?_, rfl⟩
   show AV.bool false = _
   rw [decide_eq_false (by rintro rfl; simp_all)]
  ·
   refine AGo.cond_false false rfl rfl ?_
   have h0 : f.regs = g.regs ∧ f.blocks.length = g.blocks.length := by simp_all <;> omega
   refine AGo.skip ?_
   refine AGo.seq ?_
   refine AGo.seq ?_
   refine AGo.region ?_
   refine aa 5 ?_
   refine AOps.nil ?_
   refine AGo.block ?_
   refine AGo.loopD (γ := Nat) 2 (fun i => ⟨39, (eput (eput (eput eNew 2 (.ptr 0 1 0 0)) 3 (.ptr 1 1 0 0)) 5 (.int .i64 (i : Int))), (hput (hput (hFrom 2) 0 (.row false 2 [f.cells])) 1 (.row false 2 [g.cells]))⟩) (fun i => f.blocks.take i = g.blocks.take i) (fun i => f.blocks.length - i) 0 (Sub.mk' z43q z19q) rfl (fun _ => hput_free (hput_free (fun b hb => hFrom_free hb) rfl) rfl) ?_
   intro i ht
   refine AGo.seq ?_
   refine AGo.seq ?_
   refine AGo.region ?_
   refine am 20 ?_
   refine af 21 tok ?_
   refine al 22 tok ?_
   refine aq 23 (q_len tok rfl rfl rfl rfl rfl) ?_
   refine aq 24 (q_bin rfl rfl rfl rfl) ?_
   refine AOps.nil ?_
   refine AGo.split 24 rfl (fun hb3 => ?_) (fun hb3 => ?_)
   ·
    refine AGo.cond_true true rfl rfl ?_
    have hil : i < f.blocks.length := by simpa using hb3
    obtain ⟨x, hx⟩ := get_of_lt hil
    obtain ⟨y, hy⟩ := get_of_lt (l := g.blocks) (k := i) (by omega)
    have hil2 := hf.1
    refine AGo.skip ?_
    refine AGo.seq ?_
    refine AGo.block ?_
    refine AGo.seq ?_
    refine AGo.draw mix ?_
    refine df 27 tok ?_
    refine dl 28 tok ?_
    refine dm 29 ?_
    refine dq 30 (q_index_lst tok rfl rfl rfl rfl rfl rfl (Int.natCast_nonneg _) (idx_map hx) rfl) ?_
    refine dl 31 tok ?_
    refine df 32 tok ?_
    refine dl 33 tok ?_
    refine dm 34 ?_
    refine dq 35 (q_index_lst tok rfl rfl rfl rfl rfl rfl (Int.natCast_nonneg _) (idx_map hy) rfl) ?_
    refine dl 36 tok ?_
    refine dx 37 (o_pure rfl Try.func31 (by kernel_rfl) rfl rfl rfl (rsameBlock_ok x y (hf.2 x (List.mem_of_getElem? hx)))) ?_
    refine dq 38 (q_not rfl rfl) ?_
    refine DOps.nil (by kernel_rfl) ?_
    refine AGo.split 38 rfl (fun hb4 => ?_) (fun hb4 => ?_)
    ·
     refine AGo.cond_true true rfl rfl ?_
     have hxy : x ≠ y := by simpa using hb4
     refine AGo.seq ?_
     refine AGo.region ?_
     refine aa 4 ?_
     refine AOps.nil ?_
     refine AGo.ret ?_
     refine ⟨[_], ⟨rfl, trivial⟩, ?_, rfl⟩
     show AV.bool false = _
     rw [decide_eq_false (by rintro rfl; rw [hx] at hy; cases hy; exact hxy rfl)]
    ·
     refine AGo.cond_false false rfl rfl ?_
     have hxy : x = y := by simpa using hb4
     refine AGo.skip ?_
     refine AGo.region ?_
     refine am 25 ?_
     refine aq 26 (q_inc rfl rfl hil (by simp only [maxLen]; omega)) ?_
     refine aa 5 ?_
     refine AOps.nil ?_
     exact ⟨i+1, Drop.mk' z45q z34q, (by rw [take_succ_eq hx, take_succ_eq hy, ht, hxy]), by omega⟩
   ·
    refine AGo.cond_false false rfl rfl ?_
    have hge : f.blocks.length ≤ i := by simpa using hb3
    refine AGo.exit ?_
    refine AGo.seq ?_
    refine AGo.region ?_
    refine aa 4 ?_
    refine AOps.nil ?_
    refine AGo.ret ?_
    refine ⟨[_], ⟨rfl, trivial⟩, ?_, rfl⟩
    show AV.bool true = _
    rw [decide_eq_true (BFunc.ext' h0.1 (take_all ht hge (h0.2 ▸ hge)))]

end Go.Proofs.Ytjmjmedjjbginaa.Sv

namespace Go.Proofs.Ytjmjmedjjbginaa.Sv
open Go

set_option maxRecDepth 100000 in
theorem alive32_ok  : APure Try.prog 9 [] (fun r => r = .bool true) := by
 refine APure.of_body (n := 66) tok Try.func9 rfl rfl ?_
 refine AGo.seq ?_
 refine AGo.region ?_
 refine aa 0 ?_
 refine AOps.nil ?_
 refine AGo.seq ?_
 refine AGo.region ?_
 refine aq 7 (q_build tok rfl rfl rfl rfl rfl (by decide) rfl rfl rfl) ?_
 refine aq 8 (q_build tok rfl rfl rfl rfl rfl (by decide) rfl rfl rfl) ?_
 refine aq 9 (q_build tok rfl rfl rfl rfl rfl (by decide) rfl rfl rfl) ?_
 refine ax 10 (o_lit' tok rfl rfl rfl rfl rfl rfl (by decide) rfl rfl rfl rfl rfl rfl) ?_
 refine aq 11 (q_build tok rfl rfl rfl rfl rfl (by decide) rfl rfl rfl) ?_
 refine ax 12 (o_lit' tok rfl rfl rfl rfl rfl rfl (by decide) rfl rfl rfl rfl rfl rfl) ?_
 refine aq 13 (q_build tok rfl rfl rfl rfl rfl (by decide) rfl rfl rfl) ?_
 refine ax 1 (o_alloc tok 0 rfl rfl rfl rfl (Nat.zero_lt_succ _) rfl) ?_
 refine AOps.w rfl rfl (o_store tok rfl rfl rfl rfl rfl rfl rfl rfl rfl (by decide) rfl z61q) ?_
 refine AOps.nil ?_
 refine AGo.seq ?_
 refine AGo.region ?_
 refine al 15 tok ?_
 refine ax 16 (o_pure rfl Try.func13 (by kernel_rfl) rfl rfl rfl ((deadOf_ok (one32 3 [c32, y32, p32 2]) (aw32_few 3 [c32, y32, p32 2] (by decide)).s (aw32_few 3 [c32, y32, p32 2] (by decide)).n0 (aw32_few 3 [c32, y32, p32 2] (by decide)).n (aw32_few 3 [c32, y32, p32 2] (by decide)).r (aw32_few 3 [c32, y32, p32 2] (by decide)).i).mono (fun r h => by rw [h, aw32a, aw32c]))) ?_
 refine am 14 ?_
 refine aq 17 (q_extract rfl rfl rfl) ?_
 refine aq 18 (q_extract rfl rfl rfl) ?_
 refine ax 2 (o_alloc tok 1 rfl rfl rfl rfl (Nat.zero_lt_succ _) rfl) ?_
 refine ax 3 (o_alloc tok 2 rfl rfl rfl rfl (Nat.zero_lt_succ _) rfl) ?_
 refine AOps.w rfl rfl (o_store tok rfl rfl rfl rfl rfl rfl rfl rfl rfl (by decide) rfl z61q) ?_
 refine AOps.w rfl rfl (o_store tok rfl rfl rfl rfl rfl rfl rfl rfl rfl (by decide) rfl z61q) ?_
 refine AOps.nil ?_
 refine AGo.seq ?_
 refine AGo.region ?_
 refine aq 19 (q_build tok rfl rfl rfl rfl rfl (by decide) rfl rfl rfl) ?_
 refine aq 20 (q_build tok rfl rfl rfl rfl rfl (by decide) rfl rfl rfl) ?_
 refine ax 21 (o_lit' tok rfl rfl rfl rfl rfl rfl (by decide) rfl rfl rfl rfl rfl rfl) ?_
 refine aq 22 (q_build tok rfl rfl rfl rfl rfl (by decide) rfl rfl rfl) ?_
 refine ax 23 (o_lit' tok rfl rfl rfl rfl rfl rfl (by decide) rfl rfl rfl rfl rfl rfl) ?_
 refine aq 24 (q_build tok rfl rfl rfl rfl rfl (by decide) rfl rfl rfl) ?_
 refine ax 4 (o_alloc tok 3 rfl rfl rfl rfl (Nat.zero_lt_succ _) rfl) ?_
 refine AOps.w rfl rfl (o_store tok rfl rfl rfl rfl rfl rfl rfl rfl rfl (by decide) rfl z61q) ?_
 refine AOps.nil ?_
 refine AGo.seq ?_
 refine AGo.region ?_
 refine al 26 tok ?_
 refine ax 27 (o_pure rfl Try.func13 (by kernel_rfl) rfl rfl rfl ((deadOf_ok (one32 1 [c32, p32 0]) (aw32_few 1 [c32, p32 0] (by decide)).s (aw32_few 1 [c32, p32 0] (by decide)).n0 (aw32_few 1 [c32, p32 0] (by decide)).n (aw32_few 1 [c32, p32 0] (by decide)).r (aw32_few 1 [c32, p32 0] (by decide)).i).mono (fun r h => by rw [h, aw32b]))) ?_
 refine am 25 ?_
 refine aq 28 (q_extract rfl rfl rfl) ?_
 refine aq 29 (q_extract rfl rfl rfl) ?_
 refine ax 5 (o_alloc tok 4 rfl rfl rfl rfl (Nat.zero_lt_succ _) rfl) ?_
 refine ax 6 (o_alloc tok 5 rfl rfl rfl rfl (Nat.zero_lt_succ _) rfl) ?_
 refine AOps.w rfl rfl (o_store tok rfl rfl rfl rfl rfl rfl rfl rfl rfl (by decide) rfl z61q) ?_
 refine AOps.w rfl rfl (o_store tok rfl rfl rfl rfl rfl rfl rfl rfl rfl (by decide) rfl z61q) ?_
 refine AOps.nil ?_
 refine AGo.seq ?_
 refine AGo.region ?_
 refine af 30 tok ?_
 refine al 31 tok ?_
 refine aq 32 (q_len tok rfl rfl rfl rfl rfl) ?_
 refine aq 33 (q_bin (r := .bool true) rfl rfl rfl (by rfl)) ?_
 refine am 34 ?_
 refine af 35 tok ?_
 refine al 36 tok ?_
 refine aq 37 (q_index_lst tok rfl rfl rfl rfl rfl rfl (by decide) (cs := (⟨[p32 2], 3, 0, 0, 0⟩ : Block).cells) rfl rfl) ?_
 refine af 38 tok ?_
 refine al 39 tok ?_
 refine aq 40 (q_len tok rfl rfl rfl rfl rfl) ?_
 refine aq 41 (q_bin (r := .bool true) rfl rfl rfl (by rfl)) ?_
 refine aq 42 (q_pick_true true rfl rfl rfl rfl) ?_
 refine am 43 ?_
 refine af 44 tok ?_
 refine al 45 tok ?_
 refine aq 46 (q_index_lst tok rfl rfl rfl rfl rfl rfl (by decide) (cs := (⟨[p32 2], 3, 0, 0, 0⟩ : Block).cells) rfl rfl) ?_
 refine af 47 tok ?_
 refine al 48 tok ?_
 refine aq 49 (q_index_lst tok rfl rfl rfl rfl rfl rfl (by decide) (cs := (p32 2).cells) rfl rfl) ?_
 refine al 50 tok ?_
 refine aq 51 (q_build tok rfl rfl rfl rfl rfl (by decide) rfl rfl rfl) ?_
 refine aq 52 (q_eqStruct tok false (r := true) rfl rfl rfl (by kernel_rfl) rfl rfl rfl rfl rfl) ?_
 refine aq 53 (q_pick_true true rfl rfl rfl rfl) ?_
 refine am 54 ?_
 refine af 55 tok ?_
 refine al 56 tok ?_
 refine ax 57 (o_lit' tok rfl rfl rfl rfl rfl rfl (by decide) rfl rfl rfl rfl rfl rfl) ?_
 refine ax 58 (o_lit' tok rfl rfl rfl rfl rfl rfl (by decide) rfl rfl rfl rfl rfl rfl) ?_
 refine ax 59 (o_pure rfl Try.func17 (by kernel_rfl) rfl rfl rfl ((rrows_ok [[false, false, true]] [[false, false, true]] (by decide) (by decide)).mono (fun r h => by rw [h, decide_eq_true rfl]))) ?_
 refine aq 60 (q_pick_true true rfl rfl rfl rfl) ?_
 refine am 61 ?_
 refine al 62 tok ?_
 refine al 63 tok ?_
 refine ax 64 (o_pure rfl Try.func14 (by kernel_rfl) rfl rfl rfl ((rsameFunc_ok (one32 1 [c32, p32 0]) (one32 1 [c32, p32 0]) (small_lens32 (aw32_few 1 [c32, p32 0] (by decide)))).mono (fun r h => by rw [h, decide_eq_true rfl]))) ?_
 refine aq 65 (q_pick_true true rfl rfl rfl rfl) ?_
 refine aa 0 ?_
 refine AOps.nil ?_
 refine AGo.ret ?_
 refine ⟨[_], ⟨rfl, trivial⟩, ?_, rfl⟩
 rfl

set_option maxRecDepth 100000 in
theorem without32_ok (b : Blocks) (hF : ∀ f ∈ b.funcs, Few32 f) (hn : b.funcs.length ≤ 1000) : APure Try.prog 20 [.agg b.cells] (fun r => r = .agg b.dnf.cells) := by
 refine APure.of_body (n := 33) tok Try.func20 rfl rfl ?_
 refine AGo.seq ?_
 refine AGo.region ?_
 refine ax 1 (o_box (sz := 2) 0 rfl rfl rfl rfl (Nat.zero_lt_succ _) rfl) ?_
 refine ax 2 (o_alloc tok 1 rfl rfl rfl rfl (Nat.zero_lt_succ _) rfl) ?_
 refine AOps.nil ?_
 refine AGo.seq ?_
 refine AGo.region ?_
 refine af 7 tok ?_
 refine al 8 tok ?_
 refine aq 9 (q_build tok rfl rfl rfl rfl rfl (by decide) rfl rfl rfl) ?_
 refine ax 3 (o_alloc tok 2 rfl rfl rfl rfl (Nat.zero_lt_succ _) rfl) ?_
 refine AOps.w rfl rfl (o_store tok rfl rfl rfl rfl rfl rfl rfl rfl rfl (by decide) rfl z61q) ?_
 refine AOps.nil ?_
 refine AGo.seq ?_
 refine AGo.seq ?_
 refine AGo.ghost (Ghost.weakRowF 2 (es' := [[.int .i64 b.words, slA 3 []]]) rfl rfl (weak_one ⟨Wk.refl _, Wk.nil _, trivial⟩)) ?_
 refine AGo.region ?_
 refine aa 4 ?_
 refine AOps.nil ?_
 refine AGo.block ?_
 refine AGo.loopD (γ := Nat) 4 (fun k => ⟨33, (eput (eput (eput (eput eNew 1 (.ptr 0 1 0 0)) 2 (.ptr 1 1 0 0)) 3 (.ptr 2 1 0 0)) 4 (.int .i64 (k : Int))), (hput (hput (hput (hput (hFrom 4) 0 (.row false 2 [b.cells])) 1 (.row false 2 [[.int .i64 0, .nil]])) 2 (.row false 2 [[.int .i64 b.words, slA 3 ((b.dnf.funcs.take k).map BFunc.cells)]])) 3 (slO 2 ((b.dnf.funcs.take k).map BFunc.cells)))⟩) (fun k => k ≤ b.funcs.length) (fun k => b.funcs.length - k) 0 (Sub.mk' z43q z19q) (Nat.zero_le _) (fun _ => hput_free (hput_free (hput_free (hput_free (fun b hb => hFrom_free hb) rfl) rfl) rfl) rfl) ?_
 intro k hk
 refine AGo.seq ?_
 refine AGo.seq ?_
 refine AGo.region ?_
 refine am 10 ?_
 refine af 11 tok ?_
 refine al 12 tok ?_
 refine aq 13 (q_len tok rfl rfl rfl rfl rfl) ?_
 refine aq 14 (q_bin rfl rfl rfl rfl) ?_
 refine AOps.nil ?_
 refine AGo.split 14 rfl (fun hb1 => ?_) (fun hb1 => ?_)
 ·
  refine AGo.cond_true true rfl rfl ?_
  have hkl := lt_of_idx hb1
  obtain ⟨f, hf⟩ := get_of_lt hkl
  have hFf := hF f (List.mem_of_getElem? hf)
  refine AGo.skip ?_
  refine AGo.seq ?_
  refine AGo.block ?_
  refine AGo.seq ?_
  refine AGo.region ?_
  refine af 18 tok ?_
  refine al 19 tok ?_
  refine am 20 ?_
  refine aq 21 (q_index_lst tok rfl rfl rfl rfl rfl rfl (Int.natCast_nonneg _) (idx_map hf) rfl) ?_
  refine al 22 tok ?_
  refine ax 23 (o_pure rfl Try.func13 (by kernel_rfl) rfl rfl rfl ((deadOf_ok f hFf.s hFf.n0 hFf.n hFf.r hFf.i))) ?_
  refine am 17 ?_
  refine aq 24 (q_extract rfl rfl rfl) ?_
  refine aq 25 (q_extract rfl rfl rfl) ?_
  refine ax 5 (o_alloc tok 4 rfl rfl rfl rfl (Nat.zero_lt_succ _) rfl) ?_
  refine ax 6 (o_alloc tok 5 rfl rfl rfl rfl (Nat.zero_lt_succ _) rfl) ?_
  refine AOps.w rfl rfl (o_store tok rfl rfl rfl rfl rfl rfl rfl rfl rfl (by decide) rfl z61q) ?_
  refine AOps.w rfl rfl (o_store tok rfl rfl rfl rfl rfl rfl rfl rfl rfl (by decide) rfl z61q) ?_
  refine AOps.nil ?_
  refine AGo.region ?_
  refine af 26 tok ?_
  refine al 27 tok ?_
  refine al 28 tok ?_
  refine ax 29 (o_lit' tok rfl rfl rfl rfl rfl rfl (by decide) rfl rfl rfl rfl rfl rfl) ?_
  refine ax 30 (o_append1J tok (b := 3) (es := ((b.dnf.funcs.take k).map BFunc.cells)) rfl rfl rfl rfl rfl rfl rfl rfl rfl rfl rfl (Nat.zero_lt_succ _) (two_len _) (two_pure _) rfl rfl (by rw [List.length_map, List.length_take, dnf_flen]; show (_ + 1) * 32 ≤ _; omega) (by rw [List.length_map, List.length_take, dnf_flen]; simp only [maxLen]; omega)) ?_
  refine af 31 tok ?_
  refine AOps.w rfl rfl (o_store1 tok rfl rfl rfl rfl rfl rfl rfl rfl rfl (slA_cells _ _) (by decide) (slA_cell1 _ _) (by intro h; cases h)) ?_
  refine AOps.nil ?_
  refine AGo.region ?_
  refine am 15 ?_
  refine aq 16 (q_inc rfl rfl hkl (by simp only [maxLen]; omega)) ?_
  refine aa 4 ?_
  refine AOps.nil ?_
  exact ⟨k+1, Drop.mk' z45q (by repeat (first | exact HDrop.none _ _ | exact HDrop.tail _ _ | refine HDrop.put ?_ (by first | rfl | exact congrArg (fun es => some (AObj.row false 2 [[.int .i64 b.words, slA 3 es]])) (dnf_take hf) | exact congrArg (fun es => some (slO 2 es)) (dnf_take hf)) rfl (by first | rfl | exact slO_avoid _ _ | (show (List.all [_, _] (AV.avoid _) && true) = true; simp only [List.all_cons, List.all_nil, Bool.and_true, Bool.and_eq_true]; exact ⟨rfl, slA_avoid _ rfl⟩)))), hkl, by omega⟩
 ·
  refine AGo.cond_false false rfl rfl ?_
  have hge := ge_of_idx hb1
  refine AGo.exit ?_
  refine AGo.seq ?_
  refine AGo.ghost (.endCell 2 1 3 rfl rfl rfl (by decide)) ?_
  rw [List.take_of_length_le (by rw [dnf_flen]; exact hge)]
  refine AGo.region ?_
  refine al 32 tok ?_
  refine AOps.w rfl rfl (o_store tok rfl rfl rfl rfl rfl rfl rfl rfl rfl (by decide) rfl z61q) ?_
  refine AOps.nil ?_
  refine AGo.ret ?_
  refine ⟨[_], ⟨⟨_, _, _, _, rfl, rfl, .ptr _ _ _ _ _ _ _ _ rfl rfl rfl, rfl⟩, trivial⟩, ?_, rfl⟩
  rfl

end Go.Proofs.Ytjmjmedjjbginaa.Sv

namespace Go.Proofs.Ytjmjmedjjbginaa.Sv
open Go

set_option maxRecDepth 100000 in
theorem bits_ok0 (a : Nat) (ha : a < 4294967296) : ACall Try.prog 79 [.int .u32 (a : Int)] (hput hNew 0 .free) (fun r h' => r = .ref 0 32 0 32 ∧ HSub (hput hNone 0 (.row true 1 (natCells (bitsN a 32)))) h') := by
 refine ACall.of_body (n := 18) tok Try.func79 rfl rfl ?_
 refine AGo.seq ?_
 refine AGo.region ?_
 refine aa 2 ?_
 refine AOps.nil ?_
 refine AGo.seq ?_
 refine AGo.region ?_
 refine aa 3 ?_
 refine AOps.nil ?_
 refine AGo.seq ?_
 refine AGo.seq ?_
 refine AGo.ghost (.dry 3 0 1 true rfl rfl rfl (by decide)) ?_
 refine AGo.region ?_
 refine aa 4 ?_
 refine AOps.nil ?_
 refine AGo.block ?_
 refine AGo.loopI (γ := Nat) (fun k => ⟨18, (eput (eput (eput eNew 0 (.int .u32 ((a / 2 ^ k : Nat) : Int))) 3 (.ref 0 k 0 k)) 4 (.int .i64 (k : Int))), (hput hNone 0 (.row true 1 (natCells (bitsN a k))))⟩) (fun k => k ≤ 32) (fun k => 32 - k) 0 (Sub.mk' (by repeat (first | exact ESub.new _ | refine ESub.put ?_ (by first | rfl | exact congrArg (fun (n : Nat) => some (AV.int .u32 (n : Int))) (by simp)))) z19q) (Nat.zero_le _) ?_
 intro k hk
 refine AGo.seq ?_
 refine AGo.seq ?_
 refine AGo.region ?_
 refine am 5 ?_
 refine aq 6 (q_bin rfl rfl rfl rfl) ?_
 refine AOps.nil ?_
 refine AGo.split 6 rfl (fun hb1 => ?_) (fun hb1 => ?_)
 ·
  refine AGo.cond_true true rfl rfl ?_
  have hkl : k < 32 := by have h := hb1; simp at h; omega
  have hle : a / 2 ^ k ≤ a := Nat.div_le_self _ _
  refine AGo.skip ?_
  refine AGo.seq ?_
  refine AGo.block ?_
  refine AGo.seq ?_
  refine AGo.region ?_
  refine am 9 ?_
  refine am 10 ?_
  refine aq 11 (q_bin (r := .int .u32 ((a / 2 ^ k % 2 : Nat) : Int)) rfl rfl rfl (ebin_rem (a := a / 2 ^ k) (b := 2) (by decide))) ?_
  refine aq 12 (q_convSame tok rfl rfl rfl rfl rfl (wrapN_i64 (by omega))) ?_
  refine ax 13 (o_lit' tok rfl rfl rfl rfl rfl rfl (by decide) rfl rfl rfl rfl rfl rfl) ?_
  refine ax 14 (o_append tok (n := k) (m := 1) rfl rfl rfl rfl rfl rfl rfl rfl rfl (by simp [natCells_len, bitsN_length]) rfl rfl (Nat.zero_lt_succ _) (.lst _ _) (by intro cs h; simp [partVals] at h; subst h; rfl) (fun _ cs h => by simp [partVals] at h; subst h; rfl) rfl (by simp [natCells_len, bitsN_length, partVals]; show _ * 8 ≤ _; omega) (by simp [natCells_len, bitsN_length, partVals]; simp only [maxLen]; omega)) ?_
  refine aa 3 ?_
  refine AOps.nil ?_
  refine AGo.region ?_
  refine am 15 ?_
  refine aq 16 (q_bin (r := .int .u32 ((a / 2 ^ k / 2 : Nat) : Int)) rfl rfl rfl (ebin_quo (a := a / 2 ^ k) (b := 2) (by decide) (wrapN_u32 (by omega)))) ?_
  refine aa 0 ?_
  refine AOps.nil ?_
  refine AGo.region ?_
  refine am 7 ?_
  refine aq 8 (q_inc rfl rfl hkl (show 32 ≤ maxLen by decide)) ?_
  refine aa 4 ?_
  refine AOps.nil ?_
  exact ⟨k+1, Sub.mk' (by repeat (first | exact ESub.new _ | refine ESub.put ?_ (by first | rfl | exact congrArg (fun (n : Nat) => some (AV.int .u32 (n : Int))) (by rw [Nat.div_div_eq_div_mul, Nat.pow_succ])))) z15q, hkl, by omega⟩
 ·
  refine AGo.cond_false false rfl rfl ?_
  have hge : ¬ k < 32 := by have h := hb1; simp at h; omega
  refine AGo.exit ?_
  refine AGo.seq ?_
  obtain rfl : k = 32 := by omega
  refine AGo.region ?_
  refine am 17 ?_
  refine aa 2 ?_
  refine AOps.nil ?_
  refine AGo.ret ?_
  refine ⟨[_], ⟨rfl, trivial⟩, rfl, HSub.put (HSub.none _) rfl⟩

set_option maxRecDepth 100000 in
theorem bits_ok1 (a : Nat) (ha : a < 4294967296) : ACall Try.prog 79 [.int .u32 (a : Int)] (hput hNew 1 .free) (fun r h' => r = .ref 1 32 0 32 ∧ HSub (hput hNone 1 (.row true 1 (natCells (bitsN a 32)))) h') := by
 refine ACall.of_body (n := 18) tok Try.func79 rfl rfl ?_
 refine AGo.seq ?_
 refine AGo.region ?_
 refine aa 2 ?_
 refine AOps.nil ?_
 refine AGo.seq ?_
 refine AGo.region ?_
 refine aa 3 ?_
 refine AOps.nil ?_
 refine AGo.seq ?_
 refine AGo.seq ?_
 refine AGo.ghost (.dry 3 1 1 true rfl rfl rfl (by decide)) ?_
 refine AGo.region ?_
 refine aa 4 ?_
 refine AOps.nil ?_
 refine AGo.block ?_
 refine AGo.loopI (γ := Nat) (fun k => ⟨18, (eput (eput (eput eNew 0 (.int .u32 ((a / 2 ^ k : Nat) : Int))) 3 (.ref 1 k 0 k)) 4 (.int .i64 (k : Int))), (hput hNone 1 (.row true 1 (natCells (bitsN a k))))⟩) (fun k => k ≤ 32) (fun k => 32 - k) 0 (Sub.mk' (by repeat (first | exact ESub.new _ | refine ESub.put ?_ (by first | rfl | exact congrArg (fun (n : Nat) => some (AV.int .u32 (n : Int))) (by simp)))) z19q) (Nat.zero_le _) ?_
 intro k hk
 refine AGo.seq ?_
 refine AGo.seq ?_
 refine AGo.region ?_
 refine am 5 ?_
 refine aq 6 (q_bin rfl rfl rfl rfl) ?_
 refine AOps.nil ?_
 refine AGo.split 6 rfl (fun hb1 => ?_) (fun hb1 => ?_)
 ·
  refine AGo.cond_true true rfl rfl ?_
  have hkl : k < 32 := by have h := hb1; simp at h; omega
  have hle : a / 2 ^ k ≤ a := Nat.div_le_self _ _
  refine AGo.skip ?_
  refine AGo.seq ?_
  refine AGo.block ?_
  refine AGo.seq ?_
  refine AGo.region ?_
  refine am 9 ?_
  refine am 10 ?_
  refine aq 11 (q_bin (r := .int .u32 ((a / 2 ^ k % 2 : Nat) : Int)) rfl rfl rfl (ebin_rem (a := a / 2 ^ k) (b := 2) (by decide))) ?_
  refine aq 12 (q_convSame tok rfl rfl rfl rfl rfl (wrapN_i64 (by omega))) ?_
  refine ax 13 (o_lit' tok rfl rfl rfl rfl rfl rfl (by decide) rfl rfl rfl rfl rfl rfl) ?_
  refine ax 14 (o_append tok (n := k) (m := 1) rfl rfl rfl rfl rfl rfl rfl rfl rfl (by simp [natCells_len, bitsN_length]) rfl rfl (Nat.zero_lt_succ _) (.lst _ _) (by intro cs h; simp [partVals] at h; subst h; rfl) (fun _ cs h => by simp [partVals] at h; subst h; rfl) rfl (by simp [natCells_len, bitsN_length, partVals]; show _ * 8 ≤ _; omega) (by simp [natCells_len, bitsN_length, partVals]; simp only [maxLen]; omega)) ?_
  refine aa 3 ?_
  refine AOps.nil ?_
  refine AGo.region ?_
  refine am 15 ?_
  refine aq 16 (q_bin (r := .int .u32 ((a / 2 ^ k / 2 : Nat) : Int)) rfl rfl rfl (ebin_quo (a := a / 2 ^ k) (b := 2) (by decide) (wrapN_u32 (by omega)))) ?_
  refine aa 0 ?_
  refine AOps.nil ?_
  refine AGo.region ?_
  refine am 7 ?_
  refine aq 8 (q_inc rfl rfl hkl (show 32 ≤ maxLen by decide)) ?_
  refine aa 4 ?_
  refine AOps.nil ?_
  exact ⟨k+1, Sub.mk' (by repeat (first | exact ESub.new _ | refine ESub.put ?_ (by first | rfl | exact congrArg (fun (n : Nat) => some (AV.int .u32 (n : Int))) (by rw [Nat.div_div_eq_div_mul, Nat.pow_succ])))) z15q, hkl, by omega⟩
 ·
  refine AGo.cond_false false rfl rfl ?_
  have hge : ¬ k < 32 := by have h := hb1; simp at h; omega
  refine AGo.exit ?_
  refine AGo.seq ?_
  obtain rfl : k = 32 := by omega
  refine AGo.region ?_
  refine am 17 ?_
  refine aa 2 ?_
  refine AOps.nil ?_
  refine AGo.ret ?_
  refine ⟨[_], ⟨rfl, trivial⟩, rfl, HSub.put (HSub.none _) rfl⟩

set_option maxRecDepth 100000 in
theorem bitsOf_ok (l : List Nat) (hl : l.length = 32) (hb : ∀ b ∈ l, b < 2) : APure Try.prog 80 [.lst false (natCells l)] (fun r => r = .int .u32 (valB l : Int)) := by
 refine APure.of_body (n := 23) tok Try.func80 rfl rfl ?_
 refine AGo.seq ?_
 refine AGo.region ?_
 refine aa 2 ?_
 refine AOps.nil ?_
 refine AGo.seq ?_
 refine AGo.region ?_
 refine aa 3 ?_
 refine AOps.nil ?_
 refine AGo.seq ?_
 refine AGo.seq ?_
 refine AGo.region ?_
 refine am 5 ?_
 refine aq 6 (q_len tok rfl rfl rfl rfl rfl) ?_
 refine aq 7 (q_bin (r := .int .i64 (31 : Int)) rfl rfl rfl (by rw [natCells_len, hl]; rfl)) ?_
 refine aa 4 ?_
 refine AOps.nil ?_
 refine AGo.block ?_
 refine AGo.loopI (γ := Nat) (fun k => ⟨23, (eput (eput (eput eNew 0 (.lst false (natCells l))) 3 (.int .u64 ((valB (l.drop k) : Nat) : Int))) 4 (.int .i64 ((k : Int) - 1))), hNone⟩) (fun k => k ≤ 32) (fun k => k) 32 (Sub.mk' (by repeat (first | exact ESub.new _ | refine ESub.put ?_ (by first | rfl | exact congrArg (fun (n : Nat) => some (AV.int .u64 (n : Int))) (by rw [List.drop_eq_nil_of_le (by omega)]; rfl)))) z19q) (Nat.le_refl _) ?_
 intro k hk
 refine AGo.seq ?_
 refine AGo.seq ?_
 refine AGo.region ?_
 refine am 8 ?_
 refine aq 9 (q_bin rfl rfl rfl rfl) ?_
 refine AOps.nil ?_
 refine AGo.split 9 rfl (fun hb1 => ?_) (fun hb1 => ?_)
 ·
  refine AGo.cond_true true rfl rfl ?_
  obtain ⟨m, rfl⟩ : ∃ m, k = m + 1 := ⟨k - 1, by have h := hb1; simp at h; omega⟩
  obtain ⟨b, hx⟩ := get_of_lt (l := l) (k := m) (by omega)
  have hb2 := hb b (List.mem_of_getElem? hx)
  have hv := valB_drop_lt hl hb (m + 1)
  have hv2 := valB_drop hx
  refine AGo.skip ?_
  refine AGo.seq ?_
  refine AGo.block ?_
  refine AGo.region ?_
  refine am 12 ?_
  refine aq 13 (q_bin (r := .int .u64 ((2 * valB (l.drop (m + 1)) : Nat) : Int)) rfl rfl rfl (ebin_mul (a := 2) (b := valB (l.drop (m + 1))) (wrapN_u64 (by omega)))) ?_
  refine am 14 ?_
  refine am 15 ?_
  refine aq 16 (q_index_lst tok rfl rfl rfl rfl rfl rfl (by omega) (cs := [.int .i64 (b : Int)]) (by rw [show (((m + 1 : Nat) : Int) - 1).toNat = m by omega]; show (natCells l)[m]? = _; rw [natCells, List.getElem?_map, hx]; rfl) rfl) ?_
  refine al 17 tok ?_
  refine aq 18 (q_convSame tok rfl rfl rfl rfl rfl (wrapN_u64 (by omega))) ?_
  refine aq 19 (q_bin (r := .int .u64 ((2 * valB (l.drop (m + 1)) + b : Nat) : Int)) rfl rfl rfl (ebin_add (wrapN_u64 (by omega)))) ?_
  refine aa 3 ?_
  refine AOps.nil ?_
  refine AGo.region ?_
  refine am 10 ?_
  refine aq 11 (q_bin (r := .int .i64 ((m : Int) - 1)) rfl rfl rfl (by simp only [evalBin, evalInt, isShift, cond_false, if_true]; rw [wrap_i64 (by omega) (by omega)]; congr 2; omega)) ?_
  refine aa 4 ?_
  refine AOps.nil ?_
  exact ⟨m, Sub.mk' (by repeat (first | exact ESub.new _ | refine ESub.put ?_ (by first | rfl | exact congrArg (fun (n : Nat) => some (AV.int .u64 (n : Int))) (by omega)))) z19q, (by omega), by omega⟩
 ·
  refine AGo.cond_false false rfl rfl ?_
  obtain rfl : k = 0 := by have h := hb1; simp at h; omega
  refine AGo.exit ?_
  refine AGo.seq ?_
  refine AGo.region ?_
  refine am 20 ?_
  refine aq 21 (q_bin (r := .int .u64 ((valB (l.drop 0) % 4294967296 : Nat) : Int)) rfl rfl rfl (ebin_rem (a := valB (l.drop 0)) (b := 4294967296) (by decide))) ?_
  refine aq 22 (q_convSame tok rfl rfl rfl rfl rfl (wrapN_u32 (Nat.mod_lt _ (by decide)))) ?_
  refine aa 2 ?_
  refine AOps.nil ?_
  refine AGo.ret ?_
  refine ⟨[_], ⟨rfl, trivial⟩, ?_, rfl⟩
  show AV.int .u32 _ = _
  rw [Nat.mod_eq_of_lt (valB_drop_lt hl hb 0), List.drop_zero]

set_option maxRecDepth 100000 in
theorem both_ok (op : Int) (a b : Nat) (ha : a < 4294967296) (hb : b < 4294967296) : APure Try.prog 75 [.int .i64 op, .int .u32 (a : Int), .int .u32 (b : Int)] (fun r => r = .int .u32 (valB (bothN op a b) : Int)) := by
 refine APure.of_body (n := 50) tok Try.func75 rfl rfl ?_
 refine AGo.seq ?_
 refine AGo.region ?_
 refine aa 6 ?_
 refine AOps.nil ?_
 refine AGo.seq ?_
 refine AGo.region ?_
 refine am 11 ?_
 refine ax 12 (o_call (hc := hput hNew 0 .free) (hw := hput hNone 0 (.row true 1 (natCells (bitsN a 32)))) [0] [(0, (.row true 1 (natCells (bitsN a 32))))] rfl Try.func79 (by kernel_rfl) rfl rfl rfl ⟨⟨_, rfl, rfl⟩, trivial⟩ rfl (hres_cons rfl (hres_nil _)) ⟨⟨_, rfl, rfl, rfl⟩, trivial⟩ rfl (bits_ok0 a ha)) ?_
 refine am 13 ?_
 refine ax 14 (o_call (hc := hput hNew 1 .free) (hw := hput hNone 1 (.row true 1 (natCells (bitsN b 32)))) [1] [(1, (.row true 1 (natCells (bitsN b 32))))] rfl Try.func79 (by kernel_rfl) rfl rfl rfl ⟨⟨_, rfl, rfl⟩, trivial⟩ rfl (hres_cons rfl (hres_nil _)) ⟨⟨_, rfl, rfl, rfl⟩, trivial⟩ rfl (bits_ok1 b hb)) ?_
 refine aa 7 ?_
 refine aa 8 ?_
 refine AOps.nil ?_
 refine AGo.seq ?_
 refine AGo.seq ?_
 refine AGo.region ?_
 refine aa 9 ?_
 refine AOps.nil ?_
 refine AGo.block ?_
 refine AGo.loopI (γ := Nat) (fun k => ⟨50, (eput (eput (eput (eput eNew 0 (.int .i64 op)) 7 (.ref 0 32 0 32)) 8 (.ref 1 32 0 32)) 9 (.int .i64 (k : Int))), (hput (hput hNone 0 (.row true 1 (natCells (mixB op a b k)))) 1 (.row true 1 (natCells (bitsN b 32))))⟩) (fun k => k ≤ 32) (fun k => 32 - k) 0 (Sub.mk' z52q (by repeat (first | exact HSub.refl _ | exact HSub.none _ | exact HSub.from_new _ | exact HSub.from_from z63q | refine HSub.put ?_ (by first | rfl | exact congrArg (fun l => some (AObj.row true 1 (natCells l))) (mixB_zero op a b).symm) | refine HSub.from_put ?_ z63q | refine HSub.from_rm ?_ (by decide)))) (Nat.zero_le _) ?_
 intro k hk
 refine AGo.seq ?_
 refine AGo.seq ?_
 refine AGo.region ?_
 refine am 15 ?_
 refine aq 16 (q_bin rfl rfl rfl rfl) ?_
 refine AOps.nil ?_
 refine AGo.split 16 rfl (fun hb1 => ?_) (fun hb1 => ?_)
 ·
  refine AGo.cond_true true rfl rfl ?_
  have hkl : k < 32 := by have h := hb1; simp at h; omega
  refine AGo.skip ?_
  refine AGo.seq ?_
  refine AGo.block ?_
  refine AGo.seq ?_
  refine AGo.draw mix ?_
  refine dm 19 ?_
  refine dm 20 ?_
  refine dq 21 (q_index_ref tok rfl rfl rfl rfl rfl rfl rfl (by simp [natCells_len, mixB_length (Nat.le_of_lt hkl), bitsN_length]) rfl (Int.natCast_nonneg _) (by omega)) ?_
  refine dq 22 (q_load tok rfl rfl rfl (.ptr _ _ _ _ _ _ _ _ rfl z60q (natCells_get (mixB_get hkl))) rfl) ?_
  refine dm 23 ?_
  refine dm 24 ?_
  refine dq 25 (q_index_ref tok rfl rfl rfl rfl rfl rfl rfl (by simp [natCells_len, mixB_length (Nat.le_of_lt hkl), bitsN_length]) rfl (Int.natCast_nonneg _) (by omega)) ?_
  refine dq 26 (q_load tok rfl rfl rfl (.ptr _ _ _ _ _ _ _ _ rfl (by simp [natCells_len, bitsN_length]) (natCells_get (bitsN_get hkl))) rfl) ?_
  refine dq 27 (q_bin (r := .int .i64 ((a / 2 ^ k % 2 + b / 2 ^ k % 2 : Nat) : Int)) rfl rfl rfl (ebin_add (wrapN_i64 (by omega)))) ?_
  refine da 10 ?_
  refine DOps.nil (by kernel_rfl) ?_
  refine AGo.seq ?_
  refine AGo.region ?_
  refine am 28 ?_
  refine am 29 ?_
  refine aq 30 (q_index_ref tok rfl rfl rfl rfl rfl rfl rfl (by simp [natCells_len, mixB_length (Nat.le_of_lt hkl), bitsN_length]) rfl (Int.natCast_nonneg _) (by omega)) ?_
  refine AOps.w rfl rfl (o_store tok rfl rfl rfl rfl rfl rfl z60q (natCells_get (mixB_get hkl)) rfl (by decide) rfl z61q) ?_
  refine AOps.nil ?_
  refine AGo.seq ?_
  refine AGo.region ?_
  refine am 31 ?_
  refine aq 32 (q_bin rfl rfl rfl rfl) ?_
  refine am 33 ?_
  refine AOps.split 33 rfl (fun hb2 => ?_) (fun hb2 => ?_)
  ·
   refine am 34 ?_
   refine aq 35 (q_bin rfl rfl rfl rfl) ?_
   refine aq 36 (q_pick_true true rfl rfl rfl rfl) ?_
   refine am 37 ?_
   refine AOps.split 37 rfl (fun hb3 => ?_) (fun hb3 => ?_)
   ·
    refine ak 38 ?_
    refine ak 39 ?_
    refine ak 40 ?_
    refine ak 41 ?_
    refine ak 42 ?_
    refine ak 43 ?_
    refine aq 44 (q_pick_true true rfl rfl rfl rfl) ?_
    refine AOps.nil ?_
    refine AGo.cond_true true rfl rfl ?_
    refine AGo.region ?_
    refine am 45 ?_
    refine am 46 ?_
    refine aq 47 (q_index_ref tok rfl rfl rfl rfl rfl rfl rfl z60q rfl (Int.natCast_nonneg _) (by omega)) ?_
    refine AOps.w rfl rfl (o_store tok rfl rfl rfl rfl rfl rfl z60q (get_set_self (natCells_get (mixB_get hkl))) rfl (by decide) rfl z61q) ?_
    refine AOps.nil ?_
    refine AGo.region ?_
    refine am 17 ?_
    refine aq 18 (q_inc rfl rfl hkl (show 32 ≤ maxLen by decide)) ?_
    refine aa 9 ?_
    refine AOps.nil ?_
    exact ⟨k+1, Sub.mk' z52q z2q, hkl, by omega⟩
   ·
    refine am 38 ?_
    refine aq 39 (q_bin rfl rfl rfl rfl) ?_
    refine am 40 ?_
    refine AOps.split 40 rfl (fun hb4 => ?_) (fun hb4 => ?_)
    ·
     refine am 41 ?_
     refine aq 42 (q_bin rfl rfl rfl rfl) ?_
     refine aq 43 (q_pick_true true rfl rfl rfl rfl) ?_
     refine aq 44 (q_pick_false false rfl rfl rfl rfl) ?_
     refine AOps.nil ?_
     refine AGo.split 44 rfl (fun hb5 => ?_) (fun hb5 => ?_)
     ·
      refine AGo.cond_true true rfl rfl ?_
      refine AGo.region ?_
      refine am 45 ?_
      refine am 46 ?_
      refine aq 47 (q_index_ref tok rfl rfl rfl rfl rfl rfl rfl z60q rfl (Int.natCast_nonneg _) (by omega)) ?_
      refine AOps.w rfl rfl (o_store tok rfl rfl rfl rfl rfl rfl z60q (get_set_self (natCells_get (mixB_get hkl))) rfl (by decide) rfl z61q) ?_
      refine AOps.nil ?_
      refine AGo.region ?_
      refine am 17 ?_
      refine aq 18 (q_inc rfl rfl hkl (show 32 ≤ maxLen by decide)) ?_
      refine aa 9 ?_
      refine AOps.nil ?_
      exact ⟨k+1, Sub.mk' z52q z2q, hkl, by omega⟩
     ·
      refine AGo.cond_false false rfl rfl ?_
      refine AGo.skip ?_
      refine AGo.region ?_
      refine am 17 ?_
      refine aq 18 (q_inc rfl rfl hkl (show 32 ≤ maxLen by decide)) ?_
      refine aa 9 ?_
      refine AOps.nil ?_
      exact ⟨k+1, Sub.mk' z52q z2q, hkl, by omega⟩
    ·
     refine ak 41 ?_
     refine ak 42 ?_
     refine aq 43 (q_pick_false false rfl rfl rfl rfl) ?_
     refine aq 44 (q_pick_false false rfl rfl rfl rfl) ?_
     refine AOps.nil ?_
     refine AGo.cond_false false rfl rfl ?_
     refine AGo.skip ?_
     refine AGo.region ?_
     refine am 17 ?_
     refine aq 18 (q_inc rfl rfl hkl (show 32 ≤ maxLen by decide)) ?_
     refine aa 9 ?_
     refine AOps.nil ?_
     exact ⟨k+1, Sub.mk' z52q z2q, hkl, by omega⟩
  ·
   refine ak 34 ?_
   refine ak 35 ?_
   refine aq 36 (q_pick_false false rfl rfl rfl rfl) ?_
   refine am 37 ?_
   refine am 38 ?_
   refine aq 39 (q_bin rfl rfl rfl rfl) ?_
   refine am 40 ?_
   refine AOps.split 40 rfl (fun hb6 => ?_) (fun hb6 => ?_)
   ·
    refine am 41 ?_
    refine aq 42 (q_bin rfl rfl rfl rfl) ?_
    refine aq 43 (q_pick_true true rfl rfl rfl rfl) ?_
    refine aq 44 (q_pick_false false rfl rfl rfl rfl) ?_
    refine AOps.nil ?_
    refine AGo.split 44 rfl (fun hb7 => ?_) (fun hb7 => ?_)
    ·
     refine AGo.cond_true true rfl rfl ?_
     refine AGo.region ?_
     refine am 45 ?_
     refine am 46 ?_
     refine aq 47 (q_index_ref tok rfl rfl rfl rfl rfl rfl rfl z60q rfl (Int.natCast_nonneg _) (by omega)) ?_
     refine AOps.w rfl rfl (o_store tok rfl rfl rfl rfl rfl rfl z60q (get_set_self (natCells_get (mixB_get hkl))) rfl (by decide) rfl z61q) ?_
     refine AOps.nil ?_
     refine AGo.region ?_
     refine am 17 ?_
     refine aq 18 (q_inc rfl rfl hkl (show 32 ≤ maxLen by decide)) ?_
     refine aa 9 ?_
     refine AOps.nil ?_
     exact ⟨k+1, Sub.mk' z52q z2q, hkl, by omega⟩
    ·
     refine AGo.cond_false false rfl rfl ?_
     refine AGo.skip ?_
     refine AGo.region ?_
     refine am 17 ?_
     refine aq 18 (q_inc rfl rfl hkl (show 32 ≤ maxLen by decide)) ?_
     refine aa 9 ?_
     refine AOps.nil ?_
     exact ⟨k+1, Sub.mk' z52q z2q, hkl, by omega⟩
   ·
    refine ak 41 ?_
    refine ak 42 ?_
    refine aq 43 (q_pick_false false rfl rfl rfl rfl) ?_
    refine aq 44 (q_pick_false false rfl rfl rfl rfl) ?_
    refine AOps.nil ?_
    refine AGo.cond_false false rfl rfl ?_
    refine AGo.skip ?_
    refine AGo.region ?_
    refine am 17 ?_
    refine aq 18 (q_inc rfl rfl hkl (show 32 ≤ maxLen by decide)) ?_
    refine aa 9 ?_
    refine AOps.nil ?_
    exact ⟨k+1, Sub.mk' z52q z2q, hkl, by omega⟩
 ·
  refine AGo.cond_false false rfl rfl ?_
  have hge : ¬ k < 32 := by have h := hb1; simp at h; omega
  obtain rfl : k = 32 := by omega
  rw [mixB_end]
  refine AGo.exit ?_
  refine AGo.seq ?_
  refine AGo.ghost (.freezeAll 7 0 rfl rfl (by simp [natCells_len, bothN_length])) ?_
  refine AGo.region ?_
  refine am 48 ?_
  refine ax 49 (o_pure rfl Try.func80 (by kernel_rfl) rfl rfl rfl (bitsOf_ok _ (bothN_length _ _ _) (bothN_lt _ _ _))) ?_
  refine aa 6 ?_
  refine AOps.nil ?_
  refine AGo.ret ?_
  refine ⟨[_], ⟨rfl, trivial⟩, ?_, rfl⟩
  rfl

set_option maxRecDepth 100000 in
theorem rshift_ok (op : Int) (a b : Nat) (ha : a < 4294967296) (hb : b < 4294967296) (ho : op = 12 ∨ op = 13) : APure Try.prog 76 [.int .i64 op, .int .u32 (a : Int), .int .u32 (b : Int)] (fun r => r = .int .u32 (wshift op a b)) := by
 refine APure.of_body (n := 27) tok Try.func76 rfl rfl ?_
 refine AGo.seq ?_
 refine AGo.region ?_
 refine aa 6 ?_
 refine AOps.nil ?_
 refine AGo.seq ?_
 refine AGo.seq ?_
 refine AGo.region ?_
 refine am 9 ?_
 refine aq 10 (q_bin rfl rfl rfl rfl) ?_
 refine AOps.nil ?_
 refine AGo.split 10 rfl (fun hb1 => ?_) (fun hb1 => ?_)
 ·
  refine AGo.cond_true true rfl rfl ?_
  have hb32 : 32 ≤ b := by have h := hb1; simp at h; omega
  refine AGo.seq ?_
  refine AGo.region ?_
  refine aa 6 ?_
  refine AOps.nil ?_
  refine AGo.ret ?_
  refine ⟨[_], ⟨rfl, trivial⟩, ?_, rfl⟩
  show AV.int .u32 _ = _
  rw [wshift_big op hb32]
 ·
  refine AGo.cond_false false rfl rfl ?_
  have hb32 : b < 32 := by have h := hb1; simp at h; omega
  refine AGo.skip ?_
  refine AGo.seq ?_
  refine AGo.region ?_
  refine am 11 ?_
  refine aq 12 (q_convSame tok rfl rfl rfl rfl rfl (wrapN_u64 (by omega))) ?_
  refine aa 7 ?_
  refine AOps.nil ?_
  refine AGo.seq ?_
  refine AGo.seq ?_
  refine AGo.region ?_
  refine aa 8 ?_
  refine AOps.nil ?_
  refine AGo.block ?_
  refine AGo.loopI (γ := Nat) (fun k => ⟨27, (eput (eput (eput (eput eNew 0 (.int .i64 op)) 2 (.int .u32 (b : Int))) 7 (.int .u64 ((shN op a k : Nat) : Int))) 8 (.int .u32 (k : Int))), hNone⟩) (fun k => k ≤ b) (fun k => b - k) 0 (Sub.mk' z52q z19q) (Nat.zero_le _) ?_
  intro k hk
  refine AGo.seq ?_
  refine AGo.seq ?_
  refine AGo.region ?_
  refine am 13 ?_
  refine am 14 ?_
  refine aq 15 (q_bin rfl rfl rfl rfl) ?_
  refine AOps.nil ?_
  refine AGo.split 15 rfl (fun hb2 => ?_) (fun hb2 => ?_)
  ·
   refine AGo.cond_true true rfl rfl ?_
   have hkl : k < b := by have h := hb2; simp at h; omega
   have hlt := shN_lt (op := op) ha k
   refine AGo.skip ?_
   refine AGo.seq ?_
   refine AGo.block ?_
   refine AGo.seq ?_
   refine AGo.region ?_
   refine am 18 ?_
   refine aq 19 (q_bin rfl rfl rfl rfl) ?_
   refine AOps.nil ?_
   refine AGo.split 19 rfl (fun hb3 => ?_) (fun hb3 => ?_)
   ·
    refine AGo.cond_true true rfl rfl ?_
    refine AGo.region ?_
    refine am 20 ?_
    refine aq 21 (q_bin (r := .int .u64 ((2 * shN op a k : Nat) : Int)) rfl rfl rfl (ebin_mul (a := 2) (b := shN op a k) (wrapN_u64 (by omega)))) ?_
    refine aq 22 (q_bin (r := .int .u64 ((2 * shN op a k % 4294967296 : Nat) : Int)) rfl rfl rfl (ebin_rem (a := 2 * shN op a k) (b := 4294967296) (by decide))) ?_
    refine aa 7 ?_
    refine AOps.nil ?_
    refine AGo.region ?_
    refine am 16 ?_
    refine aq 17 (q_bin (r := .int .u32 ((k + 1 : Nat) : Int)) rfl rfl rfl (ebin_add (b := 1) (wrapN_u32 (by omega)))) ?_
    refine aa 8 ?_
    refine AOps.nil ?_
    exact ⟨k+1, Sub.mk' (by repeat (first | exact ESub.new _ | refine ESub.put ?_ (by first | rfl | exact congrArg (fun (n : Nat) => some (AV.int .u64 (n : Int))) (by simp only [shN, *, cond_true, cond_false])))) z19q, hkl, by omega⟩
   ·
    refine AGo.cond_false false rfl rfl ?_
    refine AGo.region ?_
    refine am 23 ?_
    refine aq 24 (q_bin (r := .int .u64 ((shN op a k / 2 : Nat) : Int)) rfl rfl rfl (ebin_quo (a := shN op a k) (b := 2) (by decide) (wrapN_u64 (by omega)))) ?_
    refine aa 7 ?_
    refine AOps.nil ?_
    refine AGo.region ?_
    refine am 16 ?_
    refine aq 17 (q_bin (r := .int .u32 ((k + 1 : Nat) : Int)) rfl rfl rfl (ebin_add (b := 1) (wrapN_u32 (by omega)))) ?_
    refine aa 8 ?_
    refine AOps.nil ?_
    exact ⟨k+1, Sub.mk' (by repeat (first | exact ESub.new _ | refine ESub.put ?_ (by first | rfl | exact congrArg (fun (n : Nat) => some (AV.int .u64 (n : Int))) (by simp only [shN, *, cond_true, cond_false])))) z19q, hkl, by omega⟩
  ·
   refine AGo.cond_false false rfl rfl ?_
   obtain rfl : k = b := by have h := hb2; simp at h; omega
   refine AGo.exit ?_
   refine AGo.seq ?_
   refine AGo.region ?_
   refine am 25 ?_
   refine aq 26 (q_convSame tok rfl rfl rfl rfl rfl (wrapN_u32 (shN_lt ha _))) ?_
   refine aa 6 ?_
   refine AOps.nil ?_
   refine AGo.ret ?_
   refine ⟨[_], ⟨rfl, trivial⟩, ?_, rfl⟩
   show AV.int .u32 _ = _
   rw [wshift_small ha hb32 ho]

set_option maxRecDepth 100000 in
theorem flag_ok (ok : Bool) : APure Try.prog 77 [.bool ok] (fun r => r = .int .u32 (bif ok then 1 else 0)) := by
 refine APure.of_body (n := 4) tok Try.func77 rfl rfl ?_
 refine AGo.seq ?_
 refine AGo.region ?_
 refine aa 2 ?_
 refine AOps.nil ?_
 refine AGo.seq ?_
 refine AGo.seq ?_
 refine AGo.region ?_
 refine am 3 ?_
 refine AOps.nil ?_
 refine AGo.split 3 rfl (fun hb1 => ?_) (fun hb1 => ?_)
 ·
  refine AGo.cond_true true rfl rfl ?_
  refine AGo.seq ?_
  refine AGo.region ?_
  refine aa 2 ?_
  refine AOps.nil ?_
  refine AGo.ret ?_
  refine ⟨[_], ⟨rfl, trivial⟩, ?_, rfl⟩
  show AV.int .u32 _ = _
  simp [*]
 ·
  refine AGo.cond_false false rfl rfl ?_
  refine AGo.skip ?_
  refine AGo.seq ?_
  refine AGo.region ?_
  refine aa 2 ?_
  refine AOps.nil ?_
  refine AGo.ret ?_
  refine ⟨[_], ⟨rfl, trivial⟩, ?_, rfl⟩
  show AV.int .u32 _ = _
  simp [*]

set_option maxRecDepth 100000 in
theorem rapply_okN (op : Int) (a b : Nat) (ha : a < 4294967296) (hb : b < 4294967296) : APure Try.prog 68 [.int .i64 op, .int .u32 (a : Int), .int .u32 (b : Int)] (fun r => r = wpair (wapp op a b)) := by
 refine APure.of_body (n := 80) tok Try.func68 rfl rfl ?_
 refine AGo.seq ?_
 refine AGo.region ?_
 refine aa 6 ?_
 refine aa 7 ?_
 refine AOps.nil ?_
 refine AGo.seq ?_
 refine AGo.region ?_
 refine am 10 ?_
 refine aq 11 (q_convSame tok rfl rfl rfl rfl rfl (wrapN_u64 (by omega))) ?_
 refine am 12 ?_
 refine aq 13 (q_convSame tok rfl rfl rfl rfl rfl (wrapN_u64 (by omega))) ?_
 refine aa 8 ?_
 refine aa 9 ?_
 refine AOps.nil ?_
 refine AGo.seq ?_
 refine AGo.seq ?_
 refine AGo.region ?_
 refine am 14 ?_
 refine AOps.nil ?_
 refine AGo.block ?_
 refine AGo.seq ?_
 refine AGo.region ?_
 refine aq 16 (q_bin rfl rfl rfl rfl) ?_
 refine aa 15 ?_
 refine AOps.nil ?_
 refine AGo.split 15 rfl (fun hb1 => ?_) (fun hb1 => ?_)
 ·
  refine AGo.cond_true true rfl rfl ?_
  obtain rfl : op = 4 := by simpa using hb1
  refine AGo.seq ?_
  refine AGo.region ?_
  refine am 17 ?_
  refine am 18 ?_
  refine aq 19 (q_bin (r := .int .u64 ((a + b : Nat) : Int)) rfl rfl rfl (ebin_add (wrapN_u64 (by omega)))) ?_
  refine aq 20 (q_bin (r := .int .u64 (((a + b) % 4294967296 : Nat) : Int)) rfl rfl rfl (ebin_rem (a := a + b) (b := 4294967296) (by decide))) ?_
  refine aq 21 (q_convSame tok rfl rfl rfl rfl rfl (wrapN_u32 (Nat.mod_lt _ (by decide)))) ?_
  refine aa 6 ?_
  refine aa 7 ?_
  refine AOps.nil ?_
  refine AGo.ret ?_
  refine ⟨[_, _], ⟨rfl, rfl, trivial⟩, ?_, rfl⟩
  show AV.tup _ = _
  rw [wapp_add]; rfl
 ·
  refine AGo.cond_false false rfl rfl ?_
  refine AGo.seq ?_
  refine AGo.region ?_
  refine aq 23 (q_bin rfl rfl rfl rfl) ?_
  refine aa 22 ?_
  refine AOps.nil ?_
  refine AGo.split 22 rfl (fun hb2 => ?_) (fun hb2 => ?_)
  ·
   refine AGo.cond_true true rfl rfl ?_
   obtain rfl : op = 5 := by simpa using hb2
   refine AGo.seq ?_
   refine AGo.region ?_
   refine am 24 ?_
   refine aq 25 (q_bin (r := .int .u64 ((a + 4294967296 : Nat) : Int)) rfl rfl rfl (ebin_add (b := 4294967296) (wrapN_u64 (by omega)))) ?_
   refine am 26 ?_
   refine aq 27 (q_bin (r := .int .u64 ((a + 4294967296 - b : Nat) : Int)) rfl rfl rfl (ebin_sub (by omega) (wrapN_u64 (by omega)))) ?_
   refine aq 28 (q_bin (r := .int .u64 (((a + 4294967296 - b) % 4294967296 : Nat) : Int)) rfl rfl rfl (ebin_rem (a := a + 4294967296 - b) (b := 4294967296) (by decide))) ?_
   refine aq 29 (q_convSame tok rfl rfl rfl rfl rfl (wrapN_u32 (Nat.mod_lt _ (by decide)))) ?_
   refine aa 6 ?_
   refine aa 7 ?_
   refine AOps.nil ?_
   refine AGo.ret ?_
   refine ⟨[_, _], ⟨rfl, rfl, trivial⟩, ?_, rfl⟩
   show AV.tup _ = _
   rw [wapp_sub hb]; rfl
  ·
   refine AGo.cond_false false rfl rfl ?_
   refine AGo.seq ?_
   refine AGo.region ?_
   refine aq 31 (q_bin rfl rfl rfl rfl) ?_
   refine aa 30 ?_
   refine AOps.nil ?_
   refine AGo.split 30 rfl (fun hb3 => ?_) (fun hb3 => ?_)
   ·
    refine AGo.cond_true true rfl rfl ?_
    obtain rfl : op = 6 := by simpa using hb3
    have hab : a * b < 18446744073709551616 := by have := Nat.mul_lt_mul'' ha hb; omega
    refine AGo.seq ?_
    refine AGo.region ?_
    refine am 32 ?_
    refine am 33 ?_
    refine aq 34 (q_bin (r := .int .u64 ((a * b : Nat) : Int)) rfl rfl rfl (ebin_mul (wrapN_u64 hab))) ?_
    refine aq 35 (q_bin (r := .int .u64 ((a * b % 4294967296 : Nat) : Int)) rfl rfl rfl (ebin_rem (a := a * b) (b := 4294967296) (by decide))) ?_
    refine aq 36 (q_convSame tok rfl rfl rfl rfl rfl (wrapN_u32 (Nat.mod_lt _ (by decide)))) ?_
    refine aa 6 ?_
    refine aa 7 ?_
    refine AOps.nil ?_
    refine AGo.ret ?_
    refine ⟨[_, _], ⟨rfl, rfl, trivial⟩, ?_, rfl⟩
    show AV.tup _ = _
    rw [wapp_mul]; rfl
   ·
    refine AGo.cond_false false rfl rfl ?_
    refine AGo.seq ?_
    refine AGo.region ?_
    refine aq 38 (q_bin rfl rfl rfl rfl) ?_
    refine aa 37 ?_
    refine AOps.nil ?_
    refine AGo.split 37 rfl (fun hb4 => ?_) (fun hb4 => ?_)
    ·
     refine AGo.cond_true true rfl rfl ?_
     obtain rfl : op = 7 := by simpa using hb4
     refine AGo.seq ?_
     refine AGo.seq ?_
     refine AGo.region ?_
     refine am 39 ?_
     refine aq 40 (q_bin rfl rfl rfl rfl) ?_
     refine AOps.nil ?_
     refine AGo.split 40 rfl (fun hb5 => ?_) (fun hb5 => ?_)
     ·
      refine AGo.cond_true true rfl rfl ?_
      obtain rfl : b = 0 := by have h := hb5; simp at h; omega
      refine AGo.seq ?_
      refine AGo.region ?_
      refine aa 6 ?_
      refine aa 7 ?_
      refine AOps.nil ?_
      refine AGo.ret ?_
      refine ⟨[_, _], ⟨rfl, rfl, trivial⟩, ?_, rfl⟩
      show AV.tup _ = _
      rw [show (((0 : Nat) : Int)) = 0 from rfl, wapp_div0 _ _ (by simp)]; rfl
     ·
      refine AGo.cond_false false rfl rfl ?_
      have hb0 : ¬ b = 0 := by have h := hb5; simp at h; omega
      have hda := Nat.div_le_self a b
      refine AGo.skip ?_
      refine AGo.seq ?_
      refine AGo.region ?_
      refine am 41 ?_
      refine am 42 ?_
      refine aq 43 (q_bin (r := .int .u64 ((a / b : Nat) : Int)) rfl rfl rfl (ebin_quo (Nat.pos_of_ne_zero hb0) (wrapN_u64 (by omega)))) ?_
      refine aq 44 (q_convSame tok rfl rfl rfl rfl rfl (wrapN_u32 (by omega))) ?_
      refine aa 6 ?_
      refine aa 7 ?_
      refine AOps.nil ?_
      refine AGo.ret ?_
      refine ⟨[_, _], ⟨rfl, rfl, trivial⟩, ?_, rfl⟩
      show AV.tup _ = _
      rw [wapp_div ha hb0]; rfl
    ·
     refine AGo.cond_false false rfl rfl ?_
     refine AGo.seq ?_
     refine AGo.region ?_
     refine aq 46 (q_bin rfl rfl rfl rfl) ?_
     refine aa 45 ?_
     refine AOps.nil ?_
     refine AGo.split 45 rfl (fun hb6 => ?_) (fun hb6 => ?_)
     ·
      refine AGo.cond_true true rfl rfl ?_
      obtain rfl : op = 8 := by simpa using hb6
      refine AGo.seq ?_
      refine AGo.seq ?_
      refine AGo.region ?_
      refine am 47 ?_
      refine aq 48 (q_bin rfl rfl rfl rfl) ?_
      refine AOps.nil ?_
      refine AGo.split 48 rfl (fun hb7 => ?_) (fun hb7 => ?_)
      ·
       refine AGo.cond_true true rfl rfl ?_
       obtain rfl : b = 0 := by have h := hb7; simp at h; omega
       refine AGo.seq ?_
       refine AGo.region ?_
       refine aa 6 ?_
       refine aa 7 ?_
       refine AOps.nil ?_
       refine AGo.ret ?_
       refine ⟨[_, _], ⟨rfl, rfl, trivial⟩, ?_, rfl⟩
       show AV.tup _ = _
       rw [show (((0 : Nat) : Int)) = 0 from rfl, wapp_div0 _ _ (by simp)]; rfl
      ·
       refine AGo.cond_false false rfl rfl ?_
       have hb0 : ¬ b = 0 := by have h := hb7; simp at h; omega
       have hma := Nat.mod_lt a (Nat.pos_of_ne_zero hb0)
       refine AGo.skip ?_
       refine AGo.seq ?_
       refine AGo.region ?_
       refine am 49 ?_
       refine am 50 ?_
       refine aq 51 (q_bin (r := .int .u64 ((a % b : Nat) : Int)) rfl rfl rfl (ebin_rem (Nat.pos_of_ne_zero hb0))) ?_
       refine aq 52 (q_convSame tok rfl rfl rfl rfl rfl (wrapN_u32 (by omega))) ?_
       refine aa 6 ?_
       refine aa 7 ?_
       refine AOps.nil ?_
       refine AGo.ret ?_
       refine ⟨[_, _], ⟨rfl, rfl, trivial⟩, ?_, rfl⟩
       show AV.tup _ = _
       rw [wapp_mod hb0]; rfl
     ·
      refine AGo.cond_false false rfl rfl ?_
      refine AGo.seq ?_
      refine AGo.seq ?_
      refine AGo.region ?_
      refine aq 54 (q_bin rfl rfl rfl rfl) ?_
      refine aa 53 ?_
      refine AOps.nil ?_
      refine AGo.split 53 rfl (fun hb8 => ?_) (fun hb8 => ?_)
      ·
       refine AGo.cond_true true rfl rfl ?_
       refine AGo.skip ?_
       refine AGo.cond_true true rfl rfl ?_
       refine AGo.seq ?_
       refine AGo.region ?_
       have ho : op = 9 ∨ op = 10 ∨ op = 11 := by simp_all
       refine am 57 ?_
       refine am 58 ?_
       refine am 59 ?_
       refine ax 60 (o_pure rfl Try.func75 (by kernel_rfl) rfl rfl rfl (both_ok _ a b ha hb)) ?_
       refine aa 6 ?_
       refine aa 7 ?_
       refine AOps.nil ?_
       refine AGo.ret ?_
       refine ⟨[_, _], ⟨rfl, rfl, trivial⟩, ?_, rfl⟩
       show AV.tup _ = _
       rw [wapp_both ha hb ho]; rfl
      ·
       refine AGo.cond_false false rfl rfl ?_
       refine AGo.seq ?_
       refine AGo.region ?_
       refine aq 55 (q_bin rfl rfl rfl rfl) ?_
       refine aa 53 ?_
       refine AOps.nil ?_
       refine AGo.split 53 rfl (fun hb9 => ?_) (fun hb9 => ?_)
       ·
        refine AGo.cond_true true rfl rfl ?_
        refine AGo.skip ?_
        refine AGo.cond_true true rfl rfl ?_
        refine AGo.seq ?_
        refine AGo.region ?_
        have ho : op = 9 ∨ op = 10 ∨ op = 11 := by simp_all
        refine am 57 ?_
        refine am 58 ?_
        refine am 59 ?_
        refine ax 60 (o_pure rfl Try.func75 (by kernel_rfl) rfl rfl rfl (both_ok _ a b ha hb)) ?_
        refine aa 6 ?_
        refine aa 7 ?_
        refine AOps.nil ?_
        refine AGo.ret ?_
        refine ⟨[_, _], ⟨rfl, rfl, trivial⟩, ?_, rfl⟩
        show AV.tup _ = _
        rw [wapp_both ha hb ho]; rfl
       ·
        refine AGo.cond_false false rfl rfl ?_
        refine AGo.region ?_
        refine aq 56 (q_bin rfl rfl rfl rfl) ?_
        refine aa 53 ?_
        refine AOps.nil ?_
        refine AGo.split 53 rfl (fun hb10 => ?_) (fun hb10 => ?_)
        ·
         refine AGo.cond_true true rfl rfl ?_
         refine AGo.seq ?_
         refine AGo.region ?_
         have ho : op = 9 ∨ op = 10 ∨ op = 11 := by simp_all
         refine am 57 ?_
         refine am 58 ?_
         refine am 59 ?_
         refine ax 60 (o_pure rfl Try.func75 (by kernel_rfl) rfl rfl rfl (both_ok _ a b ha hb)) ?_
         refine aa 6 ?_
         refine aa 7 ?_
         refine AOps.nil ?_
         refine AGo.ret ?_
         refine ⟨[_, _], ⟨rfl, rfl, trivial⟩, ?_, rfl⟩
         show AV.tup _ = _
         rw [wapp_both ha hb ho]; rfl
        ·
         refine AGo.cond_false false rfl rfl ?_
         refine AGo.seq ?_
         refine AGo.seq ?_
         refine AGo.region ?_
         refine aq 62 (q_bin rfl rfl rfl rfl) ?_
         refine aa 61 ?_
         refine AOps.nil ?_
         refine AGo.split 61 rfl (fun hb11 => ?_) (fun hb11 => ?_)
         ·
          refine AGo.cond_true true rfl rfl ?_
          refine AGo.skip ?_
          refine AGo.cond_true true rfl rfl ?_
          refine AGo.seq ?_
          refine AGo.region ?_
          have ho : op = 12 ∨ op = 13 := by simp_all
          refine am 64 ?_
          refine am 65 ?_
          refine am 66 ?_
          refine ax 67 (o_pure rfl Try.func76 (by kernel_rfl) rfl rfl rfl (rshift_ok _ a b ha hb ho)) ?_
          refine aa 6 ?_
          refine aa 7 ?_
          refine AOps.nil ?_
          refine AGo.ret ?_
          refine ⟨[_, _], ⟨rfl, rfl, trivial⟩, ?_, rfl⟩
          show AV.tup _ = _
          rw [wapp_shift ho]; rfl
         ·
          refine AGo.cond_false false rfl rfl ?_
          refine AGo.region ?_
          refine aq 63 (q_bin rfl rfl rfl rfl) ?_
          refine aa 61 ?_
          refine AOps.nil ?_
          refine AGo.split 61 rfl (fun hb12 => ?_) (fun hb12 => ?_)
          ·
           refine AGo.cond_true true rfl rfl ?_
           refine AGo.seq ?_
           refine AGo.region ?_
           have ho : op = 12 ∨ op = 13 := by simp_all
           refine am 64 ?_
           refine am 65 ?_
           refine am 66 ?_
           refine ax 67 (o_pure rfl Try.func76 (by kernel_rfl) rfl rfl rfl (rshift_ok _ a b ha hb ho)) ?_
           refine aa 6 ?_
           refine aa 7 ?_
           refine AOps.nil ?_
           refine AGo.ret ?_
           refine ⟨[_, _], ⟨rfl, rfl, trivial⟩, ?_, rfl⟩
           show AV.tup _ = _
           rw [wapp_shift ho]; rfl
          ·
           refine AGo.cond_false false rfl rfl ?_
           refine AGo.seq ?_
           refine AGo.region ?_
           refine aq 69 (q_bin rfl rfl rfl rfl) ?_
           refine aa 68 ?_
           refine AOps.nil ?_
           refine AGo.split 68 rfl (fun hb13 => ?_) (fun hb13 => ?_)
           ·
            refine AGo.cond_true true rfl rfl ?_
            obtain rfl : op = 14 := by simpa using hb13
            refine AGo.seq ?_
            refine AGo.region ?_
            refine am 70 ?_
            refine am 71 ?_
            refine aq 72 (q_bin rfl rfl rfl rfl) ?_
            refine ax 73 (o_pure rfl Try.func77 (by kernel_rfl) rfl rfl rfl (flag_ok _)) ?_
            refine aa 6 ?_
            refine aa 7 ?_
            refine AOps.nil ?_
            refine AGo.ret ?_
            refine ⟨[_, _], ⟨rfl, rfl, trivial⟩, ?_, rfl⟩
            show AV.tup _ = _
            rw [wapp_lt]; rfl
           ·
            refine AGo.cond_false false rfl rfl ?_
            refine AGo.seq ?_
            refine AGo.region ?_
            refine aq 75 (q_bin rfl rfl rfl rfl) ?_
            refine aa 74 ?_
            refine AOps.nil ?_
            refine AGo.split 74 rfl (fun hb14 => ?_) (fun hb14 => ?_)
            ·
             refine AGo.cond_true true rfl rfl ?_
             obtain rfl : op = 15 := by simpa using hb14
             refine AGo.seq ?_
             refine AGo.region ?_
             refine am 76 ?_
             refine am 77 ?_
             refine aq 78 (q_bin rfl rfl rfl rfl) ?_
             refine ax 79 (o_pure rfl Try.func77 (by kernel_rfl) rfl rfl rfl (flag_ok _)) ?_
             refine aa 6 ?_
             refine aa 7 ?_
             refine AOps.nil ?_
             refine AGo.ret ?_
             refine ⟨[_, _], ⟨rfl, rfl, trivial⟩, ?_, rfl⟩
             show AV.tup _ = _
             rw [wapp_eq]; rfl
            ·
             refine AGo.cond_false false rfl rfl ?_
             refine AGo.skip ?_
             refine AGo.seq ?_
             refine AGo.region ?_
             refine aa 6 ?_
             refine aa 7 ?_
             refine AOps.nil ?_
             refine AGo.ret ?_
             refine ⟨[_, _], ⟨rfl, rfl, trivial⟩, ?_, rfl⟩
             show AV.tup _ = AV.tup _
             simp [wapp, *]

theorem rapply_ok (op a b : Int) (ha : isW a) (hb : isW b) : APure Try.prog 68 [.int .i64 op, .int .u32 a, .int .u32 b] (fun r => r = wpair (wapp op a b)) := by
  obtain ⟨n, rfl⟩ := Int.eq_ofNat_of_zero_le ha.1
  obtain ⟨m, rfl⟩ := Int.eq_ofNat_of_zero_le hb.1
  exact rapply_okN op n m (by have := ha.2; omega) (by have := hb.2; omega)

end Go.Proofs.Ytjmjmedjjbginaa.Sv

namespace Go.Proofs.Ytjmjmedjjbginaa.Sv
open Go

set_option maxRecDepth 100000 in
theorem step_ok (b : Blocks) (s : ByteArray) (fuel : Int) (m : Mach) (hfu : fuel ≤ 9223372036854775807) : ACall Try.prog 58 [.ptr 0 1 0 0] (mheap hNew b s fuel m) (fun r h' => r = .bool (mstep fuel m).1 ∧ HSub (mheap hNone b s fuel (mstep fuel m).2) h') := by
 refine ACall.of_body (n := 22) tok Try.func58 rfl rfl ?_
 refine AGo.seq ?_
 refine AGo.region ?_
 refine aa 2 ?_
 refine AOps.nil ?_
 refine AGo.seq ?_
 refine AGo.seq ?_
 refine AGo.draw mix ?_
 refine dm 3 ?_
 refine dq 4 (q_nilCheck rfl rfl rfl) ?_
 refine df 5 tok ?_
 refine dl 6 tok ?_
 refine dm 7 ?_
 refine dq 8 (q_nilCheck rfl rfl rfl) ?_
 refine df 9 tok ?_
 refine dl 10 tok ?_
 refine dq 11 (q_bin rfl rfl rfl rfl) ?_
 refine DOps.nil (by kernel_rfl) ?_
 refine AGo.split 11 rfl (fun hb1 => ?_) (fun hb1 => ?_)
 ·
  refine AGo.cond_true true rfl rfl ?_
  refine AGo.seq ?_
  refine AGo.region ?_
  refine am 12 ?_
  refine aq 13 (q_nilCheck rfl rfl rfl) ?_
  refine af 14 tok ?_
  refine AOps.w rfl rfl (o_store tok rfl rfl rfl rfl rfl rfl rfl rfl rfl (by decide) rfl z61q) ?_
  refine AOps.nil ?_
  refine AGo.seq ?_
  refine AGo.region ?_
  refine aa 2 ?_
  refine AOps.nil ?_
  refine AGo.ret ?_
  rw [mstep_no hb1]
  exact ⟨[_], ⟨rfl, trivial⟩, rfl, HSub.put (HSub.put (HSub.put (HSub.none _) rfl) rfl) rfl⟩
 ·
  refine AGo.cond_false false rfl rfl ?_
  refine AGo.skip ?_
  refine AGo.seq ?_
  refine AGo.region ?_
  refine am 15 ?_
  refine aq 16 (q_nilCheck rfl rfl rfl) ?_
  refine af 17 tok ?_
  refine al 18 tok ?_
  refine aq 19 (q_inc rfl rfl (show m.steps < fuel.toNat by have h := hb1; simp at h; omega) (by simp only [maxLen]; omega)) ?_
  refine aq 20 (q_nilCheck rfl rfl rfl) ?_
  refine af 21 tok ?_
  refine AOps.w rfl rfl (o_store tok rfl rfl rfl rfl rfl rfl rfl rfl rfl (by decide) rfl z61q) ?_
  refine AOps.nil ?_
  refine AGo.seq ?_
  refine AGo.region ?_
  refine aa 2 ?_
  refine AOps.nil ?_
  refine AGo.ret ?_
  rw [mstep_yes hb1]
  exact ⟨[_], ⟨rfl, trivial⟩, rfl, HSub.put (HSub.put (HSub.put (HSub.none _) rfl) rfl) rfl⟩

set_option maxRecDepth 100000 in
theorem one_okR (b : Blocks) (s : ByteArray) (fuel : Int) (call : Int → Mach → Mach) (t : Tac) (regs : List Int) (m : Mach) (n R : Nat) (ht : TacIn t n R b.words.toNat) (hr : allR regs) (hlen : regs.length = R) (hm : m.good b.words.toNat) (h0 : m.fin = 0) (hbw : b.words ≤ 1048576) (hs : s.size ≤ 9223372036854775807) (hwn : isW t.n)
    (hcall : ∀ (i : Int), 0 ≤ i → i < n → ACall Try.prog 37 [.ptr 0 1 0 0, .int .i64 i] (mheap hNew b s fuel m) (fun r h' => r = .tup [] ∧ HSub (mheap hNone b s fuel (call i m)) h')) : ACall Try.prog 59 [.ptr 0 1 0 0, .agg t.cells, .ref 4 R 0 R] (hput (mheap hNew b s fuel m) 4 (.row true 1 (regCells regs))) (fun r h' => r = .tup [] ∧ HSub (hput (mheap hNone b s fuel (mone call s t regs m).2) 4 (.row true 1 (regCells (mone call s t regs m).1))) h') := by
 refine ACall.of_body (n := 211) tok Try.func59 rfl rfl ?_
 refine AGo.seq ?_
 refine AGo.region ?_
 refine ax 4 (o_box (sz := 8) 5 rfl rfl rfl rfl (Nat.zero_lt_succ _) rfl) ?_
 refine AOps.nil ?_
 refine AGo.seq ?_
 refine AGo.region ?_
 refine af 8 tok ?_
 refine al 9 tok ?_
 refine AOps.nil ?_
 refine AGo.block ?_
 refine AGo.seq ?_
 refine AGo.region ?_
 refine aq 11 (q_bin rfl rfl rfl rfl) ?_
 refine aa 10 ?_
 refine AOps.nil ?_
 refine AGo.split 10 rfl (fun hb1 => ?_) (fun hb1 => ?_)
 ·
  refine AGo.cond_true true rfl rfl ?_
  have ho : t.op = 1 := by simpa using hb1
  have hd := ht.d (by simp [setsOp, ho])
  refine AGo.region ?_
  refine am 12 ?_
  refine af 13 tok ?_
  refine al 14 tok ?_
  refine af 15 tok ?_
  refine al 16 tok ?_
  refine aq 17 (q_index_ref tok rfl rfl rfl rfl rfl rfl rfl (by rw [regCells_len, hlen]) rfl hd.1 (by have := hd.2; omega)) ?_
  refine AOps.w rfl rfl (o_store tok rfl rfl rfl rfl rfl rfl (by rw [regCells_len, hlen]) (rcell (by have := hd; omega)) rfl (by decide) rfl z61q) ?_
  refine AOps.nil ?_
  refine ⟨[], trivial, rfl, ?_⟩
  rw [mone1 ho]
  exact HSub.put (HSub.put (HSub.put (HSub.put (HSub.none _) rfl) rfl) rfl) z41q
 ·
  refine AGo.cond_false false rfl rfl ?_
  refine AGo.seq ?_
  refine AGo.region ?_
  refine aq 19 (q_bin rfl rfl rfl rfl) ?_
  refine aa 18 ?_
  refine AOps.nil ?_
  refine AGo.split 18 rfl (fun hb2 => ?_) (fun hb2 => ?_)
  ·
   refine AGo.cond_true true rfl rfl ?_
   have ho : t.op = 2 := by simpa using hb2
   have hd := ht.d (by simp [setsOp, ho])
   have ha := ht.a (by simp [use1, use2, ho])
   refine AGo.draw mix ?_
   refine dm 20 ?_
   refine df 21 tok ?_
   refine dl 22 tok ?_
   refine dm 23 ?_
   refine df 24 tok ?_
   refine dl 25 tok ?_
   refine dq 26 (q_index_ref tok rfl rfl rfl rfl rfl rfl rfl (by rw [regCells_len, hlen]) rfl ha.1 (by have := ha.2; omega)) ?_
   refine dq 27 (q_load tok rfl rfl rfl (.ptr _ _ _ _ _ _ _ _ rfl (by rw [regCells_len, hlen]) (rcell (by have := ha; omega))) rfl) ?_
   refine dq 28 (q_index_ref tok rfl rfl rfl rfl rfl rfl rfl (by rw [regCells_len, hlen]) rfl hd.1 (by have := hd.2; omega)) ?_
   refine DOps.w rfl rfl (o_store tok rfl rfl rfl rfl rfl rfl (by rw [regCells_len, hlen]) (rcell (by have := hd; omega)) rfl (by decide) rfl z61q) ?_
   refine DOps.nil (by kernel_rfl) ?_
   refine ⟨[], trivial, rfl, ?_⟩
   rw [mone2 ho]
   exact HSub.put (HSub.put (HSub.put (HSub.put (HSub.none _) rfl) rfl) rfl) z41q
  ·
   refine AGo.cond_false false rfl rfl ?_
   refine AGo.seq ?_
   refine AGo.region ?_
   refine aq 30 (q_bin rfl rfl rfl rfl) ?_
   refine aa 29 ?_
   refine AOps.nil ?_
   refine AGo.split 29 rfl (fun hb3 => ?_) (fun hb3 => ?_)
   ·
    refine AGo.cond_true true rfl rfl ?_
    have ho : t.op = 3 := by simpa using hb3
    have hd := ht.d (by simp [setsOp, ho])
    have ha := ht.a (by simp [use1, use2, ho])
    have hb := ht.b (by simp [use2, ho])
    refine AGo.seq ?_
    refine AGo.draw mix ?_
    refine df 32 tok ?_
    refine dl 33 tok ?_
    refine dm 34 ?_
    refine df 35 tok ?_
    refine dl 36 tok ?_
    refine dq 37 (q_index_ref tok rfl rfl rfl rfl rfl rfl rfl (by rw [regCells_len, hlen]) rfl ha.1 (by have := ha.2; omega)) ?_
    refine dq 38 (q_load tok rfl rfl rfl (.ptr _ _ _ _ _ _ _ _ rfl (by rw [regCells_len, hlen]) (rcell (by have := ha; omega))) rfl) ?_
    refine dm 39 ?_
    refine df 40 tok ?_
    refine dl 41 tok ?_
    refine dq 42 (q_index_ref tok rfl rfl rfl rfl rfl rfl rfl (by rw [regCells_len, hlen]) rfl hb.1 (by have := hb.2; omega)) ?_
    refine dq 43 (q_load tok rfl rfl rfl (.ptr _ _ _ _ _ _ _ _ rfl (by rw [regCells_len, hlen]) (rcell (by have := hb; omega))) rfl) ?_
    refine dx 44 (o_pure rfl Try.func68 (by kernel_rfl) rfl rfl rfl (rapply_ok t.k (rget regs t.a) (rget regs t.b) (rget_w hr _) (rget_w hr _))) ?_
    refine dm 31 ?_
    refine dq 45 (q_extract rfl rfl rfl) ?_
    refine dq 46 (q_extract rfl rfl rfl) ?_
    refine da 6 ?_
    refine da 7 ?_
    refine DOps.nil (by kernel_rfl) ?_
    refine AGo.seq ?_
    refine AGo.seq ?_
    refine AGo.region ?_
    refine am 47 ?_
    refine aq 48 (q_bin rfl rfl rfl rfl) ?_
    refine AOps.nil ?_
    refine AGo.split 48 rfl (fun hb4 => ?_) (fun hb4 => ?_)
    ·
     refine AGo.cond_true true rfl rfl ?_
     refine AGo.seq ?_
     refine AGo.region ?_
     refine am 49 ?_
     refine aq 50 (q_nilCheck rfl rfl rfl) ?_
     refine af 51 tok ?_
     refine AOps.w rfl rfl (o_store tok rfl rfl rfl rfl rfl rfl rfl rfl rfl (by decide) rfl z61q) ?_
     refine AOps.nil ?_
     refine AGo.ret ?_
     refine ⟨[], trivial, rfl, ?_⟩
     rw [mone3z ho hb4]
     exact HSub.put (HSub.put (HSub.put (HSub.put (HSub.none _) rfl) rfl) rfl) rfl
    ·
     refine AGo.cond_false false rfl rfl ?_
     refine AGo.skip ?_
     refine AGo.region ?_
     refine am 52 ?_
     refine af 53 tok ?_
     refine al 54 tok ?_
     refine am 55 ?_
     refine aq 56 (q_index_ref tok rfl rfl rfl rfl rfl rfl rfl (by rw [regCells_len, hlen]) rfl hd.1 (by have := hd.2; omega)) ?_
     refine AOps.w rfl rfl (o_store tok rfl rfl rfl rfl rfl rfl (by rw [regCells_len, hlen]) (rcell (by have := hd; omega)) rfl (by decide) rfl z61q) ?_
     refine AOps.nil ?_
     refine ⟨[], trivial, rfl, ?_⟩
     rw [mone3 ho hb4]
     exact HSub.put (HSub.put (HSub.put (HSub.put (HSub.none _) rfl) rfl) rfl) z41q
   ·
    refine AGo.cond_false false rfl rfl ?_
    refine AGo.seq ?_
    refine AGo.region ?_
    refine aq 58 (q_bin rfl rfl rfl rfl) ?_
    refine aa 57 ?_
    refine AOps.nil ?_
    refine AGo.split 57 rfl (fun hb5 => ?_) (fun hb5 => ?_)
    ·
     refine AGo.cond_true true rfl rfl ?_
     have ho : t.op = 4 := by simpa using hb5
     have hd := ht.d (by simp [setsOp, ho])
     have hbs := ht.base (by simp [ho])
     refine AGo.draw mix ?_
     refine dm 59 ?_
     refine df 60 tok ?_
     refine dl 61 tok ?_
     refine dm 62 ?_
     refine dq 63 (q_nilCheck rfl rfl rfl) ?_
     refine df 64 tok ?_
     refine dl 65 tok ?_
     refine df 66 tok ?_
     refine dl 67 tok ?_
     refine dq 68 (q_index_ref tok rfl rfl rfl rfl rfl rfl rfl (by rw [regCells_len, hm.len]) rfl hbs.1 (by have := hbs.2; omega)) ?_
     refine dq 69 (q_load tok rfl rfl rfl (.ptr _ _ _ _ _ _ _ _ rfl (by rw [regCells_len, hm.len]) (rcell (by have := hbs; have := hm.len; omega))) rfl) ?_
     refine dq 70 (q_index_ref tok rfl rfl rfl rfl rfl rfl rfl (by rw [regCells_len, hlen]) rfl hd.1 (by have := hd.2; omega)) ?_
     refine DOps.w rfl rfl (o_store tok rfl rfl rfl rfl rfl rfl (by rw [regCells_len, hlen]) (rcell (by have := hd; omega)) rfl (by decide) rfl z61q) ?_
     refine DOps.nil (by kernel_rfl) ?_
     refine ⟨[], trivial, rfl, ?_⟩
     rw [mone4 ho]
     exact HSub.put (HSub.put (HSub.put (HSub.put (HSub.none _) rfl) rfl) rfl) z41q
    ·
     refine AGo.cond_false false rfl rfl ?_
     refine AGo.seq ?_
     refine AGo.region ?_
     refine aq 72 (q_bin rfl rfl rfl rfl) ?_
     refine aa 71 ?_
     refine AOps.nil ?_
     refine AGo.split 71 rfl (fun hb6 => ?_) (fun hb6 => ?_)
     ·
      refine AGo.cond_true true rfl rfl ?_
      have ho : t.op = 5 := by simpa using hb6
      have ha := ht.a (by simp [use1, use2, ho])
      have hbs := ht.base (by simp [ho])
      refine AGo.draw mix ?_
      refine dm 73 ?_
      refine dq 74 (q_nilCheck rfl rfl rfl) ?_
      refine df 75 tok ?_
      refine dl 76 tok ?_
      refine df 77 tok ?_
      refine dl 78 tok ?_
      refine dm 79 ?_
      refine df 80 tok ?_
      refine dl 81 tok ?_
      refine dq 82 (q_index_ref tok rfl rfl rfl rfl rfl rfl rfl (by rw [regCells_len, hlen]) rfl ha.1 (by have := ha.2; omega)) ?_
      refine dq 83 (q_load tok rfl rfl rfl (.ptr _ _ _ _ _ _ _ _ rfl (by rw [regCells_len, hlen]) (rcell (by have := ha; omega))) rfl) ?_
      refine dq 84 (q_index_ref tok rfl rfl rfl rfl rfl rfl rfl (by rw [regCells_len, hm.len]) rfl hbs.1 (by have := hbs.2; omega)) ?_
      refine DOps.w rfl rfl (o_store tok rfl rfl rfl rfl rfl rfl (by rw [regCells_len, hm.len]) (rcell (by have := hbs; have := hm.len; omega)) rfl (by decide) rfl z61q) ?_
      refine DOps.nil (by kernel_rfl) ?_
      refine ⟨[], trivial, rfl, ?_⟩
      rw [mone5 ho]
      exact HSub.put (HSub.put (HSub.put (HSub.put (HSub.none _) rfl) z41q) rfl) rfl
     ·
      refine AGo.cond_false false rfl rfl ?_
      refine AGo.seq ?_
      refine AGo.seq ?_
      refine AGo.region ?_
      refine aq 86 (q_bin rfl rfl rfl rfl) ?_
      refine aa 85 ?_
      refine AOps.nil ?_
      refine AGo.split 85 rfl (fun hb7 => ?_) (fun hb7 => ?_)
      ·
       refine AGo.cond_true true rfl rfl ?_
       refine AGo.skip ?_
       refine AGo.cond_true true rfl rfl ?_
       refine AGo.seq ?_
       refine AGo.seq ?_
       refine AGo.draw mix ?_
       have ho : t.op = 6 ∨ t.op = 7 := by simp_all
       have har := ht.arr ho
       have ha := ht.a (by rcases ho with ho | ho <;> simp [use1, use2, ho])
       have hwa := rget_w hr t.a
       have hwa1 := hwa.1
       have hwa2 := hwa.2
       refine dm 88 ?_
       refine df 89 tok ?_
       refine dl 90 tok ?_
       refine dq 91 (q_index_ref tok rfl rfl rfl rfl rfl rfl rfl (by rw [regCells_len, hlen]) rfl ha.1 (by have := ha.2; omega)) ?_
       refine dq 92 (q_load tok rfl rfl rfl (.ptr _ _ _ _ _ _ _ _ rfl (by rw [regCells_len, hlen]) (rcell (by have := ha; omega))) rfl) ?_
       refine dq 93 (q_convTo tok rfl rfl rfl rfl rfl (r := rget regs t.a) (by rw [IntKind.wrap_u64]; omega)) ?_
       refine df 94 tok ?_
       refine dl 95 tok ?_
       refine dq 96 (q_convTo tok rfl rfl rfl rfl rfl (r := t.size) (by rw [IntKind.wrap_u64]; omega)) ?_
       refine dq 97 (q_bin rfl rfl rfl rfl) ?_
       refine DOps.nil (by kernel_rfl) ?_
       refine AGo.split 97 rfl (fun hb8 => ?_) (fun hb8 => ?_)
       ·
        refine AGo.cond_true true rfl rfl ?_
        have hsz := hb8
        refine AGo.seq ?_
        refine AGo.region ?_
        refine am 98 ?_
        refine aq 99 (q_nilCheck rfl rfl rfl) ?_
        refine af 100 tok ?_
        refine AOps.w rfl rfl (o_store tok rfl rfl rfl rfl rfl rfl rfl rfl rfl (by decide) rfl z61q) ?_
        refine AOps.nil ?_
        refine AGo.ret ?_
        refine ⟨[], trivial, rfl, ?_⟩
        rw [mone67z ho hsz]
        exact HSub.put (HSub.put (HSub.put (HSub.put (HSub.none _) rfl) rfl) rfl) rfl
       ·
        refine AGo.cond_false false rfl rfl ?_
        have hsz := hb8
        have hsz2 : rget regs t.a < t.size := by simpa using hb8
        have hidx : 0 ≤ t.base + rget regs t.a ∧ t.base + rget regs t.a < b.words.toNat := by omega
        refine AGo.skip ?_
        refine AGo.seq ?_
        refine AGo.region ?_
        refine af 101 tok ?_
        refine al 102 tok ?_
        refine aq 103 (q_bin rfl rfl rfl rfl) ?_
        refine AOps.nil ?_
        refine AGo.split 103 rfl (fun hb9 => ?_) (fun hb9 => ?_)
        ·
         refine AGo.cond_true true rfl rfl ?_
         have ho6 : t.op = 6 := by simpa using hb9
         have hd := ht.d (by simp [setsOp, ho6])
         refine AGo.draw mix ?_
         refine dm 104 ?_
         refine df 105 tok ?_
         refine dl 106 tok ?_
         refine dm 107 ?_
         refine dq 108 (q_nilCheck rfl rfl rfl) ?_
         refine df 109 tok ?_
         refine dl 110 tok ?_
         refine df 111 tok ?_
         refine dl 112 tok ?_
         refine dm 113 ?_
         refine df 114 tok ?_
         refine dl 115 tok ?_
         refine dq 116 (q_index_ref tok rfl rfl rfl rfl rfl rfl rfl (by rw [regCells_len, hlen]) rfl ha.1 (by have := ha.2; omega)) ?_
         refine dq 117 (q_load tok rfl rfl rfl (.ptr _ _ _ _ _ _ _ _ rfl (by rw [regCells_len, hlen]) (rcell (by have := ha; omega))) rfl) ?_
         refine dq 118 (q_convTo tok rfl rfl rfl rfl rfl (r := rget regs t.a) (by exact wrap_i64 (by omega) (by omega))) ?_
         refine dq 119 (q_bin (r := .int .i64 (t.base + rget regs t.a)) rfl rfl rfl z48q) ?_
         refine dq 120 (q_index_ref tok rfl rfl rfl rfl rfl rfl rfl (by rw [regCells_len, hm.len]) rfl hidx.1 (by have := hidx.2; omega)) ?_
         refine dq 121 (q_load tok rfl rfl rfl (.ptr _ _ _ _ _ _ _ _ rfl (by rw [regCells_len, hm.len]) (rcell (by have := hidx; have := hm.len; omega))) rfl) ?_
         refine dq 122 (q_index_ref tok rfl rfl rfl rfl rfl rfl rfl (by rw [regCells_len, hlen]) rfl hd.1 (by have := hd.2; omega)) ?_
         refine DOps.w rfl rfl (o_store tok rfl rfl rfl rfl rfl rfl (by rw [regCells_len, hlen]) (rcell (by have := hd; omega)) rfl (by decide) rfl z61q) ?_
         refine DOps.nil (by kernel_rfl) ?_
         refine ⟨[], trivial, rfl, ?_⟩
         rw [mone6 ho6 hsz]
         exact HSub.put (HSub.put (HSub.put (HSub.put (HSub.none _) rfl) rfl) rfl) z41q
        ·
         refine AGo.cond_false false rfl rfl ?_
         have ho7 : t.op = 7 := by have h := hb9; simp at h; omega
         have hb := ht.b (by simp [use2, ho7])
         refine AGo.draw mix ?_
         refine dm 123 ?_
         refine dq 124 (q_nilCheck rfl rfl rfl) ?_
         refine df 125 tok ?_
         refine dl 126 tok ?_
         refine df 127 tok ?_
         refine dl 128 tok ?_
         refine dm 129 ?_
         refine df 130 tok ?_
         refine dl 131 tok ?_
         refine dq 132 (q_index_ref tok rfl rfl rfl rfl rfl rfl rfl (by rw [regCells_len, hlen]) rfl ha.1 (by have := ha.2; omega)) ?_
         refine dq 133 (q_load tok rfl rfl rfl (.ptr _ _ _ _ _ _ _ _ rfl (by rw [regCells_len, hlen]) (rcell (by have := ha; omega))) rfl) ?_
         refine dq 134 (q_convTo tok rfl rfl rfl rfl rfl (r := rget regs t.a) (by exact wrap_i64 (by omega) (by omega))) ?_
         refine dq 135 (q_bin (r := .int .i64 (t.base + rget regs t.a)) rfl rfl rfl z48q) ?_
         refine dm 136 ?_
         refine df 137 tok ?_
         refine dl 138 tok ?_
         refine dq 139 (q_index_ref tok rfl rfl rfl rfl rfl rfl rfl (by rw [regCells_len, hlen]) rfl hb.1 (by have := hb.2; omega)) ?_
         refine dq 140 (q_load tok rfl rfl rfl (.ptr _ _ _ _ _ _ _ _ rfl (by rw [regCells_len, hlen]) (rcell (by have := hb; omega))) rfl) ?_
         refine dq 141 (q_index_ref tok rfl rfl rfl rfl rfl rfl rfl (by rw [regCells_len, hm.len]) rfl hidx.1 (by have := hidx.2; omega)) ?_
         refine DOps.w rfl rfl (o_store tok rfl rfl rfl rfl rfl rfl (by rw [regCells_len, hm.len]) (rcell (by have := hidx; have := hm.len; omega)) rfl (by decide) rfl z61q) ?_
         refine DOps.nil (by kernel_rfl) ?_
         refine ⟨[], trivial, rfl, ?_⟩
         rw [mone7 ho7 hsz]
         exact HSub.put (HSub.put (HSub.put (HSub.put (HSub.none _) rfl) z41q) rfl) rfl
      ·
       refine AGo.cond_false false rfl rfl ?_
       refine AGo.region ?_
       refine aq 87 (q_bin rfl rfl rfl rfl) ?_
       refine aa 85 ?_
       refine AOps.nil ?_
       refine AGo.split 85 rfl (fun hb10 => ?_) (fun hb10 => ?_)
       ·
        refine AGo.cond_true true rfl rfl ?_
        refine AGo.seq ?_
        refine AGo.seq ?_
        refine AGo.draw mix ?_
        have ho : t.op = 6 ∨ t.op = 7 := by simp_all
        have har := ht.arr ho
        have ha := ht.a (by rcases ho with ho | ho <;> simp [use1, use2, ho])
        have hwa := rget_w hr t.a
        have hwa1 := hwa.1
        have hwa2 := hwa.2
        refine dm 88 ?_
        refine df 89 tok ?_
        refine dl 90 tok ?_
        refine dq 91 (q_index_ref tok rfl rfl rfl rfl rfl rfl rfl (by rw [regCells_len, hlen]) rfl ha.1 (by have := ha.2; omega)) ?_
        refine dq 92 (q_load tok rfl rfl rfl (.ptr _ _ _ _ _ _ _ _ rfl (by rw [regCells_len, hlen]) (rcell (by have := ha; omega))) rfl) ?_
        refine dq 93 (q_convTo tok rfl rfl rfl rfl rfl (r := rget regs t.a) (by rw [IntKind.wrap_u64]; omega)) ?_
        refine df 94 tok ?_
        refine dl 95 tok ?_
        refine dq 96 (q_convTo tok rfl rfl rfl rfl rfl (r := t.size) (by rw [IntKind.wrap_u64]; omega)) ?_
        refine dq 97 (q_bin rfl rfl rfl rfl) ?_
        refine DOps.nil (by kernel_rfl) ?_
        refine AGo.split 97 rfl (fun hb11 => ?_) (fun hb11 => ?_)
        ·
         refine AGo.cond_true true rfl rfl ?_
         have hsz := hb11
         refine AGo.seq ?_
         refine AGo.region ?_
         refine am 98 ?_
         refine aq 99 (q_nilCheck rfl rfl rfl) ?_
         refine af 100 tok ?_
         refine AOps.w rfl rfl (o_store tok rfl rfl rfl rfl rfl rfl rfl rfl rfl (by decide) rfl z61q) ?_
         refine AOps.nil ?_
         refine AGo.ret ?_
         refine ⟨[], trivial, rfl, ?_⟩
         rw [mone67z ho hsz]
         exact HSub.put (HSub.put (HSub.put (HSub.put (HSub.none _) rfl) rfl) rfl) rfl
        ·
         refine AGo.cond_false false rfl rfl ?_
         have hsz := hb11
         have hsz2 : rget regs t.a < t.size := by simpa using hb11
         have hidx : 0 ≤ t.base + rget regs t.a ∧ t.base + rget regs t.a < b.words.toNat := by omega
         refine AGo.skip ?_
         refine AGo.seq ?_
         refine AGo.region ?_
         refine af 101 tok ?_
         refine al 102 tok ?_
         refine aq 103 (q_bin rfl rfl rfl rfl) ?_
         refine AOps.nil ?_
         refine AGo.split 103 rfl (fun hb12 => ?_) (fun hb12 => ?_)
         ·
          refine AGo.cond_true true rfl rfl ?_
          have ho6 : t.op = 6 := by simpa using hb12
          have hd := ht.d (by simp [setsOp, ho6])
          refine AGo.draw mix ?_
          refine dm 104 ?_
          refine df 105 tok ?_
          refine dl 106 tok ?_
          refine dm 107 ?_
          refine dq 108 (q_nilCheck rfl rfl rfl) ?_
          refine df 109 tok ?_
          refine dl 110 tok ?_
          refine df 111 tok ?_
          refine dl 112 tok ?_
          refine dm 113 ?_
          refine df 114 tok ?_
          refine dl 115 tok ?_
          refine dq 116 (q_index_ref tok rfl rfl rfl rfl rfl rfl rfl (by rw [regCells_len, hlen]) rfl ha.1 (by have := ha.2; omega)) ?_
          refine dq 117 (q_load tok rfl rfl rfl (.ptr _ _ _ _ _ _ _ _ rfl (by rw [regCells_len, hlen]) (rcell (by have := ha; omega))) rfl) ?_
          refine dq 118 (q_convTo tok rfl rfl rfl rfl rfl (r := rget regs t.a) (by exact wrap_i64 (by omega) (by omega))) ?_
          refine dq 119 (q_bin (r := .int .i64 (t.base + rget regs t.a)) rfl rfl rfl z48q) ?_
          refine dq 120 (q_index_ref tok rfl rfl rfl rfl rfl rfl rfl (by rw [regCells_len, hm.len]) rfl hidx.1 (by have := hidx.2; omega)) ?_
          refine dq 121 (q_load tok rfl rfl rfl (.ptr _ _ _ _ _ _ _ _ rfl (by rw [regCells_len, hm.len]) (rcell (by have := hidx; have := hm.len; omega))) rfl) ?_
          refine dq 122 (q_index_ref tok rfl rfl rfl rfl rfl rfl rfl (by rw [regCells_len, hlen]) rfl hd.1 (by have := hd.2; omega)) ?_
          refine DOps.w rfl rfl (o_store tok rfl rfl rfl rfl rfl rfl (by rw [regCells_len, hlen]) (rcell (by have := hd; omega)) rfl (by decide) rfl z61q) ?_
          refine DOps.nil (by kernel_rfl) ?_
          refine ⟨[], trivial, rfl, ?_⟩
          rw [mone6 ho6 hsz]
          exact HSub.put (HSub.put (HSub.put (HSub.put (HSub.none _) rfl) rfl) rfl) z41q
         ·
          refine AGo.cond_false false rfl rfl ?_
          have ho7 : t.op = 7 := by have h := hb12; simp at h; omega
          have hb := ht.b (by simp [use2, ho7])
          refine AGo.draw mix ?_
          refine dm 123 ?_
          refine dq 124 (q_nilCheck rfl rfl rfl) ?_
          refine df 125 tok ?_
          refine dl 126 tok ?_
          refine df 127 tok ?_
          refine dl 128 tok ?_
          refine dm 129 ?_
          refine df 130 tok ?_
          refine dl 131 tok ?_
          refine dq 132 (q_index_ref tok rfl rfl rfl rfl rfl rfl rfl (by rw [regCells_len, hlen]) rfl ha.1 (by have := ha.2; omega)) ?_
          refine dq 133 (q_load tok rfl rfl rfl (.ptr _ _ _ _ _ _ _ _ rfl (by rw [regCells_len, hlen]) (rcell (by have := ha; omega))) rfl) ?_
          refine dq 134 (q_convTo tok rfl rfl rfl rfl rfl (r := rget regs t.a) (by exact wrap_i64 (by omega) (by omega))) ?_
          refine dq 135 (q_bin (r := .int .i64 (t.base + rget regs t.a)) rfl rfl rfl z48q) ?_
          refine dm 136 ?_
          refine df 137 tok ?_
          refine dl 138 tok ?_
          refine dq 139 (q_index_ref tok rfl rfl rfl rfl rfl rfl rfl (by rw [regCells_len, hlen]) rfl hb.1 (by have := hb.2; omega)) ?_
          refine dq 140 (q_load tok rfl rfl rfl (.ptr _ _ _ _ _ _ _ _ rfl (by rw [regCells_len, hlen]) (rcell (by have := hb; omega))) rfl) ?_
          refine dq 141 (q_index_ref tok rfl rfl rfl rfl rfl rfl rfl (by rw [regCells_len, hm.len]) rfl hidx.1 (by have := hidx.2; omega)) ?_
          refine DOps.w rfl rfl (o_store tok rfl rfl rfl rfl rfl rfl (by rw [regCells_len, hm.len]) (rcell (by have := hidx; have := hm.len; omega)) rfl (by decide) rfl z61q) ?_
          refine DOps.nil (by kernel_rfl) ?_
          refine ⟨[], trivial, rfl, ?_⟩
          rw [mone7 ho7 hsz]
          exact HSub.put (HSub.put (HSub.put (HSub.put (HSub.none _) rfl) z41q) rfl) rfl
       ·
        refine AGo.cond_false false rfl rfl ?_
        refine AGo.seq ?_
        refine AGo.region ?_
        refine aq 143 (q_bin rfl rfl rfl rfl) ?_
        refine aa 142 ?_
        refine AOps.nil ?_
        refine AGo.split 142 rfl (fun hb13 => ?_) (fun hb13 => ?_)
        ·
         refine AGo.cond_true true rfl rfl ?_
         have ho : t.op = 8 := by simpa using hb13
         have hd := ht.d (by simp [setsOp, ho])
         refine AGo.seq ?_
         refine AGo.region ?_
         refine am 144 ?_
         refine af 145 tok ?_
         refine al 146 tok ?_
         refine aq 147 (q_index_ref tok rfl rfl rfl rfl rfl rfl rfl (by rw [regCells_len, hlen]) rfl hd.1 (by have := hd.2; omega)) ?_
         refine AOps.w rfl rfl (o_store tok rfl rfl rfl rfl rfl rfl (by rw [regCells_len, hlen]) (rcell (by have := hd; omega)) rfl (by decide) rfl z61q) ?_
         refine AOps.nil ?_
         refine AGo.seq ?_
         refine AGo.draw mix ?_
         refine dm 148 ?_
         refine dq 149 (q_nilCheck rfl rfl rfl) ?_
         refine df 150 tok ?_
         refine dl 151 tok ?_
         refine dm 152 ?_
         refine dq 153 (q_nilCheck rfl rfl rfl) ?_
         refine df 154 tok ?_
         refine dl 155 tok ?_
         refine dq 156 (q_len tok rfl rfl rfl rfl rfl) ?_
         refine dq 157 (q_bin rfl rfl rfl rfl) ?_
         refine DOps.nil (by kernel_rfl) ?_
         refine AGo.split 157 rfl (fun hb14 => ?_) (fun hb14 => ?_)
         ·
          refine AGo.cond_true true rfl rfl ?_
          have hrd : m.read < s.size := by have h := hb14; simp at h; omega
          refine AGo.seq ?_
          refine AGo.draw mix ?_
          refine dm 158 ?_
          refine df 159 tok ?_
          refine dl 160 tok ?_
          refine dm 161 ?_
          refine dq 162 (q_nilCheck rfl rfl rfl) ?_
          refine df 163 tok ?_
          refine dl 164 tok ?_
          refine dm 165 ?_
          refine dq 166 (q_nilCheck rfl rfl rfl) ?_
          refine df 167 tok ?_
          refine dl 168 tok ?_
          refine dq 169 (q_index_str (c := inAt s m.read) tok rfl rfl rfl rfl rfl (Int.natCast_nonneg _) (inAt_get hrd)) ?_
          refine dq 170 (q_convTo tok rfl rfl rfl rfl rfl (r := ((inAt s m.read).toNat : Int)) (by rw [IntKind.wrap_u32]; have := (byte_w (inAt s m.read)).2; omega)) ?_
          refine dq 171 (q_index_ref tok rfl rfl rfl rfl rfl rfl rfl (by rw [List.length_set, regCells_len, hlen]) rfl hd.1 (by have := hd.2; omega)) ?_
          refine DOps.w rfl rfl (o_store tok rfl rfl rfl rfl rfl rfl (by rw [List.length_set, regCells_len, hlen]) (get_set_self (rcell (by have := hd; omega))) rfl (by decide) rfl z61q) ?_
          refine DOps.nil (by kernel_rfl) ?_
          refine AGo.region ?_
          refine am 172 ?_
          refine aq 173 (q_nilCheck rfl rfl rfl) ?_
          refine af 174 tok ?_
          refine al 175 tok ?_
          refine aq 176 (q_inc rfl rfl hrd (by simp only [maxLen]; omega)) ?_
          refine aq 177 (q_nilCheck rfl rfl rfl) ?_
          refine af 178 tok ?_
          refine AOps.w rfl rfl (o_store tok rfl rfl rfl rfl rfl rfl rfl rfl rfl (by decide) rfl z61q) ?_
          refine AOps.nil ?_
          refine ⟨[], trivial, rfl, ?_⟩
          rw [mone8 ho hrd]
          exact HSub.put (HSub.put (HSub.put (HSub.put (HSub.none _) rfl) rfl) rfl) z41q
         ·
          refine AGo.cond_false false rfl rfl ?_
          have hrd : ¬ m.read < s.size := by have h := hb14; simp at h; omega
          refine AGo.skip ?_
          refine ⟨[], trivial, rfl, ?_⟩
          rw [mone8z ho hrd]
          exact HSub.put (HSub.put (HSub.put (HSub.put (HSub.none _) rfl) rfl) rfl) z41q
        ·
         refine AGo.cond_false false rfl rfl ?_
         refine AGo.seq ?_
         refine AGo.region ?_
         refine aq 180 (q_bin rfl rfl rfl rfl) ?_
         refine aa 179 ?_
         refine AOps.nil ?_
         refine AGo.split 179 rfl (fun hb15 => ?_) (fun hb15 => ?_)
         ·
          refine AGo.cond_true true rfl rfl ?_
          have ho : t.op = 9 := by simpa using hb15
          have ha := ht.a (by simp [use1, use2, ho])
          have hwa := rget_w hr t.a
          have hwa1 := hwa.1
          have hwa2 := hwa.2
          refine AGo.seq ?_
          refine AGo.seq ?_
          refine AGo.region ?_
          refine am 181 ?_
          refine aq 182 (q_nilCheck rfl rfl rfl) ?_
          refine af 183 tok ?_
          refine al 184 tok ?_
          refine aq 185 (q_len tok rfl rfl rfl rfl rfl) ?_
          refine aq 186 (q_bin rfl rfl rfl rfl) ?_
          refine AOps.nil ?_
          refine AGo.split 186 rfl (fun hb16 => ?_) (fun hb16 => ?_)
          ·
           refine AGo.cond_true true rfl rfl ?_
           have hou : m.out.length ≥ 65536 := by have h := hb16; simp [byteCells] at h; omega
           refine AGo.seq ?_
           refine AGo.region ?_
           refine am 187 ?_
           refine aq 188 (q_nilCheck rfl rfl rfl) ?_
           refine af 189 tok ?_
           refine AOps.w rfl rfl (o_store tok rfl rfl rfl rfl rfl rfl rfl rfl rfl (by decide) rfl z61q) ?_
           refine AOps.nil ?_
           refine AGo.ret ?_
           refine ⟨[], trivial, rfl, ?_⟩
           rw [mone9z ho hou]
           exact HSub.put (HSub.put (HSub.put (HSub.put (HSub.none _) rfl) rfl) rfl) rfl
          ·
           refine AGo.cond_false false rfl rfl ?_
           have hou : ¬ m.out.length ≥ 65536 := by have h := hb16; simp [byteCells] at h; omega
           refine AGo.skip ?_
           refine AGo.draw mix ?_
           refine dm 190 ?_
           refine dm 191 ?_
           refine dq 192 (q_nilCheck rfl rfl rfl) ?_
           refine df 193 tok ?_
           refine dl 194 tok ?_
           refine dm 195 ?_
           refine df 196 tok ?_
           refine dl 197 tok ?_
           refine dq 198 (q_index_ref tok rfl rfl rfl rfl rfl rfl rfl (by rw [regCells_len, hlen]) rfl ha.1 (by have := ha.2; omega)) ?_
           refine dq 199 (q_load tok rfl rfl rfl (.ptr _ _ _ _ _ _ _ _ rfl (by rw [regCells_len, hlen]) (rcell (by have := ha; omega))) rfl) ?_
           refine dq 200 (q_convTo tok rfl rfl rfl rfl rfl (wrap_byte hwa)) ?_
           refine dx 201 (o_lit' tok rfl rfl rfl rfl rfl rfl (by decide) rfl rfl rfl rfl rfl rfl) ?_
           refine dx 202 (o_append tok (n := m.out.length) (m := 1) rfl rfl rfl rfl rfl rfl rfl rfl rfl (by simp [byteCells]) rfl rfl (Nat.zero_lt_succ _) (.lst _ _) (by intro cs h; simp [partVals] at h; subst h; rfl) (fun _ cs h => by simp [partVals] at h; subst h; rfl) rfl (by simp [byteCells, partVals]; have := hm.out; omega) (by simp [byteCells, partVals]; simp only [maxLen]; have := hm.out; omega)) ?_
           refine dq 203 (q_nilCheck rfl rfl rfl) ?_
           refine df 204 tok ?_
           refine DOps.w rfl rfl (o_store tok rfl rfl rfl rfl rfl rfl rfl rfl rfl (by decide) rfl z61q) ?_
           refine DOps.nil (by kernel_rfl) ?_
           refine ⟨[], trivial, rfl, ?_⟩
           rw [mone9 ho hou]
           exact HSub.put (HSub.put (HSub.put (HSub.put (HSub.none _) (by first | rfl | exact congrArg (fun n => some (AObj.row false 9 [[.int .i64 b.words, funcsAV b.funcs, .str s, .int .i64 fuel, .ref 1 b.words.toNat 0 b.words.toNat, .ref 2 n 0 n, .int .i64 (m.read : Int), .int .i64 (m.steps : Int), .int .i64 m.fin]])) (by simp))) rfl) (by first | rfl | exact congrArg (fun es => some (AObj.row true 1 es)) (by simp [byteCells, partVals]; rfl))) rfl
         ·
          refine AGo.cond_false false rfl rfl ?_
          refine AGo.seq ?_
          refine AGo.region ?_
          refine aq 206 (q_bin rfl rfl rfl rfl) ?_
          refine aa 205 ?_
          refine AOps.nil ?_
          refine AGo.split 205 rfl (fun hb17 => ?_) (fun hb17 => ?_)
          ·
           refine AGo.cond_true true rfl rfl ?_
           have ho : t.op = 10 := by simpa using hb17
           have hcl := ht.call ho
           refine AGo.region ?_
           refine am 207 ?_
           refine af 208 tok ?_
           refine al 209 tok ?_
           refine ax 210 (o_call (hc := (mheap hNew b s fuel m)) (hw := (mheap hNone b s fuel (call t.base m))) [2, 1, 0] [(0, (.row false 9 [runCells b s fuel (call t.base m)])), (1, (.row true 1 (regCells ((call t.base m)).words))), (2, (.row true 1 (byteCells ((call t.base m)).out)))] rfl Try.func37 (by kernel_rfl) rfl rfl rfl ⟨⟨_, rfl, rfl⟩, ⟨_, rfl, rfl⟩, ⟨_, rfl, rfl⟩, trivial⟩ rfl (hres_cons rfl (hres_cons rfl (hres_cons rfl (hres_nil _)))) ⟨⟨_, rfl, rfl, rfl⟩, ⟨_, rfl, rfl, rfl⟩, ⟨_, rfl, rfl, rfl⟩, trivial⟩ rfl (hcall t.base hcl.1 hcl.2)) ?_
           refine AOps.nil ?_
           refine ⟨[], trivial, rfl, ?_⟩
           rw [mone10 ho]
           exact HSub.put (HSub.put (HSub.put (HSub.put (HSub.none _) rfl) rfl) rfl) rfl
          ·
           refine AGo.cond_false false rfl rfl ?_
           refine AGo.skip ?_
           exact absurd ht.op (by simp_all; omega)

end Go.Proofs.Ytjmjmedjjbginaa.Sv

namespace Go.Proofs.Ytjmjmedjjbginaa.Sv
open Go

set_option maxRecDepth 100000 in
theorem fun_step (b : Blocks) (s : ByteArray) (fuel : Int) (call : Int → Mach → Mach) (i : Int) (f : BFunc) (m : Mach) (hfu : fuel ≤ 9223372036854775807) (hs : s.size ≤ 9223372036854775807) (hbw : b.words ≤ 1048576) (hf : b.funcs[i.toNat]? = some f) (hi : 0 ≤ i) (hone : f.one i b.words = true)
    (hfw : ∀ x ∈ f.blocks, insW x.ins) (hfl : ∀ x ∈ f.blocks, x.ins.length ≤ maxLen)
    (hcall : ∀ (j : Int) (m : Mach), 0 ≤ j → j < i → m.fin = 0 → m.good b.words.toNat → ACall Try.prog 37 [.ptr 0 1 0 0, .int .i64 j] (mheap hNew b s fuel m) (fun r h' => r = .tup [] ∧ HSub (mheap hNone b s fuel (call j m)) h'))
    (hcg : ∀ i m, m.good b.words.toNat → (call i m).good b.words.toNat) (hcs : ∀ i m, m.steps ≤ (call i m).steps) (hm : m.good b.words.toNat) (h0 : m.fin = 0) : ACall Try.prog 37 [.ptr 0 1 0 0, .int .i64 i] (mheap hNew b s fuel m) (fun r h' => r = .tup [] ∧ HSub (mheap hNone b s fuel (mblk call s fuel f (fuel.toNat + 1) 0 (List.replicate f.regs.toNat 0) m)) h') := by
 have hsp := one_spec hone
 refine ACall.of_body (n := 76) tok Try.func37 rfl rfl ?_
 refine AGo.seq ?_
 refine AGo.region ?_
 refine am 9 ?_
 refine aq 10 (q_nilCheck rfl rfl rfl) ?_
 refine af 11 tok ?_
 refine af 12 tok ?_
 refine al 13 tok ?_
 refine am 14 ?_
 refine aq 15 (q_index_lst tok rfl rfl rfl rfl rfl rfl hi (idx_map2 hf) rfl) ?_
 refine al 16 tok ?_
 refine ax 4 (o_alloc tok 3 rfl rfl rfl rfl (Nat.zero_lt_succ _) rfl) ?_
 refine AOps.w rfl rfl (o_store tok rfl rfl rfl rfl rfl rfl rfl rfl rfl (by decide) rfl z61q) ?_
 refine AOps.nil ?_
 refine AGo.seq ?_
 refine AGo.region ?_
 refine af 17 tok ?_
 refine al 18 tok ?_
 refine ax 19 (o_makeSlice tok (n := f.regs.toNat) (m := f.regs.toNat) 4 true rfl rfl rfl (by have := hsp.1; omega) (by have := hsp.1; omega) rfl rfl rfl rfl rfl (Nat.zero_lt_succ _) rfl (Nat.le_refl _) (by show 4 * f.regs.toNat ≤ _; have := hsp.2.1; omega) (by simp only [maxLen]; have := hsp.2.1; omega)) ?_
 refine aa 5 ?_
 refine AOps.nil ?_
 refine AGo.seq ?_
 refine AGo.region ?_
 refine aa 6 ?_
 refine AOps.nil ?_
 refine AGo.block ?_
 refine AGo.loopD (γ := FG) 5 (fun q => ⟨76, (eput (eput (eput (eput eNew 0 (.ptr 0 1 0 0)) 4 (.ptr 3 1 0 0)) 5 (.ref 4 f.regs.toNat 0 f.regs.toNat)) 6 (.int .i64 q.i)), (hput (hput (hput (hput (hput (hFrom 5) 0 (.row false 9 [runCells b s fuel q.m])) 1 (.row true 1 (regCells (q.m).words))) 2 (.row true 1 (byteCells (q.m).out))) 3 (.row false 2 [f.cells])) 4 (.row true 1 (regCells q.regs)))⟩) (fun q => FInv call s fuel f b.words.toNat f.regs.toNat (mblk call s fuel f (fuel.toNat + 1) 0 (List.replicate f.regs.toNat 0) m) q) (fun q => q.g) ⟨0, List.replicate f.regs.toNat 0, m, fuel.toNat + 1⟩ (Sub.mk' z52q z16q) (FInv.first hm h0 hsp.2.2.1) (fun _ => hput_free (hput_free (hput_free (hput_free (hput_free (fun b hb => hFrom_free hb) rfl) rfl) rfl) rfl) rfl) ?_
 intro q hF
 refine AGo.seq ?_
 refine AGo.seq ?_
 refine AGo.region ?_
 refine am 20 ?_
 refine aq 21 (q_nilCheck rfl rfl rfl) ?_
 refine af 22 tok ?_
 refine al 23 tok ?_
 refine aq 24 (q_bin rfl rfl rfl rfl) ?_
 refine AOps.nil ?_
 refine AGo.split 24 rfl (fun hb1 => ?_) (fun hb1 => ?_)
 ·
  refine AGo.cond_true true rfl rfl ?_
  obtain ⟨k, hk⟩ := get_of_lt (l := f.blocks) (k := q.i.toNat) (by have := hF.i; omega)
  have hkm := List.mem_of_getElem? hk
  have hks := hsp.2.2.2 k hkm
  refine AGo.skip ?_
  refine AGo.block ?_
  refine AGo.seq ?_
  refine AGo.region ?_
  refine af 25 tok ?_
  refine al 26 tok ?_
  refine am 27 ?_
  refine aq 28 (q_index_lst tok rfl rfl rfl rfl rfl rfl hF.i.1 (idx_map2 hk) rfl) ?_
  refine al 29 tok ?_
  refine ax 7 (o_alloc tok 5 rfl rfl rfl rfl (Nat.zero_lt_succ _) rfl) ?_
  refine AOps.w rfl rfl (o_store tok rfl rfl rfl rfl rfl rfl rfl rfl rfl (by decide) rfl z61q) ?_
  refine AOps.nil ?_
  refine AGo.seq ?_
  refine AGo.seq ?_
  refine AGo.region ?_
  refine aa 8 ?_
  refine AOps.nil ?_
  refine AGo.block ?_
  refine AGo.loopD (γ := IG) 6 (fun r => ⟨76, (eput (eput (eput (eput (eput (eput eNew 0 (.ptr 0 1 0 0)) 4 (.ptr 3 1 0 0)) 5 (.ref 4 f.regs.toNat 0 f.regs.toNat)) 6 (.int .i64 q.i)) 7 (.ptr 5 1 0 0)) 8 (.int .i64 (r.j : Int))), (hput (hput (hput (hput (hput (hput (hFrom 6) 0 (.row false 9 [runCells b s fuel r.m])) 1 (.row true 1 (regCells (r.m).words))) 2 (.row true 1 (byteCells (r.m).out))) 3 (.row false 2 [f.cells])) 4 (.row true 1 (regCells r.regs))) 5 (.row false 5 [k.cells]))⟩) (fun r => IInv call s fuel k q b.words.toNat f.regs.toNat r) (fun r => k.ins.length - r.j) ⟨0, q.regs, q.m⟩ (Sub.mk' z52q z19q) hF.start (fun _ => hput_free (hput_free (hput_free (hput_free (hput_free (hput_free (fun b hb => hFrom_free hb) rfl) rfl) rfl) rfl) rfl) rfl) ?_
  intro r hI
  refine AGo.seq ?_
  refine AGo.seq ?_
  refine AGo.region ?_
  refine am 30 ?_
  refine af 31 tok ?_
  refine al 32 tok ?_
  refine aq 33 (q_len tok rfl rfl rfl rfl rfl) ?_
  refine aq 34 (q_bin rfl rfl rfl rfl) ?_
  refine AOps.nil ?_
  refine AGo.split 34 rfl (fun hb2 => ?_) (fun hb2 => ?_)
  ·
   refine AGo.cond_true true rfl rfl ?_
   have hjl : r.j < k.ins.length := lt_of_idx hb2
   obtain ⟨u, hu⟩ := get_of_lt hjl
   have hum := List.mem_of_getElem? hu
   have hut := tacIn_of (hks.2 u hum)
   have huw := hfw k hkm u hum
   refine AGo.skip ?_
   refine AGo.seq ?_
   refine AGo.block ?_
   refine AGo.seq ?_
   refine AGo.seq ?_
   refine AGo.region ?_
   refine am 37 ?_
   refine ax 38 (o_call (hc := (mheap hNew b s fuel r.m)) (hw := (mheap hNone b s fuel (mstep fuel r.m).2)) [2, 1, 0] [(0, (.row false 9 [runCells b s fuel (mstep fuel r.m).2])), (1, (.row true 1 (regCells ((mstep fuel r.m).2).words))), (2, (.row true 1 (byteCells ((mstep fuel r.m).2).out)))] rfl Try.func58 (by kernel_rfl) rfl rfl rfl ⟨⟨_, rfl, rfl⟩, ⟨_, rfl, rfl⟩, ⟨_, rfl, rfl⟩, trivial⟩ rfl (hres_cons rfl (hres_cons rfl (hres_cons rfl (hres_nil _)))) ⟨⟨_, rfl, rfl, rfl⟩, ⟨_, rfl, rfl, rfl⟩, ⟨_, rfl, rfl, rfl⟩, trivial⟩ rfl (step_ok b s fuel r.m hfu)) ?_
   refine aq 39 (q_not rfl rfl) ?_
   refine AOps.nil ?_
   refine AGo.split 39 rfl (fun hb3 => ?_) (fun hb3 => ?_)
   ·
    refine AGo.cond_true true rfl rfl ?_
    have hst : (mstep fuel r.m).1 = false := by simpa using hb3
    refine AGo.ret ?_
    refine ⟨[], trivial, rfl, ?_⟩
    rw [show (mblk call s fuel f (fuel.toNat + 1) 0 (List.replicate f.regs.toNat 0) m) = _ from fin_A hF hk hI hu hst]
    exact HSub.put (HSub.put (HSub.put (HSub.none _) rfl) rfl) rfl
   ·
    refine AGo.cond_false false rfl rfl ?_
    have hst : (mstep fuel r.m).1 = true := by simpa using hb3
    have hsf : (mstep fuel r.m).2.fin = 0 := by rw [(mstep_true hst).2]; exact hI.fin
    refine AGo.skip ?_
    refine AGo.seq ?_
    refine AGo.region ?_
    refine am 40 ?_
    refine af 41 tok ?_
    refine al 42 tok ?_
    refine am 43 ?_
    refine aq 44 (q_index_lst tok rfl rfl rfl rfl rfl rfl (Int.natCast_nonneg _) (idx_map (by assumption)) rfl) ?_
    refine al 45 tok ?_
    refine am 46 ?_
    refine ax 47 (o_call (hc := (hput (mheap hNew b s fuel (mstep fuel r.m).2) 4 (.row true 1 (regCells r.regs)))) (hw := (hput (mheap hNone b s fuel (mone call s u r.regs (mstep fuel r.m).2).2) 4 (.row true 1 (regCells (mone call s u r.regs (mstep fuel r.m).2).1)))) [4, 2, 1, 0] [(0, (.row false 9 [runCells b s fuel (mone call s u r.regs (mstep fuel r.m).2).2])), (1, (.row true 1 (regCells ((mone call s u r.regs (mstep fuel r.m).2).2).words))), (2, (.row true 1 (byteCells ((mone call s u r.regs (mstep fuel r.m).2).2).out))), (4, (.row true 1 (regCells (mone call s u r.regs (mstep fuel r.m).2).1)))] rfl Try.func59 (by kernel_rfl) rfl rfl rfl ⟨⟨_, rfl, rfl⟩, ⟨_, rfl, rfl⟩, ⟨_, rfl, rfl⟩, ⟨_, rfl, rfl⟩, trivial⟩ rfl (hres_cons rfl (hres_cons rfl (hres_cons rfl (hres_cons rfl (hres_nil _))))) ⟨⟨_, rfl, rfl, rfl⟩, ⟨_, rfl, rfl, rfl⟩, ⟨_, rfl, rfl, rfl⟩, ⟨_, rfl, rfl, rfl⟩, trivial⟩ rfl (one_okR b s fuel call u r.regs (mstep fuel r.m).2 i.toNat f.regs.toNat hut hI.regs hI.len (mstep_good hI.good) hsf hbw hs huw (fun j h1 h2 => hcall j _ h1 (by omega) hsf (mstep_good hI.good)))) ?_
    refine AOps.nil ?_
    refine AGo.seq ?_
    refine AGo.region ?_
    refine am 48 ?_
    refine aq 49 (q_nilCheck rfl rfl rfl) ?_
    refine af 50 tok ?_
    refine al 51 tok ?_
    refine aq 52 (q_bin rfl rfl rfl rfl) ?_
    refine AOps.nil ?_
    refine AGo.split 52 rfl (fun hb4 => ?_) (fun hb4 => ?_)
    ·
     refine AGo.cond_true true rfl rfl ?_
     have hnz := hb4
     refine AGo.ret ?_
     refine ⟨[], trivial, rfl, ?_⟩
     rw [show (mblk call s fuel f (fuel.toNat + 1) 0 (List.replicate f.regs.toNat 0) m) = _ from fin_B hF hk hI hu hst hnz]
     exact HSub.put (HSub.put (HSub.put (HSub.none _) rfl) rfl) rfl
    ·
     refine AGo.cond_false false rfl rfl ?_
     have hnz := hb4
     refine AGo.skip ?_
     refine AGo.region ?_
     refine am 35 ?_
     refine aq 36 (q_inc rfl rfl hjl (hfl k hkm)) ?_
     refine aa 8 ?_
     refine AOps.nil ?_
     exact ⟨⟨r.j + 1, (mone call s u r.regs (mstep fuel r.m).2).1, (mone call s u r.regs (mstep fuel r.m).2).2⟩, Drop.mk' z45q z34q, (hI.next hcg hcs hu huw hst hnz), (by show k.ins.length - (r.j + 1) < k.ins.length - r.j; omega)⟩
  ·
   refine AGo.cond_false false rfl rfl ?_
   have hge := ge_of_idx hb2
   refine AGo.exit ?_
   refine AGo.seq ?_
   refine AGo.seq ?_
   refine AGo.region ?_
   refine am 53 ?_
   refine ax 54 (o_call (hc := (mheap hNew b s fuel r.m)) (hw := (mheap hNone b s fuel (mstep fuel r.m).2)) [2, 1, 0] [(0, (.row false 9 [runCells b s fuel (mstep fuel r.m).2])), (1, (.row true 1 (regCells ((mstep fuel r.m).2).words))), (2, (.row true 1 (byteCells ((mstep fuel r.m).2).out)))] rfl Try.func58 (by kernel_rfl) rfl rfl rfl ⟨⟨_, rfl, rfl⟩, ⟨_, rfl, rfl⟩, ⟨_, rfl, rfl⟩, trivial⟩ rfl (hres_cons rfl (hres_cons rfl (hres_cons rfl (hres_nil _)))) ⟨⟨_, rfl, rfl, rfl⟩, ⟨_, rfl, rfl, rfl⟩, ⟨_, rfl, rfl, rfl⟩, trivial⟩ rfl (step_ok b s fuel r.m hfu)) ?_
   refine aq 55 (q_not rfl rfl) ?_
   refine am 56 ?_
   refine AOps.split 56 rfl (fun hb5 => ?_) (fun hb5 => ?_)
   ·
    refine ak 57 ?_
    refine ak 58 ?_
    refine ak 59 ?_
    refine aq 60 (q_pick_true true rfl rfl rfl rfl) ?_
    refine AOps.nil ?_
    refine AGo.cond_true true rfl rfl ?_
    refine AGo.ret ?_
    refine ⟨[], trivial, rfl, ?_⟩
    rw [show (mblk call s fuel f (fuel.toNat + 1) 0 (List.replicate f.regs.toNat 0) m) = _ from fin_C hF hk hI hge (by first | exact .inl (by simpa using ‹(!(mstep fuel r.m).1) = true›) | exact .inr ‹_›)]
    exact HSub.put (HSub.put (HSub.put (HSub.none _) rfl) rfl) rfl
   ·
    have hst : (mstep fuel r.m).1 = true := by simpa using hb5
    refine af 57 tok ?_
    refine al 58 tok ?_
    refine aq 59 (q_bin rfl rfl rfl rfl) ?_
    refine aq 60 (q_pick_false false rfl rfl rfl rfl) ?_
    refine AOps.nil ?_
    refine AGo.split 60 rfl (fun hb6 => ?_) (fun hb6 => ?_)
    ·
     refine AGo.cond_true true rfl rfl ?_
     refine AGo.ret ?_
     refine ⟨[], trivial, rfl, ?_⟩
     rw [show (mblk call s fuel f (fuel.toNat + 1) 0 (List.replicate f.regs.toNat 0) m) = _ from fin_C hF hk hI hge (by first | exact .inl (by simpa using ‹(!(mstep fuel r.m).1) = true›) | exact .inr ‹_›)]
     exact HSub.put (HSub.put (HSub.put (HSub.none _) rfl) rfl) rfl
    ·
     refine AGo.cond_false false rfl rfl ?_
     refine AGo.skip ?_
     refine AGo.seq ?_
     refine AGo.region ?_
     refine af 61 tok ?_
     refine al 62 tok ?_
     refine aa 6 ?_
     refine AOps.nil ?_
     refine AGo.seq ?_
     refine AGo.region ?_
     refine af 63 tok ?_
     refine al 64 tok ?_
     refine aq 65 (q_bin rfl rfl rfl rfl) ?_
     refine am 66 ?_
     refine AOps.split 66 rfl (fun hb7 => ?_) (fun hb7 => ?_)
     ·
      have hv := ends_v hks.1 hb7
      refine am 67 ?_
      refine af 68 tok ?_
      refine al 69 tok ?_
      refine aq 70 (q_index_ref tok rfl rfl rfl rfl rfl rfl rfl (by rw [regCells_len, hI.len]) rfl hv.1 (by have := hv.2; omega)) ?_
      refine aq 71 (q_load tok rfl rfl rfl (.ptr _ _ _ _ _ _ _ _ rfl (by rw [regCells_len, hI.len]) (rcell (by have := hv; have := hI.len; omega))) rfl) ?_
      refine aq 72 (q_bin rfl rfl rfl rfl) ?_
      refine aq 73 (q_pick_true true rfl rfl rfl rfl) ?_
      refine AOps.nil ?_
      refine AGo.split 73 rfl (fun hb8 => ?_) (fun hb8 => ?_)
      ·
       refine AGo.cond_true true rfl rfl ?_
       refine AGo.region ?_
       refine af 74 tok ?_
       refine al 75 tok ?_
       refine aa 6 ?_
       refine AOps.nil ?_
       have hft : (k.fin == 3) = false := by simp_all
       have hnx := hF.next hk hI hge hst hft (ends_next hks.1 hft r.regs)
       exact ⟨⟨k.next r.regs, r.regs, (mstep fuel r.m).2, q.g - 1⟩, Drop.mk' z33q z34q, hnx.1, hnx.2⟩
      ·
       refine AGo.cond_false false rfl rfl ?_
       refine AGo.skip ?_
       have hft : (k.fin == 3) = false := by simp_all
       have hnx := hF.next hk hI hge hst hft (ends_next hks.1 hft r.regs)
       exact ⟨⟨k.next r.regs, r.regs, (mstep fuel r.m).2, q.g - 1⟩, Drop.mk' z33q z34q, hnx.1, hnx.2⟩
     ·
      refine ak 67 ?_
      refine ak 68 ?_
      refine ak 69 ?_
      refine ak 70 ?_
      refine ak 71 ?_
      refine ak 72 ?_
      refine aq 73 (q_pick_false false rfl rfl rfl rfl) ?_
      refine AOps.nil ?_
      refine AGo.cond_false false rfl rfl ?_
      refine AGo.skip ?_
      have hft : (k.fin == 3) = false := by simp_all
      have hnx := hF.next hk hI hge hst hft (ends_next hks.1 hft r.regs)
      exact ⟨⟨k.next r.regs, r.regs, (mstep fuel r.m).2, q.g - 1⟩, Drop.mk' z33q z34q, hnx.1, hnx.2⟩
 ·
  refine AGo.cond_false false rfl rfl ?_
  have hbad := hb1
  refine AGo.exit ?_
  exact absurd hF.fin (by simpa using hbad)

theorem fun_ok (b : Blocks) (s : ByteArray) (fuel : Int) (hfu : fuel ≤ 9223372036854775807) (hs : s.size ≤ 9223372036854775807) (hb : b.right = true) (hbw : b.insW) (hbl : ∀ f ∈ b.funcs, ∀ x ∈ f.blocks, x.ins.length ≤ maxLen) :
    ∀ (n : Nat) (i : Int) (m : Mach), 0 ≤ i → i < n → i < b.funcs.length → m.fin = 0 → m.good b.words.toNat → ACall Try.prog 37 [.ptr 0 1 0 0, .int .i64 i] (mheap hNew b s fuel m) (fun r h' => r = .tup [] ∧ HSub (mheap hNone b s fuel (mfun b s fuel n i m)) h')
  | 0, i, m, h1, h2, _, _, _ => absurd h2 (by omega)
  | n + 1, i, m, h1, h2, h3, h4, h5 => by
    obtain ⟨f, hf⟩ := get_of_lt (l := b.funcs) (k := i.toNat) (by omega)
    have hr := right_spec hb
    have hfm := List.mem_of_getElem? hf
    have hone : f.one i b.words = true := by
      have := hr.2.2.2 i.toNat f hf
      rwa [Int.toNat_of_nonneg h1] at this
    have key := fun_step b s fuel (mfun b s fuel n) i f m hfu hs hr.2.1 hf h1 hone (hbw f hfm) (hbl f hfm)
      (fun j m' j1 j2 j3 j4 => fun_ok b s fuel hfu hs hb hbw hbl n j m' j1 (by omega) (by omega) j3 j4) (fun j m' hg => mfun_good hbw n j m' hg) (fun j m' => mfun_steps n j m') h5 h4
    have e : mfun b s fuel (n + 1) i m = mblk (mfun b s fuel n) s fuel f (fuel.toNat + 1) 0 (List.replicate f.regs.toNat 0) m := by
      rw [mfun, hf]
    rw [e]; exact key

end Go.Proofs.Ytjmjmedjjbginaa.Sv

namespace Go.Proofs.Ytjmjmedjjbginaa.Sv
open Go

set_option maxRecDepth 100000 in
theorem run_ok (b : Blocks) (s : ByteArray) (fuel : Int) (hfu : fuel ≤ 9223372036854775807) (hs : s.size ≤ 9223372036854775807) (hb : b.right = true) (hbw : b.insW) (hbl : ∀ f ∈ b.funcs, ∀ x ∈ f.blocks, x.ins.length ≤ maxLen) : APure Try.prog 22 [.agg b.cells, .str s, .int .i64 fuel] (fun r => r = .agg (resCells (mrun b s fuel))) := by
 have hr := right_spec hb
 have hne : 0 < b.funcs.length := List.length_pos_iff.2 hr.2.2.1
 refine APure.of_body (n := 51) tok Try.func22 rfl rfl ?_
 refine AGo.seq ?_
 refine AGo.slot 0 rfl (fun H ι v => rel_prog) (fun hfit => ?_)
 refine AGo.region ?_
 refine ax 3 (o_box (sz := 2) 3 rfl rfl rfl rfl (Nat.zero_lt_succ _) rfl) ?_
 refine ax 6 (o_alloc tok 4 rfl rfl rfl rfl (Nat.zero_lt_succ _) rfl) ?_
 refine AOps.nil ?_
 refine AGo.seq ?_
 refine AGo.seq ?_
 refine AGo.region ?_
 refine af 8 tok ?_
 refine al 9 tok ?_
 refine aq 10 (q_len tok rfl rfl rfl rfl rfl) ?_
 refine aq 11 (q_bin rfl rfl rfl rfl) ?_
 refine AOps.nil ?_
 refine AGo.split 11 rfl (fun hb1 => ?_) (fun hb1 => ?_)
 ·
  refine AGo.cond_true true rfl rfl ?_
  refine AGo.seq ?_
  refine AGo.region ?_
  refine aq 12 (q_build tok rfl rfl rfl rfl rfl (by decide) rfl rfl rfl) ?_
  refine AOps.w rfl rfl (o_store tok rfl rfl rfl rfl rfl rfl rfl rfl rfl (by decide) rfl z61q) ?_
  refine AOps.nil ?_
  refine AGo.ret ?_
  exact absurd hne (by have h := hb1; simp [funcsAV] at h; simp [h])
 ·
  refine AGo.cond_false false rfl rfl ?_
  refine AGo.skip ?_
  refine AGo.seq ?_
  refine AGo.join (γ := Unit) (fun _u => ⟨51, (eput (eput (eput (eput (eput eNew 0 (.agg b.cells)) 1 (.str s)) 3 (.ptr 3 1 0 0)) 6 (.ptr 4 1 0 0)) 2 (.int .i64 (fuel0 fuel))), (hput (hput (hput (hput (hput (hFrom 5) 3 (.row false 2 [b.cells])) 4 (.row false 3 [[.int .i64 0, .str .empty, .int .i64 0]])) 0 .free) 1 .free) 2 .free)⟩) (fun _u => True) ?_ ?_
  ·
   refine AGo.seq ?_
   refine AGo.region ?_
   refine am 13 ?_
   refine aq 14 (q_bin rfl rfl rfl rfl) ?_
   refine AOps.nil ?_
   refine AGo.split 14 rfl (fun hb2 => ?_) (fun hb2 => ?_)
   ·
    refine AGo.cond_true true rfl rfl ?_
    refine AGo.region ?_
    refine aa 2 ?_
    refine AOps.nil ?_
    exact ⟨(), Sub.mk' (by repeat (first | exact ESub.new _ | refine ESub.put ?_ (by first | rfl | exact congrArg (fun (n : Int) => some (AV.int .i64 n)) (by simp [fuel0, *])))) z19q, trivial⟩
   ·
    refine AGo.cond_false false rfl rfl ?_
    refine AGo.skip ?_
    exact ⟨(), Sub.mk' (by repeat (first | exact ESub.new _ | refine ESub.put ?_ (by first | rfl | exact congrArg (fun (n : Int) => some (AV.int .i64 n)) (by simp [fuel0, *])))) z19q, trivial⟩
  intro _u _
  refine AGo.seq ?_
  have hfu0 : fuel0 fuel ≤ 9223372036854775807 := by unfold fuel0; cases decide (fuel < 0) <;> simp <;> omega
  have m0_good : (m0 b).good b.words.toNat := ⟨by simp [m0], allR_rep _, by simp [m0]⟩
  refine AGo.draw mix ?_
  refine dl 15 tok ?_
  refine dm 16 ?_
  refine dm 17 ?_
  refine df 18 tok ?_
  refine dl 19 tok ?_
  refine dx 20 (o_makeSlice tok (n := b.words.toNat) (m := b.words.toNat) 1 true rfl rfl rfl (by have := hr.1; omega) (by have := hr.1; omega) rfl rfl rfl rfl rfl (Nat.zero_lt_succ _) rfl (Nat.le_refl _) (by show 4 * b.words.toNat ≤ _; have := hr.2.1; omega) (by simp only [maxLen]; have := hr.2.1; omega)) ?_
  refine dq 21 (q_build tok rfl rfl rfl rfl rfl (by decide) rfl rfl rfl) ?_
  refine dx 22 (o_box (sz := 9) 0 rfl rfl rfl rfl (Nat.zero_lt_succ _) rfl) ?_
  refine da 7 ?_
  refine DOps.nil (by kernel_rfl) ?_
  refine AGo.seq ?_
  refine AGo.ghost (.dryCell 0 0 5 2 1 true rfl rfl rfl rfl rfl (by decide)) ?_
  refine AGo.sub (s' := ⟨51, (eput (eput (eput (eput (eput eNew 0 (.agg b.cells)) 1 (.str s)) 3 (.ptr 3 1 0 0)) 6 (.ptr 4 1 0 0)) 7 (.ptr 0 1 0 0)), (hput (hput (hput (hput (hput hNone 0 (.row false 9 [runCells b s (fuel0 fuel) (m0 b)])) 1 (.row true 1 (regCells ((m0 b)).words))) 2 (.row true 1 (byteCells ((m0 b)).out))) 3 (.row false 2 [b.cells])) 4 (.row false 3 [[.int .i64 0, .str .empty, .int .i64 0]]))⟩) (Sub.mk' z52q z16q) ?_
  refine AGo.region ?_
  have hmx := hfit.1
  refine am 23 ?_
  refine af 24 tok ?_
  refine al 25 tok ?_
  refine aq 26 (q_len tok rfl rfl rfl rfl rfl) ?_
  refine aq 27 (q_bin (r := .int .i64 ((b.funcs.length : Int) - 1)) rfl rfl rfl (by simp only [evalBin, evalInt, isShift, cond_false, if_true]; rw [List.length_map, wrap_i64 (by omega) (by simp only [maxLen] at hmx; omega)])) ?_
  refine ax 28 (o_call (hc := (mheap hNew b s (fuel0 fuel) (m0 b))) (hw := (mheap hNone b s (fuel0 fuel) (mfun b s (fuel0 fuel) b.funcs.length ((b.funcs.length : Int) - 1) (m0 b)))) [2, 1, 0] [(0, (.row false 9 [runCells b s (fuel0 fuel) (mfun b s (fuel0 fuel) b.funcs.length ((b.funcs.length : Int) - 1) (m0 b))])), (1, (.row true 1 (regCells ((mfun b s (fuel0 fuel) b.funcs.length ((b.funcs.length : Int) - 1) (m0 b))).words))), (2, (.row true 1 (byteCells ((mfun b s (fuel0 fuel) b.funcs.length ((b.funcs.length : Int) - 1) (m0 b))).out)))] rfl Try.func37 (by kernel_rfl) rfl rfl rfl ⟨⟨_, rfl, rfl⟩, ⟨_, rfl, rfl⟩, ⟨_, rfl, rfl⟩, trivial⟩ rfl (hres_cons rfl (hres_cons rfl (hres_cons rfl (hres_nil _)))) ⟨⟨_, rfl, rfl, rfl⟩, ⟨_, rfl, rfl, rfl⟩, ⟨_, rfl, rfl, rfl⟩, trivial⟩ rfl (fun_ok b s (fuel0 fuel) hfu0 hs hb hbw hbl b.funcs.length ((b.funcs.length : Int) - 1) (m0 b) (by omega) (by omega) (by omega) rfl m0_good)) ?_
  refine AOps.nil ?_
  refine AGo.seq ?_
  refine AGo.join (γ := Mach) (fun m => ⟨51, (eput (eput (eput (eput (eput eNew 0 (.agg b.cells)) 1 (.str s)) 3 (.ptr 3 1 0 0)) 6 (.ptr 4 1 0 0)) 7 (.ptr 0 1 0 0)), (hput (hput (hput (hput (hput hNone 0 (.row false 9 [runCells b s (fuel0 fuel) m])) 1 (.row true 1 (regCells (m).words))) 2 (.row true 1 (byteCells (m).out))) 3 (.row false 2 [b.cells])) 4 (.row false 3 [[.int .i64 0, .str .empty, .int .i64 0]]))⟩) (fun m => m = mrun b s fuel) ?_ ?_
  ·
   refine AGo.seq ?_
   refine AGo.region ?_
   refine am 29 ?_
   refine aq 30 (q_nilCheck rfl rfl rfl) ?_
   refine af 31 tok ?_
   refine al 32 tok ?_
   refine aq 33 (q_bin rfl rfl rfl rfl) ?_
   refine AOps.nil ?_
   refine AGo.split 33 rfl (fun hb3 => ?_) (fun hb3 => ?_)
   ·
    refine AGo.cond_true true rfl rfl ?_
    refine AGo.region ?_
    refine am 34 ?_
    refine aq 35 (q_nilCheck rfl rfl rfl) ?_
    refine af 36 tok ?_
    refine AOps.w rfl rfl (o_store tok rfl rfl rfl rfl rfl rfl rfl rfl rfl (by decide) rfl z61q) ?_
    refine AOps.nil ?_
    exact ⟨{ (mfun b s (fuel0 fuel) b.funcs.length ((b.funcs.length : Int) - 1) (m0 b)) with fin := 1 }, Sub.mk' z52q z19q, (by simp [mrun, *])⟩
   ·
    refine AGo.cond_false false rfl rfl ?_
    refine AGo.skip ?_
    exact ⟨(mfun b s (fuel0 fuel) b.funcs.length ((b.funcs.length : Int) - 1) (m0 b)), Sub.mk' z52q z19q, (by simp [mrun, *])⟩
  intro m hm
  refine AGo.seq ?_
  refine AGo.ghost (.freezeCell 0 0 5 2 rfl rfl rfl rfl (by simp [byteCells]) (by decide)) ?_
  refine AGo.draw mix ?_
  refine dm 37 ?_
  refine dq 38 (q_nilCheck rfl rfl rfl) ?_
  refine df 39 tok ?_
  refine dl 40 tok ?_
  refine dm 41 ?_
  refine dq 42 (q_nilCheck rfl rfl rfl) ?_
  refine df 43 tok ?_
  refine dl 44 tok ?_
  refine dq 45 (q_bytesStr (l := m.out) tok rfl (by show some (AV.lst false _) = _; rw [List.drop_zero, List.take_of_length_le (by simp [byteCells])]) rfl rfl rfl rfl rfl rfl) ?_
  refine dm 46 ?_
  refine dq 47 (q_nilCheck rfl rfl rfl) ?_
  refine df 48 tok ?_
  refine dl 49 tok ?_
  refine dq 50 (q_build tok rfl rfl rfl rfl rfl (by decide) rfl rfl rfl) ?_
  refine DOps.w rfl rfl (o_store tok rfl rfl rfl rfl rfl rfl rfl rfl rfl (by decide) rfl z61q) ?_
  refine DOps.nil (by kernel_rfl) ?_
  refine AGo.ret ?_
  refine ⟨[_], ⟨⟨_, _, _, _, rfl, rfl, .ptr _ _ _ _ _ _ _ _ rfl rfl rfl, rfl⟩, trivial⟩, ?_, rfl⟩
  subst hm
  rfl

end Go.Proofs.Ytjmjmedjjbginaa.Sv

namespace Go.Proofs.Ytjmjmedjjbginaa.Sv
open Go

set_option maxHeartbeats 2000000 in
set_option maxRecDepth 100000 in
theorem deadMeans_ok (b : Blocks) (s : ByteArray) (fuel : Int) (hb : b.Ok) (hfu : isI fuel) : APure Try.prog 5 [.agg b.cells, .str s, .int .i64 fuel] (fun r => r = .bool true) := by
 refine APure.of_body (n := 59) tok Try.func5 rfl rfl ?_
 refine AGo.seq ?_
 refine AGo.region ?_
 refine ax 3 (o_box (sz := 2) 0 rfl rfl rfl rfl (Nat.zero_lt_succ _) rfl) ?_
 refine aa 6 ?_
 refine AOps.nil ?_
 refine AGo.seq ?_
 refine AGo.seq ?_
 refine AGo.region ?_
 refine ax 10 (o_pure rfl Try.func9 (by kernel_rfl) rfl rfl rfl (alive32_ok)) ?_
 refine aq 11 (q_not rfl rfl) ?_
 refine AOps.nil ?_
 refine AGo.cond_false false rfl rfl ?_
 refine AGo.skip ?_
 refine AGo.seq ?_
 refine AGo.seq ?_
 refine AGo.region ?_
 refine al 12 tok ?_
 refine ax 13 (o_pure rfl Try.func19 (by kernel_rfl) rfl rfl rfl (small32_ok b hb)) ?_
 refine aq 14 (q_not rfl rfl) ?_
 refine am 15 ?_
 refine AOps.split 15 rfl (fun hb1 => ?_) (fun hb1 => ?_)
 ·
  refine ak 16 ?_
  refine ak 17 ?_
  refine ak 18 ?_
  refine aq 19 (q_pick_true true rfl rfl rfl rfl) ?_
  refine am 20 ?_
  refine ak 21 ?_
  refine ak 22 ?_
  refine aq 23 (q_pick_true true rfl rfl rfl rfl) ?_
  refine AOps.nil ?_
  refine AGo.cond_true true rfl rfl ?_
  refine AGo.seq ?_
  refine AGo.region ?_
  refine aa 6 ?_
  refine AOps.nil ?_
  refine AGo.ret ?_
  refine ⟨[_], ⟨rfl, trivial⟩, ?_, rfl⟩
  rfl
 ·
  have hS := small32_of (b := b) (by simpa using hb1)
  have hiw := small32_insW hb
  have hrun := run_dnf hS.r s fuel
  refine am 16 ?_
  refine aq 17 (q_len tok rfl rfl rfl rfl rfl) ?_
  refine aq 18 (q_bin rfl rfl rfl rfl) ?_
  refine aq 19 (q_pick_false false rfl rfl rfl rfl) ?_
  refine am 20 ?_
  refine AOps.split 20 rfl (fun hb2 => ?_) (fun hb2 => ?_)
  ·
   refine ak 21 ?_
   refine ak 22 ?_
   refine aq 23 (q_pick_true true rfl rfl rfl rfl) ?_
   refine AOps.nil ?_
   refine AGo.cond_true true rfl rfl ?_
   refine AGo.seq ?_
   refine AGo.region ?_
   refine aa 6 ?_
   refine AOps.nil ?_
   refine AGo.ret ?_
   refine ⟨[_], ⟨rfl, trivial⟩, ?_, rfl⟩
   rfl
  ·
   have hsl : s.size ≤ 60 := by have h := hb2; simp at h; omega
   refine am 21 ?_
   refine aq 22 (q_bin rfl rfl rfl rfl) ?_
   refine aq 23 (q_pick_false false rfl rfl rfl rfl) ?_
   refine AOps.nil ?_
   refine AGo.split 23 rfl (fun hb3 => ?_) (fun hb3 => ?_)
   ·
    refine AGo.cond_true true rfl rfl ?_
    refine AGo.seq ?_
    refine AGo.region ?_
    refine aa 6 ?_
    refine AOps.nil ?_
    refine AGo.ret ?_
    refine ⟨[_], ⟨rfl, trivial⟩, ?_, rfl⟩
    rfl
   ·
    refine AGo.cond_false false rfl rfl ?_
    have hf4 : fuel ≤ 400 := by have h := hb3; simp at h; omega
    refine AGo.skip ?_
    refine AGo.seq ?_
    refine AGo.region ?_
    refine al 24 tok ?_
    refine ax 25 (o_pure rfl Try.func20 (by kernel_rfl) rfl rfl rfl (without32_ok b hS.f (by have := hS.n; omega))) ?_
    refine ax 7 (o_alloc tok 1 rfl rfl rfl rfl (Nat.zero_lt_succ _) rfl) ?_
    refine AOps.w rfl rfl (o_store tok rfl rfl rfl rfl rfl rfl rfl rfl rfl (by decide) rfl z61q) ?_
    refine AOps.nil ?_
    refine AGo.seq ?_
    refine AGo.seq ?_
    refine AGo.region ?_
    refine al 26 tok ?_
    refine ax 27 (o_pure rfl Try.func21 (by kernel_rfl) rfl rfl rfl ((right_ok b.dnf).mono (fun r h => by rw [h, hS.dnf.r]))) ?_
    refine aq 28 (q_not rfl rfl) ?_
    refine AOps.nil ?_
    refine AGo.cond_false false rfl rfl ?_
    refine AGo.skip ?_
    refine AGo.seq ?_
    refine AGo.region ?_
    refine al 29 tok ?_
    refine am 30 ?_
    refine am 31 ?_
    refine ax 32 (o_pure rfl Try.func22 (by kernel_rfl) rfl rfl rfl (run_ok b s fuel (by omega) (by omega) hS.r hiw hS.lens)) ?_
    refine ax 8 (o_alloc tok 2 rfl rfl rfl rfl (Nat.zero_lt_succ _) rfl) ?_
    refine AOps.w rfl rfl (o_store tok rfl rfl rfl rfl rfl rfl rfl rfl rfl (by decide) rfl z61q) ?_
    refine AOps.nil ?_
    refine AGo.seq ?_
    refine AGo.seq ?_
    refine AGo.region ?_
    refine af 33 tok ?_
    refine al 34 tok ?_
    refine aq 35 (q_bin rfl rfl rfl rfl) ?_
    refine AOps.nil ?_
    refine AGo.split 35 rfl (fun hb4 => ?_) (fun hb4 => ?_)
    ·
     refine AGo.cond_true true rfl rfl ?_
     refine AGo.seq ?_
     refine AGo.region ?_
     refine aa 6 ?_
     refine AOps.nil ?_
     refine AGo.ret ?_
     refine ⟨[_], ⟨rfl, trivial⟩, ?_, rfl⟩
     rfl
    ·
     refine AGo.cond_false false rfl rfl ?_
     refine AGo.skip ?_
     refine AGo.seq ?_
     refine AGo.region ?_
     refine al 36 tok ?_
     refine am 37 ?_
     refine am 38 ?_
     refine ax 39 (o_pure rfl Try.func22 (by kernel_rfl) rfl rfl rfl (run_ok b.dnf s fuel (by omega) (by omega) hS.dnf.r (dnf_insW hiw) hS.dnf.lens)) ?_
     refine ax 9 (o_alloc tok 3 rfl rfl rfl rfl (Nat.zero_lt_succ _) rfl) ?_
     refine AOps.w rfl rfl (o_store tok rfl rfl rfl rfl rfl rfl rfl rfl rfl (by decide) rfl z61q) ?_
     refine AOps.nil ?_
     refine AGo.seq ?_
     refine AGo.region ?_
     refine af 40 tok ?_
     refine al 41 tok ?_
     refine af 42 tok ?_
     refine al 43 tok ?_
     refine aq 44 (q_bin rfl rfl rfl rfl) ?_
     refine am 45 ?_
     refine AOps.split 45 rfl (fun hb5 => ?_) (fun hb5 => ?_)
     ·
      refine af 46 tok ?_
      refine al 47 tok ?_
      refine af 48 tok ?_
      refine al 49 tok ?_
      refine aq 50 (q_bin rfl rfl rfl rfl) ?_
      refine aq 51 (q_pick_true true rfl rfl rfl rfl) ?_
      refine am 52 ?_
      refine AOps.split 52 rfl (fun hb6 => ?_) (fun hb6 => ?_)
      ·
       refine af 53 tok ?_
       refine al 54 tok ?_
       refine af 55 tok ?_
       refine al 56 tok ?_
       refine aq 57 (q_bin rfl rfl rfl rfl) ?_
       refine aq 58 (q_pick_true true rfl rfl rfl rfl) ?_
       refine aa 6 ?_
       refine AOps.nil ?_
       refine AGo.ret ?_
       refine ⟨[_], ⟨rfl, trivial⟩, ?_, rfl⟩
       show AV.bool _ = AV.bool true
       first
       | rfl
       | (congr 1
          rcases hrun with h | ⟨h1, h2, h3⟩
          · first | (simp_all; done) | (exfalso; simp_all)
          · first | (simp_all; done) | (exfalso; simp_all))
      ·
       refine ak 53 ?_
       refine ak 54 ?_
       refine ak 55 ?_
       refine ak 56 ?_
       refine ak 57 ?_
       refine aq 58 (q_pick_false false rfl rfl rfl rfl) ?_
       refine aa 6 ?_
       refine AOps.nil ?_
       refine AGo.ret ?_
       refine ⟨[_], ⟨rfl, trivial⟩, ?_, rfl⟩
       show AV.bool _ = AV.bool true
       first
       | rfl
       | (congr 1
          rcases hrun with h | ⟨h1, h2, h3⟩
          · first | (simp_all; done) | (exfalso; simp_all)
          · first | (simp_all; done) | (exfalso; simp_all))
     ·
      refine ak 46 ?_
      refine ak 47 ?_
      refine ak 48 ?_
      refine ak 49 ?_
      refine ak 50 ?_
      refine aq 51 (q_pick_false false rfl rfl rfl rfl) ?_
      refine am 52 ?_
      refine ak 53 ?_
      refine ak 54 ?_
      refine ak 55 ?_
      refine ak 56 ?_
      refine ak 57 ?_
      refine aq 58 (q_pick_false false rfl rfl rfl rfl) ?_
      refine aa 6 ?_
      refine AOps.nil ?_
      refine AGo.ret ?_
      refine ⟨[_], ⟨rfl, trivial⟩, ?_, rfl⟩
      show AV.bool _ = AV.bool true
      first
      | rfl
      | (congr 1
         rcases hrun with h | ⟨h1, h2, h3⟩
         · first | (simp_all; done) | (exfalso; simp_all)
         · first | (simp_all; done) | (exfalso; simp_all))

end Go.Proofs.Ytjmjmedjjbginaa.Sv

namespace Go.Proofs.Ytjmjmedjjbginaa
open Go.ChangeShapes Go.WideShapes Go.ChangeAt Go.RowKit Sv
theorem okWide_cellS {P : Program} {W : World} {T : Nat → Option TyI} {t b0 : Nat} {v : Value} {i : TyI} (hT : TOk P T) (hi : T t = some i) (hk : i.k = .string) (h : Value.okWide P W .any b0 t v) : ∀ cs, v ≠ .agg cs := by
  obtain ⟨info, d, e1, e2, e3, e4, e5, e6⟩ := tyOf_spec (hT _ _ hi)
  have hd := tk_string (P := P) (d := d) (e3 ▸ hk)
  subst hd
  obtain ⟨s, rfl⟩ := okWide_string e2 h
  intro cs h
  cases h
section
variable {H : Type} {enc : TypeId × Value → H} {W : World}
theorem decStr : Dec enc Try.prog W 9 (fun s : ByteArray => [.str s]) (fun s => s.size ≤ maxLen ∧ s.size ≤ reachBytes) := Dec.string' tok rfl rfl
end
end Go.Proofs.Ytjmjmedjjbginaa

namespace Go.Proofs.Ytjmjmedjjbginaa
open Go.ChangeShapes Go.WideShapes Go.ChangeAt Go.RowKit Sv
set_option linter.unusedVariables false

set_option maxRecDepth 100000 in
theorem deadMeans_lifted (os : Os) (started : os.Started) (H : Type) (enc : TypeId × Value → H) :
    ReturnsInHanded {} Try.checked os 5 .any (Rows.deadMeansSpec.pre6 enc Try.prog Try.f5 Rows.deadMeansRow.domain false) (Rows.deadMeansSpec.post enc Try.prog Try.f5 false true false false) := by
  refine returnsInHanded_of_change_sized (C := Try.checked) own' started (by kernel_rfl) Try.func5
    (ChangeSpec.witness6 (enc := enc) (C := Try.checked) false ⟨#[], #[.agg #[.int .i64 0, .slice none 0 0], .string ⟨#[]⟩, .int .i64 0], []⟩ 8 (by kernel_rfl) (by kernel_rfl) (by kernel_rfl) (by kernel_rfl)) ?_
  intro W base args ds gs before hval0 hW hcnd hwt0 hh
  have hval : ∀ (j : Nat) t v, Try.f5.params[j]? = some t → args[j]? = some v → Value.okWide Try.prog W .any base t v := hval0
  have hW' := hW
  obtain ⟨p, q, hA0, hV, rfl, hfz, hnd⟩ := hW
  have hA : DataW.TrodAll enc Try.prog W 0 (fun _ => true) true Try.f5.params.toList args.toList ds p := hA0
  have hwt : (DataW.weightsEach Try.prog (Try.f5.params.toList ++ Rows.deadMeansSpec.plain.varTypes Try.prog) (ds ++ gs)).all (· ≤ reachBytes) = true := hwt0
  rw [Try.params5] at hA hval hwt
  obtain ⟨v0, vs0, d0, ds0, p0, q0, hargs, rfl, rfl, h0, r0⟩ := trodAll_cons hA
  obtain ⟨v1, vs1, d1, ds1, p1, q1, rfl, rfl, rfl, h1, r1⟩ := trodAll_cons r0
  obtain ⟨v2, vs2, d2, ds2, p2, q2, rfl, rfl, rfl, h2, r2⟩ := trodAll_cons r1
  obtain ⟨rfl, rfl, rfl⟩ := trodAll_nil r2
  obtain rfl : args = #[v0, v1, v2] := by cases args; simp_all
  obtain ⟨rfl, rfl⟩ := trodVars_none hV
  obtain ⟨x0, e0, g0⟩ := arg_one h0 (weightsEach_get hwt (i := 0) rfl rfl) decBlocks
  obtain ⟨x1, e1, g1⟩ := arg_one h1 (weightsEach_get hwt (i := 1) rfl rfl) decStr
  obtain ⟨x2, rfl, rfl, rfl, w2⟩ := open_int Try.underlying3 (hval 2 3 v2 rfl rfl) h2
  exact law_calls laidOut' rfl (by kernel_rfl) rfl bool' rfl rfl rfl hW' (.cons (e0.val (okWide_agg tok rfl rfl (hval 0 45 v0 rfl rfl))) (.cons (e1.val1 (okWide_cellS tok rfl rfl (hval 1 9 v1 rfl rfl))) (.cons (.int _ _ _) .nil))) (deadMeans_ok x0 x1 x2 g0 (wf_i64 w2)) (fun g l h => by cases h)

theorem deadMeans_holds : Rows.DeadMeansSaid :=
  OpenClaim.holds_of_wide 5 Try.f5 rfl rfl rfl rfl rfl rfl rfl ⟨rfl, rfl, rfl, rfl, rfl⟩ rfl rfl rfl rfl rfl (by kernel_rfl) Try.func5 (by kernel_rfl)
    (of_decide_eq_true (by kernel_rfl)) (by unfold Func.isWrapper; first | (rw [if_pos (by decide +kernel)]; kernel_rfl) | (rw [if_neg (by decide +kernel)]; exact ⟨rfl, rfl⟩))
    (fun os started H enc _ => deadMeans_lifted os started H enc)

end Go.Proofs.Ytjmjmedjjbginaa
