/-
  The law OptimizeNone of the given program answers true for every input of the bulk that is named, and leaves its arguments as they were. Own work.
  WALKS: printed by a program of our own from the code's tree.
-/
import Derived.Test.YtbbfelelocccmaaGreatPOptimizeNone3
import Derived.Test.YtbbfelelocccmaaGreatPOptimizeNone2
import Derived.Test.YtbbfelelocccmaaGreatPOptimizeNone4
import Derived.Deep.CondSized
import Derived.JoinedCond
namespace Go.Proofs.YtbbfelelocccmaaGreat.Sv
open Go
set_option maxRecDepth 100000 in
theorem sameBlock_ok (x y : Block) (hx : x.ins.length ≤ 1000000000000000) : APure Tryz.prog 67 [.agg x.cells, .agg y.cells] (fun r => r = .bool (decide (x = y))) := by
 refine APure.of_body (n := 58) tok Tryz.func67 rfl rfl ?_
 refine asr ?_
 refine ax 2 (o_box (sz := 5) 0 rfl rfl rfl rfl (Nat.zero_lt_succ _) rfl) ?_
 refine ax 3 (o_box (sz := 5) 1 rfl rfl rfl rfl (Nat.zero_lt_succ _) rfl) ?_
 refine aa 4 ?_
 refine an ?_
 refine AGo.seq ?_
 refine asr ?_
 refine af 7 tok ?_
 refine al 8 tok ?_
 refine af 9 tok ?_
 refine al 10 tok ?_
 refine aqb ?_
 refine am 12 ?_
 refine AOps.split 12 rfl (fun hb1 => ?_) (fun hb1 => ?_)
 ·
  iterate 5 refine ak _ ?_
  refine apt ?_
  refine am 19 ?_
  iterate 5 refine ak _ ?_
  refine apt ?_
  refine am 26 ?_
  iterate 5 refine ak _ ?_
  refine apt ?_
  refine am 33 ?_
  iterate 7 refine ak _ ?_
  refine apt ?_
  refine an ?_
  refine act ?_
  refine asr ?_
  refine aa 4 ?_
  refine an ?_
  refine AGo.ret ?_
  refine ⟨[_], ⟨rfl, trivial⟩, ?_, rfl⟩
  show AV.bool false = _
  rw [decide_eq_false (by rintro rfl; simp_all)]
 ·
  refine af 13 tok ?_
  refine al 14 tok ?_
  refine af 15 tok ?_
  refine al 16 tok ?_
  refine aqb ?_
  refine apf ?_
  refine am 19 ?_
  refine AOps.split 19 rfl (fun hb2 => ?_) (fun hb2 => ?_)
  ·
   iterate 5 refine ak _ ?_
   refine apt ?_
   refine am 26 ?_
   iterate 5 refine ak _ ?_
   refine apt ?_
   refine am 33 ?_
   iterate 7 refine ak _ ?_
   refine apt ?_
   refine an ?_
   refine act ?_
   refine asr ?_
   refine aa 4 ?_
   refine an ?_
   refine AGo.ret ?_
   refine ⟨[_], ⟨rfl, trivial⟩, ?_, rfl⟩
   show AV.bool false = _
   rw [decide_eq_false (by rintro rfl; simp_all)]
  ·
   refine af 20 tok ?_
   refine al 21 tok ?_
   refine af 22 tok ?_
   refine al 23 tok ?_
   refine aqb ?_
   refine apf ?_
   refine am 26 ?_
   refine AOps.split 26 rfl (fun hb3 => ?_) (fun hb3 => ?_)
   ·
    iterate 5 refine ak _ ?_
    refine apt ?_;refine am 33 ?_
    iterate 7 refine ak _ ?_
    refine apt ?_;refine an ?_;refine act ?_;refine asr ?_;refine aa 4 ?_;refine an ?_;refine AGo.ret ?_;refine ⟨[_], ⟨rfl, trivial⟩, ?_, rfl⟩
    show AV.bool false = _
    rw [decide_eq_false (by rintro rfl; simp_all)]
   ·
    refine af 27 tok ?_;refine al 28 tok ?_;refine af 29 tok ?_;refine al 30 tok ?_;refine aqb ?_;refine apf ?_;refine am 33 ?_;refine AOps.split 33 rfl (fun hb4 => ?_) (fun hb4 => ?_)
    ·
     iterate 7 refine ak _ ?_
     refine apt ?_;refine an ?_;refine act ?_;refine asr ?_;refine aa 4 ?_;refine an ?_;refine AGo.ret ?_;refine ⟨[_], ⟨rfl, trivial⟩, ?_, rfl⟩
     show AV.bool false = _
     rw [decide_eq_false (by rintro rfl; simp_all)]
    ·
     refine af 34 tok ?_;refine al 35 tok ?_;refine aq 36 (q_len tok rfl rfl rfl rfl rfl) ?_;refine af 37 tok ?_;refine al 38 tok ?_;refine aq 39 (q_len tok rfl rfl rfl rfl rfl) ?_;refine aqb ?_;refine apf ?_;refine an ?_;refine AGo.split 41 rfl (fun hb5 => ?_) (fun hb5 => ?_)
     ·
      refine act ?_;refine asr ?_;refine aa 4 ?_;refine an ?_;refine AGo.ret ?_;refine ⟨[_], ⟨rfl, trivial⟩, ?_, rfl⟩
      show AV.bool false = _
      rw [decide_eq_false (by rintro rfl; simp_all)]
     ·
      refine acf ?_
      have h0 : x.fin = y.fin ∧ x.v = y.v ∧ x.to = y.to ∧ x.els = y.els ∧ x.ins.length = y.ins.length := by simp_all <;> omega
      refine AGo.skip ?_;refine AGo.seq ?_;refine asr ?_;refine af 42 tok ?_;refine al 43 tok ?_;refine aq 44 (q_len tok rfl rfl rfl rfl rfl) ?_;refine am 45 ?_;refine an ?_;refine AGo.block ?_;refine AGo.loopD (γ := Nat) 2 (fun i => ⟨58, (eput (eput (eput (eput (eput eNew 2 (.ptr 0 1 0 0)) 3 (.ptr 1 1 0 0)) 43 (insAV x.ins)) 44 (.int .i64 (x.ins.length : Int))) 45 (.int .i64 (i : Int))), (hput (hput (hFrom 2) 0 (.row false 5 [x.cells])) 1 (.row false 5 [y.cells]))⟩) (fun i => x.ins.take i = y.ins.take i) (fun i => x.ins.length - i) 0 (Sub.mk' z4q z2q) rfl (fun _ => hput_free (hput_free (fun b hb => hFrom_free hb) rfl) rfl) ?_
      intro i ht
      refine asr ?_;refine aqb ?_;refine an ?_;refine AGo.seq ?_;refine AGo.split 46 rfl (fun hb6 => ?_) (fun hb6 => ?_)
      ·
       refine act ?_
       have hil : i < x.ins.length := by simpa using hb6
       obtain ⟨u, hu⟩ := get_of_lt hil
       obtain ⟨v, hv⟩ := get_of_lt (l := y.ins) (k := i) (by omega)
       refine AGo.skip ?_;refine AGo.seq ?_;refine AGo.block ?_;refine asr ?_;refine am 47 ?_;refine aq 48 (q_index_lst tok rfl rfl rfl rfl rfl rfl (Int.natCast_nonneg _) (idx_map (by assumption)) rfl) ?_;refine al 49 tok ?_;refine ax 6 (o_alloc tok 2 rfl rfl rfl rfl (Nat.zero_lt_succ _) rfl) ?_;refine aa 5 ?_;refine AOps.w rfl rfl (o_store tok rfl rfl rfl rfl rfl rfl rfl rfl rfl (by decide) rfl z12q) ?_;refine an ?_;refine AGo.seq ?_;refine AGo.draw mix ?_;refine dl 50 tok ?_;refine df 51 tok ?_;refine dl 52 tok ?_;refine dm 53 ?_;refine dq 54 (q_index_lst tok rfl rfl rfl rfl rfl rfl (Int.natCast_nonneg _) (idx_map (by assumption)) rfl) ?_;refine dl 55 tok ?_;refine dq 56 (q_eqStruct tok true rfl rfl rfl (by kernel_rfl) rfl rfl rfl rfl (Tac.eqCells u v)) ?_;refine DOps.nil (by kernel_rfl) ?_;refine AGo.split 56 rfl (fun hb7 => ?_) (fun hb7 => ?_)
       ·
        refine act ?_
        have huv : u ≠ v := by simpa using hb7
        refine asr ?_;refine aa 4 ?_;refine an ?_;refine AGo.ret ?_;refine ⟨[_], ⟨rfl, trivial⟩, ?_, rfl⟩
        show AV.bool false = _
        rw [decide_eq_false (by rintro rfl; rw [hu] at hv; cases hv; exact huv rfl)]
       ·
        refine acf ?_
        have huv : u = v := by simpa using hb7
        refine AGo.skip ?_;refine AGo.region ?_;refine aq 57 (q_inc rfl rfl hil (by simp only [maxLen]; omega)) ?_;refine am 45 ?_;refine an ?_;exact ⟨i+1, Drop.mk' z6q z3q, (by rw [take_succ_eq hu, take_succ_eq hv, ht, huv]), by omega⟩
      ·
       refine acf ?_
       have hge : x.ins.length ≤ i := by simpa using hb6
       refine AGo.exit ?_;refine asr ?_;refine aa 4 ?_;refine an ?_;refine AGo.ret ?_;refine ⟨[_], ⟨rfl, trivial⟩, ?_, rfl⟩
       show AV.bool true = _
       rw [decide_eq_true (Block.ext5 h0.1 h0.2.1 h0.2.2.1 h0.2.2.2.1 (take_all ht hge (h0.2.2.2.2 ▸ hge)))]
set_option maxRecDepth 100000 in
theorem rsameBlock_ok (x y : Block) (hx : x.ins.length ≤ 1000000000000000) : APure Tryz.prog 36 [.agg x.cells, .agg y.cells] (fun r => r = .bool (decide (x = y))) := by
 refine APure.of_body (n := 59) tok Tryz.func36 rfl rfl ?_
 refine asr ?_
 refine ax 2 (o_box (sz := 5) 0 rfl rfl rfl rfl (Nat.zero_lt_succ _) rfl) ?_
 refine ax 3 (o_box (sz := 5) 1 rfl rfl rfl rfl (Nat.zero_lt_succ _) rfl) ?_
 refine aa 4 ?_
 refine an ?_
 refine AGo.seq ?_
 refine asr ?_
 refine af 6 tok ?_
 refine al 7 tok ?_
 refine af 8 tok ?_
 refine al 9 tok ?_
 refine aqb ?_
 refine am 11 ?_
 refine AOps.split 11 rfl (fun hb1 => ?_) (fun hb1 => ?_)
 ·
  iterate 5 refine ak _ ?_
  refine apt ?_
  refine am 18 ?_
  iterate 5 refine ak _ ?_
  refine apt ?_
  refine am 25 ?_
  iterate 5 refine ak _ ?_
  refine apt ?_
  refine am 32 ?_
  iterate 7 refine ak _ ?_
  refine apt ?_
  refine an ?_
  refine act ?_
  refine asr ?_
  refine aa 4 ?_
  refine an ?_
  refine AGo.ret ?_
  refine ⟨[_], ⟨rfl, trivial⟩, ?_, rfl⟩
  show AV.bool false = _
  rw [decide_eq_false (by rintro rfl; simp_all)]
 ·
  refine af 12 tok ?_
  refine al 13 tok ?_
  refine af 14 tok ?_
  refine al 15 tok ?_
  refine aqb ?_
  refine apf ?_
  refine am 18 ?_
  refine AOps.split 18 rfl (fun hb2 => ?_) (fun hb2 => ?_)
  ·
   iterate 5 refine ak _ ?_
   refine apt ?_
   refine am 25 ?_
   iterate 5 refine ak _ ?_
   refine apt ?_
   refine am 32 ?_
   iterate 7 refine ak _ ?_
   refine apt ?_
   refine an ?_
   refine act ?_
   refine asr ?_
   refine aa 4 ?_
   refine an ?_
   refine AGo.ret ?_
   refine ⟨[_], ⟨rfl, trivial⟩, ?_, rfl⟩
   show AV.bool false = _
   rw [decide_eq_false (by rintro rfl; simp_all)]
  ·
   refine af 19 tok ?_
   refine al 20 tok ?_
   refine af 21 tok ?_
   refine al 22 tok ?_
   refine aqb ?_
   refine apf ?_
   refine am 25 ?_
   refine AOps.split 25 rfl (fun hb3 => ?_) (fun hb3 => ?_)
   ·
    iterate 5 refine ak _ ?_
    refine apt ?_;refine am 32 ?_
    iterate 7 refine ak _ ?_
    refine apt ?_;refine an ?_;refine act ?_;refine asr ?_;refine aa 4 ?_;refine an ?_;refine AGo.ret ?_;refine ⟨[_], ⟨rfl, trivial⟩, ?_, rfl⟩
    show AV.bool false = _
    rw [decide_eq_false (by rintro rfl; simp_all)]
   ·
    refine af 26 tok ?_;refine al 27 tok ?_;refine af 28 tok ?_;refine al 29 tok ?_;refine aqb ?_;refine apf ?_;refine am 32 ?_;refine AOps.split 32 rfl (fun hb4 => ?_) (fun hb4 => ?_)
    ·
     iterate 7 refine ak _ ?_
     refine apt ?_;refine an ?_;refine act ?_;refine asr ?_;refine aa 4 ?_;refine an ?_;refine AGo.ret ?_;refine ⟨[_], ⟨rfl, trivial⟩, ?_, rfl⟩
     show AV.bool false = _
     rw [decide_eq_false (by rintro rfl; simp_all)]
    ·
     refine af 33 tok ?_;refine al 34 tok ?_;refine aq 35 (q_len tok rfl rfl rfl rfl rfl) ?_;refine af 36 tok ?_;refine al 37 tok ?_;refine aq 38 (q_len tok rfl rfl rfl rfl rfl) ?_;refine aqb ?_;refine apf ?_;refine an ?_;refine AGo.split 40 rfl (fun hb5 => ?_) (fun hb5 => ?_)
     ·
      refine act ?_;refine asr ?_;refine aa 4 ?_;refine an ?_;refine AGo.ret ?_;refine ⟨[_], ⟨rfl, trivial⟩, ?_, rfl⟩
      show AV.bool false = _
      rw [decide_eq_false (by rintro rfl; simp_all)]
     ·
      refine acf ?_
      have h0 : x.fin = y.fin ∧ x.v = y.v ∧ x.to = y.to ∧ x.els = y.els ∧ x.ins.length = y.ins.length := by simp_all <;> omega
      refine AGo.skip ?_;refine AGo.seq ?_;refine asr ?_;refine aa 5 ?_;refine an ?_;refine AGo.block ?_;refine AGo.loopD (γ := Nat) 2 (fun i => ⟨59, (eput (eput (eput eNew 2 (.ptr 0 1 0 0)) 3 (.ptr 1 1 0 0)) 5 (.int .i64 (i : Int))), (hput (hput (hFrom 2) 0 (.row false 5 [x.cells])) 1 (.row false 5 [y.cells]))⟩) (fun i => x.ins.take i = y.ins.take i) (fun i => x.ins.length - i) 0 (Sub.mk' z4q z2q) rfl (fun _ => hput_free (hput_free (fun b hb => hFrom_free hb) rfl) rfl) ?_
      intro i ht
      refine AGo.seq ?_;refine asr ?_;refine am 41 ?_;refine af 42 tok ?_;refine al 43 tok ?_;refine aq 44 (q_len tok rfl rfl rfl rfl rfl) ?_;refine aqb ?_;refine an ?_;refine AGo.split 45 rfl (fun hb6 => ?_) (fun hb6 => ?_)
      ·
       refine act ?_
       have hil : i < x.ins.length := by simpa using hb6
       obtain ⟨u, hu⟩ := get_of_lt hil
       obtain ⟨v, hv⟩ := get_of_lt (l := y.ins) (k := i) (by omega)
       refine AGo.skip ?_;refine AGo.seq ?_;refine AGo.block ?_;refine AGo.seq ?_;refine AGo.draw mix ?_;refine df 48 tok ?_;refine dl 49 tok ?_;refine dm 50 ?_;refine dq 51 (q_index_lst tok rfl rfl rfl rfl rfl rfl (Int.natCast_nonneg _) (idx_map (by assumption)) rfl) ?_;refine dl 52 tok ?_;refine df 53 tok ?_;refine dl 54 tok ?_;refine dm 55 ?_;refine dq 56 (q_index_lst tok rfl rfl rfl rfl rfl rfl (Int.natCast_nonneg _) (idx_map (by assumption)) rfl) ?_;refine dl 57 tok ?_;refine dq 58 (q_eqStruct tok true rfl rfl rfl (by kernel_rfl) rfl rfl rfl rfl (Tac.eqCells u v)) ?_;refine DOps.nil (by kernel_rfl) ?_;refine AGo.split 58 rfl (fun hb7 => ?_) (fun hb7 => ?_)
       ·
        refine act ?_
        have huv : u ≠ v := by simpa using hb7
        refine asr ?_;refine aa 4 ?_;refine an ?_;refine AGo.ret ?_;refine ⟨[_], ⟨rfl, trivial⟩, ?_, rfl⟩
        show AV.bool false = _
        rw [decide_eq_false (by rintro rfl; rw [hu] at hv; cases hv; exact huv rfl)]
       ·
        refine acf ?_
        have huv : u = v := by simpa using hb7
        refine AGo.skip ?_;refine AGo.region ?_;refine am 46 ?_;refine aq 47 (q_inc rfl rfl hil (by simp only [maxLen]; omega)) ?_;refine aa 5 ?_;refine an ?_;exact ⟨i+1, Drop.mk' z6q z3q, (by rw [take_succ_eq hu, take_succ_eq hv, ht, huv]), by omega⟩
      ·
       refine acf ?_
       have hge : x.ins.length ≤ i := by simpa using hb6
       refine AGo.exit ?_;refine asr ?_;refine aa 4 ?_;refine an ?_;refine AGo.ret ?_;refine ⟨[_], ⟨rfl, trivial⟩, ?_, rfl⟩
       show AV.bool true = _
       rw [decide_eq_true (Block.ext5 h0.1 h0.2.1 h0.2.2.1 h0.2.2.2.1 (take_all ht hge (h0.2.2.2.2 ▸ hge)))]
set_option maxRecDepth 100000 in
theorem rsameFunc_ok (f g : BFunc) (hf : f.blocks.length ≤ 1000000000000000 ∧ ∀ x ∈ f.blocks, x.ins.length ≤ 1000000000000000) : APure Tryz.prog 23 [.agg f.cells, .agg g.cells] (fun r => r = .bool (decide (f = g))) := by
 refine APure.of_body (n := 39) tok Tryz.func23 rfl rfl ?_
 refine asr ?_
 refine ax 2 (o_box (sz := 2) 0 rfl rfl rfl rfl (Nat.zero_lt_succ _) rfl) ?_
 refine ax 3 (o_box (sz := 2) 1 rfl rfl rfl rfl (Nat.zero_lt_succ _) rfl) ?_
 refine aa 4 ?_
 refine an ?_
 refine AGo.seq ?_
 refine asr ?_
 refine af 6 tok ?_
 refine al 7 tok ?_
 refine af 8 tok ?_
 refine al 9 tok ?_
 refine aqb ?_
 refine am 11 ?_
 refine AOps.split 11 rfl (fun hb1 => ?_) (fun hb1 => ?_)
 ·
  iterate 7 refine ak _ ?_
  refine apt ?_
  refine an ?_
  refine act ?_
  refine asr ?_
  refine aa 4 ?_
  refine an ?_
  refine AGo.ret ?_
  refine ⟨[_], ⟨rfl, trivial⟩, ?_, rfl⟩
  show AV.bool false = _
  rw [decide_eq_false (by rintro rfl; simp_all)]
 ·
  refine af 12 tok ?_
  refine al 13 tok ?_
  refine aq 14 (q_len tok rfl rfl rfl rfl rfl) ?_
  refine af 15 tok ?_
  refine al 16 tok ?_
  refine aq 17 (q_len tok rfl rfl rfl rfl rfl) ?_
  refine aqb ?_
  refine apf ?_
  refine an ?_
  refine AGo.split 19 rfl (fun hb2 => ?_) (fun hb2 => ?_)
  ·
   refine act ?_
   refine asr ?_
   refine aa 4 ?_
   refine an ?_
   refine AGo.ret ?_
   refine ⟨[_], ⟨rfl, trivial⟩, ?_, rfl⟩
   show AV.bool false = _
   rw [decide_eq_false (by rintro rfl; simp_all)]
  ·
   refine acf ?_
   have h0 : f.regs = g.regs ∧ f.blocks.length = g.blocks.length := by simp_all <;> omega
   refine AGo.skip ?_
   refine AGo.seq ?_
   refine asr ?_
   refine aa 5 ?_
   refine an ?_
   refine AGo.block ?_
   refine AGo.loopD (γ := Nat) 2 (fun i => ⟨39, (eput (eput (eput eNew 2 (.ptr 0 1 0 0)) 3 (.ptr 1 1 0 0)) 5 (.int .i64 (i : Int))), (hput (hput (hFrom 2) 0 (.row false 2 [f.cells])) 1 (.row false 2 [g.cells]))⟩) (fun i => f.blocks.take i = g.blocks.take i) (fun i => f.blocks.length - i) 0 (Sub.mk' z4q z2q) rfl (fun _ => hput_free (hput_free (fun b hb => hFrom_free hb) rfl) rfl) ?_
   intro i ht
   refine AGo.seq ?_
   refine asr ?_
   refine am 20 ?_
   refine af 21 tok ?_
   refine al 22 tok ?_
   refine aq 23 (q_len tok rfl rfl rfl rfl rfl) ?_
   refine aqb ?_
   refine an ?_
   refine AGo.split 24 rfl (fun hb3 => ?_) (fun hb3 => ?_)
   ·
    refine act ?_
    have hil : i < f.blocks.length := by simpa using hb3
    obtain ⟨x, hx⟩ := get_of_lt hil
    obtain ⟨y, hy⟩ := get_of_lt (l := g.blocks) (k := i) (by omega)
    have hil2 := hf.1
    refine AGo.skip ?_;refine AGo.seq ?_;refine AGo.block ?_;refine AGo.seq ?_;refine AGo.draw mix ?_;refine df 27 tok ?_;refine dl 28 tok ?_;refine dm 29 ?_;refine dq 30 (q_index_lst tok rfl rfl rfl rfl rfl rfl (Int.natCast_nonneg _) (idx_map hx) rfl) ?_;refine dl 31 tok ?_;refine df 32 tok ?_;refine dl 33 tok ?_;refine dm 34 ?_;refine dq 35 (q_index_lst tok rfl rfl rfl rfl rfl rfl (Int.natCast_nonneg _) (idx_map hy) rfl) ?_;refine dl 36 tok ?_;refine dx 37 (o_pure rfl Tryz.func36 (by kernel_rfl) rfl rfl rfl (rsameBlock_ok x y (hf.2 x (List.mem_of_getElem? hx)))) ?_;refine dq 38 (q_not rfl rfl) ?_;refine DOps.nil (by kernel_rfl) ?_;refine AGo.split 38 rfl (fun hb4 => ?_) (fun hb4 => ?_)
    ·
     refine act ?_
     have hxy : x ≠ y := by simpa using hb4
     refine asr ?_;refine aa 4 ?_;refine an ?_;refine AGo.ret ?_;refine ⟨[_], ⟨rfl, trivial⟩, ?_, rfl⟩
     show AV.bool false = _
     rw [decide_eq_false (by rintro rfl; rw [hx] at hy; cases hy; exact hxy rfl)]
    ·
     refine acf ?_
     have hxy : x = y := by simpa using hb4
     refine AGo.skip ?_;refine AGo.region ?_;refine am 25 ?_;refine aq 26 (q_inc rfl rfl hil (by simp only [maxLen]; omega)) ?_;refine aa 5 ?_;refine an ?_;exact ⟨i+1, Drop.mk' z6q z3q, (by rw [take_succ_eq hx, take_succ_eq hy, ht, hxy]), by omega⟩
   ·
    refine acf ?_
    have hge : f.blocks.length ≤ i := by simpa using hb3
    refine AGo.exit ?_;refine asr ?_;refine aa 4 ?_;refine an ?_;refine AGo.ret ?_;refine ⟨[_], ⟨rfl, trivial⟩, ?_, rfl⟩
    show AV.bool true = _
    rw [decide_eq_true (BFunc.ext' h0.1 (take_all ht hge (h0.2 ▸ hge)))]
set_option maxRecDepth 100000 in
theorem rsame_ok (a b : Blocks) (hl0 : a.funcs.length ≤ 1000000000000000) (hl1 : ∀ f ∈ a.funcs, f.blocks.length ≤ 1000000000000000 ∧ ∀ x ∈ f.blocks, x.ins.length ≤ 1000000000000000) : APure Tryz.prog 25 [.agg a.cells, .agg b.cells] (fun r => r = .bool (decide (a = b))) := by
 refine APure.of_body (n := 39) tok Tryz.func25 rfl rfl ?_
 refine asr ?_
 refine ax 2 (o_box (sz := 2) 0 rfl rfl rfl rfl (Nat.zero_lt_succ _) rfl) ?_
 refine ax 3 (o_box (sz := 2) 1 rfl rfl rfl rfl (Nat.zero_lt_succ _) rfl) ?_
 refine aa 4 ?_
 refine an ?_
 refine AGo.seq ?_
 refine asr ?_
 refine af 6 tok ?_
 refine al 7 tok ?_
 refine af 8 tok ?_
 refine al 9 tok ?_
 refine aqb ?_
 refine am 11 ?_
 refine AOps.split 11 rfl (fun hb1 => ?_) (fun hb1 => ?_)
 ·
  iterate 7 refine ak _ ?_
  refine apt ?_
  refine an ?_
  refine act ?_
  refine asr ?_
  refine aa 4 ?_
  refine an ?_
  refine AGo.ret ?_
  refine ⟨[_], ⟨rfl, trivial⟩, ?_, rfl⟩
  show AV.bool false = _
  rw [decide_eq_false (by rintro rfl; simp_all)]
 ·
  refine af 12 tok ?_
  refine al 13 tok ?_
  refine aq 14 (q_len tok rfl rfl rfl rfl rfl) ?_
  refine af 15 tok ?_
  refine al 16 tok ?_
  refine aq 17 (q_len tok rfl rfl rfl rfl rfl) ?_
  refine aqb ?_
  refine apf ?_
  refine an ?_
  refine AGo.split 19 rfl (fun hb2 => ?_) (fun hb2 => ?_)
  ·
   refine act ?_
   refine asr ?_
   refine aa 4 ?_
   refine an ?_
   refine AGo.ret ?_
   refine ⟨[_], ⟨rfl, trivial⟩, ?_, rfl⟩
   show AV.bool false = _
   rw [decide_eq_false (by rintro rfl; simp_all)]
  ·
   refine acf ?_
   have h0 : a.words = b.words ∧ a.funcs.length = b.funcs.length := by simp_all <;> omega
   refine AGo.skip ?_
   refine AGo.seq ?_
   refine asr ?_
   refine aa 5 ?_
   refine an ?_
   refine AGo.block ?_
   refine AGo.loopD (γ := Nat) 2 (fun i => ⟨39, (eput (eput (eput eNew 2 (.ptr 0 1 0 0)) 3 (.ptr 1 1 0 0)) 5 (.int .i64 (i : Int))), (hput (hput (hFrom 2) 0 (.row false 2 [a.cells])) 1 (.row false 2 [b.cells]))⟩) (fun i => a.funcs.take i = b.funcs.take i) (fun i => a.funcs.length - i) 0 (Sub.mk' z4q z2q) rfl (fun _ => hput_free (hput_free (fun b hb => hFrom_free hb) rfl) rfl) ?_
   intro i ht
   refine AGo.seq ?_
   refine asr ?_
   refine am 20 ?_
   refine af 21 tok ?_
   refine al 22 tok ?_
   refine aq 23 (q_len tok rfl rfl rfl rfl rfl) ?_
   refine aqb ?_
   refine an ?_
   refine AGo.split 24 rfl (fun hb3 => ?_) (fun hb3 => ?_)
   ·
    refine act ?_
    have hil : i < a.funcs.length := by simpa using hb3
    obtain ⟨f, hf⟩ := get_of_lt hil
    obtain ⟨g, hg⟩ := get_of_lt (l := b.funcs) (k := i) (by omega)
    refine AGo.skip ?_;refine AGo.seq ?_;refine AGo.block ?_;refine AGo.seq ?_;refine AGo.draw mix ?_;refine df 27 tok ?_;refine dl 28 tok ?_;refine dm 29 ?_;refine dq 30 (q_index_lst tok rfl rfl rfl rfl rfl rfl (Int.natCast_nonneg _) (idx_map hf) rfl) ?_;refine dl 31 tok ?_;refine df 32 tok ?_;refine dl 33 tok ?_;refine dm 34 ?_;refine dq 35 (q_index_lst tok rfl rfl rfl rfl rfl rfl (Int.natCast_nonneg _) (idx_map hg) rfl) ?_;refine dl 36 tok ?_;refine dx 37 (o_pure rfl Tryz.func23 (by kernel_rfl) rfl rfl rfl (rsameFunc_ok f g ⟨by have := (hl1 f (List.mem_of_getElem? hf)).1; omega, fun x hx => by have := (hl1 f (List.mem_of_getElem? hf)).2 x hx; omega⟩)) ?_
    refine dq 38 (q_not rfl rfl) ?_;refine DOps.nil (by kernel_rfl) ?_;refine AGo.split 38 rfl (fun hb4 => ?_) (fun hb4 => ?_)
    ·
     refine act ?_
     have hxy : f ≠ g := by simpa using hb4
     refine asr ?_;refine aa 4 ?_;refine an ?_;refine AGo.ret ?_;refine ⟨[_], ⟨rfl, trivial⟩, ?_, rfl⟩
     show AV.bool false = _
     rw [decide_eq_false (by rintro rfl; rw [hf] at hg; cases hg; exact hxy rfl)]
    ·
     refine acf ?_
     have hxy : f = g := by simpa using hb4
     refine AGo.skip ?_;refine AGo.region ?_;refine am 25 ?_;refine aq 26 (q_inc rfl rfl hil (by simp only [maxLen]; omega)) ?_;refine aa 5 ?_;refine an ?_;exact ⟨i+1, Drop.mk' z6q z3q, (by rw [take_succ_eq hf, take_succ_eq hg, ht, hxy]), by omega⟩
   ·
    refine acf ?_
    have hge : a.funcs.length ≤ i := by simpa using hb3
    refine AGo.exit ?_;refine asr ?_;refine aa 4 ?_;refine an ?_;refine AGo.ret ?_;refine ⟨[_], ⟨rfl, trivial⟩, ?_, rfl⟩
    show AV.bool true = _
    rw [decide_eq_true (Blocks.ext' h0.1 (take_all ht hge (h0.2 ▸ hge)))]
set_option maxRecDepth 100000 in
theorem bsame_ok (a b : Blocks) (hl0 : a.funcs.length ≤ 1000000000000000) (hl1 : ∀ f ∈ a.funcs, f.blocks.length ≤ 1000000000000000 ∧ ∀ x ∈ f.blocks, x.ins.length ≤ 1000000000000000) : APure Tryz.prog 46 [.agg a.cells, .agg b.cells] (fun r => r = .bool (decide (a = b))) := by
 refine APure.of_body (n := 69) tok Tryz.func46 rfl rfl ?_
 refine asr ?_
 refine ax 2 (o_box (sz := 2) 0 rfl rfl rfl rfl (Nat.zero_lt_succ _) rfl) ?_
 refine ax 3 (o_box (sz := 2) 1 rfl rfl rfl rfl (Nat.zero_lt_succ _) rfl) ?_
 refine aa 4 ?_
 refine an ?_
 refine AGo.seq ?_
 refine asr ?_
 refine af 10 tok ?_
 refine al 11 tok ?_
 refine af 12 tok ?_
 refine al 13 tok ?_
 refine aqb ?_
 refine am 15 ?_
 refine AOps.split 15 rfl (fun hb1 => ?_) (fun hb1 => ?_)
 ·
  iterate 7 refine ak _ ?_
  refine apt ?_
  refine an ?_
  refine act ?_
  refine asr ?_
  refine aa 4 ?_
  refine an ?_
  refine AGo.ret ?_
  refine ⟨[_], ⟨rfl, trivial⟩, ?_, rfl⟩
  show AV.bool false = _
  rw [decide_eq_false (by rintro rfl; simp_all)]
 ·
  refine af 16 tok ?_
  refine al 17 tok ?_
  refine aq 18 (q_len tok rfl rfl rfl rfl rfl) ?_
  refine af 19 tok ?_
  refine al 20 tok ?_
  refine aq 21 (q_len tok rfl rfl rfl rfl rfl) ?_
  refine aqb ?_
  refine apf ?_
  refine an ?_
  refine AGo.split 23 rfl (fun hb2 => ?_) (fun hb2 => ?_)
  ·
   refine act ?_
   refine asr ?_
   refine aa 4 ?_
   refine an ?_
   refine AGo.ret ?_
   refine ⟨[_], ⟨rfl, trivial⟩, ?_, rfl⟩
   show AV.bool false = _
   rw [decide_eq_false (by rintro rfl; simp_all)]
  ·
   refine acf ?_
   have h0 : a.words = b.words ∧ a.funcs.length = b.funcs.length := by simp_all <;> omega
   refine AGo.skip ?_
   refine AGo.seq ?_
   refine asr ?_
   refine af 24 tok ?_
   refine al 25 tok ?_
   refine aq 26 (q_len tok rfl rfl rfl rfl rfl) ?_
   refine am 27 ?_
   refine an ?_
   refine AGo.block ?_
   refine AGo.loopD (γ := Nat) 2 (fun i => ⟨69, (eput (eput (eput (eput (eput eNew 2 (.ptr 0 1 0 0)) 3 (.ptr 1 1 0 0)) 25 (funcsAV a.funcs)) 26 (.int .i64 (a.funcs.length : Int))) 27 (.int .i64 (i : Int))), (hput (hput (hFrom 2) 0 (.row false 2 [a.cells])) 1 (.row false 2 [b.cells]))⟩) (fun i => a.funcs.take i = b.funcs.take i) (fun i => a.funcs.length - i) 0 (Sub.mk' z4q z2q) rfl (fun _ => hput_free (hput_free (fun b hb => hFrom_free hb) rfl) rfl) ?_
   intro i ht
   refine asr ?_
   refine aqb ?_
   refine an ?_
   refine AGo.seq ?_
   refine AGo.split 28 rfl (fun hb3 => ?_) (fun hb3 => ?_)
   ·
    refine act ?_
    have hil : i < a.funcs.length := by simpa using hb3
    obtain ⟨f, hf⟩ := get_of_lt hil
    obtain ⟨g, hg⟩ := get_of_lt (l := b.funcs) (k := i) (by omega)
    obtain ⟨hl2, hl3⟩ := hl1 f (List.mem_of_getElem? hf)
    refine AGo.skip ?_;refine AGo.seq ?_;refine AGo.block ?_;refine asr ?_;refine am 29 ?_;refine aq 30 (q_index_lst tok rfl rfl rfl rfl rfl rfl (Int.natCast_nonneg _) (idx_map hf) rfl) ?_;refine al 31 tok ?_;refine ax 6 (o_alloc tok 2 rfl rfl rfl rfl (Nat.zero_lt_succ _) rfl) ?_;refine aa 5 ?_;refine AOps.w rfl rfl (o_store tok rfl rfl rfl rfl rfl rfl rfl rfl rfl (by decide) rfl z12q) ?_;refine an ?_;refine asr ?_;refine af 32 tok ?_;refine al 33 tok ?_;refine am 34 ?_;refine aq 35 (q_index_lst tok rfl rfl rfl rfl rfl rfl (Int.natCast_nonneg _) (idx_map hg) rfl) ?_;refine al 36 tok ?_;refine ax 7 (o_alloc tok 3 rfl rfl rfl rfl (Nat.zero_lt_succ _) rfl) ?_;refine AOps.w rfl rfl (o_store tok rfl rfl rfl rfl rfl rfl rfl rfl rfl (by decide) rfl z12q) ?_;refine an ?_;refine AGo.seq ?_;refine asr ?_;refine af 37 tok ?_;refine al 38 tok ?_;refine af 39 tok ?_;refine al 40 tok ?_;refine aqb ?_;refine am 42 ?_
    refine AOps.split 42 rfl (fun hb4 => ?_) (fun hb4 => ?_)
    ·
     iterate 7 refine ak _ ?_
     refine apt ?_;refine an ?_;refine act ?_;refine asr ?_;refine aa 4 ?_;refine an ?_;refine AGo.ret ?_;refine ⟨[_], ⟨rfl, trivial⟩, ?_, rfl⟩
     show AV.bool false = _
     rw [decide_eq_false (by rintro rfl; rw [hf] at hg; cases hg; simp_all)]
    ·
     refine af 43 tok ?_;refine al 44 tok ?_;refine aq 45 (q_len tok rfl rfl rfl rfl rfl) ?_;refine af 46 tok ?_;refine al 47 tok ?_;refine aq 48 (q_len tok rfl rfl rfl rfl rfl) ?_;refine aqb ?_;refine apf ?_;refine an ?_;refine AGo.split 50 rfl (fun hb5 => ?_) (fun hb5 => ?_)
     ·
      refine act ?_;refine asr ?_;refine aa 4 ?_;refine an ?_;refine AGo.ret ?_;refine ⟨[_], ⟨rfl, trivial⟩, ?_, rfl⟩
      show AV.bool false = _
      rw [decide_eq_false (by rintro rfl; rw [hf] at hg; cases hg; simp_all)]
     ·
      refine acf ?_
      have h1 : f.regs = g.regs ∧ f.blocks.length = g.blocks.length := by simp_all <;> omega
      refine AGo.skip ?_;refine asr ?_;refine af 51 tok ?_;refine al 52 tok ?_;refine aq 53 (q_len tok rfl rfl rfl rfl rfl) ?_;refine am 54 ?_;refine an ?_;refine AGo.block ?_;refine AGo.loopD (γ := Nat) 4 (fun j => ⟨69, (eput (eput (eput (eput (eput (eput (eput (eput (eput (eput eNew 2 (.ptr 0 1 0 0)) 3 (.ptr 1 1 0 0)) 25 (funcsAV a.funcs)) 26 (.int .i64 (a.funcs.length : Int))) 27 (.int .i64 (i : Int))) 6 (.ptr 2 1 0 0)) 7 (.ptr 3 1 0 0)) 52 (blocksAV f.blocks)) 53 (.int .i64 (f.blocks.length : Int))) 54 (.int .i64 (j : Int))), (hput (hput (hput (hput (hFrom 4) 0 (.row false 2 [a.cells])) 1 (.row false 2 [b.cells])) 2 (.row false 2 [f.cells])) 3 (.row false 2 [g.cells]))⟩) (fun j => f.blocks.take j = g.blocks.take j) (fun j => f.blocks.length - j) 0 (Sub.mk' z4q z2q) rfl (fun _ => hput_free (hput_free (hput_free (hput_free (fun b hb => hFrom_free hb) rfl) rfl) rfl) rfl) ?_
      intro j hs
      refine asr ?_;refine aqb ?_;refine an ?_;refine AGo.seq ?_;refine AGo.split 55 rfl (fun hb6 => ?_) (fun hb6 => ?_)
      ·
       refine act ?_
       have hjl : j < f.blocks.length := by simpa using hb6
       obtain ⟨x, hx⟩ := get_of_lt hjl
       obtain ⟨y, hy⟩ := get_of_lt (l := g.blocks) (k := j) (by omega)
       refine AGo.skip ?_;refine AGo.seq ?_;refine AGo.block ?_;refine asr ?_;refine am 56 ?_;refine aq 57 (q_index_lst tok rfl rfl rfl rfl rfl rfl (Int.natCast_nonneg _) (idx_map hx) rfl) ?_;refine al 58 tok ?_;refine ax 9 (o_alloc tok 4 rfl rfl rfl rfl (Nat.zero_lt_succ _) rfl) ?_;refine aa 8 ?_;refine AOps.w rfl rfl (o_store tok rfl rfl rfl rfl rfl rfl rfl rfl rfl (by decide) rfl z12q) ?_;refine an ?_;refine AGo.seq ?_;refine AGo.draw mix ?_;refine dl 59 tok ?_;refine df 60 tok ?_;refine dl 61 tok ?_;refine dm 62 ?_;refine dq 63 (q_index_lst tok rfl rfl rfl rfl rfl rfl (Int.natCast_nonneg _) (idx_map hy) rfl) ?_;refine dl 64 tok ?_;refine dx 65 (o_pure rfl Tryz.func67 (by kernel_rfl) rfl rfl rfl (sameBlock_ok x y (by have := hl3 x (List.mem_of_getElem? hx); omega))) ?_;refine dq 66 (q_not rfl rfl) ?_;refine DOps.nil (by kernel_rfl) ?_;refine AGo.split 66 rfl (fun hb7 => ?_) (fun hb7 => ?_)
       ·
        refine act ?_
        have hxy : x ≠ y := by simpa using hb7
        refine asr ?_;refine aa 4 ?_;refine an ?_;refine AGo.ret ?_;refine ⟨[_], ⟨rfl, trivial⟩, ?_, rfl⟩
        show AV.bool false = _
        rw [decide_eq_false (by rintro rfl; rw [hf] at hg; cases hg; rw [hx] at hy; cases hy; exact hxy rfl)]
       ·
        refine acf ?_
        have hxy : x = y := by simpa using hb7
        refine AGo.skip ?_;refine AGo.region ?_;refine aq 67 (q_inc rfl rfl hjl (by simp only [maxLen]; omega)) ?_;refine am 54 ?_;refine an ?_;exact ⟨j+1, Drop.mk' z6q z3q, (by rw [take_succ_eq hx, take_succ_eq hy, hs, hxy]), by omega⟩
      ·
       refine acf ?_
       have hge2 : f.blocks.length ≤ j := by simpa using hb6
       have hfg : f = g := BFunc.ext' h1.1 (take_all hs hge2 (h1.2 ▸ hge2))
       refine AGo.exit ?_;refine AGo.region ?_;refine aq 68 (q_inc rfl rfl hil (by simp only [maxLen]; omega)) ?_;refine am 27 ?_;refine an ?_;exact ⟨i+1, Drop.mk' z6q z3q, (by rw [take_succ_eq hf, take_succ_eq hg, ht, hfg]), by omega⟩
   ·
    refine acf ?_
    have hge : a.funcs.length ≤ i := by simpa using hb3
    refine AGo.exit ?_;refine asr ?_;refine aa 4 ?_;refine an ?_;refine AGo.ret ?_;refine ⟨[_], ⟨rfl, trivial⟩, ?_, rfl⟩
    show AV.bool true = _
    rw [decide_eq_true (Blocks.ext' h0.1 (take_all ht hge (h0.2 ▸ hge)))]
set_option maxRecDepth 100000 in
theorem leads35_ok (f g : BFunc) (l : List OPass) (hl : l.length ≤ 1048576) (I : BFunc → Prop) (hI0 : I f) (hIb : ∀ f, I f → f.Lim) (hH : ∀ p ∈ l, I p.f ∧ ∀ f, I f → kind35 p.kind = true → HoldsOk p f) : APure Tryz.prog 34 [.agg f.cells, .agg g.cells, passesAV l] (fun r => r = .bool (leadsL f g l)) := by
 refine APure.of_body (n := 42) tok Tryz.func34 rfl rfl ?_
 refine asr ?_
 refine ax 3 (o_box (sz := 2) 0 rfl rfl rfl rfl (Nat.zero_lt_succ _) rfl) ?_
 refine ax 4 (o_box (sz := 2) 1 rfl rfl rfl rfl (Nat.zero_lt_succ _) rfl) ?_
 refine aa 6 ?_
 refine an ?_
 refine AGo.seq ?_
 refine asr ?_
 refine am 11 ?_
 refine aq 12 (q_len tok rfl rfl rfl rfl rfl) ?_
 refine am 13 ?_
 refine an ?_
 refine AGo.block ?_
 refine AGo.loopD (γ := Nat) 2 (fun k => ⟨42, (eput (eput (eput (eput (eput eNew 3 (.ptr 0 1 0 0)) 4 (.ptr 1 1 0 0)) 11 (passesAV l)) 12 (.int .i64 (l.length : Int))) 13 (.int .i64 (k : Int))), (hput (hput (hFrom 2) 0 (.row false 2 [(atP f (l.take k)).cells])) 1 (.row false 2 [g.cells]))⟩) (fun k => I (atP f (l.take k)) ∧ leadsL f (atP f (l.take k)) (l.take k) = true) (fun k => l.length - k) 0 (Sub.mk' z4q z2q) ⟨hI0, decide_eq_true rfl⟩ (fun _ => hput_free (hput_free (fun b hb => hFrom_free hb) rfl) rfl) ?_
 intro k hF
 refine asr ?_
 refine aqb ?_
 refine an ?_
 refine AGo.seq ?_
 refine AGo.split 14 rfl (fun hb1 => ?_) (fun hb1 => ?_)
 ·
  refine act ?_
  have hkl : k < l.length := by have h := hb1; simp at h; omega
  obtain ⟨p, hp⟩ := get_of_lt hkl
  have hpm := List.mem_of_getElem? hp
  refine AGo.skip ?_
  refine AGo.seq ?_
  refine AGo.block ?_
  refine asr ?_
  refine aq 15 (q_index_lst tok rfl rfl rfl rfl rfl rfl (Int.natCast_nonneg _) (idx_map hp) rfl) ?_
  refine al 16 tok ?_
  refine ax 8 (o_alloc tok 2 rfl rfl rfl rfl (Nat.zero_lt_succ _) rfl) ?_
  refine AOps.w rfl rfl (o_store tok rfl rfl rfl rfl rfl rfl rfl rfl rfl (by decide) rfl z12q) ?_
  refine an ?_
  refine asr ?_
  refine af 18 tok ?_
  refine al 19 tok ?_
  refine ax 20 (o_pure rfl Tryz.func31 (by kernel_rfl) rfl rfl rfl (find_ok _)) ?_
  refine am 17 ?_
  refine aq 21 (q_extract rfl rfl rfl) ?_
  refine aq 22 (q_extract rfl rfl rfl) ?_
  refine aa 9 ?_
  refine aa 10 ?_
  refine an ?_
  refine AGo.seq ?_
  refine asr ?_
  refine am 23 ?_
  refine aq 24 (q_not rfl rfl) ?_
  refine am 25 ?_
  refine AOps.split 25 rfl (fun hb2 => ?_) (fun hb2 => ?_)
  ·
   iterate 5 refine ak _ ?_
   refine apt ?_
   refine an ?_
   refine act ?_
   have hno : p.holds (atP f (l.take k)) = false := by
     first
     | (simpa using hb2; done)
     | (exact holds_kind (by simpa using hb2))
   refine asr ?_
   refine aa 6 ?_
   refine an ?_
   refine AGo.ret ?_
   refine ⟨[_], ⟨rfl, trivial⟩, ?_, rfl⟩
   show AV.bool _ = AV.bool _
   congr 1
   exact (leadsL_bad hp hF.2 hno).symm
  ·
   have hkd : kind35 p.kind = true := by simpa using hb2
   refine am 26 ?_
   refine al 27 tok ?_
   refine al 28 tok ?_
   refine ax 29 (o_holds hkd rfl rfl rfl ((hH p hpm).2 _ hF.1 hkd)) ?_
   refine aq 30 (q_not rfl rfl) ?_
   refine apf ?_
   refine an ?_
   refine AGo.split 31 rfl (fun hb3 => ?_) (fun hb3 => ?_)
   ·
    refine act ?_
    have hno : p.holds (atP f (l.take k)) = false := by
      first
      | (simpa using hb3; done)
      | (exact holds_kind (by simpa using hb2))
    refine asr ?_;refine aa 6 ?_;refine an ?_;refine AGo.ret ?_;refine ⟨[_], ⟨rfl, trivial⟩, ?_, rfl⟩
    show AV.bool _ = AV.bool _
    congr 1
    exact (leadsL_bad hp hF.2 hno).symm
   ·
    refine acf ?_
    have hyes : p.holds (atP f (l.take k)) = true := by simpa using hb3
    refine AGo.skip ?_;refine AGo.region ?_;refine af 32 tok ?_;refine al 33 tok ?_;refine AOps.w rfl rfl (o_store tok rfl rfl rfl rfl rfl rfl rfl rfl rfl (by decide) rfl z12q) ?_;refine an ?_;refine AGo.region ?_;refine aq 34 (q_inc rfl rfl hkl (by simp only [maxLen]; omega)) ?_;refine am 13 ?_;refine an ?_;exact ⟨k+1, Drop.mk' z6q (by repeat (first | exact HDrop.none _ _ | exact HDrop.tail _ _ | refine HDrop.put ?_ (by first | rfl | exact congrArg (fun x => some (AObj.row false 2 [BFunc.cells x])) (atP_succ f hp).symm) rfl (by first | rfl | exact slO_avoid _ _ | exact vaO_avoid _ | exact tab_avoid _ _ rfl rfl | exact wlk_avoid _ _ _ rfl rfl rfl))), ⟨by rw [atP_succ f hp]; exact (hH p hpm).1, leadsL_succ hp hF.2 hyes⟩, by omega⟩
 ·
  refine acf ?_
  have hge : l.length ≤ k := by have h := hb1; simp at h; omega
  have hE : I (atP f l) ∧ leadsL f (atP f l) l = true := by have h := hF; rwa [List.take_of_length_le hge] at h
  refine AGo.exit ?_
  refine AGo.seq ?_
  rw [List.take_of_length_le hge]
  refine AGo.region ?_
  refine al 35 tok ?_
  refine ax 36 (o_lit' tok rfl rfl rfl rfl rfl rfl (by decide) rfl rfl rfl rfl rfl rfl) ?_
  refine aq 37 (q_build tok rfl rfl rfl rfl rfl (by decide) rfl rfl rfl) ?_
  refine al 38 tok ?_
  refine ax 39 (o_lit' tok rfl rfl rfl rfl rfl rfl (by decide) rfl rfl rfl rfl rfl rfl) ?_
  refine aq 40 (q_build tok rfl rfl rfl rfl rfl (by decide) rfl rfl rfl) ?_
  refine ax 41 (o_pure rfl Tryz.func46 (by kernel_rfl) rfl rfl rfl (bsame_ok ⟨0, [atP f l]⟩ ⟨0, [g]⟩ (by simp) (fun x hx => by simp only [List.mem_singleton] at hx; subst hx; exact (hIb _ hE.1).big))) ?_
  refine aa 6 ?_
  refine an ?_
  refine AGo.ret ?_
  refine ⟨[_], ⟨rfl, trivial⟩, ?_, rfl⟩
  show AV.bool _ = AV.bool _
  congr 1
  rw [leadsL_end hE.2]
  simp
set_option maxHeartbeats 2000000 in
set_option maxRecDepth 100000 in
theorem optOf_ok (b : Blocks) (ks : List Int) (G : BFunc → Int → OPass) (I : BFunc → Prop) (hL : b.Lim) (hks : ks.length ≤ 20) (hv : ∀ k ∈ ks, kind35 k = true) (hI0 : ∀ f ∈ b.funcs, I f) (hS : ∀ f, I f → ∀ k ∈ ks, I (G f k).f ∧ APure Tryz.prog 21 [.agg f.cells, .int .i64 k] (fun r => r = .tup [.agg (G f k).f.cells, .agg (G f k).cells, .int .i64 0])) : APure Tryz.prog 15 [.agg b.cells, intsAV ks] (fun r => r = .tup [.agg (⟨b.words, b.funcs.map (fOf G ks)⟩ : Blocks).cells, listAV (b.funcs.map (psOf G ks)), .int .i64 0]) := by
 refine APure.of_body (n := 90) tok Tryz.func15 rfl rfl ?_
 refine asr ?_
 refine ax 2 (o_box (sz := 2) 0 rfl rfl rfl rfl (Nat.zero_lt_succ _) rfl) ?_
 refine ax 4 (o_alloc tok 1 rfl rfl rfl rfl (Nat.zero_lt_succ _) rfl) ?_
 refine aa 5 ?_
 refine aa 6 ?_
 refine an ?_
 refine AGo.seq ?_
 refine asr ?_
 refine am 17 ?_
 refine aq 18 (q_len tok rfl rfl rfl rfl rfl) ?_
 refine aqb ?_
 refine an ?_
 refine AGo.split 19 rfl (fun hb1 => ?_) (fun hb1 => ?_)
 ·
  refine act ?_
  refine asr ?_
  refine aq 20 (q_build tok rfl rfl rfl rfl rfl (by decide) rfl rfl rfl) ?_
  refine AOps.w rfl rfl (o_store tok rfl rfl rfl rfl rfl rfl rfl rfl rfl (by decide) rfl z12q) ?_
  refine aa 5 ?_
  refine aa 6 ?_
  refine an ?_
  refine AGo.ret ?_
  exfalso
  simp_all
  omega
 ·
  refine acf ?_
  refine AGo.skip ?_
  refine AGo.seq ?_
  refine asr ?_
  refine am 21 ?_
  refine aq 22 (q_len tok rfl rfl rfl rfl rfl) ?_
  refine am 23 ?_
  refine an ?_
  refine AGo.block ?_
  refine AGo.loopD (γ := Nat) 2 (fun k => ⟨90, (eput (eput (eput (eput (eput (eput (eput (eput eNew 1 (intsAV ks)) 2 (.ptr 0 1 0 0)) 4 (.ptr 1 1 0 0)) 5 .nil) 6 (.int .i64 0)) 21 (intsAV ks)) 22 (.int .i64 (ks.length : Int))) 23 (.int .i64 (k : Int))), (hput (hput (hFrom 2) 0 (.row false 2 [b.cells])) 1 (.row false 2 [[.int .i64 0, .nil]]))⟩) (fun k => True) (fun k => ks.length - k) 0 (Sub.mk' z4q z2q) trivial (fun _ => hput_free (hput_free (fun b hb => hFrom_free hb) rfl) rfl) ?_
  intro k _
  refine asr ?_
  refine aqb ?_
  refine an ?_
  refine AGo.seq ?_
  refine AGo.split 24 rfl (fun hb2 => ?_) (fun hb2 => ?_)
  ·
   refine act ?_
   have hkl : k < ks.length := by have h := hb2; simp at h; omega
   obtain ⟨q, hq⟩ := get_of_lt hkl
   refine AGo.skip ?_
   refine AGo.seq ?_
   refine AGo.block ?_
   refine asr ?_
   refine aq 25 (q_index_lst tok rfl rfl rfl rfl rfl rfl (Int.natCast_nonneg _) (idx_map hq) rfl) ?_
   refine al 26 tok ?_
   refine aa 8 ?_
   refine an ?_
   refine asr ?_
   refine am 28 ?_
   refine ax 29 (o_pure rfl Tryz.func31 (by kernel_rfl) rfl rfl rfl (find_ok _)) ?_
   refine am 27 ?_
   refine aq 30 (q_extract rfl rfl rfl) ?_
   refine aq 31 (q_extract rfl rfl rfl) ?_
   refine aa 9 ?_
   refine aa 10 ?_
   refine an ?_
   refine asr ?_
   refine am 32 ?_
   refine aq 33 (q_not rfl rfl) ?_
   refine an ?_
   refine AGo.split 33 rfl (fun hb3 => ?_) (fun hb3 => ?_)
   ·
    refine act ?_;refine asr ?_;refine aq 34 (q_build tok rfl rfl rfl rfl rfl (by decide) rfl rfl rfl) ?_;refine AOps.w rfl rfl (o_store tok rfl rfl rfl rfl rfl rfl rfl rfl rfl (by decide) rfl z12q) ?_;refine aa 5 ?_;refine aa 6 ?_;refine an ?_;refine AGo.ret ?_
    exfalso
    have h := hv q (List.mem_of_getElem? hq)
    simp_all
   ·
    refine acf ?_;refine AGo.skip ?_;refine AGo.region ?_;refine aq 35 (q_inc rfl rfl hkl (by simp only [maxLen]; omega)) ?_;refine am 23 ?_;refine an ?_;exact ⟨k+1, Drop.mk' z6q z3q, trivial, by omega⟩
  ·
   refine acf ?_
   skip
   refine AGo.exit ?_
   refine AGo.seq ?_
   refine AGo.draw mix ?_
   refine df 36 tok ?_
   refine dl 37 tok ?_
   refine df 38 tok ?_
   refine dl 39 tok ?_
   refine dq 40 (q_len tok rfl rfl rfl rfl rfl) ?_
   refine dx 41 (o_makeSlice tok (n := b.funcs.length) (m := b.funcs.length) 2 true rfl rfl rfl (by simp) (by simp) rfl rfl rfl rfl rfl (Nat.zero_lt_succ _) rfl (Nat.le_refl _) (by show 32 * b.funcs.length ≤ _; have := hL.n; omega) (by simp only [maxLen]; have := hL.n; omega)) ?_
   refine dq 42 (q_build tok rfl rfl rfl rfl rfl (by decide) rfl rfl rfl) ?_
   refine dx 11 (o_alloc tok 3 rfl rfl rfl rfl (Nat.zero_lt_succ _) rfl) ?_
   refine DOps.w rfl rfl (o_store tok rfl rfl rfl rfl rfl rfl rfl rfl rfl (by decide) rfl z12q) ?_
   refine DOps.nil (by kernel_rfl) ?_
   refine asr ?_
   refine af 43 tok ?_
   refine al 44 tok ?_
   refine aq 45 (q_len tok rfl rfl rfl rfl rfl) ?_
   refine ax 46 (o_makeSlice tok (n := b.funcs.length) (m := b.funcs.length) 4 false rfl rfl rfl (by simp) (by simp) rfl rfl rfl rfl rfl (Nat.zero_lt_succ _) rfl (Nat.le_refl _) (by show 24 * b.funcs.length ≤ _; have := hL.n; omega) (by simp only [maxLen]; have := hL.n; omega)) ?_
   refine aa 12 ?_
   refine an ?_
   refine AGo.seq ?_
   refine asr ?_
   refine af 47 tok ?_
   refine al 48 tok ?_
   refine aq 49 (q_len tok rfl rfl rfl rfl rfl) ?_
   refine am 50 ?_
   refine an ?_
   refine AGo.block ?_
   refine AGo.loopD (γ := Nat) 5 (fun k => ⟨90, (eput (eput (eput (eput (eput (eput (eput (eput eNew 1 (intsAV ks)) 2 (.ptr 0 1 0 0)) 4 (.ptr 1 1 0 0)) 11 (.ptr 3 1 0 0)) 12 (.ref 4 b.funcs.length 0 b.funcs.length)) 48 (funcsAV b.funcs)) 49 (.int .i64 (b.funcs.length : Int))) 50 (.int .i64 (k : Int))), (hput (hput (hput (hput (hput (hFrom 5) 0 (.row false 2 [b.cells])) 1 (.row false 2 [[.int .i64 0, .nil]])) 2 (.row true 2 ((((b.funcs.map (fOf G ks)).take (k)).map BFunc.cells) ++ List.replicate (b.funcs.length - (k)) [AV.int .i64 0, AV.nil]))) 3 (.row false 2 [[.int .i64 b.words, .ref 2 b.funcs.length 0 b.funcs.length]])) 4 (.row false 1 ((((b.funcs.map (psOf G ks)).take (k)).map (fun x => [passesAV x])) ++ List.replicate (b.funcs.length - (k)) [AV.nil])))⟩) (fun k => k ≤ b.funcs.length) (fun k => b.funcs.length - k) 0 (Sub.mk' z4q z2q) (Nat.zero_le _) (fun _ => hput_free (hput_free (hput_free (hput_free (hput_free (fun b hb => hFrom_free hb) rfl) rfl) rfl) rfl) rfl) ?_
   intro k hk
   refine asr ?_
   refine aqb ?_
   refine an ?_
   refine AGo.seq ?_
   refine AGo.split 51 rfl (fun hb4 => ?_) (fun hb4 => ?_)
   ·
    refine act ?_
    have hkl : k < b.funcs.length := by have h := hb4; simp at h; omega
    obtain ⟨f, hf⟩ := get_of_lt hkl
    have hfI := hI0 f (List.mem_of_getElem? hf)
    refine AGo.skip ?_;refine AGo.seq ?_;refine AGo.block ?_;refine asr ?_;refine am 52 ?_;refine aq 53 (q_index_lst tok rfl rfl rfl rfl rfl rfl (Int.natCast_nonneg _) (idx_map hf) rfl) ?_;refine al 54 tok ?_;refine ax 14 (o_alloc tok 5 rfl rfl rfl rfl (Nat.zero_lt_succ _) rfl) ?_;refine aa 13 ?_;refine AOps.w rfl rfl (o_store tok rfl rfl rfl rfl rfl rfl rfl rfl rfl (by decide) rfl z12q) ?_;refine an ?_;refine asr ?_;refine am 55 ?_;refine am 56 ?_;refine am 57 ?_;refine aq 58 (q_len tok rfl rfl rfl rfl rfl) ?_;refine ax 59 (o_makeSlice tok (n := ks.length) (m := ks.length) 6 true rfl rfl rfl (by simp) (by simp) rfl rfl rfl rfl rfl (Nat.zero_lt_succ _) rfl (Nat.le_refl _) (by show 88 * ks.length ≤ _; omega) (by simp only [maxLen]; omega)) ?_;refine aq 60 (q_index_ref tok rfl rfl rfl rfl rfl rfl rfl (fill_len (by simp : (b.funcs.map (psOf G ks)).length = b.funcs.length) (Nat.le_of_lt hkl)) rfl (Int.natCast_nonneg _) (by omega)) ?_
    refine AOps.w rfl rfl (o_store tok rfl rfl rfl rfl rfl rfl (fill_len (by simp : (b.funcs.map (psOf G ks)).length = b.funcs.length) (Nat.le_of_lt hkl)) (fill_get (by simp : (b.funcs.map (psOf G ks)).length = b.funcs.length) hkl) rfl (by decide) rfl z12q) ?_;refine an ?_;refine AGo.seq ?_;refine asr ?_;refine am 61 ?_;refine aq 62 (q_len tok rfl rfl rfl rfl rfl) ?_;refine am 63 ?_;refine an ?_;refine AGo.block ?_;refine AGo.loopD (γ := Nat) 7 (fun j => ⟨90, (eput (eput (eput (eput (eput (eput (eput (eput (eput (eput (eput (eput (eput eNew 1 (intsAV ks)) 2 (.ptr 0 1 0 0)) 4 (.ptr 1 1 0 0)) 11 (.ptr 3 1 0 0)) 12 (.ref 4 b.funcs.length 0 b.funcs.length)) 48 (funcsAV b.funcs)) 49 (.int .i64 (b.funcs.length : Int))) 50 (.int .i64 (k : Int))) 13 (.int .i64 (k : Int))) 14 (.ptr 5 1 0 0)) 61 (intsAV ks)) 62 (.int .i64 (ks.length : Int))) 63 (.int .i64 (j : Int))), (hput (hput (hput (hput (hput (hput (hput (hFrom 7) 0 (.row false 2 [b.cells])) 1 (.row false 2 [[.int .i64 0, .nil]])) 2 (.row true 2 ((((b.funcs.map (fOf G ks)).take (k)).map BFunc.cells) ++ List.replicate (b.funcs.length - (k)) [AV.int .i64 0, AV.nil]))) 3 (.row false 2 [[.int .i64 b.words, .ref 2 b.funcs.length 0 b.funcs.length]])) 4 (.row false 1 (((((b.funcs.map (psOf G ks)).take (k)).map (fun x => [passesAV x])) ++ List.replicate (b.funcs.length - (k)) [AV.nil]).set (0 + ((k : Nat) : Int).toNat) [AV.ref 6 ks.length 0 ks.length]))) 5 (.row false 2 [(fOf G (ks.take j) f).cells])) 6 (.row true 5 ((((psOf G ks f).take j).map OPass.cells) ++ List.replicate (ks.length - j) [AV.int .i64 0, AV.nil, AV.nil, AV.int .i64 0, AV.nil])))⟩) (fun j => j ≤ ks.length ∧ I (fOf G (ks.take j) f)) (fun j => ks.length - j) 0 (Sub.mk' z4q z2q) ⟨Nat.zero_le _, hfI⟩ (fun _ => hput_free (hput_free (hput_free (hput_free (hput_free (hput_free (hput_free (fun b hb => hFrom_free hb) rfl) rfl) rfl) rfl) rfl) rfl) rfl) ?_
    intro j hJ
    refine asr ?_;refine aqb ?_;refine an ?_;refine AGo.seq ?_;refine AGo.split 64 rfl (fun hb5 => ?_) (fun hb5 => ?_)
    ·
     refine act ?_
     have hjl : j < ks.length := by have h := hb5; simp at h; omega
     obtain ⟨q, hq⟩ := get_of_lt hjl
     have hqs := hS _ hJ.2 q (List.mem_of_getElem? hq)
     refine AGo.skip ?_;refine AGo.seq ?_;refine AGo.block ?_;refine asr ?_;refine am 65 ?_;refine aq 66 (q_index_lst tok rfl rfl rfl rfl rfl rfl (Int.natCast_nonneg _) (idx_map hq) rfl) ?_;refine al 67 tok ?_;refine aa 15 ?_;refine aa 16 ?_;refine an ?_;refine AGo.draw mix ?_;refine dm 69 ?_;refine dm 70 ?_;refine dq 71 (q_index_ref tok rfl rfl rfl rfl rfl rfl rfl (fill_set_len (by simp : (b.funcs.map (psOf G ks)).length = b.funcs.length) (Nat.le_of_lt hkl)) rfl (Int.natCast_nonneg _) (by omega)) ?_;refine dq 72 (q_load tok rfl rfl rfl (.ptr _ _ _ _ _ _ _ _ rfl (fill_set_len (by simp : (b.funcs.map (psOf G ks)).length = b.funcs.length) (Nat.le_of_lt hkl)) (fill_set_get (by simp : (b.funcs.map (psOf G ks)).length = b.funcs.length) hkl)) rfl) ?_;refine dm 73 ?_;refine dl 74 tok ?_;refine dm 75 ?_;refine dx 76 (o_pure rfl Tryz.func21 (by kernel_rfl) rfl rfl rfl ((hS _ hJ.2 q (List.mem_of_getElem? hq)).2)) ?_
     refine dm 68 ?_;refine dq 77 (q_extract rfl rfl rfl) ?_;refine dq 78 (q_extract rfl rfl rfl) ?_;refine dq 79 (q_extract rfl rfl rfl) ?_;refine DOps.w rfl rfl (o_store tok rfl rfl rfl rfl rfl rfl rfl rfl rfl (by decide) rfl z12q) ?_;refine dq 80 (q_index_ref tok rfl rfl rfl rfl rfl rfl rfl (fill_len (psOf_len G ks f) (Nat.le_of_lt hjl)) rfl (Int.natCast_nonneg _) (by omega)) ?_;refine DOps.w rfl rfl (o_store tok rfl rfl rfl rfl rfl rfl (fill_len (psOf_len G ks f) (Nat.le_of_lt hjl)) (fill_get (psOf_len G ks f) hjl) rfl (by decide) rfl z12q) ?_;refine DOps.nil (by kernel_rfl) ?_;refine AGo.region ?_;refine aq 81 (q_inc rfl rfl hjl (by simp only [maxLen]; omega)) ?_;refine am 63 ?_;refine an ?_;exact ⟨j+1, Drop.mk' z6q (by repeat (first | exact HDrop.none _ _ | exact HDrop.tail _ _ | refine HDrop.put ?_ (by first | rfl | exact congrArg (fun x => some (AObj.row false 2 [BFunc.cells x])) (fOf_succ hq).symm | exact congrArg (fun es => some (AObj.row true 5 es)) (fill_put (f := OPass.cells) (x := G (fOf G (ks.take j) f) q) (psOf_len G ks f) (psOf_get hq))) rfl (by first | rfl | exact rowP_avoid | exact rowPs_avoid rfl))), ⟨hjl, by rw [fOf_succ hq]; exact hqs.1⟩, by omega⟩
    ·
     refine acf ?_
     have hge2 : ks.length ≤ j := by have h := hb5; simp at h; omega
     refine AGo.exit ?_;refine AGo.ghost (.freezeCell 4 (0 + ((k : Nat) : Int).toNat) 0 6 rfl (fill_set_get (by simp : (b.funcs.map (psOf G ks)).length = b.funcs.length) hkl) rfl rfl (fill_len (psOf_len G ks f) hJ.1) (by decide)) ?_
     have hrow : (((((b.funcs.map (psOf G ks)).take (k)).map (fun x => [passesAV x])) ++ List.replicate (b.funcs.length - (k)) [AV.nil]).set (0 + ((k : Nat) : Int).toNat) [AV.ref 6 ks.length 0 ks.length]).set (0 + ((k : Nat) : Int).toNat) ([AV.ref 6 ks.length 0 ks.length].set 0 (.lst false ((((((psOf G ks f).take j).map OPass.cells) ++ List.replicate (ks.length - j) [AV.int .i64 0, AV.nil, AV.nil, AV.int .i64 0, AV.nil]).drop 0).take ks.length))) = ((((b.funcs.map (psOf G ks)).take (k + 1)).map (fun x => [passesAV x])) ++ List.replicate (b.funcs.length - (k + 1)) [AV.nil]) := by
       rw [set_set_eq, fill_end (psOf_len G ks f) hge2]
       exact fill_put (f := fun x => [passesAV x]) (x := psOf G ks f) (by simp : (b.funcs.map (psOf G ks)).length = b.funcs.length) (by rw [List.getElem?_map, hf]; rfl)
     rw [hrow, List.take_of_length_le hge2]
     refine AGo.region ?_;refine af 82 tok ?_;refine al 83 tok ?_;refine am 84 ?_;refine al 85 tok ?_;refine aq 86 (q_index_ref tok rfl rfl rfl rfl rfl rfl rfl (fill_len (by simp : (b.funcs.map (fOf G ks)).length = b.funcs.length) (Nat.le_of_lt hkl)) rfl (Int.natCast_nonneg _) (by omega)) ?_;refine AOps.w rfl rfl (o_store tok rfl rfl rfl rfl rfl rfl (fill_len (by simp : (b.funcs.map (fOf G ks)).length = b.funcs.length) (Nat.le_of_lt hkl)) (fill_get (by simp : (b.funcs.map (fOf G ks)).length = b.funcs.length) hkl) rfl (by decide) rfl z12q) ?_;refine an ?_;refine AGo.region ?_;refine aq 87 (q_inc rfl rfl hkl (by simp only [maxLen]; have := hL.n; omega)) ?_;refine am 50 ?_;refine an ?_;exact ⟨k+1, Drop.mk' z6q (by repeat (first | exact HDrop.none _ _ | exact HDrop.tail _ _ | refine HDrop.put ?_ (by first | rfl | exact congrArg (fun es => some (AObj.row true 2 es)) (fill_put (f := BFunc.cells) (x := fOf G ks f) (by simp : (b.funcs.map (fOf G ks)).length = b.funcs.length) (by rw [List.getElem?_map, hf]; rfl)) | exact congrArg (fun es => some (AObj.row false 1 es)) hrow) rfl (by first | rfl | exact rowP_avoid | exact rowPs_avoid rfl))), hkl, by omega⟩
   ·
    refine acf ?_
    have hge : b.funcs.length ≤ k := by have h := hb4; simp at h; omega
    refine AGo.exit ?_;refine AGo.seq ?_;refine AGo.ghost (.freezeCell 3 0 1 2 rfl rfl rfl rfl (fill_len (by simp : (b.funcs.map (fOf G ks)).length = b.funcs.length) hk) (by decide)) ?_
    rw [fill_end (by simp : (b.funcs.map (fOf G ks)).length = b.funcs.length) hge]
    have hr4 : ((((b.funcs.map (psOf G ks)).take (k)).map (fun x => [passesAV x])) ++ List.replicate (b.funcs.length - (k)) [AV.nil]) = (b.funcs.map (psOf G ks)).map (fun x => [passesAV x]) := by have h := fill_end (f := fun x => [passesAV x]) (z := [AV.nil]) (by simp : (b.funcs.map (psOf G ks)).length = b.funcs.length) hge; rwa [List.drop_zero, List.take_of_length_le (by have := fill_len (f := fun x => [passesAV x]) (z := [AV.nil]) (by simp : (b.funcs.map (psOf G ks)).length = b.funcs.length) hk; omega)] at h
    rw [hr4]
    refine AGo.ghost (.plain 4 rfl (passes_pure1 _)) ?_;refine AGo.ghost (.freezeA 12 4 rfl rfl (by simp)) ?_;refine AGo.region ?_;refine al 88 tok ?_;refine am 89 ?_;refine AOps.w rfl rfl (o_store tok rfl rfl rfl rfl rfl rfl rfl rfl rfl (by decide) rfl z12q) ?_;refine aa 5 ?_;refine aa 6 ?_;refine an ?_;refine AGo.ret ?_;refine ⟨[_, _, _], ⟨⟨_, _, _, _, rfl, rfl, .ptr _ _ _ _ _ _ _ _ rfl rfl rfl, rfl⟩, rfl, rfl, trivial⟩, ?_, rfl⟩
    rfl
set_option maxHeartbeats 2000000 in
set_option maxRecDepth 100000 in
theorem optimizeNone_ok (a b : Blocks) (hA : a.Lim) (hB : b.Lim) : APure Tryz.prog 8 [.agg a.cells, .agg b.cells] (fun r => r = .bool true) := by
 refine APure.of_body (n := 56) tok Tryz.func8 rfl rfl ?_
 refine asr ?_
 refine ax 2 (o_box (sz := 2) 0 rfl rfl rfl rfl (Nat.zero_lt_succ _) rfl) ?_
 refine ax 3 (o_box (sz := 2) 1 rfl rfl rfl rfl (Nat.zero_lt_succ _) rfl) ?_
 refine aa 4 ?_
 refine an ?_
 refine AGo.seq ?_
 refine asr ?_
 refine al 9 tok ?_
 refine ax 10 (o_pure rfl Tryz.func13 (by kernel_rfl) rfl rfl rfl (small35_ok a hA)) ?_
 refine aq 11 (q_not rfl rfl) ?_
 refine am 12 ?_
 refine AOps.split 12 rfl (fun hb1 => ?_) (fun hb1 => ?_)
 ·
  iterate 3 refine ak _ ?_
  refine apt ?_
  refine an ?_
  refine act ?_
  refine asr ?_
  refine ax 17 (o_pure rfl Tryz.func14 (by kernel_rfl) rfl rfl rfl (awake_ev tiny_of vlog_ok)) ?_
  refine aa 4 ?_
  refine an ?_
  refine AGo.ret ?_
  refine ⟨[_], ⟨rfl, trivial⟩, ?_, rfl⟩
  rfl
 ·
  refine al 13 tok ?_
  refine ax 14 (o_pure rfl Tryz.func13 (by kernel_rfl) rfl rfl rfl (small35_ok b hB)) ?_
  refine aq 15 (q_not rfl rfl) ?_
  refine apf ?_
  refine an ?_
  refine AGo.split 16 rfl (fun hb2 => ?_) (fun hb2 => ?_)
  ·
   refine act ?_
   refine asr ?_
   refine ax 17 (o_pure rfl Tryz.func14 (by kernel_rfl) rfl rfl rfl (awake_ev tiny_of vlog_ok)) ?_
   refine aa 4 ?_
   refine an ?_
   refine AGo.ret ?_
   refine ⟨[_], ⟨rfl, trivial⟩, ?_, rfl⟩
   rfl
  ·
   refine acf ?_
   have hSa := small35_of (b := a) (by simpa using hb1)
   have hSb := small35_of (b := b) (by simpa using hb2)
   refine AGo.skip ?_
   refine asr ?_
   refine al 19 tok ?_
   refine ax 20 (o_pure rfl Tryz.func15 (by kernel_rfl) rfl rfl rfl (APure.nil2 (optOf_none a hA (optOf_ok a [] noG (fun _ => True) hA (by decide) (fun _ h => by cases h) (fun _ _ => trivial) (fun _ _ _ h => by cases h))))) ?_
   refine am 18 ?_
   refine aq 21 (q_extract rfl rfl rfl) ?_
   refine aq 22 (q_extract rfl rfl rfl) ?_
   refine aq 23 (q_extract rfl rfl rfl) ?_
   refine ax 5 (o_alloc tok 2 rfl rfl rfl rfl (Nat.zero_lt_succ _) rfl) ?_
   refine AOps.w rfl rfl (o_store tok rfl rfl rfl rfl rfl rfl rfl rfl rfl (by decide) rfl z12q) ?_
   refine aa 6 ?_
   refine aa 7 ?_
   refine an ?_
   refine asr ?_
   refine af 24 tok ?_
   refine al 25 tok ?_
   refine aq 26 (q_len tok rfl rfl rfl rfl rfl) ?_
   refine ax 27 (o_makeSlice tok (n := a.funcs.length) (m := a.funcs.length) 3 false rfl rfl rfl (by simp) (by simp) rfl rfl rfl rfl rfl (Nat.zero_lt_succ _) rfl (Nat.le_refl _) (by show 24 * a.funcs.length ≤ _; have := hA.n; omega) (by simp only [maxLen]; have := hA.n; omega)) ?_
   refine aa 8 ?_
   refine an ?_
   refine AGo.seq ?_
   refine AGo.ghost (Ghost.weakRowF 3 (es' := List.replicate a.funcs.length [passesAV []]) rfl (by rw [List.length_replicate, List.length_replicate]) weak_rep) ?_
   refine AGo.ghost (.plain 3 rfl (fun cs h => by rw [(List.mem_replicate.1 h).2]; rfl)) ?_
   refine AGo.ghost (.freezeA 8 3 rfl rfl (by simp)) ?_
   refine AGo.draw mix ?_
   refine dx 28 (o_pure rfl Tryz.func14 (by kernel_rfl) rfl rfl rfl (awake_ev tiny_of vlog_ok)) ?_
   refine dm 29 ?_
   refine dm 30 ?_
   refine dq 31 (q_bin (r := .bool true) rfl rfl rfl (by rfl)) ?_
   refine dq 32 (q_pick_true true rfl rfl rfl rfl) ?_
   refine dm 33 ?_
   refine dm 34 ?_
   refine dq 35 (q_len tok rfl rfl rfl rfl rfl) ?_
   refine df 36 tok ?_
   refine dl 37 tok ?_
   refine dq 38 (q_len tok rfl rfl rfl rfl rfl) ?_
   refine dq 39 (q_bin (r := .bool true) rfl rfl rfl (by rw [List.length_map, List.length_map, List.length_replicate]; exact eql_same _)) ?_
   refine dq 40 (q_pick_true true rfl rfl rfl rfl) ?_
   refine dm 41 ?_
   refine dl 42 tok ?_
   refine dl 43 tok ?_
   refine dx 44 (o_pure rfl Tryz.func25 (by kernel_rfl) rfl rfl rfl ((rsame_ok a a hA.big0 hA.big1).mono (fun r h => by rw [h, decide_eq_true rfl]))) ?_
   refine dq 45 (q_pick_true true rfl rfl rfl rfl) ?_
   refine dm 46 ?_
   refine dl 47 tok ?_
   refine dl 48 tok ?_
   refine dm 49 ?_
   refine dx 50 (o_pure rfl Tryz.func18 (by kernel_rfl) rfl rfl rfl (check_none a b hSa.r hSb.r (check35_ok a b (List.replicate a.funcs.length []) hA.n (fun _ _ f hf g hg l hl => by rw [(List.mem_replicate.1 hl).2]; exact leads35_ok f g [] (by decide) BFunc.Lim (hA.f hf) (fun _ h => h) (fun p h => by cases h))))) ?_
   refine dl 51 tok ?_
   refine dl 52 tok ?_
   refine dx 53 (o_pure rfl Tryz.func25 (by kernel_rfl) rfl rfl rfl (rsame_ok a b hA.big0 hA.big1)) ?_
   refine dq 54 (q_boolSame (q_boolEq tok false rfl rfl rfl rfl rfl)) ?_
   refine dq 55 (q_pick_true true rfl rfl rfl rfl) ?_
   refine da 4 ?_
   refine DOps.nil (by kernel_rfl) ?_
   refine AGo.ret ?_
   refine ⟨[_], ⟨rfl, trivial⟩, ?_, rfl⟩
   rfl
end Go.Proofs.YtbbfelelocccmaaGreat.Sv

namespace Go.Proofs.YtbbfelelocccmaaGreat
open Go.ChangeShapes Go.WideShapes Go.ChangeAt Go.RowKit Sv
set_option linter.unusedVariables false

set_option maxRecDepth 100000 in
theorem optimizeNone_lifted (os : Os) (started : os.Started) (H : Type) (enc : TypeId × Value → H) (F : Stop.Interp) :
    ReturnsInHanded {} Tryz.checked os 8 .any ((Rows.OpenSpec.upto Rows.optimizeNoneSpec).pre6 enc Tryz.prog Tryz.f8 Rows.optimizeNoneUptoRow.domain false) (((Rows.OpenSpec.upto Rows.optimizeNoneSpec).at F).post enc Tryz.prog Tryz.f8 false true false false) := by
  refine returnsInHanded_of_cond_sized (C := Tryz.checked) (s := Rows.OpenSpec.upto Rows.optimizeNoneSpec) (k := Rows.uptoSmall) rfl own' started (by kernel_rfl) Tryz.func8
    (OpenSpec.witness (enc := enc) (C := Tryz.checked) (s := Rows.OpenSpec.upto Rows.optimizeNoneSpec) (k := Rows.uptoSmall) rfl false ⟨#[], #[.agg #[.int .i64 0, .slice none 0 0], .agg #[.int .i64 0, .slice none 0 0]], []⟩ 8 (by kernel_rfl) (by kernel_rfl) (by kernel_rfl) (x := ([.agg [.lit (.int .i64 0), .nil], .agg [.lit (.int .i64 0), .nil]], [], [])) (by kernel_rfl) rfl (by kernel_rfl)) ?_
  intro W base args ds gs before hval0 hW hcnd hk hwt0 hh
  have hval : ∀ (j : Nat) t v, Tryz.f8.params[j]? = some t → args[j]? = some v → Value.okWide Tryz.prog W .any base t v := hval0
  have hW' := hW
  obtain ⟨p, q, hA0, hV, rfl, hfz, hnd⟩ := hW
  have hA : DataW.TrodAll enc Tryz.prog W 0 (fun _ => true) true Tryz.f8.params.toList args.toList ds p := hA0
  have hwt : (DataW.weightsEach Tryz.prog (Tryz.f8.params.toList ++ (Rows.OpenSpec.upto Rows.optimizeNoneSpec).bare.plain.varTypes Tryz.prog) (ds ++ gs)).all (· ≤ reachBytes) = true := hwt0
  rw [Tryz.params8] at hA hval hwt
  obtain ⟨v0, vs0, d0, ds0, p0, q0, hargs, rfl, rfl, h0, r0⟩ := trodAll_cons hA
  obtain ⟨v1, vs1, d1, ds1, p1, q1, rfl, rfl, rfl, h1, r1⟩ := trodAll_cons r0
  obtain ⟨rfl, rfl, rfl⟩ := trodAll_nil r1
  obtain rfl : args = #[v0, v1] := by cases args; simp_all
  obtain ⟨rfl, rfl⟩ := trodVars_none hV
  obtain ⟨x0, e0, g0⟩ := arg_oneR h0 (weightsEach_get hwt (i := 0) rfl rfl) decBlocksR
  have u0 := upto_get hk (i := 0) rfl
  obtain ⟨x1, e1, g1⟩ := arg_oneR h1 (weightsEach_get hwt (i := 1) rfl rfl) decBlocksR
  have u1 := upto_get hk (i := 1) rfl
  exact law_calls laidOut' rfl (by kernel_rfl) rfl bool' rfl rfl rfl hW' (.cons (e0.val (okWide_agg tok rfl rfl (hval 0 24 v0 rfl rfl))) (.cons (e1.val (okWide_agg tok rfl rfl (hval 1 24 v1 rfl rfl))) .nil)) (optimizeNone_ok x0 x1 (lim_row g0 u0) (lim_row g1 u1)) (fun g l h => by cases h)

theorem optimizeNone_holds : Rows.OptimizeNoneUptoSaid :=
  OpenClaim.holds_of_cond 8 Tryz.f8 rfl rfl rfl rfl rfl rfl rfl ⟨rfl, rfl, rfl, rfl, rfl⟩ rfl rfl rfl rfl rfl (by kernel_rfl) Tryz.func8 (by kernel_rfl)
    (of_decide_eq_true (by kernel_rfl)) (by unfold Func.isWrapper; first | (rw [if_pos (by decide +kernel)]; kernel_rfl) | (rw [if_neg (by decide +kernel)]; exact ⟨rfl, rfl⟩))
    (fun os started H enc _ F => optimizeNone_lifted os started H enc F)

end Go.Proofs.YtbbfelelocccmaaGreat
