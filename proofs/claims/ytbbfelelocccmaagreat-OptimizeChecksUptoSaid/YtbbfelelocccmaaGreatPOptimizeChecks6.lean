/-
  WALKS: printed by a program of our own from the code's tree.
-/
import Derived.Test.YtbbfelelocccmaaGreatPOptimizeChecks3
import Derived.Test.YtbbfelelocccmaaGreatPOptimizeChecks2
import Derived.Test.YtbbfelelocccmaaGreatPOptimizeChecks5
import Derived.Test.YtbbfelelocccmaaGreatPOptimizeChecks4
set_option linter.unusedVariables false
set_option linter.unusedSimpArgs false
set_option maxRecDepth 100000
set_option maxHeartbeats 2000000
namespace Go.Proofs.YtbbfelelocccmaaGreat.Sv
open Go
theorem equal_ok (l r : List Tac) (hl : l.length ≤ 1000000000) : APure Tryz.prog 152 [insAV l, insAV r] (fun q => q = .bool (decide (l = r))) := by
 refine APure.of_body (n := 26) tok Tryz.func152 rfl rfl ?_;refine asr ?_;refine aa 4 ?_;refine an ?_;refine asq ?_;refine asr ?_;refine aQ tok 5 rfl ?_;refine an ?_;refine asp 10 (fun hb1 => ?_) fun hb1 => ?_
 ·
  refine act ?_;refine asr ?_;refine aa 4 ?_;refine an ?_;refine agt ⟨[_], ⟨rfl, trivial⟩, ?_, rfl⟩
  refine bc ?_;exact (decide_eq_false (by rintro rfl; simp_all)).symm
 refine acf ?_
 have hlr : l.length = r.length := by have h := hb1; simp at h; omega
 refine agk ?_;refine asq ?_;refine asr ?_;refine aQ tok 3 rfl ?_;refine an ?_;refine AGo.block ?_;refine AGo.loopI (γ := Nat) (fun k => ⟨26, (eput (eput (eput (eput (eput eNew 0 (insAV l)) 1 (insAV r)) 11 (insAV l)) 12 (.int .i64 (l.length : Int))) 13 (.int .i64 (k : Int))), hNone⟩) (fun k => l.take k = r.take k) (fun k => l.length - k) 0 (Sub.mk' z29q z12q) rfl ?_
 intro k ht
 refine asr ?_;refine aqb ?_;refine an ?_;refine asq ?_;refine asp 14 (fun hb2 => ?_) fun hb2 => ?_
 ·
  refine act ?_
  have hkl : k < l.length := by simpa using hb2
  obtain ⟨x, hx⟩ := get_of_lt hkl
  obtain ⟨y, hy⟩ := get_of_lt (l := r) (k := k) (by omega)
  refine agk ?_;refine asq ?_;refine AGo.block ?_;refine asr ?_;refine aQ tok 2 rfl ?_;refine an ?_;refine asq ?_;refine AGo.draw mix ?_;refine dQ tok 2 rfl ?_;refine dq 18 (q_index_lst tok rfl rfl rfl rfl rfl rfl (Int.natCast_nonneg _) (idx_map (by assumption)) rfl) ?_;refine dQ tok 3 rfl ?_;refine dq 22 (q_index_lst tok rfl rfl rfl rfl rfl rfl (Int.natCast_nonneg _) (idx_map (by assumption)) rfl) ?_;refine dl 23 tok ?_;refine dq 24 (q_eqStruct tok true rfl rfl rfl (by kernel_rfl) rfl rfl rfl rfl (Tac.eqCells x y)) ?_;refine DOps.nil (by kernel_rfl) ?_;refine asp 24 (fun hb3 => ?_) fun hb3 => ?_
  ·
   refine act ?_
   have hxy : x ≠ y := by simpa using hb3
   refine asr ?_;refine aa 4 ?_;refine an ?_;refine agt ⟨[_], ⟨rfl, trivial⟩, ?_, rfl⟩
   refine bc ?_;exact (decide_eq_false (by rintro rfl; rw [hx] at hy; cases hy; exact hxy rfl)).symm
  refine acf ?_
  have hxy : x = y := by simpa using hb3
  refine agk ?_;refine agr ?_;refine aq 25 (q_inc rfl rfl hkl (by simp only [maxLen]; omega)) ?_;refine am 13 ?_;refine an ?_;exact ⟨k+1, Sub.mk' z46q z12q, (by rw [take_succ_eq hx, take_succ_eq hy, ht, hxy]), by omega⟩
 refine acf ?_
 have hge : l.length ≤ k := by simpa using hb2
 refine AGo.exit ?_;refine asr ?_;refine aa 4 ?_;refine an ?_;refine agt ⟨[_], ⟨rfl, trivial⟩, ?_, rfl⟩
 refine bc ?_;exact (decide_eq_true (take_all ht hge (hlr ▸ hge))).symm
theorem follows_ok (f : BFunc) (p : List Int) (hp : inF f.blocks.length p) (hpl : p.length ≤ 2000000) : APure Tryz.prog 145 [.agg f.cells, intsAV p] (fun r => r = .bool (followsB f p)) := by
 have hpos : 0 < p.length := List.length_pos_iff.2 hp.1
 refine APure.of_body (n := 38) tok Tryz.func145 rfl rfl ?_;refine asr ?_;refine ax 2 (obx 2 0) ?_;refine aa 4 ?_;refine an ?_;refine asq ?_;refine asr ?_;refine aQ tok 3 rfl ?_;refine aq 11 (q_bin (r := .int .i64 ((p.length - 1 : Nat) : Int)) rfl rfl rfl (by rw [List.length_map]; exact len_pred hpos (by omega))) ?_;refine aq 12 (q_front (m := p.length - 1) (es := intCells p) tok rfl rfl rfl rfl rfl rfl (by rw [intCells_len]; omega) (by intro cs h; simp [intCells] at h; obtain ⟨n, _, rfl⟩ := h; rfl)) ?_;refine aQ tok 2 rfl ?_;refine an ?_;refine AGo.block ?_;refine AGo.loopD (γ := Nat) 1 (fun k => ⟨38, (eput (eput (eput (eput (eput eNew 1 (intsAV p)) 2 (.ptr 0 1 0 0)) 12 (.lst false ((intCells p).take (p.length - 1)))) 13 (.int .i64 ((p.length - 1 : Nat) : Int))) 14 (.int .i64 (k : Int))), (hput (hFrom 1) 0 (.row false 2 [f.cells]))⟩) (fun k => ((List.range (p.length - 1)).take k).all (okAt f p) = true) (fun k => p.length - 1 - k) 0 (Sub.mk' (by repeat (first | exact ESub.new _ | refine ESub.put ?_ (by first | rfl | exact congrArg (fun (n : Nat) => some (AV.int .i64 (n : Int))) (by simp [intCells_len])))) z12q) rfl (fun _ => hput_free (fun b hb => hFrom_free hb) rfl) ?_
 intro k hall
 refine asr ?_;refine aqb ?_;refine an ?_;refine asq ?_;refine asp 15 (fun hb1 => ?_) fun hb1 => ?_
 ·
  refine act ?_
  have hkl : k < p.length - 1 := by have h := hb1; simp [intCells_len] at h; omega
  obtain ⟨y, hy⟩ := get_of_lt (l := p) (k := k) (by omega)
  obtain ⟨z, hz⟩ := get_of_lt (l := p) (k := k + 1) (by omega)
  have hyr := hp.2 y (List.mem_of_getElem? hy)
  have hat : okAt f p k = ((f.blockAt y).fin == 1 && (f.blockAt y).to == z) := by rw [okAt, iget_get hy, iget_get hz]
  refine agk ?_;refine asq ?_;refine AGo.block ?_;refine asr ?_;refine am 16 ?_;refine aq 17 (q_index_lst tok rfl rfl rfl rfl rfl rfl (Int.natCast_nonneg _) (cs := [.int .i64 y]) (by rw [Int.toNat_natCast, List.getElem?_take_of_lt hkl, intCells, List.getElem?_map, hy]; rfl) rfl) ?_;refine aQ tok 3 rfl ?_;refine an ?_;refine asr ?_;refine aQ tok 3 rfl ?_;refine aq 22 (q_index_lst tok rfl rfl rfl rfl rfl rfl hyr.1 (idx_mapZ (blockAt_get hyr)) rfl) ?_;refine al 23 tok ?_;refine ax 7 (oal tok 1) ?_;refine AOps.w rfl rfl (o_store tok rfl rfl rfl rfl rfl rfl rfl rfl rfl (by decide) rfl z51q) ?_;refine an ?_;refine asq ?_;refine AGo.draw mix ?_;refine dQ tok 4 rfl ?_;refine DOps.split 27 rfl (fun hb2 => ?_) (fun hb2 => ?_)
  ·
   refine dQ tok 9 rfl ?_;refine DOps.nil (by kernel_rfl) ?_;refine act ?_;refine asr ?_;refine aa 4 ?_;refine an ?_;refine agt ⟨[_], ⟨rfl, trivial⟩, ?_, rfl⟩
   refine bc ?_;exact (all_bad (range_get hkl) (by rw [hat]; simp_all)).symm
  refine dQ tok 4 rfl ?_;refine dq 32 (q_inc rfl rfl hkl (show p.length - 1 ≤ maxLen by simp only [maxLen]; omega)) ?_
  refine dq 33 (q_index_lst tok rfl rfl rfl rfl rfl rfl (Int.natCast_nonneg _) (cs := [.int .i64 z]) (by rw [Int.toNat_natCast]; show (List.map (fun b => [AV.int .i64 b]) p)[k + 1]? = _; rw [List.getElem?_map, hz]; rfl) rfl) ?_;refine dQ tok 3 rfl ?_;refine DOps.nil (by kernel_rfl) ?_;refine asp 36 (fun hb3 => ?_) fun hb3 => ?_
  ·
   refine act ?_;refine asr ?_;refine aa 4 ?_;refine an ?_;refine agt ⟨[_], ⟨rfl, trivial⟩, ?_, rfl⟩
   refine bc ?_;exact (all_bad (range_get hkl) (by rw [hat]; simp_all)).symm
  refine acf ?_;refine agk ?_;refine agr ?_;refine aq 37 (q_inc rfl rfl hkl (show p.length - 1 ≤ maxLen by simp only [maxLen]; omega)) ?_
  refine am 14 ?_;refine an ?_;exact ⟨k+1, Drop.mk' z31q z18q, (all_succ (range_get hkl) hall (by rw [hat]; simp_all)), by omega⟩
 refine acf ?_
 have hge : p.length - 1 ≤ k := by have h := hb1; simp [intCells_len] at h; omega
 refine AGo.exit ?_;refine asr ?_;refine aa 4 ?_;refine an ?_;refine agt ⟨[_], ⟨rfl, trivial⟩, ?_, rfl⟩
 refine bc ?_;exact (all_end hall (by simpa using hge)).symm
theorem made_ok (f : BFunc) (b : Block) (p : List Int) (hp : inF f.blocks.length p) (hpl : p.length ≤ 2000000) (hbl : b.ins.length ≤ 1000000000) : APure Tryz.prog 146 [.agg f.cells, .agg b.cells, intsAV p] (fun r => r = .bool (madeR f b.ins p)) := by
 refine APure.of_body (n := 47) tok Tryz.func146 rfl rfl ?_;refine asr ?_;refine ax 3 (obx 2 0) ?_;refine ax 4 (obx 5 1) ?_;refine aa 6 ?_;refine an ?_;refine asr ?_;refine aQ tok 3 rfl ?_;refine an ?_;refine asq ?_;refine asr ?_;refine aQ tok 3 rfl ?_;refine an ?_;refine AGo.block ?_;refine AGo.loopD (γ := MG) 2 (fun q => ⟨47, (eput (eput (eput (eput (eput eNew 3 (.ptr 0 1 0 0)) 7 (insAV q.rest)) 13 (intsAV p)) 14 (.int .i64 (p.length : Int))) 15 (.int .i64 (q.k : Int))), (hput (hFrom 2) 0 (.row false 2 [f.cells]))⟩) (fun q => madeR f q.rest (p.drop q.k) = madeR f b.ins p ∧ q.rest.length ≤ 1000000000) (fun q => p.length - q.k) ⟨0, b.ins⟩ (Sub.mk' z29q z12q) ⟨rfl, hbl⟩ (fun _ => hput_free (fun b hb => hFrom_free hb) rfl) ?_
 intro q hF
 refine asr ?_;refine aqb ?_;refine an ?_;refine asq ?_;refine asp 16 (fun hb1 => ?_) fun hb1 => ?_
 ·
  refine act ?_
  have hkl : q.k < p.length := by have h := hb1; simp at h; omega
  obtain ⟨y, hy⟩ := get_of_lt hkl
  have hyr := hp.2 y (List.mem_of_getElem? hy)
  have hst := madeR_step (f := f) (rest := q.rest) hy
  have heq := hF.1
  have hrl := hF.2
  refine agk ?_;refine asq ?_;refine AGo.block ?_;refine asr ?_;refine aq 17 (qil tok (idx_map hy)) ?_;refine aQ tok 2 rfl ?_;refine an ?_;refine asr ?_;refine aQ tok 3 rfl ?_;refine aq 22 (q_index_lst tok rfl rfl rfl rfl rfl rfl hyr.1 (idx_mapZ (blockAt_get hyr)) rfl) ?_;refine aQ tok 3 rfl ?_;refine an ?_;refine asq ?_;refine asr ?_;refine aQ tok 6 rfl ?_;refine aop 30 (fun hb2 => ?_) fun hb2 => ?_
  ·
   refine aQ tok 8 rfl ?_;refine an ?_;refine act ?_;refine asr ?_;refine aa 6 ?_;refine an ?_;refine agt ⟨[_], ⟨rfl, trivial⟩, ?_, rfl⟩
   refine bc ?_
   rw [← heq, hst]
   by_cases hcc : (f.blockAt y).ins.length ≤ q.rest.length
   · clear heq hst hF
     first | (have h3 : ¬ q.rest.take (f.blockAt y).ins.length = (f.blockAt y).ins := by simp_all
              simp [h3]; done) | (exfalso; simp_all; omega)
   · simp [hcc]
  have hlen : (f.blockAt y).ins.length ≤ q.rest.length := by have h := hb2; simp at h; omega
  refine aQ tok 3 rfl ?_;refine aq 34 (q_front' (l := q.rest) (m := (f.blockAt y).ins.length) tok rfl rfl rfl rfl ⟨rfl, rfl⟩ rfl (by rw [List.length_map]) (by have h := hlen; omega)) ?_;refine am 35 ?_;refine ax 36 (opu Tryz.func152 (equal_ok (q.rest.take (f.blockAt y).ins.length) (f.blockAt y).ins (by rw [List.length_take]; omega))) ?_;refine aQ tok 2 rfl ?_;refine an ?_;refine asp 38 (fun hb3 => ?_) fun hb3 => ?_
  ·
   refine act ?_;refine asr ?_;refine aa 6 ?_;refine an ?_;refine agt ⟨[_], ⟨rfl, trivial⟩, ?_, rfl⟩
   refine bc ?_
   rw [← heq, hst]
   by_cases hcc : (f.blockAt y).ins.length ≤ q.rest.length
   · clear heq hst hF
     first | (have h3 : ¬ q.rest.take (f.blockAt y).ins.length = (f.blockAt y).ins := by simp_all
              simp [h3]; done) | (exfalso; simp_all; omega)
   · simp [hcc]
  refine acf ?_
  have hsame : q.rest.take (f.blockAt y).ins.length = (f.blockAt y).ins := by simp_all
  refine agk ?_;refine agr ?_;refine aQ tok 3 rfl ?_;refine aq 42 (q_back' (l := q.rest) (m := (f.blockAt y).ins.length) tok rfl rfl rfl rfl ⟨rfl, rfl⟩ rfl (by rw [List.length_map]) (by have h := hlen; omega)) ?_;refine aa 7 ?_;refine an ?_;refine agr ?_;refine aq 43 (q_inc rfl rfl hkl (by simp only [maxLen]; omega)) ?_;refine am 15 ?_;refine an ?_;exact ⟨⟨q.k + 1, q.rest.drop (f.blockAt y).ins.length⟩, Drop.mk' z31q z18q, ⟨by rw [← heq, hst]; simp [hlen, hsame], by show (q.rest.drop _).length ≤ _; rw [List.length_drop]; omega⟩, (by show p.length - (q.k + 1) < p.length - q.k; omega)⟩
 refine acf ?_
 have hge : p.length ≤ q.k := by have h := hb1; simp at h; omega
 have heq := hF.1
 refine AGo.exit ?_;refine asr ?_;refine aQ tok 4 rfl ?_;refine an ?_;refine agt ⟨[_], ⟨rfl, trivial⟩, ?_, rfl⟩
 refine bc ?_
 rw [← heq, List.drop_eq_nil_of_le hge, madeR]
 cases q.rest <;> simp [evalBin] <;> omega
theorem begins_ok (paths : List (List Int)) (k i : Int) (hpn : ∀ p ∈ paths, p ≠ []) : ACall Tryz.prog 153 [.int .i64 k, .int .i64 i, .ptr 2 1 0 0] (hput hNew 2 (.row false 1 [[pathsAV paths]])) (fun r h' => r = .bool (beginsB paths k i) ∧ HSub (hput hNone 2 (.row false 1 [[pathsAV paths]])) h') := by
 refine ACall.of_body (n := 24) tok Tryz.func153 rfl rfl ?_;refine asr ?_;refine aa 5 ?_;refine an ?_;refine asr ?_;refine aQ tok 3 rfl ?_;refine aop 8 (fun hb1 => ?_) fun hb1 => ?_
 ·
  refine aQ tok 6 rfl ?_;refine aop 14 (fun hb2 => ?_) fun hb2 => ?_
  ·
   have hkr : 0 ≤ k ∧ k < paths.length := by simp_all [pathsAV] <;> omega
   have hpk := pathK_get hkr
   have hp0 := headZ_get (hpn _ (List.mem_of_getElem? hpk))
   refine aQ tok 2 rfl ?_;refine aq 17 (q_index_lst tok rfl rfl rfl rfl rfl rfl hkr.1 (idx_mapZ hpk) rfl) ?_;refine al 18 tok ?_;refine aq 19 (q_index_lst tok rfl rfl rfl rfl rfl rfl (by decide) (cs := [.int .i64 (headZ (pathK paths k))]) (by show (List.map (fun b => [AV.int .i64 b]) (pathK paths k))[0]? = _; rw [List.getElem?_map, hp0]; rfl) rfl) ?_;refine aQ tok 5 rfl ?_;refine an ?_;refine agt ?_;refine ⟨[_], ⟨rfl, trivial⟩, ?_, HSub.put (HSub.none _) rfl⟩
   refine bc ?_
   first | (simp_all [beginsB, pathsAV]; done) | (simp_all [beginsB, pathsAV]; omega)
  refine aQ tok 10 rfl ?_;refine an ?_;refine agt ?_;refine ⟨[_], ⟨rfl, trivial⟩, ?_, HSub.put (HSub.none _) rfl⟩
  refine bc ?_
  first | (simp_all [beginsB, pathsAV]; done) | (simp_all [beginsB, pathsAV]; omega)
 refine aQ tok 16 rfl ?_;refine an ?_;refine agt ?_;refine ⟨[_], ⟨rfl, trivial⟩, ?_, HSub.put (HSub.none _) rfl⟩
 refine bc ?_
 first | (simp_all [beginsB, pathsAV]; done) | (simp_all [beginsB, pathsAV]; omega)
theorem leads_ok (last b : Block) (paths : List (List Int)) (hpn : ∀ p ∈ paths, p ≠ []) : APure Tryz.prog 147 [.agg last.cells, .agg b.cells, pathsAV paths] (fun r => r = .bool (leadsB last b paths)) := by
 refine APure.of_body (n := 60) tok Tryz.func147 rfl rfl ?_;refine asr ?_;refine ax 3 (obx 5 0) ?_;refine ax 4 (obx 5 1) ?_;refine ax 5 (obx 1 2) ?_;refine aa 6 ?_;refine an ?_;refine asq ?_;refine asr ?_;refine aQ tok 6 rfl ?_;refine aop 15 (fun hb1 => ?_) fun hb1 => ?_
 ·
  refine aQ tok 6 rfl ?_;refine an ?_;refine act ?_;refine asr ?_;refine aa 6 ?_;refine an ?_;refine agt ?_
  first
  | exact absurd (show (b.fin == 2) = true from ‹_›) z53q
  | (refine ⟨[_], ⟨rfl, trivial⟩, ?_, rfl⟩
     refine bc ?_
     simp only [leadsB, leadsTo, leadsEl, *, cond_true, cond_false, Bool.not_true, Bool.not_false, Bool.true_and, Bool.false_and, Bool.and_true, Bool.and_false, Bool.true_or, Bool.or_true, Bool.false_or, Bool.or_false])
 refine aQ tok 6 rfl ?_;refine an ?_;refine asp 21 (fun hb2 => ?_) fun hb2 => ?_
 ·
  refine act ?_;refine asr ?_;refine aa 6 ?_;refine an ?_;refine agt ?_
  first
  | exact absurd (show (b.fin == 2) = true from ‹_›) z53q
  | (refine ⟨[_], ⟨rfl, trivial⟩, ?_, rfl⟩
     refine bc ?_
     simp only [leadsB, leadsTo, leadsEl, *, cond_true, cond_false, Bool.not_true, Bool.not_false, Bool.true_and, Bool.false_and, Bool.and_true, Bool.and_false, Bool.true_or, Bool.or_true, Bool.false_or, Bool.or_false])
 refine acf ?_;refine agk ?_;refine asr ?_;refine aq 22 (q_makeFunc rfl rfl rfl) ?_;refine aa 7 ?_;refine an ?_;refine asq ?_;refine AGo.draw mix ?_;refine dQ tok 12 rfl ?_;refine DOps.nil (by kernel_rfl) ?_;refine asq ?_;refine asr ?_;refine aQ tok 4 rfl ?_;refine aop 36 (fun hb3 => ?_) fun hb3 => ?_
 ·
  refine aQ tok 4 rfl ?_;refine an ?_;refine act ?_;refine agr ?_;refine aQ tok 5 rfl ?_;refine ax 46 (o_callF (hc := (hput hNew 2 (.row false 1 [[pathsAV paths]]))) (hw := (hput hNone 2 (.row false 1 [[pathsAV paths]]))) [2] [(2, (.row false 1 [[pathsAV paths]]))] rfl rfl Tryz.func153 (by kernel_rfl) rfl rfl rfl ⟨⟨_, rfl, rfl⟩, trivial⟩ rfl (hres_cons rfl (hres_nil _)) ⟨⟨_, rfl, rfl, rfl⟩, trivial⟩ rfl (begins_ok paths b.to last.to hpn)) ?_;refine aa 8 ?_;refine an ?_;refine asq ?_;refine asr ?_;refine aQ tok 3 rfl ?_;refine an ?_;refine asp 49 (fun hb4 => ?_) fun hb4 => ?_
  ·
   refine act ?_;refine agr ?_;refine aQ tok 5 rfl ?_;refine ax 55 (o_callF (hc := (hput hNew 2 (.row false 1 [[pathsAV paths]]))) (hw := (hput hNone 2 (.row false 1 [[pathsAV paths]]))) [2] [(2, (.row false 1 [[pathsAV paths]]))] rfl rfl Tryz.func153 (by kernel_rfl) rfl rfl rfl ⟨⟨_, rfl, rfl⟩, trivial⟩ rfl (hres_cons rfl (hres_nil _)) ⟨⟨_, rfl, rfl, rfl⟩, trivial⟩ rfl (begins_ok paths b.els last.els hpn)) ?_;refine aa 9 ?_;refine an ?_;refine asr ?_;refine aQ tok 2 rfl ?_;refine aop 57 (fun hb5 => ?_) fun hb5 => ?_
   ·
    refine aQ tok 3 rfl ?_;refine an ?_;refine agt ?_
    first
    | exact absurd (show (b.fin == 2) = true from ‹_›) z53q
    | (refine ⟨[_], ⟨rfl, trivial⟩, ?_, rfl⟩
       refine bc ?_
       simp only [leadsB, leadsTo, leadsEl, *, cond_true, cond_false, Bool.not_true, Bool.not_false, Bool.true_and, Bool.false_and, Bool.and_true, Bool.and_false, Bool.true_or, Bool.or_true, Bool.false_or, Bool.or_false])
   refine aQ tok 3 rfl ?_;refine an ?_;refine agt ?_
   first
   | exact absurd (show (b.fin == 2) = true from ‹_›) z53q
   | (refine ⟨[_], ⟨rfl, trivial⟩, ?_, rfl⟩
      refine bc ?_
      simp only [leadsB, leadsTo, leadsEl, *, cond_true, cond_false, Bool.not_true, Bool.not_false, Bool.true_and, Bool.false_and, Bool.and_true, Bool.and_false, Bool.true_or, Bool.or_true, Bool.false_or, Bool.or_false])
  refine acf ?_;refine agk ?_;refine asr ?_;refine aQ tok 2 rfl ?_;refine aop 57 (fun hb6 => ?_) fun hb6 => ?_
  ·
   refine aQ tok 3 rfl ?_;refine an ?_;refine agt ?_
   first
   | exact absurd (show (b.fin == 2) = true from ‹_›) z53q
   | (refine ⟨[_], ⟨rfl, trivial⟩, ?_, rfl⟩
      refine bc ?_
      simp only [leadsB, leadsTo, leadsEl, *, cond_true, cond_false, Bool.not_true, Bool.not_false, Bool.true_and, Bool.false_and, Bool.and_true, Bool.and_false, Bool.true_or, Bool.or_true, Bool.false_or, Bool.or_false])
  refine aQ tok 3 rfl ?_;refine an ?_;refine agt ?_
  first
  | exact absurd (show (b.fin == 2) = true from ‹_›) z53q
  | (refine ⟨[_], ⟨rfl, trivial⟩, ?_, rfl⟩
     refine bc ?_
     simp only [leadsB, leadsTo, leadsEl, *, cond_true, cond_false, Bool.not_true, Bool.not_false, Bool.true_and, Bool.false_and, Bool.and_true, Bool.and_false, Bool.true_or, Bool.or_true, Bool.false_or, Bool.or_false])
 refine aQ tok 4 rfl ?_;refine an ?_;refine asp 40 (fun hb7 => ?_) fun hb7 => ?_
 ·
  refine act ?_;refine agr ?_;refine aQ tok 5 rfl ?_;refine ax 46 (o_callF (hc := (hput hNew 2 (.row false 1 [[pathsAV paths]]))) (hw := (hput hNone 2 (.row false 1 [[pathsAV paths]]))) [2] [(2, (.row false 1 [[pathsAV paths]]))] rfl rfl Tryz.func153 (by kernel_rfl) rfl rfl rfl ⟨⟨_, rfl, rfl⟩, trivial⟩ rfl (hres_cons rfl (hres_nil _)) ⟨⟨_, rfl, rfl, rfl⟩, trivial⟩ rfl (begins_ok paths b.to last.to hpn)) ?_;refine aa 8 ?_;refine an ?_;refine asq ?_;refine asr ?_;refine aQ tok 3 rfl ?_;refine an ?_;refine asp 49 (fun hb8 => ?_) fun hb8 => ?_
  ·
   refine act ?_;refine agr ?_;refine aQ tok 5 rfl ?_;refine ax 55 (o_callF (hc := (hput hNew 2 (.row false 1 [[pathsAV paths]]))) (hw := (hput hNone 2 (.row false 1 [[pathsAV paths]]))) [2] [(2, (.row false 1 [[pathsAV paths]]))] rfl rfl Tryz.func153 (by kernel_rfl) rfl rfl rfl ⟨⟨_, rfl, rfl⟩, trivial⟩ rfl (hres_cons rfl (hres_nil _)) ⟨⟨_, rfl, rfl, rfl⟩, trivial⟩ rfl (begins_ok paths b.els last.els hpn)) ?_;refine aa 9 ?_;refine an ?_;refine asr ?_;refine aQ tok 2 rfl ?_;refine aop 57 (fun hb9 => ?_) fun hb9 => ?_
   ·
    refine aQ tok 3 rfl ?_;refine an ?_;refine agt ?_
    first
    | exact absurd (show (b.fin == 2) = true from ‹_›) z53q
    | (refine ⟨[_], ⟨rfl, trivial⟩, ?_, rfl⟩
       refine bc ?_
       simp only [leadsB, leadsTo, leadsEl, *, cond_true, cond_false, Bool.not_true, Bool.not_false, Bool.true_and, Bool.false_and, Bool.and_true, Bool.and_false, Bool.true_or, Bool.or_true, Bool.false_or, Bool.or_false])
   refine aQ tok 3 rfl ?_;refine an ?_;refine agt ?_
   first
   | exact absurd (show (b.fin == 2) = true from ‹_›) z53q
   | (refine ⟨[_], ⟨rfl, trivial⟩, ?_, rfl⟩
      refine bc ?_
      simp only [leadsB, leadsTo, leadsEl, *, cond_true, cond_false, Bool.not_true, Bool.not_false, Bool.true_and, Bool.false_and, Bool.and_true, Bool.and_false, Bool.true_or, Bool.or_true, Bool.false_or, Bool.or_false])
  refine acf ?_;refine agk ?_;refine asr ?_;refine aQ tok 2 rfl ?_;refine aop 57 (fun hb10 => ?_) fun hb10 => ?_
  ·
   refine aQ tok 3 rfl ?_;refine an ?_;refine agt ?_
   first
   | exact absurd (show (b.fin == 2) = true from ‹_›) z53q
   | (refine ⟨[_], ⟨rfl, trivial⟩, ?_, rfl⟩
      refine bc ?_
      simp only [leadsB, leadsTo, leadsEl, *, cond_true, cond_false, Bool.not_true, Bool.not_false, Bool.true_and, Bool.false_and, Bool.and_true, Bool.and_false, Bool.true_or, Bool.or_true, Bool.false_or, Bool.or_false])
  refine aQ tok 3 rfl ?_;refine an ?_;refine agt ?_
  first
  | exact absurd (show (b.fin == 2) = true from ‹_›) z53q
  | (refine ⟨[_], ⟨rfl, trivial⟩, ?_, rfl⟩
     refine bc ?_
     simp only [leadsB, leadsTo, leadsEl, *, cond_true, cond_false, Bool.not_true, Bool.not_false, Bool.true_and, Bool.false_and, Bool.and_true, Bool.and_false, Bool.true_or, Bool.or_true, Bool.false_or, Bool.or_false])
 refine acf ?_;refine agk ?_;refine asq ?_;refine asr ?_;refine aQ tok 3 rfl ?_;refine an ?_;refine asp 49 (fun hb11 => ?_) fun hb11 => ?_
 ·
  refine act ?_;refine agr ?_;refine aQ tok 5 rfl ?_;refine ax 55 (o_callF (hc := (hput hNew 2 (.row false 1 [[pathsAV paths]]))) (hw := (hput hNone 2 (.row false 1 [[pathsAV paths]]))) [2] [(2, (.row false 1 [[pathsAV paths]]))] rfl rfl Tryz.func153 (by kernel_rfl) rfl rfl rfl ⟨⟨_, rfl, rfl⟩, trivial⟩ rfl (hres_cons rfl (hres_nil _)) ⟨⟨_, rfl, rfl, rfl⟩, trivial⟩ rfl (begins_ok paths b.els last.els hpn)) ?_;refine aa 9 ?_;refine an ?_;refine asr ?_;refine aQ tok 2 rfl ?_;refine aop 57 (fun hb12 => ?_) fun hb12 => ?_
  ·
   refine aQ tok 3 rfl ?_;refine an ?_;refine agt ?_
   first
   | exact absurd (show (b.fin == 2) = true from ‹_›) z53q
   | (refine ⟨[_], ⟨rfl, trivial⟩, ?_, rfl⟩
      refine bc ?_
      simp only [leadsB, leadsTo, leadsEl, *, cond_true, cond_false, Bool.not_true, Bool.not_false, Bool.true_and, Bool.false_and, Bool.and_true, Bool.and_false, Bool.true_or, Bool.or_true, Bool.false_or, Bool.or_false])
  refine aQ tok 3 rfl ?_;refine an ?_;refine agt ?_
  first
  | exact absurd (show (b.fin == 2) = true from ‹_›) z53q
  | (refine ⟨[_], ⟨rfl, trivial⟩, ?_, rfl⟩
     refine bc ?_
     simp only [leadsB, leadsTo, leadsEl, *, cond_true, cond_false, Bool.not_true, Bool.not_false, Bool.true_and, Bool.false_and, Bool.and_true, Bool.and_false, Bool.true_or, Bool.or_true, Bool.false_or, Bool.or_false])
 refine acf ?_;refine agk ?_;refine asr ?_;refine aQ tok 2 rfl ?_;refine aop 57 (fun hb13 => ?_) fun hb13 => ?_
 ·
  refine aQ tok 3 rfl ?_;refine an ?_;refine agt ?_
  first
  | exact absurd (show (b.fin == 2) = true from ‹_›) z53q
  | (refine ⟨[_], ⟨rfl, trivial⟩, ?_, rfl⟩
     refine bc ?_
     simp only [leadsB, leadsTo, leadsEl, *, cond_true, cond_false, Bool.not_true, Bool.not_false, Bool.true_and, Bool.false_and, Bool.and_true, Bool.and_false, Bool.true_or, Bool.or_true, Bool.false_or, Bool.or_false])
 refine aQ tok 3 rfl ?_;refine an ?_;refine agt ?_
 first
 | exact absurd (show (b.fin == 2) = true from ‹_›) z53q
 | (refine ⟨[_], ⟨rfl, trivial⟩, ?_, rfl⟩
    refine bc ?_
    simp only [leadsB, leadsTo, leadsEl, *, cond_true, cond_false, Bool.not_true, Bool.not_false, Bool.true_and, Bool.false_and, Bool.and_true, Bool.and_false, Bool.true_or, Bool.or_true, Bool.false_or, Bool.or_false])
theorem check_ok (old new : BFunc) (paths : List (List Int)) (hnl : ∀ x ∈ new.blocks, x.ins.length ≤ 1000000000) (hpl : paths.length ≤ 2000000) (hps : ∀ p ∈ paths, p.length ≤ 2000000) : APure Tryz.prog 143 [.agg old.cells, .agg new.cells, pathsAV paths] (fun r => r = .bool (checkB old new paths)) := by
 refine APure.of_body (n := 104) tok Tryz.func143 rfl rfl ?_;refine asr ?_;refine ax 3 (obx 2 0) ?_;refine ax 4 (obx 2 1) ?_;refine aa 6 ?_;refine an ?_;refine asq ?_;refine asr ?_;refine aQ tok 4 rfl ?_;refine aop 16 (fun hb1 => ?_) fun hb1 => ?_
 ·
  refine aQ tok 14 rfl ?_;refine an ?_;refine act ?_;refine asr ?_;refine aa 6 ?_;refine an ?_;refine agt ⟨[_], ⟨rfl, trivial⟩, ?_, rfl⟩
  refine bc ?_;refine (check_bad1 (fun h => ?_)).symm
  obtain ⟨q1, q2, q3⟩ := h
  simp_all [pathsAV, blocksAV]
 refine aQ tok 8 rfl ?_;refine aop 24 (fun hb2 => ?_) fun hb2 => ?_
 ·
  refine aQ tok 6 rfl ?_;refine an ?_;refine act ?_;refine asr ?_;refine aa 6 ?_;refine an ?_;refine agt ⟨[_], ⟨rfl, trivial⟩, ?_, rfl⟩
  refine bc ?_;refine (check_bad1 (fun h => ?_)).symm
  obtain ⟨q1, q2, q3⟩ := h
  simp_all [pathsAV, blocksAV]
 refine aQ tok 6 rfl ?_;refine an ?_;refine asp 30 (fun hb3 => ?_) fun hb3 => ?_
 ·
  refine act ?_;refine asr ?_;refine aa 6 ?_;refine an ?_;refine agt ⟨[_], ⟨rfl, trivial⟩, ?_, rfl⟩
  refine bc ?_;refine (check_bad1 (fun h => ?_)).symm
  obtain ⟨q1, q2, q3⟩ := h
  simp_all [pathsAV, blocksAV]
 refine acf ?_
 have h0 : paths.length ≠ 0 ∧ paths.length = new.blocks.length ∧ old.regs = new.regs := by simp_all [pathsAV, blocksAV] <;> omega
 refine agk ?_;refine asq ?_;refine asr ?_;refine aQ tok 3 rfl ?_;refine an ?_;refine AGo.block ?_;refine AGo.loopD (γ := Nat) 2 (fun k => ⟨104, (eput (eput (eput (eput (eput (eput eNew 2 (pathsAV paths)) 3 (.ptr 0 1 0 0)) 4 (.ptr 1 1 0 0)) 31 (pathsAV paths)) 32 (.int .i64 (paths.length : Int))) 33 (.int .i64 (k : Int))), (hput (hput (hFrom 2) 0 (.row false 2 [old.cells])) 1 (.row false 2 [new.cells]))⟩) (fun k => (paths.take k).all (pathIn old.blocks.length) = true) (fun k => paths.length - k) 0 (Sub.mk' z29q z12q) rfl (fun _ => hput_free (hput_free (fun b hb => hFrom_free hb) rfl) rfl) ?_
 intro k hF
 refine asr ?_;refine aqb ?_;refine an ?_;refine asq ?_;refine asp 34 (fun hb4 => ?_) fun hb4 => ?_
 ·
  refine act ?_
  have hkl : k < paths.length := by simpa using hb4
  obtain ⟨p, hp⟩ := get_of_lt hkl
  have hpp := hps p (List.mem_of_getElem? hp)
  refine agk ?_;refine asq ?_;refine AGo.block ?_;refine asr ?_;refine aq 35 (qil tok (idx_map hp)) ?_;refine aQ tok 2 rfl ?_;refine an ?_;refine asq ?_;refine asr ?_;refine aQ tok 3 rfl ?_;refine an ?_;refine asp 39 (fun hb5 => ?_) fun hb5 => ?_
  ·
   refine act ?_
   have hpe : (p.length == 0) = true := by have h := hb5; simp at h; simp [h]
   refine asr ?_;refine aa 6 ?_;refine an ?_;refine agt ⟨[_], ⟨rfl, trivial⟩, ?_, rfl⟩
   refine bc ?_;exact (check_bad2 (all_bad hp (by simp [pathIn, hpe]))).symm
  refine acf ?_
  have hpe : (p.length == 0) = false := by have h := hb5; simp at h; simp [h]
  refine agk ?_;refine asr ?_;refine aQ tok 3 rfl ?_;refine an ?_;refine AGo.block ?_;refine AGo.loopD (γ := Nat) 2 (fun j => ⟨104, (eput (eput (eput (eput (eput (eput (eput (eput (eput (eput eNew 2 (pathsAV paths)) 3 (.ptr 0 1 0 0)) 4 (.ptr 1 1 0 0)) 31 (pathsAV paths)) 32 (.int .i64 (paths.length : Int))) 33 (.int .i64 (k : Int))) 8 (intsAV p)) 40 (intsAV p)) 41 (.int .i64 (p.length : Int))) 42 (.int .i64 (j : Int))), (hput (hput (hFrom 2) 0 (.row false 2 [old.cells])) 1 (.row false 2 [new.cells]))⟩) (fun j => (p.take j).all (fun i => !(decide (i < 0)) && !(decide (i ≥ (old.blocks.length : Int)))) = true) (fun j => p.length - j) 0 (Sub.mk' z29q z12q) rfl (fun _ => hput_free (hput_free (fun b hb => hFrom_free hb) rfl) rfl) ?_
  intro j hG
  refine asr ?_;refine aqb ?_;refine an ?_;refine asq ?_;refine asp 43 (fun hb6 => ?_) fun hb6 => ?_
  ·
   refine act ?_
   have hjl : j < p.length := by simpa using hb6
   obtain ⟨y, hy⟩ := get_of_lt hjl
   refine agk ?_;refine asq ?_;refine AGo.block ?_;refine asr ?_;refine aq 44 (qil tok (idx_map hy)) ?_;refine aQ tok 2 rfl ?_;refine an ?_;refine asr ?_;refine aQ tok 3 rfl ?_;refine aop 48 (fun hb7 => ?_) fun hb7 => ?_
   ·
    refine aQ tok 6 rfl ?_;refine an ?_;refine act ?_;refine asr ?_;refine aa 6 ?_;refine an ?_;refine agt ⟨[_], ⟨rfl, trivial⟩, ?_, rfl⟩
    refine bc ?_;exact (check_bad2 (all_bad hp z28q)).symm
   refine aQ tok 6 rfl ?_;refine an ?_;refine asp 54 (fun hb8 => ?_) fun hb8 => ?_
   ·
    refine act ?_;refine asr ?_;refine aa 6 ?_;refine an ?_;refine agt ⟨[_], ⟨rfl, trivial⟩, ?_, rfl⟩
    refine bc ?_;exact (check_bad2 (all_bad hp z28q)).symm
   refine acf ?_;refine agk ?_;refine agr ?_;refine aq 55 (q_inc rfl rfl hjl (by simp only [maxLen]; omega)) ?_;refine am 42 ?_;refine an ?_;exact ⟨j+1, Drop.mk' z31q z18q, (all_succ hy hG (by simp_all [blocksAV])), by omega⟩
  refine acf ?_
  have hge2 : p.length ≤ j := by simpa using hb6
  refine AGo.exit ?_;refine agr ?_;refine aq 56 (q_inc rfl rfl hkl (by simp only [maxLen]; omega)) ?_;refine am 33 ?_;refine an ?_;exact ⟨k+1, Drop.mk' z31q z18q, (all_succ hp hF (by simp only [pathIn, hpe, Bool.not_false, Bool.true_and]; exact all_end hG hge2)), by omega⟩
 refine acf ?_
 have hge : paths.length ≤ k := by simpa using hb4
 have hall := all_end hF hge
 have hp00 := pathK_get (paths := paths) (k := 0) (by omega)
 have hp01 := headZ_get (pathIn_inF (List.all_eq_true.1 hall _ (List.mem_of_getElem? hp00))).1
 refine AGo.exit ?_;refine asq ?_;refine asr ?_;refine am 57 ?_;refine aq 58 (q_index_lst tok rfl rfl rfl rfl rfl rfl (by decide) (cs := pathCell (pathK paths 0)) (idx_mapZ hp00) rfl) ?_;refine al 59 tok ?_;refine aq 60 (q_index_lst tok rfl rfl rfl rfl rfl rfl (by decide) (cs := [.int .i64 (headZ (pathK paths 0))]) (by show (List.map (fun b => [AV.int .i64 b]) (pathK paths 0))[0]? = _; rw [List.getElem?_map, hp01]; rfl) rfl) ?_;refine aQ tok 2 rfl ?_;refine an ?_;refine asp 62 (fun hb9 => ?_) fun hb9 => ?_
 ·
  refine act ?_
  have hz := hb9
  refine asr ?_;refine aa 6 ?_;refine an ?_;refine agt ⟨[_], ⟨rfl, trivial⟩, ?_, rfl⟩
  refine bc ?_;exact (check_bad3 hz).symm
 refine acf ?_
 have hz := hb9
 refine agk ?_;refine asq ?_;refine asr ?_;refine aQ tok 3 rfl ?_;refine an ?_;refine AGo.block ?_;refine AGo.loopD (γ := Nat) 2 (fun k => ⟨104, (eput (eput (eput (eput (eput (eput eNew 2 (pathsAV paths)) 3 (.ptr 0 1 0 0)) 4 (.ptr 1 1 0 0)) 63 (pathsAV paths)) 64 (.int .i64 (paths.length : Int))) 65 (.int .i64 (k : Int))), (hput (hput (hFrom 2) 0 (.row false 2 [old.cells])) 1 (.row false 2 [new.cells]))⟩) (fun k => (paths.zipIdx.take k).all (stepB old new paths) = true) (fun k => paths.length - k) 0 (Sub.mk' z29q z12q) rfl (fun _ => hput_free (hput_free (fun b hb => hFrom_free hb) rfl) rfl) ?_
 intro k hS
 refine asr ?_;refine aqb ?_;refine an ?_;refine asq ?_;refine asp 66 (fun hb10 => ?_) fun hb10 => ?_
 ·
  refine act ?_
  have hkl : k < paths.length := by simpa using hb10
  obtain ⟨p, hp⟩ := get_of_lt hkl
  have hpp := hps p (List.mem_of_getElem? hp)
  have hpin := pathIn_inF (List.all_eq_true.1 hall p (List.mem_of_getElem? hp))
  have hnb : new.blocks[((k : Nat) : Int).toNat]? = some (new.blockAt k) := blockAt_get (by omega)
  have hlast := hpin.2 _ (last_mem hpin.1)
  refine agk ?_;refine asq ?_;refine AGo.block ?_;refine asr ?_;refine am 67 ?_;refine aq 68 (qil tok (idx_map hp)) ?_;refine aQ tok 3 rfl ?_;refine an ?_;refine asq ?_;refine asq ?_;refine AGo.draw mix ?_;refine dQ tok 2 rfl ?_;refine dx 72 (opu Tryz.func145 (follows_ok old p hpin hpp)) ?_;refine dQ tok 2 rfl ?_;refine DOps.split 74 rfl (fun hb11 => ?_) (fun hb11 => ?_)
  ·
   refine dQ tok 10 rfl ?_;refine DOps.nil (by kernel_rfl) ?_;refine act ?_;refine asr ?_;refine aa 6 ?_;refine an ?_;refine agt ⟨[_], ⟨rfl, trivial⟩, ?_, rfl⟩
   refine bc ?_;exact (check_bad4 (all_bad (zipIdx_get hp) (by simp_all [stepB]))).symm
  refine dQ tok 4 rfl ?_;refine dq 79 (q_index_lst tok rfl rfl rfl rfl rfl rfl (Int.natCast_nonneg _) (cs := (new.blockAt k).cells) (idx_mapZ hnb) rfl) ?_;refine dQ tok 2 rfl ?_;refine dx 82 (opu Tryz.func146 (made_ok old (new.blockAt k) p hpin hpp (hnl _ (List.mem_of_getElem? hnb)))) ?_;refine dQ tok 2 rfl ?_;refine DOps.nil (by kernel_rfl) ?_;refine asp 84 (fun hb12 => ?_) fun hb12 => ?_
  ·
   refine act ?_;refine asr ?_;refine aa 6 ?_;refine an ?_;refine agt ⟨[_], ⟨rfl, trivial⟩, ?_, rfl⟩
   refine bc ?_;exact (check_bad4 (all_bad (zipIdx_get hp) (by simp_all [stepB]))).symm
  refine acf ?_;refine agk ?_;refine asq ?_;refine AGo.draw mix ?_;refine dQ tok 5 rfl ?_;refine dq 90 (q_bin (r := .int .i64 ((p.length - 1 : Nat) : Int)) rfl rfl rfl (by rw [List.length_map]; exact len_pred (List.length_pos_iff.2 hpin.1) (by omega))) ?_;refine dq 91 (q_index_lst tok rfl rfl rfl rfl rfl rfl (Int.natCast_nonneg _) (cs := [.int .i64 (lastOf p)]) (by show (List.map (fun b => [AV.int .i64 b]) p)[_]? = _; rw [Int.toNat_natCast, List.getElem?_map, last_get hpin.1]; rfl) rfl) ?_;refine dl 92 tok ?_;refine dq 93 (q_index_lst tok rfl rfl rfl rfl rfl rfl hlast.1 (idx_mapZ (blockAt_get hlast)) rfl) ?_;refine dQ tok 4 rfl ?_;refine dq 98 (q_index_lst tok rfl rfl rfl rfl rfl rfl (Int.natCast_nonneg _) (cs := (new.blockAt k).cells) (idx_mapZ hnb) rfl) ?_;refine dQ tok 2 rfl ?_;refine dx 101 (opu Tryz.func147 (leads_ok (old.blockAt (lastOf p)) (new.blockAt k) paths (fun p hp => (pathIn_inF (List.all_eq_true.1 hall p hp)).1))) ?_
  refine dq 102 (q_not rfl rfl) ?_;refine DOps.nil (by kernel_rfl) ?_;refine asp 102 (fun hb13 => ?_) fun hb13 => ?_
  ·
   refine act ?_;refine asr ?_;refine aa 6 ?_;refine an ?_;refine agt ⟨[_], ⟨rfl, trivial⟩, ?_, rfl⟩
   refine bc ?_;exact (check_bad4 (all_bad (zipIdx_get hp) (by simp_all [stepB]))).symm
  refine acf ?_;refine agk ?_;refine agr ?_;refine aq 103 (q_inc rfl rfl hkl (by simp only [maxLen]; omega)) ?_;refine am 65 ?_;refine an ?_;exact ⟨k+1, Drop.mk' z31q z18q, (all_succ (zipIdx_get hp) hS (by simp_all [stepB])), by omega⟩
 refine acf ?_
 have hge3 : paths.length ≤ k := by simpa using hb10
 refine AGo.exit ?_;refine asr ?_;refine aa 6 ?_;refine an ?_;refine agt ⟨[_], ⟨rfl, trivial⟩, ?_, rfl⟩
 refine bc ?_;exact (check_good h0.1 h0.2.1 h0.2.2 hall hz (all_end hS (by rw [List.length_zipIdx]; exact hge3))).symm
theorem pass_ok {f : BFunc} {p : OPass} (hf : I35 f) (hp : P35 p) (hk : kind35 p.kind = true) : HoldsOk p f :=
  holdsOk_of hk (vcheck_ok f p.f hf.n hp.f.n hf.i hp.f.i p.cert) (check_ok f p.f p.paths (fun x hx => Nat.le_trans (hp.f.i x hx).1 (by decide)) (Nat.le_trans hp.n (by decide)) (fun q hq => Nat.le_trans (hp.q q hq) (by decide)))
theorem checkL_ok (a b : Blocks) (ls : List (List OPass)) (ha : a.funcs.length ≤ 1048576) (hI : ∀ f ∈ a.funcs, I35 f) (hl : ∀ l ∈ ls, l.length ≤ 1048576 ∧ ∀ p ∈ l, P35 p) : APure Tryz.prog 18 [.agg a.cells, .agg b.cells, listAV ls] (fun r => r = .bool (ocheck a b ls)) :=
  check35_ok a b ls ha (fun _ _ f hf g hg l h => leads35_ok f g l (hl l h).1 I35 (hI f hf) (fun _ h => h.lim) (fun p hp => ⟨((hl l h).2 p hp).f, fun x hx hk => pass_ok hx ((hl l h).2 p hp) hk⟩))
theorem i35_tiny : I35 tinyA ∧ I35 tinyB ∧ I35 tinyC := by
  refine ⟨⟨by decide, fun x hx t ht => ?_⟩, ⟨by decide, fun x hx t ht => ?_⟩, ⟨by decide, fun x hx t ht => ?_⟩⟩ <;> (first | simp only [tinyA, List.mem_singleton] at hx | simp only [tinyB, List.mem_singleton] at hx | simp only [tinyC, List.mem_singleton] at hx) <;> subst hx <;> simp only [List.mem_cons, List.not_mem_nil, or_false] at ht <;> rcases ht with rfl | rfl | rfl | rfl <;> exact ⟨by decide, by decide⟩
theorem vlog_ok : LogOk Tryz.prog vlog := by
  obtain ⟨h1, h2, h3⟩ := i35_tiny
  exact logOk_cons ((vcheck_ok tinyB tinyC h2.n h3.n h2.i h3.i certF).mono fun r h => by rw [h]; rfl) <| logOk_cons ((vcheck_ok tinyB tinyB h2.n h2.n h2.i h2.i certT).mono fun r h => by rw [h]; rfl) <| logOk_cons ((vcheck_ok tinyA tinyB h1.n h2.n h1.i h2.i certT).mono fun r h => by rw [h]; rfl) (logOk_nil _)
theorem holds_r {p : OPass} {f : BFunc} (hf : f.words) (hg : p.f.words) : p.holds f = p.rholds f := by
  unfold OPass.holds OPass.rholds
  rw [vcheck_r hf hg]
theorem may_ok (f : BFunc) (hn : f.blocks.length ≤ 100000) (hi : ∀ x ∈ f.blocks, x.ins.length ≤ 100000) : APure Tryz.prog 69 [.agg f.cells] (fun r => r = .bool f.stands) := by
 refine APure.of_body (n := 97) tok Tryz.func69 rfl rfl ?_;refine asr ?_;refine ax 1 (obx 2 0) ?_;refine aa 2 ?_;refine an ?_;refine asr ?_;refine aQ tok 2 rfl ?_;refine aq 11 (q_build tok rfl rfl rfl rfl rfl (by decide) rfl rfl rfl) ?_;refine ax 3 (oal tok 1) ?_;refine AOps.w rfl rfl (o_store tok rfl rfl rfl rfl rfl rfl rfl rfl rfl (by decide) rfl z51q) ?_;refine an ?_;refine asq ?_;refine asq ?_;refine AGo.ghost (.dryCell 1 0 1 2 5 true rfl rfl rfl rfl rfl (by decide)) ?_;refine agr ?_;refine aa 4 ?_;refine an ?_;refine AGo.block ?_;refine AGo.loopD (γ := Nat) 3 (fun k => ⟨97, (eput (eput (eput eNew 1 (.ptr 0 1 0 0)) 3 (.ptr 1 1 0 0)) 4 (.int .i64 (k : Int))), (hput (hput (hput (hFrom 3) 0 (.row false 2 [f.cells])) 1 (.row false 2 [[.int .i64 f.regs, .ref 2 ((f.blocks.take (k)).map Block.bare).length 0 ((f.blocks.take (k)).map Block.bare).length]])) 2 (.row true 5 (((f.blocks.take (k)).map Block.bare).map Block.cells)))⟩) (fun k => k ≤ f.blocks.length ∧ (f.blocks.take k).all (fun x => x.ins.all Tac.callOk) = true) (fun k => f.blocks.length - k) 0 (Sub.mk' z29q z12q) ⟨Nat.zero_le _, rfl⟩ (fun _ => hput_free (hput_free (hput_free (fun b hb => hFrom_free hb) rfl) rfl) rfl) ?_
 intro k ⟨hk, hall⟩
 refine asq ?_;refine asr ?_;refine aQ tok 5 rfl ?_;refine an ?_;refine asp 16 (fun hb1 => ?_) fun hb1 => ?_
 ·
  refine act ?_
  have hkl : k < f.blocks.length := by simpa using hb1
  obtain ⟨x, hx⟩ := get_of_lt hkl
  have hxm := List.mem_of_getElem? hx
  have htk := take_succ_eq hx
  refine agk ?_;refine asq ?_;refine AGo.block ?_;refine asr ?_;refine aQ tok 3 rfl ?_;refine aq 22 (qil tok (idx_map hx)) ?_;refine al 23 tok ?_;refine ax 5 (oal tok 3) ?_;refine AOps.w rfl rfl (o_store tok rfl rfl rfl rfl rfl rfl rfl rfl rfl (by decide) rfl z51q) ?_;refine an ?_;refine asr ?_;refine aQ tok 8 rfl ?_;refine aq 32 (q_build tok rfl rfl rfl rfl rfl (by decide) rfl rfl rfl) ?_;refine ax 6 (oal tok 4) ?_;refine AOps.w rfl rfl (o_store tok rfl rfl rfl rfl rfl rfl rfl rfl rfl (by decide) rfl z51q) ?_;refine an ?_;refine asq ?_;refine asq ?_;refine AGo.ghost (.dryCell 4 0 0 5 8 true rfl rfl rfl rfl rfl (by decide)) ?_;refine agr ?_;refine aa 7 ?_;refine an ?_;refine AGo.block ?_;refine AGo.loopD (γ := Nat) 6 (fun j => ⟨97, (eput (eput (eput (eput (eput (eput eNew 1 (.ptr 0 1 0 0)) 3 (.ptr 1 1 0 0)) 4 (.int .i64 (k : Int))) 5 (.ptr 3 1 0 0)) 6 (.ptr 4 1 0 0)) 7 (.int .i64 (j : Int))), (hput (hput (hput (hput (hput (hput (hFrom 6) 0 (.row false 2 [f.cells])) 1 (.row false 2 [[.int .i64 f.regs, .ref 2 ((f.blocks.take (k)).map Block.bare).length 0 ((f.blocks.take (k)).map Block.bare).length]])) 2 (.row true 5 (((f.blocks.take (k)).map Block.bare).map Block.cells))) 3 (.row false 5 [x.cells])) 4 (.row false 5 [[.ref 5 (noCall (x.ins.take j)).length 0 (noCall (x.ins.take j)).length, .int .i64 x.fin, .int .i64 x.v, .int .i64 x.to, .int .i64 x.els]])) 5 (.row true 8 ((noCall (x.ins.take j)).map Tac.cells)))⟩) (fun j => j ≤ x.ins.length ∧ (x.ins.take j).all Tac.callOk = true) (fun j => x.ins.length - j) 0 (Sub.mk' z29q z12q) ⟨Nat.zero_le _, rfl⟩ (fun _ => hput_free (hput_free (hput_free (hput_free (hput_free (hput_free (fun b hb => hFrom_free hb) rfl) rfl) rfl) rfl) rfl) rfl) ?_
  intro j ⟨hj, hja⟩
  refine asq ?_;refine asr ?_;refine aQ tok 5 rfl ?_;refine an ?_;refine asp 37 (fun hb2 => ?_) fun hb2 => ?_
  ·
   refine act ?_
   have hjl : j < x.ins.length := by have h := hb2; simp only [List.length_map, decide_eq_true_eq] at h; omega
   obtain ⟨t, ht⟩ := get_of_lt hjl
   refine agk ?_;refine asq ?_;refine AGo.block ?_;refine asr ?_;refine aQ tok 3 rfl ?_;refine aq 43 (qil tok (idx_map ht)) ?_;refine al 44 tok ?_;refine ax 8 (oal tok 6) ?_;refine AOps.w rfl rfl (o_store tok rfl rfl rfl rfl rfl rfl rfl rfl rfl (by decide) rfl z51q) ?_;refine an ?_;refine asq ?_;refine asr ?_;refine aQ tok 3 rfl ?_;refine an ?_;refine asp 47 (fun hb3 => ?_) fun hb3 => ?_
   ·
    refine act ?_
    have h10 : (t.op == 10) = true := hb3
    have h10' : (t.op != 10) = false := by simpa using h10
    have hnc := noCall_no ht h10'
    refine asq ?_;refine asr ?_;refine aQ tok 4 rfl ?_;refine aop 51 (fun hb4 => ?_) fun hb4 => ?_
    ·
     refine aQ tok 29 rfl ?_;refine an ?_;refine act ?_;refine asr ?_;refine aa 2 ?_;refine an ?_;refine agt ⟨[_], ⟨rfl, trivial⟩, ?_, rfl⟩
     refine bc ?_;exact (stands_bad hx ht z34q).symm
    refine aQ tok 5 rfl ?_;refine aop 56 (fun hb5 => ?_) fun hb5 => ?_
    ·
     refine aQ tok 24 rfl ?_;refine an ?_;refine act ?_;refine asr ?_;refine aa 2 ?_;refine an ?_;refine agt ⟨[_], ⟨rfl, trivial⟩, ?_, rfl⟩
     refine bc ?_;exact (stands_bad hx ht z34q).symm
    refine aQ tok 5 rfl ?_;refine aop 61 (fun hb6 => ?_) fun hb6 => ?_
    ·
     refine aQ tok 19 rfl ?_;refine an ?_;refine act ?_;refine asr ?_;refine aa 2 ?_;refine an ?_;refine agt ⟨[_], ⟨rfl, trivial⟩, ?_, rfl⟩
     refine bc ?_;exact (stands_bad hx ht z34q).symm
    refine aQ tok 5 rfl ?_;refine aop 66 (fun hb7 => ?_) fun hb7 => ?_
    ·
     refine aQ tok 14 rfl ?_;refine an ?_;refine act ?_;refine asr ?_;refine aa 2 ?_;refine an ?_;refine agt ⟨[_], ⟨rfl, trivial⟩, ?_, rfl⟩
     refine bc ?_;exact (stands_bad hx ht z34q).symm
    refine aQ tok 5 rfl ?_;refine aop 71 (fun hb8 => ?_) fun hb8 => ?_
    ·
     refine aQ tok 9 rfl ?_;refine an ?_;refine act ?_;refine asr ?_;refine aa 2 ?_;refine an ?_;refine agt ⟨[_], ⟨rfl, trivial⟩, ?_, rfl⟩
     refine bc ?_;exact (stands_bad hx ht z34q).symm
    refine aQ tok 5 rfl ?_;refine aop 76 (fun hb9 => ?_) fun hb9 => ?_
    ·
     refine aQ tok 4 rfl ?_;refine an ?_;refine act ?_;refine asr ?_;refine aa 2 ?_;refine an ?_;refine agt ⟨[_], ⟨rfl, trivial⟩, ?_, rfl⟩
     refine bc ?_;exact (stands_bad hx ht z34q).symm
    refine aQ tok 4 rfl ?_;refine an ?_;refine asp 80 (fun hb10 => ?_) fun hb10 => ?_
    ·
     refine act ?_;refine asr ?_;refine aa 2 ?_;refine an ?_;refine agt ⟨[_], ⟨rfl, trivial⟩, ?_, rfl⟩
     refine bc ?_;exact (stands_bad hx ht z34q).symm
    refine acf ?_;refine agk ?_;refine AGo.exit ?_;refine agr ?_;refine am 38 ?_;refine aq 39 (q_inc rfl rfl hjl (by have := hi x hxm; simp only [maxLen]; omega)) ?_;refine aa 7 ?_;refine an ?_;exact ⟨j+1, Drop.mk' z31q z4q, ⟨hjl, all_succ ht hja (by first | exact hok | exact z34q)⟩, by omega⟩
   refine acf ?_
   have h10 : (t.op != 10) = true := by have h := hb3; simpa using h
   have hnc := noCall_yes ht h10
   have hok := callOk_no h10
   refine agk ?_;refine agr ?_;refine aQ tok 3 rfl ?_;refine ax 84 (o_lit' tok rfl rfl rfl rfl rfl rfl (by decide) rfl rfl rfl rfl rfl rfl) ?_;refine ax 85 (o_append tok (n := (noCall (x.ins.take j)).length) (m := 1) rfl rfl rfl rfl rfl rfl rfl rfl rfl (by rw [List.length_map]) rfl rfl (Nat.zero_lt_succ _) (.lst _ _) (by intro cs h; simp [partVals] at h; subst h; rfl) (fun _ cs h => by simp [partVals] at h; subst h; rfl) rfl (by have h1 := noCall_take x.ins j; have h2 := hi x hxm; simp [partVals]; omega) (by have h1 := noCall_take x.ins j; have h2 := hi x hxm; simp [partVals]; simp only [maxLen]; omega)) ?_
   refine af 86 tok ?_;refine AOps.w rfl rfl (o_store tok rfl rfl rfl rfl rfl rfl rfl rfl rfl (by decide) rfl z51q) ?_;refine an ?_;refine agr ?_;refine am 38 ?_;refine aq 39 (q_inc rfl rfl hjl (by have := hi x hxm; simp only [maxLen]; omega)) ?_;refine aa 7 ?_;refine an ?_;exact ⟨j+1, Drop.mk' z31q z4q, ⟨hjl, all_succ ht hja (by first | exact hok | exact z34q)⟩, by omega⟩
  refine acf ?_
  have hjge : x.ins.length ≤ j := by have h := hb2; simp only [List.length_map, decide_eq_false_iff_not] at h; omega
  refine AGo.exit ?_;refine AGo.ghost (.freezeCell 4 0 0 5 rfl rfl rfl rfl (by simp) (by decide)) ?_
  rw [List.drop_zero, take_full (l := (noCall (x.ins.take j)).map Tac.cells) (by simp), List.take_of_length_le hjge]
  refine agr ?_;refine aQ tok 3 rfl ?_;refine ax 90 (o_lit' tok rfl rfl rfl rfl rfl rfl (by decide) rfl rfl rfl rfl rfl rfl) ?_;refine ax 91 (o_append tok (n := ((f.blocks.take (k)).map Block.bare).length) (m := 1) rfl rfl rfl rfl rfl rfl rfl rfl rfl (by simp) rfl rfl (Nat.zero_lt_succ _) (.lst _ _) (by intro cs h; simp [partVals] at h; subst h; rfl) (fun _ cs h => by simp [partVals] at h; subst h; rfl) rfl (by simp [partVals]; omega) (by simp [partVals]; simp only [maxLen]; omega)) ?_
  refine af 92 tok ?_;refine AOps.w rfl rfl (o_store tok rfl rfl rfl rfl rfl rfl rfl rfl rfl (by decide) rfl z51q) ?_;refine an ?_;refine agr ?_;refine am 17 ?_;refine aq 18 (q_inc rfl rfl hkl (show f.blocks.length ≤ maxLen by simp only [maxLen]; omega)) ?_
  refine aa 4 ?_;refine an ?_;exact ⟨k+1, Drop.mk' z31q (by repeat (first | exact HDrop.none _ _ | exact HDrop.tail _ _ | refine HDrop.put ?_ (by first | rfl | exact congrArg (fun es => some (AObj.row true 5 es)) (by rw [htk, List.map_append, List.map_append]; rfl) | exact congrArg (fun n : Nat => some (AObj.row false 2 [[.int .i64 f.regs, .ref 2 n 0 n]])) (by rw [htk, List.map_append, List.length_append]; rfl)) rfl z35q)), ⟨hkl, all_succ hx hall (all_end hja hjge)⟩, by omega⟩
 refine acf ?_
 have hge : f.blocks.length ≤ k := by simpa using hb1
 refine AGo.exit ?_;refine asq ?_;refine AGo.ghost (.freezeCell 1 0 1 2 rfl rfl rfl rfl (by simp) (by decide)) ?_
 rw [List.drop_zero, take_full (l := ((f.blocks.take (k)).map Block.bare).map Block.cells) (by simp), List.take_of_length_le hge]
 refine agr ?_;refine al 93 tok ?_;refine ax 94 (o_lit' tok rfl rfl rfl rfl rfl rfl (by decide) rfl rfl rfl rfl rfl rfl) ?_;refine aq 95 (q_build tok rfl rfl rfl rfl rfl (by decide) rfl rfl rfl) ?_;refine ax 96 (opu Tryz.func29 (right_ok (Blocks.mk 1048576 [f.bare]))) ?_;refine aa 2 ?_;refine an ?_;refine agt ⟨[_], ⟨rfl, trivial⟩, ?_, rfl⟩
 refine bc ?_;exact (stands_all (all_end hall hge)).symm
theorem rof_ok (L : List RVal) (hL : L.length ≤ 100000) (v : RVal) : ACall Tryz.prog 70 [.ptr 4 1 0 0, .agg v.cells] (hput (hput hNew 4 (.row false 1 [[slA 9 ((L).map RVal.cells)]])) 9 (slO 9 ((L).map RVal.cells))) (fun r h' => r = .int .i64 (rnum L v).1 ∧ HSub (hput (hput hNone 4 (.row false 1 [[slA 9 (((rnum L v).2).map RVal.cells)]])) 9 (slO 9 (((rnum L v).2).map RVal.cells))) h') := by
 refine ACall.of_body (n := 41) tok Tryz.func70 rfl rfl ?_;refine asr ?_;refine ax 3 (obx 9 12) ?_;refine aa 4 ?_;refine an ?_;refine asq ?_;refine asr ?_;refine aa 5 ?_;refine an ?_;refine AGo.block ?_;refine AGo.loopD (γ := Nat) 13 (fun k => ⟨41, (eput (eput (eput eNew 0 (.ptr 4 1 0 0)) 3 (.ptr 12 1 0 0)) 5 (.int .i64 (k : Int))), (hput (hput (hput (hFrom 13) 4 (.row false 1 [[slA 9 ((L).map RVal.cells)]])) 9 (slO 9 ((L).map RVal.cells))) 12 (.row false 9 [v.cells]))⟩) (fun k => k ≤ L.length ∧ ∀ j, j < k → ∀ y, L[j]? = some y → y.same v = false) (fun k => L.length - k) 0 (Sub.mk' z46q z12q) ⟨Nat.zero_le _, fun j h => absurd h (Nat.not_lt_zero _)⟩ (fun _ => hput_free (hput_free (hput_free (fun b hb => hFrom_free hb) rfl) rfl) rfl) ?_
 intro k ⟨hk, hF⟩
 refine asq ?_;refine asr ?_;refine aQ tok 5 rfl ?_;refine aq 11 (q_lenJ tok rfl rfl rfl rfl) ?_;refine aqb ?_;refine an ?_;refine asp 12 (fun hb1 => ?_) fun hb1 => ?_
 ·
  refine act ?_
  have hkl : k < L.length := by have h := hb1; simp only [List.length_map, decide_eq_true_eq] at h; omega
  obtain ⟨x, hx⟩ := get_of_lt hkl
  refine agk ?_;refine asq ?_;refine AGo.block ?_;refine asq ?_;refine AGo.draw mix ?_;refine dQ tok 5 rfl ?_;refine dq 20 (q_indexJ tok rfl rfl rfl rfl rfl rfl rfl rfl (Int.natCast_nonneg _) (by rw [List.length_map]; omega)) ?_;refine dq 21 (q_load tok rfl rfl rfl (ptsJ rfl (idx_map hx)) rfl) ?_;refine dl 22 tok ?_;refine dq 23 (q_eqStruct tok false rfl rfl rfl (by kernel_rfl) rfl rfl rfl rfl rfl) ?_;refine DOps.nil (by kernel_rfl) ?_;refine asp 23 (fun hb2 => ?_) fun hb2 => ?_
  ·
   refine act ?_
   have hsm : x.same v = true := hb2
   have hi := ridx_first hx hsm hF
   refine asr ?_;refine aQ tok 2 rfl ?_;refine an ?_;refine agt ?_;refine ⟨[_], ⟨rfl, trivial⟩, ?_, ?_⟩ <;> rw [rnum_old hi]
   · rfl
   · exact (HSub.put (HSub.put (HSub.none _) rfl) rfl)
  refine acf ?_
  have hsm : x.same v = false := hb2
  refine agk ?_;refine agr ?_;refine am 13 ?_;refine aq 14 (q_inc rfl rfl hkl (show L.length ≤ maxLen by simp only [maxLen]; omega)) ?_
  refine aa 5 ?_;refine an ?_
  exact ⟨k+1, Drop.mk' z31q z19q, ⟨hkl, fun j hj y hy => by
          by_cases hjk : j = k
          · subst hjk; rw [hx] at hy; exact (Option.some.inj hy) ▸ hsm
          · exact hF j (by omega) y hy⟩, by omega⟩
 refine acf ?_
 have hge : L.length ≤ k := by have h := hb1; simp only [List.length_map, decide_eq_false_iff_not] at h; omega
 have hn := ridx_none (v := v) (L := L) (fun j y hy => hF j (by have := (List.getElem?_eq_some_iff.1 hy).1; omega) y hy)
 refine AGo.exit ?_;refine asq ?_;refine AGo.draw mix ?_;refine dQ tok 6 rfl ?_;refine dx 31 (o_lit' tok rfl rfl rfl rfl rfl rfl (by decide) rfl rfl rfl rfl rfl rfl) ?_;refine dx 32 (o_append1J tok (b := 9) (es := ((L).map RVal.cells)) rfl rfl rfl rfl rfl rfl rfl rfl rfl rfl rfl (Nat.zero_lt_succ _) (rv_len _) (rv_pure _) rfl rfl (by rw [List.length_map]; show _ * 72 ≤ _; omega) z52q) ?_;refine dQ tok 2 rfl ?_;refine DOps.w rfl rfl (o_store1 tok rfl rfl rfl rfl rfl rfl rfl rfl rfl (slA_cells _ _) (by decide) (slA_cell1 _ _) (by intro h; cases h)) ?_;refine DOps.nil (by kernel_rfl) ?_;refine asr ?_;refine aQ tok 4 rfl ?_;refine aq 39 (q_lenJ tok rfl rfl rfl rfl) ?_;refine aq 40 (q_bin (r := .int .i64 (L.length : Int)) rfl rfl rfl (subZ z43q z43q z43q)) ?_;refine aa 4 ?_;refine an ?_;refine agt ?_;refine ⟨[_], ⟨rfl, trivial⟩, ?_, ?_⟩ <;> rw [rnum_new hn]
 · rfl
 · exact (HSub.put (HSub.put (HSub.none _) (by dsimp only; rw [List.map_append]; rfl)) (by dsimp only; rw [List.map_append]; rfl))
theorem rconst_ok (L : List RVal) (i : Int) (hi : 0 ≤ i ∧ i < L.length) : ACall Tryz.prog 109 [.ptr 4 1 0 0, .int .i64 i] (hput (hput hNew 4 (.row false 1 [[slA 9 ((L).map RVal.cells)]])) 9 (slO 9 ((L).map RVal.cells))) (fun r h' => r = .tup [.int .u32 (rconst L i).1, .bool (rconst L i).2] ∧ HSub (hput (hput hNone 4 (.row false 1 [[slA 9 ((L).map RVal.cells)]])) 9 (slO 9 ((L).map RVal.cells))) h') := by
 refine ACall.of_body (n := 23) tok Tryz.func109 rfl rfl ?_;refine asr ?_;refine aQ tok 2 rfl ?_;refine an ?_;refine asq ?_;refine AGo.draw mix ?_;refine dQ tok 5 rfl ?_;refine dq 11 (q_indexJ tok rfl rfl rfl rfl rfl rfl rfl rfl hi.1 (by rw [List.length_map]; exact hi.2)) ?_;refine df 12 tok ?_;refine dq 13 (q_load tok rfl rfl rfl (ptsJo rfl (rval_get hi)) rfl) ?_;refine dQ tok 5 rfl ?_;refine dq 19 (q_indexJ tok rfl rfl rfl rfl rfl rfl rfl rfl hi.1 (by rw [List.length_map]; exact hi.2)) ?_;refine df 20 tok ?_;refine dq 21 (q_load tok rfl rfl rfl (ptsJo rfl (rval_get hi)) rfl) ?_;refine dQ tok 3 rfl ?_;refine DOps.nil (by kernel_rfl) ?_;refine agt ?_;refine ⟨[_, _], ⟨rfl, rfl, trivial⟩, rfl, (HSub.put (HSub.put (HSub.none _) rfl) rfl)⟩
theorem bits_ok0 (a : Nat) (ha : a < 4294967296) : ACall Tryz.prog 101 [.int .u32 (a : Int)] (hput hNew 0 .free) (fun r h' => r = .ref 0 32 0 32 ∧ HSub (hput hNone 0 (.row true 1 (natCells (bitsN a 32)))) h') := by
 refine ACall.of_body (n := 18) tok Tryz.func101 rfl rfl ?_;refine asr ?_;refine aa 2 ?_;refine an ?_;refine asr ?_;refine aa 3 ?_;refine an ?_;refine asq ?_;refine asq ?_;refine AGo.ghost (.dry 3 0 1 true rfl rfl rfl (by decide)) ?_;refine agr ?_;refine aa 4 ?_;refine an ?_;refine AGo.block ?_;refine AGo.loopI (γ := Nat) (fun k => ⟨18, (eput (eput (eput eNew 0 (.int .u32 ((a / 2 ^ k : Nat) : Int))) 3 (.ref 0 k 0 k)) 4 (.int .i64 (k : Int))), (hput hNone 0 (.row true 1 (natCells (bitsN a k))))⟩) (fun k => k ≤ 32) (fun k => 32 - k) 0 (Sub.mk' (by repeat (first | exact ESub.new _ | refine ESub.put ?_ (by first | rfl | exact congrArg (fun (n : Nat) => some (AV.int .u32 (n : Int))) (by simp)))) z12q) (Nat.zero_le _) ?_
 intro k hk
 refine asq ?_;refine asr ?_;refine aQ tok 2 rfl ?_;refine an ?_;refine asp 6 (fun hb1 => ?_) fun hb1 => ?_
 ·
  refine act ?_
  have hkl : k < 32 := by have h := hb1; simp at h; omega
  have hle : a / 2 ^ k ≤ a := Nat.div_le_self _ _
  refine agk ?_;refine asq ?_;refine AGo.block ?_;refine asr ?_;refine aQ tok 2 rfl ?_;refine aq 11 (q_bin (r := .int .u32 ((a / 2 ^ k % 2 : Nat) : Int)) rfl rfl rfl (ebin_rem (a := a / 2 ^ k) (b := 2) (by decide))) ?_;refine aq 12 (q_convSame tok rfl rfl rfl rfl rfl (wrapN_i64 (by omega))) ?_;refine ax 13 (o_lit' tok rfl rfl rfl rfl rfl rfl (by decide) rfl rfl rfl rfl rfl rfl) ?_;refine ax 14 (o_append tok (n := k) (m := 1) rfl rfl rfl rfl rfl rfl rfl rfl rfl (by simp [natCells_len, bitsN_length]) rfl rfl (Nat.zero_lt_succ _) (.lst _ _) (by intro cs h; simp [partVals] at h; subst h; rfl) (fun _ cs h => by simp [partVals] at h; subst h; rfl) rfl (by simp [natCells_len, bitsN_length, partVals]; show _ * 8 ≤ _; omega) (by simp [natCells_len, bitsN_length, partVals]; simp only [maxLen]; omega)) ?_
  refine aa 3 ?_;refine an ?_;refine agr ?_;refine am 15 ?_;refine aq 16 (q_bin (r := .int .u32 ((a / 2 ^ k / 2 : Nat) : Int)) rfl rfl rfl (ebin_quo (a := a / 2 ^ k) (b := 2) (by decide) (wrapN_u32 (by omega)))) ?_;refine aa 0 ?_;refine an ?_;refine agr ?_;refine am 7 ?_;refine aq 8 (q_inc rfl rfl hkl (show 32 ≤ maxLen by decide)) ?_
  refine aa 4 ?_;refine an ?_;exact ⟨k+1, Sub.mk' (by repeat (first | exact ESub.new _ | refine ESub.put ?_ (by first | rfl | exact congrArg (fun (n : Nat) => some (AV.int .u32 (n : Int))) (by rw [Nat.div_div_eq_div_mul, Nat.pow_succ])))) z7q, hkl, by omega⟩
 refine acf ?_
 have hge : ¬ k < 32 := by have h := hb1; simp at h; omega
 refine AGo.exit ?_;refine asq ?_
 obtain rfl : k = 32 := by omega
 refine agr ?_;refine aQ tok 2 rfl ?_;refine an ?_;refine agt ?_;refine ⟨[_], ⟨rfl, trivial⟩, rfl, HSub.put (HSub.none _) rfl⟩
theorem bits_ok1 (a : Nat) (ha : a < 4294967296) : ACall Tryz.prog 101 [.int .u32 (a : Int)] (hput hNew 1 .free) (fun r h' => r = .ref 1 32 0 32 ∧ HSub (hput hNone 1 (.row true 1 (natCells (bitsN a 32)))) h') := by
 refine ACall.of_body (n := 18) tok Tryz.func101 rfl rfl ?_;refine asr ?_;refine aa 2 ?_;refine an ?_;refine asr ?_;refine aa 3 ?_;refine an ?_;refine asq ?_;refine asq ?_;refine AGo.ghost (.dry 3 1 1 true rfl rfl rfl (by decide)) ?_;refine agr ?_;refine aa 4 ?_;refine an ?_;refine AGo.block ?_;refine AGo.loopI (γ := Nat) (fun k => ⟨18, (eput (eput (eput eNew 0 (.int .u32 ((a / 2 ^ k : Nat) : Int))) 3 (.ref 1 k 0 k)) 4 (.int .i64 (k : Int))), (hput hNone 1 (.row true 1 (natCells (bitsN a k))))⟩) (fun k => k ≤ 32) (fun k => 32 - k) 0 (Sub.mk' (by repeat (first | exact ESub.new _ | refine ESub.put ?_ (by first | rfl | exact congrArg (fun (n : Nat) => some (AV.int .u32 (n : Int))) (by simp)))) z12q) (Nat.zero_le _) ?_
 intro k hk
 refine asq ?_;refine asr ?_;refine aQ tok 2 rfl ?_;refine an ?_;refine asp 6 (fun hb1 => ?_) fun hb1 => ?_
 ·
  refine act ?_
  have hkl : k < 32 := by have h := hb1; simp at h; omega
  have hle : a / 2 ^ k ≤ a := Nat.div_le_self _ _
  refine agk ?_;refine asq ?_;refine AGo.block ?_;refine asr ?_;refine aQ tok 2 rfl ?_;refine aq 11 (q_bin (r := .int .u32 ((a / 2 ^ k % 2 : Nat) : Int)) rfl rfl rfl (ebin_rem (a := a / 2 ^ k) (b := 2) (by decide))) ?_;refine aq 12 (q_convSame tok rfl rfl rfl rfl rfl (wrapN_i64 (by omega))) ?_;refine ax 13 (o_lit' tok rfl rfl rfl rfl rfl rfl (by decide) rfl rfl rfl rfl rfl rfl) ?_;refine ax 14 (o_append tok (n := k) (m := 1) rfl rfl rfl rfl rfl rfl rfl rfl rfl (by simp [natCells_len, bitsN_length]) rfl rfl (Nat.zero_lt_succ _) (.lst _ _) (by intro cs h; simp [partVals] at h; subst h; rfl) (fun _ cs h => by simp [partVals] at h; subst h; rfl) rfl (by simp [natCells_len, bitsN_length, partVals]; show _ * 8 ≤ _; omega) (by simp [natCells_len, bitsN_length, partVals]; simp only [maxLen]; omega)) ?_
  refine aa 3 ?_;refine an ?_;refine agr ?_;refine am 15 ?_;refine aq 16 (q_bin (r := .int .u32 ((a / 2 ^ k / 2 : Nat) : Int)) rfl rfl rfl (ebin_quo (a := a / 2 ^ k) (b := 2) (by decide) (wrapN_u32 (by omega)))) ?_;refine aa 0 ?_;refine an ?_;refine agr ?_;refine am 7 ?_;refine aq 8 (q_inc rfl rfl hkl (show 32 ≤ maxLen by decide)) ?_
  refine aa 4 ?_;refine an ?_;exact ⟨k+1, Sub.mk' (by repeat (first | exact ESub.new _ | refine ESub.put ?_ (by first | rfl | exact congrArg (fun (n : Nat) => some (AV.int .u32 (n : Int))) (by rw [Nat.div_div_eq_div_mul, Nat.pow_succ])))) z7q, hkl, by omega⟩
 refine acf ?_
 have hge : ¬ k < 32 := by have h := hb1; simp at h; omega
 refine AGo.exit ?_;refine asq ?_
 obtain rfl : k = 32 := by omega
 refine agr ?_;refine aQ tok 2 rfl ?_;refine an ?_;refine agt ?_;refine ⟨[_], ⟨rfl, trivial⟩, rfl, HSub.put (HSub.none _) rfl⟩
theorem bitsOf_ok (l : List Nat) (hl : l.length = 32) (hb : ∀ b ∈ l, b < 2) : APure Tryz.prog 102 [.lst false (natCells l)] (fun r => r = .int .u32 (valB l : Int)) := by
 refine APure.of_body (n := 23) tok Tryz.func102 rfl rfl ?_;refine asr ?_;refine aa 2 ?_;refine an ?_;refine asr ?_;refine aa 3 ?_;refine an ?_;refine asq ?_;refine asr ?_;refine aQ tok 2 rfl ?_;refine aq 7 (q_bin (r := .int .i64 (31 : Int)) rfl rfl rfl (by rw [natCells_len, hl]; rfl)) ?_;refine aa 4 ?_;refine an ?_;refine AGo.block ?_;refine AGo.loopI (γ := Nat) (fun k => ⟨23, (eput (eput (eput eNew 0 (.lst false (natCells l))) 3 (.int .u64 ((valB (l.drop k) : Nat) : Int))) 4 (.int .i64 ((k : Int) - 1))), hNone⟩) (fun k => k ≤ 32) (fun k => k) 32 (Sub.mk' (by repeat (first | exact ESub.new _ | refine ESub.put ?_ (by first | rfl | exact congrArg (fun (n : Nat) => some (AV.int .u64 (n : Int))) (by rw [List.drop_eq_nil_of_le (by omega)]; rfl)))) z12q) (Nat.le_refl _) ?_
 intro k hk
 refine asq ?_;refine asr ?_;refine aQ tok 2 rfl ?_;refine an ?_;refine asp 9 (fun hb1 => ?_) fun hb1 => ?_
 ·
  refine act ?_
  obtain ⟨m, rfl⟩ : ∃ m, k = m + 1 := ⟨k - 1, by have h := hb1; simp at h; omega⟩
  obtain ⟨b, hx⟩ := get_of_lt (l := l) (k := m) (by omega)
  have hb2 := hb b (List.mem_of_getElem? hx)
  have hv := valB_drop_lt hl hb (m + 1)
  have hv2 := valB_drop hx
  refine agk ?_;refine asq ?_;refine AGo.block ?_;refine agr ?_;refine am 12 ?_;refine aq 13 (q_bin (r := .int .u64 ((2 * valB (l.drop (m + 1)) : Nat) : Int)) rfl rfl rfl (ebin_mul (a := 2) (b := valB (l.drop (m + 1))) (wrapN_u64 (by omega)))) ?_;refine aQ tok 2 rfl ?_;refine aq 16 (q_index_lst tok rfl rfl rfl rfl rfl rfl (by omega) (cs := [.int .i64 (b : Int)]) (by rw [show (((m + 1 : Nat) : Int) - 1).toNat = m by omega]; show (natCells l)[m]? = _; rw [natCells, List.getElem?_map, hx]; rfl) rfl) ?_
  refine al 17 tok ?_;refine aq 18 (q_convSame tok rfl rfl rfl rfl rfl (wrapN_u64 (by omega))) ?_;refine aq 19 (q_bin (r := .int .u64 ((2 * valB (l.drop (m + 1)) + b : Nat) : Int)) rfl rfl rfl (ebin_add (wrapN_u64 (by omega)))) ?_;refine aa 3 ?_;refine an ?_;refine agr ?_;refine am 10 ?_;refine aq 11 (q_bin (r := .int .i64 ((m : Int) - 1)) rfl rfl rfl (by simp only [evalBin, evalInt, isShift, cond_false, if_true]; rw [wrap_i64 (by omega) (by omega)]; congr 2; omega)) ?_;refine aa 4 ?_;refine an ?_;exact ⟨m, Sub.mk' (by repeat (first | exact ESub.new _ | refine ESub.put ?_ (by first | rfl | exact congrArg (fun (n : Nat) => some (AV.int .u64 (n : Int))) (by omega)))) z12q, (by omega), by omega⟩
 refine acf ?_
 obtain rfl : k = 0 := by have h := hb1; simp at h; omega
 refine AGo.exit ?_;refine asr ?_;refine am 20 ?_;refine aq 21 (q_bin (r := .int .u64 ((valB (l.drop 0) % 4294967296 : Nat) : Int)) rfl rfl rfl (ebin_rem (a := valB (l.drop 0)) (b := 4294967296) (by decide))) ?_;refine aq 22 (q_convSame tok rfl rfl rfl rfl rfl (wrapN_u32 (Nat.mod_lt _ (by decide)))) ?_;refine aa 2 ?_;refine an ?_;refine agt ⟨[_], ⟨rfl, trivial⟩, ?_, rfl⟩
 show AV.int .u32 _ = _
 rw [Nat.mod_eq_of_lt (valB_drop_lt hl hb 0), List.drop_zero]
theorem both_ok (op : Int) (a b : Nat) (ha : a < 4294967296) (hb : b < 4294967296) : APure Tryz.prog 93 [.int .i64 op, .int .u32 (a : Int), .int .u32 (b : Int)] (fun r => r = .int .u32 (valB (bothN op a b) : Int)) := by
 refine APure.of_body (n := 50) tok Tryz.func93 rfl rfl ?_;refine asr ?_;refine aa 6 ?_;refine an ?_;refine asr ?_;refine am 11 ?_;refine ax 12 (oct (bits_ok0 a ha) [0] [(0, (.row true 1 (natCells (bitsN a 32))))] rfl Tryz.func101 (by kernel_rfl) rfl rfl rfl ⟨⟨_, rfl, rfl⟩, trivial⟩ rfl (hres_cons rfl (hres_nil _)) ⟨⟨_, rfl, rfl, rfl⟩, trivial⟩ rfl) ?_;refine am 13 ?_;refine ax 14 (oct (bits_ok1 b hb) [1] [(1, (.row true 1 (natCells (bitsN b 32))))] rfl Tryz.func101 (by kernel_rfl) rfl rfl rfl ⟨⟨_, rfl, rfl⟩, trivial⟩ rfl (hres_cons rfl (hres_nil _)) ⟨⟨_, rfl, rfl, rfl⟩, trivial⟩ rfl) ?_;refine aQ tok 2 rfl ?_;refine an ?_;refine asq ?_;refine asr ?_;refine aa 9 ?_;refine an ?_;refine AGo.block ?_;refine AGo.loopI (γ := Nat) (fun k => ⟨50, (eput (eput (eput (eput eNew 0 (.int .i64 op)) 7 (.ref 0 32 0 32)) 8 (.ref 1 32 0 32)) 9 (.int .i64 (k : Int))), (hput (hput hNone 0 (.row true 1 (natCells (mixB op a b k)))) 1 (.row true 1 (natCells (bitsN b 32))))⟩) (fun k => k ≤ 32) (fun k => 32 - k) 0 (Sub.mk' z46q (by repeat (first | exact HSub.refl _ | exact HSub.none _ | exact HSub.from_new _ | exact HSub.from_from z55q | refine HSub.put ?_ (by first | rfl | exact congrArg (fun l => some (AObj.row true 1 (natCells l))) (mixB_zero op a b).symm) | refine HSub.from_put ?_ z55q | refine HSub.from_rm ?_ (by decide)))) (Nat.zero_le _) ?_
 intro k hk
 refine asq ?_;refine asr ?_;refine aQ tok 2 rfl ?_;refine an ?_;refine asp 16 (fun hb1 => ?_) fun hb1 => ?_
 ·
  refine act ?_
  have hkl : k < 32 := by have h := hb1; simp at h; omega
  refine agk ?_;refine asq ?_;refine AGo.block ?_;refine asq ?_;refine AGo.draw mix ?_;refine dQ tok 2 rfl ?_;refine dq 21 (q_index_ref tok rfl rfl rfl rfl rfl rfl rfl (by simp [natCells_len, mixB_length (Nat.le_of_lt hkl), bitsN_length]) rfl (Int.natCast_nonneg _) (by omega)) ?_;refine dq 22 (q_load tok rfl rfl rfl (.ptr _ _ _ _ _ _ _ _ rfl z50q (natCells_get (mixB_get hkl))) rfl) ?_;refine dQ tok 2 rfl ?_;refine dq 25 (q_index_ref tok rfl rfl rfl rfl rfl rfl rfl (by simp [natCells_len, mixB_length (Nat.le_of_lt hkl), bitsN_length]) rfl (Int.natCast_nonneg _) (by omega)) ?_;refine dq 26 (q_load tok rfl rfl rfl (.ptr _ _ _ _ _ _ _ _ rfl (by simp [natCells_len, bitsN_length]) (natCells_get (bitsN_get hkl))) rfl) ?_;refine dq 27 (q_bin (r := .int .i64 ((a / 2 ^ k % 2 + b / 2 ^ k % 2 : Nat) : Int)) rfl rfl rfl (ebin_add (wrapN_i64 (by omega)))) ?_;refine da 10 ?_;refine DOps.nil (by kernel_rfl) ?_
  refine asr ?_;refine aQ tok 2 rfl ?_;refine aq 30 (q_index_ref tok rfl rfl rfl rfl rfl rfl rfl (by simp [natCells_len, mixB_length (Nat.le_of_lt hkl), bitsN_length]) rfl (Int.natCast_nonneg _) (by omega)) ?_;refine AOps.w rfl rfl (o_store tok rfl rfl rfl rfl rfl rfl z50q (natCells_get (mixB_get hkl)) rfl (by decide) rfl z51q) ?_;refine an ?_;refine asr ?_;refine aQ tok 3 rfl ?_;refine aop 33 (fun hb2 => ?_) fun hb2 => ?_
  ·
   refine aQ tok 4 rfl ?_;refine aop 37 (fun hb3 => ?_) fun hb3 => ?_
   ·
    refine aQ tok 7 rfl ?_;refine an ?_;refine act ?_;refine agr ?_;refine aQ tok 2 rfl ?_;refine aq 47 (q_index_ref tok rfl rfl rfl rfl rfl rfl rfl z50q rfl (Int.natCast_nonneg _) (by omega)) ?_;refine AOps.w rfl rfl (o_store tok rfl rfl rfl rfl rfl rfl z50q (get_set_self (natCells_get (mixB_get hkl))) rfl (by decide) rfl z51q) ?_;refine an ?_;refine agr ?_;refine am 17 ?_;refine aq 18 (q_inc rfl rfl hkl (show 32 ≤ maxLen by decide)) ?_
    refine aa 9 ?_;refine an ?_;exact ⟨k+1, Sub.mk' z46q z1q, hkl, by omega⟩
   refine aQ tok 3 rfl ?_;refine aop 40 (fun hb4 => ?_) fun hb4 => ?_
   ·
    refine aQ tok 4 rfl ?_;refine an ?_;refine asp 44 (fun hb5 => ?_) fun hb5 => ?_
    ·
     refine act ?_;refine agr ?_;refine aQ tok 2 rfl ?_;refine aq 47 (q_index_ref tok rfl rfl rfl rfl rfl rfl rfl z50q rfl (Int.natCast_nonneg _) (by omega)) ?_;refine AOps.w rfl rfl (o_store tok rfl rfl rfl rfl rfl rfl z50q (get_set_self (natCells_get (mixB_get hkl))) rfl (by decide) rfl z51q) ?_;refine an ?_;refine agr ?_;refine am 17 ?_;refine aq 18 (q_inc rfl rfl hkl (show 32 ≤ maxLen by decide)) ?_
     refine aa 9 ?_;refine an ?_;exact ⟨k+1, Sub.mk' z46q z1q, hkl, by omega⟩
    refine acf ?_;refine agk ?_;refine agr ?_;refine am 17 ?_;refine aq 18 (q_inc rfl rfl hkl (show 32 ≤ maxLen by decide)) ?_
    refine aa 9 ?_;refine an ?_;exact ⟨k+1, Sub.mk' z46q z1q, hkl, by omega⟩
   refine aQ tok 4 rfl ?_;refine an ?_;refine acf ?_;refine agk ?_;refine agr ?_;refine am 17 ?_;refine aq 18 (q_inc rfl rfl hkl (show 32 ≤ maxLen by decide)) ?_
   refine aa 9 ?_;refine an ?_;exact ⟨k+1, Sub.mk' z46q z1q, hkl, by omega⟩
  refine aQ tok 7 rfl ?_;refine aop 40 (fun hb6 => ?_) fun hb6 => ?_
  ·
   refine aQ tok 4 rfl ?_;refine an ?_;refine asp 44 (fun hb7 => ?_) fun hb7 => ?_
   ·
    refine act ?_;refine agr ?_;refine aQ tok 2 rfl ?_;refine aq 47 (q_index_ref tok rfl rfl rfl rfl rfl rfl rfl z50q rfl (Int.natCast_nonneg _) (by omega)) ?_;refine AOps.w rfl rfl (o_store tok rfl rfl rfl rfl rfl rfl z50q (get_set_self (natCells_get (mixB_get hkl))) rfl (by decide) rfl z51q) ?_;refine an ?_;refine agr ?_;refine am 17 ?_;refine aq 18 (q_inc rfl rfl hkl (show 32 ≤ maxLen by decide)) ?_
    refine aa 9 ?_;refine an ?_;exact ⟨k+1, Sub.mk' z46q z1q, hkl, by omega⟩
   refine acf ?_;refine agk ?_;refine agr ?_;refine am 17 ?_;refine aq 18 (q_inc rfl rfl hkl (show 32 ≤ maxLen by decide)) ?_
   refine aa 9 ?_;refine an ?_;exact ⟨k+1, Sub.mk' z46q z1q, hkl, by omega⟩
  refine aQ tok 4 rfl ?_;refine an ?_;refine acf ?_;refine agk ?_;refine agr ?_;refine am 17 ?_;refine aq 18 (q_inc rfl rfl hkl (show 32 ≤ maxLen by decide)) ?_
  refine aa 9 ?_;refine an ?_;exact ⟨k+1, Sub.mk' z46q z1q, hkl, by omega⟩
 refine acf ?_
 have hge : ¬ k < 32 := by have h := hb1; simp at h; omega
 obtain rfl : k = 32 := by omega
 rw [mixB_end]
 refine AGo.exit ?_;refine asq ?_;refine AGo.ghost (.freezeAll 7 0 rfl rfl (by simp [natCells_len, bothN_length])) ?_;refine agr ?_;refine am 48 ?_;refine ax 49 (opu Tryz.func102 (bitsOf_ok _ (bothN_length _ _ _) (bothN_lt _ _ _))) ?_;refine aa 6 ?_;refine an ?_;refine agt ⟨[_], ⟨rfl, trivial⟩, ?_, rfl⟩
 rfl
theorem rshift_ok (op : Int) (a b : Nat) (ha : a < 4294967296) (hb : b < 4294967296) (ho : op = 12 ∨ op = 13) : APure Tryz.prog 94 [.int .i64 op, .int .u32 (a : Int), .int .u32 (b : Int)] (fun r => r = .int .u32 (wshift op a b)) := by
 refine APure.of_body (n := 27) tok Tryz.func94 rfl rfl ?_;refine asr ?_;refine aa 6 ?_;refine an ?_;refine asq ?_;refine asr ?_;refine aQ tok 2 rfl ?_;refine an ?_;refine asp 10 (fun hb1 => ?_) fun hb1 => ?_
 ·
  refine act ?_
  have hb32 : 32 ≤ b := by have h := hb1; simp at h; omega
  refine asr ?_;refine aa 6 ?_;refine an ?_;refine agt ⟨[_], ⟨rfl, trivial⟩, ?_, rfl⟩
  show AV.int .u32 _ = _
  rw [wshift_big op hb32]
 refine acf ?_
 have hb32 : b < 32 := by have h := hb1; simp at h; omega
 refine agk ?_;refine asr ?_;refine am 11 ?_;refine aq 12 (q_convSame tok rfl rfl rfl rfl rfl (wrapN_u64 (by omega))) ?_;refine aa 7 ?_;refine an ?_;refine asq ?_;refine asr ?_;refine aa 8 ?_;refine an ?_;refine AGo.block ?_;refine AGo.loopI (γ := Nat) (fun k => ⟨27, (eput (eput (eput (eput eNew 0 (.int .i64 op)) 2 (.int .u32 (b : Int))) 7 (.int .u64 ((shN op a k : Nat) : Int))) 8 (.int .u32 (k : Int))), hNone⟩) (fun k => k ≤ b) (fun k => b - k) 0 (Sub.mk' z46q z12q) (Nat.zero_le _) ?_
 intro k hk
 refine asq ?_;refine asr ?_;refine aQ tok 3 rfl ?_;refine an ?_;refine asp 15 (fun hb2 => ?_) fun hb2 => ?_
 ·
  refine act ?_
  have hkl : k < b := by have h := hb2; simp at h; omega
  have hlt := shN_lt (op := op) ha k
  refine agk ?_;refine asq ?_;refine AGo.block ?_;refine asr ?_;refine aQ tok 2 rfl ?_;refine an ?_;refine asp 19 (fun hb3 => ?_) fun hb3 => ?_
  ·
   refine act ?_;refine agr ?_;refine am 20 ?_;refine aq 21 (q_bin (r := .int .u64 ((2 * shN op a k : Nat) : Int)) rfl rfl rfl (ebin_mul (a := 2) (b := shN op a k) (wrapN_u64 (by omega)))) ?_;refine aq 22 (q_bin (r := .int .u64 ((2 * shN op a k % 4294967296 : Nat) : Int)) rfl rfl rfl (ebin_rem (a := 2 * shN op a k) (b := 4294967296) (by decide))) ?_;refine aa 7 ?_;refine an ?_;refine agr ?_;refine am 16 ?_;refine aq 17 (q_bin (r := .int .u32 ((k + 1 : Nat) : Int)) rfl rfl rfl (ebin_add (b := 1) (wrapN_u32 (by omega)))) ?_;refine aa 8 ?_;refine an ?_;exact ⟨k+1, Sub.mk' (by repeat (first | exact ESub.new _ | refine ESub.put ?_ (by first | rfl | exact congrArg (fun (n : Nat) => some (AV.int .u64 (n : Int))) (by simp only [shN, *, cond_true, cond_false])))) z12q, hkl, by omega⟩
  refine acf ?_;refine agr ?_;refine am 23 ?_;refine aq 24 (q_bin (r := .int .u64 ((shN op a k / 2 : Nat) : Int)) rfl rfl rfl (ebin_quo (a := shN op a k) (b := 2) (by decide) (wrapN_u64 (by omega)))) ?_;refine aa 7 ?_;refine an ?_;refine agr ?_;refine am 16 ?_;refine aq 17 (q_bin (r := .int .u32 ((k + 1 : Nat) : Int)) rfl rfl rfl (ebin_add (b := 1) (wrapN_u32 (by omega)))) ?_;refine aa 8 ?_;refine an ?_;exact ⟨k+1, Sub.mk' (by repeat (first | exact ESub.new _ | refine ESub.put ?_ (by first | rfl | exact congrArg (fun (n : Nat) => some (AV.int .u64 (n : Int))) (by simp only [shN, *, cond_true, cond_false])))) z12q, hkl, by omega⟩
 refine acf ?_
 obtain rfl : k = b := by have h := hb2; simp at h; omega
 refine AGo.exit ?_;refine asr ?_;refine am 25 ?_;refine aq 26 (q_convSame tok rfl rfl rfl rfl rfl (wrapN_u32 (shN_lt ha _))) ?_;refine aa 6 ?_;refine an ?_;refine agt ⟨[_], ⟨rfl, trivial⟩, ?_, rfl⟩
 show AV.int .u32 _ = _
 rw [wshift_small ha hb32 ho]
theorem flag_ok (ok : Bool) : APure Tryz.prog 95 [.bool ok] (fun r => r = .int .u32 (bif ok then 1 else 0)) := by
 refine APure.of_body (n := 4) tok Tryz.func95 rfl rfl ?_;refine asr ?_;refine aa 2 ?_;refine an ?_;refine asq ?_;refine asr ?_;refine am 3 ?_;refine an ?_;refine asp 3 (fun hb1 => ?_) fun hb1 => ?_
 ·
  refine act ?_;refine asr ?_;refine aa 2 ?_;refine an ?_;refine agt ⟨[_], ⟨rfl, trivial⟩, ?_, rfl⟩
  show AV.int .u32 _ = _
  simp [*]
 refine acf ?_;refine agk ?_;refine asr ?_;refine aa 2 ?_;refine an ?_;refine agt ⟨[_], ⟨rfl, trivial⟩, ?_, rfl⟩
 show AV.int .u32 _ = _
 simp [*]
theorem rapply_okN (op : Int) (a b : Nat) (ha : a < 4294967296) (hb : b < 4294967296) : APure Tryz.prog 72 [.int .i64 op, .int .u32 (a : Int), .int .u32 (b : Int)] (fun r => r = wpair (wapp op a b)) := by
 refine APure.of_body (n := 80) tok Tryz.func72 rfl rfl ?_;refine asr ?_;refine aQ tok 2 rfl ?_;refine an ?_;refine asr ?_;refine am 10 ?_;refine aq 11 (q_convSame tok rfl rfl rfl rfl rfl (wrapN_u64 (by omega))) ?_;refine am 12 ?_;refine aq 13 (q_convSame tok rfl rfl rfl rfl rfl (wrapN_u64 (by omega))) ?_;refine aQ tok 2 rfl ?_;refine an ?_;refine asq ?_;refine asr ?_;refine am 14 ?_;refine an ?_;refine AGo.block ?_;refine asr ?_;refine aQ tok 2 rfl ?_;refine an ?_;refine asp 15 (fun hb1 => ?_) fun hb1 => ?_
 ·
  refine act ?_
  obtain rfl : op = 4 := by simpa using hb1
  refine asr ?_;refine aQ tok 2 rfl ?_;refine aq 19 (q_bin (r := .int .u64 ((a + b : Nat) : Int)) rfl rfl rfl (ebin_add (wrapN_u64 (by omega)))) ?_;refine aq 20 (q_bin (r := .int .u64 (((a + b) % 4294967296 : Nat) : Int)) rfl rfl rfl (ebin_rem (a := a + b) (b := 4294967296) (by decide))) ?_;refine aq 21 (q_convSame tok rfl rfl rfl rfl rfl (wrapN_u32 (Nat.mod_lt _ (by decide)))) ?_;refine aQ tok 2 rfl ?_;refine an ?_;refine agt ?_;refine ⟨[_, _], ⟨rfl, rfl, trivial⟩, ?_, rfl⟩
  show AV.tup _ = _
  rw [wapp_add]; rfl
 refine acf ?_;refine asr ?_;refine aQ tok 2 rfl ?_;refine an ?_;refine asp 22 (fun hb2 => ?_) fun hb2 => ?_
 ·
  refine act ?_
  obtain rfl : op = 5 := by simpa using hb2
  refine asr ?_;refine am 24 ?_;refine aq 25 (q_bin (r := .int .u64 ((a + 4294967296 : Nat) : Int)) rfl rfl rfl (ebin_add (b := 4294967296) (wrapN_u64 (by omega)))) ?_;refine am 26 ?_;refine aq 27 (q_bin (r := .int .u64 ((a + 4294967296 - b : Nat) : Int)) rfl rfl rfl (ebin_sub (by omega) (wrapN_u64 (by omega)))) ?_;refine aq 28 (q_bin (r := .int .u64 (((a + 4294967296 - b) % 4294967296 : Nat) : Int)) rfl rfl rfl (ebin_rem (a := a + 4294967296 - b) (b := 4294967296) (by decide))) ?_;refine aq 29 (q_convSame tok rfl rfl rfl rfl rfl (wrapN_u32 (Nat.mod_lt _ (by decide)))) ?_;refine aQ tok 2 rfl ?_;refine an ?_;refine agt ?_;refine ⟨[_, _], ⟨rfl, rfl, trivial⟩, ?_, rfl⟩
  show AV.tup _ = _
  rw [wapp_sub hb]; rfl
 refine acf ?_;refine asr ?_;refine aQ tok 2 rfl ?_;refine an ?_;refine asp 30 (fun hb3 => ?_) fun hb3 => ?_
 ·
  refine act ?_
  obtain rfl : op = 6 := by simpa using hb3
  have hab : a * b < 18446744073709551616 := by have := Nat.mul_lt_mul'' ha hb; omega
  refine asr ?_;refine aQ tok 2 rfl ?_;refine aq 34 (q_bin (r := .int .u64 ((a * b : Nat) : Int)) rfl rfl rfl (ebin_mul (wrapN_u64 hab))) ?_;refine aq 35 (q_bin (r := .int .u64 ((a * b % 4294967296 : Nat) : Int)) rfl rfl rfl (ebin_rem (a := a * b) (b := 4294967296) (by decide))) ?_;refine aq 36 (q_convSame tok rfl rfl rfl rfl rfl (wrapN_u32 (Nat.mod_lt _ (by decide)))) ?_;refine aQ tok 2 rfl ?_;refine an ?_;refine agt ?_;refine ⟨[_, _], ⟨rfl, rfl, trivial⟩, ?_, rfl⟩
  show AV.tup _ = _
  rw [wapp_mul]; rfl
 refine acf ?_;refine asr ?_;refine aQ tok 2 rfl ?_;refine an ?_;refine asp 37 (fun hb4 => ?_) fun hb4 => ?_
 ·
  refine act ?_
  obtain rfl : op = 7 := by simpa using hb4
  refine asq ?_;refine asr ?_;refine aQ tok 2 rfl ?_;refine an ?_;refine asp 40 (fun hb5 => ?_) fun hb5 => ?_
  ·
   refine act ?_
   obtain rfl : b = 0 := by have h := hb5; simp at h; omega
   refine asr ?_;refine aQ tok 2 rfl ?_;refine an ?_;refine agt ?_;refine ⟨[_, _], ⟨rfl, rfl, trivial⟩, ?_, rfl⟩
   show AV.tup _ = _
   rw [show (((0 : Nat) : Int)) = 0 from rfl, wapp_div0 _ _ (by simp)]; rfl
  refine acf ?_
  have hb0 : ¬ b = 0 := by have h := hb5; simp at h; omega
  have hda := Nat.div_le_self a b
  refine agk ?_;refine asr ?_;refine aQ tok 2 rfl ?_;refine aq 43 (q_bin (r := .int .u64 ((a / b : Nat) : Int)) rfl rfl rfl (ebin_quo (Nat.pos_of_ne_zero hb0) (wrapN_u64 (by omega)))) ?_;refine aq 44 (q_convSame tok rfl rfl rfl rfl rfl (wrapN_u32 (by omega))) ?_;refine aQ tok 2 rfl ?_;refine an ?_;refine agt ?_;refine ⟨[_, _], ⟨rfl, rfl, trivial⟩, ?_, rfl⟩
  show AV.tup _ = _
  rw [wapp_div ha hb0]; rfl
 refine acf ?_;refine asr ?_;refine aQ tok 2 rfl ?_;refine an ?_;refine asp 45 (fun hb6 => ?_) fun hb6 => ?_
 ·
  refine act ?_
  obtain rfl : op = 8 := by simpa using hb6
  refine asq ?_;refine asr ?_;refine aQ tok 2 rfl ?_;refine an ?_;refine asp 48 (fun hb7 => ?_) fun hb7 => ?_
  ·
   refine act ?_
   obtain rfl : b = 0 := by have h := hb7; simp at h; omega
   refine asr ?_;refine aQ tok 2 rfl ?_;refine an ?_;refine agt ?_;refine ⟨[_, _], ⟨rfl, rfl, trivial⟩, ?_, rfl⟩
   show AV.tup _ = _
   rw [show (((0 : Nat) : Int)) = 0 from rfl, wapp_div0 _ _ (by simp)]; rfl
  refine acf ?_
  have hb0 : ¬ b = 0 := by have h := hb7; simp at h; omega
  have hma := Nat.mod_lt a (Nat.pos_of_ne_zero hb0)
  refine agk ?_;refine asr ?_;refine aQ tok 2 rfl ?_;refine aq 51 (q_bin (r := .int .u64 ((a % b : Nat) : Int)) rfl rfl rfl (ebin_rem (Nat.pos_of_ne_zero hb0))) ?_;refine aq 52 (q_convSame tok rfl rfl rfl rfl rfl (wrapN_u32 (by omega))) ?_;refine aQ tok 2 rfl ?_;refine an ?_;refine agt ?_;refine ⟨[_, _], ⟨rfl, rfl, trivial⟩, ?_, rfl⟩
  show AV.tup _ = _
  rw [wapp_mod hb0]; rfl
 refine acf ?_;refine asq ?_;refine asr ?_;refine aQ tok 2 rfl ?_;refine an ?_;refine asp 53 (fun hb8 => ?_) fun hb8 => ?_
 ·
  refine act ?_;refine agk ?_;refine act ?_;refine asr ?_
  have ho : op = 9 ∨ op = 10 ∨ op = 11 := by simp_all
  refine aQ tok 3 rfl ?_;refine ax 60 (opu Tryz.func93 (both_ok _ a b ha hb)) ?_;refine aQ tok 2 rfl ?_;refine an ?_;refine agt ?_;refine ⟨[_, _], ⟨rfl, rfl, trivial⟩, ?_, rfl⟩
  show AV.tup _ = _
  rw [wapp_both ha hb ho]; rfl
 refine acf ?_;refine asr ?_;refine aQ tok 2 rfl ?_;refine an ?_;refine asp 53 (fun hb9 => ?_) fun hb9 => ?_
 ·
  refine act ?_;refine agk ?_;refine act ?_;refine asr ?_
  have ho : op = 9 ∨ op = 10 ∨ op = 11 := by simp_all
  refine aQ tok 3 rfl ?_;refine ax 60 (opu Tryz.func93 (both_ok _ a b ha hb)) ?_;refine aQ tok 2 rfl ?_;refine an ?_;refine agt ?_;refine ⟨[_, _], ⟨rfl, rfl, trivial⟩, ?_, rfl⟩
  show AV.tup _ = _
  rw [wapp_both ha hb ho]; rfl
 refine acf ?_;refine agr ?_;refine aQ tok 2 rfl ?_;refine an ?_;refine asp 53 (fun hb10 => ?_) fun hb10 => ?_
 ·
  refine act ?_;refine asr ?_
  have ho : op = 9 ∨ op = 10 ∨ op = 11 := by simp_all
  refine aQ tok 3 rfl ?_;refine ax 60 (opu Tryz.func93 (both_ok _ a b ha hb)) ?_;refine aQ tok 2 rfl ?_;refine an ?_;refine agt ?_;refine ⟨[_, _], ⟨rfl, rfl, trivial⟩, ?_, rfl⟩
  show AV.tup _ = _
  rw [wapp_both ha hb ho]; rfl
 refine acf ?_;refine asq ?_;refine asr ?_;refine aQ tok 2 rfl ?_;refine an ?_;refine asp 61 (fun hb11 => ?_) fun hb11 => ?_
 ·
  refine act ?_;refine agk ?_;refine act ?_;refine asr ?_
  have ho : op = 12 ∨ op = 13 := by simp_all
  refine aQ tok 3 rfl ?_;refine ax 67 (opu Tryz.func94 (rshift_ok _ a b ha hb ho)) ?_;refine aQ tok 2 rfl ?_;refine an ?_;refine agt ?_;refine ⟨[_, _], ⟨rfl, rfl, trivial⟩, ?_, rfl⟩
  show AV.tup _ = _
  rw [wapp_shift ho]; rfl
 refine acf ?_;refine agr ?_;refine aQ tok 2 rfl ?_;refine an ?_;refine asp 61 (fun hb12 => ?_) fun hb12 => ?_
 ·
  refine act ?_;refine asr ?_
  have ho : op = 12 ∨ op = 13 := by simp_all
  refine aQ tok 3 rfl ?_;refine ax 67 (opu Tryz.func94 (rshift_ok _ a b ha hb ho)) ?_;refine aQ tok 2 rfl ?_;refine an ?_;refine agt ?_;refine ⟨[_, _], ⟨rfl, rfl, trivial⟩, ?_, rfl⟩
  show AV.tup _ = _
  rw [wapp_shift ho]; rfl
 refine acf ?_;refine asr ?_;refine aQ tok 2 rfl ?_;refine an ?_;refine asp 68 (fun hb13 => ?_) fun hb13 => ?_
 ·
  refine act ?_
  obtain rfl : op = 14 := by simpa using hb13
  refine asr ?_;refine aQ tok 3 rfl ?_;refine ax 73 (opu Tryz.func95 (flag_ok _)) ?_;refine aQ tok 2 rfl ?_;refine an ?_;refine agt ?_;refine ⟨[_, _], ⟨rfl, rfl, trivial⟩, ?_, rfl⟩
  show AV.tup _ = _
  rw [wapp_lt]; rfl
 refine acf ?_;refine asr ?_;refine aQ tok 2 rfl ?_;refine an ?_;refine asp 74 (fun hb14 => ?_) fun hb14 => ?_
 ·
  refine act ?_
  obtain rfl : op = 15 := by simpa using hb14
  refine asr ?_;refine aQ tok 3 rfl ?_;refine ax 79 (opu Tryz.func95 (flag_ok _)) ?_;refine aQ tok 2 rfl ?_;refine an ?_;refine agt ?_;refine ⟨[_, _], ⟨rfl, rfl, trivial⟩, ?_, rfl⟩
  show AV.tup _ = _
  rw [wapp_eq]; rfl
 refine acf ?_;refine agk ?_;refine asr ?_;refine aQ tok 2 rfl ?_;refine an ?_;refine agt ?_;refine ⟨[_, _], ⟨rfl, rfl, trivial⟩, ?_, rfl⟩
 show AV.tup _ = AV.tup _
 simp [wapp, *]
theorem rapply_ok (op a b : Int) (ha : isW a) (hb : isW b) : APure Tryz.prog 72 [.int .i64 op, .int .u32 a, .int .u32 b] (fun r => r = wpair (wapp op a b)) := by
  obtain ⟨n, rfl⟩ := Int.eq_ofNat_of_zero_le ha.1
  obtain ⟨m, rfl⟩ := Int.eq_ofNat_of_zero_le hb.1
  exact rapply_okN op n m (by have := ha.2; omega) (by have := hb.2; omega)
theorem reffectb_ok (R m : Nat) (w : RW) (h : ROk R m w) (hm : m ≤ 90000) (e : REff) : ACall Tryz.prog 100 [.ptr 8 1 0 0, .agg e.cells] (hput (hput (hput (hput (hput hNew 4 (.row false 1 [[slA 9 (((w).L).map RVal.cells)]])) 9 (slO 9 (((w).L).map RVal.cells))) 8 (.row false 4 [[.ptr 4 1 0 0, slA 7 (valC ((w).regs)), slA 11 (((w).out).map REff.cells), .int .i64 ((w).time)]])) 7 (slO 1 (valC ((w).regs)))) 11 (slO 6 (((w).out).map REff.cells))) (fun r h' => r = .int .i64 (w.out.length : Int) ∧ HSub (hput (hput (hput (hput (hput hNone 4 (.row false 1 [[slA 9 ((((w.eff e)).L).map RVal.cells)]])) 9 (slO 9 ((((w.eff e)).L).map RVal.cells))) 8 (.row false 4 [[.ptr 4 1 0 0, slA 7 (valC (((w.eff e)).regs)), slA 11 ((((w.eff e)).out).map REff.cells), .int .i64 (((w.eff e)).time)]])) 7 (slO 1 (valC (((w.eff e)).regs)))) 11 (slO 6 ((((w.eff e)).out).map REff.cells))) h') := by
 have hel := h.el
 refine ACall.of_body (n := 21) tok Tryz.func100 rfl rfl ?_;refine asr ?_;refine ax 3 (obx 6 12) ?_;refine aa 4 ?_;refine an ?_;refine asq ?_;refine AGo.draw mix ?_;refine dQ tok 6 rfl ?_;refine dx 11 (o_lit' tok rfl rfl rfl rfl rfl rfl (by decide) rfl rfl rfl rfl rfl rfl) ?_;refine dx 12 (o_append1J tok (b := 11) (es := ((w.out).map REff.cells)) rfl rfl rfl rfl rfl rfl rfl rfl rfl rfl rfl (Nat.zero_lt_succ _) (re_len _) (re_pure _) rfl rfl z57q z52q) ?_;refine dQ tok 2 rfl ?_;refine DOps.w rfl rfl (o_store1 tok rfl rfl rfl rfl rfl rfl rfl rfl rfl (slA_cells _ _) (by decide) (slA_cell1 _ _) (by intro h; cases h)) ?_;refine DOps.nil (by kernel_rfl) ?_;refine asr ?_;refine aQ tok 4 rfl ?_;refine aq 19 (q_lenJ tok rfl rfl rfl rfl) ?_;refine aq 20 (q_bin (r := .int .i64 (w.out.length : Int)) rfl rfl rfl (subZ z43q z43q z43q)) ?_;refine aa 4 ?_;refine an ?_;refine agt ?_;refine ⟨[_], ⟨rfl, trivial⟩, rfl, ?_⟩
 exact (HSub.put (HSub.put (HSub.put (HSub.put (HSub.put (HSub.none _) rfl) rfl) (by show _ = some (AObj.row false 4 [[.ptr 4 1 0 0, slA 7 (valC w.regs), slA 11 ((w.out ++ [e]).map REff.cells), .int .i64 w.time]]); rw [List.map_append]; rfl)) rfl) (by show _ = some (slO 6 ((w.out ++ [e]).map REff.cells)); rw [List.map_append]; rfl))
theorem rbin_db (w : RW) (t : Tac) : w.bin t = ⟨(rnum w.L (rapplyV w t)).2, rset w.regs t.d (rnum w.L (rapplyV w t)).1, (w.div t).out, w.time⟩ := by
  cases hr : rrisky w t with
  | true => rw [rbin_yes hr]; simp only [RW.div, hr, cond_true]; rfl
  | false => rw [rbin_no hr]; simp only [RW.div, hr, cond_false]
theorem rbinb_ok (R m : Nat) (w : RW) (h : ROk R m w) (hm : m ≤ 90000) (t : Tac) (hd : 0 ≤ t.d ∧ t.d < R) (ha : 0 ≤ t.a ∧ t.a < R) (hb : 0 ≤ t.b ∧ t.b < R) : ACall Tryz.prog 99 [.ptr 8 1 0 0, .agg t.cells] (hput (hput (hput (hput (hput hNew 4 (.row false 1 [[slA 9 (((w).L).map RVal.cells)]])) 9 (slO 9 (((w).L).map RVal.cells))) 8 (.row false 4 [[.ptr 4 1 0 0, slA 7 (valC ((w).regs)), slA 11 (((w).out).map REff.cells), .int .i64 ((w).time)]])) 7 (slO 1 (valC ((w).regs)))) 11 (slO 6 (((w).out).map REff.cells))) (fun r h' => r = .tup [] ∧ HSub (hput (hput (hput (hput (hput hNone 4 (.row false 1 [[slA 9 ((((w.bin t)).L).map RVal.cells)]])) 9 (slO 9 ((((w.bin t)).L).map RVal.cells))) 8 (.row false 4 [[.ptr 4 1 0 0, slA 7 (valC (((w.bin t)).regs)), slA 11 ((((w.bin t)).out).map REff.cells), .int .i64 (((w.bin t)).time)]])) 7 (slO 1 (valC (((w.bin t)).regs)))) 11 (slO 6 ((((w.bin t)).out).map REff.cells))) h') := by
 have hel := h.el
 have hkl := h.kl
 have hxd := h.at hd
 have hxa := h.at ha
 have hxb := h.at hb
 refine ACall.of_body (n := 120) tok Tryz.func99 rfl rfl ?_;refine asr ?_;refine ax 3 (obx 8 12) ?_;refine an ?_;refine asq ?_;refine AGo.draw mix ?_;refine dQ tok 6 rfl ?_;refine dq 19 (q_indexJ tok rfl rfl rfl rfl rfl rfl rfl rfl hxa.1 hxa.2.2.1) ?_;refine dq 20 (q_load tok rfl rfl rfl (ptsJ rfl (valC_get ⟨hxa.1, hxa.2.1⟩)) rfl) ?_;refine dQ tok 6 rfl ?_;refine dq 27 (q_indexJ tok rfl rfl rfl rfl rfl rfl rfl rfl hxb.1 hxb.2.2.1) ?_;refine dq 28 (q_load tok rfl rfl rfl (ptsJ rfl (valC_get ⟨hxb.1, hxb.2.1⟩)) rfl) ?_;refine dQ tok 2 rfl ?_;refine DOps.nil (by kernel_rfl) ?_;refine asr ?_;refine aQ tok 5 rfl ?_;refine ax 35 (oct (rconst_ok w.L (rget w.regs t.a) hxa.2.2.2) [9, 4] [(4, (.row false 1 [[slA 9 ((w.L).map RVal.cells)]])), (9, (slO 9 ((w.L).map RVal.cells)))] rfl Tryz.func109 (by kernel_rfl) rfl rfl rfl ⟨⟨_, rfl, z37q⟩, ⟨_, rfl, z37q⟩, trivial⟩ rfl (hres_cons rfl (hres_cons rfl (hres_nil _))) ⟨⟨_, rfl, rfl, z37q⟩, ⟨_, rfl, rfl, z37q⟩, trivial⟩ rfl) ?_
 refine aQ tok 5 rfl ?_;refine an ?_;refine asr ?_;refine aQ tok 5 rfl ?_;refine ax 44 (oct (rconst_ok w.L (rget w.regs t.b) hxb.2.2.2) [9, 4] [(4, (.row false 1 [[slA 9 ((w.L).map RVal.cells)]])), (9, (slO 9 ((w.L).map RVal.cells)))] rfl Tryz.func109 (by kernel_rfl) rfl rfl rfl ⟨⟨_, rfl, z37q⟩, ⟨_, rfl, z37q⟩, trivial⟩ rfl (hres_cons rfl (hres_cons rfl (hres_nil _))) ⟨⟨_, rfl, rfl, z37q⟩, ⟨_, rfl, rfl, z37q⟩, trivial⟩ rfl) ?_;refine aQ tok 5 rfl ?_;refine an ?_;refine asq ?_;refine AGo.join (γ := Unit) (fun _u => ⟨120, (eput (eput (eput (eput (eput (eput (eput (eput (eput eNew 0 (.ptr 8 1 0 0)) 3 (.ptr 12 1 0 0)) 4 (.int .i64 (rget w.regs t.a))) 5 (.int .i64 (rget w.regs t.b))) 6 (.int .u32 (rconst w.L (rget w.regs t.a)).1)) 8 (.int .u32 (rconst w.L (rget w.regs t.b)).1)) 7 (.bool (rconst w.L (rget w.regs t.a)).2)) 9 (.bool (rconst w.L (rget w.regs t.b)).2)) 10 (.bool (rrisky w t))), (hput (hput (hput (hput (hput (hput (hFrom 13) 12 (.row false 8 [t.cells])) 4 (.row false 1 [[slA 9 (((w).L).map RVal.cells)]])) 9 (slO 9 (((w).L).map RVal.cells))) 8 (.row false 4 [[.ptr 4 1 0 0, slA 7 (valC ((w).regs)), slA 11 (((w).out).map REff.cells), .int .i64 ((w).time)]])) 7 (slO 1 (valC ((w).regs)))) 11 (slO 6 (((w).out).map REff.cells)))⟩) (fun _u => True) ?_ ?_
 ·
  refine agr ?_;refine aQ tok 4 rfl ?_;refine aop 50 (fun hb1 => ?_) fun hb1 => ?_
  ·
   refine aQ tok 8 rfl ?_;refine aop 58 (fun hb2 => ?_) fun hb2 => ?_
   ·
    refine aQ tok 5 rfl ?_;refine an ?_;exact ⟨(), Sub.mk' z20q z12q, trivial⟩
   refine aQ tok 5 rfl ?_;refine an ?_;exact ⟨(), Sub.mk' z20q z12q, trivial⟩
  refine aQ tok 5 rfl ?_;refine aop 55 (fun hb3 => ?_) fun hb3 => ?_
  ·
   refine aQ tok 3 rfl ?_;refine aop 58 (fun hb4 => ?_) fun hb4 => ?_
   ·
    refine aQ tok 5 rfl ?_;refine an ?_;exact ⟨(), Sub.mk' z20q z12q, trivial⟩
   refine aQ tok 5 rfl ?_;refine an ?_;exact ⟨(), Sub.mk' z20q z12q, trivial⟩
  refine aQ tok 8 rfl ?_;refine an ?_;exact ⟨(), Sub.mk' z20q z12q, trivial⟩
 intro _u _
 refine asq ?_;refine asr ?_;refine am 63 ?_;refine an ?_;refine asp 63 (fun hb5 => ?_) fun hb5 => ?_
 ·
  refine act ?_
  have hr : rrisky w t = true := hb5
  refine agr ?_;refine aQ tok 7 rfl ?_;refine aq 71 (q_build tok rfl rfl rfl rfl rfl (by decide) rfl rfl rfl) ?_;refine ax 72 (oct (reffectb_ok R m w h (by omega) ⟨t.op, t.k, 0, 0, (rget w.regs t.a), (rget w.regs t.b)⟩) [11, 7, 8, 9, 4] [(4, (.row false 1 [[slA 9 ((((w).eff ⟨t.op, t.k, 0, 0, (rget w.regs t.a), (rget w.regs t.b)⟩).L).map RVal.cells)]])), (9, (slO 9 ((((w).eff ⟨t.op, t.k, 0, 0, (rget w.regs t.a), (rget w.regs t.b)⟩).L).map RVal.cells))), (8, (.row false 4 [[.ptr 4 1 0 0, slA 7 (valC (((w).eff ⟨t.op, t.k, 0, 0, (rget w.regs t.a), (rget w.regs t.b)⟩).regs)), slA 11 ((((w).eff ⟨t.op, t.k, 0, 0, (rget w.regs t.a), (rget w.regs t.b)⟩).out).map REff.cells), .int .i64 (((w).eff ⟨t.op, t.k, 0, 0, (rget w.regs t.a), (rget w.regs t.b)⟩).time)]])), (7, (slO 1 (valC (((w).eff ⟨t.op, t.k, 0, 0, (rget w.regs t.a), (rget w.regs t.b)⟩).regs)))), (11, (slO 6 ((((w).eff ⟨t.op, t.k, 0, 0, (rget w.regs t.a), (rget w.regs t.b)⟩).out).map REff.cells)))] rfl Tryz.func100 (by kernel_rfl) rfl rfl rfl ⟨⟨_, rfl, z37q⟩, ⟨_, rfl, z37q⟩, ⟨_, rfl, z37q⟩, ⟨_, rfl, z37q⟩, ⟨_, rfl, z37q⟩, trivial⟩ rfl (hres_cons rfl (hres_cons rfl (hres_cons rfl (hres_cons rfl (hres_cons rfl (hres_nil _)))))) ⟨⟨_, rfl, rfl, z37q⟩, ⟨_, rfl, rfl, z37q⟩, ⟨_, rfl, rfl, z37q⟩, ⟨_, rfl, rfl, z37q⟩, ⟨_, rfl, rfl, z37q⟩, trivial⟩ rfl) ?_
  refine an ?_;refine asq ?_;refine asq ?_;refine AGo.join (γ := Unit) (fun _u => ⟨120, (eput (eput (eput (eput (eput (eput (eput eNew 0 (.ptr 8 1 0 0)) 3 (.ptr 12 1 0 0)) 4 (.int .i64 (rget w.regs t.a))) 5 (.int .i64 (rget w.regs t.b))) 6 (.int .u32 (rconst w.L (rget w.regs t.a)).1)) 8 (.int .u32 (rconst w.L (rget w.regs t.b)).1)) 80 (.bool (rfold w t))), (hput (hput (hput (hput (hput (hput (hFrom 13) 12 (.row false 8 [t.cells])) 4 (.row false 1 [[slA 9 ((w.L).map RVal.cells)]])) 9 (slO 9 ((w.L).map RVal.cells))) 8 (.row false 4 [[.ptr 4 1 0 0, slA 7 (valC (w.regs)), slA 11 (((w.div t).out).map REff.cells), .int .i64 (w.time)]])) 7 (slO 1 (valC (w.regs)))) 11 (slO 6 (((w.div t).out).map REff.cells)))⟩) (fun _u => True) ?_ ?_
  ·
   refine agr ?_;refine aQ tok 2 rfl ?_;refine aop 74 (fun hb6 => ?_) fun hb6 => ?_
   ·
    refine aQ tok 3 rfl ?_;refine aop 77 (fun hb7 => ?_) fun hb7 => ?_
    ·
     refine aQ tok 3 rfl ?_;refine an ?_;exact ⟨(), Sub.mk' z21q z8q, trivial⟩
    refine aQ tok 3 rfl ?_;refine an ?_;exact ⟨(), Sub.mk' z21q z8q, trivial⟩
   refine aQ tok 6 rfl ?_;refine an ?_;exact ⟨(), Sub.mk' z21q z8q, trivial⟩
  intro _u _
  refine asp 80 (fun hb8 => ?_) fun hb8 => ?_
  ·
   refine act ?_
   have hf : rfold w t = true := hb8
   refine asr ?_;refine aQ tok 4 rfl ?_;refine ax 86 (opu Tryz.func72 (rapply_ok t.k _ _ (rval_n h.wn _) (rval_n h.wn _))) ?_;refine aQ tok 5 rfl ?_;refine an ?_;refine asq ?_;refine AGo.draw mix ?_;refine dQ tok 11 rfl ?_;refine dq 100 (q_build tok rfl rfl rfl rfl rfl (by decide) rfl rfl rfl) ?_;refine dx 101 (oct (rof_ok w.L (by omega) ⟨1, 0, 0, 0, 0, 0, 0, 0, (wapp t.k (rconst w.L (rget w.regs t.a)).1 (rconst w.L (rget w.regs t.b)).1).1⟩) [9, 4] [(4, (.row false 1 [[slA 9 (((rnum w.L ⟨1, 0, 0, 0, 0, 0, 0, 0, (wapp t.k (rconst w.L (rget w.regs t.a)).1 (rconst w.L (rget w.regs t.b)).1).1⟩).2).map RVal.cells)]])), (9, (slO 9 (((rnum w.L ⟨1, 0, 0, 0, 0, 0, 0, 0, (wapp t.k (rconst w.L (rget w.regs t.a)).1 (rconst w.L (rget w.regs t.b)).1).1⟩).2).map RVal.cells)))] rfl Tryz.func70 (by kernel_rfl) rfl rfl rfl ⟨⟨_, rfl, z37q⟩, ⟨_, rfl, z37q⟩, trivial⟩ rfl (hres_cons rfl (hres_cons rfl (hres_nil _))) ⟨⟨_, rfl, rfl, z37q⟩, ⟨_, rfl, rfl, z37q⟩, trivial⟩ rfl) ?_
   refine dq 102 (q_indexJ tok rfl rfl rfl rfl rfl rfl rfl rfl hxd.1 hxd.2.2.1) ?_;refine DOps.w rfl rfl (o_storeJ tok rfl rfl rfl rfl rfl rfl rfl z39q (valC_one _) rfl rfl rfl) ?_;refine DOps.nil (by kernel_rfl) ?_;refine agt ?_;refine ⟨[], trivial, rfl, ?_⟩
   rw [rbin_db, rapplyV_c hf]
   exact (HSub.put (HSub.put (HSub.put (HSub.put (HSub.put (HSub.none _) rfl) rfl) z22q) z44q) rfl)
  refine acf ?_
  have hf : rfold w t = false := hb8
  refine agk ?_;refine AGo.draw mix ?_;refine dQ tok 14 rfl ?_;refine dq 117 (q_build tok rfl rfl rfl rfl rfl (by decide) rfl rfl rfl) ?_;refine dx 118 (oct (rof_ok w.L (by omega) ⟨3, t.k, (rget w.regs t.a), (rget w.regs t.b), 0, 0, 0, 0, 0⟩) [9, 4] [(4, (.row false 1 [[slA 9 (((rnum w.L ⟨3, t.k, (rget w.regs t.a), (rget w.regs t.b), 0, 0, 0, 0, 0⟩).2).map RVal.cells)]])), (9, (slO 9 (((rnum w.L ⟨3, t.k, (rget w.regs t.a), (rget w.regs t.b), 0, 0, 0, 0, 0⟩).2).map RVal.cells)))] rfl Tryz.func70 (by kernel_rfl) rfl rfl rfl ⟨⟨_, rfl, z37q⟩, ⟨_, rfl, z37q⟩, trivial⟩ rfl (hres_cons rfl (hres_cons rfl (hres_nil _))) ⟨⟨_, rfl, rfl, z37q⟩, ⟨_, rfl, rfl, z37q⟩, trivial⟩ rfl) ?_;refine dq 119 (q_indexJ tok rfl rfl rfl rfl rfl rfl rfl rfl hxd.1 hxd.2.2.1) ?_;refine DOps.w rfl rfl (o_storeJ tok rfl rfl rfl rfl rfl rfl rfl z39q (valC_one _) rfl rfl rfl) ?_;refine DOps.nil (by kernel_rfl) ?_;refine ⟨[], trivial, rfl, ?_⟩
  rw [rbin_db, rapplyV_o hf]
  exact (HSub.put (HSub.put (HSub.put (HSub.put (HSub.put (HSub.none _) rfl) rfl) z22q) z44q) rfl)
 refine acf ?_
 have hr : rrisky w t = false := hb5
 refine agk ?_;refine asq ?_;refine asq ?_;refine AGo.join (γ := Unit) (fun _u => ⟨120, (eput (eput (eput (eput (eput (eput (eput eNew 0 (.ptr 8 1 0 0)) 3 (.ptr 12 1 0 0)) 4 (.int .i64 (rget w.regs t.a))) 5 (.int .i64 (rget w.regs t.b))) 6 (.int .u32 (rconst w.L (rget w.regs t.a)).1)) 8 (.int .u32 (rconst w.L (rget w.regs t.b)).1)) 80 (.bool (rfold w t))), (hput (hput (hput (hput (hput (hput (hFrom 13) 12 (.row false 8 [t.cells])) 4 (.row false 1 [[slA 9 ((w.L).map RVal.cells)]])) 9 (slO 9 ((w.L).map RVal.cells))) 8 (.row false 4 [[.ptr 4 1 0 0, slA 7 (valC (w.regs)), slA 11 (((w.div t).out).map REff.cells), .int .i64 (w.time)]])) 7 (slO 1 (valC (w.regs)))) 11 (slO 6 (((w.div t).out).map REff.cells)))⟩) (fun _u => True) ?_ ?_
 ·
  refine agr ?_;refine aQ tok 2 rfl ?_;refine aop 74 (fun hb9 => ?_) fun hb9 => ?_
  ·
   refine aQ tok 3 rfl ?_;refine aop 77 (fun hb10 => ?_) fun hb10 => ?_
   ·
    refine aQ tok 3 rfl ?_;refine an ?_;exact ⟨(), Sub.mk' z21q z8q, trivial⟩
   refine aQ tok 3 rfl ?_;refine an ?_;exact ⟨(), Sub.mk' z21q z8q, trivial⟩
  refine aQ tok 6 rfl ?_;refine an ?_;exact ⟨(), Sub.mk' z21q z8q, trivial⟩
 intro _u _
 refine asp 80 (fun hb11 => ?_) fun hb11 => ?_
 ·
  refine act ?_
  have hf : rfold w t = true := hb11
  refine asr ?_;refine aQ tok 4 rfl ?_;refine ax 86 (opu Tryz.func72 (rapply_ok t.k _ _ (rval_n h.wn _) (rval_n h.wn _))) ?_;refine aQ tok 5 rfl ?_;refine an ?_;refine asq ?_;refine AGo.draw mix ?_;refine dQ tok 11 rfl ?_;refine dq 100 (q_build tok rfl rfl rfl rfl rfl (by decide) rfl rfl rfl) ?_;refine dx 101 (oct (rof_ok w.L (by omega) ⟨1, 0, 0, 0, 0, 0, 0, 0, (wapp t.k (rconst w.L (rget w.regs t.a)).1 (rconst w.L (rget w.regs t.b)).1).1⟩) [9, 4] [(4, (.row false 1 [[slA 9 (((rnum w.L ⟨1, 0, 0, 0, 0, 0, 0, 0, (wapp t.k (rconst w.L (rget w.regs t.a)).1 (rconst w.L (rget w.regs t.b)).1).1⟩).2).map RVal.cells)]])), (9, (slO 9 (((rnum w.L ⟨1, 0, 0, 0, 0, 0, 0, 0, (wapp t.k (rconst w.L (rget w.regs t.a)).1 (rconst w.L (rget w.regs t.b)).1).1⟩).2).map RVal.cells)))] rfl Tryz.func70 (by kernel_rfl) rfl rfl rfl ⟨⟨_, rfl, z37q⟩, ⟨_, rfl, z37q⟩, trivial⟩ rfl (hres_cons rfl (hres_cons rfl (hres_nil _))) ⟨⟨_, rfl, rfl, z37q⟩, ⟨_, rfl, rfl, z37q⟩, trivial⟩ rfl) ?_
  refine dq 102 (q_indexJ tok rfl rfl rfl rfl rfl rfl rfl rfl hxd.1 hxd.2.2.1) ?_;refine DOps.w rfl rfl (o_storeJ tok rfl rfl rfl rfl rfl rfl rfl z39q (valC_one _) rfl rfl rfl) ?_;refine DOps.nil (by kernel_rfl) ?_;refine agt ?_;refine ⟨[], trivial, rfl, ?_⟩
  rw [rbin_db, rapplyV_c hf]
  exact (HSub.put (HSub.put (HSub.put (HSub.put (HSub.put (HSub.none _) rfl) rfl) z22q) z44q) rfl)
 refine acf ?_
 have hf : rfold w t = false := hb11
 refine agk ?_;refine AGo.draw mix ?_;refine dQ tok 14 rfl ?_;refine dq 117 (q_build tok rfl rfl rfl rfl rfl (by decide) rfl rfl rfl) ?_;refine dx 118 (oct (rof_ok w.L (by omega) ⟨3, t.k, (rget w.regs t.a), (rget w.regs t.b), 0, 0, 0, 0, 0⟩) [9, 4] [(4, (.row false 1 [[slA 9 (((rnum w.L ⟨3, t.k, (rget w.regs t.a), (rget w.regs t.b), 0, 0, 0, 0, 0⟩).2).map RVal.cells)]])), (9, (slO 9 (((rnum w.L ⟨3, t.k, (rget w.regs t.a), (rget w.regs t.b), 0, 0, 0, 0, 0⟩).2).map RVal.cells)))] rfl Tryz.func70 (by kernel_rfl) rfl rfl rfl ⟨⟨_, rfl, z37q⟩, ⟨_, rfl, z37q⟩, trivial⟩ rfl (hres_cons rfl (hres_cons rfl (hres_nil _))) ⟨⟨_, rfl, rfl, z37q⟩, ⟨_, rfl, rfl, z37q⟩, trivial⟩ rfl) ?_;refine dq 119 (q_indexJ tok rfl rfl rfl rfl rfl rfl rfl rfl hxd.1 hxd.2.2.1) ?_;refine DOps.w rfl rfl (o_storeJ tok rfl rfl rfl rfl rfl rfl rfl z39q (valC_one _) rfl rfl rfl) ?_;refine DOps.nil (by kernel_rfl) ?_;refine ⟨[], trivial, rfl, ?_⟩
 rw [rbin_db, rapplyV_o hf]
 exact (HSub.put (HSub.put (HSub.put (HSub.put (HSub.put (HSub.none _) rfl) rfl) z22q) z44q) rfl)
theorem rstepb_ok (R m : Nat) (w : RW) (h : ROk R m w) (hm : m ≤ 80000) (t : Tac) (ht : TacV t R) : ACall Tryz.prog 92 [.ptr 8 1 0 0, .agg t.cells] (hput (hput (hput (hput (hput hNew 4 (.row false 1 [[slA 9 (((w).L).map RVal.cells)]])) 9 (slO 9 (((w).L).map RVal.cells))) 8 (.row false 4 [[.ptr 4 1 0 0, slA 7 (valC ((w).regs)), slA 11 (((w).out).map REff.cells), .int .i64 ((w).time)]])) 7 (slO 1 (valC ((w).regs)))) 11 (slO 6 (((w).out).map REff.cells))) (fun r h' => r = .tup [] ∧ HSub (hput (hput (hput (hput (hput hNone 4 (.row false 1 [[slA 9 ((((w.step t)).L).map RVal.cells)]])) 9 (slO 9 ((((w.step t)).L).map RVal.cells))) 8 (.row false 4 [[.ptr 4 1 0 0, slA 7 (valC (((w.step t)).regs)), slA 11 ((((w.step t)).out).map REff.cells), .int .i64 (((w.step t)).time)]])) 7 (slO 1 (valC (((w.step t)).regs)))) 11 (slO 6 ((((w.step t)).out).map REff.cells))) h') := by
 have hel := h.el
 have hkl := h.kl
 have htl := h.tl
 refine ACall.of_body (n := 209) tok Tryz.func92 rfl rfl ?_;refine asr ?_;refine ax 3 (obx 8 12) ?_;refine an ?_;refine asr ?_;refine aQ tok 2 rfl ?_;refine an ?_;refine AGo.block ?_;refine asr ?_;refine aQ tok 2 rfl ?_;refine an ?_;refine asp 22 (fun hb1 => ?_) fun hb1 => ?_
 ·
  refine act ?_
  have ho : t.op = 1 := by simpa using hb1
  have hxd := h.at (ht.d (by rw [ho]; rfl))
  
  refine AGo.draw mix ?_;refine dQ tok 12 rfl ?_;refine dq 36 (q_build tok rfl rfl rfl rfl rfl (by decide) rfl rfl rfl) ?_;refine dx 37 (oct (rof_ok w.L (by omega) ⟨1, 0, 0, 0, 0, 0, 0, 0, t.n⟩) [9, 4] [(4, (.row false 1 [[slA 9 (((rnum w.L ⟨1, 0, 0, 0, 0, 0, 0, 0, t.n⟩).2).map RVal.cells)]])), (9, (slO 9 (((rnum w.L ⟨1, 0, 0, 0, 0, 0, 0, 0, t.n⟩).2).map RVal.cells)))] rfl Tryz.func70 (by kernel_rfl) rfl rfl rfl ⟨⟨_, rfl, z37q⟩, ⟨_, rfl, z37q⟩, trivial⟩ rfl (hres_cons rfl (hres_cons rfl (hres_nil _))) ⟨⟨_, rfl, rfl, z37q⟩, ⟨_, rfl, rfl, z37q⟩, trivial⟩ rfl) ?_;refine dq 38 (q_indexJ tok rfl rfl rfl rfl rfl rfl rfl rfl hxd.1 hxd.2.2.1) ?_;refine DOps.w rfl rfl (o_storeJ tok rfl rfl rfl rfl rfl rfl rfl z39q (valC_one _) rfl rfl rfl) ?_;refine DOps.nil (by kernel_rfl) ?_;refine ⟨[], trivial, rfl, ?_⟩
  rw [rstep1 ho]
  exact (HSub.put (HSub.put (HSub.put (HSub.put (HSub.put (HSub.none _) rfl) rfl) z26q) z44q) rfl)
 refine acf ?_;refine asr ?_;refine aQ tok 2 rfl ?_;refine an ?_;refine asp 39 (fun hb2 => ?_) fun hb2 => ?_
 ·
  refine act ?_
  have ho : t.op = 2 := by simpa using hb2
  have hxd := h.at (ht.d (by rw [ho]; rfl))
  have hxa := h.at (ht.a (.inl (by rw [ho]; rfl)))
   
  refine AGo.draw mix ?_;refine dQ tok 12 rfl ?_;refine dq 53 (q_indexJ tok rfl rfl rfl rfl rfl rfl rfl rfl hxa.1 hxa.2.2.1) ?_;refine dq 54 (q_load tok rfl rfl rfl (ptsJ rfl (valC_get ⟨hxa.1, hxa.2.1⟩)) rfl) ?_;refine dq 55 (q_indexJ tok rfl rfl rfl rfl rfl rfl rfl rfl hxd.1 hxd.2.2.1) ?_;refine DOps.w rfl rfl (o_storeJ tok rfl rfl rfl rfl rfl rfl rfl z39q (valC_one _) rfl rfl rfl) ?_;refine DOps.nil (by kernel_rfl) ?_;refine ⟨[], trivial, rfl, ?_⟩
  rw [rstep2 ho]
  exact (HSub.put (HSub.put (HSub.put (HSub.put (HSub.put (HSub.none _) rfl) rfl) z26q) z44q) rfl)
 refine acf ?_;refine asr ?_;refine aQ tok 2 rfl ?_;refine an ?_;refine asp 56 (fun hb3 => ?_) fun hb3 => ?_
 ·
  refine act ?_
  have ho : t.op = 3 := by simpa using hb3
    
  refine agr ?_;refine aQ tok 2 rfl ?_;refine ax 60 (oct (rbinb_ok R m w h (by omega) t (ht.d (by rw [ho]; rfl)) (ht.a (.inr (by rw [ho]; rfl))) (ht.b (by rw [ho]; rfl))) [11, 7, 8, 9, 4] [(4, (.row false 1 [[slA 9 ((((w.bin t)).L).map RVal.cells)]])), (9, (slO 9 ((((w.bin t)).L).map RVal.cells))), (8, (.row false 4 [[.ptr 4 1 0 0, slA 7 (valC (((w.bin t)).regs)), slA 11 ((((w.bin t)).out).map REff.cells), .int .i64 (((w.bin t)).time)]])), (7, (slO 1 (valC (((w.bin t)).regs)))), (11, (slO 6 ((((w.bin t)).out).map REff.cells)))] rfl Tryz.func99 (by kernel_rfl) rfl rfl rfl ⟨⟨_, rfl, z37q⟩, ⟨_, rfl, z37q⟩, ⟨_, rfl, z37q⟩, ⟨_, rfl, z37q⟩, ⟨_, rfl, z37q⟩, trivial⟩ rfl (hres_cons rfl (hres_cons rfl (hres_cons rfl (hres_cons rfl (hres_cons rfl (hres_nil _)))))) ⟨⟨_, rfl, rfl, z37q⟩, ⟨_, rfl, rfl, z37q⟩, ⟨_, rfl, rfl, z37q⟩, ⟨_, rfl, rfl, z37q⟩, ⟨_, rfl, rfl, z37q⟩, trivial⟩ rfl) ?_;refine an ?_
  refine ⟨[], trivial, rfl, ?_⟩
  rw [rstep3 ho]
  exact (HSub.put (HSub.put (HSub.put (HSub.put (HSub.put (HSub.none _) rfl) rfl) rfl) rfl) rfl)
 refine acf ?_;refine asr ?_;refine aQ tok 2 rfl ?_;refine an ?_;refine asp 61 (fun hb4 => ?_) fun hb4 => ?_
 ·
  refine act ?_
  have ho : t.op = 4 := by simpa using hb4
  have hxd := h.at (ht.d (by rw [ho]; rfl))
     
  refine AGo.draw mix ?_;refine dQ tok 16 rfl ?_;refine dq 79 (q_build tok rfl rfl rfl rfl rfl (by decide) rfl rfl rfl) ?_;refine dx 80 (oct (rof_ok w.L (by omega) ⟨4, 0, 0, 0, 0, 0, t.base, w.time, 0⟩) [9, 4] [(4, (.row false 1 [[slA 9 (((rnum w.L ⟨4, 0, 0, 0, 0, 0, t.base, w.time, 0⟩).2).map RVal.cells)]])), (9, (slO 9 (((rnum w.L ⟨4, 0, 0, 0, 0, 0, t.base, w.time, 0⟩).2).map RVal.cells)))] rfl Tryz.func70 (by kernel_rfl) rfl rfl rfl ⟨⟨_, rfl, z37q⟩, ⟨_, rfl, z37q⟩, trivial⟩ rfl (hres_cons rfl (hres_cons rfl (hres_nil _))) ⟨⟨_, rfl, rfl, z37q⟩, ⟨_, rfl, rfl, z37q⟩, trivial⟩ rfl) ?_;refine dq 81 (q_indexJ tok rfl rfl rfl rfl rfl rfl rfl rfl hxd.1 hxd.2.2.1) ?_;refine DOps.w rfl rfl (o_storeJ tok rfl rfl rfl rfl rfl rfl rfl z39q (valC_one _) rfl rfl rfl) ?_;refine DOps.nil (by kernel_rfl) ?_;refine ⟨[], trivial, rfl, ?_⟩
  rw [rstep4 ho]
  exact (HSub.put (HSub.put (HSub.put (HSub.put (HSub.put (HSub.none _) rfl) rfl) z26q) z44q) rfl)
 refine acf ?_;refine asr ?_;refine aQ tok 2 rfl ?_;refine an ?_;refine asp 82 (fun hb5 => ?_) fun hb5 => ?_
 ·
  refine act ?_
  have ho : t.op = 5 := by simpa using hb5
  have hxa := h.at (ht.a (.inl (by rw [ho]; rfl)))
      
  refine asq ?_;refine AGo.draw mix ?_;refine dQ tok 11 rfl ?_;refine dq 95 (q_indexJ tok rfl rfl rfl rfl rfl rfl rfl rfl hxa.1 hxa.2.2.1) ?_;refine dq 96 (q_load tok rfl rfl rfl (ptsJ rfl (valC_get ⟨hxa.1, hxa.2.1⟩)) rfl) ?_;refine dq 97 (q_build tok rfl rfl rfl rfl rfl (by decide) rfl rfl rfl) ?_;refine dx 98 (oct (reffectb_ok R m w h (by omega) ⟨t.op, 0, t.base, 0, (rget w.regs t.a), 0⟩) [11, 7, 8, 9, 4] [(4, (.row false 1 [[slA 9 ((((w).eff ⟨t.op, 0, t.base, 0, (rget w.regs t.a), 0⟩).L).map RVal.cells)]])), (9, (slO 9 ((((w).eff ⟨t.op, 0, t.base, 0, (rget w.regs t.a), 0⟩).L).map RVal.cells))), (8, (.row false 4 [[.ptr 4 1 0 0, slA 7 (valC (((w).eff ⟨t.op, 0, t.base, 0, (rget w.regs t.a), 0⟩).regs)), slA 11 ((((w).eff ⟨t.op, 0, t.base, 0, (rget w.regs t.a), 0⟩).out).map REff.cells), .int .i64 (((w).eff ⟨t.op, 0, t.base, 0, (rget w.regs t.a), 0⟩).time)]])), (7, (slO 1 (valC (((w).eff ⟨t.op, 0, t.base, 0, (rget w.regs t.a), 0⟩).regs)))), (11, (slO 6 ((((w).eff ⟨t.op, 0, t.base, 0, (rget w.regs t.a), 0⟩).out).map REff.cells)))] rfl Tryz.func100 (by kernel_rfl) rfl rfl rfl ⟨⟨_, rfl, z37q⟩, ⟨_, rfl, z37q⟩, ⟨_, rfl, z37q⟩, ⟨_, rfl, z37q⟩, ⟨_, rfl, z37q⟩, trivial⟩ rfl (hres_cons rfl (hres_cons rfl (hres_cons rfl (hres_cons rfl (hres_cons rfl (hres_nil _)))))) ⟨⟨_, rfl, rfl, z37q⟩, ⟨_, rfl, rfl, z37q⟩, ⟨_, rfl, rfl, z37q⟩, ⟨_, rfl, rfl, z37q⟩, ⟨_, rfl, rfl, z37q⟩, trivial⟩ rfl) ?_
  refine DOps.nil (by kernel_rfl) ?_;refine agr ?_;refine aQ tok 4 rfl ?_;refine aq 103 (q_bin (r := .int .i64 (w.time + 1)) rfl rfl rfl z60q) ?_;refine aQ tok 2 rfl ?_;refine AOps.w rfl rfl (o_store tok rfl rfl rfl rfl rfl rfl rfl rfl rfl (by decide) rfl z51q) ?_;refine an ?_;refine ⟨[], trivial, rfl, ?_⟩
  rw [rstep5 ho]
  exact (HSub.put (HSub.put (HSub.put (HSub.put (HSub.put (HSub.none _) rfl) rfl) rfl) rfl) rfl)
 refine acf ?_;refine asr ?_;refine aQ tok 2 rfl ?_;refine an ?_;refine asp 106 (fun hb6 => ?_) fun hb6 => ?_
 ·
  refine act ?_
  have ho : t.op = 6 := by simpa using hb6
  have hxd := h.at (ht.d (by rw [ho]; rfl))
  have hxa := h.at (ht.a (.inl (by rw [ho]; rfl)))
       
  refine asq ?_;refine AGo.draw mix ?_;refine dQ tok 13 rfl ?_;refine dq 121 (q_indexJ tok rfl rfl rfl rfl rfl rfl rfl rfl hxa.1 hxa.2.2.1) ?_;refine dq 122 (q_load tok rfl rfl rfl (ptsJ rfl (valC_get ⟨hxa.1, hxa.2.1⟩)) rfl) ?_;refine dq 123 (q_build tok rfl rfl rfl rfl rfl (by decide) rfl rfl rfl) ?_;refine dx 124 (oct (reffectb_ok R m w h (by omega) ⟨t.op, 0, t.base, t.size, (rget w.regs t.a), 0⟩) [11, 7, 8, 9, 4] [(4, (.row false 1 [[slA 9 ((((w).eff ⟨t.op, 0, t.base, t.size, (rget w.regs t.a), 0⟩).L).map RVal.cells)]])), (9, (slO 9 ((((w).eff ⟨t.op, 0, t.base, t.size, (rget w.regs t.a), 0⟩).L).map RVal.cells))), (8, (.row false 4 [[.ptr 4 1 0 0, slA 7 (valC (((w).eff ⟨t.op, 0, t.base, t.size, (rget w.regs t.a), 0⟩).regs)), slA 11 ((((w).eff ⟨t.op, 0, t.base, t.size, (rget w.regs t.a), 0⟩).out).map REff.cells), .int .i64 (((w).eff ⟨t.op, 0, t.base, t.size, (rget w.regs t.a), 0⟩).time)]])), (7, (slO 1 (valC (((w).eff ⟨t.op, 0, t.base, t.size, (rget w.regs t.a), 0⟩).regs)))), (11, (slO 6 ((((w).eff ⟨t.op, 0, t.base, t.size, (rget w.regs t.a), 0⟩).out).map REff.cells)))] rfl Tryz.func100 (by kernel_rfl) rfl rfl rfl ⟨⟨_, rfl, z37q⟩, ⟨_, rfl, z37q⟩, ⟨_, rfl, z37q⟩, ⟨_, rfl, z37q⟩, ⟨_, rfl, z37q⟩, trivial⟩ rfl (hres_cons rfl (hres_cons rfl (hres_cons rfl (hres_cons rfl (hres_cons rfl (hres_nil _)))))) ⟨⟨_, rfl, rfl, z37q⟩, ⟨_, rfl, rfl, z37q⟩, ⟨_, rfl, rfl, z37q⟩, ⟨_, rfl, rfl, z37q⟩, ⟨_, rfl, rfl, z37q⟩, trivial⟩ rfl) ?_
  refine da 4 ?_;refine DOps.nil (by kernel_rfl) ?_;refine AGo.draw mix ?_;refine dQ tok 11 rfl ?_;refine dq 136 (q_build tok rfl rfl rfl rfl rfl (by decide) rfl rfl rfl) ?_;refine dx 137 (oct (rof_ok w.L (by omega) (runkV w.out.length)) [9, 4] [(4, (.row false 1 [[slA 9 (((rnum w.L (runkV w.out.length)).2).map RVal.cells)]])), (9, (slO 9 (((rnum w.L (runkV w.out.length)).2).map RVal.cells)))] rfl Tryz.func70 (by kernel_rfl) rfl rfl rfl ⟨⟨_, rfl, z37q⟩, ⟨_, rfl, z37q⟩, trivial⟩ rfl (hres_cons rfl (hres_cons rfl (hres_nil _))) ⟨⟨_, rfl, rfl, z37q⟩, ⟨_, rfl, rfl, z37q⟩, trivial⟩ rfl) ?_;refine dq 138 (q_indexJ tok rfl rfl rfl rfl rfl rfl rfl rfl hxd.1 hxd.2.2.1) ?_;refine DOps.w rfl rfl (o_storeJ tok rfl rfl rfl rfl rfl rfl rfl z39q (valC_one _) rfl rfl rfl) ?_;refine DOps.nil (by kernel_rfl) ?_;refine ⟨[], trivial, rfl, ?_⟩
  rw [rstep6 ho]
  exact (HSub.put (HSub.put (HSub.put (HSub.put (HSub.put (HSub.none _) rfl) rfl) (by show _ = some (AObj.row false 4 [[.ptr 4 1 0 0, slA 7 (valC (rset w.regs t.d _)), slA 11 ((w.eff ⟨t.op, 0, t.base, t.size, (rget w.regs t.a), 0⟩).out.map REff.cells), .int .i64 w.time]]); rw [valC_slA]; rfl)) z44q) rfl)
 refine acf ?_;refine asr ?_;refine aQ tok 2 rfl ?_;refine an ?_;refine asp 139 (fun hb7 => ?_) fun hb7 => ?_
 ·
  refine act ?_
  have ho : t.op = 7 := by simpa using hb7
  have hxa := h.at (ht.a (.inr (by rw [ho]; rfl)))
  have hxb := h.at (ht.b (by rw [ho]; rfl))
        
  refine asq ?_;refine AGo.draw mix ?_;refine dQ tok 13 rfl ?_;refine dq 154 (q_indexJ tok rfl rfl rfl rfl rfl rfl rfl rfl hxa.1 hxa.2.2.1) ?_;refine dq 155 (q_load tok rfl rfl rfl (ptsJ rfl (valC_get ⟨hxa.1, hxa.2.1⟩)) rfl) ?_;refine dQ tok 6 rfl ?_;refine dq 162 (q_indexJ tok rfl rfl rfl rfl rfl rfl rfl rfl hxb.1 hxb.2.2.1) ?_;refine dq 163 (q_load tok rfl rfl rfl (ptsJ rfl (valC_get ⟨hxb.1, hxb.2.1⟩)) rfl) ?_;refine dq 164 (q_build tok rfl rfl rfl rfl rfl (by decide) rfl rfl rfl) ?_;refine dx 165 (oct (reffectb_ok R m w h (by omega) ⟨t.op, 0, t.base, t.size, (rget w.regs t.a), (rget w.regs t.b)⟩) [11, 7, 8, 9, 4] [(4, (.row false 1 [[slA 9 ((((w).eff ⟨t.op, 0, t.base, t.size, (rget w.regs t.a), (rget w.regs t.b)⟩).L).map RVal.cells)]])), (9, (slO 9 ((((w).eff ⟨t.op, 0, t.base, t.size, (rget w.regs t.a), (rget w.regs t.b)⟩).L).map RVal.cells))), (8, (.row false 4 [[.ptr 4 1 0 0, slA 7 (valC (((w).eff ⟨t.op, 0, t.base, t.size, (rget w.regs t.a), (rget w.regs t.b)⟩).regs)), slA 11 ((((w).eff ⟨t.op, 0, t.base, t.size, (rget w.regs t.a), (rget w.regs t.b)⟩).out).map REff.cells), .int .i64 (((w).eff ⟨t.op, 0, t.base, t.size, (rget w.regs t.a), (rget w.regs t.b)⟩).time)]])), (7, (slO 1 (valC (((w).eff ⟨t.op, 0, t.base, t.size, (rget w.regs t.a), (rget w.regs t.b)⟩).regs)))), (11, (slO 6 ((((w).eff ⟨t.op, 0, t.base, t.size, (rget w.regs t.a), (rget w.regs t.b)⟩).out).map REff.cells)))] rfl Tryz.func100 (by kernel_rfl) rfl rfl rfl ⟨⟨_, rfl, z37q⟩, ⟨_, rfl, z37q⟩, ⟨_, rfl, z37q⟩, ⟨_, rfl, z37q⟩, ⟨_, rfl, z37q⟩, trivial⟩ rfl (hres_cons rfl (hres_cons rfl (hres_cons rfl (hres_cons rfl (hres_cons rfl (hres_nil _)))))) ⟨⟨_, rfl, rfl, z37q⟩, ⟨_, rfl, rfl, z37q⟩, ⟨_, rfl, rfl, z37q⟩, ⟨_, rfl, rfl, z37q⟩, ⟨_, rfl, rfl, z37q⟩, trivial⟩ rfl) ?_
  refine DOps.nil (by kernel_rfl) ?_;refine agr ?_;refine aQ tok 4 rfl ?_;refine aq 170 (q_bin (r := .int .i64 (w.time + 1)) rfl rfl rfl z60q) ?_;refine aQ tok 2 rfl ?_;refine AOps.w rfl rfl (o_store tok rfl rfl rfl rfl rfl rfl rfl rfl rfl (by decide) rfl z51q) ?_;refine an ?_;refine ⟨[], trivial, rfl, ?_⟩
  rw [rstep7 ho]
  exact (HSub.put (HSub.put (HSub.put (HSub.put (HSub.put (HSub.none _) rfl) rfl) rfl) rfl) rfl)
 refine acf ?_;refine asr ?_;refine aQ tok 2 rfl ?_;refine an ?_;refine asp 173 (fun hb8 => ?_) fun hb8 => ?_
 ·
  refine act ?_
  have ho : t.op = 8 := by simpa using hb8
  have hxd := h.at (ht.d (by rw [ho]; rfl))
         
  refine asr ?_;refine aQ tok 3 rfl ?_;refine aq 178 (q_build tok rfl rfl rfl rfl rfl (by decide) rfl rfl rfl) ?_;refine ax 179 (oct (reffectb_ok R m w h (by omega) ⟨t.op, 0, 0, 0, 0, 0⟩) [11, 7, 8, 9, 4] [(4, (.row false 1 [[slA 9 ((((w).eff ⟨t.op, 0, 0, 0, 0, 0⟩).L).map RVal.cells)]])), (9, (slO 9 ((((w).eff ⟨t.op, 0, 0, 0, 0, 0⟩).L).map RVal.cells))), (8, (.row false 4 [[.ptr 4 1 0 0, slA 7 (valC (((w).eff ⟨t.op, 0, 0, 0, 0, 0⟩).regs)), slA 11 ((((w).eff ⟨t.op, 0, 0, 0, 0, 0⟩).out).map REff.cells), .int .i64 (((w).eff ⟨t.op, 0, 0, 0, 0, 0⟩).time)]])), (7, (slO 1 (valC (((w).eff ⟨t.op, 0, 0, 0, 0, 0⟩).regs)))), (11, (slO 6 ((((w).eff ⟨t.op, 0, 0, 0, 0, 0⟩).out).map REff.cells)))] rfl Tryz.func100 (by kernel_rfl) rfl rfl rfl ⟨⟨_, rfl, z37q⟩, ⟨_, rfl, z37q⟩, ⟨_, rfl, z37q⟩, ⟨_, rfl, z37q⟩, ⟨_, rfl, z37q⟩, trivial⟩ rfl (hres_cons rfl (hres_cons rfl (hres_cons rfl (hres_cons rfl (hres_cons rfl (hres_nil _)))))) ⟨⟨_, rfl, rfl, z37q⟩, ⟨_, rfl, rfl, z37q⟩, ⟨_, rfl, rfl, z37q⟩, ⟨_, rfl, rfl, z37q⟩, ⟨_, rfl, rfl, z37q⟩, trivial⟩ rfl) ?_
  refine aa 5 ?_;refine an ?_;refine AGo.draw mix ?_;refine dQ tok 11 rfl ?_;refine dq 191 (q_build tok rfl rfl rfl rfl rfl (by decide) rfl rfl rfl) ?_;refine dx 192 (oct (rof_ok w.L (by omega) (runkV w.out.length)) [9, 4] [(4, (.row false 1 [[slA 9 (((rnum w.L (runkV w.out.length)).2).map RVal.cells)]])), (9, (slO 9 (((rnum w.L (runkV w.out.length)).2).map RVal.cells)))] rfl Tryz.func70 (by kernel_rfl) rfl rfl rfl ⟨⟨_, rfl, z37q⟩, ⟨_, rfl, z37q⟩, trivial⟩ rfl (hres_cons rfl (hres_cons rfl (hres_nil _))) ⟨⟨_, rfl, rfl, z37q⟩, ⟨_, rfl, rfl, z37q⟩, trivial⟩ rfl) ?_;refine dq 193 (q_indexJ tok rfl rfl rfl rfl rfl rfl rfl rfl hxd.1 hxd.2.2.1) ?_;refine DOps.w rfl rfl (o_storeJ tok rfl rfl rfl rfl rfl rfl rfl z39q (valC_one _) rfl rfl rfl) ?_;refine DOps.nil (by kernel_rfl) ?_;refine ⟨[], trivial, rfl, ?_⟩
  rw [rstep8 ho]
  exact (HSub.put (HSub.put (HSub.put (HSub.put (HSub.put (HSub.none _) rfl) rfl) (by show _ = some (AObj.row false 4 [[.ptr 4 1 0 0, slA 7 (valC (rset w.regs t.d _)), slA 11 ((w.eff ⟨t.op, 0, 0, 0, 0, 0⟩).out.map REff.cells), .int .i64 w.time]]); rw [valC_slA]; rfl)) z44q) rfl)
 refine acf ?_;refine asr ?_;refine aQ tok 2 rfl ?_;refine an ?_;refine asp 194 (fun hb9 => ?_) fun hb9 => ?_
 ·
  refine act ?_
  have ho : t.op = 9 := by simpa using hb9
  have hxa := h.at (ht.a (.inl (by rw [ho]; rfl)))
          
  refine AGo.draw mix ?_;refine dQ tok 9 rfl ?_;refine dq 205 (q_indexJ tok rfl rfl rfl rfl rfl rfl rfl rfl hxa.1 hxa.2.2.1) ?_;refine dq 206 (q_load tok rfl rfl rfl (ptsJ rfl (valC_get ⟨hxa.1, hxa.2.1⟩)) rfl) ?_;refine dq 207 (q_build tok rfl rfl rfl rfl rfl (by decide) rfl rfl rfl) ?_;refine dx 208 (oct (reffectb_ok R m w h (by omega) ⟨t.op, 0, 0, 0, (rget w.regs t.a), 0⟩) [11, 7, 8, 9, 4] [(4, (.row false 1 [[slA 9 ((((w).eff ⟨t.op, 0, 0, 0, (rget w.regs t.a), 0⟩).L).map RVal.cells)]])), (9, (slO 9 ((((w).eff ⟨t.op, 0, 0, 0, (rget w.regs t.a), 0⟩).L).map RVal.cells))), (8, (.row false 4 [[.ptr 4 1 0 0, slA 7 (valC (((w).eff ⟨t.op, 0, 0, 0, (rget w.regs t.a), 0⟩).regs)), slA 11 ((((w).eff ⟨t.op, 0, 0, 0, (rget w.regs t.a), 0⟩).out).map REff.cells), .int .i64 (((w).eff ⟨t.op, 0, 0, 0, (rget w.regs t.a), 0⟩).time)]])), (7, (slO 1 (valC (((w).eff ⟨t.op, 0, 0, 0, (rget w.regs t.a), 0⟩).regs)))), (11, (slO 6 ((((w).eff ⟨t.op, 0, 0, 0, (rget w.regs t.a), 0⟩).out).map REff.cells)))] rfl Tryz.func100 (by kernel_rfl) rfl rfl rfl ⟨⟨_, rfl, z37q⟩, ⟨_, rfl, z37q⟩, ⟨_, rfl, z37q⟩, ⟨_, rfl, z37q⟩, ⟨_, rfl, z37q⟩, trivial⟩ rfl (hres_cons rfl (hres_cons rfl (hres_cons rfl (hres_cons rfl (hres_cons rfl (hres_nil _)))))) ⟨⟨_, rfl, rfl, z37q⟩, ⟨_, rfl, rfl, z37q⟩, ⟨_, rfl, rfl, z37q⟩, ⟨_, rfl, rfl, z37q⟩, ⟨_, rfl, rfl, z37q⟩, trivial⟩ rfl) ?_
  refine DOps.nil (by kernel_rfl) ?_;refine ⟨[], trivial, rfl, ?_⟩
  rw [rstep9 ho]
  exact (HSub.put (HSub.put (HSub.put (HSub.put (HSub.put (HSub.none _) rfl) rfl) rfl) rfl) rfl)
 refine acf ?_;refine asr ?_;refine aQ tok 5 rfl ?_;refine aq 13 (q_build tok rfl rfl rfl rfl rfl (by decide) rfl rfl rfl) ?_;refine ax 14 (oct (reffectb_ok R m w h (by omega) ⟨t.op, 0, t.base, 0, 0, 0⟩) [11, 7, 8, 9, 4] [(4, (.row false 1 [[slA 9 ((((w).eff ⟨t.op, 0, t.base, 0, 0, 0⟩).L).map RVal.cells)]])), (9, (slO 9 ((((w).eff ⟨t.op, 0, t.base, 0, 0, 0⟩).L).map RVal.cells))), (8, (.row false 4 [[.ptr 4 1 0 0, slA 7 (valC (((w).eff ⟨t.op, 0, t.base, 0, 0, 0⟩).regs)), slA 11 ((((w).eff ⟨t.op, 0, t.base, 0, 0, 0⟩).out).map REff.cells), .int .i64 (((w).eff ⟨t.op, 0, t.base, 0, 0, 0⟩).time)]])), (7, (slO 1 (valC (((w).eff ⟨t.op, 0, t.base, 0, 0, 0⟩).regs)))), (11, (slO 6 ((((w).eff ⟨t.op, 0, t.base, 0, 0, 0⟩).out).map REff.cells)))] rfl Tryz.func100 (by kernel_rfl) rfl rfl rfl ⟨⟨_, rfl, z37q⟩, ⟨_, rfl, z37q⟩, ⟨_, rfl, z37q⟩, ⟨_, rfl, z37q⟩, ⟨_, rfl, z37q⟩, trivial⟩ rfl (hres_cons rfl (hres_cons rfl (hres_cons rfl (hres_cons rfl (hres_cons rfl (hres_nil _)))))) ⟨⟨_, rfl, rfl, z37q⟩, ⟨_, rfl, rfl, z37q⟩, ⟨_, rfl, rfl, z37q⟩, ⟨_, rfl, rfl, z37q⟩, ⟨_, rfl, rfl, z37q⟩, trivial⟩ rfl) ?_
 refine an ?_;refine agr ?_;refine aQ tok 4 rfl ?_;refine aq 19 (q_bin (r := .int .i64 (w.time + 1)) rfl rfl rfl z60q) ?_;refine aQ tok 2 rfl ?_;refine AOps.w rfl rfl (o_store tok rfl rfl rfl rfl rfl rfl rfl rfl rfl (by decide) rfl z51q) ?_;refine an ?_;refine ⟨[], trivial, rfl, ?_⟩
 rw [rstep0 hb1 hb2 hb3 hb4 hb5 hb6 hb7 hb8 hb9]
 exact (HSub.put (HSub.put (HSub.put (HSub.put (HSub.put (HSub.none _) rfl) rfl) rfl) rfl) rfl)
theorem throughb_ok (R m : Nat) (L : List RVal) (regs : List Int) (b : Block) (h : ROk R m ⟨L, regs, [], 0⟩) (hl : ∀ t ∈ b.ins, TacV t R) (hm : m + 2 * b.ins.length ≤ 80000) : ACall Tryz.prog 71 [.ptr 4 1 0 0, .agg b.cells, slA 7 (valC regs)] (hput (hput (hput (hput (hput hNew 4 (.row false 1 [[slA 9 ((L).map RVal.cells)]])) 9 (slO 9 ((L).map RVal.cells))) 7 (slO 1 (valC regs))) 8 .free) 11 .free) (fun r h' => r = .ptr 8 1 0 0 ∧ HSub (hput (hput (hput (hput (hput hNone 4 (.row false 1 [[slA 9 ((((rrun L regs b.ins)).L).map RVal.cells)]])) 9 (slO 9 ((((rrun L regs b.ins)).L).map RVal.cells))) 8 (.row false 4 [[.ptr 4 1 0 0, slA 7 (valC (((rrun L regs b.ins)).regs)), slA 11 ((((rrun L regs b.ins)).out).map REff.cells), .int .i64 (((rrun L regs b.ins)).time)]])) 7 (slO 1 (valC (((rrun L regs b.ins)).regs)))) 11 (slO 6 ((((rrun L regs b.ins)).out).map REff.cells))) h') := by
 refine ACall.of_body (n := 28) tok Tryz.func71 rfl rfl ?_;refine asr ?_;refine ax 4 (obx 5 12) ?_;refine aa 6 ?_;refine an ?_;refine asr ?_;refine aQ tok 2 rfl ?_;refine aq 11 (q_build tok (ps := [(0, .ptr 4 1 0 0), (1, slA 7 (valC regs))]) (r := [.ptr 4 1 0 0, slA 7 (valC regs), .nil, .int .i64 0]) rfl rfl rfl rfl rfl (by decide) (by simp only [partsFit, slA_cells]; rfl) rfl (by simp only [partCells, slA_cells]; rfl)) ?_;refine ax 12 (o_box (sz := 4) 8 rfl rfl rfl rfl (Nat.zero_lt_succ _) (by simp only [AV.cells, List.all_cons, List.all_nil, slA_cell1]; rfl)) ?_;refine aa 7 ?_;refine an ?_;refine asq ?_;refine asq ?_;refine AGo.ghost (.weakRowF 8 (es' := [[.ptr 4 1 0 0, slA 7 (valC regs), .lst true [], .int .i64 0]]) rfl rfl weakWlk) ?_;refine agr ?_;refine aa 8 ?_;refine an ?_;refine AGo.block ?_;refine AGo.loopD (γ := Nat) 13 (fun k => ⟨28, (eput (eput (eput eNew 4 (.ptr 12 1 0 0)) 7 (.ptr 8 1 0 0)) 8 (.int .i64 (k : Int))), (hput (hput (hput (hput (hput (hput (hFrom 13) 12 (.row false 5 [b.cells])) 4 (.row false 1 [[slA 9 ((((rrun L regs (b.ins.take (k)))).L).map RVal.cells)]])) 9 (slO 9 ((((rrun L regs (b.ins.take (k)))).L).map RVal.cells))) 8 (.row false 4 [[.ptr 4 1 0 0, slA 7 (valC (((rrun L regs (b.ins.take (k)))).regs)), slA 11 ((((rrun L regs (b.ins.take (k)))).out).map REff.cells), .int .i64 (((rrun L regs (b.ins.take (k)))).time)]])) 7 (slO 1 (valC (((rrun L regs (b.ins.take (k)))).regs)))) 11 (slO 6 ((((rrun L regs (b.ins.take (k)))).out).map REff.cells)))⟩) (fun k => k ≤ b.ins.length) (fun k => b.ins.length - k) 0 (Sub.mk' z29q z12q) (Nat.zero_le _) (fun _ => hput_free (hput_free (hput_free (hput_free (hput_free (hput_free (fun b hb => hFrom_free hb) rfl) rfl) rfl) rfl) rfl) rfl) ?_
 intro k hk
 refine asq ?_;refine asr ?_;refine aQ tok 5 rfl ?_;refine an ?_;refine asp 17 (fun hb1 => ?_) fun hb1 => ?_
 ·
  refine act ?_
  have hkl : k < b.ins.length := by have h := hb1; simp only [List.length_map, decide_eq_true_eq] at h; omega
  obtain ⟨t, ht⟩ := get_of_lt hkl
  refine agk ?_;refine asq ?_;refine AGo.block ?_;refine agr ?_;refine aQ tok 4 rfl ?_;refine aq 24 (qil tok (idx_map ht)) ?_;refine al 25 tok ?_;refine ax 26 (oct (rstepb_ok R _ (rrun L regs (b.ins.take (k))) (rrun_okk h hl k) hm t (hl t (List.mem_of_getElem? ht))) [11, 7, 8, 9, 4] [(4, (.row false 1 [[slA 9 (((((rrun L regs (b.ins.take (k))).step t)).L).map RVal.cells)]])), (9, (slO 9 (((((rrun L regs (b.ins.take (k))).step t)).L).map RVal.cells))), (8, (.row false 4 [[.ptr 4 1 0 0, slA 7 (valC ((((rrun L regs (b.ins.take (k))).step t)).regs)), slA 11 (((((rrun L regs (b.ins.take (k))).step t)).out).map REff.cells), .int .i64 ((((rrun L regs (b.ins.take (k))).step t)).time)]])), (7, (slO 1 (valC ((((rrun L regs (b.ins.take (k))).step t)).regs)))), (11, (slO 6 (((((rrun L regs (b.ins.take (k))).step t)).out).map REff.cells)))] rfl Tryz.func92 (by kernel_rfl) rfl rfl rfl ⟨⟨_, rfl, z37q⟩, ⟨_, rfl, z37q⟩, ⟨_, rfl, z37q⟩, ⟨_, rfl, z37q⟩, ⟨_, rfl, z37q⟩, trivial⟩ rfl (hres_cons rfl (hres_cons rfl (hres_cons rfl (hres_cons rfl (hres_cons rfl (hres_nil _)))))) ⟨⟨_, rfl, rfl, z37q⟩, ⟨_, rfl, rfl, z37q⟩, ⟨_, rfl, rfl, z37q⟩, ⟨_, rfl, rfl, z37q⟩, ⟨_, rfl, rfl, z37q⟩, trivial⟩ rfl) ?_
  refine an ?_;refine agr ?_;refine am 18 ?_;refine aq 19 (q_inc rfl rfl hkl (show b.ins.length ≤ maxLen by simp only [maxLen]; omega)) ?_
  refine aa 8 ?_;refine an ?_;exact ⟨k+1, Drop.mk' z31q z17q, hkl, by omega⟩
 refine acf ?_
 have hge : b.ins.length ≤ k := by have h := hb1; simp only [List.length_map, decide_eq_false_iff_not] at h; omega
 rw [rrun_end hge]
 refine AGo.exit ?_;refine asr ?_;refine aQ tok 2 rfl ?_;refine an ?_;refine agt ?_;refine ⟨[_], ⟨rfl, trivial⟩, rfl, ?_⟩
 exact (HSub.put (HSub.put (HSub.put (HSub.put (HSub.put (HSub.none _) rfl) rfl) rfl) rfl) rfl)
theorem reffecta_ok (R m : Nat) (w : RW) (h : ROk R m w) (hm : m ≤ 90000) (e : REff) : ACall Tryz.prog 100 [.ptr 6 1 0 0, .agg e.cells] (hput (hput (hput (hput (hput hNew 4 (.row false 1 [[slA 9 (((w).L).map RVal.cells)]])) 9 (slO 9 (((w).L).map RVal.cells))) 6 (.row false 4 [[.ptr 4 1 0 0, slA 5 (valC ((w).regs)), slA 10 (((w).out).map REff.cells), .int .i64 ((w).time)]])) 5 (slO 1 (valC ((w).regs)))) 10 (slO 6 (((w).out).map REff.cells))) (fun r h' => r = .int .i64 (w.out.length : Int) ∧ HSub (hput (hput (hput (hput (hput hNone 4 (.row false 1 [[slA 9 ((((w.eff e)).L).map RVal.cells)]])) 9 (slO 9 ((((w.eff e)).L).map RVal.cells))) 6 (.row false 4 [[.ptr 4 1 0 0, slA 5 (valC (((w.eff e)).regs)), slA 10 ((((w.eff e)).out).map REff.cells), .int .i64 (((w.eff e)).time)]])) 5 (slO 1 (valC (((w.eff e)).regs)))) 10 (slO 6 ((((w.eff e)).out).map REff.cells))) h') := by
 have hel := h.el
 refine ACall.of_body (n := 21) tok Tryz.func100 rfl rfl ?_;refine asr ?_;refine ax 3 (obx 6 12) ?_;refine aa 4 ?_;refine an ?_;refine asq ?_;refine AGo.draw mix ?_;refine dQ tok 6 rfl ?_;refine dx 11 (o_lit' tok rfl rfl rfl rfl rfl rfl (by decide) rfl rfl rfl rfl rfl rfl) ?_;refine dx 12 (o_append1J tok (b := 10) (es := ((w.out).map REff.cells)) rfl rfl rfl rfl rfl rfl rfl rfl rfl rfl rfl (Nat.zero_lt_succ _) (re_len _) (re_pure _) rfl rfl z57q z52q) ?_;refine dQ tok 2 rfl ?_;refine DOps.w rfl rfl (o_store1 tok rfl rfl rfl rfl rfl rfl rfl rfl rfl (slA_cells _ _) (by decide) (slA_cell1 _ _) (by intro h; cases h)) ?_;refine DOps.nil (by kernel_rfl) ?_;refine asr ?_;refine aQ tok 4 rfl ?_;refine aq 19 (q_lenJ tok rfl rfl rfl rfl) ?_;refine aq 20 (q_bin (r := .int .i64 (w.out.length : Int)) rfl rfl rfl (subZ z43q z43q z43q)) ?_;refine aa 4 ?_;refine an ?_;refine agt ?_;refine ⟨[_], ⟨rfl, trivial⟩, rfl, ?_⟩
 exact (HSub.put (HSub.put (HSub.put (HSub.put (HSub.put (HSub.none _) rfl) rfl) (by show _ = some (AObj.row false 4 [[.ptr 4 1 0 0, slA 5 (valC w.regs), slA 10 ((w.out ++ [e]).map REff.cells), .int .i64 w.time]]); rw [List.map_append]; rfl)) rfl) (by show _ = some (slO 6 ((w.out ++ [e]).map REff.cells)); rw [List.map_append]; rfl))
theorem rbin_da (w : RW) (t : Tac) : w.bin t = ⟨(rnum w.L (rapplyV w t)).2, rset w.regs t.d (rnum w.L (rapplyV w t)).1, (w.div t).out, w.time⟩ := by
  cases hr : rrisky w t with
  | true => rw [rbin_yes hr]; simp only [RW.div, hr, cond_true]; rfl
  | false => rw [rbin_no hr]; simp only [RW.div, hr, cond_false]
theorem rbina_ok (R m : Nat) (w : RW) (h : ROk R m w) (hm : m ≤ 90000) (t : Tac) (hd : 0 ≤ t.d ∧ t.d < R) (ha : 0 ≤ t.a ∧ t.a < R) (hb : 0 ≤ t.b ∧ t.b < R) : ACall Tryz.prog 99 [.ptr 6 1 0 0, .agg t.cells] (hput (hput (hput (hput (hput hNew 4 (.row false 1 [[slA 9 (((w).L).map RVal.cells)]])) 9 (slO 9 (((w).L).map RVal.cells))) 6 (.row false 4 [[.ptr 4 1 0 0, slA 5 (valC ((w).regs)), slA 10 (((w).out).map REff.cells), .int .i64 ((w).time)]])) 5 (slO 1 (valC ((w).regs)))) 10 (slO 6 (((w).out).map REff.cells))) (fun r h' => r = .tup [] ∧ HSub (hput (hput (hput (hput (hput hNone 4 (.row false 1 [[slA 9 ((((w.bin t)).L).map RVal.cells)]])) 9 (slO 9 ((((w.bin t)).L).map RVal.cells))) 6 (.row false 4 [[.ptr 4 1 0 0, slA 5 (valC (((w.bin t)).regs)), slA 10 ((((w.bin t)).out).map REff.cells), .int .i64 (((w.bin t)).time)]])) 5 (slO 1 (valC (((w.bin t)).regs)))) 10 (slO 6 ((((w.bin t)).out).map REff.cells))) h') := by
 have hel := h.el
 have hkl := h.kl
 have hxd := h.at hd
 have hxa := h.at ha
 have hxb := h.at hb
 refine ACall.of_body (n := 120) tok Tryz.func99 rfl rfl ?_;refine asr ?_;refine ax 3 (obx 8 12) ?_;refine an ?_;refine asq ?_;refine AGo.draw mix ?_;refine dQ tok 6 rfl ?_;refine dq 19 (q_indexJ tok rfl rfl rfl rfl rfl rfl rfl rfl hxa.1 hxa.2.2.1) ?_;refine dq 20 (q_load tok rfl rfl rfl (ptsJ rfl (valC_get ⟨hxa.1, hxa.2.1⟩)) rfl) ?_;refine dQ tok 6 rfl ?_;refine dq 27 (q_indexJ tok rfl rfl rfl rfl rfl rfl rfl rfl hxb.1 hxb.2.2.1) ?_;refine dq 28 (q_load tok rfl rfl rfl (ptsJ rfl (valC_get ⟨hxb.1, hxb.2.1⟩)) rfl) ?_;refine dQ tok 2 rfl ?_;refine DOps.nil (by kernel_rfl) ?_;refine asr ?_;refine aQ tok 5 rfl ?_;refine ax 35 (oct (rconst_ok w.L (rget w.regs t.a) hxa.2.2.2) [9, 4] [(4, (.row false 1 [[slA 9 ((w.L).map RVal.cells)]])), (9, (slO 9 ((w.L).map RVal.cells)))] rfl Tryz.func109 (by kernel_rfl) rfl rfl rfl ⟨⟨_, rfl, z37q⟩, ⟨_, rfl, z37q⟩, trivial⟩ rfl (hres_cons rfl (hres_cons rfl (hres_nil _))) ⟨⟨_, rfl, rfl, z37q⟩, ⟨_, rfl, rfl, z37q⟩, trivial⟩ rfl) ?_
 refine aQ tok 5 rfl ?_;refine an ?_;refine asr ?_;refine aQ tok 5 rfl ?_;refine ax 44 (oct (rconst_ok w.L (rget w.regs t.b) hxb.2.2.2) [9, 4] [(4, (.row false 1 [[slA 9 ((w.L).map RVal.cells)]])), (9, (slO 9 ((w.L).map RVal.cells)))] rfl Tryz.func109 (by kernel_rfl) rfl rfl rfl ⟨⟨_, rfl, z37q⟩, ⟨_, rfl, z37q⟩, trivial⟩ rfl (hres_cons rfl (hres_cons rfl (hres_nil _))) ⟨⟨_, rfl, rfl, z37q⟩, ⟨_, rfl, rfl, z37q⟩, trivial⟩ rfl) ?_;refine aQ tok 5 rfl ?_;refine an ?_;refine asq ?_;refine AGo.join (γ := Unit) (fun _u => ⟨120, (eput (eput (eput (eput (eput (eput (eput (eput (eput eNew 0 (.ptr 6 1 0 0)) 3 (.ptr 12 1 0 0)) 4 (.int .i64 (rget w.regs t.a))) 5 (.int .i64 (rget w.regs t.b))) 6 (.int .u32 (rconst w.L (rget w.regs t.a)).1)) 8 (.int .u32 (rconst w.L (rget w.regs t.b)).1)) 7 (.bool (rconst w.L (rget w.regs t.a)).2)) 9 (.bool (rconst w.L (rget w.regs t.b)).2)) 10 (.bool (rrisky w t))), (hput (hput (hput (hput (hput (hput (hFrom 13) 12 (.row false 8 [t.cells])) 4 (.row false 1 [[slA 9 (((w).L).map RVal.cells)]])) 9 (slO 9 (((w).L).map RVal.cells))) 6 (.row false 4 [[.ptr 4 1 0 0, slA 5 (valC ((w).regs)), slA 10 (((w).out).map REff.cells), .int .i64 ((w).time)]])) 5 (slO 1 (valC ((w).regs)))) 10 (slO 6 (((w).out).map REff.cells)))⟩) (fun _u => True) ?_ ?_
 ·
  refine agr ?_;refine aQ tok 4 rfl ?_;refine aop 50 (fun hb1 => ?_) fun hb1 => ?_
  ·
   refine aQ tok 8 rfl ?_;refine aop 58 (fun hb2 => ?_) fun hb2 => ?_
   ·
    refine aQ tok 5 rfl ?_;refine an ?_;exact ⟨(), Sub.mk' z20q z12q, trivial⟩
   refine aQ tok 5 rfl ?_;refine an ?_;exact ⟨(), Sub.mk' z20q z12q, trivial⟩
  refine aQ tok 5 rfl ?_;refine aop 55 (fun hb3 => ?_) fun hb3 => ?_
  ·
   refine aQ tok 3 rfl ?_;refine aop 58 (fun hb4 => ?_) fun hb4 => ?_
   ·
    refine aQ tok 5 rfl ?_;refine an ?_;exact ⟨(), Sub.mk' z20q z12q, trivial⟩
   refine aQ tok 5 rfl ?_;refine an ?_;exact ⟨(), Sub.mk' z20q z12q, trivial⟩
  refine aQ tok 8 rfl ?_;refine an ?_;exact ⟨(), Sub.mk' z20q z12q, trivial⟩
 intro _u _
 refine asq ?_;refine asr ?_;refine am 63 ?_;refine an ?_;refine asp 63 (fun hb5 => ?_) fun hb5 => ?_
 ·
  refine act ?_
  have hr : rrisky w t = true := hb5
  refine agr ?_;refine aQ tok 7 rfl ?_;refine aq 71 (q_build tok rfl rfl rfl rfl rfl (by decide) rfl rfl rfl) ?_;refine ax 72 (oct (reffecta_ok R m w h (by omega) ⟨t.op, t.k, 0, 0, (rget w.regs t.a), (rget w.regs t.b)⟩) [10, 5, 6, 9, 4] [(4, (.row false 1 [[slA 9 ((((w).eff ⟨t.op, t.k, 0, 0, (rget w.regs t.a), (rget w.regs t.b)⟩).L).map RVal.cells)]])), (9, (slO 9 ((((w).eff ⟨t.op, t.k, 0, 0, (rget w.regs t.a), (rget w.regs t.b)⟩).L).map RVal.cells))), (6, (.row false 4 [[.ptr 4 1 0 0, slA 5 (valC (((w).eff ⟨t.op, t.k, 0, 0, (rget w.regs t.a), (rget w.regs t.b)⟩).regs)), slA 10 ((((w).eff ⟨t.op, t.k, 0, 0, (rget w.regs t.a), (rget w.regs t.b)⟩).out).map REff.cells), .int .i64 (((w).eff ⟨t.op, t.k, 0, 0, (rget w.regs t.a), (rget w.regs t.b)⟩).time)]])), (5, (slO 1 (valC (((w).eff ⟨t.op, t.k, 0, 0, (rget w.regs t.a), (rget w.regs t.b)⟩).regs)))), (10, (slO 6 ((((w).eff ⟨t.op, t.k, 0, 0, (rget w.regs t.a), (rget w.regs t.b)⟩).out).map REff.cells)))] rfl Tryz.func100 (by kernel_rfl) rfl rfl rfl ⟨⟨_, rfl, z37q⟩, ⟨_, rfl, z37q⟩, ⟨_, rfl, z37q⟩, ⟨_, rfl, z37q⟩, ⟨_, rfl, z37q⟩, trivial⟩ rfl (hres_cons rfl (hres_cons rfl (hres_cons rfl (hres_cons rfl (hres_cons rfl (hres_nil _)))))) ⟨⟨_, rfl, rfl, z37q⟩, ⟨_, rfl, rfl, z37q⟩, ⟨_, rfl, rfl, z37q⟩, ⟨_, rfl, rfl, z37q⟩, ⟨_, rfl, rfl, z37q⟩, trivial⟩ rfl) ?_
  refine an ?_;refine asq ?_;refine asq ?_;refine AGo.join (γ := Unit) (fun _u => ⟨120, (eput (eput (eput (eput (eput (eput (eput eNew 0 (.ptr 6 1 0 0)) 3 (.ptr 12 1 0 0)) 4 (.int .i64 (rget w.regs t.a))) 5 (.int .i64 (rget w.regs t.b))) 6 (.int .u32 (rconst w.L (rget w.regs t.a)).1)) 8 (.int .u32 (rconst w.L (rget w.regs t.b)).1)) 80 (.bool (rfold w t))), (hput (hput (hput (hput (hput (hput (hFrom 13) 12 (.row false 8 [t.cells])) 4 (.row false 1 [[slA 9 ((w.L).map RVal.cells)]])) 9 (slO 9 ((w.L).map RVal.cells))) 6 (.row false 4 [[.ptr 4 1 0 0, slA 5 (valC (w.regs)), slA 10 (((w.div t).out).map REff.cells), .int .i64 (w.time)]])) 5 (slO 1 (valC (w.regs)))) 10 (slO 6 (((w.div t).out).map REff.cells)))⟩) (fun _u => True) ?_ ?_
  ·
   refine agr ?_;refine aQ tok 2 rfl ?_;refine aop 74 (fun hb6 => ?_) fun hb6 => ?_
   ·
    refine aQ tok 3 rfl ?_;refine aop 77 (fun hb7 => ?_) fun hb7 => ?_
    ·
     refine aQ tok 3 rfl ?_;refine an ?_;exact ⟨(), Sub.mk' z21q z8q, trivial⟩
    refine aQ tok 3 rfl ?_;refine an ?_;exact ⟨(), Sub.mk' z21q z8q, trivial⟩
   refine aQ tok 6 rfl ?_;refine an ?_;exact ⟨(), Sub.mk' z21q z8q, trivial⟩
  intro _u _
  refine asp 80 (fun hb8 => ?_) fun hb8 => ?_
  ·
   refine act ?_
   have hf : rfold w t = true := hb8
   refine asr ?_;refine aQ tok 4 rfl ?_;refine ax 86 (opu Tryz.func72 (rapply_ok t.k _ _ (rval_n h.wn _) (rval_n h.wn _))) ?_;refine aQ tok 5 rfl ?_;refine an ?_;refine asq ?_;refine AGo.draw mix ?_;refine dQ tok 11 rfl ?_;refine dq 100 (q_build tok rfl rfl rfl rfl rfl (by decide) rfl rfl rfl) ?_;refine dx 101 (oct (rof_ok w.L (by omega) ⟨1, 0, 0, 0, 0, 0, 0, 0, (wapp t.k (rconst w.L (rget w.regs t.a)).1 (rconst w.L (rget w.regs t.b)).1).1⟩) [9, 4] [(4, (.row false 1 [[slA 9 (((rnum w.L ⟨1, 0, 0, 0, 0, 0, 0, 0, (wapp t.k (rconst w.L (rget w.regs t.a)).1 (rconst w.L (rget w.regs t.b)).1).1⟩).2).map RVal.cells)]])), (9, (slO 9 (((rnum w.L ⟨1, 0, 0, 0, 0, 0, 0, 0, (wapp t.k (rconst w.L (rget w.regs t.a)).1 (rconst w.L (rget w.regs t.b)).1).1⟩).2).map RVal.cells)))] rfl Tryz.func70 (by kernel_rfl) rfl rfl rfl ⟨⟨_, rfl, z37q⟩, ⟨_, rfl, z37q⟩, trivial⟩ rfl (hres_cons rfl (hres_cons rfl (hres_nil _))) ⟨⟨_, rfl, rfl, z37q⟩, ⟨_, rfl, rfl, z37q⟩, trivial⟩ rfl) ?_
   refine dq 102 (q_indexJ tok rfl rfl rfl rfl rfl rfl rfl rfl hxd.1 hxd.2.2.1) ?_;refine DOps.w rfl rfl (o_storeJ tok rfl rfl rfl rfl rfl rfl rfl z39q (valC_one _) rfl rfl rfl) ?_;refine DOps.nil (by kernel_rfl) ?_;refine agt ?_;refine ⟨[], trivial, rfl, ?_⟩
   rw [rbin_da, rapplyV_c hf]
   exact (HSub.put (HSub.put (HSub.put (HSub.put (HSub.put (HSub.none _) rfl) rfl) z23q) z44q) rfl)
  refine acf ?_
  have hf : rfold w t = false := hb8
  refine agk ?_;refine AGo.draw mix ?_;refine dQ tok 14 rfl ?_;refine dq 117 (q_build tok rfl rfl rfl rfl rfl (by decide) rfl rfl rfl) ?_;refine dx 118 (oct (rof_ok w.L (by omega) ⟨3, t.k, (rget w.regs t.a), (rget w.regs t.b), 0, 0, 0, 0, 0⟩) [9, 4] [(4, (.row false 1 [[slA 9 (((rnum w.L ⟨3, t.k, (rget w.regs t.a), (rget w.regs t.b), 0, 0, 0, 0, 0⟩).2).map RVal.cells)]])), (9, (slO 9 (((rnum w.L ⟨3, t.k, (rget w.regs t.a), (rget w.regs t.b), 0, 0, 0, 0, 0⟩).2).map RVal.cells)))] rfl Tryz.func70 (by kernel_rfl) rfl rfl rfl ⟨⟨_, rfl, z37q⟩, ⟨_, rfl, z37q⟩, trivial⟩ rfl (hres_cons rfl (hres_cons rfl (hres_nil _))) ⟨⟨_, rfl, rfl, z37q⟩, ⟨_, rfl, rfl, z37q⟩, trivial⟩ rfl) ?_;refine dq 119 (q_indexJ tok rfl rfl rfl rfl rfl rfl rfl rfl hxd.1 hxd.2.2.1) ?_;refine DOps.w rfl rfl (o_storeJ tok rfl rfl rfl rfl rfl rfl rfl z39q (valC_one _) rfl rfl rfl) ?_;refine DOps.nil (by kernel_rfl) ?_;refine ⟨[], trivial, rfl, ?_⟩
  rw [rbin_da, rapplyV_o hf]
  exact (HSub.put (HSub.put (HSub.put (HSub.put (HSub.put (HSub.none _) rfl) rfl) z23q) z44q) rfl)
 refine acf ?_
 have hr : rrisky w t = false := hb5
 refine agk ?_;refine asq ?_;refine asq ?_;refine AGo.join (γ := Unit) (fun _u => ⟨120, (eput (eput (eput (eput (eput (eput (eput eNew 0 (.ptr 6 1 0 0)) 3 (.ptr 12 1 0 0)) 4 (.int .i64 (rget w.regs t.a))) 5 (.int .i64 (rget w.regs t.b))) 6 (.int .u32 (rconst w.L (rget w.regs t.a)).1)) 8 (.int .u32 (rconst w.L (rget w.regs t.b)).1)) 80 (.bool (rfold w t))), (hput (hput (hput (hput (hput (hput (hFrom 13) 12 (.row false 8 [t.cells])) 4 (.row false 1 [[slA 9 ((w.L).map RVal.cells)]])) 9 (slO 9 ((w.L).map RVal.cells))) 6 (.row false 4 [[.ptr 4 1 0 0, slA 5 (valC (w.regs)), slA 10 (((w.div t).out).map REff.cells), .int .i64 (w.time)]])) 5 (slO 1 (valC (w.regs)))) 10 (slO 6 (((w.div t).out).map REff.cells)))⟩) (fun _u => True) ?_ ?_
 ·
  refine agr ?_;refine aQ tok 2 rfl ?_;refine aop 74 (fun hb9 => ?_) fun hb9 => ?_
  ·
   refine aQ tok 3 rfl ?_;refine aop 77 (fun hb10 => ?_) fun hb10 => ?_
   ·
    refine aQ tok 3 rfl ?_;refine an ?_;exact ⟨(), Sub.mk' z21q z8q, trivial⟩
   refine aQ tok 3 rfl ?_;refine an ?_;exact ⟨(), Sub.mk' z21q z8q, trivial⟩
  refine aQ tok 6 rfl ?_;refine an ?_;exact ⟨(), Sub.mk' z21q z8q, trivial⟩
 intro _u _
 refine asp 80 (fun hb11 => ?_) fun hb11 => ?_
 ·
  refine act ?_
  have hf : rfold w t = true := hb11
  refine asr ?_;refine aQ tok 4 rfl ?_;refine ax 86 (opu Tryz.func72 (rapply_ok t.k _ _ (rval_n h.wn _) (rval_n h.wn _))) ?_;refine aQ tok 5 rfl ?_;refine an ?_;refine asq ?_;refine AGo.draw mix ?_;refine dQ tok 11 rfl ?_;refine dq 100 (q_build tok rfl rfl rfl rfl rfl (by decide) rfl rfl rfl) ?_;refine dx 101 (oct (rof_ok w.L (by omega) ⟨1, 0, 0, 0, 0, 0, 0, 0, (wapp t.k (rconst w.L (rget w.regs t.a)).1 (rconst w.L (rget w.regs t.b)).1).1⟩) [9, 4] [(4, (.row false 1 [[slA 9 (((rnum w.L ⟨1, 0, 0, 0, 0, 0, 0, 0, (wapp t.k (rconst w.L (rget w.regs t.a)).1 (rconst w.L (rget w.regs t.b)).1).1⟩).2).map RVal.cells)]])), (9, (slO 9 (((rnum w.L ⟨1, 0, 0, 0, 0, 0, 0, 0, (wapp t.k (rconst w.L (rget w.regs t.a)).1 (rconst w.L (rget w.regs t.b)).1).1⟩).2).map RVal.cells)))] rfl Tryz.func70 (by kernel_rfl) rfl rfl rfl ⟨⟨_, rfl, z37q⟩, ⟨_, rfl, z37q⟩, trivial⟩ rfl (hres_cons rfl (hres_cons rfl (hres_nil _))) ⟨⟨_, rfl, rfl, z37q⟩, ⟨_, rfl, rfl, z37q⟩, trivial⟩ rfl) ?_
  refine dq 102 (q_indexJ tok rfl rfl rfl rfl rfl rfl rfl rfl hxd.1 hxd.2.2.1) ?_;refine DOps.w rfl rfl (o_storeJ tok rfl rfl rfl rfl rfl rfl rfl z39q (valC_one _) rfl rfl rfl) ?_;refine DOps.nil (by kernel_rfl) ?_;refine agt ?_;refine ⟨[], trivial, rfl, ?_⟩
  rw [rbin_da, rapplyV_c hf]
  exact (HSub.put (HSub.put (HSub.put (HSub.put (HSub.put (HSub.none _) rfl) rfl) z23q) z44q) rfl)
 refine acf ?_
 have hf : rfold w t = false := hb11
 refine agk ?_;refine AGo.draw mix ?_;refine dQ tok 14 rfl ?_;refine dq 117 (q_build tok rfl rfl rfl rfl rfl (by decide) rfl rfl rfl) ?_;refine dx 118 (oct (rof_ok w.L (by omega) ⟨3, t.k, (rget w.regs t.a), (rget w.regs t.b), 0, 0, 0, 0, 0⟩) [9, 4] [(4, (.row false 1 [[slA 9 (((rnum w.L ⟨3, t.k, (rget w.regs t.a), (rget w.regs t.b), 0, 0, 0, 0, 0⟩).2).map RVal.cells)]])), (9, (slO 9 (((rnum w.L ⟨3, t.k, (rget w.regs t.a), (rget w.regs t.b), 0, 0, 0, 0, 0⟩).2).map RVal.cells)))] rfl Tryz.func70 (by kernel_rfl) rfl rfl rfl ⟨⟨_, rfl, z37q⟩, ⟨_, rfl, z37q⟩, trivial⟩ rfl (hres_cons rfl (hres_cons rfl (hres_nil _))) ⟨⟨_, rfl, rfl, z37q⟩, ⟨_, rfl, rfl, z37q⟩, trivial⟩ rfl) ?_;refine dq 119 (q_indexJ tok rfl rfl rfl rfl rfl rfl rfl rfl hxd.1 hxd.2.2.1) ?_;refine DOps.w rfl rfl (o_storeJ tok rfl rfl rfl rfl rfl rfl rfl z39q (valC_one _) rfl rfl rfl) ?_;refine DOps.nil (by kernel_rfl) ?_;refine ⟨[], trivial, rfl, ?_⟩
 rw [rbin_da, rapplyV_o hf]
 exact (HSub.put (HSub.put (HSub.put (HSub.put (HSub.put (HSub.none _) rfl) rfl) z23q) z44q) rfl)
theorem rstepa_ok (R m : Nat) (w : RW) (h : ROk R m w) (hm : m ≤ 80000) (t : Tac) (ht : TacV t R) : ACall Tryz.prog 92 [.ptr 6 1 0 0, .agg t.cells] (hput (hput (hput (hput (hput hNew 4 (.row false 1 [[slA 9 (((w).L).map RVal.cells)]])) 9 (slO 9 (((w).L).map RVal.cells))) 6 (.row false 4 [[.ptr 4 1 0 0, slA 5 (valC ((w).regs)), slA 10 (((w).out).map REff.cells), .int .i64 ((w).time)]])) 5 (slO 1 (valC ((w).regs)))) 10 (slO 6 (((w).out).map REff.cells))) (fun r h' => r = .tup [] ∧ HSub (hput (hput (hput (hput (hput hNone 4 (.row false 1 [[slA 9 ((((w.step t)).L).map RVal.cells)]])) 9 (slO 9 ((((w.step t)).L).map RVal.cells))) 6 (.row false 4 [[.ptr 4 1 0 0, slA 5 (valC (((w.step t)).regs)), slA 10 ((((w.step t)).out).map REff.cells), .int .i64 (((w.step t)).time)]])) 5 (slO 1 (valC (((w.step t)).regs)))) 10 (slO 6 ((((w.step t)).out).map REff.cells))) h') := by
 have hel := h.el
 have hkl := h.kl
 have htl := h.tl
 refine ACall.of_body (n := 209) tok Tryz.func92 rfl rfl ?_;refine asr ?_;refine ax 3 (obx 8 12) ?_;refine an ?_;refine asr ?_;refine aQ tok 2 rfl ?_;refine an ?_;refine AGo.block ?_;refine asr ?_;refine aQ tok 2 rfl ?_;refine an ?_;refine asp 22 (fun hb1 => ?_) fun hb1 => ?_
 ·
  refine act ?_
  have ho : t.op = 1 := by simpa using hb1
  have hxd := h.at (ht.d (by rw [ho]; rfl))
  
  refine AGo.draw mix ?_;refine dQ tok 12 rfl ?_;refine dq 36 (q_build tok rfl rfl rfl rfl rfl (by decide) rfl rfl rfl) ?_;refine dx 37 (oct (rof_ok w.L (by omega) ⟨1, 0, 0, 0, 0, 0, 0, 0, t.n⟩) [9, 4] [(4, (.row false 1 [[slA 9 (((rnum w.L ⟨1, 0, 0, 0, 0, 0, 0, 0, t.n⟩).2).map RVal.cells)]])), (9, (slO 9 (((rnum w.L ⟨1, 0, 0, 0, 0, 0, 0, 0, t.n⟩).2).map RVal.cells)))] rfl Tryz.func70 (by kernel_rfl) rfl rfl rfl ⟨⟨_, rfl, z37q⟩, ⟨_, rfl, z37q⟩, trivial⟩ rfl (hres_cons rfl (hres_cons rfl (hres_nil _))) ⟨⟨_, rfl, rfl, z37q⟩, ⟨_, rfl, rfl, z37q⟩, trivial⟩ rfl) ?_;refine dq 38 (q_indexJ tok rfl rfl rfl rfl rfl rfl rfl rfl hxd.1 hxd.2.2.1) ?_;refine DOps.w rfl rfl (o_storeJ tok rfl rfl rfl rfl rfl rfl rfl z39q (valC_one _) rfl rfl rfl) ?_;refine DOps.nil (by kernel_rfl) ?_;refine ⟨[], trivial, rfl, ?_⟩
  rw [rstep1 ho]
  exact (HSub.put (HSub.put (HSub.put (HSub.put (HSub.put (HSub.none _) rfl) rfl) z27q) z44q) rfl)
 refine acf ?_;refine asr ?_;refine aQ tok 2 rfl ?_;refine an ?_;refine asp 39 (fun hb2 => ?_) fun hb2 => ?_
 ·
  refine act ?_
  have ho : t.op = 2 := by simpa using hb2
  have hxd := h.at (ht.d (by rw [ho]; rfl))
  have hxa := h.at (ht.a (.inl (by rw [ho]; rfl)))
   
  refine AGo.draw mix ?_;refine dQ tok 12 rfl ?_;refine dq 53 (q_indexJ tok rfl rfl rfl rfl rfl rfl rfl rfl hxa.1 hxa.2.2.1) ?_;refine dq 54 (q_load tok rfl rfl rfl (ptsJ rfl (valC_get ⟨hxa.1, hxa.2.1⟩)) rfl) ?_;refine dq 55 (q_indexJ tok rfl rfl rfl rfl rfl rfl rfl rfl hxd.1 hxd.2.2.1) ?_;refine DOps.w rfl rfl (o_storeJ tok rfl rfl rfl rfl rfl rfl rfl z39q (valC_one _) rfl rfl rfl) ?_;refine DOps.nil (by kernel_rfl) ?_;refine ⟨[], trivial, rfl, ?_⟩
  rw [rstep2 ho]
  exact (HSub.put (HSub.put (HSub.put (HSub.put (HSub.put (HSub.none _) rfl) rfl) z27q) z44q) rfl)
 refine acf ?_;refine asr ?_;refine aQ tok 2 rfl ?_;refine an ?_;refine asp 56 (fun hb3 => ?_) fun hb3 => ?_
 ·
  refine act ?_
  have ho : t.op = 3 := by simpa using hb3
    
  refine agr ?_;refine aQ tok 2 rfl ?_;refine ax 60 (oct (rbina_ok R m w h (by omega) t (ht.d (by rw [ho]; rfl)) (ht.a (.inr (by rw [ho]; rfl))) (ht.b (by rw [ho]; rfl))) [10, 5, 6, 9, 4] [(4, (.row false 1 [[slA 9 ((((w.bin t)).L).map RVal.cells)]])), (9, (slO 9 ((((w.bin t)).L).map RVal.cells))), (6, (.row false 4 [[.ptr 4 1 0 0, slA 5 (valC (((w.bin t)).regs)), slA 10 ((((w.bin t)).out).map REff.cells), .int .i64 (((w.bin t)).time)]])), (5, (slO 1 (valC (((w.bin t)).regs)))), (10, (slO 6 ((((w.bin t)).out).map REff.cells)))] rfl Tryz.func99 (by kernel_rfl) rfl rfl rfl ⟨⟨_, rfl, z37q⟩, ⟨_, rfl, z37q⟩, ⟨_, rfl, z37q⟩, ⟨_, rfl, z37q⟩, ⟨_, rfl, z37q⟩, trivial⟩ rfl (hres_cons rfl (hres_cons rfl (hres_cons rfl (hres_cons rfl (hres_cons rfl (hres_nil _)))))) ⟨⟨_, rfl, rfl, z37q⟩, ⟨_, rfl, rfl, z37q⟩, ⟨_, rfl, rfl, z37q⟩, ⟨_, rfl, rfl, z37q⟩, ⟨_, rfl, rfl, z37q⟩, trivial⟩ rfl) ?_;refine an ?_
  refine ⟨[], trivial, rfl, ?_⟩
  rw [rstep3 ho]
  exact (HSub.put (HSub.put (HSub.put (HSub.put (HSub.put (HSub.none _) rfl) rfl) rfl) rfl) rfl)
 refine acf ?_;refine asr ?_;refine aQ tok 2 rfl ?_;refine an ?_;refine asp 61 (fun hb4 => ?_) fun hb4 => ?_
 ·
  refine act ?_
  have ho : t.op = 4 := by simpa using hb4
  have hxd := h.at (ht.d (by rw [ho]; rfl))
     
  refine AGo.draw mix ?_;refine dQ tok 16 rfl ?_;refine dq 79 (q_build tok rfl rfl rfl rfl rfl (by decide) rfl rfl rfl) ?_;refine dx 80 (oct (rof_ok w.L (by omega) ⟨4, 0, 0, 0, 0, 0, t.base, w.time, 0⟩) [9, 4] [(4, (.row false 1 [[slA 9 (((rnum w.L ⟨4, 0, 0, 0, 0, 0, t.base, w.time, 0⟩).2).map RVal.cells)]])), (9, (slO 9 (((rnum w.L ⟨4, 0, 0, 0, 0, 0, t.base, w.time, 0⟩).2).map RVal.cells)))] rfl Tryz.func70 (by kernel_rfl) rfl rfl rfl ⟨⟨_, rfl, z37q⟩, ⟨_, rfl, z37q⟩, trivial⟩ rfl (hres_cons rfl (hres_cons rfl (hres_nil _))) ⟨⟨_, rfl, rfl, z37q⟩, ⟨_, rfl, rfl, z37q⟩, trivial⟩ rfl) ?_;refine dq 81 (q_indexJ tok rfl rfl rfl rfl rfl rfl rfl rfl hxd.1 hxd.2.2.1) ?_;refine DOps.w rfl rfl (o_storeJ tok rfl rfl rfl rfl rfl rfl rfl z39q (valC_one _) rfl rfl rfl) ?_;refine DOps.nil (by kernel_rfl) ?_;refine ⟨[], trivial, rfl, ?_⟩
  rw [rstep4 ho]
  exact (HSub.put (HSub.put (HSub.put (HSub.put (HSub.put (HSub.none _) rfl) rfl) z27q) z44q) rfl)
 refine acf ?_;refine asr ?_;refine aQ tok 2 rfl ?_;refine an ?_;refine asp 82 (fun hb5 => ?_) fun hb5 => ?_
 ·
  refine act ?_
  have ho : t.op = 5 := by simpa using hb5
  have hxa := h.at (ht.a (.inl (by rw [ho]; rfl)))
      
  refine asq ?_;refine AGo.draw mix ?_;refine dQ tok 11 rfl ?_;refine dq 95 (q_indexJ tok rfl rfl rfl rfl rfl rfl rfl rfl hxa.1 hxa.2.2.1) ?_;refine dq 96 (q_load tok rfl rfl rfl (ptsJ rfl (valC_get ⟨hxa.1, hxa.2.1⟩)) rfl) ?_;refine dq 97 (q_build tok rfl rfl rfl rfl rfl (by decide) rfl rfl rfl) ?_;refine dx 98 (oct (reffecta_ok R m w h (by omega) ⟨t.op, 0, t.base, 0, (rget w.regs t.a), 0⟩) [10, 5, 6, 9, 4] [(4, (.row false 1 [[slA 9 ((((w).eff ⟨t.op, 0, t.base, 0, (rget w.regs t.a), 0⟩).L).map RVal.cells)]])), (9, (slO 9 ((((w).eff ⟨t.op, 0, t.base, 0, (rget w.regs t.a), 0⟩).L).map RVal.cells))), (6, (.row false 4 [[.ptr 4 1 0 0, slA 5 (valC (((w).eff ⟨t.op, 0, t.base, 0, (rget w.regs t.a), 0⟩).regs)), slA 10 ((((w).eff ⟨t.op, 0, t.base, 0, (rget w.regs t.a), 0⟩).out).map REff.cells), .int .i64 (((w).eff ⟨t.op, 0, t.base, 0, (rget w.regs t.a), 0⟩).time)]])), (5, (slO 1 (valC (((w).eff ⟨t.op, 0, t.base, 0, (rget w.regs t.a), 0⟩).regs)))), (10, (slO 6 ((((w).eff ⟨t.op, 0, t.base, 0, (rget w.regs t.a), 0⟩).out).map REff.cells)))] rfl Tryz.func100 (by kernel_rfl) rfl rfl rfl ⟨⟨_, rfl, z37q⟩, ⟨_, rfl, z37q⟩, ⟨_, rfl, z37q⟩, ⟨_, rfl, z37q⟩, ⟨_, rfl, z37q⟩, trivial⟩ rfl (hres_cons rfl (hres_cons rfl (hres_cons rfl (hres_cons rfl (hres_cons rfl (hres_nil _)))))) ⟨⟨_, rfl, rfl, z37q⟩, ⟨_, rfl, rfl, z37q⟩, ⟨_, rfl, rfl, z37q⟩, ⟨_, rfl, rfl, z37q⟩, ⟨_, rfl, rfl, z37q⟩, trivial⟩ rfl) ?_
  refine DOps.nil (by kernel_rfl) ?_;refine agr ?_;refine aQ tok 4 rfl ?_;refine aq 103 (q_bin (r := .int .i64 (w.time + 1)) rfl rfl rfl z60q) ?_;refine aQ tok 2 rfl ?_;refine AOps.w rfl rfl (o_store tok rfl rfl rfl rfl rfl rfl rfl rfl rfl (by decide) rfl z51q) ?_;refine an ?_;refine ⟨[], trivial, rfl, ?_⟩
  rw [rstep5 ho]
  exact (HSub.put (HSub.put (HSub.put (HSub.put (HSub.put (HSub.none _) rfl) rfl) rfl) rfl) rfl)
 refine acf ?_;refine asr ?_;refine aQ tok 2 rfl ?_;refine an ?_;refine asp 106 (fun hb6 => ?_) fun hb6 => ?_
 ·
  refine act ?_
  have ho : t.op = 6 := by simpa using hb6
  have hxd := h.at (ht.d (by rw [ho]; rfl))
  have hxa := h.at (ht.a (.inl (by rw [ho]; rfl)))
       
  refine asq ?_;refine AGo.draw mix ?_;refine dQ tok 13 rfl ?_;refine dq 121 (q_indexJ tok rfl rfl rfl rfl rfl rfl rfl rfl hxa.1 hxa.2.2.1) ?_;refine dq 122 (q_load tok rfl rfl rfl (ptsJ rfl (valC_get ⟨hxa.1, hxa.2.1⟩)) rfl) ?_;refine dq 123 (q_build tok rfl rfl rfl rfl rfl (by decide) rfl rfl rfl) ?_;refine dx 124 (oct (reffecta_ok R m w h (by omega) ⟨t.op, 0, t.base, t.size, (rget w.regs t.a), 0⟩) [10, 5, 6, 9, 4] [(4, (.row false 1 [[slA 9 ((((w).eff ⟨t.op, 0, t.base, t.size, (rget w.regs t.a), 0⟩).L).map RVal.cells)]])), (9, (slO 9 ((((w).eff ⟨t.op, 0, t.base, t.size, (rget w.regs t.a), 0⟩).L).map RVal.cells))), (6, (.row false 4 [[.ptr 4 1 0 0, slA 5 (valC (((w).eff ⟨t.op, 0, t.base, t.size, (rget w.regs t.a), 0⟩).regs)), slA 10 ((((w).eff ⟨t.op, 0, t.base, t.size, (rget w.regs t.a), 0⟩).out).map REff.cells), .int .i64 (((w).eff ⟨t.op, 0, t.base, t.size, (rget w.regs t.a), 0⟩).time)]])), (5, (slO 1 (valC (((w).eff ⟨t.op, 0, t.base, t.size, (rget w.regs t.a), 0⟩).regs)))), (10, (slO 6 ((((w).eff ⟨t.op, 0, t.base, t.size, (rget w.regs t.a), 0⟩).out).map REff.cells)))] rfl Tryz.func100 (by kernel_rfl) rfl rfl rfl ⟨⟨_, rfl, z37q⟩, ⟨_, rfl, z37q⟩, ⟨_, rfl, z37q⟩, ⟨_, rfl, z37q⟩, ⟨_, rfl, z37q⟩, trivial⟩ rfl (hres_cons rfl (hres_cons rfl (hres_cons rfl (hres_cons rfl (hres_cons rfl (hres_nil _)))))) ⟨⟨_, rfl, rfl, z37q⟩, ⟨_, rfl, rfl, z37q⟩, ⟨_, rfl, rfl, z37q⟩, ⟨_, rfl, rfl, z37q⟩, ⟨_, rfl, rfl, z37q⟩, trivial⟩ rfl) ?_
  refine da 4 ?_;refine DOps.nil (by kernel_rfl) ?_;refine AGo.draw mix ?_;refine dQ tok 11 rfl ?_;refine dq 136 (q_build tok rfl rfl rfl rfl rfl (by decide) rfl rfl rfl) ?_;refine dx 137 (oct (rof_ok w.L (by omega) (runkV w.out.length)) [9, 4] [(4, (.row false 1 [[slA 9 (((rnum w.L (runkV w.out.length)).2).map RVal.cells)]])), (9, (slO 9 (((rnum w.L (runkV w.out.length)).2).map RVal.cells)))] rfl Tryz.func70 (by kernel_rfl) rfl rfl rfl ⟨⟨_, rfl, z37q⟩, ⟨_, rfl, z37q⟩, trivial⟩ rfl (hres_cons rfl (hres_cons rfl (hres_nil _))) ⟨⟨_, rfl, rfl, z37q⟩, ⟨_, rfl, rfl, z37q⟩, trivial⟩ rfl) ?_;refine dq 138 (q_indexJ tok rfl rfl rfl rfl rfl rfl rfl rfl hxd.1 hxd.2.2.1) ?_;refine DOps.w rfl rfl (o_storeJ tok rfl rfl rfl rfl rfl rfl rfl z39q (valC_one _) rfl rfl rfl) ?_;refine DOps.nil (by kernel_rfl) ?_;refine ⟨[], trivial, rfl, ?_⟩
  rw [rstep6 ho]
  exact (HSub.put (HSub.put (HSub.put (HSub.put (HSub.put (HSub.none _) rfl) rfl) (by show _ = some (AObj.row false 4 [[.ptr 4 1 0 0, slA 5 (valC (rset w.regs t.d _)), slA 10 ((w.eff ⟨t.op, 0, t.base, t.size, (rget w.regs t.a), 0⟩).out.map REff.cells), .int .i64 w.time]]); rw [valC_slA]; rfl)) z44q) rfl)
 refine acf ?_;refine asr ?_;refine aQ tok 2 rfl ?_;refine an ?_;refine asp 139 (fun hb7 => ?_) fun hb7 => ?_
 ·
  refine act ?_
  have ho : t.op = 7 := by simpa using hb7
  have hxa := h.at (ht.a (.inr (by rw [ho]; rfl)))
  have hxb := h.at (ht.b (by rw [ho]; rfl))
        
  refine asq ?_;refine AGo.draw mix ?_;refine dQ tok 13 rfl ?_;refine dq 154 (q_indexJ tok rfl rfl rfl rfl rfl rfl rfl rfl hxa.1 hxa.2.2.1) ?_;refine dq 155 (q_load tok rfl rfl rfl (ptsJ rfl (valC_get ⟨hxa.1, hxa.2.1⟩)) rfl) ?_;refine dQ tok 6 rfl ?_;refine dq 162 (q_indexJ tok rfl rfl rfl rfl rfl rfl rfl rfl hxb.1 hxb.2.2.1) ?_;refine dq 163 (q_load tok rfl rfl rfl (ptsJ rfl (valC_get ⟨hxb.1, hxb.2.1⟩)) rfl) ?_;refine dq 164 (q_build tok rfl rfl rfl rfl rfl (by decide) rfl rfl rfl) ?_;refine dx 165 (oct (reffecta_ok R m w h (by omega) ⟨t.op, 0, t.base, t.size, (rget w.regs t.a), (rget w.regs t.b)⟩) [10, 5, 6, 9, 4] [(4, (.row false 1 [[slA 9 ((((w).eff ⟨t.op, 0, t.base, t.size, (rget w.regs t.a), (rget w.regs t.b)⟩).L).map RVal.cells)]])), (9, (slO 9 ((((w).eff ⟨t.op, 0, t.base, t.size, (rget w.regs t.a), (rget w.regs t.b)⟩).L).map RVal.cells))), (6, (.row false 4 [[.ptr 4 1 0 0, slA 5 (valC (((w).eff ⟨t.op, 0, t.base, t.size, (rget w.regs t.a), (rget w.regs t.b)⟩).regs)), slA 10 ((((w).eff ⟨t.op, 0, t.base, t.size, (rget w.regs t.a), (rget w.regs t.b)⟩).out).map REff.cells), .int .i64 (((w).eff ⟨t.op, 0, t.base, t.size, (rget w.regs t.a), (rget w.regs t.b)⟩).time)]])), (5, (slO 1 (valC (((w).eff ⟨t.op, 0, t.base, t.size, (rget w.regs t.a), (rget w.regs t.b)⟩).regs)))), (10, (slO 6 ((((w).eff ⟨t.op, 0, t.base, t.size, (rget w.regs t.a), (rget w.regs t.b)⟩).out).map REff.cells)))] rfl Tryz.func100 (by kernel_rfl) rfl rfl rfl ⟨⟨_, rfl, z37q⟩, ⟨_, rfl, z37q⟩, ⟨_, rfl, z37q⟩, ⟨_, rfl, z37q⟩, ⟨_, rfl, z37q⟩, trivial⟩ rfl (hres_cons rfl (hres_cons rfl (hres_cons rfl (hres_cons rfl (hres_cons rfl (hres_nil _)))))) ⟨⟨_, rfl, rfl, z37q⟩, ⟨_, rfl, rfl, z37q⟩, ⟨_, rfl, rfl, z37q⟩, ⟨_, rfl, rfl, z37q⟩, ⟨_, rfl, rfl, z37q⟩, trivial⟩ rfl) ?_
  refine DOps.nil (by kernel_rfl) ?_;refine agr ?_;refine aQ tok 4 rfl ?_;refine aq 170 (q_bin (r := .int .i64 (w.time + 1)) rfl rfl rfl z60q) ?_;refine aQ tok 2 rfl ?_;refine AOps.w rfl rfl (o_store tok rfl rfl rfl rfl rfl rfl rfl rfl rfl (by decide) rfl z51q) ?_;refine an ?_;refine ⟨[], trivial, rfl, ?_⟩
  rw [rstep7 ho]
  exact (HSub.put (HSub.put (HSub.put (HSub.put (HSub.put (HSub.none _) rfl) rfl) rfl) rfl) rfl)
 refine acf ?_;refine asr ?_;refine aQ tok 2 rfl ?_;refine an ?_;refine asp 173 (fun hb8 => ?_) fun hb8 => ?_
 ·
  refine act ?_
  have ho : t.op = 8 := by simpa using hb8
  have hxd := h.at (ht.d (by rw [ho]; rfl))
         
  refine asr ?_;refine aQ tok 3 rfl ?_;refine aq 178 (q_build tok rfl rfl rfl rfl rfl (by decide) rfl rfl rfl) ?_;refine ax 179 (oct (reffecta_ok R m w h (by omega) ⟨t.op, 0, 0, 0, 0, 0⟩) [10, 5, 6, 9, 4] [(4, (.row false 1 [[slA 9 ((((w).eff ⟨t.op, 0, 0, 0, 0, 0⟩).L).map RVal.cells)]])), (9, (slO 9 ((((w).eff ⟨t.op, 0, 0, 0, 0, 0⟩).L).map RVal.cells))), (6, (.row false 4 [[.ptr 4 1 0 0, slA 5 (valC (((w).eff ⟨t.op, 0, 0, 0, 0, 0⟩).regs)), slA 10 ((((w).eff ⟨t.op, 0, 0, 0, 0, 0⟩).out).map REff.cells), .int .i64 (((w).eff ⟨t.op, 0, 0, 0, 0, 0⟩).time)]])), (5, (slO 1 (valC (((w).eff ⟨t.op, 0, 0, 0, 0, 0⟩).regs)))), (10, (slO 6 ((((w).eff ⟨t.op, 0, 0, 0, 0, 0⟩).out).map REff.cells)))] rfl Tryz.func100 (by kernel_rfl) rfl rfl rfl ⟨⟨_, rfl, z37q⟩, ⟨_, rfl, z37q⟩, ⟨_, rfl, z37q⟩, ⟨_, rfl, z37q⟩, ⟨_, rfl, z37q⟩, trivial⟩ rfl (hres_cons rfl (hres_cons rfl (hres_cons rfl (hres_cons rfl (hres_cons rfl (hres_nil _)))))) ⟨⟨_, rfl, rfl, z37q⟩, ⟨_, rfl, rfl, z37q⟩, ⟨_, rfl, rfl, z37q⟩, ⟨_, rfl, rfl, z37q⟩, ⟨_, rfl, rfl, z37q⟩, trivial⟩ rfl) ?_
  refine aa 5 ?_;refine an ?_;refine AGo.draw mix ?_;refine dQ tok 11 rfl ?_;refine dq 191 (q_build tok rfl rfl rfl rfl rfl (by decide) rfl rfl rfl) ?_;refine dx 192 (oct (rof_ok w.L (by omega) (runkV w.out.length)) [9, 4] [(4, (.row false 1 [[slA 9 (((rnum w.L (runkV w.out.length)).2).map RVal.cells)]])), (9, (slO 9 (((rnum w.L (runkV w.out.length)).2).map RVal.cells)))] rfl Tryz.func70 (by kernel_rfl) rfl rfl rfl ⟨⟨_, rfl, z37q⟩, ⟨_, rfl, z37q⟩, trivial⟩ rfl (hres_cons rfl (hres_cons rfl (hres_nil _))) ⟨⟨_, rfl, rfl, z37q⟩, ⟨_, rfl, rfl, z37q⟩, trivial⟩ rfl) ?_;refine dq 193 (q_indexJ tok rfl rfl rfl rfl rfl rfl rfl rfl hxd.1 hxd.2.2.1) ?_;refine DOps.w rfl rfl (o_storeJ tok rfl rfl rfl rfl rfl rfl rfl z39q (valC_one _) rfl rfl rfl) ?_;refine DOps.nil (by kernel_rfl) ?_;refine ⟨[], trivial, rfl, ?_⟩
  rw [rstep8 ho]
  exact (HSub.put (HSub.put (HSub.put (HSub.put (HSub.put (HSub.none _) rfl) rfl) (by show _ = some (AObj.row false 4 [[.ptr 4 1 0 0, slA 5 (valC (rset w.regs t.d _)), slA 10 ((w.eff ⟨t.op, 0, 0, 0, 0, 0⟩).out.map REff.cells), .int .i64 w.time]]); rw [valC_slA]; rfl)) z44q) rfl)
 refine acf ?_;refine asr ?_;refine aQ tok 2 rfl ?_;refine an ?_;refine asp 194 (fun hb9 => ?_) fun hb9 => ?_
 ·
  refine act ?_
  have ho : t.op = 9 := by simpa using hb9
  have hxa := h.at (ht.a (.inl (by rw [ho]; rfl)))
          
  refine AGo.draw mix ?_;refine dQ tok 9 rfl ?_;refine dq 205 (q_indexJ tok rfl rfl rfl rfl rfl rfl rfl rfl hxa.1 hxa.2.2.1) ?_;refine dq 206 (q_load tok rfl rfl rfl (ptsJ rfl (valC_get ⟨hxa.1, hxa.2.1⟩)) rfl) ?_;refine dq 207 (q_build tok rfl rfl rfl rfl rfl (by decide) rfl rfl rfl) ?_;refine dx 208 (oct (reffecta_ok R m w h (by omega) ⟨t.op, 0, 0, 0, (rget w.regs t.a), 0⟩) [10, 5, 6, 9, 4] [(4, (.row false 1 [[slA 9 ((((w).eff ⟨t.op, 0, 0, 0, (rget w.regs t.a), 0⟩).L).map RVal.cells)]])), (9, (slO 9 ((((w).eff ⟨t.op, 0, 0, 0, (rget w.regs t.a), 0⟩).L).map RVal.cells))), (6, (.row false 4 [[.ptr 4 1 0 0, slA 5 (valC (((w).eff ⟨t.op, 0, 0, 0, (rget w.regs t.a), 0⟩).regs)), slA 10 ((((w).eff ⟨t.op, 0, 0, 0, (rget w.regs t.a), 0⟩).out).map REff.cells), .int .i64 (((w).eff ⟨t.op, 0, 0, 0, (rget w.regs t.a), 0⟩).time)]])), (5, (slO 1 (valC (((w).eff ⟨t.op, 0, 0, 0, (rget w.regs t.a), 0⟩).regs)))), (10, (slO 6 ((((w).eff ⟨t.op, 0, 0, 0, (rget w.regs t.a), 0⟩).out).map REff.cells)))] rfl Tryz.func100 (by kernel_rfl) rfl rfl rfl ⟨⟨_, rfl, z37q⟩, ⟨_, rfl, z37q⟩, ⟨_, rfl, z37q⟩, ⟨_, rfl, z37q⟩, ⟨_, rfl, z37q⟩, trivial⟩ rfl (hres_cons rfl (hres_cons rfl (hres_cons rfl (hres_cons rfl (hres_cons rfl (hres_nil _)))))) ⟨⟨_, rfl, rfl, z37q⟩, ⟨_, rfl, rfl, z37q⟩, ⟨_, rfl, rfl, z37q⟩, ⟨_, rfl, rfl, z37q⟩, ⟨_, rfl, rfl, z37q⟩, trivial⟩ rfl) ?_
  refine DOps.nil (by kernel_rfl) ?_;refine ⟨[], trivial, rfl, ?_⟩
  rw [rstep9 ho]
  exact (HSub.put (HSub.put (HSub.put (HSub.put (HSub.put (HSub.none _) rfl) rfl) rfl) rfl) rfl)
 refine acf ?_;refine asr ?_;refine aQ tok 5 rfl ?_;refine aq 13 (q_build tok rfl rfl rfl rfl rfl (by decide) rfl rfl rfl) ?_;refine ax 14 (oct (reffecta_ok R m w h (by omega) ⟨t.op, 0, t.base, 0, 0, 0⟩) [10, 5, 6, 9, 4] [(4, (.row false 1 [[slA 9 ((((w).eff ⟨t.op, 0, t.base, 0, 0, 0⟩).L).map RVal.cells)]])), (9, (slO 9 ((((w).eff ⟨t.op, 0, t.base, 0, 0, 0⟩).L).map RVal.cells))), (6, (.row false 4 [[.ptr 4 1 0 0, slA 5 (valC (((w).eff ⟨t.op, 0, t.base, 0, 0, 0⟩).regs)), slA 10 ((((w).eff ⟨t.op, 0, t.base, 0, 0, 0⟩).out).map REff.cells), .int .i64 (((w).eff ⟨t.op, 0, t.base, 0, 0, 0⟩).time)]])), (5, (slO 1 (valC (((w).eff ⟨t.op, 0, t.base, 0, 0, 0⟩).regs)))), (10, (slO 6 ((((w).eff ⟨t.op, 0, t.base, 0, 0, 0⟩).out).map REff.cells)))] rfl Tryz.func100 (by kernel_rfl) rfl rfl rfl ⟨⟨_, rfl, z37q⟩, ⟨_, rfl, z37q⟩, ⟨_, rfl, z37q⟩, ⟨_, rfl, z37q⟩, ⟨_, rfl, z37q⟩, trivial⟩ rfl (hres_cons rfl (hres_cons rfl (hres_cons rfl (hres_cons rfl (hres_cons rfl (hres_nil _)))))) ⟨⟨_, rfl, rfl, z37q⟩, ⟨_, rfl, rfl, z37q⟩, ⟨_, rfl, rfl, z37q⟩, ⟨_, rfl, rfl, z37q⟩, ⟨_, rfl, rfl, z37q⟩, trivial⟩ rfl) ?_
 refine an ?_;refine agr ?_;refine aQ tok 4 rfl ?_;refine aq 19 (q_bin (r := .int .i64 (w.time + 1)) rfl rfl rfl z60q) ?_;refine aQ tok 2 rfl ?_;refine AOps.w rfl rfl (o_store tok rfl rfl rfl rfl rfl rfl rfl rfl rfl (by decide) rfl z51q) ?_;refine an ?_;refine ⟨[], trivial, rfl, ?_⟩
 rw [rstep0 hb1 hb2 hb3 hb4 hb5 hb6 hb7 hb8 hb9]
 exact (HSub.put (HSub.put (HSub.put (HSub.put (HSub.put (HSub.none _) rfl) rfl) rfl) rfl) rfl)
theorem througha_ok (R m : Nat) (L : List RVal) (regs : List Int) (b : Block) (h : ROk R m ⟨L, regs, [], 0⟩) (hl : ∀ t ∈ b.ins, TacV t R) (hm : m + 2 * b.ins.length ≤ 80000) : ACall Tryz.prog 71 [.ptr 4 1 0 0, .agg b.cells, slA 5 (valC regs)] (hput (hput (hput (hput (hput hNew 4 (.row false 1 [[slA 9 ((L).map RVal.cells)]])) 9 (slO 9 ((L).map RVal.cells))) 5 (slO 1 (valC regs))) 6 .free) 10 .free) (fun r h' => r = .ptr 6 1 0 0 ∧ HSub (hput (hput (hput (hput (hput hNone 4 (.row false 1 [[slA 9 ((((rrun L regs b.ins)).L).map RVal.cells)]])) 9 (slO 9 ((((rrun L regs b.ins)).L).map RVal.cells))) 6 (.row false 4 [[.ptr 4 1 0 0, slA 5 (valC (((rrun L regs b.ins)).regs)), slA 10 ((((rrun L regs b.ins)).out).map REff.cells), .int .i64 (((rrun L regs b.ins)).time)]])) 5 (slO 1 (valC (((rrun L regs b.ins)).regs)))) 10 (slO 6 ((((rrun L regs b.ins)).out).map REff.cells))) h') := by
 refine ACall.of_body (n := 28) tok Tryz.func71 rfl rfl ?_;refine asr ?_;refine ax 4 (obx 5 12) ?_;refine aa 6 ?_;refine an ?_;refine asr ?_;refine aQ tok 2 rfl ?_;refine aq 11 (q_build tok (ps := [(0, .ptr 4 1 0 0), (1, slA 5 (valC regs))]) (r := [.ptr 4 1 0 0, slA 5 (valC regs), .nil, .int .i64 0]) rfl rfl rfl rfl rfl (by decide) (by simp only [partsFit, slA_cells]; rfl) rfl (by simp only [partCells, slA_cells]; rfl)) ?_;refine ax 12 (o_box (sz := 4) 6 rfl rfl rfl rfl (Nat.zero_lt_succ _) (by simp only [AV.cells, List.all_cons, List.all_nil, slA_cell1]; rfl)) ?_;refine aa 7 ?_;refine an ?_;refine asq ?_;refine asq ?_;refine AGo.ghost (.weakRowF 6 (es' := [[.ptr 4 1 0 0, slA 5 (valC regs), .lst true [], .int .i64 0]]) rfl rfl weakWlk) ?_;refine agr ?_;refine aa 8 ?_;refine an ?_;refine AGo.block ?_;refine AGo.loopD (γ := Nat) 13 (fun k => ⟨28, (eput (eput (eput eNew 4 (.ptr 12 1 0 0)) 7 (.ptr 6 1 0 0)) 8 (.int .i64 (k : Int))), (hput (hput (hput (hput (hput (hput (hFrom 13) 12 (.row false 5 [b.cells])) 4 (.row false 1 [[slA 9 ((((rrun L regs (b.ins.take (k)))).L).map RVal.cells)]])) 9 (slO 9 ((((rrun L regs (b.ins.take (k)))).L).map RVal.cells))) 6 (.row false 4 [[.ptr 4 1 0 0, slA 5 (valC (((rrun L regs (b.ins.take (k)))).regs)), slA 10 ((((rrun L regs (b.ins.take (k)))).out).map REff.cells), .int .i64 (((rrun L regs (b.ins.take (k)))).time)]])) 5 (slO 1 (valC (((rrun L regs (b.ins.take (k)))).regs)))) 10 (slO 6 ((((rrun L regs (b.ins.take (k)))).out).map REff.cells)))⟩) (fun k => k ≤ b.ins.length) (fun k => b.ins.length - k) 0 (Sub.mk' z29q z12q) (Nat.zero_le _) (fun _ => hput_free (hput_free (hput_free (hput_free (hput_free (hput_free (fun b hb => hFrom_free hb) rfl) rfl) rfl) rfl) rfl) rfl) ?_
 intro k hk
 refine asq ?_;refine asr ?_;refine aQ tok 5 rfl ?_;refine an ?_;refine asp 17 (fun hb1 => ?_) fun hb1 => ?_
 ·
  refine act ?_
  have hkl : k < b.ins.length := by have h := hb1; simp only [List.length_map, decide_eq_true_eq] at h; omega
  obtain ⟨t, ht⟩ := get_of_lt hkl
  refine agk ?_;refine asq ?_;refine AGo.block ?_;refine agr ?_;refine aQ tok 4 rfl ?_;refine aq 24 (qil tok (idx_map ht)) ?_;refine al 25 tok ?_;refine ax 26 (oct (rstepa_ok R _ (rrun L regs (b.ins.take (k))) (rrun_okk h hl k) hm t (hl t (List.mem_of_getElem? ht))) [10, 5, 6, 9, 4] [(4, (.row false 1 [[slA 9 (((((rrun L regs (b.ins.take (k))).step t)).L).map RVal.cells)]])), (9, (slO 9 (((((rrun L regs (b.ins.take (k))).step t)).L).map RVal.cells))), (6, (.row false 4 [[.ptr 4 1 0 0, slA 5 (valC ((((rrun L regs (b.ins.take (k))).step t)).regs)), slA 10 (((((rrun L regs (b.ins.take (k))).step t)).out).map REff.cells), .int .i64 ((((rrun L regs (b.ins.take (k))).step t)).time)]])), (5, (slO 1 (valC ((((rrun L regs (b.ins.take (k))).step t)).regs)))), (10, (slO 6 (((((rrun L regs (b.ins.take (k))).step t)).out).map REff.cells)))] rfl Tryz.func92 (by kernel_rfl) rfl rfl rfl ⟨⟨_, rfl, z37q⟩, ⟨_, rfl, z37q⟩, ⟨_, rfl, z37q⟩, ⟨_, rfl, z37q⟩, ⟨_, rfl, z37q⟩, trivial⟩ rfl (hres_cons rfl (hres_cons rfl (hres_cons rfl (hres_cons rfl (hres_cons rfl (hres_nil _)))))) ⟨⟨_, rfl, rfl, z37q⟩, ⟨_, rfl, rfl, z37q⟩, ⟨_, rfl, rfl, z37q⟩, ⟨_, rfl, rfl, z37q⟩, ⟨_, rfl, rfl, z37q⟩, trivial⟩ rfl) ?_
  refine an ?_;refine agr ?_;refine am 18 ?_;refine aq 19 (q_inc rfl rfl hkl (show b.ins.length ≤ maxLen by simp only [maxLen]; omega)) ?_
  refine aa 8 ?_;refine an ?_;exact ⟨k+1, Drop.mk' z31q z17q, hkl, by omega⟩
 refine acf ?_
 have hge : b.ins.length ≤ k := by have h := hb1; simp only [List.length_map, decide_eq_false_iff_not] at h; omega
 rw [rrun_end hge]
 refine AGo.exit ?_;refine asr ?_;refine aQ tok 2 rfl ?_;refine an ?_;refine agt ?_;refine ⟨[_], ⟨rfl, trivial⟩, rfl, ?_⟩
 exact (HSub.put (HSub.put (HSub.put (HSub.put (HSub.put (HSub.none _) rfl) rfl) rfl) rfl) rfl)
theorem rblock_ok (old new : BFunc) (x y : Block) (R : Nat) (c : Cert) (i : Int) (next : List Int) (hreg : old.regs = (R : Int)) (hR : R ≤ 10000) (hx : old.blocks[i.toNat]? = some x) (hy : new.blocks[i.toNat]? = some y) (hc : ∀ r ∈ c.same, r.length = R) (hi : 0 ≤ i ∧ i < c.same.length) (hnx : ∀ k ∈ next, 0 ≤ k ∧ k < c.same.length) (hv : x.fin = 2 → (0 ≤ x.v ∧ x.v < R) ∧ (0 ≤ y.v ∧ y.v < R)) (htx : ∀ t ∈ x.ins, TacV t R) (hty : ∀ t ∈ y.ins, TacV t R) (hlx : x.ins.length ≤ 10000) (hly : y.ins.length ≤ 10000) (hnl : next.length ≤ 100000) : APure Tryz.prog 51 [.agg old.cells, .agg new.cells, .agg c.cells, .int .i64 i, intsAV next] (fun r => r = .bool (rsame R x y c i next)) := by
 obtain ⟨row, hrow⟩ := get_of_lt (l := c.same) (k := i.toNat) (by omega)
 have hat : c.at' i = row := by unfold Cert.at'; rw [hrow]; rfl
 have hrl := hc row (List.mem_of_getElem? hrow)
 have hoa : ROk R (2 * R + 2 * x.ins.length) (rrunA R (c.at' i) x) := rrun_ok (rok_a (c.at' i) R) htx
 have hob : ROk R (2 * R + 2 * x.ins.length + 2 * y.ins.length) (rrunB R (c.at' i) x y) := rrun_ok (rok_b hoa (rfold_mono x.ins)) hty
 refine APure.of_body (n := 177) tok Tryz.func51 rfl rfl ?_;refine asr ?_;refine ax 5 (obx 2 0) ?_;refine ax 6 (obx 2 1) ?_;refine ax 7 (obx 1 2) ?_;refine aa 10 ?_;refine an ?_;refine asr ?_;refine aq 21 (q_build tok rfl rfl rfl rfl rfl (by decide) rfl rfl rfl) ?_;refine ax 22 (obx 1 4) ?_;refine aa 11 ?_;refine an ?_;refine asq ?_;refine AGo.ghost (.weakRowF 4 (es' := [[.lst true []]]) rfl rfl weakNil1) ?_;refine agr ?_;refine aQ tok 2 rfl ?_;refine an ?_;refine asq ?_;refine asq ?_;refine AGo.ghost (.weakSlot 12 (y := .lst true []) rfl (fun _ _ _ => nil_lst)) ?_;refine AGo.ghost (.weakSlot 13 (y := .lst true []) rfl (fun _ _ _ => nil_lst)) ?_;refine agr ?_;refine aa 14 ?_;refine an ?_;refine AGo.block ?_;refine AGo.loopD (γ := Nat) 12 (fun k => ⟨177, (eput (eput (eput (eput (eput (eput (eput (eput (eput eNew 3 (.int .i64 i)) 4 (intsAV next)) 5 (.ptr 0 1 0 0)) 6 (.ptr 1 1 0 0)) 7 (.ptr 2 1 0 0)) 11 (.ptr 4 1 0 0)) 12 (slA 5 (valC (rinit (c.at' i) (k)).xs))) 13 (slA 7 (valC (rinit (c.at' i) (k)).ys))) 14 (.int .i64 (k : Int))), (hput (hput (hput (hput (hput (hput (hput (hput (hput (hput (hput (hFrom 12) 0 (.row false 2 [old.cells])) 1 (.row false 2 [new.cells])) 2 (.row false 1 [c.cells])) 4 (.row false 1 [[slA 9 (((rinit (c.at' i) (k)).L).map RVal.cells)]])) 9 (slO 9 (((rinit (c.at' i) (k)).L).map RVal.cells))) 5 (slO 1 (valC (rinit (c.at' i) (k)).xs))) 7 (slO 1 (valC (rinit (c.at' i) (k)).ys))) 6 .free) 8 .free) 10 .free) 11 .free)⟩) (fun k => k ≤ R) (fun k => R - k) 0 (Sub.mk' (by repeat (first | exact ESub.new _ | refine ESub.put ?_ (by first | rfl))) z12q) (Nat.zero_le _) (fun _ => hput_free (hput_free (hput_free (hput_free (hput_free (hput_free (hput_free (hput_free (hput_free (hput_free (hput_free (fun b hb => hFrom_free hb) rfl) rfl) rfl) rfl) rfl) rfl) rfl) rfl) rfl) rfl) rfl) ?_
 intro k hk
 refine asq ?_;refine asr ?_;refine aQ tok 4 rfl ?_;refine an ?_;refine asp 26 (fun hb1 => ?_) fun hb1 => ?_
 ·
  refine act ?_
  have hkl : k < R := by have h := hb1; rw [hreg] at h; simp only [decide_eq_true_eq] at h; omega
  obtain ⟨bit, hbit⟩ := get_of_lt (l := row) (k := k) (by omega)
  refine agk ?_;refine asq ?_;refine AGo.block ?_;refine asr ?_;refine aQ tok 3 rfl ?_;refine aq 32 (q_build tok rfl rfl rfl rfl rfl (by decide) rfl rfl rfl) ?_;refine ax 33 (oct (rof_ok (rinit (c.at' i) (k)).L (by have h := (rinit_ok (c.at' i) k).kl; first | omega | (have h2 := (rnum_ok (v := RVal.reg k 0) (L := (rinit (c.at' i) (k)).L)).2.1; show (rnum (rinit (c.at' i) (k)).L (RVal.reg k 0)).2.length ≤ _; omega)) (RVal.reg k 0)) [9, 4] [(4, (.row false 1 [[slA 9 (((rnum (rinit (c.at' i) (k)).L (RVal.reg k 0)).2).map RVal.cells)]])), (9, (slO 9 (((rnum (rinit (c.at' i) (k)).L (RVal.reg k 0)).2).map RVal.cells)))] rfl Tryz.func70 (by kernel_rfl) rfl rfl rfl ⟨⟨_, rfl, z37q⟩, ⟨_, rfl, z37q⟩, trivial⟩ rfl (hres_cons rfl (hres_cons rfl (hres_nil _))) ⟨⟨_, rfl, rfl, z37q⟩, ⟨_, rfl, rfl, z37q⟩, trivial⟩ rfl) ?_;refine ax 34 (o_lit' tok rfl rfl rfl rfl rfl rfl (by decide) rfl rfl rfl rfl rfl rfl) ?_
  refine ax 35 (o_append1J tok (b := 5) (es := valC (rinit (c.at' i) (k)).xs) rfl rfl rfl rfl rfl rfl rfl rfl rfl rfl rfl (Nat.zero_lt_succ _) (valC_one _) (valC_pure _) rfl rfl (by rw [valC_len]; have h := (rinit_ok (c.at' i) k).xl; show ((rinit (c.at' i) (k)).xs.length + 1) * 8 ≤ _; omega) (by rw [valC_len]; have h := (rinit_ok (c.at' i) k).xl; simp only [maxLen]; show (rinit (c.at' i) (k)).xs.length + 1 ≤ _; omega)) ?_;refine aa 12 ?_;refine an ?_;refine asr ?_;refine aa 15 ?_;refine an ?_;refine asq ?_;refine asr ?_;refine aQ tok 3 rfl ?_;refine aq 39 (q_index_lst tok rfl rfl rfl rfl rfl rfl hi.1 (by rw [List.getElem?_map, hrow]; rfl) rfl) ?_;refine aQ tok 2 rfl ?_;refine aq 42 (q_index_lst tok rfl rfl rfl rfl rfl rfl (Int.natCast_nonneg _) (idx_map hbit) rfl) ?_;refine al 43 tok ?_;refine an ?_;refine asp 43 (fun hb2 => ?_) fun hb2 => ?_
  ·
   refine act ?_
   have hside : sideR (c.at' i) k = 0 := side_yes (by rw [hat]; exact hbit) hb2
   refine agr ?_;refine aa 15 ?_;refine an ?_;refine agr ?_;refine aQ tok 4 rfl ?_;refine aq 48 (q_build tok rfl rfl rfl rfl rfl (by decide) rfl rfl rfl) ?_;refine ax 49 z0q ?_;refine ax 50 (o_lit' tok rfl rfl rfl rfl rfl rfl (by decide) rfl rfl rfl rfl rfl rfl) ?_;refine ax 51 (o_append1J tok (b := 7) (es := valC (rinit (c.at' i) (k)).ys) rfl rfl rfl rfl rfl rfl rfl rfl rfl rfl rfl (Nat.zero_lt_succ _) (valC_one _) (valC_pure _) rfl rfl (by rw [valC_len]; have h := (rinit_ok (c.at' i) k).yl; show ((rinit (c.at' i) (k)).ys.length + 1) * 8 ≤ _; omega) (by rw [valC_len]; have h := (rinit_ok (c.at' i) k).yl; simp only [maxLen]; show (rinit (c.at' i) (k)).ys.length + 1 ≤ _; omega)) ?_;refine aa 13 ?_;refine an ?_;refine agr ?_;refine am 27 ?_;refine aq 28 (q_inc rfl rfl hkl (show R ≤ maxLen by simp only [maxLen]; omega)) ?_
   refine aa 14 ?_;refine an ?_;exact ⟨k+1, Drop.mk' (by repeat (first | exact EDrop.new _ _ | refine EDrop.put ?_ (by first | rfl | (rw [rinit_succ hside]; exact slA_snocV _ _ _)) z48q)) z14q, hkl, by omega⟩
  refine acf ?_
  have hside : sideR (c.at' i) k = 1 := side_no (by rw [hat]; exact hbit) hb2
  refine agk ?_;refine agr ?_;refine aQ tok 4 rfl ?_;refine aq 48 (q_build tok rfl rfl rfl rfl rfl (by decide) rfl rfl rfl) ?_;refine ax 49 z0q ?_;refine ax 50 (o_lit' tok rfl rfl rfl rfl rfl rfl (by decide) rfl rfl rfl rfl rfl rfl) ?_;refine ax 51 (o_append1J tok (b := 7) (es := valC (rinit (c.at' i) (k)).ys) rfl rfl rfl rfl rfl rfl rfl rfl rfl rfl rfl (Nat.zero_lt_succ _) (valC_one _) (valC_pure _) rfl rfl (by rw [valC_len]; have h := (rinit_ok (c.at' i) k).yl; show ((rinit (c.at' i) (k)).ys.length + 1) * 8 ≤ _; omega) (by rw [valC_len]; have h := (rinit_ok (c.at' i) k).yl; simp only [maxLen]; show (rinit (c.at' i) (k)).ys.length + 1 ≤ _; omega)) ?_;refine aa 13 ?_;refine an ?_;refine agr ?_;refine am 27 ?_;refine aq 28 (q_inc rfl rfl hkl (show R ≤ maxLen by simp only [maxLen]; omega)) ?_
  refine aa 14 ?_;refine an ?_;exact ⟨k+1, Drop.mk' (by repeat (first | exact EDrop.new _ _ | refine EDrop.put ?_ (by first | rfl | (rw [rinit_succ hside]; exact slA_snocV _ _ _)) z48q)) z14q, hkl, by omega⟩
 refine acf ?_
 obtain rfl : R = k := by have h := hb1; rw [hreg] at h; simp only [decide_eq_false_iff_not] at h; omega
 refine AGo.exit ?_;refine asq ?_;refine AGo.draw mix ?_;refine dQ tok 4 rfl ?_;refine dq 56 (q_index_lst tok rfl rfl rfl rfl rfl rfl hi.1 (by rw [List.getElem?_map, hx]; rfl) rfl) ?_;refine dQ tok 2 rfl ?_;refine dx 59 (oct (througha_ok R (2 * R) (rinit (c.at' i) (R)).L (rinit (c.at' i) (R)).xs x (rok_a (c.at' i) R) htx (by omega)) [10, 6, 5, 9, 4] [(4, (.row false 1 [[slA 9 ((((rrunA R (c.at' i) x)).L).map RVal.cells)]])), (9, (slO 9 ((((rrunA R (c.at' i) x)).L).map RVal.cells))), (6, (.row false 4 [[.ptr 4 1 0 0, slA 5 (valC (((rrunA R (c.at' i) x)).regs)), slA 10 ((((rrunA R (c.at' i) x)).out).map REff.cells), .int .i64 (((rrunA R (c.at' i) x)).time)]])), (5, (slO 1 (valC (((rrunA R (c.at' i) x)).regs)))), (10, (slO 6 ((((rrunA R (c.at' i) x)).out).map REff.cells)))] rfl Tryz.func71 (by kernel_rfl) rfl rfl (by simp only [List.all_cons, List.all_nil, slA_avoid _ (show mem [10, 6, 5, 9, 4] 5 = true from rfl)]; rfl) ⟨⟨_, rfl, z37q⟩, ⟨_, rfl, z37q⟩, ⟨_, rfl, z37q⟩, ⟨_, rfl, z37q⟩, ⟨_, rfl, z37q⟩, trivial⟩ rfl (hres_cons rfl (hres_cons rfl (hres_cons rfl (hres_cons rfl (hres_cons rfl (hres_nil _)))))) ⟨⟨_, rfl, rfl, z37q⟩, ⟨_, rfl, rfl, z37q⟩, ⟨_, rfl, rfl, z37q⟩, ⟨_, rfl, rfl, z37q⟩, ⟨_, rfl, rfl, z37q⟩, trivial⟩ rfl) ?_
 refine dQ tok 4 rfl ?_;refine dq 64 (q_index_lst tok rfl rfl rfl rfl rfl rfl hi.1 (by rw [List.getElem?_map, hy]; rfl) rfl) ?_;refine dQ tok 2 rfl ?_;refine dx 67 (oct (throughb_ok R _ (rrunA R (c.at' i) x).L (rinit (c.at' i) (R)).ys y (rok_b hoa (rfold_mono x.ins)) hty (by omega)) [11, 8, 7, 9, 4] [(4, (.row false 1 [[slA 9 ((((rrunB R (c.at' i) x y)).L).map RVal.cells)]])), (9, (slO 9 ((((rrunB R (c.at' i) x y)).L).map RVal.cells))), (8, (.row false 4 [[.ptr 4 1 0 0, slA 7 (valC (((rrunB R (c.at' i) x y)).regs)), slA 11 ((((rrunB R (c.at' i) x y)).out).map REff.cells), .int .i64 (((rrunB R (c.at' i) x y)).time)]])), (7, (slO 1 (valC (((rrunB R (c.at' i) x y)).regs)))), (11, (slO 6 ((((rrunB R (c.at' i) x y)).out).map REff.cells)))] rfl Tryz.func71 (by kernel_rfl) rfl rfl (by simp only [List.all_cons, List.all_nil, slA_avoid _ (show mem [11, 8, 7, 9, 4] 7 = true from rfl)]; rfl) ⟨⟨_, rfl, z37q⟩, ⟨_, rfl, z37q⟩, ⟨_, rfl, z37q⟩, ⟨_, rfl, z37q⟩, ⟨_, rfl, z37q⟩, trivial⟩ rfl (hres_cons rfl (hres_cons rfl (hres_cons rfl (hres_cons rfl (hres_cons rfl (hres_nil _)))))) ⟨⟨_, rfl, rfl, z37q⟩, ⟨_, rfl, rfl, z37q⟩, ⟨_, rfl, rfl, z37q⟩, ⟨_, rfl, rfl, z37q⟩, ⟨_, rfl, rfl, z37q⟩, trivial⟩ rfl) ?_
 refine dQ tok 2 rfl ?_;refine DOps.nil (by kernel_rfl) ?_;refine asq ?_;refine asq ?_;refine AGo.draw mix ?_;refine dQ tok 4 rfl ?_;refine dq 72 (q_lenJ tok rfl rfl rfl rfl) ?_;refine dQ tok 4 rfl ?_;refine dq 77 (q_lenJ tok rfl rfl rfl rfl) ?_;refine dq 78 (q_bin rfl rfl rfl rfl) ?_;refine DOps.nil (by kernel_rfl) ?_;refine asp 78 (fun hb3 => ?_) fun hb3 => ?_
 ·
  refine act ?_
  have hne : ¬ (rrunA R (c.at' i) x).out = (rrunB R (c.at' i) x y).out := fun e => by have h := bne_ne' hb3; rw [List.length_map, List.length_map, e] at h; exact h rfl
  refine asr ?_;refine aa 10 ?_;refine an ?_;refine agt ⟨[_], ⟨rfl, trivial⟩, ?_, rfl⟩
  refine bc ?_;exact (rsame_no1 hne).symm
 refine acf ?_
 have hlen : (rrunA R (c.at' i) x).out.length = (rrunB R (c.at' i) x y).out.length := by have h := bne_eq' hb3; rw [List.length_map, List.length_map] at h; omega
 refine agk ?_;refine asq ?_;refine asr ?_;refine aa 18 ?_;refine an ?_;refine AGo.block ?_;refine AGo.loopD (γ := Nat) 12 (fun k => ⟨177, (eput (eput (eput (eput (eput (eput (eput (eput eNew 3 (.int .i64 i)) 4 (intsAV next)) 5 (.ptr 0 1 0 0)) 6 (.ptr 1 1 0 0)) 7 (.ptr 2 1 0 0)) 16 (.ptr 6 1 0 0)) 17 (.ptr 8 1 0 0)) 18 (.int .i64 (k : Int))), (hput (hput (hput (hput (hput (hput (hput (hput (hput (hput (hput (hFrom 12) 0 (.row false 2 [old.cells])) 1 (.row false 2 [new.cells])) 2 (.row false 1 [c.cells])) 4 (.row false 1 [[slA 9 ((((rrunB R (c.at' i) x y)).L).map RVal.cells)]])) 9 (slO 9 ((((rrunB R (c.at' i) x y)).L).map RVal.cells))) 8 (.row false 4 [[.ptr 4 1 0 0, slA 7 (valC (((rrunB R (c.at' i) x y)).regs)), slA 11 ((((rrunB R (c.at' i) x y)).out).map REff.cells), .int .i64 (((rrunB R (c.at' i) x y)).time)]])) 7 (slO 1 (valC (((rrunB R (c.at' i) x y)).regs)))) 11 (slO 6 ((((rrunB R (c.at' i) x y)).out).map REff.cells))) 6 (.row false 4 [[.ptr 4 1 0 0, slA 5 (valC ((rrunA R (c.at' i) x).regs)), slA 10 (((rrunA R (c.at' i) x).out).map REff.cells), .int .i64 ((rrunA R (c.at' i) x).time)]])) 5 (slO 1 (valC ((rrunA R (c.at' i) x).regs)))) 10 (slO 6 (((rrunA R (c.at' i) x).out).map REff.cells)))⟩) (fun k => k ≤ (rrunA R (c.at' i) x).out.length ∧ (rrunA R (c.at' i) x).out.take k = (rrunB R (c.at' i) x y).out.take k) (fun k => (rrunA R (c.at' i) x).out.length - k) 0 (Sub.mk' z46q z12q) ⟨Nat.zero_le _, rfl⟩ (fun _ => hput_free (hput_free (hput_free (hput_free (hput_free (hput_free (hput_free (hput_free (hput_free (hput_free (hput_free (fun b hb => hFrom_free hb) rfl) rfl) rfl) rfl) rfl) rfl) rfl) rfl) rfl) rfl) rfl) ?_
 intro k ⟨hk, htk⟩
 refine asq ?_;refine asr ?_;refine aQ tok 5 rfl ?_;refine aq 84 (q_lenJ tok rfl rfl rfl rfl) ?_;refine aqb ?_;refine an ?_;refine asp 85 (fun hb4 => ?_) fun hb4 => ?_
 ·
  refine act ?_
  have hkl : k < (rrunA R (c.at' i) x).out.length := by have h := hb4; simp only [List.length_map, decide_eq_true_eq] at h; omega
  obtain ⟨ex, hex⟩ := get_of_lt hkl
  obtain ⟨ey, hey⟩ := get_of_lt (l := (rrunB R (c.at' i) x y).out) (k := k) (by omega)
  refine agk ?_;refine asq ?_;refine AGo.block ?_;refine asq ?_;refine AGo.draw mix ?_;refine dQ tok 5 rfl ?_;refine dq 93 (q_indexJ tok rfl rfl rfl rfl rfl rfl rfl rfl (Int.natCast_nonneg _) (by rw [List.length_map]; omega)) ?_;refine dq 94 (q_load tok rfl rfl rfl (ptsJ rfl (idx_map hex)) rfl) ?_;refine dQ tok 5 rfl ?_;refine dq 100 (q_indexJ tok rfl rfl rfl rfl rfl rfl rfl rfl (Int.natCast_nonneg _) (by rw [List.length_map]; omega)) ?_;refine dq 101 (q_load tok rfl rfl rfl (ptsJ rfl (idx_map hey)) rfl) ?_;refine dq 102 (q_eqStruct tok true rfl rfl rfl (by kernel_rfl) rfl rfl rfl rfl rfl) ?_;refine DOps.nil (by kernel_rfl) ?_;refine asp 102 (fun hb5 => ?_) fun hb5 => ?_
  ·
   refine act ?_
   have hne : ¬ ex = ey := rsame_eff hb5
   refine asr ?_;refine aa 10 ?_;refine an ?_;refine agt ⟨[_], ⟨rfl, trivial⟩, ?_, rfl⟩
   refine bc ?_;exact (rsame_no1 (take_ne hex hey hne)).symm
  refine acf ?_
  obtain rfl : ex = ey := rsame_eff' hb5
  refine agk ?_;refine agr ?_;refine am 86 ?_;refine aq 87 (q_inc rfl rfl hkl (show (rrunA R (c.at' i) x).out.length ≤ maxLen by have := hoa.el; simp only [maxLen]; omega)) ?_
  refine aa 18 ?_;refine an ?_;exact ⟨k+1, Drop.mk' z31q z19q, ⟨hkl, take_eq_succ htk hex hey⟩, by omega⟩
 refine acf ?_
 have hge : (rrunA R (c.at' i) x).out.length ≤ k := by have h := hb4; simp only [List.length_map, decide_eq_false_iff_not] at h; omega
 have hout : (rrunA R (c.at' i) x).out = (rrunB R (c.at' i) x y).out := take_all htk hge (by omega)
 refine AGo.exit ?_;refine asq ?_;refine asq ?_;refine AGo.draw mix ?_;refine dQ tok 3 rfl ?_;refine dq 106 (q_index_lst tok rfl rfl rfl rfl rfl rfl hi.1 (by rw [List.getElem?_map, hx]; rfl) rfl) ?_;refine dQ tok 4 rfl ?_;refine DOps.split 110 rfl (fun hb6 => ?_) (fun hb6 => ?_)
 ·
  have hf2 : x.fin = 2 := by simpa using hb6
  have hxo := hoa.at (hv hf2).1
  have hxn := hob.at (hv hf2).2
  refine dQ tok 7 rfl ?_;refine dq 118 (q_index_lst tok rfl rfl rfl rfl rfl rfl hi.1 (by rw [List.getElem?_map, hx]; rfl) rfl) ?_;refine dQ tok 2 rfl ?_;refine dq 121 (q_indexJ tok rfl rfl rfl rfl rfl rfl rfl rfl hxo.1 hxo.2.2.1) ?_;refine dq 122 (q_load tok rfl rfl rfl (ptsJ rfl (valC_get ⟨hxo.1, hxo.2.1⟩)) rfl) ?_;refine dQ tok 7 rfl ?_;refine dq 130 (q_index_lst tok rfl rfl rfl rfl rfl rfl hi.1 (by rw [List.getElem?_map, hy]; rfl) rfl) ?_;refine dQ tok 2 rfl ?_;refine dq 133 (q_indexJ tok rfl rfl rfl rfl rfl rfl rfl rfl hxn.1 hxn.2.2.1) ?_;refine dq 134 (q_load tok rfl rfl rfl (ptsJ rfl (valC_get ⟨hxn.1, hxn.2.1⟩)) rfl) ?_;refine dQ tok 2 rfl ?_;refine DOps.nil (by kernel_rfl) ?_;refine asp 136 (fun hb7 => ?_) fun hb7 => ?_
  ·
   refine act ?_
   have hvf := hb7
   refine asr ?_;refine aa 10 ?_;refine an ?_;refine agt ⟨[_], ⟨rfl, trivial⟩, ?_, rfl⟩
   refine bc ?_;exact (rsame_no2 hf2 (bne_ne' hvf)).symm
  refine acf ?_
  have hvf := hb7
  refine agk ?_;refine asq ?_;refine asr ?_;refine aa 19 ?_;refine an ?_;refine AGo.block ?_;refine AGo.loopD (γ := Nat) 12 (fun j => ⟨177, (eput (eput (eput (eput (eput (eput (eput (eput eNew 3 (.int .i64 i)) 4 (intsAV next)) 5 (.ptr 0 1 0 0)) 6 (.ptr 1 1 0 0)) 7 (.ptr 2 1 0 0)) 16 (.ptr 6 1 0 0)) 17 (.ptr 8 1 0 0)) 19 (.int .i64 (j : Int))), (hput (hput (hput (hput (hput (hput (hput (hput (hput (hput (hput (hFrom 12) 0 (.row false 2 [old.cells])) 1 (.row false 2 [new.cells])) 2 (.row false 1 [c.cells])) 4 (.row false 1 [[slA 9 ((((rrunB R (c.at' i) x y)).L).map RVal.cells)]])) 9 (slO 9 ((((rrunB R (c.at' i) x y)).L).map RVal.cells))) 8 (.row false 4 [[.ptr 4 1 0 0, slA 7 (valC (((rrunB R (c.at' i) x y)).regs)), slA 11 ((((rrunB R (c.at' i) x y)).out).map REff.cells), .int .i64 (((rrunB R (c.at' i) x y)).time)]])) 7 (slO 1 (valC (((rrunB R (c.at' i) x y)).regs)))) 11 (slO 6 ((((rrunB R (c.at' i) x y)).out).map REff.cells))) 6 (.row false 4 [[.ptr 4 1 0 0, slA 5 (valC ((rrunA R (c.at' i) x).regs)), slA 10 (((rrunA R (c.at' i) x).out).map REff.cells), .int .i64 ((rrunA R (c.at' i) x).time)]])) 5 (slO 1 (valC ((rrunA R (c.at' i) x).regs)))) 10 (slO 6 (((rrunA R (c.at' i) x).out).map REff.cells)))⟩) (fun j => j ≤ next.length ∧ (next.take j).all (fun k => vagree (rrunA R (c.at' i) x).vw (rrunB R (c.at' i) x y).vw (c.at' k)) = true) (fun j => next.length - j) 0 (Sub.mk' z46q z12q) ⟨Nat.zero_le _, rfl⟩ (fun _ => hput_free (hput_free (hput_free (hput_free (hput_free (hput_free (hput_free (hput_free (hput_free (hput_free (hput_free (fun b hb => hFrom_free hb) rfl) rfl) rfl) rfl) rfl) rfl) rfl) rfl) rfl) rfl) rfl) ?_
  intro j ⟨hj, hall⟩
  refine asq ?_;refine asr ?_;refine aQ tok 4 rfl ?_;refine an ?_;refine asp 140 (fun hb8 => ?_) fun hb8 => ?_
  ·
   refine act ?_
   have hjl : j < next.length := by have h := hb8; simp only [List.length_map, decide_eq_true_eq] at h; omega
   obtain ⟨nk, hnk⟩ := get_of_lt hjl
   have hkr := hnx nk (List.mem_of_getElem? hnk)
   obtain ⟨row2, hrow2⟩ := get_of_lt (l := c.same) (k := nk.toNat) (by omega)
   have hat2 : c.at' nk = row2 := by unfold Cert.at'; rw [hrow2]; rfl
   have hrl2 := hc row2 (List.mem_of_getElem? hrow2)
   refine agk ?_;refine asq ?_;refine AGo.block ?_;refine asr ?_;refine aa 20 ?_;refine an ?_;refine AGo.block ?_;refine AGo.loopD (γ := Nat) 12 (fun k => ⟨177, (eput (eput (eput (eput (eput (eput (eput (eput (eput eNew 3 (.int .i64 i)) 4 (intsAV next)) 5 (.ptr 0 1 0 0)) 6 (.ptr 1 1 0 0)) 7 (.ptr 2 1 0 0)) 16 (.ptr 6 1 0 0)) 17 (.ptr 8 1 0 0)) 19 (.int .i64 (j : Int))) 20 (.int .i64 (k : Int))), (hput (hput (hput (hput (hput (hput (hput (hput (hput (hput (hput (hFrom 12) 0 (.row false 2 [old.cells])) 1 (.row false 2 [new.cells])) 2 (.row false 1 [c.cells])) 4 (.row false 1 [[slA 9 ((((rrunB R (c.at' i) x y)).L).map RVal.cells)]])) 9 (slO 9 ((((rrunB R (c.at' i) x y)).L).map RVal.cells))) 8 (.row false 4 [[.ptr 4 1 0 0, slA 7 (valC (((rrunB R (c.at' i) x y)).regs)), slA 11 ((((rrunB R (c.at' i) x y)).out).map REff.cells), .int .i64 (((rrunB R (c.at' i) x y)).time)]])) 7 (slO 1 (valC (((rrunB R (c.at' i) x y)).regs)))) 11 (slO 6 ((((rrunB R (c.at' i) x y)).out).map REff.cells))) 6 (.row false 4 [[.ptr 4 1 0 0, slA 5 (valC ((rrunA R (c.at' i) x).regs)), slA 10 (((rrunA R (c.at' i) x).out).map REff.cells), .int .i64 ((rrunA R (c.at' i) x).time)]])) 5 (slO 1 (valC ((rrunA R (c.at' i) x).regs)))) 10 (slO 6 (((rrunA R (c.at' i) x).out).map REff.cells)))⟩) (fun k => k ≤ R ∧ vagreeTo (rrunA R (c.at' i) x).vw (rrunB R (c.at' i) x y).vw row2 k) (fun k => R - k) 0 (Sub.mk' z46q z12q) ⟨Nat.zero_le _, vagree_zero⟩ (fun _ => hput_free (hput_free (hput_free (hput_free (hput_free (hput_free (hput_free (hput_free (hput_free (hput_free (hput_free (fun b hb => hFrom_free hb) rfl) rfl) rfl) rfl) rfl) rfl) rfl) rfl) rfl) rfl) rfl) ?_
   intro k ⟨hk, hagr⟩
   refine asq ?_;refine asr ?_;refine aQ tok 4 rfl ?_;refine an ?_;refine asp 146 (fun hb9 => ?_) fun hb9 => ?_
   ·
    refine act ?_
    have hkl : k < R := by have h := hb9; rw [hreg] at h; simp only [decide_eq_true_eq] at h; omega
    refine agk ?_;refine asq ?_;refine AGo.block ?_;refine asq ?_;refine AGo.draw mix ?_;refine dQ tok 4 rfl ?_;refine dq 153 (q_index_lst tok rfl rfl rfl rfl rfl rfl (Int.natCast_nonneg _) (idx_map hnk) rfl) ?_;refine dl 154 tok ?_;refine dq 155 (q_index_lst tok rfl rfl rfl rfl rfl rfl hkr.1 (by rw [List.getElem?_map, hrow2]; rfl) rfl) ?_;refine dQ tok 2 rfl ?_
    obtain ⟨must, hmu⟩ := get_of_lt (l := row2) (k := k) (by omega)
    refine dq 158 (q_index_lst tok rfl rfl rfl rfl rfl rfl (Int.natCast_nonneg _) (idx_map hmu) rfl) ?_;refine dQ tok 2 rfl ?_;refine DOps.split 160 rfl (fun hb10 => ?_) (fun hb10 => ?_)
    ·
     have hmt : must = true := by simpa using hb10
     have hxv := hoa.at (z := (k : Int)) (by omega)
     have hyv := hob.at (z := (k : Int)) (by omega)
     refine dQ tok 5 rfl ?_;refine dq 166 (q_indexJ tok rfl rfl rfl rfl rfl rfl rfl rfl hxv.1 hxv.2.2.1) ?_;refine dq 167 (q_load tok rfl rfl rfl (ptsJ rfl (valC_get ⟨hxv.1, hxv.2.1⟩)) rfl) ?_;refine dQ tok 5 rfl ?_;refine dq 173 (q_indexJ tok rfl rfl rfl rfl rfl rfl rfl rfl hyv.1 hyv.2.2.1) ?_;refine dq 174 (q_load tok rfl rfl rfl (ptsJ rfl (valC_get ⟨hyv.1, hyv.2.1⟩)) rfl) ?_;refine dQ tok 2 rfl ?_;refine DOps.nil (by kernel_rfl) ?_;refine asp 176 (fun hb11 => ?_) fun hb11 => ?_
     ·
      refine act ?_
      have hag := hb11
      refine asr ?_;refine aa 10 ?_;refine an ?_;refine agt ⟨[_], ⟨rfl, trivial⟩, ?_, rfl⟩
      refine bc ?_;exact (rsame_no3 hnk (by rw [hat2]; exact vagree_no hmu hmt (bne_ne' hag))).symm
     refine acf ?_
     have hag := hb11
     refine agk ?_;refine agr ?_;refine am 147 ?_;refine aq 148 (q_inc rfl rfl hkl (show R ≤ maxLen by simp only [maxLen]; omega)) ?_
     refine aa 20 ?_;refine an ?_;exact ⟨k+1, Drop.mk' z31q z19q, ⟨hkl, vagree_succ hagr hmu z40q⟩, by omega⟩
    refine dQ tok 16 rfl ?_;refine DOps.nil (by kernel_rfl) ?_;refine acf ?_
    have hag := hb10
    refine agk ?_;refine agr ?_;refine am 147 ?_;refine aq 148 (q_inc rfl rfl hkl (show R ≤ maxLen by simp only [maxLen]; omega)) ?_
    refine aa 20 ?_;refine an ?_;exact ⟨k+1, Drop.mk' z31q z19q, ⟨hkl, vagree_succ hagr hmu z40q⟩, by omega⟩
   refine acf ?_
   have hkge : row2.length ≤ k := by have h := hb9; rw [hreg] at h; simp only [decide_eq_false_iff_not] at h; omega
   refine AGo.exit ?_;refine agr ?_;refine am 141 ?_;refine aq 142 (q_inc rfl rfl hjl (show next.length ≤ maxLen by simp only [maxLen]; omega)) ?_
   refine aa 19 ?_;refine an ?_;exact ⟨j+1, Drop.mk' z31q z19q, ⟨hjl, all_succ hnk hall (by rw [hat2]; exact vagree_end hkge hagr)⟩, by omega⟩
  refine acf ?_
  have hjge : next.length ≤ j := by have h := hb8; simp only [List.length_map, decide_eq_false_iff_not] at h; omega
  refine AGo.exit ?_;refine asr ?_;refine aa 10 ?_;refine an ?_;refine agt ⟨[_], ⟨rfl, trivial⟩, ?_, rfl⟩
  refine bc ?_;exact (rsame_yes hout z38q (all_end hall hjge)).symm
 refine dQ tok 26 rfl ?_;refine DOps.nil (by kernel_rfl) ?_;refine acf ?_
 have hvf := hb6
 refine agk ?_;refine asq ?_;refine asr ?_;refine aa 19 ?_;refine an ?_;refine AGo.block ?_;refine AGo.loopD (γ := Nat) 12 (fun j => ⟨177, (eput (eput (eput (eput (eput (eput (eput (eput eNew 3 (.int .i64 i)) 4 (intsAV next)) 5 (.ptr 0 1 0 0)) 6 (.ptr 1 1 0 0)) 7 (.ptr 2 1 0 0)) 16 (.ptr 6 1 0 0)) 17 (.ptr 8 1 0 0)) 19 (.int .i64 (j : Int))), (hput (hput (hput (hput (hput (hput (hput (hput (hput (hput (hput (hFrom 12) 0 (.row false 2 [old.cells])) 1 (.row false 2 [new.cells])) 2 (.row false 1 [c.cells])) 4 (.row false 1 [[slA 9 ((((rrunB R (c.at' i) x y)).L).map RVal.cells)]])) 9 (slO 9 ((((rrunB R (c.at' i) x y)).L).map RVal.cells))) 8 (.row false 4 [[.ptr 4 1 0 0, slA 7 (valC (((rrunB R (c.at' i) x y)).regs)), slA 11 ((((rrunB R (c.at' i) x y)).out).map REff.cells), .int .i64 (((rrunB R (c.at' i) x y)).time)]])) 7 (slO 1 (valC (((rrunB R (c.at' i) x y)).regs)))) 11 (slO 6 ((((rrunB R (c.at' i) x y)).out).map REff.cells))) 6 (.row false 4 [[.ptr 4 1 0 0, slA 5 (valC ((rrunA R (c.at' i) x).regs)), slA 10 (((rrunA R (c.at' i) x).out).map REff.cells), .int .i64 ((rrunA R (c.at' i) x).time)]])) 5 (slO 1 (valC ((rrunA R (c.at' i) x).regs)))) 10 (slO 6 (((rrunA R (c.at' i) x).out).map REff.cells)))⟩) (fun j => j ≤ next.length ∧ (next.take j).all (fun k => vagree (rrunA R (c.at' i) x).vw (rrunB R (c.at' i) x y).vw (c.at' k)) = true) (fun j => next.length - j) 0 (Sub.mk' z46q z12q) ⟨Nat.zero_le _, rfl⟩ (fun _ => hput_free (hput_free (hput_free (hput_free (hput_free (hput_free (hput_free (hput_free (hput_free (hput_free (hput_free (fun b hb => hFrom_free hb) rfl) rfl) rfl) rfl) rfl) rfl) rfl) rfl) rfl) rfl) rfl) ?_
 intro j ⟨hj, hall⟩
 refine asq ?_;refine asr ?_;refine aQ tok 4 rfl ?_;refine an ?_;refine asp 140 (fun hb12 => ?_) fun hb12 => ?_
 ·
  refine act ?_
  have hjl : j < next.length := by have h := hb12; simp only [List.length_map, decide_eq_true_eq] at h; omega
  obtain ⟨nk, hnk⟩ := get_of_lt hjl
  have hkr := hnx nk (List.mem_of_getElem? hnk)
  obtain ⟨row2, hrow2⟩ := get_of_lt (l := c.same) (k := nk.toNat) (by omega)
  have hat2 : c.at' nk = row2 := by unfold Cert.at'; rw [hrow2]; rfl
  have hrl2 := hc row2 (List.mem_of_getElem? hrow2)
  refine agk ?_;refine asq ?_;refine AGo.block ?_;refine asr ?_;refine aa 20 ?_;refine an ?_;refine AGo.block ?_;refine AGo.loopD (γ := Nat) 12 (fun k => ⟨177, (eput (eput (eput (eput (eput (eput (eput (eput (eput eNew 3 (.int .i64 i)) 4 (intsAV next)) 5 (.ptr 0 1 0 0)) 6 (.ptr 1 1 0 0)) 7 (.ptr 2 1 0 0)) 16 (.ptr 6 1 0 0)) 17 (.ptr 8 1 0 0)) 19 (.int .i64 (j : Int))) 20 (.int .i64 (k : Int))), (hput (hput (hput (hput (hput (hput (hput (hput (hput (hput (hput (hFrom 12) 0 (.row false 2 [old.cells])) 1 (.row false 2 [new.cells])) 2 (.row false 1 [c.cells])) 4 (.row false 1 [[slA 9 ((((rrunB R (c.at' i) x y)).L).map RVal.cells)]])) 9 (slO 9 ((((rrunB R (c.at' i) x y)).L).map RVal.cells))) 8 (.row false 4 [[.ptr 4 1 0 0, slA 7 (valC (((rrunB R (c.at' i) x y)).regs)), slA 11 ((((rrunB R (c.at' i) x y)).out).map REff.cells), .int .i64 (((rrunB R (c.at' i) x y)).time)]])) 7 (slO 1 (valC (((rrunB R (c.at' i) x y)).regs)))) 11 (slO 6 ((((rrunB R (c.at' i) x y)).out).map REff.cells))) 6 (.row false 4 [[.ptr 4 1 0 0, slA 5 (valC ((rrunA R (c.at' i) x).regs)), slA 10 (((rrunA R (c.at' i) x).out).map REff.cells), .int .i64 ((rrunA R (c.at' i) x).time)]])) 5 (slO 1 (valC ((rrunA R (c.at' i) x).regs)))) 10 (slO 6 (((rrunA R (c.at' i) x).out).map REff.cells)))⟩) (fun k => k ≤ R ∧ vagreeTo (rrunA R (c.at' i) x).vw (rrunB R (c.at' i) x y).vw row2 k) (fun k => R - k) 0 (Sub.mk' z46q z12q) ⟨Nat.zero_le _, vagree_zero⟩ (fun _ => hput_free (hput_free (hput_free (hput_free (hput_free (hput_free (hput_free (hput_free (hput_free (hput_free (hput_free (fun b hb => hFrom_free hb) rfl) rfl) rfl) rfl) rfl) rfl) rfl) rfl) rfl) rfl) rfl) ?_
  intro k ⟨hk, hagr⟩
  refine asq ?_;refine asr ?_;refine aQ tok 4 rfl ?_;refine an ?_;refine asp 146 (fun hb13 => ?_) fun hb13 => ?_
  ·
   refine act ?_
   have hkl : k < R := by have h := hb13; rw [hreg] at h; simp only [decide_eq_true_eq] at h; omega
   refine agk ?_;refine asq ?_;refine AGo.block ?_;refine asq ?_;refine AGo.draw mix ?_;refine dQ tok 4 rfl ?_;refine dq 153 (q_index_lst tok rfl rfl rfl rfl rfl rfl (Int.natCast_nonneg _) (idx_map hnk) rfl) ?_;refine dl 154 tok ?_;refine dq 155 (q_index_lst tok rfl rfl rfl rfl rfl rfl hkr.1 (by rw [List.getElem?_map, hrow2]; rfl) rfl) ?_;refine dQ tok 2 rfl ?_
   obtain ⟨must, hmu⟩ := get_of_lt (l := row2) (k := k) (by omega)
   refine dq 158 (q_index_lst tok rfl rfl rfl rfl rfl rfl (Int.natCast_nonneg _) (idx_map hmu) rfl) ?_;refine dQ tok 2 rfl ?_;refine DOps.split 160 rfl (fun hb14 => ?_) (fun hb14 => ?_)
   ·
    have hmt : must = true := by simpa using hb14
    have hxv := hoa.at (z := (k : Int)) (by omega)
    have hyv := hob.at (z := (k : Int)) (by omega)
    refine dQ tok 5 rfl ?_;refine dq 166 (q_indexJ tok rfl rfl rfl rfl rfl rfl rfl rfl hxv.1 hxv.2.2.1) ?_;refine dq 167 (q_load tok rfl rfl rfl (ptsJ rfl (valC_get ⟨hxv.1, hxv.2.1⟩)) rfl) ?_;refine dQ tok 5 rfl ?_;refine dq 173 (q_indexJ tok rfl rfl rfl rfl rfl rfl rfl rfl hyv.1 hyv.2.2.1) ?_;refine dq 174 (q_load tok rfl rfl rfl (ptsJ rfl (valC_get ⟨hyv.1, hyv.2.1⟩)) rfl) ?_;refine dQ tok 2 rfl ?_;refine DOps.nil (by kernel_rfl) ?_;refine asp 176 (fun hb15 => ?_) fun hb15 => ?_
    ·
     refine act ?_
     have hag := hb15
     refine asr ?_;refine aa 10 ?_;refine an ?_;refine agt ⟨[_], ⟨rfl, trivial⟩, ?_, rfl⟩
     refine bc ?_;exact (rsame_no3 hnk (by rw [hat2]; exact vagree_no hmu hmt (bne_ne' hag))).symm
    refine acf ?_
    have hag := hb15
    refine agk ?_;refine agr ?_;refine am 147 ?_;refine aq 148 (q_inc rfl rfl hkl (show R ≤ maxLen by simp only [maxLen]; omega)) ?_
    refine aa 20 ?_;refine an ?_;exact ⟨k+1, Drop.mk' z31q z19q, ⟨hkl, vagree_succ hagr hmu z40q⟩, by omega⟩
   refine dQ tok 16 rfl ?_;refine DOps.nil (by kernel_rfl) ?_;refine acf ?_
   have hag := hb14
   refine agk ?_;refine agr ?_;refine am 147 ?_;refine aq 148 (q_inc rfl rfl hkl (show R ≤ maxLen by simp only [maxLen]; omega)) ?_
   refine aa 20 ?_;refine an ?_;exact ⟨k+1, Drop.mk' z31q z19q, ⟨hkl, vagree_succ hagr hmu z40q⟩, by omega⟩
  refine acf ?_
  have hkge : row2.length ≤ k := by have h := hb13; rw [hreg] at h; simp only [decide_eq_false_iff_not] at h; omega
  refine AGo.exit ?_;refine agr ?_;refine am 141 ?_;refine aq 142 (q_inc rfl rfl hjl (show next.length ≤ maxLen by simp only [maxLen]; omega)) ?_
  refine aa 19 ?_;refine an ?_;exact ⟨j+1, Drop.mk' z31q z19q, ⟨hjl, all_succ hnk hall (by rw [hat2]; exact vagree_end hkge hagr)⟩, by omega⟩
 refine acf ?_
 have hjge : next.length ≤ j := by have h := hb12; simp only [List.length_map, decide_eq_false_iff_not] at h; omega
 refine AGo.exit ?_;refine asr ?_;refine aa 10 ?_;refine an ?_;refine agt ⟨[_], ⟨rfl, trivial⟩, ?_, rfl⟩
 refine bc ?_;exact (rsame_yes hout z38q (all_end hall hjge)).symm
theorem rshape_ok (old new : BFunc) (hno : old.blocks.length ≤ 10000) (hnn : new.blocks.length ≤ 10000) (hio : ∀ x ∈ old.blocks, x.ins.length ≤ 10000 ∧ insW x.ins) (hin : ∀ x ∈ new.blocks, x.ins.length ≤ 10000 ∧ insW x.ins) : APure Tryz.prog 48 [.agg old.cells, .agg new.cells] (fun r => r = .bool (vshaped old new)) := by
 refine APure.of_body (n := 68) tok Tryz.func48 rfl rfl ?_;refine asr ?_;refine ax 2 (obx 2 0) ?_;refine ax 3 (obx 2 1) ?_;refine aa 4 ?_;refine an ?_;refine asq ?_;refine asr ?_;refine al 8 tok ?_;refine ax 9 (opu Tryz.func69 (may_ok old (by omega) (fun x hx => by have := (hio x hx).1; omega))) ?_
 refine aQ tok 2 rfl ?_;refine aop 11 (fun hb1 => ?_) fun hb1 => ?_
 ·
  refine aQ tok 20 rfl ?_;refine an ?_;refine act ?_;refine asr ?_;refine aa 4 ?_;refine an ?_;refine agt ⟨[_], ⟨rfl, trivial⟩, ?_, rfl⟩
  refine bc ?_
  first
  | exact (vshaped_regs (by assumption)).symm
  | exact (vshaped_len' (by assumption)).symm
  | exact (vshaped_s1 (ndec_same' (b := old.stands) (by assumption))).symm
  | exact (vshaped_s2 (ndec_same' (b := new.stands) (by assumption))).symm
 refine al 12 tok ?_;refine ax 13 (opu Tryz.func69 (may_ok new (by omega) (fun x hx => by have := (hin x hx).1; omega))) ?_
 refine aQ tok 3 rfl ?_;refine aop 16 (fun hb2 => ?_) fun hb2 => ?_
 ·
  refine aQ tok 15 rfl ?_;refine an ?_;refine act ?_;refine asr ?_;refine aa 4 ?_;refine an ?_;refine agt ⟨[_], ⟨rfl, trivial⟩, ?_, rfl⟩
  refine bc ?_
  first
  | exact (vshaped_regs (by assumption)).symm
  | exact (vshaped_len' (by assumption)).symm
  | exact (vshaped_s1 (ndec_same' (b := old.stands) (by assumption))).symm
  | exact (vshaped_s2 (ndec_same' (b := new.stands) (by assumption))).symm
 refine aQ tok 7 rfl ?_;refine aop 23 (fun hb3 => ?_) fun hb3 => ?_
 ·
  refine aQ tok 8 rfl ?_;refine an ?_;refine act ?_;refine asr ?_;refine aa 4 ?_;refine an ?_;refine agt ⟨[_], ⟨rfl, trivial⟩, ?_, rfl⟩
  refine bc ?_
  first
  | exact (vshaped_regs (by assumption)).symm
  | exact (vshaped_len' (by assumption)).symm
  | exact (vshaped_s1 (ndec_same' (b := old.stands) (by assumption))).symm
  | exact (vshaped_s2 (ndec_same' (b := new.stands) (by assumption))).symm
 refine aQ tok 8 rfl ?_;refine an ?_;refine asp 31 (fun hb4 => ?_) fun hb4 => ?_
 ·
  refine act ?_;refine asr ?_;refine aa 4 ?_;refine an ?_;refine agt ⟨[_], ⟨rfl, trivial⟩, ?_, rfl⟩
  refine bc ?_
  first
  | exact (vshaped_regs (by assumption)).symm
  | exact (vshaped_len' (by assumption)).symm
  | exact (vshaped_s1 (ndec_same' (b := old.stands) (by assumption))).symm
  | exact (vshaped_s2 (ndec_same' (b := new.stands) (by assumption))).symm
 refine acf ?_
 have hlen := len_eq' (by assumption)
 refine agk ?_;refine asq ?_;refine asr ?_;refine aa 5 ?_;refine an ?_;refine AGo.block ?_;refine AGo.loopD (γ := Nat) 2 (fun k => ⟨68, (eput (eput (eput eNew 2 (.ptr 0 1 0 0)) 3 (.ptr 1 1 0 0)) 5 (.int .i64 (k : Int))), (hput (hput (hFrom 2) 0 (.row false 2 [old.cells])) 1 (.row false 2 [new.cells]))⟩) (fun k => k ≤ old.blocks.length ∧ ((old.blocks.zip new.blocks).take k).all (fun p => shapeB p.1 p.2) = true) (fun k => old.blocks.length - k) 0 (Sub.mk' z29q z12q) ⟨Nat.zero_le _, rfl⟩ (fun _ => hput_free (hput_free (fun b hb => hFrom_free hb) rfl) rfl) ?_
 intro k ⟨hk, hall⟩
 refine asq ?_;refine asr ?_;refine aQ tok 5 rfl ?_;refine an ?_;refine asp 36 (fun hb5 => ?_) fun hb5 => ?_
 ·
  refine act ?_
  have hkl : k < old.blocks.length := by simpa using hb5
  obtain ⟨x, hx⟩ := get_of_lt hkl
  obtain ⟨y, hy⟩ := get_of_lt (l := new.blocks) (k := k) (by omega)
  refine agk ?_;refine asq ?_;refine AGo.block ?_;refine asq ?_;refine AGo.draw mix ?_;refine dQ tok 3 rfl ?_;refine dq 42 (qil tok (idx_map hx)) ?_;refine dQ tok 4 rfl ?_;refine dq 47 (qil tok (idx_map hy)) ?_;refine dl 48 tok ?_;refine dx 6 (oal tok 2) ?_;refine dx 7 (oal tok 3) ?_;refine DOps.w rfl rfl (o_store tok rfl rfl rfl rfl rfl rfl rfl rfl rfl (by decide) rfl z51q) ?_;refine DOps.w rfl rfl (o_store tok rfl rfl rfl rfl rfl rfl rfl rfl rfl (by decide) rfl z51q) ?_;refine DOps.nil (by kernel_rfl) ?_;refine asr ?_;refine aQ tok 6 rfl ?_;refine aop 54 (fun hb6 => ?_) fun hb6 => ?_
  ·
   refine aQ tok 13 rfl ?_;refine an ?_;refine act ?_;refine asr ?_;refine aa 4 ?_;refine an ?_;refine agt ⟨[_], ⟨rfl, trivial⟩, ?_, rfl⟩
   refine bc ?_
   first
   | exact (vshaped_b hx hy (shape_f (by assumption))).symm
   | exact (vshaped_b hx hy (shape_t (by assumption))).symm
   | exact (vshaped_b hx hy (shape_e (by assumption))).symm
  refine aQ tok 7 rfl ?_;refine aop 61 (fun hb7 => ?_) fun hb7 => ?_
  ·
   refine aQ tok 6 rfl ?_;refine an ?_;refine act ?_;refine asr ?_;refine aa 4 ?_;refine an ?_;refine agt ⟨[_], ⟨rfl, trivial⟩, ?_, rfl⟩
   refine bc ?_
   first
   | exact (vshaped_b hx hy (shape_f (by assumption))).symm
   | exact (vshaped_b hx hy (shape_t (by assumption))).symm
   | exact (vshaped_b hx hy (shape_e (by assumption))).symm
  refine aQ tok 6 rfl ?_;refine an ?_;refine asp 67 (fun hb8 => ?_) fun hb8 => ?_
  ·
   refine act ?_;refine asr ?_;refine aa 4 ?_;refine an ?_;refine agt ⟨[_], ⟨rfl, trivial⟩, ?_, rfl⟩
   refine bc ?_
   first
   | exact (vshaped_b hx hy (shape_f (by assumption))).symm
   | exact (vshaped_b hx hy (shape_t (by assumption))).symm
   | exact (vshaped_b hx hy (shape_e (by assumption))).symm
  refine acf ?_;refine agk ?_;refine agr ?_;refine am 37 ?_;refine aq 38 (q_inc rfl rfl hkl (show old.blocks.length ≤ maxLen by simp only [maxLen]; omega)) ?_
  refine aa 5 ?_;refine an ?_;exact ⟨k+1, Drop.mk' z31q z18q, ⟨hkl, all_succ (zip_at hx hy) hall (shape_y (by assumption) (by assumption) (by assumption))⟩, by omega⟩
 refine acf ?_
 have hge : old.blocks.length ≤ k := by simpa using hb5
 refine AGo.exit ?_;refine asr ?_;refine aa 4 ?_;refine an ?_;refine agt ⟨[_], ⟨rfl, trivial⟩, ?_, rfl⟩
 refine bc ?_;exact (vshaped_yes (bne_eq' (by assumption)) hlen (ndec_same (by assumption)) (ndec_same (by assumption)) (all_end hall (by rw [List.length_zip]; omega))).symm
theorem rsized_ok (f : BFunc) (c : Cert) (hcl : c.same.length ≤ 2000000) : APure Tryz.prog 49 [.agg f.cells, .agg c.cells] (fun r => r = .bool (rsized f c)) := by
 refine APure.of_body (n := 29) tok Tryz.func49 rfl rfl ?_;refine asr ?_;refine ax 2 (obx 2 0) ?_;refine ax 3 (obx 1 1) ?_;refine aa 4 ?_;refine an ?_;refine asq ?_;refine asr ?_;refine aQ tok 7 rfl ?_;refine an ?_;refine asp 12 (fun hb1 => ?_) fun hb1 => ?_
 ·
  refine act ?_
  have hne := hb1
  refine asr ?_;refine aa 4 ?_;refine an ?_;refine agt ⟨[_], ⟨rfl, trivial⟩, ?_, rfl⟩
  refine bc ?_;exact (rsized_no1 hne).symm
 refine acf ?_
 have hcl2 := cert_len (old := f) (c := c) hb1
 refine agk ?_;refine asq ?_;refine asr ?_;refine aa 5 ?_;refine an ?_;refine AGo.block ?_;refine AGo.loopD (γ := Nat) 2 (fun j => ⟨29, (eput (eput (eput eNew 2 (.ptr 0 1 0 0)) 3 (.ptr 1 1 0 0)) 5 (.int .i64 (j : Int))), (hput (hput (hFrom 2) 0 (.row false 2 [f.cells])) 1 (.row false 1 [c.cells]))⟩) (fun j => j ≤ c.same.length ∧ (c.same.take j).all (fun r => decide ((r.length : Int) = f.regs)) = true) (fun j => c.same.length - j) 0 (Sub.mk' z29q z12q) ⟨Nat.zero_le _, rfl⟩ (fun _ => hput_free (hput_free (fun b hb => hFrom_free hb) rfl) rfl) ?_
 intro j ⟨hj, hall⟩
 refine asq ?_;refine asr ?_;refine aQ tok 5 rfl ?_;refine an ?_;refine asp 17 (fun hb2 => ?_) fun hb2 => ?_
 ·
  refine act ?_
  have hjl : j < c.same.length := by have h := hb2; simp only [List.length_map, decide_eq_true_eq] at h; omega
  obtain ⟨r, hr⟩ := get_of_lt hjl
  refine agk ?_;refine asq ?_;refine AGo.block ?_;refine asq ?_;refine AGo.draw mix ?_;refine dQ tok 3 rfl ?_;refine dq 23 (qil tok (idx_map hr)) ?_;refine dQ tok 5 rfl ?_;refine DOps.nil (by kernel_rfl) ?_;refine asp 28 (fun hb3 => ?_) fun hb3 => ?_
  ·
   refine act ?_
   have hbad : ¬ (r.length : Int) = f.regs := by have h := bne_ne' hb3; rw [List.length_map] at h; exact h
   refine asr ?_;refine aa 4 ?_;refine an ?_;refine agt ⟨[_], ⟨rfl, trivial⟩, ?_, rfl⟩
   refine bc ?_;exact (rsized_no2 hr hbad).symm
  refine acf ?_
  have heq : (r.length : Int) = f.regs := by have h := bne_eq' hb3; rw [List.length_map] at h; exact h
  refine agk ?_;refine agr ?_;refine am 18 ?_;refine aq 19 (q_inc rfl rfl hjl (show c.same.length ≤ maxLen by simp only [maxLen]; omega)) ?_
  refine aa 5 ?_;refine an ?_;exact ⟨j+1, Drop.mk' z31q z18q, ⟨hjl, all_succ hr hall (decide_eq_true heq)⟩, by omega⟩
 refine acf ?_
 have hjge : c.same.length ≤ j := by have h := hb2; simp only [List.length_map, decide_eq_false_iff_not] at h; omega
 refine AGo.exit ?_;refine asr ?_;refine aa 4 ?_;refine an ?_;refine agt ⟨[_], ⟨rfl, trivial⟩, ?_, rfl⟩
 refine bc ?_;exact (rsized_yes hcl2 (all_end hall hjge)).symm
theorem rcheck_ok (old new : BFunc) (hno : old.blocks.length ≤ 10000) (hnn : new.blocks.length ≤ 10000) (hio : ∀ x ∈ old.blocks, x.ins.length ≤ 10000 ∧ insW x.ins) (hin : ∀ x ∈ new.blocks, x.ins.length ≤ 10000 ∧ insW x.ins) (c : Cert) (hcl0 : c.same.length ≤ 2000000) : APure Tryz.prog 38 [.agg old.cells, .agg new.cells, .agg c.cells] (fun r => r = .bool (rcheck old new c)) := by
 refine APure.of_body (n := 38) tok Tryz.func38 rfl rfl ?_;refine asr ?_;refine ax 3 (obx 2 0) ?_;refine ax 4 (obx 2 1) ?_;refine ax 5 (obx 1 2) ?_;refine aa 6 ?_;refine an ?_;refine asq ?_;refine asr ?_;refine aQ tok 2 rfl ?_;refine ax 11 (opu Tryz.func48 (rshape_ok old new hno hnn hio hin)) ?_;refine aQ tok 2 rfl ?_;refine aop 13 (fun hb1 => ?_) fun hb1 => ?_
 ·
  refine aQ tok 5 rfl ?_;refine an ?_;refine act ?_;refine asr ?_;refine aa 6 ?_;refine an ?_;refine agt ⟨[_], ⟨rfl, trivial⟩, ?_, rfl⟩
  refine bc ?_
  first
  | exact (rcheck_no1 (ndec_same' (b := vshaped old new) (by assumption))).symm
  | exact (rcheck_no2 (ndec_same' (b := rsized old c) (by assumption))).symm
 refine aQ tok 2 rfl ?_;refine ax 16 (opu Tryz.func49 (rsized_ok old c hcl0)) ?_;refine aQ tok 2 rfl ?_;refine an ?_;refine asp 18 (fun hb2 => ?_) fun hb2 => ?_
 ·
  refine act ?_;refine asr ?_;refine aa 6 ?_;refine an ?_;refine agt ⟨[_], ⟨rfl, trivial⟩, ?_, rfl⟩
  refine bc ?_
  first
  | exact (rcheck_no1 (ndec_same' (b := vshaped old new) (by assumption))).symm
  | exact (rcheck_no2 (ndec_same' (b := rsized old c) (by assumption))).symm
 refine acf ?_
 have hsh : vshaped old new = true := ndec_same (by assumption)
 have hsz : rsized old c = true := ndec_same (by assumption)
 obtain ⟨hcl, hall2⟩ := rsized_of hsz
 have hV := vshaped_of hsh
 have hSo := stands_of hV.so
 have hSn := stands_of hV.sn
 have hr0 := hSo.r0
 have hr1 := hSo.r1
 have hR : ((old.regs.toNat : Nat) : Int) = old.regs := Int.toNat_of_nonneg hr0
 have hrl : ∀ r ∈ c.same, r.length = old.regs.toNat := fun r hr => by have := hall2 r hr; omega
 refine agk ?_;refine asr ?_;refine al 19 tok ?_;refine ax 20 (opu Tryz.func50 (rnext_ok old (by omega))) ?_;refine aa 7 ?_;refine an ?_;refine asq ?_;refine asr ?_;refine aa 8 ?_;refine an ?_;refine AGo.block ?_;refine AGo.loopD (γ := Nat) 3 (fun k => ⟨38, (eput (eput (eput (eput (eput eNew 3 (.ptr 0 1 0 0)) 4 (.ptr 1 1 0 0)) 5 (.ptr 2 1 0 0)) 7 (pathsAV old.nexts)) 8 (.int .i64 (k : Int))), (hput (hput (hput (hFrom 3) 0 (.row false 2 [old.cells])) 1 (.row false 2 [new.cells])) 2 (.row false 1 [c.cells]))⟩) (fun k => k ≤ old.blocks.length ∧ ((old.blocks.zip new.blocks).zipIdx.take k).all (fun p => rsame old.regs.toNat p.1.1 p.1.2 c (p.2 : Int) p.1.1.nexts) = true) (fun k => old.blocks.length - k) 0 (Sub.mk' z29q z12q) ⟨Nat.zero_le _, rfl⟩ (fun _ => hput_free (hput_free (hput_free (fun b hb => hFrom_free hb) rfl) rfl) rfl) ?_
 intro k ⟨hk, hallb⟩
 refine asq ?_;refine asr ?_;refine aQ tok 5 rfl ?_;refine an ?_;refine asp 25 (fun hb3 => ?_) fun hb3 => ?_
 ·
  refine act ?_
  have hkl : k < old.blocks.length := by simpa using hb3
  obtain ⟨x, hx⟩ := get_of_lt hkl
  have hxm := List.mem_of_getElem? hx
  obtain ⟨y, hy⟩ := get_of_lt (l := new.blocks) (k := k) (by have := hV.len; omega)
  have hym := List.mem_of_getElem? hy
  have hsb := hV.b k x y hx hy
  have hnx : ∀ q ∈ x.nexts, 0 ≤ q ∧ q < c.same.length := fun q hq => by rw [hcl]; exact hSo.next x hxm q hq
  have hvv : x.fin = 2 → (0 ≤ x.v ∧ x.v < (old.regs.toNat : Int)) ∧ (0 ≤ y.v ∧ y.v < (old.regs.toNat : Int)) := fun hf => by rw [hR]; refine ⟨hSo.v x hxm hf, ?_⟩; rw [hV.regs]; exact hSn.v y hym (by rw [← hsb.1]; exact hf)
  have hto : ∀ t ∈ x.ins, TacV t old.regs.toNat := fun t ht => hSo.tacs x hxm t ht ((hio x hxm).2 t ht)
  have htn : ∀ t ∈ y.ins, TacV t old.regs.toNat := fun t ht => by rw [hV.regs]; exact hSn.tacs y hym t ht ((hin y hym).2 t ht)
  have hnl : x.nexts.length ≤ 100000 := nexts_short x
  refine agk ?_;refine asq ?_;refine AGo.block ?_;refine asq ?_;refine AGo.draw mix ?_
  skip
  refine dQ tok 6 rfl ?_;refine dq 34 (q_index_lst tok rfl rfl rfl rfl rfl rfl (Int.natCast_nonneg _) (idx_map (nexts_get hx)) rfl) ?_;refine dl 35 tok ?_;refine dx 36 (opu Tryz.func51 (rblock_ok old new x y old.regs.toNat c (k : Int) x.nexts hR.symm (by omega) hx hy hrl (by omega) hnx hvv hto htn (hio x (List.mem_of_getElem? hx)).1 (hin y (List.mem_of_getElem? hy)).1 hnl)) ?_;refine dq 37 (q_not rfl rfl) ?_;refine DOps.nil (by kernel_rfl) ?_;refine asp 37 (fun hb4 => ?_) fun hb4 => ?_
  ·
   refine act ?_
   have hbad := ndec_same' hb4
   refine asr ?_;refine aa 6 ?_;refine an ?_;refine agt ⟨[_], ⟨rfl, trivial⟩, ?_, rfl⟩
   refine bc ?_;exact (rcheck_no4 hx hy hbad).symm
  refine acf ?_
  have hgood := ndec_same hb4
  refine agk ?_;refine agr ?_;refine am 26 ?_;refine aq 27 (q_inc rfl rfl hkl (show old.blocks.length ≤ maxLen by simp only [maxLen]; omega)) ?_
  refine aa 8 ?_;refine an ?_;exact ⟨k+1, Drop.mk' z31q z18q, ⟨hkl, all_succ (zipIdx_get (zip_at hx hy)) hallb hgood⟩, by omega⟩
 refine acf ?_
 have hge : old.blocks.length ≤ k := by simpa using hb3
 refine AGo.exit ?_;refine asr ?_;refine aa 6 ?_;refine an ?_;refine agt ⟨[_], ⟨rfl, trivial⟩, ?_, rfl⟩
 refine bc ?_;exact (rcheck_yes hsh hsz (all_end hallb (by rw [List.length_zipIdx, List.length_zip]; omega))).symm
theorem rleads_ok (paths : List (List Int)) (k i : Int) (hpn : ∀ p ∈ paths, p ≠ []) : APure Tryz.prog 68 [pathsAV paths, .int .i64 k, .int .i64 i] (fun r => r = .bool (beginsB paths k i)) := by
 refine APure.of_body (n := 25) tok Tryz.func68 rfl rfl ?_;refine asr ?_;refine aa 6 ?_;refine an ?_;refine asr ?_;refine am 7 ?_;refine aqb ?_;refine am 9 ?_;refine aop 9 (fun hb1 => ?_) fun hb1 => ?_
 ·
  refine am 10 ?_;refine am 11 ?_;refine aq 12 (q_len tok rfl rfl rfl rfl rfl) ?_;refine aqb ?_;refine apt ?_;refine am 15 ?_;refine aop 15 (fun hb2 => ?_) fun hb2 => ?_
  ·
   have hkr : 0 ≤ k ∧ k < paths.length := by simp_all [pathsAV] <;> omega
   have hpk := pathK_get hkr
   have hp0 := headZ_get (hpn _ (List.mem_of_getElem? hpk))
   refine am 16 ?_;refine am 17 ?_;refine aq 18 (q_index_lst tok rfl rfl rfl rfl rfl rfl hkr.1 (idx_mapZ hpk) rfl) ?_;refine al 19 tok ?_;refine aq 20 (q_index_lst tok rfl rfl rfl rfl rfl rfl (by decide) (cs := [.int .i64 (headZ (pathK paths k))]) (by show (List.map (fun b => [AV.int .i64 b]) (pathK paths k))[0]? = _; rw [List.getElem?_map, hp0]; rfl) rfl) ?_;refine al 21 tok ?_;refine am 22 ?_;refine aqb ?_;refine apt ?_;refine aa 6 ?_;refine an ?_;refine agt ⟨[_], ⟨rfl, trivial⟩, ?_, rfl⟩
   refine bc ?_
   first | (simp_all [beginsB, pathsAV]; done) | (simp_all [beginsB, pathsAV]; omega)
  iterate 8 refine ak _ ?_
  refine apf ?_;refine aa 6 ?_;refine an ?_;refine agt ⟨[_], ⟨rfl, trivial⟩, ?_, rfl⟩
  refine bc ?_
  first | (simp_all [beginsB, pathsAV]; done) | (simp_all [beginsB, pathsAV]; omega)
 iterate 4 refine ak _ ?_
 refine apf ?_;refine am 15 ?_
 iterate 8 refine ak _ ?_
 refine apf ?_;refine aa 6 ?_;refine an ?_;refine agt ⟨[_], ⟨rfl, trivial⟩, ?_, rfl⟩
 refine bc ?_
 first | (simp_all [beginsB, pathsAV]; done) | (simp_all [beginsB, pathsAV]; omega)
theorem one33_ok (old : BFunc) (b : Block) (paths : List (List Int)) (p : List Int) (hpn : ∀ p ∈ paths, p ≠ []) (hp : inF old.blocks.length p) (hpl : p.length ≤ 2000000) (hbl : b.ins.length ≤ 1000000000) (hol : ∀ x ∈ old.blocks, x.ins.length ≤ 1000000000) : APure Tryz.prog 47 [.agg old.cells, .agg b.cells, pathsAV paths, intsAV p] (fun r => r = .bool (oneB old b paths p)) := by
 have hpos : 0 < p.length := List.length_pos_iff.2 hp.1
 refine APure.of_body (n := 143) tok Tryz.func47 rfl rfl ?_;refine asr ?_;refine ax 4 (obx 2 0) ?_;refine ax 5 (obx 5 1) ?_;refine aa 8 ?_;refine an ?_;refine asr ?_;refine aa 9 ?_;refine an ?_;refine asq ?_;refine asr ?_;refine aa 10 ?_;refine an ?_;refine AGo.block ?_;refine AGo.loopD (γ := Nat) 2 (fun k => ⟨143, (eput (eput (eput (eput (eput (eput eNew 2 (pathsAV paths)) 3 (intsAV p)) 4 (.ptr 0 1 0 0)) 5 (.ptr 1 1 0 0)) 10 (.int .i64 (k : Int))) 9 (.int .i64 (((old.joined (p.take k)).length : Nat) : Int))), (hput (hput (hFrom 2) 0 (.row false 2 [old.cells])) 1 (.row false 5 [b.cells]))⟩) (fun k => k ≤ p.length ∧ b.ins.take (old.joined (p.take k)).length = old.joined (p.take k) ∧ ((List.range (p.length - 1)).take k).all (okAt old p) = true) (fun k => p.length - k) 0 (Sub.mk' z46q z12q) ⟨Nat.zero_le _, by simp [BFunc.joined], rfl⟩ (fun _ => hput_free (hput_free (fun b hb => hFrom_free hb) rfl) rfl) ?_
 intro k hF
 refine asq ?_;refine asr ?_;refine am 16 ?_;refine am 17 ?_;refine aq 18 (q_len tok rfl rfl rfl rfl rfl) ?_;refine aqb ?_;refine an ?_;refine asp 19 (fun hb1 => ?_) fun hb1 => ?_
 ·
  refine act ?_
  have hkl : k < p.length := lt_of_idx hb1
  obtain ⟨y, hy⟩ := get_of_lt hkl
  have hyr := hp.2 y (List.mem_of_getElem? hy)
  have hyb := blockAt_get hyr
  have hxl := hol _ (List.mem_of_getElem? hyb)
  refine agk ?_;refine asq ?_;refine AGo.block ?_;refine asq ?_;refine AGo.draw mix ?_;refine df 22 tok ?_;refine dl 23 tok ?_;refine dm 24 ?_;refine dm 25 ?_;refine dq 26 (qil tok (idx_map hy)) ?_;refine dl 27 tok ?_;refine dq 28 (q_index_lst tok rfl rfl rfl rfl rfl rfl hyr.1 (idx_mapZ hyb) rfl) ?_;refine dl 29 tok ?_;refine dx 11 (oal tok 2) ?_;refine DOps.w rfl rfl (o_store tok rfl rfl rfl rfl rfl rfl rfl rfl rfl (by decide) rfl z51q) ?_;refine DOps.nil (by kernel_rfl) ?_;refine asq ?_;refine asr ?_;refine aa 12 ?_;refine an ?_;refine AGo.block ?_;refine AGo.loopD (γ := Nat) 3 (fun j => ⟨143, (eput (eput (eput (eput (eput (eput (eput (eput eNew 2 (pathsAV paths)) 3 (intsAV p)) 4 (.ptr 0 1 0 0)) 5 (.ptr 1 1 0 0)) 10 (.int .i64 (k : Int))) 9 (.int .i64 (((old.joined (p.take k)).length + j : Nat) : Int))) 11 (.ptr 2 1 0 0)) 12 (.int .i64 (j : Int))), (hput (hput (hput (hFrom 3) 0 (.row false 2 [old.cells])) 1 (.row false 5 [b.cells])) 2 (.row false 5 [(old.blockAt y).cells]))⟩) (fun j => j ≤ (old.blockAt y).ins.length ∧ b.ins.take ((old.joined (p.take k)).length + j) = old.joined (p.take k) ++ (old.blockAt y).ins.take j) (fun j => (old.blockAt y).ins.length - j) 0 (Sub.mk' z46q z12q) ⟨Nat.zero_le _, by rw [Nat.add_zero, List.take_zero, List.append_nil]; exact hF.2.1⟩ (fun _ => hput_free (hput_free (hput_free (fun b hb => hFrom_free hb) rfl) rfl) rfl) ?_
  intro j hG
  refine asq ?_;refine asr ?_;refine am 30 ?_;refine af 31 tok ?_;refine al 32 tok ?_;refine aq 33 (q_len tok rfl rfl rfl rfl rfl) ?_;refine aqb ?_;refine an ?_;refine asp 34 (fun hb2 => ?_) fun hb2 => ?_
  ·
   refine act ?_
   have hjl : j < (old.blockAt y).ins.length := lt_of_idx hb2
   obtain ⟨u, hu⟩ := get_of_lt hjl
   have hbnd : (old.joined (p.take k)).length + j ≤ b.ins.length := by
     have h := congrArg List.length hG.2
     rw [List.length_take, List.length_append, List.length_take] at h
     omega
   refine agk ?_;refine asq ?_;refine AGo.block ?_;refine asq ?_;refine asq ?_;refine AGo.draw mix ?_;refine dm 37 ?_;refine df 38 tok ?_;refine dl 39 tok ?_;refine dq 40 (q_len tok rfl rfl rfl rfl rfl) ?_;refine dq 41 (q_bin rfl rfl rfl rfl) ?_;refine dm 42 ?_;refine DOps.split 42 rfl (fun hb3 => ?_) (fun hb3 => ?_)
   ·
    refine dk 43 ?_;refine dk 44 ?_;refine dk 45 ?_;refine dk 46 ?_;refine dk 47 ?_;refine dk 48 ?_;refine dk 49 ?_;refine dk 50 ?_;refine dk 51 ?_;refine dk 52 ?_;refine dk 53 ?_;refine dq 54 (q_pick_true true rfl rfl rfl rfl) ?_;refine DOps.nil (by kernel_rfl) ?_;refine act ?_;refine asr ?_;refine aa 8 ?_;refine an ?_;refine agt ⟨[_], ⟨rfl, trivial⟩, ?_, rfl⟩
    refine bc ?_
    first | exact (one_false (one_fail2 hy hu hv (by simpa using (show (bif true then !decide (v = u) else decide (v = u)) = true from ‹_›)))).symm | exact (one_false (one_fail1 hy hjl (by have h := ‹decide ((((old.joined (p.take k)).length + j : Nat) : Int) ≥ _) = true›; simp at h; omega))).symm
   have hnb : (old.joined (p.take k)).length + j < b.ins.length := by have h := hb3; simp at h; omega
   obtain ⟨v, hv⟩ := get_of_lt hnb
   refine df 43 tok ?_;refine dl 44 tok ?_;refine dm 45 ?_;refine dq 46 (qil tok (idx_map hv)) ?_;refine dl 47 tok ?_;refine df 48 tok ?_;refine dl 49 tok ?_;refine dm 50 ?_;refine dq 51 (qil tok (idx_map hu)) ?_;refine dl 52 tok ?_;refine dq 53 (q_eqStruct tok true rfl rfl rfl (by kernel_rfl) rfl rfl rfl rfl (Tac.eqCells v u)) ?_;refine dq 54 (q_pick_false false rfl rfl rfl rfl) ?_;refine DOps.nil (by kernel_rfl) ?_;refine asp 54 (fun hb4 => ?_) fun hb4 => ?_
   ·
    refine act ?_;refine asr ?_;refine aa 8 ?_;refine an ?_;refine agt ⟨[_], ⟨rfl, trivial⟩, ?_, rfl⟩
    refine bc ?_
    first | exact (one_false (one_fail2 hy hu hv (by simpa using (show (bif true then !decide (v = u) else decide (v = u)) = true from ‹_›)))).symm | exact (one_false (one_fail1 hy hjl (by have h := ‹decide ((((old.joined (p.take k)).length + j : Nat) : Int) ≥ _) = true›; simp at h; omega))).symm
   refine acf ?_
   have huv : v = u := by have h := hb4; simpa using h
   refine agk ?_;refine agr ?_;refine am 55 ?_;refine aq 56 (q_inc rfl rfl hnb (by simp only [maxLen]; omega)) ?_;refine aa 9 ?_;refine an ?_;refine agr ?_;refine am 35 ?_;refine aq 36 (q_inc rfl rfl hjl (by simp only [maxLen]; omega)) ?_;refine aa 12 ?_;refine an ?_;exact ⟨j+1, Drop.mk' z31q z18q, ⟨hjl, take_push hG.2 hu (huv ▸ hv)⟩, by omega⟩
  refine acf ?_
  have hge2 := ge_of_idx hb2
  have htb := take_block hy hG.2 (by have := hG.1; omega)
  refine AGo.exit ?_;refine asq ?_;refine AGo.draw mix ?_;refine dm 57 ?_;refine dq 58 (q_inc rfl rfl hkl (by simp only [maxLen]; omega)) ?_;refine dm 59 ?_;refine dq 60 (q_len tok rfl rfl rfl rfl rfl) ?_;refine dq 61 (q_bin rfl rfl rfl rfl) ?_;refine dm 62 ?_;refine DOps.split 62 rfl (fun hb5 => ?_) (fun hb5 => ?_)
  ·
   have hk1 : k < p.length - 1 := by have h := hb5; simp at h; omega
   obtain ⟨z, hz⟩ := get_of_lt (l := p) (k := k + 1) (by omega)
   have hat : okAt old p k = ((old.blockAt y).fin == 1 && (old.blockAt y).to == z) := by rw [okAt, iget_get hy, iget_get hz]
   refine df 63 tok ?_;refine dl 64 tok ?_;refine dq 65 (q_bin rfl rfl rfl rfl) ?_;refine dm 66 ?_;refine DOps.split 66 rfl (fun hb6 => ?_) (fun hb6 => ?_)
   ·
    refine dk 67 ?_;refine dk 68 ?_;refine dk 69 ?_;refine dk 70 ?_;refine dk 71 ?_;refine dk 72 ?_;refine dk 73 ?_;refine dk 74 ?_;refine dq 75 (q_pick_true true rfl rfl rfl rfl) ?_;refine dq 76 (q_pick_true true rfl rfl rfl rfl) ?_;refine DOps.nil (by kernel_rfl) ?_;refine act ?_;refine asr ?_;refine aa 8 ?_;refine an ?_;refine agt ⟨[_], ⟨rfl, trivial⟩, ?_, rfl⟩
    refine bc ?_;exact (one_false2 (all_bad (range_get hk1) (by rw [hat]; simp_all))).symm
   refine df 67 tok ?_;refine dl 68 tok ?_;refine dm 69 ?_;refine dm 70 ?_;refine dq 71 (q_inc rfl rfl hkl (by simp only [maxLen]; omega)) ?_;refine dq 72 (q_index_lst tok rfl rfl rfl rfl rfl rfl (Int.natCast_nonneg _) (cs := [.int .i64 z]) (by rw [Int.toNat_natCast]; show (List.map (fun b => [AV.int .i64 b]) p)[k + 1]? = _; rw [List.getElem?_map, hz]; rfl) rfl) ?_;refine dl 73 tok ?_;refine dq 74 (q_bin rfl rfl rfl rfl) ?_;refine dq 75 (q_pick_false false rfl rfl rfl rfl) ?_;refine dq 76 (q_pick_true true rfl rfl rfl rfl) ?_;refine DOps.nil (by kernel_rfl) ?_;refine asp 76 (fun hb7 => ?_) fun hb7 => ?_
   ·
    refine act ?_;refine asr ?_;refine aa 8 ?_;refine an ?_;refine agt ⟨[_], ⟨rfl, trivial⟩, ?_, rfl⟩
    refine bc ?_;exact (one_false2 (all_bad (range_get hk1) (by rw [hat]; simp_all))).symm
   refine acf ?_;refine agk ?_;refine agr ?_;refine am 20 ?_;refine aq 21 (q_inc rfl rfl hkl (by simp only [maxLen]; omega)) ?_;refine aa 10 ?_;refine an ?_;exact ⟨k+1, Drop.mk' (by repeat (first | exact EDrop.new _ _ | refine EDrop.put ?_ (by first | rfl | exact congrArg (fun (n : Nat) => some (AV.int .i64 (n : Int))) htb.1) z48q)) z18q, ⟨hkl, htb.2, okAll_next hF.2.2 (fun hk1 => by first | (simp_all; done) | (exfalso; simp_all; omega) | (simp_all; omega))⟩, by omega⟩
  refine dk 63 ?_;refine dk 64 ?_;refine dk 65 ?_;refine dk 66 ?_;refine dk 67 ?_;refine dk 68 ?_;refine dk 69 ?_;refine dk 70 ?_;refine dk 71 ?_;refine dk 72 ?_;refine dk 73 ?_;refine dk 74 ?_;refine dk 75 ?_;refine dq 76 (q_pick_false false rfl rfl rfl rfl) ?_;refine DOps.nil (by kernel_rfl) ?_;refine acf ?_;refine agk ?_;refine agr ?_;refine am 20 ?_;refine aq 21 (q_inc rfl rfl hkl (by simp only [maxLen]; omega)) ?_;refine aa 10 ?_;refine an ?_;exact ⟨k+1, Drop.mk' (by repeat (first | exact EDrop.new _ _ | refine EDrop.put ?_ (by first | rfl | exact congrArg (fun (n : Nat) => some (AV.int .i64 (n : Int))) htb.1) z48q)) z18q, ⟨hkl, htb.2, okAll_next hF.2.2 (fun hk1 => by first | (simp_all; done) | (exfalso; simp_all; omega) | (simp_all; omega))⟩, by omega⟩
 refine acf ?_
 have hge := ge_of_idx hb1
 obtain rfl : k = p.length := by have := hF.1; omega
 have hall : followsB old p = true := all_end hF.2.2 (by simp)
 have hmd := made_endI (f := old) (b := b.ins) (p := p) (by have h := hF.2.1; rwa [List.take_of_length_le (Nat.le_refl _)] at h)
 have hjp : List.take p.length p = p := List.take_of_length_le (Nat.le_refl _)
 rw [hjp]
 have hlast := hp.2 _ (last_mem hp.1)
 refine AGo.exit ?_;refine asq ?_;refine AGo.draw mix ?_;refine df 77 tok ?_;refine dl 78 tok ?_;refine dm 79 ?_;refine dm 80 ?_;refine dq 81 (q_len tok rfl rfl rfl rfl rfl) ?_;refine dq 82 (q_bin (r := .int .i64 ((p.length - 1 : Nat) : Int)) rfl rfl rfl (by rw [List.length_map]; exact len_pred hpos (by omega))) ?_;refine dq 83 (q_index_lst tok rfl rfl rfl rfl rfl rfl (Int.natCast_nonneg _) (cs := [.int .i64 (lastOf p)]) (by show (List.map (fun b => [AV.int .i64 b]) p)[_]? = _; rw [Int.toNat_natCast, List.getElem?_map, last_get hp.1]; rfl) rfl) ?_;refine dl 84 tok ?_;refine dq 85 (q_index_lst tok rfl rfl rfl rfl rfl rfl hlast.1 (idx_mapZ (blockAt_get hlast)) rfl) ?_;refine dl 86 tok ?_;refine dx 13 (oal tok 2) ?_;refine DOps.w rfl rfl (o_store tok rfl rfl rfl rfl rfl rfl rfl rfl rfl (by decide) rfl z51q) ?_;refine DOps.nil (by kernel_rfl) ?_;refine asq ?_;refine asr ?_;refine am 87 ?_;refine af 88 tok ?_
 refine al 89 tok ?_;refine aq 90 (q_len tok rfl rfl rfl rfl rfl) ?_;refine aqb ?_;refine am 92 ?_;refine aop 92 (fun hb8 => ?_) fun hb8 => ?_
 ·
  iterate 5 refine ak _ ?_
  refine apt ?_;refine am 99 ?_
  iterate 5 refine ak _ ?_
  refine apt ?_;refine an ?_;refine act ?_;refine asr ?_;refine aa 8 ?_;refine an ?_;refine agt ⟨[_], ⟨rfl, trivial⟩, ?_, rfl⟩
  refine bc ?_
  first | exact (one_false (by rw [hmd, show ((((old.joined p).length : Nat) : Int) != (((b.ins.map Tac.cells).length : Nat) : Int)) = true from ‹_›]; rfl)).symm | (rw [one_true hall (by rw [hmd, show ((((old.joined p).length : Nat) : Int) != (((b.ins.map Tac.cells).length : Nat) : Int)) = false from ‹_›]; rfl)]; simp only [leadsB, leadsTo, leadsEl, *, cond_true, cond_false, Bool.not_true, Bool.not_false, Bool.true_and, Bool.false_and, Bool.and_true, Bool.and_false, Bool.true_or, Bool.or_true, Bool.false_or, Bool.or_false])
 refine af 93 tok ?_;refine al 94 tok ?_;refine af 95 tok ?_;refine al 96 tok ?_;refine aqb ?_;refine apf ?_;refine am 99 ?_;refine aop 99 (fun hb9 => ?_) fun hb9 => ?_
 ·
  iterate 5 refine ak _ ?_
  refine apt ?_;refine an ?_;refine act ?_;refine asr ?_;refine aa 8 ?_;refine an ?_;refine agt ⟨[_], ⟨rfl, trivial⟩, ?_, rfl⟩
  refine bc ?_
  first | exact (one_false (by rw [hmd, show ((((old.joined p).length : Nat) : Int) != (((b.ins.map Tac.cells).length : Nat) : Int)) = true from ‹_›]; rfl)).symm | (rw [one_true hall (by rw [hmd, show ((((old.joined p).length : Nat) : Int) != (((b.ins.map Tac.cells).length : Nat) : Int)) = false from ‹_›]; rfl)]; simp only [leadsB, leadsTo, leadsEl, *, cond_true, cond_false, Bool.not_true, Bool.not_false, Bool.true_and, Bool.false_and, Bool.and_true, Bool.and_false, Bool.true_or, Bool.or_true, Bool.false_or, Bool.or_false])
 refine af 100 tok ?_;refine al 101 tok ?_;refine af 102 tok ?_;refine al 103 tok ?_;refine aqb ?_;refine apf ?_;refine an ?_;refine asp 105 (fun hb10 => ?_) fun hb10 => ?_
 ·
  refine act ?_;refine asr ?_;refine aa 8 ?_;refine an ?_;refine agt ⟨[_], ⟨rfl, trivial⟩, ?_, rfl⟩
  refine bc ?_
  first | exact (one_false (by rw [hmd, show ((((old.joined p).length : Nat) : Int) != (((b.ins.map Tac.cells).length : Nat) : Int)) = true from ‹_›]; rfl)).symm | (rw [one_true hall (by rw [hmd, show ((((old.joined p).length : Nat) : Int) != (((b.ins.map Tac.cells).length : Nat) : Int)) = false from ‹_›]; rfl)]; simp only [leadsB, leadsTo, leadsEl, *, cond_true, cond_false, Bool.not_true, Bool.not_false, Bool.true_and, Bool.false_and, Bool.and_true, Bool.and_false, Bool.true_or, Bool.or_true, Bool.false_or, Bool.or_false])
 refine acf ?_;refine agk ?_;refine asr ?_;refine af 106 tok ?_;refine al 107 tok ?_;refine af 108 tok ?_;refine al 109 tok ?_;refine aqb ?_;refine aa 14 ?_;refine an ?_;refine asq ?_;refine asr ?_;refine af 111 tok ?_;refine al 112 tok ?_;refine aqb ?_;refine am 114 ?_;refine aop 114 (fun hb11 => ?_) fun hb11 => ?_
 ·
  iterate 3 refine ak _ ?_
  refine apt ?_;refine an ?_;refine act ?_;refine agr ?_;refine am 119 ?_;refine af 120 tok ?_;refine al 121 tok ?_;refine af 122 tok ?_;refine al 123 tok ?_;refine ax 124 (opu Tryz.func68 (rleads_ok _ _ _ hpn)) ?_;refine aa 14 ?_;refine an ?_;refine asr ?_;refine af 125 tok ?_;refine al 126 tok ?_;refine af 127 tok ?_;refine al 128 tok ?_;refine aqb ?_;refine aa 15 ?_;refine an ?_;refine asq ?_;refine asr ?_;refine af 130 tok ?_;refine al 131 tok ?_;refine aqb ?_;refine an ?_;refine asp 132 (fun hb12 => ?_) fun hb12 => ?_
  ·
   refine act ?_;refine agr ?_;refine am 133 ?_;refine af 134 tok ?_;refine al 135 tok ?_;refine af 136 tok ?_;refine al 137 tok ?_;refine ax 138 (opu Tryz.func68 (rleads_ok _ _ _ hpn)) ?_;refine aa 15 ?_;refine an ?_;refine asr ?_;refine am 139 ?_;refine am 140 ?_;refine aop 140 (fun hb13 => ?_) fun hb13 => ?_
   ·
    refine am 141 ?_;refine apt ?_;refine aa 8 ?_;refine an ?_;refine agt ?_
    first
    | exact absurd (show (b.fin == 2) = true from ‹_›) z53q
    | (refine ⟨[_], ⟨rfl, trivial⟩, ?_, rfl⟩
       refine bc ?_
       rw [one_true hall (by rw [hmd, show ((((old.joined p).length : Nat) : Int) != (((b.ins.map Tac.cells).length : Nat) : Int)) = false from ‹_›]; rfl)]
       simp only [leadsB, leadsTo, leadsEl, *, cond_true, cond_false, Bool.not_true, Bool.not_false, Bool.true_and, Bool.false_and, Bool.and_true, Bool.and_false, Bool.true_or, Bool.or_true, Bool.false_or, Bool.or_false])
   refine ak 141 ?_;refine apf ?_;refine aa 8 ?_;refine an ?_;refine agt ?_
   first
   | exact absurd (show (b.fin == 2) = true from ‹_›) z53q
   | (refine ⟨[_], ⟨rfl, trivial⟩, ?_, rfl⟩
      refine bc ?_
      rw [one_true hall (by rw [hmd, show ((((old.joined p).length : Nat) : Int) != (((b.ins.map Tac.cells).length : Nat) : Int)) = false from ‹_›]; rfl)]
      simp only [leadsB, leadsTo, leadsEl, *, cond_true, cond_false, Bool.not_true, Bool.not_false, Bool.true_and, Bool.false_and, Bool.and_true, Bool.and_false, Bool.true_or, Bool.or_true, Bool.false_or, Bool.or_false])
  refine acf ?_;refine agk ?_;refine asr ?_;refine am 139 ?_;refine am 140 ?_;refine aop 140 (fun hb14 => ?_) fun hb14 => ?_
  ·
   refine am 141 ?_;refine apt ?_;refine aa 8 ?_;refine an ?_;refine agt ?_
   first
   | exact absurd (show (b.fin == 2) = true from ‹_›) z53q
   | (refine ⟨[_], ⟨rfl, trivial⟩, ?_, rfl⟩
      refine bc ?_
      rw [one_true hall (by rw [hmd, show ((((old.joined p).length : Nat) : Int) != (((b.ins.map Tac.cells).length : Nat) : Int)) = false from ‹_›]; rfl)]
      simp only [leadsB, leadsTo, leadsEl, *, cond_true, cond_false, Bool.not_true, Bool.not_false, Bool.true_and, Bool.false_and, Bool.and_true, Bool.and_false, Bool.true_or, Bool.or_true, Bool.false_or, Bool.or_false])
  refine ak 141 ?_;refine apf ?_;refine aa 8 ?_;refine an ?_;refine agt ?_
  first
  | exact absurd (show (b.fin == 2) = true from ‹_›) z53q
  | (refine ⟨[_], ⟨rfl, trivial⟩, ?_, rfl⟩
     refine bc ?_
     rw [one_true hall (by rw [hmd, show ((((old.joined p).length : Nat) : Int) != (((b.ins.map Tac.cells).length : Nat) : Int)) = false from ‹_›]; rfl)]
     simp only [leadsB, leadsTo, leadsEl, *, cond_true, cond_false, Bool.not_true, Bool.not_false, Bool.true_and, Bool.false_and, Bool.and_true, Bool.and_false, Bool.true_or, Bool.or_true, Bool.false_or, Bool.or_false])
 refine af 115 tok ?_;refine al 116 tok ?_;refine aqb ?_;refine apf ?_;refine an ?_;refine asp 118 (fun hb15 => ?_) fun hb15 => ?_
 ·
  refine act ?_;refine agr ?_;refine am 119 ?_;refine af 120 tok ?_;refine al 121 tok ?_;refine af 122 tok ?_;refine al 123 tok ?_;refine ax 124 (opu Tryz.func68 (rleads_ok _ _ _ hpn)) ?_;refine aa 14 ?_;refine an ?_;refine asr ?_;refine af 125 tok ?_;refine al 126 tok ?_;refine af 127 tok ?_;refine al 128 tok ?_;refine aqb ?_;refine aa 15 ?_;refine an ?_;refine asq ?_;refine asr ?_;refine af 130 tok ?_;refine al 131 tok ?_;refine aqb ?_;refine an ?_;refine asp 132 (fun hb16 => ?_) fun hb16 => ?_
  ·
   refine act ?_;refine agr ?_;refine am 133 ?_;refine af 134 tok ?_;refine al 135 tok ?_;refine af 136 tok ?_;refine al 137 tok ?_;refine ax 138 (opu Tryz.func68 (rleads_ok _ _ _ hpn)) ?_;refine aa 15 ?_;refine an ?_;refine asr ?_;refine am 139 ?_;refine am 140 ?_;refine aop 140 (fun hb17 => ?_) fun hb17 => ?_
   ·
    refine am 141 ?_;refine apt ?_;refine aa 8 ?_;refine an ?_;refine agt ?_
    first
    | exact absurd (show (b.fin == 2) = true from ‹_›) z53q
    | (refine ⟨[_], ⟨rfl, trivial⟩, ?_, rfl⟩
       refine bc ?_
       rw [one_true hall (by rw [hmd, show ((((old.joined p).length : Nat) : Int) != (((b.ins.map Tac.cells).length : Nat) : Int)) = false from ‹_›]; rfl)]
       simp only [leadsB, leadsTo, leadsEl, *, cond_true, cond_false, Bool.not_true, Bool.not_false, Bool.true_and, Bool.false_and, Bool.and_true, Bool.and_false, Bool.true_or, Bool.or_true, Bool.false_or, Bool.or_false])
   refine ak 141 ?_;refine apf ?_;refine aa 8 ?_;refine an ?_;refine agt ?_
   first
   | exact absurd (show (b.fin == 2) = true from ‹_›) z53q
   | (refine ⟨[_], ⟨rfl, trivial⟩, ?_, rfl⟩
      refine bc ?_
      rw [one_true hall (by rw [hmd, show ((((old.joined p).length : Nat) : Int) != (((b.ins.map Tac.cells).length : Nat) : Int)) = false from ‹_›]; rfl)]
      simp only [leadsB, leadsTo, leadsEl, *, cond_true, cond_false, Bool.not_true, Bool.not_false, Bool.true_and, Bool.false_and, Bool.and_true, Bool.and_false, Bool.true_or, Bool.or_true, Bool.false_or, Bool.or_false])
  refine acf ?_;refine agk ?_;refine asr ?_;refine am 139 ?_;refine am 140 ?_;refine aop 140 (fun hb18 => ?_) fun hb18 => ?_
  ·
   refine am 141 ?_;refine apt ?_;refine aa 8 ?_;refine an ?_;refine agt ?_
   first
   | exact absurd (show (b.fin == 2) = true from ‹_›) z53q
   | (refine ⟨[_], ⟨rfl, trivial⟩, ?_, rfl⟩
      refine bc ?_
      rw [one_true hall (by rw [hmd, show ((((old.joined p).length : Nat) : Int) != (((b.ins.map Tac.cells).length : Nat) : Int)) = false from ‹_›]; rfl)]
      simp only [leadsB, leadsTo, leadsEl, *, cond_true, cond_false, Bool.not_true, Bool.not_false, Bool.true_and, Bool.false_and, Bool.and_true, Bool.and_false, Bool.true_or, Bool.or_true, Bool.false_or, Bool.or_false])
  refine ak 141 ?_;refine apf ?_;refine aa 8 ?_;refine an ?_;refine agt ?_
  first
  | exact absurd (show (b.fin == 2) = true from ‹_›) z53q
  | (refine ⟨[_], ⟨rfl, trivial⟩, ?_, rfl⟩
     refine bc ?_
     rw [one_true hall (by rw [hmd, show ((((old.joined p).length : Nat) : Int) != (((b.ins.map Tac.cells).length : Nat) : Int)) = false from ‹_›]; rfl)]
     simp only [leadsB, leadsTo, leadsEl, *, cond_true, cond_false, Bool.not_true, Bool.not_false, Bool.true_and, Bool.false_and, Bool.and_true, Bool.and_false, Bool.true_or, Bool.or_true, Bool.false_or, Bool.or_false])
 refine acf ?_;refine agk ?_;refine asr ?_;refine af 125 tok ?_;refine al 126 tok ?_;refine af 127 tok ?_;refine al 128 tok ?_;refine aqb ?_;refine aa 15 ?_;refine an ?_;refine asq ?_;refine asr ?_;refine af 130 tok ?_;refine al 131 tok ?_;refine aqb ?_;refine an ?_;refine asp 132 (fun hb19 => ?_) fun hb19 => ?_
 ·
  refine act ?_;refine agr ?_;refine am 133 ?_;refine af 134 tok ?_;refine al 135 tok ?_;refine af 136 tok ?_;refine al 137 tok ?_;refine ax 138 (opu Tryz.func68 (rleads_ok _ _ _ hpn)) ?_;refine aa 15 ?_;refine an ?_;refine asr ?_;refine am 139 ?_;refine am 140 ?_;refine aop 140 (fun hb20 => ?_) fun hb20 => ?_
  ·
   refine am 141 ?_;refine apt ?_;refine aa 8 ?_;refine an ?_;refine agt ?_
   first
   | exact absurd (show (b.fin == 2) = true from ‹_›) z53q
   | (refine ⟨[_], ⟨rfl, trivial⟩, ?_, rfl⟩
      refine bc ?_
      rw [one_true hall (by rw [hmd, show ((((old.joined p).length : Nat) : Int) != (((b.ins.map Tac.cells).length : Nat) : Int)) = false from ‹_›]; rfl)]
      simp only [leadsB, leadsTo, leadsEl, *, cond_true, cond_false, Bool.not_true, Bool.not_false, Bool.true_and, Bool.false_and, Bool.and_true, Bool.and_false, Bool.true_or, Bool.or_true, Bool.false_or, Bool.or_false])
  refine ak 141 ?_;refine apf ?_;refine aa 8 ?_;refine an ?_;refine agt ?_
  first
  | exact absurd (show (b.fin == 2) = true from ‹_›) z53q
  | (refine ⟨[_], ⟨rfl, trivial⟩, ?_, rfl⟩
     refine bc ?_
     rw [one_true hall (by rw [hmd, show ((((old.joined p).length : Nat) : Int) != (((b.ins.map Tac.cells).length : Nat) : Int)) = false from ‹_›]; rfl)]
     simp only [leadsB, leadsTo, leadsEl, *, cond_true, cond_false, Bool.not_true, Bool.not_false, Bool.true_and, Bool.false_and, Bool.and_true, Bool.and_false, Bool.true_or, Bool.or_true, Bool.false_or, Bool.or_false])
 refine acf ?_;refine agk ?_;refine asr ?_;refine am 139 ?_;refine am 140 ?_;refine aop 140 (fun hb21 => ?_) fun hb21 => ?_
 ·
  refine am 141 ?_;refine apt ?_;refine aa 8 ?_;refine an ?_;refine agt ?_
  first
  | exact absurd (show (b.fin == 2) = true from ‹_›) z53q
  | (refine ⟨[_], ⟨rfl, trivial⟩, ?_, rfl⟩
     refine bc ?_
     rw [one_true hall (by rw [hmd, show ((((old.joined p).length : Nat) : Int) != (((b.ins.map Tac.cells).length : Nat) : Int)) = false from ‹_›]; rfl)]
     simp only [leadsB, leadsTo, leadsEl, *, cond_true, cond_false, Bool.not_true, Bool.not_false, Bool.true_and, Bool.false_and, Bool.and_true, Bool.and_false, Bool.true_or, Bool.or_true, Bool.false_or, Bool.or_false])
 refine ak 141 ?_;refine apf ?_;refine aa 8 ?_;refine an ?_;refine agt ?_
 first
 | exact absurd (show (b.fin == 2) = true from ‹_›) z53q
 | (refine ⟨[_], ⟨rfl, trivial⟩, ?_, rfl⟩
    refine bc ?_
    rw [one_true hall (by rw [hmd, show ((((old.joined p).length : Nat) : Int) != (((b.ins.map Tac.cells).length : Nat) : Int)) = false from ‹_›]; rfl)]
    simp only [leadsB, leadsTo, leadsEl, *, cond_true, cond_false, Bool.not_true, Bool.not_false, Bool.true_and, Bool.false_and, Bool.and_true, Bool.and_false, Bool.true_or, Bool.or_true, Bool.false_or, Bool.or_false])
theorem rcheck33_ok (old new : BFunc) (paths : List (List Int)) (hol : ∀ x ∈ old.blocks, x.ins.length ≤ 1000000000) (hnl : ∀ x ∈ new.blocks, x.ins.length ≤ 1000000000) (hpl : paths.length ≤ 2000000) (hps : ∀ p ∈ paths, p.length ≤ 2000000) : APure Tryz.prog 37 [.agg old.cells, .agg new.cells, pathsAV paths] (fun r => r = .bool (checkB old new paths)) := by
 refine APure.of_body (n := 95) tok Tryz.func37 rfl rfl ?_;refine asr ?_;refine ax 3 (obx 2 0) ?_;refine ax 4 (obx 2 1) ?_;refine aa 6 ?_;refine an ?_;refine asq ?_;refine asr ?_;refine am 10 ?_;refine aq 11 (q_len tok rfl rfl rfl rfl rfl) ?_;refine af 12 tok ?_;refine al 13 tok ?_;refine aq 14 (q_len tok rfl rfl rfl rfl rfl) ?_;refine aqb ?_;refine am 16 ?_;refine aop 16 (fun hb1 => ?_) fun hb1 => ?_
 ·
  iterate 3 refine ak _ ?_
  refine apt ?_;refine am 21 ?_
  iterate 5 refine ak _ ?_
  refine apt ?_;refine an ?_;refine act ?_;refine asr ?_;refine aa 6 ?_;refine an ?_;refine agt ⟨[_], ⟨rfl, trivial⟩, ?_, rfl⟩
  refine bc ?_;refine (check_bad1 (fun h => ?_)).symm
  obtain ⟨q1, q2, q3⟩ := h
  simp_all [pathsAV, blocksAV]
 refine am 17 ?_;refine aq 18 (q_len tok rfl rfl rfl rfl rfl) ?_;refine aqb ?_;refine apf ?_;refine am 21 ?_;refine aop 21 (fun hb2 => ?_) fun hb2 => ?_
 ·
  iterate 5 refine ak _ ?_
  refine apt ?_;refine an ?_;refine act ?_;refine asr ?_;refine aa 6 ?_;refine an ?_;refine agt ⟨[_], ⟨rfl, trivial⟩, ?_, rfl⟩
  refine bc ?_;refine (check_bad1 (fun h => ?_)).symm
  obtain ⟨q1, q2, q3⟩ := h
  simp_all [pathsAV, blocksAV]
 refine af 22 tok ?_;refine al 23 tok ?_;refine af 24 tok ?_;refine al 25 tok ?_;refine aqb ?_;refine apf ?_;refine an ?_;refine asp 27 (fun hb3 => ?_) fun hb3 => ?_
 ·
  refine act ?_;refine asr ?_;refine aa 6 ?_;refine an ?_;refine agt ⟨[_], ⟨rfl, trivial⟩, ?_, rfl⟩
  refine bc ?_;refine (check_bad1 (fun h => ?_)).symm
  obtain ⟨q1, q2, q3⟩ := h
  simp_all [pathsAV, blocksAV]
 refine acf ?_
 have h0 : paths.length ≠ 0 ∧ paths.length = new.blocks.length ∧ old.regs = new.regs := by
   have h1 := hb1
   have h2 := hb2
   have h3 := hb3
   simp only [List.length_map, bne_eq_false_iff_eq, beq_eq_false_iff_ne, ne_eq] at h1 h2 h3
   exact ⟨by omega, by omega, h3⟩
 refine agk ?_;refine asq ?_;refine asr ?_;refine aa 7 ?_;refine an ?_;refine AGo.block ?_;refine AGo.loopD (γ := Nat) 2 (fun k => ⟨95, (eput (eput (eput (eput eNew 2 (pathsAV paths)) 3 (.ptr 0 1 0 0)) 4 (.ptr 1 1 0 0)) 7 (.int .i64 (k : Int))), (hput (hput (hFrom 2) 0 (.row false 2 [old.cells])) 1 (.row false 2 [new.cells]))⟩) (fun k => (paths.take k).all (pathIn old.blocks.length) = true) (fun k => paths.length - k) 0 (Sub.mk' z46q z12q) rfl (fun _ => hput_free (hput_free (fun b hb => hFrom_free hb) rfl) rfl) ?_
 intro k hF
 refine asq ?_;refine asr ?_;refine am 28 ?_;refine am 29 ?_;refine aq 30 (q_len tok rfl rfl rfl rfl rfl) ?_;refine aqb ?_;refine an ?_;refine asp 31 (fun hb4 => ?_) fun hb4 => ?_
 ·
  refine act ?_
  have hkl : k < paths.length := lt_of_idx hb4
  obtain ⟨p, hp⟩ := get_of_lt hkl
  have hpp := hps p (List.mem_of_getElem? hp)
  refine agk ?_;refine asq ?_;refine AGo.block ?_;refine asq ?_;refine asr ?_;refine am 34 ?_;refine am 35 ?_;refine aq 36 (qil tok (idx_map hp)) ?_;refine al 37 tok ?_;refine aq 38 (q_len tok rfl rfl rfl rfl rfl) ?_;refine aqb ?_;refine an ?_;refine asp 39 (fun hb5 => ?_) fun hb5 => ?_
  ·
   refine act ?_
   have hpe : (p.length == 0) = true := by have h := hb5; simp at h; simp [h]
   refine asr ?_;refine aa 6 ?_;refine an ?_;refine agt ⟨[_], ⟨rfl, trivial⟩, ?_, rfl⟩
   refine bc ?_;exact (check_bad2 (all_bad hp (by simp [pathIn, hpe]))).symm
  refine acf ?_
  have hpe : (p.length == 0) = false := by have h := hb5; simp at h; simp [h]
  refine agk ?_;refine asr ?_;refine aa 8 ?_;refine an ?_;refine AGo.block ?_;refine AGo.loopD (γ := Nat) 2 (fun j => ⟨95, (eput (eput (eput (eput (eput eNew 2 (pathsAV paths)) 3 (.ptr 0 1 0 0)) 4 (.ptr 1 1 0 0)) 7 (.int .i64 (k : Int))) 8 (.int .i64 (j : Int))), (hput (hput (hFrom 2) 0 (.row false 2 [old.cells])) 1 (.row false 2 [new.cells]))⟩) (fun j => (p.take j).all (fun i => !(decide (i < 0)) && !(decide (i ≥ (old.blocks.length : Int)))) = true) (fun j => p.length - j) 0 (Sub.mk' z46q z12q) rfl (fun _ => hput_free (hput_free (fun b hb => hFrom_free hb) rfl) rfl) ?_
  intro j hG
  refine asq ?_;refine asr ?_;refine am 40 ?_;refine am 41 ?_;refine am 42 ?_;refine aq 43 (qil tok (idx_map hp)) ?_;refine al 44 tok ?_;refine aq 45 (q_len tok rfl rfl rfl rfl rfl) ?_;refine aqb ?_;refine an ?_;refine asp 46 (fun hb6 => ?_) fun hb6 => ?_
  ·
   refine act ?_
   have hjl : j < p.length := lt_of_idx hb6
   obtain ⟨y, hy⟩ := get_of_lt hjl
   refine agk ?_;refine asq ?_;refine AGo.block ?_;refine asq ?_;refine AGo.draw mix ?_;refine dm 49 ?_;refine dm 50 ?_;refine dq 51 (qil tok (idx_map hp)) ?_;refine dl 52 tok ?_;refine dm 53 ?_;refine dq 54 (qil tok (idx_map hy)) ?_;refine dl 55 tok ?_;refine dq 56 (q_bin rfl rfl rfl rfl) ?_;refine dm 57 ?_;refine DOps.split 57 rfl (fun hb7 => ?_) (fun hb7 => ?_)
   ·
    refine dk 58 ?_;refine dk 59 ?_;refine dk 60 ?_;refine dk 61 ?_;refine dk 62 ?_;refine dk 63 ?_;refine dk 64 ?_;refine dk 65 ?_;refine dk 66 ?_;refine dk 67 ?_;refine dk 68 ?_;refine dq 69 (q_pick_true true rfl rfl rfl rfl) ?_;refine DOps.nil (by kernel_rfl) ?_;refine act ?_;refine asr ?_;refine aa 6 ?_;refine an ?_;refine agt ⟨[_], ⟨rfl, trivial⟩, ?_, rfl⟩
    refine bc ?_;exact (check_bad2 (all_bad hp z28q)).symm
   refine dm 58 ?_;refine dm 59 ?_;refine dq 60 (qil tok (idx_map hp)) ?_;refine dl 61 tok ?_;refine dm 62 ?_;refine dq 63 (qil tok (idx_map hy)) ?_;refine dl 64 tok ?_;refine df 65 tok ?_;refine dl 66 tok ?_;refine dq 67 (q_len tok rfl rfl rfl rfl rfl) ?_;refine dq 68 (q_bin rfl rfl rfl rfl) ?_;refine dq 69 (q_pick_false false rfl rfl rfl rfl) ?_;refine DOps.nil (by kernel_rfl) ?_;refine asp 69 (fun hb8 => ?_) fun hb8 => ?_
   ·
    refine act ?_;refine asr ?_;refine aa 6 ?_;refine an ?_;refine agt ⟨[_], ⟨rfl, trivial⟩, ?_, rfl⟩
    refine bc ?_;exact (check_bad2 (all_bad hp z28q)).symm
   refine acf ?_;refine agk ?_;refine agr ?_;refine am 47 ?_;refine aq 48 (q_inc rfl rfl hjl (by simp only [maxLen]; omega)) ?_;refine aa 8 ?_;refine an ?_;exact ⟨j+1, Drop.mk' z31q z18q, (all_succ hy hG (by simp_all [blocksAV])), by omega⟩
  refine acf ?_
  have hge2 := ge_of_idx hb6
  refine AGo.exit ?_;refine agr ?_;refine am 32 ?_;refine aq 33 (q_inc rfl rfl hkl (by simp only [maxLen]; omega)) ?_;refine aa 7 ?_;refine an ?_;exact ⟨k+1, Drop.mk' z31q z18q, (all_succ hp hF (by simp only [pathIn, hpe, Bool.not_false, Bool.true_and]; exact all_end hG hge2)), by omega⟩
 refine acf ?_
 have hge := ge_of_idx hb4
 have hall := all_end hF hge
 have hp00 := pathK_get (paths := paths) (k := 0) (by omega)
 have hp01 := headZ_get (pathIn_inF (List.all_eq_true.1 hall _ (List.mem_of_getElem? hp00))).1
 refine AGo.exit ?_;refine asq ?_;refine asr ?_;refine am 70 ?_;refine aq 71 (q_index_lst tok rfl rfl rfl rfl rfl rfl (by decide) (cs := pathCell (pathK paths 0)) (idx_mapZ hp00) rfl) ?_;refine al 72 tok ?_;refine aq 73 (q_index_lst tok rfl rfl rfl rfl rfl rfl (by decide) (cs := [.int .i64 (headZ (pathK paths 0))]) (by show (List.map (fun b => [AV.int .i64 b]) (pathK paths 0))[0]? = _; rw [List.getElem?_map, hp01]; rfl) rfl) ?_;refine al 74 tok ?_;refine aqb ?_;refine an ?_;refine asp 75 (fun hb9 => ?_) fun hb9 => ?_
 ·
  refine act ?_
  have hz := hb9
  refine asr ?_;refine aa 6 ?_;refine an ?_;refine agt ⟨[_], ⟨rfl, trivial⟩, ?_, rfl⟩
  refine bc ?_;exact (check_bad3 hz).symm
 refine acf ?_
 have hz := hb9
 refine agk ?_;refine asq ?_;refine asr ?_;refine aa 9 ?_;refine an ?_;refine AGo.block ?_;refine AGo.loopD (γ := Nat) 2 (fun k => ⟨95, (eput (eput (eput (eput eNew 2 (pathsAV paths)) 3 (.ptr 0 1 0 0)) 4 (.ptr 1 1 0 0)) 9 (.int .i64 (k : Int))), (hput (hput (hFrom 2) 0 (.row false 2 [old.cells])) 1 (.row false 2 [new.cells]))⟩) (fun k => (paths.zipIdx.take k).all (stepB old new paths) = true) (fun k => paths.length - k) 0 (Sub.mk' z46q z12q) rfl (fun _ => hput_free (hput_free (fun b hb => hFrom_free hb) rfl) rfl) ?_
 intro k hS
 refine asq ?_;refine asr ?_;refine am 76 ?_;refine am 77 ?_;refine aq 78 (q_len tok rfl rfl rfl rfl rfl) ?_;refine aqb ?_;refine an ?_;refine asp 79 (fun hb10 => ?_) fun hb10 => ?_
 ·
  refine act ?_
  have hkl : k < paths.length := lt_of_idx hb10
  obtain ⟨p, hp⟩ := get_of_lt hkl
  have hpp := hps p (List.mem_of_getElem? hp)
  have hpin := pathIn_inF (List.all_eq_true.1 hall p (List.mem_of_getElem? hp))
  have hnb : new.blocks[((k : Nat) : Int).toNat]? = some (new.blockAt k) := blockAt_get (by omega)
  refine agk ?_;refine asq ?_;refine AGo.block ?_;refine asq ?_;refine AGo.draw mix ?_;refine dl 82 tok ?_;refine df 83 tok ?_;refine dl 84 tok ?_;refine dm 85 ?_;refine dq 86 (q_index_lst tok rfl rfl rfl rfl rfl rfl (Int.natCast_nonneg _) (cs := (new.blockAt k).cells) (idx_mapZ hnb) rfl) ?_;refine dl 87 tok ?_;refine dm 88 ?_;refine dm 89 ?_;refine dm 90 ?_;refine dq 91 (qil tok (idx_map hp)) ?_;refine dl 92 tok ?_;refine dx 93 (opu Tryz.func47 (one33_ok old (new.blockAt k) paths p (fun p hp => (pathIn_inF (List.all_eq_true.1 hall p hp)).1) hpin hpp (hnl _ (List.mem_of_getElem? hnb)) hol)) ?_;refine dq 94 (q_not rfl rfl) ?_;refine DOps.nil (by kernel_rfl) ?_;refine asp 94 (fun hb11 => ?_) fun hb11 => ?_
  ·
   refine act ?_;refine asr ?_;refine aa 6 ?_;refine an ?_;refine agt ⟨[_], ⟨rfl, trivial⟩, ?_, rfl⟩
   refine bc ?_;exact (check_bad4 (all_bad (zipIdx_get hp) (by rw [stepB_one]; simpa using (show (!oneB old (new.blockAt k) paths p) = true from ‹_›)))).symm
  refine acf ?_;refine agk ?_;refine agr ?_;refine am 80 ?_;refine aq 81 (q_inc rfl rfl hkl (by simp only [maxLen]; omega)) ?_;refine aa 9 ?_;refine an ?_;exact ⟨k+1, Drop.mk' z31q z18q, (all_succ (zipIdx_get hp) hS (by rw [stepB_one]; simpa using (show (!oneB old (new.blockAt k) paths p) = false from ‹_›))), by omega⟩
 refine acf ?_
 have hge3 := ge_of_idx hb10
 refine AGo.exit ?_;refine asr ?_;refine aa 6 ?_;refine an ?_;refine agt ⟨[_], ⟨rfl, trivial⟩, ?_, rfl⟩
 refine bc ?_;exact (check_good h0.1 h0.2.1 h0.2.2 hall hz (all_end hS (by rw [List.length_zipIdx]; exact hge3))).symm
theorem rkind_ok (k : Int) : APure Tryz.prog 22 [.int .i64 k] (fun r => r = .bool (kind35 k)) := by
 refine APure.of_body (n := 9) tok Tryz.func22 rfl rfl ?_;refine asr ?_;refine aa 2 ?_;refine an ?_;refine asr ?_;refine aQ tok 3 rfl ?_;refine aop 5 (fun hb1 => ?_) fun hb1 => ?_
 ·
  refine aQ tok 4 rfl ?_;refine an ?_;refine agt ⟨[_], ⟨rfl, trivial⟩, ?_, rfl⟩
  refine bc ?_
  first | (simp_all [kind35]; done) | (simp_all [kind35]; omega)
 refine aQ tok 4 rfl ?_;refine an ?_;refine agt ⟨[_], ⟨rfl, trivial⟩, ?_, rfl⟩
 refine bc ?_
 first | (simp_all [kind35]; done) | (simp_all [kind35]; omega)
theorem rholds35_ok (f : BFunc) (p : OPass) (hf : I35 f) (hp : P35 p) (hcl : p.cert.same.length ≤ 1048576) : APure Tryz.prog 24 [.agg f.cells, .agg p.cells] (fun r => r = .bool (p.holds f)) := by
 have hr : p.holds f = p.rholds f := holds_r hf.w hp.f.w
 refine APure.of_body (n := 38) tok Tryz.func24 rfl rfl ?_;refine asr ?_;refine ax 2 (obx 2 0) ?_;refine ax 3 (obx 5 1) ?_;refine aa 4 ?_;refine an ?_;refine asq ?_;refine asr ?_;refine aQ tok 3 rfl ?_;refine an ?_;refine asp 7 (fun hb1 => ?_) fun hb1 => ?_
 ·
  refine act ?_
  have h4 : p.kind = 4 := by simpa using hb1
  have hr4 : p.rholds f = (p.cert.same.isEmpty && checkB f p.f p.paths) := by unfold OPass.rholds; rw [h4]; rfl
  refine asr ?_;refine aQ tok 6 rfl ?_;refine aop 13 (fun hb2 => ?_) fun hb2 => ?_
  ·
   refine aQ tok 5 rfl ?_;refine ax 19 (opu Tryz.func37 (rcheck33_ok f p.f p.paths (fun x hx => Nat.le_trans (hf.i x hx).1 (by decide)) (fun x hx => Nat.le_trans (hp.f.i x hx).1 (by decide)) (Nat.le_trans hp.n (by decide)) (fun q hq => Nat.le_trans (hp.q q hq) (by decide)))) ?_;refine aQ tok 2 rfl ?_;refine an ?_;refine agt ⟨[_], ⟨rfl, trivial⟩, ?_, rfl⟩
   refine bc ?_
   rw [hr, hr4]
   cases e : p.cert.same <;> first | (simp_all; done) | (exfalso; simp_all; omega)
  refine aQ tok 8 rfl ?_;refine an ?_;refine agt ⟨[_], ⟨rfl, trivial⟩, ?_, rfl⟩
  refine bc ?_
  rw [hr, hr4]
  cases e : p.cert.same <;> first | (simp_all; done) | (exfalso; simp_all; omega)
 refine acf ?_
 have h4 : p.kind ≠ 4 := by simpa using hb1
 have hr4 : p.rholds f = (kind35 p.kind && (p.paths.isEmpty && rcheck f p.f p.cert)) := by unfold OPass.rholds; rw [beq_eq_false_iff_ne.2 h4]; rfl
 refine agk ?_;refine asr ?_;refine aQ tok 2 rfl ?_;refine ax 23 (opu Tryz.func22 (rkind_ok p.kind)) ?_;refine am 24 ?_;refine aop 24 (fun hb3 => ?_) fun hb3 => ?_
 ·
  refine aQ tok 6 rfl ?_;refine aop 30 (fun hb4 => ?_) fun hb4 => ?_
  ·
   refine aQ tok 5 rfl ?_;refine ax 36 (opu Tryz.func38 (rcheck_ok f p.f hf.n hp.f.n hf.i hp.f.i p.cert (Nat.le_trans hcl (by decide)))) ?_;refine aQ tok 2 rfl ?_;refine an ?_;refine agt ⟨[_], ⟨rfl, trivial⟩, ?_, rfl⟩
   refine bc ?_
   rw [hr, hr4]
   cases e : p.paths <;> first | (simp_all; done) | (exfalso; simp_all; omega)
  refine aQ tok 8 rfl ?_;refine an ?_;refine agt ⟨[_], ⟨rfl, trivial⟩, ?_, rfl⟩
  refine bc ?_
  rw [hr, hr4]
  cases e : p.paths <;> first | (simp_all; done) | (exfalso; simp_all; omega)
 refine aQ tok 14 rfl ?_;refine an ?_;refine agt ⟨[_], ⟨rfl, trivial⟩, ?_, rfl⟩
 refine bc ?_
 rw [hr, hr4]
 cases e : p.paths <;> first | (simp_all; done) | (exfalso; simp_all; omega)
theorem rleads35_ok (f g : BFunc) (l : List OPass) (hl : l.length ≤ 1048576) (hI0 : I35 f) (hH : ∀ p ∈ l, P35 p ∧ p.cert.same.length ≤ 1048576) : APure Tryz.prog 32 [.agg f.cells, .agg g.cells, passesAV l] (fun r => r = .bool (leadsL f g l)) := by
 refine APure.of_body (n := 29) tok Tryz.func32 rfl rfl ?_;refine asr ?_;refine ax 3 (obx 2 0) ?_;refine ax 4 (obx 2 1) ?_;refine aa 6 ?_;refine an ?_;refine asq ?_;refine asr ?_;refine aa 7 ?_;refine an ?_;refine AGo.block ?_;refine AGo.loopD (γ := Nat) 2 (fun k => ⟨29, (eput (eput (eput (eput eNew 2 (passesAV l)) 3 (.ptr 0 1 0 0)) 4 (.ptr 1 1 0 0)) 7 (.int .i64 (k : Int))), (hput (hput (hFrom 2) 0 (.row false 2 [(atP f (l.take k)).cells])) 1 (.row false 2 [g.cells]))⟩) (fun k => I35 (atP f (l.take k)) ∧ leadsL f (atP f (l.take k)) (l.take k) = true) (fun k => l.length - k) 0 (Sub.mk' z29q z12q) ⟨hI0, decide_eq_true rfl⟩ (fun _ => hput_free (hput_free (fun b hb => hFrom_free hb) rfl) rfl) ?_
 intro k hF
 refine asq ?_;refine asr ?_;refine aQ tok 4 rfl ?_;refine an ?_;refine asp 11 (fun hb1 => ?_) fun hb1 => ?_
 ·
  refine act ?_
  have hkl := lt_of_idx hb1
  obtain ⟨p, hp⟩ := get_of_lt hkl
  have hpm := List.mem_of_getElem? hp
  refine agk ?_;refine asq ?_;refine AGo.block ?_;refine asq ?_;refine asq ?_;refine AGo.draw mix ?_;refine dQ tok 3 rfl ?_;refine dq 17 (qil tok (idx_map hp)) ?_;refine dl 18 tok ?_;refine dx 19 (opu Tryz.func24 (rholds35_ok _ p hF.1 (hH p hpm).1 (hH p hpm).2)) ?_;refine dq 20 (q_not rfl rfl) ?_;refine DOps.nil (by kernel_rfl) ?_;refine asp 20 (fun hb2 => ?_) fun hb2 => ?_
  ·
   refine act ?_
   have hno : p.holds (atP f (l.take k)) = false := by simpa using hb2
   refine asr ?_;refine aa 6 ?_;refine an ?_;refine agt ⟨[_], ⟨rfl, trivial⟩, ?_, rfl⟩
   refine bc ?_;exact (leadsL_bad hp hF.2 hno).symm
  refine acf ?_
  have hyes : p.holds (atP f (l.take k)) = true := by simpa using hb2
  refine agk ?_;refine agr ?_;refine aQ tok 2 rfl ?_;refine aq 23 (qil tok (idx_map hp)) ?_;refine aQ tok 2 rfl ?_;refine AOps.w rfl rfl (o_store tok rfl rfl rfl rfl rfl rfl rfl rfl rfl (by decide) rfl z51q) ?_;refine an ?_;refine agr ?_;refine am 12 ?_;refine aq 13 (q_inc rfl rfl hkl (by simp only [maxLen]; omega)) ?_;refine aa 7 ?_;refine an ?_;exact ⟨k+1, Drop.mk' z31q z11q, ⟨by rw [atP_succ f hp]; exact (hH p hpm).1.f, leadsL_succ hp hF.2 hyes⟩, by omega⟩
 refine acf ?_
 have hge := ge_of_idx hb1
 have hE : I35 (atP f l) ∧ leadsL f (atP f l) l = true := by have h := hF; rwa [List.take_of_length_le hge] at h
 refine AGo.exit ?_;refine asq ?_
 rw [List.take_of_length_le hge]
 refine agr ?_;refine aQ tok 2 rfl ?_;refine ax 28 (opu Tryz.func23 (rsameFunc_ok _ g hE.1.lim.big)) ?_;refine aa 6 ?_;refine an ?_;refine agt ⟨[_], ⟨rfl, trivial⟩, ?_, rfl⟩
 refine bc ?_
 rw [leadsL_end hE.2]
theorem rcheck35_ok (a b : Blocks) (ls : List (List OPass)) (ha : a.funcs.length ≤ 1048576) (hI : ∀ f ∈ a.funcs, I35 f) (hP : ∀ l ∈ ls, l.length ≤ 1048576 ∧ ∀ p ∈ l, P35 p ∧ p.cert.same.length ≤ 1048576) : APure Tryz.prog 17 [.agg a.cells, .agg b.cells, listAV ls] (fun r => r = .bool (ocheck a b ls)) := by
 refine APure.of_body (n := 62) tok Tryz.func17 rfl rfl ?_;refine asr ?_;refine ax 3 (obx 2 0) ?_;refine ax 4 (obx 2 1) ?_;refine aa 6 ?_;refine an ?_;refine asq ?_;refine asr ?_;refine al 8 tok ?_;refine ax 9 (opu Tryz.func29 (right_ok _)) ?_;refine aQ tok 2 rfl ?_;refine aop 11 (fun hb1 => ?_) fun hb1 => ?_
 ·
  refine aQ tok 28 rfl ?_;refine an ?_;refine act ?_;refine asr ?_;refine aa 6 ?_;refine an ?_;refine agt ⟨[_], ⟨rfl, trivial⟩, ?_, rfl⟩
  refine bc ?_
  simp_all [ocheck]; try omega
 refine al 12 tok ?_;refine ax 13 (opu Tryz.func29 (right_ok _)) ?_;refine aQ tok 3 rfl ?_;refine aop 16 (fun hb2 => ?_) fun hb2 => ?_
 ·
  refine aQ tok 23 rfl ?_;refine an ?_;refine act ?_;refine asr ?_;refine aa 6 ?_;refine an ?_;refine agt ⟨[_], ⟨rfl, trivial⟩, ?_, rfl⟩
  refine bc ?_
  simp_all [ocheck]; try omega
 refine aQ tok 7 rfl ?_;refine aop 23 (fun hb3 => ?_) fun hb3 => ?_
 ·
  refine aQ tok 16 rfl ?_;refine an ?_;refine act ?_;refine asr ?_;refine aa 6 ?_;refine an ?_;refine agt ⟨[_], ⟨rfl, trivial⟩, ?_, rfl⟩
  refine bc ?_
  simp_all [ocheck]; try omega
 refine aQ tok 9 rfl ?_;refine aop 32 (fun hb4 => ?_) fun hb4 => ?_
 ·
  refine aQ tok 7 rfl ?_;refine an ?_;refine act ?_;refine asr ?_;refine aa 6 ?_;refine an ?_;refine agt ⟨[_], ⟨rfl, trivial⟩, ?_, rfl⟩
  refine bc ?_
  simp_all [ocheck]; try omega
 refine aQ tok 7 rfl ?_;refine an ?_;refine asp 39 (fun hb5 => ?_) fun hb5 => ?_
 ·
  refine act ?_;refine asr ?_;refine aa 6 ?_;refine an ?_;refine agt ⟨[_], ⟨rfl, trivial⟩, ?_, rfl⟩
  refine bc ?_
  simp_all [ocheck]; try omega
 refine acf ?_
 have hr1 : a.right = true := by simpa using hb1
 have hr2 : b.right = true := by simpa using hb2
 have hw : a.words = b.words := by have h := hb3; simp at h; omega
 have hn1 : a.funcs.length = b.funcs.length := by have h := hb4; simp at h; omega
 have hn2 : ls.length = a.funcs.length := by have h := hb5; simp at h; omega
 refine agk ?_;refine asq ?_;refine asr ?_;refine aa 7 ?_;refine an ?_;refine AGo.block ?_;refine AGo.loopD (γ := Nat) 2 (fun k => ⟨62, (eput (eput (eput (eput eNew 2 (listAV ls)) 3 (.ptr 0 1 0 0)) 4 (.ptr 1 1 0 0)) 7 (.int .i64 (k : Int))), (hput (hput (hFrom 2) 0 (.row false 2 [a.cells])) 1 (.row false 2 [b.cells]))⟩) (fun k => ledTo a.funcs b.funcs ls k) (fun k => ls.length - k) 0 (Sub.mk' z29q z12q) (fun i h => absurd h (Nat.not_lt_zero i)) (fun _ => hput_free (hput_free (fun b hb => hFrom_free hb) rfl) rfl) ?_
 intro k hF
 refine asq ?_;refine asr ?_;refine aQ tok 4 rfl ?_;refine an ?_;refine asp 43 (fun hb6 => ?_) fun hb6 => ?_
 ·
  refine act ?_
  have hkl : k < ls.length := lt_of_idx hb6
  obtain ⟨f, hf⟩ := get_of_lt (l := a.funcs) (k := k) (by omega)
  obtain ⟨g, hg⟩ := get_of_lt (l := b.funcs) (k := k) (by omega)
  obtain ⟨l, hl⟩ := get_of_lt hkl
  refine agk ?_;refine asq ?_;refine AGo.block ?_;refine asq ?_;refine AGo.draw mix ?_;refine dQ tok 3 rfl ?_;refine dq 49 (qil tok (idx_map hf)) ?_;refine dQ tok 4 rfl ?_;refine dq 54 (qil tok (idx_map hg)) ?_;refine dQ tok 3 rfl ?_;refine dq 58 (qil tok (idx_map hl)) ?_;refine dl 59 tok ?_;refine dx 60 (opu Tryz.func32 (rleads35_ok f g l (hP l (List.mem_of_getElem? hl)).1 (hI f (List.mem_of_getElem? hf)) (hP l (List.mem_of_getElem? hl)).2)) ?_;refine dq 61 (q_not rfl rfl) ?_;refine DOps.nil (by kernel_rfl) ?_;refine asp 61 (fun hb7 => ?_) fun hb7 => ?_
  ·
   refine act ?_
   have hno : leadsL f g l = false := by simpa using hb7
   refine asr ?_;refine aa 6 ?_;refine an ?_;refine agt ⟨[_], ⟨rfl, trivial⟩, ?_, rfl⟩
   refine bc ?_
   simp [ocheck, leadsAll_no hf hg hl hno]
  refine acf ?_
  have hyes : leadsL f g l = true := by simpa using hb7
  refine agk ?_;refine agr ?_;refine am 44 ?_;refine aq 45 (q_inc rfl rfl hkl (by simp only [maxLen]; omega)) ?_;refine aa 7 ?_;refine an ?_;exact ⟨k+1, Drop.mk' z31q z18q, (ledTo_succ hF hf hg hl hyes), by omega⟩
 refine acf ?_
 have hge : ls.length ≤ k := ge_of_idx hb6
 refine AGo.exit ?_;refine asr ?_;refine aa 6 ?_;refine an ?_;refine agt ⟨[_], ⟨rfl, trivial⟩, ?_, rfl⟩
 refine bc ?_;exact (ocheck_of hr1 hr2 hw hn1 hn2 (ledTo_end hF (by omega))).symm
theorem optimizeChecks_ok (z : Ask35) (hz : AskLim z ∧ ∀ ps ∈ z.l, ∀ p ∈ ps, p.cert.same.length ≤ 1048576) : APure Tryz.prog 5 [.agg z.cells] (fun r => r = .bool true) := by
 obtain ⟨⟨hO, hN, hl, hOw, hNw⟩, hcs⟩ := hz
 refine APure.of_body (n := 25) tok Tryz.func5 rfl rfl ?_;refine asr ?_;refine ax 1 (obx 6 0) ?_;refine aa 2 ?_;refine an ?_;refine asq ?_;refine asr ?_;refine al 3 tok ?_;refine ax 4 (opu Tryz.func20 (few35_ok z hO hN hl)) ?_;refine aq 5 (q_not rfl rfl) ?_;refine an ?_;refine asp 5 (fun hb1 => ?_) fun hb1 => ?_
 ·
  refine act ?_;refine asr ?_;refine ax 6 (opu Tryz.func14 (awake_ev tiny_of vlog_ok)) ?_;refine aa 2 ?_;refine an ?_;refine agt ⟨[_], ⟨rfl, trivial⟩, ?_, rfl⟩
  rfl
 refine acf ?_
 have hF := few35_of (z := z) (by simpa using hb1)
 refine agk ?_;refine asq ?_;refine AGo.draw mix ?_;refine dx 7 (opu Tryz.func14 (awake_ev tiny_of vlog_ok)) ?_;refine dQ tok 7 rfl ?_;refine dx 15 (opu Tryz.func18 (checkL_ok z.old z.new z.l hO.n (hF.old.i hOw) (fun ps hp => ⟨Nat.le_trans (hF.pass hl ps hp).1 (by decide), (hF.pass hl ps hp).2⟩))) ?_;refine dQ tok 6 rfl ?_;refine dx 22 (opu Tryz.func17 (rcheck35_ok z.old z.new z.l hO.n (hF.old.i hOw) (fun ps hp => ⟨Nat.le_trans (hF.pass hl ps hp).1 (by decide), fun p hpp => ⟨(hF.pass hl ps hp).2 p hpp, hcs ps hp p hpp⟩⟩))) ?_;refine dq 23 (q_boolSame (q_boolEq tok false rfl rfl rfl rfl rfl)) ?_;refine dQ tok 2 rfl ?_;refine DOps.nil (by kernel_rfl) ?_;refine agt ⟨[_], ⟨rfl, trivial⟩, ?_, rfl⟩
 rfl
end Go.Proofs.YtbbfelelocccmaaGreat.Sv
