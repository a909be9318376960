/-
  The law OptimizeJoins of the given program answers true for every input of the bulk that is named, and leaves its arguments as they were. Own work.
  WALKS: printed by a program of our own from the code's tree.
  How strings read: own work.
  HOW PASSES, AND WHAT IS ASKED OF THEM, READ, WITH THEIR BULK: own work.
  HOW THREE PROGRAMS WITH THEIR PASSES READ, WITH THEIR BULK: own work.
-/
import Derived.Test.YtbbfelelocccmaaGreatPOptimizeJoins3
import Derived.Test.YtbbfelelocccmaaGreatPOptimizeJoins2
import Derived.Test.YtbbfelelocccmaaGreatPOptimizeJoins4
import Derived.Test.YtbbfelelocccmaaGreatPOptimizeJoins5
import Derived.Deep.CondSized
import Derived.JoinedCond
set_option linter.unusedVariables false
set_option linter.unusedSimpArgs false
namespace Go.Proofs.YtbbfelelocccmaaGreat.Sv
open Go
set_option maxRecDepth 100000 in
theorem equal_ok (l r : List Tac) (hl : l.length ≤ 1000000000) : APure Tryz.prog 152 [insAV l, insAV r] (fun q => q = .bool (decide (l = r))) := by
 refine APure.of_body (n := 26) tok Tryz.func152 rfl rfl ?_
 refine asr ?_
 refine aa 4 ?_
 refine an ?_
 refine AGo.seq ?_
 refine asr ?_
 refine aQ tok 5 rfl ?_
 refine an ?_
 refine asp 10 (fun hb1 => ?_) fun hb1 => ?_
 ·
  refine act ?_
  refine asr ?_
  refine aa 4 ?_
  refine an ?_
  refine AGo.ret ⟨[_], ⟨rfl, trivial⟩, ?_, rfl⟩
  show AV.bool _ = AV.bool _
  congr 1
  exact (decide_eq_false (by rintro rfl; simp_all)).symm
 ·
  refine acf ?_
  have hlr : l.length = r.length := by have h := hb1; simp at h; omega
  refine AGo.skip ?_
  refine AGo.seq ?_
  refine asr ?_
  refine aQ tok 3 rfl ?_
  refine an ?_
  refine AGo.block ?_
  refine AGo.loopI (γ := Nat) (fun k => ⟨26, (eput (eput (eput (eput (eput eNew 0 (insAV l)) 1 (insAV r)) 11 (insAV l)) 12 (.int .i64 (l.length : Int))) 13 (.int .i64 (k : Int))), hNone⟩) (fun k => l.take k = r.take k) (fun k => l.length - k) 0 (Sub.mk' z13q z6q) rfl ?_
  intro k ht
  refine asr ?_
  refine aqb ?_
  refine an ?_
  refine AGo.seq ?_
  refine asp 14 (fun hb2 => ?_) fun hb2 => ?_
  ·
   refine act ?_
   have hkl : k < l.length := by simpa using hb2
   obtain ⟨x, hx⟩ := get_of_lt hkl
   obtain ⟨y, hy⟩ := get_of_lt (l := r) (k := k) (by omega)
   refine AGo.skip ?_
   refine AGo.seq ?_
   refine AGo.block ?_
   refine asr ?_
   refine aQ tok 2 rfl ?_
   refine an ?_
   refine AGo.seq ?_
   refine AGo.draw mix ?_
   refine dQ tok 2 rfl ?_
   refine dq 18 (q_index_lst tok rfl rfl rfl rfl rfl rfl (Int.natCast_nonneg _) (idx_map (by assumption)) rfl) ?_
   refine dQ tok 3 rfl ?_
   refine dq 22 (q_index_lst tok rfl rfl rfl rfl rfl rfl (Int.natCast_nonneg _) (idx_map (by assumption)) rfl) ?_
   refine dl 23 tok ?_
   refine dq 24 (q_eqStruct tok true rfl rfl rfl (by kernel_rfl) rfl rfl rfl rfl (Tac.eqCells x y)) ?_
   refine DOps.nil (by kernel_rfl) ?_
   refine asp 24 (fun hb3 => ?_) fun hb3 => ?_
   ·
    refine act ?_
    have hxy : x ≠ y := by simpa using hb3
    refine asr ?_;refine aa 4 ?_;refine an ?_;refine AGo.ret ⟨[_], ⟨rfl, trivial⟩, ?_, rfl⟩
    show AV.bool _ = AV.bool _
    congr 1
    exact (decide_eq_false (by rintro rfl; rw [hx] at hy; cases hy; exact hxy rfl)).symm
   ·
    refine acf ?_
    have hxy : x = y := by simpa using hb3
    refine AGo.skip ?_;refine AGo.region ?_;refine aq 25 (q_inc rfl rfl hkl (by simp only [maxLen]; omega)) ?_;refine am 13 ?_;refine an ?_;exact ⟨k+1, Sub.mk' z23q z6q, (by rw [take_succ_eq hx, take_succ_eq hy, ht, hxy]), by omega⟩
  ·
   refine acf ?_
   have hge : l.length ≤ k := by simpa using hb2
   refine AGo.exit ?_
   refine asr ?_
   refine aa 4 ?_
   refine an ?_
   refine AGo.ret ⟨[_], ⟨rfl, trivial⟩, ?_, rfl⟩
   show AV.bool _ = AV.bool _
   congr 1
   exact (decide_eq_true (take_all ht hge (hlr ▸ hge))).symm
set_option maxRecDepth 100000 in
theorem follows_ok (f : BFunc) (p : List Int) (hp : inF f.blocks.length p) (hpl : p.length ≤ 2000000) : APure Tryz.prog 145 [.agg f.cells, intsAV p] (fun r => r = .bool (followsB f p)) := by
 have hpos : 0 < p.length := List.length_pos_iff.2 hp.1
 refine APure.of_body (n := 38) tok Tryz.func145 rfl rfl ?_
 refine asr ?_
 refine ax 2 (obx 2 0) ?_
 refine aa 4 ?_
 refine an ?_
 refine AGo.seq ?_
 refine asr ?_
 refine aQ tok 3 rfl ?_
 refine aq 11 (q_bin (r := .int .i64 ((p.length - 1 : Nat) : Int)) rfl rfl rfl (by rw [List.length_map]; exact len_pred hpos (by omega))) ?_
 refine aq 12 (q_front (m := p.length - 1) (es := intCells p) tok rfl rfl rfl rfl rfl rfl (by rw [intCells_len]; omega) (by intro cs h; simp [intCells] at h; obtain ⟨n, _, rfl⟩ := h; rfl)) ?_
 refine aQ tok 2 rfl ?_
 refine an ?_
 refine AGo.block ?_
 refine AGo.loopD (γ := Nat) 1 (fun k => ⟨38, (eput (eput (eput (eput (eput eNew 1 (intsAV p)) 2 (.ptr 0 1 0 0)) 12 (.lst false ((intCells p).take (p.length - 1)))) 13 (.int .i64 ((p.length - 1 : Nat) : Int))) 14 (.int .i64 (k : Int))), (hput (hFrom 1) 0 (.row false 2 [f.cells]))⟩) (fun k => ((List.range (p.length - 1)).take k).all (okAt f p) = true) (fun k => p.length - 1 - k) 0 (Sub.mk' (by repeat (first | exact ESub.new _ | refine ESub.put ?_ (by first | rfl | exact congrArg (fun (n : Nat) => some (AV.int .i64 (n : Int))) (by simp [intCells_len])))) z6q) rfl (fun _ => hput_free (fun b hb => hFrom_free hb) rfl) ?_
 intro k hall
 refine asr ?_
 refine aqb ?_
 refine an ?_
 refine AGo.seq ?_
 refine asp 15 (fun hb1 => ?_) fun hb1 => ?_
 ·
  refine act ?_
  have hkl : k < p.length - 1 := by have h := hb1; simp [intCells_len] at h; omega
  obtain ⟨y, hy⟩ := get_of_lt (l := p) (k := k) (by omega)
  obtain ⟨z, hz⟩ := get_of_lt (l := p) (k := k + 1) (by omega)
  have hyr := hp.2 y (List.mem_of_getElem? hy)
  have hat : okAt f p k = ((f.blockAt y).fin == 1 && (f.blockAt y).to == z) := by rw [okAt, iget_get hy, iget_get hz]
  refine AGo.skip ?_
  refine AGo.seq ?_
  refine AGo.block ?_
  refine asr ?_
  refine am 16 ?_
  refine aq 17 (q_index_lst tok rfl rfl rfl rfl rfl rfl (Int.natCast_nonneg _) (cs := [.int .i64 y]) (by rw [Int.toNat_natCast, List.getElem?_take_of_lt hkl, intCells, List.getElem?_map, hy]; rfl) rfl) ?_
  refine aQ tok 3 rfl ?_
  refine an ?_
  refine asr ?_
  refine aQ tok 3 rfl ?_
  refine aq 22 (q_index_lst tok rfl rfl rfl rfl rfl rfl hyr.1 (idx_mapZ (blockAt_get hyr)) rfl) ?_
  refine al 23 tok ?_
  refine ax 7 (oal tok 1) ?_
  refine AOps.w rfl rfl (o_store tok rfl rfl rfl rfl rfl rfl rfl rfl rfl (by decide) rfl z26q) ?_
  refine an ?_
  refine AGo.seq ?_
  refine AGo.draw mix ?_
  refine dQ tok 4 rfl ?_
  refine DOps.split 27 rfl (fun hb2 => ?_) (fun hb2 => ?_)
  ·
   refine dQ tok 9 rfl ?_
   refine DOps.nil (by kernel_rfl) ?_
   refine act ?_
   refine asr ?_
   refine aa 4 ?_
   refine an ?_
   refine AGo.ret ⟨[_], ⟨rfl, trivial⟩, ?_, rfl⟩
   show AV.bool _ = AV.bool _
   congr 1
   exact (all_bad (range_get hkl) (by rw [hat]; simp_all)).symm
  ·
   refine dQ tok 4 rfl ?_
   refine dq 32 (q_inc rfl rfl hkl (show p.length - 1 ≤ maxLen by simp only [maxLen]; omega)) ?_
   refine dq 33 (q_index_lst tok rfl rfl rfl rfl rfl rfl (Int.natCast_nonneg _) (cs := [.int .i64 z]) (by rw [Int.toNat_natCast]; show (List.map (fun b => [AV.int .i64 b]) p)[k + 1]? = _; rw [List.getElem?_map, hz]; rfl) rfl) ?_
   refine dQ tok 3 rfl ?_
   refine DOps.nil (by kernel_rfl) ?_
   refine asp 36 (fun hb3 => ?_) fun hb3 => ?_
   ·
    refine act ?_;refine asr ?_;refine aa 4 ?_;refine an ?_;refine AGo.ret ⟨[_], ⟨rfl, trivial⟩, ?_, rfl⟩
    show AV.bool _ = AV.bool _
    congr 1
    exact (all_bad (range_get hkl) (by rw [hat]; simp_all)).symm
   ·
    refine acf ?_;refine AGo.skip ?_;refine AGo.region ?_;refine aq 37 (q_inc rfl rfl hkl (show p.length - 1 ≤ maxLen by simp only [maxLen]; omega)) ?_
    refine am 14 ?_;refine an ?_;exact ⟨k+1, Drop.mk' z15q z10q, (all_succ (range_get hkl) hall (by rw [hat]; simp_all)), by omega⟩
 ·
  refine acf ?_
  have hge : p.length - 1 ≤ k := by have h := hb1; simp [intCells_len] at h; omega
  refine AGo.exit ?_
  refine asr ?_
  refine aa 4 ?_
  refine an ?_
  refine AGo.ret ⟨[_], ⟨rfl, trivial⟩, ?_, rfl⟩
  show AV.bool _ = AV.bool _
  congr 1
  exact (all_end hall (by simpa using hge)).symm
set_option maxRecDepth 100000 in
theorem made_ok (f : BFunc) (b : Block) (p : List Int) (hp : inF f.blocks.length p) (hpl : p.length ≤ 2000000) (hbl : b.ins.length ≤ 1000000000) : APure Tryz.prog 146 [.agg f.cells, .agg b.cells, intsAV p] (fun r => r = .bool (madeR f b.ins p)) := by
 refine APure.of_body (n := 47) tok Tryz.func146 rfl rfl ?_
 refine asr ?_
 refine ax 3 (obx 2 0) ?_
 refine ax 4 (obx 5 1) ?_
 refine aa 6 ?_
 refine an ?_
 refine asr ?_
 refine aQ tok 3 rfl ?_
 refine an ?_
 refine AGo.seq ?_
 refine asr ?_
 refine aQ tok 3 rfl ?_
 refine an ?_
 refine AGo.block ?_
 refine AGo.loopD (γ := MG) 2 (fun q => ⟨47, (eput (eput (eput (eput (eput eNew 3 (.ptr 0 1 0 0)) 7 (insAV q.rest)) 13 (intsAV p)) 14 (.int .i64 (p.length : Int))) 15 (.int .i64 (q.k : Int))), (hput (hFrom 2) 0 (.row false 2 [f.cells]))⟩) (fun q => madeR f q.rest (p.drop q.k) = madeR f b.ins p ∧ q.rest.length ≤ 1000000000) (fun q => p.length - q.k) ⟨0, b.ins⟩ (Sub.mk' z13q z6q) ⟨rfl, hbl⟩ (fun _ => hput_free (fun b hb => hFrom_free hb) rfl) ?_
 intro q hF
 refine asr ?_
 refine aqb ?_
 refine an ?_
 refine AGo.seq ?_
 refine asp 16 (fun hb1 => ?_) fun hb1 => ?_
 ·
  refine act ?_
  have hkl : q.k < p.length := by have h := hb1; simp at h; omega
  obtain ⟨y, hy⟩ := get_of_lt hkl
  have hyr := hp.2 y (List.mem_of_getElem? hy)
  have hst := madeR_step (f := f) (rest := q.rest) hy
  have heq := hF.1
  have hrl := hF.2
  refine AGo.skip ?_
  refine AGo.seq ?_
  refine AGo.block ?_
  refine asr ?_
  refine aq 17 (qil tok (idx_map hy)) ?_
  refine aQ tok 2 rfl ?_
  refine an ?_
  refine asr ?_
  refine aQ tok 3 rfl ?_
  refine aq 22 (q_index_lst tok rfl rfl rfl rfl rfl rfl hyr.1 (idx_mapZ (blockAt_get hyr)) rfl) ?_
  refine aQ tok 3 rfl ?_
  refine an ?_
  refine AGo.seq ?_
  refine asr ?_
  refine aQ tok 6 rfl ?_
  refine aop 30 (fun hb2 => ?_) fun hb2 => ?_
  ·
   refine aQ tok 8 rfl ?_
   refine an ?_
   refine act ?_
   refine asr ?_
   refine aa 6 ?_
   refine an ?_
   refine AGo.ret ⟨[_], ⟨rfl, trivial⟩, ?_, rfl⟩
   show AV.bool _ = AV.bool _
   congr 1
   rw [← heq, hst]
   by_cases hcc : (f.blockAt y).ins.length ≤ q.rest.length
   · clear heq hst hF
     first | (have h3 : ¬ q.rest.take (f.blockAt y).ins.length = (f.blockAt y).ins := by simp_all
              simp [h3]; done) | (exfalso; simp_all; omega)
   · simp [hcc]
  ·
   have hlen : (f.blockAt y).ins.length ≤ q.rest.length := by have h := hb2; simp at h; omega
   refine aQ tok 3 rfl ?_
   refine aq 34 (q_front' (l := q.rest) (m := (f.blockAt y).ins.length) tok rfl rfl rfl rfl ⟨rfl, rfl⟩ rfl (by rw [List.length_map]) (by have h := hlen; omega)) ?_
   refine am 35 ?_
   refine ax 36 (opu Tryz.func152 (equal_ok (q.rest.take (f.blockAt y).ins.length) (f.blockAt y).ins (by rw [List.length_take]; omega))) ?_
   refine aQ tok 2 rfl ?_
   refine an ?_
   refine asp 38 (fun hb3 => ?_) fun hb3 => ?_
   ·
    refine act ?_;refine asr ?_;refine aa 6 ?_;refine an ?_;refine AGo.ret ⟨[_], ⟨rfl, trivial⟩, ?_, rfl⟩
    show AV.bool _ = AV.bool _
    congr 1
    rw [← heq, hst]
    by_cases hcc : (f.blockAt y).ins.length ≤ q.rest.length
    · clear heq hst hF
      first | (have h3 : ¬ q.rest.take (f.blockAt y).ins.length = (f.blockAt y).ins := by simp_all
               simp [h3]; done) | (exfalso; simp_all; omega)
    · simp [hcc]
   ·
    refine acf ?_
    have hsame : q.rest.take (f.blockAt y).ins.length = (f.blockAt y).ins := by simp_all
    refine AGo.skip ?_;refine AGo.region ?_;refine aQ tok 3 rfl ?_;refine aq 42 (q_back' (l := q.rest) (m := (f.blockAt y).ins.length) tok rfl rfl rfl rfl ⟨rfl, rfl⟩ rfl (by rw [List.length_map]) (by have h := hlen; omega)) ?_;refine aa 7 ?_;refine an ?_;refine AGo.region ?_;refine aq 43 (q_inc rfl rfl hkl (by simp only [maxLen]; omega)) ?_;refine am 15 ?_;refine an ?_;exact ⟨⟨q.k + 1, q.rest.drop (f.blockAt y).ins.length⟩, Drop.mk' z15q z10q, ⟨by rw [← heq, hst]; simp [hlen, hsame], by show (q.rest.drop _).length ≤ _; rw [List.length_drop]; omega⟩, (by show p.length - (q.k + 1) < p.length - q.k; omega)⟩
 ·
  refine acf ?_
  have hge : p.length ≤ q.k := by have h := hb1; simp at h; omega
  have heq := hF.1
  refine AGo.exit ?_
  refine asr ?_
  refine aQ tok 4 rfl ?_
  refine an ?_
  refine AGo.ret ⟨[_], ⟨rfl, trivial⟩, ?_, rfl⟩
  show AV.bool _ = AV.bool _
  congr 1
  rw [← heq, List.drop_eq_nil_of_le hge, madeR]
  cases q.rest <;> simp [evalBin] <;> omega
set_option maxRecDepth 100000 in
theorem begins_ok (paths : List (List Int)) (k i : Int) (hpn : ∀ p ∈ paths, p ≠ []) : ACall Tryz.prog 153 [.int .i64 k, .int .i64 i, .ptr 2 1 0 0] (hput hNew 2 (.row false 1 [[pathsAV paths]])) (fun r h' => r = .bool (beginsB paths k i) ∧ HSub (hput hNone 2 (.row false 1 [[pathsAV paths]])) h') := by
 refine ACall.of_body (n := 24) tok Tryz.func153 rfl rfl ?_
 refine asr ?_
 refine aa 5 ?_
 refine an ?_
 refine asr ?_
 refine aQ tok 3 rfl ?_
 refine aop 8 (fun hb1 => ?_) fun hb1 => ?_
 ·
  refine aQ tok 6 rfl ?_
  refine aop 14 (fun hb2 => ?_) fun hb2 => ?_
  ·
   have hkr : 0 ≤ k ∧ k < paths.length := by simp_all [pathsAV] <;> omega
   have hpk := pathK_get hkr
   have hp0 := headZ_get (hpn _ (List.mem_of_getElem? hpk))
   refine aQ tok 2 rfl ?_
   refine aq 17 (q_index_lst tok rfl rfl rfl rfl rfl rfl hkr.1 (idx_mapZ hpk) rfl) ?_
   refine al 18 tok ?_
   refine aq 19 (q_index_lst tok rfl rfl rfl rfl rfl rfl (by decide) (cs := [.int .i64 (headZ (pathK paths k))]) (by show (List.map (fun b => [AV.int .i64 b]) (pathK paths k))[0]? = _; rw [List.getElem?_map, hp0]; rfl) rfl) ?_
   refine aQ tok 5 rfl ?_
   refine an ?_
   refine AGo.ret ?_
   refine ⟨[_], ⟨rfl, trivial⟩, ?_, HSub.put (HSub.none _) rfl⟩
   show AV.bool _ = AV.bool _
   congr 1
   first | (simp_all [beginsB, pathsAV]; done) | (simp_all [beginsB, pathsAV]; omega)
  ·
   refine aQ tok 10 rfl ?_
   refine an ?_
   refine AGo.ret ?_
   refine ⟨[_], ⟨rfl, trivial⟩, ?_, HSub.put (HSub.none _) rfl⟩
   show AV.bool _ = AV.bool _
   congr 1
   first | (simp_all [beginsB, pathsAV]; done) | (simp_all [beginsB, pathsAV]; omega)
 ·
  refine aQ tok 16 rfl ?_
  refine an ?_
  refine AGo.ret ?_
  refine ⟨[_], ⟨rfl, trivial⟩, ?_, HSub.put (HSub.none _) rfl⟩
  show AV.bool _ = AV.bool _
  congr 1
  first | (simp_all [beginsB, pathsAV]; done) | (simp_all [beginsB, pathsAV]; omega)
set_option maxRecDepth 100000 in
theorem leads_ok (last b : Block) (paths : List (List Int)) (hpn : ∀ p ∈ paths, p ≠ []) : APure Tryz.prog 147 [.agg last.cells, .agg b.cells, pathsAV paths] (fun r => r = .bool (leadsB last b paths)) := by
 refine APure.of_body (n := 60) tok Tryz.func147 rfl rfl ?_
 refine asr ?_
 refine ax 3 (obx 5 0) ?_
 refine ax 4 (obx 5 1) ?_
 refine ax 5 (obx 1 2) ?_
 refine aa 6 ?_
 refine an ?_
 refine AGo.seq ?_
 refine asr ?_
 refine aQ tok 6 rfl ?_
 refine aop 15 (fun hb1 => ?_) fun hb1 => ?_
 ·
  refine aQ tok 6 rfl ?_
  refine an ?_
  refine act ?_
  refine asr ?_
  refine aa 6 ?_
  refine an ?_
  refine AGo.ret ?_
  first
  | exact absurd (show (b.fin == 2) = true from ‹_›) z28q
  | (refine ⟨[_], ⟨rfl, trivial⟩, ?_, rfl⟩
     show AV.bool _ = AV.bool _
     congr 1
     simp only [leadsB, leadsTo, leadsEl, *, cond_true, cond_false, Bool.not_true, Bool.not_false, Bool.true_and, Bool.false_and, Bool.and_true, Bool.and_false, Bool.true_or, Bool.or_true, Bool.false_or, Bool.or_false])
 ·
  refine aQ tok 6 rfl ?_
  refine an ?_
  refine asp 21 (fun hb2 => ?_) fun hb2 => ?_
  ·
   refine act ?_
   refine asr ?_
   refine aa 6 ?_
   refine an ?_
   refine AGo.ret ?_
   first
   | exact absurd (show (b.fin == 2) = true from ‹_›) z28q
   | (refine ⟨[_], ⟨rfl, trivial⟩, ?_, rfl⟩
      show AV.bool _ = AV.bool _
      congr 1
      simp only [leadsB, leadsTo, leadsEl, *, cond_true, cond_false, Bool.not_true, Bool.not_false, Bool.true_and, Bool.false_and, Bool.and_true, Bool.and_false, Bool.true_or, Bool.or_true, Bool.false_or, Bool.or_false])
  ·
   refine acf ?_
   refine AGo.skip ?_
   refine asr ?_
   refine aq 22 (q_makeFunc rfl rfl rfl) ?_
   refine aa 7 ?_
   refine an ?_
   refine AGo.seq ?_
   refine AGo.draw mix ?_
   refine dQ tok 12 rfl ?_
   refine DOps.nil (by kernel_rfl) ?_
   refine AGo.seq ?_
   refine asr ?_
   refine aQ tok 4 rfl ?_
   refine aop 36 (fun hb3 => ?_) fun hb3 => ?_
   ·
    refine aQ tok 4 rfl ?_;refine an ?_;refine act ?_;refine AGo.region ?_;refine aQ tok 5 rfl ?_;refine ax 46 (o_callF (hc := (hput hNew 2 (.row false 1 [[pathsAV paths]]))) (hw := (hput hNone 2 (.row false 1 [[pathsAV paths]]))) [2] [(2, (.row false 1 [[pathsAV paths]]))] rfl rfl Tryz.func153 (by kernel_rfl) rfl rfl rfl ⟨⟨_, rfl, rfl⟩, trivial⟩ rfl (hres_cons rfl (hres_nil _)) ⟨⟨_, rfl, rfl, rfl⟩, trivial⟩ rfl (begins_ok paths b.to last.to hpn)) ?_;refine aa 8 ?_;refine an ?_;refine AGo.seq ?_;refine asr ?_;refine aQ tok 3 rfl ?_;refine an ?_;refine asp 49 (fun hb4 => ?_) fun hb4 => ?_
    ·
     refine act ?_;refine AGo.region ?_;refine aQ tok 5 rfl ?_;refine ax 55 (o_callF (hc := (hput hNew 2 (.row false 1 [[pathsAV paths]]))) (hw := (hput hNone 2 (.row false 1 [[pathsAV paths]]))) [2] [(2, (.row false 1 [[pathsAV paths]]))] rfl rfl Tryz.func153 (by kernel_rfl) rfl rfl rfl ⟨⟨_, rfl, rfl⟩, trivial⟩ rfl (hres_cons rfl (hres_nil _)) ⟨⟨_, rfl, rfl, rfl⟩, trivial⟩ rfl (begins_ok paths b.els last.els hpn)) ?_;refine aa 9 ?_;refine an ?_;refine asr ?_;refine aQ tok 2 rfl ?_;refine aop 57 (fun hb5 => ?_) fun hb5 => ?_
     ·
      refine aQ tok 3 rfl ?_;refine an ?_;refine AGo.ret ?_
      first
      | exact absurd (show (b.fin == 2) = true from ‹_›) z28q
      | (refine ⟨[_], ⟨rfl, trivial⟩, ?_, rfl⟩
         show AV.bool _ = AV.bool _
         congr 1
         simp only [leadsB, leadsTo, leadsEl, *, cond_true, cond_false, Bool.not_true, Bool.not_false, Bool.true_and, Bool.false_and, Bool.and_true, Bool.and_false, Bool.true_or, Bool.or_true, Bool.false_or, Bool.or_false])
     ·
      refine aQ tok 3 rfl ?_;refine an ?_;refine AGo.ret ?_
      first
      | exact absurd (show (b.fin == 2) = true from ‹_›) z28q
      | (refine ⟨[_], ⟨rfl, trivial⟩, ?_, rfl⟩
         show AV.bool _ = AV.bool _
         congr 1
         simp only [leadsB, leadsTo, leadsEl, *, cond_true, cond_false, Bool.not_true, Bool.not_false, Bool.true_and, Bool.false_and, Bool.and_true, Bool.and_false, Bool.true_or, Bool.or_true, Bool.false_or, Bool.or_false])
    ·
     refine acf ?_;refine AGo.skip ?_;refine asr ?_;refine aQ tok 2 rfl ?_;refine aop 57 (fun hb6 => ?_) fun hb6 => ?_
     ·
      refine aQ tok 3 rfl ?_;refine an ?_;refine AGo.ret ?_
      first
      | exact absurd (show (b.fin == 2) = true from ‹_›) z28q
      | (refine ⟨[_], ⟨rfl, trivial⟩, ?_, rfl⟩
         show AV.bool _ = AV.bool _
         congr 1
         simp only [leadsB, leadsTo, leadsEl, *, cond_true, cond_false, Bool.not_true, Bool.not_false, Bool.true_and, Bool.false_and, Bool.and_true, Bool.and_false, Bool.true_or, Bool.or_true, Bool.false_or, Bool.or_false])
     ·
      refine aQ tok 3 rfl ?_;refine an ?_;refine AGo.ret ?_
      first
      | exact absurd (show (b.fin == 2) = true from ‹_›) z28q
      | (refine ⟨[_], ⟨rfl, trivial⟩, ?_, rfl⟩
         show AV.bool _ = AV.bool _
         congr 1
         simp only [leadsB, leadsTo, leadsEl, *, cond_true, cond_false, Bool.not_true, Bool.not_false, Bool.true_and, Bool.false_and, Bool.and_true, Bool.and_false, Bool.true_or, Bool.or_true, Bool.false_or, Bool.or_false])
   ·
    refine aQ tok 4 rfl ?_;refine an ?_;refine asp 40 (fun hb7 => ?_) fun hb7 => ?_
    ·
     refine act ?_;refine AGo.region ?_;refine aQ tok 5 rfl ?_;refine ax 46 (o_callF (hc := (hput hNew 2 (.row false 1 [[pathsAV paths]]))) (hw := (hput hNone 2 (.row false 1 [[pathsAV paths]]))) [2] [(2, (.row false 1 [[pathsAV paths]]))] rfl rfl Tryz.func153 (by kernel_rfl) rfl rfl rfl ⟨⟨_, rfl, rfl⟩, trivial⟩ rfl (hres_cons rfl (hres_nil _)) ⟨⟨_, rfl, rfl, rfl⟩, trivial⟩ rfl (begins_ok paths b.to last.to hpn)) ?_;refine aa 8 ?_;refine an ?_;refine AGo.seq ?_;refine asr ?_;refine aQ tok 3 rfl ?_;refine an ?_;refine asp 49 (fun hb8 => ?_) fun hb8 => ?_
     ·
      refine act ?_;refine AGo.region ?_;refine aQ tok 5 rfl ?_;refine ax 55 (o_callF (hc := (hput hNew 2 (.row false 1 [[pathsAV paths]]))) (hw := (hput hNone 2 (.row false 1 [[pathsAV paths]]))) [2] [(2, (.row false 1 [[pathsAV paths]]))] rfl rfl Tryz.func153 (by kernel_rfl) rfl rfl rfl ⟨⟨_, rfl, rfl⟩, trivial⟩ rfl (hres_cons rfl (hres_nil _)) ⟨⟨_, rfl, rfl, rfl⟩, trivial⟩ rfl (begins_ok paths b.els last.els hpn)) ?_;refine aa 9 ?_;refine an ?_;refine asr ?_;refine aQ tok 2 rfl ?_;refine aop 57 (fun hb9 => ?_) fun hb9 => ?_
      ·
       refine aQ tok 3 rfl ?_;refine an ?_;refine AGo.ret ?_
       first
       | exact absurd (show (b.fin == 2) = true from ‹_›) z28q
       | (refine ⟨[_], ⟨rfl, trivial⟩, ?_, rfl⟩
          show AV.bool _ = AV.bool _
          congr 1
          simp only [leadsB, leadsTo, leadsEl, *, cond_true, cond_false, Bool.not_true, Bool.not_false, Bool.true_and, Bool.false_and, Bool.and_true, Bool.and_false, Bool.true_or, Bool.or_true, Bool.false_or, Bool.or_false])
      ·
       refine aQ tok 3 rfl ?_;refine an ?_;refine AGo.ret ?_
       first
       | exact absurd (show (b.fin == 2) = true from ‹_›) z28q
       | (refine ⟨[_], ⟨rfl, trivial⟩, ?_, rfl⟩
          show AV.bool _ = AV.bool _
          congr 1
          simp only [leadsB, leadsTo, leadsEl, *, cond_true, cond_false, Bool.not_true, Bool.not_false, Bool.true_and, Bool.false_and, Bool.and_true, Bool.and_false, Bool.true_or, Bool.or_true, Bool.false_or, Bool.or_false])
     ·
      refine acf ?_;refine AGo.skip ?_;refine asr ?_;refine aQ tok 2 rfl ?_;refine aop 57 (fun hb10 => ?_) fun hb10 => ?_
      ·
       refine aQ tok 3 rfl ?_;refine an ?_;refine AGo.ret ?_
       first
       | exact absurd (show (b.fin == 2) = true from ‹_›) z28q
       | (refine ⟨[_], ⟨rfl, trivial⟩, ?_, rfl⟩
          show AV.bool _ = AV.bool _
          congr 1
          simp only [leadsB, leadsTo, leadsEl, *, cond_true, cond_false, Bool.not_true, Bool.not_false, Bool.true_and, Bool.false_and, Bool.and_true, Bool.and_false, Bool.true_or, Bool.or_true, Bool.false_or, Bool.or_false])
      ·
       refine aQ tok 3 rfl ?_;refine an ?_;refine AGo.ret ?_
       first
       | exact absurd (show (b.fin == 2) = true from ‹_›) z28q
       | (refine ⟨[_], ⟨rfl, trivial⟩, ?_, rfl⟩
          show AV.bool _ = AV.bool _
          congr 1
          simp only [leadsB, leadsTo, leadsEl, *, cond_true, cond_false, Bool.not_true, Bool.not_false, Bool.true_and, Bool.false_and, Bool.and_true, Bool.and_false, Bool.true_or, Bool.or_true, Bool.false_or, Bool.or_false])
    ·
     refine acf ?_;refine AGo.skip ?_;refine AGo.seq ?_;refine asr ?_;refine aQ tok 3 rfl ?_;refine an ?_;refine asp 49 (fun hb11 => ?_) fun hb11 => ?_
     ·
      refine act ?_;refine AGo.region ?_;refine aQ tok 5 rfl ?_;refine ax 55 (o_callF (hc := (hput hNew 2 (.row false 1 [[pathsAV paths]]))) (hw := (hput hNone 2 (.row false 1 [[pathsAV paths]]))) [2] [(2, (.row false 1 [[pathsAV paths]]))] rfl rfl Tryz.func153 (by kernel_rfl) rfl rfl rfl ⟨⟨_, rfl, rfl⟩, trivial⟩ rfl (hres_cons rfl (hres_nil _)) ⟨⟨_, rfl, rfl, rfl⟩, trivial⟩ rfl (begins_ok paths b.els last.els hpn)) ?_;refine aa 9 ?_;refine an ?_;refine asr ?_;refine aQ tok 2 rfl ?_;refine aop 57 (fun hb12 => ?_) fun hb12 => ?_
      ·
       refine aQ tok 3 rfl ?_;refine an ?_;refine AGo.ret ?_
       first
       | exact absurd (show (b.fin == 2) = true from ‹_›) z28q
       | (refine ⟨[_], ⟨rfl, trivial⟩, ?_, rfl⟩
          show AV.bool _ = AV.bool _
          congr 1
          simp only [leadsB, leadsTo, leadsEl, *, cond_true, cond_false, Bool.not_true, Bool.not_false, Bool.true_and, Bool.false_and, Bool.and_true, Bool.and_false, Bool.true_or, Bool.or_true, Bool.false_or, Bool.or_false])
      ·
       refine aQ tok 3 rfl ?_;refine an ?_;refine AGo.ret ?_
       first
       | exact absurd (show (b.fin == 2) = true from ‹_›) z28q
       | (refine ⟨[_], ⟨rfl, trivial⟩, ?_, rfl⟩
          show AV.bool _ = AV.bool _
          congr 1
          simp only [leadsB, leadsTo, leadsEl, *, cond_true, cond_false, Bool.not_true, Bool.not_false, Bool.true_and, Bool.false_and, Bool.and_true, Bool.and_false, Bool.true_or, Bool.or_true, Bool.false_or, Bool.or_false])
     ·
      refine acf ?_;refine AGo.skip ?_;refine asr ?_;refine aQ tok 2 rfl ?_;refine aop 57 (fun hb13 => ?_) fun hb13 => ?_
      ·
       refine aQ tok 3 rfl ?_;refine an ?_;refine AGo.ret ?_
       first
       | exact absurd (show (b.fin == 2) = true from ‹_›) z28q
       | (refine ⟨[_], ⟨rfl, trivial⟩, ?_, rfl⟩
          show AV.bool _ = AV.bool _
          congr 1
          simp only [leadsB, leadsTo, leadsEl, *, cond_true, cond_false, Bool.not_true, Bool.not_false, Bool.true_and, Bool.false_and, Bool.and_true, Bool.and_false, Bool.true_or, Bool.or_true, Bool.false_or, Bool.or_false])
      ·
       refine aQ tok 3 rfl ?_;refine an ?_;refine AGo.ret ?_
       first
       | exact absurd (show (b.fin == 2) = true from ‹_›) z28q
       | (refine ⟨[_], ⟨rfl, trivial⟩, ?_, rfl⟩
          show AV.bool _ = AV.bool _
          congr 1
          simp only [leadsB, leadsTo, leadsEl, *, cond_true, cond_false, Bool.not_true, Bool.not_false, Bool.true_and, Bool.false_and, Bool.and_true, Bool.and_false, Bool.true_or, Bool.or_true, Bool.false_or, Bool.or_false])
set_option maxRecDepth 100000 in
theorem check_ok (old new : BFunc) (paths : List (List Int)) (hnl : ∀ x ∈ new.blocks, x.ins.length ≤ 1000000000) (hpl : paths.length ≤ 2000000) (hps : ∀ p ∈ paths, p.length ≤ 2000000) : APure Tryz.prog 143 [.agg old.cells, .agg new.cells, pathsAV paths] (fun r => r = .bool (checkB old new paths)) := by
 refine APure.of_body (n := 104) tok Tryz.func143 rfl rfl ?_
 refine asr ?_
 refine ax 3 (obx 2 0) ?_
 refine ax 4 (obx 2 1) ?_
 refine aa 6 ?_
 refine an ?_
 refine AGo.seq ?_
 refine asr ?_
 refine aQ tok 4 rfl ?_
 refine aop 16 (fun hb1 => ?_) fun hb1 => ?_
 ·
  refine aQ tok 14 rfl ?_
  refine an ?_
  refine act ?_
  refine asr ?_
  refine aa 6 ?_
  refine an ?_
  refine AGo.ret ⟨[_], ⟨rfl, trivial⟩, ?_, rfl⟩
  show AV.bool _ = AV.bool _
  congr 1
  refine (check_bad1 (fun h => ?_)).symm
  obtain ⟨q1, q2, q3⟩ := h
  simp_all [pathsAV, blocksAV]
 ·
  refine aQ tok 8 rfl ?_
  refine aop 24 (fun hb2 => ?_) fun hb2 => ?_
  ·
   refine aQ tok 6 rfl ?_
   refine an ?_
   refine act ?_
   refine asr ?_
   refine aa 6 ?_
   refine an ?_
   refine AGo.ret ⟨[_], ⟨rfl, trivial⟩, ?_, rfl⟩
   show AV.bool _ = AV.bool _
   congr 1
   refine (check_bad1 (fun h => ?_)).symm
   obtain ⟨q1, q2, q3⟩ := h
   simp_all [pathsAV, blocksAV]
  ·
   refine aQ tok 6 rfl ?_
   refine an ?_
   refine asp 30 (fun hb3 => ?_) fun hb3 => ?_
   ·
    refine act ?_;refine asr ?_;refine aa 6 ?_;refine an ?_;refine AGo.ret ⟨[_], ⟨rfl, trivial⟩, ?_, rfl⟩
    show AV.bool _ = AV.bool _
    congr 1
    refine (check_bad1 (fun h => ?_)).symm
    obtain ⟨q1, q2, q3⟩ := h
    simp_all [pathsAV, blocksAV]
   ·
    refine acf ?_
    have h0 : paths.length ≠ 0 ∧ paths.length = new.blocks.length ∧ old.regs = new.regs := by simp_all [pathsAV, blocksAV] <;> omega
    refine AGo.skip ?_;refine AGo.seq ?_;refine asr ?_;refine aQ tok 3 rfl ?_;refine an ?_;refine AGo.block ?_;refine AGo.loopD (γ := Nat) 2 (fun k => ⟨104, (eput (eput (eput (eput (eput (eput eNew 2 (pathsAV paths)) 3 (.ptr 0 1 0 0)) 4 (.ptr 1 1 0 0)) 31 (pathsAV paths)) 32 (.int .i64 (paths.length : Int))) 33 (.int .i64 (k : Int))), (hput (hput (hFrom 2) 0 (.row false 2 [old.cells])) 1 (.row false 2 [new.cells]))⟩) (fun k => (paths.take k).all (pathIn old.blocks.length) = true) (fun k => paths.length - k) 0 (Sub.mk' z13q z6q) rfl (fun _ => hput_free (hput_free (fun b hb => hFrom_free hb) rfl) rfl) ?_
    intro k hF
    refine asr ?_;refine aqb ?_;refine an ?_;refine AGo.seq ?_;refine asp 34 (fun hb4 => ?_) fun hb4 => ?_
    ·
     refine act ?_
     have hkl : k < paths.length := by simpa using hb4
     obtain ⟨p, hp⟩ := get_of_lt hkl
     have hpp := hps p (List.mem_of_getElem? hp)
     refine AGo.skip ?_;refine AGo.seq ?_;refine AGo.block ?_;refine asr ?_;refine aq 35 (qil tok (idx_map hp)) ?_;refine aQ tok 2 rfl ?_;refine an ?_;refine AGo.seq ?_;refine asr ?_;refine aQ tok 3 rfl ?_;refine an ?_;refine asp 39 (fun hb5 => ?_) fun hb5 => ?_
     ·
      refine act ?_
      have hpe : (p.length == 0) = true := by have h := hb5; simp at h; simp [h]
      refine asr ?_;refine aa 6 ?_;refine an ?_;refine AGo.ret ⟨[_], ⟨rfl, trivial⟩, ?_, rfl⟩
      show AV.bool _ = AV.bool _
      congr 1
      exact (check_bad2 (all_bad hp (by simp [pathIn, hpe]))).symm
     ·
      refine acf ?_
      have hpe : (p.length == 0) = false := by have h := hb5; simp at h; simp [h]
      refine AGo.skip ?_;refine asr ?_;refine aQ tok 3 rfl ?_;refine an ?_;refine AGo.block ?_;refine AGo.loopD (γ := Nat) 2 (fun j => ⟨104, (eput (eput (eput (eput (eput (eput (eput (eput (eput (eput eNew 2 (pathsAV paths)) 3 (.ptr 0 1 0 0)) 4 (.ptr 1 1 0 0)) 31 (pathsAV paths)) 32 (.int .i64 (paths.length : Int))) 33 (.int .i64 (k : Int))) 8 (intsAV p)) 40 (intsAV p)) 41 (.int .i64 (p.length : Int))) 42 (.int .i64 (j : Int))), (hput (hput (hFrom 2) 0 (.row false 2 [old.cells])) 1 (.row false 2 [new.cells]))⟩) (fun j => (p.take j).all (fun i => !(decide (i < 0)) && !(decide (i ≥ (old.blocks.length : Int)))) = true) (fun j => p.length - j) 0 (Sub.mk' z13q z6q) rfl (fun _ => hput_free (hput_free (fun b hb => hFrom_free hb) rfl) rfl) ?_
      intro j hG
      refine asr ?_;refine aqb ?_;refine an ?_;refine AGo.seq ?_;refine asp 43 (fun hb6 => ?_) fun hb6 => ?_
      ·
       refine act ?_
       have hjl : j < p.length := by simpa using hb6
       obtain ⟨y, hy⟩ := get_of_lt hjl
       refine AGo.skip ?_;refine AGo.seq ?_;refine AGo.block ?_;refine asr ?_;refine aq 44 (qil tok (idx_map hy)) ?_;refine aQ tok 2 rfl ?_;refine an ?_;refine asr ?_;refine aQ tok 3 rfl ?_;refine aop 48 (fun hb7 => ?_) fun hb7 => ?_
       ·
        refine aQ tok 6 rfl ?_;refine an ?_;refine act ?_;refine asr ?_;refine aa 6 ?_;refine an ?_;refine AGo.ret ⟨[_], ⟨rfl, trivial⟩, ?_, rfl⟩
        show AV.bool _ = AV.bool _
        congr 1
        exact (check_bad2 (all_bad hp (by simp only [pathIn]; rw [all_bad (p := (fun i => !(decide (i < 0)) && !(decide (i ≥ (old.blocks.length : Int))))) hy (by simp_all [blocksAV])]; simp))).symm
       ·
        refine aQ tok 6 rfl ?_;refine an ?_;refine asp 54 (fun hb8 => ?_) fun hb8 => ?_
        ·
         refine act ?_;refine asr ?_;refine aa 6 ?_;refine an ?_;refine AGo.ret ⟨[_], ⟨rfl, trivial⟩, ?_, rfl⟩
         show AV.bool _ = AV.bool _
         congr 1
         exact (check_bad2 (all_bad hp (by simp only [pathIn]; rw [all_bad (p := (fun i => !(decide (i < 0)) && !(decide (i ≥ (old.blocks.length : Int))))) hy (by simp_all [blocksAV])]; simp))).symm
        ·
         refine acf ?_;refine AGo.skip ?_;refine AGo.region ?_;refine aq 55 (q_inc rfl rfl hjl (by simp only [maxLen]; omega)) ?_;refine am 42 ?_;refine an ?_;exact ⟨j+1, Drop.mk' z15q z10q, (all_succ hy hG (by simp_all [blocksAV])), by omega⟩
      ·
       refine acf ?_
       have hge2 : p.length ≤ j := by simpa using hb6
       refine AGo.exit ?_;refine AGo.region ?_;refine aq 56 (q_inc rfl rfl hkl (by simp only [maxLen]; omega)) ?_;refine am 33 ?_;refine an ?_;exact ⟨k+1, Drop.mk' z15q z10q, (all_succ hp hF (by simp only [pathIn, hpe, Bool.not_false, Bool.true_and]; exact all_end hG hge2)), by omega⟩
    ·
     refine acf ?_
     have hge : paths.length ≤ k := by simpa using hb4
     have hall := all_end hF hge
     have hp00 := pathK_get (paths := paths) (k := 0) (by omega)
     have hp01 := headZ_get (pathIn_inF (List.all_eq_true.1 hall _ (List.mem_of_getElem? hp00))).1
     refine AGo.exit ?_;refine AGo.seq ?_;refine asr ?_;refine am 57 ?_;refine aq 58 (q_index_lst tok rfl rfl rfl rfl rfl rfl (by decide) (cs := pathCell (pathK paths 0)) (idx_mapZ hp00) rfl) ?_;refine al 59 tok ?_;refine aq 60 (q_index_lst tok rfl rfl rfl rfl rfl rfl (by decide) (cs := [.int .i64 (headZ (pathK paths 0))]) (by show (List.map (fun b => [AV.int .i64 b]) (pathK paths 0))[0]? = _; rw [List.getElem?_map, hp01]; rfl) rfl) ?_;refine aQ tok 2 rfl ?_;refine an ?_;refine asp 62 (fun hb9 => ?_) fun hb9 => ?_
     ·
      refine act ?_
      have hz := hb9
      refine asr ?_;refine aa 6 ?_;refine an ?_;refine AGo.ret ⟨[_], ⟨rfl, trivial⟩, ?_, rfl⟩
      show AV.bool _ = AV.bool _
      congr 1
      exact (check_bad3 hz).symm
     ·
      refine acf ?_
      have hz := hb9
      refine AGo.skip ?_;refine AGo.seq ?_;refine asr ?_;refine aQ tok 3 rfl ?_;refine an ?_;refine AGo.block ?_;refine AGo.loopD (γ := Nat) 2 (fun k => ⟨104, (eput (eput (eput (eput (eput (eput eNew 2 (pathsAV paths)) 3 (.ptr 0 1 0 0)) 4 (.ptr 1 1 0 0)) 63 (pathsAV paths)) 64 (.int .i64 (paths.length : Int))) 65 (.int .i64 (k : Int))), (hput (hput (hFrom 2) 0 (.row false 2 [old.cells])) 1 (.row false 2 [new.cells]))⟩) (fun k => (paths.zipIdx.take k).all (stepB old new paths) = true) (fun k => paths.length - k) 0 (Sub.mk' z13q z6q) rfl (fun _ => hput_free (hput_free (fun b hb => hFrom_free hb) rfl) rfl) ?_
      intro k hS
      refine asr ?_;refine aqb ?_;refine an ?_;refine AGo.seq ?_;refine asp 66 (fun hb10 => ?_) fun hb10 => ?_
      ·
       refine act ?_
       have hkl : k < paths.length := by simpa using hb10
       obtain ⟨p, hp⟩ := get_of_lt hkl
       have hpp := hps p (List.mem_of_getElem? hp)
       have hpin := pathIn_inF (List.all_eq_true.1 hall p (List.mem_of_getElem? hp))
       have hnb : new.blocks[((k : Nat) : Int).toNat]? = some (new.blockAt k) := blockAt_get (by omega)
       have hlast := hpin.2 _ (last_mem hpin.1)
       refine AGo.skip ?_;refine AGo.seq ?_;refine AGo.block ?_;refine asr ?_;refine am 67 ?_;refine aq 68 (qil tok (idx_map hp)) ?_;refine aQ tok 3 rfl ?_;refine an ?_;refine AGo.seq ?_;refine AGo.seq ?_;refine AGo.draw mix ?_;refine dQ tok 2 rfl ?_;refine dx 72 (opu Tryz.func145 (follows_ok old p hpin hpp)) ?_;refine dQ tok 2 rfl ?_;refine DOps.split 74 rfl (fun hb11 => ?_) (fun hb11 => ?_)
       ·
        refine dQ tok 10 rfl ?_;refine DOps.nil (by kernel_rfl) ?_;refine act ?_;refine asr ?_;refine aa 6 ?_;refine an ?_;refine AGo.ret ⟨[_], ⟨rfl, trivial⟩, ?_, rfl⟩
        show AV.bool _ = AV.bool _
        congr 1
        exact (check_bad4 (all_bad (zipIdx_get hp) (by simp_all [stepB]))).symm
       ·
        refine dQ tok 4 rfl ?_;refine dq 79 (q_index_lst tok rfl rfl rfl rfl rfl rfl (Int.natCast_nonneg _) (cs := (new.blockAt k).cells) (idx_mapZ hnb) rfl) ?_;refine dQ tok 2 rfl ?_;refine dx 82 (opu Tryz.func146 (made_ok old (new.blockAt k) p hpin hpp (hnl _ (List.mem_of_getElem? hnb)))) ?_;refine dQ tok 2 rfl ?_;refine DOps.nil (by kernel_rfl) ?_;refine asp 84 (fun hb12 => ?_) fun hb12 => ?_
        ·
         refine act ?_;refine asr ?_;refine aa 6 ?_;refine an ?_;refine AGo.ret ⟨[_], ⟨rfl, trivial⟩, ?_, rfl⟩
         show AV.bool _ = AV.bool _
         congr 1
         exact (check_bad4 (all_bad (zipIdx_get hp) (by simp_all [stepB]))).symm
        ·
         refine acf ?_;refine AGo.skip ?_;refine AGo.seq ?_;refine AGo.draw mix ?_;refine dQ tok 5 rfl ?_;refine dq 90 (q_bin (r := .int .i64 ((p.length - 1 : Nat) : Int)) rfl rfl rfl (by rw [List.length_map]; exact len_pred (List.length_pos_iff.2 hpin.1) (by omega))) ?_;refine dq 91 (q_index_lst tok rfl rfl rfl rfl rfl rfl (Int.natCast_nonneg _) (cs := [.int .i64 (lastOf p)]) (by show (List.map (fun b => [AV.int .i64 b]) p)[_]? = _; rw [Int.toNat_natCast, List.getElem?_map, last_get hpin.1]; rfl) rfl) ?_;refine dl 92 tok ?_;refine dq 93 (q_index_lst tok rfl rfl rfl rfl rfl rfl hlast.1 (idx_mapZ (blockAt_get hlast)) rfl) ?_;refine dQ tok 4 rfl ?_;refine dq 98 (q_index_lst tok rfl rfl rfl rfl rfl rfl (Int.natCast_nonneg _) (cs := (new.blockAt k).cells) (idx_mapZ hnb) rfl) ?_;refine dQ tok 2 rfl ?_;refine dx 101 (opu Tryz.func147 (leads_ok (old.blockAt (lastOf p)) (new.blockAt k) paths (fun p hp => (pathIn_inF (List.all_eq_true.1 hall p hp)).1))) ?_
         refine dq 102 (q_not rfl rfl) ?_;refine DOps.nil (by kernel_rfl) ?_;refine asp 102 (fun hb13 => ?_) fun hb13 => ?_
         ·
          refine act ?_;refine asr ?_;refine aa 6 ?_;refine an ?_;refine AGo.ret ⟨[_], ⟨rfl, trivial⟩, ?_, rfl⟩
          show AV.bool _ = AV.bool _
          congr 1
          exact (check_bad4 (all_bad (zipIdx_get hp) (by simp_all [stepB]))).symm
         ·
          refine acf ?_;refine AGo.skip ?_;refine AGo.region ?_;refine aq 103 (q_inc rfl rfl hkl (by simp only [maxLen]; omega)) ?_;refine am 65 ?_;refine an ?_;exact ⟨k+1, Drop.mk' z15q z10q, (all_succ (zipIdx_get hp) hS (by simp_all [stepB])), by omega⟩
      ·
       refine acf ?_
       have hge3 : paths.length ≤ k := by simpa using hb10
       refine AGo.exit ?_;refine asr ?_;refine aa 6 ?_;refine an ?_;refine AGo.ret ⟨[_], ⟨rfl, trivial⟩, ?_, rfl⟩
       show AV.bool _ = AV.bool _
       congr 1
       exact (check_good h0.1 h0.2.1 h0.2.2 hall hz (all_end hS (by rw [List.length_zipIdx]; exact hge3))).symm
theorem pass_ok {f : BFunc} {p : OPass} (hf : I35 f) (hp : P35 p) (hk : kind35 p.kind = true) : HoldsOk p f :=
  holdsOk_of hk (vcheck_ok f p.f hf.n hp.f.n hf.i hp.f.i p.cert) (check_ok f p.f p.paths (fun x hx => Nat.le_trans (hp.f.i x hx).1 (by decide)) (Nat.le_trans hp.n (by decide)) (fun q hq => Nat.le_trans (hp.q q hq) (by decide)))
theorem checkL_ok (a b : Blocks) (ls : List (List OPass)) (ha : a.funcs.length ≤ 1048576) (hI : ∀ f ∈ a.funcs, I35 f) (hl : ∀ l ∈ ls, l.length ≤ 1048576 ∧ ∀ p ∈ l, P35 p) : APure Tryz.prog 18 [.agg a.cells, .agg b.cells, listAV ls] (fun r => r = .bool (ocheck a b ls)) :=
  check35_ok a b ls ha (fun _ _ f hf g hg l h => leads35_ok f g l (hl l h).1 I35 (hI f hf) (fun _ h => h.lim) (fun p hp => ⟨((hl l h).2 p hp).f, fun x hx hk => pass_ok hx ((hl l h).2 p hp) hk⟩))
theorem i35_tiny : I35 tinyA ∧ I35 tinyB ∧ I35 tinyC := by
  refine ⟨⟨by decide, fun x hx t ht => ?_⟩, ⟨by decide, fun x hx t ht => ?_⟩, ⟨by decide, fun x hx t ht => ?_⟩⟩ <;> (first | simp only [tinyA, List.mem_singleton] at hx | simp only [tinyB, List.mem_singleton] at hx | simp only [tinyC, List.mem_singleton] at hx) <;> subst hx <;> simp only [List.mem_cons, List.not_mem_nil, or_false] at ht <;> rcases ht with rfl | rfl | rfl | rfl <;> exact ⟨by decide, by decide⟩
theorem vlog_ok : LogOk Tryz.prog vlog := by
  obtain ⟨h1, h2, h3⟩ := i35_tiny
  exact logOk_cons ((vcheck_ok tinyB tinyC h2.n h3.n h2.i h3.i certF).mono fun r h => by rw [h]; rfl) <| logOk_cons ((vcheck_ok tinyB tinyB h2.n h2.n h2.i h2.i certT).mono fun r h => by rw [h]; rfl) <| logOk_cons ((vcheck_ok tinyA tinyB h1.n h2.n h1.i h2.i certT).mono fun r h => by rw [h]; rfl) (logOk_nil _)
set_option maxHeartbeats 2000000 in
set_option maxRecDepth 100000 in
theorem optimizeJoins_ok (w : Way35) (hw : WayLim w) : APure Tryz.prog 11 [.agg w.cells] (fun r => r = .bool true) := by
 obtain ⟨hA, hB, hC, hl, hm, hAw, hBw⟩ := hw
 refine APure.of_body (n := 87) tok Tryz.func11 rfl rfl ?_
 refine asr ?_
 refine ax 1 (obx 8 0) ?_
 refine aa 2 ?_
 refine an ?_
 refine AGo.seq ?_
 refine asr ?_
 refine aQ tok 6 rfl ?_
 refine aq 11 (q_build tok rfl rfl rfl rfl rfl (by decide) rfl rfl rfl) ?_
 refine ax 12 (opu Tryz.func20 (few35_ok ⟨w.a, w.b, w.l, ⟨#[]⟩⟩ hA hB hl)) ?_
 refine aQ tok 2 rfl ?_
 refine aop 14 (fun hb1 => ?_) fun hb1 => ?_
 ·
  refine aQ tok 39 rfl ?_
  refine an ?_
  refine act ?_
  refine asr ?_
  refine ax 54 (opu Tryz.func14 (awake_ev tiny_of vlog_ok)) ?_
  refine aa 2 ?_
  refine an ?_
  refine AGo.ret ⟨[_], ⟨rfl, trivial⟩, ?_, rfl⟩
  rfl
 ·
  have hF1 := few35_of (z := ⟨w.a, w.b, w.l, ⟨#[]⟩⟩) (by simpa using hb1)
  refine aQ tok 6 rfl ?_
  refine aq 21 (q_build tok rfl rfl rfl rfl rfl (by decide) rfl rfl rfl) ?_
  refine ax 22 (opu Tryz.func20 (few35_ok ⟨w.b, w.c, w.m, ⟨#[]⟩⟩ hB hC hm)) ?_
  refine aQ tok 3 rfl ?_
  refine aop 25 (fun hb2 => ?_) fun hb2 => ?_
  ·
   refine aQ tok 28 rfl ?_
   refine an ?_
   refine act ?_
   refine asr ?_
   refine ax 54 (opu Tryz.func14 (awake_ev tiny_of vlog_ok)) ?_
   refine aa 2 ?_
   refine an ?_
   refine AGo.ret ⟨[_], ⟨rfl, trivial⟩, ?_, rfl⟩
   rfl
  ·
   have hF2 := few35_of (z := ⟨w.b, w.c, w.m, ⟨#[]⟩⟩) (by simpa using hb2)
   refine aQ tok 6 rfl ?_
   refine ax 32 (opu Tryz.func18 (checkL_ok w.a w.b w.l hA.n (hF1.old.i hAw) (fun ps hp => ⟨Nat.le_trans (hF1.pass hl ps hp).1 (by decide), (hF1.pass hl ps hp).2⟩))) ?_
   refine aQ tok 3 rfl ?_
   refine aop 35 (fun hb3 => ?_) fun hb3 => ?_
   ·
    refine aQ tok 18 rfl ?_;refine an ?_;refine act ?_;refine asr ?_;refine ax 54 (opu Tryz.func14 (awake_ev tiny_of vlog_ok)) ?_;refine aa 2 ?_;refine an ?_;refine AGo.ret ⟨[_], ⟨rfl, trivial⟩, ?_, rfl⟩
    rfl
   ·
    have hck1 : ocheck w.a w.b w.l = true := by simpa using hb3
    refine aQ tok 6 rfl ?_;refine ax 42 (opu Tryz.func18 (checkL_ok w.b w.c w.m hB.n (hF2.old.i hBw) (fun ps hp => ⟨Nat.le_trans (hF2.pass hm ps hp).1 (by decide), (hF2.pass hm ps hp).2⟩))) ?_;refine aQ tok 3 rfl ?_;refine aop 45 (fun hb4 => ?_) fun hb4 => ?_
    ·
     refine aQ tok 8 rfl ?_;refine an ?_;refine act ?_;refine asr ?_;refine ax 54 (opu Tryz.func14 (awake_ev tiny_of vlog_ok)) ?_;refine aa 2 ?_;refine an ?_;refine AGo.ret ⟨[_], ⟨rfl, trivial⟩, ?_, rfl⟩
     rfl
    ·
     have hck2 : ocheck w.b w.c w.m = true := by simpa using hb4
     refine aQ tok 8 rfl ?_;refine an ?_;refine asp 53 (fun hb5 => ?_) fun hb5 => ?_
     ·
      refine act ?_;refine asr ?_;refine ax 54 (opu Tryz.func14 (awake_ev tiny_of vlog_ok)) ?_;refine aa 2 ?_;refine an ?_;refine AGo.ret ⟨[_], ⟨rfl, trivial⟩, ?_, rfl⟩
      rfl
     ·
      refine acf ?_
      have hlm : w.l.length = w.m.length := by have h := hb5; simp at h; omega
      have hl8 := hF1.l
      refine AGo.skip ?_;refine asr ?_;refine aa 3 ?_;refine an ?_;refine AGo.seq ?_;refine AGo.seq ?_;refine AGo.ghost (.weakSlot 3 rfl (fun H ι v h => rel_nil0 h)) ?_;refine AGo.region ?_;refine aa 4 ?_;refine an ?_;refine AGo.block ?_;refine AGo.loopD (γ := Nat) 2 (fun k => ⟨87, (eput (eput (eput eNew 1 (.ptr 0 1 0 0)) 3 (slA 1 (appC w.l w.m k))) 4 (.int .i64 (k : Int))), (hput (hput (hFrom 2) 0 (.row false 8 [w.cells])) 1 (slO 1 (appC w.l w.m k)))⟩) (fun k => k ≤ w.l.length) (fun k => w.l.length - k) 0 (Sub.mk' z13q z6q) (Nat.zero_le _) (fun _ => hput_free (hput_free (fun b hb => hFrom_free hb) rfl) rfl) ?_
      intro k hk
      refine AGo.seq ?_;refine asr ?_;refine aQ tok 5 rfl ?_;refine an ?_;refine asp 59 (fun hb6 => ?_) fun hb6 => ?_
      ·
       refine act ?_
       have hkl := lt_of_idx hb6
       obtain ⟨x, hx⟩ := get_of_lt hkl
       obtain ⟨y, hy⟩ := get_of_lt (l := w.m) (k := k) (by omega)
       have hx8 := (hF1.p x (List.mem_of_getElem? hx)).1
       have hy8 := (hF2.p y (List.mem_of_getElem? hy)).1
       have hl8' : w.l.length ≤ 8 := hl8
       refine AGo.skip ?_;refine AGo.seq ?_;refine AGo.block ?_;refine AGo.ghost (.loosen 1 rfl) ?_;refine AGo.draw mix ?_;refine dm 62 ?_;refine dx 63 (o_litRow tok 2 true rfl rfl rfl rfl rfl rfl (by decide) rfl rfl rfl rfl z26q rfl rfl) ?_;refine dQ tok 3 rfl ?_;refine dq 67 (qil tok (idx_map hx)) ?_;refine dl 68 tok ?_;refine dx 69 (o_append tok (n := 0) (m := x.length) (es := []) (es2 := x.map OPass.cells) rfl rfl rfl rfl rfl rfl rfl rfl rfl rfl rfl rfl (Nat.zero_lt_succ _) (.lst _ _) (opass_len _) (fun _ => opass_pure _) (by rw [List.length_map]) (by rw [List.length_map]; show (0 + _) * 88 ≤ _; omega) (by rw [List.length_map]; simp only [List.length_nil, maxLen]; omega)) ?_;refine dQ tok 3 rfl ?_;refine dq 73 (qil tok (idx_map hy)) ?_;refine dl 74 tok ?_;refine dx 75 (o_append tok (n := 0 + x.length) (m := y.length) (es := [] ++ x.map OPass.cells) (es2 := y.map OPass.cells) rfl rfl rfl rfl rfl rfl rfl rfl rfl (by simp) rfl rfl (Nat.zero_lt_succ _) (.lst _ _) (opass_len _) (fun _ => opass_pure _) (by rw [List.length_map]) (by rw [List.length_map, List.nil_append, List.length_map]; show (_ + _) * 88 ≤ _; omega) (by rw [List.length_map, List.nil_append, List.length_map]; simp only [maxLen]; omega)) ?_
       refine dx 76 (o_litRow tok 3 false rfl rfl rfl rfl rfl rfl (by decide) rfl rfl rfl rfl z26q rfl rfl) ?_;refine dx 77 (o_append1S tok (b := 1) (es := (appC w.l w.m k)) (x0 := [.ref 2 (0 + x.length + y.length) 0 (0 + x.length + y.length)]) rfl rfl rfl rfl rfl rfl rfl rfl rfl rfl rfl (Nat.zero_lt_succ _) (SrcOf.ref 3 1 0 1 false 1 [[.ref 2 (0 + x.length + y.length) 0 (0 + x.length + y.length)]] rfl rfl) rfl (by rw [appC_len hlm hk]; show _ * 24 ≤ _; omega) (by rw [appC_len hlm hk]; simp only [maxLen]; omega)) ?_;refine da 3 ?_;refine DOps.nil (by kernel_rfl) ?_;refine AGo.ghost (.endLast (es2 := ([] ++ x.map OPass.cells) ++ y.map OPass.cells) 1 2 rfl rfl (by simp) (by decide) (appC_pure _ _ _)) ?_
       rw [appC_succ hx hy]
       refine AGo.region ?_;refine am 60 ?_;refine aq 61 (q_inc rfl rfl hkl (by have : w.l.length ≤ 8 := hl8; simp only [maxLen]; omega)) ?_;refine aa 4 ?_;refine an ?_;exact ⟨k+1, Drop.mk' (by repeat (first | exact EDrop.new _ _ | refine EDrop.put ?_ (by first | rfl | exact appC_slot hx hy _) (by first | rfl | exact slA_avoid _ rfl | exact vaA_avoid _ rfl))) (by repeat (first | exact HDrop.none _ _ | exact HDrop.tail _ _ | refine HDrop.put ?_ (by rfl) rfl (by first | rfl | exact slO_avoid _ _))), hkl, by omega⟩
      ·
       refine acf ?_
       have hge := ge_of_idx hb6
       refine AGo.exit ?_;refine AGo.seq ?_;refine AGo.ghost (.endJ (f := (appC w.l w.m k).isEmpty) 3 1 rfl rfl) ?_
       rw [appC_all hlm hge]
       refine AGo.region ?_;refine ax 78 (opu Tryz.func14 (awake_ev tiny_of vlog_ok)) ?_;refine aQ tok 6 rfl ?_;refine ax 85 (opu Tryz.func18 ((checkL_ok w.a w.c (zipApp w.l w.m) hA.n (hF1.old.i hAw) (fun ps hp => ⟨Nat.le_trans (zip_pass (fun q hq => hF1.pass hl q hq) (fun q hq => hF2.pass hm q hq) ps hp).1 (by decide), (zip_pass (fun q hq => hF1.pass hl q hq) (fun q hq => hF2.pass hm q hq) ps hp).2⟩)).mono (fun r h => by rw [h, ocheck_join hck1 hck2 hlm]))) ?_
       refine aQ tok 2 rfl ?_;refine an ?_;refine AGo.ret ⟨[_], ⟨rfl, trivial⟩, ?_, rfl⟩
       rfl
end Go.Proofs.YtbbfelelocccmaaGreat.Sv

namespace Go.Proofs.YtbbfelelocccmaaGreat
open Go.ChangeShapes Go.WideShapes Go.ChangeAt Go.RowKit Sv
section
variable {H : Type} {enc : TypeId × Value → H} {W : World}
end
end Go.Proofs.YtbbfelelocccmaaGreat

namespace Go.Proofs.YtbbfelelocccmaaGreat
open Go Go.ChangeShapes Go.WideShapes Go.ChangeAt Go.RowKit Sv
section
variable {H : Type} {enc : TypeId × Value → H} {W : World}
theorem decIntsR : DecR enc Tryz.prog W 25 (fun l : List Int => [intsAV l]) (fun l n => (∀ x ∈ l, isI x) ∧ l.length + 1 ≤ n) := fun fuel cs x h hw => by
  obtain ⟨l, h1, _, h2⟩ := DecR.slice' (j := ty3) tok rfl rfl rfl (Nat.zero_lt_succ _) (DecR.of (Dec.int' tok rfl rfl)) fuel cs x h hw
  refine ⟨l, h1, fun y hy => ?_, h2.len (fun a m h => h.2)⟩
  obtain ⟨m, hm, _⟩ := h2.all y hy; exact wf_i64 hm.1
theorem decPathsR : DecR enc Tryz.prog W 38 (fun l : List (List Int) => [pathsAV l]) (fun l n => l.length + 1 ≤ n ∧ ∀ r ∈ l, r.length + 1 ≤ n) := fun fuel cs x h hw => by
  obtain ⟨l, h1, _, h2⟩ := DecR.slice' (j := ty25) tok rfl rfl rfl (Nat.zero_lt_succ _) decIntsR fuel cs x h hw
  refine ⟨l, h1, h2.len (fun a m h => by have := h.2; omega), fun y hy => ?_⟩
  obtain ⟨m, hm, h3⟩ := h2.all y hy; have := hm.2; omega
theorem decBools : Dec enc Tryz.prog W 112 (fun l : List Bool => [boolsAV l]) (fun l => l.length * 1 ≤ reachBytes ∧ ∀ n ∈ l, True) := Dec.slice' (j := ty4) tok rfl rfl rfl (Nat.zero_lt_succ _) (Dec.bool' tok rfl rfl)
theorem decRows : Dec enc Tryz.prog W 35 (fun l : List (List Bool) => [rowsAV l]) (fun l => True) := fun fuel cs x h hw => by
  obtain ⟨l, h1, h2⟩ := Dec.slice' (j := ty112) tok rfl rfl rfl (Nat.zero_lt_succ _) decBools fuel cs x h hw
  exact ⟨l, h1, trivial⟩
theorem decCert : Dec enc Tryz.prog W 37 Cert.cells (fun _ => True) := fun fuel cs x h hw => by
  obtain ⟨hl, hp⟩ := struct_parts tok (i := ty37) rfl rfl h hw
  have hl' : cs.length = 1 := hl
  obtain ⟨x0, a0, b0⟩ := hp 0 _ _ rfl decRows
  have c0 := app1 tok (n := 1) rfl rfl (Reads.nil W cs) a0 (by omega)
  exact ⟨⟨x0⟩, c0.all hl', trivial⟩
def PassN (p : OPass) (n : Nat) : Prop := p.f.Ok ∧ isI p.kind ∧ p.f.count + 1 ≤ n ∧ p.paths.length ≤ n ∧ ∀ r ∈ p.paths, r.length ≤ n
theorem decPassR : DecR enc Tryz.prog W 43 OPass.cells PassN := fun fuel cs x h hw => by
  obtain ⟨hl, hp⟩ := struct_partsR (i := ty43) tok rfl rfl h hw
  have hl' : cs.length = 5 := hl
  obtain ⟨x0, a0, _, _, b0, _⟩ := hp 0 _ _ rfl (DecR.of (Dec.int' tok rfl rfl))
  obtain ⟨x1, a1, _, _, b1, _⟩ := hp 1 _ _ rfl (DecR.of decCert)
  obtain ⟨x2, a2, m2, c2, d2, e2⟩ := hp 2 _ _ rfl decPathsR
  obtain ⟨x3, a3, m3, c3, d3, e3⟩ := hp 3 _ _ rfl decBFuncR
  have k0 := app1 tok (n := 1) rfl rfl (Reads.nil W cs) a0 (by omega)
  have k1 := app1 tok (n := 1) rfl rfl k0 a1 (by omega)
  have k2 := app1 tok (n := 1) rfl rfl k1 a2 (by omega)
  have k3 := app1 tok (n := 2) rfl rfl k2 a3 (by omega)
  exact ⟨⟨x0, x1, x2, x3⟩, k3.all hl', d3, wf_i64 b0, (by show x3.count + 1 ≤ _; omega), (by show x2.length ≤ _; omega), fun r hr => by have := e2 r hr; omega⟩
def ListsN (ls : List (List OPass)) (n : Nat) : Prop := ls.length + 1 ≤ n ∧ ∀ ps ∈ ls, ps.length ≤ n ∧ ∀ p ∈ ps, PassN p n
theorem PassN.mono {p : OPass} {m n : Nat} (h : PassN p m) (hm : m ≤ n) : PassN p n := ⟨h.1, h.2.1, Nat.le_trans h.2.2.1 hm, Nat.le_trans h.2.2.2.1 hm, fun r hr => Nat.le_trans (h.2.2.2.2 r hr) hm⟩
theorem decListsR : DecR enc Tryz.prog W 28 (fun ls : List (List OPass) => [listAV ls]) ListsN := fun fuel cs x h hw => by
  obtain ⟨ls, h1, _, h2⟩ := DecR.slice' (j := ty34) tok rfl rfl rfl (Nat.zero_lt_succ _) (DecR.slice' (j := ty43) tok rfl rfl rfl (Nat.zero_lt_succ _) decPassR) fuel cs x h hw
  have one : ∀ (a : OPass) (m : Nat), PassN a m → 1 ≤ m := fun a m h => by have := h.2.2.1; omega
  refine ⟨ls, h1, h2.len (fun a m h => by have := h.2.len one; omega), fun ps hps => ?_⟩
  obtain ⟨m, ⟨_, hm⟩, h3⟩ := h2.all ps hps
  refine ⟨by have := hm.len one; omega, fun p hp => ?_⟩
  obtain ⟨k, hk, h4⟩ := hm.all p hp
  exact hk.mono (by omega)
theorem lists_row {ls : List (List OPass)} {n : Nat} (h : ListsN ls n) (hn : n ≤ 1048576) : ListLim ls := by
  refine ⟨by have := h.1; omega, fun ps hp => by have := (h.2 ps hp).1; omega, fun ps hp p hpp => ?_⟩
  have q := ((h.2 ps hp).2 p hpp).mono hn
  exact ⟨by have := q.2.2.1; omega, fun x hx => BFunc.Ok.insW q.1 hx, q.2.2.2.1, q.2.2.2.2⟩
theorem words_row {b : Blocks} (h : b.Ok) : ∀ f ∈ b.funcs, f.words := fun f hf x hx => BFunc.Ok.insW (h.funcs f hf) hx
end
end Go.Proofs.YtbbfelelocccmaaGreat

namespace Go.Proofs.YtbbfelelocccmaaGreat
open Go Go.ChangeShapes Go.WideShapes Go.ChangeAt Go.RowKit Sv
section
variable {H : Type} {enc : TypeId × Value → H} {W : World}
def WayN (w : Way35) (n : Nat) : Prop := (w.a.Ok ∧ w.a.count + w.a.funcs.length ≤ n) ∧ (w.b.Ok ∧ w.b.count + w.b.funcs.length ≤ n) ∧ (w.c.Ok ∧ w.c.count + w.c.funcs.length ≤ n) ∧ ListsN w.l n ∧ ListsN w.m n
theorem ListsN.mono {ls : List (List OPass)} {m n : Nat} (h : ListsN ls m) (hm : m ≤ n) : ListsN ls n := ⟨Nat.le_trans h.1 hm, fun ps hps => ⟨Nat.le_trans (h.2 ps hps).1 hm, fun p hp => ((h.2 ps hps).2 p hp).mono hm⟩⟩
theorem decWayR : DecR enc Tryz.prog W 64 Way35.cells WayN := fun fuel cs x h hw => by
  obtain ⟨hl, hp⟩ := struct_partsR (i := ty64) tok rfl rfl h hw
  have hl' : cs.length = 8 := hl
  obtain ⟨x0, a0, m0, c0, d0, e0⟩ := hp 0 _ _ rfl decBlocksR
  obtain ⟨x1, a1, m1, c1, d1, e1⟩ := hp 1 _ _ rfl decBlocksR
  obtain ⟨x2, a2, m2, c2, d2, e2⟩ := hp 2 _ _ rfl decBlocksR
  obtain ⟨x3, a3, m3, c3, d3⟩ := hp 3 _ _ rfl decListsR
  obtain ⟨x4, a4, m4, c4, d4⟩ := hp 4 _ _ rfl decListsR
  have k0 := app1 tok (n := 2) rfl rfl (Reads.nil W cs) a0 (by omega)
  have k1 := app1 tok (n := 2) rfl rfl k0 a1 (by omega)
  have k2 := app1 tok (n := 2) rfl rfl k1 a2 (by omega)
  have k3 := app1 tok (n := 1) rfl rfl k2 a3 (by omega)
  have k4 := app1 tok (n := 1) rfl rfl k3 a4 (by omega)
  exact ⟨⟨x0, x1, x2, x3, x4⟩, k4.all hl', ⟨d0, (by show x0.count + x0.funcs.length ≤ _; omega)⟩, ⟨d1, (by show x1.count + x1.funcs.length ≤ _; omega)⟩, ⟨d2, (by show x2.count + x2.funcs.length ≤ _; omega)⟩, d3.mono (by omega), d4.mono (by omega)⟩
theorem way_row {w : Way35} {n : Nat} (h : WayN w n) (hn : n ≤ 1048576) : WayLim w := ⟨lim_row h.1 hn, lim_row h.2.1 hn, lim_row h.2.2.1 hn, lists_row h.2.2.2.1 hn, lists_row h.2.2.2.2 hn, words_row h.1.1, words_row h.2.1.1⟩
end
end Go.Proofs.YtbbfelelocccmaaGreat

namespace Go.Proofs.YtbbfelelocccmaaGreat
open Go.ChangeShapes Go.WideShapes Go.ChangeAt Go.RowKit Sv
set_option linter.unusedVariables false

set_option maxRecDepth 100000 in
theorem optimizeJoins_lifted (os : Os) (started : os.Started) (H : Type) (enc : TypeId × Value → H) (F : Stop.Interp) :
    ReturnsInHanded {} Tryz.checked os 11 .any ((Rows.OpenSpec.upto Rows.optimizeJoinsSpec).pre6 enc Tryz.prog Tryz.f11 Rows.optimizeJoinsUptoRow.domain false) (((Rows.OpenSpec.upto Rows.optimizeJoinsSpec).at F).post enc Tryz.prog Tryz.f11 false true false false) := by
  refine returnsInHanded_of_cond_sized (C := Tryz.checked) (s := Rows.OpenSpec.upto Rows.optimizeJoinsSpec) (k := Rows.uptoSmall) rfl own' started (by kernel_rfl) Tryz.func11
    (OpenSpec.witness (enc := enc) (C := Tryz.checked) (s := Rows.OpenSpec.upto Rows.optimizeJoinsSpec) (k := Rows.uptoSmall) rfl false ⟨#[], #[.agg #[.int .i64 0, .slice none 0 0, .int .i64 0, .slice none 0 0, .int .i64 0, .slice none 0 0, .slice none 0 0, .slice none 0 0]], []⟩ 8 (by kernel_rfl) (by kernel_rfl) (by kernel_rfl) (x := ([.agg [.agg [.lit (.int .i64 0), .nil], .agg [.lit (.int .i64 0), .nil], .agg [.lit (.int .i64 0), .nil], .nil, .nil]], [], [])) (by kernel_rfl) rfl (by kernel_rfl)) ?_
  intro W base args ds gs before hval0 hW hcnd hk hwt0 hh
  have hval : ∀ (j : Nat) t v, Tryz.f11.params[j]? = some t → args[j]? = some v → Value.okWide Tryz.prog W .any base t v := hval0
  have hW' := hW
  obtain ⟨p, q, hA0, hV, rfl, hfz, hnd⟩ := hW
  have hA : DataW.TrodAll enc Tryz.prog W 0 (fun _ => true) true Tryz.f11.params.toList args.toList ds p := hA0
  have hwt : (DataW.weightsEach Tryz.prog (Tryz.f11.params.toList ++ (Rows.OpenSpec.upto Rows.optimizeJoinsSpec).bare.plain.varTypes Tryz.prog) (ds ++ gs)).all (· ≤ reachBytes) = true := hwt0
  rw [Tryz.params11] at hA hval hwt
  obtain ⟨v0, vs0, d0, ds0, p0, q0, hargs, rfl, rfl, h0, r0⟩ := trodAll_cons hA
  obtain ⟨rfl, rfl, rfl⟩ := trodAll_nil r0
  obtain rfl : args = #[v0] := by cases args; simp_all
  obtain ⟨rfl, rfl⟩ := trodVars_none hV
  obtain ⟨x0, e0, g0⟩ := arg_oneR h0 (weightsEach_get hwt (i := 0) rfl rfl) decWayR
  have u0 := upto_get hk (i := 0) rfl
  exact law_calls laidOut' rfl (by kernel_rfl) rfl bool' rfl rfl rfl hW' (.cons (e0.val (okWide_agg tok rfl rfl (hval 0 64 v0 rfl rfl))) .nil) (optimizeJoins_ok x0 (way_row g0 u0)) (fun g l h => by cases h)

theorem optimizeJoins_holds : Rows.OptimizeJoinsUptoSaid :=
  OpenClaim.holds_of_cond 11 Tryz.f11 rfl rfl rfl rfl rfl rfl rfl ⟨rfl, rfl, rfl, rfl, rfl⟩ rfl rfl rfl rfl rfl (by kernel_rfl) Tryz.func11 (by kernel_rfl)
    (of_decide_eq_true (by kernel_rfl)) (by unfold Func.isWrapper; first | (rw [if_pos (by decide +kernel)]; kernel_rfl) | (rw [if_neg (by decide +kernel)]; exact ⟨rfl, rfl⟩))
    (fun os started H enc _ F => optimizeJoins_lifted os started H enc F)

end Go.Proofs.YtbbfelelocccmaaGreat
