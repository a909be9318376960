/-
  WALKS: printed by a program of our own from the code's tree.
-/
import Derived.Test.YtbbfelelocccmaaGreatPOptimizeChecks4
import Derived.Test.YtbbfelelocccmaaGreatPOptimizeChecks2
import Derived.Test.YtbbfelelocccmaaGreatPOptimizeChecks3
set_option linter.unusedVariables false
set_option linter.unusedSimpArgs false
set_option maxRecDepth 100000
set_option maxHeartbeats 2000000
namespace Go.Proofs.YtbbfelelocccmaaGreat.Sv
open Go
theorem small35_ok (b : Blocks) (hL : b.Lim) : APure Tryz.prog 13 [.agg b.cells] (fun r => r = .bool (small35 b)) := by
 have hn := hL.n
 refine APure.of_body (n := 37) tok Tryz.func13 rfl rfl ?_;refine asr ?_;refine ax 1 (obx 2 0) ?_;refine aa 2 ?_;refine an ?_;refine asq ?_;refine asr ?_;refine aQ tok 5 rfl ?_;refine aop 8 (fun hb1 => ?_) fun hb1 => ?_
 ·
  refine aQ tok 14 rfl ?_;refine an ?_;refine act ?_;refine asr ?_;refine aa 2 ?_;refine an ?_;refine agt ⟨[_], ⟨rfl, trivial⟩, ?_, rfl⟩
  refine bc ?_
  simp_all [small35]; try omega
 refine aQ tok 5 rfl ?_;refine aop 13 (fun hb2 => ?_) fun hb2 => ?_
 ·
  refine aQ tok 9 rfl ?_;refine an ?_;refine act ?_;refine asr ?_;refine aa 2 ?_;refine an ?_;refine agt ⟨[_], ⟨rfl, trivial⟩, ?_, rfl⟩
  refine bc ?_
  simp_all [small35]; try omega
 refine al 14 tok ?_;refine ax 15 (opu Tryz.func29 (right_ok b)) ?_;refine aQ tok 3 rfl ?_;refine aop 18 (fun hb3 => ?_) fun hb3 => ?_
 ·
  refine aQ tok 4 rfl ?_;refine an ?_;refine act ?_;refine asr ?_;refine aa 2 ?_;refine an ?_;refine agt ⟨[_], ⟨rfl, trivial⟩, ?_, rfl⟩
  refine bc ?_
  simp_all [small35]; try omega
 refine al 19 tok ?_;refine ax 20 (opu Tryz.func27 (rsize_ok b (by have := hL.c; omega))) ?_;refine aQ tok 2 rfl ?_;refine an ?_;refine asp 22 (fun hb4 => ?_) fun hb4 => ?_
 ·
  refine act ?_;refine asr ?_;refine aa 2 ?_;refine an ?_;refine agt ⟨[_], ⟨rfl, trivial⟩, ?_, rfl⟩
  refine bc ?_
  simp_all [small35]; try omega
 refine acf ?_
 have hg1 : b.funcs.length ≤ 6 := by have h := hb1; simp at h; omega
 have hg2 : b.words ≤ 400 := by have h := hb2; simp at h; omega
 have hg3 : b.right = true := by have h := hb3; simpa using h
 have hg4 : b.count ≤ 200 := by have h := hb4; simp at h; omega
 refine agk ?_;refine asq ?_;refine asr ?_;refine aa 3 ?_;refine an ?_;refine AGo.block ?_;refine AGo.loopD (γ := Nat) 1 (fun k => ⟨37, (eput (eput eNew 1 (.ptr 0 1 0 0)) 3 (.int .i64 (k : Int))), (hput (hFrom 1) 0 (.row false 2 [b.cells]))⟩) (fun k => k ≤ b.funcs.length ∧ (b.funcs.take k).all low35 = true) (fun k => b.funcs.length - k) 0 (Sub.mk' z29q z12q) ⟨Nat.zero_le _, rfl⟩ (fun _ => hput_free (fun b hb => hFrom_free hb) rfl) ?_
 intro k hF
 refine asq ?_;refine asr ?_;refine aQ tok 5 rfl ?_;refine an ?_;refine asp 27 (fun hb5 => ?_) fun hb5 => ?_
 ·
  refine act ?_
  have hkl := lt_of_idx hb5
  obtain ⟨f, hf⟩ := get_of_lt hkl
  refine agk ?_;refine asq ?_;refine AGo.block ?_;refine asr ?_;refine aQ tok 3 rfl ?_;refine aq 33 (qil tok (idx_map hf)) ?_;refine aQ tok 3 rfl ?_;refine an ?_;refine asp 36 (fun hb6 => ?_) fun hb6 => ?_
  ·
   refine act ?_
   have hno : ¬ f.regs ≤ 30 := by have h := hb6; simp at h; omega
   have hnall := low_no (List.mem_of_getElem? hf) hno
   refine asr ?_;refine aa 2 ?_;refine an ?_;refine agt ⟨[_], ⟨rfl, trivial⟩, ?_, rfl⟩
   refine bc ?_
   simp [small35, hnall]
  refine acf ?_
  have hyes : f.regs ≤ 30 := by have h := hb6; simp at h; omega
  refine agk ?_;refine agr ?_;refine am 28 ?_;refine aq 29 (q_inc rfl rfl hkl (by simp only [maxLen]; omega)) ?_;refine aa 3 ?_;refine an ?_;exact ⟨k+1, Drop.mk' z31q z18q, ⟨hkl, low_take hf hF.2 hyes⟩, by omega⟩
 refine acf ?_
 have hge := ge_of_idx hb5
 have hall : b.funcs.all low35 = true := by have h := hF.2; rwa [List.take_of_length_le hge] at h
 refine AGo.exit ?_;refine asr ?_;refine aa 2 ?_;refine an ?_;refine agt ⟨[_], ⟨rfl, trivial⟩, ?_, rfl⟩
 refine bc ?_
 simp [small35, hg1, hg2, hg3, hg4, hall]
theorem find_ok (k : Int) : APure Tryz.prog 31 [.int .i64 k] (fun r => r = .tup [.val (passV k), .bool (kind35 k)]) := by
 refine APure.of_body (n := 28) tok Tryz.func31 rfl rfl ?_;refine asr ?_;refine aQ tok 2 rfl ?_;refine an ?_;refine asr ?_;refine am 5 ?_;refine aq 6 (q_build tok rfl rfl rfl rfl rfl (by decide) rfl rfl rfl) ?_;refine ax 4 (oal tok 0) ?_;refine AOps.w rfl rfl (o_store tok rfl rfl rfl rfl rfl rfl rfl rfl rfl (by decide) rfl z51q) ?_;refine an ?_;refine asq ?_;refine asr ?_;refine am 7 ?_;refine an ?_;refine AGo.block ?_;refine asr ?_;refine aQ tok 2 rfl ?_;refine an ?_;refine asp 8 (fun hb1 => ?_) fun hb1 => ?_
 ·
  refine act ?_
  have hk1 : k = 1 := by simpa using hb1
  subst hk1
  refine asr ?_;refine al 10 tok ?_;refine aq 11 (q_build tok rfl rfl rfl rfl rfl (by decide) rfl rfl rfl) ?_;refine aq 12 (q_iface tok rfl rfl rfl rfl (by intro h; cases h)) ?_;refine aQ tok 2 rfl ?_;refine an ?_;refine agt ?_;refine ⟨[_, _], ⟨rfl, rfl, trivial⟩, ?_, rfl⟩
  rfl
 refine acf ?_
 have hn1 : k ≠ 1 := by simpa using hb1
 refine asr ?_;refine aQ tok 2 rfl ?_;refine an ?_;refine asp 13 (fun hb2 => ?_) fun hb2 => ?_
 ·
  refine act ?_
  have hk2 : k = 2 := by simpa using hb2
  subst hk2
  refine asr ?_;refine al 15 tok ?_;refine aq 16 (q_build tok rfl rfl rfl rfl rfl (by decide) rfl rfl rfl) ?_;refine aq 17 (q_iface tok rfl rfl rfl rfl (by intro h; cases h)) ?_;refine aQ tok 2 rfl ?_;refine an ?_;refine agt ?_;refine ⟨[_, _], ⟨rfl, rfl, trivial⟩, ?_, rfl⟩
  rfl
 refine acf ?_
 have hn2 : k ≠ 2 := by simpa using hb2
 refine asr ?_;refine aQ tok 2 rfl ?_;refine an ?_;refine asp 18 (fun hb3 => ?_) fun hb3 => ?_
 ·
  refine act ?_
  have hk3 : k = 3 := by simpa using hb3
  subst hk3
  refine asr ?_;refine al 20 tok ?_;refine aq 21 (q_build tok rfl rfl rfl rfl rfl (by decide) rfl rfl rfl) ?_;refine aq 22 (q_iface tok rfl rfl rfl rfl (by intro h; cases h)) ?_;refine aQ tok 2 rfl ?_;refine an ?_;refine agt ?_;refine ⟨[_, _], ⟨rfl, rfl, trivial⟩, ?_, rfl⟩
  rfl
 refine acf ?_
 have hn3 : k ≠ 3 := by simpa using hb3
 refine asr ?_;refine aQ tok 2 rfl ?_;refine an ?_;refine asp 23 (fun hb4 => ?_) fun hb4 => ?_
 ·
  refine act ?_
  have hk4 : k = 4 := by simpa using hb4
  subst hk4
  refine asr ?_;refine al 25 tok ?_;refine aq 26 (q_build tok rfl rfl rfl rfl rfl (by decide) rfl rfl rfl) ?_;refine aq 27 (q_iface tok rfl rfl rfl rfl (by intro h; cases h)) ?_;refine aQ tok 2 rfl ?_;refine an ?_;refine agt ?_;refine ⟨[_, _], ⟨rfl, rfl, trivial⟩, ?_, rfl⟩
  rfl
 refine acf ?_
 have hn4 : k ≠ 4 := by simpa using hb4
 refine agk ?_;refine asr ?_;refine aQ tok 2 rfl ?_;refine an ?_;refine agt ?_;refine ⟨[_, _], ⟨rfl, rfl, trivial⟩, ?_, rfl⟩
 rw [passV_no hn1 hn2 hn3 hn4, kind_no hn1 hn2 hn3 hn4]
 rfl
theorem cholds_ok (k : Int) (v : Value) (f : BFunc) (p : OPass) (hV : APure Tryz.prog 129 [.agg f.cells, .agg p.f.cells, .agg p.cert.cells] (fun r => r = .bool (vcheck f p.f p.cert))) : APure Tryz.prog 127 [.agg [.int .i64 k, .val v], .agg f.cells, .agg p.cells] (fun r => r = .bool (p.paths.isEmpty && vcheck f p.f p.cert)) := by
 refine APure.of_body (n := 19) tok Tryz.func127 rfl rfl ?_;refine asr ?_;refine ax 3 (obx 2 0) ?_;refine ax 4 (obx 2 1) ?_;refine ax 5 (obx 5 2) ?_;refine aa 6 ?_;refine an ?_;refine asr ?_;refine aQ tok 5 rfl ?_;refine aop 11 (fun hb1 => ?_) fun hb1 => ?_
 ·
  refine aQ tok 5 rfl ?_;refine ax 17 (opu Tryz.func129 (hV)) ?_;refine aQ tok 2 rfl ?_;refine an ?_;refine agt ⟨[_], ⟨rfl, trivial⟩, ?_, rfl⟩
  refine bc ?_
  cases e : p.paths <;> first | (simp_all; done) | (exfalso; simp_all; omega)
 refine aQ tok 8 rfl ?_;refine an ?_;refine agt ⟨[_], ⟨rfl, trivial⟩, ?_, rfl⟩
 refine bc ?_
 cases e : p.paths <;> first | (simp_all; done) | (exfalso; simp_all; omega)
theorem jholds_ok (k : Int) (f : BFunc) (p : OPass) (hT : APure Tryz.prog 143 [.agg f.cells, .agg p.f.cells, pathsAV p.paths] (fun r => r = .bool (checkB f p.f p.paths))) : APure Tryz.prog 141 [.agg [.int .i64 k], .agg f.cells, .agg p.cells] (fun r => r = .bool (p.cert.same.isEmpty && checkB f p.f p.paths)) := by
 refine APure.of_body (n := 20) tok Tryz.func141 rfl rfl ?_;refine asr ?_;refine ax 3 (obx 1 0) ?_;refine ax 4 (obx 2 1) ?_;refine ax 5 (obx 5 2) ?_;refine aa 6 ?_;refine an ?_;refine asr ?_;refine aQ tok 6 rfl ?_;refine aop 12 (fun hb1 => ?_) fun hb1 => ?_
 ·
  refine aQ tok 5 rfl ?_;refine ax 18 (opu Tryz.func143 (hT)) ?_;refine aQ tok 2 rfl ?_;refine an ?_;refine agt ⟨[_], ⟨rfl, trivial⟩, ?_, rfl⟩
  refine bc ?_
  cases e : p.cert.same <;> first | (simp_all; done) | (exfalso; simp_all; omega)
 refine aQ tok 8 rfl ?_;refine an ?_;refine agt ⟨[_], ⟨rfl, trivial⟩, ?_, rfl⟩
 refine bc ?_
 cases e : p.cert.same <;> first | (simp_all; done) | (exfalso; simp_all; omega)
theorem holdsOk_of {p : OPass} {f : BFunc} (hk : kind35 p.kind = true) (hV : APure Tryz.prog 129 [.agg f.cells, .agg p.f.cells, .agg p.cert.cells] (fun r => r = .bool (vcheck f p.f p.cert))) (hT : APure Tryz.prog 143 [.agg f.cells, .agg p.f.cells, pathsAV p.paths] (fun r => r = .bool (checkB f p.f p.paths))) : HoldsOk p f := by
  unfold HoldsOk
  rw [holds_of hk]
  rcases kind_cases hk with h | h | h | h <;> rw [h]
  · exact cholds_ok 1 _ f p hV
  · exact cholds_ok 2 _ f p hV
  · exact cholds_ok 3 _ f p hV
  · exact jholds_ok 4 f p hT
theorem few35_ok (z : Ask35) (hO : z.old.Lim) (hN : z.new.Lim) (hP : ListLim z.l) : APure Tryz.prog 20 [.agg z.cells] (fun r => r = .bool (few35 z)) := by
 have hn := hP.n
 refine APure.of_body (n := 82) tok Tryz.func20 rfl rfl ?_;refine asr ?_;refine ax 1 (obx 6 0) ?_;refine aa 2 ?_;refine an ?_;refine asq ?_;refine asr ?_;refine aQ tok 5 rfl ?_;refine aop 9 (fun hb1 => ?_) fun hb1 => ?_
 ·
  refine aQ tok 24 rfl ?_;refine an ?_;refine act ?_;refine asr ?_;refine aa 2 ?_;refine an ?_;refine agt ⟨[_], ⟨rfl, trivial⟩, ?_, rfl⟩
  refine bc ?_
  simp_all [few35]; try omega
 refine aQ tok 2 rfl ?_;refine ax 12 (opu Tryz.func13 (small35_ok z.old hO)) ?_;refine aQ tok 3 rfl ?_;refine aop 15 (fun hb2 => ?_) fun hb2 => ?_
 ·
  refine aQ tok 18 rfl ?_;refine an ?_;refine act ?_;refine asr ?_;refine aa 2 ?_;refine an ?_;refine agt ⟨[_], ⟨rfl, trivial⟩, ?_, rfl⟩
  refine bc ?_
  simp_all [few35]; try omega
 refine aQ tok 7 rfl ?_;refine aop 22 (fun hb3 => ?_) fun hb3 => ?_
 ·
  refine aQ tok 11 rfl ?_;refine an ?_;refine act ?_;refine asr ?_;refine aa 2 ?_;refine an ?_;refine agt ⟨[_], ⟨rfl, trivial⟩, ?_, rfl⟩
  refine bc ?_
  simp_all [few35]; try omega
 refine aQ tok 2 rfl ?_;refine ax 25 (opu Tryz.func27 (rsize_ok z.new (by have := hN.c; omega))) ?_;refine aQ tok 3 rfl ?_;refine aop 28 (fun hb4 => ?_) fun hb4 => ?_
 ·
  refine aQ tok 5 rfl ?_;refine an ?_;refine act ?_;refine asr ?_;refine aa 2 ?_;refine an ?_;refine agt ⟨[_], ⟨rfl, trivial⟩, ?_, rfl⟩
  refine bc ?_
  simp_all [few35]; try omega
 refine aQ tok 5 rfl ?_;refine an ?_;refine asp 33 (fun hb5 => ?_) fun hb5 => ?_
 ·
  refine act ?_;refine asr ?_;refine aa 2 ?_;refine an ?_;refine agt ⟨[_], ⟨rfl, trivial⟩, ?_, rfl⟩
  refine bc ?_
  simp_all [few35]; try omega
 refine acf ?_
 have hg1 : z.l.length ≤ 8 := by have h := hb1; simp at h; omega
 have hg2 : small35 z.old = true := by simpa using hb2
 have hg3 : z.new.funcs.length ≤ 8 := by have h := hb3; simp at h; omega
 have hg4 : z.new.count ≤ 300 := by have h := hb4; simp at h; omega
 have hg5 : z.s.size ≤ 60 := by have h := hb5; simp at h; omega
 refine agk ?_;refine asq ?_;refine asr ?_;refine aa 3 ?_;refine an ?_;refine AGo.block ?_;refine AGo.loopD (γ := Nat) 1 (fun k => ⟨82, (eput (eput eNew 1 (.ptr 0 1 0 0)) 3 (.int .i64 (k : Int))), (hput (hFrom 1) 0 (.row false 6 [z.cells]))⟩) (fun k => k ≤ z.l.length ∧ (z.l.take k).all fewP = true) (fun k => z.l.length - k) 0 (Sub.mk' z29q z12q) ⟨Nat.zero_le _, rfl⟩ (fun _ => hput_free (fun b hb => hFrom_free hb) rfl) ?_
 intro k hF
 refine asq ?_;refine asr ?_;refine aQ tok 5 rfl ?_;refine an ?_;refine asp 38 (fun hb6 => ?_) fun hb6 => ?_
 ·
  refine act ?_
  have hkl := lt_of_idx hb6
  obtain ⟨ps, hps⟩ := get_of_lt hkl
  have hpsl := hP.m ps (List.mem_of_getElem? hps)
  refine agk ?_;refine asq ?_;refine AGo.block ?_;refine asq ?_;refine asr ?_;refine aQ tok 3 rfl ?_;refine aq 44 (qil tok (idx_map hps)) ?_;refine aQ tok 3 rfl ?_;refine an ?_;refine asp 47 (fun hb7 => ?_) fun hb7 => ?_
  ·
   refine act ?_
   have hno : fewP ps = false := by have h := hb7; simp only [List.length_map, decide_eq_true_eq] at h; rw [fewP, decide_eq_false (by omega), Bool.false_and]
   refine asr ?_;refine aa 2 ?_;refine an ?_;refine agt ⟨[_], ⟨rfl, trivial⟩, ?_, rfl⟩
   refine bc ?_
   simp [few35, allq_no (List.mem_of_getElem? hps) hno]
  refine acf ?_
  have hp8 : ps.length ≤ 8 := by have h := hb7; simp only [List.length_map, decide_eq_false_iff_not] at h; omega
  refine agk ?_;refine asr ?_;refine aa 4 ?_;refine an ?_;refine AGo.block ?_;refine AGo.loopD (γ := Nat) 1 (fun j => ⟨82, (eput (eput (eput eNew 1 (.ptr 0 1 0 0)) 3 (.int .i64 (k : Int))) 4 (.int .i64 (j : Int))), (hput (hFrom 1) 0 (.row false 6 [z.cells]))⟩) (fun j => j ≤ ps.length ∧ (ps.take j).all fewO = true) (fun j => ps.length - j) 0 (Sub.mk' z29q z12q) ⟨Nat.zero_le _, rfl⟩ (fun _ => hput_free (fun b hb => hFrom_free hb) rfl) ?_
  intro j hJ
  refine asq ?_;refine asr ?_;refine aQ tok 4 rfl ?_;refine aq 52 (qil tok (idx_map hps)) ?_;refine aQ tok 3 rfl ?_;refine an ?_;refine asp 55 (fun hb8 => ?_) fun hb8 => ?_
  ·
   refine act ?_
   have hjl : j < ps.length := lt_of_idx hb8
   obtain ⟨p, hp⟩ := get_of_lt hjl
   refine agk ?_;refine asq ?_;refine AGo.block ?_;refine asr ?_;refine aQ tok 3 rfl ?_;refine aq 61 (qil tok (idx_map hps)) ?_;refine aQ tok 2 rfl ?_;refine aq 64 (qil tok (idx_map hp)) ?_;refine aQ tok 2 rfl ?_;refine ax 67 (opu Tryz.func35 (sizeFunc_ok p.f (by have := (hP.p ps (List.mem_of_getElem? hps) p (List.mem_of_getElem? hp)).c; omega))) ?_;refine aQ tok 2 rfl ?_;refine aop 69 (fun hb9 => ?_) fun hb9 => ?_
   ·
    refine aQ tok 12 rfl ?_;refine an ?_;refine act ?_
    have hno : fewO p = false := by simp_all [fewO]; try omega
    refine asr ?_;refine aa 2 ?_;refine an ?_;refine agt ⟨[_], ⟨rfl, trivial⟩, ?_, rfl⟩
    refine bc ?_
    simp [few35, allq_no (List.mem_of_getElem? hps) (fewP_no (List.mem_of_getElem? hp) hno)]
   refine aQ tok 3 rfl ?_;refine aq 73 (qil tok (idx_map hps)) ?_;refine aQ tok 2 rfl ?_;refine aq 76 (qil tok (idx_map hp)) ?_;refine aQ tok 5 rfl ?_;refine an ?_;refine asp 81 (fun hb10 => ?_) fun hb10 => ?_
   ·
    refine act ?_
    have hno : fewO p = false := by simp_all [fewO]; try omega
    refine asr ?_;refine aa 2 ?_;refine an ?_;refine agt ⟨[_], ⟨rfl, trivial⟩, ?_, rfl⟩
    refine bc ?_
    simp [few35, allq_no (List.mem_of_getElem? hps) (fewP_no (List.mem_of_getElem? hp) hno)]
   refine acf ?_
   have hyo : fewO p = true := by simp_all [fewO]; try omega
   refine agk ?_;refine agr ?_;refine am 56 ?_;refine aq 57 (q_inc rfl rfl hjl (by simp only [maxLen]; omega)) ?_;refine aa 4 ?_;refine an ?_;exact ⟨j+1, Drop.mk' z31q z18q, ⟨hjl, allq_take hp hJ.2 hyo⟩, by omega⟩
  refine acf ?_
  have hge2 : ps.length ≤ j := ge_of_idx hb8
  have hyes : fewP ps = true := by have h := hJ.2; rw [List.take_of_length_le hge2] at h; rw [fewP, h, decide_eq_true hp8]; rfl
  refine AGo.exit ?_;refine agr ?_;refine am 39 ?_;refine aq 40 (q_inc rfl rfl hkl (by simp only [maxLen]; omega)) ?_;refine aa 3 ?_;refine an ?_;exact ⟨k+1, Drop.mk' z31q z18q, ⟨hkl, allq_take hps hF.2 hyes⟩, by omega⟩
 refine acf ?_
 have hge := ge_of_idx hb6
 have hall : z.l.all fewP = true := by have h := hF.2; rwa [List.take_of_length_le hge] at h
 refine AGo.exit ?_;refine asr ?_;refine aa 2 ?_;refine an ?_;refine agt ⟨[_], ⟨rfl, trivial⟩, ?_, rfl⟩
 refine bc ?_
 simp [few35, hg1, hg2, hg3, hg4, hg5, hall]
theorem brest_ok (words f regs blocks : Int) (t : Tac) (hw : 0 ≤ words) (hw2 : words ≤ 1048576) : APure Tryz.prog 66 [(.agg [.int .i64 words, .int .i64 f, .int .i64 regs, .int .i64 blocks]), .agg t.cells] (fun q => q = .bool (t.rest2 f words)) := by
 refine APure.of_body (n := 115) tok Tryz.func66 rfl rfl ?_;refine asr ?_;refine ax 2 (obx 4 0) ?_;refine ax 3 (obx 8 1) ?_;refine aa 4 ?_;refine an ?_;refine asq ?_;refine asq ?_;refine AGo.join (γ := Unit) (fun _u => ⟨115, (eput (eput (eput eNew 2 (.ptr 0 1 0 0)) 3 (.ptr 1 1 0 0)) 23 (.bool ((t.op != 1 && t.n != 0) || (t.op != 3 && t.k != 0)))), (hput (hput (hFrom 2) 0 (.row false 4 [[.int .i64 words, .int .i64 f, .int .i64 regs, .int .i64 blocks]])) 1 (.row false 8 [t.cells]))⟩) (fun _u => True) ?_ ?_
 ·
  refine agr ?_;refine aQ tok 4 rfl ?_;refine aop 9 (fun hb1 => ?_) fun hb1 => ?_
  ·
   refine aQ tok 5 rfl ?_;refine aop 14 (fun hb2 => ?_) fun hb2 => ?_
   ·
    refine aQ tok 9 rfl ?_;refine an ?_;exact ⟨(), Sub.mk' z30q z12q, trivial⟩
   refine aQ tok 4 rfl ?_;refine aop 18 (fun hb3 => ?_) fun hb3 => ?_
   ·
    refine aQ tok 5 rfl ?_;refine an ?_;exact ⟨(), Sub.mk' z30q z12q, trivial⟩
   refine aQ tok 5 rfl ?_;refine an ?_;exact ⟨(), Sub.mk' z30q z12q, trivial⟩
  refine aQ tok 9 rfl ?_;refine aop 18 (fun hb4 => ?_) fun hb4 => ?_
  ·
   refine aQ tok 5 rfl ?_;refine an ?_;exact ⟨(), Sub.mk' z30q z12q, trivial⟩
  refine aQ tok 5 rfl ?_;refine an ?_;exact ⟨(), Sub.mk' z30q z12q, trivial⟩
 intro _u _
 refine asp 23 (fun hb5 => ?_) fun hb5 => ?_
 ·
  refine act ?_;refine asr ?_;refine aa 4 ?_;refine an ?_;refine agt ⟨[_], ⟨rfl, trivial⟩, ?_, rfl⟩
  refine bc ?_
  first | (simp_all [Tac.rest2, arrOp]; done) | (simp_all [Tac.rest2, arrOp]; omega)
 refine acf ?_
 have hq1 := hb5
 refine agk ?_;refine asq ?_;refine AGo.join (γ := Unit) (fun _u => ⟨115, (eput (eput (eput eNew 2 (.ptr 0 1 0 0)) 3 (.ptr 1 1 0 0)) 5 (.bool (arrOp t.op))), (hput (hput (hFrom 2) 0 (.row false 4 [[.int .i64 words, .int .i64 f, .int .i64 regs, .int .i64 blocks]])) 1 (.row false 8 [t.cells]))⟩) (fun _u => True) ?_ ?_
 ·
  refine agr ?_;refine aQ tok 4 rfl ?_;refine aop 27 (fun hb6 => ?_) fun hb6 => ?_
  ·
   refine aQ tok 5 rfl ?_;refine an ?_;exact ⟨(), Sub.mk' z30q z12q, trivial⟩
  refine aQ tok 5 rfl ?_;refine an ?_;exact ⟨(), Sub.mk' z30q z12q, trivial⟩
 intro _u _
 refine asq ?_;refine asq ?_;refine AGo.join (γ := Unit) (fun _u => ⟨115, (eput (eput (eput eNew 2 (.ptr 0 1 0 0)) 3 (.ptr 1 1 0 0)) 38 (.bool (!arrOp t.op && t.size != 0))), (hput (hput (hFrom 2) 0 (.row false 4 [[.int .i64 words, .int .i64 f, .int .i64 regs, .int .i64 blocks]])) 1 (.row false 8 [t.cells]))⟩) (fun _u => True) ?_ ?_
 ·
  refine agr ?_;refine aQ tok 3 rfl ?_;refine aop 34 (fun hb7 => ?_) fun hb7 => ?_
  ·
   refine aQ tok 4 rfl ?_;refine an ?_;exact ⟨(), Sub.mk' z30q z12q, trivial⟩
  refine aQ tok 4 rfl ?_;refine an ?_;exact ⟨(), Sub.mk' z30q z12q, trivial⟩
 intro _u _
 refine asp 38 (fun hb8 => ?_) fun hb8 => ?_
 ·
  refine act ?_;refine asr ?_;refine aa 4 ?_;refine an ?_;refine agt ⟨[_], ⟨rfl, trivial⟩, ?_, rfl⟩
  refine bc ?_
  first | (simp_all [Tac.rest2, arrOp]; done) | (simp_all [Tac.rest2, arrOp]; omega)
 refine acf ?_
 have hq2 := hb8
 refine agk ?_;refine asq ?_;refine asr ?_;refine aQ tok 2 rfl ?_;refine an ?_;refine AGo.block ?_;refine asq ?_;refine asr ?_;refine aQ tok 2 rfl ?_;refine an ?_;refine asp 41 (fun hb9 => ?_) fun hb9 => ?_
 ·
  refine act ?_;refine agk ?_;refine act ?_;refine asr ?_;refine aQ tok 4 rfl ?_;refine an ?_;refine agt ⟨[_], ⟨rfl, trivial⟩, ?_, rfl⟩
  refine bc ?_
  first | (simp_all [Tac.rest2, arrOp]; done) | (simp_all [Tac.rest2, arrOp]; omega)
 refine acf ?_;refine asr ?_;refine aQ tok 2 rfl ?_;refine an ?_;refine asp 41 (fun hb10 => ?_) fun hb10 => ?_
 ·
  refine act ?_;refine agk ?_;refine act ?_;refine asr ?_;refine aQ tok 4 rfl ?_;refine an ?_;refine agt ⟨[_], ⟨rfl, trivial⟩, ?_, rfl⟩
  refine bc ?_
  first | (simp_all [Tac.rest2, arrOp]; done) | (simp_all [Tac.rest2, arrOp]; omega)
 refine acf ?_;refine asr ?_;refine aQ tok 2 rfl ?_;refine an ?_;refine asp 41 (fun hb11 => ?_) fun hb11 => ?_
 ·
  refine act ?_;refine agk ?_;refine act ?_;refine asr ?_;refine aQ tok 4 rfl ?_;refine an ?_;refine agt ⟨[_], ⟨rfl, trivial⟩, ?_, rfl⟩
  refine bc ?_
  first | (simp_all [Tac.rest2, arrOp]; done) | (simp_all [Tac.rest2, arrOp]; omega)
 refine acf ?_;refine agr ?_;refine aQ tok 2 rfl ?_;refine an ?_;refine asp 41 (fun hb12 => ?_) fun hb12 => ?_
 ·
  refine act ?_;refine asr ?_;refine aQ tok 4 rfl ?_;refine an ?_;refine agt ⟨[_], ⟨rfl, trivial⟩, ?_, rfl⟩
  refine bc ?_
  first | (simp_all [Tac.rest2, arrOp]; done) | (simp_all [Tac.rest2, arrOp]; omega)
 refine acf ?_;refine asr ?_;refine aQ tok 2 rfl ?_;refine an ?_;refine asp 49 (fun hb13 => ?_) fun hb13 => ?_
 ·
  refine act ?_;refine asr ?_;refine aQ tok 4 rfl ?_;refine aop 54 (fun hb14 => ?_) fun hb14 => ?_
  ·
   refine aQ tok 5 rfl ?_;refine aop 59 (fun hb15 => ?_) fun hb15 => ?_
   ·
    refine aQ tok 5 rfl ?_;refine an ?_;refine agt ⟨[_], ⟨rfl, trivial⟩, ?_, rfl⟩
    refine bc ?_
    first | (simp_all [Tac.rest2, arrOp]; done) | (simp_all [Tac.rest2, arrOp]; omega)
   refine aQ tok 5 rfl ?_;refine an ?_;refine agt ⟨[_], ⟨rfl, trivial⟩, ?_, rfl⟩
   refine bc ?_
   first | (simp_all [Tac.rest2, arrOp]; done) | (simp_all [Tac.rest2, arrOp]; omega)
  refine aQ tok 10 rfl ?_;refine an ?_;refine agt ⟨[_], ⟨rfl, trivial⟩, ?_, rfl⟩
  refine bc ?_
  first | (simp_all [Tac.rest2, arrOp]; done) | (simp_all [Tac.rest2, arrOp]; omega)
 refine acf ?_;refine asq ?_;refine asr ?_;refine aQ tok 2 rfl ?_;refine an ?_;refine asp 64 (fun hb16 => ?_) fun hb16 => ?_
 ·
  refine act ?_;refine agk ?_;refine act ?_;refine asr ?_;refine aQ tok 4 rfl ?_;refine aop 70 (fun hb17 => ?_) fun hb17 => ?_
  ·
   refine aQ tok 7 rfl ?_;refine an ?_;refine agt ⟨[_], ⟨rfl, trivial⟩, ?_, rfl⟩
   refine bc ?_
   first | (simp_all [Tac.rest2, arrOp]; done) | (simp_all [Tac.rest2, arrOp]; omega)
  refine aQ tok 7 rfl ?_;refine an ?_;refine agt ⟨[_], ⟨rfl, trivial⟩, ?_, rfl⟩
  refine bc ?_
  first | (simp_all [Tac.rest2, arrOp]; done) | (simp_all [Tac.rest2, arrOp]; omega)
 refine acf ?_;refine agr ?_;refine aQ tok 2 rfl ?_;refine an ?_;refine asp 64 (fun hb18 => ?_) fun hb18 => ?_
 ·
  refine act ?_;refine asr ?_;refine aQ tok 4 rfl ?_;refine aop 70 (fun hb19 => ?_) fun hb19 => ?_
  ·
   refine aQ tok 7 rfl ?_;refine an ?_;refine agt ⟨[_], ⟨rfl, trivial⟩, ?_, rfl⟩
   refine bc ?_
   first | (simp_all [Tac.rest2, arrOp]; done) | (simp_all [Tac.rest2, arrOp]; omega)
  refine aQ tok 7 rfl ?_;refine an ?_;refine agt ⟨[_], ⟨rfl, trivial⟩, ?_, rfl⟩
  refine bc ?_
  first | (simp_all [Tac.rest2, arrOp]; done) | (simp_all [Tac.rest2, arrOp]; omega)
 refine acf ?_;refine asq ?_;refine asr ?_;refine aQ tok 2 rfl ?_;refine an ?_;refine asp 77 (fun hb20 => ?_) fun hb20 => ?_
 ·
  refine act ?_;refine agk ?_;refine act ?_;refine asr ?_;refine aQ tok 4 rfl ?_;refine aop 83 (fun hb21 => ?_) fun hb21 => ?_
  ·
   refine aQ tok 5 rfl ?_;refine aop 88 (fun hb22 => ?_) fun hb22 => ?_
   ·
    refine aQ tok 5 rfl ?_;refine aop 93 (fun hb23 => ?_) fun hb23 => ?_
    ·
     refine aQ tok 10 rfl ?_;refine an ?_;refine agt ⟨[_], ⟨rfl, trivial⟩, ?_, rfl⟩
     refine bc ?_
     rcases Decidable.em (1 ≤ t.size ∧ t.size ≤ 4096) with hsz | hsz
     · try rw [wrap_i64 (x := words - t.size) (by omega) (by omega)]
       first | (simp_all [Tac.rest2, arrOp]; done) | (simp_all [Tac.rest2, arrOp]; omega)
     · first | (simp_all [Tac.rest2, arrOp]; done) | (simp_all [Tac.rest2, arrOp]; omega)
    refine aQ tok 10 rfl ?_;refine an ?_;refine agt ⟨[_], ⟨rfl, trivial⟩, ?_, rfl⟩
    refine bc ?_
    rcases Decidable.em (1 ≤ t.size ∧ t.size ≤ 4096) with hsz | hsz
    · try rw [wrap_i64 (x := words - t.size) (by omega) (by omega)]
      first | (simp_all [Tac.rest2, arrOp]; done) | (simp_all [Tac.rest2, arrOp]; omega)
    · first | (simp_all [Tac.rest2, arrOp]; done) | (simp_all [Tac.rest2, arrOp]; omega)
   refine aQ tok 15 rfl ?_;refine an ?_;refine agt ⟨[_], ⟨rfl, trivial⟩, ?_, rfl⟩
   refine bc ?_
   rcases Decidable.em (1 ≤ t.size ∧ t.size ≤ 4096) with hsz | hsz
   · try rw [wrap_i64 (x := words - t.size) (by omega) (by omega)]
     first | (simp_all [Tac.rest2, arrOp]; done) | (simp_all [Tac.rest2, arrOp]; omega)
   · first | (simp_all [Tac.rest2, arrOp]; done) | (simp_all [Tac.rest2, arrOp]; omega)
  refine aQ tok 20 rfl ?_;refine an ?_;refine agt ⟨[_], ⟨rfl, trivial⟩, ?_, rfl⟩
  refine bc ?_
  rcases Decidable.em (1 ≤ t.size ∧ t.size ≤ 4096) with hsz | hsz
  · try rw [wrap_i64 (x := words - t.size) (by omega) (by omega)]
    first | (simp_all [Tac.rest2, arrOp]; done) | (simp_all [Tac.rest2, arrOp]; omega)
  · first | (simp_all [Tac.rest2, arrOp]; done) | (simp_all [Tac.rest2, arrOp]; omega)
 refine acf ?_;refine agr ?_;refine aQ tok 2 rfl ?_;refine an ?_;refine asp 77 (fun hb24 => ?_) fun hb24 => ?_
 ·
  refine act ?_;refine asr ?_;refine aQ tok 4 rfl ?_;refine aop 83 (fun hb25 => ?_) fun hb25 => ?_
  ·
   refine aQ tok 5 rfl ?_;refine aop 88 (fun hb26 => ?_) fun hb26 => ?_
   ·
    refine aQ tok 5 rfl ?_;refine aop 93 (fun hb27 => ?_) fun hb27 => ?_
    ·
     refine aQ tok 10 rfl ?_;refine an ?_;refine agt ⟨[_], ⟨rfl, trivial⟩, ?_, rfl⟩
     refine bc ?_
     rcases Decidable.em (1 ≤ t.size ∧ t.size ≤ 4096) with hsz | hsz
     · try rw [wrap_i64 (x := words - t.size) (by omega) (by omega)]
       first | (simp_all [Tac.rest2, arrOp]; done) | (simp_all [Tac.rest2, arrOp]; omega)
     · first | (simp_all [Tac.rest2, arrOp]; done) | (simp_all [Tac.rest2, arrOp]; omega)
    refine aQ tok 10 rfl ?_;refine an ?_;refine agt ⟨[_], ⟨rfl, trivial⟩, ?_, rfl⟩
    refine bc ?_
    rcases Decidable.em (1 ≤ t.size ∧ t.size ≤ 4096) with hsz | hsz
    · try rw [wrap_i64 (x := words - t.size) (by omega) (by omega)]
      first | (simp_all [Tac.rest2, arrOp]; done) | (simp_all [Tac.rest2, arrOp]; omega)
    · first | (simp_all [Tac.rest2, arrOp]; done) | (simp_all [Tac.rest2, arrOp]; omega)
   refine aQ tok 15 rfl ?_;refine an ?_;refine agt ⟨[_], ⟨rfl, trivial⟩, ?_, rfl⟩
   refine bc ?_
   rcases Decidable.em (1 ≤ t.size ∧ t.size ≤ 4096) with hsz | hsz
   · try rw [wrap_i64 (x := words - t.size) (by omega) (by omega)]
     first | (simp_all [Tac.rest2, arrOp]; done) | (simp_all [Tac.rest2, arrOp]; omega)
   · first | (simp_all [Tac.rest2, arrOp]; done) | (simp_all [Tac.rest2, arrOp]; omega)
  refine aQ tok 20 rfl ?_;refine an ?_;refine agt ⟨[_], ⟨rfl, trivial⟩, ?_, rfl⟩
  refine bc ?_
  rcases Decidable.em (1 ≤ t.size ∧ t.size ≤ 4096) with hsz | hsz
  · try rw [wrap_i64 (x := words - t.size) (by omega) (by omega)]
    first | (simp_all [Tac.rest2, arrOp]; done) | (simp_all [Tac.rest2, arrOp]; omega)
  · first | (simp_all [Tac.rest2, arrOp]; done) | (simp_all [Tac.rest2, arrOp]; omega)
 refine acf ?_;refine asr ?_;refine aQ tok 2 rfl ?_;refine an ?_;refine asp 103 (fun hb28 => ?_) fun hb28 => ?_
 ·
  refine act ?_;refine asr ?_;refine aQ tok 4 rfl ?_;refine aop 108 (fun hb29 => ?_) fun hb29 => ?_
  ·
   refine aQ tok 7 rfl ?_;refine an ?_;refine agt ⟨[_], ⟨rfl, trivial⟩, ?_, rfl⟩
   refine bc ?_
   first | (simp_all [Tac.rest2, arrOp]; done) | (simp_all [Tac.rest2, arrOp]; omega)
  refine aQ tok 7 rfl ?_;refine an ?_;refine agt ⟨[_], ⟨rfl, trivial⟩, ?_, rfl⟩
  refine bc ?_
  first | (simp_all [Tac.rest2, arrOp]; done) | (simp_all [Tac.rest2, arrOp]; omega)
 refine acf ?_;refine agk ?_;refine asr ?_;refine aa 4 ?_;refine an ?_;refine agt ⟨[_], ⟨rfl, trivial⟩, ?_, rfl⟩
 refine bc ?_
 first | (simp_all [Tac.rest2, arrOp]; done) | (simp_all [Tac.rest2, arrOp]; omega)
theorem bins_ok (words f regs blocks : Int) (t : Tac) (hw : 0 ≤ words) (hw2 : words ≤ 1048576) : APure Tryz.prog 45 [(.agg [.int .i64 words, .int .i64 f, .int .i64 regs, .int .i64 blocks]), .agg t.cells] (fun q => q = .bool (t.fits f regs words)) := by
 rw [← ins2_fits]
 refine APure.of_body (n := 58) tok Tryz.func45 rfl rfl ?_;refine asr ?_;refine ax 2 (obx 4 0) ?_;refine ax 3 (obx 8 1) ?_;refine aa 4 ?_;refine an ?_;refine asq ?_;refine asr ?_;refine aQ tok 2 rfl ?_;refine ax 7 (opu Tryz.func64 (bsetsOp_ok _)) ?_;refine an ?_;refine AGo.join (γ := Unit) (fun _u => ⟨58, (eput (eput eNew 2 (.ptr 0 1 0 0)) 3 (.ptr 1 1 0 0)), (hput (hput (hFrom 2) 0 (.row false 4 [[.int .i64 words, .int .i64 f, .int .i64 regs, .int .i64 blocks]])) 1 (.row false 8 [t.cells]))⟩) (fun _u => (bif setsOp t.op then within t.d regs else t.d == 0) = true) ?_ ?_
 ·
  refine asp 7 (fun hb1 => ?_) fun hb1 => ?_
  ·
   refine act ?_;refine asr ?_;refine aQ tok 3 rfl ?_;refine ax 11 (opu Tryz.func63 (breg_ok _ _ _ _ _)) ?_;refine aq 12 (q_not rfl rfl) ?_;refine an ?_;refine asp 12 (fun hb2 => ?_) fun hb2 => ?_
   ·
    refine act ?_;refine asr ?_;refine aa 4 ?_;refine an ?_;refine agt ⟨[_], ⟨rfl, trivial⟩, ?_, rfl⟩
    refine bc ?_
    simp_all [Tac.ins2]
   refine acf ?_;refine agk ?_;exact ⟨(), Sub.mk' z46q z12q, (by simp_all)⟩
  refine acf ?_;refine asr ?_;refine aQ tok 3 rfl ?_;refine an ?_;refine asp 15 (fun hb3 => ?_) fun hb3 => ?_
  ·
   refine act ?_;refine asr ?_;refine aa 4 ?_;refine an ?_;refine agt ⟨[_], ⟨rfl, trivial⟩, ?_, rfl⟩
   refine bc ?_
   simp_all [Tac.ins2]
  refine acf ?_;refine agk ?_;exact ⟨(), Sub.mk' z46q z12q, (by simp_all)⟩
 intro _u hq1
 refine asq ?_;refine asr ?_;refine aQ tok 2 rfl ?_;refine ax 18 (opu Tryz.func65 (breads_ok _)) ?_;refine an ?_;refine AGo.join (γ := Unit) (fun _u => ⟨58, (eput (eput eNew 2 (.ptr 0 1 0 0)) 3 (.ptr 1 1 0 0)), (hput (hput (hFrom 2) 0 (.row false 4 [[.int .i64 words, .int .i64 f, .int .i64 regs, .int .i64 blocks]])) 1 (.row false 8 [t.cells]))⟩) (fun _u => (bif use1 t.op then within t.a regs && t.b == 0 else bif use2 t.op then within t.a regs && within t.b regs else t.a == 0 && t.b == 0) = true) ?_ ?_
 ·
  refine AGo.block ?_;refine asr ?_;refine aQ tok 2 rfl ?_;refine an ?_;refine asp 19 (fun hb4 => ?_) fun hb4 => ?_
  ·
   refine act ?_
   have hrd : readsN t.op = 0 := by simpa using hb4
   have hu : use1 t.op = false ∧ use2 t.op = false := reads0 hrd
   refine asr ?_;refine aQ tok 4 rfl ?_;refine aop 24 (fun hb5 => ?_) fun hb5 => ?_
   ·
    refine aQ tok 4 rfl ?_;refine an ?_;refine act ?_;refine asr ?_;refine aa 4 ?_;refine an ?_;refine agt ⟨[_], ⟨rfl, trivial⟩, ?_, rfl⟩
    refine bc ?_
    simp_all [Tac.ins2]
   refine aQ tok 4 rfl ?_;refine an ?_;refine asp 28 (fun hb6 => ?_) fun hb6 => ?_
   ·
    refine act ?_;refine asr ?_;refine aa 4 ?_;refine an ?_;refine agt ⟨[_], ⟨rfl, trivial⟩, ?_, rfl⟩
    refine bc ?_
    simp_all [Tac.ins2]
   refine acf ?_;refine agk ?_;exact ⟨(), Sub.mk' z46q z12q, (by first | (simp_all; done) | (exfalso; have := readsN_or t.op; simp_all))⟩
  refine acf ?_;refine asr ?_;refine aQ tok 2 rfl ?_;refine an ?_;refine asp 29 (fun hb7 => ?_) fun hb7 => ?_
  ·
   refine act ?_
   have hrd : readsN t.op = 1 := by simpa using hb7
   have hu : use1 t.op = true := reads1 hrd
   refine asr ?_;refine aQ tok 3 rfl ?_;refine ax 34 (opu Tryz.func63 (breg_ok _ _ _ _ _)) ?_;refine aQ tok 2 rfl ?_;refine aop 36 (fun hb8 => ?_) fun hb8 => ?_
   ·
    refine aQ tok 4 rfl ?_;refine an ?_;refine act ?_;refine asr ?_;refine aa 4 ?_;refine an ?_;refine agt ⟨[_], ⟨rfl, trivial⟩, ?_, rfl⟩
    refine bc ?_
    simp_all [Tac.ins2]
   refine aQ tok 4 rfl ?_;refine an ?_;refine asp 40 (fun hb9 => ?_) fun hb9 => ?_
   ·
    refine act ?_;refine asr ?_;refine aa 4 ?_;refine an ?_;refine agt ⟨[_], ⟨rfl, trivial⟩, ?_, rfl⟩
    refine bc ?_
    simp_all [Tac.ins2]
   refine acf ?_;refine agk ?_;exact ⟨(), Sub.mk' z46q z12q, (by first | (simp_all; done) | (exfalso; have := readsN_or t.op; simp_all))⟩
  refine acf ?_;refine asr ?_;refine aQ tok 2 rfl ?_;refine an ?_;refine asp 41 (fun hb10 => ?_) fun hb10 => ?_
  ·
   refine act ?_
   have hrd : readsN t.op = 2 := by simpa using hb10
   have hu : use1 t.op = false ∧ use2 t.op = true := reads2 hrd
   refine asr ?_;refine aQ tok 3 rfl ?_;refine ax 46 (opu Tryz.func63 (breg_ok _ _ _ _ _)) ?_;refine aQ tok 2 rfl ?_;refine aop 48 (fun hb11 => ?_) fun hb11 => ?_
   ·
    refine aQ tok 6 rfl ?_;refine an ?_;refine act ?_;refine asr ?_;refine aa 4 ?_;refine an ?_;refine agt ⟨[_], ⟨rfl, trivial⟩, ?_, rfl⟩
    refine bc ?_
    simp_all [Tac.ins2]
   refine aQ tok 3 rfl ?_;refine ax 52 (opu Tryz.func63 (breg_ok _ _ _ _ _)) ?_;refine aQ tok 2 rfl ?_;refine an ?_;refine asp 54 (fun hb12 => ?_) fun hb12 => ?_
   ·
    refine act ?_;refine asr ?_;refine aa 4 ?_;refine an ?_;refine agt ⟨[_], ⟨rfl, trivial⟩, ?_, rfl⟩
    refine bc ?_
    simp_all [Tac.ins2]
   refine acf ?_;refine agk ?_;exact ⟨(), Sub.mk' z46q z12q, (by first | (simp_all; done) | (exfalso; have := readsN_or t.op; simp_all))⟩
  refine acf ?_;refine agk ?_;exact ⟨(), Sub.mk' z46q z12q, (by first | (simp_all; done) | (exfalso; have := readsN_or t.op; simp_all))⟩
 intro _u hq2
 refine asr ?_;refine aQ tok 2 rfl ?_;refine ax 57 (opu Tryz.func66 (brest_ok _ _ _ _ _ (by assumption) (by assumption))) ?_;refine aa 4 ?_;refine an ?_;refine agt ⟨[_], ⟨rfl, trivial⟩, ?_, rfl⟩
 refine bc ?_
 simp [Tac.ins2, hq1, hq2]
theorem bright_ok (b : Blocks) : APure Tryz.prog 33 [.agg b.cells] (fun r => r = .bool b.right) := by
 refine APure.of_body (n := 80) tok Tryz.func33 rfl rfl ?_;refine asq ?_;refine AGo.slot 0 rfl (fun H ι v => rel_prog) (fun hfit => ?_)
 refine agr ?_;refine ax 1 (obx 2 0) ?_;refine aa 2 ?_;refine an ?_;refine asq ?_;refine asr ?_;refine aQ tok 4 rfl ?_;refine aop 13 (fun hb1 => ?_) fun hb1 => ?_
 ·
  refine aQ tok 10 rfl ?_;refine an ?_;refine act ?_;refine asr ?_;refine aa 2 ?_;refine an ?_;refine agt ⟨[_], ⟨rfl, trivial⟩, ?_, rfl⟩
  refine bc ?_;exact (right_bad (by simp only [decide_eq_false_iff_not, decide_eq_true_eq, List.length_map] at *; omega)).symm
 refine aQ tok 5 rfl ?_;refine aop 18 (fun hb2 => ?_) fun hb2 => ?_
 ·
  refine aQ tok 5 rfl ?_;refine an ?_;refine act ?_;refine asr ?_;refine aa 2 ?_;refine an ?_;refine agt ⟨[_], ⟨rfl, trivial⟩, ?_, rfl⟩
  refine bc ?_;exact (right_bad (by simp only [decide_eq_false_iff_not, decide_eq_true_eq, List.length_map] at *; omega)).symm
 refine aQ tok 5 rfl ?_;refine an ?_;refine asp 23 (fun hb3 => ?_) fun hb3 => ?_
 ·
  refine act ?_;refine asr ?_;refine aa 2 ?_;refine an ?_;refine agt ⟨[_], ⟨rfl, trivial⟩, ?_, rfl⟩
  refine bc ?_;exact (right_bad (by simp only [decide_eq_false_iff_not, decide_eq_true_eq, List.length_map] at *; omega)).symm
 refine acf ?_
 have h0 : 0 ≤ b.words ∧ b.words ≤ 1048576 ∧ b.funcs.length ≠ 0 := by simp only [decide_eq_false_iff_not, decide_eq_true_eq, List.length_map] at *; omega
 refine agk ?_;refine asq ?_;refine asr ?_;refine aQ tok 4 rfl ?_;refine an ?_;refine AGo.block ?_;refine AGo.loopD (γ := Nat) 1 (fun k => ⟨80, (eput (eput (eput (eput eNew 1 (.ptr 0 1 0 0)) 25 (funcsAV b.funcs)) 26 (.int .i64 (b.funcs.length : Int))) 27 (.int .i64 (k : Int))), (hput (hFrom 1) 0 (.row false 2 [b.cells]))⟩) (fun k => (b.funcs.zipIdx.take k).all (fun p => p.1.one (p.2 : Int) b.words) = true) (fun k => b.funcs.length - k) 0 (Sub.mk' z29q z12q) rfl (fun _ => hput_free (fun b hb => hFrom_free hb) rfl) ?_
 intro k hk
 refine asr ?_;refine aqb ?_;refine an ?_;refine asq ?_;refine asp 28 (fun hb4 => ?_) fun hb4 => ?_
 ·
  refine act ?_
  have hkl : k < b.funcs.length := by simpa using hb4
  obtain ⟨f, hf⟩ := get_of_lt hkl
  refine agk ?_;refine asq ?_;refine AGo.block ?_;refine asr ?_;refine am 29 ?_;refine aq 30 (q_index_lst tok rfl rfl rfl rfl rfl rfl (Int.natCast_nonneg _) (idx_map (by assumption)) rfl) ?_;refine al 31 tok ?_;refine ax 4 (oal tok 1) ?_;refine aa 3 ?_;refine AOps.w rfl rfl (o_store tok rfl rfl rfl rfl rfl rfl rfl rfl rfl (by decide) rfl z51q) ?_;refine an ?_;refine asq ?_;refine asq ?_;refine AGo.slot 31 rfl (fun H ι v => rel_bfunc) (fun hfit2 => ?_)
  refine agr ?_;refine aQ tok 4 rfl ?_;refine aop 35 (fun hb5 => ?_) fun hb5 => ?_
  ·
   refine aQ tok 10 rfl ?_;refine an ?_;refine act ?_;refine asr ?_;refine aa 2 ?_;refine an ?_;refine agt ⟨[_], ⟨rfl, trivial⟩, ?_, rfl⟩
   refine bc ?_
   rw [right_all h0.1 h0.2.1 h0.2.2, all_bad (zipIdx_get hf) z33q]
  refine aQ tok 5 rfl ?_;refine aop 40 (fun hb6 => ?_) fun hb6 => ?_
  ·
   refine aQ tok 5 rfl ?_;refine an ?_;refine act ?_;refine asr ?_;refine aa 2 ?_;refine an ?_;refine agt ⟨[_], ⟨rfl, trivial⟩, ?_, rfl⟩
   refine bc ?_
   rw [right_all h0.1 h0.2.1 h0.2.2, all_bad (zipIdx_get hf) z33q]
  refine aQ tok 5 rfl ?_;refine an ?_;refine asp 45 (fun hb7 => ?_) fun hb7 => ?_
  ·
   refine act ?_;refine asr ?_;refine aa 2 ?_;refine an ?_;refine agt ⟨[_], ⟨rfl, trivial⟩, ?_, rfl⟩
   refine bc ?_
   rw [right_all h0.1 h0.2.1 h0.2.2, all_bad (zipIdx_get hf) z33q]
  refine acf ?_
  have hf0 : 0 ≤ f.regs ∧ f.regs ≤ 4000 ∧ f.blocks.length ≠ 0 := by simp only [decide_eq_false_iff_not, decide_eq_true_eq, List.length_map] at *; omega
  refine agk ?_;refine asr ?_;refine aQ tok 8 rfl ?_;refine aq 54 (q_build tok rfl rfl rfl rfl rfl (by decide) rfl rfl rfl) ?_;refine ax 5 (oal tok 2) ?_;refine AOps.w rfl rfl (o_store tok rfl rfl rfl rfl rfl rfl rfl rfl rfl (by decide) rfl z51q) ?_;refine an ?_;refine asr ?_;refine aQ tok 4 rfl ?_;refine an ?_;refine AGo.block ?_;refine AGo.loopD (γ := Nat) 3 (fun j => ⟨80, (eput (eput (eput (eput (eput (eput (eput (eput (eput eNew 1 (.ptr 0 1 0 0)) 25 (funcsAV b.funcs)) 26 (.int .i64 (b.funcs.length : Int))) 27 (.int .i64 (k : Int))) 4 (.ptr 1 1 0 0)) 5 (.ptr 2 1 0 0)) 56 (blocksAV f.blocks)) 57 (.int .i64 (f.blocks.length : Int))) 58 (.int .i64 (j : Int))), (hput (hput (hput (hFrom 3) 0 (.row false 2 [b.cells])) 1 (.row false 2 [f.cells])) 2 (.row false 4 [[.int .i64 b.words, .int .i64 (k : Int), .int .i64 f.regs, .int .i64 (f.blocks.length : Int)]]))⟩) (fun j => (f.blocks.take j).all (fun x => x.ok f.blocks.length f.regs (k : Int) b.words) = true) (fun j => f.blocks.length - j) 0 (Sub.mk' z29q (by repeat (first | exact HSub.refl _ | exact HSub.none _ | exact HSub.from_new _ | exact HSub.from_from z55q | refine HSub.put ?_ (by first | rfl | exact congrArg (fun (n : Nat) => some (AObj.row false 4 [[.int .i64 b.words, .int .i64 (k : Int), .int .i64 f.regs, .int .i64 (n : Int)]])) (List.length_map ..)) | refine HSub.from_put ?_ z55q | refine HSub.from_rm ?_ (by decide)))) rfl (fun _ => hput_free (hput_free (hput_free (fun b hb => hFrom_free hb) rfl) rfl) rfl) ?_
  intro j hj
  refine asr ?_;refine aqb ?_;refine an ?_;refine asq ?_;refine asp 59 (fun hb8 => ?_) fun hb8 => ?_
  ·
   refine act ?_
   have hjl : j < f.blocks.length := by simpa using hb8
   obtain ⟨x, hx⟩ := get_of_lt hjl
   refine agk ?_;refine asq ?_;refine AGo.block ?_;refine asr ?_;refine aq 60 (q_index_lst tok rfl rfl rfl rfl rfl rfl (Int.natCast_nonneg _) (idx_map (by assumption)) rfl) ?_;refine al 61 tok ?_;refine ax 7 (oal tok 3) ?_;refine AOps.w rfl rfl (o_store tok rfl rfl rfl rfl rfl rfl rfl rfl rfl (by decide) rfl z51q) ?_;refine an ?_;refine asq ?_;refine asr ?_;refine aQ tok 2 rfl ?_;refine ax 64 (opu Tryz.func44 (bend_ok _ _ _ _ x)) ?_;refine aq 65 (q_not rfl rfl) ?_;refine an ?_;refine asp 65 (fun hb9 => ?_) fun hb9 => ?_
   ·
    refine act ?_
    have hends : x.ends f.blocks.length f.regs = false := by simpa using hb9
    refine asr ?_;refine aa 2 ?_;refine an ?_;refine agt ⟨[_], ⟨rfl, trivial⟩, ?_, rfl⟩
    refine bc ?_
    rw [right_all h0.1 h0.2.1 h0.2.2, all_bad (zipIdx_get hf) (by show f.one _ _ = false; rw [one_all hf0.1 hf0.2.1 hf0.2.2, all_bad hx (by simp [Block.ok, hends])])]
   refine acf ?_
   have hends : x.ends f.blocks.length f.regs = true := by simpa using hb9
   refine agk ?_;refine asr ?_;refine aQ tok 4 rfl ?_;refine an ?_;refine AGo.block ?_;refine AGo.loopD (γ := Nat) 4 (fun i => ⟨80, (eput (eput (eput (eput (eput (eput (eput (eput (eput (eput (eput (eput (eput eNew 1 (.ptr 0 1 0 0)) 25 (funcsAV b.funcs)) 26 (.int .i64 (b.funcs.length : Int))) 27 (.int .i64 (k : Int))) 4 (.ptr 1 1 0 0)) 5 (.ptr 2 1 0 0)) 56 (blocksAV f.blocks)) 57 (.int .i64 (f.blocks.length : Int))) 58 (.int .i64 (j : Int))) 7 (.ptr 3 1 0 0)) 67 (insAV x.ins)) 68 (.int .i64 (x.ins.length : Int))) 69 (.int .i64 (i : Int))), (hput (hput (hput (hput (hFrom 4) 0 (.row false 2 [b.cells])) 1 (.row false 2 [f.cells])) 2 (.row false 4 [[.int .i64 b.words, .int .i64 (k : Int), .int .i64 f.regs, .int .i64 (f.blocks.length : Int)]])) 3 (.row false 5 [x.cells]))⟩) (fun i => (x.ins.take i).all (fun t => t.fits (k : Int) f.regs b.words) = true) (fun i => x.ins.length - i) 0 (Sub.mk' z29q z12q) rfl (fun _ => hput_free (hput_free (hput_free (hput_free (fun b hb => hFrom_free hb) rfl) rfl) rfl) rfl) ?_
   intro i hi
   refine asr ?_;refine aqb ?_;refine an ?_;refine asq ?_;refine asp 70 (fun hb10 => ?_) fun hb10 => ?_
   ·
    refine act ?_
    have hil : i < x.ins.length := by simpa using hb10
    obtain ⟨u, hu⟩ := get_of_lt hil
    refine agk ?_;refine asq ?_;refine AGo.block ?_;refine asr ?_;refine aq 71 (q_index_lst tok rfl rfl rfl rfl rfl rfl (Int.natCast_nonneg _) (idx_map (by assumption)) rfl) ?_;refine al 72 tok ?_;refine ax 9 (oal tok 4) ?_;refine AOps.w rfl rfl (o_store tok rfl rfl rfl rfl rfl rfl rfl rfl rfl (by decide) rfl z51q) ?_;refine an ?_;refine asr ?_;refine aQ tok 2 rfl ?_;refine ax 75 (opu Tryz.func45 (bins_ok _ _ _ _ u h0.1 h0.2.1)) ?_;refine aq 76 (q_not rfl rfl) ?_;refine an ?_;refine asp 76 (fun hb11 => ?_) fun hb11 => ?_
    ·
     refine act ?_
     have hbw := hb11
     refine asr ?_;refine aa 2 ?_;refine an ?_;refine agt ⟨[_], ⟨rfl, trivial⟩, ?_, rfl⟩
     refine bc ?_
     rw [right_all h0.1 h0.2.1 h0.2.2, all_bad (zipIdx_get hf) (by show f.one _ _ = false; rw [one_all hf0.1 hf0.2.1 hf0.2.2, all_bad hx (by simp only [Block.ok, all_bad (p := fun t => Tac.fits t (k : Int) f.regs b.words) hu (by simpa using hbw), Bool.and_false])])]
    refine acf ?_
    have hbw := hb11
    refine agk ?_;refine agr ?_;refine aq 77 (q_inc rfl rfl hil (hfit2.2 x (List.mem_of_getElem? hx))) ?_;refine am 69 ?_;refine an ?_;exact ⟨i+1, Drop.mk' z31q z18q, all_succ hu hi (by simpa using hbw), by omega⟩
   refine acf ?_
   have hins := all_end hi (by simpa using hb10)
   refine AGo.exit ?_;refine agr ?_;refine aq 78 (q_inc rfl rfl hjl hfit2.1) ?_;refine am 58 ?_;refine an ?_;exact ⟨j+1, Drop.mk' z31q z18q, all_succ hx hj (by simp [Block.ok, hends, hins]), by omega⟩
  refine acf ?_
  have hall := all_end hj (by simpa using hb8)
  refine AGo.exit ?_;refine agr ?_;refine aq 79 (q_inc rfl rfl hkl hfit.1) ?_;refine am 27 ?_;refine an ?_;exact ⟨k+1, Drop.mk' z31q z18q, all_succ (zipIdx_get hf) hk (by show f.one _ _ = true; rw [one_all hf0.1 hf0.2.1 hf0.2.2, hall]), by omega⟩
 refine acf ?_
 have hall := all_end hk (by rw [List.length_zipIdx]; simpa using hb4)
 refine AGo.exit ?_;refine asr ?_;refine aa 2 ?_;refine an ?_;refine agt ⟨[_], ⟨rfl, trivial⟩, ?_, rfl⟩
 refine bc ?_
 rw [right_all h0.1 h0.2.1 h0.2.2, hall]
theorem check35_ok (a b : Blocks) (ls : List (List OPass)) (ha : a.funcs.length ≤ 1048576) (hP : a.right = true → b.right = true → ∀ f ∈ a.funcs, ∀ g ∈ b.funcs, ∀ l ∈ ls, APure Tryz.prog 34 [.agg f.cells, .agg g.cells, passesAV l] (fun r => r = .bool (leadsL f g l))) : APure Tryz.prog 18 [.agg a.cells, .agg b.cells, listAV ls] (fun r => r = .bool (ocheck a b ls)) := by
 refine APure.of_body (n := 60) tok Tryz.func18 rfl rfl ?_;refine asr ?_;refine ax 3 (obx 2 0) ?_;refine ax 4 (obx 2 1) ?_;refine aa 6 ?_;refine an ?_;refine asq ?_;refine asr ?_;refine al 9 tok ?_;refine ax 10 (opu Tryz.func33 (bright_ok _)) ?_;refine aQ tok 2 rfl ?_;refine aop 12 (fun hb1 => ?_) fun hb1 => ?_
 ·
  refine aQ tok 11 rfl ?_;refine an ?_;refine act ?_;refine asr ?_;refine aa 6 ?_;refine an ?_;refine agt ⟨[_], ⟨rfl, trivial⟩, ?_, rfl⟩
  refine bc ?_
  simp_all [ocheck]
 refine al 13 tok ?_;refine ax 14 (opu Tryz.func33 (bright_ok _)) ?_;refine aQ tok 3 rfl ?_;refine aop 17 (fun hb2 => ?_) fun hb2 => ?_
 ·
  refine aQ tok 6 rfl ?_;refine an ?_;refine act ?_;refine asr ?_;refine aa 6 ?_;refine an ?_;refine agt ⟨[_], ⟨rfl, trivial⟩, ?_, rfl⟩
  refine bc ?_
  simp_all [ocheck]
 refine aQ tok 6 rfl ?_;refine an ?_;refine asp 23 (fun hb3 => ?_) fun hb3 => ?_
 ·
  refine act ?_;refine asr ?_;refine aa 6 ?_;refine an ?_;refine agt ⟨[_], ⟨rfl, trivial⟩, ?_, rfl⟩
  refine bc ?_
  simp_all [ocheck]
 refine acf ?_
 have hr1 : a.right = true := by simpa using hb1
 have hr2 : b.right = true := by simpa using hb2
 have hw : a.words = b.words := by have h := hb3; simp at h; omega
 refine agk ?_;refine asq ?_;refine asr ?_;refine aQ tok 8 rfl ?_;refine aop 31 (fun hb4 => ?_) fun hb4 => ?_
 ·
  refine aQ tok 7 rfl ?_;refine an ?_;refine act ?_;refine asr ?_;refine aa 6 ?_;refine an ?_;refine agt ⟨[_], ⟨rfl, trivial⟩, ?_, rfl⟩
  refine bc ?_
  simp_all [ocheck]; try omega
 refine aQ tok 7 rfl ?_;refine an ?_;refine asp 38 (fun hb5 => ?_) fun hb5 => ?_
 ·
  refine act ?_;refine asr ?_;refine aa 6 ?_;refine an ?_;refine agt ⟨[_], ⟨rfl, trivial⟩, ?_, rfl⟩
  refine bc ?_
  simp_all [ocheck]; try omega
 refine acf ?_
 have hn1 : a.funcs.length = b.funcs.length := by have h := hb4; simp at h; omega
 have hn2 : ls.length = a.funcs.length := by have h := hb5; simp at h; omega
 refine agk ?_;refine asq ?_;refine asr ?_;refine aQ tok 4 rfl ?_;refine an ?_;refine AGo.block ?_;refine AGo.loopD (γ := Nat) 2 (fun k => ⟨60, (eput (eput (eput (eput (eput (eput eNew 2 (listAV ls)) 3 (.ptr 0 1 0 0)) 4 (.ptr 1 1 0 0)) 40 (funcsAV a.funcs)) 41 (.int .i64 (a.funcs.length : Int))) 42 (.int .i64 (k : Int))), (hput (hput (hFrom 2) 0 (.row false 2 [a.cells])) 1 (.row false 2 [b.cells]))⟩) (fun k => ledTo a.funcs b.funcs ls k) (fun k => a.funcs.length - k) 0 (Sub.mk' z29q z12q) (fun i h => absurd h (Nat.not_lt_zero i)) (fun _ => hput_free (hput_free (fun b hb => hFrom_free hb) rfl) rfl) ?_
 intro k hF
 refine asr ?_;refine aqb ?_;refine an ?_;refine asq ?_;refine asp 43 (fun hb6 => ?_) fun hb6 => ?_
 ·
  refine act ?_
  have hkl : k < a.funcs.length := by have h := hb6; simp at h; omega
  obtain ⟨f, hf⟩ := get_of_lt hkl
  obtain ⟨g, hg⟩ := get_of_lt (l := b.funcs) (k := k) (by omega)
  obtain ⟨l, hl⟩ := get_of_lt (l := ls) (k := k) (by omega)
  refine agk ?_;refine asq ?_;refine AGo.block ?_;refine asr ?_;refine am 44 ?_;refine aq 45 (qil tok (idx_map hf)) ?_;refine al 46 tok ?_;refine ax 8 (oal tok 2) ?_;refine aa 7 ?_;refine AOps.w rfl rfl (o_store tok rfl rfl rfl rfl rfl rfl rfl rfl rfl (by decide) rfl z51q) ?_;refine an ?_;refine asq ?_;refine AGo.draw mix ?_;refine dQ tok 4 rfl ?_;refine dq 51 (qil tok (idx_map hg)) ?_;refine dQ tok 3 rfl ?_;refine dq 55 (qil tok (idx_map hl)) ?_;refine dl 56 tok ?_;refine dx 57 (opu Tryz.func34 (hP hr1 hr2 f (List.mem_of_getElem? hf) g (List.mem_of_getElem? hg) l (List.mem_of_getElem? hl))) ?_;refine dq 58 (q_not rfl rfl) ?_;refine DOps.nil (by kernel_rfl) ?_;refine asp 58 (fun hb7 => ?_) fun hb7 => ?_
  ·
   refine act ?_
   have hno : leadsL f g l = false := by simpa using hb7
   refine asr ?_;refine aa 6 ?_;refine an ?_;refine agt ⟨[_], ⟨rfl, trivial⟩, ?_, rfl⟩
   refine bc ?_
   simp [ocheck, leadsAll_no hf hg hl hno]
  refine acf ?_
  have hyes : leadsL f g l = true := by simpa using hb7
  refine agk ?_;refine agr ?_;refine aq 59 (q_inc rfl rfl hkl (by simp only [maxLen]; omega)) ?_;refine am 42 ?_;refine an ?_;exact ⟨k+1, Drop.mk' z31q z18q, (ledTo_succ hF hf hg hl hyes), by omega⟩
 refine acf ?_
 have hge : a.funcs.length ≤ k := by have h := hb6; simp at h; omega
 refine AGo.exit ?_;refine asr ?_;refine aa 6 ?_;refine an ?_;refine agt ⟨[_], ⟨rfl, trivial⟩, ?_, rfl⟩
 refine bc ?_;exact (ocheck_of hr1 hr2 hw hn1 hn2 (ledTo_end hF hge)).symm
theorem sameBlock_ok (x y : Block) (hx : x.ins.length ≤ 1000000000000000) : APure Tryz.prog 67 [.agg x.cells, .agg y.cells] (fun r => r = .bool (decide (x = y))) := by
 refine APure.of_body (n := 58) tok Tryz.func67 rfl rfl ?_;refine asr ?_;refine ax 2 (obx 5 0) ?_;refine ax 3 (obx 5 1) ?_;refine aa 4 ?_;refine an ?_;refine asq ?_;refine asr ?_;refine aQ tok 6 rfl ?_;refine aop 12 (fun hb1 => ?_) fun hb1 => ?_
 ·
  refine aQ tok 29 rfl ?_;refine an ?_;refine act ?_;refine asr ?_;refine aa 4 ?_;refine an ?_;refine agt ⟨[_], ⟨rfl, trivial⟩, ?_, rfl⟩
  show AV.bool false = _
  rw [decide_eq_false (by rintro rfl; simp_all)]
 refine aQ tok 7 rfl ?_;refine aop 19 (fun hb2 => ?_) fun hb2 => ?_
 ·
  refine aQ tok 22 rfl ?_;refine an ?_;refine act ?_;refine asr ?_;refine aa 4 ?_;refine an ?_;refine agt ⟨[_], ⟨rfl, trivial⟩, ?_, rfl⟩
  show AV.bool false = _
  rw [decide_eq_false (by rintro rfl; simp_all)]
 refine aQ tok 7 rfl ?_;refine aop 26 (fun hb3 => ?_) fun hb3 => ?_
 ·
  refine aQ tok 15 rfl ?_;refine an ?_;refine act ?_;refine asr ?_;refine aa 4 ?_;refine an ?_;refine agt ⟨[_], ⟨rfl, trivial⟩, ?_, rfl⟩
  show AV.bool false = _
  rw [decide_eq_false (by rintro rfl; simp_all)]
 refine aQ tok 7 rfl ?_;refine aop 33 (fun hb4 => ?_) fun hb4 => ?_
 ·
  refine aQ tok 8 rfl ?_;refine an ?_;refine act ?_;refine asr ?_;refine aa 4 ?_;refine an ?_;refine agt ⟨[_], ⟨rfl, trivial⟩, ?_, rfl⟩
  show AV.bool false = _
  rw [decide_eq_false (by rintro rfl; simp_all)]
 refine aQ tok 8 rfl ?_;refine an ?_;refine asp 41 (fun hb5 => ?_) fun hb5 => ?_
 ·
  refine act ?_;refine asr ?_;refine aa 4 ?_;refine an ?_;refine agt ⟨[_], ⟨rfl, trivial⟩, ?_, rfl⟩
  show AV.bool false = _
  rw [decide_eq_false (by rintro rfl; simp_all)]
 refine acf ?_
 have h0 : x.fin = y.fin ∧ x.v = y.v ∧ x.to = y.to ∧ x.els = y.els ∧ x.ins.length = y.ins.length := by simp_all <;> omega
 refine agk ?_;refine asq ?_;refine asr ?_;refine aQ tok 4 rfl ?_;refine an ?_;refine AGo.block ?_;refine AGo.loopD (γ := Nat) 2 (fun i => ⟨58, (eput (eput (eput (eput (eput eNew 2 (.ptr 0 1 0 0)) 3 (.ptr 1 1 0 0)) 43 (insAV x.ins)) 44 (.int .i64 (x.ins.length : Int))) 45 (.int .i64 (i : Int))), (hput (hput (hFrom 2) 0 (.row false 5 [x.cells])) 1 (.row false 5 [y.cells]))⟩) (fun i => x.ins.take i = y.ins.take i) (fun i => x.ins.length - i) 0 (Sub.mk' z29q z12q) rfl (fun _ => hput_free (hput_free (fun b hb => hFrom_free hb) rfl) rfl) ?_
 intro i ht
 refine asr ?_;refine aqb ?_;refine an ?_;refine asq ?_;refine asp 46 (fun hb6 => ?_) fun hb6 => ?_
 ·
  refine act ?_
  have hil : i < x.ins.length := by simpa using hb6
  obtain ⟨u, hu⟩ := get_of_lt hil
  obtain ⟨v, hv⟩ := get_of_lt (l := y.ins) (k := i) (by omega)
  refine agk ?_;refine asq ?_;refine AGo.block ?_;refine asr ?_;refine am 47 ?_;refine aq 48 (q_index_lst tok rfl rfl rfl rfl rfl rfl (Int.natCast_nonneg _) (idx_map (by assumption)) rfl) ?_;refine al 49 tok ?_;refine ax 6 (oal tok 2) ?_;refine aa 5 ?_;refine AOps.w rfl rfl (o_store tok rfl rfl rfl rfl rfl rfl rfl rfl rfl (by decide) rfl z51q) ?_;refine an ?_;refine asq ?_;refine AGo.draw mix ?_;refine dQ tok 4 rfl ?_;refine dq 54 (q_index_lst tok rfl rfl rfl rfl rfl rfl (Int.natCast_nonneg _) (idx_map (by assumption)) rfl) ?_;refine dl 55 tok ?_;refine dq 56 (q_eqStruct tok true rfl rfl rfl (by kernel_rfl) rfl rfl rfl rfl (Tac.eqCells u v)) ?_;refine DOps.nil (by kernel_rfl) ?_;refine asp 56 (fun hb7 => ?_) fun hb7 => ?_
  ·
   refine act ?_
   have huv : u ≠ v := by simpa using hb7
   refine asr ?_;refine aa 4 ?_;refine an ?_;refine agt ⟨[_], ⟨rfl, trivial⟩, ?_, rfl⟩
   show AV.bool false = _
   rw [decide_eq_false (by rintro rfl; rw [hu] at hv; cases hv; exact huv rfl)]
  refine acf ?_
  have huv : u = v := by simpa using hb7
  refine agk ?_;refine agr ?_;refine aq 57 (q_inc rfl rfl hil (by simp only [maxLen]; omega)) ?_;refine am 45 ?_;refine an ?_;exact ⟨i+1, Drop.mk' z31q z18q, (by rw [take_succ_eq hu, take_succ_eq hv, ht, huv]), by omega⟩
 refine acf ?_
 have hge : x.ins.length ≤ i := by simpa using hb6
 refine AGo.exit ?_;refine asr ?_;refine aa 4 ?_;refine an ?_;refine agt ⟨[_], ⟨rfl, trivial⟩, ?_, rfl⟩
 show AV.bool true = _
 rw [decide_eq_true (Block.ext5 h0.1 h0.2.1 h0.2.2.1 h0.2.2.2.1 (take_all ht hge (h0.2.2.2.2 ▸ hge)))]
theorem rsameBlock_ok (x y : Block) (hx : x.ins.length ≤ 1000000000000000) : APure Tryz.prog 36 [.agg x.cells, .agg y.cells] (fun r => r = .bool (decide (x = y))) := by
 refine APure.of_body (n := 59) tok Tryz.func36 rfl rfl ?_;refine asr ?_;refine ax 2 (obx 5 0) ?_;refine ax 3 (obx 5 1) ?_;refine aa 4 ?_;refine an ?_;refine asq ?_;refine asr ?_;refine aQ tok 6 rfl ?_;refine aop 11 (fun hb1 => ?_) fun hb1 => ?_
 ·
  refine aQ tok 29 rfl ?_;refine an ?_;refine act ?_;refine asr ?_;refine aa 4 ?_;refine an ?_;refine agt ⟨[_], ⟨rfl, trivial⟩, ?_, rfl⟩
  show AV.bool false = _
  rw [decide_eq_false (by rintro rfl; simp_all)]
 refine aQ tok 7 rfl ?_;refine aop 18 (fun hb2 => ?_) fun hb2 => ?_
 ·
  refine aQ tok 22 rfl ?_;refine an ?_;refine act ?_;refine asr ?_;refine aa 4 ?_;refine an ?_;refine agt ⟨[_], ⟨rfl, trivial⟩, ?_, rfl⟩
  show AV.bool false = _
  rw [decide_eq_false (by rintro rfl; simp_all)]
 refine aQ tok 7 rfl ?_;refine aop 25 (fun hb3 => ?_) fun hb3 => ?_
 ·
  refine aQ tok 15 rfl ?_;refine an ?_;refine act ?_;refine asr ?_;refine aa 4 ?_;refine an ?_;refine agt ⟨[_], ⟨rfl, trivial⟩, ?_, rfl⟩
  show AV.bool false = _
  rw [decide_eq_false (by rintro rfl; simp_all)]
 refine aQ tok 7 rfl ?_;refine aop 32 (fun hb4 => ?_) fun hb4 => ?_
 ·
  refine aQ tok 8 rfl ?_;refine an ?_;refine act ?_;refine asr ?_;refine aa 4 ?_;refine an ?_;refine agt ⟨[_], ⟨rfl, trivial⟩, ?_, rfl⟩
  show AV.bool false = _
  rw [decide_eq_false (by rintro rfl; simp_all)]
 refine aQ tok 8 rfl ?_;refine an ?_;refine asp 40 (fun hb5 => ?_) fun hb5 => ?_
 ·
  refine act ?_;refine asr ?_;refine aa 4 ?_;refine an ?_;refine agt ⟨[_], ⟨rfl, trivial⟩, ?_, rfl⟩
  show AV.bool false = _
  rw [decide_eq_false (by rintro rfl; simp_all)]
 refine acf ?_
 have h0 : x.fin = y.fin ∧ x.v = y.v ∧ x.to = y.to ∧ x.els = y.els ∧ x.ins.length = y.ins.length := by simp_all <;> omega
 refine agk ?_;refine asq ?_;refine asr ?_;refine aa 5 ?_;refine an ?_;refine AGo.block ?_;refine AGo.loopD (γ := Nat) 2 (fun i => ⟨59, (eput (eput (eput eNew 2 (.ptr 0 1 0 0)) 3 (.ptr 1 1 0 0)) 5 (.int .i64 (i : Int))), (hput (hput (hFrom 2) 0 (.row false 5 [x.cells])) 1 (.row false 5 [y.cells]))⟩) (fun i => x.ins.take i = y.ins.take i) (fun i => x.ins.length - i) 0 (Sub.mk' z29q z12q) rfl (fun _ => hput_free (hput_free (fun b hb => hFrom_free hb) rfl) rfl) ?_
 intro i ht
 refine asq ?_;refine asr ?_;refine aQ tok 5 rfl ?_;refine an ?_;refine asp 45 (fun hb6 => ?_) fun hb6 => ?_
 ·
  refine act ?_
  have hil : i < x.ins.length := by simpa using hb6
  obtain ⟨u, hu⟩ := get_of_lt hil
  obtain ⟨v, hv⟩ := get_of_lt (l := y.ins) (k := i) (by omega)
  refine agk ?_;refine asq ?_;refine AGo.block ?_;refine asq ?_;refine AGo.draw mix ?_;refine dQ tok 3 rfl ?_;refine dq 51 (q_index_lst tok rfl rfl rfl rfl rfl rfl (Int.natCast_nonneg _) (idx_map (by assumption)) rfl) ?_;refine dQ tok 4 rfl ?_;refine dq 56 (q_index_lst tok rfl rfl rfl rfl rfl rfl (Int.natCast_nonneg _) (idx_map (by assumption)) rfl) ?_;refine dl 57 tok ?_;refine dq 58 (q_eqStruct tok true rfl rfl rfl (by kernel_rfl) rfl rfl rfl rfl (Tac.eqCells u v)) ?_;refine DOps.nil (by kernel_rfl) ?_;refine asp 58 (fun hb7 => ?_) fun hb7 => ?_
  ·
   refine act ?_
   have huv : u ≠ v := by simpa using hb7
   refine asr ?_;refine aa 4 ?_;refine an ?_;refine agt ⟨[_], ⟨rfl, trivial⟩, ?_, rfl⟩
   show AV.bool false = _
   rw [decide_eq_false (by rintro rfl; rw [hu] at hv; cases hv; exact huv rfl)]
  refine acf ?_
  have huv : u = v := by simpa using hb7
  refine agk ?_;refine agr ?_;refine am 46 ?_;refine aq 47 (q_inc rfl rfl hil (by simp only [maxLen]; omega)) ?_;refine aa 5 ?_;refine an ?_;exact ⟨i+1, Drop.mk' z31q z18q, (by rw [take_succ_eq hu, take_succ_eq hv, ht, huv]), by omega⟩
 refine acf ?_
 have hge : x.ins.length ≤ i := by simpa using hb6
 refine AGo.exit ?_;refine asr ?_;refine aa 4 ?_;refine an ?_;refine agt ⟨[_], ⟨rfl, trivial⟩, ?_, rfl⟩
 show AV.bool true = _
 rw [decide_eq_true (Block.ext5 h0.1 h0.2.1 h0.2.2.1 h0.2.2.2.1 (take_all ht hge (h0.2.2.2.2 ▸ hge)))]
theorem rsameFunc_ok (f g : BFunc) (hf : f.blocks.length ≤ 1000000000000000 ∧ ∀ x ∈ f.blocks, x.ins.length ≤ 1000000000000000) : APure Tryz.prog 23 [.agg f.cells, .agg g.cells] (fun r => r = .bool (decide (f = g))) := by
 refine APure.of_body (n := 39) tok Tryz.func23 rfl rfl ?_;refine asr ?_;refine ax 2 (obx 2 0) ?_;refine ax 3 (obx 2 1) ?_;refine aa 4 ?_;refine an ?_;refine asq ?_;refine asr ?_;refine aQ tok 6 rfl ?_;refine aop 11 (fun hb1 => ?_) fun hb1 => ?_
 ·
  refine aQ tok 8 rfl ?_;refine an ?_;refine act ?_;refine asr ?_;refine aa 4 ?_;refine an ?_;refine agt ⟨[_], ⟨rfl, trivial⟩, ?_, rfl⟩
  show AV.bool false = _
  rw [decide_eq_false (by rintro rfl; simp_all)]
 refine aQ tok 8 rfl ?_;refine an ?_;refine asp 19 (fun hb2 => ?_) fun hb2 => ?_
 ·
  refine act ?_;refine asr ?_;refine aa 4 ?_;refine an ?_;refine agt ⟨[_], ⟨rfl, trivial⟩, ?_, rfl⟩
  show AV.bool false = _
  rw [decide_eq_false (by rintro rfl; simp_all)]
 refine acf ?_
 have h0 : f.regs = g.regs ∧ f.blocks.length = g.blocks.length := by simp_all <;> omega
 refine agk ?_;refine asq ?_;refine asr ?_;refine aa 5 ?_;refine an ?_;refine AGo.block ?_;refine AGo.loopD (γ := Nat) 2 (fun i => ⟨39, (eput (eput (eput eNew 2 (.ptr 0 1 0 0)) 3 (.ptr 1 1 0 0)) 5 (.int .i64 (i : Int))), (hput (hput (hFrom 2) 0 (.row false 2 [f.cells])) 1 (.row false 2 [g.cells]))⟩) (fun i => f.blocks.take i = g.blocks.take i) (fun i => f.blocks.length - i) 0 (Sub.mk' z29q z12q) rfl (fun _ => hput_free (hput_free (fun b hb => hFrom_free hb) rfl) rfl) ?_
 intro i ht
 refine asq ?_;refine asr ?_;refine aQ tok 5 rfl ?_;refine an ?_;refine asp 24 (fun hb3 => ?_) fun hb3 => ?_
 ·
  refine act ?_
  have hil : i < f.blocks.length := by simpa using hb3
  obtain ⟨x, hx⟩ := get_of_lt hil
  obtain ⟨y, hy⟩ := get_of_lt (l := g.blocks) (k := i) (by omega)
  have hil2 := hf.1
  refine agk ?_;refine asq ?_;refine AGo.block ?_;refine asq ?_;refine AGo.draw mix ?_;refine dQ tok 3 rfl ?_;refine dq 30 (qil tok (idx_map hx)) ?_;refine dQ tok 4 rfl ?_;refine dq 35 (qil tok (idx_map hy)) ?_;refine dl 36 tok ?_;refine dx 37 (opu Tryz.func36 (rsameBlock_ok x y (hf.2 x (List.mem_of_getElem? hx)))) ?_;refine dq 38 (q_not rfl rfl) ?_;refine DOps.nil (by kernel_rfl) ?_;refine asp 38 (fun hb4 => ?_) fun hb4 => ?_
  ·
   refine act ?_
   have hxy : x ≠ y := by simpa using hb4
   refine asr ?_;refine aa 4 ?_;refine an ?_;refine agt ⟨[_], ⟨rfl, trivial⟩, ?_, rfl⟩
   show AV.bool false = _
   rw [decide_eq_false (by rintro rfl; rw [hx] at hy; cases hy; exact hxy rfl)]
  refine acf ?_
  have hxy : x = y := by simpa using hb4
  refine agk ?_;refine agr ?_;refine am 25 ?_;refine aq 26 (q_inc rfl rfl hil (by simp only [maxLen]; omega)) ?_;refine aa 5 ?_;refine an ?_;exact ⟨i+1, Drop.mk' z31q z18q, (by rw [take_succ_eq hx, take_succ_eq hy, ht, hxy]), by omega⟩
 refine acf ?_
 have hge : f.blocks.length ≤ i := by simpa using hb3
 refine AGo.exit ?_;refine asr ?_;refine aa 4 ?_;refine an ?_;refine agt ⟨[_], ⟨rfl, trivial⟩, ?_, rfl⟩
 show AV.bool true = _
 rw [decide_eq_true (BFunc.ext' h0.1 (take_all ht hge (h0.2 ▸ hge)))]
theorem bsame_ok (a b : Blocks) (hl0 : a.funcs.length ≤ 1000000000000000) (hl1 : ∀ f ∈ a.funcs, f.blocks.length ≤ 1000000000000000 ∧ ∀ x ∈ f.blocks, x.ins.length ≤ 1000000000000000) : APure Tryz.prog 46 [.agg a.cells, .agg b.cells] (fun r => r = .bool (decide (a = b))) := by
 refine APure.of_body (n := 69) tok Tryz.func46 rfl rfl ?_;refine asr ?_;refine ax 2 (obx 2 0) ?_;refine ax 3 (obx 2 1) ?_;refine aa 4 ?_;refine an ?_;refine asq ?_;refine asr ?_;refine aQ tok 6 rfl ?_;refine aop 15 (fun hb1 => ?_) fun hb1 => ?_
 ·
  refine aQ tok 8 rfl ?_;refine an ?_;refine act ?_;refine asr ?_;refine aa 4 ?_;refine an ?_;refine agt ⟨[_], ⟨rfl, trivial⟩, ?_, rfl⟩
  show AV.bool false = _
  rw [decide_eq_false (by rintro rfl; simp_all)]
 refine aQ tok 8 rfl ?_;refine an ?_;refine asp 23 (fun hb2 => ?_) fun hb2 => ?_
 ·
  refine act ?_;refine asr ?_;refine aa 4 ?_;refine an ?_;refine agt ⟨[_], ⟨rfl, trivial⟩, ?_, rfl⟩
  show AV.bool false = _
  rw [decide_eq_false (by rintro rfl; simp_all)]
 refine acf ?_
 have h0 : a.words = b.words ∧ a.funcs.length = b.funcs.length := by simp_all <;> omega
 refine agk ?_;refine asq ?_;refine asr ?_;refine aQ tok 4 rfl ?_;refine an ?_;refine AGo.block ?_;refine AGo.loopD (γ := Nat) 2 (fun i => ⟨69, (eput (eput (eput (eput (eput eNew 2 (.ptr 0 1 0 0)) 3 (.ptr 1 1 0 0)) 25 (funcsAV a.funcs)) 26 (.int .i64 (a.funcs.length : Int))) 27 (.int .i64 (i : Int))), (hput (hput (hFrom 2) 0 (.row false 2 [a.cells])) 1 (.row false 2 [b.cells]))⟩) (fun i => a.funcs.take i = b.funcs.take i) (fun i => a.funcs.length - i) 0 (Sub.mk' z29q z12q) rfl (fun _ => hput_free (hput_free (fun b hb => hFrom_free hb) rfl) rfl) ?_
 intro i ht
 refine asr ?_;refine aqb ?_;refine an ?_;refine asq ?_;refine asp 28 (fun hb3 => ?_) fun hb3 => ?_
 ·
  refine act ?_
  have hil : i < a.funcs.length := by simpa using hb3
  obtain ⟨f, hf⟩ := get_of_lt hil
  obtain ⟨g, hg⟩ := get_of_lt (l := b.funcs) (k := i) (by omega)
  obtain ⟨hl2, hl3⟩ := hl1 f (List.mem_of_getElem? hf)
  refine agk ?_;refine asq ?_;refine AGo.block ?_;refine asr ?_;refine am 29 ?_;refine aq 30 (qil tok (idx_map hf)) ?_;refine al 31 tok ?_;refine ax 6 (oal tok 2) ?_;refine aa 5 ?_;refine AOps.w rfl rfl (o_store tok rfl rfl rfl rfl rfl rfl rfl rfl rfl (by decide) rfl z51q) ?_;refine an ?_;refine asr ?_;refine aQ tok 3 rfl ?_;refine aq 35 (qil tok (idx_map hg)) ?_;refine al 36 tok ?_;refine ax 7 (oal tok 3) ?_;refine AOps.w rfl rfl (o_store tok rfl rfl rfl rfl rfl rfl rfl rfl rfl (by decide) rfl z51q) ?_;refine an ?_;refine asq ?_;refine asr ?_;refine aQ tok 6 rfl ?_;refine aop 42 (fun hb4 => ?_) fun hb4 => ?_
  ·
   refine aQ tok 8 rfl ?_;refine an ?_;refine act ?_;refine asr ?_;refine aa 4 ?_;refine an ?_;refine agt ⟨[_], ⟨rfl, trivial⟩, ?_, rfl⟩
   show AV.bool false = _
   rw [decide_eq_false (by rintro rfl; rw [hf] at hg; cases hg; simp_all)]
  refine aQ tok 8 rfl ?_;refine an ?_;refine asp 50 (fun hb5 => ?_) fun hb5 => ?_
  ·
   refine act ?_;refine asr ?_;refine aa 4 ?_;refine an ?_;refine agt ⟨[_], ⟨rfl, trivial⟩, ?_, rfl⟩
   show AV.bool false = _
   rw [decide_eq_false (by rintro rfl; rw [hf] at hg; cases hg; simp_all)]
  refine acf ?_
  have h1 : f.regs = g.regs ∧ f.blocks.length = g.blocks.length := by simp_all <;> omega
  refine agk ?_;refine asr ?_;refine aQ tok 4 rfl ?_;refine an ?_;refine AGo.block ?_;refine AGo.loopD (γ := Nat) 4 (fun j => ⟨69, (eput (eput (eput (eput (eput (eput (eput (eput (eput (eput eNew 2 (.ptr 0 1 0 0)) 3 (.ptr 1 1 0 0)) 25 (funcsAV a.funcs)) 26 (.int .i64 (a.funcs.length : Int))) 27 (.int .i64 (i : Int))) 6 (.ptr 2 1 0 0)) 7 (.ptr 3 1 0 0)) 52 (blocksAV f.blocks)) 53 (.int .i64 (f.blocks.length : Int))) 54 (.int .i64 (j : Int))), (hput (hput (hput (hput (hFrom 4) 0 (.row false 2 [a.cells])) 1 (.row false 2 [b.cells])) 2 (.row false 2 [f.cells])) 3 (.row false 2 [g.cells]))⟩) (fun j => f.blocks.take j = g.blocks.take j) (fun j => f.blocks.length - j) 0 (Sub.mk' z29q z12q) rfl (fun _ => hput_free (hput_free (hput_free (hput_free (fun b hb => hFrom_free hb) rfl) rfl) rfl) rfl) ?_
  intro j hs
  refine asr ?_;refine aqb ?_;refine an ?_;refine asq ?_;refine asp 55 (fun hb6 => ?_) fun hb6 => ?_
  ·
   refine act ?_
   have hjl : j < f.blocks.length := by simpa using hb6
   obtain ⟨x, hx⟩ := get_of_lt hjl
   obtain ⟨y, hy⟩ := get_of_lt (l := g.blocks) (k := j) (by omega)
   refine agk ?_;refine asq ?_;refine AGo.block ?_;refine asr ?_;refine am 56 ?_;refine aq 57 (qil tok (idx_map hx)) ?_;refine al 58 tok ?_;refine ax 9 (oal tok 4) ?_;refine aa 8 ?_;refine AOps.w rfl rfl (o_store tok rfl rfl rfl rfl rfl rfl rfl rfl rfl (by decide) rfl z51q) ?_;refine an ?_;refine asq ?_;refine AGo.draw mix ?_;refine dQ tok 4 rfl ?_;refine dq 63 (qil tok (idx_map hy)) ?_;refine dl 64 tok ?_;refine dx 65 (opu Tryz.func67 (sameBlock_ok x y (by have := hl3 x (List.mem_of_getElem? hx); omega))) ?_;refine dq 66 (q_not rfl rfl) ?_;refine DOps.nil (by kernel_rfl) ?_;refine asp 66 (fun hb7 => ?_) fun hb7 => ?_
   ·
    refine act ?_
    have hxy : x ≠ y := by simpa using hb7
    refine asr ?_;refine aa 4 ?_;refine an ?_;refine agt ⟨[_], ⟨rfl, trivial⟩, ?_, rfl⟩
    show AV.bool false = _
    rw [decide_eq_false (by rintro rfl; rw [hf] at hg; cases hg; rw [hx] at hy; cases hy; exact hxy rfl)]
   refine acf ?_
   have hxy : x = y := by simpa using hb7
   refine agk ?_;refine agr ?_;refine aq 67 (q_inc rfl rfl hjl (by simp only [maxLen]; omega)) ?_;refine am 54 ?_;refine an ?_;exact ⟨j+1, Drop.mk' z31q z18q, (by rw [take_succ_eq hx, take_succ_eq hy, hs, hxy]), by omega⟩
  refine acf ?_
  have hge2 : f.blocks.length ≤ j := by simpa using hb6
  have hfg : f = g := BFunc.ext' h1.1 (take_all hs hge2 (h1.2 ▸ hge2))
  refine AGo.exit ?_;refine agr ?_;refine aq 68 (q_inc rfl rfl hil (by simp only [maxLen]; omega)) ?_;refine am 27 ?_;refine an ?_;exact ⟨i+1, Drop.mk' z31q z18q, (by rw [take_succ_eq hf, take_succ_eq hg, ht, hfg]), by omega⟩
 refine acf ?_
 have hge : a.funcs.length ≤ i := by simpa using hb3
 refine AGo.exit ?_;refine asr ?_;refine aa 4 ?_;refine an ?_;refine agt ⟨[_], ⟨rfl, trivial⟩, ?_, rfl⟩
 show AV.bool true = _
 rw [decide_eq_true (Blocks.ext' h0.1 (take_all ht hge (h0.2 ▸ hge)))]
theorem leads35_ok (f g : BFunc) (l : List OPass) (hl : l.length ≤ 1048576) (I : BFunc → Prop) (hI0 : I f) (hIb : ∀ f, I f → f.Lim) (hH : ∀ p ∈ l, I p.f ∧ ∀ f, I f → kind35 p.kind = true → HoldsOk p f) : APure Tryz.prog 34 [.agg f.cells, .agg g.cells, passesAV l] (fun r => r = .bool (leadsL f g l)) := by
 refine APure.of_body (n := 42) tok Tryz.func34 rfl rfl ?_;refine asr ?_;refine ax 3 (obx 2 0) ?_;refine ax 4 (obx 2 1) ?_;refine aa 6 ?_;refine an ?_;refine asq ?_;refine asr ?_;refine aQ tok 3 rfl ?_;refine an ?_;refine AGo.block ?_;refine AGo.loopD (γ := Nat) 2 (fun k => ⟨42, (eput (eput (eput (eput (eput eNew 3 (.ptr 0 1 0 0)) 4 (.ptr 1 1 0 0)) 11 (passesAV l)) 12 (.int .i64 (l.length : Int))) 13 (.int .i64 (k : Int))), (hput (hput (hFrom 2) 0 (.row false 2 [(atP f (l.take k)).cells])) 1 (.row false 2 [g.cells]))⟩) (fun k => I (atP f (l.take k)) ∧ leadsL f (atP f (l.take k)) (l.take k) = true) (fun k => l.length - k) 0 (Sub.mk' z29q z12q) ⟨hI0, decide_eq_true rfl⟩ (fun _ => hput_free (hput_free (fun b hb => hFrom_free hb) rfl) rfl) ?_
 intro k hF
 refine asr ?_;refine aqb ?_;refine an ?_;refine asq ?_;refine asp 14 (fun hb1 => ?_) fun hb1 => ?_
 ·
  refine act ?_
  have hkl : k < l.length := by have h := hb1; simp at h; omega
  obtain ⟨p, hp⟩ := get_of_lt hkl
  have hpm := List.mem_of_getElem? hp
  refine agk ?_;refine asq ?_;refine AGo.block ?_;refine asr ?_;refine aq 15 (qil tok (idx_map hp)) ?_;refine al 16 tok ?_;refine ax 8 (oal tok 2) ?_;refine AOps.w rfl rfl (o_store tok rfl rfl rfl rfl rfl rfl rfl rfl rfl (by decide) rfl z51q) ?_;refine an ?_;refine asr ?_;refine aQ tok 2 rfl ?_;refine ax 20 (opu Tryz.func31 (find_ok _)) ?_;refine aQ tok 5 rfl ?_;refine an ?_;refine asq ?_;refine asr ?_;refine aQ tok 3 rfl ?_;refine aop 25 (fun hb2 => ?_) fun hb2 => ?_
  ·
   refine aQ tok 6 rfl ?_;refine an ?_;refine act ?_
   have hno : p.holds (atP f (l.take k)) = false := by
     first
     | (simpa using hb2; done)
     | (exact holds_kind (by simpa using hb2))
   refine asr ?_;refine aa 6 ?_;refine an ?_;refine agt ⟨[_], ⟨rfl, trivial⟩, ?_, rfl⟩
   refine bc ?_;exact (leadsL_bad hp hF.2 hno).symm
  have hkd : kind35 p.kind = true := by simpa using hb2
  refine aQ tok 3 rfl ?_;refine ax 29 (o_holds hkd rfl rfl rfl ((hH p hpm).2 _ hF.1 hkd)) ?_;refine aQ tok 2 rfl ?_;refine an ?_;refine asp 31 (fun hb3 => ?_) fun hb3 => ?_
  ·
   refine act ?_
   have hno : p.holds (atP f (l.take k)) = false := by
     first
     | (simpa using hb3; done)
     | (exact holds_kind (by simpa using hb2))
   refine asr ?_;refine aa 6 ?_;refine an ?_;refine agt ⟨[_], ⟨rfl, trivial⟩, ?_, rfl⟩
   refine bc ?_;exact (leadsL_bad hp hF.2 hno).symm
  refine acf ?_
  have hyes : p.holds (atP f (l.take k)) = true := by simpa using hb3
  refine agk ?_;refine agr ?_;refine aQ tok 2 rfl ?_;refine AOps.w rfl rfl (o_store tok rfl rfl rfl rfl rfl rfl rfl rfl rfl (by decide) rfl z51q) ?_;refine an ?_;refine agr ?_;refine aq 34 (q_inc rfl rfl hkl (by simp only [maxLen]; omega)) ?_;refine am 13 ?_;refine an ?_;exact ⟨k+1, Drop.mk' z31q z11q, ⟨by rw [atP_succ f hp]; exact (hH p hpm).1, leadsL_succ hp hF.2 hyes⟩, by omega⟩
 refine acf ?_
 have hge : l.length ≤ k := by have h := hb1; simp at h; omega
 have hE : I (atP f l) ∧ leadsL f (atP f l) l = true := by have h := hF; rwa [List.take_of_length_le hge] at h
 refine AGo.exit ?_;refine asq ?_
 rw [List.take_of_length_le hge]
 refine agr ?_;refine al 35 tok ?_;refine ax 36 (o_lit' tok rfl rfl rfl rfl rfl rfl (by decide) rfl rfl rfl rfl rfl rfl) ?_;refine aq 37 (q_build tok rfl rfl rfl rfl rfl (by decide) rfl rfl rfl) ?_;refine al 38 tok ?_;refine ax 39 (o_lit' tok rfl rfl rfl rfl rfl rfl (by decide) rfl rfl rfl rfl rfl rfl) ?_;refine aq 40 (q_build tok rfl rfl rfl rfl rfl (by decide) rfl rfl rfl) ?_;refine ax 41 (opu Tryz.func46 (bsame_ok ⟨0, [atP f l]⟩ ⟨0, [g]⟩ (by simp) (fun x hx => by simp only [List.mem_singleton] at hx; subst hx; exact (hIb _ hE.1).big))) ?_
 refine aa 6 ?_;refine an ?_;refine agt ⟨[_], ⟨rfl, trivial⟩, ?_, rfl⟩
 refine bc ?_
 rw [leadsL_end hE.2]
 simp
theorem rnext_ok (f : BFunc) (hn : f.blocks.length ≤ 100000) : APure Tryz.prog 50 [.agg f.cells] (fun r => r = pathsAV f.nexts) := by
  refine APure.of_body (n := 43) tok Tryz.func50 rfl rfl ?_;refine asr ?_;refine ax 1 (obx 2 0) ?_;refine aa 2 ?_;refine an ?_;refine asr ?_;refine aQ tok 3 rfl ?_;refine ax 9 (o_makeSlice tok (n := f.blocks.length) (m := f.blocks.length) 1 true rfl rfl rfl (by simp) (by simp) rfl rfl rfl rfl rfl (Nat.zero_lt_succ _) rfl (Nat.le_refl _) (by show 24 * f.blocks.length ≤ _; omega) (by simp only [maxLen]; omega)) ?_;refine aa 3 ?_;refine an ?_;refine asq ?_;refine asq ?_;refine AGo.ghost (Ghost.weakRow 1 (es' := List.replicate f.blocks.length [.lst false []]) rfl (by simp) (weak_nils _)) ?_;refine agr ?_;refine aa 4 ?_;refine an ?_;refine AGo.block ?_;refine AGo.loopD (γ := Nat) 2 (fun k => ⟨43, (eput (eput (eput eNew 1 (.ptr 0 1 0 0)) 3 (.ref 1 f.blocks.length 0 f.blocks.length)) 4 (.int .i64 (k : Int))), (hput (hput (hFrom 2) 0 (.row false 2 [f.cells])) 1 (.row true 1 (((f.nexts.take (k)).map pathCell) ++ List.replicate (f.blocks.length - (k)) [.lst false []])))⟩) (fun k => k ≤ f.blocks.length) (fun k => f.blocks.length - k) 0 (Sub.mk' z29q (by repeat (first | exact HSub.none _ | exact HSub.from_new _ | exact HSub.from_from (by decide) | refine HSub.put ?_ (by rfl) | refine HSub.from_put ?_ (by decide) | refine HSub.from_rm ?_ (by decide)))) (Nat.zero_le _) (fun _ => hput_free (hput_free (fun b hb => hFrom_free hb) rfl) rfl) ?_
  intro k hk
  refine asq ?_;refine asr ?_;refine aQ tok 5 rfl ?_;refine an ?_;refine asp 14 (fun hb1 => ?_) fun hb1 => ?_
  · -- True
    refine act ?_
    have hkl : k < f.blocks.length := by simpa using hb1
    obtain ⟨x, hx⟩ := get_of_lt hkl
    have hnx := nexts_get hx
    refine agk ?_;refine asq ?_;refine AGo.block ?_;refine asr ?_;refine aQ tok 3 rfl ?_;refine aq 20 (q_index_lst tok rfl rfl rfl rfl rfl rfl (Int.natCast_nonneg _) (idx_map (by assumption)) rfl) ?_;refine al 21 tok ?_;refine ax 5 (oal tok 2) ?_;refine AOps.w rfl rfl (o_store tok rfl rfl rfl rfl rfl rfl rfl rfl rfl (by decide) rfl z51q) ?_;refine an ?_;refine asq ?_;refine asr ?_;refine aQ tok 3 rfl ?_;refine an ?_;refine asp 24 (fun hb2 => ?_) fun hb2 => ?_
    · -- True
      refine act ?_
      have hx1 : x.fin = 1 := by simpa using hb2
      refine agr ?_;refine aQ tok 4 rfl ?_;refine ax 29 (o_lit' tok rfl rfl rfl rfl rfl rfl (by decide) rfl rfl rfl rfl rfl rfl) ?_;refine aq 30 (q_index_ref tok rfl rfl rfl rfl rfl rfl rfl (fill_len (nexts_length f) (Nat.le_of_lt hkl)) rfl (Int.natCast_nonneg _) (by omega)) ?_;refine AOps.w rfl rfl (o_store tok rfl rfl rfl rfl rfl rfl (fill_len (nexts_length f) (Nat.le_of_lt hkl)) (fill_get (nexts_length f) hkl) rfl (by decide) rfl z51q) ?_;refine an ?_;refine asr ?_;refine aQ tok 2 rfl ?_;refine aq 33 (q_bin (r := .bool false) rfl rfl rfl (by show some (AV.bool (x.fin == 2)) = _; rw [hx1]; rfl)) ?_;refine an ?_;refine acf ?_;refine agk ?_;refine agr ?_;refine am 15 ?_;refine aq 16 (q_inc rfl rfl hkl (show f.blocks.length ≤ maxLen by simp only [maxLen]; omega)) ?_
      refine aa 4 ?_;refine an ?_;exact ⟨k+1, Drop.mk' z42q z3q, hkl, by omega⟩
    · -- False
      refine acf ?_
      have hx1 : ¬ x.fin = 1 := by simpa using hb2
      refine agk ?_;refine asr ?_;refine aQ tok 3 rfl ?_;refine an ?_;refine asp 33 (fun hb3 => ?_) fun hb3 => ?_
      · -- True
        refine act ?_;refine agr ?_;refine aQ tok 6 rfl ?_;refine ax 40 (o_lit' tok rfl rfl rfl rfl rfl rfl (by decide) rfl rfl rfl rfl rfl rfl) ?_;refine aq 41 (q_index_ref tok rfl rfl rfl rfl rfl rfl rfl (fill_len (nexts_length f) (Nat.le_of_lt hkl)) rfl (Int.natCast_nonneg _) (by omega)) ?_;refine AOps.w rfl rfl (o_store tok rfl rfl rfl rfl rfl rfl (fill_len (nexts_length f) (Nat.le_of_lt hkl)) (fill_get (nexts_length f) hkl) rfl (by decide) rfl z51q) ?_;refine an ?_;refine agr ?_;refine am 15 ?_;refine aq 16 (q_inc rfl rfl hkl (show f.blocks.length ≤ maxLen by simp only [maxLen]; omega)) ?_
        refine aa 4 ?_;refine an ?_;exact ⟨k+1, Drop.mk' z42q z3q, hkl, by omega⟩
      · -- False
        refine acf ?_;refine agk ?_;refine agr ?_;refine am 15 ?_;refine aq 16 (q_inc rfl rfl hkl (show f.blocks.length ≤ maxLen by simp only [maxLen]; omega)) ?_
        refine aa 4 ?_;refine an ?_;exact ⟨k+1, Drop.mk' z42q z3q, hkl, by omega⟩
  · -- False
    refine acf ?_
    have hge : f.blocks.length ≤ k := by simpa using hb1
    refine AGo.exit ?_;refine asq ?_;refine AGo.ghost (.freezeA 3 1 rfl rfl (fill_len (nexts_length f) hk)) ?_;refine agr ?_;refine aQ tok 2 rfl ?_;refine an ?_;refine agt ⟨[_], ⟨rfl, trivial⟩, ?_, rfl⟩
    have e1 := fill_end (f := pathCell) (z := [.lst false []]) (nexts_length f) hge
    rw [List.drop_zero, List.take_of_length_le (Nat.le_of_eq (fill_len (nexts_length f) hk).symm)] at e1
    show AV.lst false _ = AV.lst false _
    rw [e1]
    rfl
theorem next_ok (f : BFunc) (hn : f.blocks.length ≤ 100000) : APure Tryz.prog 80 [.agg f.cells] (fun r => r = pathsAV f.nexts) := by
  refine APure.of_body (n := 40) tok Tryz.func80 rfl rfl ?_;refine asr ?_;refine ax 1 (obx 2 0) ?_;refine aa 2 ?_;refine an ?_;refine asr ?_;refine aQ tok 3 rfl ?_;refine ax 9 (o_makeSlice tok (n := f.blocks.length) (m := f.blocks.length) 1 true rfl rfl rfl (by simp) (by simp) rfl rfl rfl rfl rfl (Nat.zero_lt_succ _) rfl (Nat.le_refl _) (by show 24 * f.blocks.length ≤ _; omega) (by simp only [maxLen]; omega)) ?_;refine aa 3 ?_;refine an ?_;refine asq ?_;refine asq ?_;refine AGo.ghost (Ghost.weakRow 1 (es' := List.replicate f.blocks.length [.lst false []]) rfl (by simp) (weak_nils _)) ?_;refine agr ?_;refine aQ tok 4 rfl ?_;refine an ?_;refine AGo.block ?_;refine AGo.loopD (γ := Nat) 2 (fun k => ⟨40, (eput (eput (eput (eput eNew 3 (.ref 1 f.blocks.length 0 f.blocks.length)) 11 (blocksAV f.blocks)) 12 (.int .i64 (f.blocks.length : Int))) 13 (.int .i64 (k : Int))), (hput (hput (hFrom 2) 0 (.row false 2 [f.cells])) 1 (.row true 1 (((f.nexts.take (k)).map pathCell) ++ List.replicate (f.blocks.length - (k)) [.lst false []])))⟩) (fun k => k ≤ f.blocks.length) (fun k => f.blocks.length - k) 0 (Sub.mk' z29q (by repeat (first | exact HSub.none _ | exact HSub.from_new _ | exact HSub.from_from (by decide) | refine HSub.put ?_ (by rfl) | refine HSub.from_put ?_ (by decide)))) (Nat.zero_le _) (fun _ => hput_free (hput_free (fun b hb => hFrom_free hb) rfl) rfl) ?_
  intro k hk
  refine asr ?_;refine aqb ?_;refine an ?_;refine asq ?_;refine asp 14 (fun hb1 => ?_) fun hb1 => ?_
  · -- True
    refine act ?_
    have hkl : k < f.blocks.length := by simpa using hb1
    obtain ⟨x, hx⟩ := get_of_lt hkl
    have hnx := nexts_get hx
    refine agk ?_;refine asq ?_;refine AGo.block ?_;refine asr ?_;refine am 15 ?_;refine aq 16 (q_index_lst tok rfl rfl rfl rfl rfl rfl (Int.natCast_nonneg _) (idx_map (by assumption)) rfl) ?_;refine al 17 tok ?_;refine ax 5 (oal tok 2) ?_;refine aa 4 ?_;refine AOps.w rfl rfl (o_store tok rfl rfl rfl rfl rfl rfl rfl rfl rfl (by decide) rfl z51q) ?_;refine an ?_;refine asr ?_;refine aQ tok 2 rfl ?_;refine an ?_;refine AGo.block ?_;refine asr ?_;refine aQ tok 2 rfl ?_;refine an ?_;refine asp 20 (fun hb2 => ?_) fun hb2 => ?_
    · -- True
      refine act ?_;refine agr ?_;refine aQ tok 4 rfl ?_;refine ax 26 (o_lit' tok rfl rfl rfl rfl rfl rfl (by decide) rfl rfl rfl rfl rfl rfl) ?_;refine aq 27 (q_index_ref tok rfl rfl rfl rfl rfl rfl rfl (fill_len (nexts_length f) (Nat.le_of_lt hkl)) rfl (Int.natCast_nonneg _) (by omega)) ?_;refine AOps.w rfl rfl (o_store tok rfl rfl rfl rfl rfl rfl (fill_len (nexts_length f) (Nat.le_of_lt hkl)) (fill_get (nexts_length f) hkl) rfl (by decide) rfl z51q) ?_;refine an ?_;refine agr ?_;refine aq 38 (q_inc rfl rfl hkl (show f.blocks.length ≤ maxLen by simp only [maxLen]; omega)) ?_
      refine am 13 ?_;refine an ?_;exact ⟨k+1, Drop.mk' z42q z3q, hkl, by omega⟩
    · -- False
      refine acf ?_;refine asr ?_;refine aQ tok 2 rfl ?_;refine an ?_;refine asp 28 (fun hb3 => ?_) fun hb3 => ?_
      · -- True
        refine act ?_;refine agr ?_;refine aQ tok 6 rfl ?_;refine ax 36 (o_lit' tok rfl rfl rfl rfl rfl rfl (by decide) rfl rfl rfl rfl rfl rfl) ?_;refine aq 37 (q_index_ref tok rfl rfl rfl rfl rfl rfl rfl (fill_len (nexts_length f) (Nat.le_of_lt hkl)) rfl (Int.natCast_nonneg _) (by omega)) ?_;refine AOps.w rfl rfl (o_store tok rfl rfl rfl rfl rfl rfl (fill_len (nexts_length f) (Nat.le_of_lt hkl)) (fill_get (nexts_length f) hkl) rfl (by decide) rfl z51q) ?_;refine an ?_;refine agr ?_;refine aq 38 (q_inc rfl rfl hkl (show f.blocks.length ≤ maxLen by simp only [maxLen]; omega)) ?_
        refine am 13 ?_;refine an ?_;exact ⟨k+1, Drop.mk' z42q z3q, hkl, by omega⟩
      · -- False
        refine acf ?_;refine agk ?_;refine agr ?_;refine aq 38 (q_inc rfl rfl hkl (show f.blocks.length ≤ maxLen by simp only [maxLen]; omega)) ?_
        refine am 13 ?_;refine an ?_;exact ⟨k+1, Drop.mk' z42q z3q, hkl, by omega⟩
  · -- False
    refine acf ?_
    have hge : f.blocks.length ≤ k := by simpa using hb1
    refine AGo.exit ?_;refine asq ?_;refine AGo.ghost (.freeze 3 1 rfl rfl (fill_len (nexts_length f) hk)) ?_;refine agr ?_;refine aQ tok 2 rfl ?_;refine an ?_;refine agt ⟨[_], ⟨rfl, trivial⟩, ?_, rfl⟩
    show AV.lst false _ = AV.lst false _
    rw [fill_end (nexts_length f) hge]
    rfl
theorem stands_ok (f : BFunc) (hn : f.blocks.length ≤ 100000) (hi : ∀ x ∈ f.blocks, x.ins.length ≤ 100000) : APure Tryz.prog 132 [.agg f.cells] (fun r => r = .bool f.stands) := by
 refine APure.of_body (n := 65) tok Tryz.func132 rfl rfl ?_;refine asr ?_;refine ax 1 (obx 2 0) ?_;refine aa 2 ?_;refine an ?_;refine asq ?_;refine AGo.draw mix ?_;refine dQ tok 5 rfl ?_;refine dx 14 (o_makeSlice tok (n := f.blocks.length) (m := f.blocks.length) 1 true rfl rfl rfl (by simp) (by simp) rfl rfl rfl rfl rfl (Nat.zero_lt_succ _) rfl (Nat.le_refl _) (by show 56 * f.blocks.length ≤ _; omega) (by simp only [maxLen]; omega)) ?_;refine dq 15 (q_build tok rfl rfl rfl rfl rfl (by decide) rfl rfl rfl) ?_;refine dx 3 (oal tok 2) ?_;refine DOps.w rfl rfl (o_store tok rfl rfl rfl rfl rfl rfl rfl rfl rfl (by decide) rfl z51q) ?_;refine DOps.nil (by kernel_rfl) ?_;refine asq ?_;refine asr ?_;refine aQ tok 4 rfl ?_;refine an ?_;refine AGo.block ?_;refine AGo.loopD (γ := Nat) 3 (fun k => ⟨65, (eput (eput (eput (eput (eput eNew 1 (.ptr 0 1 0 0)) 3 (.ptr 2 1 0 0)) 17 (blocksAV f.blocks)) 18 (.int .i64 (f.blocks.length : Int))) 19 (.int .i64 (k : Int))), (hput (hput (hput (hFrom 3) 0 (.row false 2 [f.cells])) 1 (.row true 5 ((((f.blocks.map Block.bare).take (k)).map Block.cells) ++ List.replicate (f.blocks.length - (k)) [.nil, .int .i64 0, .int .i64 0, .int .i64 0, .int .i64 0]))) 2 (.row false 2 [[.int .i64 f.regs, .ref 1 f.blocks.length 0 f.blocks.length]]))⟩) (fun k => k ≤ f.blocks.length ∧ (f.blocks.take k).all (fun x => x.ins.all Tac.callOk) = true) (fun k => f.blocks.length - k) 0 (Sub.mk' z29q z12q) ⟨Nat.zero_le _, rfl⟩ (fun _ => hput_free (hput_free (hput_free (fun b hb => hFrom_free hb) rfl) rfl) rfl) ?_
 intro k ⟨hk, hall⟩
 refine asr ?_;refine aqb ?_;refine an ?_;refine asq ?_;refine asp 20 (fun hb1 => ?_) fun hb1 => ?_
 ·
  refine act ?_
  have hkl : k < f.blocks.length := by simpa using hb1
  obtain ⟨x, hx⟩ := get_of_lt hkl
  have hxm := List.mem_of_getElem? hx
  refine agk ?_;refine asq ?_;refine AGo.block ?_;refine asr ?_;refine am 21 ?_;refine aq 22 (qil tok (idx_map hx)) ?_;refine al 23 tok ?_;refine ax 5 (oal tok 3) ?_;refine aa 4 ?_;refine AOps.w rfl rfl (o_store tok rfl rfl rfl rfl rfl rfl rfl rfl rfl (by decide) rfl z51q) ?_;refine an ?_;refine asr ?_;refine aQ tok 3 rfl ?_;refine ax 27 (o_makeSlice tok (n := 0) (m := x.ins.length) 4 true rfl rfl rfl (rfl) (by simp) rfl rfl rfl rfl rfl (Nat.zero_lt_succ _) rfl (Nat.zero_le _) (by have := hi x hxm; show 64 * x.ins.length ≤ _; omega) (by have := hi x hxm; simp only [maxLen]; omega)) ?_;refine aa 6 ?_;refine an ?_;refine asq ?_;refine asr ?_;refine aQ tok 4 rfl ?_;refine an ?_;refine AGo.block ?_;refine AGo.loopD (γ := Nat) 5 (fun j => ⟨65, (eput (eput (eput (eput (eput (eput (eput (eput (eput (eput (eput eNew 1 (.ptr 0 1 0 0)) 3 (.ptr 2 1 0 0)) 17 (blocksAV f.blocks)) 18 (.int .i64 (f.blocks.length : Int))) 19 (.int .i64 (k : Int))) 4 (.int .i64 (k : Int))) 5 (.ptr 3 1 0 0)) 6 (.ref 4 (noCall (x.ins.take j)).length 0 (noCall (x.ins.take j)).length)) 29 (insAV x.ins)) 30 (.int .i64 (x.ins.length : Int))) 31 (.int .i64 (j : Int))), (hput (hput (hput (hput (hput (hFrom 5) 0 (.row false 2 [f.cells])) 1 (.row true 5 ((((f.blocks.map Block.bare).take (k)).map Block.cells) ++ List.replicate (f.blocks.length - (k)) [.nil, .int .i64 0, .int .i64 0, .int .i64 0, .int .i64 0]))) 2 (.row false 2 [[.int .i64 f.regs, .ref 1 f.blocks.length 0 f.blocks.length]])) 3 (.row false 5 [x.cells])) 4 (.row true 8 ((noCall (x.ins.take j)).map Tac.cells)))⟩) (fun j => j ≤ x.ins.length ∧ (x.ins.take j).all Tac.callOk = true) (fun j => x.ins.length - j) 0 (Sub.mk' z29q z12q) ⟨Nat.zero_le _, rfl⟩ (fun _ => hput_free (hput_free (hput_free (hput_free (hput_free (fun b hb => hFrom_free hb) rfl) rfl) rfl) rfl) rfl) ?_
  intro j ⟨hj, hja⟩
  refine asr ?_;refine aqb ?_;refine an ?_;refine asq ?_;refine asp 32 (fun hb2 => ?_) fun hb2 => ?_
  ·
   refine act ?_
   have hjl : j < x.ins.length := by have h := hb2; simp only [List.length_map, decide_eq_true_eq] at h; omega
   obtain ⟨t, ht⟩ := get_of_lt hjl
   refine agk ?_;refine asq ?_;refine AGo.block ?_;refine asr ?_;refine aq 33 (qil tok (idx_map ht)) ?_;refine al 34 tok ?_;refine ax 8 (oal tok 5) ?_;refine AOps.w rfl rfl (o_store tok rfl rfl rfl rfl rfl rfl rfl rfl rfl (by decide) rfl z51q) ?_;refine an ?_;refine asq ?_;refine asr ?_
   skip
   refine aQ tok 3 rfl ?_;refine an ?_;refine asp 37 (fun hb3 => ?_) fun hb3 => ?_
   ·
    refine act ?_
    have h10 : (t.op != 10) = true := hb3
    have hnc := noCall_yes ht h10
    have hok := callOk_no h10
    refine asr ?_;refine aQ tok 2 rfl ?_;refine ax 40 (o_lit' tok rfl rfl rfl rfl rfl rfl (by decide) rfl rfl rfl rfl rfl rfl) ?_;refine ax 41 (o_append tok (n := (noCall (x.ins.take j)).length) (m := 1) rfl rfl rfl rfl rfl rfl rfl rfl rfl (by rw [List.length_map]) rfl rfl (Nat.zero_lt_succ _) (.lst _ _) (by intro cs h; simp [partVals] at h; subst h; rfl) (fun _ cs h => by simp [partVals] at h; subst h; rfl) rfl (by have h1 := noCall_take x.ins j; have h2 := hi x hxm; simp [partVals]; omega) (by have h1 := noCall_take x.ins j; have h2 := hi x hxm; simp [partVals]; simp only [maxLen]; omega)) ?_
    refine aa 6 ?_;refine an ?_;refine AGo.exit ?_;refine agr ?_;refine aq 52 (q_inc rfl rfl hjl (by have := hi x hxm; simp only [maxLen]; omega)) ?_;refine am 31 ?_;refine an ?_;exact ⟨j+1, Drop.mk' z13q z15q, ⟨hjl, all_succ ht hja (by first | exact hok | exact callOk_yes h10 hb0 (ndec_same hgood))⟩, by omega⟩
   refine acf ?_
   have h10 : (t.op != 10) = false := hb3
   have hnc := noCall_no ht h10
   refine agk ?_;refine asr ?_;refine aQ tok 4 rfl ?_;refine aop 45 (fun hb4 => ?_) fun hb4 => ?_
   ·
    refine aQ tok 6 rfl ?_;refine an ?_;refine act ?_
    have hbad := hb4
    refine asr ?_;refine aa 2 ?_;refine an ?_;refine agt ⟨[_], ⟨rfl, trivial⟩, ?_, rfl⟩
    refine bc ?_;exact (stands_bad hx ht (by first | exact callOk_bad1 h10 hbad | exact callOk_bad2 h10 (ndec_same' hbad))).symm
   have hb0 := hb4
   refine aQ tok 3 rfl ?_;refine aq 49 (q_build tok rfl rfl rfl rfl rfl (by decide) rfl rfl rfl) ?_;refine aq 50 (q_eqStruct tok true rfl rfl rfl (by kernel_rfl) rfl rfl rfl rfl rfl) ?_;refine apf ?_;refine an ?_;refine asp 51 (fun hb5 => ?_) fun hb5 => ?_
   ·
    refine act ?_
    have hbad := hb5
    refine asr ?_;refine aa 2 ?_;refine an ?_;refine agt ⟨[_], ⟨rfl, trivial⟩, ?_, rfl⟩
    refine bc ?_;exact (stands_bad hx ht (by first | exact callOk_bad1 h10 hbad | exact callOk_bad2 h10 (ndec_same' hbad))).symm
   refine acf ?_
   have hgood := hb5
   refine agk ?_;refine agr ?_;refine aq 52 (q_inc rfl rfl hjl (by have := hi x hxm; simp only [maxLen]; omega)) ?_;refine am 31 ?_;refine an ?_;exact ⟨j+1, Drop.mk' z13q z15q, ⟨hjl, all_succ ht hja (by first | exact hok | exact callOk_yes h10 hb0 (ndec_same hgood))⟩, by omega⟩
  refine acf ?_
  have hjge : x.ins.length ≤ j := by have h := hb2; simp only [List.length_map, decide_eq_false_iff_not] at h; omega
  refine AGo.exit ?_;refine asq ?_;refine AGo.ghost (.freezeAll0 6 4 rfl rfl (by rw [List.length_map])) ?_
  rw [List.take_of_length_le hjge]
  refine agr ?_;refine aQ tok 2 rfl ?_;refine AOps.w rfl rfl (o_store tok rfl rfl rfl rfl rfl rfl rfl rfl rfl (by decide) rfl z51q) ?_;refine an ?_;refine agr ?_;refine aQ tok 4 rfl ?_;refine aq 59 (q_index_ref tok rfl rfl rfl rfl rfl rfl rfl (fill_len (by simp : (f.blocks.map Block.bare).length = f.blocks.length) (Nat.le_of_lt hkl)) rfl (Int.natCast_nonneg _) (by omega)) ?_;refine AOps.w rfl rfl (o_store tok rfl rfl rfl rfl rfl rfl (fill_len (by simp : (f.blocks.map Block.bare).length = f.blocks.length) (Nat.le_of_lt hkl)) (fill_get (by simp : (f.blocks.map Block.bare).length = f.blocks.length) hkl) rfl (by decide) rfl z51q) ?_;refine an ?_;refine agr ?_;refine aq 60 (q_inc rfl rfl hkl (show f.blocks.length ≤ maxLen by simp only [maxLen]; omega)) ?_
  refine am 19 ?_;refine an ?_;exact ⟨k+1, Drop.mk' z31q (by repeat (first | exact HDrop.none _ _ | exact HDrop.tail _ _ | refine HDrop.put ?_ (by first | rfl | exact congrArg (fun es => some (AObj.row true 5 es)) (fill_put (f := Block.cells) (x := x.bare) (by simp : (f.blocks.map Block.bare).length = f.blocks.length) (bare_get hx))) rfl z35q)), ⟨hkl, all_succ hx hall (all_end hja hjge)⟩, by omega⟩
 refine acf ?_
 have hge : f.blocks.length ≤ k := by simpa using hb1
 refine AGo.exit ?_;refine asq ?_;refine AGo.ghost (.freezeCell 2 0 1 1 rfl rfl rfl rfl (fill_len (by simp : (f.blocks.map Block.bare).length = f.blocks.length) hk) (by decide)) ?_
 rw [fill_end (by simp : (f.blocks.map Block.bare).length = f.blocks.length) hge]
 refine agr ?_;refine al 61 tok ?_;refine ax 62 (o_lit' tok rfl rfl rfl rfl rfl rfl (by decide) rfl rfl rfl rfl rfl rfl) ?_;refine aq 63 (q_build tok rfl rfl rfl rfl rfl (by decide) rfl rfl rfl) ?_;refine ax 64 (opu Tryz.func33 (bright_ok (Blocks.mk 1048576 [f.bare]))) ?_;refine aa 2 ?_;refine an ?_;refine agt ⟨[_], ⟨rfl, trivial⟩, ?_, rfl⟩
 refine bc ?_;exact (stands_all (all_end hall hge)).symm
theorem effs_ok (E1 E2 : List (List Int)) (h1 : ∀ x ∈ E1, x.length = 6) (h2 : ∀ x ∈ E2, x.length = 6) (hl : E1.length ≤ 100000) : ACall Tryz.prog 134 [slA 10 ((E1).map (arrAV .i64)), slA 11 ((E2).map (arrAV .i64))] (hput (hput hNew 10 (slO 6 ((E1).map (arrAV .i64)))) 11 (slO 6 ((E2).map (arrAV .i64)))) (fun r h' => r = .bool (decide (E1 = E2)) ∧ HSub (hput (hput hNone 10 (slO 6 ((E1).map (arrAV .i64)))) 11 (slO 6 ((E2).map (arrAV .i64)))) h') := by
 refine ACall.of_body (n := 26) tok Tryz.func134 rfl rfl ?_;refine asr ?_;refine aa 4 ?_;refine an ?_;refine asq ?_;refine asr ?_;refine am 6 ?_;refine aq 7 (q_lenJ tok rfl rfl rfl rfl) ?_;refine am 8 ?_;refine aq 9 (q_lenJ tok rfl rfl rfl rfl) ?_;refine aqb ?_;refine an ?_;refine asp 10 (fun hb1 => ?_) fun hb1 => ?_
 ·
  refine act ?_
  have hne : E1.length ≠ E2.length := by have h := hb1; simp only [List.length_map, bne_iff_ne, ne_eq, Int.natCast_inj] at h; exact h
  refine asr ?_;refine aa 4 ?_;refine an ?_;refine agt ?_;refine ⟨[_], ⟨rfl, trivial⟩, ?_, HSub.put (HSub.put (HSub.none _) rfl) rfl⟩
  refine bc ?_;exact (decide_eq_false (fun e => hne (by rw [e]))).symm
 refine acf ?_
 have hel : E1.length = E2.length := by have h := hb1; simp only [List.length_map, bne_eq_false_iff_eq, Int.natCast_inj] at h; exact h
 refine agk ?_;refine asq ?_;refine asr ?_;refine am 11 ?_;refine aq 12 (q_lenJ tok rfl rfl rfl rfl) ?_;refine am 13 ?_;refine an ?_;refine AGo.block ?_;refine AGo.loopD (γ := Nat) 12 (fun k => ⟨26, (eput (eput (eput (eput eNew 0 (slA 10 ((E1).map (arrAV .i64)))) 1 (slA 11 ((E2).map (arrAV .i64)))) 12 (.int .i64 (((E1).map (arrAV .i64)).length : Int))) 13 (.int .i64 (k : Int))), (hput (hput (hFrom 12) 10 (slO 6 ((E1).map (arrAV .i64)))) 11 (slO 6 ((E2).map (arrAV .i64))))⟩) (fun k => k ≤ E1.length ∧ E1.take k = E2.take k) (fun k => E1.length - k) 0 (Sub.mk' z46q z12q) ⟨Nat.zero_le _, rfl⟩ (fun _ => hput_free (hput_free (fun b hb => hFrom_free hb) rfl) rfl) ?_
 intro k ⟨hk, htk⟩
 refine asr ?_;refine aqb ?_;refine an ?_;refine asq ?_;refine asp 14 (fun hb2 => ?_) fun hb2 => ?_
 ·
  refine act ?_
  have hkl : k < E1.length := by have h := hb2; simp only [List.length_map, decide_eq_true_eq] at h; omega
  obtain ⟨x, hx⟩ := get_of_lt hkl
  obtain ⟨y, hy⟩ := get_of_lt (l := E2) (k := k) (by omega)
  refine agk ?_;refine asq ?_;refine AGo.block ?_;refine asr ?_;refine aQ tok 2 rfl ?_;refine an ?_;refine asq ?_;refine AGo.draw mix ?_;refine dQ tok 2 rfl ?_;refine dq 18 (q_indexJ tok rfl rfl rfl rfl rfl rfl rfl rfl (Int.natCast_nonneg _) (by rw [List.length_map]; omega)) ?_;refine dq 19 (q_load tok rfl rfl rfl (ptsJ rfl (arr_get hx)) (load_arr rfl (by rw [h1 _ (List.mem_of_getElem? hx)]))) ?_;refine dQ tok 2 rfl ?_;refine dq 22 (q_indexJ tok rfl rfl rfl rfl rfl rfl rfl rfl (Int.natCast_nonneg _) (by rw [List.length_map]; omega)) ?_;refine dq 23 (q_load tok rfl rfl rfl (ptsJ rfl (arr_get hy)) (load_arr rfl (by rw [h2 _ (List.mem_of_getElem? hy)]))) ?_;refine dq 24 (q_eqInts tok (K := .i64) (l1 := x) (l2 := y) true rfl rfl rfl (by kernel_rfl) rfl rfl rfl rfl (by rw [h1 _ (List.mem_of_getElem? hx)]) (by rw [h2 _ (List.mem_of_getElem? hy)]) (by kernel_rfl)) ?_;refine DOps.nil (by kernel_rfl) ?_
  refine asp 24 (fun hb3 => ?_) fun hb3 => ?_
  ·
   refine act ?_
   have hxy : ¬ x = y := by have h := hb3; simpa using h
   refine asr ?_;refine aa 4 ?_;refine an ?_;refine agt ?_;refine ⟨[_], ⟨rfl, trivial⟩, ?_, HSub.put (HSub.put (HSub.none _) rfl) rfl⟩
   refine bc ?_;exact (decide_eq_false (fun e => by subst e; rw [hx] at hy; exact hxy (Option.some.inj hy))).symm
  refine acf ?_
  have hxy : x = y := by have h := hb3; simpa using h
  subst hxy
  refine agk ?_;refine agr ?_;refine aq 25 (q_inc rfl rfl hkl (by simp only [maxLen]; omega)) ?_;refine am 13 ?_;refine an ?_;exact ⟨k+1, Drop.mk' z31q z18q, ⟨hkl, take_eq_succ htk hx hy⟩, by omega⟩
 refine acf ?_
 have hge : E1.length ≤ k := by have h := hb2; simp only [List.length_map, decide_eq_false_iff_not] at h; omega
 refine AGo.exit ?_;refine asr ?_;refine aa 4 ?_;refine an ?_;refine agt ?_;refine ⟨[_], ⟨rfl, trivial⟩, ?_, HSub.put (HSub.put (HSub.none _) rfl) rfl⟩
 refine bc ?_;exact (decide_eq_true (take_all htk hge (by omega))).symm
theorem number_ok (first : Int) (K : List (List Int)) (hf : 0 ≤ first ∧ first ≤ 100000) (h4 : ∀ k ∈ K, k.length = 4) (hK : K.length ≤ 100000) (a b c d : Int) : ACall Tryz.prog 135 [.ptr 4 1 0 0, .agg [.int .i64 a, .int .i64 b, .int .i64 c, .int .i64 d]] (hput (hput (hput hNew 3 (.map (kvsA .i64 (vmap first (K))))) 4 (.row false 3 [[.int .i64 first, .map 3, slA 9 ((K).map (arrAV .i64))]])) 9 (slO 4 ((K).map (arrAV .i64)))) (fun r h' => r = .int .i64 (vnum first K [a, b, c, d]).1 ∧ HSub (hput (hput (hput hNone 3 (.map (kvsA .i64 (vmap first ((vnum first K [a, b, c, d]).2))))) 4 (.row false 3 [[.int .i64 first, .map 3, slA 9 (((vnum first K [a, b, c, d]).2).map (arrAV .i64))]])) 9 (slO 4 (((vnum first K [a, b, c, d]).2).map (arrAV .i64)))) h') := by
 refine ACall.of_body (n := 45) tok Tryz.func135 rfl rfl ?_;refine asr ?_;refine ax 3 (obx 4 12) ?_;refine aa 4 ?_;refine an ?_;refine asq ?_;refine AGo.draw mix ?_;refine dQ tok 5 rfl ?_;refine dq 13 (q_lookupOkA tok (z := [a, b, c, d]) (m := vmap first K) (n := 4) (zv := .int .i64 0) rfl rfl rfl rfl rfl rfl rfl rfl rfl rfl (by kernel_rfl) rfl (vmap_keys h4) (by kernel_rfl) rfl) ?_;refine dQ tok 5 rfl ?_;refine DOps.nil (by kernel_rfl) ?_;refine asq ?_;refine asr ?_;refine aQ tok 2 rfl ?_;refine an ?_;refine asp 17 (fun hb1 => ?_) fun hb1 => ?_
 ·
  refine act ?_
  have hn : kidx [a, b, c, d] K = none := vnone (hb1)
  refine asq ?_;refine AGo.draw mix ?_;refine dQ tok 8 rfl ?_;refine dq 26 (q_lenJ tok rfl rfl rfl rfl) ?_;refine dq 27 (q_bin (r := .int .i64 (first + (K.length : Int))) rfl rfl rfl (by rw [List.length_map]; exact addZ (by omega) (by omega) rfl)) ?_;refine da 5 ?_;refine DOps.nil (by kernel_rfl) ?_;refine asq ?_;refine AGo.draw mix ?_;refine dQ tok 6 rfl ?_;refine DOps.w rfl rfl (o_mapUpdateA tok (z := [a, b, c, d]) (m := vmap first K) (n := 4) rfl rfl rfl rfl rfl rfl rfl rfl rfl rfl rfl rfl rfl (by kernel_rfl) rfl (vmap_keys h4)) ?_;refine DOps.nil (by kernel_rfl) ?_;refine AGo.draw mix ?_;refine dQ tok 6 rfl ?_;refine dx 40 (o_lit' tok rfl rfl rfl rfl rfl rfl (by decide) rfl rfl rfl rfl rfl rfl) ?_;refine dx 41 (o_append1J tok (b := 9) (es := ((K).map (arrAV .i64))) rfl rfl rfl rfl rfl rfl rfl rfl rfl rfl rfl (Nat.zero_lt_succ _) (arr_len h4) (arr_pure _) rfl rfl (by rw [List.length_map]; show _ * 32 ≤ _; omega) z52q) ?_
  refine dQ tok 2 rfl ?_;refine DOps.w rfl rfl (o_store1 tok rfl rfl rfl rfl rfl rfl rfl rfl rfl (slA_cells _ _) (by decide) (slA_cell1 _ _) (by intro h; cases h)) ?_;refine DOps.nil (by kernel_rfl) ?_;refine asr ?_;refine aQ tok 2 rfl ?_;refine an ?_;refine agt ?_;refine ⟨[_], ⟨rfl, trivial⟩, ?_, ?_⟩
  · first
    | (rw [vnum_new hn]; rfl)
    | (rw [vnum_old hi]; exact (by rw [vmap_get, hi]; rfl))
  · first
    | (rw [vnum_new hn]; exact HSub.put (HSub.put (HSub.put (HSub.none _) (by dsimp only; rw [← vmap_set hn]; rfl)) (by dsimp only; rw [List.map_append]; rfl)) (by dsimp only; rw [List.map_append]; rfl))
    | (rw [vnum_old hi]; exact HSub.put (HSub.put (HSub.put (HSub.none _) rfl) rfl) rfl)
 refine acf ?_
 obtain ⟨i, hi⟩ : ∃ i, kidx [a, b, c, d] K = some i := vsome (hb1)
 refine agk ?_;refine asr ?_;refine aQ tok 2 rfl ?_;refine an ?_;refine agt ?_;refine ⟨[_], ⟨rfl, trivial⟩, ?_, ?_⟩
 · first
   | (rw [vnum_new hn]; rfl)
   | (rw [vnum_old hi]; exact (by rw [vmap_get, hi]; rfl))
 · first
   | (rw [vnum_new hn]; exact HSub.put (HSub.put (HSub.put (HSub.none _) (by dsimp only; rw [← vmap_set hn]; rfl)) (by dsimp only; rw [List.map_append]; rfl)) (by dsimp only; rw [List.map_append]; rfl))
   | (rw [vnum_old hi]; exact HSub.put (HSub.put (HSub.put (HSub.none _) rfl) rfl) rfl)
theorem divide_ok (op a b : Int) (hb : 0 ≤ b) : APure Tryz.prog 103 [.int .i64 op, .int .u32 a, .int .u32 b] (fun r => r = wpair (wdivide op a b)) := by
 refine APure.of_body (n := 18) tok Tryz.func103 rfl rfl ?_;refine asr ?_;refine aQ tok 2 rfl ?_;refine an ?_;refine asq ?_;refine asr ?_;refine aQ tok 2 rfl ?_;refine an ?_;refine asp 9 (fun hb1 => ?_) fun hb1 => ?_
 ·
  refine act ?_;refine asr ?_;refine aQ tok 2 rfl ?_;refine an ?_;refine agt ?_;refine ⟨[_, _], ⟨rfl, rfl, trivial⟩, ?_, rfl⟩
  show AV.tup _ = AV.tup _
  simp [wdivide, *]
 refine acf ?_
 have hb0 : ¬ b = 0 := by simpa using hb1
 refine agk ?_;refine asq ?_;refine asr ?_;refine aQ tok 2 rfl ?_;refine an ?_;refine asp 11 (fun hb2 => ?_) fun hb2 => ?_
 ·
  refine act ?_;refine asr ?_;refine aQ tok 2 rfl ?_;refine aq 14 (q_bin (r := .int .u32 (IntKind.u32.wrap (a.tdiv b))) rfl rfl rfl (by simp [evalBin, evalInt, isShift, hb0])) ?_;refine aQ tok 2 rfl ?_;refine an ?_;refine agt ?_;refine ⟨[_, _], ⟨rfl, rfl, trivial⟩, ?_, rfl⟩
  show AV.tup _ = AV.tup _
  simp [wdivide, *]
 refine acf ?_;refine agk ?_;refine asr ?_;refine aQ tok 2 rfl ?_;refine aq 17 (q_bin (r := .int .u32 (a.tmod b)) rfl rfl rfl (by simp [evalBin, evalInt, isShift, hb0])) ?_;refine aQ tok 2 rfl ?_;refine an ?_;refine agt ?_;refine ⟨[_, _], ⟨rfl, rfl, trivial⟩, ?_, rfl⟩
 show AV.tup _ = AV.tup _
 simp [wdivide, *]
theorem shift_ok (op a b : Int) (hb : 0 ≤ b) : APure Tryz.prog 104 [.int .i64 op, .int .u32 a, .int .u32 b] (fun r => r = .int .u32 (wshift op a b)) := by
 refine APure.of_body (n := 19) tok Tryz.func104 rfl rfl ?_;refine asr ?_;refine aa 6 ?_;refine an ?_;refine asq ?_;refine AGo.block ?_;refine asr ?_;refine aQ tok 3 rfl ?_;refine an ?_;refine asp 7 (fun hb1 => ?_) fun hb1 => ?_
 ·
  refine act ?_;refine asr ?_;refine aa 6 ?_;refine an ?_;refine agt ⟨[_], ⟨rfl, trivial⟩, ?_, rfl⟩
  show AV.int .u32 _ = AV.int .u32 _
  simp only [wshift, *, cond_true, cond_false]
 refine acf ?_;refine asr ?_;refine aQ tok 3 rfl ?_;refine an ?_;refine asp 10 (fun hb2 => ?_) fun hb2 => ?_
 ·
  refine act ?_;refine asr ?_;refine aQ tok 2 rfl ?_;refine aq 15 (q_bin (r := .int .u32 (IntKind.u32.wrap (a * 2 ^ (min b.toNat IntKind.u32.bits)))) rfl rfl rfl (by simp only [evalBin, evalInt, isShift, cond_true, if_neg (show ¬ b < 0 by omega)])) ?_
  refine aa 6 ?_;refine an ?_;refine agt ⟨[_], ⟨rfl, trivial⟩, ?_, rfl⟩
  show AV.int .u32 _ = AV.int .u32 _
  simp only [wshift, *, cond_true, cond_false]
 refine acf ?_;refine agk ?_;refine asr ?_;refine aQ tok 2 rfl ?_;refine aq 18 (q_bin (r := .int .u32 (a.fdiv (2 ^ (min b.toNat IntKind.u32.bits)))) rfl rfl rfl (by simp only [evalBin, evalInt, isShift, cond_true, if_neg (show ¬ b < 0 by omega)])) ?_
 refine aa 6 ?_;refine an ?_;refine agt ⟨[_], ⟨rfl, trivial⟩, ?_, rfl⟩
 show AV.int .u32 _ = AV.int .u32 _
 simp only [wshift, *, cond_true, cond_false]
theorem compare_ok (op a b : Int) (hb : 0 ≤ b) : APure Tryz.prog 105 [.int .i64 op, .int .u32 a, .int .u32 b] (fun r => r = .int .u32 (wcompare op a b)) := by
 refine APure.of_body (n := 23) tok Tryz.func105 rfl rfl ?_;refine asr ?_;refine aa 6 ?_;refine an ?_;refine asq ?_;refine AGo.block ?_;refine asq ?_;refine AGo.block ?_;refine AGo.block ?_;refine asq ?_;refine asq ?_;refine asr ?_;refine aQ tok 3 rfl ?_;refine aop 10 (fun hb1 => ?_) fun hb1 => ?_
 ·
  refine aQ tok 5 rfl ?_;refine an ?_;refine asp 7 (fun hb2 => ?_) fun hb2 => ?_
  ·
   refine act ?_;refine AGo.exit ?_;refine asq ?_;refine asr ?_;refine aa 6 ?_;refine an ?_;refine agt ⟨[_], ⟨rfl, trivial⟩, ?_, rfl⟩
   show AV.int .u32 _ = AV.int .u32 _
   simp [wcompare, *]
  refine acf ?_;refine agk ?_;refine asr ?_;refine aQ tok 3 rfl ?_;refine aop 18 (fun hb3 => ?_) fun hb3 => ?_
  ·
   refine aQ tok 5 rfl ?_;refine an ?_;refine asp 15 (fun hb4 => ?_) fun hb4 => ?_
   ·
    refine act ?_;refine AGo.exit ?_;refine asq ?_;refine asr ?_;refine aa 6 ?_;refine an ?_;refine agt ⟨[_], ⟨rfl, trivial⟩, ?_, rfl⟩
    show AV.int .u32 _ = AV.int .u32 _
    simp [wcompare, *]
   refine acf ?_;refine agk ?_;refine AGo.exit ?_;refine asr ?_;refine aa 6 ?_;refine an ?_;refine agt ⟨[_], ⟨rfl, trivial⟩, ?_, rfl⟩
   show AV.int .u32 _ = AV.int .u32 _
   simp [wcompare, *]
  refine aQ tok 5 rfl ?_;refine an ?_;refine acf ?_;refine agk ?_;refine AGo.exit ?_;refine asr ?_;refine aa 6 ?_;refine an ?_;refine agt ⟨[_], ⟨rfl, trivial⟩, ?_, rfl⟩
  show AV.int .u32 _ = AV.int .u32 _
  simp [wcompare, *]
 refine aQ tok 5 rfl ?_;refine an ?_;refine acf ?_;refine agk ?_;refine asr ?_;refine aQ tok 3 rfl ?_;refine aop 18 (fun hb5 => ?_) fun hb5 => ?_
 ·
  refine aQ tok 5 rfl ?_;refine an ?_;refine asp 15 (fun hb6 => ?_) fun hb6 => ?_
  ·
   refine act ?_;refine AGo.exit ?_;refine asq ?_;refine asr ?_;refine aa 6 ?_;refine an ?_;refine agt ⟨[_], ⟨rfl, trivial⟩, ?_, rfl⟩
   show AV.int .u32 _ = AV.int .u32 _
   simp [wcompare, *]
  refine acf ?_;refine agk ?_;refine AGo.exit ?_;refine asr ?_;refine aa 6 ?_;refine an ?_;refine agt ⟨[_], ⟨rfl, trivial⟩, ?_, rfl⟩
  show AV.int .u32 _ = AV.int .u32 _
  simp [wcompare, *]
 refine aQ tok 5 rfl ?_;refine an ?_;refine acf ?_;refine agk ?_;refine AGo.exit ?_;refine asr ?_;refine aa 6 ?_;refine an ?_;refine agt ⟨[_], ⟨rfl, trivial⟩, ?_, rfl⟩
 show AV.int .u32 _ = AV.int .u32 _
 simp [wcompare, *]
theorem apply_ok (op a b : Int) (hb : 0 ≤ b) : APure Tryz.prog 96 [.int .i64 op, .int .u32 a, .int .u32 b] (fun r => r = wpair (wapp op a b)) := by
 refine APure.of_body (n := 62) tok Tryz.func96 rfl rfl ?_;refine asr ?_;refine aQ tok 2 rfl ?_;refine an ?_;refine asq ?_;refine asr ?_;refine am 8 ?_;refine an ?_;refine AGo.block ?_;refine asr ?_;refine aQ tok 2 rfl ?_;refine an ?_;refine asp 9 (fun hb1 => ?_) fun hb1 => ?_
 ·
  refine act ?_;refine asr ?_;refine aQ tok 5 rfl ?_;refine an ?_;refine agt ?_;refine ⟨[_, _], ⟨rfl, rfl, trivial⟩, ?_, rfl⟩
  show AV.tup _ = AV.tup _
  simp [wapp, *]
 refine acf ?_;refine asr ?_;refine aQ tok 2 rfl ?_;refine an ?_;refine asp 14 (fun hb2 => ?_) fun hb2 => ?_
 ·
  refine act ?_;refine asr ?_;refine aQ tok 5 rfl ?_;refine an ?_;refine agt ?_;refine ⟨[_, _], ⟨rfl, rfl, trivial⟩, ?_, rfl⟩
  show AV.tup _ = AV.tup _
  simp [wapp, *]
 refine acf ?_;refine asr ?_;refine aQ tok 2 rfl ?_;refine an ?_;refine asp 19 (fun hb3 => ?_) fun hb3 => ?_
 ·
  refine act ?_;refine asr ?_;refine aQ tok 5 rfl ?_;refine an ?_;refine agt ?_;refine ⟨[_, _], ⟨rfl, rfl, trivial⟩, ?_, rfl⟩
  show AV.tup _ = AV.tup _
  simp [wapp, *]
 refine acf ?_;refine asq ?_;refine asr ?_;refine aQ tok 2 rfl ?_;refine an ?_;refine asp 24 (fun hb4 => ?_) fun hb4 => ?_
 ·
  refine act ?_;refine agk ?_;refine act ?_;refine asr ?_;refine aQ tok 3 rfl ?_;refine ax 30 (opu Tryz.func103 (divide_ok _ _ _ hb)) ?_;refine aQ tok 4 rfl ?_;refine an ?_;refine agt ?_;refine ⟨[_, _], ⟨rfl, rfl, trivial⟩, ?_, rfl⟩
  show AV.tup _ = AV.tup _
  simp [wapp, *]
 refine acf ?_;refine agr ?_;refine aQ tok 2 rfl ?_;refine an ?_;refine asp 24 (fun hb5 => ?_) fun hb5 => ?_
 ·
  refine act ?_;refine asr ?_;refine aQ tok 3 rfl ?_;refine ax 30 (opu Tryz.func103 (divide_ok _ _ _ hb)) ?_;refine aQ tok 4 rfl ?_;refine an ?_;refine agt ?_;refine ⟨[_, _], ⟨rfl, rfl, trivial⟩, ?_, rfl⟩
  show AV.tup _ = AV.tup _
  simp [wapp, *]
 refine acf ?_;refine asr ?_;refine aQ tok 2 rfl ?_;refine an ?_;refine asp 33 (fun hb6 => ?_) fun hb6 => ?_
 ·
  refine act ?_;refine asr ?_;refine aQ tok 5 rfl ?_;refine an ?_;refine agt ?_;refine ⟨[_, _], ⟨rfl, rfl, trivial⟩, ?_, rfl⟩
  show AV.tup _ = AV.tup _
  simp [wapp, *]
 refine acf ?_;refine asr ?_;refine aQ tok 2 rfl ?_;refine an ?_;refine asp 38 (fun hb7 => ?_) fun hb7 => ?_
 ·
  refine act ?_;refine asr ?_;refine aQ tok 5 rfl ?_;refine an ?_;refine agt ?_;refine ⟨[_, _], ⟨rfl, rfl, trivial⟩, ?_, rfl⟩
  show AV.tup _ = AV.tup _
  simp [wapp, *]
 refine acf ?_;refine asr ?_;refine aQ tok 2 rfl ?_;refine an ?_;refine asp 43 (fun hb8 => ?_) fun hb8 => ?_
 ·
  refine act ?_;refine asr ?_;refine aQ tok 5 rfl ?_;refine an ?_;refine agt ?_;refine ⟨[_, _], ⟨rfl, rfl, trivial⟩, ?_, rfl⟩
  show AV.tup _ = AV.tup _
  simp [wapp, *]
 refine acf ?_;refine asq ?_;refine asr ?_;refine aQ tok 2 rfl ?_;refine an ?_;refine asp 48 (fun hb9 => ?_) fun hb9 => ?_
 ·
  refine act ?_;refine agk ?_;refine act ?_;refine asr ?_;refine aQ tok 3 rfl ?_;refine ax 54 (opu Tryz.func104 (shift_ok _ _ _ hb)) ?_;refine aQ tok 2 rfl ?_;refine an ?_;refine agt ?_;refine ⟨[_, _], ⟨rfl, rfl, trivial⟩, ?_, rfl⟩
  show AV.tup _ = AV.tup _
  simp [wapp, *]
 refine acf ?_;refine agr ?_;refine aQ tok 2 rfl ?_;refine an ?_;refine asp 48 (fun hb10 => ?_) fun hb10 => ?_
 ·
  refine act ?_;refine asr ?_;refine aQ tok 3 rfl ?_;refine ax 54 (opu Tryz.func104 (shift_ok _ _ _ hb)) ?_;refine aQ tok 2 rfl ?_;refine an ?_;refine agt ?_;refine ⟨[_, _], ⟨rfl, rfl, trivial⟩, ?_, rfl⟩
  show AV.tup _ = AV.tup _
  simp [wapp, *]
 refine acf ?_;refine asq ?_;refine asr ?_;refine aQ tok 2 rfl ?_;refine an ?_;refine asp 55 (fun hb11 => ?_) fun hb11 => ?_
 ·
  refine act ?_;refine agk ?_;refine act ?_;refine asr ?_;refine aQ tok 3 rfl ?_;refine ax 61 (opu Tryz.func105 (compare_ok _ _ _ hb)) ?_;refine aQ tok 2 rfl ?_;refine an ?_;refine agt ?_;refine ⟨[_, _], ⟨rfl, rfl, trivial⟩, ?_, rfl⟩
  show AV.tup _ = AV.tup _
  simp [wapp, *]
 refine acf ?_;refine agr ?_;refine aQ tok 2 rfl ?_;refine an ?_;refine asp 55 (fun hb12 => ?_) fun hb12 => ?_
 ·
  refine act ?_;refine asr ?_;refine aQ tok 3 rfl ?_;refine ax 61 (opu Tryz.func105 (compare_ok _ _ _ hb)) ?_;refine aQ tok 2 rfl ?_;refine an ?_;refine agt ?_;refine ⟨[_, _], ⟨rfl, rfl, trivial⟩, ?_, rfl⟩
  show AV.tup _ = AV.tup _
  simp [wapp, *]
 refine acf ?_;refine agk ?_;refine asr ?_;refine aQ tok 2 rfl ?_;refine an ?_;refine agt ?_;refine ⟨[_, _], ⟨rfl, rfl, trivial⟩, ?_, rfl⟩
 show AV.tup _ = AV.tup _
 simp [wapp, *]
theorem constant_ok (first : Int) (K : List (List Int)) (hf : 0 ≤ first ∧ first ≤ 100000) (h4 : ∀ k ∈ K, k.length = 4) (hK : K.length ≤ 100000) (n : Int) (hn : 0 ≤ n ∧ n < first + K.length) : ACall Tryz.prog 139 [.ptr 4 1 0 0, .int .i64 n] (hput (hput (hput hNew 3 (.map (kvsA .i64 (vmap first (K))))) 4 (.row false 3 [[.int .i64 first, .map 3, slA 9 ((K).map (arrAV .i64))]])) 9 (slO 4 ((K).map (arrAV .i64)))) (fun r h' => r = .tup [.int .u32 (vconst first K n).1, .bool (vconst first K n).2] ∧ HSub (hput (hput (hput hNone 3 (.map (kvsA .i64 (vmap first (K))))) 4 (.row false 3 [[.int .i64 first, .map 3, slA 9 ((K).map (arrAV .i64))]])) 9 (slO 4 ((K).map (arrAV .i64)))) h') := by
 refine ACall.of_body (n := 31) tok Tryz.func139 rfl rfl ?_;refine asr ?_;refine aQ tok 2 rfl ?_;refine an ?_;refine asq ?_;refine asr ?_;refine aQ tok 6 rfl ?_;refine an ?_;refine asp 12 (fun hb1 => ?_) fun hb1 => ?_
 ·
  refine act ?_
  have hlo := hb1
  refine asr ?_;refine aQ tok 2 rfl ?_;refine an ?_;refine agt ?_;refine ⟨[_, _], ⟨rfl, rfl, trivial⟩, ?_, ?_⟩
  · first
    | (rw [vconst_low hlo]; rfl)
    | (rw [hv]; rfl)
  · exact HSub.put (HSub.put (HSub.put (HSub.none _) rfl) rfl) rfl
 refine acf ?_
 obtain ⟨hi1, hi2, a, b, c, d, hg, hv⟩ := vkey h4 hn hb1
 refine agk ?_;refine asq ?_;refine AGo.draw mix ?_;refine dQ tok 9 rfl ?_;refine dq 22 (q_bin (r := .int .i64 (n - first)) rfl rfl rfl (subZ (by omega) (by omega) rfl)) ?_;refine dq 23 (q_indexJ tok rfl rfl rfl rfl rfl rfl rfl rfl hi1 hi2) ?_;refine dq 24 (q_load tok rfl rfl rfl (ptsJ rfl hg) rfl) ?_;refine dx 6 (oal tok 12) ?_;refine DOps.w rfl rfl (o_store tok rfl rfl rfl rfl rfl rfl rfl rfl rfl (by decide) rfl z51q) ?_;refine DOps.nil (by kernel_rfl) ?_;refine asq ?_;refine AGo.draw mix ?_;refine dq 25 (q_index_arr tok rfl rfl rfl rfl rfl rfl (by decide) (by decide) rfl) ?_;refine dQ tok 2 rfl ?_;refine dq 28 (q_index_arr tok rfl rfl rfl rfl rfl rfl (by decide) (by decide) rfl) ?_;refine dQ tok 4 rfl ?_;refine DOps.nil (by kernel_rfl) ?_;refine agt ?_;refine ⟨[_, _], ⟨rfl, rfl, trivial⟩, ?_, ?_⟩
 · first
   | (rw [vconst_low hlo]; rfl)
   | (rw [hv]; rfl)
 · exact HSub.put (HSub.put (HSub.put (HSub.none _) rfl) rfl) rfl
theorem vapply_ok' (first : Int) (K : List (List Int)) (hf : 0 ≤ first ∧ first ≤ 100000) (h4 : ∀ k ∈ K, k.length = 4) (hK : K.length ≤ 100000) (op a b : Int) (ha : 0 ≤ a ∧ a < first + K.length) (hb : 0 ≤ b ∧ b < first + K.length) : ACall Tryz.prog 140 [.ptr 4 1 0 0, .int .i64 op, .int .i64 a, .int .i64 b] (hput (hput (hput hNew 3 (.map (kvsA .i64 (vmap first (K))))) 4 (.row false 3 [[.int .i64 first, .map 3, slA 9 ((K).map (arrAV .i64))]])) 9 (slO 4 ((K).map (arrAV .i64)))) (fun r h' => r = .int .i64 (vapply first K op a b).1 ∧ HSub (hput (hput (hput hNone 3 (.map (kvsA .i64 (vmap first ((vapply first K op a b).2))))) 4 (.row false 3 [[.int .i64 first, .map 3, slA 9 (((vapply first K op a b).2).map (arrAV .i64))]])) 9 (slO 4 (((vapply first K op a b).2).map (arrAV .i64)))) h') := by
 refine ACall.of_body (n := 51) tok Tryz.func140 rfl rfl ?_;refine asr ?_;refine aa 8 ?_;refine an ?_;refine asr ?_;refine aQ tok 2 rfl ?_;refine ax 18 (oct (constant_ok first K hf h4 hK a ha) [9, 4, 3] [(3, (.map (kvsA .i64 (vmap first (K))))), (4, (.row false 3 [[.int .i64 first, .map 3, slA 9 ((K).map (arrAV .i64))]])), (9, (slO 4 ((K).map (arrAV .i64))))] rfl Tryz.func139 (by kernel_rfl) rfl rfl rfl ⟨⟨_, rfl, z35q⟩, ⟨_, rfl, z35q⟩, ⟨_, rfl, z35q⟩, trivial⟩ rfl (hres_cons rfl (hres_cons rfl (hres_cons rfl (hres_nil _)))) ⟨⟨_, rfl, rfl, z35q⟩, ⟨_, rfl, rfl, z35q⟩, ⟨_, rfl, rfl, z35q⟩, trivial⟩ rfl) ?_;refine aQ tok 5 rfl ?_;refine an ?_;refine asr ?_;refine aQ tok 2 rfl ?_;refine ax 24 (oct (constant_ok first K hf h4 hK b hb) [9, 4, 3] [(3, (.map (kvsA .i64 (vmap first (K))))), (4, (.row false 3 [[.int .i64 first, .map 3, slA 9 ((K).map (arrAV .i64))]])), (9, (slO 4 ((K).map (arrAV .i64))))] rfl Tryz.func139 (by kernel_rfl) rfl rfl rfl ⟨⟨_, rfl, z35q⟩, ⟨_, rfl, z35q⟩, ⟨_, rfl, z35q⟩, trivial⟩ rfl (hres_cons rfl (hres_cons rfl (hres_cons rfl (hres_nil _)))) ⟨⟨_, rfl, rfl, z35q⟩, ⟨_, rfl, rfl, z35q⟩, ⟨_, rfl, rfl, z35q⟩, trivial⟩ rfl) ?_
 refine aQ tok 5 rfl ?_;refine an ?_;refine asq ?_;refine asr ?_;refine aQ tok 2 rfl ?_;refine aop 28 (fun hb1 => ?_) fun hb1 => ?_
 ·
  refine aQ tok 2 rfl ?_;refine an ?_;refine asp 30 (fun hb2 => ?_) fun hb2 => ?_
  ·
   refine act ?_;refine asr ?_;refine aQ tok 3 rfl ?_;refine ax 35 (opu Tryz.func96 (apply_ok op _ _ (vconst_w first K b).1)) ?_;refine aQ tok 5 rfl ?_;refine an ?_;refine asr ?_;refine aQ tok 2 rfl ?_;refine an ?_;refine asp 39 (fun hb3 => ?_) fun hb3 => ?_
   ·
    refine act ?_;refine asr ?_;refine aQ tok 2 rfl ?_;refine aq 42 (q_convTo tok rfl rfl rfl rfl rfl (r := (wapp op (vconst first K a).1 (vconst first K b).1).1) (by have h := wapp_word (op := op) (vconst_w first K a) (vconst_w first K b); obtain ⟨h1, h2⟩ := h; exact wrap_i64 (by omega) (by omega))) ?_;refine aq 43 (q_build_arr tok rfl rfl rfl rfl rfl rfl (by decide) rfl rfl) ?_;refine ax 44 (oct (number_ok first K hf h4 hK 1 (wapp op (vconst first K a).1 (vconst first K b).1).1 0 0) [9, 4, 3] [(3, (.map (kvsA .i64 (vmap first ((vnum first K [1, (wapp op (vconst first K a).1 (vconst first K b).1).1, 0, 0]).2))))), (4, (.row false 3 [[.int .i64 first, .map 3, slA 9 (((vnum first K [1, (wapp op (vconst first K a).1 (vconst first K b).1).1, 0, 0]).2).map (arrAV .i64))]])), (9, (slO 4 (((vnum first K [1, (wapp op (vconst first K a).1 (vconst first K b).1).1, 0, 0]).2).map (arrAV .i64))))] rfl Tryz.func135 (by kernel_rfl) rfl rfl rfl ⟨⟨_, rfl, z35q⟩, ⟨_, rfl, z35q⟩, ⟨_, rfl, z35q⟩, trivial⟩ rfl (hres_cons rfl (hres_cons rfl (hres_cons rfl (hres_nil _)))) ⟨⟨_, rfl, rfl, z35q⟩, ⟨_, rfl, rfl, z35q⟩, ⟨_, rfl, rfl, z35q⟩, trivial⟩ rfl) ?_
    refine aa 8 ?_;refine an ?_;refine agt ?_
    first
    | (refine ⟨[_], ⟨rfl, trivial⟩, ?_, ?_⟩ <;> rw [vapply_c (by assumption) (by assumption) (by assumption)] <;> first | rfl | exact HSub.put (HSub.put (HSub.put (HSub.none _) rfl) rfl) rfl)
   refine acf ?_;refine agk ?_;refine asr ?_;refine aQ tok 4 rfl ?_;refine aq 49 (q_build_arr tok rfl rfl rfl rfl rfl rfl (by decide) rfl rfl) ?_;refine ax 50 (oct (number_ok first K hf h4 hK 2 op a b) [9, 4, 3] [(3, (.map (kvsA .i64 (vmap first ((vnum first K [2, op, a, b]).2))))), (4, (.row false 3 [[.int .i64 first, .map 3, slA 9 (((vnum first K [2, op, a, b]).2).map (arrAV .i64))]])), (9, (slO 4 (((vnum first K [2, op, a, b]).2).map (arrAV .i64))))] rfl Tryz.func135 (by kernel_rfl) rfl rfl rfl ⟨⟨_, rfl, z35q⟩, ⟨_, rfl, z35q⟩, ⟨_, rfl, z35q⟩, trivial⟩ rfl (hres_cons rfl (hres_cons rfl (hres_cons rfl (hres_nil _)))) ⟨⟨_, rfl, rfl, z35q⟩, ⟨_, rfl, rfl, z35q⟩, ⟨_, rfl, rfl, z35q⟩, trivial⟩ rfl) ?_;refine aa 8 ?_;refine an ?_;refine agt ?_
   first
   | (refine ⟨[_], ⟨rfl, trivial⟩, ?_, ?_⟩ <;> rw [vapply_o1 (by assumption)] <;> first | rfl | exact HSub.put (HSub.put (HSub.put (HSub.none _) rfl) rfl) rfl)
   | (refine ⟨[_], ⟨rfl, trivial⟩, ?_, ?_⟩ <;> rw [vapply_o2 (by assumption)] <;> first | rfl | exact HSub.put (HSub.put (HSub.put (HSub.none _) rfl) rfl) rfl)
   | (refine ⟨[_], ⟨rfl, trivial⟩, ?_, ?_⟩ <;> rw [vapply_o3 (by assumption)] <;> first | rfl | exact HSub.put (HSub.put (HSub.put (HSub.none _) rfl) rfl) rfl)
  refine acf ?_;refine agk ?_;refine asr ?_;refine aQ tok 4 rfl ?_;refine aq 49 (q_build_arr tok rfl rfl rfl rfl rfl rfl (by decide) rfl rfl) ?_;refine ax 50 (oct (number_ok first K hf h4 hK 2 op a b) [9, 4, 3] [(3, (.map (kvsA .i64 (vmap first ((vnum first K [2, op, a, b]).2))))), (4, (.row false 3 [[.int .i64 first, .map 3, slA 9 (((vnum first K [2, op, a, b]).2).map (arrAV .i64))]])), (9, (slO 4 (((vnum first K [2, op, a, b]).2).map (arrAV .i64))))] rfl Tryz.func135 (by kernel_rfl) rfl rfl rfl ⟨⟨_, rfl, z35q⟩, ⟨_, rfl, z35q⟩, ⟨_, rfl, z35q⟩, trivial⟩ rfl (hres_cons rfl (hres_cons rfl (hres_cons rfl (hres_nil _)))) ⟨⟨_, rfl, rfl, z35q⟩, ⟨_, rfl, rfl, z35q⟩, ⟨_, rfl, rfl, z35q⟩, trivial⟩ rfl) ?_;refine aa 8 ?_;refine an ?_;refine agt ?_
  first
  | (refine ⟨[_], ⟨rfl, trivial⟩, ?_, ?_⟩ <;> rw [vapply_o1 (by assumption)] <;> first | rfl | exact HSub.put (HSub.put (HSub.put (HSub.none _) rfl) rfl) rfl)
  | (refine ⟨[_], ⟨rfl, trivial⟩, ?_, ?_⟩ <;> rw [vapply_o2 (by assumption)] <;> first | rfl | exact HSub.put (HSub.put (HSub.put (HSub.none _) rfl) rfl) rfl)
  | (refine ⟨[_], ⟨rfl, trivial⟩, ?_, ?_⟩ <;> rw [vapply_o3 (by assumption)] <;> first | rfl | exact HSub.put (HSub.put (HSub.put (HSub.none _) rfl) rfl) rfl)
 refine aQ tok 2 rfl ?_;refine an ?_;refine acf ?_;refine agk ?_;refine asr ?_;refine aQ tok 4 rfl ?_;refine aq 49 (q_build_arr tok rfl rfl rfl rfl rfl rfl (by decide) rfl rfl) ?_;refine ax 50 (oct (number_ok first K hf h4 hK 2 op a b) [9, 4, 3] [(3, (.map (kvsA .i64 (vmap first ((vnum first K [2, op, a, b]).2))))), (4, (.row false 3 [[.int .i64 first, .map 3, slA 9 (((vnum first K [2, op, a, b]).2).map (arrAV .i64))]])), (9, (slO 4 (((vnum first K [2, op, a, b]).2).map (arrAV .i64))))] rfl Tryz.func135 (by kernel_rfl) rfl rfl rfl ⟨⟨_, rfl, z35q⟩, ⟨_, rfl, z35q⟩, ⟨_, rfl, z35q⟩, trivial⟩ rfl (hres_cons rfl (hres_cons rfl (hres_cons rfl (hres_nil _)))) ⟨⟨_, rfl, rfl, z35q⟩, ⟨_, rfl, rfl, z35q⟩, ⟨_, rfl, rfl, z35q⟩, trivial⟩ rfl) ?_;refine aa 8 ?_;refine an ?_;refine agt ?_
 first
 | (refine ⟨[_], ⟨rfl, trivial⟩, ?_, ?_⟩ <;> rw [vapply_o1 (by assumption)] <;> first | rfl | exact HSub.put (HSub.put (HSub.put (HSub.none _) rfl) rfl) rfl)
 | (refine ⟨[_], ⟨rfl, trivial⟩, ?_, ?_⟩ <;> rw [vapply_o2 (by assumption)] <;> first | rfl | exact HSub.put (HSub.put (HSub.put (HSub.none _) rfl) rfl) rfl)
 | (refine ⟨[_], ⟨rfl, trivial⟩, ?_, ?_⟩ <;> rw [vapply_o3 (by assumption)] <;> first | rfl | exact HSub.put (HSub.put (HSub.put (HSub.none _) rfl) rfl) rfl)
theorem happensb_ok (first : Int) (R m : Nat) (w : VW) (h : VOk first R m w) (hm : m ≤ 90000) (t : Tac) (a b : Int) : ACall Tryz.prog 137 [.ptr 8 1 0 0, .agg t.cells, .int .i64 a, .int .i64 b] (hput (hput (hput (hput (hput (hput hNew 3 (.map (kvsA .i64 (vmap first ((w).K))))) 4 (.row false 3 [[.int .i64 first, .map 3, slA 9 (((w).K).map (arrAV .i64))]])) 9 (slO 4 (((w).K).map (arrAV .i64)))) 8 (.row false 4 [[.ptr 4 1 0 0, vaA 7 (valC ((w).vals)), slA 11 (((w).effs).map (arrAV .i64)), .int .i64 ((w).time)]])) 7 (vaO (valC ((w).vals)))) 11 (slO 6 (((w).effs).map (arrAV .i64)))) (fun r h' => r = .tup [] ∧ HSub (hput (hput (hput (hput (hput (hput hNone 3 (.map (kvsA .i64 (vmap first (((w.hap t a b)).K))))) 4 (.row false 3 [[.int .i64 first, .map 3, slA 9 ((((w.hap t a b)).K).map (arrAV .i64))]])) 9 (slO 4 ((((w.hap t a b)).K).map (arrAV .i64)))) 8 (.row false 4 [[.ptr 4 1 0 0, vaA 7 (valC (((w.hap t a b)).vals)), slA 11 ((((w.hap t a b)).effs).map (arrAV .i64)), .int .i64 (((w.hap t a b)).time)]])) 7 (vaO (valC (((w.hap t a b)).vals)))) 11 (slO 6 ((((w.hap t a b)).effs).map (arrAV .i64)))) h') := by
 have hel := h.el
 refine ACall.of_body (n := 26) tok Tryz.func137 rfl rfl ?_;refine asr ?_;refine ax 5 (obx 8 12) ?_;refine an ?_;refine AGo.draw mix ?_;refine dQ tok 13 rfl ?_;refine dq 21 (q_build_arr tok rfl rfl rfl rfl rfl rfl (by decide) rfl rfl) ?_;refine dx 22 (o_lit' tok rfl rfl rfl rfl rfl rfl (by decide) rfl rfl rfl rfl rfl rfl) ?_;refine dx 23 (o_append1J tok (b := 11) (es := ((w.effs).map (arrAV .i64))) rfl rfl rfl rfl rfl rfl rfl rfl rfl rfl rfl (Nat.zero_lt_succ _) (arr_len h.e6) (arr_pure _) rfl rfl z57q z52q) ?_;refine dQ tok 2 rfl ?_;refine DOps.w rfl rfl (o_store1 tok rfl rfl rfl rfl rfl rfl rfl rfl rfl (slA_cells _ _) (by decide) (slA_cell1 _ _) (by intro h; cases h)) ?_;refine DOps.nil (by kernel_rfl) ?_;refine ⟨[], trivial, rfl, ?_⟩
 exact HSub.put (HSub.put (HSub.put (HSub.put (HSub.put (HSub.put (HSub.none _) rfl) rfl) rfl) (by show _ = some (AObj.row false 4 [[.ptr 4 1 0 0, vaA 7 (valC (w.vals)), slA 11 ((w.effs ++ [_]).map (arrAV .i64)), .int .i64 w.time]]); rw [List.map_append]; rfl)) rfl) (by show _ = some (slO 6 ((w.effs ++ [_]).map (arrAV .i64))); rw [List.map_append]; rfl)
theorem unknownb_ok (first : Int) (R m : Nat) (w : VW) (h : VOk first R m w) (hm : m ≤ 90000) : ACall Tryz.prog 138 [.ptr 8 1 0 0] (hput (hput (hput (hput (hput (hput hNew 3 (.map (kvsA .i64 (vmap first ((w).K))))) 4 (.row false 3 [[.int .i64 first, .map 3, slA 9 (((w).K).map (arrAV .i64))]])) 9 (slO 4 (((w).K).map (arrAV .i64)))) 8 (.row false 4 [[.ptr 4 1 0 0, vaA 7 (valC ((w).vals)), slA 11 (((w).effs).map (arrAV .i64)), .int .i64 ((w).time)]])) 7 (vaO (valC ((w).vals)))) 11 (slO 6 (((w).effs).map (arrAV .i64)))) (fun r h' => r = .int .i64 (vunk first w).1 ∧ HSub (hput (hput (hput (hput (hput (hput hNone 3 (.map (kvsA .i64 (vmap first ((vunk first w).2))))) 4 (.row false 3 [[.int .i64 first, .map 3, slA 9 (((vunk first w).2).map (arrAV .i64))]])) 9 (slO 4 (((vunk first w).2).map (arrAV .i64)))) 8 (.row false 4 [[.ptr 4 1 0 0, vaA 7 (valC ((w).vals)), slA 11 (((w).effs).map (arrAV .i64)), .int .i64 ((w).time)]])) 7 (vaO (valC ((w).vals)))) 11 (slO 6 (((w).effs).map (arrAV .i64)))) h') := by
 have hkl := h.kl
 refine ACall.of_body (n := 14) tok Tryz.func138 rfl rfl ?_;refine asr ?_;refine aa 2 ?_;refine an ?_;refine asq ?_;refine AGo.draw mix ?_;refine dQ tok 8 rfl ?_;refine dq 11 (q_lenJ tok rfl rfl rfl rfl) ?_;refine dq 12 (q_build_arr tok rfl rfl rfl rfl rfl rfl (by decide) rfl rfl) ?_;refine dx 13 (oct ((by rw [List.length_map]; exact number_ok first w.K h.f h.k4 (by omega) 4 (w.effs.length : Int) 0 0)) [9, 4, 3] [(3, (.map (kvsA .i64 (vmap first ((vunk first w).2))))), (4, (.row false 3 [[.int .i64 first, .map 3, slA 9 (((vunk first w).2).map (arrAV .i64))]])), (9, (slO 4 (((vunk first w).2).map (arrAV .i64))))] rfl Tryz.func135 (by kernel_rfl) rfl rfl rfl ⟨⟨_, rfl, z35q⟩, ⟨_, rfl, z35q⟩, ⟨_, rfl, z35q⟩, trivial⟩ rfl (hres_cons rfl (hres_cons rfl (hres_cons rfl (hres_nil _)))) ⟨⟨_, rfl, rfl, z35q⟩, ⟨_, rfl, rfl, z35q⟩, ⟨_, rfl, rfl, z35q⟩, trivial⟩ rfl) ?_;refine da 2 ?_;refine DOps.nil (by kernel_rfl) ?_
 refine agt ?_;refine ⟨[_], ⟨rfl, trivial⟩, rfl, ?_⟩
 exact HSub.put (HSub.put (HSub.put (HSub.put (HSub.put (HSub.put (HSub.none _) rfl) rfl) rfl) rfl) rfl) rfl
theorem bin_db (first : Int) (w : VW) (t : Tac) : w.bin first t = ⟨(vapply first w.K t.k (rget w.vals t.a) (rget w.vals t.b)).2, rset w.vals t.d (vapply first w.K t.k (rget w.vals t.a) (rget w.vals t.b)).1, (w.div first t).effs, w.time⟩ := by
  cases hr : vrisky first w t with
  | true => rw [bin_yes hr]; simp only [VW.div, hr, cond_true]
  | false => rw [bin_no hr]; simp only [VW.div, hr, cond_false]
theorem binaryb_ok (first : Int) (R m : Nat) (w : VW) (h : VOk first R m w) (hm : m ≤ 90000) (t : Tac) (hd : 0 ≤ t.d ∧ t.d < R) (ha : 0 ≤ t.a ∧ t.a < R) (hb : 0 ≤ t.b ∧ t.b < R) : ACall Tryz.prog 136 [.ptr 8 1 0 0, .agg t.cells] (hput (hput (hput (hput (hput (hput hNew 3 (.map (kvsA .i64 (vmap first ((w).K))))) 4 (.row false 3 [[.int .i64 first, .map 3, slA 9 (((w).K).map (arrAV .i64))]])) 9 (slO 4 (((w).K).map (arrAV .i64)))) 8 (.row false 4 [[.ptr 4 1 0 0, vaA 7 (valC ((w).vals)), slA 11 (((w).effs).map (arrAV .i64)), .int .i64 ((w).time)]])) 7 (vaO (valC ((w).vals)))) 11 (slO 6 (((w).effs).map (arrAV .i64)))) (fun r h' => r = .tup [] ∧ HSub (hput (hput (hput (hput (hput (hput hNone 3 (.map (kvsA .i64 (vmap first (((w.bin first t)).K))))) 4 (.row false 3 [[.int .i64 first, .map 3, slA 9 ((((w.bin first t)).K).map (arrAV .i64))]])) 9 (slO 4 ((((w.bin first t)).K).map (arrAV .i64)))) 8 (.row false 4 [[.ptr 4 1 0 0, vaA 7 (valC (((w.bin first t)).vals)), slA 11 ((((w.bin first t)).effs).map (arrAV .i64)), .int .i64 (((w.bin first t)).time)]])) 7 (vaO (valC (((w.bin first t)).vals)))) 11 (slO 6 ((((w.bin first t)).effs).map (arrAV .i64)))) h') := by
 have hel := h.el
 have hkl := h.kl
 have hxd := h.at hd
 have hxa := h.at ha
 have hxb := h.at hb
 refine ACall.of_body (n := 77) tok Tryz.func136 rfl rfl ?_;refine asr ?_;refine ax 3 (obx 8 12) ?_;refine an ?_;refine asq ?_;refine AGo.draw mix ?_;refine dQ tok 6 rfl ?_;refine dq 14 (q_indexV tok rfl rfl rfl rfl rfl rfl rfl rfl hxa.1 hxa.2.2.1) ?_;refine dq 15 (q_load tok rfl rfl rfl (ptsV rfl (valC_get ⟨hxa.1, hxa.2.1⟩)) rfl) ?_;refine dQ tok 6 rfl ?_;refine dq 22 (q_indexV tok rfl rfl rfl rfl rfl rfl rfl rfl hxb.1 hxb.2.2.1) ?_;refine dq 23 (q_load tok rfl rfl rfl (ptsV rfl (valC_get ⟨hxb.1, hxb.2.1⟩)) rfl) ?_;refine dQ tok 2 rfl ?_;refine DOps.nil (by kernel_rfl) ?_;refine asq ?_;refine asq ?_;refine AGo.join (γ := Unit) (fun _u => ⟨77, (eput (eput (eput (eput (eput eNew 0 (.ptr 8 1 0 0)) 3 (.ptr 12 1 0 0)) 4 (.int .i64 (rget w.vals t.a))) 5 (.int .i64 (rget w.vals t.b))) 31 (.bool (t.k == 7 || t.k == 8))), (hput (hput (hput (hput (hput (hput (hput (hFrom 13) 12 (.row false 8 [t.cells])) 3 (.map (kvsA .i64 (vmap first ((w).K))))) 4 (.row false 3 [[.int .i64 first, .map 3, slA 9 (((w).K).map (arrAV .i64))]])) 9 (slO 4 (((w).K).map (arrAV .i64)))) 8 (.row false 4 [[.ptr 4 1 0 0, vaA 7 (valC ((w).vals)), slA 11 (((w).effs).map (arrAV .i64)), .int .i64 ((w).time)]])) 7 (vaO (valC ((w).vals)))) 11 (slO 6 (((w).effs).map (arrAV .i64))))⟩) (fun _u => True) ?_ ?_
 ·
  refine agr ?_;refine aQ tok 4 rfl ?_;refine aop 27 (fun hb1 => ?_) fun hb1 => ?_
  ·
   refine aQ tok 4 rfl ?_;refine an ?_;exact ⟨(), Sub.mk' z32q z12q, trivial⟩
  refine aQ tok 4 rfl ?_;refine an ?_;exact ⟨(), Sub.mk' z32q z12q, trivial⟩
 intro _u _
 refine AGo.join (γ := Unit) (fun _u => ⟨77, (eput (eput (eput (eput eNew 0 (.ptr 8 1 0 0)) 3 (.ptr 12 1 0 0)) 4 (.int .i64 (rget w.vals t.a))) 5 (.int .i64 (rget w.vals t.b))), (hput (hput (hput (hput (hput (hput (hput (hFrom 13) 12 (.row false 8 [t.cells])) 3 (.map (kvsA .i64 (vmap first (w.K))))) 4 (.row false 3 [[.int .i64 first, .map 3, slA 9 ((w.K).map (arrAV .i64))]])) 9 (slO 4 ((w.K).map (arrAV .i64)))) 8 (.row false 4 [[.ptr 4 1 0 0, vaA 7 (valC ((w).vals)), slA 11 (((w.div first t).effs).map (arrAV .i64)), .int .i64 (w.time)]])) 7 (vaO (valC ((w).vals)))) 11 (slO 6 (((w.div first t).effs).map (arrAV .i64))))⟩) (fun _u => True) ?_ ?_
 ·
  refine asp 31 (fun hb2 => ?_) fun hb2 => ?_
  ·
   refine act ?_;refine asr ?_;refine aQ tok 5 rfl ?_;refine ax 38 (oct (constant_ok first w.K h.f h.k4 (by omega) (rget w.vals t.b) hxb.2.2.2) [9, 4, 3] [(3, (.map (kvsA .i64 (vmap first (w.K))))), (4, (.row false 3 [[.int .i64 first, .map 3, slA 9 ((w.K).map (arrAV .i64))]])), (9, (slO 4 ((w.K).map (arrAV .i64))))] rfl Tryz.func139 (by kernel_rfl) rfl rfl rfl ⟨⟨_, rfl, z35q⟩, ⟨_, rfl, z35q⟩, ⟨_, rfl, z35q⟩, trivial⟩ rfl (hres_cons rfl (hres_cons rfl (hres_cons rfl (hres_nil _)))) ⟨⟨_, rfl, rfl, z35q⟩, ⟨_, rfl, rfl, z35q⟩, ⟨_, rfl, rfl, z35q⟩, trivial⟩ rfl) ?_;refine aQ tok 5 rfl ?_;refine an ?_;refine asr ?_;refine aQ tok 3 rfl ?_;refine aop 43 (fun hb3 => ?_) fun hb3 => ?_
   ·
    refine aQ tok 3 rfl ?_;refine an ?_;refine act ?_;refine AGo.draw mix ?_;refine dQ tok 9 rfl ?_;refine dq 56 (q_build_arr tok rfl rfl rfl rfl rfl rfl (by decide) rfl rfl) ?_;refine dx 57 (o_lit' tok rfl rfl rfl rfl rfl rfl (by decide) rfl rfl rfl rfl rfl rfl) ?_;refine dx 58 (o_append1J tok (b := 11) (es := ((w.effs).map (arrAV .i64))) rfl rfl rfl rfl rfl rfl rfl rfl rfl rfl rfl (Nat.zero_lt_succ _) (arr_len h.e6) (arr_pure _) rfl rfl z57q z52q) ?_;refine dQ tok 2 rfl ?_;refine DOps.w rfl rfl (o_store1 tok rfl rfl rfl rfl rfl rfl rfl rfl rfl (slA_cells _ _) (by decide) (slA_cell1 _ _) (by intro h; cases h)) ?_;refine DOps.nil (by kernel_rfl) ?_;exact ⟨(), Sub.mk' z46q z2q, trivial⟩
   refine aQ tok 3 rfl ?_;refine an ?_;refine asp 46 (fun hb4 => ?_) fun hb4 => ?_
   ·
    refine act ?_;refine AGo.draw mix ?_;refine dQ tok 9 rfl ?_;refine dq 56 (q_build_arr tok rfl rfl rfl rfl rfl rfl (by decide) rfl rfl) ?_;refine dx 57 (o_lit' tok rfl rfl rfl rfl rfl rfl (by decide) rfl rfl rfl rfl rfl rfl) ?_;refine dx 58 (o_append1J tok (b := 11) (es := ((w.effs).map (arrAV .i64))) rfl rfl rfl rfl rfl rfl rfl rfl rfl rfl rfl (Nat.zero_lt_succ _) (arr_len h.e6) (arr_pure _) rfl rfl z57q z52q) ?_;refine dQ tok 2 rfl ?_;refine DOps.w rfl rfl (o_store1 tok rfl rfl rfl rfl rfl rfl rfl rfl rfl (slA_cells _ _) (by decide) (slA_cell1 _ _) (by intro h; cases h)) ?_;refine DOps.nil (by kernel_rfl) ?_;exact ⟨(), Sub.mk' z46q z2q, trivial⟩
   refine acf ?_;refine agk ?_;exact ⟨(), Sub.mk' z46q z2q, trivial⟩
  refine acf ?_;refine agk ?_;exact ⟨(), Sub.mk' z46q z2q, trivial⟩
 intro _u _
 refine AGo.draw mix ?_;refine dQ tok 14 rfl ?_;refine dx 75 (oct (vapply_ok' first w.K h.f h.k4 (by omega) t.k (rget w.vals t.a) (rget w.vals t.b) hxa.2.2.2 hxb.2.2.2) [9, 4, 3] [(3, (.map (kvsA .i64 (vmap first ((vapply first w.K t.k (rget w.vals t.a) (rget w.vals t.b)).2))))), (4, (.row false 3 [[.int .i64 first, .map 3, slA 9 (((vapply first w.K t.k (rget w.vals t.a) (rget w.vals t.b)).2).map (arrAV .i64))]])), (9, (slO 4 (((vapply first w.K t.k (rget w.vals t.a) (rget w.vals t.b)).2).map (arrAV .i64))))] rfl Tryz.func140 (by kernel_rfl) rfl rfl rfl ⟨⟨_, rfl, z35q⟩, ⟨_, rfl, z35q⟩, ⟨_, rfl, z35q⟩, trivial⟩ rfl (hres_cons rfl (hres_cons rfl (hres_cons rfl (hres_nil _)))) ⟨⟨_, rfl, rfl, z35q⟩, ⟨_, rfl, rfl, z35q⟩, ⟨_, rfl, rfl, z35q⟩, trivial⟩ rfl) ?_;refine dq 76 (q_indexV tok rfl rfl rfl rfl rfl rfl rfl rfl hxd.1 hxd.2.2.1) ?_;refine DOps.w rfl rfl (o_storeV tok rfl rfl rfl rfl rfl rfl rfl z54q (valC_one _) rfl rfl rfl) ?_
 refine DOps.nil (by kernel_rfl) ?_;refine ⟨[], trivial, rfl, ?_⟩
 rw [bin_db]
 exact HSub.put (HSub.put (HSub.put (HSub.put (HSub.put (HSub.put (HSub.none _) rfl) rfl) rfl) (by show _ = some (AObj.row false 4 [[.ptr 4 1 0 0, vaA 7 (valC (rset w.vals t.d _)), slA 11 ((w.div first t).effs.map (arrAV .i64)), .int .i64 w.time]]); rw [valC_vaA]; rfl)) z45q) rfl
theorem vstepb_ok (first : Int) (R m : Nat) (w : VW) (h : VOk first R m w) (hm : m ≤ 80000) (t : Tac) (ht : TacV t R) : ACall Tryz.prog 133 [.ptr 8 1 0 0, .agg t.cells] (hput (hput (hput (hput (hput (hput hNew 3 (.map (kvsA .i64 (vmap first ((w).K))))) 4 (.row false 3 [[.int .i64 first, .map 3, slA 9 (((w).K).map (arrAV .i64))]])) 9 (slO 4 (((w).K).map (arrAV .i64)))) 8 (.row false 4 [[.ptr 4 1 0 0, vaA 7 (valC ((w).vals)), slA 11 (((w).effs).map (arrAV .i64)), .int .i64 ((w).time)]])) 7 (vaO (valC ((w).vals)))) 11 (slO 6 (((w).effs).map (arrAV .i64)))) (fun r h' => r = .tup [] ∧ HSub (hput (hput (hput (hput (hput (hput hNone 3 (.map (kvsA .i64 (vmap first (((w.step first t)).K))))) 4 (.row false 3 [[.int .i64 first, .map 3, slA 9 ((((w.step first t)).K).map (arrAV .i64))]])) 9 (slO 4 ((((w.step first t)).K).map (arrAV .i64)))) 8 (.row false 4 [[.ptr 4 1 0 0, vaA 7 (valC (((w.step first t)).vals)), slA 11 ((((w.step first t)).effs).map (arrAV .i64)), .int .i64 (((w.step first t)).time)]])) 7 (vaO (valC (((w.step first t)).vals)))) 11 (slO 6 ((((w.step first t)).effs).map (arrAV .i64)))) h') := by
 have hel := h.el
 have hkl := h.kl
 have htl := h.tl
 refine ACall.of_body (n := 148) tok Tryz.func133 rfl rfl ?_;refine asr ?_;refine ax 3 (obx 8 12) ?_;refine an ?_;refine asr ?_;refine aQ tok 5 rfl ?_;refine an ?_;refine asr ?_;refine aQ tok 2 rfl ?_;refine an ?_;refine AGo.block ?_;refine asr ?_;refine aQ tok 2 rfl ?_;refine an ?_;refine asp 11 (fun hb1 => ?_) fun hb1 => ?_
 ·
  refine act ?_
  have ho : t.op = 1 := by simpa using hb1
  have hxd := h.at (ht.d (by rw [ho]; rfl))
  
  refine AGo.draw mix ?_;refine dQ tok 9 rfl ?_;refine dq 22 (q_convTo tok rfl rfl rfl rfl rfl (r := t.n) (by obtain ⟨h1, h2⟩ := ht.n; exact wrap_i64 (by omega) (by omega))) ?_;refine dq 23 (q_build_arr tok rfl rfl rfl rfl rfl rfl (by decide) rfl rfl) ?_;refine dx 24 (oct (number_ok first w.K h.f h.k4 (by omega) (1) (t.n) (0) (0)) [9, 4, 3] [(3, (.map (kvsA .i64 (vmap first ((vnum first w.K [1, t.n, 0, 0]).2))))), (4, (.row false 3 [[.int .i64 first, .map 3, slA 9 (((vnum first w.K [1, t.n, 0, 0]).2).map (arrAV .i64))]])), (9, (slO 4 (((vnum first w.K [1, t.n, 0, 0]).2).map (arrAV .i64))))] rfl Tryz.func135 (by kernel_rfl) rfl rfl rfl ⟨⟨_, rfl, z35q⟩, ⟨_, rfl, z35q⟩, ⟨_, rfl, z35q⟩, trivial⟩ rfl (hres_cons rfl (hres_cons rfl (hres_cons rfl (hres_nil _)))) ⟨⟨_, rfl, rfl, z35q⟩, ⟨_, rfl, rfl, z35q⟩, ⟨_, rfl, rfl, z35q⟩, trivial⟩ rfl) ?_;refine dq 25 (q_indexV tok rfl rfl rfl rfl rfl rfl rfl rfl hxd.1 hxd.2.2.1) ?_
  refine DOps.w rfl rfl (o_storeV tok rfl rfl rfl rfl rfl rfl rfl z54q (valC_one _) rfl rfl rfl) ?_;refine DOps.nil (by kernel_rfl) ?_;refine ⟨[], trivial, rfl, ?_⟩
  rw [vstep1 ho]
  exact HSub.put (HSub.put (HSub.put (HSub.put (HSub.put (HSub.put (HSub.none _) rfl) rfl) rfl) z24q) z45q) rfl
 refine acf ?_;refine asr ?_;refine aQ tok 2 rfl ?_;refine an ?_;refine asp 26 (fun hb2 => ?_) fun hb2 => ?_
 ·
  refine act ?_
  have ho : t.op = 2 := by simpa using hb2
  have hxd := h.at (ht.d (by rw [ho]; rfl))
  have hxa := h.at (ht.a (.inl (by rw [ho]; rfl)))
   
  refine AGo.draw mix ?_;refine dQ tok 6 rfl ?_;refine dq 34 (q_indexV tok rfl rfl rfl rfl rfl rfl rfl rfl hxa.1 hxa.2.2.1) ?_;refine dq 35 (q_load tok rfl rfl rfl (ptsV rfl (valC_get ⟨hxa.1, hxa.2.1⟩)) rfl) ?_;refine dq 36 (q_indexV tok rfl rfl rfl rfl rfl rfl rfl rfl hxd.1 hxd.2.2.1) ?_;refine DOps.w rfl rfl (o_storeV tok rfl rfl rfl rfl rfl rfl rfl z54q (valC_one _) rfl rfl rfl) ?_;refine DOps.nil (by kernel_rfl) ?_;refine ⟨[], trivial, rfl, ?_⟩
  rw [vstep2 ho]
  exact HSub.put (HSub.put (HSub.put (HSub.put (HSub.put (HSub.put (HSub.none _) rfl) rfl) rfl) z24q) z45q) rfl
 refine acf ?_;refine asr ?_;refine aQ tok 2 rfl ?_;refine an ?_;refine asp 37 (fun hb3 => ?_) fun hb3 => ?_
 ·
  refine act ?_
  have ho : t.op = 3 := by simpa using hb3
    
  refine agr ?_;refine aQ tok 2 rfl ?_;refine ax 41 (oct (binaryb_ok first R m w h (by omega) t (ht.d (by rw [ho]; rfl)) (ht.a (.inr (by rw [ho]; rfl))) (ht.b (by rw [ho]; rfl))) [11, 7, 8, 9, 4, 3] [(3, (.map (kvsA .i64 (vmap first (((w.bin first t)).K))))), (4, (.row false 3 [[.int .i64 first, .map 3, slA 9 ((((w.bin first t)).K).map (arrAV .i64))]])), (9, (slO 4 ((((w.bin first t)).K).map (arrAV .i64)))), (8, (.row false 4 [[.ptr 4 1 0 0, vaA 7 (valC (((w.bin first t)).vals)), slA 11 ((((w.bin first t)).effs).map (arrAV .i64)), .int .i64 (((w.bin first t)).time)]])), (7, (vaO (valC (((w.bin first t)).vals)))), (11, (slO 6 ((((w.bin first t)).effs).map (arrAV .i64))))] rfl Tryz.func136 (by kernel_rfl) rfl rfl rfl ⟨⟨_, rfl, z35q⟩, ⟨_, rfl, z35q⟩, ⟨_, rfl, z35q⟩, ⟨_, rfl, z35q⟩, ⟨_, rfl, z35q⟩, ⟨_, rfl, z35q⟩, trivial⟩ rfl (hres_cons rfl (hres_cons rfl (hres_cons rfl (hres_cons rfl (hres_cons rfl (hres_cons rfl (hres_nil _))))))) ⟨⟨_, rfl, rfl, z35q⟩, ⟨_, rfl, rfl, z35q⟩, ⟨_, rfl, rfl, z35q⟩, ⟨_, rfl, rfl, z35q⟩, ⟨_, rfl, rfl, z35q⟩, ⟨_, rfl, rfl, z35q⟩, trivial⟩ rfl) ?_
  refine an ?_;refine ⟨[], trivial, rfl, ?_⟩
  rw [vstep3 ho]
  exact HSub.put (HSub.put (HSub.put (HSub.put (HSub.put (HSub.put (HSub.none _) rfl) rfl) rfl) rfl) rfl) rfl
 refine acf ?_;refine asr ?_;refine aQ tok 2 rfl ?_;refine an ?_;refine asp 42 (fun hb4 => ?_) fun hb4 => ?_
 ·
  refine act ?_
  have ho : t.op = 4 := by simpa using hb4
  have hxd := h.at (ht.d (by rw [ho]; rfl))
     
  refine AGo.draw mix ?_;refine dQ tok 13 rfl ?_;refine dq 57 (q_build_arr tok rfl rfl rfl rfl rfl rfl (by decide) rfl rfl) ?_;refine dx 58 (oct (number_ok first w.K h.f h.k4 (by omega) (3) (t.base) (w.time) (0)) [9, 4, 3] [(3, (.map (kvsA .i64 (vmap first ((vnum first w.K [3, t.base, w.time, 0]).2))))), (4, (.row false 3 [[.int .i64 first, .map 3, slA 9 (((vnum first w.K [3, t.base, w.time, 0]).2).map (arrAV .i64))]])), (9, (slO 4 (((vnum first w.K [3, t.base, w.time, 0]).2).map (arrAV .i64))))] rfl Tryz.func135 (by kernel_rfl) rfl rfl rfl ⟨⟨_, rfl, z35q⟩, ⟨_, rfl, z35q⟩, ⟨_, rfl, z35q⟩, trivial⟩ rfl (hres_cons rfl (hres_cons rfl (hres_cons rfl (hres_nil _)))) ⟨⟨_, rfl, rfl, z35q⟩, ⟨_, rfl, rfl, z35q⟩, ⟨_, rfl, rfl, z35q⟩, trivial⟩ rfl) ?_;refine dq 59 (q_indexV tok rfl rfl rfl rfl rfl rfl rfl rfl hxd.1 hxd.2.2.1) ?_;refine DOps.w rfl rfl (o_storeV tok rfl rfl rfl rfl rfl rfl rfl z54q (valC_one _) rfl rfl rfl) ?_
  refine DOps.nil (by kernel_rfl) ?_;refine ⟨[], trivial, rfl, ?_⟩
  rw [vstep4 ho]
  exact HSub.put (HSub.put (HSub.put (HSub.put (HSub.put (HSub.put (HSub.none _) rfl) rfl) rfl) z24q) z45q) rfl
 refine acf ?_;refine asr ?_;refine aQ tok 2 rfl ?_;refine an ?_;refine asp 60 (fun hb5 => ?_) fun hb5 => ?_
 ·
  refine act ?_
  have ho : t.op = 5 := by simpa using hb5
  have hxa := h.at (ht.a (.inl (by rw [ho]; rfl)))
      
  refine asq ?_;refine AGo.draw mix ?_;refine dQ tok 5 rfl ?_;refine dq 67 (q_indexV tok rfl rfl rfl rfl rfl rfl rfl rfl hxa.1 hxa.2.2.1) ?_;refine dq 68 (q_load tok rfl rfl rfl (ptsV rfl (valC_get ⟨hxa.1, hxa.2.1⟩)) rfl) ?_;refine dx 69 (oct (happensb_ok first R m w h (by omega) t (rget w.vals t.a) 0) [11, 7, 8, 9, 4, 3] [(3, (.map (kvsA .i64 (vmap first (((w.hap t (rget w.vals t.a) 0)).K))))), (4, (.row false 3 [[.int .i64 first, .map 3, slA 9 ((((w.hap t (rget w.vals t.a) 0)).K).map (arrAV .i64))]])), (9, (slO 4 ((((w.hap t (rget w.vals t.a) 0)).K).map (arrAV .i64)))), (8, (.row false 4 [[.ptr 4 1 0 0, vaA 7 (valC (((w.hap t (rget w.vals t.a) 0)).vals)), slA 11 ((((w.hap t (rget w.vals t.a) 0)).effs).map (arrAV .i64)), .int .i64 (((w.hap t (rget w.vals t.a) 0)).time)]])), (7, (vaO (valC (((w.hap t (rget w.vals t.a) 0)).vals)))), (11, (slO 6 ((((w.hap t (rget w.vals t.a) 0)).effs).map (arrAV .i64))))] rfl Tryz.func137 (by kernel_rfl) rfl rfl rfl ⟨⟨_, rfl, z35q⟩, ⟨_, rfl, z35q⟩, ⟨_, rfl, z35q⟩, ⟨_, rfl, z35q⟩, ⟨_, rfl, z35q⟩, ⟨_, rfl, z35q⟩, trivial⟩ rfl (hres_cons rfl (hres_cons rfl (hres_cons rfl (hres_cons rfl (hres_cons rfl (hres_cons rfl (hres_nil _))))))) ⟨⟨_, rfl, rfl, z35q⟩, ⟨_, rfl, rfl, z35q⟩, ⟨_, rfl, rfl, z35q⟩, ⟨_, rfl, rfl, z35q⟩, ⟨_, rfl, rfl, z35q⟩, ⟨_, rfl, rfl, z35q⟩, trivial⟩ rfl) ?_
  refine DOps.nil (by kernel_rfl) ?_;refine agr ?_;refine aQ tok 4 rfl ?_;refine aq 74 (q_bin (r := .int .i64 (w.time + 1)) rfl rfl rfl z60q) ?_;refine aQ tok 2 rfl ?_;refine AOps.w rfl rfl (o_store tok rfl rfl rfl rfl rfl rfl rfl rfl rfl (by decide) rfl z51q) ?_;refine an ?_;refine ⟨[], trivial, rfl, ?_⟩
  rw [vstep5 ho]
  exact HSub.put (HSub.put (HSub.put (HSub.put (HSub.put (HSub.put (HSub.none _) rfl) rfl) rfl) rfl) rfl) rfl
 refine acf ?_;refine asr ?_;refine aQ tok 2 rfl ?_;refine an ?_;refine asp 77 (fun hb6 => ?_) fun hb6 => ?_
 ·
  refine act ?_
  have ho : t.op = 6 := by simpa using hb6
  have hxd := h.at (ht.d (by rw [ho]; rfl))
  have hxa := h.at (ht.a (.inl (by rw [ho]; rfl)))
       
  refine asq ?_;refine AGo.draw mix ?_;refine dQ tok 5 rfl ?_;refine dq 84 (q_indexV tok rfl rfl rfl rfl rfl rfl rfl rfl hxa.1 hxa.2.2.1) ?_;refine dq 85 (q_load tok rfl rfl rfl (ptsV rfl (valC_get ⟨hxa.1, hxa.2.1⟩)) rfl) ?_;refine dx 86 (oct (happensb_ok first R m w h (by omega) t (rget w.vals t.a) 0) [11, 7, 8, 9, 4, 3] [(3, (.map (kvsA .i64 (vmap first (((w.hap t (rget w.vals t.a) 0)).K))))), (4, (.row false 3 [[.int .i64 first, .map 3, slA 9 ((((w.hap t (rget w.vals t.a) 0)).K).map (arrAV .i64))]])), (9, (slO 4 ((((w.hap t (rget w.vals t.a) 0)).K).map (arrAV .i64)))), (8, (.row false 4 [[.ptr 4 1 0 0, vaA 7 (valC (((w.hap t (rget w.vals t.a) 0)).vals)), slA 11 ((((w.hap t (rget w.vals t.a) 0)).effs).map (arrAV .i64)), .int .i64 (((w.hap t (rget w.vals t.a) 0)).time)]])), (7, (vaO (valC (((w.hap t (rget w.vals t.a) 0)).vals)))), (11, (slO 6 ((((w.hap t (rget w.vals t.a) 0)).effs).map (arrAV .i64))))] rfl Tryz.func137 (by kernel_rfl) rfl rfl rfl ⟨⟨_, rfl, z35q⟩, ⟨_, rfl, z35q⟩, ⟨_, rfl, z35q⟩, ⟨_, rfl, z35q⟩, ⟨_, rfl, z35q⟩, ⟨_, rfl, z35q⟩, trivial⟩ rfl (hres_cons rfl (hres_cons rfl (hres_cons rfl (hres_cons rfl (hres_cons rfl (hres_cons rfl (hres_nil _))))))) ⟨⟨_, rfl, rfl, z35q⟩, ⟨_, rfl, rfl, z35q⟩, ⟨_, rfl, rfl, z35q⟩, ⟨_, rfl, rfl, z35q⟩, ⟨_, rfl, rfl, z35q⟩, ⟨_, rfl, rfl, z35q⟩, trivial⟩ rfl) ?_
  refine DOps.nil (by kernel_rfl) ?_;refine AGo.draw mix ?_;refine dQ tok 4 rfl ?_;refine dx 91 (oct (unknownb_ok first R (m + 1) (w.hap t (rget w.vals t.a) 0) (h.eff rfl) (by omega)) [11, 7, 8, 9, 4, 3] [(3, (.map (kvsA .i64 (vmap first ((vunk first (w.hap t (rget w.vals t.a) 0)).2))))), (4, (.row false 3 [[.int .i64 first, .map 3, slA 9 (((vunk first (w.hap t (rget w.vals t.a) 0)).2).map (arrAV .i64))]])), (9, (slO 4 (((vunk first (w.hap t (rget w.vals t.a) 0)).2).map (arrAV .i64)))), (8, (.row false 4 [[.ptr 4 1 0 0, vaA 7 (valC (((w.hap t (rget w.vals t.a) 0)).vals)), slA 11 ((((w.hap t (rget w.vals t.a) 0)).effs).map (arrAV .i64)), .int .i64 (((w.hap t (rget w.vals t.a) 0)).time)]])), (7, (vaO (valC (((w.hap t (rget w.vals t.a) 0)).vals)))), (11, (slO 6 ((((w.hap t (rget w.vals t.a) 0)).effs).map (arrAV .i64))))] rfl Tryz.func138 (by kernel_rfl) rfl rfl rfl ⟨⟨_, rfl, z35q⟩, ⟨_, rfl, z35q⟩, ⟨_, rfl, z35q⟩, ⟨_, rfl, z35q⟩, ⟨_, rfl, z35q⟩, ⟨_, rfl, z35q⟩, trivial⟩ rfl (hres_cons rfl (hres_cons rfl (hres_cons rfl (hres_cons rfl (hres_cons rfl (hres_cons rfl (hres_nil _))))))) ⟨⟨_, rfl, rfl, z35q⟩, ⟨_, rfl, rfl, z35q⟩, ⟨_, rfl, rfl, z35q⟩, ⟨_, rfl, rfl, z35q⟩, ⟨_, rfl, rfl, z35q⟩, ⟨_, rfl, rfl, z35q⟩, trivial⟩ rfl) ?_
  refine dq 92 (q_indexV tok rfl rfl rfl rfl rfl rfl rfl rfl hxd.1 hxd.2.2.1) ?_;refine DOps.w rfl rfl (o_storeV tok rfl rfl rfl rfl rfl rfl rfl z54q (valC_one _) rfl rfl rfl) ?_;refine DOps.nil (by kernel_rfl) ?_;refine ⟨[], trivial, rfl, ?_⟩
  rw [vstep6 ho]
  exact HSub.put (HSub.put (HSub.put (HSub.put (HSub.put (HSub.put (HSub.none _) rfl) rfl) rfl) (by show _ = some (AObj.row false 4 [[.ptr 4 1 0 0, vaA 7 (valC (rset w.vals t.d _)), slA 11 ((w.hap t (rget w.vals t.a) 0).effs.map (arrAV .i64)), .int .i64 w.time]]); rw [valC_vaA]; rfl)) z45q) rfl
 refine acf ?_;refine asr ?_;refine aQ tok 2 rfl ?_;refine an ?_;refine asp 93 (fun hb7 => ?_) fun hb7 => ?_
 ·
  refine act ?_
  have ho : t.op = 7 := by simpa using hb7
  have hxa := h.at (ht.a (.inr (by rw [ho]; rfl)))
  have hxb := h.at (ht.b (by rw [ho]; rfl))
        
  refine asq ?_;refine AGo.draw mix ?_;refine dQ tok 5 rfl ?_;refine dq 100 (q_indexV tok rfl rfl rfl rfl rfl rfl rfl rfl hxa.1 hxa.2.2.1) ?_;refine dq 101 (q_load tok rfl rfl rfl (ptsV rfl (valC_get ⟨hxa.1, hxa.2.1⟩)) rfl) ?_;refine dQ tok 3 rfl ?_;refine dq 105 (q_indexV tok rfl rfl rfl rfl rfl rfl rfl rfl hxb.1 hxb.2.2.1) ?_;refine dq 106 (q_load tok rfl rfl rfl (ptsV rfl (valC_get ⟨hxb.1, hxb.2.1⟩)) rfl) ?_;refine dx 107 (oct (happensb_ok first R m w h (by omega) t (rget w.vals t.a) (rget w.vals t.b)) [11, 7, 8, 9, 4, 3] [(3, (.map (kvsA .i64 (vmap first (((w.hap t (rget w.vals t.a) (rget w.vals t.b))).K))))), (4, (.row false 3 [[.int .i64 first, .map 3, slA 9 ((((w.hap t (rget w.vals t.a) (rget w.vals t.b))).K).map (arrAV .i64))]])), (9, (slO 4 ((((w.hap t (rget w.vals t.a) (rget w.vals t.b))).K).map (arrAV .i64)))), (8, (.row false 4 [[.ptr 4 1 0 0, vaA 7 (valC (((w.hap t (rget w.vals t.a) (rget w.vals t.b))).vals)), slA 11 ((((w.hap t (rget w.vals t.a) (rget w.vals t.b))).effs).map (arrAV .i64)), .int .i64 (((w.hap t (rget w.vals t.a) (rget w.vals t.b))).time)]])), (7, (vaO (valC (((w.hap t (rget w.vals t.a) (rget w.vals t.b))).vals)))), (11, (slO 6 ((((w.hap t (rget w.vals t.a) (rget w.vals t.b))).effs).map (arrAV .i64))))] rfl Tryz.func137 (by kernel_rfl) rfl rfl rfl ⟨⟨_, rfl, z35q⟩, ⟨_, rfl, z35q⟩, ⟨_, rfl, z35q⟩, ⟨_, rfl, z35q⟩, ⟨_, rfl, z35q⟩, ⟨_, rfl, z35q⟩, trivial⟩ rfl (hres_cons rfl (hres_cons rfl (hres_cons rfl (hres_cons rfl (hres_cons rfl (hres_cons rfl (hres_nil _))))))) ⟨⟨_, rfl, rfl, z35q⟩, ⟨_, rfl, rfl, z35q⟩, ⟨_, rfl, rfl, z35q⟩, ⟨_, rfl, rfl, z35q⟩, ⟨_, rfl, rfl, z35q⟩, ⟨_, rfl, rfl, z35q⟩, trivial⟩ rfl) ?_
  refine DOps.nil (by kernel_rfl) ?_;refine agr ?_;refine aQ tok 4 rfl ?_;refine aq 112 (q_bin (r := .int .i64 (w.time + 1)) rfl rfl rfl z60q) ?_;refine aQ tok 2 rfl ?_;refine AOps.w rfl rfl (o_store tok rfl rfl rfl rfl rfl rfl rfl rfl rfl (by decide) rfl z51q) ?_;refine an ?_;refine ⟨[], trivial, rfl, ?_⟩
  rw [vstep7 ho]
  exact HSub.put (HSub.put (HSub.put (HSub.put (HSub.put (HSub.put (HSub.none _) rfl) rfl) rfl) rfl) rfl) rfl
 refine acf ?_;refine asr ?_;refine aQ tok 2 rfl ?_;refine an ?_;refine asp 115 (fun hb8 => ?_) fun hb8 => ?_
 ·
  refine act ?_
  have ho : t.op = 8 := by simpa using hb8
  have hxd := h.at (ht.d (by rw [ho]; rfl))
         
  refine asr ?_;refine aQ tok 2 rfl ?_;refine ax 119 (oct (happensb_ok first R m w h (by omega) t 0 0) [11, 7, 8, 9, 4, 3] [(3, (.map (kvsA .i64 (vmap first (((w.hap t 0 0)).K))))), (4, (.row false 3 [[.int .i64 first, .map 3, slA 9 ((((w.hap t 0 0)).K).map (arrAV .i64))]])), (9, (slO 4 ((((w.hap t 0 0)).K).map (arrAV .i64)))), (8, (.row false 4 [[.ptr 4 1 0 0, vaA 7 (valC (((w.hap t 0 0)).vals)), slA 11 ((((w.hap t 0 0)).effs).map (arrAV .i64)), .int .i64 (((w.hap t 0 0)).time)]])), (7, (vaO (valC (((w.hap t 0 0)).vals)))), (11, (slO 6 ((((w.hap t 0 0)).effs).map (arrAV .i64))))] rfl Tryz.func137 (by kernel_rfl) rfl rfl rfl ⟨⟨_, rfl, z35q⟩, ⟨_, rfl, z35q⟩, ⟨_, rfl, z35q⟩, ⟨_, rfl, z35q⟩, ⟨_, rfl, z35q⟩, ⟨_, rfl, z35q⟩, trivial⟩ rfl (hres_cons rfl (hres_cons rfl (hres_cons rfl (hres_cons rfl (hres_cons rfl (hres_cons rfl (hres_nil _))))))) ⟨⟨_, rfl, rfl, z35q⟩, ⟨_, rfl, rfl, z35q⟩, ⟨_, rfl, rfl, z35q⟩, ⟨_, rfl, rfl, z35q⟩, ⟨_, rfl, rfl, z35q⟩, ⟨_, rfl, rfl, z35q⟩, trivial⟩ rfl) ?_
  refine an ?_;refine AGo.draw mix ?_;refine dQ tok 4 rfl ?_;refine dx 124 (oct (unknownb_ok first R (m + 1) (w.hap t 0 0) (h.eff rfl) (by omega)) [11, 7, 8, 9, 4, 3] [(3, (.map (kvsA .i64 (vmap first ((vunk first (w.hap t 0 0)).2))))), (4, (.row false 3 [[.int .i64 first, .map 3, slA 9 (((vunk first (w.hap t 0 0)).2).map (arrAV .i64))]])), (9, (slO 4 (((vunk first (w.hap t 0 0)).2).map (arrAV .i64)))), (8, (.row false 4 [[.ptr 4 1 0 0, vaA 7 (valC (((w.hap t 0 0)).vals)), slA 11 ((((w.hap t 0 0)).effs).map (arrAV .i64)), .int .i64 (((w.hap t 0 0)).time)]])), (7, (vaO (valC (((w.hap t 0 0)).vals)))), (11, (slO 6 ((((w.hap t 0 0)).effs).map (arrAV .i64))))] rfl Tryz.func138 (by kernel_rfl) rfl rfl rfl ⟨⟨_, rfl, z35q⟩, ⟨_, rfl, z35q⟩, ⟨_, rfl, z35q⟩, ⟨_, rfl, z35q⟩, ⟨_, rfl, z35q⟩, ⟨_, rfl, z35q⟩, trivial⟩ rfl (hres_cons rfl (hres_cons rfl (hres_cons rfl (hres_cons rfl (hres_cons rfl (hres_cons rfl (hres_nil _))))))) ⟨⟨_, rfl, rfl, z35q⟩, ⟨_, rfl, rfl, z35q⟩, ⟨_, rfl, rfl, z35q⟩, ⟨_, rfl, rfl, z35q⟩, ⟨_, rfl, rfl, z35q⟩, ⟨_, rfl, rfl, z35q⟩, trivial⟩ rfl) ?_
  refine dq 125 (q_indexV tok rfl rfl rfl rfl rfl rfl rfl rfl hxd.1 hxd.2.2.1) ?_;refine DOps.w rfl rfl (o_storeV tok rfl rfl rfl rfl rfl rfl rfl z54q (valC_one _) rfl rfl rfl) ?_;refine DOps.nil (by kernel_rfl) ?_;refine ⟨[], trivial, rfl, ?_⟩
  rw [vstep8 ho]
  exact HSub.put (HSub.put (HSub.put (HSub.put (HSub.put (HSub.put (HSub.none _) rfl) rfl) rfl) (by show _ = some (AObj.row false 4 [[.ptr 4 1 0 0, vaA 7 (valC (rset w.vals t.d _)), slA 11 ((w.hap t 0 0).effs.map (arrAV .i64)), .int .i64 w.time]]); rw [valC_vaA]; rfl)) z45q) rfl
 refine acf ?_;refine asr ?_;refine aQ tok 2 rfl ?_;refine an ?_;refine asp 126 (fun hb9 => ?_) fun hb9 => ?_
 ·
  refine act ?_
  have ho : t.op = 9 := by simpa using hb9
  have hxa := h.at (ht.a (.inl (by rw [ho]; rfl)))
          
  refine AGo.draw mix ?_;refine dQ tok 5 rfl ?_;refine dq 133 (q_indexV tok rfl rfl rfl rfl rfl rfl rfl rfl hxa.1 hxa.2.2.1) ?_;refine dq 134 (q_load tok rfl rfl rfl (ptsV rfl (valC_get ⟨hxa.1, hxa.2.1⟩)) rfl) ?_;refine dx 135 (oct (happensb_ok first R m w h (by omega) t (rget w.vals t.a) 0) [11, 7, 8, 9, 4, 3] [(3, (.map (kvsA .i64 (vmap first (((w.hap t (rget w.vals t.a) 0)).K))))), (4, (.row false 3 [[.int .i64 first, .map 3, slA 9 ((((w.hap t (rget w.vals t.a) 0)).K).map (arrAV .i64))]])), (9, (slO 4 ((((w.hap t (rget w.vals t.a) 0)).K).map (arrAV .i64)))), (8, (.row false 4 [[.ptr 4 1 0 0, vaA 7 (valC (((w.hap t (rget w.vals t.a) 0)).vals)), slA 11 ((((w.hap t (rget w.vals t.a) 0)).effs).map (arrAV .i64)), .int .i64 (((w.hap t (rget w.vals t.a) 0)).time)]])), (7, (vaO (valC (((w.hap t (rget w.vals t.a) 0)).vals)))), (11, (slO 6 ((((w.hap t (rget w.vals t.a) 0)).effs).map (arrAV .i64))))] rfl Tryz.func137 (by kernel_rfl) rfl rfl rfl ⟨⟨_, rfl, z35q⟩, ⟨_, rfl, z35q⟩, ⟨_, rfl, z35q⟩, ⟨_, rfl, z35q⟩, ⟨_, rfl, z35q⟩, ⟨_, rfl, z35q⟩, trivial⟩ rfl (hres_cons rfl (hres_cons rfl (hres_cons rfl (hres_cons rfl (hres_cons rfl (hres_cons rfl (hres_nil _))))))) ⟨⟨_, rfl, rfl, z35q⟩, ⟨_, rfl, rfl, z35q⟩, ⟨_, rfl, rfl, z35q⟩, ⟨_, rfl, rfl, z35q⟩, ⟨_, rfl, rfl, z35q⟩, ⟨_, rfl, rfl, z35q⟩, trivial⟩ rfl) ?_
  refine DOps.nil (by kernel_rfl) ?_;refine ⟨[], trivial, rfl, ?_⟩
  rw [vstep9 ho]
  exact HSub.put (HSub.put (HSub.put (HSub.put (HSub.put (HSub.put (HSub.none _) rfl) rfl) rfl) rfl) rfl) rfl
 refine acf ?_;refine asr ?_;refine aQ tok 2 rfl ?_;refine an ?_;refine asp 136 (fun hb10 => ?_) fun hb10 => ?_
 ·
  refine act ?_
  have ho : t.op = 10 := by simpa using hb10
           
  refine asr ?_;refine aQ tok 2 rfl ?_;refine ax 140 (oct (happensb_ok first R m w h (by omega) t 0 0) [11, 7, 8, 9, 4, 3] [(3, (.map (kvsA .i64 (vmap first (((w.hap t 0 0)).K))))), (4, (.row false 3 [[.int .i64 first, .map 3, slA 9 ((((w.hap t 0 0)).K).map (arrAV .i64))]])), (9, (slO 4 ((((w.hap t 0 0)).K).map (arrAV .i64)))), (8, (.row false 4 [[.ptr 4 1 0 0, vaA 7 (valC (((w.hap t 0 0)).vals)), slA 11 ((((w.hap t 0 0)).effs).map (arrAV .i64)), .int .i64 (((w.hap t 0 0)).time)]])), (7, (vaO (valC (((w.hap t 0 0)).vals)))), (11, (slO 6 ((((w.hap t 0 0)).effs).map (arrAV .i64))))] rfl Tryz.func137 (by kernel_rfl) rfl rfl rfl ⟨⟨_, rfl, z35q⟩, ⟨_, rfl, z35q⟩, ⟨_, rfl, z35q⟩, ⟨_, rfl, z35q⟩, ⟨_, rfl, z35q⟩, ⟨_, rfl, z35q⟩, trivial⟩ rfl (hres_cons rfl (hres_cons rfl (hres_cons rfl (hres_cons rfl (hres_cons rfl (hres_cons rfl (hres_nil _))))))) ⟨⟨_, rfl, rfl, z35q⟩, ⟨_, rfl, rfl, z35q⟩, ⟨_, rfl, rfl, z35q⟩, ⟨_, rfl, rfl, z35q⟩, ⟨_, rfl, rfl, z35q⟩, ⟨_, rfl, rfl, z35q⟩, trivial⟩ rfl) ?_
  refine an ?_;refine agr ?_;refine aQ tok 4 rfl ?_;refine aq 145 (q_bin (r := .int .i64 (w.time + 1)) rfl rfl rfl z60q) ?_;refine aQ tok 2 rfl ?_;refine AOps.w rfl rfl (o_store tok rfl rfl rfl rfl rfl rfl rfl rfl rfl (by decide) rfl z51q) ?_;refine an ?_;refine ⟨[], trivial, rfl, ?_⟩
  rw [vstep10 ho]
  exact HSub.put (HSub.put (HSub.put (HSub.put (HSub.put (HSub.put (HSub.none _) rfl) rfl) rfl) rfl) rfl) rfl
 refine acf ?_;refine agk ?_;refine ⟨[], trivial, rfl, ?_⟩
 rw [vstep0 hb1 hb2 hb3 hb4 hb5 hb6 hb7 hb8 hb9 hb10]
 exact HSub.put (HSub.put (HSub.put (HSub.put (HSub.put (HSub.put (HSub.none _) rfl) rfl) rfl) rfl) rfl) rfl
theorem happensa_ok (first : Int) (R m : Nat) (w : VW) (h : VOk first R m w) (hm : m ≤ 90000) (t : Tac) (a b : Int) : ACall Tryz.prog 137 [.ptr 6 1 0 0, .agg t.cells, .int .i64 a, .int .i64 b] (hput (hput (hput (hput (hput (hput hNew 3 (.map (kvsA .i64 (vmap first ((w).K))))) 4 (.row false 3 [[.int .i64 first, .map 3, slA 9 (((w).K).map (arrAV .i64))]])) 9 (slO 4 (((w).K).map (arrAV .i64)))) 6 (.row false 4 [[.ptr 4 1 0 0, vaA 5 (valC ((w).vals)), slA 10 (((w).effs).map (arrAV .i64)), .int .i64 ((w).time)]])) 5 (vaO (valC ((w).vals)))) 10 (slO 6 (((w).effs).map (arrAV .i64)))) (fun r h' => r = .tup [] ∧ HSub (hput (hput (hput (hput (hput (hput hNone 3 (.map (kvsA .i64 (vmap first (((w.hap t a b)).K))))) 4 (.row false 3 [[.int .i64 first, .map 3, slA 9 ((((w.hap t a b)).K).map (arrAV .i64))]])) 9 (slO 4 ((((w.hap t a b)).K).map (arrAV .i64)))) 6 (.row false 4 [[.ptr 4 1 0 0, vaA 5 (valC (((w.hap t a b)).vals)), slA 10 ((((w.hap t a b)).effs).map (arrAV .i64)), .int .i64 (((w.hap t a b)).time)]])) 5 (vaO (valC (((w.hap t a b)).vals)))) 10 (slO 6 ((((w.hap t a b)).effs).map (arrAV .i64)))) h') := by
 have hel := h.el
 refine ACall.of_body (n := 26) tok Tryz.func137 rfl rfl ?_;refine asr ?_;refine ax 5 (obx 8 12) ?_;refine an ?_;refine AGo.draw mix ?_;refine dQ tok 13 rfl ?_;refine dq 21 (q_build_arr tok rfl rfl rfl rfl rfl rfl (by decide) rfl rfl) ?_;refine dx 22 (o_lit' tok rfl rfl rfl rfl rfl rfl (by decide) rfl rfl rfl rfl rfl rfl) ?_;refine dx 23 (o_append1J tok (b := 10) (es := ((w.effs).map (arrAV .i64))) rfl rfl rfl rfl rfl rfl rfl rfl rfl rfl rfl (Nat.zero_lt_succ _) (arr_len h.e6) (arr_pure _) rfl rfl z57q z52q) ?_;refine dQ tok 2 rfl ?_;refine DOps.w rfl rfl (o_store1 tok rfl rfl rfl rfl rfl rfl rfl rfl rfl (slA_cells _ _) (by decide) (slA_cell1 _ _) (by intro h; cases h)) ?_;refine DOps.nil (by kernel_rfl) ?_;refine ⟨[], trivial, rfl, ?_⟩
 exact HSub.put (HSub.put (HSub.put (HSub.put (HSub.put (HSub.put (HSub.none _) rfl) rfl) rfl) (by show _ = some (AObj.row false 4 [[.ptr 4 1 0 0, vaA 5 (valC (w.vals)), slA 10 ((w.effs ++ [_]).map (arrAV .i64)), .int .i64 w.time]]); rw [List.map_append]; rfl)) rfl) (by show _ = some (slO 6 ((w.effs ++ [_]).map (arrAV .i64))); rw [List.map_append]; rfl)
theorem unknowna_ok (first : Int) (R m : Nat) (w : VW) (h : VOk first R m w) (hm : m ≤ 90000) : ACall Tryz.prog 138 [.ptr 6 1 0 0] (hput (hput (hput (hput (hput (hput hNew 3 (.map (kvsA .i64 (vmap first ((w).K))))) 4 (.row false 3 [[.int .i64 first, .map 3, slA 9 (((w).K).map (arrAV .i64))]])) 9 (slO 4 (((w).K).map (arrAV .i64)))) 6 (.row false 4 [[.ptr 4 1 0 0, vaA 5 (valC ((w).vals)), slA 10 (((w).effs).map (arrAV .i64)), .int .i64 ((w).time)]])) 5 (vaO (valC ((w).vals)))) 10 (slO 6 (((w).effs).map (arrAV .i64)))) (fun r h' => r = .int .i64 (vunk first w).1 ∧ HSub (hput (hput (hput (hput (hput (hput hNone 3 (.map (kvsA .i64 (vmap first ((vunk first w).2))))) 4 (.row false 3 [[.int .i64 first, .map 3, slA 9 (((vunk first w).2).map (arrAV .i64))]])) 9 (slO 4 (((vunk first w).2).map (arrAV .i64)))) 6 (.row false 4 [[.ptr 4 1 0 0, vaA 5 (valC ((w).vals)), slA 10 (((w).effs).map (arrAV .i64)), .int .i64 ((w).time)]])) 5 (vaO (valC ((w).vals)))) 10 (slO 6 (((w).effs).map (arrAV .i64)))) h') := by
 have hkl := h.kl
 refine ACall.of_body (n := 14) tok Tryz.func138 rfl rfl ?_;refine asr ?_;refine aa 2 ?_;refine an ?_;refine asq ?_;refine AGo.draw mix ?_;refine dQ tok 8 rfl ?_;refine dq 11 (q_lenJ tok rfl rfl rfl rfl) ?_;refine dq 12 (q_build_arr tok rfl rfl rfl rfl rfl rfl (by decide) rfl rfl) ?_;refine dx 13 (oct ((by rw [List.length_map]; exact number_ok first w.K h.f h.k4 (by omega) 4 (w.effs.length : Int) 0 0)) [9, 4, 3] [(3, (.map (kvsA .i64 (vmap first ((vunk first w).2))))), (4, (.row false 3 [[.int .i64 first, .map 3, slA 9 (((vunk first w).2).map (arrAV .i64))]])), (9, (slO 4 (((vunk first w).2).map (arrAV .i64))))] rfl Tryz.func135 (by kernel_rfl) rfl rfl rfl ⟨⟨_, rfl, z35q⟩, ⟨_, rfl, z35q⟩, ⟨_, rfl, z35q⟩, trivial⟩ rfl (hres_cons rfl (hres_cons rfl (hres_cons rfl (hres_nil _)))) ⟨⟨_, rfl, rfl, z35q⟩, ⟨_, rfl, rfl, z35q⟩, ⟨_, rfl, rfl, z35q⟩, trivial⟩ rfl) ?_;refine da 2 ?_;refine DOps.nil (by kernel_rfl) ?_
 refine agt ?_;refine ⟨[_], ⟨rfl, trivial⟩, rfl, ?_⟩
 exact HSub.put (HSub.put (HSub.put (HSub.put (HSub.put (HSub.put (HSub.none _) rfl) rfl) rfl) rfl) rfl) rfl
theorem bin_da (first : Int) (w : VW) (t : Tac) : w.bin first t = ⟨(vapply first w.K t.k (rget w.vals t.a) (rget w.vals t.b)).2, rset w.vals t.d (vapply first w.K t.k (rget w.vals t.a) (rget w.vals t.b)).1, (w.div first t).effs, w.time⟩ := by
  cases hr : vrisky first w t with
  | true => rw [bin_yes hr]; simp only [VW.div, hr, cond_true]
  | false => rw [bin_no hr]; simp only [VW.div, hr, cond_false]
theorem binarya_ok (first : Int) (R m : Nat) (w : VW) (h : VOk first R m w) (hm : m ≤ 90000) (t : Tac) (hd : 0 ≤ t.d ∧ t.d < R) (ha : 0 ≤ t.a ∧ t.a < R) (hb : 0 ≤ t.b ∧ t.b < R) : ACall Tryz.prog 136 [.ptr 6 1 0 0, .agg t.cells] (hput (hput (hput (hput (hput (hput hNew 3 (.map (kvsA .i64 (vmap first ((w).K))))) 4 (.row false 3 [[.int .i64 first, .map 3, slA 9 (((w).K).map (arrAV .i64))]])) 9 (slO 4 (((w).K).map (arrAV .i64)))) 6 (.row false 4 [[.ptr 4 1 0 0, vaA 5 (valC ((w).vals)), slA 10 (((w).effs).map (arrAV .i64)), .int .i64 ((w).time)]])) 5 (vaO (valC ((w).vals)))) 10 (slO 6 (((w).effs).map (arrAV .i64)))) (fun r h' => r = .tup [] ∧ HSub (hput (hput (hput (hput (hput (hput hNone 3 (.map (kvsA .i64 (vmap first (((w.bin first t)).K))))) 4 (.row false 3 [[.int .i64 first, .map 3, slA 9 ((((w.bin first t)).K).map (arrAV .i64))]])) 9 (slO 4 ((((w.bin first t)).K).map (arrAV .i64)))) 6 (.row false 4 [[.ptr 4 1 0 0, vaA 5 (valC (((w.bin first t)).vals)), slA 10 ((((w.bin first t)).effs).map (arrAV .i64)), .int .i64 (((w.bin first t)).time)]])) 5 (vaO (valC (((w.bin first t)).vals)))) 10 (slO 6 ((((w.bin first t)).effs).map (arrAV .i64)))) h') := by
 have hel := h.el
 have hkl := h.kl
 have hxd := h.at hd
 have hxa := h.at ha
 have hxb := h.at hb
 refine ACall.of_body (n := 77) tok Tryz.func136 rfl rfl ?_;refine asr ?_;refine ax 3 (obx 8 12) ?_;refine an ?_;refine asq ?_;refine AGo.draw mix ?_;refine dQ tok 6 rfl ?_;refine dq 14 (q_indexV tok rfl rfl rfl rfl rfl rfl rfl rfl hxa.1 hxa.2.2.1) ?_;refine dq 15 (q_load tok rfl rfl rfl (ptsV rfl (valC_get ⟨hxa.1, hxa.2.1⟩)) rfl) ?_;refine dQ tok 6 rfl ?_;refine dq 22 (q_indexV tok rfl rfl rfl rfl rfl rfl rfl rfl hxb.1 hxb.2.2.1) ?_;refine dq 23 (q_load tok rfl rfl rfl (ptsV rfl (valC_get ⟨hxb.1, hxb.2.1⟩)) rfl) ?_;refine dQ tok 2 rfl ?_;refine DOps.nil (by kernel_rfl) ?_;refine asq ?_;refine asq ?_;refine AGo.join (γ := Unit) (fun _u => ⟨77, (eput (eput (eput (eput (eput eNew 0 (.ptr 6 1 0 0)) 3 (.ptr 12 1 0 0)) 4 (.int .i64 (rget w.vals t.a))) 5 (.int .i64 (rget w.vals t.b))) 31 (.bool (t.k == 7 || t.k == 8))), (hput (hput (hput (hput (hput (hput (hput (hFrom 13) 12 (.row false 8 [t.cells])) 3 (.map (kvsA .i64 (vmap first ((w).K))))) 4 (.row false 3 [[.int .i64 first, .map 3, slA 9 (((w).K).map (arrAV .i64))]])) 9 (slO 4 (((w).K).map (arrAV .i64)))) 6 (.row false 4 [[.ptr 4 1 0 0, vaA 5 (valC ((w).vals)), slA 10 (((w).effs).map (arrAV .i64)), .int .i64 ((w).time)]])) 5 (vaO (valC ((w).vals)))) 10 (slO 6 (((w).effs).map (arrAV .i64))))⟩) (fun _u => True) ?_ ?_
 ·
  refine agr ?_;refine aQ tok 4 rfl ?_;refine aop 27 (fun hb1 => ?_) fun hb1 => ?_
  ·
   refine aQ tok 4 rfl ?_;refine an ?_;exact ⟨(), Sub.mk' z32q z12q, trivial⟩
  refine aQ tok 4 rfl ?_;refine an ?_;exact ⟨(), Sub.mk' z32q z12q, trivial⟩
 intro _u _
 refine AGo.join (γ := Unit) (fun _u => ⟨77, (eput (eput (eput (eput eNew 0 (.ptr 6 1 0 0)) 3 (.ptr 12 1 0 0)) 4 (.int .i64 (rget w.vals t.a))) 5 (.int .i64 (rget w.vals t.b))), (hput (hput (hput (hput (hput (hput (hput (hFrom 13) 12 (.row false 8 [t.cells])) 3 (.map (kvsA .i64 (vmap first (w.K))))) 4 (.row false 3 [[.int .i64 first, .map 3, slA 9 ((w.K).map (arrAV .i64))]])) 9 (slO 4 ((w.K).map (arrAV .i64)))) 6 (.row false 4 [[.ptr 4 1 0 0, vaA 5 (valC ((w).vals)), slA 10 (((w.div first t).effs).map (arrAV .i64)), .int .i64 (w.time)]])) 5 (vaO (valC ((w).vals)))) 10 (slO 6 (((w.div first t).effs).map (arrAV .i64))))⟩) (fun _u => True) ?_ ?_
 ·
  refine asp 31 (fun hb2 => ?_) fun hb2 => ?_
  ·
   refine act ?_;refine asr ?_;refine aQ tok 5 rfl ?_;refine ax 38 (oct (constant_ok first w.K h.f h.k4 (by omega) (rget w.vals t.b) hxb.2.2.2) [9, 4, 3] [(3, (.map (kvsA .i64 (vmap first (w.K))))), (4, (.row false 3 [[.int .i64 first, .map 3, slA 9 ((w.K).map (arrAV .i64))]])), (9, (slO 4 ((w.K).map (arrAV .i64))))] rfl Tryz.func139 (by kernel_rfl) rfl rfl rfl ⟨⟨_, rfl, z35q⟩, ⟨_, rfl, z35q⟩, ⟨_, rfl, z35q⟩, trivial⟩ rfl (hres_cons rfl (hres_cons rfl (hres_cons rfl (hres_nil _)))) ⟨⟨_, rfl, rfl, z35q⟩, ⟨_, rfl, rfl, z35q⟩, ⟨_, rfl, rfl, z35q⟩, trivial⟩ rfl) ?_;refine aQ tok 5 rfl ?_;refine an ?_;refine asr ?_;refine aQ tok 3 rfl ?_;refine aop 43 (fun hb3 => ?_) fun hb3 => ?_
   ·
    refine aQ tok 3 rfl ?_;refine an ?_;refine act ?_;refine AGo.draw mix ?_;refine dQ tok 9 rfl ?_;refine dq 56 (q_build_arr tok rfl rfl rfl rfl rfl rfl (by decide) rfl rfl) ?_;refine dx 57 (o_lit' tok rfl rfl rfl rfl rfl rfl (by decide) rfl rfl rfl rfl rfl rfl) ?_;refine dx 58 (o_append1J tok (b := 10) (es := ((w.effs).map (arrAV .i64))) rfl rfl rfl rfl rfl rfl rfl rfl rfl rfl rfl (Nat.zero_lt_succ _) (arr_len h.e6) (arr_pure _) rfl rfl z57q z52q) ?_;refine dQ tok 2 rfl ?_;refine DOps.w rfl rfl (o_store1 tok rfl rfl rfl rfl rfl rfl rfl rfl rfl (slA_cells _ _) (by decide) (slA_cell1 _ _) (by intro h; cases h)) ?_;refine DOps.nil (by kernel_rfl) ?_;exact ⟨(), Sub.mk' z46q z2q, trivial⟩
   refine aQ tok 3 rfl ?_;refine an ?_;refine asp 46 (fun hb4 => ?_) fun hb4 => ?_
   ·
    refine act ?_;refine AGo.draw mix ?_;refine dQ tok 9 rfl ?_;refine dq 56 (q_build_arr tok rfl rfl rfl rfl rfl rfl (by decide) rfl rfl) ?_;refine dx 57 (o_lit' tok rfl rfl rfl rfl rfl rfl (by decide) rfl rfl rfl rfl rfl rfl) ?_;refine dx 58 (o_append1J tok (b := 10) (es := ((w.effs).map (arrAV .i64))) rfl rfl rfl rfl rfl rfl rfl rfl rfl rfl rfl (Nat.zero_lt_succ _) (arr_len h.e6) (arr_pure _) rfl rfl z57q z52q) ?_;refine dQ tok 2 rfl ?_;refine DOps.w rfl rfl (o_store1 tok rfl rfl rfl rfl rfl rfl rfl rfl rfl (slA_cells _ _) (by decide) (slA_cell1 _ _) (by intro h; cases h)) ?_;refine DOps.nil (by kernel_rfl) ?_;exact ⟨(), Sub.mk' z46q z2q, trivial⟩
   refine acf ?_;refine agk ?_;exact ⟨(), Sub.mk' z46q z2q, trivial⟩
  refine acf ?_;refine agk ?_;exact ⟨(), Sub.mk' z46q z2q, trivial⟩
 intro _u _
 refine AGo.draw mix ?_;refine dQ tok 14 rfl ?_;refine dx 75 (oct (vapply_ok' first w.K h.f h.k4 (by omega) t.k (rget w.vals t.a) (rget w.vals t.b) hxa.2.2.2 hxb.2.2.2) [9, 4, 3] [(3, (.map (kvsA .i64 (vmap first ((vapply first w.K t.k (rget w.vals t.a) (rget w.vals t.b)).2))))), (4, (.row false 3 [[.int .i64 first, .map 3, slA 9 (((vapply first w.K t.k (rget w.vals t.a) (rget w.vals t.b)).2).map (arrAV .i64))]])), (9, (slO 4 (((vapply first w.K t.k (rget w.vals t.a) (rget w.vals t.b)).2).map (arrAV .i64))))] rfl Tryz.func140 (by kernel_rfl) rfl rfl rfl ⟨⟨_, rfl, z35q⟩, ⟨_, rfl, z35q⟩, ⟨_, rfl, z35q⟩, trivial⟩ rfl (hres_cons rfl (hres_cons rfl (hres_cons rfl (hres_nil _)))) ⟨⟨_, rfl, rfl, z35q⟩, ⟨_, rfl, rfl, z35q⟩, ⟨_, rfl, rfl, z35q⟩, trivial⟩ rfl) ?_;refine dq 76 (q_indexV tok rfl rfl rfl rfl rfl rfl rfl rfl hxd.1 hxd.2.2.1) ?_;refine DOps.w rfl rfl (o_storeV tok rfl rfl rfl rfl rfl rfl rfl z54q (valC_one _) rfl rfl rfl) ?_
 refine DOps.nil (by kernel_rfl) ?_;refine ⟨[], trivial, rfl, ?_⟩
 rw [bin_da]
 exact HSub.put (HSub.put (HSub.put (HSub.put (HSub.put (HSub.put (HSub.none _) rfl) rfl) rfl) (by show _ = some (AObj.row false 4 [[.ptr 4 1 0 0, vaA 5 (valC (rset w.vals t.d _)), slA 10 ((w.div first t).effs.map (arrAV .i64)), .int .i64 w.time]]); rw [valC_vaA]; rfl)) z45q) rfl
theorem vstepa_ok (first : Int) (R m : Nat) (w : VW) (h : VOk first R m w) (hm : m ≤ 80000) (t : Tac) (ht : TacV t R) : ACall Tryz.prog 133 [.ptr 6 1 0 0, .agg t.cells] (hput (hput (hput (hput (hput (hput hNew 3 (.map (kvsA .i64 (vmap first ((w).K))))) 4 (.row false 3 [[.int .i64 first, .map 3, slA 9 (((w).K).map (arrAV .i64))]])) 9 (slO 4 (((w).K).map (arrAV .i64)))) 6 (.row false 4 [[.ptr 4 1 0 0, vaA 5 (valC ((w).vals)), slA 10 (((w).effs).map (arrAV .i64)), .int .i64 ((w).time)]])) 5 (vaO (valC ((w).vals)))) 10 (slO 6 (((w).effs).map (arrAV .i64)))) (fun r h' => r = .tup [] ∧ HSub (hput (hput (hput (hput (hput (hput hNone 3 (.map (kvsA .i64 (vmap first (((w.step first t)).K))))) 4 (.row false 3 [[.int .i64 first, .map 3, slA 9 ((((w.step first t)).K).map (arrAV .i64))]])) 9 (slO 4 ((((w.step first t)).K).map (arrAV .i64)))) 6 (.row false 4 [[.ptr 4 1 0 0, vaA 5 (valC (((w.step first t)).vals)), slA 10 ((((w.step first t)).effs).map (arrAV .i64)), .int .i64 (((w.step first t)).time)]])) 5 (vaO (valC (((w.step first t)).vals)))) 10 (slO 6 ((((w.step first t)).effs).map (arrAV .i64)))) h') := by
 have hel := h.el
 have hkl := h.kl
 have htl := h.tl
 refine ACall.of_body (n := 148) tok Tryz.func133 rfl rfl ?_;refine asr ?_;refine ax 3 (obx 8 12) ?_;refine an ?_;refine asr ?_;refine aQ tok 5 rfl ?_;refine an ?_;refine asr ?_;refine aQ tok 2 rfl ?_;refine an ?_;refine AGo.block ?_;refine asr ?_;refine aQ tok 2 rfl ?_;refine an ?_;refine asp 11 (fun hb1 => ?_) fun hb1 => ?_
 ·
  refine act ?_
  have ho : t.op = 1 := by simpa using hb1
  have hxd := h.at (ht.d (by rw [ho]; rfl))
  
  refine AGo.draw mix ?_;refine dQ tok 9 rfl ?_;refine dq 22 (q_convTo tok rfl rfl rfl rfl rfl (r := t.n) (by obtain ⟨h1, h2⟩ := ht.n; exact wrap_i64 (by omega) (by omega))) ?_;refine dq 23 (q_build_arr tok rfl rfl rfl rfl rfl rfl (by decide) rfl rfl) ?_;refine dx 24 (oct (number_ok first w.K h.f h.k4 (by omega) (1) (t.n) (0) (0)) [9, 4, 3] [(3, (.map (kvsA .i64 (vmap first ((vnum first w.K [1, t.n, 0, 0]).2))))), (4, (.row false 3 [[.int .i64 first, .map 3, slA 9 (((vnum first w.K [1, t.n, 0, 0]).2).map (arrAV .i64))]])), (9, (slO 4 (((vnum first w.K [1, t.n, 0, 0]).2).map (arrAV .i64))))] rfl Tryz.func135 (by kernel_rfl) rfl rfl rfl ⟨⟨_, rfl, z35q⟩, ⟨_, rfl, z35q⟩, ⟨_, rfl, z35q⟩, trivial⟩ rfl (hres_cons rfl (hres_cons rfl (hres_cons rfl (hres_nil _)))) ⟨⟨_, rfl, rfl, z35q⟩, ⟨_, rfl, rfl, z35q⟩, ⟨_, rfl, rfl, z35q⟩, trivial⟩ rfl) ?_;refine dq 25 (q_indexV tok rfl rfl rfl rfl rfl rfl rfl rfl hxd.1 hxd.2.2.1) ?_
  refine DOps.w rfl rfl (o_storeV tok rfl rfl rfl rfl rfl rfl rfl z54q (valC_one _) rfl rfl rfl) ?_;refine DOps.nil (by kernel_rfl) ?_;refine ⟨[], trivial, rfl, ?_⟩
  rw [vstep1 ho]
  exact HSub.put (HSub.put (HSub.put (HSub.put (HSub.put (HSub.put (HSub.none _) rfl) rfl) rfl) z25q) z45q) rfl
 refine acf ?_;refine asr ?_;refine aQ tok 2 rfl ?_;refine an ?_;refine asp 26 (fun hb2 => ?_) fun hb2 => ?_
 ·
  refine act ?_
  have ho : t.op = 2 := by simpa using hb2
  have hxd := h.at (ht.d (by rw [ho]; rfl))
  have hxa := h.at (ht.a (.inl (by rw [ho]; rfl)))
   
  refine AGo.draw mix ?_;refine dQ tok 6 rfl ?_;refine dq 34 (q_indexV tok rfl rfl rfl rfl rfl rfl rfl rfl hxa.1 hxa.2.2.1) ?_;refine dq 35 (q_load tok rfl rfl rfl (ptsV rfl (valC_get ⟨hxa.1, hxa.2.1⟩)) rfl) ?_;refine dq 36 (q_indexV tok rfl rfl rfl rfl rfl rfl rfl rfl hxd.1 hxd.2.2.1) ?_;refine DOps.w rfl rfl (o_storeV tok rfl rfl rfl rfl rfl rfl rfl z54q (valC_one _) rfl rfl rfl) ?_;refine DOps.nil (by kernel_rfl) ?_;refine ⟨[], trivial, rfl, ?_⟩
  rw [vstep2 ho]
  exact HSub.put (HSub.put (HSub.put (HSub.put (HSub.put (HSub.put (HSub.none _) rfl) rfl) rfl) z25q) z45q) rfl
 refine acf ?_;refine asr ?_;refine aQ tok 2 rfl ?_;refine an ?_;refine asp 37 (fun hb3 => ?_) fun hb3 => ?_
 ·
  refine act ?_
  have ho : t.op = 3 := by simpa using hb3
    
  refine agr ?_;refine aQ tok 2 rfl ?_;refine ax 41 (oct (binarya_ok first R m w h (by omega) t (ht.d (by rw [ho]; rfl)) (ht.a (.inr (by rw [ho]; rfl))) (ht.b (by rw [ho]; rfl))) [10, 5, 6, 9, 4, 3] [(3, (.map (kvsA .i64 (vmap first (((w.bin first t)).K))))), (4, (.row false 3 [[.int .i64 first, .map 3, slA 9 ((((w.bin first t)).K).map (arrAV .i64))]])), (9, (slO 4 ((((w.bin first t)).K).map (arrAV .i64)))), (6, (.row false 4 [[.ptr 4 1 0 0, vaA 5 (valC (((w.bin first t)).vals)), slA 10 ((((w.bin first t)).effs).map (arrAV .i64)), .int .i64 (((w.bin first t)).time)]])), (5, (vaO (valC (((w.bin first t)).vals)))), (10, (slO 6 ((((w.bin first t)).effs).map (arrAV .i64))))] rfl Tryz.func136 (by kernel_rfl) rfl rfl rfl ⟨⟨_, rfl, z35q⟩, ⟨_, rfl, z35q⟩, ⟨_, rfl, z35q⟩, ⟨_, rfl, z35q⟩, ⟨_, rfl, z35q⟩, ⟨_, rfl, z35q⟩, trivial⟩ rfl (hres_cons rfl (hres_cons rfl (hres_cons rfl (hres_cons rfl (hres_cons rfl (hres_cons rfl (hres_nil _))))))) ⟨⟨_, rfl, rfl, z35q⟩, ⟨_, rfl, rfl, z35q⟩, ⟨_, rfl, rfl, z35q⟩, ⟨_, rfl, rfl, z35q⟩, ⟨_, rfl, rfl, z35q⟩, ⟨_, rfl, rfl, z35q⟩, trivial⟩ rfl) ?_
  refine an ?_;refine ⟨[], trivial, rfl, ?_⟩
  rw [vstep3 ho]
  exact HSub.put (HSub.put (HSub.put (HSub.put (HSub.put (HSub.put (HSub.none _) rfl) rfl) rfl) rfl) rfl) rfl
 refine acf ?_;refine asr ?_;refine aQ tok 2 rfl ?_;refine an ?_;refine asp 42 (fun hb4 => ?_) fun hb4 => ?_
 ·
  refine act ?_
  have ho : t.op = 4 := by simpa using hb4
  have hxd := h.at (ht.d (by rw [ho]; rfl))
     
  refine AGo.draw mix ?_;refine dQ tok 13 rfl ?_;refine dq 57 (q_build_arr tok rfl rfl rfl rfl rfl rfl (by decide) rfl rfl) ?_;refine dx 58 (oct (number_ok first w.K h.f h.k4 (by omega) (3) (t.base) (w.time) (0)) [9, 4, 3] [(3, (.map (kvsA .i64 (vmap first ((vnum first w.K [3, t.base, w.time, 0]).2))))), (4, (.row false 3 [[.int .i64 first, .map 3, slA 9 (((vnum first w.K [3, t.base, w.time, 0]).2).map (arrAV .i64))]])), (9, (slO 4 (((vnum first w.K [3, t.base, w.time, 0]).2).map (arrAV .i64))))] rfl Tryz.func135 (by kernel_rfl) rfl rfl rfl ⟨⟨_, rfl, z35q⟩, ⟨_, rfl, z35q⟩, ⟨_, rfl, z35q⟩, trivial⟩ rfl (hres_cons rfl (hres_cons rfl (hres_cons rfl (hres_nil _)))) ⟨⟨_, rfl, rfl, z35q⟩, ⟨_, rfl, rfl, z35q⟩, ⟨_, rfl, rfl, z35q⟩, trivial⟩ rfl) ?_;refine dq 59 (q_indexV tok rfl rfl rfl rfl rfl rfl rfl rfl hxd.1 hxd.2.2.1) ?_;refine DOps.w rfl rfl (o_storeV tok rfl rfl rfl rfl rfl rfl rfl z54q (valC_one _) rfl rfl rfl) ?_
  refine DOps.nil (by kernel_rfl) ?_;refine ⟨[], trivial, rfl, ?_⟩
  rw [vstep4 ho]
  exact HSub.put (HSub.put (HSub.put (HSub.put (HSub.put (HSub.put (HSub.none _) rfl) rfl) rfl) z25q) z45q) rfl
 refine acf ?_;refine asr ?_;refine aQ tok 2 rfl ?_;refine an ?_;refine asp 60 (fun hb5 => ?_) fun hb5 => ?_
 ·
  refine act ?_
  have ho : t.op = 5 := by simpa using hb5
  have hxa := h.at (ht.a (.inl (by rw [ho]; rfl)))
      
  refine asq ?_;refine AGo.draw mix ?_;refine dQ tok 5 rfl ?_;refine dq 67 (q_indexV tok rfl rfl rfl rfl rfl rfl rfl rfl hxa.1 hxa.2.2.1) ?_;refine dq 68 (q_load tok rfl rfl rfl (ptsV rfl (valC_get ⟨hxa.1, hxa.2.1⟩)) rfl) ?_;refine dx 69 (oct (happensa_ok first R m w h (by omega) t (rget w.vals t.a) 0) [10, 5, 6, 9, 4, 3] [(3, (.map (kvsA .i64 (vmap first (((w.hap t (rget w.vals t.a) 0)).K))))), (4, (.row false 3 [[.int .i64 first, .map 3, slA 9 ((((w.hap t (rget w.vals t.a) 0)).K).map (arrAV .i64))]])), (9, (slO 4 ((((w.hap t (rget w.vals t.a) 0)).K).map (arrAV .i64)))), (6, (.row false 4 [[.ptr 4 1 0 0, vaA 5 (valC (((w.hap t (rget w.vals t.a) 0)).vals)), slA 10 ((((w.hap t (rget w.vals t.a) 0)).effs).map (arrAV .i64)), .int .i64 (((w.hap t (rget w.vals t.a) 0)).time)]])), (5, (vaO (valC (((w.hap t (rget w.vals t.a) 0)).vals)))), (10, (slO 6 ((((w.hap t (rget w.vals t.a) 0)).effs).map (arrAV .i64))))] rfl Tryz.func137 (by kernel_rfl) rfl rfl rfl ⟨⟨_, rfl, z35q⟩, ⟨_, rfl, z35q⟩, ⟨_, rfl, z35q⟩, ⟨_, rfl, z35q⟩, ⟨_, rfl, z35q⟩, ⟨_, rfl, z35q⟩, trivial⟩ rfl (hres_cons rfl (hres_cons rfl (hres_cons rfl (hres_cons rfl (hres_cons rfl (hres_cons rfl (hres_nil _))))))) ⟨⟨_, rfl, rfl, z35q⟩, ⟨_, rfl, rfl, z35q⟩, ⟨_, rfl, rfl, z35q⟩, ⟨_, rfl, rfl, z35q⟩, ⟨_, rfl, rfl, z35q⟩, ⟨_, rfl, rfl, z35q⟩, trivial⟩ rfl) ?_
  refine DOps.nil (by kernel_rfl) ?_;refine agr ?_;refine aQ tok 4 rfl ?_;refine aq 74 (q_bin (r := .int .i64 (w.time + 1)) rfl rfl rfl z60q) ?_;refine aQ tok 2 rfl ?_;refine AOps.w rfl rfl (o_store tok rfl rfl rfl rfl rfl rfl rfl rfl rfl (by decide) rfl z51q) ?_;refine an ?_;refine ⟨[], trivial, rfl, ?_⟩
  rw [vstep5 ho]
  exact HSub.put (HSub.put (HSub.put (HSub.put (HSub.put (HSub.put (HSub.none _) rfl) rfl) rfl) rfl) rfl) rfl
 refine acf ?_;refine asr ?_;refine aQ tok 2 rfl ?_;refine an ?_;refine asp 77 (fun hb6 => ?_) fun hb6 => ?_
 ·
  refine act ?_
  have ho : t.op = 6 := by simpa using hb6
  have hxd := h.at (ht.d (by rw [ho]; rfl))
  have hxa := h.at (ht.a (.inl (by rw [ho]; rfl)))
       
  refine asq ?_;refine AGo.draw mix ?_;refine dQ tok 5 rfl ?_;refine dq 84 (q_indexV tok rfl rfl rfl rfl rfl rfl rfl rfl hxa.1 hxa.2.2.1) ?_;refine dq 85 (q_load tok rfl rfl rfl (ptsV rfl (valC_get ⟨hxa.1, hxa.2.1⟩)) rfl) ?_;refine dx 86 (oct (happensa_ok first R m w h (by omega) t (rget w.vals t.a) 0) [10, 5, 6, 9, 4, 3] [(3, (.map (kvsA .i64 (vmap first (((w.hap t (rget w.vals t.a) 0)).K))))), (4, (.row false 3 [[.int .i64 first, .map 3, slA 9 ((((w.hap t (rget w.vals t.a) 0)).K).map (arrAV .i64))]])), (9, (slO 4 ((((w.hap t (rget w.vals t.a) 0)).K).map (arrAV .i64)))), (6, (.row false 4 [[.ptr 4 1 0 0, vaA 5 (valC (((w.hap t (rget w.vals t.a) 0)).vals)), slA 10 ((((w.hap t (rget w.vals t.a) 0)).effs).map (arrAV .i64)), .int .i64 (((w.hap t (rget w.vals t.a) 0)).time)]])), (5, (vaO (valC (((w.hap t (rget w.vals t.a) 0)).vals)))), (10, (slO 6 ((((w.hap t (rget w.vals t.a) 0)).effs).map (arrAV .i64))))] rfl Tryz.func137 (by kernel_rfl) rfl rfl rfl ⟨⟨_, rfl, z35q⟩, ⟨_, rfl, z35q⟩, ⟨_, rfl, z35q⟩, ⟨_, rfl, z35q⟩, ⟨_, rfl, z35q⟩, ⟨_, rfl, z35q⟩, trivial⟩ rfl (hres_cons rfl (hres_cons rfl (hres_cons rfl (hres_cons rfl (hres_cons rfl (hres_cons rfl (hres_nil _))))))) ⟨⟨_, rfl, rfl, z35q⟩, ⟨_, rfl, rfl, z35q⟩, ⟨_, rfl, rfl, z35q⟩, ⟨_, rfl, rfl, z35q⟩, ⟨_, rfl, rfl, z35q⟩, ⟨_, rfl, rfl, z35q⟩, trivial⟩ rfl) ?_
  refine DOps.nil (by kernel_rfl) ?_;refine AGo.draw mix ?_;refine dQ tok 4 rfl ?_;refine dx 91 (oct (unknowna_ok first R (m + 1) (w.hap t (rget w.vals t.a) 0) (h.eff rfl) (by omega)) [10, 5, 6, 9, 4, 3] [(3, (.map (kvsA .i64 (vmap first ((vunk first (w.hap t (rget w.vals t.a) 0)).2))))), (4, (.row false 3 [[.int .i64 first, .map 3, slA 9 (((vunk first (w.hap t (rget w.vals t.a) 0)).2).map (arrAV .i64))]])), (9, (slO 4 (((vunk first (w.hap t (rget w.vals t.a) 0)).2).map (arrAV .i64)))), (6, (.row false 4 [[.ptr 4 1 0 0, vaA 5 (valC (((w.hap t (rget w.vals t.a) 0)).vals)), slA 10 ((((w.hap t (rget w.vals t.a) 0)).effs).map (arrAV .i64)), .int .i64 (((w.hap t (rget w.vals t.a) 0)).time)]])), (5, (vaO (valC (((w.hap t (rget w.vals t.a) 0)).vals)))), (10, (slO 6 ((((w.hap t (rget w.vals t.a) 0)).effs).map (arrAV .i64))))] rfl Tryz.func138 (by kernel_rfl) rfl rfl rfl ⟨⟨_, rfl, z35q⟩, ⟨_, rfl, z35q⟩, ⟨_, rfl, z35q⟩, ⟨_, rfl, z35q⟩, ⟨_, rfl, z35q⟩, ⟨_, rfl, z35q⟩, trivial⟩ rfl (hres_cons rfl (hres_cons rfl (hres_cons rfl (hres_cons rfl (hres_cons rfl (hres_cons rfl (hres_nil _))))))) ⟨⟨_, rfl, rfl, z35q⟩, ⟨_, rfl, rfl, z35q⟩, ⟨_, rfl, rfl, z35q⟩, ⟨_, rfl, rfl, z35q⟩, ⟨_, rfl, rfl, z35q⟩, ⟨_, rfl, rfl, z35q⟩, trivial⟩ rfl) ?_
  refine dq 92 (q_indexV tok rfl rfl rfl rfl rfl rfl rfl rfl hxd.1 hxd.2.2.1) ?_;refine DOps.w rfl rfl (o_storeV tok rfl rfl rfl rfl rfl rfl rfl z54q (valC_one _) rfl rfl rfl) ?_;refine DOps.nil (by kernel_rfl) ?_;refine ⟨[], trivial, rfl, ?_⟩
  rw [vstep6 ho]
  exact HSub.put (HSub.put (HSub.put (HSub.put (HSub.put (HSub.put (HSub.none _) rfl) rfl) rfl) (by show _ = some (AObj.row false 4 [[.ptr 4 1 0 0, vaA 5 (valC (rset w.vals t.d _)), slA 10 ((w.hap t (rget w.vals t.a) 0).effs.map (arrAV .i64)), .int .i64 w.time]]); rw [valC_vaA]; rfl)) z45q) rfl
 refine acf ?_;refine asr ?_;refine aQ tok 2 rfl ?_;refine an ?_;refine asp 93 (fun hb7 => ?_) fun hb7 => ?_
 ·
  refine act ?_
  have ho : t.op = 7 := by simpa using hb7
  have hxa := h.at (ht.a (.inr (by rw [ho]; rfl)))
  have hxb := h.at (ht.b (by rw [ho]; rfl))
        
  refine asq ?_;refine AGo.draw mix ?_;refine dQ tok 5 rfl ?_;refine dq 100 (q_indexV tok rfl rfl rfl rfl rfl rfl rfl rfl hxa.1 hxa.2.2.1) ?_;refine dq 101 (q_load tok rfl rfl rfl (ptsV rfl (valC_get ⟨hxa.1, hxa.2.1⟩)) rfl) ?_;refine dQ tok 3 rfl ?_;refine dq 105 (q_indexV tok rfl rfl rfl rfl rfl rfl rfl rfl hxb.1 hxb.2.2.1) ?_;refine dq 106 (q_load tok rfl rfl rfl (ptsV rfl (valC_get ⟨hxb.1, hxb.2.1⟩)) rfl) ?_;refine dx 107 (oct (happensa_ok first R m w h (by omega) t (rget w.vals t.a) (rget w.vals t.b)) [10, 5, 6, 9, 4, 3] [(3, (.map (kvsA .i64 (vmap first (((w.hap t (rget w.vals t.a) (rget w.vals t.b))).K))))), (4, (.row false 3 [[.int .i64 first, .map 3, slA 9 ((((w.hap t (rget w.vals t.a) (rget w.vals t.b))).K).map (arrAV .i64))]])), (9, (slO 4 ((((w.hap t (rget w.vals t.a) (rget w.vals t.b))).K).map (arrAV .i64)))), (6, (.row false 4 [[.ptr 4 1 0 0, vaA 5 (valC (((w.hap t (rget w.vals t.a) (rget w.vals t.b))).vals)), slA 10 ((((w.hap t (rget w.vals t.a) (rget w.vals t.b))).effs).map (arrAV .i64)), .int .i64 (((w.hap t (rget w.vals t.a) (rget w.vals t.b))).time)]])), (5, (vaO (valC (((w.hap t (rget w.vals t.a) (rget w.vals t.b))).vals)))), (10, (slO 6 ((((w.hap t (rget w.vals t.a) (rget w.vals t.b))).effs).map (arrAV .i64))))] rfl Tryz.func137 (by kernel_rfl) rfl rfl rfl ⟨⟨_, rfl, z35q⟩, ⟨_, rfl, z35q⟩, ⟨_, rfl, z35q⟩, ⟨_, rfl, z35q⟩, ⟨_, rfl, z35q⟩, ⟨_, rfl, z35q⟩, trivial⟩ rfl (hres_cons rfl (hres_cons rfl (hres_cons rfl (hres_cons rfl (hres_cons rfl (hres_cons rfl (hres_nil _))))))) ⟨⟨_, rfl, rfl, z35q⟩, ⟨_, rfl, rfl, z35q⟩, ⟨_, rfl, rfl, z35q⟩, ⟨_, rfl, rfl, z35q⟩, ⟨_, rfl, rfl, z35q⟩, ⟨_, rfl, rfl, z35q⟩, trivial⟩ rfl) ?_
  refine DOps.nil (by kernel_rfl) ?_;refine agr ?_;refine aQ tok 4 rfl ?_;refine aq 112 (q_bin (r := .int .i64 (w.time + 1)) rfl rfl rfl z60q) ?_;refine aQ tok 2 rfl ?_;refine AOps.w rfl rfl (o_store tok rfl rfl rfl rfl rfl rfl rfl rfl rfl (by decide) rfl z51q) ?_;refine an ?_;refine ⟨[], trivial, rfl, ?_⟩
  rw [vstep7 ho]
  exact HSub.put (HSub.put (HSub.put (HSub.put (HSub.put (HSub.put (HSub.none _) rfl) rfl) rfl) rfl) rfl) rfl
 refine acf ?_;refine asr ?_;refine aQ tok 2 rfl ?_;refine an ?_;refine asp 115 (fun hb8 => ?_) fun hb8 => ?_
 ·
  refine act ?_
  have ho : t.op = 8 := by simpa using hb8
  have hxd := h.at (ht.d (by rw [ho]; rfl))
         
  refine asr ?_;refine aQ tok 2 rfl ?_;refine ax 119 (oct (happensa_ok first R m w h (by omega) t 0 0) [10, 5, 6, 9, 4, 3] [(3, (.map (kvsA .i64 (vmap first (((w.hap t 0 0)).K))))), (4, (.row false 3 [[.int .i64 first, .map 3, slA 9 ((((w.hap t 0 0)).K).map (arrAV .i64))]])), (9, (slO 4 ((((w.hap t 0 0)).K).map (arrAV .i64)))), (6, (.row false 4 [[.ptr 4 1 0 0, vaA 5 (valC (((w.hap t 0 0)).vals)), slA 10 ((((w.hap t 0 0)).effs).map (arrAV .i64)), .int .i64 (((w.hap t 0 0)).time)]])), (5, (vaO (valC (((w.hap t 0 0)).vals)))), (10, (slO 6 ((((w.hap t 0 0)).effs).map (arrAV .i64))))] rfl Tryz.func137 (by kernel_rfl) rfl rfl rfl ⟨⟨_, rfl, z35q⟩, ⟨_, rfl, z35q⟩, ⟨_, rfl, z35q⟩, ⟨_, rfl, z35q⟩, ⟨_, rfl, z35q⟩, ⟨_, rfl, z35q⟩, trivial⟩ rfl (hres_cons rfl (hres_cons rfl (hres_cons rfl (hres_cons rfl (hres_cons rfl (hres_cons rfl (hres_nil _))))))) ⟨⟨_, rfl, rfl, z35q⟩, ⟨_, rfl, rfl, z35q⟩, ⟨_, rfl, rfl, z35q⟩, ⟨_, rfl, rfl, z35q⟩, ⟨_, rfl, rfl, z35q⟩, ⟨_, rfl, rfl, z35q⟩, trivial⟩ rfl) ?_
  refine an ?_;refine AGo.draw mix ?_;refine dQ tok 4 rfl ?_;refine dx 124 (oct (unknowna_ok first R (m + 1) (w.hap t 0 0) (h.eff rfl) (by omega)) [10, 5, 6, 9, 4, 3] [(3, (.map (kvsA .i64 (vmap first ((vunk first (w.hap t 0 0)).2))))), (4, (.row false 3 [[.int .i64 first, .map 3, slA 9 (((vunk first (w.hap t 0 0)).2).map (arrAV .i64))]])), (9, (slO 4 (((vunk first (w.hap t 0 0)).2).map (arrAV .i64)))), (6, (.row false 4 [[.ptr 4 1 0 0, vaA 5 (valC (((w.hap t 0 0)).vals)), slA 10 ((((w.hap t 0 0)).effs).map (arrAV .i64)), .int .i64 (((w.hap t 0 0)).time)]])), (5, (vaO (valC (((w.hap t 0 0)).vals)))), (10, (slO 6 ((((w.hap t 0 0)).effs).map (arrAV .i64))))] rfl Tryz.func138 (by kernel_rfl) rfl rfl rfl ⟨⟨_, rfl, z35q⟩, ⟨_, rfl, z35q⟩, ⟨_, rfl, z35q⟩, ⟨_, rfl, z35q⟩, ⟨_, rfl, z35q⟩, ⟨_, rfl, z35q⟩, trivial⟩ rfl (hres_cons rfl (hres_cons rfl (hres_cons rfl (hres_cons rfl (hres_cons rfl (hres_cons rfl (hres_nil _))))))) ⟨⟨_, rfl, rfl, z35q⟩, ⟨_, rfl, rfl, z35q⟩, ⟨_, rfl, rfl, z35q⟩, ⟨_, rfl, rfl, z35q⟩, ⟨_, rfl, rfl, z35q⟩, ⟨_, rfl, rfl, z35q⟩, trivial⟩ rfl) ?_
  refine dq 125 (q_indexV tok rfl rfl rfl rfl rfl rfl rfl rfl hxd.1 hxd.2.2.1) ?_;refine DOps.w rfl rfl (o_storeV tok rfl rfl rfl rfl rfl rfl rfl z54q (valC_one _) rfl rfl rfl) ?_;refine DOps.nil (by kernel_rfl) ?_;refine ⟨[], trivial, rfl, ?_⟩
  rw [vstep8 ho]
  exact HSub.put (HSub.put (HSub.put (HSub.put (HSub.put (HSub.put (HSub.none _) rfl) rfl) rfl) (by show _ = some (AObj.row false 4 [[.ptr 4 1 0 0, vaA 5 (valC (rset w.vals t.d _)), slA 10 ((w.hap t 0 0).effs.map (arrAV .i64)), .int .i64 w.time]]); rw [valC_vaA]; rfl)) z45q) rfl
 refine acf ?_;refine asr ?_;refine aQ tok 2 rfl ?_;refine an ?_;refine asp 126 (fun hb9 => ?_) fun hb9 => ?_
 ·
  refine act ?_
  have ho : t.op = 9 := by simpa using hb9
  have hxa := h.at (ht.a (.inl (by rw [ho]; rfl)))
          
  refine AGo.draw mix ?_;refine dQ tok 5 rfl ?_;refine dq 133 (q_indexV tok rfl rfl rfl rfl rfl rfl rfl rfl hxa.1 hxa.2.2.1) ?_;refine dq 134 (q_load tok rfl rfl rfl (ptsV rfl (valC_get ⟨hxa.1, hxa.2.1⟩)) rfl) ?_;refine dx 135 (oct (happensa_ok first R m w h (by omega) t (rget w.vals t.a) 0) [10, 5, 6, 9, 4, 3] [(3, (.map (kvsA .i64 (vmap first (((w.hap t (rget w.vals t.a) 0)).K))))), (4, (.row false 3 [[.int .i64 first, .map 3, slA 9 ((((w.hap t (rget w.vals t.a) 0)).K).map (arrAV .i64))]])), (9, (slO 4 ((((w.hap t (rget w.vals t.a) 0)).K).map (arrAV .i64)))), (6, (.row false 4 [[.ptr 4 1 0 0, vaA 5 (valC (((w.hap t (rget w.vals t.a) 0)).vals)), slA 10 ((((w.hap t (rget w.vals t.a) 0)).effs).map (arrAV .i64)), .int .i64 (((w.hap t (rget w.vals t.a) 0)).time)]])), (5, (vaO (valC (((w.hap t (rget w.vals t.a) 0)).vals)))), (10, (slO 6 ((((w.hap t (rget w.vals t.a) 0)).effs).map (arrAV .i64))))] rfl Tryz.func137 (by kernel_rfl) rfl rfl rfl ⟨⟨_, rfl, z35q⟩, ⟨_, rfl, z35q⟩, ⟨_, rfl, z35q⟩, ⟨_, rfl, z35q⟩, ⟨_, rfl, z35q⟩, ⟨_, rfl, z35q⟩, trivial⟩ rfl (hres_cons rfl (hres_cons rfl (hres_cons rfl (hres_cons rfl (hres_cons rfl (hres_cons rfl (hres_nil _))))))) ⟨⟨_, rfl, rfl, z35q⟩, ⟨_, rfl, rfl, z35q⟩, ⟨_, rfl, rfl, z35q⟩, ⟨_, rfl, rfl, z35q⟩, ⟨_, rfl, rfl, z35q⟩, ⟨_, rfl, rfl, z35q⟩, trivial⟩ rfl) ?_
  refine DOps.nil (by kernel_rfl) ?_;refine ⟨[], trivial, rfl, ?_⟩
  rw [vstep9 ho]
  exact HSub.put (HSub.put (HSub.put (HSub.put (HSub.put (HSub.put (HSub.none _) rfl) rfl) rfl) rfl) rfl) rfl
 refine acf ?_;refine asr ?_;refine aQ tok 2 rfl ?_;refine an ?_;refine asp 136 (fun hb10 => ?_) fun hb10 => ?_
 ·
  refine act ?_
  have ho : t.op = 10 := by simpa using hb10
           
  refine asr ?_;refine aQ tok 2 rfl ?_;refine ax 140 (oct (happensa_ok first R m w h (by omega) t 0 0) [10, 5, 6, 9, 4, 3] [(3, (.map (kvsA .i64 (vmap first (((w.hap t 0 0)).K))))), (4, (.row false 3 [[.int .i64 first, .map 3, slA 9 ((((w.hap t 0 0)).K).map (arrAV .i64))]])), (9, (slO 4 ((((w.hap t 0 0)).K).map (arrAV .i64)))), (6, (.row false 4 [[.ptr 4 1 0 0, vaA 5 (valC (((w.hap t 0 0)).vals)), slA 10 ((((w.hap t 0 0)).effs).map (arrAV .i64)), .int .i64 (((w.hap t 0 0)).time)]])), (5, (vaO (valC (((w.hap t 0 0)).vals)))), (10, (slO 6 ((((w.hap t 0 0)).effs).map (arrAV .i64))))] rfl Tryz.func137 (by kernel_rfl) rfl rfl rfl ⟨⟨_, rfl, z35q⟩, ⟨_, rfl, z35q⟩, ⟨_, rfl, z35q⟩, ⟨_, rfl, z35q⟩, ⟨_, rfl, z35q⟩, ⟨_, rfl, z35q⟩, trivial⟩ rfl (hres_cons rfl (hres_cons rfl (hres_cons rfl (hres_cons rfl (hres_cons rfl (hres_cons rfl (hres_nil _))))))) ⟨⟨_, rfl, rfl, z35q⟩, ⟨_, rfl, rfl, z35q⟩, ⟨_, rfl, rfl, z35q⟩, ⟨_, rfl, rfl, z35q⟩, ⟨_, rfl, rfl, z35q⟩, ⟨_, rfl, rfl, z35q⟩, trivial⟩ rfl) ?_
  refine an ?_;refine agr ?_;refine aQ tok 4 rfl ?_;refine aq 145 (q_bin (r := .int .i64 (w.time + 1)) rfl rfl rfl z60q) ?_;refine aQ tok 2 rfl ?_;refine AOps.w rfl rfl (o_store tok rfl rfl rfl rfl rfl rfl rfl rfl rfl (by decide) rfl z51q) ?_;refine an ?_;refine ⟨[], trivial, rfl, ?_⟩
  rw [vstep10 ho]
  exact HSub.put (HSub.put (HSub.put (HSub.put (HSub.put (HSub.put (HSub.none _) rfl) rfl) rfl) rfl) rfl) rfl
 refine acf ?_;refine agk ?_;refine ⟨[], trivial, rfl, ?_⟩
 rw [vstep0 hb1 hb2 hb3 hb4 hb5 hb6 hb7 hb8 hb9 hb10]
 exact HSub.put (HSub.put (HSub.put (HSub.put (HSub.put (HSub.put (HSub.none _) rfl) rfl) rfl) rfl) rfl) rfl
theorem vsame_ok (old new : Block) (R : Nat) (c : Cert) (i : Int) (next : List Int) (hR : R ≤ 40000) (hc : ∀ r ∈ c.same, r.length = R) (hi : 0 ≤ i ∧ i < c.same.length) (hnx : ∀ k ∈ next, 0 ≤ k ∧ k < c.same.length) (hv : old.fin = 2 → (0 ≤ old.v ∧ old.v < R) ∧ (0 ≤ new.v ∧ new.v < R)) (ho : ∀ t ∈ old.ins, TacV t R) (hn : ∀ t ∈ new.ins, TacV t R) (hlo : old.ins.length ≤ 10000) (hln : new.ins.length ≤ 10000) (hnl : next.length ≤ 100000) : APure Tryz.prog 131 [.agg old.cells, .agg new.cells, .int .i64 (R : Int), .agg c.cells, .int .i64 i, intsAV next] (fun r => r = .bool (vsame R old new c i next)) := by
 obtain ⟨row, hrow⟩ := get_of_lt (l := c.same) (k := i.toNat) (by omega)
 have hat : c.at' i = row := by unfold Cert.at'; rw [hrow]; rfl
 have hrl := hc row (List.mem_of_getElem? hrow)
 have hoa0 := vfold_ok (vok_a hR) ho
 have hoa : VOk ((2 * R : Nat) : Int) R (0 + 2 * old.ins.length) (vrunA R old) := hoa0
 have hob : VOk ((2 * R : Nat) : Int) R (0 + 2 * old.ins.length + 2 * new.ins.length) (vrunB R old new (c.at' i)) := vfold_ok (vok_b hoa _) hn
 refine APure.of_body (n := 146) tok Tryz.func131 rfl rfl ?_;refine asr ?_;refine ax 6 (obx 5 0) ?_;refine ax 7 (obx 5 1) ?_;refine ax 9 (obx 1 2) ?_;refine aa 12 ?_;refine an ?_;refine asr ?_;refine am 25 ?_;refine aq 26 (q_bin (r := .int .i64 ((2 * R : Nat) : Int)) rfl rfl rfl (mulZ (by omega) (by omega) (by omega))) ?_;refine ax 27 (o_makeMapA .i64 3 rfl rfl) ?_;refine aq 28 (q_buildM tok (z0 := .int .i64 0) (z1 := .map none) (x := .int .i64 ((2 * R : Nat) : Int)) (y := .map 3) rfl rfl rfl rfl rfl rfl rfl rfl rfl (by kernel_rfl) rfl rfl) ?_;refine ax 29 (obx 3 4) ?_;refine aa 13 ?_;refine an ?_;refine asr ?_;refine aQ tok 2 rfl ?_;refine ax 32 (o_makeSliceV tok (n := R) 5 rfl rfl rfl rfl rfl rfl rfl rfl rfl rfl rfl rfl (by show 8 * R ≤ _; omega) (by simp only [maxLen]; omega)) ?_;refine aq 33 (q_build tok (ps := [(0, .ptr 4 1 0 0), (1, vaA 5 (List.replicate R [.int .i64 0]))]) (r := [.ptr 4 1 0 0, vaA 5 (List.replicate R [.int .i64 0]), .nil, .int .i64 0]) rfl rfl rfl rfl rfl (by decide) (by simp only [partsFit, vaA_cells]; rfl) rfl (by simp only [partCells, vaA_cells]; rfl)) ?_
 refine ax 14 (oal tok 6) ?_;refine AOps.w rfl rfl (o_store tok rfl rfl rfl rfl rfl rfl rfl rfl rfl (by decide) (by simp only [AV.cells, List.all_cons, List.all_nil, vaA_cell1]; rfl) (by intro h; cases h)) ?_;refine an ?_;refine asq ?_;refine AGo.ghost (.weakRowF 4 (es' := [[.int .i64 ((2 * R : Nat) : Int), .map 3, .lst true []]]) rfl rfl weakTab) ?_;refine AGo.ghost (.weakRowF 6 (es' := [[.ptr 4 1 0 0, vaA 5 (List.replicate R [.int .i64 0]), .lst true [], .int .i64 0]]) rfl rfl weakWlk) ?_;refine agr ?_;refine aQ tok 2 rfl ?_;refine ax 36 (o_makeSliceV tok (n := R) 7 rfl rfl rfl rfl rfl rfl rfl rfl rfl rfl rfl rfl (by show 8 * R ≤ _; omega) (by simp only [maxLen]; omega)) ?_;refine aq 37 (q_build tok (ps := [(0, .ptr 4 1 0 0), (1, vaA 7 (List.replicate R [.int .i64 0]))]) (r := [.ptr 4 1 0 0, vaA 7 (List.replicate R [.int .i64 0]), .nil, .int .i64 0]) rfl rfl rfl rfl rfl (by decide) (by simp only [partsFit, vaA_cells]; rfl) rfl (by simp only [partCells, vaA_cells]; rfl)) ?_
 refine ax 15 (oal tok 8) ?_;refine AOps.w rfl rfl (o_store tok rfl rfl rfl rfl rfl rfl rfl rfl rfl (by decide) (by simp only [AV.cells, List.all_cons, List.all_nil, vaA_cell1]; rfl) (by intro h; cases h)) ?_;refine an ?_;refine asq ?_;refine asq ?_;refine AGo.ghost (.weakRowF 8 (es' := [[.ptr 4 1 0 0, vaA 7 (List.replicate R [.int .i64 0]), .lst true [], .int .i64 0]]) rfl rfl weakWlk) ?_;refine agr ?_;refine aQ tok 2 rfl ?_;refine an ?_;refine AGo.block ?_;refine AGo.loopD (γ := Nat) 12 (fun k => ⟨146, (eput (eput (eput (eput (eput (eput (eput (eput (eput (eput eNew 2 (.int .i64 (R : Int))) 4 (.int .i64 i)) 5 (intsAV next)) 6 (.ptr 0 1 0 0)) 7 (.ptr 1 1 0 0)) 9 (.ptr 2 1 0 0)) 14 (.ptr 6 1 0 0)) 15 (.ptr 8 1 0 0)) 38 (.int .i64 (R : Int))) 39 (.int .i64 (k : Int))), (hput (hput (hput (hput (hput (hput (hput (hput (hput (hput (hput (hput (hFrom 12) 0 (.row false 5 [old.cells])) 1 (.row false 5 [new.cells])) 2 (.row false 1 [c.cells])) 3 (.map (kvsA .i64 (vmap ((2 * R : Nat) : Int) ([]))))) 4 (.row false 3 [[.int .i64 ((2 * R : Nat) : Int), .map 3, slA 9 (([]).map (arrAV .i64))]])) 9 (slO 4 (([]).map (arrAV .i64)))) 6 (.row false 4 [[.ptr 4 1 0 0, vaA 5 (valC (fillI R k (fun v : Nat => (v : Int)))), slA 10 (([]).map (arrAV .i64)), .int .i64 (0)]])) 5 (vaO (valC (fillI R k (fun v : Nat => (v : Int)))))) 10 (slO 6 (([]).map (arrAV .i64)))) 8 (.row false 4 [[.ptr 4 1 0 0, vaA 7 (valC (fillI R k (sideB R (c.at' i)))), slA 11 (([]).map (arrAV .i64)), .int .i64 (0)]])) 7 (vaO (valC (fillI R k (sideB R (c.at' i)))))) 11 (slO 6 (([]).map (arrAV .i64))))⟩) (fun k => k ≤ R) (fun k => R - k) 0 (Sub.mk' z46q (by repeat (first | exact HSub.refl _ | exact HSub.none _ | exact HSub.from_new _ | exact HSub.from_from z55q | refine HSub.put ?_ (by first | rfl | exact fill0R _ | exact fill0W _ _ _ _) | refine HSub.from_put ?_ z55q | refine HSub.from_rm ?_ (by decide)))) (Nat.zero_le _) (fun _ => hput_free (hput_free (hput_free (hput_free (hput_free (hput_free (hput_free (hput_free (hput_free (hput_free (hput_free (hput_free (fun b hb => hFrom_free hb) rfl) rfl) rfl) rfl) rfl) rfl) rfl) rfl) rfl) rfl) rfl) rfl) ?_
 intro k hk
 refine asr ?_;refine aqb ?_;refine an ?_;refine asq ?_;refine asp 40 (fun hb1 => ?_) fun hb1 => ?_
 ·
  refine act ?_
  have hkl : k < R := by have h := hb1; simp only [decide_eq_true_eq] at h; omega
  obtain ⟨bit, hbit⟩ := get_of_lt (l := row) (k := k) (by omega)
  refine agk ?_;refine asq ?_;refine AGo.block ?_;refine asr ?_;refine aQ tok 2 rfl ?_;refine an ?_;refine asr ?_;refine aQ tok 8 rfl ?_;refine aq 50 (q_indexV tok rfl rfl rfl rfl rfl rfl rfl rfl (Int.natCast_nonneg _) (by rw [valC_len, (fillI_len (fun v : Nat => (v : Int)) (Nat.le_of_lt hkl))]; omega)) ?_;refine AOps.w rfl rfl (o_storeV tok rfl rfl rfl rfl rfl rfl rfl (by rw [valC_len, (fillI_len (fun v : Nat => (v : Int)) (Nat.le_of_lt hkl)), Int.toNat_natCast]; exact hkl) (valC_one _) rfl rfl rfl) ?_;refine aq 51 (q_indexV tok rfl rfl rfl rfl rfl rfl rfl rfl (Int.natCast_nonneg _) (by rw [valC_len, (fillI_len (sideB R (c.at' i)) (Nat.le_of_lt hkl))]; omega)) ?_;refine AOps.w rfl rfl (o_storeV tok rfl rfl rfl rfl rfl rfl rfl (by rw [valC_len, (fillI_len (sideB R (c.at' i)) (Nat.le_of_lt hkl)), Int.toNat_natCast]; exact hkl) (valC_one _) rfl rfl rfl) ?_;refine an ?_;refine asr ?_;refine aQ tok 3 rfl ?_
  refine aq 55 (q_index_lst tok rfl rfl rfl rfl rfl rfl hi.1 (by rw [List.getElem?_map, hrow]; rfl) rfl) ?_;refine aQ tok 2 rfl ?_;refine aq 58 (q_index_lst tok rfl rfl rfl rfl rfl rfl (Int.natCast_nonneg _) (idx_map hbit) rfl) ?_;refine aQ tok 2 rfl ?_;refine an ?_;refine asp 60 (fun hb2 => ?_) fun hb2 => ?_
  ·
   refine act ?_
   have hbf : bit = false := by simpa using hb2
   subst hbf
   refine agr ?_;refine aQ tok 5 rfl ?_;refine aq 66 (q_bin (r := .int .i64 ((R + k : Nat) : Int)) rfl rfl rfl (addZ (by omega) (by omega) (by omega))) ?_;refine aq 67 (q_indexV2 tok rfl rfl rfl rfl rfl rfl rfl rfl (by rw [List.length_set]) (Int.natCast_nonneg _) (by rw [List.length_set, valC_len, (fillI_len (sideB R (c.at' i)) (Nat.le_of_lt hkl))]; omega)) ?_;refine AOps.w rfl rfl (o_storeV tok rfl rfl rfl rfl rfl rfl rfl (by rw [List.length_set, valC_len, (fillI_len (sideB R (c.at' i)) (Nat.le_of_lt hkl)), Int.toNat_natCast]; exact hkl) (by intro cs hc; rcases List.mem_or_eq_of_mem_set hc with hc | rfl; exact valC_one _ _ hc; rfl) rfl rfl rfl) ?_;refine an ?_;refine agr ?_;refine aq 68 (q_inc rfl rfl hkl (show R ≤ maxLen by simp only [maxLen]; omega)) ?_
   refine am 39 ?_;refine an ?_;exact ⟨k+1, Drop.mk' z31q z9q, hkl, by omega⟩
  refine acf ?_
  have hbf : bit = true := by simpa using hb2
  subst hbf
  refine agk ?_;refine agr ?_;refine aq 68 (q_inc rfl rfl hkl (show R ≤ maxLen by simp only [maxLen]; omega)) ?_
  refine am 39 ?_;refine an ?_;exact ⟨k+1, Drop.mk' z31q z9q, hkl, by omega⟩
 refine acf ?_
 obtain rfl : R = k := by have h := hb1; simp only [decide_eq_false_iff_not] at h; omega
 refine AGo.exit ?_;refine asq ?_;refine asr ?_;refine aQ tok 4 rfl ?_;refine an ?_;refine AGo.block ?_;refine AGo.loopD (γ := Nat) 12 (fun k => ⟨146, (eput (eput (eput (eput (eput (eput (eput (eput (eput (eput (eput eNew 2 (.int .i64 (R : Int))) 4 (.int .i64 i)) 5 (intsAV next)) 6 (.ptr 0 1 0 0)) 7 (.ptr 1 1 0 0)) 9 (.ptr 2 1 0 0)) 14 (.ptr 6 1 0 0)) 15 (.ptr 8 1 0 0)) 70 (insAV old.ins)) 71 (.int .i64 (old.ins.length : Int))) 72 (.int .i64 (k : Int))), (hput (hput (hput (hput (hput (hput (hput (hput (hput (hput (hput (hput (hFrom 12) 0 (.row false 5 [old.cells])) 1 (.row false 5 [new.cells])) 2 (.row false 1 [c.cells])) 3 (.map (kvsA .i64 (vmap ((2 * R : Nat) : Int) (((vfold ((2 * R : Nat) : Int) (old.ins.take (k)) ⟨[], idsA R, [], 0⟩)).K))))) 4 (.row false 3 [[.int .i64 ((2 * R : Nat) : Int), .map 3, slA 9 ((((vfold ((2 * R : Nat) : Int) (old.ins.take (k)) ⟨[], idsA R, [], 0⟩)).K).map (arrAV .i64))]])) 9 (slO 4 ((((vfold ((2 * R : Nat) : Int) (old.ins.take (k)) ⟨[], idsA R, [], 0⟩)).K).map (arrAV .i64)))) 6 (.row false 4 [[.ptr 4 1 0 0, vaA 5 (valC ((vfold ((2 * R : Nat) : Int) (old.ins.take (k)) ⟨[], idsA R, [], 0⟩)).vals), slA 10 ((((vfold ((2 * R : Nat) : Int) (old.ins.take (k)) ⟨[], idsA R, [], 0⟩)).effs).map (arrAV .i64)), .int .i64 (((vfold ((2 * R : Nat) : Int) (old.ins.take (k)) ⟨[], idsA R, [], 0⟩)).time)]])) 5 (vaO (valC ((vfold ((2 * R : Nat) : Int) (old.ins.take (k)) ⟨[], idsA R, [], 0⟩)).vals))) 10 (slO 6 ((((vfold ((2 * R : Nat) : Int) (old.ins.take (k)) ⟨[], idsA R, [], 0⟩)).effs).map (arrAV .i64)))) 8 (.row false 4 [[.ptr 4 1 0 0, vaA 7 (valC (idsB R (c.at' i))), slA 11 (([]).map (arrAV .i64)), .int .i64 (0)]])) 7 (vaO (valC (idsB R (c.at' i))))) 11 (slO 6 (([]).map (arrAV .i64))))⟩) (fun k => k ≤ old.ins.length) (fun k => old.ins.length - k) 0 (Sub.mk' z29q (by repeat (first | exact HSub.refl _ | exact HSub.none _ | exact HSub.from_new _ | exact HSub.from_from z55q | refine HSub.put ?_ (by first | rfl | exact initA | exact initB _ | exact initWA _ _ _ | exact initWB _ _ _ _) | refine HSub.from_put ?_ z55q | refine HSub.from_rm ?_ (by decide)))) (Nat.zero_le _) (fun _ => hput_free (hput_free (hput_free (hput_free (hput_free (hput_free (hput_free (hput_free (hput_free (hput_free (hput_free (hput_free (fun b hb => hFrom_free hb) rfl) rfl) rfl) rfl) rfl) rfl) rfl) rfl) rfl) rfl) rfl) rfl) ?_
 intro k hk
 refine asr ?_;refine aqb ?_;refine an ?_;refine asq ?_;refine asp 73 (fun hb3 => ?_) fun hb3 => ?_
 ·
  refine act ?_
  have hkl : k < old.ins.length := by have h := hb3; simp only [List.length_map, decide_eq_true_eq] at h; omega
  obtain ⟨t, ht⟩ := get_of_lt hkl
  refine agk ?_;refine asq ?_;refine AGo.block ?_;refine asr ?_;refine aq 74 (qil tok (idx_map ht)) ?_;refine al 75 tok ?_;refine ax 18 (oal tok 12) ?_;refine AOps.w rfl rfl (o_store tok rfl rfl rfl rfl rfl rfl rfl rfl rfl (by decide) rfl z51q) ?_;refine an ?_;refine agr ?_;refine al 76 tok ?_;refine ax 77 (oct (vstepa_ok ((2 * R : Nat) : Int) R _ (vfold ((2 * R : Nat) : Int) (old.ins.take (k)) ⟨[], idsA R, [], 0⟩) (vfold_okk (vok_a hR) ho k) (by omega) t (ho t (List.mem_of_getElem? ht))) [10, 5, 6, 9, 4, 3] [(3, (.map (kvsA .i64 (vmap ((2 * R : Nat) : Int) (((VW.step ((2 * R : Nat) : Int) (vfold ((2 * R : Nat) : Int) (old.ins.take (k)) ⟨[], idsA R, [], 0⟩) t)).K))))), (4, (.row false 3 [[.int .i64 ((2 * R : Nat) : Int), .map 3, slA 9 ((((VW.step ((2 * R : Nat) : Int) (vfold ((2 * R : Nat) : Int) (old.ins.take (k)) ⟨[], idsA R, [], 0⟩) t)).K).map (arrAV .i64))]])), (9, (slO 4 ((((VW.step ((2 * R : Nat) : Int) (vfold ((2 * R : Nat) : Int) (old.ins.take (k)) ⟨[], idsA R, [], 0⟩) t)).K).map (arrAV .i64)))), (6, (.row false 4 [[.ptr 4 1 0 0, vaA 5 (valC ((VW.step ((2 * R : Nat) : Int) (vfold ((2 * R : Nat) : Int) (old.ins.take (k)) ⟨[], idsA R, [], 0⟩) t)).vals), slA 10 ((((VW.step ((2 * R : Nat) : Int) (vfold ((2 * R : Nat) : Int) (old.ins.take (k)) ⟨[], idsA R, [], 0⟩) t)).effs).map (arrAV .i64)), .int .i64 (((VW.step ((2 * R : Nat) : Int) (vfold ((2 * R : Nat) : Int) (old.ins.take (k)) ⟨[], idsA R, [], 0⟩) t)).time)]])), (5, (vaO (valC ((VW.step ((2 * R : Nat) : Int) (vfold ((2 * R : Nat) : Int) (old.ins.take (k)) ⟨[], idsA R, [], 0⟩) t)).vals))), (10, (slO 6 ((((VW.step ((2 * R : Nat) : Int) (vfold ((2 * R : Nat) : Int) (old.ins.take (k)) ⟨[], idsA R, [], 0⟩) t)).effs).map (arrAV .i64))))] rfl Tryz.func133 (by kernel_rfl) rfl rfl rfl ⟨⟨_, rfl, z35q⟩, ⟨_, rfl, z35q⟩, ⟨_, rfl, z35q⟩, ⟨_, rfl, z35q⟩, ⟨_, rfl, z35q⟩, ⟨_, rfl, z35q⟩, trivial⟩ rfl (hres_cons rfl (hres_cons rfl (hres_cons rfl (hres_cons rfl (hres_cons rfl (hres_cons rfl (hres_nil _))))))) ⟨⟨_, rfl, rfl, z35q⟩, ⟨_, rfl, rfl, z35q⟩, ⟨_, rfl, rfl, z35q⟩, ⟨_, rfl, rfl, z35q⟩, ⟨_, rfl, rfl, z35q⟩, ⟨_, rfl, rfl, z35q⟩, trivial⟩ rfl) ?_
  refine an ?_;refine agr ?_;refine aq 78 (q_inc rfl rfl hkl (show old.ins.length ≤ maxLen by simp only [maxLen]; omega)) ?_
  refine am 72 ?_;refine an ?_;exact ⟨k+1, Drop.mk' z31q z16q, hkl, by omega⟩
 refine acf ?_
 have hge : old.ins.length ≤ k := by have h := hb3; simp only [List.length_map, decide_eq_false_iff_not] at h; omega
 refine AGo.exit ?_;refine asq ?_;refine asr ?_;refine aQ tok 4 rfl ?_;refine an ?_;refine AGo.block ?_;refine AGo.loopD (γ := Nat) 12 (fun k => ⟨146, (eput (eput (eput (eput (eput (eput (eput (eput (eput (eput (eput eNew 2 (.int .i64 (R : Int))) 4 (.int .i64 i)) 5 (intsAV next)) 6 (.ptr 0 1 0 0)) 7 (.ptr 1 1 0 0)) 9 (.ptr 2 1 0 0)) 14 (.ptr 6 1 0 0)) 15 (.ptr 8 1 0 0)) 80 (insAV new.ins)) 81 (.int .i64 (new.ins.length : Int))) 82 (.int .i64 (k : Int))), (hput (hput (hput (hput (hput (hput (hput (hput (hput (hput (hput (hput (hFrom 12) 0 (.row false 5 [old.cells])) 1 (.row false 5 [new.cells])) 2 (.row false 1 [c.cells])) 3 (.map (kvsA .i64 (vmap ((2 * R : Nat) : Int) (((vfold ((2 * R : Nat) : Int) (new.ins.take (k)) ⟨(vrunA R old).K, idsB R (c.at' i), [], 0⟩)).K))))) 4 (.row false 3 [[.int .i64 ((2 * R : Nat) : Int), .map 3, slA 9 ((((vfold ((2 * R : Nat) : Int) (new.ins.take (k)) ⟨(vrunA R old).K, idsB R (c.at' i), [], 0⟩)).K).map (arrAV .i64))]])) 9 (slO 4 ((((vfold ((2 * R : Nat) : Int) (new.ins.take (k)) ⟨(vrunA R old).K, idsB R (c.at' i), [], 0⟩)).K).map (arrAV .i64)))) 8 (.row false 4 [[.ptr 4 1 0 0, vaA 7 (valC ((vfold ((2 * R : Nat) : Int) (new.ins.take (k)) ⟨(vrunA R old).K, idsB R (c.at' i), [], 0⟩)).vals), slA 11 ((((vfold ((2 * R : Nat) : Int) (new.ins.take (k)) ⟨(vrunA R old).K, idsB R (c.at' i), [], 0⟩)).effs).map (arrAV .i64)), .int .i64 (((vfold ((2 * R : Nat) : Int) (new.ins.take (k)) ⟨(vrunA R old).K, idsB R (c.at' i), [], 0⟩)).time)]])) 7 (vaO (valC ((vfold ((2 * R : Nat) : Int) (new.ins.take (k)) ⟨(vrunA R old).K, idsB R (c.at' i), [], 0⟩)).vals))) 11 (slO 6 ((((vfold ((2 * R : Nat) : Int) (new.ins.take (k)) ⟨(vrunA R old).K, idsB R (c.at' i), [], 0⟩)).effs).map (arrAV .i64)))) 6 (.row false 4 [[.ptr 4 1 0 0, vaA 5 (valC (vrunA R old).vals), slA 10 (((vrunA R old).effs).map (arrAV .i64)), .int .i64 ((vrunA R old).time)]])) 5 (vaO (valC (vrunA R old).vals))) 10 (slO 6 (((vrunA R old).effs).map (arrAV .i64))))⟩) (fun k => k ≤ new.ins.length) (fun k => new.ins.length - k) 0 (Sub.mk' z29q z10q) (Nat.zero_le _) (fun _ => hput_free (hput_free (hput_free (hput_free (hput_free (hput_free (hput_free (hput_free (hput_free (hput_free (hput_free (hput_free (fun b hb => hFrom_free hb) rfl) rfl) rfl) rfl) rfl) rfl) rfl) rfl) rfl) rfl) rfl) rfl) ?_
 intro k hk
 refine asr ?_;refine aqb ?_;refine an ?_;refine asq ?_;refine asp 83 (fun hb4 => ?_) fun hb4 => ?_
 ·
  refine act ?_
  have hkl : k < new.ins.length := by have h := hb4; simp only [List.length_map, decide_eq_true_eq] at h; omega
  obtain ⟨t, ht⟩ := get_of_lt hkl
  refine agk ?_;refine asq ?_;refine AGo.block ?_;refine asr ?_;refine aq 84 (qil tok (idx_map ht)) ?_;refine al 85 tok ?_;refine ax 20 (oal tok 12) ?_;refine AOps.w rfl rfl (o_store tok rfl rfl rfl rfl rfl rfl rfl rfl rfl (by decide) rfl z51q) ?_;refine an ?_;refine agr ?_;refine al 86 tok ?_;refine ax 87 (oct (vstepb_ok ((2 * R : Nat) : Int) R _ (vfold ((2 * R : Nat) : Int) (new.ins.take (k)) ⟨(vrunA R old).K, idsB R (c.at' i), [], 0⟩) (vfold_okk (vok_b hoa _) hn k) (by omega) t (hn t (List.mem_of_getElem? ht))) [11, 7, 8, 9, 4, 3] [(3, (.map (kvsA .i64 (vmap ((2 * R : Nat) : Int) (((VW.step ((2 * R : Nat) : Int) (vfold ((2 * R : Nat) : Int) (new.ins.take (k)) ⟨(vrunA R old).K, idsB R (c.at' i), [], 0⟩) t)).K))))), (4, (.row false 3 [[.int .i64 ((2 * R : Nat) : Int), .map 3, slA 9 ((((VW.step ((2 * R : Nat) : Int) (vfold ((2 * R : Nat) : Int) (new.ins.take (k)) ⟨(vrunA R old).K, idsB R (c.at' i), [], 0⟩) t)).K).map (arrAV .i64))]])), (9, (slO 4 ((((VW.step ((2 * R : Nat) : Int) (vfold ((2 * R : Nat) : Int) (new.ins.take (k)) ⟨(vrunA R old).K, idsB R (c.at' i), [], 0⟩) t)).K).map (arrAV .i64)))), (8, (.row false 4 [[.ptr 4 1 0 0, vaA 7 (valC ((VW.step ((2 * R : Nat) : Int) (vfold ((2 * R : Nat) : Int) (new.ins.take (k)) ⟨(vrunA R old).K, idsB R (c.at' i), [], 0⟩) t)).vals), slA 11 ((((VW.step ((2 * R : Nat) : Int) (vfold ((2 * R : Nat) : Int) (new.ins.take (k)) ⟨(vrunA R old).K, idsB R (c.at' i), [], 0⟩) t)).effs).map (arrAV .i64)), .int .i64 (((VW.step ((2 * R : Nat) : Int) (vfold ((2 * R : Nat) : Int) (new.ins.take (k)) ⟨(vrunA R old).K, idsB R (c.at' i), [], 0⟩) t)).time)]])), (7, (vaO (valC ((VW.step ((2 * R : Nat) : Int) (vfold ((2 * R : Nat) : Int) (new.ins.take (k)) ⟨(vrunA R old).K, idsB R (c.at' i), [], 0⟩) t)).vals))), (11, (slO 6 ((((VW.step ((2 * R : Nat) : Int) (vfold ((2 * R : Nat) : Int) (new.ins.take (k)) ⟨(vrunA R old).K, idsB R (c.at' i), [], 0⟩) t)).effs).map (arrAV .i64))))] rfl Tryz.func133 (by kernel_rfl) rfl rfl rfl ⟨⟨_, rfl, z35q⟩, ⟨_, rfl, z35q⟩, ⟨_, rfl, z35q⟩, ⟨_, rfl, z35q⟩, ⟨_, rfl, z35q⟩, ⟨_, rfl, z35q⟩, trivial⟩ rfl (hres_cons rfl (hres_cons rfl (hres_cons rfl (hres_cons rfl (hres_cons rfl (hres_cons rfl (hres_nil _))))))) ⟨⟨_, rfl, rfl, z35q⟩, ⟨_, rfl, rfl, z35q⟩, ⟨_, rfl, rfl, z35q⟩, ⟨_, rfl, rfl, z35q⟩, ⟨_, rfl, rfl, z35q⟩, ⟨_, rfl, rfl, z35q⟩, trivial⟩ rfl) ?_
  refine an ?_;refine agr ?_;refine aq 88 (q_inc rfl rfl hkl (show new.ins.length ≤ maxLen by simp only [maxLen]; omega)) ?_
  refine am 82 ?_;refine an ?_;exact ⟨k+1, Drop.mk' z31q z16q, hkl, by omega⟩
 refine acf ?_
 have hge : new.ins.length ≤ k := by have h := hb4; simp only [List.length_map, decide_eq_false_iff_not] at h; omega
 rw [vfold_end hge]
 refine AGo.exit ?_;refine asq ?_;refine asr ?_;refine aQ tok 4 rfl ?_;refine ax 93 (oct (effs_ok (vrunA R old).effs (vrunB R old new (c.at' i)).effs hoa.e6 hob.e6 (by have := hoa.el; omega)) [11, 10] [] rfl Tryz.func134 (by kernel_rfl) rfl rfl (by simp only [List.all_cons, List.all_nil, slA_avoid _ (show mem [11, 10] 10 = true from rfl), slA_avoid _ (show mem [11, 10] 11 = true from rfl)]; rfl) ⟨⟨_, rfl, z35q⟩, ⟨_, rfl, z35q⟩, trivial⟩ rfl (hres_cons rfl (hres_cons rfl (hres_nil _))) ⟨⟨_, rfl, rfl, z35q⟩, ⟨_, rfl, rfl, z35q⟩, trivial⟩ rfl) ?_;refine aq 94 (q_not rfl rfl) ?_;refine an ?_;refine asp 94 (fun hb5 => ?_) fun hb5 => ?_
 ·
  refine act ?_
  have hef := hb5
  refine asr ?_;refine aa 12 ?_;refine an ?_;refine agt ⟨[_], ⟨rfl, trivial⟩, ?_, rfl⟩
  refine bc ?_;exact (vsame_no1 (ndec_no hef)).symm
 refine acf ?_
 have hef := hb5
 refine agk ?_;refine asq ?_;refine asq ?_;refine AGo.draw mix ?_;refine dQ tok 4 rfl ?_;refine DOps.split 98 rfl (fun hb6 => ?_) (fun hb6 => ?_)
 ·
  have hf2 : old.fin = 2 := by simpa using hb6
  have hxo := hoa.at (hv hf2).1
  have hxn := hob.at (hv hf2).2
  refine dQ tok 4 rfl ?_;refine dq 103 (q_indexV tok rfl rfl rfl rfl rfl rfl rfl rfl hxo.1 hxo.2.2.1) ?_;refine dq 104 (q_load tok rfl rfl rfl (ptsV rfl (valC_get ⟨hxo.1, hxo.2.1⟩)) rfl) ?_;refine dQ tok 4 rfl ?_;refine dq 109 (q_indexV tok rfl rfl rfl rfl rfl rfl rfl rfl hxn.1 hxn.2.2.1) ?_;refine dq 110 (q_load tok rfl rfl rfl (ptsV rfl (valC_get ⟨hxn.1, hxn.2.1⟩)) rfl) ?_;refine dQ tok 2 rfl ?_;refine DOps.nil (by kernel_rfl) ?_;refine asp 112 (fun hb7 => ?_) fun hb7 => ?_
  ·
   refine act ?_
   have hvf := hb7
   refine asr ?_;refine aa 12 ?_;refine an ?_;refine agt ⟨[_], ⟨rfl, trivial⟩, ?_, rfl⟩
   refine bc ?_;exact (vsame_no2 hf2 (bne_ne' hvf)).symm
  refine acf ?_
  have hvf := hb7
  refine agk ?_;refine asq ?_;refine asr ?_;refine aQ tok 3 rfl ?_;refine an ?_;refine AGo.block ?_;refine AGo.loopD (γ := Nat) 12 (fun j => ⟨146, (eput (eput (eput (eput (eput (eput (eput (eput (eput (eput (eput eNew 2 (.int .i64 (R : Int))) 4 (.int .i64 i)) 5 (intsAV next)) 6 (.ptr 0 1 0 0)) 7 (.ptr 1 1 0 0)) 9 (.ptr 2 1 0 0)) 14 (.ptr 6 1 0 0)) 15 (.ptr 8 1 0 0)) 113 (intsAV next)) 114 (.int .i64 (next.length : Int))) 115 (.int .i64 (j : Int))), (hput (hput (hput (hput (hput (hput (hput (hput (hput (hput (hput (hput (hFrom 12) 0 (.row false 5 [old.cells])) 1 (.row false 5 [new.cells])) 2 (.row false 1 [c.cells])) 3 (.map (kvsA .i64 (vmap ((2 * R : Nat) : Int) (((vrunB R old new (c.at' i))).K))))) 4 (.row false 3 [[.int .i64 ((2 * R : Nat) : Int), .map 3, slA 9 ((((vrunB R old new (c.at' i))).K).map (arrAV .i64))]])) 9 (slO 4 ((((vrunB R old new (c.at' i))).K).map (arrAV .i64)))) 8 (.row false 4 [[.ptr 4 1 0 0, vaA 7 (valC ((vrunB R old new (c.at' i))).vals), slA 11 ((((vrunB R old new (c.at' i))).effs).map (arrAV .i64)), .int .i64 (((vrunB R old new (c.at' i))).time)]])) 7 (vaO (valC ((vrunB R old new (c.at' i))).vals))) 11 (slO 6 ((((vrunB R old new (c.at' i))).effs).map (arrAV .i64)))) 6 (.row false 4 [[.ptr 4 1 0 0, vaA 5 (valC (vrunA R old).vals), slA 10 (((vrunA R old).effs).map (arrAV .i64)), .int .i64 ((vrunA R old).time)]])) 5 (vaO (valC (vrunA R old).vals))) 10 (slO 6 (((vrunA R old).effs).map (arrAV .i64))))⟩) (fun j => j ≤ next.length ∧ (next.take j).all (fun k => vagree (vrunA R old) (vrunB R old new (c.at' i)) (c.at' k)) = true) (fun j => next.length - j) 0 (Sub.mk' z29q z10q) ⟨Nat.zero_le _, rfl⟩ (fun _ => hput_free (hput_free (hput_free (hput_free (hput_free (hput_free (hput_free (hput_free (hput_free (hput_free (hput_free (hput_free (fun b hb => hFrom_free hb) rfl) rfl) rfl) rfl) rfl) rfl) rfl) rfl) rfl) rfl) rfl) rfl) ?_
  intro j ⟨hj, hall⟩
  refine asr ?_;refine aqb ?_;refine an ?_;refine asq ?_;refine asp 116 (fun hb8 => ?_) fun hb8 => ?_
  ·
   refine act ?_
   have hjl : j < next.length := by have h := hb8; simp only [List.length_map, decide_eq_true_eq] at h; omega
   obtain ⟨nk, hnk⟩ := get_of_lt hjl
   have hkr := hnx nk (List.mem_of_getElem? hnk)
   obtain ⟨row2, hrow2⟩ := get_of_lt (l := c.same) (k := nk.toNat) (by omega)
   have hat2 : c.at' nk = row2 := by unfold Cert.at'; rw [hrow2]; rfl
   have hrl2 := hc row2 (List.mem_of_getElem? hrow2)
   refine agk ?_;refine asq ?_;refine AGo.block ?_;refine asr ?_;refine aq 117 (q_index_lst tok rfl rfl rfl rfl rfl rfl (Int.natCast_nonneg _) (idx_map hnk) rfl) ?_;refine aQ tok 2 rfl ?_;refine an ?_;refine asr ?_;refine aQ tok 3 rfl ?_;refine aq 122 (q_index_lst tok rfl rfl rfl rfl rfl rfl hkr.1 (by rw [List.getElem?_map, hrow2]; rfl) rfl) ?_;refine aQ tok 3 rfl ?_;refine an ?_;refine AGo.block ?_;refine AGo.loopD (γ := Nat) 12 (fun k => ⟨146, (eput (eput (eput (eput (eput (eput (eput (eput (eput (eput (eput (eput (eput (eput eNew 2 (.int .i64 (R : Int))) 4 (.int .i64 i)) 5 (intsAV next)) 6 (.ptr 0 1 0 0)) 7 (.ptr 1 1 0 0)) 9 (.ptr 2 1 0 0)) 14 (.ptr 6 1 0 0)) 15 (.ptr 8 1 0 0)) 113 (intsAV next)) 114 (.int .i64 (next.length : Int))) 115 (.int .i64 (j : Int))) 123 (boolsAV row2)) 124 (.int .i64 (row2.length : Int))) 125 (.int .i64 (k : Int))), (hput (hput (hput (hput (hput (hput (hput (hput (hput (hput (hput (hput (hFrom 12) 0 (.row false 5 [old.cells])) 1 (.row false 5 [new.cells])) 2 (.row false 1 [c.cells])) 3 (.map (kvsA .i64 (vmap ((2 * R : Nat) : Int) (((vrunB R old new (c.at' i))).K))))) 4 (.row false 3 [[.int .i64 ((2 * R : Nat) : Int), .map 3, slA 9 ((((vrunB R old new (c.at' i))).K).map (arrAV .i64))]])) 9 (slO 4 ((((vrunB R old new (c.at' i))).K).map (arrAV .i64)))) 8 (.row false 4 [[.ptr 4 1 0 0, vaA 7 (valC ((vrunB R old new (c.at' i))).vals), slA 11 ((((vrunB R old new (c.at' i))).effs).map (arrAV .i64)), .int .i64 (((vrunB R old new (c.at' i))).time)]])) 7 (vaO (valC ((vrunB R old new (c.at' i))).vals))) 11 (slO 6 ((((vrunB R old new (c.at' i))).effs).map (arrAV .i64)))) 6 (.row false 4 [[.ptr 4 1 0 0, vaA 5 (valC (vrunA R old).vals), slA 10 (((vrunA R old).effs).map (arrAV .i64)), .int .i64 ((vrunA R old).time)]])) 5 (vaO (valC (vrunA R old).vals))) 10 (slO 6 (((vrunA R old).effs).map (arrAV .i64))))⟩) (fun k => k ≤ row2.length ∧ vagreeTo (vrunA R old) (vrunB R old new (c.at' i)) row2 k) (fun k => row2.length - k) 0 (Sub.mk' z29q z12q) ⟨Nat.zero_le _, vagree_zero⟩ (fun _ => hput_free (hput_free (hput_free (hput_free (hput_free (hput_free (hput_free (hput_free (hput_free (hput_free (hput_free (hput_free (fun b hb => hFrom_free hb) rfl) rfl) rfl) rfl) rfl) rfl) rfl) rfl) rfl) rfl) rfl) rfl) ?_
   intro k ⟨hk, hagr⟩
   refine asr ?_;refine aqb ?_;refine an ?_;refine asq ?_;refine asp 126 (fun hb9 => ?_) fun hb9 => ?_
   ·
    refine act ?_
    have hkl : k < row2.length := by have h := hb9; simp only [List.length_map, decide_eq_true_eq] at h; omega
    obtain ⟨must, hmu⟩ := get_of_lt hkl
    refine agk ?_;refine asq ?_;refine AGo.block ?_;refine asr ?_;refine am 127 ?_;refine aq 128 (q_index_lst tok rfl rfl rfl rfl rfl rfl (Int.natCast_nonneg _) (idx_map hmu) rfl) ?_;refine aQ tok 3 rfl ?_;refine an ?_;refine asq ?_;refine AGo.draw mix ?_;refine dQ tok 2 rfl ?_;refine DOps.split 131 rfl (fun hb10 => ?_) (fun hb10 => ?_)
    ·
     have hmt : must = true := by simpa using hb10
     have hxv := hoa.at (z := (k : Int)) (by omega)
     have hyv := hob.at (z := (k : Int)) (by omega)
     refine dQ tok 3 rfl ?_;refine dq 135 (q_indexV tok rfl rfl rfl rfl rfl rfl rfl rfl hxv.1 hxv.2.2.1) ?_;refine dq 136 (q_load tok rfl rfl rfl (ptsV rfl (valC_get ⟨hxv.1, hxv.2.1⟩)) rfl) ?_;refine dQ tok 3 rfl ?_;refine dq 140 (q_indexV tok rfl rfl rfl rfl rfl rfl rfl rfl hyv.1 hyv.2.2.1) ?_;refine dq 141 (q_load tok rfl rfl rfl (ptsV rfl (valC_get ⟨hyv.1, hyv.2.1⟩)) rfl) ?_;refine dQ tok 2 rfl ?_;refine DOps.nil (by kernel_rfl) ?_;refine asp 143 (fun hb11 => ?_) fun hb11 => ?_
     ·
      refine act ?_
      have hag := hb11
      refine asr ?_;refine aa 12 ?_;refine an ?_;refine agt ⟨[_], ⟨rfl, trivial⟩, ?_, rfl⟩
      refine bc ?_;exact (vsame_no3 hnk (by rw [hat2]; exact vagree_no hmu hmt (bne_ne' hag))).symm
     refine acf ?_
     have hag := hb11
     refine agk ?_;refine agr ?_;refine aq 144 (q_inc rfl rfl hkl (show row2.length ≤ maxLen by simp only [maxLen]; omega)) ?_
     refine am 125 ?_;refine an ?_;exact ⟨k+1, Drop.mk' z31q z18q, ⟨hkl, vagree_succ hagr hmu z40q⟩, by omega⟩
    refine dQ tok 12 rfl ?_;refine DOps.nil (by kernel_rfl) ?_;refine acf ?_
    have hag := hb10
    refine agk ?_;refine agr ?_;refine aq 144 (q_inc rfl rfl hkl (show row2.length ≤ maxLen by simp only [maxLen]; omega)) ?_
    refine am 125 ?_;refine an ?_;exact ⟨k+1, Drop.mk' z31q z18q, ⟨hkl, vagree_succ hagr hmu z40q⟩, by omega⟩
   refine acf ?_
   have hkge : row2.length ≤ k := by have h := hb9; simp only [List.length_map, decide_eq_false_iff_not] at h; omega
   refine AGo.exit ?_;refine agr ?_;refine aq 145 (q_inc rfl rfl hjl (show next.length ≤ maxLen by simp only [maxLen]; omega)) ?_
   refine am 115 ?_;refine an ?_;exact ⟨j+1, Drop.mk' z31q z18q, ⟨hjl, all_succ hnk hall (by rw [hat2]; exact vagree_end hkge hagr)⟩, by omega⟩
  refine acf ?_
  have hjge : next.length ≤ j := by have h := hb8; simp only [List.length_map, decide_eq_false_iff_not] at h; omega
  refine AGo.exit ?_;refine asr ?_;refine aa 12 ?_;refine an ?_;refine agt ⟨[_], ⟨rfl, trivial⟩, ?_, rfl⟩
  refine bc ?_;exact (vsame_yes (ndec_yes hef) z38q (all_end hall hjge)).symm
 refine dQ tok 14 rfl ?_;refine DOps.nil (by kernel_rfl) ?_;refine acf ?_
 have hvf := hb6
 refine agk ?_;refine asq ?_;refine asr ?_;refine aQ tok 3 rfl ?_;refine an ?_;refine AGo.block ?_;refine AGo.loopD (γ := Nat) 12 (fun j => ⟨146, (eput (eput (eput (eput (eput (eput (eput (eput (eput (eput (eput eNew 2 (.int .i64 (R : Int))) 4 (.int .i64 i)) 5 (intsAV next)) 6 (.ptr 0 1 0 0)) 7 (.ptr 1 1 0 0)) 9 (.ptr 2 1 0 0)) 14 (.ptr 6 1 0 0)) 15 (.ptr 8 1 0 0)) 113 (intsAV next)) 114 (.int .i64 (next.length : Int))) 115 (.int .i64 (j : Int))), (hput (hput (hput (hput (hput (hput (hput (hput (hput (hput (hput (hput (hFrom 12) 0 (.row false 5 [old.cells])) 1 (.row false 5 [new.cells])) 2 (.row false 1 [c.cells])) 3 (.map (kvsA .i64 (vmap ((2 * R : Nat) : Int) (((vrunB R old new (c.at' i))).K))))) 4 (.row false 3 [[.int .i64 ((2 * R : Nat) : Int), .map 3, slA 9 ((((vrunB R old new (c.at' i))).K).map (arrAV .i64))]])) 9 (slO 4 ((((vrunB R old new (c.at' i))).K).map (arrAV .i64)))) 8 (.row false 4 [[.ptr 4 1 0 0, vaA 7 (valC ((vrunB R old new (c.at' i))).vals), slA 11 ((((vrunB R old new (c.at' i))).effs).map (arrAV .i64)), .int .i64 (((vrunB R old new (c.at' i))).time)]])) 7 (vaO (valC ((vrunB R old new (c.at' i))).vals))) 11 (slO 6 ((((vrunB R old new (c.at' i))).effs).map (arrAV .i64)))) 6 (.row false 4 [[.ptr 4 1 0 0, vaA 5 (valC (vrunA R old).vals), slA 10 (((vrunA R old).effs).map (arrAV .i64)), .int .i64 ((vrunA R old).time)]])) 5 (vaO (valC (vrunA R old).vals))) 10 (slO 6 (((vrunA R old).effs).map (arrAV .i64))))⟩) (fun j => j ≤ next.length ∧ (next.take j).all (fun k => vagree (vrunA R old) (vrunB R old new (c.at' i)) (c.at' k)) = true) (fun j => next.length - j) 0 (Sub.mk' z29q z10q) ⟨Nat.zero_le _, rfl⟩ (fun _ => hput_free (hput_free (hput_free (hput_free (hput_free (hput_free (hput_free (hput_free (hput_free (hput_free (hput_free (hput_free (fun b hb => hFrom_free hb) rfl) rfl) rfl) rfl) rfl) rfl) rfl) rfl) rfl) rfl) rfl) rfl) ?_
 intro j ⟨hj, hall⟩
 refine asr ?_;refine aqb ?_;refine an ?_;refine asq ?_;refine asp 116 (fun hb12 => ?_) fun hb12 => ?_
 ·
  refine act ?_
  have hjl : j < next.length := by have h := hb12; simp only [List.length_map, decide_eq_true_eq] at h; omega
  obtain ⟨nk, hnk⟩ := get_of_lt hjl
  have hkr := hnx nk (List.mem_of_getElem? hnk)
  obtain ⟨row2, hrow2⟩ := get_of_lt (l := c.same) (k := nk.toNat) (by omega)
  have hat2 : c.at' nk = row2 := by unfold Cert.at'; rw [hrow2]; rfl
  have hrl2 := hc row2 (List.mem_of_getElem? hrow2)
  refine agk ?_;refine asq ?_;refine AGo.block ?_;refine asr ?_;refine aq 117 (q_index_lst tok rfl rfl rfl rfl rfl rfl (Int.natCast_nonneg _) (idx_map hnk) rfl) ?_;refine aQ tok 2 rfl ?_;refine an ?_;refine asr ?_;refine aQ tok 3 rfl ?_;refine aq 122 (q_index_lst tok rfl rfl rfl rfl rfl rfl hkr.1 (by rw [List.getElem?_map, hrow2]; rfl) rfl) ?_;refine aQ tok 3 rfl ?_;refine an ?_;refine AGo.block ?_;refine AGo.loopD (γ := Nat) 12 (fun k => ⟨146, (eput (eput (eput (eput (eput (eput (eput (eput (eput (eput (eput (eput (eput (eput eNew 2 (.int .i64 (R : Int))) 4 (.int .i64 i)) 5 (intsAV next)) 6 (.ptr 0 1 0 0)) 7 (.ptr 1 1 0 0)) 9 (.ptr 2 1 0 0)) 14 (.ptr 6 1 0 0)) 15 (.ptr 8 1 0 0)) 113 (intsAV next)) 114 (.int .i64 (next.length : Int))) 115 (.int .i64 (j : Int))) 123 (boolsAV row2)) 124 (.int .i64 (row2.length : Int))) 125 (.int .i64 (k : Int))), (hput (hput (hput (hput (hput (hput (hput (hput (hput (hput (hput (hput (hFrom 12) 0 (.row false 5 [old.cells])) 1 (.row false 5 [new.cells])) 2 (.row false 1 [c.cells])) 3 (.map (kvsA .i64 (vmap ((2 * R : Nat) : Int) (((vrunB R old new (c.at' i))).K))))) 4 (.row false 3 [[.int .i64 ((2 * R : Nat) : Int), .map 3, slA 9 ((((vrunB R old new (c.at' i))).K).map (arrAV .i64))]])) 9 (slO 4 ((((vrunB R old new (c.at' i))).K).map (arrAV .i64)))) 8 (.row false 4 [[.ptr 4 1 0 0, vaA 7 (valC ((vrunB R old new (c.at' i))).vals), slA 11 ((((vrunB R old new (c.at' i))).effs).map (arrAV .i64)), .int .i64 (((vrunB R old new (c.at' i))).time)]])) 7 (vaO (valC ((vrunB R old new (c.at' i))).vals))) 11 (slO 6 ((((vrunB R old new (c.at' i))).effs).map (arrAV .i64)))) 6 (.row false 4 [[.ptr 4 1 0 0, vaA 5 (valC (vrunA R old).vals), slA 10 (((vrunA R old).effs).map (arrAV .i64)), .int .i64 ((vrunA R old).time)]])) 5 (vaO (valC (vrunA R old).vals))) 10 (slO 6 (((vrunA R old).effs).map (arrAV .i64))))⟩) (fun k => k ≤ row2.length ∧ vagreeTo (vrunA R old) (vrunB R old new (c.at' i)) row2 k) (fun k => row2.length - k) 0 (Sub.mk' z29q z12q) ⟨Nat.zero_le _, vagree_zero⟩ (fun _ => hput_free (hput_free (hput_free (hput_free (hput_free (hput_free (hput_free (hput_free (hput_free (hput_free (hput_free (hput_free (fun b hb => hFrom_free hb) rfl) rfl) rfl) rfl) rfl) rfl) rfl) rfl) rfl) rfl) rfl) rfl) ?_
  intro k ⟨hk, hagr⟩
  refine asr ?_;refine aqb ?_;refine an ?_;refine asq ?_;refine asp 126 (fun hb13 => ?_) fun hb13 => ?_
  ·
   refine act ?_
   have hkl : k < row2.length := by have h := hb13; simp only [List.length_map, decide_eq_true_eq] at h; omega
   obtain ⟨must, hmu⟩ := get_of_lt hkl
   refine agk ?_;refine asq ?_;refine AGo.block ?_;refine asr ?_;refine am 127 ?_;refine aq 128 (q_index_lst tok rfl rfl rfl rfl rfl rfl (Int.natCast_nonneg _) (idx_map hmu) rfl) ?_;refine aQ tok 3 rfl ?_;refine an ?_;refine asq ?_;refine AGo.draw mix ?_;refine dQ tok 2 rfl ?_;refine DOps.split 131 rfl (fun hb14 => ?_) (fun hb14 => ?_)
   ·
    have hmt : must = true := by simpa using hb14
    have hxv := hoa.at (z := (k : Int)) (by omega)
    have hyv := hob.at (z := (k : Int)) (by omega)
    refine dQ tok 3 rfl ?_;refine dq 135 (q_indexV tok rfl rfl rfl rfl rfl rfl rfl rfl hxv.1 hxv.2.2.1) ?_;refine dq 136 (q_load tok rfl rfl rfl (ptsV rfl (valC_get ⟨hxv.1, hxv.2.1⟩)) rfl) ?_;refine dQ tok 3 rfl ?_;refine dq 140 (q_indexV tok rfl rfl rfl rfl rfl rfl rfl rfl hyv.1 hyv.2.2.1) ?_;refine dq 141 (q_load tok rfl rfl rfl (ptsV rfl (valC_get ⟨hyv.1, hyv.2.1⟩)) rfl) ?_;refine dQ tok 2 rfl ?_;refine DOps.nil (by kernel_rfl) ?_;refine asp 143 (fun hb15 => ?_) fun hb15 => ?_
    ·
     refine act ?_
     have hag := hb15
     refine asr ?_;refine aa 12 ?_;refine an ?_;refine agt ⟨[_], ⟨rfl, trivial⟩, ?_, rfl⟩
     refine bc ?_;exact (vsame_no3 hnk (by rw [hat2]; exact vagree_no hmu hmt (bne_ne' hag))).symm
    refine acf ?_
    have hag := hb15
    refine agk ?_;refine agr ?_;refine aq 144 (q_inc rfl rfl hkl (show row2.length ≤ maxLen by simp only [maxLen]; omega)) ?_
    refine am 125 ?_;refine an ?_;exact ⟨k+1, Drop.mk' z31q z18q, ⟨hkl, vagree_succ hagr hmu z40q⟩, by omega⟩
   refine dQ tok 12 rfl ?_;refine DOps.nil (by kernel_rfl) ?_;refine acf ?_
   have hag := hb14
   refine agk ?_;refine agr ?_;refine aq 144 (q_inc rfl rfl hkl (show row2.length ≤ maxLen by simp only [maxLen]; omega)) ?_
   refine am 125 ?_;refine an ?_;exact ⟨k+1, Drop.mk' z31q z18q, ⟨hkl, vagree_succ hagr hmu z40q⟩, by omega⟩
  refine acf ?_
  have hkge : row2.length ≤ k := by have h := hb13; simp only [List.length_map, decide_eq_false_iff_not] at h; omega
  refine AGo.exit ?_;refine agr ?_;refine aq 145 (q_inc rfl rfl hjl (show next.length ≤ maxLen by simp only [maxLen]; omega)) ?_
  refine am 115 ?_;refine an ?_;exact ⟨j+1, Drop.mk' z31q z18q, ⟨hjl, all_succ hnk hall (by rw [hat2]; exact vagree_end hkge hagr)⟩, by omega⟩
 refine acf ?_
 have hjge : next.length ≤ j := by have h := hb12; simp only [List.length_map, decide_eq_false_iff_not] at h; omega
 refine AGo.exit ?_;refine asr ?_;refine aa 12 ?_;refine an ?_;refine agt ⟨[_], ⟨rfl, trivial⟩, ?_, rfl⟩
 refine bc ?_;exact (vsame_yes (ndec_yes hef) z38q (all_end hall hjge)).symm
theorem shaped_ok (old new : BFunc) (hno : old.blocks.length ≤ 10000) (hnn : new.blocks.length ≤ 10000) (hio : ∀ x ∈ old.blocks, x.ins.length ≤ 10000 ∧ insW x.ins) (hin : ∀ x ∈ new.blocks, x.ins.length ≤ 10000 ∧ insW x.ins) : APure Tryz.prog 130 [.agg old.cells, .agg new.cells] (fun r => r = .bool (vshaped old new)) := by
 refine APure.of_body (n := 65) tok Tryz.func130 rfl rfl ?_;refine asr ?_;refine ax 2 (obx 2 0) ?_;refine ax 3 (obx 2 1) ?_;refine aa 4 ?_;refine an ?_;refine asq ?_;refine asr ?_;refine aQ tok 6 rfl ?_;refine aop 13 (fun hb1 => ?_) fun hb1 => ?_
 ·
  refine aQ tok 18 rfl ?_;refine an ?_;refine act ?_;refine asr ?_;refine aa 4 ?_;refine an ?_;refine agt ⟨[_], ⟨rfl, trivial⟩, ?_, rfl⟩
  refine bc ?_
  first
  | exact (vshaped_regs (by assumption)).symm
  | exact (vshaped_len' (by assumption)).symm
  | exact (vshaped_s1 (ndec_same' (b := old.stands) (by assumption))).symm
  | exact (vshaped_s2 (ndec_same' (b := new.stands) (by assumption))).symm
 refine aQ tok 9 rfl ?_;refine aop 22 (fun hb2 => ?_) fun hb2 => ?_
 ·
  refine aQ tok 9 rfl ?_;refine an ?_;refine act ?_;refine asr ?_;refine aa 4 ?_;refine an ?_;refine agt ⟨[_], ⟨rfl, trivial⟩, ?_, rfl⟩
  refine bc ?_
  first
  | exact (vshaped_regs (by assumption)).symm
  | exact (vshaped_len' (by assumption)).symm
  | exact (vshaped_s1 (ndec_same' (b := old.stands) (by assumption))).symm
  | exact (vshaped_s2 (ndec_same' (b := new.stands) (by assumption))).symm
 refine al 23 tok ?_;refine ax 24 (opu Tryz.func132 (stands_ok old (by omega) (fun x hx => by have := (hio x hx).1; omega))) ?_
 refine aQ tok 3 rfl ?_;refine aop 27 (fun hb3 => ?_) fun hb3 => ?_
 ·
  refine aQ tok 4 rfl ?_;refine an ?_;refine act ?_;refine asr ?_;refine aa 4 ?_;refine an ?_;refine agt ⟨[_], ⟨rfl, trivial⟩, ?_, rfl⟩
  refine bc ?_
  first
  | exact (vshaped_regs (by assumption)).symm
  | exact (vshaped_len' (by assumption)).symm
  | exact (vshaped_s1 (ndec_same' (b := old.stands) (by assumption))).symm
  | exact (vshaped_s2 (ndec_same' (b := new.stands) (by assumption))).symm
 refine al 28 tok ?_;refine ax 29 (opu Tryz.func132 (stands_ok new (by omega) (fun x hx => by have := (hin x hx).1; omega))) ?_
 refine aQ tok 2 rfl ?_;refine an ?_;refine asp 31 (fun hb4 => ?_) fun hb4 => ?_
 ·
  refine act ?_;refine asr ?_;refine aa 4 ?_;refine an ?_;refine agt ⟨[_], ⟨rfl, trivial⟩, ?_, rfl⟩
  refine bc ?_
  first
  | exact (vshaped_regs (by assumption)).symm
  | exact (vshaped_len' (by assumption)).symm
  | exact (vshaped_s1 (ndec_same' (b := old.stands) (by assumption))).symm
  | exact (vshaped_s2 (ndec_same' (b := new.stands) (by assumption))).symm
 refine acf ?_
 have hlen := len_eq' (by assumption)
 refine agk ?_;refine asq ?_;refine asr ?_;refine aQ tok 4 rfl ?_;refine an ?_;refine AGo.block ?_;refine AGo.loopD (γ := Nat) 2 (fun k => ⟨65, (eput (eput (eput (eput (eput eNew 2 (.ptr 0 1 0 0)) 3 (.ptr 1 1 0 0)) 33 (blocksAV old.blocks)) 34 (.int .i64 (old.blocks.length : Int))) 35 (.int .i64 (k : Int))), (hput (hput (hFrom 2) 0 (.row false 2 [old.cells])) 1 (.row false 2 [new.cells]))⟩) (fun k => k ≤ old.blocks.length ∧ ((old.blocks.zip new.blocks).take k).all (fun p => shapeB p.1 p.2) = true) (fun k => old.blocks.length - k) 0 (Sub.mk' z29q z12q) ⟨Nat.zero_le _, rfl⟩ (fun _ => hput_free (hput_free (fun b hb => hFrom_free hb) rfl) rfl) ?_
 intro k ⟨hk, hall⟩
 refine asr ?_;refine aqb ?_;refine an ?_;refine asq ?_;refine asp 36 (fun hb5 => ?_) fun hb5 => ?_
 ·
  refine act ?_
  have hkl : k < old.blocks.length := by simpa using hb5
  obtain ⟨x, hx⟩ := get_of_lt hkl
  obtain ⟨y, hy⟩ := get_of_lt (l := new.blocks) (k := k) (by omega)
  refine agk ?_;refine asq ?_;refine AGo.block ?_;refine asr ?_;refine am 37 ?_;refine aq 38 (qil tok (idx_map hx)) ?_;refine al 39 tok ?_;refine ax 6 (oal tok 2) ?_;refine aa 5 ?_;refine AOps.w rfl rfl (o_store tok rfl rfl rfl rfl rfl rfl rfl rfl rfl (by decide) rfl z51q) ?_;refine an ?_;refine asr ?_;refine aQ tok 3 rfl ?_;refine aq 43 (qil tok (idx_map hy)) ?_;refine al 44 tok ?_;refine ax 7 (oal tok 3) ?_;refine AOps.w rfl rfl (o_store tok rfl rfl rfl rfl rfl rfl rfl rfl rfl (by decide) rfl z51q) ?_;refine an ?_;refine asr ?_;refine aQ tok 6 rfl ?_;refine aop 50 (fun hb6 => ?_) fun hb6 => ?_
  ·
   refine aQ tok 13 rfl ?_;refine an ?_;refine act ?_;refine asr ?_;refine aa 4 ?_;refine an ?_;refine agt ⟨[_], ⟨rfl, trivial⟩, ?_, rfl⟩
   refine bc ?_
   first
   | exact (vshaped_b hx hy (shape_f (by assumption))).symm
   | exact (vshaped_b hx hy (shape_t (by assumption))).symm
   | exact (vshaped_b hx hy (shape_e (by assumption))).symm
  refine aQ tok 7 rfl ?_;refine aop 57 (fun hb7 => ?_) fun hb7 => ?_
  ·
   refine aQ tok 6 rfl ?_;refine an ?_;refine act ?_;refine asr ?_;refine aa 4 ?_;refine an ?_;refine agt ⟨[_], ⟨rfl, trivial⟩, ?_, rfl⟩
   refine bc ?_
   first
   | exact (vshaped_b hx hy (shape_f (by assumption))).symm
   | exact (vshaped_b hx hy (shape_t (by assumption))).symm
   | exact (vshaped_b hx hy (shape_e (by assumption))).symm
  refine aQ tok 6 rfl ?_;refine an ?_;refine asp 63 (fun hb8 => ?_) fun hb8 => ?_
  ·
   refine act ?_;refine asr ?_;refine aa 4 ?_;refine an ?_;refine agt ⟨[_], ⟨rfl, trivial⟩, ?_, rfl⟩
   refine bc ?_
   first
   | exact (vshaped_b hx hy (shape_f (by assumption))).symm
   | exact (vshaped_b hx hy (shape_t (by assumption))).symm
   | exact (vshaped_b hx hy (shape_e (by assumption))).symm
  refine acf ?_;refine agk ?_;refine agr ?_;refine aq 64 (q_inc rfl rfl hkl (show old.blocks.length ≤ maxLen by simp only [maxLen]; omega)) ?_
  refine am 35 ?_;refine an ?_;exact ⟨k+1, Drop.mk' z31q z18q, ⟨hkl, all_succ (zip_at hx hy) hall (shape_y (by assumption) (by assumption) (by assumption))⟩, by omega⟩
 refine acf ?_
 have hge : old.blocks.length ≤ k := by simpa using hb5
 refine AGo.exit ?_;refine asr ?_;refine aa 4 ?_;refine an ?_;refine agt ⟨[_], ⟨rfl, trivial⟩, ?_, rfl⟩
 refine bc ?_;exact (vshaped_yes (bne_eq' (by assumption)) hlen (ndec_same (by assumption)) (ndec_same (by assumption)) (all_end hall (by rw [List.length_zip]; omega))).symm
theorem vcheck_ok (old new : BFunc) (hno : old.blocks.length ≤ 10000) (hnn : new.blocks.length ≤ 10000) (hio : ∀ x ∈ old.blocks, x.ins.length ≤ 10000 ∧ insW x.ins) (hin : ∀ x ∈ new.blocks, x.ins.length ≤ 10000 ∧ insW x.ins) (c : Cert) : APure Tryz.prog 129 [.agg old.cells, .agg new.cells, .agg c.cells] (fun r => r = .bool (vcheck old new c)) := by
 refine APure.of_body (n := 66) tok Tryz.func129 rfl rfl ?_;refine asr ?_;refine ax 3 (obx 2 0) ?_;refine ax 4 (obx 2 1) ?_;refine ax 5 (obx 1 2) ?_;refine aa 6 ?_;refine an ?_;refine asq ?_;refine asr ?_;refine aQ tok 2 rfl ?_;refine ax 13 (opu Tryz.func130 (shaped_ok old new hno hnn hio hin)) ?_;refine aQ tok 2 rfl ?_;refine aop 15 (fun hb1 => ?_) fun hb1 => ?_
 ·
  refine aQ tok 8 rfl ?_;refine an ?_;refine act ?_;refine asr ?_;refine aa 6 ?_;refine an ?_;refine agt ⟨[_], ⟨rfl, trivial⟩, ?_, rfl⟩
  refine bc ?_
  first
  | exact (vcheck_no1 (ndec_same' (b := vshaped old new) (by assumption))).symm
  | exact (vcheck_no2 (by assumption)).symm
 refine aQ tok 8 rfl ?_;refine an ?_;refine asp 23 (fun hb2 => ?_) fun hb2 => ?_
 ·
  refine act ?_;refine asr ?_;refine aa 6 ?_;refine an ?_;refine agt ⟨[_], ⟨rfl, trivial⟩, ?_, rfl⟩
  refine bc ?_
  first
  | exact (vcheck_no1 (ndec_same' (b := vshaped old new) (by assumption))).symm
  | exact (vcheck_no2 (by assumption)).symm
 refine acf ?_
 have hsh : vshaped old new = true := ndec_same (by assumption)
 have hcl := cert_len (old := old) (c := c) (by assumption)
 have hV := vshaped_of hsh
 have hSo := stands_of hV.so
 have hSn := stands_of hV.sn
 have hr0 := hSo.r0
 have hr1 := hSo.r1
 have hR : ((old.regs.toNat : Nat) : Int) = old.regs := Int.toNat_of_nonneg hr0
 refine agk ?_;refine asq ?_;refine asr ?_;refine aQ tok 4 rfl ?_;refine an ?_;refine AGo.block ?_;refine AGo.loopD (γ := Nat) 3 (fun j => ⟨66, (eput (eput (eput (eput (eput (eput eNew 3 (.ptr 0 1 0 0)) 4 (.ptr 1 1 0 0)) 5 (.ptr 2 1 0 0)) 25 (rowsAV c.same)) 26 (.int .i64 (c.same.length : Int))) 27 (.int .i64 (j : Int))), (hput (hput (hput (hFrom 3) 0 (.row false 2 [old.cells])) 1 (.row false 2 [new.cells])) 2 (.row false 1 [c.cells]))⟩) (fun j => j ≤ c.same.length ∧ (c.same.take j).all (fun r => decide ((r.length : Int) = old.regs)) = true) (fun j => c.same.length - j) 0 (Sub.mk' z29q z12q) ⟨Nat.zero_le _, rfl⟩ (fun _ => hput_free (hput_free (hput_free (fun b hb => hFrom_free hb) rfl) rfl) rfl) ?_
 intro j ⟨hj, hall⟩
 refine asr ?_;refine aqb ?_;refine an ?_;refine asq ?_;refine asp 28 (fun hb3 => ?_) fun hb3 => ?_
 ·
  refine act ?_
  have hjl : j < c.same.length := by have h := hb3; simp only [List.length_map, decide_eq_true_eq] at h; omega
  obtain ⟨r, hr⟩ := get_of_lt hjl
  refine agk ?_;refine asq ?_;refine AGo.block ?_;refine asr ?_;refine aq 29 (qil tok (idx_map hr)) ?_;refine aQ tok 2 rfl ?_;refine an ?_;refine asr ?_;refine aQ tok 5 rfl ?_;refine an ?_;refine asp 35 (fun hb4 => ?_) fun hb4 => ?_
  ·
   refine act ?_
   have hne : ¬ (r.length : Int) = old.regs := by have h := bne_ne' hb4; rw [List.length_map] at h; exact h
   refine asr ?_;refine aa 6 ?_;refine an ?_;refine agt ⟨[_], ⟨rfl, trivial⟩, ?_, rfl⟩
   refine bc ?_;exact (vcheck_no3 hr hne).symm
  refine acf ?_
  have heq : (r.length : Int) = old.regs := by have h := bne_eq' hb4; rw [List.length_map] at h; exact h
  refine agk ?_;refine agr ?_;refine aq 36 (q_inc rfl rfl hjl (show c.same.length ≤ maxLen by simp only [maxLen]; omega)) ?_
  refine am 27 ?_;refine an ?_;exact ⟨j+1, Drop.mk' z31q z18q, ⟨hjl, all_succ hr hall (decide_eq_true heq)⟩, by omega⟩
 refine acf ?_
 have hjge : c.same.length ≤ j := by have h := hb3; simp only [List.length_map, decide_eq_false_iff_not] at h; omega
 have hall2 := all_end hall hjge
 have hrl : ∀ r ∈ c.same, r.length = old.regs.toNat := fun r hr => by have := List.all_eq_true.1 hall2 r hr; simp only [decide_eq_true_eq] at this; omega
 refine AGo.exit ?_;refine asr ?_;refine al 37 tok ?_;refine ax 38 (opu Tryz.func80 (next_ok old (by omega))) ?_;refine aa 9 ?_;refine an ?_;refine asq ?_;refine asr ?_;refine aQ tok 4 rfl ?_;refine an ?_;refine AGo.block ?_;refine AGo.loopD (γ := Nat) 3 (fun k => ⟨66, (eput (eput (eput (eput (eput (eput eNew 3 (.ptr 0 1 0 0)) 4 (.ptr 1 1 0 0)) 5 (.ptr 2 1 0 0)) 9 (pathsAV old.nexts)) 41 (.int .i64 (old.blocks.length : Int))) 42 (.int .i64 (k : Int))), (hput (hput (hput (hFrom 3) 0 (.row false 2 [old.cells])) 1 (.row false 2 [new.cells])) 2 (.row false 1 [c.cells]))⟩) (fun k => k ≤ old.blocks.length ∧ ((old.blocks.zip new.blocks).zipIdx.take k).all (fun p => vsame old.regs.toNat p.1.1 p.1.2 c (p.2 : Int) p.1.1.nexts) = true) (fun k => old.blocks.length - k) 0 (Sub.mk' z29q z12q) ⟨Nat.zero_le _, rfl⟩ (fun _ => hput_free (hput_free (hput_free (fun b hb => hFrom_free hb) rfl) rfl) rfl) ?_
 intro k ⟨hk, hallb⟩
 refine asr ?_;refine aqb ?_;refine an ?_;refine asq ?_;refine asp 43 (fun hb5 => ?_) fun hb5 => ?_
 ·
  refine act ?_
  have hkl : k < old.blocks.length := by simpa using hb5
  obtain ⟨x, hx⟩ := get_of_lt hkl
  have hxm := List.mem_of_getElem? hx
  obtain ⟨y, hy⟩ := get_of_lt (l := new.blocks) (k := k) (by have := hV.len; omega)
  have hym := List.mem_of_getElem? hy
  have hsb := hV.b k x y hx hy
  have hnx : ∀ q ∈ x.nexts, 0 ≤ q ∧ q < c.same.length := fun q hq => by rw [hcl]; exact hSo.next x hxm q hq
  have hvv : x.fin = 2 → (0 ≤ x.v ∧ x.v < (old.regs.toNat : Int)) ∧ (0 ≤ y.v ∧ y.v < (old.regs.toNat : Int)) := fun hf => by rw [hR]; refine ⟨hSo.v x hxm hf, ?_⟩; rw [hV.regs]; exact hSn.v y hym (by rw [← hsb.1]; exact hf)
  have hto : ∀ t ∈ x.ins, TacV t old.regs.toNat := fun t ht => hSo.tacs x hxm t ht ((hio x hxm).2 t ht)
  have htn : ∀ t ∈ y.ins, TacV t old.regs.toNat := fun t ht => by rw [hV.regs]; exact hSn.tacs y hym t ht ((hin y hym).2 t ht)
  have hnl : x.nexts.length ≤ 100000 := nexts_short x
  refine agk ?_;refine asq ?_;refine AGo.block ?_;refine asr ?_;refine aQ tok 2 rfl ?_;refine an ?_;refine asq ?_;refine AGo.draw mix ?_;refine dQ tok 3 rfl ?_;refine dq 48 (qil tok (idx_map hx)) ?_;refine dQ tok 4 rfl ?_;refine dq 53 (qil tok (idx_map hy)) ?_;refine dQ tok 7 rfl ?_;refine dq 61 (q_index_lst tok rfl rfl rfl rfl rfl rfl (Int.natCast_nonneg _) (idx_map (nexts_get hx)) rfl) ?_;refine dl 62 tok ?_;refine dx 63 (opu Tryz.func131 ((by have h := vsame_ok x y old.regs.toNat c (k : Int) x.nexts (by omega) hrl (by omega) hnx hvv hto htn (hio x (List.mem_of_getElem? hx)).1 (hin y (List.mem_of_getElem? hy)).1 hnl; rw [hR] at h; exact h))) ?_;refine dq 64 (q_not rfl rfl) ?_;refine DOps.nil (by kernel_rfl) ?_;refine asp 64 (fun hb6 => ?_) fun hb6 => ?_
  ·
   refine act ?_
   have hbad := ndec_same' hb6
   refine asr ?_;refine aa 6 ?_;refine an ?_;refine agt ⟨[_], ⟨rfl, trivial⟩, ?_, rfl⟩
   refine bc ?_;exact (vcheck_no4 hx hy hbad).symm
  refine acf ?_
  have hgood := ndec_same hb6
  refine agk ?_;refine agr ?_;refine aq 65 (q_inc rfl rfl hkl (show old.blocks.length ≤ maxLen by simp only [maxLen]; omega)) ?_
  refine am 42 ?_;refine an ?_;exact ⟨k+1, Drop.mk' z31q z18q, ⟨hkl, all_succ (zipIdx_get (zip_at hx hy)) hallb hgood⟩, by omega⟩
 refine acf ?_
 have hge : old.blocks.length ≤ k := by simpa using hb5
 refine AGo.exit ?_;refine asr ?_;refine aa 6 ?_;refine an ?_;refine agt ⟨[_], ⟨rfl, trivial⟩, ?_, rfl⟩
 refine bc ?_;exact (vcheck_yes hsh hcl hall2 (all_end hallb (by rw [List.length_zipIdx, List.length_zip]; omega))).symm
end Go.Proofs.YtbbfelelocccmaaGreat.Sv
