/-
  WALKS: printed by a program of our own from the code's tree.
  WALKS: printed by a program of our own from the code's tree.
  WALKS: printed by a program of our own from the code's tree.
-/
import Derived.Test.YtophfphgcbnafaaPBlockRuns2
namespace Go.Proofs.Ytophfphgcbnafaa.Sv
open Go
set_option linter.unusedVariables false
set_option linter.unusedSimpArgs false

set_option maxRecDepth 100000 in
theorem enter1_ok (h : AHeap) (b : Blocks) (F : BFunc) (f0 nf k n : Nat) (x1 x3 x4 x5 : AV) (tab : List (List AV)) (hh0 : h 0 = some (.row false 6 [[funcsAV b.funcs, x1, .ref 2 nf 0 nf, x3, x4, x5]])) (hh2 : h 2 = some (.row false 1 tab)) (hnt : nf = tab.length) (hfn : ((f0 : Nat) : Int) < ((nf : Nat) : Int)) (hF : b.funcs[f0]? = some F) (hreg : F.regs = (n : Int)) (hn4 : n ≤ 4000) (hfree : h k = some .free) (hk : k ≠ 0 ∧ k ≠ 2 ∧ k ≠ f0 + 16) (hget : tab[f0]? = some [.nil]) (hn0 : n = 0) : ACall Try.prog 27 [.ptr 0 1 0 0, .int .i64 (f0 : Int)] h (fun r h'' => r = .agg [.int .i64 (f0 : Int), .int .i64 0, .int .i64 0, .lst false []] ∧ HSub (hput (hrm h k) 2 (.row false 1 (tab.set f0 [.lst false []]))) h'') := by
  obtain ⟨hk0, hk2, hkr⟩ := hk
  have hr0 : f0 + 16 ≠ 0 := by omega
  have hr2 : f0 + 16 ≠ 2 := by omega
  have hg2 : tab[0 + ((f0 : Nat) : Int).toNat]? = some [.nil] := by rw [Nat.zero_add, Int.toNat_natCast]; exact hget
  have hg3 : (tab.set (0 + ((f0 : Nat) : Int).toNat) [.lst false []])[0 + ((f0 : Nat) : Int).toNat]? = some [.lst false []] := get_set_selfZ hg2
  have hnt2 : nf = (tab.set (0 + ((f0 : Nat) : Int).toNat) [.lst false []]).length := by rw [List.length_set]; exact hnt
  have hts : tab.set (0 + ((f0 : Nat) : Int).toNat) [.lst false []] = tab.set f0 [.lst false []] := by rw [Nat.zero_add, Int.toNat_natCast]
  refine ACall.of_body (n := 44) tok Try.func27 rfl rfl ?_
  refine AGo.seq ?_
  refine AGo.region ?_
  refine AOps.x 4 rfl rfl rfl (o_alloc tok k rfl rfl (by (try simp only [hputs]); repeat (first | assumption | exact hput_same _ _ _ | refine hput_skip (by first | rfl | assumption | exact beq_false_of_ne (by omega)) ?_)) rfl (Nat.zero_lt_succ _) rfl) ?_
  refine AOps.nil ?_
  refine AGo.seq ?_
  refine AGo.seq ?_
  refine AGo.region ?_
  refine AOps.s 5 rfl rfl rfl (q_move (.inl rfl) rfl) ?_
  refine AOps.s 6 rfl rfl rfl (q_nilCheck rfl rfl rfl) ?_
  refine AOps.s 7 rfl rfl rfl (q_fieldAddr tok rfl rfl rfl rfl rfl rfl) ?_
  refine AOps.s 8 rfl rfl rfl (q_load tok rfl rfl rfl (.ptr _ _ _ _ _ _ [[funcsAV b.funcs, x1, .ref 2 nf 0 nf, x3, x4, x5]] _ (by (try simp only [hputs]); repeat (first | assumption | exact hput_same _ _ _ | refine hput_skip (by first | rfl | assumption | exact beq_false_of_ne (by omega)) ?_)) rfl rfl) rfl) ?_
  refine AOps.s 9 rfl rfl rfl (q_move (.inl rfl) rfl) ?_
  refine AOps.s 10 rfl rfl rfl (q_index_ref tok (es := tab) rfl rfl rfl rfl rfl rfl (by (try simp only [hputs]); repeat (first | assumption | exact hput_same _ _ _ | refine hput_skip (by first | rfl | assumption | exact beq_false_of_ne (by omega)) ?_)) hnt rfl (Int.natCast_nonneg _) hfn) ?_
  refine AOps.s 11 rfl rfl rfl (q_load tok rfl rfl rfl (.ptr _ _ _ _ _ _ tab [.nil] (by (try simp only [hputs]); repeat (first | assumption | exact hput_same _ _ _ | refine hput_skip (by first | rfl | assumption | exact beq_false_of_ne (by omega)) ?_)) hnt hg2) rfl) ?_
  refine AOps.s 12 rfl rfl rfl (q_eqNil tok rfl rfl rfl rfl) ?_
  refine AOps.nil ?_
  refine AGo.cond_true true rfl rfl ?_
  refine AGo.draw mix ?_
  refine DOps.s 13 rfl rfl rfl (q_move (.inl rfl) rfl) ?_
  refine DOps.s 14 rfl rfl rfl (q_nilCheck rfl rfl rfl) ?_
  refine DOps.s 15 rfl rfl rfl (q_fieldAddr tok rfl rfl rfl rfl rfl rfl) ?_
  refine DOps.s 16 rfl rfl rfl (q_load tok rfl rfl rfl (.ptr _ _ _ _ _ _ [[funcsAV b.funcs, x1, .ref 2 nf 0 nf, x3, x4, x5]] _ (by (try simp only [hputs]); repeat (first | assumption | exact hput_same _ _ _ | refine hput_skip (by first | rfl | assumption | exact beq_false_of_ne (by omega)) ?_)) rfl rfl) rfl) ?_
  refine DOps.s 17 rfl rfl rfl (q_move (.inl rfl) rfl) ?_
  refine DOps.s 18 rfl rfl rfl (q_move (.inl rfl) rfl) ?_
  refine DOps.s 19 rfl rfl rfl (q_nilCheck rfl rfl rfl) ?_
  refine DOps.s 20 rfl rfl rfl (q_fieldAddr tok rfl rfl rfl rfl rfl rfl) ?_
  refine DOps.s 21 rfl rfl rfl (q_load tok rfl rfl rfl (.ptr _ _ _ _ _ _ [[funcsAV b.funcs, x1, .ref 2 nf 0 nf, x3, x4, x5]] _ (by (try simp only [hputs]); repeat (first | assumption | exact hput_same _ _ _ | refine hput_skip (by first | rfl | assumption | exact beq_false_of_ne (by omega)) ?_)) rfl rfl) rfl) ?_
  refine DOps.s 22 rfl rfl rfl (q_move (.inl rfl) rfl) ?_
  refine DOps.s 23 rfl rfl rfl (q_index_lst tok rfl rfl rfl rfl rfl rfl (Int.natCast_nonneg _) (idx_map hF) rfl) ?_
  refine DOps.s 24 rfl rfl rfl (q_fieldAddr tok rfl rfl rfl rfl rfl rfl) ?_
  refine DOps.s 25 rfl rfl rfl (q_load tok rfl rfl rfl (by first | exact .loc _ | exact .ptr _ _ _ _ _ _ _ _ rfl rfl rfl) rfl) ?_
  refine DOps.x 26 rfl rfl rfl (o_make0 tok rfl rfl rfl (by rw [hreg, hn0]; rfl) (by rw [hreg, hn0]; rfl) rfl rfl rfl rfl (Nat.zero_lt_succ _) rfl) ?_
  refine DOps.s 27 rfl rfl rfl (q_index_ref tok (es := tab) rfl rfl rfl rfl rfl rfl (by (try simp only [hputs]); repeat (first | assumption | exact hput_same _ _ _ | refine hput_skip (by first | rfl | assumption | exact beq_false_of_ne (by omega)) ?_)) hnt rfl (Int.natCast_nonneg _) hfn) ?_
  refine DOps.w rfl rfl (o_store tok (es := tab) rfl rfl rfl rfl rfl (by (try simp only [hputs]); repeat (first | assumption | exact hput_same _ _ _ | refine hput_skip (by first | rfl | assumption | exact beq_false_of_ne (by omega)) ?_)) hnt hg2 rfl (by decide) rfl (by intro h; cases h)) ?_
  refine DOps.nil (by kernel_rfl) ?_
  refine AGo.seq ?_
  refine AGo.region ?_
  refine AOps.s 28 rfl rfl rfl (q_move (.inl rfl) rfl) ?_
  refine AOps.s 29 rfl rfl rfl (q_nilCheck rfl rfl rfl) ?_
  refine AOps.s 30 rfl rfl rfl (q_fieldAddr tok rfl rfl rfl rfl rfl rfl) ?_
  refine AOps.s 31 rfl rfl rfl (q_load tok rfl rfl rfl (.ptr _ _ _ _ _ _ [[funcsAV b.funcs, x1, .ref 2 nf 0 nf, x3, x4, x5]] _ (by (try simp only [hputs]); repeat (first | assumption | exact hput_same _ _ _ | refine hput_skip (by first | rfl | assumption | exact beq_false_of_ne (by omega)) ?_)) rfl rfl) rfl) ?_
  refine AOps.s 32 rfl rfl rfl (q_move (.inl rfl) rfl) ?_
  refine AOps.s 33 rfl rfl rfl (q_index_ref tok (es := (tab.set (0 + ((f0 : Nat) : Int).toNat) [.lst false []])) rfl rfl rfl rfl rfl rfl (by (try simp only [hputs]); repeat (first | assumption | exact hput_same _ _ _ | refine hput_skip (by first | rfl | assumption | exact beq_false_of_ne (by omega)) ?_)) hnt2 rfl (Int.natCast_nonneg _) hfn) ?_
  refine AOps.s 34 rfl rfl rfl (q_load tok rfl rfl rfl (.ptr _ _ _ _ _ _ (tab.set (0 + ((f0 : Nat) : Int).toNat) [.lst false []]) [.lst false []] (by (try simp only [hputs]); repeat (first | assumption | exact hput_same _ _ _ | refine hput_skip (by first | rfl | assumption | exact beq_false_of_ne (by omega)) ?_)) hnt2 hg3) rfl) ?_
  refine AOps.w rfl rfl (o_clear0 tok rfl rfl rfl rfl) ?_
  refine AOps.nil ?_
  refine AGo.seq ?_
  refine AGo.region ?_
  refine AOps.s 35 rfl rfl rfl (q_move (.inl rfl) rfl) ?_
  refine AOps.s 36 rfl rfl rfl (q_move (.inl rfl) rfl) ?_
  refine AOps.s 37 rfl rfl rfl (q_nilCheck rfl rfl rfl) ?_
  refine AOps.s 38 rfl rfl rfl (q_fieldAddr tok rfl rfl rfl rfl rfl rfl) ?_
  refine AOps.s 39 rfl rfl rfl (q_load tok rfl rfl rfl (.ptr _ _ _ _ _ _ [[funcsAV b.funcs, x1, .ref 2 nf 0 nf, x3, x4, x5]] _ (by (try simp only [hputs]); repeat (first | assumption | exact hput_same _ _ _ | refine hput_skip (by first | rfl | assumption | exact beq_false_of_ne (by omega)) ?_)) rfl rfl) rfl) ?_
  refine AOps.s 40 rfl rfl rfl (q_move (.inl rfl) rfl) ?_
  refine AOps.s 41 rfl rfl rfl (q_index_ref tok (es := (tab.set (0 + ((f0 : Nat) : Int).toNat) [.lst false []])) rfl rfl rfl rfl rfl rfl (by (try simp only [hputs]); repeat (first | assumption | exact hput_same _ _ _ | refine hput_skip (by first | rfl | assumption | exact beq_false_of_ne (by omega)) ?_)) hnt2 rfl (Int.natCast_nonneg _) hfn) ?_
  refine AOps.s 42 rfl rfl rfl (q_load tok rfl rfl rfl (.ptr _ _ _ _ _ _ (tab.set (0 + ((f0 : Nat) : Int).toNat) [.lst false []]) [.lst false []] (by (try simp only [hputs]); repeat (first | assumption | exact hput_same _ _ _ | refine hput_skip (by first | rfl | assumption | exact beq_false_of_ne (by omega)) ?_)) hnt2 hg3) rfl) ?_
  refine AOps.s 43 rfl rfl rfl (q_build tok rfl rfl rfl rfl rfl (by decide) rfl rfl rfl) ?_
  refine AOps.w rfl rfl (o_store tok (es := [[.int .i64 0, .int .i64 0, .int .i64 0, .nil]]) rfl rfl rfl rfl rfl (by (try simp only [hputs]); repeat (first | assumption | exact hput_same _ _ _ | refine hput_skip (by first | rfl | assumption | exact beq_false_of_ne (by omega)) ?_)) rfl rfl rfl (by decide) rfl (by intro h; cases h)) ?_
  refine AOps.nil ?_
  refine AGo.ret ?_
  have hend : ∀ h'' : AHeap, h'' = h'' := fun _ => rfl
  exact ⟨[_], ⟨⟨_, _, _, _, rfl, rfl, .ptr _ _ _ _ _ _ [[.int .i64 (f0 : Int), .int .i64 0, .int .i64 0, .lst false []]] _ (by (try simp only [hputs]); repeat (first | assumption | exact hput_same _ _ _ | refine hput_skip (by first | rfl | assumption | exact beq_false_of_ne (by omega)) ?_)) rfl rfl, rfl⟩, trivial⟩, rfl, HSub.put' (by rw [← hts]; (try simp only [hputs]); repeat (first | assumption | exact hput_same _ _ _ | refine hput_skip (by first | rfl | assumption | exact beq_false_of_ne (by omega)) ?_)) (fun c q hc hq => by obtain ⟨q1, q2⟩ := hrm_some hq; simp only [hputs, hput_ne _ _ q1, hput_ne _ _ hc, q2])⟩

set_option maxRecDepth 100000 in
theorem enter2_ok (h : AHeap) (b : Blocks) (F : BFunc) (f0 nf k n : Nat) (x1 x3 x4 x5 : AV) (tab : List (List AV)) (hh0 : h 0 = some (.row false 6 [[funcsAV b.funcs, x1, .ref 2 nf 0 nf, x3, x4, x5]])) (hh2 : h 2 = some (.row false 1 tab)) (hnt : nf = tab.length) (hfn : ((f0 : Nat) : Int) < ((nf : Nat) : Int)) (hF : b.funcs[f0]? = some F) (hreg : F.regs = (n : Int)) (hn4 : n ≤ 4000) (hfree : h k = some .free) (hk : k ≠ 0 ∧ k ≠ 2 ∧ k ≠ f0 + 16) (hget : tab[f0]? = some [.nil]) (hpos : 0 < n) (hrb : h (f0 + 16) = some .free) : ACall Try.prog 27 [.ptr 0 1 0 0, .int .i64 (f0 : Int)] h (fun r h'' => r = .agg [.int .i64 (f0 : Int), .int .i64 0, .int .i64 0, .ref (f0 + 16) n 0 n] ∧ HSub (hput (hput (hrm h k) 2 (.row false 1 (tab.set f0 [.ref (f0 + 16) n 0 n]))) (f0 + 16) (.row true 1 (regCells (List.replicate n 0)))) h'') := by
  obtain ⟨hk0, hk2, hkr⟩ := hk
  have hr0 : f0 + 16 ≠ 0 := by omega
  have hr2 : f0 + 16 ≠ 2 := by omega
  have hg2 : tab[0 + ((f0 : Nat) : Int).toNat]? = some [.nil] := by rw [Nat.zero_add, Int.toNat_natCast]; exact hget
  have hg3 : (tab.set (0 + ((f0 : Nat) : Int).toNat) [.ref (f0 + 16) n 0 n])[0 + ((f0 : Nat) : Int).toNat]? = some [.ref (f0 + 16) n 0 n] := get_set_selfZ hg2
  have hnt2 : nf = (tab.set (0 + ((f0 : Nat) : Int).toNat) [.ref (f0 + 16) n 0 n]).length := by rw [List.length_set]; exact hnt
  have hts : tab.set (0 + ((f0 : Nat) : Int).toNat) [.ref (f0 + 16) n 0 n] = tab.set f0 [.ref (f0 + 16) n 0 n] := by rw [Nat.zero_add, Int.toNat_natCast]
  refine ACall.of_body (n := 44) tok Try.func27 rfl rfl ?_
  refine AGo.seq ?_
  refine AGo.region ?_
  refine AOps.x 4 rfl rfl rfl (o_alloc tok k rfl rfl (by (try simp only [hputs]); repeat (first | assumption | exact hput_same _ _ _ | refine hput_skip (by first | rfl | assumption | exact beq_false_of_ne (by omega)) ?_)) rfl (Nat.zero_lt_succ _) rfl) ?_
  refine AOps.nil ?_
  refine AGo.seq ?_
  refine AGo.seq ?_
  refine AGo.region ?_
  refine AOps.s 5 rfl rfl rfl (q_move (.inl rfl) rfl) ?_
  refine AOps.s 6 rfl rfl rfl (q_nilCheck rfl rfl rfl) ?_
  refine AOps.s 7 rfl rfl rfl (q_fieldAddr tok rfl rfl rfl rfl rfl rfl) ?_
  refine AOps.s 8 rfl rfl rfl (q_load tok rfl rfl rfl (.ptr _ _ _ _ _ _ [[funcsAV b.funcs, x1, .ref 2 nf 0 nf, x3, x4, x5]] _ (by (try simp only [hputs]); repeat (first | assumption | exact hput_same _ _ _ | refine hput_skip (by first | rfl | assumption | exact beq_false_of_ne (by omega)) ?_)) rfl rfl) rfl) ?_
  refine AOps.s 9 rfl rfl rfl (q_move (.inl rfl) rfl) ?_
  refine AOps.s 10 rfl rfl rfl (q_index_ref tok (es := tab) rfl rfl rfl rfl rfl rfl (by (try simp only [hputs]); repeat (first | assumption | exact hput_same _ _ _ | refine hput_skip (by first | rfl | assumption | exact beq_false_of_ne (by omega)) ?_)) hnt rfl (Int.natCast_nonneg _) hfn) ?_
  refine AOps.s 11 rfl rfl rfl (q_load tok rfl rfl rfl (.ptr _ _ _ _ _ _ tab [.nil] (by (try simp only [hputs]); repeat (first | assumption | exact hput_same _ _ _ | refine hput_skip (by first | rfl | assumption | exact beq_false_of_ne (by omega)) ?_)) hnt hg2) rfl) ?_
  refine AOps.s 12 rfl rfl rfl (q_eqNil tok rfl rfl rfl rfl) ?_
  refine AOps.nil ?_
  refine AGo.cond_true true rfl rfl ?_
  refine AGo.draw mix ?_
  refine DOps.s 13 rfl rfl rfl (q_move (.inl rfl) rfl) ?_
  refine DOps.s 14 rfl rfl rfl (q_nilCheck rfl rfl rfl) ?_
  refine DOps.s 15 rfl rfl rfl (q_fieldAddr tok rfl rfl rfl rfl rfl rfl) ?_
  refine DOps.s 16 rfl rfl rfl (q_load tok rfl rfl rfl (.ptr _ _ _ _ _ _ [[funcsAV b.funcs, x1, .ref 2 nf 0 nf, x3, x4, x5]] _ (by (try simp only [hputs]); repeat (first | assumption | exact hput_same _ _ _ | refine hput_skip (by first | rfl | assumption | exact beq_false_of_ne (by omega)) ?_)) rfl rfl) rfl) ?_
  refine DOps.s 17 rfl rfl rfl (q_move (.inl rfl) rfl) ?_
  refine DOps.s 18 rfl rfl rfl (q_move (.inl rfl) rfl) ?_
  refine DOps.s 19 rfl rfl rfl (q_nilCheck rfl rfl rfl) ?_
  refine DOps.s 20 rfl rfl rfl (q_fieldAddr tok rfl rfl rfl rfl rfl rfl) ?_
  refine DOps.s 21 rfl rfl rfl (q_load tok rfl rfl rfl (.ptr _ _ _ _ _ _ [[funcsAV b.funcs, x1, .ref 2 nf 0 nf, x3, x4, x5]] _ (by (try simp only [hputs]); repeat (first | assumption | exact hput_same _ _ _ | refine hput_skip (by first | rfl | assumption | exact beq_false_of_ne (by omega)) ?_)) rfl rfl) rfl) ?_
  refine DOps.s 22 rfl rfl rfl (q_move (.inl rfl) rfl) ?_
  refine DOps.s 23 rfl rfl rfl (q_index_lst tok rfl rfl rfl rfl rfl rfl (Int.natCast_nonneg _) (idx_map hF) rfl) ?_
  refine DOps.s 24 rfl rfl rfl (q_fieldAddr tok rfl rfl rfl rfl rfl rfl) ?_
  refine DOps.s 25 rfl rfl rfl (q_load tok rfl rfl rfl (by first | exact .loc _ | exact .ptr _ _ _ _ _ _ _ _ rfl rfl rfl) rfl) ?_
  refine DOps.x 26 rfl rfl rfl (o_makeSlice tok (n := n) (m := n) (f0 + 16) true rfl rfl rfl hreg hreg rfl rfl rfl (by (try simp only [hputs]); repeat (first | assumption | exact hput_same _ _ _ | refine hput_skip (by first | rfl | assumption | exact beq_false_of_ne (by omega)) ?_)) rfl (Nat.zero_lt_succ _) rfl (Nat.le_refl _) (by show 4 * n ≤ _; omega) (by simp only [maxLen]; omega)) ?_
  refine DOps.s 27 rfl rfl rfl (q_index_ref tok (es := tab) rfl rfl rfl rfl rfl rfl (by (try simp only [hputs]); repeat (first | assumption | exact hput_same _ _ _ | refine hput_skip (by first | rfl | assumption | exact beq_false_of_ne (by omega)) ?_)) hnt rfl (Int.natCast_nonneg _) hfn) ?_
  refine DOps.w rfl rfl (o_store tok (es := tab) rfl rfl rfl rfl rfl (by (try simp only [hputs]); repeat (first | assumption | exact hput_same _ _ _ | refine hput_skip (by first | rfl | assumption | exact beq_false_of_ne (by omega)) ?_)) hnt hg2 rfl (by decide) rfl (by intro h; cases h)) ?_
  refine DOps.nil (by kernel_rfl) ?_
  refine AGo.seq ?_
  refine AGo.region ?_
  refine AOps.s 28 rfl rfl rfl (q_move (.inl rfl) rfl) ?_
  refine AOps.s 29 rfl rfl rfl (q_nilCheck rfl rfl rfl) ?_
  refine AOps.s 30 rfl rfl rfl (q_fieldAddr tok rfl rfl rfl rfl rfl rfl) ?_
  refine AOps.s 31 rfl rfl rfl (q_load tok rfl rfl rfl (.ptr _ _ _ _ _ _ [[funcsAV b.funcs, x1, .ref 2 nf 0 nf, x3, x4, x5]] _ (by (try simp only [hputs]); repeat (first | assumption | exact hput_same _ _ _ | refine hput_skip (by first | rfl | assumption | exact beq_false_of_ne (by omega)) ?_)) rfl rfl) rfl) ?_
  refine AOps.s 32 rfl rfl rfl (q_move (.inl rfl) rfl) ?_
  refine AOps.s 33 rfl rfl rfl (q_index_ref tok (es := (tab.set (0 + ((f0 : Nat) : Int).toNat) [.ref (f0 + 16) n 0 n])) rfl rfl rfl rfl rfl rfl (by (try simp only [hputs]); repeat (first | assumption | exact hput_same _ _ _ | refine hput_skip (by first | rfl | assumption | exact beq_false_of_ne (by omega)) ?_)) hnt2 rfl (Int.natCast_nonneg _) hfn) ?_
  refine AOps.s 34 rfl rfl rfl (q_load tok rfl rfl rfl (.ptr _ _ _ _ _ _ (tab.set (0 + ((f0 : Nat) : Int).toNat) [.ref (f0 + 16) n 0 n]) [.ref (f0 + 16) n 0 n] (by (try simp only [hputs]); repeat (first | assumption | exact hput_same _ _ _ | refine hput_skip (by first | rfl | assumption | exact beq_false_of_ne (by omega)) ?_)) hnt2 hg3) rfl) ?_
  refine AOps.w rfl rfl (o_clear tok (es := List.replicate n [.int .u32 0]) rfl rfl rfl rfl rfl (by (try simp only [hputs]); repeat (first | assumption | exact hput_same _ _ _ | refine hput_skip (by first | rfl | assumption | exact beq_false_of_ne (by omega)) ?_)) (by simp) hpos rfl rfl rfl rfl) ?_
  refine AOps.nil ?_
  refine AGo.seq ?_
  refine AGo.region ?_
  refine AOps.s 35 rfl rfl rfl (q_move (.inl rfl) rfl) ?_
  refine AOps.s 36 rfl rfl rfl (q_move (.inl rfl) rfl) ?_
  refine AOps.s 37 rfl rfl rfl (q_nilCheck rfl rfl rfl) ?_
  refine AOps.s 38 rfl rfl rfl (q_fieldAddr tok rfl rfl rfl rfl rfl rfl) ?_
  refine AOps.s 39 rfl rfl rfl (q_load tok rfl rfl rfl (.ptr _ _ _ _ _ _ [[funcsAV b.funcs, x1, .ref 2 nf 0 nf, x3, x4, x5]] _ (by (try simp only [hputs]); repeat (first | assumption | exact hput_same _ _ _ | refine hput_skip (by first | rfl | assumption | exact beq_false_of_ne (by omega)) ?_)) rfl rfl) rfl) ?_
  refine AOps.s 40 rfl rfl rfl (q_move (.inl rfl) rfl) ?_
  refine AOps.s 41 rfl rfl rfl (q_index_ref tok (es := (tab.set (0 + ((f0 : Nat) : Int).toNat) [.ref (f0 + 16) n 0 n])) rfl rfl rfl rfl rfl rfl (by (try simp only [hputs]); repeat (first | assumption | exact hput_same _ _ _ | refine hput_skip (by first | rfl | assumption | exact beq_false_of_ne (by omega)) ?_)) hnt2 rfl (Int.natCast_nonneg _) hfn) ?_
  refine AOps.s 42 rfl rfl rfl (q_load tok rfl rfl rfl (.ptr _ _ _ _ _ _ (tab.set (0 + ((f0 : Nat) : Int).toNat) [.ref (f0 + 16) n 0 n]) [.ref (f0 + 16) n 0 n] (by (try simp only [hputs]); repeat (first | assumption | exact hput_same _ _ _ | refine hput_skip (by first | rfl | assumption | exact beq_false_of_ne (by omega)) ?_)) hnt2 hg3) rfl) ?_
  refine AOps.s 43 rfl rfl rfl (q_build tok rfl rfl rfl rfl rfl (by decide) rfl rfl rfl) ?_
  refine AOps.w rfl rfl (o_store tok (es := [[.int .i64 0, .int .i64 0, .int .i64 0, .nil]]) rfl rfl rfl rfl rfl (by (try simp only [hputs]); repeat (first | assumption | exact hput_same _ _ _ | refine hput_skip (by first | rfl | assumption | exact beq_false_of_ne (by omega)) ?_)) rfl rfl rfl (by decide) rfl (by intro h; cases h)) ?_
  refine AOps.nil ?_
  refine AGo.ret ?_
  have hend : ∀ h'' : AHeap, h'' = h'' := fun _ => rfl
  exact ⟨[_], ⟨⟨_, _, _, _, rfl, rfl, .ptr _ _ _ _ _ _ [[.int .i64 (f0 : Int), .int .i64 0, .int .i64 0, .ref (f0 + 16) n 0 n]] _ (by (try simp only [hputs]); repeat (first | assumption | exact hput_same _ _ _ | refine hput_skip (by first | rfl | assumption | exact beq_false_of_ne (by omega)) ?_)) rfl rfl, rfl⟩, trivial⟩, rfl, HSub.put2 (by rw [← hts]; (try simp only [hputs]); repeat (first | assumption | exact hput_same _ _ _ | refine hput_skip (by first | rfl | assumption | exact beq_false_of_ne (by omega)) ?_)) (by rw [← regs_rep]; (try simp only [hputs]); repeat (first | assumption | exact hput_same _ _ _ | refine hput_skip (by first | rfl | assumption | exact beq_false_of_ne (by omega)) ?_)) (fun c q hc hc2 hq => by obtain ⟨q1, q2⟩ := hrm_some hq; simp only [hputs, hput_ne _ _ q1, hput_ne _ _ hc, hput_ne _ _ hc2, q2])⟩

set_option maxRecDepth 100000 in
theorem enter3_ok (h : AHeap) (b : Blocks) (F : BFunc) (f0 nf k n : Nat) (x1 x3 x4 x5 : AV) (tab : List (List AV)) (hh0 : h 0 = some (.row false 6 [[funcsAV b.funcs, x1, .ref 2 nf 0 nf, x3, x4, x5]])) (hh2 : h 2 = some (.row false 1 tab)) (hnt : nf = tab.length) (hfn : ((f0 : Nat) : Int) < ((nf : Nat) : Int)) (hF : b.funcs[f0]? = some F) (hreg : F.regs = (n : Int)) (hn4 : n ≤ 4000) (hfree : h k = some .free) (hk : k ≠ 0 ∧ k ≠ 2 ∧ k ≠ f0 + 16) (hget : tab[f0]? = some [.lst false []]) (hn0 : n = 0) : ACall Try.prog 27 [.ptr 0 1 0 0, .int .i64 (f0 : Int)] h (fun r h'' => r = .agg [.int .i64 (f0 : Int), .int .i64 0, .int .i64 0, .lst false []] ∧ HSub (hput (hrm h k) 2 (.row false 1 (tab.set f0 [.lst false []]))) h'') := by
  obtain ⟨hk0, hk2, hkr⟩ := hk
  have hr0 : f0 + 16 ≠ 0 := by omega
  have hr2 : f0 + 16 ≠ 2 := by omega
  have hg2 : tab[0 + ((f0 : Nat) : Int).toNat]? = some [.lst false []] := by rw [Nat.zero_add, Int.toNat_natCast]; exact hget
  have hg3 : (tab.set (0 + ((f0 : Nat) : Int).toNat) [.lst false []])[0 + ((f0 : Nat) : Int).toNat]? = some [.lst false []] := get_set_selfZ hg2
  have hnt2 : nf = (tab.set (0 + ((f0 : Nat) : Int).toNat) [.lst false []]).length := by rw [List.length_set]; exact hnt
  have hts : tab.set (0 + ((f0 : Nat) : Int).toNat) [.lst false []] = tab.set f0 [.lst false []] := by rw [Nat.zero_add, Int.toNat_natCast]
  have htt : tab.set f0 [.lst false []] = tab := set_same hget
  have hsame : tab.set (0 + ((f0 : Nat) : Int).toNat) (splice [.lst false []] 0 (AV.cells (.lst false []))) = tab := by rw [Nat.zero_add, Int.toNat_natCast]; exact set_same hget
  refine ACall.of_body (n := 44) tok Try.func27 rfl rfl ?_
  refine AGo.seq ?_
  refine AGo.region ?_
  refine AOps.x 4 rfl rfl rfl (o_alloc tok k rfl rfl (by (try simp only [hputs]); repeat (first | assumption | exact hput_same _ _ _ | refine hput_skip (by first | rfl | assumption | exact beq_false_of_ne (by omega)) ?_)) rfl (Nat.zero_lt_succ _) rfl) ?_
  refine AOps.nil ?_
  refine AGo.seq ?_
  refine AGo.seq ?_
  refine AGo.region ?_
  refine AOps.s 5 rfl rfl rfl (q_move (.inl rfl) rfl) ?_
  refine AOps.s 6 rfl rfl rfl (q_nilCheck rfl rfl rfl) ?_
  refine AOps.s 7 rfl rfl rfl (q_fieldAddr tok rfl rfl rfl rfl rfl rfl) ?_
  refine AOps.s 8 rfl rfl rfl (q_load tok rfl rfl rfl (.ptr _ _ _ _ _ _ [[funcsAV b.funcs, x1, .ref 2 nf 0 nf, x3, x4, x5]] _ (by (try simp only [hputs]); repeat (first | assumption | exact hput_same _ _ _ | refine hput_skip (by first | rfl | assumption | exact beq_false_of_ne (by omega)) ?_)) rfl rfl) rfl) ?_
  refine AOps.s 9 rfl rfl rfl (q_move (.inl rfl) rfl) ?_
  refine AOps.s 10 rfl rfl rfl (q_index_ref tok (es := tab) rfl rfl rfl rfl rfl rfl (by (try simp only [hputs]); repeat (first | assumption | exact hput_same _ _ _ | refine hput_skip (by first | rfl | assumption | exact beq_false_of_ne (by omega)) ?_)) hnt rfl (Int.natCast_nonneg _) hfn) ?_
  refine AOps.s 11 rfl rfl rfl (q_load tok rfl rfl rfl (.ptr _ _ _ _ _ _ tab [.lst false []] (by (try simp only [hputs]); repeat (first | assumption | exact hput_same _ _ _ | refine hput_skip (by first | rfl | assumption | exact beq_false_of_ne (by omega)) ?_)) hnt hg2) rfl) ?_
  refine AOps.ex 12 rfl rfl rfl (o_anyNil tok rfl rfl rfl rfl) ?_
  intro W_ r_ hS_
  rcases hS_ with ⟨rfl, v, rfl⟩
  · -- way 0
    refine AOps.nil ?_
    refine AGo.split 12 rfl (fun hb1 => ?_) (fun hb1 => ?_)
    · -- True
      refine AGo.cond_true true rfl rfl ?_
      refine AGo.draw mix ?_
      refine DOps.s 13 rfl rfl rfl (q_move (.inl rfl) rfl) ?_
      refine DOps.s 14 rfl rfl rfl (q_nilCheck rfl rfl rfl) ?_
      refine DOps.s 15 rfl rfl rfl (q_fieldAddr tok rfl rfl rfl rfl rfl rfl) ?_
      refine DOps.s 16 rfl rfl rfl (q_load tok rfl rfl rfl (.ptr _ _ _ _ _ _ [[funcsAV b.funcs, x1, .ref 2 nf 0 nf, x3, x4, x5]] _ (by (try simp only [hputs]); repeat (first | assumption | exact hput_same _ _ _ | refine hput_skip (by first | rfl | assumption | exact beq_false_of_ne (by omega)) ?_)) rfl rfl) rfl) ?_
      refine DOps.s 17 rfl rfl rfl (q_move (.inl rfl) rfl) ?_
      refine DOps.s 18 rfl rfl rfl (q_move (.inl rfl) rfl) ?_
      refine DOps.s 19 rfl rfl rfl (q_nilCheck rfl rfl rfl) ?_
      refine DOps.s 20 rfl rfl rfl (q_fieldAddr tok rfl rfl rfl rfl rfl rfl) ?_
      refine DOps.s 21 rfl rfl rfl (q_load tok rfl rfl rfl (.ptr _ _ _ _ _ _ [[funcsAV b.funcs, x1, .ref 2 nf 0 nf, x3, x4, x5]] _ (by (try simp only [hputs]); repeat (first | assumption | exact hput_same _ _ _ | refine hput_skip (by first | rfl | assumption | exact beq_false_of_ne (by omega)) ?_)) rfl rfl) rfl) ?_
      refine DOps.s 22 rfl rfl rfl (q_move (.inl rfl) rfl) ?_
      refine DOps.s 23 rfl rfl rfl (q_index_lst tok rfl rfl rfl rfl rfl rfl (Int.natCast_nonneg _) (idx_map hF) rfl) ?_
      refine DOps.s 24 rfl rfl rfl (q_fieldAddr tok rfl rfl rfl rfl rfl rfl) ?_
      refine DOps.s 25 rfl rfl rfl (q_load tok rfl rfl rfl (by first | exact .loc _ | exact .ptr _ _ _ _ _ _ _ _ rfl rfl rfl) rfl) ?_
      refine DOps.x 26 rfl rfl rfl (o_make0 tok rfl rfl rfl (by rw [hreg, hn0]; rfl) (by rw [hreg, hn0]; rfl) rfl rfl rfl rfl (Nat.zero_lt_succ _) rfl) ?_
      refine DOps.s 27 rfl rfl rfl (q_index_ref tok (es := tab) rfl rfl rfl rfl rfl rfl (by (try simp only [hputs]); repeat (first | assumption | exact hput_same _ _ _ | refine hput_skip (by first | rfl | assumption | exact beq_false_of_ne (by omega)) ?_)) hnt rfl (Int.natCast_nonneg _) hfn) ?_
      refine DOps.w rfl rfl (o_store tok (es := tab) rfl rfl rfl rfl rfl (by (try simp only [hputs]); repeat (first | assumption | exact hput_same _ _ _ | refine hput_skip (by first | rfl | assumption | exact beq_false_of_ne (by omega)) ?_)) hnt hg2 rfl (by decide) rfl (by intro h; cases h)) ?_
      refine DOps.nil (by kernel_rfl) ?_
      refine AGo.seq ?_
      try rw [hsame]
      try simp only [hputs, hsame]
      refine AGo.region ?_
      refine AOps.s 28 rfl rfl rfl (q_move (.inl rfl) rfl) ?_
      refine AOps.s 29 rfl rfl rfl (q_nilCheck rfl rfl rfl) ?_
      refine AOps.s 30 rfl rfl rfl (q_fieldAddr tok rfl rfl rfl rfl rfl rfl) ?_
      refine AOps.s 31 rfl rfl rfl (q_load tok rfl rfl rfl (.ptr _ _ _ _ _ _ [[funcsAV b.funcs, x1, .ref 2 nf 0 nf, x3, x4, x5]] _ (by (try simp only [hputs]); repeat (first | assumption | exact hput_same _ _ _ | refine hput_skip (by first | rfl | assumption | exact beq_false_of_ne (by omega)) ?_)) rfl rfl) rfl) ?_
      refine AOps.s 32 rfl rfl rfl (q_move (.inl rfl) rfl) ?_
      refine AOps.s 33 rfl rfl rfl (q_index_ref tok (es := tab) rfl rfl rfl rfl rfl rfl (by (try simp only [hputs]); repeat (first | assumption | exact hput_same _ _ _ | refine hput_skip (by first | rfl | assumption | exact beq_false_of_ne (by omega)) ?_)) hnt rfl (Int.natCast_nonneg _) hfn) ?_
      refine AOps.s 34 rfl rfl rfl (q_load tok rfl rfl rfl (.ptr _ _ _ _ _ _ tab [.lst false []] (by (try simp only [hputs]); repeat (first | assumption | exact hput_same _ _ _ | refine hput_skip (by first | rfl | assumption | exact beq_false_of_ne (by omega)) ?_)) hnt hg2) rfl) ?_
      refine AOps.w rfl rfl (o_clear0 tok rfl rfl rfl rfl) ?_
      refine AOps.nil ?_
      refine AGo.seq ?_
      refine AGo.region ?_
      refine AOps.s 35 rfl rfl rfl (q_move (.inl rfl) rfl) ?_
      refine AOps.s 36 rfl rfl rfl (q_move (.inl rfl) rfl) ?_
      refine AOps.s 37 rfl rfl rfl (q_nilCheck rfl rfl rfl) ?_
      refine AOps.s 38 rfl rfl rfl (q_fieldAddr tok rfl rfl rfl rfl rfl rfl) ?_
      refine AOps.s 39 rfl rfl rfl (q_load tok rfl rfl rfl (.ptr _ _ _ _ _ _ [[funcsAV b.funcs, x1, .ref 2 nf 0 nf, x3, x4, x5]] _ (by (try simp only [hputs]); repeat (first | assumption | exact hput_same _ _ _ | refine hput_skip (by first | rfl | assumption | exact beq_false_of_ne (by omega)) ?_)) rfl rfl) rfl) ?_
      refine AOps.s 40 rfl rfl rfl (q_move (.inl rfl) rfl) ?_
      refine AOps.s 41 rfl rfl rfl (q_index_ref tok (es := tab) rfl rfl rfl rfl rfl rfl (by (try simp only [hputs]); repeat (first | assumption | exact hput_same _ _ _ | refine hput_skip (by first | rfl | assumption | exact beq_false_of_ne (by omega)) ?_)) hnt rfl (Int.natCast_nonneg _) hfn) ?_
      refine AOps.s 42 rfl rfl rfl (q_load tok rfl rfl rfl (.ptr _ _ _ _ _ _ tab [.lst false []] (by (try simp only [hputs]); repeat (first | assumption | exact hput_same _ _ _ | refine hput_skip (by first | rfl | assumption | exact beq_false_of_ne (by omega)) ?_)) hnt hg2) rfl) ?_
      refine AOps.s 43 rfl rfl rfl (q_build tok rfl rfl rfl rfl rfl (by decide) rfl rfl rfl) ?_
      refine AOps.w rfl rfl (o_store tok (es := [[.int .i64 0, .int .i64 0, .int .i64 0, .nil]]) rfl rfl rfl rfl rfl (by (try simp only [hputs]); repeat (first | assumption | exact hput_same _ _ _ | refine hput_skip (by first | rfl | assumption | exact beq_false_of_ne (by omega)) ?_)) rfl rfl rfl (by decide) rfl (by intro h; cases h)) ?_
      refine AOps.nil ?_
      refine AGo.ret ?_
      have hend : ∀ h'' : AHeap, h'' = h'' := fun _ => rfl
      exact ⟨[_], ⟨⟨_, _, _, _, rfl, rfl, .ptr _ _ _ _ _ _ [[.int .i64 (f0 : Int), .int .i64 0, .int .i64 0, .lst false []]] _ (by (try simp only [hputs]); repeat (first | assumption | exact hput_same _ _ _ | refine hput_skip (by first | rfl | assumption | exact beq_false_of_ne (by omega)) ?_)) rfl rfl, rfl⟩, trivial⟩, rfl, HSub.put' (by rw [htt]; (try simp only [hputs]); repeat (first | assumption | exact hput_same _ _ _ | refine hput_skip (by first | rfl | assumption | exact beq_false_of_ne (by omega)) ?_)) (fun c q hc hq => by obtain ⟨q1, q2⟩ := hrm_some hq; simp only [hputs, hput_ne _ _ q1, hput_ne _ _ hc, q2])⟩
    · -- False
      refine AGo.cond_false false rfl rfl ?_
      refine AGo.skip ?_
      refine AGo.seq ?_
      try rw [hsame]
      try simp only [hputs, hsame]
      refine AGo.region ?_
      refine AOps.s 28 rfl rfl rfl (q_move (.inl rfl) rfl) ?_
      refine AOps.s 29 rfl rfl rfl (q_nilCheck rfl rfl rfl) ?_
      refine AOps.s 30 rfl rfl rfl (q_fieldAddr tok rfl rfl rfl rfl rfl rfl) ?_
      refine AOps.s 31 rfl rfl rfl (q_load tok rfl rfl rfl (.ptr _ _ _ _ _ _ [[funcsAV b.funcs, x1, .ref 2 nf 0 nf, x3, x4, x5]] _ (by (try simp only [hputs]); repeat (first | assumption | exact hput_same _ _ _ | refine hput_skip (by first | rfl | assumption | exact beq_false_of_ne (by omega)) ?_)) rfl rfl) rfl) ?_
      refine AOps.s 32 rfl rfl rfl (q_move (.inl rfl) rfl) ?_
      refine AOps.s 33 rfl rfl rfl (q_index_ref tok (es := tab) rfl rfl rfl rfl rfl rfl (by (try simp only [hputs]); repeat (first | assumption | exact hput_same _ _ _ | refine hput_skip (by first | rfl | assumption | exact beq_false_of_ne (by omega)) ?_)) hnt rfl (Int.natCast_nonneg _) hfn) ?_
      refine AOps.s 34 rfl rfl rfl (q_load tok rfl rfl rfl (.ptr _ _ _ _ _ _ tab [.lst false []] (by (try simp only [hputs]); repeat (first | assumption | exact hput_same _ _ _ | refine hput_skip (by first | rfl | assumption | exact beq_false_of_ne (by omega)) ?_)) hnt hg2) rfl) ?_
      refine AOps.w rfl rfl (o_clear0 tok rfl rfl rfl rfl) ?_
      refine AOps.nil ?_
      refine AGo.seq ?_
      refine AGo.region ?_
      refine AOps.s 35 rfl rfl rfl (q_move (.inl rfl) rfl) ?_
      refine AOps.s 36 rfl rfl rfl (q_move (.inl rfl) rfl) ?_
      refine AOps.s 37 rfl rfl rfl (q_nilCheck rfl rfl rfl) ?_
      refine AOps.s 38 rfl rfl rfl (q_fieldAddr tok rfl rfl rfl rfl rfl rfl) ?_
      refine AOps.s 39 rfl rfl rfl (q_load tok rfl rfl rfl (.ptr _ _ _ _ _ _ [[funcsAV b.funcs, x1, .ref 2 nf 0 nf, x3, x4, x5]] _ (by (try simp only [hputs]); repeat (first | assumption | exact hput_same _ _ _ | refine hput_skip (by first | rfl | assumption | exact beq_false_of_ne (by omega)) ?_)) rfl rfl) rfl) ?_
      refine AOps.s 40 rfl rfl rfl (q_move (.inl rfl) rfl) ?_
      refine AOps.s 41 rfl rfl rfl (q_index_ref tok (es := tab) rfl rfl rfl rfl rfl rfl (by (try simp only [hputs]); repeat (first | assumption | exact hput_same _ _ _ | refine hput_skip (by first | rfl | assumption | exact beq_false_of_ne (by omega)) ?_)) hnt rfl (Int.natCast_nonneg _) hfn) ?_
      refine AOps.s 42 rfl rfl rfl (q_load tok rfl rfl rfl (.ptr _ _ _ _ _ _ tab [.lst false []] (by (try simp only [hputs]); repeat (first | assumption | exact hput_same _ _ _ | refine hput_skip (by first | rfl | assumption | exact beq_false_of_ne (by omega)) ?_)) hnt hg2) rfl) ?_
      refine AOps.s 43 rfl rfl rfl (q_build tok rfl rfl rfl rfl rfl (by decide) rfl rfl rfl) ?_
      refine AOps.w rfl rfl (o_store tok (es := [[.int .i64 0, .int .i64 0, .int .i64 0, .nil]]) rfl rfl rfl rfl rfl (by (try simp only [hputs]); repeat (first | assumption | exact hput_same _ _ _ | refine hput_skip (by first | rfl | assumption | exact beq_false_of_ne (by omega)) ?_)) rfl rfl rfl (by decide) rfl (by intro h; cases h)) ?_
      refine AOps.nil ?_
      refine AGo.ret ?_
      have hend : ∀ h'' : AHeap, h'' = h'' := fun _ => rfl
      exact ⟨[_], ⟨⟨_, _, _, _, rfl, rfl, .ptr _ _ _ _ _ _ [[.int .i64 (f0 : Int), .int .i64 0, .int .i64 0, .lst false []]] _ (by (try simp only [hputs]); repeat (first | assumption | exact hput_same _ _ _ | refine hput_skip (by first | rfl | assumption | exact beq_false_of_ne (by omega)) ?_)) rfl rfl, rfl⟩, trivial⟩, rfl, HSub.put' (by rw [htt]; (try simp only [hputs]); repeat (first | assumption | exact hput_same _ _ _ | refine hput_skip (by first | rfl | assumption | exact beq_false_of_ne (by omega)) ?_)) (fun c q hc hq => by obtain ⟨q1, q2⟩ := hrm_some hq; simp only [hputs, hput_ne _ _ q1, hput_ne _ _ hc, q2])⟩

set_option maxRecDepth 100000 in
theorem enter4_ok (h : AHeap) (b : Blocks) (F : BFunc) (f0 nf k n : Nat) (x1 x3 x4 x5 : AV) (tab : List (List AV)) (hh0 : h 0 = some (.row false 6 [[funcsAV b.funcs, x1, .ref 2 nf 0 nf, x3, x4, x5]])) (hh2 : h 2 = some (.row false 1 tab)) (hnt : nf = tab.length) (hfn : ((f0 : Nat) : Int) < ((nf : Nat) : Int)) (hF : b.funcs[f0]? = some F) (hreg : F.regs = (n : Int)) (hn4 : n ≤ 4000) (hfree : h k = some .free) (hk : k ≠ 0 ∧ k ≠ 2 ∧ k ≠ f0 + 16) (hget : tab[f0]? = some [.ref (f0 + 16) n 0 n]) (hpos : 0 < n) (l : List Int) (hl : l.length = n) (hrb : h (f0 + 16) = some (.row true 1 (regCells l))) : ACall Try.prog 27 [.ptr 0 1 0 0, .int .i64 (f0 : Int)] h (fun r h'' => r = .agg [.int .i64 (f0 : Int), .int .i64 0, .int .i64 0, .ref (f0 + 16) n 0 n] ∧ HSub (hput (hput (hrm h k) 2 (.row false 1 (tab.set f0 [.ref (f0 + 16) n 0 n]))) (f0 + 16) (.row true 1 (regCells (List.replicate n 0)))) h'') := by
  obtain ⟨hk0, hk2, hkr⟩ := hk
  have hr0 : f0 + 16 ≠ 0 := by omega
  have hr2 : f0 + 16 ≠ 2 := by omega
  have hg2 : tab[0 + ((f0 : Nat) : Int).toNat]? = some [.ref (f0 + 16) n 0 n] := by rw [Nat.zero_add, Int.toNat_natCast]; exact hget
  have hg3 : (tab.set (0 + ((f0 : Nat) : Int).toNat) [.ref (f0 + 16) n 0 n])[0 + ((f0 : Nat) : Int).toNat]? = some [.ref (f0 + 16) n 0 n] := get_set_selfZ hg2
  have hnt2 : nf = (tab.set (0 + ((f0 : Nat) : Int).toNat) [.ref (f0 + 16) n 0 n]).length := by rw [List.length_set]; exact hnt
  have hts : tab.set (0 + ((f0 : Nat) : Int).toNat) [.ref (f0 + 16) n 0 n] = tab.set f0 [.ref (f0 + 16) n 0 n] := by rw [Nat.zero_add, Int.toNat_natCast]
  have htt : tab.set f0 [.ref (f0 + 16) n 0 n] = tab := set_same hget
  have hsame : tab.set (0 + ((f0 : Nat) : Int).toNat) (splice [.ref (f0 + 16) n 0 n] 0 (AV.cells (.ref (f0 + 16) n 0 n))) = tab := by rw [Nat.zero_add, Int.toNat_natCast]; exact set_same hget
  refine ACall.of_body (n := 44) tok Try.func27 rfl rfl ?_
  refine AGo.seq ?_
  refine AGo.region ?_
  refine AOps.x 4 rfl rfl rfl (o_alloc tok k rfl rfl (by (try simp only [hputs]); repeat (first | assumption | exact hput_same _ _ _ | refine hput_skip (by first | rfl | assumption | exact beq_false_of_ne (by omega)) ?_)) rfl (Nat.zero_lt_succ _) rfl) ?_
  refine AOps.nil ?_
  refine AGo.seq ?_
  refine AGo.seq ?_
  refine AGo.region ?_
  refine AOps.s 5 rfl rfl rfl (q_move (.inl rfl) rfl) ?_
  refine AOps.s 6 rfl rfl rfl (q_nilCheck rfl rfl rfl) ?_
  refine AOps.s 7 rfl rfl rfl (q_fieldAddr tok rfl rfl rfl rfl rfl rfl) ?_
  refine AOps.s 8 rfl rfl rfl (q_load tok rfl rfl rfl (.ptr _ _ _ _ _ _ [[funcsAV b.funcs, x1, .ref 2 nf 0 nf, x3, x4, x5]] _ (by (try simp only [hputs]); repeat (first | assumption | exact hput_same _ _ _ | refine hput_skip (by first | rfl | assumption | exact beq_false_of_ne (by omega)) ?_)) rfl rfl) rfl) ?_
  refine AOps.s 9 rfl rfl rfl (q_move (.inl rfl) rfl) ?_
  refine AOps.s 10 rfl rfl rfl (q_index_ref tok (es := tab) rfl rfl rfl rfl rfl rfl (by (try simp only [hputs]); repeat (first | assumption | exact hput_same _ _ _ | refine hput_skip (by first | rfl | assumption | exact beq_false_of_ne (by omega)) ?_)) hnt rfl (Int.natCast_nonneg _) hfn) ?_
  refine AOps.s 11 rfl rfl rfl (q_load tok rfl rfl rfl (.ptr _ _ _ _ _ _ tab [.ref (f0 + 16) n 0 n] (by (try simp only [hputs]); repeat (first | assumption | exact hput_same _ _ _ | refine hput_skip (by first | rfl | assumption | exact beq_false_of_ne (by omega)) ?_)) hnt hg2) rfl) ?_
  refine AOps.s 12 rfl rfl rfl (q_neNil tok (es := regCells l) rfl rfl rfl rfl (by (try simp only [hputs]); repeat (first | assumption | exact hput_same _ _ _ | refine hput_skip (by first | rfl | assumption | exact beq_false_of_ne (by omega)) ?_)) (by rw [regCells_len, hl]) hpos) ?_
  refine AOps.nil ?_
  refine AGo.cond_false false rfl rfl ?_
  refine AGo.skip ?_
  refine AGo.seq ?_
  refine AGo.region ?_
  refine AOps.s 28 rfl rfl rfl (q_move (.inl rfl) rfl) ?_
  refine AOps.s 29 rfl rfl rfl (q_nilCheck rfl rfl rfl) ?_
  refine AOps.s 30 rfl rfl rfl (q_fieldAddr tok rfl rfl rfl rfl rfl rfl) ?_
  refine AOps.s 31 rfl rfl rfl (q_load tok rfl rfl rfl (.ptr _ _ _ _ _ _ [[funcsAV b.funcs, x1, .ref 2 nf 0 nf, x3, x4, x5]] _ (by (try simp only [hputs]); repeat (first | assumption | exact hput_same _ _ _ | refine hput_skip (by first | rfl | assumption | exact beq_false_of_ne (by omega)) ?_)) rfl rfl) rfl) ?_
  refine AOps.s 32 rfl rfl rfl (q_move (.inl rfl) rfl) ?_
  refine AOps.s 33 rfl rfl rfl (q_index_ref tok (es := tab) rfl rfl rfl rfl rfl rfl (by (try simp only [hputs]); repeat (first | assumption | exact hput_same _ _ _ | refine hput_skip (by first | rfl | assumption | exact beq_false_of_ne (by omega)) ?_)) hnt rfl (Int.natCast_nonneg _) hfn) ?_
  refine AOps.s 34 rfl rfl rfl (q_load tok rfl rfl rfl (.ptr _ _ _ _ _ _ tab [.ref (f0 + 16) n 0 n] (by (try simp only [hputs]); repeat (first | assumption | exact hput_same _ _ _ | refine hput_skip (by first | rfl | assumption | exact beq_false_of_ne (by omega)) ?_)) hnt hg2) rfl) ?_
  refine AOps.w rfl rfl (o_clear tok (es := regCells l) rfl rfl rfl rfl rfl (by (try simp only [hputs]); repeat (first | assumption | exact hput_same _ _ _ | refine hput_skip (by first | rfl | assumption | exact beq_false_of_ne (by omega)) ?_)) (by rw [regCells_len, hl]) hpos rfl rfl rfl rfl) ?_
  refine AOps.nil ?_
  refine AGo.seq ?_
  refine AGo.region ?_
  refine AOps.s 35 rfl rfl rfl (q_move (.inl rfl) rfl) ?_
  refine AOps.s 36 rfl rfl rfl (q_move (.inl rfl) rfl) ?_
  refine AOps.s 37 rfl rfl rfl (q_nilCheck rfl rfl rfl) ?_
  refine AOps.s 38 rfl rfl rfl (q_fieldAddr tok rfl rfl rfl rfl rfl rfl) ?_
  refine AOps.s 39 rfl rfl rfl (q_load tok rfl rfl rfl (.ptr _ _ _ _ _ _ [[funcsAV b.funcs, x1, .ref 2 nf 0 nf, x3, x4, x5]] _ (by (try simp only [hputs]); repeat (first | assumption | exact hput_same _ _ _ | refine hput_skip (by first | rfl | assumption | exact beq_false_of_ne (by omega)) ?_)) rfl rfl) rfl) ?_
  refine AOps.s 40 rfl rfl rfl (q_move (.inl rfl) rfl) ?_
  refine AOps.s 41 rfl rfl rfl (q_index_ref tok (es := tab) rfl rfl rfl rfl rfl rfl (by (try simp only [hputs]); repeat (first | assumption | exact hput_same _ _ _ | refine hput_skip (by first | rfl | assumption | exact beq_false_of_ne (by omega)) ?_)) hnt rfl (Int.natCast_nonneg _) hfn) ?_
  refine AOps.s 42 rfl rfl rfl (q_load tok rfl rfl rfl (.ptr _ _ _ _ _ _ tab [.ref (f0 + 16) n 0 n] (by (try simp only [hputs]); repeat (first | assumption | exact hput_same _ _ _ | refine hput_skip (by first | rfl | assumption | exact beq_false_of_ne (by omega)) ?_)) hnt hg2) rfl) ?_
  refine AOps.s 43 rfl rfl rfl (q_build tok rfl rfl rfl rfl rfl (by decide) rfl rfl rfl) ?_
  refine AOps.w rfl rfl (o_store tok (es := [[.int .i64 0, .int .i64 0, .int .i64 0, .nil]]) rfl rfl rfl rfl rfl (by (try simp only [hputs]); repeat (first | assumption | exact hput_same _ _ _ | refine hput_skip (by first | rfl | assumption | exact beq_false_of_ne (by omega)) ?_)) rfl rfl rfl (by decide) rfl (by intro h; cases h)) ?_
  refine AOps.nil ?_
  refine AGo.ret ?_
  have hend : ∀ h'' : AHeap, h'' = h'' := fun _ => rfl
  exact ⟨[_], ⟨⟨_, _, _, _, rfl, rfl, .ptr _ _ _ _ _ _ [[.int .i64 (f0 : Int), .int .i64 0, .int .i64 0, .ref (f0 + 16) n 0 n]] _ (by (try simp only [hputs]); repeat (first | assumption | exact hput_same _ _ _ | refine hput_skip (by first | rfl | assumption | exact beq_false_of_ne (by omega)) ?_)) rfl rfl, rfl⟩, trivial⟩, rfl, HSub.put2 (by rw [htt]; (try simp only [hputs]); repeat (first | assumption | exact hput_same _ _ _ | refine hput_skip (by first | rfl | assumption | exact beq_false_of_ne (by omega)) ?_)) (by rw [← regs_rep]; (try simp only [hputs]); repeat (first | assumption | exact hput_same _ _ _ | refine hput_skip (by first | rfl | assumption | exact beq_false_of_ne (by omega)) ?_)) (fun c q hc hc2 hq => by obtain ⟨q1, q2⟩ := hrm_some hq; simp only [hputs, hput_ne _ _ q1, hput_ne _ _ hc, hput_ne _ _ hc2, q2])⟩

end Go.Proofs.Ytophfphgcbnafaa.Sv

namespace Go.Proofs.Ytophfphgcbnafaa.Sv
open Go
set_option linter.unusedVariables false
set_option linter.unusedSimpArgs false

set_option maxRecDepth 100000 in
theorem get_ok (h : AHeap) (s : ByteArray) (read : Nat) (x0 x1 x2 x5 : AV) (hh : h 0 = some (.row false 6 [[x0, x1, x2, .str s, (.int .i64 (read : Int)), x5]])) (hs : s.size ≤ 9223372036854775807) : ACall Try.prog 40 [.ptr 0 1 0 0] h (fun r h'' => r = .int .u32 (bif decide (read < s.size) then ((inAt s read).toNat : Int) else 256) ∧ h'' = hput h 0 (.row false 6 [[x0, x1, x2, .str s, (.int .i64 ((bif decide (read < s.size) then read + 1 else read : Nat) : Int)), x5]])) := by
  refine ACall.of_body (n := 32) tok Try.func40 rfl rfl ?_
  refine AGo.seq ?_
  refine AGo.region ?_
  refine AOps.s 2 rfl rfl rfl (q_move (.inr rfl) rfl) ?_
  refine AOps.nil ?_
  refine AGo.seq ?_
  refine AGo.seq ?_
  refine AGo.draw mix ?_
  refine DOps.s 4 rfl rfl rfl (q_move (.inl rfl) rfl) ?_
  refine DOps.s 5 rfl rfl rfl (q_nilCheck rfl rfl rfl) ?_
  refine DOps.s 6 rfl rfl rfl (q_fieldAddr tok rfl rfl rfl rfl rfl rfl) ?_
  refine DOps.s 7 rfl rfl rfl (q_load tok rfl rfl rfl (.ptr _ _ _ _ _ _ [[x0, x1, x2, .str s, .int .i64 (read : Int), x5]] _ (by repeat (first | assumption | exact hput_same _ _ _ | refine hput_skip (by first | rfl | assumption | exact beq_false_of_ne (by omega)) ?_)) rfl rfl) rfl) ?_
  refine DOps.s 8 rfl rfl rfl (q_move (.inl rfl) rfl) ?_
  refine DOps.s 9 rfl rfl rfl (q_nilCheck rfl rfl rfl) ?_
  refine DOps.s 10 rfl rfl rfl (q_fieldAddr tok rfl rfl rfl rfl rfl rfl) ?_
  refine DOps.s 11 rfl rfl rfl (q_load tok rfl rfl rfl (.ptr _ _ _ _ _ _ [[x0, x1, x2, .str s, .int .i64 (read : Int), x5]] _ (by repeat (first | assumption | exact hput_same _ _ _ | refine hput_skip (by first | rfl | assumption | exact beq_false_of_ne (by omega)) ?_)) rfl rfl) rfl) ?_
  refine DOps.s 12 rfl rfl rfl (q_len tok rfl rfl rfl rfl rfl) ?_
  refine DOps.s 13 rfl rfl rfl (q_bin rfl rfl rfl rfl) ?_
  refine DOps.nil (by kernel_rfl) ?_
  refine AGo.split 13 rfl (fun hb1 => ?_) (fun hb1 => ?_)
  · -- True
    refine AGo.cond_true true rfl rfl ?_
    have hrd : ¬ read < s.size := by have h := hb1; simp at h; omega
    refine AGo.seq ?_
    refine AGo.region ?_
    refine AOps.s 2 rfl rfl rfl (q_move (.inr rfl) rfl) ?_
    refine AOps.nil ?_
    refine AGo.ret ?_
    rw [decide_eq_false hrd]
    exact ⟨[_], ⟨rfl, trivial⟩, rfl, (hput_self hh).symm⟩
  · -- False
    refine AGo.cond_false false rfl rfl ?_
    have hrd : read < s.size := by have h := hb1; simp at h; omega
    refine AGo.skip ?_
    refine AGo.seq ?_
    refine AGo.draw mix ?_
    refine DOps.s 14 rfl rfl rfl (q_move (.inl rfl) rfl) ?_
    refine DOps.s 15 rfl rfl rfl (q_nilCheck rfl rfl rfl) ?_
    refine DOps.s 16 rfl rfl rfl (q_fieldAddr tok rfl rfl rfl rfl rfl rfl) ?_
    refine DOps.s 17 rfl rfl rfl (q_load tok rfl rfl rfl (.ptr _ _ _ _ _ _ [[x0, x1, x2, .str s, .int .i64 (read : Int), x5]] _ (by repeat (first | assumption | exact hput_same _ _ _ | refine hput_skip (by first | rfl | assumption | exact beq_false_of_ne (by omega)) ?_)) rfl rfl) rfl) ?_
    refine DOps.s 18 rfl rfl rfl (q_move (.inl rfl) rfl) ?_
    refine DOps.s 19 rfl rfl rfl (q_nilCheck rfl rfl rfl) ?_
    refine DOps.s 20 rfl rfl rfl (q_fieldAddr tok rfl rfl rfl rfl rfl rfl) ?_
    refine DOps.s 21 rfl rfl rfl (q_load tok rfl rfl rfl (.ptr _ _ _ _ _ _ [[x0, x1, x2, .str s, .int .i64 (read : Int), x5]] _ (by repeat (first | assumption | exact hput_same _ _ _ | refine hput_skip (by first | rfl | assumption | exact beq_false_of_ne (by omega)) ?_)) rfl rfl) rfl) ?_
    refine DOps.s 22 rfl rfl rfl (q_index_str (c := inAt s read) tok rfl rfl rfl rfl rfl (Int.natCast_nonneg _) (inAt_get hrd)) ?_
    refine DOps.s 3 rfl rfl rfl (q_move (.inr rfl) rfl) ?_
    refine DOps.nil (by kernel_rfl) ?_
    refine AGo.seq ?_
    refine AGo.region ?_
    refine AOps.s 23 rfl rfl rfl (q_move (.inl rfl) rfl) ?_
    refine AOps.s 24 rfl rfl rfl (q_nilCheck rfl rfl rfl) ?_
    refine AOps.s 25 rfl rfl rfl (q_fieldAddr tok rfl rfl rfl rfl rfl rfl) ?_
    refine AOps.s 26 rfl rfl rfl (q_load tok rfl rfl rfl (.ptr _ _ _ _ _ _ [[x0, x1, x2, .str s, .int .i64 (read : Int), x5]] _ (by repeat (first | assumption | exact hput_same _ _ _ | refine hput_skip (by first | rfl | assumption | exact beq_false_of_ne (by omega)) ?_)) rfl rfl) rfl) ?_
    refine AOps.s 27 rfl rfl rfl (q_inc rfl rfl hrd (by simp only [maxLen]; omega)) ?_
    refine AOps.s 28 rfl rfl rfl (q_nilCheck rfl rfl rfl) ?_
    refine AOps.s 29 rfl rfl rfl (q_fieldAddr tok rfl rfl rfl rfl rfl rfl) ?_
    refine AOps.w rfl rfl (o_store tok (es := [[x0, x1, x2, .str s, .int .i64 (read : Int), x5]]) rfl rfl rfl rfl rfl (by repeat (first | assumption | exact hput_same _ _ _ | refine hput_skip (by first | rfl | assumption | exact beq_false_of_ne (by omega)) ?_)) rfl rfl rfl (by decide) rfl (by intro h; cases h)) ?_
    refine AOps.nil ?_
    refine AGo.seq ?_
    refine AGo.region ?_
    refine AOps.s 30 rfl rfl rfl (q_move (.inl rfl) rfl) ?_
    refine AOps.s 31 rfl rfl rfl (q_convTo tok rfl rfl rfl rfl rfl (r := ((inAt s read).toNat : Int)) (by rw [IntKind.wrap_u32]; have := (byte_w (inAt s read)).2; omega)) ?_
    refine AOps.s 2 rfl rfl rfl (q_move (.inr rfl) rfl) ?_
    refine AOps.nil ?_
    refine AGo.ret ?_
    rw [decide_eq_true hrd]
    exact ⟨[_], ⟨rfl, trivial⟩, rfl, rfl⟩

end Go.Proofs.Ytophfphgcbnafaa.Sv

namespace Go.Proofs.Ytophfphgcbnafaa.Sv
open Go
set_option linter.unusedVariables false
set_option linter.unusedSimpArgs false

set_option maxRecDepth 100000 in
theorem divide_ok (op a b : Int) (hb : 0 ≤ b) : APure Try.prog 48 [.int .i64 op, .int .u32 a, .int .u32 b] (fun r => r = wpair (wdivide op a b)) := by
  refine APure.of_body (n := 18) tok Try.func48 rfl rfl ?_
  refine AGo.seq ?_
  refine AGo.region ?_
  refine AOps.s 6 rfl rfl rfl (q_move (.inr rfl) rfl) ?_
  refine AOps.s 7 rfl rfl rfl (q_move (.inr rfl) rfl) ?_
  refine AOps.nil ?_
  refine AGo.seq ?_
  refine AGo.seq ?_
  refine AGo.region ?_
  refine AOps.s 8 rfl rfl rfl (q_move (.inl rfl) rfl) ?_
  refine AOps.s 9 rfl rfl rfl (q_bin rfl rfl rfl rfl) ?_
  refine AOps.nil ?_
  refine AGo.split 9 rfl (fun hb1 => ?_) (fun hb1 => ?_)
  · -- True
    refine AGo.cond_true true rfl rfl ?_
    refine AGo.seq ?_
    refine AGo.region ?_
    refine AOps.s 6 rfl rfl rfl (q_move (.inr rfl) rfl) ?_
    refine AOps.s 7 rfl rfl rfl (q_move (.inr rfl) rfl) ?_
    refine AOps.nil ?_
    refine AGo.ret ?_
    refine ⟨[_, _], ⟨rfl, rfl, trivial⟩, ?_, rfl⟩
    show AV.tup _ = AV.tup _
    simp [wdivide, *]
  · -- False
    refine AGo.cond_false false rfl rfl ?_
    have hb0 : ¬ b = 0 := by simpa using hb1
    refine AGo.skip ?_
    refine AGo.seq ?_
    refine AGo.seq ?_
    refine AGo.region ?_
    refine AOps.s 10 rfl rfl rfl (q_move (.inl rfl) rfl) ?_
    refine AOps.s 11 rfl rfl rfl (q_bin rfl rfl rfl rfl) ?_
    refine AOps.nil ?_
    refine AGo.split 11 rfl (fun hb2 => ?_) (fun hb2 => ?_)
    · -- True
      refine AGo.cond_true true rfl rfl ?_
      refine AGo.seq ?_
      refine AGo.region ?_
      refine AOps.s 12 rfl rfl rfl (q_move (.inl rfl) rfl) ?_
      refine AOps.s 13 rfl rfl rfl (q_move (.inl rfl) rfl) ?_
      refine AOps.s 14 rfl rfl rfl (q_bin (r := .int .u32 (IntKind.u32.wrap (a.tdiv b))) rfl rfl rfl (by simp [evalBin, evalInt, isShift, hb0])) ?_
      refine AOps.s 6 rfl rfl rfl (q_move (.inr rfl) rfl) ?_
      refine AOps.s 7 rfl rfl rfl (q_move (.inr rfl) rfl) ?_
      refine AOps.nil ?_
      refine AGo.ret ?_
      refine ⟨[_, _], ⟨rfl, rfl, trivial⟩, ?_, rfl⟩
      show AV.tup _ = AV.tup _
      simp [wdivide, *]
    · -- False
      refine AGo.cond_false false rfl rfl ?_
      refine AGo.skip ?_
      refine AGo.seq ?_
      refine AGo.region ?_
      refine AOps.s 15 rfl rfl rfl (q_move (.inl rfl) rfl) ?_
      refine AOps.s 16 rfl rfl rfl (q_move (.inl rfl) rfl) ?_
      refine AOps.s 17 rfl rfl rfl (q_bin (r := .int .u32 (a.tmod b)) rfl rfl rfl (by simp [evalBin, evalInt, isShift, hb0])) ?_
      refine AOps.s 6 rfl rfl rfl (q_move (.inr rfl) rfl) ?_
      refine AOps.s 7 rfl rfl rfl (q_move (.inr rfl) rfl) ?_
      refine AOps.nil ?_
      refine AGo.ret ?_
      refine ⟨[_, _], ⟨rfl, rfl, trivial⟩, ?_, rfl⟩
      show AV.tup _ = AV.tup _
      simp [wdivide, *]

set_option maxRecDepth 100000 in
theorem shift_ok (op a b : Int) (hb : 0 ≤ b) : APure Try.prog 49 [.int .i64 op, .int .u32 a, .int .u32 b] (fun r => r = .int .u32 (wshift op a b)) := by
  refine APure.of_body (n := 19) tok Try.func49 rfl rfl ?_
  refine AGo.seq ?_
  refine AGo.region ?_
  refine AOps.s 6 rfl rfl rfl (q_move (.inr rfl) rfl) ?_
  refine AOps.nil ?_
  refine AGo.seq ?_
  refine AGo.block ?_
  refine AGo.seq ?_
  refine AGo.region ?_
  refine AOps.s 8 rfl rfl rfl (q_move (.inl rfl) rfl) ?_
  refine AOps.s 9 rfl rfl rfl (q_bin rfl rfl rfl rfl) ?_
  refine AOps.s 7 rfl rfl rfl (q_move (.inr rfl) rfl) ?_
  refine AOps.nil ?_
  refine AGo.split 7 rfl (fun hb1 => ?_) (fun hb1 => ?_)
  · -- True
    refine AGo.cond_true true rfl rfl ?_
    refine AGo.seq ?_
    refine AGo.region ?_
    refine AOps.s 6 rfl rfl rfl (q_move (.inr rfl) rfl) ?_
    refine AOps.nil ?_
    refine AGo.ret ?_
    refine ⟨[_], ⟨rfl, trivial⟩, ?_, rfl⟩
    show AV.int .u32 _ = AV.int .u32 _
    simp only [wshift, *, cond_true, cond_false]
  · -- False
    refine AGo.cond_false false rfl rfl ?_
    refine AGo.seq ?_
    refine AGo.region ?_
    refine AOps.s 11 rfl rfl rfl (q_move (.inl rfl) rfl) ?_
    refine AOps.s 12 rfl rfl rfl (q_bin rfl rfl rfl rfl) ?_
    refine AOps.s 10 rfl rfl rfl (q_move (.inr rfl) rfl) ?_
    refine AOps.nil ?_
    refine AGo.split 10 rfl (fun hb2 => ?_) (fun hb2 => ?_)
    · -- True
      refine AGo.cond_true true rfl rfl ?_
      refine AGo.seq ?_
      refine AGo.region ?_
      refine AOps.s 13 rfl rfl rfl (q_move (.inl rfl) rfl) ?_
      refine AOps.s 14 rfl rfl rfl (q_move (.inl rfl) rfl) ?_
      refine AOps.s 15 rfl rfl rfl (q_bin (r := .int .u32 (IntKind.u32.wrap (a * 2 ^ (min b.toNat IntKind.u32.bits)))) rfl rfl rfl (by simp only [evalBin, evalInt, isShift, cond_true, if_neg (show ¬ b < 0 by omega)])) ?_
      refine AOps.s 6 rfl rfl rfl (q_move (.inr rfl) rfl) ?_
      refine AOps.nil ?_
      refine AGo.ret ?_
      refine ⟨[_], ⟨rfl, trivial⟩, ?_, rfl⟩
      show AV.int .u32 _ = AV.int .u32 _
      simp only [wshift, *, cond_true, cond_false]
    · -- False
      refine AGo.cond_false false rfl rfl ?_
      refine AGo.skip ?_
      refine AGo.seq ?_
      refine AGo.region ?_
      refine AOps.s 16 rfl rfl rfl (q_move (.inl rfl) rfl) ?_
      refine AOps.s 17 rfl rfl rfl (q_move (.inl rfl) rfl) ?_
      refine AOps.s 18 rfl rfl rfl (q_bin (r := .int .u32 (a.fdiv (2 ^ (min b.toNat IntKind.u32.bits)))) rfl rfl rfl (by simp only [evalBin, evalInt, isShift, cond_true, if_neg (show ¬ b < 0 by omega)])) ?_
      refine AOps.s 6 rfl rfl rfl (q_move (.inr rfl) rfl) ?_
      refine AOps.nil ?_
      refine AGo.ret ?_
      refine ⟨[_], ⟨rfl, trivial⟩, ?_, rfl⟩
      show AV.int .u32 _ = AV.int .u32 _
      simp only [wshift, *, cond_true, cond_false]

set_option maxRecDepth 100000 in
theorem compare_ok (op a b : Int) (hb : 0 ≤ b) : APure Try.prog 50 [.int .i64 op, .int .u32 a, .int .u32 b] (fun r => r = .int .u32 (wcompare op a b)) := by
  refine APure.of_body (n := 23) tok Try.func50 rfl rfl ?_
  refine AGo.seq ?_
  refine AGo.region ?_
  refine AOps.s 6 rfl rfl rfl (q_move (.inr rfl) rfl) ?_
  refine AOps.nil ?_
  refine AGo.seq ?_
  refine AGo.block ?_
  refine AGo.seq ?_
  refine AGo.block ?_
  refine AGo.block ?_
  refine AGo.seq ?_
  refine AGo.seq ?_
  refine AGo.seq ?_
  refine AGo.region ?_
  refine AOps.s 8 rfl rfl rfl (q_move (.inl rfl) rfl) ?_
  refine AOps.s 9 rfl rfl rfl (q_bin rfl rfl rfl rfl) ?_
  refine AOps.s 10 rfl rfl rfl (q_move (.inl rfl) rfl) ?_
  refine AOps.split 10 rfl (fun hb1 => ?_) (fun hb1 => ?_)
  · -- True
    refine AOps.s 11 rfl rfl rfl (q_move (.inl rfl) rfl) ?_
    refine AOps.s 12 rfl rfl rfl (q_move (.inl rfl) rfl) ?_
    refine AOps.s 13 rfl rfl rfl (q_bin rfl rfl rfl rfl) ?_
    refine AOps.s 14 rfl rfl rfl (q_pick_true true rfl rfl rfl rfl) ?_
    refine AOps.s 7 rfl rfl rfl (q_move (.inr rfl) rfl) ?_
    refine AOps.nil ?_
    refine AGo.split 7 rfl (fun hb2 => ?_) (fun hb2 => ?_)
    · -- True
      refine AGo.cond_true true rfl rfl ?_
      refine AGo.exit ?_
      refine AGo.seq ?_
      refine AGo.seq ?_
      refine AGo.region ?_
      refine AOps.s 6 rfl rfl rfl (q_move (.inr rfl) rfl) ?_
      refine AOps.nil ?_
      refine AGo.ret ?_
      refine ⟨[_], ⟨rfl, trivial⟩, ?_, rfl⟩
      show AV.int .u32 _ = AV.int .u32 _
      simp [wcompare, *]
    · -- False
      refine AGo.cond_false false rfl rfl ?_
      refine AGo.skip ?_
      refine AGo.seq ?_
      refine AGo.region ?_
      refine AOps.s 16 rfl rfl rfl (q_move (.inl rfl) rfl) ?_
      refine AOps.s 17 rfl rfl rfl (q_bin rfl rfl rfl rfl) ?_
      refine AOps.s 18 rfl rfl rfl (q_move (.inl rfl) rfl) ?_
      refine AOps.split 18 rfl (fun hb3 => ?_) (fun hb3 => ?_)
      · -- True
        refine AOps.s 19 rfl rfl rfl (q_move (.inl rfl) rfl) ?_
        refine AOps.s 20 rfl rfl rfl (q_move (.inl rfl) rfl) ?_
        refine AOps.s 21 rfl rfl rfl (q_bin rfl rfl rfl rfl) ?_
        refine AOps.s 22 rfl rfl rfl (q_pick_true true rfl rfl rfl rfl) ?_
        refine AOps.s 15 rfl rfl rfl (q_move (.inr rfl) rfl) ?_
        refine AOps.nil ?_
        refine AGo.split 15 rfl (fun hb4 => ?_) (fun hb4 => ?_)
        · -- True
          refine AGo.cond_true true rfl rfl ?_
          refine AGo.exit ?_
          refine AGo.seq ?_
          refine AGo.seq ?_
          refine AGo.region ?_
          refine AOps.s 6 rfl rfl rfl (q_move (.inr rfl) rfl) ?_
          refine AOps.nil ?_
          refine AGo.ret ?_
          refine ⟨[_], ⟨rfl, trivial⟩, ?_, rfl⟩
          show AV.int .u32 _ = AV.int .u32 _
          simp [wcompare, *]
        · -- False
          refine AGo.cond_false false rfl rfl ?_
          refine AGo.skip ?_
          refine AGo.exit ?_
          refine AGo.seq ?_
          refine AGo.region ?_
          refine AOps.s 6 rfl rfl rfl (q_move (.inr rfl) rfl) ?_
          refine AOps.nil ?_
          refine AGo.ret ?_
          refine ⟨[_], ⟨rfl, trivial⟩, ?_, rfl⟩
          show AV.int .u32 _ = AV.int .u32 _
          simp [wcompare, *]
      · -- False
        refine AOps.k 19 rfl rfl rfl ?_
        refine AOps.k 20 rfl rfl rfl ?_
        refine AOps.k 21 rfl rfl rfl ?_
        refine AOps.s 22 rfl rfl rfl (q_pick_false false rfl rfl rfl rfl) ?_
        refine AOps.s 15 rfl rfl rfl (q_move (.inr rfl) rfl) ?_
        refine AOps.nil ?_
        refine AGo.cond_false false rfl rfl ?_
        refine AGo.skip ?_
        refine AGo.exit ?_
        refine AGo.seq ?_
        refine AGo.region ?_
        refine AOps.s 6 rfl rfl rfl (q_move (.inr rfl) rfl) ?_
        refine AOps.nil ?_
        refine AGo.ret ?_
        refine ⟨[_], ⟨rfl, trivial⟩, ?_, rfl⟩
        show AV.int .u32 _ = AV.int .u32 _
        simp [wcompare, *]
  · -- False
    refine AOps.k 11 rfl rfl rfl ?_
    refine AOps.k 12 rfl rfl rfl ?_
    refine AOps.k 13 rfl rfl rfl ?_
    refine AOps.s 14 rfl rfl rfl (q_pick_false false rfl rfl rfl rfl) ?_
    refine AOps.s 7 rfl rfl rfl (q_move (.inr rfl) rfl) ?_
    refine AOps.nil ?_
    refine AGo.cond_false false rfl rfl ?_
    refine AGo.skip ?_
    refine AGo.seq ?_
    refine AGo.region ?_
    refine AOps.s 16 rfl rfl rfl (q_move (.inl rfl) rfl) ?_
    refine AOps.s 17 rfl rfl rfl (q_bin rfl rfl rfl rfl) ?_
    refine AOps.s 18 rfl rfl rfl (q_move (.inl rfl) rfl) ?_
    refine AOps.split 18 rfl (fun hb5 => ?_) (fun hb5 => ?_)
    · -- True
      refine AOps.s 19 rfl rfl rfl (q_move (.inl rfl) rfl) ?_
      refine AOps.s 20 rfl rfl rfl (q_move (.inl rfl) rfl) ?_
      refine AOps.s 21 rfl rfl rfl (q_bin rfl rfl rfl rfl) ?_
      refine AOps.s 22 rfl rfl rfl (q_pick_true true rfl rfl rfl rfl) ?_
      refine AOps.s 15 rfl rfl rfl (q_move (.inr rfl) rfl) ?_
      refine AOps.nil ?_
      refine AGo.split 15 rfl (fun hb6 => ?_) (fun hb6 => ?_)
      · -- True
        refine AGo.cond_true true rfl rfl ?_
        refine AGo.exit ?_
        refine AGo.seq ?_
        refine AGo.seq ?_
        refine AGo.region ?_
        refine AOps.s 6 rfl rfl rfl (q_move (.inr rfl) rfl) ?_
        refine AOps.nil ?_
        refine AGo.ret ?_
        refine ⟨[_], ⟨rfl, trivial⟩, ?_, rfl⟩
        show AV.int .u32 _ = AV.int .u32 _
        simp [wcompare, *]
      · -- False
        refine AGo.cond_false false rfl rfl ?_
        refine AGo.skip ?_
        refine AGo.exit ?_
        refine AGo.seq ?_
        refine AGo.region ?_
        refine AOps.s 6 rfl rfl rfl (q_move (.inr rfl) rfl) ?_
        refine AOps.nil ?_
        refine AGo.ret ?_
        refine ⟨[_], ⟨rfl, trivial⟩, ?_, rfl⟩
        show AV.int .u32 _ = AV.int .u32 _
        simp [wcompare, *]
    · -- False
      refine AOps.k 19 rfl rfl rfl ?_
      refine AOps.k 20 rfl rfl rfl ?_
      refine AOps.k 21 rfl rfl rfl ?_
      refine AOps.s 22 rfl rfl rfl (q_pick_false false rfl rfl rfl rfl) ?_
      refine AOps.s 15 rfl rfl rfl (q_move (.inr rfl) rfl) ?_
      refine AOps.nil ?_
      refine AGo.cond_false false rfl rfl ?_
      refine AGo.skip ?_
      refine AGo.exit ?_
      refine AGo.seq ?_
      refine AGo.region ?_
      refine AOps.s 6 rfl rfl rfl (q_move (.inr rfl) rfl) ?_
      refine AOps.nil ?_
      refine AGo.ret ?_
      refine ⟨[_], ⟨rfl, trivial⟩, ?_, rfl⟩
      show AV.int .u32 _ = AV.int .u32 _
      simp [wcompare, *]

set_option maxRecDepth 100000 in
theorem apply_ok (op a b : Int) (hb : 0 ≤ b) : APure Try.prog 39 [.int .i64 op, .int .u32 a, .int .u32 b] (fun r => r = wpair (wapp op a b)) := by
  refine APure.of_body (n := 62) tok Try.func39 rfl rfl ?_
  refine AGo.seq ?_
  refine AGo.region ?_
  refine AOps.s 6 rfl rfl rfl (q_move (.inr rfl) rfl) ?_
  refine AOps.s 7 rfl rfl rfl (q_move (.inr rfl) rfl) ?_
  refine AOps.nil ?_
  refine AGo.seq ?_
  refine AGo.seq ?_
  refine AGo.region ?_
  refine AOps.s 8 rfl rfl rfl (q_move (.inl rfl) rfl) ?_
  refine AOps.nil ?_
  refine AGo.block ?_
  refine AGo.seq ?_
  refine AGo.region ?_
  refine AOps.s 10 rfl rfl rfl (q_bin rfl rfl rfl rfl) ?_
  refine AOps.s 9 rfl rfl rfl (q_move (.inr rfl) rfl) ?_
  refine AOps.nil ?_
  refine AGo.split 9 rfl (fun hb1 => ?_) (fun hb1 => ?_)
  · -- True
    refine AGo.cond_true true rfl rfl ?_
    refine AGo.seq ?_
    refine AGo.region ?_
    refine AOps.s 11 rfl rfl rfl (q_move (.inl rfl) rfl) ?_
    refine AOps.s 12 rfl rfl rfl (q_move (.inl rfl) rfl) ?_
    refine AOps.s 13 rfl rfl rfl (q_bin rfl rfl rfl rfl) ?_
    refine AOps.s 6 rfl rfl rfl (q_move (.inr rfl) rfl) ?_
    refine AOps.s 7 rfl rfl rfl (q_move (.inr rfl) rfl) ?_
    refine AOps.nil ?_
    refine AGo.ret ?_
    refine ⟨[_, _], ⟨rfl, rfl, trivial⟩, ?_, rfl⟩
    show AV.tup _ = AV.tup _
    simp [wapp, *]
  · -- False
    refine AGo.cond_false false rfl rfl ?_
    refine AGo.seq ?_
    refine AGo.region ?_
    refine AOps.s 15 rfl rfl rfl (q_bin rfl rfl rfl rfl) ?_
    refine AOps.s 14 rfl rfl rfl (q_move (.inr rfl) rfl) ?_
    refine AOps.nil ?_
    refine AGo.split 14 rfl (fun hb2 => ?_) (fun hb2 => ?_)
    · -- True
      refine AGo.cond_true true rfl rfl ?_
      refine AGo.seq ?_
      refine AGo.region ?_
      refine AOps.s 16 rfl rfl rfl (q_move (.inl rfl) rfl) ?_
      refine AOps.s 17 rfl rfl rfl (q_move (.inl rfl) rfl) ?_
      refine AOps.s 18 rfl rfl rfl (q_bin rfl rfl rfl rfl) ?_
      refine AOps.s 6 rfl rfl rfl (q_move (.inr rfl) rfl) ?_
      refine AOps.s 7 rfl rfl rfl (q_move (.inr rfl) rfl) ?_
      refine AOps.nil ?_
      refine AGo.ret ?_
      refine ⟨[_, _], ⟨rfl, rfl, trivial⟩, ?_, rfl⟩
      show AV.tup _ = AV.tup _
      simp [wapp, *]
    · -- False
      refine AGo.cond_false false rfl rfl ?_
      refine AGo.seq ?_
      refine AGo.region ?_
      refine AOps.s 20 rfl rfl rfl (q_bin rfl rfl rfl rfl) ?_
      refine AOps.s 19 rfl rfl rfl (q_move (.inr rfl) rfl) ?_
      refine AOps.nil ?_
      refine AGo.split 19 rfl (fun hb3 => ?_) (fun hb3 => ?_)
      · -- True
        refine AGo.cond_true true rfl rfl ?_
        refine AGo.seq ?_
        refine AGo.region ?_
        refine AOps.s 21 rfl rfl rfl (q_move (.inl rfl) rfl) ?_
        refine AOps.s 22 rfl rfl rfl (q_move (.inl rfl) rfl) ?_
        refine AOps.s 23 rfl rfl rfl (q_bin rfl rfl rfl rfl) ?_
        refine AOps.s 6 rfl rfl rfl (q_move (.inr rfl) rfl) ?_
        refine AOps.s 7 rfl rfl rfl (q_move (.inr rfl) rfl) ?_
        refine AOps.nil ?_
        refine AGo.ret ?_
        refine ⟨[_, _], ⟨rfl, rfl, trivial⟩, ?_, rfl⟩
        show AV.tup _ = AV.tup _
        simp [wapp, *]
      · -- False
        refine AGo.cond_false false rfl rfl ?_
        refine AGo.seq ?_
        refine AGo.seq ?_
        refine AGo.region ?_
        refine AOps.s 25 rfl rfl rfl (q_bin rfl rfl rfl rfl) ?_
        refine AOps.s 24 rfl rfl rfl (q_move (.inr rfl) rfl) ?_
        refine AOps.nil ?_
        refine AGo.split 24 rfl (fun hb4 => ?_) (fun hb4 => ?_)
        · -- True
          refine AGo.cond_true true rfl rfl ?_
          refine AGo.skip ?_
          refine AGo.cond_true true rfl rfl ?_
          refine AGo.seq ?_
          refine AGo.region ?_
          refine AOps.s 27 rfl rfl rfl (q_move (.inl rfl) rfl) ?_
          refine AOps.s 28 rfl rfl rfl (q_move (.inl rfl) rfl) ?_
          refine AOps.s 29 rfl rfl rfl (q_move (.inl rfl) rfl) ?_
          refine AOps.x 30 rfl rfl rfl (o_pure rfl Try.func48 (by kernel_rfl) rfl rfl rfl (divide_ok _ _ _ hb)) ?_
          refine AOps.s 31 rfl rfl rfl (q_extract rfl rfl rfl) ?_
          refine AOps.s 32 rfl rfl rfl (q_extract rfl rfl rfl) ?_
          refine AOps.s 6 rfl rfl rfl (q_move (.inr rfl) rfl) ?_
          refine AOps.s 7 rfl rfl rfl (q_move (.inr rfl) rfl) ?_
          refine AOps.nil ?_
          refine AGo.ret ?_
          refine ⟨[_, _], ⟨rfl, rfl, trivial⟩, ?_, rfl⟩
          show AV.tup _ = AV.tup _
          simp [wapp, *]
        · -- False
          refine AGo.cond_false false rfl rfl ?_
          refine AGo.region ?_
          refine AOps.s 26 rfl rfl rfl (q_bin rfl rfl rfl rfl) ?_
          refine AOps.s 24 rfl rfl rfl (q_move (.inr rfl) rfl) ?_
          refine AOps.nil ?_
          refine AGo.split 24 rfl (fun hb5 => ?_) (fun hb5 => ?_)
          · -- True
            refine AGo.cond_true true rfl rfl ?_
            refine AGo.seq ?_
            refine AGo.region ?_
            refine AOps.s 27 rfl rfl rfl (q_move (.inl rfl) rfl) ?_
            refine AOps.s 28 rfl rfl rfl (q_move (.inl rfl) rfl) ?_
            refine AOps.s 29 rfl rfl rfl (q_move (.inl rfl) rfl) ?_
            refine AOps.x 30 rfl rfl rfl (o_pure rfl Try.func48 (by kernel_rfl) rfl rfl rfl (divide_ok _ _ _ hb)) ?_
            refine AOps.s 31 rfl rfl rfl (q_extract rfl rfl rfl) ?_
            refine AOps.s 32 rfl rfl rfl (q_extract rfl rfl rfl) ?_
            refine AOps.s 6 rfl rfl rfl (q_move (.inr rfl) rfl) ?_
            refine AOps.s 7 rfl rfl rfl (q_move (.inr rfl) rfl) ?_
            refine AOps.nil ?_
            refine AGo.ret ?_
            refine ⟨[_, _], ⟨rfl, rfl, trivial⟩, ?_, rfl⟩
            show AV.tup _ = AV.tup _
            simp [wapp, *]
          · -- False
            refine AGo.cond_false false rfl rfl ?_
            refine AGo.seq ?_
            refine AGo.region ?_
            refine AOps.s 34 rfl rfl rfl (q_bin rfl rfl rfl rfl) ?_
            refine AOps.s 33 rfl rfl rfl (q_move (.inr rfl) rfl) ?_
            refine AOps.nil ?_
            refine AGo.split 33 rfl (fun hb6 => ?_) (fun hb6 => ?_)
            · -- True
              refine AGo.cond_true true rfl rfl ?_
              refine AGo.seq ?_
              refine AGo.region ?_
              refine AOps.s 35 rfl rfl rfl (q_move (.inl rfl) rfl) ?_
              refine AOps.s 36 rfl rfl rfl (q_move (.inl rfl) rfl) ?_
              refine AOps.s 37 rfl rfl rfl (q_bin rfl rfl rfl rfl) ?_
              refine AOps.s 6 rfl rfl rfl (q_move (.inr rfl) rfl) ?_
              refine AOps.s 7 rfl rfl rfl (q_move (.inr rfl) rfl) ?_
              refine AOps.nil ?_
              refine AGo.ret ?_
              refine ⟨[_, _], ⟨rfl, rfl, trivial⟩, ?_, rfl⟩
              show AV.tup _ = AV.tup _
              simp [wapp, *]
            · -- False
              refine AGo.cond_false false rfl rfl ?_
              refine AGo.seq ?_
              refine AGo.region ?_
              refine AOps.s 39 rfl rfl rfl (q_bin rfl rfl rfl rfl) ?_
              refine AOps.s 38 rfl rfl rfl (q_move (.inr rfl) rfl) ?_
              refine AOps.nil ?_
              refine AGo.split 38 rfl (fun hb7 => ?_) (fun hb7 => ?_)
              · -- True
                refine AGo.cond_true true rfl rfl ?_
                refine AGo.seq ?_
                refine AGo.region ?_
                refine AOps.s 40 rfl rfl rfl (q_move (.inl rfl) rfl) ?_
                refine AOps.s 41 rfl rfl rfl (q_move (.inl rfl) rfl) ?_
                refine AOps.s 42 rfl rfl rfl (q_bin rfl rfl rfl rfl) ?_
                refine AOps.s 6 rfl rfl rfl (q_move (.inr rfl) rfl) ?_
                refine AOps.s 7 rfl rfl rfl (q_move (.inr rfl) rfl) ?_
                refine AOps.nil ?_
                refine AGo.ret ?_
                refine ⟨[_, _], ⟨rfl, rfl, trivial⟩, ?_, rfl⟩
                show AV.tup _ = AV.tup _
                simp [wapp, *]
              · -- False
                refine AGo.cond_false false rfl rfl ?_
                refine AGo.seq ?_
                refine AGo.region ?_
                refine AOps.s 44 rfl rfl rfl (q_bin rfl rfl rfl rfl) ?_
                refine AOps.s 43 rfl rfl rfl (q_move (.inr rfl) rfl) ?_
                refine AOps.nil ?_
                refine AGo.split 43 rfl (fun hb8 => ?_) (fun hb8 => ?_)
                · -- True
                  refine AGo.cond_true true rfl rfl ?_
                  refine AGo.seq ?_
                  refine AGo.region ?_
                  refine AOps.s 45 rfl rfl rfl (q_move (.inl rfl) rfl) ?_
                  refine AOps.s 46 rfl rfl rfl (q_move (.inl rfl) rfl) ?_
                  refine AOps.s 47 rfl rfl rfl (q_bin rfl rfl rfl rfl) ?_
                  refine AOps.s 6 rfl rfl rfl (q_move (.inr rfl) rfl) ?_
                  refine AOps.s 7 rfl rfl rfl (q_move (.inr rfl) rfl) ?_
                  refine AOps.nil ?_
                  refine AGo.ret ?_
                  refine ⟨[_, _], ⟨rfl, rfl, trivial⟩, ?_, rfl⟩
                  show AV.tup _ = AV.tup _
                  simp [wapp, *]
                · -- False
                  refine AGo.cond_false false rfl rfl ?_
                  refine AGo.seq ?_
                  refine AGo.seq ?_
                  refine AGo.region ?_
                  refine AOps.s 49 rfl rfl rfl (q_bin rfl rfl rfl rfl) ?_
                  refine AOps.s 48 rfl rfl rfl (q_move (.inr rfl) rfl) ?_
                  refine AOps.nil ?_
                  refine AGo.split 48 rfl (fun hb9 => ?_) (fun hb9 => ?_)
                  · -- True
                    refine AGo.cond_true true rfl rfl ?_
                    refine AGo.skip ?_
                    refine AGo.cond_true true rfl rfl ?_
                    refine AGo.seq ?_
                    refine AGo.region ?_
                    refine AOps.s 51 rfl rfl rfl (q_move (.inl rfl) rfl) ?_
                    refine AOps.s 52 rfl rfl rfl (q_move (.inl rfl) rfl) ?_
                    refine AOps.s 53 rfl rfl rfl (q_move (.inl rfl) rfl) ?_
                    refine AOps.x 54 rfl rfl rfl (o_pure rfl Try.func49 (by kernel_rfl) rfl rfl rfl (shift_ok _ _ _ hb)) ?_
                    refine AOps.s 6 rfl rfl rfl (q_move (.inr rfl) rfl) ?_
                    refine AOps.s 7 rfl rfl rfl (q_move (.inr rfl) rfl) ?_
                    refine AOps.nil ?_
                    refine AGo.ret ?_
                    refine ⟨[_, _], ⟨rfl, rfl, trivial⟩, ?_, rfl⟩
                    show AV.tup _ = AV.tup _
                    simp [wapp, *]
                  · -- False
                    refine AGo.cond_false false rfl rfl ?_
                    refine AGo.region ?_
                    refine AOps.s 50 rfl rfl rfl (q_bin rfl rfl rfl rfl) ?_
                    refine AOps.s 48 rfl rfl rfl (q_move (.inr rfl) rfl) ?_
                    refine AOps.nil ?_
                    refine AGo.split 48 rfl (fun hb10 => ?_) (fun hb10 => ?_)
                    · -- True
                      refine AGo.cond_true true rfl rfl ?_
                      refine AGo.seq ?_
                      refine AGo.region ?_
                      refine AOps.s 51 rfl rfl rfl (q_move (.inl rfl) rfl) ?_
                      refine AOps.s 52 rfl rfl rfl (q_move (.inl rfl) rfl) ?_
                      refine AOps.s 53 rfl rfl rfl (q_move (.inl rfl) rfl) ?_
                      refine AOps.x 54 rfl rfl rfl (o_pure rfl Try.func49 (by kernel_rfl) rfl rfl rfl (shift_ok _ _ _ hb)) ?_
                      refine AOps.s 6 rfl rfl rfl (q_move (.inr rfl) rfl) ?_
                      refine AOps.s 7 rfl rfl rfl (q_move (.inr rfl) rfl) ?_
                      refine AOps.nil ?_
                      refine AGo.ret ?_
                      refine ⟨[_, _], ⟨rfl, rfl, trivial⟩, ?_, rfl⟩
                      show AV.tup _ = AV.tup _
                      simp [wapp, *]
                    · -- False
                      refine AGo.cond_false false rfl rfl ?_
                      refine AGo.seq ?_
                      refine AGo.seq ?_
                      refine AGo.region ?_
                      refine AOps.s 56 rfl rfl rfl (q_bin rfl rfl rfl rfl) ?_
                      refine AOps.s 55 rfl rfl rfl (q_move (.inr rfl) rfl) ?_
                      refine AOps.nil ?_
                      refine AGo.split 55 rfl (fun hb11 => ?_) (fun hb11 => ?_)
                      · -- True
                        refine AGo.cond_true true rfl rfl ?_
                        refine AGo.skip ?_
                        refine AGo.cond_true true rfl rfl ?_
                        refine AGo.seq ?_
                        refine AGo.region ?_
                        refine AOps.s 58 rfl rfl rfl (q_move (.inl rfl) rfl) ?_
                        refine AOps.s 59 rfl rfl rfl (q_move (.inl rfl) rfl) ?_
                        refine AOps.s 60 rfl rfl rfl (q_move (.inl rfl) rfl) ?_
                        refine AOps.x 61 rfl rfl rfl (o_pure rfl Try.func50 (by kernel_rfl) rfl rfl rfl (compare_ok _ _ _ hb)) ?_
                        refine AOps.s 6 rfl rfl rfl (q_move (.inr rfl) rfl) ?_
                        refine AOps.s 7 rfl rfl rfl (q_move (.inr rfl) rfl) ?_
                        refine AOps.nil ?_
                        refine AGo.ret ?_
                        refine ⟨[_, _], ⟨rfl, rfl, trivial⟩, ?_, rfl⟩
                        show AV.tup _ = AV.tup _
                        simp [wapp, *]
                      · -- False
                        refine AGo.cond_false false rfl rfl ?_
                        refine AGo.region ?_
                        refine AOps.s 57 rfl rfl rfl (q_bin rfl rfl rfl rfl) ?_
                        refine AOps.s 55 rfl rfl rfl (q_move (.inr rfl) rfl) ?_
                        refine AOps.nil ?_
                        refine AGo.split 55 rfl (fun hb12 => ?_) (fun hb12 => ?_)
                        · -- True
                          refine AGo.cond_true true rfl rfl ?_
                          refine AGo.seq ?_
                          refine AGo.region ?_
                          refine AOps.s 58 rfl rfl rfl (q_move (.inl rfl) rfl) ?_
                          refine AOps.s 59 rfl rfl rfl (q_move (.inl rfl) rfl) ?_
                          refine AOps.s 60 rfl rfl rfl (q_move (.inl rfl) rfl) ?_
                          refine AOps.x 61 rfl rfl rfl (o_pure rfl Try.func50 (by kernel_rfl) rfl rfl rfl (compare_ok _ _ _ hb)) ?_
                          refine AOps.s 6 rfl rfl rfl (q_move (.inr rfl) rfl) ?_
                          refine AOps.s 7 rfl rfl rfl (q_move (.inr rfl) rfl) ?_
                          refine AOps.nil ?_
                          refine AGo.ret ?_
                          refine ⟨[_, _], ⟨rfl, rfl, trivial⟩, ?_, rfl⟩
                          show AV.tup _ = AV.tup _
                          simp [wapp, *]
                        · -- False
                          refine AGo.cond_false false rfl rfl ?_
                          refine AGo.skip ?_
                          refine AGo.seq ?_
                          refine AGo.region ?_
                          refine AOps.s 6 rfl rfl rfl (q_move (.inr rfl) rfl) ?_
                          refine AOps.s 7 rfl rfl rfl (q_move (.inr rfl) rfl) ?_
                          refine AOps.nil ?_
                          refine AGo.ret ?_
                          refine ⟨[_, _], ⟨rfl, rfl, trivial⟩, ?_, rfl⟩
                          show AV.tup _ = AV.tup _
                          simp [wapp, *]

end Go.Proofs.Ytophfphgcbnafaa.Sv
