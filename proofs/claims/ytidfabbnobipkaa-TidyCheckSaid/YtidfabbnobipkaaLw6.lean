/-
  WALKS: printed by a program of our own from the code's tree.
-/
import Derived.Test.YtidfabbnobipkaaSp27
import Derived.Test.YtidfabbnobipkaaSvT
namespace Go.Proofs.Ytidfabbnobipkaa.Sv
open Go
set_option linter.unusedVariables false
set_option linter.unusedSimpArgs false

set_option maxRecDepth 100000 in
theorem rleads_ok (paths : List (List Int)) (k i : Int) (hpn : ∀ p ∈ paths, p ≠ []) : APure Try.prog 46 [pathsAV paths, .int .i64 k, .int .i64 i] (fun r => r = .bool (beginsB paths k i)) := by
  refine APure.of_body (n := 25) tok Try.func46 rfl rfl ?_
  refine AGo.seq ?_
  refine AGo.region ?_
  refine AOps.s 6 rfl rfl rfl (q_move (.inr rfl) rfl) ?_
  refine AOps.nil ?_
  refine AGo.seq ?_
  refine AGo.region ?_
  refine AOps.s 7 rfl rfl rfl (q_move (.inl rfl) rfl) ?_
  refine AOps.s 8 rfl rfl rfl (q_bin rfl rfl rfl rfl) ?_
  refine AOps.s 9 rfl rfl rfl (q_move (.inl rfl) rfl) ?_
  refine AOps.split 9 rfl (fun hb1 => ?_) (fun hb1 => ?_)
  · -- True
    refine AOps.s 10 rfl rfl rfl (q_move (.inl rfl) rfl) ?_
    refine AOps.s 11 rfl rfl rfl (q_move (.inl rfl) rfl) ?_
    refine AOps.s 12 rfl rfl rfl (q_len tok rfl rfl rfl rfl rfl) ?_
    refine AOps.s 13 rfl rfl rfl (q_bin rfl rfl rfl rfl) ?_
    refine AOps.s 14 rfl rfl rfl (q_pick_true true rfl rfl rfl rfl) ?_
    refine AOps.s 15 rfl rfl rfl (q_move (.inl rfl) rfl) ?_
    refine AOps.split 15 rfl (fun hb2 => ?_) (fun hb2 => ?_)
    · -- True
      have hkr : 0 ≤ k ∧ k < paths.length := by simp_all [pathsAV] <;> omega
      have hpk := pathK_get hkr
      have hp0 := headZ_get (hpn _ (List.mem_of_getElem? hpk))
      refine AOps.s 16 rfl rfl rfl (q_move (.inl rfl) rfl) ?_
      refine AOps.s 17 rfl rfl rfl (q_move (.inl rfl) rfl) ?_
      refine AOps.s 18 rfl rfl rfl (q_index_lst tok rfl rfl rfl rfl rfl rfl hkr.1 (idx_mapZ hpk) rfl) ?_
      refine AOps.s 19 rfl rfl rfl (q_load tok rfl rfl rfl (by first | exact .loc _ | exact .ptr _ _ _ _ _ _ _ _ rfl rfl rfl) rfl) ?_
      refine AOps.s 20 rfl rfl rfl (q_index_lst tok rfl rfl rfl rfl rfl rfl (by decide) (cs := [.int .i64 (headZ (pathK paths k))]) (by show (List.map (fun b => [AV.int .i64 b]) (pathK paths k))[0]? = _; rw [List.getElem?_map, hp0]; rfl) rfl) ?_
      refine AOps.s 21 rfl rfl rfl (q_load tok rfl rfl rfl (by first | exact .loc _ | exact .ptr _ _ _ _ _ _ _ _ rfl rfl rfl) rfl) ?_
      refine AOps.s 22 rfl rfl rfl (q_move (.inl rfl) rfl) ?_
      refine AOps.s 23 rfl rfl rfl (q_bin rfl rfl rfl rfl) ?_
      refine AOps.s 24 rfl rfl rfl (q_pick_true true rfl rfl rfl rfl) ?_
      refine AOps.s 6 rfl rfl rfl (q_move (.inr rfl) rfl) ?_
      refine AOps.nil ?_
      refine AGo.ret ?_
      refine ⟨[_], ⟨rfl, trivial⟩, ?_, rfl⟩
      show AV.bool _ = AV.bool _
      congr 1
      first | (simp_all [beginsB, pathsAV]; done) | (simp_all [beginsB, pathsAV]; omega)
    · -- False
      refine AOps.k 16 rfl rfl rfl ?_
      refine AOps.k 17 rfl rfl rfl ?_
      refine AOps.k 18 rfl rfl rfl ?_
      refine AOps.k 19 rfl rfl rfl ?_
      refine AOps.k 20 rfl rfl rfl ?_
      refine AOps.k 21 rfl rfl rfl ?_
      refine AOps.k 22 rfl rfl rfl ?_
      refine AOps.k 23 rfl rfl rfl ?_
      refine AOps.s 24 rfl rfl rfl (q_pick_false false rfl rfl rfl rfl) ?_
      refine AOps.s 6 rfl rfl rfl (q_move (.inr rfl) rfl) ?_
      refine AOps.nil ?_
      refine AGo.ret ?_
      refine ⟨[_], ⟨rfl, trivial⟩, ?_, rfl⟩
      show AV.bool _ = AV.bool _
      congr 1
      first | (simp_all [beginsB, pathsAV]; done) | (simp_all [beginsB, pathsAV]; omega)
  · -- False
    refine AOps.k 10 rfl rfl rfl ?_
    refine AOps.k 11 rfl rfl rfl ?_
    refine AOps.k 12 rfl rfl rfl ?_
    refine AOps.k 13 rfl rfl rfl ?_
    refine AOps.s 14 rfl rfl rfl (q_pick_false false rfl rfl rfl rfl) ?_
    refine AOps.s 15 rfl rfl rfl (q_move (.inl rfl) rfl) ?_
    refine AOps.k 16 rfl rfl rfl ?_
    refine AOps.k 17 rfl rfl rfl ?_
    refine AOps.k 18 rfl rfl rfl ?_
    refine AOps.k 19 rfl rfl rfl ?_
    refine AOps.k 20 rfl rfl rfl ?_
    refine AOps.k 21 rfl rfl rfl ?_
    refine AOps.k 22 rfl rfl rfl ?_
    refine AOps.k 23 rfl rfl rfl ?_
    refine AOps.s 24 rfl rfl rfl (q_pick_false false rfl rfl rfl rfl) ?_
    refine AOps.s 6 rfl rfl rfl (q_move (.inr rfl) rfl) ?_
    refine AOps.nil ?_
    refine AGo.ret ?_
    refine ⟨[_], ⟨rfl, trivial⟩, ?_, rfl⟩
    show AV.bool _ = AV.bool _
    congr 1
    first | (simp_all [beginsB, pathsAV]; done) | (simp_all [beginsB, pathsAV]; omega)

set_option maxRecDepth 100000 in
theorem one33_ok (old : BFunc) (b : Block) (paths : List (List Int)) (p : List Int) (hpn : ∀ p ∈ paths, p ≠ []) (hp : inF old.blocks.length p) (hpl : p.length ≤ 100000) (hbl : b.ins.length ≤ 1000000000) (hol : ∀ x ∈ old.blocks, x.ins.length ≤ 1000000000) : APure Try.prog 37 [.agg old.cells, .agg b.cells, pathsAV paths, intsAV p] (fun r => r = .bool (oneB old b paths p)) := by
  have hpos : 0 < p.length := List.length_pos_iff.2 hp.1
  refine APure.of_body (n := 143) tok Try.func37 rfl rfl ?_
  refine AGo.seq ?_
  refine AGo.region ?_
  refine AOps.x 4 rfl rfl rfl (o_box (sz := 2) 0 rfl rfl rfl rfl (Nat.zero_lt_succ _) rfl) ?_
  refine AOps.x 5 rfl rfl rfl (o_box (sz := 5) 1 rfl rfl rfl rfl (Nat.zero_lt_succ _) rfl) ?_
  refine AOps.s 8 rfl rfl rfl (q_move (.inr rfl) rfl) ?_
  refine AOps.nil ?_
  refine AGo.seq ?_
  refine AGo.region ?_
  refine AOps.s 9 rfl rfl rfl (q_move (.inr rfl) rfl) ?_
  refine AOps.nil ?_
  refine AGo.seq ?_
  refine AGo.seq ?_
  refine AGo.region ?_
  refine AOps.s 10 rfl rfl rfl (q_move (.inr rfl) rfl) ?_
  refine AOps.nil ?_
  refine AGo.block ?_
  refine AGo.loopD (γ := Nat) 2 (fun k => ⟨143, (eput (eput (eput (eput (eput (eput eNew 2 (pathsAV paths)) 3 (intsAV p)) 4 (.ptr 0 1 0 0)) 5 (.ptr 1 1 0 0)) 10 (.int .i64 (k : Int))) 9 (.int .i64 (((old.joined (p.take k)).length : Nat) : Int))), (hput (hput (hFrom 2) 0 (.row false 2 [old.cells])) 1 (.row false 5 [b.cells]))⟩) (fun k => k ≤ p.length ∧ b.ins.take (old.joined (p.take k)).length = old.joined (p.take k) ∧ ((List.range (p.length - 1)).take k).all (okAt old p) = true) (fun k => p.length - k) 0 (Sub.mk' (by repeat (first | exact ESub.new _ | refine ESub.put ?_ (by rfl))) (by repeat (first | exact HSub.none _ | exact HSub.from_new _ | exact HSub.from_from (by decide) | refine HSub.put ?_ (by rfl) | refine HSub.from_put ?_ (by decide) | refine HSub.from_rm ?_ (by decide)))) ⟨Nat.zero_le _, by simp [BFunc.joined], rfl⟩ (fun _ => hput_free (hput_free (fun b hb => hFrom_free hb) rfl) rfl) ?_
  intro k hF
  refine AGo.seq ?_
  refine AGo.seq ?_
  refine AGo.region ?_
  refine AOps.s 16 rfl rfl rfl (q_move (.inl rfl) rfl) ?_
  refine AOps.s 17 rfl rfl rfl (q_move (.inl rfl) rfl) ?_
  refine AOps.s 18 rfl rfl rfl (q_len tok rfl rfl rfl rfl rfl) ?_
  refine AOps.s 19 rfl rfl rfl (q_bin rfl rfl rfl rfl) ?_
  refine AOps.nil ?_
  refine AGo.split 19 rfl (fun hb1 => ?_) (fun hb1 => ?_)
  · -- True
    refine AGo.cond_true true rfl rfl ?_
    have hkl : k < p.length := lt_of_idx hb1
    obtain ⟨y, hy⟩ := get_of_lt hkl
    have hyr := hp.2 y (List.mem_of_getElem? hy)
    have hyb := blockAt_get hyr
    have hxl := hol _ (List.mem_of_getElem? hyb)
    refine AGo.skip ?_
    refine AGo.seq ?_
    refine AGo.block ?_
    refine AGo.seq ?_
    refine AGo.draw mix ?_
    refine DOps.s 22 rfl rfl rfl (q_fieldAddr tok rfl rfl rfl rfl rfl rfl) ?_
    refine DOps.s 23 rfl rfl rfl (q_load tok rfl rfl rfl (by first | exact .loc _ | exact .ptr _ _ _ _ _ _ _ _ rfl rfl rfl) rfl) ?_
    refine DOps.s 24 rfl rfl rfl (q_move (.inl rfl) rfl) ?_
    refine DOps.s 25 rfl rfl rfl (q_move (.inl rfl) rfl) ?_
    refine DOps.s 26 rfl rfl rfl (q_index_lst tok rfl rfl rfl rfl rfl rfl (Int.natCast_nonneg _) (idx_map hy) rfl) ?_
    refine DOps.s 27 rfl rfl rfl (q_load tok rfl rfl rfl (by first | exact .loc _ | exact .ptr _ _ _ _ _ _ _ _ rfl rfl rfl) rfl) ?_
    refine DOps.s 28 rfl rfl rfl (q_index_lst tok rfl rfl rfl rfl rfl rfl hyr.1 (idx_mapZ hyb) rfl) ?_
    refine DOps.s 29 rfl rfl rfl (q_load tok rfl rfl rfl (by first | exact .loc _ | exact .ptr _ _ _ _ _ _ _ _ rfl rfl rfl) rfl) ?_
    refine DOps.x 11 rfl rfl rfl (o_alloc tok 2 rfl rfl rfl rfl (Nat.zero_lt_succ _) rfl) ?_
    refine DOps.w rfl rfl (o_store tok rfl rfl rfl rfl rfl rfl rfl rfl rfl (by decide) rfl (by first | exact fun _ => rfl | (intro h; cases h))) ?_
    refine DOps.nil (by kernel_rfl) ?_
    refine AGo.seq ?_
    refine AGo.seq ?_
    refine AGo.region ?_
    refine AOps.s 12 rfl rfl rfl (q_move (.inr rfl) rfl) ?_
    refine AOps.nil ?_
    refine AGo.block ?_
    refine AGo.loopD (γ := Nat) 3 (fun j => ⟨143, (eput (eput (eput (eput (eput (eput (eput (eput eNew 2 (pathsAV paths)) 3 (intsAV p)) 4 (.ptr 0 1 0 0)) 5 (.ptr 1 1 0 0)) 10 (.int .i64 (k : Int))) 9 (.int .i64 (((old.joined (p.take k)).length + j : Nat) : Int))) 11 (.ptr 2 1 0 0)) 12 (.int .i64 (j : Int))), (hput (hput (hput (hFrom 3) 0 (.row false 2 [old.cells])) 1 (.row false 5 [b.cells])) 2 (.row false 5 [(old.blockAt y).cells]))⟩) (fun j => j ≤ (old.blockAt y).ins.length ∧ b.ins.take ((old.joined (p.take k)).length + j) = old.joined (p.take k) ++ (old.blockAt y).ins.take j) (fun j => (old.blockAt y).ins.length - j) 0 (Sub.mk' (by repeat (first | exact ESub.new _ | refine ESub.put ?_ (by rfl))) (by repeat (first | exact HSub.none _ | exact HSub.from_new _ | exact HSub.from_from (by decide) | refine HSub.put ?_ (by rfl) | refine HSub.from_put ?_ (by decide) | refine HSub.from_rm ?_ (by decide)))) ⟨Nat.zero_le _, by rw [Nat.add_zero, List.take_zero, List.append_nil]; exact hF.2.1⟩ (fun _ => hput_free (hput_free (hput_free (fun b hb => hFrom_free hb) rfl) rfl) rfl) ?_
    intro j hG
    refine AGo.seq ?_
    refine AGo.seq ?_
    refine AGo.region ?_
    refine AOps.s 30 rfl rfl rfl (q_move (.inl rfl) rfl) ?_
    refine AOps.s 31 rfl rfl rfl (q_fieldAddr tok rfl rfl rfl rfl rfl rfl) ?_
    refine AOps.s 32 rfl rfl rfl (q_load tok rfl rfl rfl (by first | exact .loc _ | exact .ptr _ _ _ _ _ _ _ _ rfl rfl rfl) rfl) ?_
    refine AOps.s 33 rfl rfl rfl (q_len tok rfl rfl rfl rfl rfl) ?_
    refine AOps.s 34 rfl rfl rfl (q_bin rfl rfl rfl rfl) ?_
    refine AOps.nil ?_
    refine AGo.split 34 rfl (fun hb2 => ?_) (fun hb2 => ?_)
    · -- True
      refine AGo.cond_true true rfl rfl ?_
      have hjl : j < (old.blockAt y).ins.length := lt_of_idx hb2
      obtain ⟨u, hu⟩ := get_of_lt hjl
      have hbnd : (old.joined (p.take k)).length + j ≤ b.ins.length := by
        have h := congrArg List.length hG.2
        rw [List.length_take, List.length_append, List.length_take] at h
        omega
      refine AGo.skip ?_
      refine AGo.seq ?_
      refine AGo.block ?_
      refine AGo.seq ?_
      refine AGo.seq ?_
      refine AGo.draw mix ?_
      refine DOps.s 37 rfl rfl rfl (q_move (.inl rfl) rfl) ?_
      refine DOps.s 38 rfl rfl rfl (q_fieldAddr tok rfl rfl rfl rfl rfl rfl) ?_
      refine DOps.s 39 rfl rfl rfl (q_load tok rfl rfl rfl (by first | exact .loc _ | exact .ptr _ _ _ _ _ _ _ _ rfl rfl rfl) rfl) ?_
      refine DOps.s 40 rfl rfl rfl (q_len tok rfl rfl rfl rfl rfl) ?_
      refine DOps.s 41 rfl rfl rfl (q_bin rfl rfl rfl rfl) ?_
      refine DOps.s 42 rfl rfl rfl (q_move (.inl rfl) rfl) ?_
      refine DOps.split 42 rfl (fun hb3 => ?_) (fun hb3 => ?_)
      · -- True
        refine DOps.u 43 rfl rfl rfl ?_
        refine DOps.u 44 rfl rfl rfl ?_
        refine DOps.u 45 rfl rfl rfl ?_
        refine DOps.u 46 rfl rfl rfl ?_
        refine DOps.u 47 rfl rfl rfl ?_
        refine DOps.u 48 rfl rfl rfl ?_
        refine DOps.u 49 rfl rfl rfl ?_
        refine DOps.u 50 rfl rfl rfl ?_
        refine DOps.u 51 rfl rfl rfl ?_
        refine DOps.u 52 rfl rfl rfl ?_
        refine DOps.u 53 rfl rfl rfl ?_
        refine DOps.s 54 rfl rfl rfl (q_pick_true true rfl rfl rfl rfl) ?_
        refine DOps.nil (by kernel_rfl) ?_
        refine AGo.cond_true true rfl rfl ?_
        refine AGo.seq ?_
        refine AGo.region ?_
        refine AOps.s 8 rfl rfl rfl (q_move (.inr rfl) rfl) ?_
        refine AOps.nil ?_
        refine AGo.ret ?_
        refine ⟨[_], ⟨rfl, trivial⟩, ?_, rfl⟩
        show AV.bool _ = AV.bool _
        congr 1
        first | exact (one_false (one_fail2 hy hu hv (by simpa using (show (bif true then !decide (v = u) else decide (v = u)) = true from ‹_›)))).symm | exact (one_false (one_fail1 hy hjl (by have h := ‹decide ((((old.joined (p.take k)).length + j : Nat) : Int) ≥ _) = true›; simp at h; omega))).symm
      · -- False
        have hnb : (old.joined (p.take k)).length + j < b.ins.length := by have h := hb3; simp at h; omega
        obtain ⟨v, hv⟩ := get_of_lt hnb
        refine DOps.s 43 rfl rfl rfl (q_fieldAddr tok rfl rfl rfl rfl rfl rfl) ?_
        refine DOps.s 44 rfl rfl rfl (q_load tok rfl rfl rfl (by first | exact .loc _ | exact .ptr _ _ _ _ _ _ _ _ rfl rfl rfl) rfl) ?_
        refine DOps.s 45 rfl rfl rfl (q_move (.inl rfl) rfl) ?_
        refine DOps.s 46 rfl rfl rfl (q_index_lst tok rfl rfl rfl rfl rfl rfl (Int.natCast_nonneg _) (idx_map hv) rfl) ?_
        refine DOps.s 47 rfl rfl rfl (q_load tok rfl rfl rfl (by first | exact .loc _ | exact .ptr _ _ _ _ _ _ _ _ rfl rfl rfl) rfl) ?_
        refine DOps.s 48 rfl rfl rfl (q_fieldAddr tok rfl rfl rfl rfl rfl rfl) ?_
        refine DOps.s 49 rfl rfl rfl (q_load tok rfl rfl rfl (by first | exact .loc _ | exact .ptr _ _ _ _ _ _ _ _ rfl rfl rfl) rfl) ?_
        refine DOps.s 50 rfl rfl rfl (q_move (.inl rfl) rfl) ?_
        refine DOps.s 51 rfl rfl rfl (q_index_lst tok rfl rfl rfl rfl rfl rfl (Int.natCast_nonneg _) (idx_map hu) rfl) ?_
        refine DOps.s 52 rfl rfl rfl (q_load tok rfl rfl rfl (by first | exact .loc _ | exact .ptr _ _ _ _ _ _ _ _ rfl rfl rfl) rfl) ?_
        refine DOps.s 53 rfl rfl rfl (q_eqStruct tok true rfl rfl rfl (by kernel_rfl) rfl rfl rfl rfl (Tac.eqCells v u)) ?_
        refine DOps.s 54 rfl rfl rfl (q_pick_false false rfl rfl rfl rfl) ?_
        refine DOps.nil (by kernel_rfl) ?_
        refine AGo.split 54 rfl (fun hb4 => ?_) (fun hb4 => ?_)
        · -- True
          refine AGo.cond_true true rfl rfl ?_
          refine AGo.seq ?_
          refine AGo.region ?_
          refine AOps.s 8 rfl rfl rfl (q_move (.inr rfl) rfl) ?_
          refine AOps.nil ?_
          refine AGo.ret ?_
          refine ⟨[_], ⟨rfl, trivial⟩, ?_, rfl⟩
          show AV.bool _ = AV.bool _
          congr 1
          first | exact (one_false (one_fail2 hy hu hv (by simpa using (show (bif true then !decide (v = u) else decide (v = u)) = true from ‹_›)))).symm | exact (one_false (one_fail1 hy hjl (by have h := ‹decide ((((old.joined (p.take k)).length + j : Nat) : Int) ≥ _) = true›; simp at h; omega))).symm
        · -- False
          refine AGo.cond_false false rfl rfl ?_
          have huv : v = u := by have h := hb4; simpa using h
          refine AGo.skip ?_
          refine AGo.region ?_
          refine AOps.s 55 rfl rfl rfl (q_move (.inl rfl) rfl) ?_
          refine AOps.s 56 rfl rfl rfl (q_inc rfl rfl hnb (by simp only [maxLen]; omega)) ?_
          refine AOps.s 9 rfl rfl rfl (q_move (.inr rfl) rfl) ?_
          refine AOps.nil ?_
          refine AGo.region ?_
          refine AOps.s 35 rfl rfl rfl (q_move (.inl rfl) rfl) ?_
          refine AOps.s 36 rfl rfl rfl (q_inc rfl rfl hjl (by simp only [maxLen]; omega)) ?_
          refine AOps.s 12 rfl rfl rfl (q_move (.inr rfl) rfl) ?_
          refine AOps.nil ?_
          exact ⟨j+1, Drop.mk' (by repeat (first | exact EDrop.new _ _ | refine EDrop.put ?_ (by rfl) rfl)) (by repeat (first | exact HDrop.none _ _ | exact HDrop.tail _ _ | refine HDrop.put ?_ (by rfl) rfl rfl)), ⟨hjl, take_push hG.2 hu (huv ▸ hv)⟩, by omega⟩
    · -- False
      refine AGo.cond_false false rfl rfl ?_
      have hge2 := ge_of_idx hb2
      have htb := take_block hy hG.2 (by have := hG.1; omega)
      refine AGo.exit ?_
      refine AGo.seq ?_
      refine AGo.draw mix ?_
      refine DOps.s 57 rfl rfl rfl (q_move (.inl rfl) rfl) ?_
      refine DOps.s 58 rfl rfl rfl (q_inc rfl rfl hkl (by simp only [maxLen]; omega)) ?_
      refine DOps.s 59 rfl rfl rfl (q_move (.inl rfl) rfl) ?_
      refine DOps.s 60 rfl rfl rfl (q_len tok rfl rfl rfl rfl rfl) ?_
      refine DOps.s 61 rfl rfl rfl (q_bin rfl rfl rfl rfl) ?_
      refine DOps.s 62 rfl rfl rfl (q_move (.inl rfl) rfl) ?_
      refine DOps.split 62 rfl (fun hb5 => ?_) (fun hb5 => ?_)
      · -- True
        have hk1 : k < p.length - 1 := by have h := hb5; simp at h; omega
        obtain ⟨z, hz⟩ := get_of_lt (l := p) (k := k + 1) (by omega)
        have hat : okAt old p k = ((old.blockAt y).fin == 1 && (old.blockAt y).to == z) := by rw [okAt, iget_get hy, iget_get hz]
        refine DOps.s 63 rfl rfl rfl (q_fieldAddr tok rfl rfl rfl rfl rfl rfl) ?_
        refine DOps.s 64 rfl rfl rfl (q_load tok rfl rfl rfl (by first | exact .loc _ | exact .ptr _ _ _ _ _ _ _ _ rfl rfl rfl) rfl) ?_
        refine DOps.s 65 rfl rfl rfl (q_bin rfl rfl rfl rfl) ?_
        refine DOps.s 66 rfl rfl rfl (q_move (.inl rfl) rfl) ?_
        refine DOps.split 66 rfl (fun hb6 => ?_) (fun hb6 => ?_)
        · -- True
          refine DOps.u 67 rfl rfl rfl ?_
          refine DOps.u 68 rfl rfl rfl ?_
          refine DOps.u 69 rfl rfl rfl ?_
          refine DOps.u 70 rfl rfl rfl ?_
          refine DOps.u 71 rfl rfl rfl ?_
          refine DOps.u 72 rfl rfl rfl ?_
          refine DOps.u 73 rfl rfl rfl ?_
          refine DOps.u 74 rfl rfl rfl ?_
          refine DOps.s 75 rfl rfl rfl (q_pick_true true rfl rfl rfl rfl) ?_
          refine DOps.s 76 rfl rfl rfl (q_pick_true true rfl rfl rfl rfl) ?_
          refine DOps.nil (by kernel_rfl) ?_
          refine AGo.cond_true true rfl rfl ?_
          refine AGo.seq ?_
          refine AGo.region ?_
          refine AOps.s 8 rfl rfl rfl (q_move (.inr rfl) rfl) ?_
          refine AOps.nil ?_
          refine AGo.ret ?_
          refine ⟨[_], ⟨rfl, trivial⟩, ?_, rfl⟩
          show AV.bool _ = AV.bool _
          congr 1
          exact (one_false2 (all_bad (range_get hk1) (by rw [hat]; simp_all))).symm
        · -- False
          refine DOps.s 67 rfl rfl rfl (q_fieldAddr tok rfl rfl rfl rfl rfl rfl) ?_
          refine DOps.s 68 rfl rfl rfl (q_load tok rfl rfl rfl (by first | exact .loc _ | exact .ptr _ _ _ _ _ _ _ _ rfl rfl rfl) rfl) ?_
          refine DOps.s 69 rfl rfl rfl (q_move (.inl rfl) rfl) ?_
          refine DOps.s 70 rfl rfl rfl (q_move (.inl rfl) rfl) ?_
          refine DOps.s 71 rfl rfl rfl (q_inc rfl rfl hkl (by simp only [maxLen]; omega)) ?_
          refine DOps.s 72 rfl rfl rfl (q_index_lst tok rfl rfl rfl rfl rfl rfl (Int.natCast_nonneg _) (cs := [.int .i64 z]) (by rw [Int.toNat_natCast]; show (List.map (fun b => [AV.int .i64 b]) p)[k + 1]? = _; rw [List.getElem?_map, hz]; rfl) rfl) ?_
          refine DOps.s 73 rfl rfl rfl (q_load tok rfl rfl rfl (by first | exact .loc _ | exact .ptr _ _ _ _ _ _ _ _ rfl rfl rfl) rfl) ?_
          refine DOps.s 74 rfl rfl rfl (q_bin rfl rfl rfl rfl) ?_
          refine DOps.s 75 rfl rfl rfl (q_pick_false false rfl rfl rfl rfl) ?_
          refine DOps.s 76 rfl rfl rfl (q_pick_true true rfl rfl rfl rfl) ?_
          refine DOps.nil (by kernel_rfl) ?_
          refine AGo.split 76 rfl (fun hb7 => ?_) (fun hb7 => ?_)
          · -- True
            refine AGo.cond_true true rfl rfl ?_
            refine AGo.seq ?_
            refine AGo.region ?_
            refine AOps.s 8 rfl rfl rfl (q_move (.inr rfl) rfl) ?_
            refine AOps.nil ?_
            refine AGo.ret ?_
            refine ⟨[_], ⟨rfl, trivial⟩, ?_, rfl⟩
            show AV.bool _ = AV.bool _
            congr 1
            exact (one_false2 (all_bad (range_get hk1) (by rw [hat]; simp_all))).symm
          · -- False
            refine AGo.cond_false false rfl rfl ?_
            refine AGo.skip ?_
            refine AGo.region ?_
            refine AOps.s 20 rfl rfl rfl (q_move (.inl rfl) rfl) ?_
            refine AOps.s 21 rfl rfl rfl (q_inc rfl rfl hkl (by simp only [maxLen]; omega)) ?_
            refine AOps.s 10 rfl rfl rfl (q_move (.inr rfl) rfl) ?_
            refine AOps.nil ?_
            exact ⟨k+1, Drop.mk' (by repeat (first | exact EDrop.new _ _ | refine EDrop.put ?_ (by first | rfl | exact congrArg (fun (n : Nat) => some (AV.int .i64 (n : Int))) htb.1) rfl)) (by repeat (first | exact HDrop.none _ _ | exact HDrop.tail _ _ | refine HDrop.put ?_ (by rfl) rfl rfl)), ⟨hkl, htb.2, okAll_next hF.2.2 (fun hk1 => by first | (simp_all; done) | (exfalso; simp_all; omega) | (simp_all; omega))⟩, by omega⟩
      · -- False
        refine DOps.u 63 rfl rfl rfl ?_
        refine DOps.u 64 rfl rfl rfl ?_
        refine DOps.u 65 rfl rfl rfl ?_
        refine DOps.u 66 rfl rfl rfl ?_
        refine DOps.u 67 rfl rfl rfl ?_
        refine DOps.u 68 rfl rfl rfl ?_
        refine DOps.u 69 rfl rfl rfl ?_
        refine DOps.u 70 rfl rfl rfl ?_
        refine DOps.u 71 rfl rfl rfl ?_
        refine DOps.u 72 rfl rfl rfl ?_
        refine DOps.u 73 rfl rfl rfl ?_
        refine DOps.u 74 rfl rfl rfl ?_
        refine DOps.u 75 rfl rfl rfl ?_
        refine DOps.s 76 rfl rfl rfl (q_pick_false false rfl rfl rfl rfl) ?_
        refine DOps.nil (by kernel_rfl) ?_
        refine AGo.cond_false false rfl rfl ?_
        refine AGo.skip ?_
        refine AGo.region ?_
        refine AOps.s 20 rfl rfl rfl (q_move (.inl rfl) rfl) ?_
        refine AOps.s 21 rfl rfl rfl (q_inc rfl rfl hkl (by simp only [maxLen]; omega)) ?_
        refine AOps.s 10 rfl rfl rfl (q_move (.inr rfl) rfl) ?_
        refine AOps.nil ?_
        exact ⟨k+1, Drop.mk' (by repeat (first | exact EDrop.new _ _ | refine EDrop.put ?_ (by first | rfl | exact congrArg (fun (n : Nat) => some (AV.int .i64 (n : Int))) htb.1) rfl)) (by repeat (first | exact HDrop.none _ _ | exact HDrop.tail _ _ | refine HDrop.put ?_ (by rfl) rfl rfl)), ⟨hkl, htb.2, okAll_next hF.2.2 (fun hk1 => by first | (simp_all; done) | (exfalso; simp_all; omega) | (simp_all; omega))⟩, by omega⟩
  · -- False
    refine AGo.cond_false false rfl rfl ?_
    have hge := ge_of_idx hb1
    obtain rfl : k = p.length := by have := hF.1; omega
    have hall : followsB old p = true := all_end hF.2.2 (by simp)
    have hmd := made_endI (f := old) (b := b.ins) (p := p) (by have h := hF.2.1; rwa [List.take_of_length_le (Nat.le_refl _)] at h)
    have hjp : List.take p.length p = p := List.take_of_length_le (Nat.le_refl _)
    rw [hjp]
    have hlast := hp.2 _ (last_mem hp.1)
    refine AGo.exit ?_
    refine AGo.seq ?_
    refine AGo.draw mix ?_
    refine DOps.s 77 rfl rfl rfl (q_fieldAddr tok rfl rfl rfl rfl rfl rfl) ?_
    refine DOps.s 78 rfl rfl rfl (q_load tok rfl rfl rfl (by first | exact .loc _ | exact .ptr _ _ _ _ _ _ _ _ rfl rfl rfl) rfl) ?_
    refine DOps.s 79 rfl rfl rfl (q_move (.inl rfl) rfl) ?_
    refine DOps.s 80 rfl rfl rfl (q_move (.inl rfl) rfl) ?_
    refine DOps.s 81 rfl rfl rfl (q_len tok rfl rfl rfl rfl rfl) ?_
    refine DOps.s 82 rfl rfl rfl (q_bin (r := .int .i64 ((p.length - 1 : Nat) : Int)) rfl rfl rfl (by rw [List.length_map]; exact len_pred hpos (by omega))) ?_
    refine DOps.s 83 rfl rfl rfl (q_index_lst tok rfl rfl rfl rfl rfl rfl (Int.natCast_nonneg _) (cs := [.int .i64 (lastOf p)]) (by show (List.map (fun b => [AV.int .i64 b]) p)[_]? = _; rw [Int.toNat_natCast, List.getElem?_map, last_get hp.1]; rfl) rfl) ?_
    refine DOps.s 84 rfl rfl rfl (q_load tok rfl rfl rfl (by first | exact .loc _ | exact .ptr _ _ _ _ _ _ _ _ rfl rfl rfl) rfl) ?_
    refine DOps.s 85 rfl rfl rfl (q_index_lst tok rfl rfl rfl rfl rfl rfl hlast.1 (idx_mapZ (blockAt_get hlast)) rfl) ?_
    refine DOps.s 86 rfl rfl rfl (q_load tok rfl rfl rfl (by first | exact .loc _ | exact .ptr _ _ _ _ _ _ _ _ rfl rfl rfl) rfl) ?_
    refine DOps.x 13 rfl rfl rfl (o_alloc tok 2 rfl rfl rfl rfl (Nat.zero_lt_succ _) rfl) ?_
    refine DOps.w rfl rfl (o_store tok rfl rfl rfl rfl rfl rfl rfl rfl rfl (by decide) rfl (by first | exact fun _ => rfl | (intro h; cases h))) ?_
    refine DOps.nil (by kernel_rfl) ?_
    refine AGo.seq ?_
    refine AGo.seq ?_
    refine AGo.region ?_
    refine AOps.s 87 rfl rfl rfl (q_move (.inl rfl) rfl) ?_
    refine AOps.s 88 rfl rfl rfl (q_fieldAddr tok rfl rfl rfl rfl rfl rfl) ?_
    refine AOps.s 89 rfl rfl rfl (q_load tok rfl rfl rfl (by first | exact .loc _ | exact .ptr _ _ _ _ _ _ _ _ rfl rfl rfl) rfl) ?_
    refine AOps.s 90 rfl rfl rfl (q_len tok rfl rfl rfl rfl rfl) ?_
    refine AOps.s 91 rfl rfl rfl (q_bin rfl rfl rfl rfl) ?_
    refine AOps.s 92 rfl rfl rfl (q_move (.inl rfl) rfl) ?_
    refine AOps.split 92 rfl (fun hb8 => ?_) (fun hb8 => ?_)
    · -- True
      refine AOps.k 93 rfl rfl rfl ?_
      refine AOps.k 94 rfl rfl rfl ?_
      refine AOps.k 95 rfl rfl rfl ?_
      refine AOps.k 96 rfl rfl rfl ?_
      refine AOps.k 97 rfl rfl rfl ?_
      refine AOps.s 98 rfl rfl rfl (q_pick_true true rfl rfl rfl rfl) ?_
      refine AOps.s 99 rfl rfl rfl (q_move (.inl rfl) rfl) ?_
      refine AOps.k 100 rfl rfl rfl ?_
      refine AOps.k 101 rfl rfl rfl ?_
      refine AOps.k 102 rfl rfl rfl ?_
      refine AOps.k 103 rfl rfl rfl ?_
      refine AOps.k 104 rfl rfl rfl ?_
      refine AOps.s 105 rfl rfl rfl (q_pick_true true rfl rfl rfl rfl) ?_
      refine AOps.nil ?_
      refine AGo.cond_true true rfl rfl ?_
      refine AGo.seq ?_
      refine AGo.region ?_
      refine AOps.s 8 rfl rfl rfl (q_move (.inr rfl) rfl) ?_
      refine AOps.nil ?_
      refine AGo.ret ?_
      refine ⟨[_], ⟨rfl, trivial⟩, ?_, rfl⟩
      show AV.bool _ = AV.bool _
      congr 1
      first | exact (one_false (by rw [hmd, show ((((old.joined p).length : Nat) : Int) != (((b.ins.map Tac.cells).length : Nat) : Int)) = true from ‹_›]; rfl)).symm | (rw [one_true hall (by rw [hmd, show ((((old.joined p).length : Nat) : Int) != (((b.ins.map Tac.cells).length : Nat) : Int)) = false from ‹_›]; rfl)]; simp only [leadsB, leadsTo, leadsEl, *, cond_true, cond_false, Bool.not_true, Bool.not_false, Bool.true_and, Bool.false_and, Bool.and_true, Bool.and_false, Bool.true_or, Bool.or_true, Bool.false_or, Bool.or_false])
    · -- False
      refine AOps.s 93 rfl rfl rfl (q_fieldAddr tok rfl rfl rfl rfl rfl rfl) ?_
      refine AOps.s 94 rfl rfl rfl (q_load tok rfl rfl rfl (by first | exact .loc _ | exact .ptr _ _ _ _ _ _ _ _ rfl rfl rfl) rfl) ?_
      refine AOps.s 95 rfl rfl rfl (q_fieldAddr tok rfl rfl rfl rfl rfl rfl) ?_
      refine AOps.s 96 rfl rfl rfl (q_load tok rfl rfl rfl (by first | exact .loc _ | exact .ptr _ _ _ _ _ _ _ _ rfl rfl rfl) rfl) ?_
      refine AOps.s 97 rfl rfl rfl (q_bin rfl rfl rfl rfl) ?_
      refine AOps.s 98 rfl rfl rfl (q_pick_false false rfl rfl rfl rfl) ?_
      refine AOps.s 99 rfl rfl rfl (q_move (.inl rfl) rfl) ?_
      refine AOps.split 99 rfl (fun hb9 => ?_) (fun hb9 => ?_)
      · -- True
        refine AOps.k 100 rfl rfl rfl ?_
        refine AOps.k 101 rfl rfl rfl ?_
        refine AOps.k 102 rfl rfl rfl ?_
        refine AOps.k 103 rfl rfl rfl ?_
        refine AOps.k 104 rfl rfl rfl ?_
        refine AOps.s 105 rfl rfl rfl (q_pick_true true rfl rfl rfl rfl) ?_
        refine AOps.nil ?_
        refine AGo.cond_true true rfl rfl ?_
        refine AGo.seq ?_
        refine AGo.region ?_
        refine AOps.s 8 rfl rfl rfl (q_move (.inr rfl) rfl) ?_
        refine AOps.nil ?_
        refine AGo.ret ?_
        refine ⟨[_], ⟨rfl, trivial⟩, ?_, rfl⟩
        show AV.bool _ = AV.bool _
        congr 1
        first | exact (one_false (by rw [hmd, show ((((old.joined p).length : Nat) : Int) != (((b.ins.map Tac.cells).length : Nat) : Int)) = true from ‹_›]; rfl)).symm | (rw [one_true hall (by rw [hmd, show ((((old.joined p).length : Nat) : Int) != (((b.ins.map Tac.cells).length : Nat) : Int)) = false from ‹_›]; rfl)]; simp only [leadsB, leadsTo, leadsEl, *, cond_true, cond_false, Bool.not_true, Bool.not_false, Bool.true_and, Bool.false_and, Bool.and_true, Bool.and_false, Bool.true_or, Bool.or_true, Bool.false_or, Bool.or_false])
      · -- False
        refine AOps.s 100 rfl rfl rfl (q_fieldAddr tok rfl rfl rfl rfl rfl rfl) ?_
        refine AOps.s 101 rfl rfl rfl (q_load tok rfl rfl rfl (by first | exact .loc _ | exact .ptr _ _ _ _ _ _ _ _ rfl rfl rfl) rfl) ?_
        refine AOps.s 102 rfl rfl rfl (q_fieldAddr tok rfl rfl rfl rfl rfl rfl) ?_
        refine AOps.s 103 rfl rfl rfl (q_load tok rfl rfl rfl (by first | exact .loc _ | exact .ptr _ _ _ _ _ _ _ _ rfl rfl rfl) rfl) ?_
        refine AOps.s 104 rfl rfl rfl (q_bin rfl rfl rfl rfl) ?_
        refine AOps.s 105 rfl rfl rfl (q_pick_false false rfl rfl rfl rfl) ?_
        refine AOps.nil ?_
        refine AGo.split 105 rfl (fun hb10 => ?_) (fun hb10 => ?_)
        · -- True
          refine AGo.cond_true true rfl rfl ?_
          refine AGo.seq ?_
          refine AGo.region ?_
          refine AOps.s 8 rfl rfl rfl (q_move (.inr rfl) rfl) ?_
          refine AOps.nil ?_
          refine AGo.ret ?_
          refine ⟨[_], ⟨rfl, trivial⟩, ?_, rfl⟩
          show AV.bool _ = AV.bool _
          congr 1
          first | exact (one_false (by rw [hmd, show ((((old.joined p).length : Nat) : Int) != (((b.ins.map Tac.cells).length : Nat) : Int)) = true from ‹_›]; rfl)).symm | (rw [one_true hall (by rw [hmd, show ((((old.joined p).length : Nat) : Int) != (((b.ins.map Tac.cells).length : Nat) : Int)) = false from ‹_›]; rfl)]; simp only [leadsB, leadsTo, leadsEl, *, cond_true, cond_false, Bool.not_true, Bool.not_false, Bool.true_and, Bool.false_and, Bool.and_true, Bool.and_false, Bool.true_or, Bool.or_true, Bool.false_or, Bool.or_false])
        · -- False
          refine AGo.cond_false false rfl rfl ?_
          refine AGo.skip ?_
          refine AGo.seq ?_
          refine AGo.region ?_
          refine AOps.s 106 rfl rfl rfl (q_fieldAddr tok rfl rfl rfl rfl rfl rfl) ?_
          refine AOps.s 107 rfl rfl rfl (q_load tok rfl rfl rfl (by first | exact .loc _ | exact .ptr _ _ _ _ _ _ _ _ rfl rfl rfl) rfl) ?_
          refine AOps.s 108 rfl rfl rfl (q_fieldAddr tok rfl rfl rfl rfl rfl rfl) ?_
          refine AOps.s 109 rfl rfl rfl (q_load tok rfl rfl rfl (by first | exact .loc _ | exact .ptr _ _ _ _ _ _ _ _ rfl rfl rfl) rfl) ?_
          refine AOps.s 110 rfl rfl rfl (q_bin rfl rfl rfl rfl) ?_
          refine AOps.s 14 rfl rfl rfl (q_move (.inr rfl) rfl) ?_
          refine AOps.nil ?_
          refine AGo.seq ?_
          refine AGo.seq ?_
          refine AGo.region ?_
          refine AOps.s 111 rfl rfl rfl (q_fieldAddr tok rfl rfl rfl rfl rfl rfl) ?_
          refine AOps.s 112 rfl rfl rfl (q_load tok rfl rfl rfl (by first | exact .loc _ | exact .ptr _ _ _ _ _ _ _ _ rfl rfl rfl) rfl) ?_
          refine AOps.s 113 rfl rfl rfl (q_bin rfl rfl rfl rfl) ?_
          refine AOps.s 114 rfl rfl rfl (q_move (.inl rfl) rfl) ?_
          refine AOps.split 114 rfl (fun hb11 => ?_) (fun hb11 => ?_)
          · -- True
            refine AOps.k 115 rfl rfl rfl ?_
            refine AOps.k 116 rfl rfl rfl ?_
            refine AOps.k 117 rfl rfl rfl ?_
            refine AOps.s 118 rfl rfl rfl (q_pick_true true rfl rfl rfl rfl) ?_
            refine AOps.nil ?_
            refine AGo.cond_true true rfl rfl ?_
            refine AGo.region ?_
            refine AOps.s 119 rfl rfl rfl (q_move (.inl rfl) rfl) ?_
            refine AOps.s 120 rfl rfl rfl (q_fieldAddr tok rfl rfl rfl rfl rfl rfl) ?_
            refine AOps.s 121 rfl rfl rfl (q_load tok rfl rfl rfl (by first | exact .loc _ | exact .ptr _ _ _ _ _ _ _ _ rfl rfl rfl) rfl) ?_
            refine AOps.s 122 rfl rfl rfl (q_fieldAddr tok rfl rfl rfl rfl rfl rfl) ?_
            refine AOps.s 123 rfl rfl rfl (q_load tok rfl rfl rfl (by first | exact .loc _ | exact .ptr _ _ _ _ _ _ _ _ rfl rfl rfl) rfl) ?_
            refine AOps.x 124 rfl rfl rfl (o_pure rfl Try.func46 (by kernel_rfl) rfl rfl rfl (rleads_ok _ _ _ hpn)) ?_
            refine AOps.s 14 rfl rfl rfl (q_move (.inr rfl) rfl) ?_
            refine AOps.nil ?_
            refine AGo.seq ?_
            refine AGo.region ?_
            refine AOps.s 125 rfl rfl rfl (q_fieldAddr tok rfl rfl rfl rfl rfl rfl) ?_
            refine AOps.s 126 rfl rfl rfl (q_load tok rfl rfl rfl (by first | exact .loc _ | exact .ptr _ _ _ _ _ _ _ _ rfl rfl rfl) rfl) ?_
            refine AOps.s 127 rfl rfl rfl (q_fieldAddr tok rfl rfl rfl rfl rfl rfl) ?_
            refine AOps.s 128 rfl rfl rfl (q_load tok rfl rfl rfl (by first | exact .loc _ | exact .ptr _ _ _ _ _ _ _ _ rfl rfl rfl) rfl) ?_
            refine AOps.s 129 rfl rfl rfl (q_bin rfl rfl rfl rfl) ?_
            refine AOps.s 15 rfl rfl rfl (q_move (.inr rfl) rfl) ?_
            refine AOps.nil ?_
            refine AGo.seq ?_
            refine AGo.seq ?_
            refine AGo.region ?_
            refine AOps.s 130 rfl rfl rfl (q_fieldAddr tok rfl rfl rfl rfl rfl rfl) ?_
            refine AOps.s 131 rfl rfl rfl (q_load tok rfl rfl rfl (by first | exact .loc _ | exact .ptr _ _ _ _ _ _ _ _ rfl rfl rfl) rfl) ?_
            refine AOps.s 132 rfl rfl rfl (q_bin rfl rfl rfl rfl) ?_
            refine AOps.nil ?_
            refine AGo.split 132 rfl (fun hb12 => ?_) (fun hb12 => ?_)
            · -- True
              refine AGo.cond_true true rfl rfl ?_
              refine AGo.region ?_
              refine AOps.s 133 rfl rfl rfl (q_move (.inl rfl) rfl) ?_
              refine AOps.s 134 rfl rfl rfl (q_fieldAddr tok rfl rfl rfl rfl rfl rfl) ?_
              refine AOps.s 135 rfl rfl rfl (q_load tok rfl rfl rfl (by first | exact .loc _ | exact .ptr _ _ _ _ _ _ _ _ rfl rfl rfl) rfl) ?_
              refine AOps.s 136 rfl rfl rfl (q_fieldAddr tok rfl rfl rfl rfl rfl rfl) ?_
              refine AOps.s 137 rfl rfl rfl (q_load tok rfl rfl rfl (by first | exact .loc _ | exact .ptr _ _ _ _ _ _ _ _ rfl rfl rfl) rfl) ?_
              refine AOps.x 138 rfl rfl rfl (o_pure rfl Try.func46 (by kernel_rfl) rfl rfl rfl (rleads_ok _ _ _ hpn)) ?_
              refine AOps.s 15 rfl rfl rfl (q_move (.inr rfl) rfl) ?_
              refine AOps.nil ?_
              refine AGo.seq ?_
              refine AGo.region ?_
              refine AOps.s 139 rfl rfl rfl (q_move (.inl rfl) rfl) ?_
              refine AOps.s 140 rfl rfl rfl (q_move (.inl rfl) rfl) ?_
              refine AOps.split 140 rfl (fun hb13 => ?_) (fun hb13 => ?_)
              · -- True
                refine AOps.s 141 rfl rfl rfl (q_move (.inl rfl) rfl) ?_
                refine AOps.s 142 rfl rfl rfl (q_pick_true true rfl rfl rfl rfl) ?_
                refine AOps.s 8 rfl rfl rfl (q_move (.inr rfl) rfl) ?_
                refine AOps.nil ?_
                refine AGo.ret ?_
                first
                | exact absurd (show (b.fin == 2) = true from ‹_›) (by rw [show (b.fin == 2) = false from ‹_›]; decide)
                | (refine ⟨[_], ⟨rfl, trivial⟩, ?_, rfl⟩
                   show AV.bool _ = AV.bool _
                   congr 1
                   rw [one_true hall (by rw [hmd, show ((((old.joined p).length : Nat) : Int) != (((b.ins.map Tac.cells).length : Nat) : Int)) = false from ‹_›]; rfl)]
                   simp only [leadsB, leadsTo, leadsEl, *, cond_true, cond_false, Bool.not_true, Bool.not_false, Bool.true_and, Bool.false_and, Bool.and_true, Bool.and_false, Bool.true_or, Bool.or_true, Bool.false_or, Bool.or_false])
              · -- False
                refine AOps.k 141 rfl rfl rfl ?_
                refine AOps.s 142 rfl rfl rfl (q_pick_false false rfl rfl rfl rfl) ?_
                refine AOps.s 8 rfl rfl rfl (q_move (.inr rfl) rfl) ?_
                refine AOps.nil ?_
                refine AGo.ret ?_
                first
                | exact absurd (show (b.fin == 2) = true from ‹_›) (by rw [show (b.fin == 2) = false from ‹_›]; decide)
                | (refine ⟨[_], ⟨rfl, trivial⟩, ?_, rfl⟩
                   show AV.bool _ = AV.bool _
                   congr 1
                   rw [one_true hall (by rw [hmd, show ((((old.joined p).length : Nat) : Int) != (((b.ins.map Tac.cells).length : Nat) : Int)) = false from ‹_›]; rfl)]
                   simp only [leadsB, leadsTo, leadsEl, *, cond_true, cond_false, Bool.not_true, Bool.not_false, Bool.true_and, Bool.false_and, Bool.and_true, Bool.and_false, Bool.true_or, Bool.or_true, Bool.false_or, Bool.or_false])
            · -- False
              refine AGo.cond_false false rfl rfl ?_
              refine AGo.skip ?_
              refine AGo.seq ?_
              refine AGo.region ?_
              refine AOps.s 139 rfl rfl rfl (q_move (.inl rfl) rfl) ?_
              refine AOps.s 140 rfl rfl rfl (q_move (.inl rfl) rfl) ?_
              refine AOps.split 140 rfl (fun hb14 => ?_) (fun hb14 => ?_)
              · -- True
                refine AOps.s 141 rfl rfl rfl (q_move (.inl rfl) rfl) ?_
                refine AOps.s 142 rfl rfl rfl (q_pick_true true rfl rfl rfl rfl) ?_
                refine AOps.s 8 rfl rfl rfl (q_move (.inr rfl) rfl) ?_
                refine AOps.nil ?_
                refine AGo.ret ?_
                first
                | exact absurd (show (b.fin == 2) = true from ‹_›) (by rw [show (b.fin == 2) = false from ‹_›]; decide)
                | (refine ⟨[_], ⟨rfl, trivial⟩, ?_, rfl⟩
                   show AV.bool _ = AV.bool _
                   congr 1
                   rw [one_true hall (by rw [hmd, show ((((old.joined p).length : Nat) : Int) != (((b.ins.map Tac.cells).length : Nat) : Int)) = false from ‹_›]; rfl)]
                   simp only [leadsB, leadsTo, leadsEl, *, cond_true, cond_false, Bool.not_true, Bool.not_false, Bool.true_and, Bool.false_and, Bool.and_true, Bool.and_false, Bool.true_or, Bool.or_true, Bool.false_or, Bool.or_false])
              · -- False
                refine AOps.k 141 rfl rfl rfl ?_
                refine AOps.s 142 rfl rfl rfl (q_pick_false false rfl rfl rfl rfl) ?_
                refine AOps.s 8 rfl rfl rfl (q_move (.inr rfl) rfl) ?_
                refine AOps.nil ?_
                refine AGo.ret ?_
                first
                | exact absurd (show (b.fin == 2) = true from ‹_›) (by rw [show (b.fin == 2) = false from ‹_›]; decide)
                | (refine ⟨[_], ⟨rfl, trivial⟩, ?_, rfl⟩
                   show AV.bool _ = AV.bool _
                   congr 1
                   rw [one_true hall (by rw [hmd, show ((((old.joined p).length : Nat) : Int) != (((b.ins.map Tac.cells).length : Nat) : Int)) = false from ‹_›]; rfl)]
                   simp only [leadsB, leadsTo, leadsEl, *, cond_true, cond_false, Bool.not_true, Bool.not_false, Bool.true_and, Bool.false_and, Bool.and_true, Bool.and_false, Bool.true_or, Bool.or_true, Bool.false_or, Bool.or_false])
          · -- False
            refine AOps.s 115 rfl rfl rfl (q_fieldAddr tok rfl rfl rfl rfl rfl rfl) ?_
            refine AOps.s 116 rfl rfl rfl (q_load tok rfl rfl rfl (by first | exact .loc _ | exact .ptr _ _ _ _ _ _ _ _ rfl rfl rfl) rfl) ?_
            refine AOps.s 117 rfl rfl rfl (q_bin rfl rfl rfl rfl) ?_
            refine AOps.s 118 rfl rfl rfl (q_pick_false false rfl rfl rfl rfl) ?_
            refine AOps.nil ?_
            refine AGo.split 118 rfl (fun hb15 => ?_) (fun hb15 => ?_)
            · -- True
              refine AGo.cond_true true rfl rfl ?_
              refine AGo.region ?_
              refine AOps.s 119 rfl rfl rfl (q_move (.inl rfl) rfl) ?_
              refine AOps.s 120 rfl rfl rfl (q_fieldAddr tok rfl rfl rfl rfl rfl rfl) ?_
              refine AOps.s 121 rfl rfl rfl (q_load tok rfl rfl rfl (by first | exact .loc _ | exact .ptr _ _ _ _ _ _ _ _ rfl rfl rfl) rfl) ?_
              refine AOps.s 122 rfl rfl rfl (q_fieldAddr tok rfl rfl rfl rfl rfl rfl) ?_
              refine AOps.s 123 rfl rfl rfl (q_load tok rfl rfl rfl (by first | exact .loc _ | exact .ptr _ _ _ _ _ _ _ _ rfl rfl rfl) rfl) ?_
              refine AOps.x 124 rfl rfl rfl (o_pure rfl Try.func46 (by kernel_rfl) rfl rfl rfl (rleads_ok _ _ _ hpn)) ?_
              refine AOps.s 14 rfl rfl rfl (q_move (.inr rfl) rfl) ?_
              refine AOps.nil ?_
              refine AGo.seq ?_
              refine AGo.region ?_
              refine AOps.s 125 rfl rfl rfl (q_fieldAddr tok rfl rfl rfl rfl rfl rfl) ?_
              refine AOps.s 126 rfl rfl rfl (q_load tok rfl rfl rfl (by first | exact .loc _ | exact .ptr _ _ _ _ _ _ _ _ rfl rfl rfl) rfl) ?_
              refine AOps.s 127 rfl rfl rfl (q_fieldAddr tok rfl rfl rfl rfl rfl rfl) ?_
              refine AOps.s 128 rfl rfl rfl (q_load tok rfl rfl rfl (by first | exact .loc _ | exact .ptr _ _ _ _ _ _ _ _ rfl rfl rfl) rfl) ?_
              refine AOps.s 129 rfl rfl rfl (q_bin rfl rfl rfl rfl) ?_
              refine AOps.s 15 rfl rfl rfl (q_move (.inr rfl) rfl) ?_
              refine AOps.nil ?_
              refine AGo.seq ?_
              refine AGo.seq ?_
              refine AGo.region ?_
              refine AOps.s 130 rfl rfl rfl (q_fieldAddr tok rfl rfl rfl rfl rfl rfl) ?_
              refine AOps.s 131 rfl rfl rfl (q_load tok rfl rfl rfl (by first | exact .loc _ | exact .ptr _ _ _ _ _ _ _ _ rfl rfl rfl) rfl) ?_
              refine AOps.s 132 rfl rfl rfl (q_bin rfl rfl rfl rfl) ?_
              refine AOps.nil ?_
              refine AGo.split 132 rfl (fun hb16 => ?_) (fun hb16 => ?_)
              · -- True
                refine AGo.cond_true true rfl rfl ?_
                refine AGo.region ?_
                refine AOps.s 133 rfl rfl rfl (q_move (.inl rfl) rfl) ?_
                refine AOps.s 134 rfl rfl rfl (q_fieldAddr tok rfl rfl rfl rfl rfl rfl) ?_
                refine AOps.s 135 rfl rfl rfl (q_load tok rfl rfl rfl (by first | exact .loc _ | exact .ptr _ _ _ _ _ _ _ _ rfl rfl rfl) rfl) ?_
                refine AOps.s 136 rfl rfl rfl (q_fieldAddr tok rfl rfl rfl rfl rfl rfl) ?_
                refine AOps.s 137 rfl rfl rfl (q_load tok rfl rfl rfl (by first | exact .loc _ | exact .ptr _ _ _ _ _ _ _ _ rfl rfl rfl) rfl) ?_
                refine AOps.x 138 rfl rfl rfl (o_pure rfl Try.func46 (by kernel_rfl) rfl rfl rfl (rleads_ok _ _ _ hpn)) ?_
                refine AOps.s 15 rfl rfl rfl (q_move (.inr rfl) rfl) ?_
                refine AOps.nil ?_
                refine AGo.seq ?_
                refine AGo.region ?_
                refine AOps.s 139 rfl rfl rfl (q_move (.inl rfl) rfl) ?_
                refine AOps.s 140 rfl rfl rfl (q_move (.inl rfl) rfl) ?_
                refine AOps.split 140 rfl (fun hb17 => ?_) (fun hb17 => ?_)
                · -- True
                  refine AOps.s 141 rfl rfl rfl (q_move (.inl rfl) rfl) ?_
                  refine AOps.s 142 rfl rfl rfl (q_pick_true true rfl rfl rfl rfl) ?_
                  refine AOps.s 8 rfl rfl rfl (q_move (.inr rfl) rfl) ?_
                  refine AOps.nil ?_
                  refine AGo.ret ?_
                  first
                  | exact absurd (show (b.fin == 2) = true from ‹_›) (by rw [show (b.fin == 2) = false from ‹_›]; decide)
                  | (refine ⟨[_], ⟨rfl, trivial⟩, ?_, rfl⟩
                     show AV.bool _ = AV.bool _
                     congr 1
                     rw [one_true hall (by rw [hmd, show ((((old.joined p).length : Nat) : Int) != (((b.ins.map Tac.cells).length : Nat) : Int)) = false from ‹_›]; rfl)]
                     simp only [leadsB, leadsTo, leadsEl, *, cond_true, cond_false, Bool.not_true, Bool.not_false, Bool.true_and, Bool.false_and, Bool.and_true, Bool.and_false, Bool.true_or, Bool.or_true, Bool.false_or, Bool.or_false])
                · -- False
                  refine AOps.k 141 rfl rfl rfl ?_
                  refine AOps.s 142 rfl rfl rfl (q_pick_false false rfl rfl rfl rfl) ?_
                  refine AOps.s 8 rfl rfl rfl (q_move (.inr rfl) rfl) ?_
                  refine AOps.nil ?_
                  refine AGo.ret ?_
                  first
                  | exact absurd (show (b.fin == 2) = true from ‹_›) (by rw [show (b.fin == 2) = false from ‹_›]; decide)
                  | (refine ⟨[_], ⟨rfl, trivial⟩, ?_, rfl⟩
                     show AV.bool _ = AV.bool _
                     congr 1
                     rw [one_true hall (by rw [hmd, show ((((old.joined p).length : Nat) : Int) != (((b.ins.map Tac.cells).length : Nat) : Int)) = false from ‹_›]; rfl)]
                     simp only [leadsB, leadsTo, leadsEl, *, cond_true, cond_false, Bool.not_true, Bool.not_false, Bool.true_and, Bool.false_and, Bool.and_true, Bool.and_false, Bool.true_or, Bool.or_true, Bool.false_or, Bool.or_false])
              · -- False
                refine AGo.cond_false false rfl rfl ?_
                refine AGo.skip ?_
                refine AGo.seq ?_
                refine AGo.region ?_
                refine AOps.s 139 rfl rfl rfl (q_move (.inl rfl) rfl) ?_
                refine AOps.s 140 rfl rfl rfl (q_move (.inl rfl) rfl) ?_
                refine AOps.split 140 rfl (fun hb18 => ?_) (fun hb18 => ?_)
                · -- True
                  refine AOps.s 141 rfl rfl rfl (q_move (.inl rfl) rfl) ?_
                  refine AOps.s 142 rfl rfl rfl (q_pick_true true rfl rfl rfl rfl) ?_
                  refine AOps.s 8 rfl rfl rfl (q_move (.inr rfl) rfl) ?_
                  refine AOps.nil ?_
                  refine AGo.ret ?_
                  first
                  | exact absurd (show (b.fin == 2) = true from ‹_›) (by rw [show (b.fin == 2) = false from ‹_›]; decide)
                  | (refine ⟨[_], ⟨rfl, trivial⟩, ?_, rfl⟩
                     show AV.bool _ = AV.bool _
                     congr 1
                     rw [one_true hall (by rw [hmd, show ((((old.joined p).length : Nat) : Int) != (((b.ins.map Tac.cells).length : Nat) : Int)) = false from ‹_›]; rfl)]
                     simp only [leadsB, leadsTo, leadsEl, *, cond_true, cond_false, Bool.not_true, Bool.not_false, Bool.true_and, Bool.false_and, Bool.and_true, Bool.and_false, Bool.true_or, Bool.or_true, Bool.false_or, Bool.or_false])
                · -- False
                  refine AOps.k 141 rfl rfl rfl ?_
                  refine AOps.s 142 rfl rfl rfl (q_pick_false false rfl rfl rfl rfl) ?_
                  refine AOps.s 8 rfl rfl rfl (q_move (.inr rfl) rfl) ?_
                  refine AOps.nil ?_
                  refine AGo.ret ?_
                  first
                  | exact absurd (show (b.fin == 2) = true from ‹_›) (by rw [show (b.fin == 2) = false from ‹_›]; decide)
                  | (refine ⟨[_], ⟨rfl, trivial⟩, ?_, rfl⟩
                     show AV.bool _ = AV.bool _
                     congr 1
                     rw [one_true hall (by rw [hmd, show ((((old.joined p).length : Nat) : Int) != (((b.ins.map Tac.cells).length : Nat) : Int)) = false from ‹_›]; rfl)]
                     simp only [leadsB, leadsTo, leadsEl, *, cond_true, cond_false, Bool.not_true, Bool.not_false, Bool.true_and, Bool.false_and, Bool.and_true, Bool.and_false, Bool.true_or, Bool.or_true, Bool.false_or, Bool.or_false])
            · -- False
              refine AGo.cond_false false rfl rfl ?_
              refine AGo.skip ?_
              refine AGo.seq ?_
              refine AGo.region ?_
              refine AOps.s 125 rfl rfl rfl (q_fieldAddr tok rfl rfl rfl rfl rfl rfl) ?_
              refine AOps.s 126 rfl rfl rfl (q_load tok rfl rfl rfl (by first | exact .loc _ | exact .ptr _ _ _ _ _ _ _ _ rfl rfl rfl) rfl) ?_
              refine AOps.s 127 rfl rfl rfl (q_fieldAddr tok rfl rfl rfl rfl rfl rfl) ?_
              refine AOps.s 128 rfl rfl rfl (q_load tok rfl rfl rfl (by first | exact .loc _ | exact .ptr _ _ _ _ _ _ _ _ rfl rfl rfl) rfl) ?_
              refine AOps.s 129 rfl rfl rfl (q_bin rfl rfl rfl rfl) ?_
              refine AOps.s 15 rfl rfl rfl (q_move (.inr rfl) rfl) ?_
              refine AOps.nil ?_
              refine AGo.seq ?_
              refine AGo.seq ?_
              refine AGo.region ?_
              refine AOps.s 130 rfl rfl rfl (q_fieldAddr tok rfl rfl rfl rfl rfl rfl) ?_
              refine AOps.s 131 rfl rfl rfl (q_load tok rfl rfl rfl (by first | exact .loc _ | exact .ptr _ _ _ _ _ _ _ _ rfl rfl rfl) rfl) ?_
              refine AOps.s 132 rfl rfl rfl (q_bin rfl rfl rfl rfl) ?_
              refine AOps.nil ?_
              refine AGo.split 132 rfl (fun hb19 => ?_) (fun hb19 => ?_)
              · -- True
                refine AGo.cond_true true rfl rfl ?_
                refine AGo.region ?_
                refine AOps.s 133 rfl rfl rfl (q_move (.inl rfl) rfl) ?_
                refine AOps.s 134 rfl rfl rfl (q_fieldAddr tok rfl rfl rfl rfl rfl rfl) ?_
                refine AOps.s 135 rfl rfl rfl (q_load tok rfl rfl rfl (by first | exact .loc _ | exact .ptr _ _ _ _ _ _ _ _ rfl rfl rfl) rfl) ?_
                refine AOps.s 136 rfl rfl rfl (q_fieldAddr tok rfl rfl rfl rfl rfl rfl) ?_
                refine AOps.s 137 rfl rfl rfl (q_load tok rfl rfl rfl (by first | exact .loc _ | exact .ptr _ _ _ _ _ _ _ _ rfl rfl rfl) rfl) ?_
                refine AOps.x 138 rfl rfl rfl (o_pure rfl Try.func46 (by kernel_rfl) rfl rfl rfl (rleads_ok _ _ _ hpn)) ?_
                refine AOps.s 15 rfl rfl rfl (q_move (.inr rfl) rfl) ?_
                refine AOps.nil ?_
                refine AGo.seq ?_
                refine AGo.region ?_
                refine AOps.s 139 rfl rfl rfl (q_move (.inl rfl) rfl) ?_
                refine AOps.s 140 rfl rfl rfl (q_move (.inl rfl) rfl) ?_
                refine AOps.split 140 rfl (fun hb20 => ?_) (fun hb20 => ?_)
                · -- True
                  refine AOps.s 141 rfl rfl rfl (q_move (.inl rfl) rfl) ?_
                  refine AOps.s 142 rfl rfl rfl (q_pick_true true rfl rfl rfl rfl) ?_
                  refine AOps.s 8 rfl rfl rfl (q_move (.inr rfl) rfl) ?_
                  refine AOps.nil ?_
                  refine AGo.ret ?_
                  first
                  | exact absurd (show (b.fin == 2) = true from ‹_›) (by rw [show (b.fin == 2) = false from ‹_›]; decide)
                  | (refine ⟨[_], ⟨rfl, trivial⟩, ?_, rfl⟩
                     show AV.bool _ = AV.bool _
                     congr 1
                     rw [one_true hall (by rw [hmd, show ((((old.joined p).length : Nat) : Int) != (((b.ins.map Tac.cells).length : Nat) : Int)) = false from ‹_›]; rfl)]
                     simp only [leadsB, leadsTo, leadsEl, *, cond_true, cond_false, Bool.not_true, Bool.not_false, Bool.true_and, Bool.false_and, Bool.and_true, Bool.and_false, Bool.true_or, Bool.or_true, Bool.false_or, Bool.or_false])
                · -- False
                  refine AOps.k 141 rfl rfl rfl ?_
                  refine AOps.s 142 rfl rfl rfl (q_pick_false false rfl rfl rfl rfl) ?_
                  refine AOps.s 8 rfl rfl rfl (q_move (.inr rfl) rfl) ?_
                  refine AOps.nil ?_
                  refine AGo.ret ?_
                  first
                  | exact absurd (show (b.fin == 2) = true from ‹_›) (by rw [show (b.fin == 2) = false from ‹_›]; decide)
                  | (refine ⟨[_], ⟨rfl, trivial⟩, ?_, rfl⟩
                     show AV.bool _ = AV.bool _
                     congr 1
                     rw [one_true hall (by rw [hmd, show ((((old.joined p).length : Nat) : Int) != (((b.ins.map Tac.cells).length : Nat) : Int)) = false from ‹_›]; rfl)]
                     simp only [leadsB, leadsTo, leadsEl, *, cond_true, cond_false, Bool.not_true, Bool.not_false, Bool.true_and, Bool.false_and, Bool.and_true, Bool.and_false, Bool.true_or, Bool.or_true, Bool.false_or, Bool.or_false])
              · -- False
                refine AGo.cond_false false rfl rfl ?_
                refine AGo.skip ?_
                refine AGo.seq ?_
                refine AGo.region ?_
                refine AOps.s 139 rfl rfl rfl (q_move (.inl rfl) rfl) ?_
                refine AOps.s 140 rfl rfl rfl (q_move (.inl rfl) rfl) ?_
                refine AOps.split 140 rfl (fun hb21 => ?_) (fun hb21 => ?_)
                · -- True
                  refine AOps.s 141 rfl rfl rfl (q_move (.inl rfl) rfl) ?_
                  refine AOps.s 142 rfl rfl rfl (q_pick_true true rfl rfl rfl rfl) ?_
                  refine AOps.s 8 rfl rfl rfl (q_move (.inr rfl) rfl) ?_
                  refine AOps.nil ?_
                  refine AGo.ret ?_
                  first
                  | exact absurd (show (b.fin == 2) = true from ‹_›) (by rw [show (b.fin == 2) = false from ‹_›]; decide)
                  | (refine ⟨[_], ⟨rfl, trivial⟩, ?_, rfl⟩
                     show AV.bool _ = AV.bool _
                     congr 1
                     rw [one_true hall (by rw [hmd, show ((((old.joined p).length : Nat) : Int) != (((b.ins.map Tac.cells).length : Nat) : Int)) = false from ‹_›]; rfl)]
                     simp only [leadsB, leadsTo, leadsEl, *, cond_true, cond_false, Bool.not_true, Bool.not_false, Bool.true_and, Bool.false_and, Bool.and_true, Bool.and_false, Bool.true_or, Bool.or_true, Bool.false_or, Bool.or_false])
                · -- False
                  refine AOps.k 141 rfl rfl rfl ?_
                  refine AOps.s 142 rfl rfl rfl (q_pick_false false rfl rfl rfl rfl) ?_
                  refine AOps.s 8 rfl rfl rfl (q_move (.inr rfl) rfl) ?_
                  refine AOps.nil ?_
                  refine AGo.ret ?_
                  first
                  | exact absurd (show (b.fin == 2) = true from ‹_›) (by rw [show (b.fin == 2) = false from ‹_›]; decide)
                  | (refine ⟨[_], ⟨rfl, trivial⟩, ?_, rfl⟩
                     show AV.bool _ = AV.bool _
                     congr 1
                     rw [one_true hall (by rw [hmd, show ((((old.joined p).length : Nat) : Int) != (((b.ins.map Tac.cells).length : Nat) : Int)) = false from ‹_›]; rfl)]
                     simp only [leadsB, leadsTo, leadsEl, *, cond_true, cond_false, Bool.not_true, Bool.not_false, Bool.true_and, Bool.false_and, Bool.and_true, Bool.and_false, Bool.true_or, Bool.or_true, Bool.false_or, Bool.or_false])

set_option maxRecDepth 100000 in
theorem rcheck_ok (old new : BFunc) (paths : List (List Int)) (hol : ∀ x ∈ old.blocks, x.ins.length ≤ 1000000000) (hnl : ∀ x ∈ new.blocks, x.ins.length ≤ 1000000000) (hpl : paths.length ≤ 100000) (hps : ∀ p ∈ paths, p.length ≤ 100000) : APure Try.prog 20 [.agg old.cells, .agg new.cells, pathsAV paths] (fun r => r = .bool (checkB old new paths)) := by
  refine APure.of_body (n := 95) tok Try.func20 rfl rfl ?_
  refine AGo.seq ?_
  refine AGo.region ?_
  refine AOps.x 3 rfl rfl rfl (o_box (sz := 2) 0 rfl rfl rfl rfl (Nat.zero_lt_succ _) rfl) ?_
  refine AOps.x 4 rfl rfl rfl (o_box (sz := 2) 1 rfl rfl rfl rfl (Nat.zero_lt_succ _) rfl) ?_
  refine AOps.s 6 rfl rfl rfl (q_move (.inr rfl) rfl) ?_
  refine AOps.nil ?_
  refine AGo.seq ?_
  refine AGo.seq ?_
  refine AGo.region ?_
  refine AOps.s 10 rfl rfl rfl (q_move (.inl rfl) rfl) ?_
  refine AOps.s 11 rfl rfl rfl (q_len tok rfl rfl rfl rfl rfl) ?_
  refine AOps.s 12 rfl rfl rfl (q_fieldAddr tok rfl rfl rfl rfl rfl rfl) ?_
  refine AOps.s 13 rfl rfl rfl (q_load tok rfl rfl rfl (by first | exact .loc _ | exact .ptr _ _ _ _ _ _ _ _ rfl rfl rfl) rfl) ?_
  refine AOps.s 14 rfl rfl rfl (q_len tok rfl rfl rfl rfl rfl) ?_
  refine AOps.s 15 rfl rfl rfl (q_bin rfl rfl rfl rfl) ?_
  refine AOps.s 16 rfl rfl rfl (q_move (.inl rfl) rfl) ?_
  refine AOps.split 16 rfl (fun hb1 => ?_) (fun hb1 => ?_)
  · -- True
    refine AOps.k 17 rfl rfl rfl ?_
    refine AOps.k 18 rfl rfl rfl ?_
    refine AOps.k 19 rfl rfl rfl ?_
    refine AOps.s 20 rfl rfl rfl (q_pick_true true rfl rfl rfl rfl) ?_
    refine AOps.s 21 rfl rfl rfl (q_move (.inl rfl) rfl) ?_
    refine AOps.k 22 rfl rfl rfl ?_
    refine AOps.k 23 rfl rfl rfl ?_
    refine AOps.k 24 rfl rfl rfl ?_
    refine AOps.k 25 rfl rfl rfl ?_
    refine AOps.k 26 rfl rfl rfl ?_
    refine AOps.s 27 rfl rfl rfl (q_pick_true true rfl rfl rfl rfl) ?_
    refine AOps.nil ?_
    refine AGo.cond_true true rfl rfl ?_
    refine AGo.seq ?_
    refine AGo.region ?_
    refine AOps.s 6 rfl rfl rfl (q_move (.inr rfl) rfl) ?_
    refine AOps.nil ?_
    refine AGo.ret ?_
    refine ⟨[_], ⟨rfl, trivial⟩, ?_, rfl⟩
    show AV.bool _ = AV.bool _
    congr 1
    refine (check_bad1 (fun h => ?_)).symm
    obtain ⟨q1, q2, q3⟩ := h
    simp_all [pathsAV, blocksAV]
  · -- False
    refine AOps.s 17 rfl rfl rfl (q_move (.inl rfl) rfl) ?_
    refine AOps.s 18 rfl rfl rfl (q_len tok rfl rfl rfl rfl rfl) ?_
    refine AOps.s 19 rfl rfl rfl (q_bin rfl rfl rfl rfl) ?_
    refine AOps.s 20 rfl rfl rfl (q_pick_false false rfl rfl rfl rfl) ?_
    refine AOps.s 21 rfl rfl rfl (q_move (.inl rfl) rfl) ?_
    refine AOps.split 21 rfl (fun hb2 => ?_) (fun hb2 => ?_)
    · -- True
      refine AOps.k 22 rfl rfl rfl ?_
      refine AOps.k 23 rfl rfl rfl ?_
      refine AOps.k 24 rfl rfl rfl ?_
      refine AOps.k 25 rfl rfl rfl ?_
      refine AOps.k 26 rfl rfl rfl ?_
      refine AOps.s 27 rfl rfl rfl (q_pick_true true rfl rfl rfl rfl) ?_
      refine AOps.nil ?_
      refine AGo.cond_true true rfl rfl ?_
      refine AGo.seq ?_
      refine AGo.region ?_
      refine AOps.s 6 rfl rfl rfl (q_move (.inr rfl) rfl) ?_
      refine AOps.nil ?_
      refine AGo.ret ?_
      refine ⟨[_], ⟨rfl, trivial⟩, ?_, rfl⟩
      show AV.bool _ = AV.bool _
      congr 1
      refine (check_bad1 (fun h => ?_)).symm
      obtain ⟨q1, q2, q3⟩ := h
      simp_all [pathsAV, blocksAV]
    · -- False
      refine AOps.s 22 rfl rfl rfl (q_fieldAddr tok rfl rfl rfl rfl rfl rfl) ?_
      refine AOps.s 23 rfl rfl rfl (q_load tok rfl rfl rfl (by first | exact .loc _ | exact .ptr _ _ _ _ _ _ _ _ rfl rfl rfl) rfl) ?_
      refine AOps.s 24 rfl rfl rfl (q_fieldAddr tok rfl rfl rfl rfl rfl rfl) ?_
      refine AOps.s 25 rfl rfl rfl (q_load tok rfl rfl rfl (by first | exact .loc _ | exact .ptr _ _ _ _ _ _ _ _ rfl rfl rfl) rfl) ?_
      refine AOps.s 26 rfl rfl rfl (q_bin rfl rfl rfl rfl) ?_
      refine AOps.s 27 rfl rfl rfl (q_pick_false false rfl rfl rfl rfl) ?_
      refine AOps.nil ?_
      refine AGo.split 27 rfl (fun hb3 => ?_) (fun hb3 => ?_)
      · -- True
        refine AGo.cond_true true rfl rfl ?_
        refine AGo.seq ?_
        refine AGo.region ?_
        refine AOps.s 6 rfl rfl rfl (q_move (.inr rfl) rfl) ?_
        refine AOps.nil ?_
        refine AGo.ret ?_
        refine ⟨[_], ⟨rfl, trivial⟩, ?_, rfl⟩
        show AV.bool _ = AV.bool _
        congr 1
        refine (check_bad1 (fun h => ?_)).symm
        obtain ⟨q1, q2, q3⟩ := h
        simp_all [pathsAV, blocksAV]
      · -- False
        refine AGo.cond_false false rfl rfl ?_
        have h0 : paths.length ≠ 0 ∧ paths.length = new.blocks.length ∧ old.regs = new.regs := by
          have h1 := hb1
          have h2 := hb2
          have h3 := hb3
          simp only [List.length_map, bne_eq_false_iff_eq, beq_eq_false_iff_ne, ne_eq] at h1 h2 h3
          exact ⟨by omega, by omega, h3⟩
        refine AGo.skip ?_
        refine AGo.seq ?_
        refine AGo.seq ?_
        refine AGo.region ?_
        refine AOps.s 7 rfl rfl rfl (q_move (.inr rfl) rfl) ?_
        refine AOps.nil ?_
        refine AGo.block ?_
        refine AGo.loopD (γ := Nat) 2 (fun k => ⟨95, (eput (eput (eput (eput eNew 2 (pathsAV paths)) 3 (.ptr 0 1 0 0)) 4 (.ptr 1 1 0 0)) 7 (.int .i64 (k : Int))), (hput (hput (hFrom 2) 0 (.row false 2 [old.cells])) 1 (.row false 2 [new.cells]))⟩) (fun k => (paths.take k).all (pathIn old.blocks.length) = true) (fun k => paths.length - k) 0 (Sub.mk' (by repeat (first | exact ESub.new _ | refine ESub.put ?_ (by rfl))) (by repeat (first | exact HSub.none _ | exact HSub.from_new _ | exact HSub.from_from (by decide) | refine HSub.put ?_ (by rfl) | refine HSub.from_put ?_ (by decide) | refine HSub.from_rm ?_ (by decide)))) rfl (fun _ => hput_free (hput_free (fun b hb => hFrom_free hb) rfl) rfl) ?_
        intro k hF
        refine AGo.seq ?_
        refine AGo.seq ?_
        refine AGo.region ?_
        refine AOps.s 28 rfl rfl rfl (q_move (.inl rfl) rfl) ?_
        refine AOps.s 29 rfl rfl rfl (q_move (.inl rfl) rfl) ?_
        refine AOps.s 30 rfl rfl rfl (q_len tok rfl rfl rfl rfl rfl) ?_
        refine AOps.s 31 rfl rfl rfl (q_bin rfl rfl rfl rfl) ?_
        refine AOps.nil ?_
        refine AGo.split 31 rfl (fun hb4 => ?_) (fun hb4 => ?_)
        · -- True
          refine AGo.cond_true true rfl rfl ?_
          have hkl : k < paths.length := lt_of_idx hb4
          obtain ⟨p, hp⟩ := get_of_lt hkl
          have hpp := hps p (List.mem_of_getElem? hp)
          refine AGo.skip ?_
          refine AGo.seq ?_
          refine AGo.block ?_
          refine AGo.seq ?_
          refine AGo.seq ?_
          refine AGo.region ?_
          refine AOps.s 34 rfl rfl rfl (q_move (.inl rfl) rfl) ?_
          refine AOps.s 35 rfl rfl rfl (q_move (.inl rfl) rfl) ?_
          refine AOps.s 36 rfl rfl rfl (q_index_lst tok rfl rfl rfl rfl rfl rfl (Int.natCast_nonneg _) (idx_map hp) rfl) ?_
          refine AOps.s 37 rfl rfl rfl (q_load tok rfl rfl rfl (by first | exact .loc _ | exact .ptr _ _ _ _ _ _ _ _ rfl rfl rfl) rfl) ?_
          refine AOps.s 38 rfl rfl rfl (q_len tok rfl rfl rfl rfl rfl) ?_
          refine AOps.s 39 rfl rfl rfl (q_bin rfl rfl rfl rfl) ?_
          refine AOps.nil ?_
          refine AGo.split 39 rfl (fun hb5 => ?_) (fun hb5 => ?_)
          · -- True
            refine AGo.cond_true true rfl rfl ?_
            have hpe : (p.length == 0) = true := by have h := hb5; simp at h; simp [h]
            refine AGo.seq ?_
            refine AGo.region ?_
            refine AOps.s 6 rfl rfl rfl (q_move (.inr rfl) rfl) ?_
            refine AOps.nil ?_
            refine AGo.ret ?_
            refine ⟨[_], ⟨rfl, trivial⟩, ?_, rfl⟩
            show AV.bool _ = AV.bool _
            congr 1
            exact (check_bad2 (all_bad hp (by simp [pathIn, hpe]))).symm
          · -- False
            refine AGo.cond_false false rfl rfl ?_
            have hpe : (p.length == 0) = false := by have h := hb5; simp at h; simp [h]
            refine AGo.skip ?_
            refine AGo.seq ?_
            refine AGo.region ?_
            refine AOps.s 8 rfl rfl rfl (q_move (.inr rfl) rfl) ?_
            refine AOps.nil ?_
            refine AGo.block ?_
            refine AGo.loopD (γ := Nat) 2 (fun j => ⟨95, (eput (eput (eput (eput (eput eNew 2 (pathsAV paths)) 3 (.ptr 0 1 0 0)) 4 (.ptr 1 1 0 0)) 7 (.int .i64 (k : Int))) 8 (.int .i64 (j : Int))), (hput (hput (hFrom 2) 0 (.row false 2 [old.cells])) 1 (.row false 2 [new.cells]))⟩) (fun j => (p.take j).all (fun i => !(decide (i < 0)) && !(decide (i ≥ (old.blocks.length : Int)))) = true) (fun j => p.length - j) 0 (Sub.mk' (by repeat (first | exact ESub.new _ | refine ESub.put ?_ (by rfl))) (by repeat (first | exact HSub.none _ | exact HSub.from_new _ | exact HSub.from_from (by decide) | refine HSub.put ?_ (by rfl) | refine HSub.from_put ?_ (by decide) | refine HSub.from_rm ?_ (by decide)))) rfl (fun _ => hput_free (hput_free (fun b hb => hFrom_free hb) rfl) rfl) ?_
            intro j hG
            refine AGo.seq ?_
            refine AGo.seq ?_
            refine AGo.region ?_
            refine AOps.s 40 rfl rfl rfl (q_move (.inl rfl) rfl) ?_
            refine AOps.s 41 rfl rfl rfl (q_move (.inl rfl) rfl) ?_
            refine AOps.s 42 rfl rfl rfl (q_move (.inl rfl) rfl) ?_
            refine AOps.s 43 rfl rfl rfl (q_index_lst tok rfl rfl rfl rfl rfl rfl (Int.natCast_nonneg _) (idx_map hp) rfl) ?_
            refine AOps.s 44 rfl rfl rfl (q_load tok rfl rfl rfl (by first | exact .loc _ | exact .ptr _ _ _ _ _ _ _ _ rfl rfl rfl) rfl) ?_
            refine AOps.s 45 rfl rfl rfl (q_len tok rfl rfl rfl rfl rfl) ?_
            refine AOps.s 46 rfl rfl rfl (q_bin rfl rfl rfl rfl) ?_
            refine AOps.nil ?_
            refine AGo.split 46 rfl (fun hb6 => ?_) (fun hb6 => ?_)
            · -- True
              refine AGo.cond_true true rfl rfl ?_
              have hjl : j < p.length := lt_of_idx hb6
              obtain ⟨y, hy⟩ := get_of_lt hjl
              refine AGo.skip ?_
              refine AGo.seq ?_
              refine AGo.block ?_
              refine AGo.seq ?_
              refine AGo.draw mix ?_
              refine DOps.s 49 rfl rfl rfl (q_move (.inl rfl) rfl) ?_
              refine DOps.s 50 rfl rfl rfl (q_move (.inl rfl) rfl) ?_
              refine DOps.s 51 rfl rfl rfl (q_index_lst tok rfl rfl rfl rfl rfl rfl (Int.natCast_nonneg _) (idx_map hp) rfl) ?_
              refine DOps.s 52 rfl rfl rfl (q_load tok rfl rfl rfl (by first | exact .loc _ | exact .ptr _ _ _ _ _ _ _ _ rfl rfl rfl) rfl) ?_
              refine DOps.s 53 rfl rfl rfl (q_move (.inl rfl) rfl) ?_
              refine DOps.s 54 rfl rfl rfl (q_index_lst tok rfl rfl rfl rfl rfl rfl (Int.natCast_nonneg _) (idx_map hy) rfl) ?_
              refine DOps.s 55 rfl rfl rfl (q_load tok rfl rfl rfl (by first | exact .loc _ | exact .ptr _ _ _ _ _ _ _ _ rfl rfl rfl) rfl) ?_
              refine DOps.s 56 rfl rfl rfl (q_bin rfl rfl rfl rfl) ?_
              refine DOps.s 57 rfl rfl rfl (q_move (.inl rfl) rfl) ?_
              refine DOps.split 57 rfl (fun hb7 => ?_) (fun hb7 => ?_)
              · -- True
                refine DOps.u 58 rfl rfl rfl ?_
                refine DOps.u 59 rfl rfl rfl ?_
                refine DOps.u 60 rfl rfl rfl ?_
                refine DOps.u 61 rfl rfl rfl ?_
                refine DOps.u 62 rfl rfl rfl ?_
                refine DOps.u 63 rfl rfl rfl ?_
                refine DOps.u 64 rfl rfl rfl ?_
                refine DOps.u 65 rfl rfl rfl ?_
                refine DOps.u 66 rfl rfl rfl ?_
                refine DOps.u 67 rfl rfl rfl ?_
                refine DOps.u 68 rfl rfl rfl ?_
                refine DOps.s 69 rfl rfl rfl (q_pick_true true rfl rfl rfl rfl) ?_
                refine DOps.nil (by kernel_rfl) ?_
                refine AGo.cond_true true rfl rfl ?_
                refine AGo.seq ?_
                refine AGo.region ?_
                refine AOps.s 6 rfl rfl rfl (q_move (.inr rfl) rfl) ?_
                refine AOps.nil ?_
                refine AGo.ret ?_
                refine ⟨[_], ⟨rfl, trivial⟩, ?_, rfl⟩
                show AV.bool _ = AV.bool _
                congr 1
                exact (check_bad2 (all_bad hp (by simp only [pathIn]; rw [all_bad (p := (fun i => !(decide (i < 0)) && !(decide (i ≥ (old.blocks.length : Int))))) hy (by simp_all [blocksAV])]; simp))).symm
              · -- False
                refine DOps.s 58 rfl rfl rfl (q_move (.inl rfl) rfl) ?_
                refine DOps.s 59 rfl rfl rfl (q_move (.inl rfl) rfl) ?_
                refine DOps.s 60 rfl rfl rfl (q_index_lst tok rfl rfl rfl rfl rfl rfl (Int.natCast_nonneg _) (idx_map hp) rfl) ?_
                refine DOps.s 61 rfl rfl rfl (q_load tok rfl rfl rfl (by first | exact .loc _ | exact .ptr _ _ _ _ _ _ _ _ rfl rfl rfl) rfl) ?_
                refine DOps.s 62 rfl rfl rfl (q_move (.inl rfl) rfl) ?_
                refine DOps.s 63 rfl rfl rfl (q_index_lst tok rfl rfl rfl rfl rfl rfl (Int.natCast_nonneg _) (idx_map hy) rfl) ?_
                refine DOps.s 64 rfl rfl rfl (q_load tok rfl rfl rfl (by first | exact .loc _ | exact .ptr _ _ _ _ _ _ _ _ rfl rfl rfl) rfl) ?_
                refine DOps.s 65 rfl rfl rfl (q_fieldAddr tok rfl rfl rfl rfl rfl rfl) ?_
                refine DOps.s 66 rfl rfl rfl (q_load tok rfl rfl rfl (by first | exact .loc _ | exact .ptr _ _ _ _ _ _ _ _ rfl rfl rfl) rfl) ?_
                refine DOps.s 67 rfl rfl rfl (q_len tok rfl rfl rfl rfl rfl) ?_
                refine DOps.s 68 rfl rfl rfl (q_bin rfl rfl rfl rfl) ?_
                refine DOps.s 69 rfl rfl rfl (q_pick_false false rfl rfl rfl rfl) ?_
                refine DOps.nil (by kernel_rfl) ?_
                refine AGo.split 69 rfl (fun hb8 => ?_) (fun hb8 => ?_)
                · -- True
                  refine AGo.cond_true true rfl rfl ?_
                  refine AGo.seq ?_
                  refine AGo.region ?_
                  refine AOps.s 6 rfl rfl rfl (q_move (.inr rfl) rfl) ?_
                  refine AOps.nil ?_
                  refine AGo.ret ?_
                  refine ⟨[_], ⟨rfl, trivial⟩, ?_, rfl⟩
                  show AV.bool _ = AV.bool _
                  congr 1
                  exact (check_bad2 (all_bad hp (by simp only [pathIn]; rw [all_bad (p := (fun i => !(decide (i < 0)) && !(decide (i ≥ (old.blocks.length : Int))))) hy (by simp_all [blocksAV])]; simp))).symm
                · -- False
                  refine AGo.cond_false false rfl rfl ?_
                  refine AGo.skip ?_
                  refine AGo.region ?_
                  refine AOps.s 47 rfl rfl rfl (q_move (.inl rfl) rfl) ?_
                  refine AOps.s 48 rfl rfl rfl (q_inc rfl rfl hjl (by simp only [maxLen]; omega)) ?_
                  refine AOps.s 8 rfl rfl rfl (q_move (.inr rfl) rfl) ?_
                  refine AOps.nil ?_
                  exact ⟨j+1, Drop.mk' (by repeat (first | exact EDrop.new _ _ | refine EDrop.put ?_ (by rfl) rfl)) (by repeat (first | exact HDrop.none _ _ | exact HDrop.tail _ _ | refine HDrop.put ?_ (by rfl) rfl rfl)), (all_succ hy hG (by simp_all [blocksAV])), by omega⟩
            · -- False
              refine AGo.cond_false false rfl rfl ?_
              have hge2 := ge_of_idx hb6
              refine AGo.exit ?_
              refine AGo.region ?_
              refine AOps.s 32 rfl rfl rfl (q_move (.inl rfl) rfl) ?_
              refine AOps.s 33 rfl rfl rfl (q_inc rfl rfl hkl (by simp only [maxLen]; omega)) ?_
              refine AOps.s 7 rfl rfl rfl (q_move (.inr rfl) rfl) ?_
              refine AOps.nil ?_
              exact ⟨k+1, Drop.mk' (by repeat (first | exact EDrop.new _ _ | refine EDrop.put ?_ (by rfl) rfl)) (by repeat (first | exact HDrop.none _ _ | exact HDrop.tail _ _ | refine HDrop.put ?_ (by rfl) rfl rfl)), (all_succ hp hF (by simp only [pathIn, hpe, Bool.not_false, Bool.true_and]; exact all_end hG hge2)), by omega⟩
        · -- False
          refine AGo.cond_false false rfl rfl ?_
          have hge := ge_of_idx hb4
          have hall := all_end hF hge
          have hp00 := pathK_get (paths := paths) (k := 0) (by omega)
          have hp01 := headZ_get (pathIn_inF (List.all_eq_true.1 hall _ (List.mem_of_getElem? hp00))).1
          refine AGo.exit ?_
          refine AGo.seq ?_
          refine AGo.seq ?_
          refine AGo.region ?_
          refine AOps.s 70 rfl rfl rfl (q_move (.inl rfl) rfl) ?_
          refine AOps.s 71 rfl rfl rfl (q_index_lst tok rfl rfl rfl rfl rfl rfl (by decide) (cs := pathCell (pathK paths 0)) (idx_mapZ hp00) rfl) ?_
          refine AOps.s 72 rfl rfl rfl (q_load tok rfl rfl rfl (by first | exact .loc _ | exact .ptr _ _ _ _ _ _ _ _ rfl rfl rfl) rfl) ?_
          refine AOps.s 73 rfl rfl rfl (q_index_lst tok rfl rfl rfl rfl rfl rfl (by decide) (cs := [.int .i64 (headZ (pathK paths 0))]) (by show (List.map (fun b => [AV.int .i64 b]) (pathK paths 0))[0]? = _; rw [List.getElem?_map, hp01]; rfl) rfl) ?_
          refine AOps.s 74 rfl rfl rfl (q_load tok rfl rfl rfl (by first | exact .loc _ | exact .ptr _ _ _ _ _ _ _ _ rfl rfl rfl) rfl) ?_
          refine AOps.s 75 rfl rfl rfl (q_bin rfl rfl rfl rfl) ?_
          refine AOps.nil ?_
          refine AGo.split 75 rfl (fun hb9 => ?_) (fun hb9 => ?_)
          · -- True
            refine AGo.cond_true true rfl rfl ?_
            have hz := hb9
            refine AGo.seq ?_
            refine AGo.region ?_
            refine AOps.s 6 rfl rfl rfl (q_move (.inr rfl) rfl) ?_
            refine AOps.nil ?_
            refine AGo.ret ?_
            refine ⟨[_], ⟨rfl, trivial⟩, ?_, rfl⟩
            show AV.bool _ = AV.bool _
            congr 1
            exact (check_bad3 hz).symm
          · -- False
            refine AGo.cond_false false rfl rfl ?_
            have hz := hb9
            refine AGo.skip ?_
            refine AGo.seq ?_
            refine AGo.seq ?_
            refine AGo.region ?_
            refine AOps.s 9 rfl rfl rfl (q_move (.inr rfl) rfl) ?_
            refine AOps.nil ?_
            refine AGo.block ?_
            refine AGo.loopD (γ := Nat) 2 (fun k => ⟨95, (eput (eput (eput (eput eNew 2 (pathsAV paths)) 3 (.ptr 0 1 0 0)) 4 (.ptr 1 1 0 0)) 9 (.int .i64 (k : Int))), (hput (hput (hFrom 2) 0 (.row false 2 [old.cells])) 1 (.row false 2 [new.cells]))⟩) (fun k => (paths.zipIdx.take k).all (stepB old new paths) = true) (fun k => paths.length - k) 0 (Sub.mk' (by repeat (first | exact ESub.new _ | refine ESub.put ?_ (by rfl))) (by repeat (first | exact HSub.none _ | exact HSub.from_new _ | exact HSub.from_from (by decide) | refine HSub.put ?_ (by rfl) | refine HSub.from_put ?_ (by decide) | refine HSub.from_rm ?_ (by decide)))) rfl (fun _ => hput_free (hput_free (fun b hb => hFrom_free hb) rfl) rfl) ?_
            intro k hS
            refine AGo.seq ?_
            refine AGo.seq ?_
            refine AGo.region ?_
            refine AOps.s 76 rfl rfl rfl (q_move (.inl rfl) rfl) ?_
            refine AOps.s 77 rfl rfl rfl (q_move (.inl rfl) rfl) ?_
            refine AOps.s 78 rfl rfl rfl (q_len tok rfl rfl rfl rfl rfl) ?_
            refine AOps.s 79 rfl rfl rfl (q_bin rfl rfl rfl rfl) ?_
            refine AOps.nil ?_
            refine AGo.split 79 rfl (fun hb10 => ?_) (fun hb10 => ?_)
            · -- True
              refine AGo.cond_true true rfl rfl ?_
              have hkl : k < paths.length := lt_of_idx hb10
              obtain ⟨p, hp⟩ := get_of_lt hkl
              have hpp := hps p (List.mem_of_getElem? hp)
              have hpin := pathIn_inF (List.all_eq_true.1 hall p (List.mem_of_getElem? hp))
              have hnb : new.blocks[((k : Nat) : Int).toNat]? = some (new.blockAt k) := blockAt_get (by omega)
              refine AGo.skip ?_
              refine AGo.seq ?_
              refine AGo.block ?_
              refine AGo.seq ?_
              refine AGo.draw mix ?_
              refine DOps.s 82 rfl rfl rfl (q_load tok rfl rfl rfl (by first | exact .loc _ | exact .ptr _ _ _ _ _ _ _ _ rfl rfl rfl) rfl) ?_
              refine DOps.s 83 rfl rfl rfl (q_fieldAddr tok rfl rfl rfl rfl rfl rfl) ?_
              refine DOps.s 84 rfl rfl rfl (q_load tok rfl rfl rfl (by first | exact .loc _ | exact .ptr _ _ _ _ _ _ _ _ rfl rfl rfl) rfl) ?_
              refine DOps.s 85 rfl rfl rfl (q_move (.inl rfl) rfl) ?_
              refine DOps.s 86 rfl rfl rfl (q_index_lst tok rfl rfl rfl rfl rfl rfl (Int.natCast_nonneg _) (cs := (new.blockAt k).cells) (idx_mapZ hnb) rfl) ?_
              refine DOps.s 87 rfl rfl rfl (q_load tok rfl rfl rfl (by first | exact .loc _ | exact .ptr _ _ _ _ _ _ _ _ rfl rfl rfl) rfl) ?_
              refine DOps.s 88 rfl rfl rfl (q_move (.inl rfl) rfl) ?_
              refine DOps.s 89 rfl rfl rfl (q_move (.inl rfl) rfl) ?_
              refine DOps.s 90 rfl rfl rfl (q_move (.inl rfl) rfl) ?_
              refine DOps.s 91 rfl rfl rfl (q_index_lst tok rfl rfl rfl rfl rfl rfl (Int.natCast_nonneg _) (idx_map hp) rfl) ?_
              refine DOps.s 92 rfl rfl rfl (q_load tok rfl rfl rfl (by first | exact .loc _ | exact .ptr _ _ _ _ _ _ _ _ rfl rfl rfl) rfl) ?_
              refine DOps.x 93 rfl rfl rfl (o_pure rfl Try.func37 (by kernel_rfl) rfl rfl rfl (one33_ok old (new.blockAt k) paths p (fun p hp => (pathIn_inF (List.all_eq_true.1 hall p hp)).1) hpin hpp (hnl _ (List.mem_of_getElem? hnb)) hol)) ?_
              refine DOps.s 94 rfl rfl rfl (q_not rfl rfl) ?_
              refine DOps.nil (by kernel_rfl) ?_
              refine AGo.split 94 rfl (fun hb11 => ?_) (fun hb11 => ?_)
              · -- True
                refine AGo.cond_true true rfl rfl ?_
                refine AGo.seq ?_
                refine AGo.region ?_
                refine AOps.s 6 rfl rfl rfl (q_move (.inr rfl) rfl) ?_
                refine AOps.nil ?_
                refine AGo.ret ?_
                refine ⟨[_], ⟨rfl, trivial⟩, ?_, rfl⟩
                show AV.bool _ = AV.bool _
                congr 1
                exact (check_bad4 (all_bad (zipIdx_get hp) (by rw [stepB_one]; simpa using (show (!oneB old (new.blockAt k) paths p) = true from ‹_›)))).symm
              · -- False
                refine AGo.cond_false false rfl rfl ?_
                refine AGo.skip ?_
                refine AGo.region ?_
                refine AOps.s 80 rfl rfl rfl (q_move (.inl rfl) rfl) ?_
                refine AOps.s 81 rfl rfl rfl (q_inc rfl rfl hkl (by simp only [maxLen]; omega)) ?_
                refine AOps.s 9 rfl rfl rfl (q_move (.inr rfl) rfl) ?_
                refine AOps.nil ?_
                exact ⟨k+1, Drop.mk' (by repeat (first | exact EDrop.new _ _ | refine EDrop.put ?_ (by rfl) rfl)) (by repeat (first | exact HDrop.none _ _ | exact HDrop.tail _ _ | refine HDrop.put ?_ (by rfl) rfl rfl)), (all_succ (zipIdx_get hp) hS (by rw [stepB_one]; simpa using (show (!oneB old (new.blockAt k) paths p) = false from ‹_›))), by omega⟩
            · -- False
              refine AGo.cond_false false rfl rfl ?_
              have hge3 := ge_of_idx hb10
              refine AGo.exit ?_
              refine AGo.seq ?_
              refine AGo.region ?_
              refine AOps.s 6 rfl rfl rfl (q_move (.inr rfl) rfl) ?_
              refine AOps.nil ?_
              refine AGo.ret ?_
              refine ⟨[_], ⟨rfl, trivial⟩, ?_, rfl⟩
              show AV.bool _ = AV.bool _
              congr 1
              exact (check_good h0.1 h0.2.1 h0.2.2 hall hz (all_end hS (by rw [List.length_zipIdx]; exact hge3))).symm

end Go.Proofs.Ytidfabbnobipkaa.Sv
