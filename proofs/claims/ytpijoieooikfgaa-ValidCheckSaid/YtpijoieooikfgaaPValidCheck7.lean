/-
  The law ValidCheck of the given program answers true for every input, and leaves its arguments as they were. There is no condition. Own work.
  WALKS: printed by a program of our own from the code's tree.
  WALKS: printed by a program of our own from the code's tree.
-/
import Derived.Test.YtpijoieooikfgaaPValidCheck5
import Derived.Test.YtpijoieooikfgaaPValidCheck6
import Derived.Test.YtpijoieooikfgaaPValidCheck3
import Derived.Test.YtpijoieooikfgaaPValidCheck2
namespace Go.Proofs.Ytpijoieooikfgaa.Sv
open Go

set_option maxHeartbeats 1000000 in
set_option maxRecDepth 100000 in
theorem rshape_ok (old new : BFunc) (hno : old.blocks.length ≤ 10000) (hnn : new.blocks.length ≤ 10000) (hio : ∀ x ∈ old.blocks, x.ins.length ≤ 10000 ∧ insW x.ins) (hin : ∀ x ∈ new.blocks, x.ins.length ≤ 10000 ∧ insW x.ins) : APure Try.prog 29 [.agg old.cells, .agg new.cells] (fun r => r = .bool (vshaped old new)) := by
 refine APure.of_body (n := 68) tok Try.func29 rfl rfl ?_
 refine AGo.seq ?_
 refine AGo.region ?_
 refine ax 2 (o_box (sz := 2) 0 rfl rfl rfl rfl (Nat.zero_lt_succ _) rfl) ?_
 refine ax 3 (o_box (sz := 2) 1 rfl rfl rfl rfl (Nat.zero_lt_succ _) rfl) ?_
 refine aa 4 ?_
 refine AOps.nil ?_
 refine AGo.seq ?_
 refine AGo.seq ?_
 refine AGo.region ?_
 refine al 8 tok ?_
 refine ax 9 (o_pure rfl Try.func37 (by kernel_rfl) rfl rfl rfl (may_ok old (by omega) (fun x hx => by have := (hio x hx).1; omega))) ?_
 refine aq 10 (q_not rfl rfl) ?_
 refine am 11 ?_
 refine AOps.split 11 rfl (fun hb1 => ?_) (fun hb1 => ?_)
 ·
  refine ak 12 ?_
  refine ak 13 ?_
  refine ak 14 ?_
  refine aq 15 (q_pick_true true rfl rfl rfl rfl) ?_
  refine am 16 ?_
  refine ak 17 ?_
  refine ak 18 ?_
  refine ak 19 ?_
  refine ak 20 ?_
  refine ak 21 ?_
  refine aq 22 (q_pick_true true rfl rfl rfl rfl) ?_
  refine am 23 ?_
  refine ak 24 ?_
  refine ak 25 ?_
  refine ak 26 ?_
  refine ak 27 ?_
  refine ak 28 ?_
  refine ak 29 ?_
  refine ak 30 ?_
  refine aq 31 (q_pick_true true rfl rfl rfl rfl) ?_
  refine AOps.nil ?_
  refine AGo.cond_true true rfl rfl ?_
  refine AGo.seq ?_
  refine AGo.region ?_
  refine aa 4 ?_
  refine AOps.nil ?_
  refine AGo.ret ?_
  refine ⟨[_], ⟨rfl, trivial⟩, ?_, rfl⟩
  show AV.bool _ = AV.bool _
  congr 1
  first
  | exact (vshaped_regs (by assumption)).symm
  | exact (vshaped_len' (by assumption)).symm
  | exact (vshaped_s1 (ndec_same' (b := old.stands) (by assumption))).symm
  | exact (vshaped_s2 (ndec_same' (b := new.stands) (by assumption))).symm
 ·
  refine al 12 tok ?_
  refine ax 13 (o_pure rfl Try.func37 (by kernel_rfl) rfl rfl rfl (may_ok new (by omega) (fun x hx => by have := (hin x hx).1; omega))) ?_
  refine aq 14 (q_not rfl rfl) ?_
  refine aq 15 (q_pick_false false rfl rfl rfl rfl) ?_
  refine am 16 ?_
  refine AOps.split 16 rfl (fun hb2 => ?_) (fun hb2 => ?_)
  ·
   refine ak 17 ?_
   refine ak 18 ?_
   refine ak 19 ?_
   refine ak 20 ?_
   refine ak 21 ?_
   refine aq 22 (q_pick_true true rfl rfl rfl rfl) ?_
   refine am 23 ?_
   refine ak 24 ?_
   refine ak 25 ?_
   refine ak 26 ?_
   refine ak 27 ?_
   refine ak 28 ?_
   refine ak 29 ?_
   refine ak 30 ?_
   refine aq 31 (q_pick_true true rfl rfl rfl rfl) ?_
   refine AOps.nil ?_
   refine AGo.cond_true true rfl rfl ?_
   refine AGo.seq ?_
   refine AGo.region ?_
   refine aa 4 ?_
   refine AOps.nil ?_
   refine AGo.ret ?_
   refine ⟨[_], ⟨rfl, trivial⟩, ?_, rfl⟩
   show AV.bool _ = AV.bool _
   congr 1
   first
   | exact (vshaped_regs (by assumption)).symm
   | exact (vshaped_len' (by assumption)).symm
   | exact (vshaped_s1 (ndec_same' (b := old.stands) (by assumption))).symm
   | exact (vshaped_s2 (ndec_same' (b := new.stands) (by assumption))).symm
  ·
   refine af 17 tok ?_
   refine al 18 tok ?_
   refine af 19 tok ?_
   refine al 20 tok ?_
   refine aq 21 (q_bin rfl rfl rfl rfl) ?_
   refine aq 22 (q_pick_false false rfl rfl rfl rfl) ?_
   refine am 23 ?_
   refine AOps.split 23 rfl (fun hb3 => ?_) (fun hb3 => ?_)
   ·
    refine ak 24 ?_
    refine ak 25 ?_
    refine ak 26 ?_
    refine ak 27 ?_
    refine ak 28 ?_
    refine ak 29 ?_
    refine ak 30 ?_
    refine aq 31 (q_pick_true true rfl rfl rfl rfl) ?_
    refine AOps.nil ?_
    refine AGo.cond_true true rfl rfl ?_
    refine AGo.seq ?_
    refine AGo.region ?_
    refine aa 4 ?_
    refine AOps.nil ?_
    refine AGo.ret ?_
    refine ⟨[_], ⟨rfl, trivial⟩, ?_, rfl⟩
    show AV.bool _ = AV.bool _
    congr 1
    first
    | exact (vshaped_regs (by assumption)).symm
    | exact (vshaped_len' (by assumption)).symm
    | exact (vshaped_s1 (ndec_same' (b := old.stands) (by assumption))).symm
    | exact (vshaped_s2 (ndec_same' (b := new.stands) (by assumption))).symm
   ·
    refine af 24 tok ?_
    refine al 25 tok ?_
    refine aq 26 (q_len tok rfl rfl rfl rfl rfl) ?_
    refine af 27 tok ?_
    refine al 28 tok ?_
    refine aq 29 (q_len tok rfl rfl rfl rfl rfl) ?_
    refine aq 30 (q_bin rfl rfl rfl rfl) ?_
    refine aq 31 (q_pick_false false rfl rfl rfl rfl) ?_
    refine AOps.nil ?_
    refine AGo.split 31 rfl (fun hb4 => ?_) (fun hb4 => ?_)
    ·
     refine AGo.cond_true true rfl rfl ?_
     refine AGo.seq ?_
     refine AGo.region ?_
     refine aa 4 ?_
     refine AOps.nil ?_
     refine AGo.ret ?_
     refine ⟨[_], ⟨rfl, trivial⟩, ?_, rfl⟩
     show AV.bool _ = AV.bool _
     congr 1
     first
     | exact (vshaped_regs (by assumption)).symm
     | exact (vshaped_len' (by assumption)).symm
     | exact (vshaped_s1 (ndec_same' (b := old.stands) (by assumption))).symm
     | exact (vshaped_s2 (ndec_same' (b := new.stands) (by assumption))).symm
    ·
     refine AGo.cond_false false rfl rfl ?_
     have hlen := len_eq' (by assumption)
     refine AGo.skip ?_
     refine AGo.seq ?_
     refine AGo.seq ?_
     refine AGo.region ?_
     refine aa 5 ?_
     refine AOps.nil ?_
     refine AGo.block ?_
     refine AGo.loopD (γ := Nat) 2 (fun k => ⟨68, (eput (eput (eput eNew 2 (.ptr 0 1 0 0)) 3 (.ptr 1 1 0 0)) 5 (.int .i64 (k : Int))), (hput (hput (hFrom 2) 0 (.row false 2 [old.cells])) 1 (.row false 2 [new.cells]))⟩) (fun k => k ≤ old.blocks.length ∧ ((old.blocks.zip new.blocks).take k).all (fun p => shapeB p.1 p.2) = true) (fun k => old.blocks.length - k) 0 (Sub.mk' (by repeat (first | exact ESub.new _ | refine ESub.put ?_ (by first | rfl | exact congrArg (fun (n : Nat) => some (AV.int .i64 (n : Int))) (by simp)))) (by repeat (first | exact HSub.refl _ | exact HSub.none _ | exact HSub.from_new _ | exact HSub.from_from (by first | decide | omega | (dsimp only; omega)) | refine HSub.put ?_ (by rfl) | refine HSub.from_put ?_ (by first | decide | omega | (dsimp only; omega)) | refine HSub.from_rm ?_ (by decide)))) ⟨Nat.zero_le _, rfl⟩ (fun _ => hput_free (hput_free (fun b hb => hFrom_free hb) rfl) rfl) ?_
     intro k ⟨hk, hall⟩
     refine AGo.seq ?_
     refine AGo.seq ?_
     refine AGo.region ?_
     refine am 32 ?_
     refine af 33 tok ?_
     refine al 34 tok ?_
     refine aq 35 (q_len tok rfl rfl rfl rfl rfl) ?_
     refine aq 36 (q_bin rfl rfl rfl rfl) ?_
     refine AOps.nil ?_
     refine AGo.split 36 rfl (fun hb5 => ?_) (fun hb5 => ?_)
     ·
      refine AGo.cond_true true rfl rfl ?_
      have hkl : k < old.blocks.length := by simpa using hb5
      obtain ⟨x, hx⟩ := get_of_lt hkl
      obtain ⟨y, hy⟩ := get_of_lt (l := new.blocks) (k := k) (by omega)
      refine AGo.skip ?_
      refine AGo.seq ?_
      refine AGo.block ?_
      refine AGo.seq ?_
      refine AGo.draw mix ?_
      refine df 39 tok ?_
      refine dl 40 tok ?_
      refine dm 41 ?_
      refine dq 42 (q_index_lst tok rfl rfl rfl rfl rfl rfl (Int.natCast_nonneg _) (idx_map hx) rfl) ?_
      refine dl 43 tok ?_
      refine df 44 tok ?_
      refine dl 45 tok ?_
      refine dm 46 ?_
      refine dq 47 (q_index_lst tok rfl rfl rfl rfl rfl rfl (Int.natCast_nonneg _) (idx_map hy) rfl) ?_
      refine dl 48 tok ?_
      refine dx 6 (o_alloc tok 2 rfl rfl rfl rfl (Nat.zero_lt_succ _) rfl) ?_
      refine dx 7 (o_alloc tok 3 rfl rfl rfl rfl (Nat.zero_lt_succ _) rfl) ?_
      refine DOps.w rfl rfl (o_store tok rfl rfl rfl rfl rfl rfl rfl rfl rfl (by decide) rfl (by first | exact fun _ => rfl | (intro h; cases h))) ?_
      refine DOps.w rfl rfl (o_store tok rfl rfl rfl rfl rfl rfl rfl rfl rfl (by decide) rfl (by first | exact fun _ => rfl | (intro h; cases h))) ?_
      refine DOps.nil (by kernel_rfl) ?_
      refine AGo.seq ?_
      refine AGo.region ?_
      refine af 49 tok ?_
      refine al 50 tok ?_
      refine af 51 tok ?_
      refine al 52 tok ?_
      refine aq 53 (q_bin rfl rfl rfl rfl) ?_
      refine am 54 ?_
      refine AOps.split 54 rfl (fun hb6 => ?_) (fun hb6 => ?_)
      ·
       refine ak 55 ?_
       refine ak 56 ?_
       refine ak 57 ?_
       refine ak 58 ?_
       refine ak 59 ?_
       refine aq 60 (q_pick_true true rfl rfl rfl rfl) ?_
       refine am 61 ?_
       refine ak 62 ?_
       refine ak 63 ?_
       refine ak 64 ?_
       refine ak 65 ?_
       refine ak 66 ?_
       refine aq 67 (q_pick_true true rfl rfl rfl rfl) ?_
       refine AOps.nil ?_
       refine AGo.cond_true true rfl rfl ?_
       refine AGo.seq ?_
       refine AGo.region ?_
       refine aa 4 ?_
       refine AOps.nil ?_
       refine AGo.ret ?_
       refine ⟨[_], ⟨rfl, trivial⟩, ?_, rfl⟩
       show AV.bool _ = AV.bool _
       congr 1
       first
       | exact (vshaped_b hx hy (shape_f (by assumption))).symm
       | exact (vshaped_b hx hy (shape_t (by assumption))).symm
       | exact (vshaped_b hx hy (shape_e (by assumption))).symm
      ·
       refine af 55 tok ?_
       refine al 56 tok ?_
       refine af 57 tok ?_
       refine al 58 tok ?_
       refine aq 59 (q_bin rfl rfl rfl rfl) ?_
       refine aq 60 (q_pick_false false rfl rfl rfl rfl) ?_
       refine am 61 ?_
       refine AOps.split 61 rfl (fun hb7 => ?_) (fun hb7 => ?_)
       ·
        refine ak 62 ?_
        refine ak 63 ?_
        refine ak 64 ?_
        refine ak 65 ?_
        refine ak 66 ?_
        refine aq 67 (q_pick_true true rfl rfl rfl rfl) ?_
        refine AOps.nil ?_
        refine AGo.cond_true true rfl rfl ?_
        refine AGo.seq ?_
        refine AGo.region ?_
        refine aa 4 ?_
        refine AOps.nil ?_
        refine AGo.ret ?_
        refine ⟨[_], ⟨rfl, trivial⟩, ?_, rfl⟩
        show AV.bool _ = AV.bool _
        congr 1
        first
        | exact (vshaped_b hx hy (shape_f (by assumption))).symm
        | exact (vshaped_b hx hy (shape_t (by assumption))).symm
        | exact (vshaped_b hx hy (shape_e (by assumption))).symm
       ·
        refine af 62 tok ?_
        refine al 63 tok ?_
        refine af 64 tok ?_
        refine al 65 tok ?_
        refine aq 66 (q_bin rfl rfl rfl rfl) ?_
        refine aq 67 (q_pick_false false rfl rfl rfl rfl) ?_
        refine AOps.nil ?_
        refine AGo.split 67 rfl (fun hb8 => ?_) (fun hb8 => ?_)
        ·
         refine AGo.cond_true true rfl rfl ?_
         refine AGo.seq ?_
         refine AGo.region ?_
         refine aa 4 ?_
         refine AOps.nil ?_
         refine AGo.ret ?_
         refine ⟨[_], ⟨rfl, trivial⟩, ?_, rfl⟩
         show AV.bool _ = AV.bool _
         congr 1
         first
         | exact (vshaped_b hx hy (shape_f (by assumption))).symm
         | exact (vshaped_b hx hy (shape_t (by assumption))).symm
         | exact (vshaped_b hx hy (shape_e (by assumption))).symm
        ·
         refine AGo.cond_false false rfl rfl ?_
         refine AGo.skip ?_
         refine AGo.region ?_
         refine am 37 ?_
         refine aq 38 (q_inc rfl rfl hkl (show old.blocks.length ≤ maxLen by simp only [maxLen]; omega)) ?_
         refine aa 5 ?_
         refine AOps.nil ?_
         exact ⟨k+1, Drop.mk' (by repeat (first | exact EDrop.new _ _ | refine EDrop.put ?_ (by rfl) (by first | rfl | exact slA_avoid _ rfl | exact vaA_avoid _ rfl))) (by repeat (first | exact HDrop.none _ _ | exact HDrop.tail _ _ | refine HDrop.put ?_ (by rfl) rfl (by first | rfl | exact slO_avoid _ _ | exact vaO_avoid _ | exact tab_avoid _ _ rfl rfl | exact wlk_avoid _ _ _ rfl rfl rfl))), ⟨hkl, all_succ (zip_at hx hy) hall (shape_y (by assumption) (by assumption) (by assumption))⟩, by omega⟩
     ·
      refine AGo.cond_false false rfl rfl ?_
      have hge : old.blocks.length ≤ k := by simpa using hb5
      refine AGo.exit ?_
      refine AGo.seq ?_
      refine AGo.region ?_
      refine aa 4 ?_
      refine AOps.nil ?_
      refine AGo.ret ?_
      refine ⟨[_], ⟨rfl, trivial⟩, ?_, rfl⟩
      show AV.bool _ = AV.bool _
      congr 1
      exact (vshaped_yes (bne_eq' (by assumption)) hlen (ndec_same (by assumption)) (ndec_same (by assumption)) (all_end hall (by rw [List.length_zip]; omega))).symm

set_option maxRecDepth 100000 in
theorem rsized_ok (f : BFunc) (c : Cert) (hcl : c.same.length ≤ 100000) : APure Try.prog 18 [.agg f.cells, .agg c.cells] (fun r => r = .bool (rsized f c)) := by
 refine APure.of_body (n := 29) tok Try.func18 rfl rfl ?_
 refine AGo.seq ?_
 refine AGo.region ?_
 refine ax 2 (o_box (sz := 2) 0 rfl rfl rfl rfl (Nat.zero_lt_succ _) rfl) ?_
 refine ax 3 (o_box (sz := 1) 1 rfl rfl rfl rfl (Nat.zero_lt_succ _) rfl) ?_
 refine aa 4 ?_
 refine AOps.nil ?_
 refine AGo.seq ?_
 refine AGo.seq ?_
 refine AGo.region ?_
 refine af 6 tok ?_
 refine al 7 tok ?_
 refine aq 8 (q_len tok rfl rfl rfl rfl rfl) ?_
 refine af 9 tok ?_
 refine al 10 tok ?_
 refine aq 11 (q_len tok rfl rfl rfl rfl rfl) ?_
 refine aq 12 (q_bin rfl rfl rfl rfl) ?_
 refine AOps.nil ?_
 refine AGo.split 12 rfl (fun hb1 => ?_) (fun hb1 => ?_)
 ·
  refine AGo.cond_true true rfl rfl ?_
  have hne := hb1
  refine AGo.seq ?_
  refine AGo.region ?_
  refine aa 4 ?_
  refine AOps.nil ?_
  refine AGo.ret ?_
  refine ⟨[_], ⟨rfl, trivial⟩, ?_, rfl⟩
  show AV.bool _ = AV.bool _
  congr 1
  exact (rsized_no1 hne).symm
 ·
  refine AGo.cond_false false rfl rfl ?_
  have hcl2 := cert_len (old := f) (c := c) hb1
  refine AGo.skip ?_
  refine AGo.seq ?_
  refine AGo.seq ?_
  refine AGo.region ?_
  refine aa 5 ?_
  refine AOps.nil ?_
  refine AGo.block ?_
  refine AGo.loopD (γ := Nat) 2 (fun j => ⟨29, (eput (eput (eput eNew 2 (.ptr 0 1 0 0)) 3 (.ptr 1 1 0 0)) 5 (.int .i64 (j : Int))), (hput (hput (hFrom 2) 0 (.row false 2 [f.cells])) 1 (.row false 1 [c.cells]))⟩) (fun j => j ≤ c.same.length ∧ (c.same.take j).all (fun r => decide ((r.length : Int) = f.regs)) = true) (fun j => c.same.length - j) 0 (Sub.mk' (by repeat (first | exact ESub.new _ | refine ESub.put ?_ (by first | rfl | exact congrArg (fun (n : Nat) => some (AV.int .i64 (n : Int))) (by simp)))) (by repeat (first | exact HSub.refl _ | exact HSub.none _ | exact HSub.from_new _ | exact HSub.from_from (by first | decide | omega | (dsimp only; omega)) | refine HSub.put ?_ (by rfl) | refine HSub.from_put ?_ (by first | decide | omega | (dsimp only; omega)) | refine HSub.from_rm ?_ (by decide)))) ⟨Nat.zero_le _, rfl⟩ (fun _ => hput_free (hput_free (fun b hb => hFrom_free hb) rfl) rfl) ?_
  intro j ⟨hj, hall⟩
  refine AGo.seq ?_
  refine AGo.seq ?_
  refine AGo.region ?_
  refine am 13 ?_
  refine af 14 tok ?_
  refine al 15 tok ?_
  refine aq 16 (q_len tok rfl rfl rfl rfl rfl) ?_
  refine aq 17 (q_bin rfl rfl rfl rfl) ?_
  refine AOps.nil ?_
  refine AGo.split 17 rfl (fun hb2 => ?_) (fun hb2 => ?_)
  ·
   refine AGo.cond_true true rfl rfl ?_
   have hjl : j < c.same.length := by have h := hb2; simp only [List.length_map, decide_eq_true_eq] at h; omega
   obtain ⟨r, hr⟩ := get_of_lt hjl
   refine AGo.skip ?_
   refine AGo.seq ?_
   refine AGo.block ?_
   refine AGo.seq ?_
   refine AGo.draw mix ?_
   refine df 20 tok ?_
   refine dl 21 tok ?_
   refine dm 22 ?_
   refine dq 23 (q_index_lst tok rfl rfl rfl rfl rfl rfl (Int.natCast_nonneg _) (idx_map hr) rfl) ?_
   refine dl 24 tok ?_
   refine dq 25 (q_len tok rfl rfl rfl rfl rfl) ?_
   refine df 26 tok ?_
   refine dl 27 tok ?_
   refine dq 28 (q_bin rfl rfl rfl rfl) ?_
   refine DOps.nil (by kernel_rfl) ?_
   refine AGo.split 28 rfl (fun hb3 => ?_) (fun hb3 => ?_)
   ·
    refine AGo.cond_true true rfl rfl ?_
    have hbad : ¬ (r.length : Int) = f.regs := by have h := bne_ne' hb3; rw [List.length_map] at h; exact h
    refine AGo.seq ?_
    refine AGo.region ?_
    refine aa 4 ?_
    refine AOps.nil ?_
    refine AGo.ret ?_
    refine ⟨[_], ⟨rfl, trivial⟩, ?_, rfl⟩
    show AV.bool _ = AV.bool _
    congr 1
    exact (rsized_no2 hr hbad).symm
   ·
    refine AGo.cond_false false rfl rfl ?_
    have heq : (r.length : Int) = f.regs := by have h := bne_eq' hb3; rw [List.length_map] at h; exact h
    refine AGo.skip ?_
    refine AGo.region ?_
    refine am 18 ?_
    refine aq 19 (q_inc rfl rfl hjl (show c.same.length ≤ maxLen by simp only [maxLen]; omega)) ?_
    refine aa 5 ?_
    refine AOps.nil ?_
    exact ⟨j+1, Drop.mk' (by repeat (first | exact EDrop.new _ _ | refine EDrop.put ?_ (by rfl) (by first | rfl | exact slA_avoid _ rfl | exact vaA_avoid _ rfl))) (by repeat (first | exact HDrop.none _ _ | exact HDrop.tail _ _ | refine HDrop.put ?_ (by rfl) rfl (by first | rfl | exact slO_avoid _ _ | exact vaO_avoid _ | exact tab_avoid _ _ rfl rfl | exact wlk_avoid _ _ _ rfl rfl rfl))), ⟨hjl, all_succ hr hall (decide_eq_true heq)⟩, by omega⟩
  ·
   refine AGo.cond_false false rfl rfl ?_
   have hjge : c.same.length ≤ j := by have h := hb2; simp only [List.length_map, decide_eq_false_iff_not] at h; omega
   refine AGo.exit ?_
   refine AGo.seq ?_
   refine AGo.region ?_
   refine aa 4 ?_
   refine AOps.nil ?_
   refine AGo.ret ?_
   refine ⟨[_], ⟨rfl, trivial⟩, ?_, rfl⟩
   show AV.bool _ = AV.bool _
   congr 1
   exact (rsized_yes hcl2 (all_end hall hjge)).symm

set_option maxHeartbeats 1000000 in
set_option maxRecDepth 100000 in
theorem rcheck_ok (old new : BFunc) (hno : old.blocks.length ≤ 10000) (hnn : new.blocks.length ≤ 10000) (hio : ∀ x ∈ old.blocks, x.ins.length ≤ 10000 ∧ insW x.ins) (hin : ∀ x ∈ new.blocks, x.ins.length ≤ 10000 ∧ insW x.ins) (c : Cert) (hcl0 : c.same.length ≤ 100000) : APure Try.prog 15 [.agg old.cells, .agg new.cells, .agg c.cells] (fun r => r = .bool (rcheck old new c)) := by
 refine APure.of_body (n := 38) tok Try.func15 rfl rfl ?_
 refine AGo.seq ?_
 refine AGo.region ?_
 refine ax 3 (o_box (sz := 2) 0 rfl rfl rfl rfl (Nat.zero_lt_succ _) rfl) ?_
 refine ax 4 (o_box (sz := 2) 1 rfl rfl rfl rfl (Nat.zero_lt_succ _) rfl) ?_
 refine ax 5 (o_box (sz := 1) 2 rfl rfl rfl rfl (Nat.zero_lt_succ _) rfl) ?_
 refine aa 6 ?_
 refine AOps.nil ?_
 refine AGo.seq ?_
 refine AGo.seq ?_
 refine AGo.region ?_
 refine al 9 tok ?_
 refine al 10 tok ?_
 refine ax 11 (o_pure rfl Try.func29 (by kernel_rfl) rfl rfl rfl (rshape_ok old new hno hnn hio hin)) ?_
 refine aq 12 (q_not rfl rfl) ?_
 refine am 13 ?_
 refine AOps.split 13 rfl (fun hb1 => ?_) (fun hb1 => ?_)
 ·
  refine ak 14 ?_
  refine ak 15 ?_
  refine ak 16 ?_
  refine ak 17 ?_
  refine aq 18 (q_pick_true true rfl rfl rfl rfl) ?_
  refine AOps.nil ?_
  refine AGo.cond_true true rfl rfl ?_
  refine AGo.seq ?_
  refine AGo.region ?_
  refine aa 6 ?_
  refine AOps.nil ?_
  refine AGo.ret ?_
  refine ⟨[_], ⟨rfl, trivial⟩, ?_, rfl⟩
  show AV.bool _ = AV.bool _
  congr 1
  first
  | exact (rcheck_no1 (ndec_same' (b := vshaped old new) (by assumption))).symm
  | exact (rcheck_no2 (ndec_same' (b := rsized old c) (by assumption))).symm
 ·
  refine al 14 tok ?_
  refine al 15 tok ?_
  refine ax 16 (o_pure rfl Try.func18 (by kernel_rfl) rfl rfl rfl (rsized_ok old c hcl0)) ?_
  refine aq 17 (q_not rfl rfl) ?_
  refine aq 18 (q_pick_false false rfl rfl rfl rfl) ?_
  refine AOps.nil ?_
  refine AGo.split 18 rfl (fun hb2 => ?_) (fun hb2 => ?_)
  ·
   refine AGo.cond_true true rfl rfl ?_
   refine AGo.seq ?_
   refine AGo.region ?_
   refine aa 6 ?_
   refine AOps.nil ?_
   refine AGo.ret ?_
   refine ⟨[_], ⟨rfl, trivial⟩, ?_, rfl⟩
   show AV.bool _ = AV.bool _
   congr 1
   first
   | exact (rcheck_no1 (ndec_same' (b := vshaped old new) (by assumption))).symm
   | exact (rcheck_no2 (ndec_same' (b := rsized old c) (by assumption))).symm
  ·
   refine AGo.cond_false false rfl rfl ?_
   have hsh : vshaped old new = true := ndec_same (by assumption)
   have hsz : rsized old c = true := ndec_same (by assumption)
   obtain ⟨hcl, hall2⟩ := rsized_of hsz
   have hV := vshaped_of hsh
   have hSo := stands_of hV.so
   have hSn := stands_of hV.sn
   have hr0 := hSo.r0
   have hr1 := hSo.r1
   have hR : ((old.regs.toNat : Nat) : Int) = old.regs := Int.toNat_of_nonneg hr0
   have hrl : ∀ r ∈ c.same, r.length = old.regs.toNat := fun r hr => by have := hall2 r hr; omega
   refine AGo.skip ?_
   refine AGo.seq ?_
   refine AGo.region ?_
   refine al 19 tok ?_
   refine ax 20 (o_pure rfl Try.func30 (by kernel_rfl) rfl rfl rfl (rnext_ok old (by omega))) ?_
   refine aa 7 ?_
   refine AOps.nil ?_
   refine AGo.seq ?_
   refine AGo.seq ?_
   refine AGo.region ?_
   refine aa 8 ?_
   refine AOps.nil ?_
   refine AGo.block ?_
   refine AGo.loopD (γ := Nat) 3 (fun k => ⟨38, (eput (eput (eput (eput (eput eNew 3 (.ptr 0 1 0 0)) 4 (.ptr 1 1 0 0)) 5 (.ptr 2 1 0 0)) 7 (pathsAV old.nexts)) 8 (.int .i64 (k : Int))), (hput (hput (hput (hFrom 3) 0 (.row false 2 [old.cells])) 1 (.row false 2 [new.cells])) 2 (.row false 1 [c.cells]))⟩) (fun k => k ≤ old.blocks.length ∧ ((old.blocks.zip new.blocks).zipIdx.take k).all (fun p => rsame old.regs.toNat p.1.1 p.1.2 c (p.2 : Int) p.1.1.nexts) = true) (fun k => old.blocks.length - k) 0 (Sub.mk' (by repeat (first | exact ESub.new _ | refine ESub.put ?_ (by first | rfl | exact congrArg (fun (n : Nat) => some (AV.int .i64 (n : Int))) (by simp)))) (by repeat (first | exact HSub.refl _ | exact HSub.none _ | exact HSub.from_new _ | exact HSub.from_from (by first | decide | omega | (dsimp only; omega)) | refine HSub.put ?_ (by rfl) | refine HSub.from_put ?_ (by first | decide | omega | (dsimp only; omega)) | refine HSub.from_rm ?_ (by decide)))) ⟨Nat.zero_le _, rfl⟩ (fun _ => hput_free (hput_free (hput_free (fun b hb => hFrom_free hb) rfl) rfl) rfl) ?_
   intro k ⟨hk, hallb⟩
   refine AGo.seq ?_
   refine AGo.seq ?_
   refine AGo.region ?_
   refine am 21 ?_
   refine af 22 tok ?_
   refine al 23 tok ?_
   refine aq 24 (q_len tok rfl rfl rfl rfl rfl) ?_
   refine aq 25 (q_bin rfl rfl rfl rfl) ?_
   refine AOps.nil ?_
   refine AGo.split 25 rfl (fun hb3 => ?_) (fun hb3 => ?_)
   ·
    refine AGo.cond_true true rfl rfl ?_
    have hkl : k < old.blocks.length := by simpa using hb3
    obtain ⟨x, hx⟩ := get_of_lt hkl
    have hxm := List.mem_of_getElem? hx
    obtain ⟨y, hy⟩ := get_of_lt (l := new.blocks) (k := k) (by have := hV.len; omega)
    have hym := List.mem_of_getElem? hy
    have hsb := hV.b k x y hx hy
    have hnx : ∀ q ∈ x.nexts, 0 ≤ q ∧ q < c.same.length := fun q hq => by rw [hcl]; exact hSo.next x hxm q hq
    have hvv : x.fin = 2 → (0 ≤ x.v ∧ x.v < (old.regs.toNat : Int)) ∧ (0 ≤ y.v ∧ y.v < (old.regs.toNat : Int)) := fun hf => by rw [hR]; refine ⟨hSo.v x hxm hf, ?_⟩; rw [hV.regs]; exact hSn.v y hym (by rw [← hsb.1]; exact hf)
    have hto : ∀ t ∈ x.ins, TacV t old.regs.toNat := fun t ht => hSo.tacs x hxm t ht ((hio x hxm).2 t ht)
    have htn : ∀ t ∈ y.ins, TacV t old.regs.toNat := fun t ht => by rw [hV.regs]; exact hSn.tacs y hym t ht ((hin y hym).2 t ht)
    have hnl : x.nexts.length ≤ 100000 := nexts_short x
    refine AGo.skip ?_
    refine AGo.seq ?_
    refine AGo.block ?_
    refine AGo.seq ?_
    refine AGo.draw mix ?_
    skip
    refine dl 28 tok ?_
    refine dl 29 tok ?_
    refine dl 30 tok ?_
    refine dm 31 ?_
    refine dm 32 ?_
    refine dm 33 ?_
    refine dq 34 (q_index_lst tok rfl rfl rfl rfl rfl rfl (Int.natCast_nonneg _) (idx_map (nexts_get hx)) rfl) ?_
    refine dl 35 tok ?_
    refine dx 36 (o_pure rfl Try.func31 (by kernel_rfl) rfl rfl rfl (rblock_ok old new x y old.regs.toNat c (k : Int) x.nexts hR.symm (by omega) hx hy hrl (by omega) hnx hvv hto htn (hio x (List.mem_of_getElem? hx)).1 (hin y (List.mem_of_getElem? hy)).1 hnl)) ?_
    refine dq 37 (q_not rfl rfl) ?_
    refine DOps.nil (by kernel_rfl) ?_
    refine AGo.split 37 rfl (fun hb4 => ?_) (fun hb4 => ?_)
    ·
     refine AGo.cond_true true rfl rfl ?_
     have hbad := ndec_same' hb4
     refine AGo.seq ?_
     refine AGo.region ?_
     refine aa 6 ?_
     refine AOps.nil ?_
     refine AGo.ret ?_
     refine ⟨[_], ⟨rfl, trivial⟩, ?_, rfl⟩
     show AV.bool _ = AV.bool _
     congr 1
     exact (rcheck_no4 hx hy hbad).symm
    ·
     refine AGo.cond_false false rfl rfl ?_
     have hgood := ndec_same hb4
     refine AGo.skip ?_
     refine AGo.region ?_
     refine am 26 ?_
     refine aq 27 (q_inc rfl rfl hkl (show old.blocks.length ≤ maxLen by simp only [maxLen]; omega)) ?_
     refine aa 8 ?_
     refine AOps.nil ?_
     exact ⟨k+1, Drop.mk' (by repeat (first | exact EDrop.new _ _ | refine EDrop.put ?_ (by rfl) (by first | rfl | exact slA_avoid _ rfl | exact vaA_avoid _ rfl))) (by repeat (first | exact HDrop.none _ _ | exact HDrop.tail _ _ | refine HDrop.put ?_ (by rfl) rfl (by first | rfl | exact slO_avoid _ _ | exact vaO_avoid _ | exact tab_avoid _ _ rfl rfl | exact wlk_avoid _ _ _ rfl rfl rfl))), ⟨hkl, all_succ (zipIdx_get (zip_at hx hy)) hallb hgood⟩, by omega⟩
   ·
    refine AGo.cond_false false rfl rfl ?_
    have hge : old.blocks.length ≤ k := by simpa using hb3
    refine AGo.exit ?_
    refine AGo.seq ?_
    refine AGo.region ?_
    refine aa 6 ?_
    refine AOps.nil ?_
    refine AGo.ret ?_
    refine ⟨[_], ⟨rfl, trivial⟩, ?_, rfl⟩
    show AV.bool _ = AV.bool _
    congr 1
    exact (rcheck_yes hsh hsz (all_end hallb (by rw [List.length_zipIdx, List.length_zip]; omega))).symm

end Go.Proofs.Ytpijoieooikfgaa.Sv

namespace Go.Proofs.Ytpijoieooikfgaa.Sv
open Go

set_option maxHeartbeats 2000000 in
set_option maxRecDepth 100000 in
theorem validCheck_ok (old new : BFunc) (c : Cert) (hold : old.Ok) (hnew : new.Ok) (hc : c.Ok) : APure Try.prog 3 [.agg old.cells, .agg new.cells, .agg c.cells] (fun r => r = .bool true) := by
 refine APure.of_body (n := 32) tok Try.func3 rfl rfl ?_
 refine AGo.seq ?_
 refine AGo.region ?_
 refine ax 3 (o_box (sz := 2) 0 rfl rfl rfl rfl (Nat.zero_lt_succ _) rfl) ?_
 refine ax 4 (o_box (sz := 2) 1 rfl rfl rfl rfl (Nat.zero_lt_succ _) rfl) ?_
 refine ax 5 (o_box (sz := 1) 2 rfl rfl rfl rfl (Nat.zero_lt_succ _) rfl) ?_
 refine aa 6 ?_
 refine AOps.nil ?_
 refine AGo.seq ?_
 refine AGo.seq ?_
 refine AGo.region ?_
 refine al 7 tok ?_
 refine ax 8 (o_pure rfl Try.func11 (by kernel_rfl) rfl rfl rfl (few34_ok old 12 60 (by decide) hold.lenB hold.insB)) ?_
 refine aq 9 (q_not rfl rfl) ?_
 refine am 10 ?_
 refine AOps.split 10 rfl (fun hb1 => ?_) (fun hb1 => ?_)
 ·
  refine ak 11 ?_
  refine ak 12 ?_
  refine ak 13 ?_
  refine aq 14 (q_pick_true true rfl rfl rfl rfl) ?_
  refine am 15 ?_
  refine ak 16 ?_
  refine ak 17 ?_
  refine aq 18 (q_pick_true true rfl rfl rfl rfl) ?_
  refine AOps.nil ?_
  refine AGo.cond_true true rfl rfl ?_
  refine AGo.seq ?_
  refine AGo.region ?_
  refine ax 19 (o_pure rfl Try.func13 (by kernel_rfl) rfl rfl rfl (awake34_ok)) ?_
  refine aa 6 ?_
  refine AOps.nil ?_
  refine AGo.ret ?_
  refine ⟨[_], ⟨rfl, trivial⟩, ?_, rfl⟩
  rfl
 ·
  refine al 11 tok ?_
  refine ax 12 (o_pure rfl Try.func11 (by kernel_rfl) rfl rfl rfl (few34_ok new 12 60 (by decide) hnew.lenB hnew.insB)) ?_
  refine aq 13 (q_not rfl rfl) ?_
  refine aq 14 (q_pick_false false rfl rfl rfl rfl) ?_
  refine am 15 ?_
  refine AOps.split 15 rfl (fun hb2 => ?_) (fun hb2 => ?_)
  ·
   refine ak 16 ?_
   refine ak 17 ?_
   refine aq 18 (q_pick_true true rfl rfl rfl rfl) ?_
   refine AOps.nil ?_
   refine AGo.cond_true true rfl rfl ?_
   refine AGo.seq ?_
   refine AGo.region ?_
   refine ax 19 (o_pure rfl Try.func13 (by kernel_rfl) rfl rfl rfl (awake34_ok)) ?_
   refine aa 6 ?_
   refine AOps.nil ?_
   refine AGo.ret ?_
   refine ⟨[_], ⟨rfl, trivial⟩, ?_, rfl⟩
   rfl
  ·
   refine al 16 tok ?_
   refine ax 17 (o_pure rfl Try.func12 (by kernel_rfl) rfl rfl rfl (great_ok c hc.lenB)) ?_
   refine aq 18 (q_pick_false false rfl rfl rfl rfl) ?_
   refine AOps.nil ?_
   refine AGo.split 18 rfl (fun hb3 => ?_) (fun hb3 => ?_)
   ·
    refine AGo.cond_true true rfl rfl ?_
    refine AGo.seq ?_
    refine AGo.region ?_
    refine ax 19 (o_pure rfl Try.func13 (by kernel_rfl) rfl rfl rfl (awake34_ok)) ?_
    refine aa 6 ?_
    refine AOps.nil ?_
    refine AGo.ret ?_
    refine ⟨[_], ⟨rfl, trivial⟩, ?_, rfl⟩
    rfl
   ·
    refine AGo.cond_false false rfl rfl ?_
    have ho1 := few_short hold (nb := 12) (ni := 60) (by decide) (by decide) (ndec_same (by assumption))
    have hn1 := few_short hnew (nb := 12) (ni := 60) (by decide) (by decide) (ndec_same (by assumption))
    have hc1 := great34_of (c := c) (by assumption)
    have hcc := hc1.1
    refine AGo.skip ?_
    refine AGo.seq ?_
    refine AGo.draw mix ?_
    refine dx 20 (o_pure rfl Try.func13 (by kernel_rfl) rfl rfl rfl (awake34_ok)) ?_
    refine dm 21 ?_
    refine dl 22 tok ?_
    refine dl 23 tok ?_
    refine dl 24 tok ?_
    refine dx 25 (o_pure rfl Try.func14 (by kernel_rfl) rfl rfl rfl (vcheck_ok old new ho1.1 hn1.1 ho1.2 hn1.2 c)) ?_
    refine dl 26 tok ?_
    refine dl 27 tok ?_
    refine dl 28 tok ?_
    refine dx 29 (o_pure rfl Try.func15 (by kernel_rfl) rfl rfl rfl (rcheck_ok old new ho1.1 hn1.1 ho1.2 hn1.2 c (by omega))) ?_
    refine dq 30 (q_boolEq tok false rfl rfl rfl rfl rfl) ?_
    refine dq 31 (q_pick_true true rfl rfl rfl rfl) ?_
    refine da 6 ?_
    refine DOps.nil (by kernel_rfl) ?_
    refine AGo.ret ?_
    refine ⟨[_], ⟨rfl, trivial⟩, ?_, rfl⟩
    show AV.bool (vcheck old new c == rcheck old new c) = _
    rw [vcheck_r (fun x hx => (ho1.2 x hx).2) (fun x hx => (hn1.2 x hx).2), beq_self_eq_true]

end Go.Proofs.Ytpijoieooikfgaa.Sv

namespace Go.Proofs.Ytpijoieooikfgaa
open Go.ChangeShapes Go.WideShapes Go.ChangeAt Go.RowKit Sv
set_option linter.unusedVariables false

set_option maxRecDepth 100000 in
theorem validCheck_lifted (os : Os) (started : os.Started) (H : Type) (enc : TypeId × Value → H) :
    ReturnsInHanded {} Try.checked os 3 .any (Rows.validCheckSpec.pre6 enc Try.prog Try.f3 Rows.validCheckRow.domain false) (Rows.validCheckSpec.post enc Try.prog Try.f3 false true false false) := by
  refine returnsInHanded_of_change_sized (C := Try.checked) own' started (by kernel_rfl) Try.func3
    (ChangeSpec.witness6 (enc := enc) (C := Try.checked) false ⟨#[], #[.agg #[.int .i64 0, .slice none 0 0], .agg #[.int .i64 0, .slice none 0 0], .agg #[.slice none 0 0]], []⟩ 8 (by kernel_rfl) (by kernel_rfl) (by kernel_rfl) (by kernel_rfl)) ?_
  intro W base args ds gs before hval0 hW hcnd hwt0 hh
  have hval : ∀ (j : Nat) t v, Try.f3.params[j]? = some t → args[j]? = some v → Value.okWide Try.prog W .any base t v := hval0
  have hW' := hW
  obtain ⟨p, q, hA0, hV, rfl, hfz, hnd⟩ := hW
  have hA : DataW.TrodAll enc Try.prog W 0 (fun _ => true) true Try.f3.params.toList args.toList ds p := hA0
  have hwt : (DataW.weightsEach Try.prog (Try.f3.params.toList ++ Rows.validCheckSpec.plain.varTypes Try.prog) (ds ++ gs)).all (· ≤ reachBytes) = true := hwt0
  rw [Try.params3] at hA hval hwt
  obtain ⟨v0, vs0, d0, ds0, p0, q0, hargs, rfl, rfl, h0, r0⟩ := trodAll_cons hA
  obtain ⟨v1, vs1, d1, ds1, p1, q1, rfl, rfl, rfl, h1, r1⟩ := trodAll_cons r0
  obtain ⟨v2, vs2, d2, ds2, p2, q2, rfl, rfl, rfl, h2, r2⟩ := trodAll_cons r1
  obtain ⟨rfl, rfl, rfl⟩ := trodAll_nil r2
  obtain rfl : args = #[v0, v1, v2] := by cases args; simp_all
  obtain ⟨rfl, rfl⟩ := trodVars_none hV
  obtain ⟨x0, e0, g0⟩ := arg_one h0 (weightsEach_get hwt (i := 0) rfl rfl) decBFunc
  obtain ⟨x1, e1, g1⟩ := arg_one h1 (weightsEach_get hwt (i := 1) rfl rfl) decBFunc
  obtain ⟨x2, e2, g2⟩ := arg_one h2 (weightsEach_get hwt (i := 2) rfl rfl) decCert
  exact law_calls laidOut' rfl (by kernel_rfl) rfl bool' rfl rfl rfl hW' (.cons (e0.val (okWide_agg tok rfl rfl (hval 0 24 v0 rfl rfl))) (.cons (e1.val (okWide_agg tok rfl rfl (hval 1 24 v1 rfl rfl))) (.cons (e2.val (okWide_agg tok rfl rfl (hval 2 27 v2 rfl rfl))) .nil))) (validCheck_ok x0 x1 x2 g0 g1 g2) (fun g l h => by cases h)

theorem validCheck_holds : Rows.ValidCheckSaid :=
  OpenClaim.holds_of_wide 3 Try.f3 rfl rfl rfl rfl rfl rfl rfl ⟨rfl, rfl, rfl, rfl, rfl⟩ rfl rfl rfl rfl rfl (by kernel_rfl) Try.func3 (by kernel_rfl)
    (of_decide_eq_true (by kernel_rfl)) (by unfold Func.isWrapper; first | (rw [if_pos (by decide +kernel)]; kernel_rfl) | (rw [if_neg (by decide +kernel)]; exact ⟨rfl, rfl⟩))
    (fun os started H enc _ => validCheck_lifted os started H enc)

end Go.Proofs.Ytpijoieooikfgaa
