/-
  The law ValidShapes of the given program answers true for every input, and leaves its arguments as they were. There is no condition. Own work.
  WALKS: printed by a program of our own from the code's tree.
  WALKS: printed by a program of our own from the code's tree.
  WALKS: printed by a program of our own from the code's tree.
  WALKS: printed by a program of our own from the code's tree.
  WALKS: printed by a program of our own from the code's tree.
  WALKS: printed by a program of our own from the code's tree.
  WALKS: printed by a program of our own from the code's tree.
  WALKS: printed by a program of our own from the code's tree.
  WALKS: printed by a program of our own from the code's tree.
  WALKS: printed by a program of our own from the code's tree.
  WALKS: printed by a program of our own from the code's tree.
  WALKS: printed by a program of our own from the code's tree.
  WALKS: printed by a program of our own from the code's tree.
  WALKS: printed by a program of our own from the code's tree.
-/
import Derived.Test.YtpijoieooikfgaaPValidShapes3
import Derived.Test.YtpijoieooikfgaaPValidShapes4
import Derived.Test.YtpijoieooikfgaaPValidShapes2
namespace Go.Proofs.Ytpijoieooikfgaa.Sv
open Go

set_option maxHeartbeats 1000000 in
set_option maxRecDepth 100000 in
theorem shaped_ok (old new : BFunc) (hno : old.blocks.length ≤ 10000) (hnn : new.blocks.length ≤ 10000) (hio : ∀ x ∈ old.blocks, x.ins.length ≤ 10000 ∧ insW x.ins) (hin : ∀ x ∈ new.blocks, x.ins.length ≤ 10000 ∧ insW x.ins) : APure Try.prog 26 [.agg old.cells, .agg new.cells] (fun r => r = .bool (vshaped old new)) := by
 refine APure.of_body (n := 65) tok Try.func26 rfl rfl ?_
 refine AGo.seq ?_
 refine AGo.region ?_
 refine ax 2 (o_box (sz := 2) 0 rfl rfl rfl rfl (Nat.zero_lt_succ _) rfl) ?_
 refine ax 3 (o_box (sz := 2) 1 rfl rfl rfl rfl (Nat.zero_lt_succ _) rfl) ?_
 refine aa 4 ?_
 refine AOps.nil ?_
 refine AGo.seq ?_
 refine AGo.seq ?_
 refine AGo.region ?_
 refine af 8 tok ?_
 refine al 9 tok ?_
 refine af 10 tok ?_
 refine al 11 tok ?_
 refine aq 12 (q_bin rfl rfl rfl rfl) ?_
 refine am 13 ?_
 refine AOps.split 13 rfl (fun hb1 => ?_) (fun hb1 => ?_)
 ·
  refine ak 14 ?_
  refine ak 15 ?_
  refine ak 16 ?_
  refine ak 17 ?_
  refine ak 18 ?_
  refine ak 19 ?_
  refine ak 20 ?_
  refine aq 21 (q_pick_true true rfl rfl rfl rfl) ?_
  refine am 22 ?_
  refine ak 23 ?_
  refine ak 24 ?_
  refine ak 25 ?_
  refine aq 26 (q_pick_true true rfl rfl rfl rfl) ?_
  refine am 27 ?_
  refine ak 28 ?_
  refine ak 29 ?_
  refine ak 30 ?_
  refine aq 31 (q_pick_true true rfl rfl rfl rfl) ?_
  refine AOps.nil ?_
  refine AGo.cond_true true rfl rfl ?_
  refine AGo.seq ?_
  refine AGo.region ?_
  refine aa 4 ?_
  refine AOps.nil ?_
  refine AGo.ret ?_
  refine ⟨[_], ⟨rfl, trivial⟩, ?_, rfl⟩
  show AV.bool _ = AV.bool _
  congr 1
  first
  | exact (vshaped_regs (by assumption)).symm
  | exact (vshaped_len' (by assumption)).symm
  | exact (vshaped_s1 (ndec_same' (b := old.stands) (by assumption))).symm
  | exact (vshaped_s2 (ndec_same' (b := new.stands) (by assumption))).symm
 ·
  refine af 14 tok ?_
  refine al 15 tok ?_
  refine aq 16 (q_len tok rfl rfl rfl rfl rfl) ?_
  refine af 17 tok ?_
  refine al 18 tok ?_
  refine aq 19 (q_len tok rfl rfl rfl rfl rfl) ?_
  refine aq 20 (q_bin rfl rfl rfl rfl) ?_
  refine aq 21 (q_pick_false false rfl rfl rfl rfl) ?_
  refine am 22 ?_
  refine AOps.split 22 rfl (fun hb2 => ?_) (fun hb2 => ?_)
  ·
   refine ak 23 ?_
   refine ak 24 ?_
   refine ak 25 ?_
   refine aq 26 (q_pick_true true rfl rfl rfl rfl) ?_
   refine am 27 ?_
   refine ak 28 ?_
   refine ak 29 ?_
   refine ak 30 ?_
   refine aq 31 (q_pick_true true rfl rfl rfl rfl) ?_
   refine AOps.nil ?_
   refine AGo.cond_true true rfl rfl ?_
   refine AGo.seq ?_
   refine AGo.region ?_
   refine aa 4 ?_
   refine AOps.nil ?_
   refine AGo.ret ?_
   refine ⟨[_], ⟨rfl, trivial⟩, ?_, rfl⟩
   show AV.bool _ = AV.bool _
   congr 1
   first
   | exact (vshaped_regs (by assumption)).symm
   | exact (vshaped_len' (by assumption)).symm
   | exact (vshaped_s1 (ndec_same' (b := old.stands) (by assumption))).symm
   | exact (vshaped_s2 (ndec_same' (b := new.stands) (by assumption))).symm
  ·
   refine al 23 tok ?_
   refine ax 24 (o_pure rfl Try.func34 (by kernel_rfl) rfl rfl rfl (stands_ok old (by omega) (fun x hx => by have := (hio x hx).1; omega))) ?_
   refine aq 25 (q_not rfl rfl) ?_
   refine aq 26 (q_pick_false false rfl rfl rfl rfl) ?_
   refine am 27 ?_
   refine AOps.split 27 rfl (fun hb3 => ?_) (fun hb3 => ?_)
   ·
    refine ak 28 ?_
    refine ak 29 ?_
    refine ak 30 ?_
    refine aq 31 (q_pick_true true rfl rfl rfl rfl) ?_
    refine AOps.nil ?_
    refine AGo.cond_true true rfl rfl ?_
    refine AGo.seq ?_
    refine AGo.region ?_
    refine aa 4 ?_
    refine AOps.nil ?_
    refine AGo.ret ?_
    refine ⟨[_], ⟨rfl, trivial⟩, ?_, rfl⟩
    show AV.bool _ = AV.bool _
    congr 1
    first
    | exact (vshaped_regs (by assumption)).symm
    | exact (vshaped_len' (by assumption)).symm
    | exact (vshaped_s1 (ndec_same' (b := old.stands) (by assumption))).symm
    | exact (vshaped_s2 (ndec_same' (b := new.stands) (by assumption))).symm
   ·
    refine al 28 tok ?_
    refine ax 29 (o_pure rfl Try.func34 (by kernel_rfl) rfl rfl rfl (stands_ok new (by omega) (fun x hx => by have := (hin x hx).1; omega))) ?_
    refine aq 30 (q_not rfl rfl) ?_
    refine aq 31 (q_pick_false false rfl rfl rfl rfl) ?_
    refine AOps.nil ?_
    refine AGo.split 31 rfl (fun hb4 => ?_) (fun hb4 => ?_)
    ·
     refine AGo.cond_true true rfl rfl ?_
     refine AGo.seq ?_
     refine AGo.region ?_
     refine aa 4 ?_
     refine AOps.nil ?_
     refine AGo.ret ?_
     refine ⟨[_], ⟨rfl, trivial⟩, ?_, rfl⟩
     show AV.bool _ = AV.bool _
     congr 1
     first
     | exact (vshaped_regs (by assumption)).symm
     | exact (vshaped_len' (by assumption)).symm
     | exact (vshaped_s1 (ndec_same' (b := old.stands) (by assumption))).symm
     | exact (vshaped_s2 (ndec_same' (b := new.stands) (by assumption))).symm
    ·
     refine AGo.cond_false false rfl rfl ?_
     have hlen := len_eq' (by assumption)
     refine AGo.skip ?_
     refine AGo.seq ?_
     refine AGo.seq ?_
     refine AGo.region ?_
     refine af 32 tok ?_
     refine al 33 tok ?_
     refine aq 34 (q_len tok rfl rfl rfl rfl rfl) ?_
     refine am 35 ?_
     refine AOps.nil ?_
     refine AGo.block ?_
     refine AGo.loopD (γ := Nat) 2 (fun k => ⟨65, (eput (eput (eput (eput (eput eNew 2 (.ptr 0 1 0 0)) 3 (.ptr 1 1 0 0)) 33 (blocksAV old.blocks)) 34 (.int .i64 (old.blocks.length : Int))) 35 (.int .i64 (k : Int))), (hput (hput (hFrom 2) 0 (.row false 2 [old.cells])) 1 (.row false 2 [new.cells]))⟩) (fun k => k ≤ old.blocks.length ∧ ((old.blocks.zip new.blocks).take k).all (fun p => shapeB p.1 p.2) = true) (fun k => old.blocks.length - k) 0 (Sub.mk' (by repeat (first | exact ESub.new _ | refine ESub.put ?_ (by first | rfl | exact congrArg (fun (n : Nat) => some (AV.int .i64 (n : Int))) (by simp)))) (by repeat (first | exact HSub.refl _ | exact HSub.none _ | exact HSub.from_new _ | exact HSub.from_from (by first | decide | omega | (dsimp only; omega)) | refine HSub.put ?_ (by rfl) | refine HSub.from_put ?_ (by first | decide | omega | (dsimp only; omega)) | refine HSub.from_rm ?_ (by decide)))) ⟨Nat.zero_le _, rfl⟩ (fun _ => hput_free (hput_free (fun b hb => hFrom_free hb) rfl) rfl) ?_
     intro k ⟨hk, hall⟩
     refine AGo.seq ?_
     refine AGo.region ?_
     refine aq 36 (q_bin rfl rfl rfl rfl) ?_
     refine AOps.nil ?_
     refine AGo.seq ?_
     refine AGo.split 36 rfl (fun hb5 => ?_) (fun hb5 => ?_)
     ·
      refine AGo.cond_true true rfl rfl ?_
      have hkl : k < old.blocks.length := by simpa using hb5
      obtain ⟨x, hx⟩ := get_of_lt hkl
      obtain ⟨y, hy⟩ := get_of_lt (l := new.blocks) (k := k) (by omega)
      refine AGo.skip ?_
      refine AGo.seq ?_
      refine AGo.block ?_
      refine AGo.seq ?_
      refine AGo.region ?_
      refine am 37 ?_
      refine aq 38 (q_index_lst tok rfl rfl rfl rfl rfl rfl (Int.natCast_nonneg _) (idx_map hx) rfl) ?_
      refine al 39 tok ?_
      refine ax 6 (o_alloc tok 2 rfl rfl rfl rfl (Nat.zero_lt_succ _) rfl) ?_
      refine aa 5 ?_
      refine AOps.w rfl rfl (o_store tok rfl rfl rfl rfl rfl rfl rfl rfl rfl (by decide) rfl (by first | exact fun _ => rfl | (intro h; cases h))) ?_
      refine AOps.nil ?_
      refine AGo.seq ?_
      refine AGo.region ?_
      refine af 40 tok ?_
      refine al 41 tok ?_
      refine am 42 ?_
      refine aq 43 (q_index_lst tok rfl rfl rfl rfl rfl rfl (Int.natCast_nonneg _) (idx_map hy) rfl) ?_
      refine al 44 tok ?_
      refine ax 7 (o_alloc tok 3 rfl rfl rfl rfl (Nat.zero_lt_succ _) rfl) ?_
      refine AOps.w rfl rfl (o_store tok rfl rfl rfl rfl rfl rfl rfl rfl rfl (by decide) rfl (by first | exact fun _ => rfl | (intro h; cases h))) ?_
      refine AOps.nil ?_
      refine AGo.seq ?_
      refine AGo.region ?_
      refine af 45 tok ?_
      refine al 46 tok ?_
      refine af 47 tok ?_
      refine al 48 tok ?_
      refine aq 49 (q_bin rfl rfl rfl rfl) ?_
      refine am 50 ?_
      refine AOps.split 50 rfl (fun hb6 => ?_) (fun hb6 => ?_)
      ·
       refine ak 51 ?_
       refine ak 52 ?_
       refine ak 53 ?_
       refine ak 54 ?_
       refine ak 55 ?_
       refine aq 56 (q_pick_true true rfl rfl rfl rfl) ?_
       refine am 57 ?_
       refine ak 58 ?_
       refine ak 59 ?_
       refine ak 60 ?_
       refine ak 61 ?_
       refine ak 62 ?_
       refine aq 63 (q_pick_true true rfl rfl rfl rfl) ?_
       refine AOps.nil ?_
       refine AGo.cond_true true rfl rfl ?_
       refine AGo.seq ?_
       refine AGo.region ?_
       refine aa 4 ?_
       refine AOps.nil ?_
       refine AGo.ret ?_
       refine ⟨[_], ⟨rfl, trivial⟩, ?_, rfl⟩
       show AV.bool _ = AV.bool _
       congr 1
       first
       | exact (vshaped_b hx hy (shape_f (by assumption))).symm
       | exact (vshaped_b hx hy (shape_t (by assumption))).symm
       | exact (vshaped_b hx hy (shape_e (by assumption))).symm
      ·
       refine af 51 tok ?_
       refine al 52 tok ?_
       refine af 53 tok ?_
       refine al 54 tok ?_
       refine aq 55 (q_bin rfl rfl rfl rfl) ?_
       refine aq 56 (q_pick_false false rfl rfl rfl rfl) ?_
       refine am 57 ?_
       refine AOps.split 57 rfl (fun hb7 => ?_) (fun hb7 => ?_)
       ·
        refine ak 58 ?_
        refine ak 59 ?_
        refine ak 60 ?_
        refine ak 61 ?_
        refine ak 62 ?_
        refine aq 63 (q_pick_true true rfl rfl rfl rfl) ?_
        refine AOps.nil ?_
        refine AGo.cond_true true rfl rfl ?_
        refine AGo.seq ?_
        refine AGo.region ?_
        refine aa 4 ?_
        refine AOps.nil ?_
        refine AGo.ret ?_
        refine ⟨[_], ⟨rfl, trivial⟩, ?_, rfl⟩
        show AV.bool _ = AV.bool _
        congr 1
        first
        | exact (vshaped_b hx hy (shape_f (by assumption))).symm
        | exact (vshaped_b hx hy (shape_t (by assumption))).symm
        | exact (vshaped_b hx hy (shape_e (by assumption))).symm
       ·
        refine af 58 tok ?_
        refine al 59 tok ?_
        refine af 60 tok ?_
        refine al 61 tok ?_
        refine aq 62 (q_bin rfl rfl rfl rfl) ?_
        refine aq 63 (q_pick_false false rfl rfl rfl rfl) ?_
        refine AOps.nil ?_
        refine AGo.split 63 rfl (fun hb8 => ?_) (fun hb8 => ?_)
        ·
         refine AGo.cond_true true rfl rfl ?_
         refine AGo.seq ?_
         refine AGo.region ?_
         refine aa 4 ?_
         refine AOps.nil ?_
         refine AGo.ret ?_
         refine ⟨[_], ⟨rfl, trivial⟩, ?_, rfl⟩
         show AV.bool _ = AV.bool _
         congr 1
         first
         | exact (vshaped_b hx hy (shape_f (by assumption))).symm
         | exact (vshaped_b hx hy (shape_t (by assumption))).symm
         | exact (vshaped_b hx hy (shape_e (by assumption))).symm
        ·
         refine AGo.cond_false false rfl rfl ?_
         refine AGo.skip ?_
         refine AGo.region ?_
         refine aq 64 (q_inc rfl rfl hkl (show old.blocks.length ≤ maxLen by simp only [maxLen]; omega)) ?_
         refine am 35 ?_
         refine AOps.nil ?_
         exact ⟨k+1, Drop.mk' (by repeat (first | exact EDrop.new _ _ | refine EDrop.put ?_ (by rfl) (by first | rfl | exact slA_avoid _ rfl | exact vaA_avoid _ rfl))) (by repeat (first | exact HDrop.none _ _ | exact HDrop.tail _ _ | refine HDrop.put ?_ (by rfl) rfl (by first | rfl | exact slO_avoid _ _ | exact vaO_avoid _ | exact tab_avoid _ _ rfl rfl | exact wlk_avoid _ _ _ rfl rfl rfl))), ⟨hkl, all_succ (zip_at hx hy) hall (shape_y (by assumption) (by assumption) (by assumption))⟩, by omega⟩
     ·
      refine AGo.cond_false false rfl rfl ?_
      have hge : old.blocks.length ≤ k := by simpa using hb5
      refine AGo.exit ?_
      refine AGo.seq ?_
      refine AGo.region ?_
      refine aa 4 ?_
      refine AOps.nil ?_
      refine AGo.ret ?_
      refine ⟨[_], ⟨rfl, trivial⟩, ?_, rfl⟩
      show AV.bool _ = AV.bool _
      congr 1
      exact (vshaped_yes (bne_eq' (by assumption)) hlen (ndec_same (by assumption)) (ndec_same (by assumption)) (all_end hall (by rw [List.length_zip]; omega))).symm

set_option maxHeartbeats 1000000 in
set_option maxRecDepth 100000 in
theorem vcheck_ok (old new : BFunc) (hno : old.blocks.length ≤ 10000) (hnn : new.blocks.length ≤ 10000) (hio : ∀ x ∈ old.blocks, x.ins.length ≤ 10000 ∧ insW x.ins) (hin : ∀ x ∈ new.blocks, x.ins.length ≤ 10000 ∧ insW x.ins) (c : Cert) : APure Try.prog 14 [.agg old.cells, .agg new.cells, .agg c.cells] (fun r => r = .bool (vcheck old new c)) := by
 refine APure.of_body (n := 66) tok Try.func14 rfl rfl ?_
 refine AGo.seq ?_
 refine AGo.region ?_
 refine ax 3 (o_box (sz := 2) 0 rfl rfl rfl rfl (Nat.zero_lt_succ _) rfl) ?_
 refine ax 4 (o_box (sz := 2) 1 rfl rfl rfl rfl (Nat.zero_lt_succ _) rfl) ?_
 refine ax 5 (o_box (sz := 1) 2 rfl rfl rfl rfl (Nat.zero_lt_succ _) rfl) ?_
 refine aa 6 ?_
 refine AOps.nil ?_
 refine AGo.seq ?_
 refine AGo.seq ?_
 refine AGo.region ?_
 refine al 11 tok ?_
 refine al 12 tok ?_
 refine ax 13 (o_pure rfl Try.func26 (by kernel_rfl) rfl rfl rfl (shaped_ok old new hno hnn hio hin)) ?_
 refine aq 14 (q_not rfl rfl) ?_
 refine am 15 ?_
 refine AOps.split 15 rfl (fun hb1 => ?_) (fun hb1 => ?_)
 ·
  refine ak 16 ?_
  refine ak 17 ?_
  refine ak 18 ?_
  refine ak 19 ?_
  refine ak 20 ?_
  refine ak 21 ?_
  refine ak 22 ?_
  refine aq 23 (q_pick_true true rfl rfl rfl rfl) ?_
  refine AOps.nil ?_
  refine AGo.cond_true true rfl rfl ?_
  refine AGo.seq ?_
  refine AGo.region ?_
  refine aa 6 ?_
  refine AOps.nil ?_
  refine AGo.ret ?_
  refine ⟨[_], ⟨rfl, trivial⟩, ?_, rfl⟩
  show AV.bool _ = AV.bool _
  congr 1
  first
  | exact (vcheck_no1 (ndec_same' (b := vshaped old new) (by assumption))).symm
  | exact (vcheck_no2 (by assumption)).symm
 ·
  refine af 16 tok ?_
  refine al 17 tok ?_
  refine aq 18 (q_len tok rfl rfl rfl rfl rfl) ?_
  refine af 19 tok ?_
  refine al 20 tok ?_
  refine aq 21 (q_len tok rfl rfl rfl rfl rfl) ?_
  refine aq 22 (q_bin rfl rfl rfl rfl) ?_
  refine aq 23 (q_pick_false false rfl rfl rfl rfl) ?_
  refine AOps.nil ?_
  refine AGo.split 23 rfl (fun hb2 => ?_) (fun hb2 => ?_)
  ·
   refine AGo.cond_true true rfl rfl ?_
   refine AGo.seq ?_
   refine AGo.region ?_
   refine aa 6 ?_
   refine AOps.nil ?_
   refine AGo.ret ?_
   refine ⟨[_], ⟨rfl, trivial⟩, ?_, rfl⟩
   show AV.bool _ = AV.bool _
   congr 1
   first
   | exact (vcheck_no1 (ndec_same' (b := vshaped old new) (by assumption))).symm
   | exact (vcheck_no2 (by assumption)).symm
  ·
   refine AGo.cond_false false rfl rfl ?_
   have hsh : vshaped old new = true := ndec_same (by assumption)
   have hcl := cert_len (old := old) (c := c) (by assumption)
   have hV := vshaped_of hsh
   have hSo := stands_of hV.so
   have hSn := stands_of hV.sn
   have hr0 := hSo.r0
   have hr1 := hSo.r1
   have hR : ((old.regs.toNat : Nat) : Int) = old.regs := Int.toNat_of_nonneg hr0
   refine AGo.skip ?_
   refine AGo.seq ?_
   refine AGo.seq ?_
   refine AGo.region ?_
   refine af 24 tok ?_
   refine al 25 tok ?_
   refine aq 26 (q_len tok rfl rfl rfl rfl rfl) ?_
   refine am 27 ?_
   refine AOps.nil ?_
   refine AGo.block ?_
   refine AGo.loopD (γ := Nat) 3 (fun j => ⟨66, (eput (eput (eput (eput (eput (eput eNew 3 (.ptr 0 1 0 0)) 4 (.ptr 1 1 0 0)) 5 (.ptr 2 1 0 0)) 25 (rowsAV c.same)) 26 (.int .i64 (c.same.length : Int))) 27 (.int .i64 (j : Int))), (hput (hput (hput (hFrom 3) 0 (.row false 2 [old.cells])) 1 (.row false 2 [new.cells])) 2 (.row false 1 [c.cells]))⟩) (fun j => j ≤ c.same.length ∧ (c.same.take j).all (fun r => decide ((r.length : Int) = old.regs)) = true) (fun j => c.same.length - j) 0 (Sub.mk' (by repeat (first | exact ESub.new _ | refine ESub.put ?_ (by first | rfl | exact congrArg (fun (n : Nat) => some (AV.int .i64 (n : Int))) (by simp)))) (by repeat (first | exact HSub.refl _ | exact HSub.none _ | exact HSub.from_new _ | exact HSub.from_from (by first | decide | omega | (dsimp only; omega)) | refine HSub.put ?_ (by rfl) | refine HSub.from_put ?_ (by first | decide | omega | (dsimp only; omega)) | refine HSub.from_rm ?_ (by decide)))) ⟨Nat.zero_le _, rfl⟩ (fun _ => hput_free (hput_free (hput_free (fun b hb => hFrom_free hb) rfl) rfl) rfl) ?_
   intro j ⟨hj, hall⟩
   refine AGo.seq ?_
   refine AGo.region ?_
   refine aq 28 (q_bin rfl rfl rfl rfl) ?_
   refine AOps.nil ?_
   refine AGo.seq ?_
   refine AGo.split 28 rfl (fun hb3 => ?_) (fun hb3 => ?_)
   ·
    refine AGo.cond_true true rfl rfl ?_
    have hjl : j < c.same.length := by have h := hb3; simp only [List.length_map, decide_eq_true_eq] at h; omega
    obtain ⟨r, hr⟩ := get_of_lt hjl
    refine AGo.skip ?_
    refine AGo.seq ?_
    refine AGo.block ?_
    refine AGo.seq ?_
    refine AGo.region ?_
    refine aq 29 (q_index_lst tok rfl rfl rfl rfl rfl rfl (Int.natCast_nonneg _) (idx_map hr) rfl) ?_
    refine al 30 tok ?_
    refine aa 8 ?_
    refine AOps.nil ?_
    refine AGo.seq ?_
    refine AGo.region ?_
    refine am 31 ?_
    refine aq 32 (q_len tok rfl rfl rfl rfl rfl) ?_
    refine af 33 tok ?_
    refine al 34 tok ?_
    refine aq 35 (q_bin rfl rfl rfl rfl) ?_
    refine AOps.nil ?_
    refine AGo.split 35 rfl (fun hb4 => ?_) (fun hb4 => ?_)
    ·
     refine AGo.cond_true true rfl rfl ?_
     have hne : ¬ (r.length : Int) = old.regs := by have h := bne_ne' hb4; rw [List.length_map] at h; exact h
     refine AGo.seq ?_
     refine AGo.region ?_
     refine aa 6 ?_
     refine AOps.nil ?_
     refine AGo.ret ?_
     refine ⟨[_], ⟨rfl, trivial⟩, ?_, rfl⟩
     show AV.bool _ = AV.bool _
     congr 1
     exact (vcheck_no3 hr hne).symm
    ·
     refine AGo.cond_false false rfl rfl ?_
     have heq : (r.length : Int) = old.regs := by have h := bne_eq' hb4; rw [List.length_map] at h; exact h
     refine AGo.skip ?_
     refine AGo.region ?_
     refine aq 36 (q_inc rfl rfl hjl (show c.same.length ≤ maxLen by simp only [maxLen]; omega)) ?_
     refine am 27 ?_
     refine AOps.nil ?_
     exact ⟨j+1, Drop.mk' (by repeat (first | exact EDrop.new _ _ | refine EDrop.put ?_ (by rfl) (by first | rfl | exact slA_avoid _ rfl | exact vaA_avoid _ rfl))) (by repeat (first | exact HDrop.none _ _ | exact HDrop.tail _ _ | refine HDrop.put ?_ (by rfl) rfl (by first | rfl | exact slO_avoid _ _ | exact vaO_avoid _ | exact tab_avoid _ _ rfl rfl | exact wlk_avoid _ _ _ rfl rfl rfl))), ⟨hjl, all_succ hr hall (decide_eq_true heq)⟩, by omega⟩
   ·
    refine AGo.cond_false false rfl rfl ?_
    have hjge : c.same.length ≤ j := by have h := hb3; simp only [List.length_map, decide_eq_false_iff_not] at h; omega
    have hall2 := all_end hall hjge
    have hrl : ∀ r ∈ c.same, r.length = old.regs.toNat := fun r hr => by have := List.all_eq_true.1 hall2 r hr; simp only [decide_eq_true_eq] at this; omega
    refine AGo.exit ?_
    refine AGo.seq ?_
    refine AGo.region ?_
    refine al 37 tok ?_
    refine ax 38 (o_pure rfl Try.func27 (by kernel_rfl) rfl rfl rfl (next_ok old (by omega))) ?_
    refine aa 9 ?_
    refine AOps.nil ?_
    refine AGo.seq ?_
    refine AGo.seq ?_
    refine AGo.region ?_
    refine af 39 tok ?_
    refine al 40 tok ?_
    refine aq 41 (q_len tok rfl rfl rfl rfl rfl) ?_
    refine am 42 ?_
    refine AOps.nil ?_
    refine AGo.block ?_
    refine AGo.loopD (γ := Nat) 3 (fun k => ⟨66, (eput (eput (eput (eput (eput (eput eNew 3 (.ptr 0 1 0 0)) 4 (.ptr 1 1 0 0)) 5 (.ptr 2 1 0 0)) 9 (pathsAV old.nexts)) 41 (.int .i64 (old.blocks.length : Int))) 42 (.int .i64 (k : Int))), (hput (hput (hput (hFrom 3) 0 (.row false 2 [old.cells])) 1 (.row false 2 [new.cells])) 2 (.row false 1 [c.cells]))⟩) (fun k => k ≤ old.blocks.length ∧ ((old.blocks.zip new.blocks).zipIdx.take k).all (fun p => vsame old.regs.toNat p.1.1 p.1.2 c (p.2 : Int) p.1.1.nexts) = true) (fun k => old.blocks.length - k) 0 (Sub.mk' (by repeat (first | exact ESub.new _ | refine ESub.put ?_ (by first | rfl | exact congrArg (fun (n : Nat) => some (AV.int .i64 (n : Int))) (by simp)))) (by repeat (first | exact HSub.refl _ | exact HSub.none _ | exact HSub.from_new _ | exact HSub.from_from (by first | decide | omega | (dsimp only; omega)) | refine HSub.put ?_ (by rfl) | refine HSub.from_put ?_ (by first | decide | omega | (dsimp only; omega)) | refine HSub.from_rm ?_ (by decide)))) ⟨Nat.zero_le _, rfl⟩ (fun _ => hput_free (hput_free (hput_free (fun b hb => hFrom_free hb) rfl) rfl) rfl) ?_
    intro k ⟨hk, hallb⟩
    refine AGo.seq ?_
    refine AGo.region ?_
    refine aq 43 (q_bin rfl rfl rfl rfl) ?_
    refine AOps.nil ?_
    refine AGo.seq ?_
    refine AGo.split 43 rfl (fun hb5 => ?_) (fun hb5 => ?_)
    ·
     refine AGo.cond_true true rfl rfl ?_
     have hkl : k < old.blocks.length := by simpa using hb5
     obtain ⟨x, hx⟩ := get_of_lt hkl
     have hxm := List.mem_of_getElem? hx
     obtain ⟨y, hy⟩ := get_of_lt (l := new.blocks) (k := k) (by have := hV.len; omega)
     have hym := List.mem_of_getElem? hy
     have hsb := hV.b k x y hx hy
     have hnx : ∀ q ∈ x.nexts, 0 ≤ q ∧ q < c.same.length := fun q hq => by rw [hcl]; exact hSo.next x hxm q hq
     have hvv : x.fin = 2 → (0 ≤ x.v ∧ x.v < (old.regs.toNat : Int)) ∧ (0 ≤ y.v ∧ y.v < (old.regs.toNat : Int)) := fun hf => by rw [hR]; refine ⟨hSo.v x hxm hf, ?_⟩; rw [hV.regs]; exact hSn.v y hym (by rw [← hsb.1]; exact hf)
     have hto : ∀ t ∈ x.ins, TacV t old.regs.toNat := fun t ht => hSo.tacs x hxm t ht ((hio x hxm).2 t ht)
     have htn : ∀ t ∈ y.ins, TacV t old.regs.toNat := fun t ht => by rw [hV.regs]; exact hSn.tacs y hym t ht ((hin y hym).2 t ht)
     have hnl : x.nexts.length ≤ 100000 := nexts_short x
     refine AGo.skip ?_
     refine AGo.seq ?_
     refine AGo.block ?_
     refine AGo.seq ?_
     refine AGo.region ?_
     refine am 44 ?_
     refine aa 10 ?_
     refine AOps.nil ?_
     refine AGo.seq ?_
     refine AGo.draw mix ?_
     refine df 45 tok ?_
     refine dl 46 tok ?_
     refine dm 47 ?_
     refine dq 48 (q_index_lst tok rfl rfl rfl rfl rfl rfl (Int.natCast_nonneg _) (idx_map hx) rfl) ?_
     refine dl 49 tok ?_
     refine df 50 tok ?_
     refine dl 51 tok ?_
     refine dm 52 ?_
     refine dq 53 (q_index_lst tok rfl rfl rfl rfl rfl rfl (Int.natCast_nonneg _) (idx_map hy) rfl) ?_
     refine dl 54 tok ?_
     refine df 55 tok ?_
     refine dl 56 tok ?_
     refine dl 57 tok ?_
     refine dm 58 ?_
     refine dm 59 ?_
     refine dm 60 ?_
     refine dq 61 (q_index_lst tok rfl rfl rfl rfl rfl rfl (Int.natCast_nonneg _) (idx_map (nexts_get hx)) rfl) ?_
     refine dl 62 tok ?_
     refine dx 63 (o_pure rfl Try.func28 (by kernel_rfl) rfl rfl rfl ((by have h := vsame_ok x y old.regs.toNat c (k : Int) x.nexts (by omega) hrl (by omega) hnx hvv hto htn (hio x (List.mem_of_getElem? hx)).1 (hin y (List.mem_of_getElem? hy)).1 hnl; rw [hR] at h; exact h))) ?_
     refine dq 64 (q_not rfl rfl) ?_
     refine DOps.nil (by kernel_rfl) ?_
     refine AGo.split 64 rfl (fun hb6 => ?_) (fun hb6 => ?_)
     ·
      refine AGo.cond_true true rfl rfl ?_
      have hbad := ndec_same' hb6
      refine AGo.seq ?_
      refine AGo.region ?_
      refine aa 6 ?_
      refine AOps.nil ?_
      refine AGo.ret ?_
      refine ⟨[_], ⟨rfl, trivial⟩, ?_, rfl⟩
      show AV.bool _ = AV.bool _
      congr 1
      exact (vcheck_no4 hx hy hbad).symm
     ·
      refine AGo.cond_false false rfl rfl ?_
      have hgood := ndec_same hb6
      refine AGo.skip ?_
      refine AGo.region ?_
      refine aq 65 (q_inc rfl rfl hkl (show old.blocks.length ≤ maxLen by simp only [maxLen]; omega)) ?_
      refine am 42 ?_
      refine AOps.nil ?_
      exact ⟨k+1, Drop.mk' (by repeat (first | exact EDrop.new _ _ | refine EDrop.put ?_ (by rfl) (by first | rfl | exact slA_avoid _ rfl | exact vaA_avoid _ rfl))) (by repeat (first | exact HDrop.none _ _ | exact HDrop.tail _ _ | refine HDrop.put ?_ (by rfl) rfl (by first | rfl | exact slO_avoid _ _ | exact vaO_avoid _ | exact tab_avoid _ _ rfl rfl | exact wlk_avoid _ _ _ rfl rfl rfl))), ⟨hkl, all_succ (zipIdx_get (zip_at hx hy)) hallb hgood⟩, by omega⟩
    ·
     refine AGo.cond_false false rfl rfl ?_
     have hge : old.blocks.length ≤ k := by simpa using hb5
     refine AGo.exit ?_
     refine AGo.seq ?_
     refine AGo.region ?_
     refine aa 6 ?_
     refine AOps.nil ?_
     refine AGo.ret ?_
     refine ⟨[_], ⟨rfl, trivial⟩, ?_, rfl⟩
     show AV.bool _ = AV.bool _
     congr 1
     exact (vcheck_yes hsh hcl hall2 (all_end hallb (by rw [List.length_zipIdx, List.length_zip]; omega))).symm

end Go.Proofs.Ytpijoieooikfgaa.Sv

namespace Go.Proofs.Ytpijoieooikfgaa.Sv
open Go

set_option maxRecDepth 100000 in
theorem awake34_ok  : APure Try.prog 13 [] (fun r => r = .bool true) := by
 refine APure.of_body (n := 80) tok Try.func13 rfl rfl ?_
 refine AGo.seq ?_
 refine AGo.region ?_
 refine aa 0 ?_
 refine AOps.nil ?_
 refine AGo.seq ?_
 refine AGo.region ?_
 refine aq 7 (q_build tok rfl rfl rfl rfl rfl (by decide) rfl rfl rfl) ?_
 refine aq 8 (q_build tok rfl rfl rfl rfl rfl (by decide) rfl rfl rfl) ?_
 refine ax 9 (o_lit' tok rfl rfl rfl rfl rfl rfl (by decide) rfl rfl rfl rfl rfl rfl) ?_
 refine ax 10 (o_pure rfl Try.func24 (by kernel_rfl) rfl rfl rfl (one34_ok [tA, tB])) ?_
 refine ax 1 (o_alloc tok 0 rfl rfl rfl rfl (Nat.zero_lt_succ _) rfl) ?_
 refine AOps.w rfl rfl (o_store tok rfl rfl rfl rfl rfl rfl rfl rfl rfl (by decide) rfl (by first | exact fun _ => rfl | (intro h; cases h))) ?_
 refine AOps.nil ?_
 refine AGo.seq ?_
 refine AGo.region ?_
 refine aq 11 (q_build tok rfl rfl rfl rfl rfl (by decide) rfl rfl rfl) ?_
 refine aq 12 (q_build tok rfl rfl rfl rfl rfl (by decide) rfl rfl rfl) ?_
 refine aq 13 (q_build tok rfl rfl rfl rfl rfl (by decide) rfl rfl rfl) ?_
 refine ax 14 (o_lit' tok rfl rfl rfl rfl rfl rfl (by decide) rfl rfl rfl rfl rfl rfl) ?_
 refine ax 15 (o_pure rfl Try.func24 (by kernel_rfl) rfl rfl rfl (one34_ok [tC, tA, tB])) ?_
 refine ax 2 (o_alloc tok 1 rfl rfl rfl rfl (Nat.zero_lt_succ _) rfl) ?_
 refine AOps.w rfl rfl (o_store tok rfl rfl rfl rfl rfl rfl rfl rfl rfl (by decide) rfl (by first | exact fun _ => rfl | (intro h; cases h))) ?_
 refine AOps.nil ?_
 refine AGo.seq ?_
 refine AGo.region ?_
 refine aq 16 (q_build tok rfl rfl rfl rfl rfl (by decide) rfl rfl rfl) ?_
 refine aq 17 (q_build tok rfl rfl rfl rfl rfl (by decide) rfl rfl rfl) ?_
 refine aq 18 (q_build tok rfl rfl rfl rfl rfl (by decide) rfl rfl rfl) ?_
 refine ax 19 (o_lit' tok rfl rfl rfl rfl rfl rfl (by decide) rfl rfl rfl rfl rfl rfl) ?_
 refine ax 20 (o_pure rfl Try.func24 (by kernel_rfl) rfl rfl rfl (one34_ok [tD, tE, tF])) ?_
 refine ax 3 (o_alloc tok 2 rfl rfl rfl rfl (Nat.zero_lt_succ _) rfl) ?_
 refine AOps.w rfl rfl (o_store tok rfl rfl rfl rfl rfl rfl rfl rfl rfl (by decide) rfl (by first | exact fun _ => rfl | (intro h; cases h))) ?_
 refine AOps.nil ?_
 refine AGo.seq ?_
 refine AGo.region ?_
 refine aq 21 (q_build tok rfl rfl rfl rfl rfl (by decide) rfl rfl rfl) ?_
 refine ax 22 (o_lit' tok rfl rfl rfl rfl rfl rfl (by decide) rfl rfl rfl rfl rfl rfl) ?_
 refine ax 23 (o_pure rfl Try.func24 (by kernel_rfl) rfl rfl rfl (one34_ok [tG])) ?_
 refine ax 4 (o_alloc tok 3 rfl rfl rfl rfl (Nat.zero_lt_succ _) rfl) ?_
 refine AOps.w rfl rfl (o_store tok rfl rfl rfl rfl rfl rfl rfl rfl rfl (by decide) rfl (by first | exact fun _ => rfl | (intro h; cases h))) ?_
 refine AOps.nil ?_
 refine AGo.seq ?_
 refine AGo.region ?_
 refine aq 24 (q_build tok rfl rfl rfl rfl rfl (by decide) rfl rfl rfl) ?_
 refine ax 25 (o_lit' tok rfl rfl rfl rfl rfl rfl (by decide) rfl rfl rfl rfl rfl rfl) ?_
 refine ax 26 (o_pure rfl Try.func24 (by kernel_rfl) rfl rfl rfl (one34_ok [tH])) ?_
 refine ax 5 (o_alloc tok 4 rfl rfl rfl rfl (Nat.zero_lt_succ _) rfl) ?_
 refine AOps.w rfl rfl (o_store tok rfl rfl rfl rfl rfl rfl rfl rfl rfl (by decide) rfl (by first | exact fun _ => rfl | (intro h; cases h))) ?_
 refine AOps.nil ?_
 refine AGo.seq ?_
 refine AGo.region ?_
 refine ax 27 (o_pure rfl Try.func24 (by kernel_rfl) rfl rfl rfl (one34n_ok)) ?_
 refine ax 6 (o_alloc tok 5 rfl rfl rfl rfl (Nat.zero_lt_succ _) rfl) ?_
 refine AOps.w rfl rfl (o_store tok rfl rfl rfl rfl rfl rfl rfl rfl rfl (by decide) rfl (by first | exact fun _ => rfl | (intro h; cases h))) ?_
 refine AOps.nil ?_
 refine AGo.seq ?_
 refine AGo.draw mix ?_
 refine dl 28 tok ?_
 refine dl 29 tok ?_
 refine dx 30 (o_pure rfl Try.func25 (by kernel_rfl) rfl rfl rfl (none34_ok)) ?_
 refine dx 31 (o_pure rfl Try.func14 (by kernel_rfl) rfl rfl rfl ((by have h := vcheck_ok (oneF [tA, tB]) (oneF [tC, tA, tB]) (by decide) (by decide) (one_ins [tA, tB] (by decide) (by decide)) (one_ins [tC, tA, tB] (by decide) (by decide)) noneC; rw [aw1] at h; exact h))) ?_
 refine dm 32 ?_
 refine dl 33 tok ?_
 refine dl 34 tok ?_
 refine dx 35 (o_pure rfl Try.func25 (by kernel_rfl) rfl rfl rfl (none34_ok)) ?_
 refine dx 36 (o_pure rfl Try.func14 (by kernel_rfl) rfl rfl rfl ((by have h := vcheck_ok (oneF [tA, tB]) (oneF [tD, tE, tF]) (by decide) (by decide) (one_ins [tA, tB] (by decide) (by decide)) (one_ins [tD, tE, tF] (by decide) (by decide)) noneC; rw [aw2] at h; exact h))) ?_
 refine dq 37 (q_pick_true true rfl rfl rfl rfl) ?_
 refine dm 38 ?_
 refine dl 39 tok ?_
 refine dl 40 tok ?_
 refine dx 41 (o_pure rfl Try.func25 (by kernel_rfl) rfl rfl rfl (none34_ok)) ?_
 refine dx 42 (o_pure rfl Try.func14 (by kernel_rfl) rfl rfl rfl ((by have h := vcheck_ok (oneF [tG]) (oneF []) (by decide) (by decide) (one_ins [tG] (by decide) (by decide)) (one_ins [] (by decide) (by decide)) noneC; rw [aw3] at h; exact h))) ?_
 refine dq 43 (q_not rfl rfl) ?_
 refine dq 44 (q_pick_true true rfl rfl rfl rfl) ?_
 refine dm 45 ?_
 refine dl 46 tok ?_
 refine dl 47 tok ?_
 refine dx 48 (o_pure rfl Try.func25 (by kernel_rfl) rfl rfl rfl (none34_ok)) ?_
 refine dx 49 (o_pure rfl Try.func14 (by kernel_rfl) rfl rfl rfl ((by have h := vcheck_ok (oneF []) (oneF [tG]) (by decide) (by decide) (one_ins [] (by decide) (by decide)) (one_ins [tG] (by decide) (by decide)) noneC; rw [aw4] at h; exact h))) ?_
 refine dq 50 (q_not rfl rfl) ?_
 refine dq 51 (q_pick_true true rfl rfl rfl rfl) ?_
 refine dm 52 ?_
 refine dl 53 tok ?_
 refine dl 54 tok ?_
 refine dx 55 (o_pure rfl Try.func25 (by kernel_rfl) rfl rfl rfl (none34_ok)) ?_
 refine dx 56 (o_pure rfl Try.func14 (by kernel_rfl) rfl rfl rfl ((by have h := vcheck_ok (oneF [tH]) (oneF []) (by decide) (by decide) (one_ins [tH] (by decide) (by decide)) (one_ins [] (by decide) (by decide)) noneC; rw [aw5] at h; exact h))) ?_
 refine dq 57 (q_not rfl rfl) ?_
 refine dq 58 (q_pick_true true rfl rfl rfl rfl) ?_
 refine dm 59 ?_
 refine dl 60 tok ?_
 refine dl 61 tok ?_
 refine dx 62 (o_pure rfl Try.func25 (by kernel_rfl) rfl rfl rfl (none34_ok)) ?_
 refine dx 63 (o_pure rfl Try.func14 (by kernel_rfl) rfl rfl rfl ((by have h := vcheck_ok (oneF [tA, tB]) (oneF []) (by decide) (by decide) (one_ins [tA, tB] (by decide) (by decide)) (one_ins [] (by decide) (by decide)) noneC; rw [aw6] at h; exact h))) ?_
 refine dq 64 (q_not rfl rfl) ?_
 refine dq 65 (q_pick_true true rfl rfl rfl rfl) ?_
 refine dm 66 ?_
 refine dl 67 tok ?_
 refine dl 68 tok ?_
 refine dl 69 tok ?_
 refine dx 70 (o_pure rfl Try.func17 (by kernel_rfl) rfl rfl rfl (vweak_ok (oneF [tG]) (by decide) (by decide))) ?_
 refine dx 71 (o_pure rfl Try.func14 (by kernel_rfl) rfl rfl rfl ((by have h := vcheck_ok (oneF [tG]) (oneF [tG]) (by decide) (by decide) (one_ins [tG] (by decide) (by decide)) (one_ins [tG] (by decide) (by decide)) (vweak (oneF [tG])); rw [aw7] at h; exact h))) ?_
 refine dq 72 (q_pick_true true rfl rfl rfl rfl) ?_
 refine dm 73 ?_
 refine dl 74 tok ?_
 refine dl 75 tok ?_
 refine dq 76 (q_build tok rfl rfl rfl rfl rfl (by decide) rfl rfl rfl) ?_
 refine dx 77 (o_pure rfl Try.func14 (by kernel_rfl) rfl rfl rfl ((by have h := vcheck_ok (oneF [tA, tB]) (oneF [tA, tB]) (by decide) (by decide) (one_ins [tA, tB] (by decide) (by decide)) (one_ins [tA, tB] (by decide) (by decide)) ⟨[]⟩; rw [aw8] at h; exact h.weak nil_cert))) ?_
 refine dq 78 (q_not rfl rfl) ?_
 refine dq 79 (q_pick_true true rfl rfl rfl rfl) ?_
 refine da 0 ?_
 refine DOps.nil (by kernel_rfl) ?_
 refine AGo.ret ?_
 refine ⟨[_], ⟨rfl, trivial⟩, ?_, rfl⟩
 rfl

end Go.Proofs.Ytpijoieooikfgaa.Sv

namespace Go.Proofs.Ytpijoieooikfgaa.Sv
open Go

set_option maxRecDepth 100000 in
theorem sets_ok (t : Tac) : APure Try.prog 51 [.agg t.cells] (fun r => r = .int .i64 t.sets) := by
 refine APure.of_body (n := 14) tok Try.func51 rfl rfl ?_
 refine AGo.seq ?_
 refine AGo.region ?_
 refine ax 1 (o_box (sz := 8) 0 rfl rfl rfl rfl (Nat.zero_lt_succ _) rfl) ?_
 refine aa 2 ?_
 refine AOps.nil ?_
 refine AGo.seq ?_
 refine AGo.seq ?_
 refine AGo.region ?_
 refine af 3 tok ?_
 refine al 4 tok ?_
 refine AOps.nil ?_
 refine AGo.block ?_
 refine AGo.seq ?_
 refine AGo.seq ?_
 refine AGo.region ?_
 refine aq 6 (q_bin rfl rfl rfl rfl) ?_
 refine aa 5 ?_
 refine AOps.nil ?_
 refine AGo.split 5 rfl (fun hb1 => ?_) (fun hb1 => ?_)
 ·
  refine AGo.cond_true true rfl rfl ?_
  refine AGo.skip ?_
  refine AGo.cond_true true rfl rfl ?_
  refine AGo.seq ?_
  refine AGo.region ?_
  refine af 12 tok ?_
  refine al 13 tok ?_
  refine aa 2 ?_
  refine AOps.nil ?_
  refine AGo.ret ?_
  refine ⟨[_], ⟨rfl, trivial⟩, ?_, rfl⟩
  show AV.int .i64 _ = AV.int .i64 _
  congr 1
  simp [Tac.sets, setsOp, *]
 ·
  refine AGo.cond_false false rfl rfl ?_
  refine AGo.seq ?_
  refine AGo.region ?_
  refine aq 7 (q_bin rfl rfl rfl rfl) ?_
  refine aa 5 ?_
  refine AOps.nil ?_
  refine AGo.split 5 rfl (fun hb2 => ?_) (fun hb2 => ?_)
  ·
   refine AGo.cond_true true rfl rfl ?_
   refine AGo.skip ?_
   refine AGo.cond_true true rfl rfl ?_
   refine AGo.seq ?_
   refine AGo.region ?_
   refine af 12 tok ?_
   refine al 13 tok ?_
   refine aa 2 ?_
   refine AOps.nil ?_
   refine AGo.ret ?_
   refine ⟨[_], ⟨rfl, trivial⟩, ?_, rfl⟩
   show AV.int .i64 _ = AV.int .i64 _
   congr 1
   simp [Tac.sets, setsOp, *]
  ·
   refine AGo.cond_false false rfl rfl ?_
   refine AGo.seq ?_
   refine AGo.region ?_
   refine aq 8 (q_bin rfl rfl rfl rfl) ?_
   refine aa 5 ?_
   refine AOps.nil ?_
   refine AGo.split 5 rfl (fun hb3 => ?_) (fun hb3 => ?_)
   ·
    refine AGo.cond_true true rfl rfl ?_
    refine AGo.skip ?_
    refine AGo.cond_true true rfl rfl ?_
    refine AGo.seq ?_
    refine AGo.region ?_
    refine af 12 tok ?_
    refine al 13 tok ?_
    refine aa 2 ?_
    refine AOps.nil ?_
    refine AGo.ret ?_
    refine ⟨[_], ⟨rfl, trivial⟩, ?_, rfl⟩
    show AV.int .i64 _ = AV.int .i64 _
    congr 1
    simp [Tac.sets, setsOp, *]
   ·
    refine AGo.cond_false false rfl rfl ?_
    refine AGo.seq ?_
    refine AGo.region ?_
    refine aq 9 (q_bin rfl rfl rfl rfl) ?_
    refine aa 5 ?_
    refine AOps.nil ?_
    refine AGo.split 5 rfl (fun hb4 => ?_) (fun hb4 => ?_)
    ·
     refine AGo.cond_true true rfl rfl ?_
     refine AGo.skip ?_
     refine AGo.cond_true true rfl rfl ?_
     refine AGo.seq ?_
     refine AGo.region ?_
     refine af 12 tok ?_
     refine al 13 tok ?_
     refine aa 2 ?_
     refine AOps.nil ?_
     refine AGo.ret ?_
     refine ⟨[_], ⟨rfl, trivial⟩, ?_, rfl⟩
     show AV.int .i64 _ = AV.int .i64 _
     congr 1
     simp [Tac.sets, setsOp, *]
    ·
     refine AGo.cond_false false rfl rfl ?_
     refine AGo.seq ?_
     refine AGo.region ?_
     refine aq 10 (q_bin rfl rfl rfl rfl) ?_
     refine aa 5 ?_
     refine AOps.nil ?_
     refine AGo.split 5 rfl (fun hb5 => ?_) (fun hb5 => ?_)
     ·
      refine AGo.cond_true true rfl rfl ?_
      refine AGo.skip ?_
      refine AGo.cond_true true rfl rfl ?_
      refine AGo.seq ?_
      refine AGo.region ?_
      refine af 12 tok ?_
      refine al 13 tok ?_
      refine aa 2 ?_
      refine AOps.nil ?_
      refine AGo.ret ?_
      refine ⟨[_], ⟨rfl, trivial⟩, ?_, rfl⟩
      show AV.int .i64 _ = AV.int .i64 _
      congr 1
      simp [Tac.sets, setsOp, *]
     ·
      refine AGo.cond_false false rfl rfl ?_
      refine AGo.region ?_
      refine aq 11 (q_bin rfl rfl rfl rfl) ?_
      refine aa 5 ?_
      refine AOps.nil ?_
      refine AGo.split 5 rfl (fun hb6 => ?_) (fun hb6 => ?_)
      ·
       refine AGo.cond_true true rfl rfl ?_
       refine AGo.seq ?_
       refine AGo.region ?_
       refine af 12 tok ?_
       refine al 13 tok ?_
       refine aa 2 ?_
       refine AOps.nil ?_
       refine AGo.ret ?_
       refine ⟨[_], ⟨rfl, trivial⟩, ?_, rfl⟩
       show AV.int .i64 _ = AV.int .i64 _
       congr 1
       simp [Tac.sets, setsOp, *]
      ·
       refine AGo.cond_false false rfl rfl ?_
       refine AGo.skip ?_
       refine AGo.seq ?_
       refine AGo.region ?_
       refine aa 2 ?_
       refine AOps.nil ?_
       refine AGo.ret ?_
       refine ⟨[_], ⟨rfl, trivial⟩, ?_, rfl⟩
       show AV.int .i64 _ = AV.int .i64 _
       congr 1
       simp [Tac.sets, setsOp, *]

set_option maxRecDepth 100000 in
theorem uses_ok (t : Tac) : APure Try.prog 52 [.agg t.cells] (fun r => r = intsAV t.uses) := by
 refine APure.of_body (n := 21) tok Try.func52 rfl rfl ?_
 refine AGo.seq ?_
 refine AGo.region ?_
 refine ax 1 (o_box (sz := 8) 0 rfl rfl rfl rfl (Nat.zero_lt_succ _) rfl) ?_
 refine aa 2 ?_
 refine AOps.nil ?_
 refine AGo.seq ?_
 refine AGo.seq ?_
 refine AGo.region ?_
 refine af 3 tok ?_
 refine al 4 tok ?_
 refine AOps.nil ?_
 refine AGo.block ?_
 refine AGo.seq ?_
 refine AGo.seq ?_
 refine AGo.region ?_
 refine aq 6 (q_bin rfl rfl rfl rfl) ?_
 refine aa 5 ?_
 refine AOps.nil ?_
 refine AGo.split 5 rfl (fun hb1 => ?_) (fun hb1 => ?_)
 ·
  refine AGo.cond_true true rfl rfl ?_
  refine AGo.skip ?_
  refine AGo.cond_true true rfl rfl ?_
  refine AGo.seq ?_
  refine AGo.region ?_
  refine af 10 tok ?_
  refine al 11 tok ?_
  refine ax 12 (o_lit' tok rfl rfl rfl rfl rfl rfl (by decide) rfl rfl rfl rfl rfl rfl) ?_
  refine aa 2 ?_
  refine AOps.nil ?_
  refine AGo.ret ?_
  refine ⟨[_], ⟨rfl, trivial⟩, ?_, rfl⟩
  show AV.lst false _ = _
  simp [Tac.uses, use1, use2, intsAV, partVals, AV.cells, *]
 ·
  refine AGo.cond_false false rfl rfl ?_
  refine AGo.seq ?_
  refine AGo.region ?_
  refine aq 7 (q_bin rfl rfl rfl rfl) ?_
  refine aa 5 ?_
  refine AOps.nil ?_
  refine AGo.split 5 rfl (fun hb2 => ?_) (fun hb2 => ?_)
  ·
   refine AGo.cond_true true rfl rfl ?_
   refine AGo.skip ?_
   refine AGo.cond_true true rfl rfl ?_
   refine AGo.seq ?_
   refine AGo.region ?_
   refine af 10 tok ?_
   refine al 11 tok ?_
   refine ax 12 (o_lit' tok rfl rfl rfl rfl rfl rfl (by decide) rfl rfl rfl rfl rfl rfl) ?_
   refine aa 2 ?_
   refine AOps.nil ?_
   refine AGo.ret ?_
   refine ⟨[_], ⟨rfl, trivial⟩, ?_, rfl⟩
   show AV.lst false _ = _
   simp [Tac.uses, use1, use2, intsAV, partVals, AV.cells, *]
  ·
   refine AGo.cond_false false rfl rfl ?_
   refine AGo.seq ?_
   refine AGo.region ?_
   refine aq 8 (q_bin rfl rfl rfl rfl) ?_
   refine aa 5 ?_
   refine AOps.nil ?_
   refine AGo.split 5 rfl (fun hb3 => ?_) (fun hb3 => ?_)
   ·
    refine AGo.cond_true true rfl rfl ?_
    refine AGo.skip ?_
    refine AGo.cond_true true rfl rfl ?_
    refine AGo.seq ?_
    refine AGo.region ?_
    refine af 10 tok ?_
    refine al 11 tok ?_
    refine ax 12 (o_lit' tok rfl rfl rfl rfl rfl rfl (by decide) rfl rfl rfl rfl rfl rfl) ?_
    refine aa 2 ?_
    refine AOps.nil ?_
    refine AGo.ret ?_
    refine ⟨[_], ⟨rfl, trivial⟩, ?_, rfl⟩
    show AV.lst false _ = _
    simp [Tac.uses, use1, use2, intsAV, partVals, AV.cells, *]
   ·
    refine AGo.cond_false false rfl rfl ?_
    refine AGo.region ?_
    refine aq 9 (q_bin rfl rfl rfl rfl) ?_
    refine aa 5 ?_
    refine AOps.nil ?_
    refine AGo.split 5 rfl (fun hb4 => ?_) (fun hb4 => ?_)
    ·
     refine AGo.cond_true true rfl rfl ?_
     refine AGo.seq ?_
     refine AGo.region ?_
     refine af 10 tok ?_
     refine al 11 tok ?_
     refine ax 12 (o_lit' tok rfl rfl rfl rfl rfl rfl (by decide) rfl rfl rfl rfl rfl rfl) ?_
     refine aa 2 ?_
     refine AOps.nil ?_
     refine AGo.ret ?_
     refine ⟨[_], ⟨rfl, trivial⟩, ?_, rfl⟩
     show AV.lst false _ = _
     simp [Tac.uses, use1, use2, intsAV, partVals, AV.cells, *]
    ·
     refine AGo.cond_false false rfl rfl ?_
     refine AGo.seq ?_
     refine AGo.seq ?_
     refine AGo.region ?_
     refine aq 14 (q_bin rfl rfl rfl rfl) ?_
     refine aa 13 ?_
     refine AOps.nil ?_
     refine AGo.split 13 rfl (fun hb5 => ?_) (fun hb5 => ?_)
     ·
      refine AGo.cond_true true rfl rfl ?_
      refine AGo.skip ?_
      refine AGo.cond_true true rfl rfl ?_
      refine AGo.seq ?_
      refine AGo.region ?_
      refine af 16 tok ?_
      refine al 17 tok ?_
      refine af 18 tok ?_
      refine al 19 tok ?_
      refine ax 20 (o_lit' tok rfl rfl rfl rfl rfl rfl (by decide) rfl rfl rfl rfl rfl rfl) ?_
      refine aa 2 ?_
      refine AOps.nil ?_
      refine AGo.ret ?_
      refine ⟨[_], ⟨rfl, trivial⟩, ?_, rfl⟩
      show AV.lst false _ = _
      simp [Tac.uses, use1, use2, intsAV, partVals, AV.cells, *]
     ·
      refine AGo.cond_false false rfl rfl ?_
      refine AGo.region ?_
      refine aq 15 (q_bin rfl rfl rfl rfl) ?_
      refine aa 13 ?_
      refine AOps.nil ?_
      refine AGo.split 13 rfl (fun hb6 => ?_) (fun hb6 => ?_)
      ·
       refine AGo.cond_true true rfl rfl ?_
       refine AGo.seq ?_
       refine AGo.region ?_
       refine af 16 tok ?_
       refine al 17 tok ?_
       refine af 18 tok ?_
       refine al 19 tok ?_
       refine ax 20 (o_lit' tok rfl rfl rfl rfl rfl rfl (by decide) rfl rfl rfl rfl rfl rfl) ?_
       refine aa 2 ?_
       refine AOps.nil ?_
       refine AGo.ret ?_
       refine ⟨[_], ⟨rfl, trivial⟩, ?_, rfl⟩
       show AV.lst false _ = _
       simp [Tac.uses, use1, use2, intsAV, partVals, AV.cells, *]
      ·
       refine AGo.cond_false false rfl rfl ?_
       refine AGo.skip ?_
       refine AGo.seq ?_
       refine AGo.region ?_
       refine aa 2 ?_
       refine AOps.nil ?_
       refine AGo.ghost (.empty 2 rfl) ?_
       refine AGo.ret ?_
       refine ⟨[_], ⟨rfl, trivial⟩, ?_, rfl⟩
       show AV.lst false _ = _
       simp [Tac.uses, use1, use2, intsAV, partVals, AV.cells, *]

set_option maxRecDepth 100000 in
theorem within_ok (i j : Int) : APure Try.prog 50 [.int .i64 i, .int .i64 j] (fun r => r = .bool (within i j)) := by
 refine APure.of_body (n := 12) tok Try.func50 rfl rfl ?_
 refine AGo.seq ?_
 refine AGo.region ?_
 refine aa 4 ?_
 refine AOps.nil ?_
 refine AGo.seq ?_
 refine AGo.region ?_
 refine am 5 ?_
 refine aq 6 (q_bin rfl rfl rfl rfl) ?_
 refine am 7 ?_
 refine AOps.split 7 rfl (fun hb1 => ?_) (fun hb1 => ?_)
 ·
  refine am 8 ?_
  refine am 9 ?_
  refine aq 10 (q_bin rfl rfl rfl rfl) ?_
  refine aq 11 (q_pick_true true rfl rfl rfl rfl) ?_
  refine aa 4 ?_
  refine AOps.nil ?_
  refine AGo.ret ?_
  refine ⟨[_], ⟨rfl, trivial⟩, ?_, rfl⟩
  show AV.bool _ = AV.bool _
  congr 1
  simp_all [within] <;> omega
 ·
  refine ak 8 ?_
  refine ak 9 ?_
  refine ak 10 ?_
  refine aq 11 (q_pick_false false rfl rfl rfl rfl) ?_
  refine aa 4 ?_
  refine AOps.nil ?_
  refine AGo.ret ?_
  refine ⟨[_], ⟨rfl, trivial⟩, ?_, rfl⟩
  show AV.bool _ = AV.bool _
  congr 1
  simp_all [within] <;> omega

set_option maxRecDepth 100000 in
theorem ends_ok (b : Block) (blocks regs : Int) : APure Try.prog 40 [.agg b.cells, .int .i64 blocks, .int .i64 regs] (fun r => r = .bool (b.ends blocks regs)) := by
 refine APure.of_body (n := 61) tok Try.func40 rfl rfl ?_
 refine AGo.seq ?_
 refine AGo.region ?_
 refine ax 3 (o_box (sz := 5) 0 rfl rfl rfl rfl (Nat.zero_lt_succ _) rfl) ?_
 refine aa 6 ?_
 refine AOps.nil ?_
 refine AGo.seq ?_
 refine AGo.seq ?_
 refine AGo.region ?_
 refine af 7 tok ?_
 refine al 8 tok ?_
 refine AOps.nil ?_
 refine AGo.block ?_
 refine AGo.seq ?_
 refine AGo.region ?_
 refine aq 10 (q_bin rfl rfl rfl rfl) ?_
 refine aa 9 ?_
 refine AOps.nil ?_
 refine AGo.split 9 rfl (fun hb1 => ?_) (fun hb1 => ?_)
 ·
  refine AGo.cond_true true rfl rfl ?_
  refine AGo.seq ?_
  refine AGo.region ?_
  refine af 11 tok ?_
  refine al 12 tok ?_
  refine am 13 ?_
  refine ax 14 (o_pure rfl Try.func50 (by kernel_rfl) rfl rfl rfl (within_ok _ _)) ?_
  refine am 15 ?_
  refine AOps.split 15 rfl (fun hb2 => ?_) (fun hb2 => ?_)
  ·
   refine af 16 tok ?_
   refine al 17 tok ?_
   refine aq 18 (q_bin rfl rfl rfl rfl) ?_
   refine aq 19 (q_pick_true true rfl rfl rfl rfl) ?_
   refine am 20 ?_
   refine AOps.split 20 rfl (fun hb3 => ?_) (fun hb3 => ?_)
   ·
    refine af 21 tok ?_
    refine al 22 tok ?_
    refine aq 23 (q_bin rfl rfl rfl rfl) ?_
    refine aq 24 (q_pick_true true rfl rfl rfl rfl) ?_
    refine aa 6 ?_
    refine AOps.nil ?_
    refine AGo.ret ?_
    refine ⟨[_], ⟨rfl, trivial⟩, ?_, rfl⟩
    show AV.bool _ = AV.bool _
    congr 1
    simp_all [Block.ends]
   ·
    refine ak 21 ?_
    refine ak 22 ?_
    refine ak 23 ?_
    refine aq 24 (q_pick_false false rfl rfl rfl rfl) ?_
    refine aa 6 ?_
    refine AOps.nil ?_
    refine AGo.ret ?_
    refine ⟨[_], ⟨rfl, trivial⟩, ?_, rfl⟩
    show AV.bool _ = AV.bool _
    congr 1
    simp_all [Block.ends]
  ·
   refine ak 16 ?_
   refine ak 17 ?_
   refine ak 18 ?_
   refine aq 19 (q_pick_false false rfl rfl rfl rfl) ?_
   refine am 20 ?_
   refine ak 21 ?_
   refine ak 22 ?_
   refine ak 23 ?_
   refine aq 24 (q_pick_false false rfl rfl rfl rfl) ?_
   refine aa 6 ?_
   refine AOps.nil ?_
   refine AGo.ret ?_
   refine ⟨[_], ⟨rfl, trivial⟩, ?_, rfl⟩
   show AV.bool _ = AV.bool _
   congr 1
   simp_all [Block.ends]
 ·
  refine AGo.cond_false false rfl rfl ?_
  refine AGo.seq ?_
  refine AGo.region ?_
  refine aq 26 (q_bin rfl rfl rfl rfl) ?_
  refine aa 25 ?_
  refine AOps.nil ?_
  refine AGo.split 25 rfl (fun hb4 => ?_) (fun hb4 => ?_)
  ·
   refine AGo.cond_true true rfl rfl ?_
   refine AGo.seq ?_
   refine AGo.region ?_
   refine af 27 tok ?_
   refine al 28 tok ?_
   refine am 29 ?_
   refine ax 30 (o_pure rfl Try.func50 (by kernel_rfl) rfl rfl rfl (within_ok _ _)) ?_
   refine am 31 ?_
   refine AOps.split 31 rfl (fun hb5 => ?_) (fun hb5 => ?_)
   ·
    refine af 32 tok ?_
    refine al 33 tok ?_
    refine am 34 ?_
    refine ax 35 (o_pure rfl Try.func50 (by kernel_rfl) rfl rfl rfl (within_ok _ _)) ?_
    refine aq 36 (q_pick_true true rfl rfl rfl rfl) ?_
    refine am 37 ?_
    refine AOps.split 37 rfl (fun hb6 => ?_) (fun hb6 => ?_)
    ·
     refine af 38 tok ?_
     refine al 39 tok ?_
     refine am 40 ?_
     refine ax 41 (o_pure rfl Try.func50 (by kernel_rfl) rfl rfl rfl (within_ok _ _)) ?_
     refine aq 42 (q_pick_true true rfl rfl rfl rfl) ?_
     refine aa 6 ?_
     refine AOps.nil ?_
     refine AGo.ret ?_
     refine ⟨[_], ⟨rfl, trivial⟩, ?_, rfl⟩
     show AV.bool _ = AV.bool _
     congr 1
     simp_all [Block.ends]
    ·
     refine ak 38 ?_
     refine ak 39 ?_
     refine ak 40 ?_
     refine ak 41 ?_
     refine aq 42 (q_pick_false false rfl rfl rfl rfl) ?_
     refine aa 6 ?_
     refine AOps.nil ?_
     refine AGo.ret ?_
     refine ⟨[_], ⟨rfl, trivial⟩, ?_, rfl⟩
     show AV.bool _ = AV.bool _
     congr 1
     simp_all [Block.ends]
   ·
    refine ak 32 ?_
    refine ak 33 ?_
    refine ak 34 ?_
    refine ak 35 ?_
    refine aq 36 (q_pick_false false rfl rfl rfl rfl) ?_
    refine am 37 ?_
    refine ak 38 ?_
    refine ak 39 ?_
    refine ak 40 ?_
    refine ak 41 ?_
    refine aq 42 (q_pick_false false rfl rfl rfl rfl) ?_
    refine aa 6 ?_
    refine AOps.nil ?_
    refine AGo.ret ?_
    refine ⟨[_], ⟨rfl, trivial⟩, ?_, rfl⟩
    show AV.bool _ = AV.bool _
    congr 1
    simp_all [Block.ends]
  ·
   refine AGo.cond_false false rfl rfl ?_
   refine AGo.skip ?_
   refine AGo.seq ?_
   refine AGo.region ?_
   refine af 43 tok ?_
   refine al 44 tok ?_
   refine aq 45 (q_bin rfl rfl rfl rfl) ?_
   refine am 46 ?_
   refine AOps.split 46 rfl (fun hb7 => ?_) (fun hb7 => ?_)
   ·
    refine af 47 tok ?_
    refine al 48 tok ?_
    refine aq 49 (q_bin rfl rfl rfl rfl) ?_
    refine aq 50 (q_pick_true true rfl rfl rfl rfl) ?_
    refine am 51 ?_
    refine AOps.split 51 rfl (fun hb8 => ?_) (fun hb8 => ?_)
    ·
     refine af 52 tok ?_
     refine al 53 tok ?_
     refine aq 54 (q_bin rfl rfl rfl rfl) ?_
     refine aq 55 (q_pick_true true rfl rfl rfl rfl) ?_
     refine am 56 ?_
     refine AOps.split 56 rfl (fun hb9 => ?_) (fun hb9 => ?_)
     ·
      refine af 57 tok ?_
      refine al 58 tok ?_
      refine aq 59 (q_bin rfl rfl rfl rfl) ?_
      refine aq 60 (q_pick_true true rfl rfl rfl rfl) ?_
      refine aa 6 ?_
      refine AOps.nil ?_
      refine AGo.ret ?_
      refine ⟨[_], ⟨rfl, trivial⟩, ?_, rfl⟩
      show AV.bool _ = AV.bool _
      congr 1
      simp_all [Block.ends]
     ·
      refine ak 57 ?_
      refine ak 58 ?_
      refine ak 59 ?_
      refine aq 60 (q_pick_false false rfl rfl rfl rfl) ?_
      refine aa 6 ?_
      refine AOps.nil ?_
      refine AGo.ret ?_
      refine ⟨[_], ⟨rfl, trivial⟩, ?_, rfl⟩
      show AV.bool _ = AV.bool _
      congr 1
      simp_all [Block.ends]
    ·
     refine ak 52 ?_
     refine ak 53 ?_
     refine ak 54 ?_
     refine aq 55 (q_pick_false false rfl rfl rfl rfl) ?_
     refine am 56 ?_
     refine ak 57 ?_
     refine ak 58 ?_
     refine ak 59 ?_
     refine aq 60 (q_pick_false false rfl rfl rfl rfl) ?_
     refine aa 6 ?_
     refine AOps.nil ?_
     refine AGo.ret ?_
     refine ⟨[_], ⟨rfl, trivial⟩, ?_, rfl⟩
     show AV.bool _ = AV.bool _
     congr 1
     simp_all [Block.ends]
   ·
    refine ak 47 ?_
    refine ak 48 ?_
    refine ak 49 ?_
    refine aq 50 (q_pick_false false rfl rfl rfl rfl) ?_
    refine am 51 ?_
    refine ak 52 ?_
    refine ak 53 ?_
    refine ak 54 ?_
    refine aq 55 (q_pick_false false rfl rfl rfl rfl) ?_
    refine am 56 ?_
    refine ak 57 ?_
    refine ak 58 ?_
    refine ak 59 ?_
    refine aq 60 (q_pick_false false rfl rfl rfl rfl) ?_
    refine aa 6 ?_
    refine AOps.nil ?_
    refine AGo.ret ?_
    refine ⟨[_], ⟨rfl, trivial⟩, ?_, rfl⟩
    show AV.bool _ = AV.bool _
    congr 1
    simp_all [Block.ends]

set_option maxRecDepth 100000 in
theorem fits_ok (t : Tac) (f regs words : Int) (hw : 0 ≤ words) (hw2 : words ≤ 1048576) : APure Try.prog 41 [.agg t.cells, .int .i64 f, .int .i64 regs, .int .i64 words] (fun r => r = .bool (t.fits f regs words)) := by
 refine APure.of_body (n := 166) tok Try.func41 rfl rfl ?_
 refine AGo.seq ?_
 refine AGo.region ?_
 refine ax 4 (o_box (sz := 8) 0 rfl rfl rfl rfl (Nat.zero_lt_succ _) rfl) ?_
 refine aa 8 ?_
 refine AOps.nil ?_
 refine AGo.seq ?_
 refine AGo.seq ?_
 refine AGo.region ?_
 refine af 12 tok ?_
 refine al 13 tok ?_
 refine aq 14 (q_bin rfl rfl rfl rfl) ?_
 refine am 15 ?_
 refine AOps.split 15 rfl (fun hb1 => ?_) (fun hb1 => ?_)
 ·
  refine ak 16 ?_
  refine ak 17 ?_
  refine ak 18 ?_
  refine aq 19 (q_pick_true true rfl rfl rfl rfl) ?_
  refine AOps.nil ?_
  refine AGo.cond_true true rfl rfl ?_
  refine AGo.seq ?_
  refine AGo.region ?_
  refine aa 8 ?_
  refine AOps.nil ?_
  refine AGo.ret ?_
  refine ⟨[_], ⟨rfl, trivial⟩, ?_, rfl⟩
  show AV.bool _ = AV.bool _
  congr 1
  exact (fits_op (by simp_all <;> omega)).symm
 ·
  refine af 16 tok ?_
  refine al 17 tok ?_
  refine aq 18 (q_bin rfl rfl rfl rfl) ?_
  refine aq 19 (q_pick_false false rfl rfl rfl rfl) ?_
  refine AOps.nil ?_
  refine AGo.split 19 rfl (fun hb2 => ?_) (fun hb2 => ?_)
  ·
   refine AGo.cond_true true rfl rfl ?_
   refine AGo.seq ?_
   refine AGo.region ?_
   refine aa 8 ?_
   refine AOps.nil ?_
   refine AGo.ret ?_
   refine ⟨[_], ⟨rfl, trivial⟩, ?_, rfl⟩
   show AV.bool _ = AV.bool _
   congr 1
   exact (fits_op (by simp_all <;> omega)).symm
  ·
   refine AGo.cond_false false rfl rfl ?_
   refine AGo.skip ?_
   refine AGo.seq ?_
   refine AGo.region ?_
   refine af 20 tok ?_
   refine al 21 tok ?_
   refine aq 22 (q_build tok rfl rfl rfl rfl rfl (by decide) rfl rfl rfl) ?_
   refine ax 9 (o_alloc tok 1 rfl rfl rfl rfl (Nat.zero_lt_succ _) rfl) ?_
   refine AOps.w rfl rfl (o_store tok rfl rfl rfl rfl rfl rfl rfl rfl rfl (by decide) rfl (by first | exact fun _ => rfl | (intro h; cases h))) ?_
   refine AOps.nil ?_
   refine AGo.seq ?_
   refine AGo.join (γ := Int) (fun d => ⟨166, (eput (eput (eput (eput (eput eNew 1 (.int .i64 f)) 2 (.int .i64 regs)) 3 (.int .i64 words)) 4 (.ptr 0 1 0 0)) 9 (.ptr 1 1 0 0)), (hput (hput (hFrom 2) 0 (.row false 8 [t.cells])) 1 (.row false 8 [[.int .i64 t.op, .int .i64 d, .int .i64 0, .int .i64 0, .int .i64 0, .int .i64 0, .int .i64 0, .int .u32 0]]))⟩) (fun d => (!setsOp t.op || within t.d regs) = true ∧ d = bif setsOp t.op then t.d else 0) ?_ ?_
   ·
    refine AGo.seq ?_
    refine AGo.region ?_
    refine al 23 tok ?_
    refine ax 24 (o_pure rfl Try.func51 (by kernel_rfl) rfl rfl rfl (sets_ok _)) ?_
    refine aq 25 (q_bin rfl rfl rfl rfl) ?_
    refine am 26 ?_
    refine AOps.split 26 rfl (fun hb3 => ?_) (fun hb3 => ?_)
    ·
     refine ak 27 ?_
     refine ak 28 ?_
     refine ak 29 ?_
     refine aq 30 (q_pick_true true rfl rfl rfl rfl) ?_
     refine am 31 ?_
     refine ak 32 ?_
     refine ak 33 ?_
     refine ak 34 ?_
     refine aq 35 (q_pick_true true rfl rfl rfl rfl) ?_
     refine am 36 ?_
     refine ak 37 ?_
     refine ak 38 ?_
     refine ak 39 ?_
     refine aq 40 (q_pick_true true rfl rfl rfl rfl) ?_
     refine am 41 ?_
     refine ak 42 ?_
     refine ak 43 ?_
     refine ak 44 ?_
     refine aq 45 (q_pick_true true rfl rfl rfl rfl) ?_
     refine am 46 ?_
     refine ak 47 ?_
     refine ak 48 ?_
     refine ak 49 ?_
     refine aq 50 (q_pick_true true rfl rfl rfl rfl) ?_
     refine am 51 ?_
     refine ak 52 ?_
     refine ak 53 ?_
     refine ak 54 ?_
     refine aq 55 (q_pick_true true rfl rfl rfl rfl) ?_
     refine AOps.nil ?_
     refine AGo.cond_true true rfl rfl ?_
     refine AGo.seq ?_
     refine AGo.region ?_
     refine af 56 tok ?_
     refine al 57 tok ?_
     refine af 58 tok ?_
     refine AOps.w rfl rfl (o_store tok rfl rfl rfl rfl rfl rfl rfl rfl rfl (by decide) rfl (by first | exact fun _ => rfl | (intro h; cases h))) ?_
     refine AOps.nil ?_
     refine AGo.seq ?_
     refine AGo.region ?_
     refine af 59 tok ?_
     refine al 60 tok ?_
     refine am 61 ?_
     refine ax 62 (o_pure rfl Try.func50 (by kernel_rfl) rfl rfl rfl (within_ok _ _)) ?_
     refine aq 63 (q_not rfl rfl) ?_
     refine AOps.nil ?_
     refine AGo.split 63 rfl (fun hb4 => ?_) (fun hb4 => ?_)
     ·
      refine AGo.cond_true true rfl rfl ?_
      refine AGo.seq ?_
      refine AGo.region ?_
      refine aa 8 ?_
      refine AOps.nil ?_
      refine AGo.ret ?_
      refine ⟨[_], ⟨rfl, trivial⟩, ?_, rfl⟩
      show AV.bool _ = AV.bool _
      congr 1
      exact (fits_d (by first | (simp [setsOp, *]; done) | exact sets_pos ‹_›) (by simpa using ‹(!within t.d regs) = true›)).symm
     ·
      refine AGo.cond_false false rfl rfl ?_
      refine AGo.skip ?_
      exact ⟨t.d, Sub.mk' (by repeat (first | exact ESub.new _ | refine ESub.put ?_ (by rfl))) (by repeat (first | exact HSub.refl _ | exact HSub.none _ | exact HSub.from_new _ | exact HSub.from_from (by first | decide | omega | (dsimp only; omega)) | refine HSub.put ?_ (by rfl) | refine HSub.from_put ?_ (by first | decide | omega | (dsimp only; omega)) | refine HSub.from_rm ?_ (by decide))), ⟨by have h := ‹(!within t.d regs) = false›; simp at h; simp [h], by first | (simp [setsOp, *]; done) | simp [sets_pos ‹_›]⟩⟩
    ·
     refine af 27 tok ?_
     refine al 28 tok ?_
     refine aq 29 (q_bin rfl rfl rfl rfl) ?_
     refine aq 30 (q_pick_false false rfl rfl rfl rfl) ?_
     refine am 31 ?_
     refine AOps.split 31 rfl (fun hb5 => ?_) (fun hb5 => ?_)
     ·
      refine ak 32 ?_
      refine ak 33 ?_
      refine ak 34 ?_
      refine aq 35 (q_pick_true true rfl rfl rfl rfl) ?_
      refine am 36 ?_
      refine ak 37 ?_
      refine ak 38 ?_
      refine ak 39 ?_
      refine aq 40 (q_pick_true true rfl rfl rfl rfl) ?_
      refine am 41 ?_
      refine ak 42 ?_
      refine ak 43 ?_
      refine ak 44 ?_
      refine aq 45 (q_pick_true true rfl rfl rfl rfl) ?_
      refine am 46 ?_
      refine ak 47 ?_
      refine ak 48 ?_
      refine ak 49 ?_
      refine aq 50 (q_pick_true true rfl rfl rfl rfl) ?_
      refine am 51 ?_
      refine ak 52 ?_
      refine ak 53 ?_
      refine ak 54 ?_
      refine aq 55 (q_pick_true true rfl rfl rfl rfl) ?_
      refine AOps.nil ?_
      refine AGo.cond_true true rfl rfl ?_
      refine AGo.seq ?_
      refine AGo.region ?_
      refine af 56 tok ?_
      refine al 57 tok ?_
      refine af 58 tok ?_
      refine AOps.w rfl rfl (o_store tok rfl rfl rfl rfl rfl rfl rfl rfl rfl (by decide) rfl (by first | exact fun _ => rfl | (intro h; cases h))) ?_
      refine AOps.nil ?_
      refine AGo.seq ?_
      refine AGo.region ?_
      refine af 59 tok ?_
      refine al 60 tok ?_
      refine am 61 ?_
      refine ax 62 (o_pure rfl Try.func50 (by kernel_rfl) rfl rfl rfl (within_ok _ _)) ?_
      refine aq 63 (q_not rfl rfl) ?_
      refine AOps.nil ?_
      refine AGo.split 63 rfl (fun hb6 => ?_) (fun hb6 => ?_)
      ·
       refine AGo.cond_true true rfl rfl ?_
       refine AGo.seq ?_
       refine AGo.region ?_
       refine aa 8 ?_
       refine AOps.nil ?_
       refine AGo.ret ?_
       refine ⟨[_], ⟨rfl, trivial⟩, ?_, rfl⟩
       show AV.bool _ = AV.bool _
       congr 1
       exact (fits_d (by first | (simp [setsOp, *]; done) | exact sets_pos ‹_›) (by simpa using ‹(!within t.d regs) = true›)).symm
      ·
       refine AGo.cond_false false rfl rfl ?_
       refine AGo.skip ?_
       exact ⟨t.d, Sub.mk' (by repeat (first | exact ESub.new _ | refine ESub.put ?_ (by rfl))) (by repeat (first | exact HSub.refl _ | exact HSub.none _ | exact HSub.from_new _ | exact HSub.from_from (by first | decide | omega | (dsimp only; omega)) | refine HSub.put ?_ (by rfl) | refine HSub.from_put ?_ (by first | decide | omega | (dsimp only; omega)) | refine HSub.from_rm ?_ (by decide))), ⟨by have h := ‹(!within t.d regs) = false›; simp at h; simp [h], by first | (simp [setsOp, *]; done) | simp [sets_pos ‹_›]⟩⟩
     ·
      refine af 32 tok ?_
      refine al 33 tok ?_
      refine aq 34 (q_bin rfl rfl rfl rfl) ?_
      refine aq 35 (q_pick_false false rfl rfl rfl rfl) ?_
      refine am 36 ?_
      refine AOps.split 36 rfl (fun hb7 => ?_) (fun hb7 => ?_)
      ·
       refine ak 37 ?_
       refine ak 38 ?_
       refine ak 39 ?_
       refine aq 40 (q_pick_true true rfl rfl rfl rfl) ?_
       refine am 41 ?_
       refine ak 42 ?_
       refine ak 43 ?_
       refine ak 44 ?_
       refine aq 45 (q_pick_true true rfl rfl rfl rfl) ?_
       refine am 46 ?_
       refine ak 47 ?_
       refine ak 48 ?_
       refine ak 49 ?_
       refine aq 50 (q_pick_true true rfl rfl rfl rfl) ?_
       refine am 51 ?_
       refine ak 52 ?_
       refine ak 53 ?_
       refine ak 54 ?_
       refine aq 55 (q_pick_true true rfl rfl rfl rfl) ?_
       refine AOps.nil ?_
       refine AGo.cond_true true rfl rfl ?_
       refine AGo.seq ?_
       refine AGo.region ?_
       refine af 56 tok ?_
       refine al 57 tok ?_
       refine af 58 tok ?_
       refine AOps.w rfl rfl (o_store tok rfl rfl rfl rfl rfl rfl rfl rfl rfl (by decide) rfl (by first | exact fun _ => rfl | (intro h; cases h))) ?_
       refine AOps.nil ?_
       refine AGo.seq ?_
       refine AGo.region ?_
       refine af 59 tok ?_
       refine al 60 tok ?_
       refine am 61 ?_
       refine ax 62 (o_pure rfl Try.func50 (by kernel_rfl) rfl rfl rfl (within_ok _ _)) ?_
       refine aq 63 (q_not rfl rfl) ?_
       refine AOps.nil ?_
       refine AGo.split 63 rfl (fun hb8 => ?_) (fun hb8 => ?_)
       ·
        refine AGo.cond_true true rfl rfl ?_
        refine AGo.seq ?_
        refine AGo.region ?_
        refine aa 8 ?_
        refine AOps.nil ?_
        refine AGo.ret ?_
        refine ⟨[_], ⟨rfl, trivial⟩, ?_, rfl⟩
        show AV.bool _ = AV.bool _
        congr 1
        exact (fits_d (by first | (simp [setsOp, *]; done) | exact sets_pos ‹_›) (by simpa using ‹(!within t.d regs) = true›)).symm
       ·
        refine AGo.cond_false false rfl rfl ?_
        refine AGo.skip ?_
        exact ⟨t.d, Sub.mk' (by repeat (first | exact ESub.new _ | refine ESub.put ?_ (by rfl))) (by repeat (first | exact HSub.refl _ | exact HSub.none _ | exact HSub.from_new _ | exact HSub.from_from (by first | decide | omega | (dsimp only; omega)) | refine HSub.put ?_ (by rfl) | refine HSub.from_put ?_ (by first | decide | omega | (dsimp only; omega)) | refine HSub.from_rm ?_ (by decide))), ⟨by have h := ‹(!within t.d regs) = false›; simp at h; simp [h], by first | (simp [setsOp, *]; done) | simp [sets_pos ‹_›]⟩⟩
      ·
       refine af 37 tok ?_
       refine al 38 tok ?_
       refine aq 39 (q_bin rfl rfl rfl rfl) ?_
       refine aq 40 (q_pick_false false rfl rfl rfl rfl) ?_
       refine am 41 ?_
       refine AOps.split 41 rfl (fun hb9 => ?_) (fun hb9 => ?_)
       ·
        refine ak 42 ?_
        refine ak 43 ?_
        refine ak 44 ?_
        refine aq 45 (q_pick_true true rfl rfl rfl rfl) ?_
        refine am 46 ?_
        refine ak 47 ?_
        refine ak 48 ?_
        refine ak 49 ?_
        refine aq 50 (q_pick_true true rfl rfl rfl rfl) ?_
        refine am 51 ?_
        refine ak 52 ?_
        refine ak 53 ?_
        refine ak 54 ?_
        refine aq 55 (q_pick_true true rfl rfl rfl rfl) ?_
        refine AOps.nil ?_
        refine AGo.cond_true true rfl rfl ?_
        refine AGo.seq ?_
        refine AGo.region ?_
        refine af 56 tok ?_
        refine al 57 tok ?_
        refine af 58 tok ?_
        refine AOps.w rfl rfl (o_store tok rfl rfl rfl rfl rfl rfl rfl rfl rfl (by decide) rfl (by first | exact fun _ => rfl | (intro h; cases h))) ?_
        refine AOps.nil ?_
        refine AGo.seq ?_
        refine AGo.region ?_
        refine af 59 tok ?_
        refine al 60 tok ?_
        refine am 61 ?_
        refine ax 62 (o_pure rfl Try.func50 (by kernel_rfl) rfl rfl rfl (within_ok _ _)) ?_
        refine aq 63 (q_not rfl rfl) ?_
        refine AOps.nil ?_
        refine AGo.split 63 rfl (fun hb10 => ?_) (fun hb10 => ?_)
        ·
         refine AGo.cond_true true rfl rfl ?_
         refine AGo.seq ?_
         refine AGo.region ?_
         refine aa 8 ?_
         refine AOps.nil ?_
         refine AGo.ret ?_
         refine ⟨[_], ⟨rfl, trivial⟩, ?_, rfl⟩
         show AV.bool _ = AV.bool _
         congr 1
         exact (fits_d (by first | (simp [setsOp, *]; done) | exact sets_pos ‹_›) (by simpa using ‹(!within t.d regs) = true›)).symm
        ·
         refine AGo.cond_false false rfl rfl ?_
         refine AGo.skip ?_
         exact ⟨t.d, Sub.mk' (by repeat (first | exact ESub.new _ | refine ESub.put ?_ (by rfl))) (by repeat (first | exact HSub.refl _ | exact HSub.none _ | exact HSub.from_new _ | exact HSub.from_from (by first | decide | omega | (dsimp only; omega)) | refine HSub.put ?_ (by rfl) | refine HSub.from_put ?_ (by first | decide | omega | (dsimp only; omega)) | refine HSub.from_rm ?_ (by decide))), ⟨by have h := ‹(!within t.d regs) = false›; simp at h; simp [h], by first | (simp [setsOp, *]; done) | simp [sets_pos ‹_›]⟩⟩
       ·
        refine af 42 tok ?_
        refine al 43 tok ?_
        refine aq 44 (q_bin rfl rfl rfl rfl) ?_
        refine aq 45 (q_pick_false false rfl rfl rfl rfl) ?_
        refine am 46 ?_
        refine AOps.split 46 rfl (fun hb11 => ?_) (fun hb11 => ?_)
        ·
         refine ak 47 ?_
         refine ak 48 ?_
         refine ak 49 ?_
         refine aq 50 (q_pick_true true rfl rfl rfl rfl) ?_
         refine am 51 ?_
         refine ak 52 ?_
         refine ak 53 ?_
         refine ak 54 ?_
         refine aq 55 (q_pick_true true rfl rfl rfl rfl) ?_
         refine AOps.nil ?_
         refine AGo.cond_true true rfl rfl ?_
         refine AGo.seq ?_
         refine AGo.region ?_
         refine af 56 tok ?_
         refine al 57 tok ?_
         refine af 58 tok ?_
         refine AOps.w rfl rfl (o_store tok rfl rfl rfl rfl rfl rfl rfl rfl rfl (by decide) rfl (by first | exact fun _ => rfl | (intro h; cases h))) ?_
         refine AOps.nil ?_
         refine AGo.seq ?_
         refine AGo.region ?_
         refine af 59 tok ?_
         refine al 60 tok ?_
         refine am 61 ?_
         refine ax 62 (o_pure rfl Try.func50 (by kernel_rfl) rfl rfl rfl (within_ok _ _)) ?_
         refine aq 63 (q_not rfl rfl) ?_
         refine AOps.nil ?_
         refine AGo.split 63 rfl (fun hb12 => ?_) (fun hb12 => ?_)
         ·
          refine AGo.cond_true true rfl rfl ?_
          refine AGo.seq ?_
          refine AGo.region ?_
          refine aa 8 ?_
          refine AOps.nil ?_
          refine AGo.ret ?_
          refine ⟨[_], ⟨rfl, trivial⟩, ?_, rfl⟩
          show AV.bool _ = AV.bool _
          congr 1
          exact (fits_d (by first | (simp [setsOp, *]; done) | exact sets_pos ‹_›) (by simpa using ‹(!within t.d regs) = true›)).symm
         ·
          refine AGo.cond_false false rfl rfl ?_
          refine AGo.skip ?_
          exact ⟨t.d, Sub.mk' (by repeat (first | exact ESub.new _ | refine ESub.put ?_ (by rfl))) (by repeat (first | exact HSub.refl _ | exact HSub.none _ | exact HSub.from_new _ | exact HSub.from_from (by first | decide | omega | (dsimp only; omega)) | refine HSub.put ?_ (by rfl) | refine HSub.from_put ?_ (by first | decide | omega | (dsimp only; omega)) | refine HSub.from_rm ?_ (by decide))), ⟨by have h := ‹(!within t.d regs) = false›; simp at h; simp [h], by first | (simp [setsOp, *]; done) | simp [sets_pos ‹_›]⟩⟩
        ·
         refine af 47 tok ?_
         refine al 48 tok ?_
         refine aq 49 (q_bin rfl rfl rfl rfl) ?_
         refine aq 50 (q_pick_false false rfl rfl rfl rfl) ?_
         refine am 51 ?_
         refine AOps.split 51 rfl (fun hb13 => ?_) (fun hb13 => ?_)
         ·
          refine ak 52 ?_
          refine ak 53 ?_
          refine ak 54 ?_
          refine aq 55 (q_pick_true true rfl rfl rfl rfl) ?_
          refine AOps.nil ?_
          refine AGo.cond_true true rfl rfl ?_
          refine AGo.seq ?_
          refine AGo.region ?_
          refine af 56 tok ?_
          refine al 57 tok ?_
          refine af 58 tok ?_
          refine AOps.w rfl rfl (o_store tok rfl rfl rfl rfl rfl rfl rfl rfl rfl (by decide) rfl (by first | exact fun _ => rfl | (intro h; cases h))) ?_
          refine AOps.nil ?_
          refine AGo.seq ?_
          refine AGo.region ?_
          refine af 59 tok ?_
          refine al 60 tok ?_
          refine am 61 ?_
          refine ax 62 (o_pure rfl Try.func50 (by kernel_rfl) rfl rfl rfl (within_ok _ _)) ?_
          refine aq 63 (q_not rfl rfl) ?_
          refine AOps.nil ?_
          refine AGo.split 63 rfl (fun hb14 => ?_) (fun hb14 => ?_)
          ·
           refine AGo.cond_true true rfl rfl ?_
           refine AGo.seq ?_
           refine AGo.region ?_
           refine aa 8 ?_
           refine AOps.nil ?_
           refine AGo.ret ?_
           refine ⟨[_], ⟨rfl, trivial⟩, ?_, rfl⟩
           show AV.bool _ = AV.bool _
           congr 1
           exact (fits_d (by first | (simp [setsOp, *]; done) | exact sets_pos ‹_›) (by simpa using ‹(!within t.d regs) = true›)).symm
          ·
           refine AGo.cond_false false rfl rfl ?_
           refine AGo.skip ?_
           exact ⟨t.d, Sub.mk' (by repeat (first | exact ESub.new _ | refine ESub.put ?_ (by rfl))) (by repeat (first | exact HSub.refl _ | exact HSub.none _ | exact HSub.from_new _ | exact HSub.from_from (by first | decide | omega | (dsimp only; omega)) | refine HSub.put ?_ (by rfl) | refine HSub.from_put ?_ (by first | decide | omega | (dsimp only; omega)) | refine HSub.from_rm ?_ (by decide))), ⟨by have h := ‹(!within t.d regs) = false›; simp at h; simp [h], by first | (simp [setsOp, *]; done) | simp [sets_pos ‹_›]⟩⟩
         ·
          refine af 52 tok ?_
          refine al 53 tok ?_
          refine aq 54 (q_bin rfl rfl rfl rfl) ?_
          refine aq 55 (q_pick_false false rfl rfl rfl rfl) ?_
          refine AOps.nil ?_
          refine AGo.split 55 rfl (fun hb15 => ?_) (fun hb15 => ?_)
          ·
           refine AGo.cond_true true rfl rfl ?_
           refine AGo.seq ?_
           refine AGo.region ?_
           refine af 56 tok ?_
           refine al 57 tok ?_
           refine af 58 tok ?_
           refine AOps.w rfl rfl (o_store tok rfl rfl rfl rfl rfl rfl rfl rfl rfl (by decide) rfl (by first | exact fun _ => rfl | (intro h; cases h))) ?_
           refine AOps.nil ?_
           refine AGo.seq ?_
           refine AGo.region ?_
           refine af 59 tok ?_
           refine al 60 tok ?_
           refine am 61 ?_
           refine ax 62 (o_pure rfl Try.func50 (by kernel_rfl) rfl rfl rfl (within_ok _ _)) ?_
           refine aq 63 (q_not rfl rfl) ?_
           refine AOps.nil ?_
           refine AGo.split 63 rfl (fun hb16 => ?_) (fun hb16 => ?_)
           ·
            refine AGo.cond_true true rfl rfl ?_
            refine AGo.seq ?_
            refine AGo.region ?_
            refine aa 8 ?_
            refine AOps.nil ?_
            refine AGo.ret ?_
            refine ⟨[_], ⟨rfl, trivial⟩, ?_, rfl⟩
            show AV.bool _ = AV.bool _
            congr 1
            exact (fits_d (by first | (simp [setsOp, *]; done) | exact sets_pos ‹_›) (by simpa using ‹(!within t.d regs) = true›)).symm
           ·
            refine AGo.cond_false false rfl rfl ?_
            refine AGo.skip ?_
            exact ⟨t.d, Sub.mk' (by repeat (first | exact ESub.new _ | refine ESub.put ?_ (by rfl))) (by repeat (first | exact HSub.refl _ | exact HSub.none _ | exact HSub.from_new _ | exact HSub.from_from (by first | decide | omega | (dsimp only; omega)) | refine HSub.put ?_ (by rfl) | refine HSub.from_put ?_ (by first | decide | omega | (dsimp only; omega)) | refine HSub.from_rm ?_ (by decide))), ⟨by have h := ‹(!within t.d regs) = false›; simp at h; simp [h], by first | (simp [setsOp, *]; done) | simp [sets_pos ‹_›]⟩⟩
          ·
           refine AGo.cond_false false rfl rfl ?_
           refine AGo.skip ?_
           exact ⟨0, Sub.mk' (by repeat (first | exact ESub.new _ | refine ESub.put ?_ (by rfl))) (by repeat (first | exact HSub.refl _ | exact HSub.none _ | exact HSub.from_new _ | exact HSub.from_from (by first | decide | omega | (dsimp only; omega)) | refine HSub.put ?_ (by rfl) | refine HSub.from_put ?_ (by first | decide | omega | (dsimp only; omega)) | refine HSub.from_rm ?_ (by decide))), ⟨by simp [setsOp, *], by simp [setsOp, *]⟩⟩
   intro d ⟨hd, hdd⟩
   refine AGo.seq ?_
   refine AGo.region ?_
   refine al 64 tok ?_
   refine ax 65 (o_pure rfl Try.func52 (by kernel_rfl) rfl rfl rfl (uses_ok _)) ?_
   refine aa 10 ?_
   refine AOps.nil ?_
   refine AGo.seq ?_
   refine AGo.seq ?_
   refine AGo.region ?_
   refine aa 11 ?_
   refine AOps.nil ?_
   refine AGo.block ?_
   refine AGo.loopD (γ := Nat) 2 (fun j => ⟨166, (eput (eput (eput (eput (eput (eput (eput eNew 1 (.int .i64 f)) 2 (.int .i64 regs)) 3 (.int .i64 words)) 4 (.ptr 0 1 0 0)) 9 (.ptr 1 1 0 0)) 10 (intsAV t.uses)) 11 (.int .i64 (j : Int))), (hput (hput (hFrom 2) 0 (.row false 8 [t.cells])) 1 (.row false 8 [[.int .i64 t.op, .int .i64 d, .int .i64 0, .int .i64 0, .int .i64 0, .int .i64 0, .int .i64 0, .int .u32 0]]))⟩) (fun j => (t.uses.take j).all (fun r => within r regs) = true) (fun j => t.uses.length - j) 0 (Sub.mk' (by repeat (first | exact ESub.new _ | refine ESub.put ?_ (by rfl))) (by repeat (first | exact HSub.refl _ | exact HSub.none _ | exact HSub.from_new _ | exact HSub.from_from (by first | decide | omega | (dsimp only; omega)) | refine HSub.put ?_ (by rfl) | refine HSub.from_put ?_ (by first | decide | omega | (dsimp only; omega)) | refine HSub.from_rm ?_ (by decide)))) rfl (fun _ => hput_free (hput_free (fun b hb => hFrom_free hb) rfl) rfl) ?_
   intro j hj
   refine AGo.seq ?_
   refine AGo.seq ?_
   refine AGo.region ?_
   refine am 66 ?_
   refine am 67 ?_
   refine aq 68 (q_len tok rfl rfl rfl rfl rfl) ?_
   refine aq 69 (q_bin rfl rfl rfl rfl) ?_
   refine AOps.nil ?_
   refine AGo.split 69 rfl (fun hb17 => ?_) (fun hb17 => ?_)
   ·
    refine AGo.cond_true true rfl rfl ?_
    have hjl : j < t.uses.length := lt_of_idx hb17
    obtain ⟨u, hu⟩ := get_of_lt hjl
    refine AGo.skip ?_
    refine AGo.seq ?_
    refine AGo.block ?_
    refine AGo.seq ?_
    refine AGo.region ?_
    refine am 72 ?_
    refine am 73 ?_
    refine aq 74 (q_index_lst tok rfl rfl rfl rfl rfl rfl (Int.natCast_nonneg _) (idx_map (by assumption)) rfl) ?_
    refine al 75 tok ?_
    refine am 76 ?_
    refine ax 77 (o_pure rfl Try.func50 (by kernel_rfl) rfl rfl rfl (within_ok _ _)) ?_
    refine aq 78 (q_not rfl rfl) ?_
    refine AOps.nil ?_
    refine AGo.split 78 rfl (fun hb18 => ?_) (fun hb18 => ?_)
    ·
     refine AGo.cond_true true rfl rfl ?_
     have hbw := hb18
     refine AGo.seq ?_
     refine AGo.region ?_
     refine aa 8 ?_
     refine AOps.nil ?_
     refine AGo.ret ?_
     refine ⟨[_], ⟨rfl, trivial⟩, ?_, rfl⟩
     show AV.bool _ = AV.bool _
     congr 1
     exact (fits_use (all_bad hu (by simpa using hbw))).symm
    ·
     refine AGo.cond_false false rfl rfl ?_
     have hbw := hb18
     refine AGo.skip ?_
     refine AGo.region ?_
     refine am 70 ?_
     refine aq 71 (q_inc rfl rfl hjl (Nat.le_trans (uses_len t) (by decide))) ?_
     refine aa 11 ?_
     refine AOps.nil ?_
     exact ⟨j+1, Drop.mk' (by repeat (first | exact EDrop.new _ _ | refine EDrop.put ?_ (by rfl) (by first | rfl | exact slA_avoid _ rfl | exact vaA_avoid _ rfl))) (by repeat (first | exact HDrop.none _ _ | exact HDrop.tail _ _ | refine HDrop.put ?_ (by rfl) rfl (by first | rfl | exact slO_avoid _ _ | exact vaO_avoid _ | exact tab_avoid _ _ rfl rfl | exact wlk_avoid _ _ _ rfl rfl rfl))), all_succ hu hj (by simpa using hbw), by omega⟩
   ·
    refine AGo.cond_false false rfl rfl ?_
    have hall := all_end hj (ge_of_idx hb17)
    refine AGo.exit ?_
    refine AGo.seq ?_
    refine AGo.join (γ := Int) (fun a => ⟨166, (eput (eput (eput (eput (eput (eput eNew 1 (.int .i64 f)) 2 (.int .i64 regs)) 3 (.int .i64 words)) 4 (.ptr 0 1 0 0)) 9 (.ptr 1 1 0 0)) 10 (intsAV t.uses)), (hput (hput (hFrom 2) 0 (.row false 8 [t.cells])) 1 (.row false 8 [[.int .i64 t.op, .int .i64 d, .int .i64 a, .int .i64 0, .int .i64 0, .int .i64 0, .int .i64 0, .int .u32 0]]))⟩) (fun a => a = bif use1 t.op || use2 t.op then t.a else 0) ?_ ?_
    ·
     refine AGo.seq ?_
     refine AGo.region ?_
     refine am 79 ?_
     refine aq 80 (q_len tok rfl rfl rfl rfl rfl) ?_
     refine aq 81 (q_bin rfl rfl rfl rfl) ?_
     refine AOps.nil ?_
     refine AGo.split 81 rfl (fun hb19 => ?_) (fun hb19 => ?_)
     ·
      refine AGo.cond_true true rfl rfl ?_
      refine AGo.region ?_
      refine af 82 tok ?_
      refine al 83 tok ?_
      refine af 84 tok ?_
      refine AOps.w rfl rfl (o_store tok rfl rfl rfl rfl rfl rfl rfl rfl rfl (by decide) rfl (by first | exact fun _ => rfl | (intro h; cases h))) ?_
      refine AOps.nil ?_
      exact ⟨t.a, Sub.mk' (by repeat (first | exact ESub.new _ | refine ESub.put ?_ (by rfl))) (by repeat (first | exact HSub.refl _ | exact HSub.none _ | exact HSub.from_new _ | exact HSub.from_from (by first | decide | omega | (dsimp only; omega)) | refine HSub.put ?_ (by rfl) | refine HSub.from_put ?_ (by first | decide | omega | (dsimp only; omega)) | refine HSub.from_rm ?_ (by decide))), by have h3 := use12 t.op; cases h1 : use1 t.op <;> cases h2 : use2 t.op <;> simp_all [Tac.uses]⟩
     ·
      refine AGo.cond_false false rfl rfl ?_
      refine AGo.skip ?_
      exact ⟨0, Sub.mk' (by repeat (first | exact ESub.new _ | refine ESub.put ?_ (by rfl))) (by repeat (first | exact HSub.refl _ | exact HSub.none _ | exact HSub.from_new _ | exact HSub.from_from (by first | decide | omega | (dsimp only; omega)) | refine HSub.put ?_ (by rfl) | refine HSub.from_put ?_ (by first | decide | omega | (dsimp only; omega)) | refine HSub.from_rm ?_ (by decide))), by have h3 := use12 t.op; cases h1 : use1 t.op <;> cases h2 : use2 t.op <;> simp_all [Tac.uses]⟩
    intro a haa
    refine AGo.seq ?_
    refine AGo.join (γ := Int) (fun b => ⟨166, (eput (eput (eput (eput (eput eNew 1 (.int .i64 f)) 2 (.int .i64 regs)) 3 (.int .i64 words)) 4 (.ptr 0 1 0 0)) 9 (.ptr 1 1 0 0)), (hput (hput (hFrom 2) 0 (.row false 8 [t.cells])) 1 (.row false 8 [[.int .i64 t.op, .int .i64 d, .int .i64 a, .int .i64 b, .int .i64 0, .int .i64 0, .int .i64 0, .int .u32 0]]))⟩) (fun b => b = bif use2 t.op then t.b else 0) ?_ ?_
    ·
     refine AGo.seq ?_
     refine AGo.region ?_
     refine am 85 ?_
     refine aq 86 (q_len tok rfl rfl rfl rfl rfl) ?_
     refine aq 87 (q_bin rfl rfl rfl rfl) ?_
     refine AOps.nil ?_
     refine AGo.split 87 rfl (fun hb20 => ?_) (fun hb20 => ?_)
     ·
      refine AGo.cond_true true rfl rfl ?_
      refine AGo.region ?_
      refine af 88 tok ?_
      refine al 89 tok ?_
      refine af 90 tok ?_
      refine AOps.w rfl rfl (o_store tok rfl rfl rfl rfl rfl rfl rfl rfl rfl (by decide) rfl (by first | exact fun _ => rfl | (intro h; cases h))) ?_
      refine AOps.nil ?_
      exact ⟨t.b, Sub.mk' (by repeat (first | exact ESub.new _ | refine ESub.put ?_ (by rfl))) (by repeat (first | exact HSub.refl _ | exact HSub.none _ | exact HSub.from_new _ | exact HSub.from_from (by first | decide | omega | (dsimp only; omega)) | refine HSub.put ?_ (by rfl) | refine HSub.from_put ?_ (by first | decide | omega | (dsimp only; omega)) | refine HSub.from_rm ?_ (by decide))), by have h3 := use12 t.op; cases h1 : use1 t.op <;> cases h2 : use2 t.op <;> simp_all [Tac.uses]⟩
     ·
      refine AGo.cond_false false rfl rfl ?_
      refine AGo.skip ?_
      exact ⟨0, Sub.mk' (by repeat (first | exact ESub.new _ | refine ESub.put ?_ (by rfl))) (by repeat (first | exact HSub.refl _ | exact HSub.none _ | exact HSub.from_new _ | exact HSub.from_from (by first | decide | omega | (dsimp only; omega)) | refine HSub.put ?_ (by rfl) | refine HSub.from_put ?_ (by first | decide | omega | (dsimp only; omega)) | refine HSub.from_rm ?_ (by decide))), by have h3 := use12 t.op; cases h1 : use1 t.op <;> cases h2 : use2 t.op <;> simp_all [Tac.uses]⟩
    intro b hbb
    refine AGo.seq ?_
    refine AGo.seq ?_
    refine AGo.region ?_
    refine af 91 tok ?_
    refine al 92 tok ?_
    refine AOps.nil ?_
    refine AGo.block ?_
    refine AGo.seq ?_
    refine AGo.region ?_
    refine aq 94 (q_bin rfl rfl rfl rfl) ?_
    refine aa 93 ?_
    refine AOps.nil ?_
    refine AGo.split 93 rfl (fun hb21 => ?_) (fun hb21 => ?_)
    ·
     refine AGo.cond_true true rfl rfl ?_
     refine AGo.region ?_
     refine af 95 tok ?_
     refine al 96 tok ?_
     refine af 97 tok ?_
     refine AOps.w rfl rfl (o_store tok rfl rfl rfl rfl rfl rfl rfl rfl rfl (by decide) rfl (by first | exact fun _ => rfl | (intro h; cases h))) ?_
     refine AOps.nil ?_
     refine AGo.seq ?_
     refine AGo.region ?_
     refine al 163 tok ?_
     refine al 164 tok ?_
     refine aq 165 (q_eqStruct tok false rfl rfl rfl (by kernel_rfl) rfl rfl rfl rfl rfl) ?_
     refine aa 8 ?_
     refine AOps.nil ?_
     refine AGo.ret ?_
     refine ⟨[_], ⟨rfl, trivial⟩, ?_, rfl⟩
     show AV.bool _ = AV.bool _
     congr 1
     have hwr : 1 ≤ t.size → t.size ≤ 4096 → IntKind.i64.wrap (words - t.size) = words - t.size := fun h1 h2 => wrap_i64 (by omega) (by omega)
     rw [fits_same hb1 hb2 hd hall (by simp_all [Tac.rest, baseOp, arrOp] <;> omega)]
     subst hdd haa hbb
     clear hd hj hall hwr hw hw2 hb1 hb2
     first | (simp_all [Tac.same, Tac.want, baseOp, arrOp, setsOp, use1, use2]; done) | simp [Tac.same, Tac.want, baseOp, arrOp, *]
    ·
     refine AGo.cond_false false rfl rfl ?_
     refine AGo.seq ?_
     refine AGo.region ?_
     refine aq 99 (q_bin rfl rfl rfl rfl) ?_
     refine aa 98 ?_
     refine AOps.nil ?_
     refine AGo.split 98 rfl (fun hb22 => ?_) (fun hb22 => ?_)
     ·
      refine AGo.cond_true true rfl rfl ?_
      refine AGo.seq ?_
      refine AGo.region ?_
      refine af 100 tok ?_
      refine al 101 tok ?_
      refine af 102 tok ?_
      refine AOps.w rfl rfl (o_store tok rfl rfl rfl rfl rfl rfl rfl rfl rfl (by decide) rfl (by first | exact fun _ => rfl | (intro h; cases h))) ?_
      refine AOps.nil ?_
      refine AGo.seq ?_
      refine AGo.region ?_
      refine af 103 tok ?_
      refine al 104 tok ?_
      refine aq 105 (q_bin rfl rfl rfl rfl) ?_
      refine am 106 ?_
      refine AOps.split 106 rfl (fun hb23 => ?_) (fun hb23 => ?_)
      ·
       refine ak 107 ?_
       refine ak 108 ?_
       refine ak 109 ?_
       refine aq 110 (q_pick_true true rfl rfl rfl rfl) ?_
       refine AOps.nil ?_
       refine AGo.cond_true true rfl rfl ?_
       refine AGo.seq ?_
       refine AGo.region ?_
       refine aa 8 ?_
       refine AOps.nil ?_
       refine AGo.ret ?_
       refine ⟨[_], ⟨rfl, trivial⟩, ?_, rfl⟩
       show AV.bool _ = AV.bool _
       congr 1
       exact (fits_rest (by simp_all [Tac.rest, baseOp, arrOp] <;> omega)).symm
      ·
       refine af 107 tok ?_
       refine al 108 tok ?_
       refine aq 109 (q_bin rfl rfl rfl rfl) ?_
       refine aq 110 (q_pick_false false rfl rfl rfl rfl) ?_
       refine AOps.nil ?_
       refine AGo.split 110 rfl (fun hb24 => ?_) (fun hb24 => ?_)
       ·
        refine AGo.cond_true true rfl rfl ?_
        refine AGo.seq ?_
        refine AGo.region ?_
        refine aa 8 ?_
        refine AOps.nil ?_
        refine AGo.ret ?_
        refine ⟨[_], ⟨rfl, trivial⟩, ?_, rfl⟩
        show AV.bool _ = AV.bool _
        congr 1
        exact (fits_rest (by simp_all [Tac.rest, baseOp, arrOp] <;> omega)).symm
       ·
        refine AGo.cond_false false rfl rfl ?_
        refine AGo.skip ?_
        refine AGo.seq ?_
        refine AGo.region ?_
        refine al 163 tok ?_
        refine al 164 tok ?_
        refine aq 165 (q_eqStruct tok false rfl rfl rfl (by kernel_rfl) rfl rfl rfl rfl rfl) ?_
        refine aa 8 ?_
        refine AOps.nil ?_
        refine AGo.ret ?_
        refine ⟨[_], ⟨rfl, trivial⟩, ?_, rfl⟩
        show AV.bool _ = AV.bool _
        congr 1
        have hwr : 1 ≤ t.size → t.size ≤ 4096 → IntKind.i64.wrap (words - t.size) = words - t.size := fun h1 h2 => wrap_i64 (by omega) (by omega)
        rw [fits_same hb1 hb2 hd hall (by simp_all [Tac.rest, baseOp, arrOp] <;> omega)]
        subst hdd haa hbb
        clear hd hj hall hwr hw hw2 hb1 hb2
        first | (simp_all [Tac.same, Tac.want, baseOp, arrOp, setsOp, use1, use2]; done) | simp [Tac.same, Tac.want, baseOp, arrOp, *]
     ·
      refine AGo.cond_false false rfl rfl ?_
      refine AGo.seq ?_
      refine AGo.seq ?_
      refine AGo.region ?_
      refine aq 112 (q_bin rfl rfl rfl rfl) ?_
      refine aa 111 ?_
      refine AOps.nil ?_
      refine AGo.split 111 rfl (fun hb25 => ?_) (fun hb25 => ?_)
      ·
       refine AGo.cond_true true rfl rfl ?_
       refine AGo.skip ?_
       refine AGo.cond_true true rfl rfl ?_
       refine AGo.seq ?_
       refine AGo.region ?_
       refine af 114 tok ?_
       refine al 115 tok ?_
       refine af 116 tok ?_
       refine AOps.w rfl rfl (o_store tok rfl rfl rfl rfl rfl rfl rfl rfl rfl (by decide) rfl (by first | exact fun _ => rfl | (intro h; cases h))) ?_
       refine AOps.nil ?_
       refine AGo.seq ?_
       refine AGo.region ?_
       refine af 117 tok ?_
       refine al 118 tok ?_
       refine am 119 ?_
       refine ax 120 (o_pure rfl Try.func50 (by kernel_rfl) rfl rfl rfl (within_ok _ _)) ?_
       refine aq 121 (q_not rfl rfl) ?_
       refine AOps.nil ?_
       refine AGo.split 121 rfl (fun hb26 => ?_) (fun hb26 => ?_)
       ·
        refine AGo.cond_true true rfl rfl ?_
        refine AGo.seq ?_
        refine AGo.region ?_
        refine aa 8 ?_
        refine AOps.nil ?_
        refine AGo.ret ?_
        refine ⟨[_], ⟨rfl, trivial⟩, ?_, rfl⟩
        show AV.bool _ = AV.bool _
        congr 1
        exact (fits_rest (by simp_all [Tac.rest, baseOp, arrOp] <;> omega)).symm
       ·
        refine AGo.cond_false false rfl rfl ?_
        refine AGo.skip ?_
        refine AGo.seq ?_
        refine AGo.region ?_
        refine al 163 tok ?_
        refine al 164 tok ?_
        refine aq 165 (q_eqStruct tok false rfl rfl rfl (by kernel_rfl) rfl rfl rfl rfl rfl) ?_
        refine aa 8 ?_
        refine AOps.nil ?_
        refine AGo.ret ?_
        refine ⟨[_], ⟨rfl, trivial⟩, ?_, rfl⟩
        show AV.bool _ = AV.bool _
        congr 1
        have hwr : 1 ≤ t.size → t.size ≤ 4096 → IntKind.i64.wrap (words - t.size) = words - t.size := fun h1 h2 => wrap_i64 (by omega) (by omega)
        rw [fits_same hb1 hb2 hd hall (by simp_all [Tac.rest, baseOp, arrOp] <;> omega)]
        subst hdd haa hbb
        clear hd hj hall hwr hw hw2 hb1 hb2
        first | (simp_all [Tac.same, Tac.want, baseOp, arrOp, setsOp, use1, use2]; done) | simp [Tac.same, Tac.want, baseOp, arrOp, *]
      ·
       refine AGo.cond_false false rfl rfl ?_
       refine AGo.region ?_
       refine aq 113 (q_bin rfl rfl rfl rfl) ?_
       refine aa 111 ?_
       refine AOps.nil ?_
       refine AGo.split 111 rfl (fun hb27 => ?_) (fun hb27 => ?_)
       ·
        refine AGo.cond_true true rfl rfl ?_
        refine AGo.seq ?_
        refine AGo.region ?_
        refine af 114 tok ?_
        refine al 115 tok ?_
        refine af 116 tok ?_
        refine AOps.w rfl rfl (o_store tok rfl rfl rfl rfl rfl rfl rfl rfl rfl (by decide) rfl (by first | exact fun _ => rfl | (intro h; cases h))) ?_
        refine AOps.nil ?_
        refine AGo.seq ?_
        refine AGo.region ?_
        refine af 117 tok ?_
        refine al 118 tok ?_
        refine am 119 ?_
        refine ax 120 (o_pure rfl Try.func50 (by kernel_rfl) rfl rfl rfl (within_ok _ _)) ?_
        refine aq 121 (q_not rfl rfl) ?_
        refine AOps.nil ?_
        refine AGo.split 121 rfl (fun hb28 => ?_) (fun hb28 => ?_)
        ·
         refine AGo.cond_true true rfl rfl ?_
         refine AGo.seq ?_
         refine AGo.region ?_
         refine aa 8 ?_
         refine AOps.nil ?_
         refine AGo.ret ?_
         refine ⟨[_], ⟨rfl, trivial⟩, ?_, rfl⟩
         show AV.bool _ = AV.bool _
         congr 1
         exact (fits_rest (by simp_all [Tac.rest, baseOp, arrOp] <;> omega)).symm
        ·
         refine AGo.cond_false false rfl rfl ?_
         refine AGo.skip ?_
         refine AGo.seq ?_
         refine AGo.region ?_
         refine al 163 tok ?_
         refine al 164 tok ?_
         refine aq 165 (q_eqStruct tok false rfl rfl rfl (by kernel_rfl) rfl rfl rfl rfl rfl) ?_
         refine aa 8 ?_
         refine AOps.nil ?_
         refine AGo.ret ?_
         refine ⟨[_], ⟨rfl, trivial⟩, ?_, rfl⟩
         show AV.bool _ = AV.bool _
         congr 1
         have hwr : 1 ≤ t.size → t.size ≤ 4096 → IntKind.i64.wrap (words - t.size) = words - t.size := fun h1 h2 => wrap_i64 (by omega) (by omega)
         rw [fits_same hb1 hb2 hd hall (by simp_all [Tac.rest, baseOp, arrOp] <;> omega)]
         subst hdd haa hbb
         clear hd hj hall hwr hw hw2 hb1 hb2
         first | (simp_all [Tac.same, Tac.want, baseOp, arrOp, setsOp, use1, use2]; done) | simp [Tac.same, Tac.want, baseOp, arrOp, *]
       ·
        refine AGo.cond_false false rfl rfl ?_
        refine AGo.seq ?_
        refine AGo.seq ?_
        refine AGo.region ?_
        refine aq 123 (q_bin rfl rfl rfl rfl) ?_
        refine aa 122 ?_
        refine AOps.nil ?_
        refine AGo.split 122 rfl (fun hb29 => ?_) (fun hb29 => ?_)
        ·
         refine AGo.cond_true true rfl rfl ?_
         refine AGo.skip ?_
         refine AGo.cond_true true rfl rfl ?_
         refine AGo.seq ?_
         refine AGo.draw mix ?_
         refine df 125 tok ?_
         refine dl 126 tok ?_
         refine df 127 tok ?_
         refine dl 128 tok ?_
         refine df 129 tok ?_
         refine DOps.w rfl rfl (o_store tok rfl rfl rfl rfl rfl rfl rfl rfl rfl (by decide) rfl (by first | exact fun _ => rfl | (intro h; cases h))) ?_
         refine df 130 tok ?_
         refine DOps.w rfl rfl (o_store tok rfl rfl rfl rfl rfl rfl rfl rfl rfl (by decide) rfl (by first | exact fun _ => rfl | (intro h; cases h))) ?_
         refine DOps.nil (by kernel_rfl) ?_
         refine AGo.seq ?_
         refine AGo.region ?_
         refine af 131 tok ?_
         refine al 132 tok ?_
         refine aq 133 (q_bin rfl rfl rfl rfl) ?_
         refine am 134 ?_
         refine AOps.split 134 rfl (fun hb30 => ?_) (fun hb30 => ?_)
         ·
          refine ak 135 ?_
          refine ak 136 ?_
          refine ak 137 ?_
          refine aq 138 (q_pick_true true rfl rfl rfl rfl) ?_
          refine am 139 ?_
          refine ak 140 ?_
          refine ak 141 ?_
          refine ak 142 ?_
          refine aq 143 (q_pick_true true rfl rfl rfl rfl) ?_
          refine am 144 ?_
          refine ak 145 ?_
          refine ak 146 ?_
          refine ak 147 ?_
          refine ak 148 ?_
          refine ak 149 ?_
          refine ak 150 ?_
          refine ak 151 ?_
          refine aq 152 (q_pick_true true rfl rfl rfl rfl) ?_
          refine AOps.nil ?_
          refine AGo.cond_true true rfl rfl ?_
          refine AGo.seq ?_
          refine AGo.region ?_
          refine aa 8 ?_
          refine AOps.nil ?_
          refine AGo.ret ?_
          refine ⟨[_], ⟨rfl, trivial⟩, ?_, rfl⟩
          show AV.bool _ = AV.bool _
          congr 1
          have hwr : 1 ≤ t.size → t.size ≤ 4096 → IntKind.i64.wrap (words - t.size) = words - t.size := fun h1 h2 => wrap_i64 (by omega) (by omega)
          exact (fits_rest (by simp_all [Tac.rest, baseOp, arrOp] <;> omega)).symm
         ·
          refine af 135 tok ?_
          refine al 136 tok ?_
          refine aq 137 (q_bin rfl rfl rfl rfl) ?_
          refine aq 138 (q_pick_false false rfl rfl rfl rfl) ?_
          refine am 139 ?_
          refine AOps.split 139 rfl (fun hb31 => ?_) (fun hb31 => ?_)
          ·
           refine ak 140 ?_
           refine ak 141 ?_
           refine ak 142 ?_
           refine aq 143 (q_pick_true true rfl rfl rfl rfl) ?_
           refine am 144 ?_
           refine ak 145 ?_
           refine ak 146 ?_
           refine ak 147 ?_
           refine ak 148 ?_
           refine ak 149 ?_
           refine ak 150 ?_
           refine ak 151 ?_
           refine aq 152 (q_pick_true true rfl rfl rfl rfl) ?_
           refine AOps.nil ?_
           refine AGo.cond_true true rfl rfl ?_
           refine AGo.seq ?_
           refine AGo.region ?_
           refine aa 8 ?_
           refine AOps.nil ?_
           refine AGo.ret ?_
           refine ⟨[_], ⟨rfl, trivial⟩, ?_, rfl⟩
           show AV.bool _ = AV.bool _
           congr 1
           have hwr : 1 ≤ t.size → t.size ≤ 4096 → IntKind.i64.wrap (words - t.size) = words - t.size := fun h1 h2 => wrap_i64 (by omega) (by omega)
           exact (fits_rest (by simp_all [Tac.rest, baseOp, arrOp] <;> omega)).symm
          ·
           refine af 140 tok ?_
           refine al 141 tok ?_
           refine aq 142 (q_bin rfl rfl rfl rfl) ?_
           refine aq 143 (q_pick_false false rfl rfl rfl rfl) ?_
           refine am 144 ?_
           refine AOps.split 144 rfl (fun hb32 => ?_) (fun hb32 => ?_)
           ·
            refine ak 145 ?_
            refine ak 146 ?_
            refine ak 147 ?_
            refine ak 148 ?_
            refine ak 149 ?_
            refine ak 150 ?_
            refine ak 151 ?_
            refine aq 152 (q_pick_true true rfl rfl rfl rfl) ?_
            refine AOps.nil ?_
            refine AGo.cond_true true rfl rfl ?_
            refine AGo.seq ?_
            refine AGo.region ?_
            refine aa 8 ?_
            refine AOps.nil ?_
            refine AGo.ret ?_
            refine ⟨[_], ⟨rfl, trivial⟩, ?_, rfl⟩
            show AV.bool _ = AV.bool _
            congr 1
            have hwr : 1 ≤ t.size → t.size ≤ 4096 → IntKind.i64.wrap (words - t.size) = words - t.size := fun h1 h2 => wrap_i64 (by omega) (by omega)
            exact (fits_rest (by simp_all [Tac.rest, baseOp, arrOp] <;> omega)).symm
           ·
            refine af 145 tok ?_
            refine al 146 tok ?_
            refine am 147 ?_
            refine af 148 tok ?_
            refine al 149 tok ?_
            refine aq 150 (q_bin rfl rfl rfl rfl) ?_
            refine aq 151 (q_bin rfl rfl rfl rfl) ?_
            refine aq 152 (q_pick_false false rfl rfl rfl rfl) ?_
            refine AOps.nil ?_
            refine AGo.split 152 rfl (fun hb33 => ?_) (fun hb33 => ?_)
            ·
             refine AGo.cond_true true rfl rfl ?_
             refine AGo.seq ?_
             refine AGo.region ?_
             refine aa 8 ?_
             refine AOps.nil ?_
             refine AGo.ret ?_
             refine ⟨[_], ⟨rfl, trivial⟩, ?_, rfl⟩
             show AV.bool _ = AV.bool _
             congr 1
             have hwr : 1 ≤ t.size → t.size ≤ 4096 → IntKind.i64.wrap (words - t.size) = words - t.size := fun h1 h2 => wrap_i64 (by omega) (by omega)
             exact (fits_rest (by simp_all [Tac.rest, baseOp, arrOp] <;> omega)).symm
            ·
             refine AGo.cond_false false rfl rfl ?_
             refine AGo.skip ?_
             refine AGo.seq ?_
             refine AGo.region ?_
             refine al 163 tok ?_
             refine al 164 tok ?_
             refine aq 165 (q_eqStruct tok false rfl rfl rfl (by kernel_rfl) rfl rfl rfl rfl rfl) ?_
             refine aa 8 ?_
             refine AOps.nil ?_
             refine AGo.ret ?_
             refine ⟨[_], ⟨rfl, trivial⟩, ?_, rfl⟩
             show AV.bool _ = AV.bool _
             congr 1
             have hwr : 1 ≤ t.size → t.size ≤ 4096 → IntKind.i64.wrap (words - t.size) = words - t.size := fun h1 h2 => wrap_i64 (by omega) (by omega)
             rw [fits_same hb1 hb2 hd hall (by simp_all [Tac.rest, baseOp, arrOp] <;> omega)]
             subst hdd haa hbb
             clear hd hj hall hwr hw hw2 hb1 hb2
             first | (simp_all [Tac.same, Tac.want, baseOp, arrOp, setsOp, use1, use2]; done) | simp [Tac.same, Tac.want, baseOp, arrOp, *]
        ·
         refine AGo.cond_false false rfl rfl ?_
         refine AGo.region ?_
         refine aq 124 (q_bin rfl rfl rfl rfl) ?_
         refine aa 122 ?_
         refine AOps.nil ?_
         refine AGo.split 122 rfl (fun hb34 => ?_) (fun hb34 => ?_)
         ·
          refine AGo.cond_true true rfl rfl ?_
          refine AGo.seq ?_
          refine AGo.draw mix ?_
          refine df 125 tok ?_
          refine dl 126 tok ?_
          refine df 127 tok ?_
          refine dl 128 tok ?_
          refine df 129 tok ?_
          refine DOps.w rfl rfl (o_store tok rfl rfl rfl rfl rfl rfl rfl rfl rfl (by decide) rfl (by first | exact fun _ => rfl | (intro h; cases h))) ?_
          refine df 130 tok ?_
          refine DOps.w rfl rfl (o_store tok rfl rfl rfl rfl rfl rfl rfl rfl rfl (by decide) rfl (by first | exact fun _ => rfl | (intro h; cases h))) ?_
          refine DOps.nil (by kernel_rfl) ?_
          refine AGo.seq ?_
          refine AGo.region ?_
          refine af 131 tok ?_
          refine al 132 tok ?_
          refine aq 133 (q_bin rfl rfl rfl rfl) ?_
          refine am 134 ?_
          refine AOps.split 134 rfl (fun hb35 => ?_) (fun hb35 => ?_)
          ·
           refine ak 135 ?_
           refine ak 136 ?_
           refine ak 137 ?_
           refine aq 138 (q_pick_true true rfl rfl rfl rfl) ?_
           refine am 139 ?_
           refine ak 140 ?_
           refine ak 141 ?_
           refine ak 142 ?_
           refine aq 143 (q_pick_true true rfl rfl rfl rfl) ?_
           refine am 144 ?_
           refine ak 145 ?_
           refine ak 146 ?_
           refine ak 147 ?_
           refine ak 148 ?_
           refine ak 149 ?_
           refine ak 150 ?_
           refine ak 151 ?_
           refine aq 152 (q_pick_true true rfl rfl rfl rfl) ?_
           refine AOps.nil ?_
           refine AGo.cond_true true rfl rfl ?_
           refine AGo.seq ?_
           refine AGo.region ?_
           refine aa 8 ?_
           refine AOps.nil ?_
           refine AGo.ret ?_
           refine ⟨[_], ⟨rfl, trivial⟩, ?_, rfl⟩
           show AV.bool _ = AV.bool _
           congr 1
           have hwr : 1 ≤ t.size → t.size ≤ 4096 → IntKind.i64.wrap (words - t.size) = words - t.size := fun h1 h2 => wrap_i64 (by omega) (by omega)
           exact (fits_rest (by simp_all [Tac.rest, baseOp, arrOp] <;> omega)).symm
          ·
           refine af 135 tok ?_
           refine al 136 tok ?_
           refine aq 137 (q_bin rfl rfl rfl rfl) ?_
           refine aq 138 (q_pick_false false rfl rfl rfl rfl) ?_
           refine am 139 ?_
           refine AOps.split 139 rfl (fun hb36 => ?_) (fun hb36 => ?_)
           ·
            refine ak 140 ?_
            refine ak 141 ?_
            refine ak 142 ?_
            refine aq 143 (q_pick_true true rfl rfl rfl rfl) ?_
            refine am 144 ?_
            refine ak 145 ?_
            refine ak 146 ?_
            refine ak 147 ?_
            refine ak 148 ?_
            refine ak 149 ?_
            refine ak 150 ?_
            refine ak 151 ?_
            refine aq 152 (q_pick_true true rfl rfl rfl rfl) ?_
            refine AOps.nil ?_
            refine AGo.cond_true true rfl rfl ?_
            refine AGo.seq ?_
            refine AGo.region ?_
            refine aa 8 ?_
            refine AOps.nil ?_
            refine AGo.ret ?_
            refine ⟨[_], ⟨rfl, trivial⟩, ?_, rfl⟩
            show AV.bool _ = AV.bool _
            congr 1
            have hwr : 1 ≤ t.size → t.size ≤ 4096 → IntKind.i64.wrap (words - t.size) = words - t.size := fun h1 h2 => wrap_i64 (by omega) (by omega)
            exact (fits_rest (by simp_all [Tac.rest, baseOp, arrOp] <;> omega)).symm
           ·
            refine af 140 tok ?_
            refine al 141 tok ?_
            refine aq 142 (q_bin rfl rfl rfl rfl) ?_
            refine aq 143 (q_pick_false false rfl rfl rfl rfl) ?_
            refine am 144 ?_
            refine AOps.split 144 rfl (fun hb37 => ?_) (fun hb37 => ?_)
            ·
             refine ak 145 ?_
             refine ak 146 ?_
             refine ak 147 ?_
             refine ak 148 ?_
             refine ak 149 ?_
             refine ak 150 ?_
             refine ak 151 ?_
             refine aq 152 (q_pick_true true rfl rfl rfl rfl) ?_
             refine AOps.nil ?_
             refine AGo.cond_true true rfl rfl ?_
             refine AGo.seq ?_
             refine AGo.region ?_
             refine aa 8 ?_
             refine AOps.nil ?_
             refine AGo.ret ?_
             refine ⟨[_], ⟨rfl, trivial⟩, ?_, rfl⟩
             show AV.bool _ = AV.bool _
             congr 1
             have hwr : 1 ≤ t.size → t.size ≤ 4096 → IntKind.i64.wrap (words - t.size) = words - t.size := fun h1 h2 => wrap_i64 (by omega) (by omega)
             exact (fits_rest (by simp_all [Tac.rest, baseOp, arrOp] <;> omega)).symm
            ·
             refine af 145 tok ?_
             refine al 146 tok ?_
             refine am 147 ?_
             refine af 148 tok ?_
             refine al 149 tok ?_
             refine aq 150 (q_bin rfl rfl rfl rfl) ?_
             refine aq 151 (q_bin rfl rfl rfl rfl) ?_
             refine aq 152 (q_pick_false false rfl rfl rfl rfl) ?_
             refine AOps.nil ?_
             refine AGo.split 152 rfl (fun hb38 => ?_) (fun hb38 => ?_)
             ·
              refine AGo.cond_true true rfl rfl ?_
              refine AGo.seq ?_
              refine AGo.region ?_
              refine aa 8 ?_
              refine AOps.nil ?_
              refine AGo.ret ?_
              refine ⟨[_], ⟨rfl, trivial⟩, ?_, rfl⟩
              show AV.bool _ = AV.bool _
              congr 1
              have hwr : 1 ≤ t.size → t.size ≤ 4096 → IntKind.i64.wrap (words - t.size) = words - t.size := fun h1 h2 => wrap_i64 (by omega) (by omega)
              exact (fits_rest (by simp_all [Tac.rest, baseOp, arrOp] <;> omega)).symm
             ·
              refine AGo.cond_false false rfl rfl ?_
              refine AGo.skip ?_
              refine AGo.seq ?_
              refine AGo.region ?_
              refine al 163 tok ?_
              refine al 164 tok ?_
              refine aq 165 (q_eqStruct tok false rfl rfl rfl (by kernel_rfl) rfl rfl rfl rfl rfl) ?_
              refine aa 8 ?_
              refine AOps.nil ?_
              refine AGo.ret ?_
              refine ⟨[_], ⟨rfl, trivial⟩, ?_, rfl⟩
              show AV.bool _ = AV.bool _
              congr 1
              have hwr : 1 ≤ t.size → t.size ≤ 4096 → IntKind.i64.wrap (words - t.size) = words - t.size := fun h1 h2 => wrap_i64 (by omega) (by omega)
              rw [fits_same hb1 hb2 hd hall (by simp_all [Tac.rest, baseOp, arrOp] <;> omega)]
              subst hdd haa hbb
              clear hd hj hall hwr hw hw2 hb1 hb2
              first | (simp_all [Tac.same, Tac.want, baseOp, arrOp, setsOp, use1, use2]; done) | simp [Tac.same, Tac.want, baseOp, arrOp, *]
         ·
          refine AGo.cond_false false rfl rfl ?_
          refine AGo.seq ?_
          refine AGo.region ?_
          refine aq 154 (q_bin rfl rfl rfl rfl) ?_
          refine aa 153 ?_
          refine AOps.nil ?_
          refine AGo.split 153 rfl (fun hb39 => ?_) (fun hb39 => ?_)
          ·
           refine AGo.cond_true true rfl rfl ?_
           refine AGo.seq ?_
           refine AGo.region ?_
           refine af 155 tok ?_
           refine al 156 tok ?_
           refine af 157 tok ?_
           refine AOps.w rfl rfl (o_store tok rfl rfl rfl rfl rfl rfl rfl rfl rfl (by decide) rfl (by first | exact fun _ => rfl | (intro h; cases h))) ?_
           refine AOps.nil ?_
           refine AGo.seq ?_
           refine AGo.region ?_
           refine af 158 tok ?_
           refine al 159 tok ?_
           refine am 160 ?_
           refine ax 161 (o_pure rfl Try.func50 (by kernel_rfl) rfl rfl rfl (within_ok _ _)) ?_
           refine aq 162 (q_not rfl rfl) ?_
           refine AOps.nil ?_
           refine AGo.split 162 rfl (fun hb40 => ?_) (fun hb40 => ?_)
           ·
            refine AGo.cond_true true rfl rfl ?_
            refine AGo.seq ?_
            refine AGo.region ?_
            refine aa 8 ?_
            refine AOps.nil ?_
            refine AGo.ret ?_
            refine ⟨[_], ⟨rfl, trivial⟩, ?_, rfl⟩
            show AV.bool _ = AV.bool _
            congr 1
            exact (fits_rest (by simp_all [Tac.rest, baseOp, arrOp] <;> omega)).symm
           ·
            refine AGo.cond_false false rfl rfl ?_
            refine AGo.skip ?_
            refine AGo.seq ?_
            refine AGo.region ?_
            refine al 163 tok ?_
            refine al 164 tok ?_
            refine aq 165 (q_eqStruct tok false rfl rfl rfl (by kernel_rfl) rfl rfl rfl rfl rfl) ?_
            refine aa 8 ?_
            refine AOps.nil ?_
            refine AGo.ret ?_
            refine ⟨[_], ⟨rfl, trivial⟩, ?_, rfl⟩
            show AV.bool _ = AV.bool _
            congr 1
            have hwr : 1 ≤ t.size → t.size ≤ 4096 → IntKind.i64.wrap (words - t.size) = words - t.size := fun h1 h2 => wrap_i64 (by omega) (by omega)
            rw [fits_same hb1 hb2 hd hall (by simp_all [Tac.rest, baseOp, arrOp] <;> omega)]
            subst hdd haa hbb
            clear hd hj hall hwr hw hw2 hb1 hb2
            first | (simp_all [Tac.same, Tac.want, baseOp, arrOp, setsOp, use1, use2]; done) | simp [Tac.same, Tac.want, baseOp, arrOp, *]
          ·
           refine AGo.cond_false false rfl rfl ?_
           refine AGo.skip ?_
           refine AGo.seq ?_
           refine AGo.region ?_
           refine al 163 tok ?_
           refine al 164 tok ?_
           refine aq 165 (q_eqStruct tok false rfl rfl rfl (by kernel_rfl) rfl rfl rfl rfl rfl) ?_
           refine aa 8 ?_
           refine AOps.nil ?_
           refine AGo.ret ?_
           refine ⟨[_], ⟨rfl, trivial⟩, ?_, rfl⟩
           show AV.bool _ = AV.bool _
           congr 1
           have hwr : 1 ≤ t.size → t.size ≤ 4096 → IntKind.i64.wrap (words - t.size) = words - t.size := fun h1 h2 => wrap_i64 (by omega) (by omega)
           rw [fits_same hb1 hb2 hd hall (by simp_all [Tac.rest, baseOp, arrOp] <;> omega)]
           subst hdd haa hbb
           clear hd hj hall hwr hw hw2 hb1 hb2
           first | (simp_all [Tac.same, Tac.want, baseOp, arrOp, setsOp, use1, use2]; done) | simp [Tac.same, Tac.want, baseOp, arrOp, *]

set_option maxRecDepth 100000 in
theorem one_ok (f : BFunc) (number words : Int) (hw : 0 ≤ words) (hw2 : words ≤ 1048576) : APure Try.prog 32 [.agg f.cells, .int .i64 number, .int .i64 words] (fun r => r = .bool (f.one number words)) := by
 refine APure.of_body (n := 68) tok Try.func32 rfl rfl ?_
 refine AGo.seq ?_
 refine AGo.slot 0 rfl (fun H ι v => rel_bfunc) (fun hfit => ?_)
 refine AGo.region ?_
 refine ax 3 (o_box (sz := 2) 0 rfl rfl rfl rfl (Nat.zero_lt_succ _) rfl) ?_
 refine aa 6 ?_
 refine AOps.nil ?_
 refine AGo.seq ?_
 refine AGo.seq ?_
 refine AGo.region ?_
 refine af 9 tok ?_
 refine al 10 tok ?_
 refine aq 11 (q_bin rfl rfl rfl rfl) ?_
 refine am 12 ?_
 refine AOps.split 12 rfl (fun hb1 => ?_) (fun hb1 => ?_)
 ·
  refine ak 13 ?_
  refine ak 14 ?_
  refine ak 15 ?_
  refine aq 16 (q_pick_true true rfl rfl rfl rfl) ?_
  refine am 17 ?_
  refine ak 18 ?_
  refine ak 19 ?_
  refine ak 20 ?_
  refine ak 21 ?_
  refine aq 22 (q_pick_true true rfl rfl rfl rfl) ?_
  refine AOps.nil ?_
  refine AGo.cond_true true rfl rfl ?_
  refine AGo.seq ?_
  refine AGo.region ?_
  refine aa 6 ?_
  refine AOps.nil ?_
  refine AGo.ret ?_
  refine ⟨[_], ⟨rfl, trivial⟩, ?_, rfl⟩
  show AV.bool _ = AV.bool _
  congr 1
  exact (one_bad (by simp_all <;> omega)).symm
 ·
  refine af 13 tok ?_
  refine al 14 tok ?_
  refine aq 15 (q_bin rfl rfl rfl rfl) ?_
  refine aq 16 (q_pick_false false rfl rfl rfl rfl) ?_
  refine am 17 ?_
  refine AOps.split 17 rfl (fun hb2 => ?_) (fun hb2 => ?_)
  ·
   refine ak 18 ?_
   refine ak 19 ?_
   refine ak 20 ?_
   refine ak 21 ?_
   refine aq 22 (q_pick_true true rfl rfl rfl rfl) ?_
   refine AOps.nil ?_
   refine AGo.cond_true true rfl rfl ?_
   refine AGo.seq ?_
   refine AGo.region ?_
   refine aa 6 ?_
   refine AOps.nil ?_
   refine AGo.ret ?_
   refine ⟨[_], ⟨rfl, trivial⟩, ?_, rfl⟩
   show AV.bool _ = AV.bool _
   congr 1
   exact (one_bad (by simp_all <;> omega)).symm
  ·
   refine af 18 tok ?_
   refine al 19 tok ?_
   refine aq 20 (q_len tok rfl rfl rfl rfl rfl) ?_
   refine aq 21 (q_bin rfl rfl rfl rfl) ?_
   refine aq 22 (q_pick_false false rfl rfl rfl rfl) ?_
   refine AOps.nil ?_
   refine AGo.split 22 rfl (fun hb3 => ?_) (fun hb3 => ?_)
   ·
    refine AGo.cond_true true rfl rfl ?_
    refine AGo.seq ?_
    refine AGo.region ?_
    refine aa 6 ?_
    refine AOps.nil ?_
    refine AGo.ret ?_
    refine ⟨[_], ⟨rfl, trivial⟩, ?_, rfl⟩
    show AV.bool _ = AV.bool _
    congr 1
    exact (one_bad (by simp_all <;> omega)).symm
   ·
    refine AGo.cond_false false rfl rfl ?_
    have h0 : 0 ≤ f.regs ∧ f.regs ≤ 4000 ∧ f.blocks.length ≠ 0 := by simp_all <;> omega
    refine AGo.skip ?_
    refine AGo.seq ?_
    refine AGo.seq ?_
    refine AGo.region ?_
    refine aa 7 ?_
    refine AOps.nil ?_
    refine AGo.block ?_
    refine AGo.loopD (γ := Nat) 1 (fun k => ⟨68, (eput (eput (eput (eput eNew 1 (.int .i64 number)) 2 (.int .i64 words)) 3 (.ptr 0 1 0 0)) 7 (.int .i64 (k : Int))), (hput (hFrom 1) 0 (.row false 2 [f.cells]))⟩) (fun k => (f.blocks.take k).all (fun x => x.ok f.blocks.length f.regs number words) = true) (fun k => f.blocks.length - k) 0 (Sub.mk' (by repeat (first | exact ESub.new _ | refine ESub.put ?_ (by rfl))) (by repeat (first | exact HSub.refl _ | exact HSub.none _ | exact HSub.from_new _ | exact HSub.from_from (by first | decide | omega | (dsimp only; omega)) | refine HSub.put ?_ (by rfl) | refine HSub.from_put ?_ (by first | decide | omega | (dsimp only; omega)) | refine HSub.from_rm ?_ (by decide)))) rfl (fun _ => hput_free (fun b hb => hFrom_free hb) rfl) ?_
    intro k hk
    refine AGo.seq ?_
    refine AGo.seq ?_
    refine AGo.region ?_
    refine am 23 ?_
    refine af 24 tok ?_
    refine al 25 tok ?_
    refine aq 26 (q_len tok rfl rfl rfl rfl rfl) ?_
    refine aq 27 (q_bin rfl rfl rfl rfl) ?_
    refine AOps.nil ?_
    refine AGo.split 27 rfl (fun hb4 => ?_) (fun hb4 => ?_)
    ·
     refine AGo.cond_true true rfl rfl ?_
     have hkl : k < f.blocks.length := lt_of_idx hb4
     obtain ⟨x, hx⟩ := get_of_lt hkl
     refine AGo.skip ?_
     refine AGo.seq ?_
     refine AGo.block ?_
     refine AGo.seq ?_
     refine AGo.seq ?_
     refine AGo.draw mix ?_
     refine df 30 tok ?_
     refine dl 31 tok ?_
     refine dm 32 ?_
     refine dq 33 (q_index_lst tok rfl rfl rfl rfl rfl rfl (Int.natCast_nonneg _) (idx_map (by assumption)) rfl) ?_
     refine dl 34 tok ?_
     refine df 35 tok ?_
     refine dl 36 tok ?_
     refine dq 37 (q_len tok rfl rfl rfl rfl rfl) ?_
     refine df 38 tok ?_
     refine dl 39 tok ?_
     refine dx 40 (o_pure rfl Try.func40 (by kernel_rfl) rfl rfl rfl (ends_ok x _ _)) ?_
     refine dq 41 (q_not rfl rfl) ?_
     refine DOps.nil (by kernel_rfl) ?_
     refine AGo.split 41 rfl (fun hb5 => ?_) (fun hb5 => ?_)
     ·
      refine AGo.cond_true true rfl rfl ?_
      have hends : x.ends f.blocks.length f.regs = false := by simpa using hb5
      refine AGo.seq ?_
      refine AGo.region ?_
      refine aa 6 ?_
      refine AOps.nil ?_
      refine AGo.ret ?_
      refine ⟨[_], ⟨rfl, trivial⟩, ?_, rfl⟩
      show AV.bool _ = AV.bool _
      congr 1
      rw [one_all h0.1 h0.2.1 h0.2.2, all_bad hx (by simp [Block.ok, hends])]
     ·
      refine AGo.cond_false false rfl rfl ?_
      have hends : x.ends f.blocks.length f.regs = true := by simpa using hb5
      refine AGo.skip ?_
      refine AGo.seq ?_
      refine AGo.region ?_
      refine aa 8 ?_
      refine AOps.nil ?_
      refine AGo.block ?_
      refine AGo.loopD (γ := Nat) 1 (fun j => ⟨68, (eput (eput (eput (eput (eput eNew 1 (.int .i64 number)) 2 (.int .i64 words)) 3 (.ptr 0 1 0 0)) 7 (.int .i64 (k : Int))) 8 (.int .i64 (j : Int))), (hput (hFrom 1) 0 (.row false 2 [f.cells]))⟩) (fun j => (x.ins.take j).all (fun t => t.fits number f.regs words) = true) (fun j => x.ins.length - j) 0 (Sub.mk' (by repeat (first | exact ESub.new _ | refine ESub.put ?_ (by rfl))) (by repeat (first | exact HSub.refl _ | exact HSub.none _ | exact HSub.from_new _ | exact HSub.from_from (by first | decide | omega | (dsimp only; omega)) | refine HSub.put ?_ (by rfl) | refine HSub.from_put ?_ (by first | decide | omega | (dsimp only; omega)) | refine HSub.from_rm ?_ (by decide)))) rfl (fun _ => hput_free (fun b hb => hFrom_free hb) rfl) ?_
      intro j hj
      refine AGo.seq ?_
      refine AGo.seq ?_
      refine AGo.region ?_
      refine am 42 ?_
      refine af 43 tok ?_
      refine al 44 tok ?_
      refine am 45 ?_
      refine aq 46 (q_index_lst tok rfl rfl rfl rfl rfl rfl (Int.natCast_nonneg _) (idx_map (by assumption)) rfl) ?_
      refine af 47 tok ?_
      refine al 48 tok ?_
      refine aq 49 (q_len tok rfl rfl rfl rfl rfl) ?_
      refine aq 50 (q_bin rfl rfl rfl rfl) ?_
      refine AOps.nil ?_
      refine AGo.split 50 rfl (fun hb6 => ?_) (fun hb6 => ?_)
      ·
       refine AGo.cond_true true rfl rfl ?_
       have hjl : j < x.ins.length := lt_of_idx hb6
       obtain ⟨u, hu⟩ := get_of_lt hjl
       refine AGo.skip ?_
       refine AGo.seq ?_
       refine AGo.block ?_
       refine AGo.seq ?_
       refine AGo.draw mix ?_
       refine df 53 tok ?_
       refine dl 54 tok ?_
       refine dm 55 ?_
       refine dq 56 (q_index_lst tok rfl rfl rfl rfl rfl rfl (Int.natCast_nonneg _) (idx_map (by assumption)) rfl) ?_
       refine df 57 tok ?_
       refine dl 58 tok ?_
       refine dm 59 ?_
       refine dq 60 (q_index_lst tok rfl rfl rfl rfl rfl rfl (Int.natCast_nonneg _) (idx_map (by assumption)) rfl) ?_
       refine dl 61 tok ?_
       refine dm 62 ?_
       refine df 63 tok ?_
       refine dl 64 tok ?_
       refine dm 65 ?_
       refine dx 66 (o_pure rfl Try.func41 (by kernel_rfl) rfl rfl rfl (fits_ok u _ _ _ hw hw2)) ?_
       refine dq 67 (q_not rfl rfl) ?_
       refine DOps.nil (by kernel_rfl) ?_
       refine AGo.split 67 rfl (fun hb7 => ?_) (fun hb7 => ?_)
       ·
        refine AGo.cond_true true rfl rfl ?_
        have hbw := hb7
        refine AGo.seq ?_
        refine AGo.region ?_
        refine aa 6 ?_
        refine AOps.nil ?_
        refine AGo.ret ?_
        refine ⟨[_], ⟨rfl, trivial⟩, ?_, rfl⟩
        show AV.bool _ = AV.bool _
        congr 1
        rw [one_all h0.1 h0.2.1 h0.2.2, all_bad hx (by simp only [Block.ok, all_bad (p := fun t => Tac.fits t number f.regs words) hu (by simpa using hbw), Bool.and_false])]
       ·
        refine AGo.cond_false false rfl rfl ?_
        have hbw := hb7
        refine AGo.skip ?_
        refine AGo.region ?_
        refine am 51 ?_
        refine aq 52 (q_inc rfl rfl hjl (hfit.2 x (List.mem_of_getElem? hx))) ?_
        refine aa 8 ?_
        refine AOps.nil ?_
        exact ⟨j+1, Drop.mk' (by repeat (first | exact EDrop.new _ _ | refine EDrop.put ?_ (by rfl) (by first | rfl | exact slA_avoid _ rfl | exact vaA_avoid _ rfl))) (by repeat (first | exact HDrop.none _ _ | exact HDrop.tail _ _ | refine HDrop.put ?_ (by rfl) rfl (by first | rfl | exact slO_avoid _ _ | exact vaO_avoid _ | exact tab_avoid _ _ rfl rfl | exact wlk_avoid _ _ _ rfl rfl rfl))), all_succ hu hj (by simpa using hbw), by omega⟩
      ·
       refine AGo.cond_false false rfl rfl ?_
       have hins := all_end hj (ge_of_idx hb6)
       refine AGo.exit ?_
       refine AGo.region ?_
       refine am 28 ?_
       refine aq 29 (q_inc rfl rfl hkl hfit.1) ?_
       refine aa 7 ?_
       refine AOps.nil ?_
       exact ⟨k+1, Drop.mk' (by repeat (first | exact EDrop.new _ _ | refine EDrop.put ?_ (by rfl) (by first | rfl | exact slA_avoid _ rfl | exact vaA_avoid _ rfl))) (by repeat (first | exact HDrop.none _ _ | exact HDrop.tail _ _ | refine HDrop.put ?_ (by rfl) rfl (by first | rfl | exact slO_avoid _ _ | exact vaO_avoid _ | exact tab_avoid _ _ rfl rfl | exact wlk_avoid _ _ _ rfl rfl rfl))), all_succ hx hk (by simp [Block.ok, hends, hins]), by omega⟩
    ·
     refine AGo.cond_false false rfl rfl ?_
     have hall := all_end hk (ge_of_idx hb4)
     refine AGo.exit ?_
     refine AGo.seq ?_
     refine AGo.region ?_
     refine aa 6 ?_
     refine AOps.nil ?_
     refine AGo.ret ?_
     refine ⟨[_], ⟨rfl, trivial⟩, ?_, rfl⟩
     show AV.bool _ = AV.bool _
     congr 1
     rw [one_all h0.1 h0.2.1 h0.2.2, hall]

set_option maxRecDepth 100000 in
theorem right_ok (b : Blocks) : APure Try.prog 20 [.agg b.cells] (fun r => r = .bool b.right) := by
 refine APure.of_body (n := 35) tok Try.func20 rfl rfl ?_
 refine AGo.seq ?_
 refine AGo.slot 0 rfl (fun H ι v => rel_prog) (fun hfit => ?_)
 refine AGo.region ?_
 refine ax 1 (o_box (sz := 2) 0 rfl rfl rfl rfl (Nat.zero_lt_succ _) rfl) ?_
 refine aa 2 ?_
 refine AOps.nil ?_
 refine AGo.seq ?_
 refine AGo.seq ?_
 refine AGo.region ?_
 refine af 4 tok ?_
 refine al 5 tok ?_
 refine aq 6 (q_bin rfl rfl rfl rfl) ?_
 refine am 7 ?_
 refine AOps.split 7 rfl (fun hb1 => ?_) (fun hb1 => ?_)
 ·
  refine ak 8 ?_
  refine ak 9 ?_
  refine ak 10 ?_
  refine aq 11 (q_pick_true true rfl rfl rfl rfl) ?_
  refine am 12 ?_
  refine ak 13 ?_
  refine ak 14 ?_
  refine ak 15 ?_
  refine ak 16 ?_
  refine aq 17 (q_pick_true true rfl rfl rfl rfl) ?_
  refine AOps.nil ?_
  refine AGo.cond_true true rfl rfl ?_
  refine AGo.seq ?_
  refine AGo.region ?_
  refine aa 2 ?_
  refine AOps.nil ?_
  refine AGo.ret ?_
  refine ⟨[_], ⟨rfl, trivial⟩, ?_, rfl⟩
  show AV.bool _ = AV.bool _
  congr 1
  exact (right_bad (by simp_all <;> omega)).symm
 ·
  refine af 8 tok ?_
  refine al 9 tok ?_
  refine aq 10 (q_bin rfl rfl rfl rfl) ?_
  refine aq 11 (q_pick_false false rfl rfl rfl rfl) ?_
  refine am 12 ?_
  refine AOps.split 12 rfl (fun hb2 => ?_) (fun hb2 => ?_)
  ·
   refine ak 13 ?_
   refine ak 14 ?_
   refine ak 15 ?_
   refine ak 16 ?_
   refine aq 17 (q_pick_true true rfl rfl rfl rfl) ?_
   refine AOps.nil ?_
   refine AGo.cond_true true rfl rfl ?_
   refine AGo.seq ?_
   refine AGo.region ?_
   refine aa 2 ?_
   refine AOps.nil ?_
   refine AGo.ret ?_
   refine ⟨[_], ⟨rfl, trivial⟩, ?_, rfl⟩
   show AV.bool _ = AV.bool _
   congr 1
   exact (right_bad (by simp_all <;> omega)).symm
  ·
   refine af 13 tok ?_
   refine al 14 tok ?_
   refine aq 15 (q_len tok rfl rfl rfl rfl rfl) ?_
   refine aq 16 (q_bin rfl rfl rfl rfl) ?_
   refine aq 17 (q_pick_false false rfl rfl rfl rfl) ?_
   refine AOps.nil ?_
   refine AGo.split 17 rfl (fun hb3 => ?_) (fun hb3 => ?_)
   ·
    refine AGo.cond_true true rfl rfl ?_
    refine AGo.seq ?_
    refine AGo.region ?_
    refine aa 2 ?_
    refine AOps.nil ?_
    refine AGo.ret ?_
    refine ⟨[_], ⟨rfl, trivial⟩, ?_, rfl⟩
    show AV.bool _ = AV.bool _
    congr 1
    exact (right_bad (by simp_all <;> omega)).symm
   ·
    refine AGo.cond_false false rfl rfl ?_
    have h0 : 0 ≤ b.words ∧ b.words ≤ 1048576 ∧ b.funcs.length ≠ 0 := by simp_all <;> omega
    refine AGo.skip ?_
    refine AGo.seq ?_
    refine AGo.seq ?_
    refine AGo.region ?_
    refine aa 3 ?_
    refine AOps.nil ?_
    refine AGo.block ?_
    refine AGo.loopD (γ := Nat) 1 (fun k => ⟨35, (eput (eput eNew 1 (.ptr 0 1 0 0)) 3 (.int .i64 (k : Int))), (hput (hFrom 1) 0 (.row false 2 [b.cells]))⟩) (fun k => (b.funcs.zipIdx.take k).all (fun p => p.1.one (p.2 : Int) b.words) = true) (fun k => b.funcs.length - k) 0 (Sub.mk' (by repeat (first | exact ESub.new _ | refine ESub.put ?_ (by rfl))) (by repeat (first | exact HSub.refl _ | exact HSub.none _ | exact HSub.from_new _ | exact HSub.from_from (by first | decide | omega | (dsimp only; omega)) | refine HSub.put ?_ (by rfl) | refine HSub.from_put ?_ (by first | decide | omega | (dsimp only; omega)) | refine HSub.from_rm ?_ (by decide)))) rfl (fun _ => hput_free (fun b hb => hFrom_free hb) rfl) ?_
    intro k hk
    refine AGo.seq ?_
    refine AGo.seq ?_
    refine AGo.region ?_
    refine am 18 ?_
    refine af 19 tok ?_
    refine al 20 tok ?_
    refine aq 21 (q_len tok rfl rfl rfl rfl rfl) ?_
    refine aq 22 (q_bin rfl rfl rfl rfl) ?_
    refine AOps.nil ?_
    refine AGo.split 22 rfl (fun hb4 => ?_) (fun hb4 => ?_)
    ·
     refine AGo.cond_true true rfl rfl ?_
     have hkl : k < b.funcs.length := lt_of_idx hb4
     obtain ⟨x, hx⟩ := get_of_lt hkl
     refine AGo.skip ?_
     refine AGo.seq ?_
     refine AGo.block ?_
     refine AGo.seq ?_
     refine AGo.draw mix ?_
     refine df 25 tok ?_
     refine dl 26 tok ?_
     refine dm 27 ?_
     refine dq 28 (q_index_lst tok rfl rfl rfl rfl rfl rfl (Int.natCast_nonneg _) (idx_map (by assumption)) rfl) ?_
     refine dl 29 tok ?_
     refine dm 30 ?_
     refine df 31 tok ?_
     refine dl 32 tok ?_
     refine dx 33 (o_pure rfl Try.func32 (by kernel_rfl) rfl rfl rfl (one_ok x _ _ h0.1 h0.2.1)) ?_
     refine dq 34 (q_not rfl rfl) ?_
     refine DOps.nil (by kernel_rfl) ?_
     refine AGo.split 34 rfl (fun hb5 => ?_) (fun hb5 => ?_)
     ·
      refine AGo.cond_true true rfl rfl ?_
      have hone := hb5
      refine AGo.seq ?_
      refine AGo.region ?_
      refine aa 2 ?_
      refine AOps.nil ?_
      refine AGo.ret ?_
      refine ⟨[_], ⟨rfl, trivial⟩, ?_, rfl⟩
      show AV.bool _ = AV.bool _
      congr 1
      rw [right_all h0.1 h0.2.1 h0.2.2, all_bad (zipIdx_get hx) (by simpa using hone)]
     ·
      refine AGo.cond_false false rfl rfl ?_
      have hone := hb5
      refine AGo.skip ?_
      refine AGo.region ?_
      refine am 23 ?_
      refine aq 24 (q_inc rfl rfl hkl hfit.1) ?_
      refine aa 3 ?_
      refine AOps.nil ?_
      exact ⟨k+1, Drop.mk' (by repeat (first | exact EDrop.new _ _ | refine EDrop.put ?_ (by rfl) (by first | rfl | exact slA_avoid _ rfl | exact vaA_avoid _ rfl))) (by repeat (first | exact HDrop.none _ _ | exact HDrop.tail _ _ | refine HDrop.put ?_ (by rfl) rfl (by first | rfl | exact slO_avoid _ _ | exact vaO_avoid _ | exact tab_avoid _ _ rfl rfl | exact wlk_avoid _ _ _ rfl rfl rfl))), all_succ (zipIdx_get hx) hk (by simpa using hone), by omega⟩
    ·
     refine AGo.cond_false false rfl rfl ?_
     have hall := all_end hk (by rw [List.length_zipIdx]; exact ge_of_idx hb4)
     refine AGo.exit ?_
     refine AGo.seq ?_
     refine AGo.region ?_
     refine aa 2 ?_
     refine AOps.nil ?_
     refine AGo.ret ?_
     refine ⟨[_], ⟨rfl, trivial⟩, ?_, rfl⟩
     show AV.bool _ = AV.bool _
     congr 1
     rw [right_all h0.1 h0.2.1 h0.2.2, hall]

end Go.Proofs.Ytpijoieooikfgaa.Sv

namespace Go.Proofs.Ytpijoieooikfgaa.Sv
open Go

set_option maxRecDepth 100000 in
theorem alone_ok (f : BFunc) : APure Try.prog 22 [.agg f.cells] (fun r => r = .agg (solo34 f).cells) := by
 refine APure.of_body (n := 6) tok Try.func22 rfl rfl ?_
 refine AGo.seq ?_
 refine AGo.region ?_
 refine ax 1 (o_box (sz := 2) 0 rfl rfl rfl rfl (Nat.zero_lt_succ _) rfl) ?_
 refine ax 2 (o_alloc tok 1 rfl rfl rfl rfl (Nat.zero_lt_succ _) rfl) ?_
 refine AOps.nil ?_
 refine AGo.seq ?_
 refine AGo.region ?_
 refine al 3 tok ?_
 refine ax 4 (o_lit' tok rfl rfl rfl rfl rfl rfl (by decide) rfl rfl rfl rfl rfl rfl) ?_
 refine aq 5 (q_build tok rfl rfl rfl rfl rfl (by decide) rfl rfl rfl) ?_
 refine AOps.w rfl rfl (o_store tok rfl rfl rfl rfl rfl rfl rfl rfl rfl (by decide) rfl (by first | exact fun _ => rfl | (intro h; cases h))) ?_
 refine AOps.nil ?_
 refine AGo.ret ?_
 refine ⟨[_], ⟨⟨_, _, _, _, rfl, rfl, .ptr _ _ _ _ _ _ _ _ rfl rfl rfl, rfl⟩, trivial⟩, ?_, rfl⟩
 rfl

set_option maxRecDepth 100000 in
theorem small34_ok (f : BFunc) (nb ni : Int) (hb : 0 ≤ ni ∧ ni ≤ 1000) (hn : f.blocks.length ≤ big) (hi : ∀ x ∈ f.blocks, x.ins.length ≤ big) : APure Try.prog 16 [.agg f.cells, .int .i64 nb, .int .i64 ni] (fun r => r = .bool (small34 f nb ni)) := by
 refine APure.of_body (n := 44) tok Try.func16 rfl rfl ?_
 refine AGo.seq ?_
 refine AGo.region ?_
 refine ax 3 (o_box (sz := 2) 0 rfl rfl rfl rfl (Nat.zero_lt_succ _) rfl) ?_
 refine aa 6 ?_
 refine AOps.nil ?_
 refine AGo.seq ?_
 refine AGo.seq ?_
 refine AGo.region ?_
 refine af 8 tok ?_
 refine al 9 tok ?_
 refine aq 10 (q_len tok rfl rfl rfl rfl rfl) ?_
 refine am 11 ?_
 refine aq 12 (q_bin rfl rfl rfl rfl) ?_
 refine am 13 ?_
 refine AOps.split 13 rfl (fun hb1 => ?_) (fun hb1 => ?_)
 ·
  refine ak 14 ?_
  refine ak 15 ?_
  refine ak 16 ?_
  refine aq 17 (q_pick_true true rfl rfl rfl rfl) ?_
  refine am 18 ?_
  refine ak 19 ?_
  refine ak 20 ?_
  refine ak 21 ?_
  refine aq 22 (q_pick_true true rfl rfl rfl rfl) ?_
  refine AOps.nil ?_
  refine AGo.cond_true true rfl rfl ?_
  refine AGo.seq ?_
  refine AGo.region ?_
  refine aa 6 ?_
  refine AOps.nil ?_
  refine AGo.ret ?_
  refine ⟨[_], ⟨rfl, trivial⟩, ?_, rfl⟩
  show AV.bool _ = AV.bool _
  congr 1
  simp_all [small34, few34]; try omega
 ·
  refine af 14 tok ?_
  refine al 15 tok ?_
  refine aq 16 (q_bin rfl rfl rfl rfl) ?_
  refine aq 17 (q_pick_false false rfl rfl rfl rfl) ?_
  refine am 18 ?_
  refine AOps.split 18 rfl (fun hb2 => ?_) (fun hb2 => ?_)
  ·
   refine ak 19 ?_
   refine ak 20 ?_
   refine ak 21 ?_
   refine aq 22 (q_pick_true true rfl rfl rfl rfl) ?_
   refine AOps.nil ?_
   refine AGo.cond_true true rfl rfl ?_
   refine AGo.seq ?_
   refine AGo.region ?_
   refine aa 6 ?_
   refine AOps.nil ?_
   refine AGo.ret ?_
   refine ⟨[_], ⟨rfl, trivial⟩, ?_, rfl⟩
   show AV.bool _ = AV.bool _
   congr 1
   simp_all [small34, few34]; try omega
  ·
   refine af 19 tok ?_
   refine al 20 tok ?_
   refine aq 21 (q_bin rfl rfl rfl rfl) ?_
   refine aq 22 (q_pick_false false rfl rfl rfl rfl) ?_
   refine AOps.nil ?_
   refine AGo.split 22 rfl (fun hb3 => ?_) (fun hb3 => ?_)
   ·
    refine AGo.cond_true true rfl rfl ?_
    refine AGo.seq ?_
    refine AGo.region ?_
    refine aa 6 ?_
    refine AOps.nil ?_
    refine AGo.ret ?_
    refine ⟨[_], ⟨rfl, trivial⟩, ?_, rfl⟩
    show AV.bool _ = AV.bool _
    congr 1
    simp_all [small34, few34]; try omega
   ·
    refine AGo.cond_false false rfl rfl ?_
    have hg1 : (f.blocks.length : Int) ≤ nb := by have h := hb1; simp only [List.length_map, decide_eq_false_iff_not] at h; omega
    have hg2 : f.regs ≤ 40 := by have h := hb2; simp only [decide_eq_false_iff_not] at h; omega
    have hg3 : 0 ≤ f.regs := by have h := hb3; simp only [decide_eq_false_iff_not] at h; omega
    refine AGo.skip ?_
    refine AGo.seq ?_
    refine AGo.seq ?_
    refine AGo.region ?_
    refine aa 7 ?_
    refine AOps.nil ?_
    refine AGo.block ?_
    refine AGo.loopD (γ := Nat) 1 (fun k => ⟨44, (eput (eput (eput (eput eNew 1 (.int .i64 nb)) 2 (.int .i64 (ni - (insSum' (f.blocks.take k) : Int)))) 3 (.ptr 0 1 0 0)) 7 (.int .i64 (k : Int))), (hput (hFrom 1) 0 (.row false 2 [f.cells]))⟩) (fun k => k ≤ f.blocks.length ∧ (k ≠ 0 → (insSum' (f.blocks.take k) : Int) ≤ ni)) (fun k => f.blocks.length - k) 0 (Sub.mk' (by repeat (first | exact ESub.new _ | refine ESub.put ?_ (by first | rfl | exact congrArg (fun n : Int => some (AV.int .i64 n)) (by simp [insSum'])))) (by repeat (first | exact HSub.refl _ | exact HSub.none _ | exact HSub.from_new _ | exact HSub.from_from (by first | decide | omega | (dsimp only; omega)) | refine HSub.put ?_ (by rfl) | refine HSub.from_put ?_ (by first | decide | omega | (dsimp only; omega)) | refine HSub.from_rm ?_ (by decide)))) ⟨Nat.zero_le _, fun h => absurd rfl h⟩ (fun _ => hput_free (fun b hb => hFrom_free hb) rfl) ?_
    intro k ⟨hk, hF⟩
    refine AGo.seq ?_
    refine AGo.seq ?_
    refine AGo.region ?_
    refine am 23 ?_
    refine af 24 tok ?_
    refine al 25 tok ?_
    refine aq 26 (q_len tok rfl rfl rfl rfl rfl) ?_
    refine aq 27 (q_bin rfl rfl rfl rfl) ?_
    refine AOps.nil ?_
    refine AGo.split 27 rfl (fun hb4 => ?_) (fun hb4 => ?_)
    ·
     refine AGo.cond_true true rfl rfl ?_
     have hkl : k < f.blocks.length := by simpa using hb4
     obtain ⟨x, hx⟩ := get_of_lt hkl
     have hxb := hi x (List.mem_of_getElem? hx)
     have hsx := insSum_succ' hx
     simp only [big] at hxb hn
     have hsum : (insSum' (f.blocks.take k) : Int) ≤ ni := by by_cases h0 : k = 0; { subst h0; simp [insSum']; omega }; exact hF h0
     refine AGo.skip ?_
     refine AGo.seq ?_
     refine AGo.block ?_
     refine AGo.seq ?_
     refine AGo.region ?_
     refine am 30 ?_
     refine af 31 tok ?_
     refine al 32 tok ?_
     refine am 33 ?_
     refine aq 34 (q_index_lst tok rfl rfl rfl rfl rfl rfl (Int.natCast_nonneg _) (idx_map hx) rfl) ?_
     refine af 35 tok ?_
     refine al 36 tok ?_
     refine aq 37 (q_len tok rfl rfl rfl rfl rfl) ?_
     refine aq 38 (q_bin (r := .int .i64 (ni - (insSum' (f.blocks.take (k + 1)) : Int))) rfl rfl rfl (subZ (by rw [List.length_map]; omega) (by rw [List.length_map]; omega) (by rw [List.length_map]; omega))) ?_
     refine aa 2 ?_
     refine AOps.nil ?_
     refine AGo.seq ?_
     refine AGo.region ?_
     refine am 39 ?_
     refine aq 40 (q_bin rfl rfl rfl rfl) ?_
     refine AOps.nil ?_
     refine AGo.split 40 rfl (fun hb5 => ?_) (fun hb5 => ?_)
     ·
      refine AGo.cond_true true rfl rfl ?_
      have hover : ¬ (insSum' f.blocks : Int) ≤ ni := by have h := hb5; simp only [decide_eq_true_eq] at h; have h2 := insSum_all f.blocks (k + 1); omega
      refine AGo.seq ?_
      refine AGo.region ?_
      refine aa 6 ?_
      refine AOps.nil ?_
      refine AGo.ret ?_
      refine ⟨[_], ⟨rfl, trivial⟩, ?_, rfl⟩
      show AV.bool _ = AV.bool _
      congr 1
      simp [small34, few34, hover]
     ·
      refine AGo.cond_false false rfl rfl ?_
      have hin : (insSum' (f.blocks.take (k + 1)) : Int) ≤ ni := by have h := hb5; simp only [decide_eq_false_iff_not] at h; omega
      refine AGo.skip ?_
      refine AGo.region ?_
      refine am 28 ?_
      refine aq 29 (q_inc rfl rfl hkl (show f.blocks.length ≤ maxLen by simp only [maxLen]; (try simp only [big] at hn); omega)) ?_
      refine aa 7 ?_
      refine AOps.nil ?_
      exact ⟨k+1, Drop.mk' (by repeat (first | exact EDrop.new _ _ | refine EDrop.put ?_ (by first | rfl | exact congrArg (fun n : Int => some (AV.int .i64 n)) (by omega)) (by first | rfl | exact slA_avoid _ rfl | exact vaA_avoid _ rfl))) (by repeat (first | exact HDrop.none _ _ | exact HDrop.tail _ _ | refine HDrop.put ?_ (by rfl) rfl (by first | rfl | exact slO_avoid _ _ | exact vaO_avoid _ | exact tab_avoid _ _ rfl rfl | exact wlk_avoid _ _ _ rfl rfl rfl))), ⟨hkl, fun _ => by omega⟩, by omega⟩
    ·
     refine AGo.cond_false false rfl rfl ?_
     have hge : f.blocks.length ≤ k := by simpa using hb4
     have hsum : (insSum' f.blocks : Int) ≤ ni := by by_cases h0 : k = 0; { subst h0; have : f.blocks = [] := List.eq_nil_of_length_eq_zero (by omega); rw [this]; simp [insSum']; omega }; { have h := hF h0; rwa [List.take_of_length_le hge] at h }
     refine AGo.exit ?_
     refine AGo.seq ?_
     refine AGo.region ?_
     refine al 41 tok ?_
     refine ax 42 (o_pure rfl Try.func22 (by kernel_rfl) rfl rfl rfl (alone_ok f)) ?_
     refine ax 43 (o_pure rfl Try.func20 (by kernel_rfl) rfl rfl rfl (right_ok (solo34 f))) ?_
     refine aa 6 ?_
     refine AOps.nil ?_
     refine AGo.ret ?_
     refine ⟨[_], ⟨rfl, trivial⟩, ?_, rfl⟩
     show AV.bool _ = AV.bool _
     congr 1
     simp [small34, few34, hg1, hg2, hg3, hsum]

set_option maxRecDepth 100000 in
theorem great_ok (c : Cert) (hn : c.same.length ≤ big) : APure Try.prog 12 [.agg c.cells] (fun r => r = .bool (great34 c)) := by
 refine APure.of_body (n := 26) tok Try.func12 rfl rfl ?_
 refine AGo.seq ?_
 refine AGo.region ?_
 refine ax 1 (o_box (sz := 1) 0 rfl rfl rfl rfl (Nat.zero_lt_succ _) rfl) ?_
 refine aa 2 ?_
 refine AOps.nil ?_
 refine AGo.seq ?_
 refine AGo.seq ?_
 refine AGo.region ?_
 refine aa 3 ?_
 refine AOps.nil ?_
 refine AGo.block ?_
 refine AGo.loopD (γ := Nat) 1 (fun k => ⟨26, (eput (eput eNew 1 (.ptr 0 1 0 0)) 3 (.int .i64 (k : Int))), (hput (hFrom 1) 0 (.row false 1 [c.cells]))⟩) (fun k => k ≤ c.same.length ∧ k ≤ 21 ∧ (c.same.take k).any (fun r => decide (60 < r.length)) = false) (fun k => c.same.length - k) 0 (Sub.mk' (by repeat (first | exact ESub.new _ | refine ESub.put ?_ (by first | rfl | exact congrArg (fun (n : Nat) => some (AV.int .i64 (n : Int))) (by simp)))) (by repeat (first | exact HSub.refl _ | exact HSub.none _ | exact HSub.from_new _ | exact HSub.from_from (by first | decide | omega | (dsimp only; omega)) | refine HSub.put ?_ (by rfl) | refine HSub.from_put ?_ (by first | decide | omega | (dsimp only; omega)) | refine HSub.from_rm ?_ (by decide)))) ⟨Nat.zero_le _, Nat.zero_le _, rfl⟩ (fun _ => hput_free (fun b hb => hFrom_free hb) rfl) ?_
 intro k ⟨hk, hk21, hF⟩
 refine AGo.seq ?_
 refine AGo.seq ?_
 refine AGo.region ?_
 refine am 4 ?_
 refine af 5 tok ?_
 refine al 6 tok ?_
 refine aq 7 (q_len tok rfl rfl rfl rfl rfl) ?_
 refine aq 8 (q_bin rfl rfl rfl rfl) ?_
 refine am 9 ?_
 refine AOps.split 9 rfl (fun hb1 => ?_) (fun hb1 => ?_)
 ·
  have hkl : k < c.same.length := by have h := hb1; simp only [List.length_map, decide_eq_true_eq] at h; omega
  refine am 10 ?_
  refine aq 11 (q_bin rfl rfl rfl rfl) ?_
  refine aq 12 (q_pick_true true rfl rfl rfl rfl) ?_
  refine AOps.nil ?_
  refine AGo.split 12 rfl (fun hb2 => ?_) (fun hb2 => ?_)
  ·
   refine AGo.cond_true true rfl rfl ?_
   have hk20 : (k : Int) ≤ 20 := by have h := hb2; simpa using h
   obtain ⟨r, hr⟩ := get_of_lt hkl
   refine AGo.skip ?_
   refine AGo.seq ?_
   refine AGo.block ?_
   refine AGo.seq ?_
   refine AGo.region ?_
   refine af 15 tok ?_
   refine al 16 tok ?_
   refine am 17 ?_
   refine aq 18 (q_index_lst tok rfl rfl rfl rfl rfl rfl (Int.natCast_nonneg _) (idx_map hr) rfl) ?_
   refine al 19 tok ?_
   refine aq 20 (q_len tok rfl rfl rfl rfl rfl) ?_
   refine aq 21 (q_bin rfl rfl rfl rfl) ?_
   refine AOps.nil ?_
   refine AGo.split 21 rfl (fun hb3 => ?_) (fun hb3 => ?_)
   ·
    refine AGo.cond_true true rfl rfl ?_
    have hbad : (60 : Int) < r.length := by have h := hb3; simp only [List.length_map, decide_eq_true_eq] at h; omega
    refine AGo.seq ?_
    refine AGo.region ?_
    refine aa 2 ?_
    refine AOps.nil ?_
    refine AGo.ret ?_
    refine ⟨[_], ⟨rfl, trivial⟩, ?_, rfl⟩
    show AV.bool _ = AV.bool _
    congr 1
    exact (great_yes hr (by omega) (by omega)).symm
   ·
    refine AGo.cond_false false rfl rfl ?_
    have hgood : ¬ (60 : Int) < r.length := by have h := hb3; simp only [List.length_map, decide_eq_false_iff_not] at h; omega
    refine AGo.skip ?_
    refine AGo.region ?_
    refine am 13 ?_
    refine aq 14 (q_inc rfl rfl hkl (show c.same.length ≤ maxLen by simp only [maxLen]; (try simp only [big] at hn); omega)) ?_
    refine aa 3 ?_
    refine AOps.nil ?_
    exact ⟨k+1, Drop.mk' (by repeat (first | exact EDrop.new _ _ | refine EDrop.put ?_ (by rfl) (by first | rfl | exact slA_avoid _ rfl | exact vaA_avoid _ rfl))) (by repeat (first | exact HDrop.none _ _ | exact HDrop.tail _ _ | refine HDrop.put ?_ (by rfl) rfl (by first | rfl | exact slO_avoid _ _ | exact vaO_avoid _ | exact tab_avoid _ _ rfl rfl | exact wlk_avoid _ _ _ rfl rfl rfl))), ⟨hkl, by omega, by rw [take_succ_eq hr, List.any_append, hF]; simp; omega⟩, by omega⟩
  ·
   refine AGo.cond_false false rfl rfl ?_
   have hend := hb2
   refine AGo.exit ?_
   refine AGo.seq ?_
   refine AGo.region ?_
   refine af 22 tok ?_
   refine al 23 tok ?_
   refine aq 24 (q_len tok rfl rfl rfl rfl rfl) ?_
   refine aq 25 (q_bin rfl rfl rfl rfl) ?_
   refine aa 2 ?_
   refine AOps.nil ?_
   refine AGo.ret ?_
   refine ⟨[_], ⟨rfl, trivial⟩, ?_, rfl⟩
   show AV.bool _ = AV.bool _
   congr 1
   exact (great_end hF hk hk21 (by first | (simp only [List.length_map, decide_eq_false_iff_not] at hend; omega) | (simp only [decide_eq_false_iff_not] at hend; omega))).symm
 ·
  refine ak 10 ?_
  refine ak 11 ?_
  refine aq 12 (q_pick_false false rfl rfl rfl rfl) ?_
  refine AOps.nil ?_
  refine AGo.cond_false false rfl rfl ?_
  have hend := hb1
  refine AGo.exit ?_
  refine AGo.seq ?_
  refine AGo.region ?_
  refine af 22 tok ?_
  refine al 23 tok ?_
  refine aq 24 (q_len tok rfl rfl rfl rfl rfl) ?_
  refine aq 25 (q_bin rfl rfl rfl rfl) ?_
  refine aa 2 ?_
  refine AOps.nil ?_
  refine AGo.ret ?_
  refine ⟨[_], ⟨rfl, trivial⟩, ?_, rfl⟩
  show AV.bool _ = AV.bool _
  congr 1
  exact (great_end hF hk hk21 (by first | (simp only [List.length_map, decide_eq_false_iff_not] at hend; omega) | (simp only [decide_eq_false_iff_not] at hend; omega))).symm

end Go.Proofs.Ytpijoieooikfgaa.Sv

namespace Go.Proofs.Ytpijoieooikfgaa.Sv
open Go

end Go.Proofs.Ytpijoieooikfgaa.Sv

namespace Go.Proofs.Ytpijoieooikfgaa.Sv
open Go

end Go.Proofs.Ytpijoieooikfgaa.Sv

namespace Go.Proofs.Ytpijoieooikfgaa.Sv
open Go

end Go.Proofs.Ytpijoieooikfgaa.Sv

namespace Go.Proofs.Ytpijoieooikfgaa.Sv
open Go

end Go.Proofs.Ytpijoieooikfgaa.Sv

namespace Go.Proofs.Ytpijoieooikfgaa.Sv
open Go

end Go.Proofs.Ytpijoieooikfgaa.Sv

namespace Go.Proofs.Ytpijoieooikfgaa.Sv
open Go

end Go.Proofs.Ytpijoieooikfgaa.Sv

namespace Go.Proofs.Ytpijoieooikfgaa.Sv
open Go

end Go.Proofs.Ytpijoieooikfgaa.Sv

namespace Go.Proofs.Ytpijoieooikfgaa.Sv
open Go

end Go.Proofs.Ytpijoieooikfgaa.Sv

namespace Go.Proofs.Ytpijoieooikfgaa.Sv
open Go

end Go.Proofs.Ytpijoieooikfgaa.Sv

namespace Go.Proofs.Ytpijoieooikfgaa.Sv
open Go

set_option maxHeartbeats 2000000 in
set_option maxRecDepth 100000 in
theorem validShapes_ok (f : BFunc) (z : Int) (c : Cert) (hf : f.Ok) (hz : 0 ≤ z ∧ z ≤ 255) (hc : c.Ok) : APure Try.prog 7 [.agg f.cells, .int .u8 z, .agg c.cells] (fun r => r = .bool true) := by
 refine APure.of_body (n := 106) tok Try.func7 rfl rfl ?_
 refine AGo.seq ?_
 refine AGo.region ?_
 refine ax 3 (o_box (sz := 2) 0 rfl rfl rfl rfl (Nat.zero_lt_succ _) rfl) ?_
 refine ax 5 (o_box (sz := 1) 1 rfl rfl rfl rfl (Nat.zero_lt_succ _) rfl) ?_
 refine aa 6 ?_
 refine AOps.nil ?_
 refine AGo.seq ?_
 refine AGo.seq ?_
 refine AGo.region ?_
 refine al 12 tok ?_
 refine ax 13 (o_pure rfl Try.func16 (by kernel_rfl) rfl rfl rfl (small34_ok f 12 60 (by decide) hf.lenB hf.insB)) ?_
 refine aq 14 (q_not rfl rfl) ?_
 refine am 15 ?_
 refine AOps.split 15 rfl (fun hb1 => ?_) (fun hb1 => ?_)
 ·
  refine ak 16 ?_
  refine ak 17 ?_
  refine ak 18 ?_
  refine ak 19 ?_
  refine aq 20 (q_pick_true true rfl rfl rfl rfl) ?_
  refine am 21 ?_
  refine ak 22 ?_
  refine ak 23 ?_
  refine aq 24 (q_pick_true true rfl rfl rfl rfl) ?_
  refine AOps.nil ?_
  refine AGo.cond_true true rfl rfl ?_
  refine AGo.seq ?_
  refine AGo.region ?_
  refine ax 25 (o_pure rfl Try.func13 (by kernel_rfl) rfl rfl rfl (awake34_ok)) ?_
  refine aa 6 ?_
  refine AOps.nil ?_
  refine AGo.ret ?_
  refine ⟨[_], ⟨rfl, trivial⟩, ?_, rfl⟩
  rfl
 ·
  refine af 16 tok ?_
  refine al 17 tok ?_
  refine aq 18 (q_len tok rfl rfl rfl rfl rfl) ?_
  refine aq 19 (q_bin rfl rfl rfl rfl) ?_
  refine aq 20 (q_pick_false false rfl rfl rfl rfl) ?_
  refine am 21 ?_
  refine AOps.split 21 rfl (fun hb2 => ?_) (fun hb2 => ?_)
  ·
   refine ak 22 ?_
   refine ak 23 ?_
   refine aq 24 (q_pick_true true rfl rfl rfl rfl) ?_
   refine AOps.nil ?_
   refine AGo.cond_true true rfl rfl ?_
   refine AGo.seq ?_
   refine AGo.region ?_
   refine ax 25 (o_pure rfl Try.func13 (by kernel_rfl) rfl rfl rfl (awake34_ok)) ?_
   refine aa 6 ?_
   refine AOps.nil ?_
   refine AGo.ret ?_
   refine ⟨[_], ⟨rfl, trivial⟩, ?_, rfl⟩
   rfl
  ·
   refine al 22 tok ?_
   refine ax 23 (o_pure rfl Try.func12 (by kernel_rfl) rfl rfl rfl (great_ok c hc.lenB)) ?_
   refine aq 24 (q_pick_false false rfl rfl rfl rfl) ?_
   refine AOps.nil ?_
   refine AGo.split 24 rfl (fun hb3 => ?_) (fun hb3 => ?_)
   ·
    refine AGo.cond_true true rfl rfl ?_
    refine AGo.seq ?_
    refine AGo.region ?_
    refine ax 25 (o_pure rfl Try.func13 (by kernel_rfl) rfl rfl rfl (awake34_ok)) ?_
    refine aa 6 ?_
    refine AOps.nil ?_
    refine AGo.ret ?_
    refine ⟨[_], ⟨rfl, trivial⟩, ?_, rfl⟩
    rfl
   ·
    refine AGo.cond_false false rfl rfl ?_
    have hsm := small_few (f := f) (nb := 12) (ni := 60) (ndec_same (by assumption))
    have h0 := hsm.2.1
    have hfw := few34_of hsm.1
    have h40 := hfw.2.1
    have h12 := hfw.1
    have hf1 := few_short hf (nb := 12) (ni := 60) (by decide) (by decide) hsm.1
    have hS := stands_of (solo_stands hsm.2.2)
    have hne := hS.ne
    obtain ⟨k, hkd⟩ : ∃ k : Nat, k = z.toNat % f.blocks.length := ⟨_, rfl⟩
    have hkl : k < f.blocks.length := by rw [hkd]; exact Nat.mod_lt _ (by omega)
    have hrem : evalBin .rem (.int .i64 z) (.int .i64 ((f.blocks.length : Nat) : Int)) = some (.int .i64 (k : Int)) := rem_ok hz ⟨by omega, by omega⟩ hkd
    obtain ⟨x, hx⟩ := get_of_lt hkl
    have hxf := hS.fin x (List.mem_of_getElem? hx)
    have hgx : (⟨f.regs, f.blocks.set k (endTo x)⟩ : BFunc).blocks[k]? = some (endTo x) := List.getElem?_set_self hkl
    have hlen : f.blocks.length ≠ (⟨f.regs, f.blocks.take (f.blocks.length - 1)⟩ : BFunc).blocks.length := by show _ ≠ (f.blocks.take (f.blocks.length - 1)).length; rw [List.length_take]; omega
    have hreg : f.regs ≠ (moreR f).regs := by show f.regs ≠ f.regs + 1; omega
    have hg1 := short_set hf1 (k := k) (List.mem_of_getElem? hx)
    have hh1 := short_take hf1 (n := f.blocks.length - 1)
    refine AGo.skip ?_
    refine AGo.seq ?_
    refine AGo.region ?_
    refine am 26 ?_
    refine aq 27 (q_convTo tok rfl rfl rfl rfl rfl (r := z) (wrap_i64 (by omega) (by omega))) ?_
    refine af 28 tok ?_
    refine al 29 tok ?_
    refine aq 30 (q_len tok rfl rfl rfl rfl rfl) ?_
    refine aq 31 (q_bin (r := .int .i64 (k : Int)) rfl rfl rfl (by rw [List.length_map]; exact hrem)) ?_
    refine aa 7 ?_
    refine AOps.nil ?_
    refine AGo.seq ?_
    refine AGo.draw mix ?_
    refine df 32 tok ?_
    refine dl 33 tok ?_
    refine dx 34 (o_lit tok rfl rfl rfl rfl rfl rfl (by decide) rfl rfl rfl rfl rfl rfl) ?_
    refine df 35 tok ?_
    refine dl 36 tok ?_
    refine dx 37 (o_copy tok 9 rfl rfl rfl rfl rfl rfl rfl rfl rfl rfl (Nat.zero_lt_succ _) (blocks_len5 _) (blocks_pure _) (by rw [List.length_map]; omega) (by rw [List.length_map]; show _ * 56 ≤ _; omega) (by rw [List.length_map]; simp only [maxLen]; omega)) ?_
    refine dq 38 (q_build tok rfl rfl rfl rfl rfl (by decide) rfl rfl rfl) ?_
    refine dx 8 (o_alloc tok 2 rfl rfl rfl rfl (Nat.zero_lt_succ _) rfl) ?_
    refine DOps.w rfl rfl (o_store tok rfl rfl rfl rfl rfl rfl rfl rfl rfl (by decide) rfl (by first | exact fun _ => rfl | (intro h; cases h))) ?_
    refine DOps.nil (by kernel_rfl) ?_
    refine AGo.seq ?_
    refine AGo.draw mix ?_
    refine df 39 tok ?_
    refine dl 40 tok ?_
    refine dm 41 ?_
    refine df 42 tok ?_
    refine dl 43 tok ?_
    refine dm 44 ?_
    refine dq 45 (q_index_ref tok rfl rfl rfl rfl rfl rfl rfl rfl rfl (Int.natCast_nonneg _) (by rw [List.length_map]; omega)) ?_
    refine df 46 tok ?_
    refine dq 47 (q_load tok rfl rfl rfl (.ptr _ _ _ _ _ _ _ _ rfl rfl (by rw [Nat.zero_add, Int.toNat_natCast, List.getElem?_map, hx]; rfl)) rfl) ?_
    refine dq 48 (q_bin (r := .int .i64 (x.fin.tmod 3)) rfl rfl rfl (by simp [evalBin, evalInt, isShift])) ?_
    refine dq 49 (q_bin (r := .int .i64 (endTo x).fin) rfl rfl rfl (by simp [evalBin, evalInt, isShift, endTo])) ?_
    refine dq 50 (q_index_ref tok rfl rfl rfl rfl rfl rfl rfl rfl rfl (Int.natCast_nonneg _) (by rw [List.length_map]; omega)) ?_
    refine df 51 tok ?_
    refine DOps.w rfl rfl (o_store tok rfl rfl rfl rfl rfl rfl rfl (by rw [Nat.zero_add, Int.toNat_natCast, List.getElem?_map, hx]; rfl) rfl (by decide) rfl (by first | exact fun _ => rfl | (intro h; cases h))) ?_
    refine DOps.nil (by kernel_rfl) ?_
    refine AGo.seq ?_
    refine AGo.draw mix ?_
    refine df 52 tok ?_
    refine dl 53 tok ?_
    refine df 54 tok ?_
    refine dl 55 tok ?_
    refine df 56 tok ?_
    refine dl 57 tok ?_
    refine dq 58 (q_len tok rfl rfl rfl rfl rfl) ?_
    refine dq 59 (q_bin (r := .int .i64 ((f.blocks.length - 1 : Nat) : Int)) rfl rfl rfl (by rw [List.length_map]; exact len_pred (by omega) (by omega))) ?_
    refine dq 60 (q_slice_take (f := Block.cells) tok (f.blocks.length - 1) rfl rfl rfl rfl rfl rfl (by omega) (blocks_len5 _)) ?_
    refine dq 61 (q_build tok rfl rfl rfl rfl rfl (by decide) rfl rfl rfl) ?_
    refine dx 9 (o_alloc tok 3 rfl rfl rfl rfl (Nat.zero_lt_succ _) rfl) ?_
    refine DOps.w rfl rfl (o_store tok rfl rfl rfl rfl rfl rfl rfl rfl rfl (by decide) rfl (by first | exact fun _ => rfl | (intro h; cases h))) ?_
    refine DOps.nil (by kernel_rfl) ?_
    refine AGo.seq ?_
    refine AGo.region ?_
    refine af 62 tok ?_
    refine al 63 tok ?_
    refine aq 64 (q_bin (r := .int .i64 (f.regs + 1)) rfl rfl rfl (addZ (by omega) (by omega) rfl)) ?_
    refine af 65 tok ?_
    refine al 66 tok ?_
    refine aq 67 (q_build tok rfl rfl rfl rfl rfl (by decide) rfl rfl rfl) ?_
    refine ax 10 (o_alloc tok 4 rfl rfl rfl rfl (Nat.zero_lt_succ _) rfl) ?_
    refine AOps.w rfl rfl (o_store tok rfl rfl rfl rfl rfl rfl rfl rfl rfl (by decide) rfl (by first | exact fun _ => rfl | (intro h; cases h))) ?_
    refine AOps.nil ?_
    refine AGo.seq ?_
    refine AGo.region ?_
    refine al 68 tok ?_
    refine ax 69 (o_pure rfl Try.func23 (by kernel_rfl) rfl rfl rfl (rweak_ok f ⟨h0, by omega⟩ hf1.1)) ?_
    refine ax 11 (o_alloc tok 5 rfl rfl rfl rfl (Nat.zero_lt_succ _) rfl) ?_
    refine AOps.w rfl rfl (o_store tok rfl rfl rfl rfl rfl rfl rfl rfl rfl (by decide) rfl (by first | exact fun _ => rfl | (intro h; cases h))) ?_
    refine AOps.nil ?_
    refine AGo.seq ?_
    refine AGo.ghost (.freezeCell 2 0 1 9 rfl rfl rfl rfl (by rw [List.length_set]) (by decide)) ?_
    rw [show splice x.cells (0 + 1) (AV.int IntKind.i64 (endTo x).fin).cells = (endTo x).cells from rfl, set_all f.blocks Block.cells k (endTo x)]
    refine AGo.region ?_
    refine ax 70 (o_pure rfl Try.func13 (by kernel_rfl) rfl rfl rfl (awake34_ok)) ?_
    refine am 71 ?_
    refine al 72 tok ?_
    refine al 73 tok ?_
    refine al 74 tok ?_
    refine ax 75 (o_pure rfl Try.func14 (by kernel_rfl) rfl rfl rfl ((by have h := vcheck_ok f (⟨f.regs, f.blocks.set k (endTo x)⟩ : BFunc) hf1.1 hg1.1 hf1.2 hg1.2 (vweak f); rw [vno_fin hx hgx (endTo_ne hxf)] at h; exact h))) ?_
    refine aq 76 (q_not rfl rfl) ?_
    refine aq 77 (q_pick_true true rfl rfl rfl rfl) ?_
    refine am 78 ?_
    refine al 79 tok ?_
    refine al 80 tok ?_
    refine al 81 tok ?_
    refine ax 82 (o_pure rfl Try.func14 (by kernel_rfl) rfl rfl rfl ((by have h := vcheck_ok f (⟨f.regs, f.blocks.take (f.blocks.length - 1)⟩ : BFunc) hf1.1 hh1.1 hf1.2 hh1.2 (vweak f); rw [vno_len hlen] at h; exact h))) ?_
    refine aq 83 (q_not rfl rfl) ?_
    refine aq 84 (q_pick_true true rfl rfl rfl rfl) ?_
    refine am 85 ?_
    refine al 86 tok ?_
    refine al 87 tok ?_
    refine al 88 tok ?_
    refine ax 89 (o_pure rfl Try.func14 (by kernel_rfl) rfl rfl rfl ((by have h := vcheck_ok f (moreR f) hf1.1 hf1.1 hf1.2 hf1.2 (vweak f); rw [vno_regs hreg] at h; exact h))) ?_
    refine aq 90 (q_not rfl rfl) ?_
    refine aq 91 (q_pick_true true rfl rfl rfl rfl) ?_
    refine am 92 ?_
    refine al 93 tok ?_
    refine al 94 tok ?_
    refine al 95 tok ?_
    refine ax 96 (o_pure rfl Try.func14 (by kernel_rfl) rfl rfl rfl ((by have h := vcheck_ok (⟨f.regs, f.blocks.take (f.blocks.length - 1)⟩ : BFunc) f hh1.1 hf1.1 hh1.2 hf1.2 c; rw [vno_len (Ne.symm hlen)] at h; exact h))) ?_
    refine aq 97 (q_not rfl rfl) ?_
    refine aq 98 (q_pick_true true rfl rfl rfl rfl) ?_
    refine am 99 ?_
    refine al 100 tok ?_
    refine al 101 tok ?_
    refine al 102 tok ?_
    refine ax 103 (o_pure rfl Try.func14 (by kernel_rfl) rfl rfl rfl ((by have h := vcheck_ok (moreR f) f hf1.1 hf1.1 hf1.2 hf1.2 c; rw [vno_regs (Ne.symm hreg)] at h; exact h))) ?_
    refine aq 104 (q_not rfl rfl) ?_
    refine aq 105 (q_pick_true true rfl rfl rfl rfl) ?_
    refine aa 6 ?_
    refine AOps.nil ?_
    refine AGo.ret ?_
    refine ⟨[_], ⟨rfl, trivial⟩, ?_, rfl⟩
    rfl

end Go.Proofs.Ytpijoieooikfgaa.Sv

namespace Go.Proofs.Ytpijoieooikfgaa
open Go.ChangeShapes Go.WideShapes Go.ChangeAt Go.RowKit Sv
set_option linter.unusedVariables false

set_option maxRecDepth 100000 in
theorem validShapes_lifted (os : Os) (started : os.Started) (H : Type) (enc : TypeId × Value → H) :
    ReturnsInHanded {} Try.checked os 7 .any (Rows.validShapesSpec.pre6 enc Try.prog Try.f7 Rows.validShapesRow.domain false) (Rows.validShapesSpec.post enc Try.prog Try.f7 false true false false) := by
  refine returnsInHanded_of_change_sized (C := Try.checked) own' started (by kernel_rfl) Try.func7
    (ChangeSpec.witness6 (enc := enc) (C := Try.checked) false ⟨#[], #[.agg #[.int .i64 0, .slice none 0 0], .int .u8 0, .agg #[.slice none 0 0]], []⟩ 8 (by kernel_rfl) (by kernel_rfl) (by kernel_rfl) (by kernel_rfl)) ?_
  intro W base args ds gs before hval0 hW hcnd hwt0 hh
  have hval : ∀ (j : Nat) t v, Try.f7.params[j]? = some t → args[j]? = some v → Value.okWide Try.prog W .any base t v := hval0
  have hW' := hW
  obtain ⟨p, q, hA0, hV, rfl, hfz, hnd⟩ := hW
  have hA : DataW.TrodAll enc Try.prog W 0 (fun _ => true) true Try.f7.params.toList args.toList ds p := hA0
  have hwt : (DataW.weightsEach Try.prog (Try.f7.params.toList ++ Rows.validShapesSpec.plain.varTypes Try.prog) (ds ++ gs)).all (· ≤ reachBytes) = true := hwt0
  rw [Try.params7] at hA hval hwt
  obtain ⟨v0, vs0, d0, ds0, p0, q0, hargs, rfl, rfl, h0, r0⟩ := trodAll_cons hA
  obtain ⟨v1, vs1, d1, ds1, p1, q1, rfl, rfl, rfl, h1, r1⟩ := trodAll_cons r0
  obtain ⟨v2, vs2, d2, ds2, p2, q2, rfl, rfl, rfl, h2, r2⟩ := trodAll_cons r1
  obtain ⟨rfl, rfl, rfl⟩ := trodAll_nil r2
  obtain rfl : args = #[v0, v1, v2] := by cases args; simp_all
  obtain ⟨rfl, rfl⟩ := trodVars_none hV
  obtain ⟨x0, e0, g0⟩ := arg_one h0 (weightsEach_get hwt (i := 0) rfl rfl) decBFunc
  obtain ⟨x1, rfl, rfl, rfl, w1⟩ := open_int Try.underlying5 (hval 1 5 v1 rfl rfl) h1
  obtain ⟨x2, e2, g2⟩ := arg_one h2 (weightsEach_get hwt (i := 2) rfl rfl) decCert
  exact law_calls laidOut' rfl (by kernel_rfl) rfl bool' rfl rfl rfl hW' (.cons (e0.val (okWide_agg tok rfl rfl (hval 0 24 v0 rfl rfl))) (.cons (.int _ _ _) (.cons (e2.val (okWide_agg tok rfl rfl (hval 2 27 v2 rfl rfl))) .nil))) (validShapes_ok x0 x1 x2 g0 (wf_u8 w1) g2) (fun g l h => by cases h)

theorem validShapes_holds : Rows.ValidShapesSaid :=
  OpenClaim.holds_of_wide 7 Try.f7 rfl rfl rfl rfl rfl rfl rfl ⟨rfl, rfl, rfl, rfl, rfl⟩ rfl rfl rfl rfl rfl (by kernel_rfl) Try.func7 (by kernel_rfl)
    (of_decide_eq_true (by kernel_rfl)) (by unfold Func.isWrapper; first | (rw [if_pos (by decide +kernel)]; kernel_rfl) | (rw [if_neg (by decide +kernel)]; exact ⟨rfl, rfl⟩))
    (fun os started H enc _ => validShapes_lifted os started H enc)

end Go.Proofs.Ytpijoieooikfgaa
