/-
  WALKS: printed by a program of our own from the code's tree.
  WALKS: printed by a program of our own from the code's tree.
  WALKS: printed by a program of our own from the code's tree.
  WALKS: printed by a program of our own from the code's tree.
  WALKS: printed by a program of our own from the code's tree.
  WALKS: printed by a program of our own from the code's tree.
  WALKS: printed by a program of our own from the code's tree.
-/
import Derived.Test.YtpijoieooikfgaaPValidCheck3
import Derived.Test.YtpijoieooikfgaaPValidCheck4
import Derived.Test.YtpijoieooikfgaaPValidCheck2
namespace Go.Proofs.Ytpijoieooikfgaa.Sv
open Go

set_option maxHeartbeats 1000000 in
set_option maxRecDepth 100000 in
theorem shaped_ok (old new : BFunc) (hno : old.blocks.length ≤ 10000) (hnn : new.blocks.length ≤ 10000) (hio : ∀ x ∈ old.blocks, x.ins.length ≤ 10000 ∧ insW x.ins) (hin : ∀ x ∈ new.blocks, x.ins.length ≤ 10000 ∧ insW x.ins) : APure Try.prog 26 [.agg old.cells, .agg new.cells] (fun r => r = .bool (vshaped old new)) := by
 refine APure.of_body (n := 65) tok Try.func26 rfl rfl ?_
 refine AGo.seq ?_
 refine AGo.region ?_
 refine ax 2 (o_box (sz := 2) 0 rfl rfl rfl rfl (Nat.zero_lt_succ _) rfl) ?_
 refine ax 3 (o_box (sz := 2) 1 rfl rfl rfl rfl (Nat.zero_lt_succ _) rfl) ?_
 refine aa 4 ?_
 refine AOps.nil ?_
 refine AGo.seq ?_
 refine AGo.seq ?_
 refine AGo.region ?_
 refine af 8 tok ?_
 refine al 9 tok ?_
 refine af 10 tok ?_
 refine al 11 tok ?_
 refine aq 12 (q_bin rfl rfl rfl rfl) ?_
 refine am 13 ?_
 refine AOps.split 13 rfl (fun hb1 => ?_) (fun hb1 => ?_)
 ·
  refine ak 14 ?_
  refine ak 15 ?_
  refine ak 16 ?_
  refine ak 17 ?_
  refine ak 18 ?_
  refine ak 19 ?_
  refine ak 20 ?_
  refine aq 21 (q_pick_true true rfl rfl rfl rfl) ?_
  refine am 22 ?_
  refine ak 23 ?_
  refine ak 24 ?_
  refine ak 25 ?_
  refine aq 26 (q_pick_true true rfl rfl rfl rfl) ?_
  refine am 27 ?_
  refine ak 28 ?_
  refine ak 29 ?_
  refine ak 30 ?_
  refine aq 31 (q_pick_true true rfl rfl rfl rfl) ?_
  refine AOps.nil ?_
  refine AGo.cond_true true rfl rfl ?_
  refine AGo.seq ?_
  refine AGo.region ?_
  refine aa 4 ?_
  refine AOps.nil ?_
  refine AGo.ret ?_
  refine ⟨[_], ⟨rfl, trivial⟩, ?_, rfl⟩
  show AV.bool _ = AV.bool _
  congr 1
  first
  | exact (vshaped_regs (by assumption)).symm
  | exact (vshaped_len' (by assumption)).symm
  | exact (vshaped_s1 (ndec_same' (b := old.stands) (by assumption))).symm
  | exact (vshaped_s2 (ndec_same' (b := new.stands) (by assumption))).symm
 ·
  refine af 14 tok ?_
  refine al 15 tok ?_
  refine aq 16 (q_len tok rfl rfl rfl rfl rfl) ?_
  refine af 17 tok ?_
  refine al 18 tok ?_
  refine aq 19 (q_len tok rfl rfl rfl rfl rfl) ?_
  refine aq 20 (q_bin rfl rfl rfl rfl) ?_
  refine aq 21 (q_pick_false false rfl rfl rfl rfl) ?_
  refine am 22 ?_
  refine AOps.split 22 rfl (fun hb2 => ?_) (fun hb2 => ?_)
  ·
   refine ak 23 ?_
   refine ak 24 ?_
   refine ak 25 ?_
   refine aq 26 (q_pick_true true rfl rfl rfl rfl) ?_
   refine am 27 ?_
   refine ak 28 ?_
   refine ak 29 ?_
   refine ak 30 ?_
   refine aq 31 (q_pick_true true rfl rfl rfl rfl) ?_
   refine AOps.nil ?_
   refine AGo.cond_true true rfl rfl ?_
   refine AGo.seq ?_
   refine AGo.region ?_
   refine aa 4 ?_
   refine AOps.nil ?_
   refine AGo.ret ?_
   refine ⟨[_], ⟨rfl, trivial⟩, ?_, rfl⟩
   show AV.bool _ = AV.bool _
   congr 1
   first
   | exact (vshaped_regs (by assumption)).symm
   | exact (vshaped_len' (by assumption)).symm
   | exact (vshaped_s1 (ndec_same' (b := old.stands) (by assumption))).symm
   | exact (vshaped_s2 (ndec_same' (b := new.stands) (by assumption))).symm
  ·
   refine al 23 tok ?_
   refine ax 24 (o_pure rfl Try.func34 (by kernel_rfl) rfl rfl rfl (stands_ok old (by omega) (fun x hx => by have := (hio x hx).1; omega))) ?_
   refine aq 25 (q_not rfl rfl) ?_
   refine aq 26 (q_pick_false false rfl rfl rfl rfl) ?_
   refine am 27 ?_
   refine AOps.split 27 rfl (fun hb3 => ?_) (fun hb3 => ?_)
   ·
    refine ak 28 ?_
    refine ak 29 ?_
    refine ak 30 ?_
    refine aq 31 (q_pick_true true rfl rfl rfl rfl) ?_
    refine AOps.nil ?_
    refine AGo.cond_true true rfl rfl ?_
    refine AGo.seq ?_
    refine AGo.region ?_
    refine aa 4 ?_
    refine AOps.nil ?_
    refine AGo.ret ?_
    refine ⟨[_], ⟨rfl, trivial⟩, ?_, rfl⟩
    show AV.bool _ = AV.bool _
    congr 1
    first
    | exact (vshaped_regs (by assumption)).symm
    | exact (vshaped_len' (by assumption)).symm
    | exact (vshaped_s1 (ndec_same' (b := old.stands) (by assumption))).symm
    | exact (vshaped_s2 (ndec_same' (b := new.stands) (by assumption))).symm
   ·
    refine al 28 tok ?_
    refine ax 29 (o_pure rfl Try.func34 (by kernel_rfl) rfl rfl rfl (stands_ok new (by omega) (fun x hx => by have := (hin x hx).1; omega))) ?_
    refine aq 30 (q_not rfl rfl) ?_
    refine aq 31 (q_pick_false false rfl rfl rfl rfl) ?_
    refine AOps.nil ?_
    refine AGo.split 31 rfl (fun hb4 => ?_) (fun hb4 => ?_)
    ·
     refine AGo.cond_true true rfl rfl ?_
     refine AGo.seq ?_
     refine AGo.region ?_
     refine aa 4 ?_
     refine AOps.nil ?_
     refine AGo.ret ?_
     refine ⟨[_], ⟨rfl, trivial⟩, ?_, rfl⟩
     show AV.bool _ = AV.bool _
     congr 1
     first
     | exact (vshaped_regs (by assumption)).symm
     | exact (vshaped_len' (by assumption)).symm
     | exact (vshaped_s1 (ndec_same' (b := old.stands) (by assumption))).symm
     | exact (vshaped_s2 (ndec_same' (b := new.stands) (by assumption))).symm
    ·
     refine AGo.cond_false false rfl rfl ?_
     have hlen := len_eq' (by assumption)
     refine AGo.skip ?_
     refine AGo.seq ?_
     refine AGo.seq ?_
     refine AGo.region ?_
     refine af 32 tok ?_
     refine al 33 tok ?_
     refine aq 34 (q_len tok rfl rfl rfl rfl rfl) ?_
     refine am 35 ?_
     refine AOps.nil ?_
     refine AGo.block ?_
     refine AGo.loopD (γ := Nat) 2 (fun k => ⟨65, (eput (eput (eput (eput (eput eNew 2 (.ptr 0 1 0 0)) 3 (.ptr 1 1 0 0)) 33 (blocksAV old.blocks)) 34 (.int .i64 (old.blocks.length : Int))) 35 (.int .i64 (k : Int))), (hput (hput (hFrom 2) 0 (.row false 2 [old.cells])) 1 (.row false 2 [new.cells]))⟩) (fun k => k ≤ old.blocks.length ∧ ((old.blocks.zip new.blocks).take k).all (fun p => shapeB p.1 p.2) = true) (fun k => old.blocks.length - k) 0 (Sub.mk' (by repeat (first | exact ESub.new _ | refine ESub.put ?_ (by first | rfl | exact congrArg (fun (n : Nat) => some (AV.int .i64 (n : Int))) (by simp)))) (by repeat (first | exact HSub.refl _ | exact HSub.none _ | exact HSub.from_new _ | exact HSub.from_from (by first | decide | omega | (dsimp only; omega)) | refine HSub.put ?_ (by rfl) | refine HSub.from_put ?_ (by first | decide | omega | (dsimp only; omega)) | refine HSub.from_rm ?_ (by decide)))) ⟨Nat.zero_le _, rfl⟩ (fun _ => hput_free (hput_free (fun b hb => hFrom_free hb) rfl) rfl) ?_
     intro k ⟨hk, hall⟩
     refine AGo.seq ?_
     refine AGo.region ?_
     refine aq 36 (q_bin rfl rfl rfl rfl) ?_
     refine AOps.nil ?_
     refine AGo.seq ?_
     refine AGo.split 36 rfl (fun hb5 => ?_) (fun hb5 => ?_)
     ·
      refine AGo.cond_true true rfl rfl ?_
      have hkl : k < old.blocks.length := by simpa using hb5
      obtain ⟨x, hx⟩ := get_of_lt hkl
      obtain ⟨y, hy⟩ := get_of_lt (l := new.blocks) (k := k) (by omega)
      refine AGo.skip ?_
      refine AGo.seq ?_
      refine AGo.block ?_
      refine AGo.seq ?_
      refine AGo.region ?_
      refine am 37 ?_
      refine aq 38 (q_index_lst tok rfl rfl rfl rfl rfl rfl (Int.natCast_nonneg _) (idx_map hx) rfl) ?_
      refine al 39 tok ?_
      refine ax 6 (o_alloc tok 2 rfl rfl rfl rfl (Nat.zero_lt_succ _) rfl) ?_
      refine aa 5 ?_
      refine AOps.w rfl rfl (o_store tok rfl rfl rfl rfl rfl rfl rfl rfl rfl (by decide) rfl (by first | exact fun _ => rfl | (intro h; cases h))) ?_
      refine AOps.nil ?_
      refine AGo.seq ?_
      refine AGo.region ?_
      refine af 40 tok ?_
      refine al 41 tok ?_
      refine am 42 ?_
      refine aq 43 (q_index_lst tok rfl rfl rfl rfl rfl rfl (Int.natCast_nonneg _) (idx_map hy) rfl) ?_
      refine al 44 tok ?_
      refine ax 7 (o_alloc tok 3 rfl rfl rfl rfl (Nat.zero_lt_succ _) rfl) ?_
      refine AOps.w rfl rfl (o_store tok rfl rfl rfl rfl rfl rfl rfl rfl rfl (by decide) rfl (by first | exact fun _ => rfl | (intro h; cases h))) ?_
      refine AOps.nil ?_
      refine AGo.seq ?_
      refine AGo.region ?_
      refine af 45 tok ?_
      refine al 46 tok ?_
      refine af 47 tok ?_
      refine al 48 tok ?_
      refine aq 49 (q_bin rfl rfl rfl rfl) ?_
      refine am 50 ?_
      refine AOps.split 50 rfl (fun hb6 => ?_) (fun hb6 => ?_)
      ·
       refine ak 51 ?_
       refine ak 52 ?_
       refine ak 53 ?_
       refine ak 54 ?_
       refine ak 55 ?_
       refine aq 56 (q_pick_true true rfl rfl rfl rfl) ?_
       refine am 57 ?_
       refine ak 58 ?_
       refine ak 59 ?_
       refine ak 60 ?_
       refine ak 61 ?_
       refine ak 62 ?_
       refine aq 63 (q_pick_true true rfl rfl rfl rfl) ?_
       refine AOps.nil ?_
       refine AGo.cond_true true rfl rfl ?_
       refine AGo.seq ?_
       refine AGo.region ?_
       refine aa 4 ?_
       refine AOps.nil ?_
       refine AGo.ret ?_
       refine ⟨[_], ⟨rfl, trivial⟩, ?_, rfl⟩
       show AV.bool _ = AV.bool _
       congr 1
       first
       | exact (vshaped_b hx hy (shape_f (by assumption))).symm
       | exact (vshaped_b hx hy (shape_t (by assumption))).symm
       | exact (vshaped_b hx hy (shape_e (by assumption))).symm
      ·
       refine af 51 tok ?_
       refine al 52 tok ?_
       refine af 53 tok ?_
       refine al 54 tok ?_
       refine aq 55 (q_bin rfl rfl rfl rfl) ?_
       refine aq 56 (q_pick_false false rfl rfl rfl rfl) ?_
       refine am 57 ?_
       refine AOps.split 57 rfl (fun hb7 => ?_) (fun hb7 => ?_)
       ·
        refine ak 58 ?_
        refine ak 59 ?_
        refine ak 60 ?_
        refine ak 61 ?_
        refine ak 62 ?_
        refine aq 63 (q_pick_true true rfl rfl rfl rfl) ?_
        refine AOps.nil ?_
        refine AGo.cond_true true rfl rfl ?_
        refine AGo.seq ?_
        refine AGo.region ?_
        refine aa 4 ?_
        refine AOps.nil ?_
        refine AGo.ret ?_
        refine ⟨[_], ⟨rfl, trivial⟩, ?_, rfl⟩
        show AV.bool _ = AV.bool _
        congr 1
        first
        | exact (vshaped_b hx hy (shape_f (by assumption))).symm
        | exact (vshaped_b hx hy (shape_t (by assumption))).symm
        | exact (vshaped_b hx hy (shape_e (by assumption))).symm
       ·
        refine af 58 tok ?_
        refine al 59 tok ?_
        refine af 60 tok ?_
        refine al 61 tok ?_
        refine aq 62 (q_bin rfl rfl rfl rfl) ?_
        refine aq 63 (q_pick_false false rfl rfl rfl rfl) ?_
        refine AOps.nil ?_
        refine AGo.split 63 rfl (fun hb8 => ?_) (fun hb8 => ?_)
        ·
         refine AGo.cond_true true rfl rfl ?_
         refine AGo.seq ?_
         refine AGo.region ?_
         refine aa 4 ?_
         refine AOps.nil ?_
         refine AGo.ret ?_
         refine ⟨[_], ⟨rfl, trivial⟩, ?_, rfl⟩
         show AV.bool _ = AV.bool _
         congr 1
         first
         | exact (vshaped_b hx hy (shape_f (by assumption))).symm
         | exact (vshaped_b hx hy (shape_t (by assumption))).symm
         | exact (vshaped_b hx hy (shape_e (by assumption))).symm
        ·
         refine AGo.cond_false false rfl rfl ?_
         refine AGo.skip ?_
         refine AGo.region ?_
         refine aq 64 (q_inc rfl rfl hkl (show old.blocks.length ≤ maxLen by simp only [maxLen]; omega)) ?_
         refine am 35 ?_
         refine AOps.nil ?_
         exact ⟨k+1, Drop.mk' (by repeat (first | exact EDrop.new _ _ | refine EDrop.put ?_ (by rfl) (by first | rfl | exact slA_avoid _ rfl | exact vaA_avoid _ rfl))) (by repeat (first | exact HDrop.none _ _ | exact HDrop.tail _ _ | refine HDrop.put ?_ (by rfl) rfl (by first | rfl | exact slO_avoid _ _ | exact vaO_avoid _ | exact tab_avoid _ _ rfl rfl | exact wlk_avoid _ _ _ rfl rfl rfl))), ⟨hkl, all_succ (zip_at hx hy) hall (shape_y (by assumption) (by assumption) (by assumption))⟩, by omega⟩
     ·
      refine AGo.cond_false false rfl rfl ?_
      have hge : old.blocks.length ≤ k := by simpa using hb5
      refine AGo.exit ?_
      refine AGo.seq ?_
      refine AGo.region ?_
      refine aa 4 ?_
      refine AOps.nil ?_
      refine AGo.ret ?_
      refine ⟨[_], ⟨rfl, trivial⟩, ?_, rfl⟩
      show AV.bool _ = AV.bool _
      congr 1
      exact (vshaped_yes (bne_eq' (by assumption)) hlen (ndec_same (by assumption)) (ndec_same (by assumption)) (all_end hall (by rw [List.length_zip]; omega))).symm

set_option maxHeartbeats 1000000 in
set_option maxRecDepth 100000 in
theorem vcheck_ok (old new : BFunc) (hno : old.blocks.length ≤ 10000) (hnn : new.blocks.length ≤ 10000) (hio : ∀ x ∈ old.blocks, x.ins.length ≤ 10000 ∧ insW x.ins) (hin : ∀ x ∈ new.blocks, x.ins.length ≤ 10000 ∧ insW x.ins) (c : Cert) : APure Try.prog 14 [.agg old.cells, .agg new.cells, .agg c.cells] (fun r => r = .bool (vcheck old new c)) := by
 refine APure.of_body (n := 66) tok Try.func14 rfl rfl ?_
 refine AGo.seq ?_
 refine AGo.region ?_
 refine ax 3 (o_box (sz := 2) 0 rfl rfl rfl rfl (Nat.zero_lt_succ _) rfl) ?_
 refine ax 4 (o_box (sz := 2) 1 rfl rfl rfl rfl (Nat.zero_lt_succ _) rfl) ?_
 refine ax 5 (o_box (sz := 1) 2 rfl rfl rfl rfl (Nat.zero_lt_succ _) rfl) ?_
 refine aa 6 ?_
 refine AOps.nil ?_
 refine AGo.seq ?_
 refine AGo.seq ?_
 refine AGo.region ?_
 refine al 11 tok ?_
 refine al 12 tok ?_
 refine ax 13 (o_pure rfl Try.func26 (by kernel_rfl) rfl rfl rfl (shaped_ok old new hno hnn hio hin)) ?_
 refine aq 14 (q_not rfl rfl) ?_
 refine am 15 ?_
 refine AOps.split 15 rfl (fun hb1 => ?_) (fun hb1 => ?_)
 ·
  refine ak 16 ?_
  refine ak 17 ?_
  refine ak 18 ?_
  refine ak 19 ?_
  refine ak 20 ?_
  refine ak 21 ?_
  refine ak 22 ?_
  refine aq 23 (q_pick_true true rfl rfl rfl rfl) ?_
  refine AOps.nil ?_
  refine AGo.cond_true true rfl rfl ?_
  refine AGo.seq ?_
  refine AGo.region ?_
  refine aa 6 ?_
  refine AOps.nil ?_
  refine AGo.ret ?_
  refine ⟨[_], ⟨rfl, trivial⟩, ?_, rfl⟩
  show AV.bool _ = AV.bool _
  congr 1
  first
  | exact (vcheck_no1 (ndec_same' (b := vshaped old new) (by assumption))).symm
  | exact (vcheck_no2 (by assumption)).symm
 ·
  refine af 16 tok ?_
  refine al 17 tok ?_
  refine aq 18 (q_len tok rfl rfl rfl rfl rfl) ?_
  refine af 19 tok ?_
  refine al 20 tok ?_
  refine aq 21 (q_len tok rfl rfl rfl rfl rfl) ?_
  refine aq 22 (q_bin rfl rfl rfl rfl) ?_
  refine aq 23 (q_pick_false false rfl rfl rfl rfl) ?_
  refine AOps.nil ?_
  refine AGo.split 23 rfl (fun hb2 => ?_) (fun hb2 => ?_)
  ·
   refine AGo.cond_true true rfl rfl ?_
   refine AGo.seq ?_
   refine AGo.region ?_
   refine aa 6 ?_
   refine AOps.nil ?_
   refine AGo.ret ?_
   refine ⟨[_], ⟨rfl, trivial⟩, ?_, rfl⟩
   show AV.bool _ = AV.bool _
   congr 1
   first
   | exact (vcheck_no1 (ndec_same' (b := vshaped old new) (by assumption))).symm
   | exact (vcheck_no2 (by assumption)).symm
  ·
   refine AGo.cond_false false rfl rfl ?_
   have hsh : vshaped old new = true := ndec_same (by assumption)
   have hcl := cert_len (old := old) (c := c) (by assumption)
   have hV := vshaped_of hsh
   have hSo := stands_of hV.so
   have hSn := stands_of hV.sn
   have hr0 := hSo.r0
   have hr1 := hSo.r1
   have hR : ((old.regs.toNat : Nat) : Int) = old.regs := Int.toNat_of_nonneg hr0
   refine AGo.skip ?_
   refine AGo.seq ?_
   refine AGo.seq ?_
   refine AGo.region ?_
   refine af 24 tok ?_
   refine al 25 tok ?_
   refine aq 26 (q_len tok rfl rfl rfl rfl rfl) ?_
   refine am 27 ?_
   refine AOps.nil ?_
   refine AGo.block ?_
   refine AGo.loopD (γ := Nat) 3 (fun j => ⟨66, (eput (eput (eput (eput (eput (eput eNew 3 (.ptr 0 1 0 0)) 4 (.ptr 1 1 0 0)) 5 (.ptr 2 1 0 0)) 25 (rowsAV c.same)) 26 (.int .i64 (c.same.length : Int))) 27 (.int .i64 (j : Int))), (hput (hput (hput (hFrom 3) 0 (.row false 2 [old.cells])) 1 (.row false 2 [new.cells])) 2 (.row false 1 [c.cells]))⟩) (fun j => j ≤ c.same.length ∧ (c.same.take j).all (fun r => decide ((r.length : Int) = old.regs)) = true) (fun j => c.same.length - j) 0 (Sub.mk' (by repeat (first | exact ESub.new _ | refine ESub.put ?_ (by first | rfl | exact congrArg (fun (n : Nat) => some (AV.int .i64 (n : Int))) (by simp)))) (by repeat (first | exact HSub.refl _ | exact HSub.none _ | exact HSub.from_new _ | exact HSub.from_from (by first | decide | omega | (dsimp only; omega)) | refine HSub.put ?_ (by rfl) | refine HSub.from_put ?_ (by first | decide | omega | (dsimp only; omega)) | refine HSub.from_rm ?_ (by decide)))) ⟨Nat.zero_le _, rfl⟩ (fun _ => hput_free (hput_free (hput_free (fun b hb => hFrom_free hb) rfl) rfl) rfl) ?_
   intro j ⟨hj, hall⟩
   refine AGo.seq ?_
   refine AGo.region ?_
   refine aq 28 (q_bin rfl rfl rfl rfl) ?_
   refine AOps.nil ?_
   refine AGo.seq ?_
   refine AGo.split 28 rfl (fun hb3 => ?_) (fun hb3 => ?_)
   ·
    refine AGo.cond_true true rfl rfl ?_
    have hjl : j < c.same.length := by have h := hb3; simp only [List.length_map, decide_eq_true_eq] at h; omega
    obtain ⟨r, hr⟩ := get_of_lt hjl
    refine AGo.skip ?_
    refine AGo.seq ?_
    refine AGo.block ?_
    refine AGo.seq ?_
    refine AGo.region ?_
    refine aq 29 (q_index_lst tok rfl rfl rfl rfl rfl rfl (Int.natCast_nonneg _) (idx_map hr) rfl) ?_
    refine al 30 tok ?_
    refine aa 8 ?_
    refine AOps.nil ?_
    refine AGo.seq ?_
    refine AGo.region ?_
    refine am 31 ?_
    refine aq 32 (q_len tok rfl rfl rfl rfl rfl) ?_
    refine af 33 tok ?_
    refine al 34 tok ?_
    refine aq 35 (q_bin rfl rfl rfl rfl) ?_
    refine AOps.nil ?_
    refine AGo.split 35 rfl (fun hb4 => ?_) (fun hb4 => ?_)
    ·
     refine AGo.cond_true true rfl rfl ?_
     have hne : ¬ (r.length : Int) = old.regs := by have h := bne_ne' hb4; rw [List.length_map] at h; exact h
     refine AGo.seq ?_
     refine AGo.region ?_
     refine aa 6 ?_
     refine AOps.nil ?_
     refine AGo.ret ?_
     refine ⟨[_], ⟨rfl, trivial⟩, ?_, rfl⟩
     show AV.bool _ = AV.bool _
     congr 1
     exact (vcheck_no3 hr hne).symm
    ·
     refine AGo.cond_false false rfl rfl ?_
     have heq : (r.length : Int) = old.regs := by have h := bne_eq' hb4; rw [List.length_map] at h; exact h
     refine AGo.skip ?_
     refine AGo.region ?_
     refine aq 36 (q_inc rfl rfl hjl (show c.same.length ≤ maxLen by simp only [maxLen]; omega)) ?_
     refine am 27 ?_
     refine AOps.nil ?_
     exact ⟨j+1, Drop.mk' (by repeat (first | exact EDrop.new _ _ | refine EDrop.put ?_ (by rfl) (by first | rfl | exact slA_avoid _ rfl | exact vaA_avoid _ rfl))) (by repeat (first | exact HDrop.none _ _ | exact HDrop.tail _ _ | refine HDrop.put ?_ (by rfl) rfl (by first | rfl | exact slO_avoid _ _ | exact vaO_avoid _ | exact tab_avoid _ _ rfl rfl | exact wlk_avoid _ _ _ rfl rfl rfl))), ⟨hjl, all_succ hr hall (decide_eq_true heq)⟩, by omega⟩
   ·
    refine AGo.cond_false false rfl rfl ?_
    have hjge : c.same.length ≤ j := by have h := hb3; simp only [List.length_map, decide_eq_false_iff_not] at h; omega
    have hall2 := all_end hall hjge
    have hrl : ∀ r ∈ c.same, r.length = old.regs.toNat := fun r hr => by have := List.all_eq_true.1 hall2 r hr; simp only [decide_eq_true_eq] at this; omega
    refine AGo.exit ?_
    refine AGo.seq ?_
    refine AGo.region ?_
    refine al 37 tok ?_
    refine ax 38 (o_pure rfl Try.func27 (by kernel_rfl) rfl rfl rfl (next_ok old (by omega))) ?_
    refine aa 9 ?_
    refine AOps.nil ?_
    refine AGo.seq ?_
    refine AGo.seq ?_
    refine AGo.region ?_
    refine af 39 tok ?_
    refine al 40 tok ?_
    refine aq 41 (q_len tok rfl rfl rfl rfl rfl) ?_
    refine am 42 ?_
    refine AOps.nil ?_
    refine AGo.block ?_
    refine AGo.loopD (γ := Nat) 3 (fun k => ⟨66, (eput (eput (eput (eput (eput (eput eNew 3 (.ptr 0 1 0 0)) 4 (.ptr 1 1 0 0)) 5 (.ptr 2 1 0 0)) 9 (pathsAV old.nexts)) 41 (.int .i64 (old.blocks.length : Int))) 42 (.int .i64 (k : Int))), (hput (hput (hput (hFrom 3) 0 (.row false 2 [old.cells])) 1 (.row false 2 [new.cells])) 2 (.row false 1 [c.cells]))⟩) (fun k => k ≤ old.blocks.length ∧ ((old.blocks.zip new.blocks).zipIdx.take k).all (fun p => vsame old.regs.toNat p.1.1 p.1.2 c (p.2 : Int) p.1.1.nexts) = true) (fun k => old.blocks.length - k) 0 (Sub.mk' (by repeat (first | exact ESub.new _ | refine ESub.put ?_ (by first | rfl | exact congrArg (fun (n : Nat) => some (AV.int .i64 (n : Int))) (by simp)))) (by repeat (first | exact HSub.refl _ | exact HSub.none _ | exact HSub.from_new _ | exact HSub.from_from (by first | decide | omega | (dsimp only; omega)) | refine HSub.put ?_ (by rfl) | refine HSub.from_put ?_ (by first | decide | omega | (dsimp only; omega)) | refine HSub.from_rm ?_ (by decide)))) ⟨Nat.zero_le _, rfl⟩ (fun _ => hput_free (hput_free (hput_free (fun b hb => hFrom_free hb) rfl) rfl) rfl) ?_
    intro k ⟨hk, hallb⟩
    refine AGo.seq ?_
    refine AGo.region ?_
    refine aq 43 (q_bin rfl rfl rfl rfl) ?_
    refine AOps.nil ?_
    refine AGo.seq ?_
    refine AGo.split 43 rfl (fun hb5 => ?_) (fun hb5 => ?_)
    ·
     refine AGo.cond_true true rfl rfl ?_
     have hkl : k < old.blocks.length := by simpa using hb5
     obtain ⟨x, hx⟩ := get_of_lt hkl
     have hxm := List.mem_of_getElem? hx
     obtain ⟨y, hy⟩ := get_of_lt (l := new.blocks) (k := k) (by have := hV.len; omega)
     have hym := List.mem_of_getElem? hy
     have hsb := hV.b k x y hx hy
     have hnx : ∀ q ∈ x.nexts, 0 ≤ q ∧ q < c.same.length := fun q hq => by rw [hcl]; exact hSo.next x hxm q hq
     have hvv : x.fin = 2 → (0 ≤ x.v ∧ x.v < (old.regs.toNat : Int)) ∧ (0 ≤ y.v ∧ y.v < (old.regs.toNat : Int)) := fun hf => by rw [hR]; refine ⟨hSo.v x hxm hf, ?_⟩; rw [hV.regs]; exact hSn.v y hym (by rw [← hsb.1]; exact hf)
     have hto : ∀ t ∈ x.ins, TacV t old.regs.toNat := fun t ht => hSo.tacs x hxm t ht ((hio x hxm).2 t ht)
     have htn : ∀ t ∈ y.ins, TacV t old.regs.toNat := fun t ht => by rw [hV.regs]; exact hSn.tacs y hym t ht ((hin y hym).2 t ht)
     have hnl : x.nexts.length ≤ 100000 := nexts_short x
     refine AGo.skip ?_
     refine AGo.seq ?_
     refine AGo.block ?_
     refine AGo.seq ?_
     refine AGo.region ?_
     refine am 44 ?_
     refine aa 10 ?_
     refine AOps.nil ?_
     refine AGo.seq ?_
     refine AGo.draw mix ?_
     refine df 45 tok ?_
     refine dl 46 tok ?_
     refine dm 47 ?_
     refine dq 48 (q_index_lst tok rfl rfl rfl rfl rfl rfl (Int.natCast_nonneg _) (idx_map hx) rfl) ?_
     refine dl 49 tok ?_
     refine df 50 tok ?_
     refine dl 51 tok ?_
     refine dm 52 ?_
     refine dq 53 (q_index_lst tok rfl rfl rfl rfl rfl rfl (Int.natCast_nonneg _) (idx_map hy) rfl) ?_
     refine dl 54 tok ?_
     refine df 55 tok ?_
     refine dl 56 tok ?_
     refine dl 57 tok ?_
     refine dm 58 ?_
     refine dm 59 ?_
     refine dm 60 ?_
     refine dq 61 (q_index_lst tok rfl rfl rfl rfl rfl rfl (Int.natCast_nonneg _) (idx_map (nexts_get hx)) rfl) ?_
     refine dl 62 tok ?_
     refine dx 63 (o_pure rfl Try.func28 (by kernel_rfl) rfl rfl rfl ((by have h := vsame_ok x y old.regs.toNat c (k : Int) x.nexts (by omega) hrl (by omega) hnx hvv hto htn (hio x (List.mem_of_getElem? hx)).1 (hin y (List.mem_of_getElem? hy)).1 hnl; rw [hR] at h; exact h))) ?_
     refine dq 64 (q_not rfl rfl) ?_
     refine DOps.nil (by kernel_rfl) ?_
     refine AGo.split 64 rfl (fun hb6 => ?_) (fun hb6 => ?_)
     ·
      refine AGo.cond_true true rfl rfl ?_
      have hbad := ndec_same' hb6
      refine AGo.seq ?_
      refine AGo.region ?_
      refine aa 6 ?_
      refine AOps.nil ?_
      refine AGo.ret ?_
      refine ⟨[_], ⟨rfl, trivial⟩, ?_, rfl⟩
      show AV.bool _ = AV.bool _
      congr 1
      exact (vcheck_no4 hx hy hbad).symm
     ·
      refine AGo.cond_false false rfl rfl ?_
      have hgood := ndec_same hb6
      refine AGo.skip ?_
      refine AGo.region ?_
      refine aq 65 (q_inc rfl rfl hkl (show old.blocks.length ≤ maxLen by simp only [maxLen]; omega)) ?_
      refine am 42 ?_
      refine AOps.nil ?_
      exact ⟨k+1, Drop.mk' (by repeat (first | exact EDrop.new _ _ | refine EDrop.put ?_ (by rfl) (by first | rfl | exact slA_avoid _ rfl | exact vaA_avoid _ rfl))) (by repeat (first | exact HDrop.none _ _ | exact HDrop.tail _ _ | refine HDrop.put ?_ (by rfl) rfl (by first | rfl | exact slO_avoid _ _ | exact vaO_avoid _ | exact tab_avoid _ _ rfl rfl | exact wlk_avoid _ _ _ rfl rfl rfl))), ⟨hkl, all_succ (zipIdx_get (zip_at hx hy)) hallb hgood⟩, by omega⟩
    ·
     refine AGo.cond_false false rfl rfl ?_
     have hge : old.blocks.length ≤ k := by simpa using hb5
     refine AGo.exit ?_
     refine AGo.seq ?_
     refine AGo.region ?_
     refine aa 6 ?_
     refine AOps.nil ?_
     refine AGo.ret ?_
     refine ⟨[_], ⟨rfl, trivial⟩, ?_, rfl⟩
     show AV.bool _ = AV.bool _
     congr 1
     exact (vcheck_yes hsh hcl hall2 (all_end hallb (by rw [List.length_zipIdx, List.length_zip]; omega))).symm

end Go.Proofs.Ytpijoieooikfgaa.Sv

namespace Go.Proofs.Ytpijoieooikfgaa.Sv
open Go

set_option maxRecDepth 100000 in
theorem awake34_ok  : APure Try.prog 13 [] (fun r => r = .bool true) := by
 refine APure.of_body (n := 80) tok Try.func13 rfl rfl ?_
 refine AGo.seq ?_
 refine AGo.region ?_
 refine aa 0 ?_
 refine AOps.nil ?_
 refine AGo.seq ?_
 refine AGo.region ?_
 refine aq 7 (q_build tok rfl rfl rfl rfl rfl (by decide) rfl rfl rfl) ?_
 refine aq 8 (q_build tok rfl rfl rfl rfl rfl (by decide) rfl rfl rfl) ?_
 refine ax 9 (o_lit' tok rfl rfl rfl rfl rfl rfl (by decide) rfl rfl rfl rfl rfl rfl) ?_
 refine ax 10 (o_pure rfl Try.func24 (by kernel_rfl) rfl rfl rfl (one34_ok [tA, tB])) ?_
 refine ax 1 (o_alloc tok 0 rfl rfl rfl rfl (Nat.zero_lt_succ _) rfl) ?_
 refine AOps.w rfl rfl (o_store tok rfl rfl rfl rfl rfl rfl rfl rfl rfl (by decide) rfl (by first | exact fun _ => rfl | (intro h; cases h))) ?_
 refine AOps.nil ?_
 refine AGo.seq ?_
 refine AGo.region ?_
 refine aq 11 (q_build tok rfl rfl rfl rfl rfl (by decide) rfl rfl rfl) ?_
 refine aq 12 (q_build tok rfl rfl rfl rfl rfl (by decide) rfl rfl rfl) ?_
 refine aq 13 (q_build tok rfl rfl rfl rfl rfl (by decide) rfl rfl rfl) ?_
 refine ax 14 (o_lit' tok rfl rfl rfl rfl rfl rfl (by decide) rfl rfl rfl rfl rfl rfl) ?_
 refine ax 15 (o_pure rfl Try.func24 (by kernel_rfl) rfl rfl rfl (one34_ok [tC, tA, tB])) ?_
 refine ax 2 (o_alloc tok 1 rfl rfl rfl rfl (Nat.zero_lt_succ _) rfl) ?_
 refine AOps.w rfl rfl (o_store tok rfl rfl rfl rfl rfl rfl rfl rfl rfl (by decide) rfl (by first | exact fun _ => rfl | (intro h; cases h))) ?_
 refine AOps.nil ?_
 refine AGo.seq ?_
 refine AGo.region ?_
 refine aq 16 (q_build tok rfl rfl rfl rfl rfl (by decide) rfl rfl rfl) ?_
 refine aq 17 (q_build tok rfl rfl rfl rfl rfl (by decide) rfl rfl rfl) ?_
 refine aq 18 (q_build tok rfl rfl rfl rfl rfl (by decide) rfl rfl rfl) ?_
 refine ax 19 (o_lit' tok rfl rfl rfl rfl rfl rfl (by decide) rfl rfl rfl rfl rfl rfl) ?_
 refine ax 20 (o_pure rfl Try.func24 (by kernel_rfl) rfl rfl rfl (one34_ok [tD, tE, tF])) ?_
 refine ax 3 (o_alloc tok 2 rfl rfl rfl rfl (Nat.zero_lt_succ _) rfl) ?_
 refine AOps.w rfl rfl (o_store tok rfl rfl rfl rfl rfl rfl rfl rfl rfl (by decide) rfl (by first | exact fun _ => rfl | (intro h; cases h))) ?_
 refine AOps.nil ?_
 refine AGo.seq ?_
 refine AGo.region ?_
 refine aq 21 (q_build tok rfl rfl rfl rfl rfl (by decide) rfl rfl rfl) ?_
 refine ax 22 (o_lit' tok rfl rfl rfl rfl rfl rfl (by decide) rfl rfl rfl rfl rfl rfl) ?_
 refine ax 23 (o_pure rfl Try.func24 (by kernel_rfl) rfl rfl rfl (one34_ok [tG])) ?_
 refine ax 4 (o_alloc tok 3 rfl rfl rfl rfl (Nat.zero_lt_succ _) rfl) ?_
 refine AOps.w rfl rfl (o_store tok rfl rfl rfl rfl rfl rfl rfl rfl rfl (by decide) rfl (by first | exact fun _ => rfl | (intro h; cases h))) ?_
 refine AOps.nil ?_
 refine AGo.seq ?_
 refine AGo.region ?_
 refine aq 24 (q_build tok rfl rfl rfl rfl rfl (by decide) rfl rfl rfl) ?_
 refine ax 25 (o_lit' tok rfl rfl rfl rfl rfl rfl (by decide) rfl rfl rfl rfl rfl rfl) ?_
 refine ax 26 (o_pure rfl Try.func24 (by kernel_rfl) rfl rfl rfl (one34_ok [tH])) ?_
 refine ax 5 (o_alloc tok 4 rfl rfl rfl rfl (Nat.zero_lt_succ _) rfl) ?_
 refine AOps.w rfl rfl (o_store tok rfl rfl rfl rfl rfl rfl rfl rfl rfl (by decide) rfl (by first | exact fun _ => rfl | (intro h; cases h))) ?_
 refine AOps.nil ?_
 refine AGo.seq ?_
 refine AGo.region ?_
 refine ax 27 (o_pure rfl Try.func24 (by kernel_rfl) rfl rfl rfl (one34n_ok)) ?_
 refine ax 6 (o_alloc tok 5 rfl rfl rfl rfl (Nat.zero_lt_succ _) rfl) ?_
 refine AOps.w rfl rfl (o_store tok rfl rfl rfl rfl rfl rfl rfl rfl rfl (by decide) rfl (by first | exact fun _ => rfl | (intro h; cases h))) ?_
 refine AOps.nil ?_
 refine AGo.seq ?_
 refine AGo.draw mix ?_
 refine dl 28 tok ?_
 refine dl 29 tok ?_
 refine dx 30 (o_pure rfl Try.func25 (by kernel_rfl) rfl rfl rfl (none34_ok)) ?_
 refine dx 31 (o_pure rfl Try.func14 (by kernel_rfl) rfl rfl rfl ((by have h := vcheck_ok (oneF [tA, tB]) (oneF [tC, tA, tB]) (by decide) (by decide) (one_ins [tA, tB] (by decide) (by decide)) (one_ins [tC, tA, tB] (by decide) (by decide)) noneC; rw [aw1] at h; exact h))) ?_
 refine dm 32 ?_
 refine dl 33 tok ?_
 refine dl 34 tok ?_
 refine dx 35 (o_pure rfl Try.func25 (by kernel_rfl) rfl rfl rfl (none34_ok)) ?_
 refine dx 36 (o_pure rfl Try.func14 (by kernel_rfl) rfl rfl rfl ((by have h := vcheck_ok (oneF [tA, tB]) (oneF [tD, tE, tF]) (by decide) (by decide) (one_ins [tA, tB] (by decide) (by decide)) (one_ins [tD, tE, tF] (by decide) (by decide)) noneC; rw [aw2] at h; exact h))) ?_
 refine dq 37 (q_pick_true true rfl rfl rfl rfl) ?_
 refine dm 38 ?_
 refine dl 39 tok ?_
 refine dl 40 tok ?_
 refine dx 41 (o_pure rfl Try.func25 (by kernel_rfl) rfl rfl rfl (none34_ok)) ?_
 refine dx 42 (o_pure rfl Try.func14 (by kernel_rfl) rfl rfl rfl ((by have h := vcheck_ok (oneF [tG]) (oneF []) (by decide) (by decide) (one_ins [tG] (by decide) (by decide)) (one_ins [] (by decide) (by decide)) noneC; rw [aw3] at h; exact h))) ?_
 refine dq 43 (q_not rfl rfl) ?_
 refine dq 44 (q_pick_true true rfl rfl rfl rfl) ?_
 refine dm 45 ?_
 refine dl 46 tok ?_
 refine dl 47 tok ?_
 refine dx 48 (o_pure rfl Try.func25 (by kernel_rfl) rfl rfl rfl (none34_ok)) ?_
 refine dx 49 (o_pure rfl Try.func14 (by kernel_rfl) rfl rfl rfl ((by have h := vcheck_ok (oneF []) (oneF [tG]) (by decide) (by decide) (one_ins [] (by decide) (by decide)) (one_ins [tG] (by decide) (by decide)) noneC; rw [aw4] at h; exact h))) ?_
 refine dq 50 (q_not rfl rfl) ?_
 refine dq 51 (q_pick_true true rfl rfl rfl rfl) ?_
 refine dm 52 ?_
 refine dl 53 tok ?_
 refine dl 54 tok ?_
 refine dx 55 (o_pure rfl Try.func25 (by kernel_rfl) rfl rfl rfl (none34_ok)) ?_
 refine dx 56 (o_pure rfl Try.func14 (by kernel_rfl) rfl rfl rfl ((by have h := vcheck_ok (oneF [tH]) (oneF []) (by decide) (by decide) (one_ins [tH] (by decide) (by decide)) (one_ins [] (by decide) (by decide)) noneC; rw [aw5] at h; exact h))) ?_
 refine dq 57 (q_not rfl rfl) ?_
 refine dq 58 (q_pick_true true rfl rfl rfl rfl) ?_
 refine dm 59 ?_
 refine dl 60 tok ?_
 refine dl 61 tok ?_
 refine dx 62 (o_pure rfl Try.func25 (by kernel_rfl) rfl rfl rfl (none34_ok)) ?_
 refine dx 63 (o_pure rfl Try.func14 (by kernel_rfl) rfl rfl rfl ((by have h := vcheck_ok (oneF [tA, tB]) (oneF []) (by decide) (by decide) (one_ins [tA, tB] (by decide) (by decide)) (one_ins [] (by decide) (by decide)) noneC; rw [aw6] at h; exact h))) ?_
 refine dq 64 (q_not rfl rfl) ?_
 refine dq 65 (q_pick_true true rfl rfl rfl rfl) ?_
 refine dm 66 ?_
 refine dl 67 tok ?_
 refine dl 68 tok ?_
 refine dl 69 tok ?_
 refine dx 70 (o_pure rfl Try.func17 (by kernel_rfl) rfl rfl rfl (vweak_ok (oneF [tG]) (by decide) (by decide))) ?_
 refine dx 71 (o_pure rfl Try.func14 (by kernel_rfl) rfl rfl rfl ((by have h := vcheck_ok (oneF [tG]) (oneF [tG]) (by decide) (by decide) (one_ins [tG] (by decide) (by decide)) (one_ins [tG] (by decide) (by decide)) (vweak (oneF [tG])); rw [aw7] at h; exact h))) ?_
 refine dq 72 (q_pick_true true rfl rfl rfl rfl) ?_
 refine dm 73 ?_
 refine dl 74 tok ?_
 refine dl 75 tok ?_
 refine dq 76 (q_build tok rfl rfl rfl rfl rfl (by decide) rfl rfl rfl) ?_
 refine dx 77 (o_pure rfl Try.func14 (by kernel_rfl) rfl rfl rfl ((by have h := vcheck_ok (oneF [tA, tB]) (oneF [tA, tB]) (by decide) (by decide) (one_ins [tA, tB] (by decide) (by decide)) (one_ins [tA, tB] (by decide) (by decide)) ⟨[]⟩; rw [aw8] at h; exact h.weak nil_cert))) ?_
 refine dq 78 (q_not rfl rfl) ?_
 refine dq 79 (q_pick_true true rfl rfl rfl rfl) ?_
 refine da 0 ?_
 refine DOps.nil (by kernel_rfl) ?_
 refine AGo.ret ?_
 refine ⟨[_], ⟨rfl, trivial⟩, ?_, rfl⟩
 rfl

end Go.Proofs.Ytpijoieooikfgaa.Sv

namespace Go.Proofs.Ytpijoieooikfgaa.Sv
open Go

set_option maxRecDepth 100000 in
theorem sets_ok (t : Tac) : APure Try.prog 51 [.agg t.cells] (fun r => r = .int .i64 t.sets) := by
 refine APure.of_body (n := 14) tok Try.func51 rfl rfl ?_
 refine AGo.seq ?_
 refine AGo.region ?_
 refine ax 1 (o_box (sz := 8) 0 rfl rfl rfl rfl (Nat.zero_lt_succ _) rfl) ?_
 refine aa 2 ?_
 refine AOps.nil ?_
 refine AGo.seq ?_
 refine AGo.seq ?_
 refine AGo.region ?_
 refine af 3 tok ?_
 refine al 4 tok ?_
 refine AOps.nil ?_
 refine AGo.block ?_
 refine AGo.seq ?_
 refine AGo.seq ?_
 refine AGo.region ?_
 refine aq 6 (q_bin rfl rfl rfl rfl) ?_
 refine aa 5 ?_
 refine AOps.nil ?_
 refine AGo.split 5 rfl (fun hb1 => ?_) (fun hb1 => ?_)
 ·
  refine AGo.cond_true true rfl rfl ?_
  refine AGo.skip ?_
  refine AGo.cond_true true rfl rfl ?_
  refine AGo.seq ?_
  refine AGo.region ?_
  refine af 12 tok ?_
  refine al 13 tok ?_
  refine aa 2 ?_
  refine AOps.nil ?_
  refine AGo.ret ?_
  refine ⟨[_], ⟨rfl, trivial⟩, ?_, rfl⟩
  show AV.int .i64 _ = AV.int .i64 _
  congr 1
  simp [Tac.sets, setsOp, *]
 ·
  refine AGo.cond_false false rfl rfl ?_
  refine AGo.seq ?_
  refine AGo.region ?_
  refine aq 7 (q_bin rfl rfl rfl rfl) ?_
  refine aa 5 ?_
  refine AOps.nil ?_
  refine AGo.split 5 rfl (fun hb2 => ?_) (fun hb2 => ?_)
  ·
   refine AGo.cond_true true rfl rfl ?_
   refine AGo.skip ?_
   refine AGo.cond_true true rfl rfl ?_
   refine AGo.seq ?_
   refine AGo.region ?_
   refine af 12 tok ?_
   refine al 13 tok ?_
   refine aa 2 ?_
   refine AOps.nil ?_
   refine AGo.ret ?_
   refine ⟨[_], ⟨rfl, trivial⟩, ?_, rfl⟩
   show AV.int .i64 _ = AV.int .i64 _
   congr 1
   simp [Tac.sets, setsOp, *]
  ·
   refine AGo.cond_false false rfl rfl ?_
   refine AGo.seq ?_
   refine AGo.region ?_
   refine aq 8 (q_bin rfl rfl rfl rfl) ?_
   refine aa 5 ?_
   refine AOps.nil ?_
   refine AGo.split 5 rfl (fun hb3 => ?_) (fun hb3 => ?_)
   ·
    refine AGo.cond_true true rfl rfl ?_
    refine AGo.skip ?_
    refine AGo.cond_true true rfl rfl ?_
    refine AGo.seq ?_
    refine AGo.region ?_
    refine af 12 tok ?_
    refine al 13 tok ?_
    refine aa 2 ?_
    refine AOps.nil ?_
    refine AGo.ret ?_
    refine ⟨[_], ⟨rfl, trivial⟩, ?_, rfl⟩
    show AV.int .i64 _ = AV.int .i64 _
    congr 1
    simp [Tac.sets, setsOp, *]
   ·
    refine AGo.cond_false false rfl rfl ?_
    refine AGo.seq ?_
    refine AGo.region ?_
    refine aq 9 (q_bin rfl rfl rfl rfl) ?_
    refine aa 5 ?_
    refine AOps.nil ?_
    refine AGo.split 5 rfl (fun hb4 => ?_) (fun hb4 => ?_)
    ·
     refine AGo.cond_true true rfl rfl ?_
     refine AGo.skip ?_
     refine AGo.cond_true true rfl rfl ?_
     refine AGo.seq ?_
     refine AGo.region ?_
     refine af 12 tok ?_
     refine al 13 tok ?_
     refine aa 2 ?_
     refine AOps.nil ?_
     refine AGo.ret ?_
     refine ⟨[_], ⟨rfl, trivial⟩, ?_, rfl⟩
     show AV.int .i64 _ = AV.int .i64 _
     congr 1
     simp [Tac.sets, setsOp, *]
    ·
     refine AGo.cond_false false rfl rfl ?_
     refine AGo.seq ?_
     refine AGo.region ?_
     refine aq 10 (q_bin rfl rfl rfl rfl) ?_
     refine aa 5 ?_
     refine AOps.nil ?_
     refine AGo.split 5 rfl (fun hb5 => ?_) (fun hb5 => ?_)
     ·
      refine AGo.cond_true true rfl rfl ?_
      refine AGo.skip ?_
      refine AGo.cond_true true rfl rfl ?_
      refine AGo.seq ?_
      refine AGo.region ?_
      refine af 12 tok ?_
      refine al 13 tok ?_
      refine aa 2 ?_
      refine AOps.nil ?_
      refine AGo.ret ?_
      refine ⟨[_], ⟨rfl, trivial⟩, ?_, rfl⟩
      show AV.int .i64 _ = AV.int .i64 _
      congr 1
      simp [Tac.sets, setsOp, *]
     ·
      refine AGo.cond_false false rfl rfl ?_
      refine AGo.region ?_
      refine aq 11 (q_bin rfl rfl rfl rfl) ?_
      refine aa 5 ?_
      refine AOps.nil ?_
      refine AGo.split 5 rfl (fun hb6 => ?_) (fun hb6 => ?_)
      ·
       refine AGo.cond_true true rfl rfl ?_
       refine AGo.seq ?_
       refine AGo.region ?_
       refine af 12 tok ?_
       refine al 13 tok ?_
       refine aa 2 ?_
       refine AOps.nil ?_
       refine AGo.ret ?_
       refine ⟨[_], ⟨rfl, trivial⟩, ?_, rfl⟩
       show AV.int .i64 _ = AV.int .i64 _
       congr 1
       simp [Tac.sets, setsOp, *]
      ·
       refine AGo.cond_false false rfl rfl ?_
       refine AGo.skip ?_
       refine AGo.seq ?_
       refine AGo.region ?_
       refine aa 2 ?_
       refine AOps.nil ?_
       refine AGo.ret ?_
       refine ⟨[_], ⟨rfl, trivial⟩, ?_, rfl⟩
       show AV.int .i64 _ = AV.int .i64 _
       congr 1
       simp [Tac.sets, setsOp, *]

set_option maxRecDepth 100000 in
theorem uses_ok (t : Tac) : APure Try.prog 52 [.agg t.cells] (fun r => r = intsAV t.uses) := by
 refine APure.of_body (n := 21) tok Try.func52 rfl rfl ?_
 refine AGo.seq ?_
 refine AGo.region ?_
 refine ax 1 (o_box (sz := 8) 0 rfl rfl rfl rfl (Nat.zero_lt_succ _) rfl) ?_
 refine aa 2 ?_
 refine AOps.nil ?_
 refine AGo.seq ?_
 refine AGo.seq ?_
 refine AGo.region ?_
 refine af 3 tok ?_
 refine al 4 tok ?_
 refine AOps.nil ?_
 refine AGo.block ?_
 refine AGo.seq ?_
 refine AGo.seq ?_
 refine AGo.region ?_
 refine aq 6 (q_bin rfl rfl rfl rfl) ?_
 refine aa 5 ?_
 refine AOps.nil ?_
 refine AGo.split 5 rfl (fun hb1 => ?_) (fun hb1 => ?_)
 ·
  refine AGo.cond_true true rfl rfl ?_
  refine AGo.skip ?_
  refine AGo.cond_true true rfl rfl ?_
  refine AGo.seq ?_
  refine AGo.region ?_
  refine af 10 tok ?_
  refine al 11 tok ?_
  refine ax 12 (o_lit' tok rfl rfl rfl rfl rfl rfl (by decide) rfl rfl rfl rfl rfl rfl) ?_
  refine aa 2 ?_
  refine AOps.nil ?_
  refine AGo.ret ?_
  refine ⟨[_], ⟨rfl, trivial⟩, ?_, rfl⟩
  show AV.lst false _ = _
  simp [Tac.uses, use1, use2, intsAV, partVals, AV.cells, *]
 ·
  refine AGo.cond_false false rfl rfl ?_
  refine AGo.seq ?_
  refine AGo.region ?_
  refine aq 7 (q_bin rfl rfl rfl rfl) ?_
  refine aa 5 ?_
  refine AOps.nil ?_
  refine AGo.split 5 rfl (fun hb2 => ?_) (fun hb2 => ?_)
  ·
   refine AGo.cond_true true rfl rfl ?_
   refine AGo.skip ?_
   refine AGo.cond_true true rfl rfl ?_
   refine AGo.seq ?_
   refine AGo.region ?_
   refine af 10 tok ?_
   refine al 11 tok ?_
   refine ax 12 (o_lit' tok rfl rfl rfl rfl rfl rfl (by decide) rfl rfl rfl rfl rfl rfl) ?_
   refine aa 2 ?_
   refine AOps.nil ?_
   refine AGo.ret ?_
   refine ⟨[_], ⟨rfl, trivial⟩, ?_, rfl⟩
   show AV.lst false _ = _
   simp [Tac.uses, use1, use2, intsAV, partVals, AV.cells, *]
  ·
   refine AGo.cond_false false rfl rfl ?_
   refine AGo.seq ?_
   refine AGo.region ?_
   refine aq 8 (q_bin rfl rfl rfl rfl) ?_
   refine aa 5 ?_
   refine AOps.nil ?_
   refine AGo.split 5 rfl (fun hb3 => ?_) (fun hb3 => ?_)
   ·
    refine AGo.cond_true true rfl rfl ?_
    refine AGo.skip ?_
    refine AGo.cond_true true rfl rfl ?_
    refine AGo.seq ?_
    refine AGo.region ?_
    refine af 10 tok ?_
    refine al 11 tok ?_
    refine ax 12 (o_lit' tok rfl rfl rfl rfl rfl rfl (by decide) rfl rfl rfl rfl rfl rfl) ?_
    refine aa 2 ?_
    refine AOps.nil ?_
    refine AGo.ret ?_
    refine ⟨[_], ⟨rfl, trivial⟩, ?_, rfl⟩
    show AV.lst false _ = _
    simp [Tac.uses, use1, use2, intsAV, partVals, AV.cells, *]
   ·
    refine AGo.cond_false false rfl rfl ?_
    refine AGo.region ?_
    refine aq 9 (q_bin rfl rfl rfl rfl) ?_
    refine aa 5 ?_
    refine AOps.nil ?_
    refine AGo.split 5 rfl (fun hb4 => ?_) (fun hb4 => ?_)
    ·
     refine AGo.cond_true true rfl rfl ?_
     refine AGo.seq ?_
     refine AGo.region ?_
     refine af 10 tok ?_
     refine al 11 tok ?_
     refine ax 12 (o_lit' tok rfl rfl rfl rfl rfl rfl (by decide) rfl rfl rfl rfl rfl rfl) ?_
     refine aa 2 ?_
     refine AOps.nil ?_
     refine AGo.ret ?_
     refine ⟨[_], ⟨rfl, trivial⟩, ?_, rfl⟩
     show AV.lst false _ = _
     simp [Tac.uses, use1, use2, intsAV, partVals, AV.cells, *]
    ·
     refine AGo.cond_false false rfl rfl ?_
     refine AGo.seq ?_
     refine AGo.seq ?_
     refine AGo.region ?_
     refine aq 14 (q_bin rfl rfl rfl rfl) ?_
     refine aa 13 ?_
     refine AOps.nil ?_
     refine AGo.split 13 rfl (fun hb5 => ?_) (fun hb5 => ?_)
     ·
      refine AGo.cond_true true rfl rfl ?_
      refine AGo.skip ?_
      refine AGo.cond_true true rfl rfl ?_
      refine AGo.seq ?_
      refine AGo.region ?_
      refine af 16 tok ?_
      refine al 17 tok ?_
      refine af 18 tok ?_
      refine al 19 tok ?_
      refine ax 20 (o_lit' tok rfl rfl rfl rfl rfl rfl (by decide) rfl rfl rfl rfl rfl rfl) ?_
      refine aa 2 ?_
      refine AOps.nil ?_
      refine AGo.ret ?_
      refine ⟨[_], ⟨rfl, trivial⟩, ?_, rfl⟩
      show AV.lst false _ = _
      simp [Tac.uses, use1, use2, intsAV, partVals, AV.cells, *]
     ·
      refine AGo.cond_false false rfl rfl ?_
      refine AGo.region ?_
      refine aq 15 (q_bin rfl rfl rfl rfl) ?_
      refine aa 13 ?_
      refine AOps.nil ?_
      refine AGo.split 13 rfl (fun hb6 => ?_) (fun hb6 => ?_)
      ·
       refine AGo.cond_true true rfl rfl ?_
       refine AGo.seq ?_
       refine AGo.region ?_
       refine af 16 tok ?_
       refine al 17 tok ?_
       refine af 18 tok ?_
       refine al 19 tok ?_
       refine ax 20 (o_lit' tok rfl rfl rfl rfl rfl rfl (by decide) rfl rfl rfl rfl rfl rfl) ?_
       refine aa 2 ?_
       refine AOps.nil ?_
       refine AGo.ret ?_
       refine ⟨[_], ⟨rfl, trivial⟩, ?_, rfl⟩
       show AV.lst false _ = _
       simp [Tac.uses, use1, use2, intsAV, partVals, AV.cells, *]
      ·
       refine AGo.cond_false false rfl rfl ?_
       refine AGo.skip ?_
       refine AGo.seq ?_
       refine AGo.region ?_
       refine aa 2 ?_
       refine AOps.nil ?_
       refine AGo.ghost (.empty 2 rfl) ?_
       refine AGo.ret ?_
       refine ⟨[_], ⟨rfl, trivial⟩, ?_, rfl⟩
       show AV.lst false _ = _
       simp [Tac.uses, use1, use2, intsAV, partVals, AV.cells, *]

set_option maxRecDepth 100000 in
theorem within_ok (i j : Int) : APure Try.prog 50 [.int .i64 i, .int .i64 j] (fun r => r = .bool (within i j)) := by
 refine APure.of_body (n := 12) tok Try.func50 rfl rfl ?_
 refine AGo.seq ?_
 refine AGo.region ?_
 refine aa 4 ?_
 refine AOps.nil ?_
 refine AGo.seq ?_
 refine AGo.region ?_
 refine am 5 ?_
 refine aq 6 (q_bin rfl rfl rfl rfl) ?_
 refine am 7 ?_
 refine AOps.split 7 rfl (fun hb1 => ?_) (fun hb1 => ?_)
 ·
  refine am 8 ?_
  refine am 9 ?_
  refine aq 10 (q_bin rfl rfl rfl rfl) ?_
  refine aq 11 (q_pick_true true rfl rfl rfl rfl) ?_
  refine aa 4 ?_
  refine AOps.nil ?_
  refine AGo.ret ?_
  refine ⟨[_], ⟨rfl, trivial⟩, ?_, rfl⟩
  show AV.bool _ = AV.bool _
  congr 1
  simp_all [within] <;> omega
 ·
  refine ak 8 ?_
  refine ak 9 ?_
  refine ak 10 ?_
  refine aq 11 (q_pick_false false rfl rfl rfl rfl) ?_
  refine aa 4 ?_
  refine AOps.nil ?_
  refine AGo.ret ?_
  refine ⟨[_], ⟨rfl, trivial⟩, ?_, rfl⟩
  show AV.bool _ = AV.bool _
  congr 1
  simp_all [within] <;> omega

set_option maxRecDepth 100000 in
theorem ends_ok (b : Block) (blocks regs : Int) : APure Try.prog 40 [.agg b.cells, .int .i64 blocks, .int .i64 regs] (fun r => r = .bool (b.ends blocks regs)) := by
 refine APure.of_body (n := 61) tok Try.func40 rfl rfl ?_
 refine AGo.seq ?_
 refine AGo.region ?_
 refine ax 3 (o_box (sz := 5) 0 rfl rfl rfl rfl (Nat.zero_lt_succ _) rfl) ?_
 refine aa 6 ?_
 refine AOps.nil ?_
 refine AGo.seq ?_
 refine AGo.seq ?_
 refine AGo.region ?_
 refine af 7 tok ?_
 refine al 8 tok ?_
 refine AOps.nil ?_
 refine AGo.block ?_
 refine AGo.seq ?_
 refine AGo.region ?_
 refine aq 10 (q_bin rfl rfl rfl rfl) ?_
 refine aa 9 ?_
 refine AOps.nil ?_
 refine AGo.split 9 rfl (fun hb1 => ?_) (fun hb1 => ?_)
 ·
  refine AGo.cond_true true rfl rfl ?_
  refine AGo.seq ?_
  refine AGo.region ?_
  refine af 11 tok ?_
  refine al 12 tok ?_
  refine am 13 ?_
  refine ax 14 (o_pure rfl Try.func50 (by kernel_rfl) rfl rfl rfl (within_ok _ _)) ?_
  refine am 15 ?_
  refine AOps.split 15 rfl (fun hb2 => ?_) (fun hb2 => ?_)
  ·
   refine af 16 tok ?_
   refine al 17 tok ?_
   refine aq 18 (q_bin rfl rfl rfl rfl) ?_
   refine aq 19 (q_pick_true true rfl rfl rfl rfl) ?_
   refine am 20 ?_
   refine AOps.split 20 rfl (fun hb3 => ?_) (fun hb3 => ?_)
   ·
    refine af 21 tok ?_
    refine al 22 tok ?_
    refine aq 23 (q_bin rfl rfl rfl rfl) ?_
    refine aq 24 (q_pick_true true rfl rfl rfl rfl) ?_
    refine aa 6 ?_
    refine AOps.nil ?_
    refine AGo.ret ?_
    refine ⟨[_], ⟨rfl, trivial⟩, ?_, rfl⟩
    show AV.bool _ = AV.bool _
    congr 1
    simp_all [Block.ends]
   ·
    refine ak 21 ?_
    refine ak 22 ?_
    refine ak 23 ?_
    refine aq 24 (q_pick_false false rfl rfl rfl rfl) ?_
    refine aa 6 ?_
    refine AOps.nil ?_
    refine AGo.ret ?_
    refine ⟨[_], ⟨rfl, trivial⟩, ?_, rfl⟩
    show AV.bool _ = AV.bool _
    congr 1
    simp_all [Block.ends]
  ·
   refine ak 16 ?_
   refine ak 17 ?_
   refine ak 18 ?_
   refine aq 19 (q_pick_false false rfl rfl rfl rfl) ?_
   refine am 20 ?_
   refine ak 21 ?_
   refine ak 22 ?_
   refine ak 23 ?_
   refine aq 24 (q_pick_false false rfl rfl rfl rfl) ?_
   refine aa 6 ?_
   refine AOps.nil ?_
   refine AGo.ret ?_
   refine ⟨[_], ⟨rfl, trivial⟩, ?_, rfl⟩
   show AV.bool _ = AV.bool _
   congr 1
   simp_all [Block.ends]
 ·
  refine AGo.cond_false false rfl rfl ?_
  refine AGo.seq ?_
  refine AGo.region ?_
  refine aq 26 (q_bin rfl rfl rfl rfl) ?_
  refine aa 25 ?_
  refine AOps.nil ?_
  refine AGo.split 25 rfl (fun hb4 => ?_) (fun hb4 => ?_)
  ·
   refine AGo.cond_true true rfl rfl ?_
   refine AGo.seq ?_
   refine AGo.region ?_
   refine af 27 tok ?_
   refine al 28 tok ?_
   refine am 29 ?_
   refine ax 30 (o_pure rfl Try.func50 (by kernel_rfl) rfl rfl rfl (within_ok _ _)) ?_
   refine am 31 ?_
   refine AOps.split 31 rfl (fun hb5 => ?_) (fun hb5 => ?_)
   ·
    refine af 32 tok ?_
    refine al 33 tok ?_
    refine am 34 ?_
    refine ax 35 (o_pure rfl Try.func50 (by kernel_rfl) rfl rfl rfl (within_ok _ _)) ?_
    refine aq 36 (q_pick_true true rfl rfl rfl rfl) ?_
    refine am 37 ?_
    refine AOps.split 37 rfl (fun hb6 => ?_) (fun hb6 => ?_)
    ·
     refine af 38 tok ?_
     refine al 39 tok ?_
     refine am 40 ?_
     refine ax 41 (o_pure rfl Try.func50 (by kernel_rfl) rfl rfl rfl (within_ok _ _)) ?_
     refine aq 42 (q_pick_true true rfl rfl rfl rfl) ?_
     refine aa 6 ?_
     refine AOps.nil ?_
     refine AGo.ret ?_
     refine ⟨[_], ⟨rfl, trivial⟩, ?_, rfl⟩
     show AV.bool _ = AV.bool _
     congr 1
     simp_all [Block.ends]
    ·
     refine ak 38 ?_
     refine ak 39 ?_
     refine ak 40 ?_
     refine ak 41 ?_
     refine aq 42 (q_pick_false false rfl rfl rfl rfl) ?_
     refine aa 6 ?_
     refine AOps.nil ?_
     refine AGo.ret ?_
     refine ⟨[_], ⟨rfl, trivial⟩, ?_, rfl⟩
     show AV.bool _ = AV.bool _
     congr 1
     simp_all [Block.ends]
   ·
    refine ak 32 ?_
    refine ak 33 ?_
    refine ak 34 ?_
    refine ak 35 ?_
    refine aq 36 (q_pick_false false rfl rfl rfl rfl) ?_
    refine am 37 ?_
    refine ak 38 ?_
    refine ak 39 ?_
    refine ak 40 ?_
    refine ak 41 ?_
    refine aq 42 (q_pick_false false rfl rfl rfl rfl) ?_
    refine aa 6 ?_
    refine AOps.nil ?_
    refine AGo.ret ?_
    refine ⟨[_], ⟨rfl, trivial⟩, ?_, rfl⟩
    show AV.bool _ = AV.bool _
    congr 1
    simp_all [Block.ends]
  ·
   refine AGo.cond_false false rfl rfl ?_
   refine AGo.skip ?_
   refine AGo.seq ?_
   refine AGo.region ?_
   refine af 43 tok ?_
   refine al 44 tok ?_
   refine aq 45 (q_bin rfl rfl rfl rfl) ?_
   refine am 46 ?_
   refine AOps.split 46 rfl (fun hb7 => ?_) (fun hb7 => ?_)
   ·
    refine af 47 tok ?_
    refine al 48 tok ?_
    refine aq 49 (q_bin rfl rfl rfl rfl) ?_
    refine aq 50 (q_pick_true true rfl rfl rfl rfl) ?_
    refine am 51 ?_
    refine AOps.split 51 rfl (fun hb8 => ?_) (fun hb8 => ?_)
    ·
     refine af 52 tok ?_
     refine al 53 tok ?_
     refine aq 54 (q_bin rfl rfl rfl rfl) ?_
     refine aq 55 (q_pick_true true rfl rfl rfl rfl) ?_
     refine am 56 ?_
     refine AOps.split 56 rfl (fun hb9 => ?_) (fun hb9 => ?_)
     ·
      refine af 57 tok ?_
      refine al 58 tok ?_
      refine aq 59 (q_bin rfl rfl rfl rfl) ?_
      refine aq 60 (q_pick_true true rfl rfl rfl rfl) ?_
      refine aa 6 ?_
      refine AOps.nil ?_
      refine AGo.ret ?_
      refine ⟨[_], ⟨rfl, trivial⟩, ?_, rfl⟩
      show AV.bool _ = AV.bool _
      congr 1
      simp_all [Block.ends]
     ·
      refine ak 57 ?_
      refine ak 58 ?_
      refine ak 59 ?_
      refine aq 60 (q_pick_false false rfl rfl rfl rfl) ?_
      refine aa 6 ?_
      refine AOps.nil ?_
      refine AGo.ret ?_
      refine ⟨[_], ⟨rfl, trivial⟩, ?_, rfl⟩
      show AV.bool _ = AV.bool _
      congr 1
      simp_all [Block.ends]
    ·
     refine ak 52 ?_
     refine ak 53 ?_
     refine ak 54 ?_
     refine aq 55 (q_pick_false false rfl rfl rfl rfl) ?_
     refine am 56 ?_
     refine ak 57 ?_
     refine ak 58 ?_
     refine ak 59 ?_
     refine aq 60 (q_pick_false false rfl rfl rfl rfl) ?_
     refine aa 6 ?_
     refine AOps.nil ?_
     refine AGo.ret ?_
     refine ⟨[_], ⟨rfl, trivial⟩, ?_, rfl⟩
     show AV.bool _ = AV.bool _
     congr 1
     simp_all [Block.ends]
   ·
    refine ak 47 ?_
    refine ak 48 ?_
    refine ak 49 ?_
    refine aq 50 (q_pick_false false rfl rfl rfl rfl) ?_
    refine am 51 ?_
    refine ak 52 ?_
    refine ak 53 ?_
    refine ak 54 ?_
    refine aq 55 (q_pick_false false rfl rfl rfl rfl) ?_
    refine am 56 ?_
    refine ak 57 ?_
    refine ak 58 ?_
    refine ak 59 ?_
    refine aq 60 (q_pick_false false rfl rfl rfl rfl) ?_
    refine aa 6 ?_
    refine AOps.nil ?_
    refine AGo.ret ?_
    refine ⟨[_], ⟨rfl, trivial⟩, ?_, rfl⟩
    show AV.bool _ = AV.bool _
    congr 1
    simp_all [Block.ends]

set_option maxRecDepth 100000 in
theorem fits_ok (t : Tac) (f regs words : Int) (hw : 0 ≤ words) (hw2 : words ≤ 1048576) : APure Try.prog 41 [.agg t.cells, .int .i64 f, .int .i64 regs, .int .i64 words] (fun r => r = .bool (t.fits f regs words)) := by
 refine APure.of_body (n := 166) tok Try.func41 rfl rfl ?_
 refine AGo.seq ?_
 refine AGo.region ?_
 refine ax 4 (o_box (sz := 8) 0 rfl rfl rfl rfl (Nat.zero_lt_succ _) rfl) ?_
 refine aa 8 ?_
 refine AOps.nil ?_
 refine AGo.seq ?_
 refine AGo.seq ?_
 refine AGo.region ?_
 refine af 12 tok ?_
 refine al 13 tok ?_
 refine aq 14 (q_bin rfl rfl rfl rfl) ?_
 refine am 15 ?_
 refine AOps.split 15 rfl (fun hb1 => ?_) (fun hb1 => ?_)
 ·
  refine ak 16 ?_
  refine ak 17 ?_
  refine ak 18 ?_
  refine aq 19 (q_pick_true true rfl rfl rfl rfl) ?_
  refine AOps.nil ?_
  refine AGo.cond_true true rfl rfl ?_
  refine AGo.seq ?_
  refine AGo.region ?_
  refine aa 8 ?_
  refine AOps.nil ?_
  refine AGo.ret ?_
  refine ⟨[_], ⟨rfl, trivial⟩, ?_, rfl⟩
  show AV.bool _ = AV.bool _
  congr 1
  exact (fits_op (by simp_all <;> omega)).symm
 ·
  refine af 16 tok ?_
  refine al 17 tok ?_
  refine aq 18 (q_bin rfl rfl rfl rfl) ?_
  refine aq 19 (q_pick_false false rfl rfl rfl rfl) ?_
  refine AOps.nil ?_
  refine AGo.split 19 rfl (fun hb2 => ?_) (fun hb2 => ?_)
  ·
   refine AGo.cond_true true rfl rfl ?_
   refine AGo.seq ?_
   refine AGo.region ?_
   refine aa 8 ?_
   refine AOps.nil ?_
   refine AGo.ret ?_
   refine ⟨[_], ⟨rfl, trivial⟩, ?_, rfl⟩
   show AV.bool _ = AV.bool _
   congr 1
   exact (fits_op (by simp_all <;> omega)).symm
  ·
   refine AGo.cond_false false rfl rfl ?_
   refine AGo.skip ?_
   refine AGo.seq ?_
   refine AGo.region ?_
   refine af 20 tok ?_
   refine al 21 tok ?_
   refine aq 22 (q_build tok rfl rfl rfl rfl rfl (by decide) rfl rfl rfl) ?_
   refine ax 9 (o_alloc tok 1 rfl rfl rfl rfl (Nat.zero_lt_succ _) rfl) ?_
   refine AOps.w rfl rfl (o_store tok rfl rfl rfl rfl rfl rfl rfl rfl rfl (by decide) rfl (by first | exact fun _ => rfl | (intro h; cases h))) ?_
   refine AOps.nil ?_
   refine AGo.seq ?_
   refine AGo.join (γ := Int) (fun d => ⟨166, (eput (eput (eput (eput (eput eNew 1 (.int .i64 f)) 2 (.int .i64 regs)) 3 (.int .i64 words)) 4 (.ptr 0 1 0 0)) 9 (.ptr 1 1 0 0)), (hput (hput (hFrom 2) 0 (.row false 8 [t.cells])) 1 (.row false 8 [[.int .i64 t.op, .int .i64 d, .int .i64 0, .int .i64 0, .int .i64 0, .int .i64 0, .int .i64 0, .int .u32 0]]))⟩) (fun d => (!setsOp t.op || within t.d regs) = true ∧ d = bif setsOp t.op then t.d else 0) ?_ ?_
   ·
    refine AGo.seq ?_
    refine AGo.region ?_
    refine al 23 tok ?_
    refine ax 24 (o_pure rfl Try.func51 (by kernel_rfl) rfl rfl rfl (sets_ok _)) ?_
    refine aq 25 (q_bin rfl rfl rfl rfl) ?_
    refine am 26 ?_
    refine AOps.split 26 rfl (fun hb3 => ?_) (fun hb3 => ?_)
    ·
     refine ak 27 ?_
     refine ak 28 ?_
     refine ak 29 ?_
     refine aq 30 (q_pick_true true rfl rfl rfl rfl) ?_
     refine am 31 ?_
     refine ak 32 ?_
     refine ak 33 ?_
     refine ak 34 ?_
     refine aq 35 (q_pick_true true rfl rfl rfl rfl) ?_
     refine am 36 ?_
     refine ak 37 ?_
     refine ak 38 ?_
     refine ak 39 ?_
     refine aq 40 (q_pick_true true rfl rfl rfl rfl) ?_
     refine am 41 ?_
     refine ak 42 ?_
     refine ak 43 ?_
     refine ak 44 ?_
     refine aq 45 (q_pick_true true rfl rfl rfl rfl) ?_
     refine am 46 ?_
     refine ak 47 ?_
     refine ak 48 ?_
     refine ak 49 ?_
     refine aq 50 (q_pick_true true rfl rfl rfl rfl) ?_
     refine am 51 ?_
     refine ak 52 ?_
     refine ak 53 ?_
     refine ak 54 ?_
     refine aq 55 (q_pick_true true rfl rfl rfl rfl) ?_
     refine AOps.nil ?_
     refine AGo.cond_true true rfl rfl ?_
     refine AGo.seq ?_
     refine AGo.region ?_
     refine af 56 tok ?_
     refine al 57 tok ?_
     refine af 58 tok ?_
     refine AOps.w rfl rfl (o_store tok rfl rfl rfl rfl rfl rfl rfl rfl rfl (by decide) rfl (by first | exact fun _ => rfl | (intro h; cases h))) ?_
     refine AOps.nil ?_
     refine AGo.seq ?_
     refine AGo.region ?_
     refine af 59 tok ?_
     refine al 60 tok ?_
     refine am 61 ?_
     refine ax 62 (o_pure rfl Try.func50 (by kernel_rfl) rfl rfl rfl (within_ok _ _)) ?_
     refine aq 63 (q_not rfl rfl) ?_
     refine AOps.nil ?_
     refine AGo.split 63 rfl (fun hb4 => ?_) (fun hb4 => ?_)
     ·
      refine AGo.cond_true true rfl rfl ?_
      refine AGo.seq ?_
      refine AGo.region ?_
      refine aa 8 ?_
      refine AOps.nil ?_
      refine AGo.ret ?_
      refine ⟨[_], ⟨rfl, trivial⟩, ?_, rfl⟩
      show AV.bool _ = AV.bool _
      congr 1
      exact (fits_d (by first | (simp [setsOp, *]; done) | exact sets_pos ‹_›) (by simpa using ‹(!within t.d regs) = true›)).symm
     ·
      refine AGo.cond_false false rfl rfl ?_
      refine AGo.skip ?_
      exact ⟨t.d, Sub.mk' (by repeat (first | exact ESub.new _ | refine ESub.put ?_ (by rfl))) (by repeat (first | exact HSub.refl _ | exact HSub.none _ | exact HSub.from_new _ | exact HSub.from_from (by first | decide | omega | (dsimp only; omega)) | refine HSub.put ?_ (by rfl) | refine HSub.from_put ?_ (by first | decide | omega | (dsimp only; omega)) | refine HSub.from_rm ?_ (by decide))), ⟨by have h := ‹(!within t.d regs) = false›; simp at h; simp [h], by first | (simp [setsOp, *]; done) | simp [sets_pos ‹_›]⟩⟩
    ·
     refine af 27 tok ?_
     refine al 28 tok ?_
     refine aq 29 (q_bin rfl rfl rfl rfl) ?_
     refine aq 30 (q_pick_false false rfl rfl rfl rfl) ?_
     refine am 31 ?_
     refine AOps.split 31 rfl (fun hb5 => ?_) (fun hb5 => ?_)
     ·
      refine ak 32 ?_
      refine ak 33 ?_
      refine ak 34 ?_
      refine aq 35 (q_pick_true true rfl rfl rfl rfl) ?_
      refine am 36 ?_
      refine ak 37 ?_
      refine ak 38 ?_
      refine ak 39 ?_
      refine aq 40 (q_pick_true true rfl rfl rfl rfl) ?_
      refine am 41 ?_
      refine ak 42 ?_
      refine ak 43 ?_
      refine ak 44 ?_
      refine aq 45 (q_pick_true true rfl rfl rfl rfl) ?_
      refine am 46 ?_
      refine ak 47 ?_
      refine ak 48 ?_
      refine ak 49 ?_
      refine aq 50 (q_pick_true true rfl rfl rfl rfl) ?_
      refine am 51 ?_
      refine ak 52 ?_
      refine ak 53 ?_
      refine ak 54 ?_
      refine aq 55 (q_pick_true true rfl rfl rfl rfl) ?_
      refine AOps.nil ?_
      refine AGo.cond_true true rfl rfl ?_
      refine AGo.seq ?_
      refine AGo.region ?_
      refine af 56 tok ?_
      refine al 57 tok ?_
      refine af 58 tok ?_
      refine AOps.w rfl rfl (o_store tok rfl rfl rfl rfl rfl rfl rfl rfl rfl (by decide) rfl (by first | exact fun _ => rfl | (intro h; cases h))) ?_
      refine AOps.nil ?_
      refine AGo.seq ?_
      refine AGo.region ?_
      refine af 59 tok ?_
      refine al 60 tok ?_
      refine am 61 ?_
      refine ax 62 (o_pure rfl Try.func50 (by kernel_rfl) rfl rfl rfl (within_ok _ _)) ?_
      refine aq 63 (q_not rfl rfl) ?_
      refine AOps.nil ?_
      refine AGo.split 63 rfl (fun hb6 => ?_) (fun hb6 => ?_)
      ·
       refine AGo.cond_true true rfl rfl ?_
       refine AGo.seq ?_
       refine AGo.region ?_
       refine aa 8 ?_
       refine AOps.nil ?_
       refine AGo.ret ?_
       refine ⟨[_], ⟨rfl, trivial⟩, ?_, rfl⟩
       show AV.bool _ = AV.bool _
       congr 1
       exact (fits_d (by first | (simp [setsOp, *]; done) | exact sets_pos ‹_›) (by simpa using ‹(!within t.d regs) = true›)).symm
      ·
       refine AGo.cond_false false rfl rfl ?_
       refine AGo.skip ?_
       exact ⟨t.d, Sub.mk' (by repeat (first | exact ESub.new _ | refine ESub.put ?_ (by rfl))) (by repeat (first | exact HSub.refl _ | exact HSub.none _ | exact HSub.from_new _ | exact HSub.from_from (by first | decide | omega | (dsimp only; omega)) | refine HSub.put ?_ (by rfl) | refine HSub.from_put ?_ (by first | decide | omega | (dsimp only; omega)) | refine HSub.from_rm ?_ (by decide))), ⟨by have h := ‹(!within t.d regs) = false›; simp at h; simp [h], by first | (simp [setsOp, *]; done) | simp [sets_pos ‹_›]⟩⟩
     ·
      refine af 32 tok ?_
      refine al 33 tok ?_
      refine aq 34 (q_bin rfl rfl rfl rfl) ?_
      refine aq 35 (q_pick_false false rfl rfl rfl rfl) ?_
      refine am 36 ?_
      refine AOps.split 36 rfl (fun hb7 => ?_) (fun hb7 => ?_)
      ·
       refine ak 37 ?_
       refine ak 38 ?_
       refine ak 39 ?_
       refine aq 40 (q_pick_true true rfl rfl rfl rfl) ?_
       refine am 41 ?_
       refine ak 42 ?_
       refine ak 43 ?_
       refine ak 44 ?_
       refine aq 45 (q_pick_true true rfl rfl rfl rfl) ?_
       refine am 46 ?_
       refine ak 47 ?_
       refine ak 48 ?_
       refine ak 49 ?_
       refine aq 50 (q_pick_true true rfl rfl rfl rfl) ?_
       refine am 51 ?_
       refine ak 52 ?_
       refine ak 53 ?_
       refine ak 54 ?_
       refine aq 55 (q_pick_true true rfl rfl rfl rfl) ?_
       refine AOps.nil ?_
       refine AGo.cond_true true rfl rfl ?_
       refine AGo.seq ?_
       refine AGo.region ?_
       refine af 56 tok ?_
       refine al 57 tok ?_
       refine af 58 tok ?_
       refine AOps.w rfl rfl (o_store tok rfl rfl rfl rfl rfl rfl rfl rfl rfl (by decide) rfl (by first | exact fun _ => rfl | (intro h; cases h))) ?_
       refine AOps.nil ?_
       refine AGo.seq ?_
       refine AGo.region ?_
       refine af 59 tok ?_
       refine al 60 tok ?_
       refine am 61 ?_
       refine ax 62 (o_pure rfl Try.func50 (by kernel_rfl) rfl rfl rfl (within_ok _ _)) ?_
       refine aq 63 (q_not rfl rfl) ?_
       refine AOps.nil ?_
       refine AGo.split 63 rfl (fun hb8 => ?_) (fun hb8 => ?_)
       ·
        refine AGo.cond_true true rfl rfl ?_
        refine AGo.seq ?_
        refine AGo.region ?_
        refine aa 8 ?_
        refine AOps.nil ?_
        refine AGo.ret ?_
        refine ⟨[_], ⟨rfl, trivial⟩, ?_, rfl⟩
        show AV.bool _ = AV.bool _
        congr 1
        exact (fits_d (by first | (simp [setsOp, *]; done) | exact sets_pos ‹_›) (by simpa using ‹(!within t.d regs) = true›)).symm
       ·
        refine AGo.cond_false false rfl rfl ?_
        refine AGo.skip ?_
        exact ⟨t.d, Sub.mk' (by repeat (first | exact ESub.new _ | refine ESub.put ?_ (by rfl))) (by repeat (first | exact HSub.refl _ | exact HSub.none _ | exact HSub.from_new _ | exact HSub.from_from (by first | decide | omega | (dsimp only; omega)) | refine HSub.put ?_ (by rfl) | refine HSub.from_put ?_ (by first | decide | omega | (dsimp only; omega)) | refine HSub.from_rm ?_ (by decide))), ⟨by have h := ‹(!within t.d regs) = false›; simp at h; simp [h], by first | (simp [setsOp, *]; done) | simp [sets_pos ‹_›]⟩⟩
      ·
       refine af 37 tok ?_
       refine al 38 tok ?_
       refine aq 39 (q_bin rfl rfl rfl rfl) ?_
       refine aq 40 (q_pick_false false rfl rfl rfl rfl) ?_
       refine am 41 ?_
       refine AOps.split 41 rfl (fun hb9 => ?_) (fun hb9 => ?_)
       ·
        refine ak 42 ?_
        refine ak 43 ?_
        refine ak 44 ?_
        refine aq 45 (q_pick_true true rfl rfl rfl rfl) ?_
        refine am 46 ?_
        refine ak 47 ?_
        refine ak 48 ?_
        refine ak 49 ?_
        refine aq 50 (q_pick_true true rfl rfl rfl rfl) ?_
        refine am 51 ?_
        refine ak 52 ?_
        refine ak 53 ?_
        refine ak 54 ?_
        refine aq 55 (q_pick_true true rfl rfl rfl rfl) ?_
        refine AOps.nil ?_
        refine AGo.cond_true true rfl rfl ?_
        refine AGo.seq ?_
        refine AGo.region ?_
        refine af 56 tok ?_
        refine al 57 tok ?_
        refine af 58 tok ?_
        refine AOps.w rfl rfl (o_store tok rfl rfl rfl rfl rfl rfl rfl rfl rfl (by decide) rfl (by first | exact fun _ => rfl | (intro h; cases h))) ?_
        refine AOps.nil ?_
        refine AGo.seq ?_
        refine AGo.region ?_
        refine af 59 tok ?_
        refine al 60 tok ?_
        refine am 61 ?_
        refine ax 62 (o_pure rfl Try.func50 (by kernel_rfl) rfl rfl rfl (within_ok _ _)) ?_
        refine aq 63 (q_not rfl rfl) ?_
        refine AOps.nil ?_
        refine AGo.split 63 rfl (fun hb10 => ?_) (fun hb10 => ?_)
        ·
         refine AGo.cond_true true rfl rfl ?_
         refine AGo.seq ?_
         refine AGo.region ?_
         refine aa 8 ?_
         refine AOps.nil ?_
         refine AGo.ret ?_
         refine ⟨[_], ⟨rfl, trivial⟩, ?_, rfl⟩
         show AV.bool _ = AV.bool _
         congr 1
         exact (fits_d (by first | (simp [setsOp, *]; done) | exact sets_pos ‹_›) (by simpa using ‹(!within t.d regs) = true›)).symm
        ·
         refine AGo.cond_false false rfl rfl ?_
         refine AGo.skip ?_
         exact ⟨t.d, Sub.mk' (by repeat (first | exact ESub.new _ | refine ESub.put ?_ (by rfl))) (by repeat (first | exact HSub.refl _ | exact HSub.none _ | exact HSub.from_new _ | exact HSub.from_from (by first | decide | omega | (dsimp only; omega)) | refine HSub.put ?_ (by rfl) | refine HSub.from_put ?_ (by first | decide | omega | (dsimp only; omega)) | refine HSub.from_rm ?_ (by decide))), ⟨by have h := ‹(!within t.d regs) = false›; simp at h; simp [h], by first | (simp [setsOp, *]; done) | simp [sets_pos ‹_›]⟩⟩
       ·
        refine af 42 tok ?_
        refine al 43 tok ?_
        refine aq 44 (q_bin rfl rfl rfl rfl) ?_
        refine aq 45 (q_pick_false false rfl rfl rfl rfl) ?_
        refine am 46 ?_
        refine AOps.split 46 rfl (fun hb11 => ?_) (fun hb11 => ?_)
        ·
         refine ak 47 ?_
         refine ak 48 ?_
         refine ak 49 ?_
         refine aq 50 (q_pick_true true rfl rfl rfl rfl) ?_
         refine am 51 ?_
         refine ak 52 ?_
         refine ak 53 ?_
         refine ak 54 ?_
         refine aq 55 (q_pick_true true rfl rfl rfl rfl) ?_
         refine AOps.nil ?_
         refine AGo.cond_true true rfl rfl ?_
         refine AGo.seq ?_
         refine AGo.region ?_
         refine af 56 tok ?_
         refine al 57 tok ?_
         refine af 58 tok ?_
         refine AOps.w rfl rfl (o_store tok rfl rfl rfl rfl rfl rfl rfl rfl rfl (by decide) rfl (by first | exact fun _ => rfl | (intro h; cases h))) ?_
         refine AOps.nil ?_
         refine AGo.seq ?_
         refine AGo.region ?_
         refine af 59 tok ?_
         refine al 60 tok ?_
         refine am 61 ?_
         refine ax 62 (o_pure rfl Try.func50 (by kernel_rfl) rfl rfl rfl (within_ok _ _)) ?_
         refine aq 63 (q_not rfl rfl) ?_
         refine AOps.nil ?_
         refine AGo.split 63 rfl (fun hb12 => ?_) (fun hb12 => ?_)
         ·
          refine AGo.cond_true true rfl rfl ?_
          refine AGo.seq ?_
          refine AGo.region ?_
          refine aa 8 ?_
          refine AOps.nil ?_
          refine AGo.ret ?_
          refine ⟨[_], ⟨rfl, trivial⟩, ?_, rfl⟩
          show AV.bool _ = AV.bool _
          congr 1
          exact (fits_d (by first | (simp [setsOp, *]; done) | exact sets_pos ‹_›) (by simpa using ‹(!within t.d regs) = true›)).symm
         ·
          refine AGo.cond_false false rfl rfl ?_
          refine AGo.skip ?_
          exact ⟨t.d, Sub.mk' (by repeat (first | exact ESub.new _ | refine ESub.put ?_ (by rfl))) (by repeat (first | exact HSub.refl _ | exact HSub.none _ | exact HSub.from_new _ | exact HSub.from_from (by first | decide | omega | (dsimp only; omega)) | refine HSub.put ?_ (by rfl) | refine HSub.from_put ?_ (by first | decide | omega | (dsimp only; omega)) | refine HSub.from_rm ?_ (by decide))), ⟨by have h := ‹(!within t.d regs) = false›; simp at h; simp [h], by first | (simp [setsOp, *]; done) | simp [sets_pos ‹_›]⟩⟩
        ·
         refine af 47 tok ?_
         refine al 48 tok ?_
         refine aq 49 (q_bin rfl rfl rfl rfl) ?_
         refine aq 50 (q_pick_false false rfl rfl rfl rfl) ?_
         refine am 51 ?_
         refine AOps.split 51 rfl (fun hb13 => ?_) (fun hb13 => ?_)
         ·
          refine ak 52 ?_
          refine ak 53 ?_
          refine ak 54 ?_
          refine aq 55 (q_pick_true true rfl rfl rfl rfl) ?_
          refine AOps.nil ?_
          refine AGo.cond_true true rfl rfl ?_
          refine AGo.seq ?_
          refine AGo.region ?_
          refine af 56 tok ?_
          refine al 57 tok ?_
          refine af 58 tok ?_
          refine AOps.w rfl rfl (o_store tok rfl rfl rfl rfl rfl rfl rfl rfl rfl (by decide) rfl (by first | exact fun _ => rfl | (intro h; cases h))) ?_
          refine AOps.nil ?_
          refine AGo.seq ?_
          refine AGo.region ?_
          refine af 59 tok ?_
          refine al 60 tok ?_
          refine am 61 ?_
          refine ax 62 (o_pure rfl Try.func50 (by kernel_rfl) rfl rfl rfl (within_ok _ _)) ?_
          refine aq 63 (q_not rfl rfl) ?_
          refine AOps.nil ?_
          refine AGo.split 63 rfl (fun hb14 => ?_) (fun hb14 => ?_)
          ·
           refine AGo.cond_true true rfl rfl ?_
           refine AGo.seq ?_
           refine AGo.region ?_
           refine aa 8 ?_
           refine AOps.nil ?_
           refine AGo.ret ?_
           refine ⟨[_], ⟨rfl, trivial⟩, ?_, rfl⟩
           show AV.bool _ = AV.bool _
           congr 1
           exact (fits_d (by first | (simp [setsOp, *]; done) | exact sets_pos ‹_›) (by simpa using ‹(!within t.d regs) = true›)).symm
          ·
           refine AGo.cond_false false rfl rfl ?_
           refine AGo.skip ?_
           exact ⟨t.d, Sub.mk' (by repeat (first | exact ESub.new _ | refine ESub.put ?_ (by rfl))) (by repeat (first | exact HSub.refl _ | exact HSub.none _ | exact HSub.from_new _ | exact HSub.from_from (by first | decide | omega | (dsimp only; omega)) | refine HSub.put ?_ (by rfl) | refine HSub.from_put ?_ (by first | decide | omega | (dsimp only; omega)) | refine HSub.from_rm ?_ (by decide))), ⟨by have h := ‹(!within t.d regs) = false›; simp at h; simp [h], by first | (simp [setsOp, *]; done) | simp [sets_pos ‹_›]⟩⟩
         ·
          refine af 52 tok ?_
          refine al 53 tok ?_
          refine aq 54 (q_bin rfl rfl rfl rfl) ?_
          refine aq 55 (q_pick_false false rfl rfl rfl rfl) ?_
          refine AOps.nil ?_
          refine AGo.split 55 rfl (fun hb15 => ?_) (fun hb15 => ?_)
          ·
           refine AGo.cond_true true rfl rfl ?_
           refine AGo.seq ?_
           refine AGo.region ?_
           refine af 56 tok ?_
           refine al 57 tok ?_
           refine af 58 tok ?_
           refine AOps.w rfl rfl (o_store tok rfl rfl rfl rfl rfl rfl rfl rfl rfl (by decide) rfl (by first | exact fun _ => rfl | (intro h; cases h))) ?_
           refine AOps.nil ?_
           refine AGo.seq ?_
           refine AGo.region ?_
           refine af 59 tok ?_
           refine al 60 tok ?_
           refine am 61 ?_
           refine ax 62 (o_pure rfl Try.func50 (by kernel_rfl) rfl rfl rfl (within_ok _ _)) ?_
           refine aq 63 (q_not rfl rfl) ?_
           refine AOps.nil ?_
           refine AGo.split 63 rfl (fun hb16 => ?_) (fun hb16 => ?_)
           ·
            refine AGo.cond_true true rfl rfl ?_
            refine AGo.seq ?_
            refine AGo.region ?_
            refine aa 8 ?_
            refine AOps.nil ?_
            refine AGo.ret ?_
            refine ⟨[_], ⟨rfl, trivial⟩, ?_, rfl⟩
            show AV.bool _ = AV.bool _
            congr 1
            exact (fits_d (by first | (simp [setsOp, *]; done) | exact sets_pos ‹_›) (by simpa using ‹(!within t.d regs) = true›)).symm
           ·
            refine AGo.cond_false false rfl rfl ?_
            refine AGo.skip ?_
            exact ⟨t.d, Sub.mk' (by repeat (first | exact ESub.new _ | refine ESub.put ?_ (by rfl))) (by repeat (first | exact HSub.refl _ | exact HSub.none _ | exact HSub.from_new _ | exact HSub.from_from (by first | decide | omega | (dsimp only; omega)) | refine HSub.put ?_ (by rfl) | refine HSub.from_put ?_ (by first | decide | omega | (dsimp only; omega)) | refine HSub.from_rm ?_ (by decide))), ⟨by have h := ‹(!within t.d regs) = false›; simp at h; simp [h], by first | (simp [setsOp, *]; done) | simp [sets_pos ‹_›]⟩⟩
          ·
           refine AGo.cond_false false rfl rfl ?_
           refine AGo.skip ?_
           exact ⟨0, Sub.mk' (by repeat (first | exact ESub.new _ | refine ESub.put ?_ (by rfl))) (by repeat (first | exact HSub.refl _ | exact HSub.none _ | exact HSub.from_new _ | exact HSub.from_from (by first | decide | omega | (dsimp only; omega)) | refine HSub.put ?_ (by rfl) | refine HSub.from_put ?_ (by first | decide | omega | (dsimp only; omega)) | refine HSub.from_rm ?_ (by decide))), ⟨by simp [setsOp, *], by simp [setsOp, *]⟩⟩
   intro d ⟨hd, hdd⟩
   refine AGo.seq ?_
   refine AGo.region ?_
   refine al 64 tok ?_
   refine ax 65 (o_pure rfl Try.func52 (by kernel_rfl) rfl rfl rfl (uses_ok _)) ?_
   refine aa 10 ?_
   refine AOps.nil ?_
   refine AGo.seq ?_
   refine AGo.seq ?_
   refine AGo.region ?_
   refine aa 11 ?_
   refine AOps.nil ?_
   refine AGo.block ?_
   refine AGo.loopD (γ := Nat) 2 (fun j => ⟨166, (eput (eput (eput (eput (eput (eput (eput eNew 1 (.int .i64 f)) 2 (.int .i64 regs)) 3 (.int .i64 words)) 4 (.ptr 0 1 0 0)) 9 (.ptr 1 1 0 0)) 10 (intsAV t.uses)) 11 (.int .i64 (j : Int))), (hput (hput (hFrom 2) 0 (.row false 8 [t.cells])) 1 (.row false 8 [[.int .i64 t.op, .int .i64 d, .int .i64 0, .int .i64 0, .int .i64 0, .int .i64 0, .int .i64 0, .int .u32 0]]))⟩) (fun j => (t.uses.take j).all (fun r => within r regs) = true) (fun j => t.uses.length - j) 0 (Sub.mk' (by repeat (first | exact ESub.new _ | refine ESub.put ?_ (by rfl))) (by repeat (first | exact HSub.refl _ | exact HSub.none _ | exact HSub.from_new _ | exact HSub.from_from (by first | decide | omega | (dsimp only; omega)) | refine HSub.put ?_ (by rfl) | refine HSub.from_put ?_ (by first | decide | omega | (dsimp only; omega)) | refine HSub.from_rm ?_ (by decide)))) rfl (fun _ => hput_free (hput_free (fun b hb => hFrom_free hb) rfl) rfl) ?_
   intro j hj
   refine AGo.seq ?_
   refine AGo.seq ?_
   refine AGo.region ?_
   refine am 66 ?_
   refine am 67 ?_
   refine aq 68 (q_len tok rfl rfl rfl rfl rfl) ?_
   refine aq 69 (q_bin rfl rfl rfl rfl) ?_
   refine AOps.nil ?_
   refine AGo.split 69 rfl (fun hb17 => ?_) (fun hb17 => ?_)
   ·
    refine AGo.cond_true true rfl rfl ?_
    have hjl : j < t.uses.length := lt_of_idx hb17
    obtain ⟨u, hu⟩ := get_of_lt hjl
    refine AGo.skip ?_
    refine AGo.seq ?_
    refine AGo.block ?_
    refine AGo.seq ?_
    refine AGo.region ?_
    refine am 72 ?_
    refine am 73 ?_
    refine aq 74 (q_index_lst tok rfl rfl rfl rfl rfl rfl (Int.natCast_nonneg _) (idx_map (by assumption)) rfl) ?_
    refine al 75 tok ?_
    refine am 76 ?_
    refine ax 77 (o_pure rfl Try.func50 (by kernel_rfl) rfl rfl rfl (within_ok _ _)) ?_
    refine aq 78 (q_not rfl rfl) ?_
    refine AOps.nil ?_
    refine AGo.split 78 rfl (fun hb18 => ?_) (fun hb18 => ?_)
    ·
     refine AGo.cond_true true rfl rfl ?_
     have hbw := hb18
     refine AGo.seq ?_
     refine AGo.region ?_
     refine aa 8 ?_
     refine AOps.nil ?_
     refine AGo.ret ?_
     refine ⟨[_], ⟨rfl, trivial⟩, ?_, rfl⟩
     show AV.bool _ = AV.bool _
     congr 1
     exact (fits_use (all_bad hu (by simpa using hbw))).symm
    ·
     refine AGo.cond_false false rfl rfl ?_
     have hbw := hb18
     refine AGo.skip ?_
     refine AGo.region ?_
     refine am 70 ?_
     refine aq 71 (q_inc rfl rfl hjl (Nat.le_trans (uses_len t) (by decide))) ?_
     refine aa 11 ?_
     refine AOps.nil ?_
     exact ⟨j+1, Drop.mk' (by repeat (first | exact EDrop.new _ _ | refine EDrop.put ?_ (by rfl) (by first | rfl | exact slA_avoid _ rfl | exact vaA_avoid _ rfl))) (by repeat (first | exact HDrop.none _ _ | exact HDrop.tail _ _ | refine HDrop.put ?_ (by rfl) rfl (by first | rfl | exact slO_avoid _ _ | exact vaO_avoid _ | exact tab_avoid _ _ rfl rfl | exact wlk_avoid _ _ _ rfl rfl rfl))), all_succ hu hj (by simpa using hbw), by omega⟩
   ·
    refine AGo.cond_false false rfl rfl ?_
    have hall := all_end hj (ge_of_idx hb17)
    refine AGo.exit ?_
    refine AGo.seq ?_
    refine AGo.join (γ := Int) (fun a => ⟨166, (eput (eput (eput (eput (eput (eput eNew 1 (.int .i64 f)) 2 (.int .i64 regs)) 3 (.int .i64 words)) 4 (.ptr 0 1 0 0)) 9 (.ptr 1 1 0 0)) 10 (intsAV t.uses)), (hput (hput (hFrom 2) 0 (.row false 8 [t.cells])) 1 (.row false 8 [[.int .i64 t.op, .int .i64 d, .int .i64 a, .int .i64 0, .int .i64 0, .int .i64 0, .int .i64 0, .int .u32 0]]))⟩) (fun a => a = bif use1 t.op || use2 t.op then t.a else 0) ?_ ?_
    ·
     refine AGo.seq ?_
     refine AGo.region ?_
     refine am 79 ?_
     refine aq 80 (q_len tok rfl rfl rfl rfl rfl) ?_
     refine aq 81 (q_bin rfl rfl rfl rfl) ?_
     refine AOps.nil ?_
     refine AGo.split 81 rfl (fun hb19 => ?_) (fun hb19 => ?_)
     ·
      refine AGo.cond_true true rfl rfl ?_
      refine AGo.region ?_
      refine af 82 tok ?_
      refine al 83 tok ?_
      refine af 84 tok ?_
      refine AOps.w rfl rfl (o_store tok rfl rfl rfl rfl rfl rfl rfl rfl rfl (by decide) rfl (by first | exact fun _ => rfl | (intro h; cases h))) ?_
      refine AOps.nil ?_
      exact ⟨t.a, Sub.mk' (by repeat (first | exact ESub.new _ | refine ESub.put ?_ (by rfl))) (by repeat (first | exact HSub.refl _ | exact HSub.none _ | exact HSub.from_new _ | exact HSub.from_from (by first | decide | omega | (dsimp only; omega)) | refine HSub.put ?_ (by rfl) | refine HSub.from_put ?_ (by first | decide | omega | (dsimp only; omega)) | refine HSub.from_rm ?_ (by decide))), by have h3 := use12 t.op; cases h1 : use1 t.op <;> cases h2 : use2 t.op <;> simp_all [Tac.uses]⟩
     ·
      refine AGo.cond_false false rfl rfl ?_
      refine AGo.skip ?_
      exact ⟨0, Sub.mk' (by repeat (first | exact ESub.new _ | refine ESub.put ?_ (by rfl))) (by repeat (first | exact HSub.refl _ | exact HSub.none _ | exact HSub.from_new _ | exact HSub.from_from (by first | decide | omega | (dsimp only; omega)) | refine HSub.put ?_ (by rfl) | refine HSub.from_put ?_ (by first | decide | omega | (dsimp only; omega)) | refine HSub.from_rm ?_ (by decide))), by have h3 := use12 t.op; cases h1 : use1 t.op <;> cases h2 : use2 t.op <;> simp_all [Tac.uses]⟩
    intro a haa
    refine AGo.seq ?_
    refine AGo.join (γ := Int) (fun b => ⟨166, (eput (eput (eput (eput (eput eNew 1 (.int .i64 f)) 2 (.int .i64 regs)) 3 (.int .i64 words)) 4 (.ptr 0 1 0 0)) 9 (.ptr 1 1 0 0)), (hput (hput (hFrom 2) 0 (.row false 8 [t.cells])) 1 (.row false 8 [[.int .i64 t.op, .int .i64 d, .int .i64 a, .int .i64 b, .int .i64 0, .int .i64 0, .int .i64 0, .int .u32 0]]))⟩) (fun b => b = bif use2 t.op then t.b else 0) ?_ ?_
    ·
     refine AGo.seq ?_
     refine AGo.region ?_
     refine am 85 ?_
     refine aq 86 (q_len tok rfl rfl rfl rfl rfl) ?_
     refine aq 87 (q_bin rfl rfl rfl rfl) ?_
     refine AOps.nil ?_
     refine AGo.split 87 rfl (fun hb20 => ?_) (fun hb20 => ?_)
     ·
      refine AGo.cond_true true rfl rfl ?_
      refine AGo.region ?_
      refine af 88 tok ?_
      refine al 89 tok ?_
      refine af 90 tok ?_
      refine AOps.w rfl rfl (o_store tok rfl rfl rfl rfl rfl rfl rfl rfl rfl (by decide) rfl (by first | exact fun _ => rfl | (intro h; cases h))) ?_
      refine AOps.nil ?_
      exact ⟨t.b, Sub.mk' (by repeat (first | exact ESub.new _ | refine ESub.put ?_ (by rfl))) (by repeat (first | exact HSub.refl _ | exact HSub.none _ | exact HSub.from_new _ | exact HSub.from_from (by first | decide | omega | (dsimp only; omega)) | refine HSub.put ?_ (by rfl) | refine HSub.from_put ?_ (by first | decide | omega | (dsimp only; omega)) | refine HSub.from_rm ?_ (by decide))), by have h3 := use12 t.op; cases h1 : use1 t.op <;> cases h2 : use2 t.op <;> simp_all [Tac.uses]⟩
     ·
      refine AGo.cond_false false rfl rfl ?_
      refine AGo.skip ?_
      exact ⟨0, Sub.mk' (by repeat (first | exact ESub.new _ | refine ESub.put ?_ (by rfl))) (by repeat (first | exact HSub.refl _ | exact HSub.none _ | exact HSub.from_new _ | exact HSub.from_from (by first | decide | omega | (dsimp only; omega)) | refine HSub.put ?_ (by rfl) | refine HSub.from_put ?_ (by first | decide | omega | (dsimp only; omega)) | refine HSub.from_rm ?_ (by decide))), by have h3 := use12 t.op; cases h1 : use1 t.op <;> cases h2 : use2 t.op <;> simp_all [Tac.uses]⟩
    intro b hbb
    refine AGo.seq ?_
    refine AGo.seq ?_
    refine AGo.region ?_
    refine af 91 tok ?_
    refine al 92 tok ?_
    refine AOps.nil ?_
    refine AGo.block ?_
    refine AGo.seq ?_
    refine AGo.region ?_
    refine aq 94 (q_bin rfl rfl rfl rfl) ?_
    refine aa 93 ?_
    refine AOps.nil ?_
    refine AGo.split 93 rfl (fun hb21 => ?_) (fun hb21 => ?_)
    ·
     refine AGo.cond_true true rfl rfl ?_
     refine AGo.region ?_
     refine af 95 tok ?_
     refine al 96 tok ?_
     refine af 97 tok ?_
     refine AOps.w rfl rfl (o_store tok rfl rfl rfl rfl rfl rfl rfl rfl rfl (by decide) rfl (by first | exact fun _ => rfl | (intro h; cases h))) ?_
     refine AOps.nil ?_
     refine AGo.seq ?_
     refine AGo.region ?_
     refine al 163 tok ?_
     refine al 164 tok ?_
     refine aq 165 (q_eqStruct tok false rfl rfl rfl (by kernel_rfl) rfl rfl rfl rfl rfl) ?_
     refine aa 8 ?_
     refine AOps.nil ?_
     refine AGo.ret ?_
     refine ⟨[_], ⟨rfl, trivial⟩, ?_, rfl⟩
     show AV.bool _ = AV.bool _
     congr 1
     have hwr : 1 ≤ t.size → t.size ≤ 4096 → IntKind.i64.wrap (words - t.size) = words - t.size := fun h1 h2 => wrap_i64 (by omega) (by omega)
     rw [fits_same hb1 hb2 hd hall (by simp_all [Tac.rest, baseOp, arrOp] <;> omega)]
     subst hdd haa hbb
     clear hd hj hall hwr hw hw2 hb1 hb2
     first | (simp_all [Tac.same, Tac.want, baseOp, arrOp, setsOp, use1, use2]; done) | simp [Tac.same, Tac.want, baseOp, arrOp, *]
    ·
     refine AGo.cond_false false rfl rfl ?_
     refine AGo.seq ?_
     refine AGo.region ?_
     refine aq 99 (q_bin rfl rfl rfl rfl) ?_
     refine aa 98 ?_
     refine AOps.nil ?_
     refine AGo.split 98 rfl (fun hb22 => ?_) (fun hb22 => ?_)
     ·
      refine AGo.cond_true true rfl rfl ?_
      refine AGo.seq ?_
      refine AGo.region ?_
      refine af 100 tok ?_
      refine al 101 tok ?_
      refine af 102 tok ?_
      refine AOps.w rfl rfl (o_store tok rfl rfl rfl rfl rfl rfl rfl rfl rfl (by decide) rfl (by first | exact fun _ => rfl | (intro h; cases h))) ?_
      refine AOps.nil ?_
      refine AGo.seq ?_
      refine AGo.region ?_
      refine af 103 tok ?_
      refine al 104 tok ?_
      refine aq 105 (q_bin rfl rfl rfl rfl) ?_
      refine am 106 ?_
      refine AOps.split 106 rfl (fun hb23 => ?_) (fun hb23 => ?_)
      ·
       refine ak 107 ?_
       refine ak 108 ?_
       refine ak 109 ?_
       refine aq 110 (q_pick_true true rfl rfl rfl rfl) ?_
       refine AOps.nil ?_
       refine AGo.cond_true true rfl rfl ?_
       refine AGo.seq ?_
       refine AGo.region ?_
       refine aa 8 ?_
       refine AOps.nil ?_
       refine AGo.ret ?_
       refine ⟨[_], ⟨rfl, trivial⟩, ?_, rfl⟩
       show AV.bool _ = AV.bool _
       congr 1
       exact (fits_rest (by simp_all [Tac.rest, baseOp, arrOp] <;> omega)).symm
      ·
       refine af 107 tok ?_
       refine al 108 tok ?_
       refine aq 109 (q_bin rfl rfl rfl rfl) ?_
       refine aq 110 (q_pick_false false rfl rfl rfl rfl) ?_
       refine AOps.nil ?_
       refine AGo.split 110 rfl (fun hb24 => ?_) (fun hb24 => ?_)
       ·
        refine AGo.cond_true true rfl rfl ?_
        refine AGo.seq ?_
        refine AGo.region ?_
        refine aa 8 ?_
        refine AOps.nil ?_
        refine AGo.ret ?_
        refine ⟨[_], ⟨rfl, trivial⟩, ?_, rfl⟩
        show AV.bool _ = AV.bool _
        congr 1
        exact (fits_rest (by simp_all [Tac.rest, baseOp, arrOp] <;> omega)).symm
       ·
        refine AGo.cond_false false rfl rfl ?_
        refine AGo.skip ?_
        refine AGo.seq ?_
        refine AGo.region ?_
        refine al 163 tok ?_
        refine al 164 tok ?_
        refine aq 165 (q_eqStruct tok false rfl rfl rfl (by kernel_rfl) rfl rfl rfl rfl rfl) ?_
        refine aa 8 ?_
        refine AOps.nil ?_
        refine AGo.ret ?_
        refine ⟨[_], ⟨rfl, trivial⟩, ?_, rfl⟩
        show AV.bool _ = AV.bool _
        congr 1
        have hwr : 1 ≤ t.size → t.size ≤ 4096 → IntKind.i64.wrap (words - t.size) = words - t.size := fun h1 h2 => wrap_i64 (by omega) (by omega)
        rw [fits_same hb1 hb2 hd hall (by simp_all [Tac.rest, baseOp, arrOp] <;> omega)]
        subst hdd haa hbb
        clear hd hj hall hwr hw hw2 hb1 hb2
        first | (simp_all [Tac.same, Tac.want, baseOp, arrOp, setsOp, use1, use2]; done) | simp [Tac.same, Tac.want, baseOp, arrOp, *]
     ·
      refine AGo.cond_false false rfl rfl ?_
      refine AGo.seq ?_
      refine AGo.seq ?_
      refine AGo.region ?_
      refine aq 112 (q_bin rfl rfl rfl rfl) ?_
      refine aa 111 ?_
      refine AOps.nil ?_
      refine AGo.split 111 rfl (fun hb25 => ?_) (fun hb25 => ?_)
      ·
       refine AGo.cond_true true rfl rfl ?_
       refine AGo.skip ?_
       refine AGo.cond_true true rfl rfl ?_
       refine AGo.seq ?_
       refine AGo.region ?_
       refine af 114 tok ?_
       refine al 115 tok ?_
       refine af 116 tok ?_
       refine AOps.w rfl rfl (o_store tok rfl rfl rfl rfl rfl rfl rfl rfl rfl (by decide) rfl (by first | exact fun _ => rfl | (intro h; cases h))) ?_
       refine AOps.nil ?_
       refine AGo.seq ?_
       refine AGo.region ?_
       refine af 117 tok ?_
       refine al 118 tok ?_
       refine am 119 ?_
       refine ax 120 (o_pure rfl Try.func50 (by kernel_rfl) rfl rfl rfl (within_ok _ _)) ?_
       refine aq 121 (q_not rfl rfl) ?_
       refine AOps.nil ?_
       refine AGo.split 121 rfl (fun hb26 => ?_) (fun hb26 => ?_)
       ·
        refine AGo.cond_true true rfl rfl ?_
        refine AGo.seq ?_
        refine AGo.region ?_
        refine aa 8 ?_
        refine AOps.nil ?_
        refine AGo.ret ?_
        refine ⟨[_], ⟨rfl, trivial⟩, ?_, rfl⟩
        show AV.bool _ = AV.bool _
        congr 1
        exact (fits_rest (by simp_all [Tac.rest, baseOp, arrOp] <;> omega)).symm
       ·
        refine AGo.cond_false false rfl rfl ?_
        refine AGo.skip ?_
        refine AGo.seq ?_
        refine AGo.region ?_
        refine al 163 tok ?_
        refine al 164 tok ?_
        refine aq 165 (q_eqStruct tok false rfl rfl rfl (by kernel_rfl) rfl rfl rfl rfl rfl) ?_
        refine aa 8 ?_
        refine AOps.nil ?_
        refine AGo.ret ?_
        refine ⟨[_], ⟨rfl, trivial⟩, ?_, rfl⟩
        show AV.bool _ = AV.bool _
        congr 1
        have hwr : 1 ≤ t.size → t.size ≤ 4096 → IntKind.i64.wrap (words - t.size) = words - t.size := fun h1 h2 => wrap_i64 (by omega) (by omega)
        rw [fits_same hb1 hb2 hd hall (by simp_all [Tac.rest, baseOp, arrOp] <;> omega)]
        subst hdd haa hbb
        clear hd hj hall hwr hw hw2 hb1 hb2
        first | (simp_all [Tac.same, Tac.want, baseOp, arrOp, setsOp, use1, use2]; done) | simp [Tac.same, Tac.want, baseOp, arrOp, *]
      ·
       refine AGo.cond_false false rfl rfl ?_
       refine AGo.region ?_
       refine aq 113 (q_bin rfl rfl rfl rfl) ?_
       refine aa 111 ?_
       refine AOps.nil ?_
       refine AGo.split 111 rfl (fun hb27 => ?_) (fun hb27 => ?_)
       ·
        refine AGo.cond_true true rfl rfl ?_
        refine AGo.seq ?_
        refine AGo.region ?_
        refine af 114 tok ?_
        refine al 115 tok ?_
        refine af 116 tok ?_
        refine AOps.w rfl rfl (o_store tok rfl rfl rfl rfl rfl rfl rfl rfl rfl (by decide) rfl (by first | exact fun _ => rfl | (intro h; cases h))) ?_
        refine AOps.nil ?_
        refine AGo.seq ?_
        refine AGo.region ?_
        refine af 117 tok ?_
        refine al 118 tok ?_
        refine am 119 ?_
        refine ax 120 (o_pure rfl Try.func50 (by kernel_rfl) rfl rfl rfl (within_ok _ _)) ?_
        refine aq 121 (q_not rfl rfl) ?_
        refine AOps.nil ?_
        refine AGo.split 121 rfl (fun hb28 => ?_) (fun hb28 => ?_)
        ·
         refine AGo.cond_true true rfl rfl ?_
         refine AGo.seq ?_
         refine AGo.region ?_
         refine aa 8 ?_
         refine AOps.nil ?_
         refine AGo.ret ?_
         refine ⟨[_], ⟨rfl, trivial⟩, ?_, rfl⟩
         show AV.bool _ = AV.bool _
         congr 1
         exact (fits_rest (by simp_all [Tac.rest, baseOp, arrOp] <;> omega)).symm
        ·
         refine AGo.cond_false false rfl rfl ?_
         refine AGo.skip ?_
         refine AGo.seq ?_
         refine AGo.region ?_
         refine al 163 tok ?_
         refine al 164 tok ?_
         refine aq 165 (q_eqStruct tok false rfl rfl rfl (by kernel_rfl) rfl rfl rfl rfl rfl) ?_
         refine aa 8 ?_
         refine AOps.nil ?_
         refine AGo.ret ?_
         refine ⟨[_], ⟨rfl, trivial⟩, ?_, rfl⟩
         show AV.bool _ = AV.bool _
         congr 1
         have hwr : 1 ≤ t.size → t.size ≤ 4096 → IntKind.i64.wrap (words - t.size) = words - t.size := fun h1 h2 => wrap_i64 (by omega) (by omega)
         rw [fits_same hb1 hb2 hd hall (by simp_all [Tac.rest, baseOp, arrOp] <;> omega)]
         subst hdd haa hbb
         clear hd hj hall hwr hw hw2 hb1 hb2
         first | (simp_all [Tac.same, Tac.want, baseOp, arrOp, setsOp, use1, use2]; done) | simp [Tac.same, Tac.want, baseOp, arrOp, *]
       ·
        refine AGo.cond_false false rfl rfl ?_
        refine AGo.seq ?_
        refine AGo.seq ?_
        refine AGo.region ?_
        refine aq 123 (q_bin rfl rfl rfl rfl) ?_
        refine aa 122 ?_
        refine AOps.nil ?_
        refine AGo.split 122 rfl (fun hb29 => ?_) (fun hb29 => ?_)
        ·
         refine AGo.cond_true true rfl rfl ?_
         refine AGo.skip ?_
         refine AGo.cond_true true rfl rfl ?_
         refine AGo.seq ?_
         refine AGo.draw mix ?_
         refine df 125 tok ?_
         refine dl 126 tok ?_
         refine df 127 tok ?_
         refine dl 128 tok ?_
         refine df 129 tok ?_
         refine DOps.w rfl rfl (o_store tok rfl rfl rfl rfl rfl rfl rfl rfl rfl (by decide) rfl (by first | exact fun _ => rfl | (intro h; cases h))) ?_
         refine df 130 tok ?_
         refine DOps.w rfl rfl (o_store tok rfl rfl rfl rfl rfl rfl rfl rfl rfl (by decide) rfl (by first | exact fun _ => rfl | (intro h; cases h))) ?_
         refine DOps.nil (by kernel_rfl) ?_
         refine AGo.seq ?_
         refine AGo.region ?_
         refine af 131 tok ?_
         refine al 132 tok ?_
         refine aq 133 (q_bin rfl rfl rfl rfl) ?_
         refine am 134 ?_
         refine AOps.split 134 rfl (fun hb30 => ?_) (fun hb30 => ?_)
         ·
          refine ak 135 ?_
          refine ak 136 ?_
          refine ak 137 ?_
          refine aq 138 (q_pick_true true rfl rfl rfl rfl) ?_
          refine am 139 ?_
          refine ak 140 ?_
          refine ak 141 ?_
          refine ak 142 ?_
          refine aq 143 (q_pick_true true rfl rfl rfl rfl) ?_
          refine am 144 ?_
          refine ak 145 ?_
          refine ak 146 ?_
          refine ak 147 ?_
          refine ak 148 ?_
          refine ak 149 ?_
          refine ak 150 ?_
          refine ak 151 ?_
          refine aq 152 (q_pick_true true rfl rfl rfl rfl) ?_
          refine AOps.nil ?_
          refine AGo.cond_true true rfl rfl ?_
          refine AGo.seq ?_
          refine AGo.region ?_
          refine aa 8 ?_
          refine AOps.nil ?_
          refine AGo.ret ?_
          refine ⟨[_], ⟨rfl, trivial⟩, ?_, rfl⟩
          show AV.bool _ = AV.bool _
          congr 1
          have hwr : 1 ≤ t.size → t.size ≤ 4096 → IntKind.i64.wrap (words - t.size) = words - t.size := fun h1 h2 => wrap_i64 (by omega) (by omega)
          exact (fits_rest (by simp_all [Tac.rest, baseOp, arrOp] <;> omega)).symm
         ·
          refine af 135 tok ?_
          refine al 136 tok ?_
          refine aq 137 (q_bin rfl rfl rfl rfl) ?_
          refine aq 138 (q_pick_false false rfl rfl rfl rfl) ?_
          refine am 139 ?_
          refine AOps.split 139 rfl (fun hb31 => ?_) (fun hb31 => ?_)
          ·
           refine ak 140 ?_
           refine ak 141 ?_
           refine ak 142 ?_
           refine aq 143 (q_pick_true true rfl rfl rfl rfl) ?_
           refine am 144 ?_
           refine ak 145 ?_
           refine ak 146 ?_
           refine ak 147 ?_
           refine ak 148 ?_
           refine ak 149 ?_
           refine ak 150 ?_
           refine ak 151 ?_
           refine aq 152 (q_pick_true true rfl rfl rfl rfl) ?_
           refine AOps.nil ?_
           refine AGo.cond_true true rfl rfl ?_
           refine AGo.seq ?_
           refine AGo.region ?_
           refine aa 8 ?_
           refine AOps.nil ?_
           refine AGo.ret ?_
           refine ⟨[_], ⟨rfl, trivial⟩, ?_, rfl⟩
           show AV.bool _ = AV.bool _
           congr 1
           have hwr : 1 ≤ t.size → t.size ≤ 4096 → IntKind.i64.wrap (words - t.size) = words - t.size := fun h1 h2 => wrap_i64 (by omega) (by omega)
           exact (fits_rest (by simp_all [Tac.rest, baseOp, arrOp] <;> omega)).symm
          ·
           refine af 140 tok ?_
           refine al 141 tok ?_
           refine aq 142 (q_bin rfl rfl rfl rfl) ?_
           refine aq 143 (q_pick_false false rfl rfl rfl rfl) ?_
           refine am 144 ?_
           refine AOps.split 144 rfl (fun hb32 => ?_) (fun hb32 => ?_)
           ·
            refine ak 145 ?_
            refine ak 146 ?_
            refine ak 147 ?_
            refine ak 148 ?_
            refine ak 149 ?_
            refine ak 150 ?_
            refine ak 151 ?_
            refine aq 152 (q_pick_true true rfl rfl rfl rfl) ?_
            refine AOps.nil ?_
            refine AGo.cond_true true rfl rfl ?_
            refine AGo.seq ?_
            refine AGo.region ?_
            refine aa 8 ?_
            refine AOps.nil ?_
            refine AGo.ret ?_
            refine ⟨[_], ⟨rfl, trivial⟩, ?_, rfl⟩
            show AV.bool _ = AV.bool _
            congr 1
            have hwr : 1 ≤ t.size → t.size ≤ 4096 → IntKind.i64.wrap (words - t.size) = words - t.size := fun h1 h2 => wrap_i64 (by omega) (by omega)
            exact (fits_rest (by simp_all [Tac.rest, baseOp, arrOp] <;> omega)).symm
           ·
            refine af 145 tok ?_
            refine al 146 tok ?_
            refine am 147 ?_
            refine af 148 tok ?_
            refine al 149 tok ?_
            refine aq 150 (q_bin rfl rfl rfl rfl) ?_
            refine aq 151 (q_bin rfl rfl rfl rfl) ?_
            refine aq 152 (q_pick_false false rfl rfl rfl rfl) ?_
            refine AOps.nil ?_
            refine AGo.split 152 rfl (fun hb33 => ?_) (fun hb33 => ?_)
            ·
             refine AGo.cond_true true rfl rfl ?_
             refine AGo.seq ?_
             refine AGo.region ?_
             refine aa 8 ?_
             refine AOps.nil ?_
             refine AGo.ret ?_
             refine ⟨[_], ⟨rfl, trivial⟩, ?_, rfl⟩
             show AV.bool _ = AV.bool _
             congr 1
             have hwr : 1 ≤ t.size → t.size ≤ 4096 → IntKind.i64.wrap (words - t.size) = words - t.size := fun h1 h2 => wrap_i64 (by omega) (by omega)
             exact (fits_rest (by simp_all [Tac.rest, baseOp, arrOp] <;> omega)).symm
            ·
             refine AGo.cond_false false rfl rfl ?_
             refine AGo.skip ?_
             refine AGo.seq ?_
             refine AGo.region ?_
             refine al 163 tok ?_
             refine al 164 tok ?_
             refine aq 165 (q_eqStruct tok false rfl rfl rfl (by kernel_rfl) rfl rfl rfl rfl rfl) ?_
             refine aa 8 ?_
             refine AOps.nil ?_
             refine AGo.ret ?_
             refine ⟨[_], ⟨rfl, trivial⟩, ?_, rfl⟩
             show AV.bool _ = AV.bool _
             congr 1
             have hwr : 1 ≤ t.size → t.size ≤ 4096 → IntKind.i64.wrap (words - t.size) = words - t.size := fun h1 h2 => wrap_i64 (by omega) (by omega)
             rw [fits_same hb1 hb2 hd hall (by simp_all [Tac.rest, baseOp, arrOp] <;> omega)]
             subst hdd haa hbb
             clear hd hj hall hwr hw hw2 hb1 hb2
             first | (simp_all [Tac.same, Tac.want, baseOp, arrOp, setsOp, use1, use2]; done) | simp [Tac.same, Tac.want, baseOp, arrOp, *]
        ·
         refine AGo.cond_false false rfl rfl ?_
         refine AGo.region ?_
         refine aq 124 (q_bin rfl rfl rfl rfl) ?_
         refine aa 122 ?_
         refine AOps.nil ?_
         refine AGo.split 122 rfl (fun hb34 => ?_) (fun hb34 => ?_)
         ·
          refine AGo.cond_true true rfl rfl ?_
          refine AGo.seq ?_
          refine AGo.draw mix ?_
          refine df 125 tok ?_
          refine dl 126 tok ?_
          refine df 127 tok ?_
          refine dl 128 tok ?_
          refine df 129 tok ?_
          refine DOps.w rfl rfl (o_store tok rfl rfl rfl rfl rfl rfl rfl rfl rfl (by decide) rfl (by first | exact fun _ => rfl | (intro h; cases h))) ?_
          refine df 130 tok ?_
          refine DOps.w rfl rfl (o_store tok rfl rfl rfl rfl rfl rfl rfl rfl rfl (by decide) rfl (by first | exact fun _ => rfl | (intro h; cases h))) ?_
          refine DOps.nil (by kernel_rfl) ?_
          refine AGo.seq ?_
          refine AGo.region ?_
          refine af 131 tok ?_
          refine al 132 tok ?_
          refine aq 133 (q_bin rfl rfl rfl rfl) ?_
          refine am 134 ?_
          refine AOps.split 134 rfl (fun hb35 => ?_) (fun hb35 => ?_)
          ·
           refine ak 135 ?_
           refine ak 136 ?_
           refine ak 137 ?_
           refine aq 138 (q_pick_true true rfl rfl rfl rfl) ?_
           refine am 139 ?_
           refine ak 140 ?_
           refine ak 141 ?_
           refine ak 142 ?_
           refine aq 143 (q_pick_true true rfl rfl rfl rfl) ?_
           refine am 144 ?_
           refine ak 145 ?_
           refine ak 146 ?_
           refine ak 147 ?_
           refine ak 148 ?_
           refine ak 149 ?_
           refine ak 150 ?_
           refine ak 151 ?_
           refine aq 152 (q_pick_true true rfl rfl rfl rfl) ?_
           refine AOps.nil ?_
           refine AGo.cond_true true rfl rfl ?_
           refine AGo.seq ?_
           refine AGo.region ?_
           refine aa 8 ?_
           refine AOps.nil ?_
           refine AGo.ret ?_
           refine ⟨[_], ⟨rfl, trivial⟩, ?_, rfl⟩
           show AV.bool _ = AV.bool _
           congr 1
           have hwr : 1 ≤ t.size → t.size ≤ 4096 → IntKind.i64.wrap (words - t.size) = words - t.size := fun h1 h2 => wrap_i64 (by omega) (by omega)
           exact (fits_rest (by simp_all [Tac.rest, baseOp, arrOp] <;> omega)).symm
          ·
           refine af 135 tok ?_
           refine al 136 tok ?_
           refine aq 137 (q_bin rfl rfl rfl rfl) ?_
           refine aq 138 (q_pick_false false rfl rfl rfl rfl) ?_
           refine am 139 ?_
           refine AOps.split 139 rfl (fun hb36 => ?_) (fun hb36 => ?_)
           ·
            refine ak 140 ?_
            refine ak 141 ?_
            refine ak 142 ?_
            refine aq 143 (q_pick_true true rfl rfl rfl rfl) ?_
            refine am 144 ?_
            refine ak 145 ?_
            refine ak 146 ?_
            refine ak 147 ?_
            refine ak 148 ?_
            refine ak 149 ?_
            refine ak 150 ?_
            refine ak 151 ?_
            refine aq 152 (q_pick_true true rfl rfl rfl rfl) ?_
            refine AOps.nil ?_
            refine AGo.cond_true true rfl rfl ?_
            refine AGo.seq ?_
            refine AGo.region ?_
            refine aa 8 ?_
            refine AOps.nil ?_
            refine AGo.ret ?_
            refine ⟨[_], ⟨rfl, trivial⟩, ?_, rfl⟩
            show AV.bool _ = AV.bool _
            congr 1
            have hwr : 1 ≤ t.size → t.size ≤ 4096 → IntKind.i64.wrap (words - t.size) = words - t.size := fun h1 h2 => wrap_i64 (by omega) (by omega)
            exact (fits_rest (by simp_all [Tac.rest, baseOp, arrOp] <;> omega)).symm
           ·
            refine af 140 tok ?_
            refine al 141 tok ?_
            refine aq 142 (q_bin rfl rfl rfl rfl) ?_
            refine aq 143 (q_pick_false false rfl rfl rfl rfl) ?_
            refine am 144 ?_
            refine AOps.split 144 rfl (fun hb37 => ?_) (fun hb37 => ?_)
            ·
             refine ak 145 ?_
             refine ak 146 ?_
             refine ak 147 ?_
             refine ak 148 ?_
             refine ak 149 ?_
             refine ak 150 ?_
             refine ak 151 ?_
             refine aq 152 (q_pick_true true rfl rfl rfl rfl) ?_
             refine AOps.nil ?_
             refine AGo.cond_true true rfl rfl ?_
             refine AGo.seq ?_
             refine AGo.region ?_
             refine aa 8 ?_
             refine AOps.nil ?_
             refine AGo.ret ?_
             refine ⟨[_], ⟨rfl, trivial⟩, ?_, rfl⟩
             show AV.bool _ = AV.bool _
             congr 1
             have hwr : 1 ≤ t.size → t.size ≤ 4096 → IntKind.i64.wrap (words - t.size) = words - t.size := fun h1 h2 => wrap_i64 (by omega) (by omega)
             exact (fits_rest (by simp_all [Tac.rest, baseOp, arrOp] <;> omega)).symm
            ·
             refine af 145 tok ?_
             refine al 146 tok ?_
             refine am 147 ?_
             refine af 148 tok ?_
             refine al 149 tok ?_
             refine aq 150 (q_bin rfl rfl rfl rfl) ?_
             refine aq 151 (q_bin rfl rfl rfl rfl) ?_
             refine aq 152 (q_pick_false false rfl rfl rfl rfl) ?_
             refine AOps.nil ?_
             refine AGo.split 152 rfl (fun hb38 => ?_) (fun hb38 => ?_)
             ·
              refine AGo.cond_true true rfl rfl ?_
              refine AGo.seq ?_
              refine AGo.region ?_
              refine aa 8 ?_
              refine AOps.nil ?_
              refine AGo.ret ?_
              refine ⟨[_], ⟨rfl, trivial⟩, ?_, rfl⟩
              show AV.bool _ = AV.bool _
              congr 1
              have hwr : 1 ≤ t.size → t.size ≤ 4096 → IntKind.i64.wrap (words - t.size) = words - t.size := fun h1 h2 => wrap_i64 (by omega) (by omega)
              exact (fits_rest (by simp_all [Tac.rest, baseOp, arrOp] <;> omega)).symm
             ·
              refine AGo.cond_false false rfl rfl ?_
              refine AGo.skip ?_
              refine AGo.seq ?_
              refine AGo.region ?_
              refine al 163 tok ?_
              refine al 164 tok ?_
              refine aq 165 (q_eqStruct tok false rfl rfl rfl (by kernel_rfl) rfl rfl rfl rfl rfl) ?_
              refine aa 8 ?_
              refine AOps.nil ?_
              refine AGo.ret ?_
              refine ⟨[_], ⟨rfl, trivial⟩, ?_, rfl⟩
              show AV.bool _ = AV.bool _
              congr 1
              have hwr : 1 ≤ t.size → t.size ≤ 4096 → IntKind.i64.wrap (words - t.size) = words - t.size := fun h1 h2 => wrap_i64 (by omega) (by omega)
              rw [fits_same hb1 hb2 hd hall (by simp_all [Tac.rest, baseOp, arrOp] <;> omega)]
              subst hdd haa hbb
              clear hd hj hall hwr hw hw2 hb1 hb2
              first | (simp_all [Tac.same, Tac.want, baseOp, arrOp, setsOp, use1, use2]; done) | simp [Tac.same, Tac.want, baseOp, arrOp, *]
         ·
          refine AGo.cond_false false rfl rfl ?_
          refine AGo.seq ?_
          refine AGo.region ?_
          refine aq 154 (q_bin rfl rfl rfl rfl) ?_
          refine aa 153 ?_
          refine AOps.nil ?_
          refine AGo.split 153 rfl (fun hb39 => ?_) (fun hb39 => ?_)
          ·
           refine AGo.cond_true true rfl rfl ?_
           refine AGo.seq ?_
           refine AGo.region ?_
           refine af 155 tok ?_
           refine al 156 tok ?_
           refine af 157 tok ?_
           refine AOps.w rfl rfl (o_store tok rfl rfl rfl rfl rfl rfl rfl rfl rfl (by decide) rfl (by first | exact fun _ => rfl | (intro h; cases h))) ?_
           refine AOps.nil ?_
           refine AGo.seq ?_
           refine AGo.region ?_
           refine af 158 tok ?_
           refine al 159 tok ?_
           refine am 160 ?_
           refine ax 161 (o_pure rfl Try.func50 (by kernel_rfl) rfl rfl rfl (within_ok _ _)) ?_
           refine aq 162 (q_not rfl rfl) ?_
           refine AOps.nil ?_
           refine AGo.split 162 rfl (fun hb40 => ?_) (fun hb40 => ?_)
           ·
            refine AGo.cond_true true rfl rfl ?_
            refine AGo.seq ?_
            refine AGo.region ?_
            refine aa 8 ?_
            refine AOps.nil ?_
            refine AGo.ret ?_
            refine ⟨[_], ⟨rfl, trivial⟩, ?_, rfl⟩
            show AV.bool _ = AV.bool _
            congr 1
            exact (fits_rest (by simp_all [Tac.rest, baseOp, arrOp] <;> omega)).symm
           ·
            refine AGo.cond_false false rfl rfl ?_
            refine AGo.skip ?_
            refine AGo.seq ?_
            refine AGo.region ?_
            refine al 163 tok ?_
            refine al 164 tok ?_
            refine aq 165 (q_eqStruct tok false rfl rfl rfl (by kernel_rfl) rfl rfl rfl rfl rfl) ?_
            refine aa 8 ?_
            refine AOps.nil ?_
            refine AGo.ret ?_
            refine ⟨[_], ⟨rfl, trivial⟩, ?_, rfl⟩
            show AV.bool _ = AV.bool _
            congr 1
            have hwr : 1 ≤ t.size → t.size ≤ 4096 → IntKind.i64.wrap (words - t.size) = words - t.size := fun h1 h2 => wrap_i64 (by omega) (by omega)
            rw [fits_same hb1 hb2 hd hall (by simp_all [Tac.rest, baseOp, arrOp] <;> omega)]
            subst hdd haa hbb
            clear hd hj hall hwr hw hw2 hb1 hb2
            first | (simp_all [Tac.same, Tac.want, baseOp, arrOp, setsOp, use1, use2]; done) | simp [Tac.same, Tac.want, baseOp, arrOp, *]
          ·
           refine AGo.cond_false false rfl rfl ?_
           refine AGo.skip ?_
           refine AGo.seq ?_
           refine AGo.region ?_
           refine al 163 tok ?_
           refine al 164 tok ?_
           refine aq 165 (q_eqStruct tok false rfl rfl rfl (by kernel_rfl) rfl rfl rfl rfl rfl) ?_
           refine aa 8 ?_
           refine AOps.nil ?_
           refine AGo.ret ?_
           refine ⟨[_], ⟨rfl, trivial⟩, ?_, rfl⟩
           show AV.bool _ = AV.bool _
           congr 1
           have hwr : 1 ≤ t.size → t.size ≤ 4096 → IntKind.i64.wrap (words - t.size) = words - t.size := fun h1 h2 => wrap_i64 (by omega) (by omega)
           rw [fits_same hb1 hb2 hd hall (by simp_all [Tac.rest, baseOp, arrOp] <;> omega)]
           subst hdd haa hbb
           clear hd hj hall hwr hw hw2 hb1 hb2
           first | (simp_all [Tac.same, Tac.want, baseOp, arrOp, setsOp, use1, use2]; done) | simp [Tac.same, Tac.want, baseOp, arrOp, *]

set_option maxRecDepth 100000 in
theorem one_ok (f : BFunc) (number words : Int) (hw : 0 ≤ words) (hw2 : words ≤ 1048576) : APure Try.prog 32 [.agg f.cells, .int .i64 number, .int .i64 words] (fun r => r = .bool (f.one number words)) := by
 refine APure.of_body (n := 68) tok Try.func32 rfl rfl ?_
 refine AGo.seq ?_
 refine AGo.slot 0 rfl (fun H ι v => rel_bfunc) (fun hfit => ?_)
 refine AGo.region ?_
 refine ax 3 (o_box (sz := 2) 0 rfl rfl rfl rfl (Nat.zero_lt_succ _) rfl) ?_
 refine aa 6 ?_
 refine AOps.nil ?_
 refine AGo.seq ?_
 refine AGo.seq ?_
 refine AGo.region ?_
 refine af 9 tok ?_
 refine al 10 tok ?_
 refine aq 11 (q_bin rfl rfl rfl rfl) ?_
 refine am 12 ?_
 refine AOps.split 12 rfl (fun hb1 => ?_) (fun hb1 => ?_)
 ·
  refine ak 13 ?_
  refine ak 14 ?_
  refine ak 15 ?_
  refine aq 16 (q_pick_true true rfl rfl rfl rfl) ?_
  refine am 17 ?_
  refine ak 18 ?_
  refine ak 19 ?_
  refine ak 20 ?_
  refine ak 21 ?_
  refine aq 22 (q_pick_true true rfl rfl rfl rfl) ?_
  refine AOps.nil ?_
  refine AGo.cond_true true rfl rfl ?_
  refine AGo.seq ?_
  refine AGo.region ?_
  refine aa 6 ?_
  refine AOps.nil ?_
  refine AGo.ret ?_
  refine ⟨[_], ⟨rfl, trivial⟩, ?_, rfl⟩
  show AV.bool _ = AV.bool _
  congr 1
  exact (one_bad (by simp_all <;> omega)).symm
 ·
  refine af 13 tok ?_
  refine al 14 tok ?_
  refine aq 15 (q_bin rfl rfl rfl rfl) ?_
  refine aq 16 (q_pick_false false rfl rfl rfl rfl) ?_
  refine am 17 ?_
  refine AOps.split 17 rfl (fun hb2 => ?_) (fun hb2 => ?_)
  ·
   refine ak 18 ?_
   refine ak 19 ?_
   refine ak 20 ?_
   refine ak 21 ?_
   refine aq 22 (q_pick_true true rfl rfl rfl rfl) ?_
   refine AOps.nil ?_
   refine AGo.cond_true true rfl rfl ?_
   refine AGo.seq ?_
   refine AGo.region ?_
   refine aa 6 ?_
   refine AOps.nil ?_
   refine AGo.ret ?_
   refine ⟨[_], ⟨rfl, trivial⟩, ?_, rfl⟩
   show AV.bool _ = AV.bool _
   congr 1
   exact (one_bad (by simp_all <;> omega)).symm
  ·
   refine af 18 tok ?_
   refine al 19 tok ?_
   refine aq 20 (q_len tok rfl rfl rfl rfl rfl) ?_
   refine aq 21 (q_bin rfl rfl rfl rfl) ?_
   refine aq 22 (q_pick_false false rfl rfl rfl rfl) ?_
   refine AOps.nil ?_
   refine AGo.split 22 rfl (fun hb3 => ?_) (fun hb3 => ?_)
   ·
    refine AGo.cond_true true rfl rfl ?_
    refine AGo.seq ?_
    refine AGo.region ?_
    refine aa 6 ?_
    refine AOps.nil ?_
    refine AGo.ret ?_
    refine ⟨[_], ⟨rfl, trivial⟩, ?_, rfl⟩
    show AV.bool _ = AV.bool _
    congr 1
    exact (one_bad (by simp_all <;> omega)).symm
   ·
    refine AGo.cond_false false rfl rfl ?_
    have h0 : 0 ≤ f.regs ∧ f.regs ≤ 4000 ∧ f.blocks.length ≠ 0 := by simp_all <;> omega
    refine AGo.skip ?_
    refine AGo.seq ?_
    refine AGo.seq ?_
    refine AGo.region ?_
    refine aa 7 ?_
    refine AOps.nil ?_
    refine AGo.block ?_
    refine AGo.loopD (γ := Nat) 1 (fun k => ⟨68, (eput (eput (eput (eput eNew 1 (.int .i64 number)) 2 (.int .i64 words)) 3 (.ptr 0 1 0 0)) 7 (.int .i64 (k : Int))), (hput (hFrom 1) 0 (.row false 2 [f.cells]))⟩) (fun k => (f.blocks.take k).all (fun x => x.ok f.blocks.length f.regs number words) = true) (fun k => f.blocks.length - k) 0 (Sub.mk' (by repeat (first | exact ESub.new _ | refine ESub.put ?_ (by rfl))) (by repeat (first | exact HSub.refl _ | exact HSub.none _ | exact HSub.from_new _ | exact HSub.from_from (by first | decide | omega | (dsimp only; omega)) | refine HSub.put ?_ (by rfl) | refine HSub.from_put ?_ (by first | decide | omega | (dsimp only; omega)) | refine HSub.from_rm ?_ (by decide)))) rfl (fun _ => hput_free (fun b hb => hFrom_free hb) rfl) ?_
    intro k hk
    refine AGo.seq ?_
    refine AGo.seq ?_
    refine AGo.region ?_
    refine am 23 ?_
    refine af 24 tok ?_
    refine al 25 tok ?_
    refine aq 26 (q_len tok rfl rfl rfl rfl rfl) ?_
    refine aq 27 (q_bin rfl rfl rfl rfl) ?_
    refine AOps.nil ?_
    refine AGo.split 27 rfl (fun hb4 => ?_) (fun hb4 => ?_)
    ·
     refine AGo.cond_true true rfl rfl ?_
     have hkl : k < f.blocks.length := lt_of_idx hb4
     obtain ⟨x, hx⟩ := get_of_lt hkl
     refine AGo.skip ?_
     refine AGo.seq ?_
     refine AGo.block ?_
     refine AGo.seq ?_
     refine AGo.seq ?_
     refine AGo.draw mix ?_
     refine df 30 tok ?_
     refine dl 31 tok ?_
     refine dm 32 ?_
     refine dq 33 (q_index_lst tok rfl rfl rfl rfl rfl rfl (Int.natCast_nonneg _) (idx_map (by assumption)) rfl) ?_
     refine dl 34 tok ?_
     refine df 35 tok ?_
     refine dl 36 tok ?_
     refine dq 37 (q_len tok rfl rfl rfl rfl rfl) ?_
     refine df 38 tok ?_
     refine dl 39 tok ?_
     refine dx 40 (o_pure rfl Try.func40 (by kernel_rfl) rfl rfl rfl (ends_ok x _ _)) ?_
     refine dq 41 (q_not rfl rfl) ?_
     refine DOps.nil (by kernel_rfl) ?_
     refine AGo.split 41 rfl (fun hb5 => ?_) (fun hb5 => ?_)
     ·
      refine AGo.cond_true true rfl rfl ?_
      have hends : x.ends f.blocks.length f.regs = false := by simpa using hb5
      refine AGo.seq ?_
      refine AGo.region ?_
      refine aa 6 ?_
      refine AOps.nil ?_
      refine AGo.ret ?_
      refine ⟨[_], ⟨rfl, trivial⟩, ?_, rfl⟩
      show AV.bool _ = AV.bool _
      congr 1
      rw [one_all h0.1 h0.2.1 h0.2.2, all_bad hx (by simp [Block.ok, hends])]
     ·
      refine AGo.cond_false false rfl rfl ?_
      have hends : x.ends f.blocks.length f.regs = true := by simpa using hb5
      refine AGo.skip ?_
      refine AGo.seq ?_
      refine AGo.region ?_
      refine aa 8 ?_
      refine AOps.nil ?_
      refine AGo.block ?_
      refine AGo.loopD (γ := Nat) 1 (fun j => ⟨68, (eput (eput (eput (eput (eput eNew 1 (.int .i64 number)) 2 (.int .i64 words)) 3 (.ptr 0 1 0 0)) 7 (.int .i64 (k : Int))) 8 (.int .i64 (j : Int))), (hput (hFrom 1) 0 (.row false 2 [f.cells]))⟩) (fun j => (x.ins.take j).all (fun t => t.fits number f.regs words) = true) (fun j => x.ins.length - j) 0 (Sub.mk' (by repeat (first | exact ESub.new _ | refine ESub.put ?_ (by rfl))) (by repeat (first | exact HSub.refl _ | exact HSub.none _ | exact HSub.from_new _ | exact HSub.from_from (by first | decide | omega | (dsimp only; omega)) | refine HSub.put ?_ (by rfl) | refine HSub.from_put ?_ (by first | decide | omega | (dsimp only; omega)) | refine HSub.from_rm ?_ (by decide)))) rfl (fun _ => hput_free (fun b hb => hFrom_free hb) rfl) ?_
      intro j hj
      refine AGo.seq ?_
      refine AGo.seq ?_
      refine AGo.region ?_
      refine am 42 ?_
      refine af 43 tok ?_
      refine al 44 tok ?_
      refine am 45 ?_
      refine aq 46 (q_index_lst tok rfl rfl rfl rfl rfl rfl (Int.natCast_nonneg _) (idx_map (by assumption)) rfl) ?_
      refine af 47 tok ?_
      refine al 48 tok ?_
      refine aq 49 (q_len tok rfl rfl rfl rfl rfl) ?_
      refine aq 50 (q_bin rfl rfl rfl rfl) ?_
      refine AOps.nil ?_
      refine AGo.split 50 rfl (fun hb6 => ?_) (fun hb6 => ?_)
      ·
       refine AGo.cond_true true rfl rfl ?_
       have hjl : j < x.ins.length := lt_of_idx hb6
       obtain ⟨u, hu⟩ := get_of_lt hjl
       refine AGo.skip ?_
       refine AGo.seq ?_
       refine AGo.block ?_
       refine AGo.seq ?_
       refine AGo.draw mix ?_
       refine df 53 tok ?_
       refine dl 54 tok ?_
       refine dm 55 ?_
       refine dq 56 (q_index_lst tok rfl rfl rfl rfl rfl rfl (Int.natCast_nonneg _) (idx_map (by assumption)) rfl) ?_
       refine df 57 tok ?_
       refine dl 58 tok ?_
       refine dm 59 ?_
       refine dq 60 (q_index_lst tok rfl rfl rfl rfl rfl rfl (Int.natCast_nonneg _) (idx_map (by assumption)) rfl) ?_
       refine dl 61 tok ?_
       refine dm 62 ?_
       refine df 63 tok ?_
       refine dl 64 tok ?_
       refine dm 65 ?_
       refine dx 66 (o_pure rfl Try.func41 (by kernel_rfl) rfl rfl rfl (fits_ok u _ _ _ hw hw2)) ?_
       refine dq 67 (q_not rfl rfl) ?_
       refine DOps.nil (by kernel_rfl) ?_
       refine AGo.split 67 rfl (fun hb7 => ?_) (fun hb7 => ?_)
       ·
        refine AGo.cond_true true rfl rfl ?_
        have hbw := hb7
        refine AGo.seq ?_
        refine AGo.region ?_
        refine aa 6 ?_
        refine AOps.nil ?_
        refine AGo.ret ?_
        refine ⟨[_], ⟨rfl, trivial⟩, ?_, rfl⟩
        show AV.bool _ = AV.bool _
        congr 1
        rw [one_all h0.1 h0.2.1 h0.2.2, all_bad hx (by simp only [Block.ok, all_bad (p := fun t => Tac.fits t number f.regs words) hu (by simpa using hbw), Bool.and_false])]
       ·
        refine AGo.cond_false false rfl rfl ?_
        have hbw := hb7
        refine AGo.skip ?_
        refine AGo.region ?_
        refine am 51 ?_
        refine aq 52 (q_inc rfl rfl hjl (hfit.2 x (List.mem_of_getElem? hx))) ?_
        refine aa 8 ?_
        refine AOps.nil ?_
        exact ⟨j+1, Drop.mk' (by repeat (first | exact EDrop.new _ _ | refine EDrop.put ?_ (by rfl) (by first | rfl | exact slA_avoid _ rfl | exact vaA_avoid _ rfl))) (by repeat (first | exact HDrop.none _ _ | exact HDrop.tail _ _ | refine HDrop.put ?_ (by rfl) rfl (by first | rfl | exact slO_avoid _ _ | exact vaO_avoid _ | exact tab_avoid _ _ rfl rfl | exact wlk_avoid _ _ _ rfl rfl rfl))), all_succ hu hj (by simpa using hbw), by omega⟩
      ·
       refine AGo.cond_false false rfl rfl ?_
       have hins := all_end hj (ge_of_idx hb6)
       refine AGo.exit ?_
       refine AGo.region ?_
       refine am 28 ?_
       refine aq 29 (q_inc rfl rfl hkl hfit.1) ?_
       refine aa 7 ?_
       refine AOps.nil ?_
       exact ⟨k+1, Drop.mk' (by repeat (first | exact EDrop.new _ _ | refine EDrop.put ?_ (by rfl) (by first | rfl | exact slA_avoid _ rfl | exact vaA_avoid _ rfl))) (by repeat (first | exact HDrop.none _ _ | exact HDrop.tail _ _ | refine HDrop.put ?_ (by rfl) rfl (by first | rfl | exact slO_avoid _ _ | exact vaO_avoid _ | exact tab_avoid _ _ rfl rfl | exact wlk_avoid _ _ _ rfl rfl rfl))), all_succ hx hk (by simp [Block.ok, hends, hins]), by omega⟩
    ·
     refine AGo.cond_false false rfl rfl ?_
     have hall := all_end hk (ge_of_idx hb4)
     refine AGo.exit ?_
     refine AGo.seq ?_
     refine AGo.region ?_
     refine aa 6 ?_
     refine AOps.nil ?_
     refine AGo.ret ?_
     refine ⟨[_], ⟨rfl, trivial⟩, ?_, rfl⟩
     show AV.bool _ = AV.bool _
     congr 1
     rw [one_all h0.1 h0.2.1 h0.2.2, hall]

set_option maxRecDepth 100000 in
theorem right_ok (b : Blocks) : APure Try.prog 20 [.agg b.cells] (fun r => r = .bool b.right) := by
 refine APure.of_body (n := 35) tok Try.func20 rfl rfl ?_
 refine AGo.seq ?_
 refine AGo.slot 0 rfl (fun H ι v => rel_prog) (fun hfit => ?_)
 refine AGo.region ?_
 refine ax 1 (o_box (sz := 2) 0 rfl rfl rfl rfl (Nat.zero_lt_succ _) rfl) ?_
 refine aa 2 ?_
 refine AOps.nil ?_
 refine AGo.seq ?_
 refine AGo.seq ?_
 refine AGo.region ?_
 refine af 4 tok ?_
 refine al 5 tok ?_
 refine aq 6 (q_bin rfl rfl rfl rfl) ?_
 refine am 7 ?_
 refine AOps.split 7 rfl (fun hb1 => ?_) (fun hb1 => ?_)
 ·
  refine ak 8 ?_
  refine ak 9 ?_
  refine ak 10 ?_
  refine aq 11 (q_pick_true true rfl rfl rfl rfl) ?_
  refine am 12 ?_
  refine ak 13 ?_
  refine ak 14 ?_
  refine ak 15 ?_
  refine ak 16 ?_
  refine aq 17 (q_pick_true true rfl rfl rfl rfl) ?_
  refine AOps.nil ?_
  refine AGo.cond_true true rfl rfl ?_
  refine AGo.seq ?_
  refine AGo.region ?_
  refine aa 2 ?_
  refine AOps.nil ?_
  refine AGo.ret ?_
  refine ⟨[_], ⟨rfl, trivial⟩, ?_, rfl⟩
  show AV.bool _ = AV.bool _
  congr 1
  exact (right_bad (by simp_all <;> omega)).symm
 ·
  refine af 8 tok ?_
  refine al 9 tok ?_
  refine aq 10 (q_bin rfl rfl rfl rfl) ?_
  refine aq 11 (q_pick_false false rfl rfl rfl rfl) ?_
  refine am 12 ?_
  refine AOps.split 12 rfl (fun hb2 => ?_) (fun hb2 => ?_)
  ·
   refine ak 13 ?_
   refine ak 14 ?_
   refine ak 15 ?_
   refine ak 16 ?_
   refine aq 17 (q_pick_true true rfl rfl rfl rfl) ?_
   refine AOps.nil ?_
   refine AGo.cond_true true rfl rfl ?_
   refine AGo.seq ?_
   refine AGo.region ?_
   refine aa 2 ?_
   refine AOps.nil ?_
   refine AGo.ret ?_
   refine ⟨[_], ⟨rfl, trivial⟩, ?_, rfl⟩
   show AV.bool _ = AV.bool _
   congr 1
   exact (right_bad (by simp_all <;> omega)).symm
  ·
   refine af 13 tok ?_
   refine al 14 tok ?_
   refine aq 15 (q_len tok rfl rfl rfl rfl rfl) ?_
   refine aq 16 (q_bin rfl rfl rfl rfl) ?_
   refine aq 17 (q_pick_false false rfl rfl rfl rfl) ?_
   refine AOps.nil ?_
   refine AGo.split 17 rfl (fun hb3 => ?_) (fun hb3 => ?_)
   ·
    refine AGo.cond_true true rfl rfl ?_
    refine AGo.seq ?_
    refine AGo.region ?_
    refine aa 2 ?_
    refine AOps.nil ?_
    refine AGo.ret ?_
    refine ⟨[_], ⟨rfl, trivial⟩, ?_, rfl⟩
    show AV.bool _ = AV.bool _
    congr 1
    exact (right_bad (by simp_all <;> omega)).symm
   ·
    refine AGo.cond_false false rfl rfl ?_
    have h0 : 0 ≤ b.words ∧ b.words ≤ 1048576 ∧ b.funcs.length ≠ 0 := by simp_all <;> omega
    refine AGo.skip ?_
    refine AGo.seq ?_
    refine AGo.seq ?_
    refine AGo.region ?_
    refine aa 3 ?_
    refine AOps.nil ?_
    refine AGo.block ?_
    refine AGo.loopD (γ := Nat) 1 (fun k => ⟨35, (eput (eput eNew 1 (.ptr 0 1 0 0)) 3 (.int .i64 (k : Int))), (hput (hFrom 1) 0 (.row false 2 [b.cells]))⟩) (fun k => (b.funcs.zipIdx.take k).all (fun p => p.1.one (p.2 : Int) b.words) = true) (fun k => b.funcs.length - k) 0 (Sub.mk' (by repeat (first | exact ESub.new _ | refine ESub.put ?_ (by rfl))) (by repeat (first | exact HSub.refl _ | exact HSub.none _ | exact HSub.from_new _ | exact HSub.from_from (by first | decide | omega | (dsimp only; omega)) | refine HSub.put ?_ (by rfl) | refine HSub.from_put ?_ (by first | decide | omega | (dsimp only; omega)) | refine HSub.from_rm ?_ (by decide)))) rfl (fun _ => hput_free (fun b hb => hFrom_free hb) rfl) ?_
    intro k hk
    refine AGo.seq ?_
    refine AGo.seq ?_
    refine AGo.region ?_
    refine am 18 ?_
    refine af 19 tok ?_
    refine al 20 tok ?_
    refine aq 21 (q_len tok rfl rfl rfl rfl rfl) ?_
    refine aq 22 (q_bin rfl rfl rfl rfl) ?_
    refine AOps.nil ?_
    refine AGo.split 22 rfl (fun hb4 => ?_) (fun hb4 => ?_)
    ·
     refine AGo.cond_true true rfl rfl ?_
     have hkl : k < b.funcs.length := lt_of_idx hb4
     obtain ⟨x, hx⟩ := get_of_lt hkl
     refine AGo.skip ?_
     refine AGo.seq ?_
     refine AGo.block ?_
     refine AGo.seq ?_
     refine AGo.draw mix ?_
     refine df 25 tok ?_
     refine dl 26 tok ?_
     refine dm 27 ?_
     refine dq 28 (q_index_lst tok rfl rfl rfl rfl rfl rfl (Int.natCast_nonneg _) (idx_map (by assumption)) rfl) ?_
     refine dl 29 tok ?_
     refine dm 30 ?_
     refine df 31 tok ?_
     refine dl 32 tok ?_
     refine dx 33 (o_pure rfl Try.func32 (by kernel_rfl) rfl rfl rfl (one_ok x _ _ h0.1 h0.2.1)) ?_
     refine dq 34 (q_not rfl rfl) ?_
     refine DOps.nil (by kernel_rfl) ?_
     refine AGo.split 34 rfl (fun hb5 => ?_) (fun hb5 => ?_)
     ·
      refine AGo.cond_true true rfl rfl ?_
      have hone := hb5
      refine AGo.seq ?_
      refine AGo.region ?_
      refine aa 2 ?_
      refine AOps.nil ?_
      refine AGo.ret ?_
      refine ⟨[_], ⟨rfl, trivial⟩, ?_, rfl⟩
      show AV.bool _ = AV.bool _
      congr 1
      rw [right_all h0.1 h0.2.1 h0.2.2, all_bad (zipIdx_get hx) (by simpa using hone)]
     ·
      refine AGo.cond_false false rfl rfl ?_
      have hone := hb5
      refine AGo.skip ?_
      refine AGo.region ?_
      refine am 23 ?_
      refine aq 24 (q_inc rfl rfl hkl hfit.1) ?_
      refine aa 3 ?_
      refine AOps.nil ?_
      exact ⟨k+1, Drop.mk' (by repeat (first | exact EDrop.new _ _ | refine EDrop.put ?_ (by rfl) (by first | rfl | exact slA_avoid _ rfl | exact vaA_avoid _ rfl))) (by repeat (first | exact HDrop.none _ _ | exact HDrop.tail _ _ | refine HDrop.put ?_ (by rfl) rfl (by first | rfl | exact slO_avoid _ _ | exact vaO_avoid _ | exact tab_avoid _ _ rfl rfl | exact wlk_avoid _ _ _ rfl rfl rfl))), all_succ (zipIdx_get hx) hk (by simpa using hone), by omega⟩
    ·
     refine AGo.cond_false false rfl rfl ?_
     have hall := all_end hk (by rw [List.length_zipIdx]; exact ge_of_idx hb4)
     refine AGo.exit ?_
     refine AGo.seq ?_
     refine AGo.region ?_
     refine aa 2 ?_
     refine AOps.nil ?_
     refine AGo.ret ?_
     refine ⟨[_], ⟨rfl, trivial⟩, ?_, rfl⟩
     show AV.bool _ = AV.bool _
     congr 1
     rw [right_all h0.1 h0.2.1 h0.2.2, hall]

end Go.Proofs.Ytpijoieooikfgaa.Sv

namespace Go.Proofs.Ytpijoieooikfgaa.Sv
open Go

set_option maxRecDepth 100000 in
theorem few34_ok (f : BFunc) (nb ni : Int) (hb : 0 ≤ ni ∧ ni ≤ 1000) (hn : f.blocks.length ≤ big) (hi : ∀ x ∈ f.blocks, x.ins.length ≤ big) : APure Try.prog 11 [.agg f.cells, .int .i64 nb, .int .i64 ni] (fun r => r = .bool (few34 f nb ni)) := by
 refine APure.of_body (n := 36) tok Try.func11 rfl rfl ?_
 refine AGo.seq ?_
 refine AGo.region ?_
 refine ax 3 (o_box (sz := 2) 0 rfl rfl rfl rfl (Nat.zero_lt_succ _) rfl) ?_
 refine aa 6 ?_
 refine AOps.nil ?_
 refine AGo.seq ?_
 refine AGo.seq ?_
 refine AGo.region ?_
 refine af 8 tok ?_
 refine al 9 tok ?_
 refine aq 10 (q_len tok rfl rfl rfl rfl rfl) ?_
 refine am 11 ?_
 refine aq 12 (q_bin rfl rfl rfl rfl) ?_
 refine am 13 ?_
 refine AOps.split 13 rfl (fun hb1 => ?_) (fun hb1 => ?_)
 ·
  refine ak 14 ?_
  refine ak 15 ?_
  refine ak 16 ?_
  refine aq 17 (q_pick_true true rfl rfl rfl rfl) ?_
  refine AOps.nil ?_
  refine AGo.cond_true true rfl rfl ?_
  refine AGo.seq ?_
  refine AGo.region ?_
  refine aa 6 ?_
  refine AOps.nil ?_
  refine AGo.ret ?_
  refine ⟨[_], ⟨rfl, trivial⟩, ?_, rfl⟩
  show AV.bool _ = AV.bool _
  congr 1
  simp_all [few34]; try omega
 ·
  refine af 14 tok ?_
  refine al 15 tok ?_
  refine aq 16 (q_bin rfl rfl rfl rfl) ?_
  refine aq 17 (q_pick_false false rfl rfl rfl rfl) ?_
  refine AOps.nil ?_
  refine AGo.split 17 rfl (fun hb2 => ?_) (fun hb2 => ?_)
  ·
   refine AGo.cond_true true rfl rfl ?_
   refine AGo.seq ?_
   refine AGo.region ?_
   refine aa 6 ?_
   refine AOps.nil ?_
   refine AGo.ret ?_
   refine ⟨[_], ⟨rfl, trivial⟩, ?_, rfl⟩
   show AV.bool _ = AV.bool _
   congr 1
   simp_all [few34]; try omega
  ·
   refine AGo.cond_false false rfl rfl ?_
   have hg1 : (f.blocks.length : Int) ≤ nb := by have h := hb1; simp only [List.length_map, decide_eq_false_iff_not] at h; omega
   have hg2 : f.regs ≤ 40 := by have h := hb2; simp only [decide_eq_false_iff_not] at h; omega
   refine AGo.skip ?_
   refine AGo.seq ?_
   refine AGo.seq ?_
   refine AGo.region ?_
   refine aa 7 ?_
   refine AOps.nil ?_
   refine AGo.block ?_
   refine AGo.loopD (γ := Nat) 1 (fun k => ⟨36, (eput (eput (eput (eput eNew 1 (.int .i64 nb)) 2 (.int .i64 (ni - (insSum' (f.blocks.take k) : Int)))) 3 (.ptr 0 1 0 0)) 7 (.int .i64 (k : Int))), (hput (hFrom 1) 0 (.row false 2 [f.cells]))⟩) (fun k => k ≤ f.blocks.length ∧ (k ≠ 0 → (insSum' (f.blocks.take k) : Int) ≤ ni)) (fun k => f.blocks.length - k) 0 (Sub.mk' (by repeat (first | exact ESub.new _ | refine ESub.put ?_ (by first | rfl | exact congrArg (fun n : Int => some (AV.int .i64 n)) (by simp [insSum'])))) (by repeat (first | exact HSub.refl _ | exact HSub.none _ | exact HSub.from_new _ | exact HSub.from_from (by first | decide | omega | (dsimp only; omega)) | refine HSub.put ?_ (by rfl) | refine HSub.from_put ?_ (by first | decide | omega | (dsimp only; omega)) | refine HSub.from_rm ?_ (by decide)))) ⟨Nat.zero_le _, fun h => absurd rfl h⟩ (fun _ => hput_free (fun b hb => hFrom_free hb) rfl) ?_
   intro k ⟨hk, hF⟩
   refine AGo.seq ?_
   refine AGo.seq ?_
   refine AGo.region ?_
   refine am 18 ?_
   refine af 19 tok ?_
   refine al 20 tok ?_
   refine aq 21 (q_len tok rfl rfl rfl rfl rfl) ?_
   refine aq 22 (q_bin rfl rfl rfl rfl) ?_
   refine AOps.nil ?_
   refine AGo.split 22 rfl (fun hb3 => ?_) (fun hb3 => ?_)
   ·
    refine AGo.cond_true true rfl rfl ?_
    have hkl : k < f.blocks.length := by simpa using hb3
    obtain ⟨x, hx⟩ := get_of_lt hkl
    have hxb := hi x (List.mem_of_getElem? hx)
    have hsx := insSum_succ' hx
    simp only [big] at hxb hn
    have hsum : (insSum' (f.blocks.take k) : Int) ≤ ni := by by_cases h0 : k = 0; { subst h0; simp [insSum']; omega }; exact hF h0
    refine AGo.skip ?_
    refine AGo.seq ?_
    refine AGo.block ?_
    refine AGo.seq ?_
    refine AGo.region ?_
    refine am 25 ?_
    refine af 26 tok ?_
    refine al 27 tok ?_
    refine am 28 ?_
    refine aq 29 (q_index_lst tok rfl rfl rfl rfl rfl rfl (Int.natCast_nonneg _) (idx_map hx) rfl) ?_
    refine af 30 tok ?_
    refine al 31 tok ?_
    refine aq 32 (q_len tok rfl rfl rfl rfl rfl) ?_
    refine aq 33 (q_bin (r := .int .i64 (ni - (insSum' (f.blocks.take (k + 1)) : Int))) rfl rfl rfl (subZ (by rw [List.length_map]; omega) (by rw [List.length_map]; omega) (by rw [List.length_map]; omega))) ?_
    refine aa 2 ?_
    refine AOps.nil ?_
    refine AGo.seq ?_
    refine AGo.region ?_
    refine am 34 ?_
    refine aq 35 (q_bin rfl rfl rfl rfl) ?_
    refine AOps.nil ?_
    refine AGo.split 35 rfl (fun hb4 => ?_) (fun hb4 => ?_)
    ·
     refine AGo.cond_true true rfl rfl ?_
     have hover : ¬ (insSum' f.blocks : Int) ≤ ni := by have h := hb4; simp only [decide_eq_true_eq] at h; have h2 := insSum_all f.blocks (k + 1); omega
     refine AGo.seq ?_
     refine AGo.region ?_
     refine aa 6 ?_
     refine AOps.nil ?_
     refine AGo.ret ?_
     refine ⟨[_], ⟨rfl, trivial⟩, ?_, rfl⟩
     show AV.bool _ = AV.bool _
     congr 1
     simp [few34, hover]
    ·
     refine AGo.cond_false false rfl rfl ?_
     have hin : (insSum' (f.blocks.take (k + 1)) : Int) ≤ ni := by have h := hb4; simp only [decide_eq_false_iff_not] at h; omega
     refine AGo.skip ?_
     refine AGo.region ?_
     refine am 23 ?_
     refine aq 24 (q_inc rfl rfl hkl (show f.blocks.length ≤ maxLen by simp only [maxLen]; (try simp only [big] at hn); omega)) ?_
     refine aa 7 ?_
     refine AOps.nil ?_
     exact ⟨k+1, Drop.mk' (by repeat (first | exact EDrop.new _ _ | refine EDrop.put ?_ (by first | rfl | exact congrArg (fun n : Int => some (AV.int .i64 n)) (by omega)) (by first | rfl | exact slA_avoid _ rfl | exact vaA_avoid _ rfl))) (by repeat (first | exact HDrop.none _ _ | exact HDrop.tail _ _ | refine HDrop.put ?_ (by rfl) rfl (by first | rfl | exact slO_avoid _ _ | exact vaO_avoid _ | exact tab_avoid _ _ rfl rfl | exact wlk_avoid _ _ _ rfl rfl rfl))), ⟨hkl, fun _ => by omega⟩, by omega⟩
   ·
    refine AGo.cond_false false rfl rfl ?_
    have hge : f.blocks.length ≤ k := by simpa using hb3
    have hsum : (insSum' f.blocks : Int) ≤ ni := by by_cases h0 : k = 0; { subst h0; have : f.blocks = [] := List.eq_nil_of_length_eq_zero (by omega); rw [this]; simp [insSum']; omega }; { have h := hF h0; rwa [List.take_of_length_le hge] at h }
    refine AGo.exit ?_
    refine AGo.seq ?_
    refine AGo.region ?_
    refine aa 6 ?_
    refine AOps.nil ?_
    refine AGo.ret ?_
    refine ⟨[_], ⟨rfl, trivial⟩, ?_, rfl⟩
    show AV.bool _ = AV.bool _
    congr 1
    simp [few34, hg1, hg2, hsum]

set_option maxRecDepth 100000 in
theorem great_ok (c : Cert) (hn : c.same.length ≤ big) : APure Try.prog 12 [.agg c.cells] (fun r => r = .bool (great34 c)) := by
 refine APure.of_body (n := 26) tok Try.func12 rfl rfl ?_
 refine AGo.seq ?_
 refine AGo.region ?_
 refine ax 1 (o_box (sz := 1) 0 rfl rfl rfl rfl (Nat.zero_lt_succ _) rfl) ?_
 refine aa 2 ?_
 refine AOps.nil ?_
 refine AGo.seq ?_
 refine AGo.seq ?_
 refine AGo.region ?_
 refine aa 3 ?_
 refine AOps.nil ?_
 refine AGo.block ?_
 refine AGo.loopD (γ := Nat) 1 (fun k => ⟨26, (eput (eput eNew 1 (.ptr 0 1 0 0)) 3 (.int .i64 (k : Int))), (hput (hFrom 1) 0 (.row false 1 [c.cells]))⟩) (fun k => k ≤ c.same.length ∧ k ≤ 21 ∧ (c.same.take k).any (fun r => decide (60 < r.length)) = false) (fun k => c.same.length - k) 0 (Sub.mk' (by repeat (first | exact ESub.new _ | refine ESub.put ?_ (by first | rfl | exact congrArg (fun (n : Nat) => some (AV.int .i64 (n : Int))) (by simp)))) (by repeat (first | exact HSub.refl _ | exact HSub.none _ | exact HSub.from_new _ | exact HSub.from_from (by first | decide | omega | (dsimp only; omega)) | refine HSub.put ?_ (by rfl) | refine HSub.from_put ?_ (by first | decide | omega | (dsimp only; omega)) | refine HSub.from_rm ?_ (by decide)))) ⟨Nat.zero_le _, Nat.zero_le _, rfl⟩ (fun _ => hput_free (fun b hb => hFrom_free hb) rfl) ?_
 intro k ⟨hk, hk21, hF⟩
 refine AGo.seq ?_
 refine AGo.seq ?_
 refine AGo.region ?_
 refine am 4 ?_
 refine af 5 tok ?_
 refine al 6 tok ?_
 refine aq 7 (q_len tok rfl rfl rfl rfl rfl) ?_
 refine aq 8 (q_bin rfl rfl rfl rfl) ?_
 refine am 9 ?_
 refine AOps.split 9 rfl (fun hb1 => ?_) (fun hb1 => ?_)
 ·
  have hkl : k < c.same.length := by have h := hb1; simp only [List.length_map, decide_eq_true_eq] at h; omega
  refine am 10 ?_
  refine aq 11 (q_bin rfl rfl rfl rfl) ?_
  refine aq 12 (q_pick_true true rfl rfl rfl rfl) ?_
  refine AOps.nil ?_
  refine AGo.split 12 rfl (fun hb2 => ?_) (fun hb2 => ?_)
  ·
   refine AGo.cond_true true rfl rfl ?_
   have hk20 : (k : Int) ≤ 20 := by have h := hb2; simpa using h
   obtain ⟨r, hr⟩ := get_of_lt hkl
   refine AGo.skip ?_
   refine AGo.seq ?_
   refine AGo.block ?_
   refine AGo.seq ?_
   refine AGo.region ?_
   refine af 15 tok ?_
   refine al 16 tok ?_
   refine am 17 ?_
   refine aq 18 (q_index_lst tok rfl rfl rfl rfl rfl rfl (Int.natCast_nonneg _) (idx_map hr) rfl) ?_
   refine al 19 tok ?_
   refine aq 20 (q_len tok rfl rfl rfl rfl rfl) ?_
   refine aq 21 (q_bin rfl rfl rfl rfl) ?_
   refine AOps.nil ?_
   refine AGo.split 21 rfl (fun hb3 => ?_) (fun hb3 => ?_)
   ·
    refine AGo.cond_true true rfl rfl ?_
    have hbad : (60 : Int) < r.length := by have h := hb3; simp only [List.length_map, decide_eq_true_eq] at h; omega
    refine AGo.seq ?_
    refine AGo.region ?_
    refine aa 2 ?_
    refine AOps.nil ?_
    refine AGo.ret ?_
    refine ⟨[_], ⟨rfl, trivial⟩, ?_, rfl⟩
    show AV.bool _ = AV.bool _
    congr 1
    exact (great_yes hr (by omega) (by omega)).symm
   ·
    refine AGo.cond_false false rfl rfl ?_
    have hgood : ¬ (60 : Int) < r.length := by have h := hb3; simp only [List.length_map, decide_eq_false_iff_not] at h; omega
    refine AGo.skip ?_
    refine AGo.region ?_
    refine am 13 ?_
    refine aq 14 (q_inc rfl rfl hkl (show c.same.length ≤ maxLen by simp only [maxLen]; (try simp only [big] at hn); omega)) ?_
    refine aa 3 ?_
    refine AOps.nil ?_
    exact ⟨k+1, Drop.mk' (by repeat (first | exact EDrop.new _ _ | refine EDrop.put ?_ (by rfl) (by first | rfl | exact slA_avoid _ rfl | exact vaA_avoid _ rfl))) (by repeat (first | exact HDrop.none _ _ | exact HDrop.tail _ _ | refine HDrop.put ?_ (by rfl) rfl (by first | rfl | exact slO_avoid _ _ | exact vaO_avoid _ | exact tab_avoid _ _ rfl rfl | exact wlk_avoid _ _ _ rfl rfl rfl))), ⟨hkl, by omega, by rw [take_succ_eq hr, List.any_append, hF]; simp; omega⟩, by omega⟩
  ·
   refine AGo.cond_false false rfl rfl ?_
   have hend := hb2
   refine AGo.exit ?_
   refine AGo.seq ?_
   refine AGo.region ?_
   refine af 22 tok ?_
   refine al 23 tok ?_
   refine aq 24 (q_len tok rfl rfl rfl rfl rfl) ?_
   refine aq 25 (q_bin rfl rfl rfl rfl) ?_
   refine aa 2 ?_
   refine AOps.nil ?_
   refine AGo.ret ?_
   refine ⟨[_], ⟨rfl, trivial⟩, ?_, rfl⟩
   show AV.bool _ = AV.bool _
   congr 1
   exact (great_end hF hk hk21 (by first | (simp only [List.length_map, decide_eq_false_iff_not] at hend; omega) | (simp only [decide_eq_false_iff_not] at hend; omega))).symm
 ·
  refine ak 10 ?_
  refine ak 11 ?_
  refine aq 12 (q_pick_false false rfl rfl rfl rfl) ?_
  refine AOps.nil ?_
  refine AGo.cond_false false rfl rfl ?_
  have hend := hb1
  refine AGo.exit ?_
  refine AGo.seq ?_
  refine AGo.region ?_
  refine af 22 tok ?_
  refine al 23 tok ?_
  refine aq 24 (q_len tok rfl rfl rfl rfl rfl) ?_
  refine aq 25 (q_bin rfl rfl rfl rfl) ?_
  refine aa 2 ?_
  refine AOps.nil ?_
  refine AGo.ret ?_
  refine ⟨[_], ⟨rfl, trivial⟩, ?_, rfl⟩
  show AV.bool _ = AV.bool _
  congr 1
  exact (great_end hF hk hk21 (by first | (simp only [List.length_map, decide_eq_false_iff_not] at hend; omega) | (simp only [decide_eq_false_iff_not] at hend; omega))).symm

end Go.Proofs.Ytpijoieooikfgaa.Sv

namespace Go.Proofs.Ytpijoieooikfgaa.Sv
open Go

set_option maxHeartbeats 2000000 in
set_option maxRecDepth 100000 in
theorem may_ok (f : BFunc) (hn : f.blocks.length ≤ 100000) (hi : ∀ x ∈ f.blocks, x.ins.length ≤ 100000) : APure Try.prog 37 [.agg f.cells] (fun r => r = .bool f.stands) := by
 refine APure.of_body (n := 97) tok Try.func37 rfl rfl ?_
 refine AGo.seq ?_
 refine AGo.region ?_
 refine ax 1 (o_box (sz := 2) 0 rfl rfl rfl rfl (Nat.zero_lt_succ _) rfl) ?_
 refine aa 2 ?_
 refine AOps.nil ?_
 refine AGo.seq ?_
 refine AGo.region ?_
 refine af 9 tok ?_
 refine al 10 tok ?_
 refine aq 11 (q_build tok rfl rfl rfl rfl rfl (by decide) rfl rfl rfl) ?_
 refine ax 3 (o_alloc tok 1 rfl rfl rfl rfl (Nat.zero_lt_succ _) rfl) ?_
 refine AOps.w rfl rfl (o_store tok rfl rfl rfl rfl rfl rfl rfl rfl rfl (by decide) rfl (by first | exact fun _ => rfl | (intro h; cases h))) ?_
 refine AOps.nil ?_
 refine AGo.seq ?_
 refine AGo.seq ?_
 refine AGo.ghost (.dryCell 1 0 1 2 5 true rfl rfl rfl rfl rfl (by decide)) ?_
 refine AGo.region ?_
 refine aa 4 ?_
 refine AOps.nil ?_
 refine AGo.block ?_
 refine AGo.loopD (γ := Nat) 3 (fun k => ⟨97, (eput (eput (eput eNew 1 (.ptr 0 1 0 0)) 3 (.ptr 1 1 0 0)) 4 (.int .i64 (k : Int))), (hput (hput (hput (hFrom 3) 0 (.row false 2 [f.cells])) 1 (.row false 2 [[.int .i64 f.regs, .ref 2 ((f.blocks.take (k)).map Block.bare).length 0 ((f.blocks.take (k)).map Block.bare).length]])) 2 (.row true 5 (((f.blocks.take (k)).map Block.bare).map Block.cells)))⟩) (fun k => k ≤ f.blocks.length ∧ (f.blocks.take k).all (fun x => x.ins.all Tac.callOk) = true) (fun k => f.blocks.length - k) 0 (Sub.mk' (by repeat (first | exact ESub.new _ | refine ESub.put ?_ (by first | rfl | exact congrArg (fun (n : Nat) => some (AV.int .i64 (n : Int))) (by simp)))) (by repeat (first | exact HSub.refl _ | exact HSub.none _ | exact HSub.from_new _ | exact HSub.from_from (by first | decide | omega | (dsimp only; omega)) | refine HSub.put ?_ (by rfl) | refine HSub.from_put ?_ (by first | decide | omega | (dsimp only; omega)) | refine HSub.from_rm ?_ (by decide)))) ⟨Nat.zero_le _, rfl⟩ (fun _ => hput_free (hput_free (hput_free (fun b hb => hFrom_free hb) rfl) rfl) rfl) ?_
 intro k ⟨hk, hall⟩
 refine AGo.seq ?_
 refine AGo.seq ?_
 refine AGo.region ?_
 refine am 12 ?_
 refine af 13 tok ?_
 refine al 14 tok ?_
 refine aq 15 (q_len tok rfl rfl rfl rfl rfl) ?_
 refine aq 16 (q_bin rfl rfl rfl rfl) ?_
 refine AOps.nil ?_
 refine AGo.split 16 rfl (fun hb1 => ?_) (fun hb1 => ?_)
 ·
  refine AGo.cond_true true rfl rfl ?_
  have hkl : k < f.blocks.length := by simpa using hb1
  obtain ⟨x, hx⟩ := get_of_lt hkl
  have hxm := List.mem_of_getElem? hx
  have htk := take_succ_eq hx
  refine AGo.skip ?_
  refine AGo.seq ?_
  refine AGo.block ?_
  refine AGo.seq ?_
  refine AGo.region ?_
  refine af 19 tok ?_
  refine al 20 tok ?_
  refine am 21 ?_
  refine aq 22 (q_index_lst tok rfl rfl rfl rfl rfl rfl (Int.natCast_nonneg _) (idx_map hx) rfl) ?_
  refine al 23 tok ?_
  refine ax 5 (o_alloc tok 3 rfl rfl rfl rfl (Nat.zero_lt_succ _) rfl) ?_
  refine AOps.w rfl rfl (o_store tok rfl rfl rfl rfl rfl rfl rfl rfl rfl (by decide) rfl (by first | exact fun _ => rfl | (intro h; cases h))) ?_
  refine AOps.nil ?_
  refine AGo.seq ?_
  refine AGo.region ?_
  refine af 24 tok ?_
  refine al 25 tok ?_
  refine af 26 tok ?_
  refine al 27 tok ?_
  refine af 28 tok ?_
  refine al 29 tok ?_
  refine af 30 tok ?_
  refine al 31 tok ?_
  refine aq 32 (q_build tok rfl rfl rfl rfl rfl (by decide) rfl rfl rfl) ?_
  refine ax 6 (o_alloc tok 4 rfl rfl rfl rfl (Nat.zero_lt_succ _) rfl) ?_
  refine AOps.w rfl rfl (o_store tok rfl rfl rfl rfl rfl rfl rfl rfl rfl (by decide) rfl (by first | exact fun _ => rfl | (intro h; cases h))) ?_
  refine AOps.nil ?_
  refine AGo.seq ?_
  refine AGo.seq ?_
  refine AGo.ghost (.dryCell 4 0 0 5 8 true rfl rfl rfl rfl rfl (by decide)) ?_
  refine AGo.region ?_
  refine aa 7 ?_
  refine AOps.nil ?_
  refine AGo.block ?_
  refine AGo.loopD (γ := Nat) 6 (fun j => ⟨97, (eput (eput (eput (eput (eput (eput eNew 1 (.ptr 0 1 0 0)) 3 (.ptr 1 1 0 0)) 4 (.int .i64 (k : Int))) 5 (.ptr 3 1 0 0)) 6 (.ptr 4 1 0 0)) 7 (.int .i64 (j : Int))), (hput (hput (hput (hput (hput (hput (hFrom 6) 0 (.row false 2 [f.cells])) 1 (.row false 2 [[.int .i64 f.regs, .ref 2 ((f.blocks.take (k)).map Block.bare).length 0 ((f.blocks.take (k)).map Block.bare).length]])) 2 (.row true 5 (((f.blocks.take (k)).map Block.bare).map Block.cells))) 3 (.row false 5 [x.cells])) 4 (.row false 5 [[.ref 5 (noCall (x.ins.take j)).length 0 (noCall (x.ins.take j)).length, .int .i64 x.fin, .int .i64 x.v, .int .i64 x.to, .int .i64 x.els]])) 5 (.row true 8 ((noCall (x.ins.take j)).map Tac.cells)))⟩) (fun j => j ≤ x.ins.length ∧ (x.ins.take j).all Tac.callOk = true) (fun j => x.ins.length - j) 0 (Sub.mk' (by repeat (first | exact ESub.new _ | refine ESub.put ?_ (by first | rfl | exact congrArg (fun (n : Nat) => some (AV.int .i64 (n : Int))) (by simp)))) (by repeat (first | exact HSub.refl _ | exact HSub.none _ | exact HSub.from_new _ | exact HSub.from_from (by first | decide | omega | (dsimp only; omega)) | refine HSub.put ?_ (by rfl) | refine HSub.from_put ?_ (by first | decide | omega | (dsimp only; omega)) | refine HSub.from_rm ?_ (by decide)))) ⟨Nat.zero_le _, rfl⟩ (fun _ => hput_free (hput_free (hput_free (hput_free (hput_free (hput_free (fun b hb => hFrom_free hb) rfl) rfl) rfl) rfl) rfl) rfl) ?_
  intro j ⟨hj, hja⟩
  refine AGo.seq ?_
  refine AGo.seq ?_
  refine AGo.region ?_
  refine am 33 ?_
  refine af 34 tok ?_
  refine al 35 tok ?_
  refine aq 36 (q_len tok rfl rfl rfl rfl rfl) ?_
  refine aq 37 (q_bin rfl rfl rfl rfl) ?_
  refine AOps.nil ?_
  refine AGo.split 37 rfl (fun hb2 => ?_) (fun hb2 => ?_)
  ·
   refine AGo.cond_true true rfl rfl ?_
   have hjl : j < x.ins.length := by have h := hb2; simp only [List.length_map, decide_eq_true_eq] at h; omega
   obtain ⟨t, ht⟩ := get_of_lt hjl
   refine AGo.skip ?_
   refine AGo.seq ?_
   refine AGo.block ?_
   refine AGo.seq ?_
   refine AGo.region ?_
   refine af 40 tok ?_
   refine al 41 tok ?_
   refine am 42 ?_
   refine aq 43 (q_index_lst tok rfl rfl rfl rfl rfl rfl (Int.natCast_nonneg _) (idx_map ht) rfl) ?_
   refine al 44 tok ?_
   refine ax 8 (o_alloc tok 6 rfl rfl rfl rfl (Nat.zero_lt_succ _) rfl) ?_
   refine AOps.w rfl rfl (o_store tok rfl rfl rfl rfl rfl rfl rfl rfl rfl (by decide) rfl (by first | exact fun _ => rfl | (intro h; cases h))) ?_
   refine AOps.nil ?_
   refine AGo.seq ?_
   refine AGo.seq ?_
   refine AGo.region ?_
   refine af 45 tok ?_
   refine al 46 tok ?_
   refine aq 47 (q_bin rfl rfl rfl rfl) ?_
   refine AOps.nil ?_
   refine AGo.split 47 rfl (fun hb3 => ?_) (fun hb3 => ?_)
   ·
    refine AGo.cond_true true rfl rfl ?_
    have h10 : (t.op == 10) = true := hb3
    have h10' : (t.op != 10) = false := by simpa using h10
    have hnc := noCall_no ht h10'
    refine AGo.seq ?_
    refine AGo.seq ?_
    refine AGo.region ?_
    refine af 48 tok ?_
    refine al 49 tok ?_
    refine aq 50 (q_bin rfl rfl rfl rfl) ?_
    refine am 51 ?_
    refine AOps.split 51 rfl (fun hb4 => ?_) (fun hb4 => ?_)
    ·
     refine ak 52 ?_
     refine ak 53 ?_
     refine ak 54 ?_
     refine aq 55 (q_pick_true true rfl rfl rfl rfl) ?_
     refine am 56 ?_
     refine ak 57 ?_
     refine ak 58 ?_
     refine ak 59 ?_
     refine aq 60 (q_pick_true true rfl rfl rfl rfl) ?_
     refine am 61 ?_
     refine ak 62 ?_
     refine ak 63 ?_
     refine ak 64 ?_
     refine aq 65 (q_pick_true true rfl rfl rfl rfl) ?_
     refine am 66 ?_
     refine ak 67 ?_
     refine ak 68 ?_
     refine ak 69 ?_
     refine aq 70 (q_pick_true true rfl rfl rfl rfl) ?_
     refine am 71 ?_
     refine ak 72 ?_
     refine ak 73 ?_
     refine ak 74 ?_
     refine aq 75 (q_pick_true true rfl rfl rfl rfl) ?_
     refine am 76 ?_
     refine ak 77 ?_
     refine ak 78 ?_
     refine ak 79 ?_
     refine aq 80 (q_pick_true true rfl rfl rfl rfl) ?_
     refine AOps.nil ?_
     refine AGo.cond_true true rfl rfl ?_
     refine AGo.seq ?_
     refine AGo.region ?_
     refine aa 2 ?_
     refine AOps.nil ?_
     refine AGo.ret ?_
     refine ⟨[_], ⟨rfl, trivial⟩, ?_, rfl⟩
     show AV.bool _ = AV.bool _
     congr 1
     exact (stands_bad hx ht (by unfold Tac.callOk; first | (simp_all [Tac.same, callTac]; done) | (simp_all [Tac.same, callTac]; intro h0_; exfalso; omega))).symm
    ·
     refine af 52 tok ?_
     refine al 53 tok ?_
     refine aq 54 (q_bin rfl rfl rfl rfl) ?_
     refine aq 55 (q_pick_false false rfl rfl rfl rfl) ?_
     refine am 56 ?_
     refine AOps.split 56 rfl (fun hb5 => ?_) (fun hb5 => ?_)
     ·
      refine ak 57 ?_
      refine ak 58 ?_
      refine ak 59 ?_
      refine aq 60 (q_pick_true true rfl rfl rfl rfl) ?_
      refine am 61 ?_
      refine ak 62 ?_
      refine ak 63 ?_
      refine ak 64 ?_
      refine aq 65 (q_pick_true true rfl rfl rfl rfl) ?_
      refine am 66 ?_
      refine ak 67 ?_
      refine ak 68 ?_
      refine ak 69 ?_
      refine aq 70 (q_pick_true true rfl rfl rfl rfl) ?_
      refine am 71 ?_
      refine ak 72 ?_
      refine ak 73 ?_
      refine ak 74 ?_
      refine aq 75 (q_pick_true true rfl rfl rfl rfl) ?_
      refine am 76 ?_
      refine ak 77 ?_
      refine ak 78 ?_
      refine ak 79 ?_
      refine aq 80 (q_pick_true true rfl rfl rfl rfl) ?_
      refine AOps.nil ?_
      refine AGo.cond_true true rfl rfl ?_
      refine AGo.seq ?_
      refine AGo.region ?_
      refine aa 2 ?_
      refine AOps.nil ?_
      refine AGo.ret ?_
      refine ⟨[_], ⟨rfl, trivial⟩, ?_, rfl⟩
      show AV.bool _ = AV.bool _
      congr 1
      exact (stands_bad hx ht (by unfold Tac.callOk; first | (simp_all [Tac.same, callTac]; done) | (simp_all [Tac.same, callTac]; intro h0_; exfalso; omega))).symm
     ·
      refine af 57 tok ?_
      refine al 58 tok ?_
      refine aq 59 (q_bin rfl rfl rfl rfl) ?_
      refine aq 60 (q_pick_false false rfl rfl rfl rfl) ?_
      refine am 61 ?_
      refine AOps.split 61 rfl (fun hb6 => ?_) (fun hb6 => ?_)
      ·
       refine ak 62 ?_
       refine ak 63 ?_
       refine ak 64 ?_
       refine aq 65 (q_pick_true true rfl rfl rfl rfl) ?_
       refine am 66 ?_
       refine ak 67 ?_
       refine ak 68 ?_
       refine ak 69 ?_
       refine aq 70 (q_pick_true true rfl rfl rfl rfl) ?_
       refine am 71 ?_
       refine ak 72 ?_
       refine ak 73 ?_
       refine ak 74 ?_
       refine aq 75 (q_pick_true true rfl rfl rfl rfl) ?_
       refine am 76 ?_
       refine ak 77 ?_
       refine ak 78 ?_
       refine ak 79 ?_
       refine aq 80 (q_pick_true true rfl rfl rfl rfl) ?_
       refine AOps.nil ?_
       refine AGo.cond_true true rfl rfl ?_
       refine AGo.seq ?_
       refine AGo.region ?_
       refine aa 2 ?_
       refine AOps.nil ?_
       refine AGo.ret ?_
       refine ⟨[_], ⟨rfl, trivial⟩, ?_, rfl⟩
       show AV.bool _ = AV.bool _
       congr 1
       exact (stands_bad hx ht (by unfold Tac.callOk; first | (simp_all [Tac.same, callTac]; done) | (simp_all [Tac.same, callTac]; intro h0_; exfalso; omega))).symm
      ·
       refine af 62 tok ?_
       refine al 63 tok ?_
       refine aq 64 (q_bin rfl rfl rfl rfl) ?_
       refine aq 65 (q_pick_false false rfl rfl rfl rfl) ?_
       refine am 66 ?_
       refine AOps.split 66 rfl (fun hb7 => ?_) (fun hb7 => ?_)
       ·
        refine ak 67 ?_
        refine ak 68 ?_
        refine ak 69 ?_
        refine aq 70 (q_pick_true true rfl rfl rfl rfl) ?_
        refine am 71 ?_
        refine ak 72 ?_
        refine ak 73 ?_
        refine ak 74 ?_
        refine aq 75 (q_pick_true true rfl rfl rfl rfl) ?_
        refine am 76 ?_
        refine ak 77 ?_
        refine ak 78 ?_
        refine ak 79 ?_
        refine aq 80 (q_pick_true true rfl rfl rfl rfl) ?_
        refine AOps.nil ?_
        refine AGo.cond_true true rfl rfl ?_
        refine AGo.seq ?_
        refine AGo.region ?_
        refine aa 2 ?_
        refine AOps.nil ?_
        refine AGo.ret ?_
        refine ⟨[_], ⟨rfl, trivial⟩, ?_, rfl⟩
        show AV.bool _ = AV.bool _
        congr 1
        exact (stands_bad hx ht (by unfold Tac.callOk; first | (simp_all [Tac.same, callTac]; done) | (simp_all [Tac.same, callTac]; intro h0_; exfalso; omega))).symm
       ·
        refine af 67 tok ?_
        refine al 68 tok ?_
        refine aq 69 (q_bin rfl rfl rfl rfl) ?_
        refine aq 70 (q_pick_false false rfl rfl rfl rfl) ?_
        refine am 71 ?_
        refine AOps.split 71 rfl (fun hb8 => ?_) (fun hb8 => ?_)
        ·
         refine ak 72 ?_
         refine ak 73 ?_
         refine ak 74 ?_
         refine aq 75 (q_pick_true true rfl rfl rfl rfl) ?_
         refine am 76 ?_
         refine ak 77 ?_
         refine ak 78 ?_
         refine ak 79 ?_
         refine aq 80 (q_pick_true true rfl rfl rfl rfl) ?_
         refine AOps.nil ?_
         refine AGo.cond_true true rfl rfl ?_
         refine AGo.seq ?_
         refine AGo.region ?_
         refine aa 2 ?_
         refine AOps.nil ?_
         refine AGo.ret ?_
         refine ⟨[_], ⟨rfl, trivial⟩, ?_, rfl⟩
         show AV.bool _ = AV.bool _
         congr 1
         exact (stands_bad hx ht (by unfold Tac.callOk; first | (simp_all [Tac.same, callTac]; done) | (simp_all [Tac.same, callTac]; intro h0_; exfalso; omega))).symm
        ·
         refine af 72 tok ?_
         refine al 73 tok ?_
         refine aq 74 (q_bin rfl rfl rfl rfl) ?_
         refine aq 75 (q_pick_false false rfl rfl rfl rfl) ?_
         refine am 76 ?_
         refine AOps.split 76 rfl (fun hb9 => ?_) (fun hb9 => ?_)
         ·
          refine ak 77 ?_
          refine ak 78 ?_
          refine ak 79 ?_
          refine aq 80 (q_pick_true true rfl rfl rfl rfl) ?_
          refine AOps.nil ?_
          refine AGo.cond_true true rfl rfl ?_
          refine AGo.seq ?_
          refine AGo.region ?_
          refine aa 2 ?_
          refine AOps.nil ?_
          refine AGo.ret ?_
          refine ⟨[_], ⟨rfl, trivial⟩, ?_, rfl⟩
          show AV.bool _ = AV.bool _
          congr 1
          exact (stands_bad hx ht (by unfold Tac.callOk; first | (simp_all [Tac.same, callTac]; done) | (simp_all [Tac.same, callTac]; intro h0_; exfalso; omega))).symm
         ·
          refine af 77 tok ?_
          refine al 78 tok ?_
          refine aq 79 (q_bin rfl rfl rfl rfl) ?_
          refine aq 80 (q_pick_false false rfl rfl rfl rfl) ?_
          refine AOps.nil ?_
          refine AGo.split 80 rfl (fun hb10 => ?_) (fun hb10 => ?_)
          ·
           refine AGo.cond_true true rfl rfl ?_
           refine AGo.seq ?_
           refine AGo.region ?_
           refine aa 2 ?_
           refine AOps.nil ?_
           refine AGo.ret ?_
           refine ⟨[_], ⟨rfl, trivial⟩, ?_, rfl⟩
           show AV.bool _ = AV.bool _
           congr 1
           exact (stands_bad hx ht (by unfold Tac.callOk; first | (simp_all [Tac.same, callTac]; done) | (simp_all [Tac.same, callTac]; intro h0_; exfalso; omega))).symm
          ·
           refine AGo.cond_false false rfl rfl ?_
           refine AGo.skip ?_
           refine AGo.exit ?_
           refine AGo.region ?_
           refine am 38 ?_
           refine aq 39 (q_inc rfl rfl hjl (by have := hi x hxm; simp only [maxLen]; omega)) ?_
           refine aa 7 ?_
           refine AOps.nil ?_
           exact ⟨j+1, Drop.mk' (by repeat (first | exact EDrop.new _ _ | refine EDrop.put ?_ (by rfl) (by first | rfl | exact slA_avoid _ rfl | exact vaA_avoid _ rfl))) (by repeat (first | exact HDrop.none _ _ | exact HDrop.tail _ _ | refine HDrop.put ?_ (by first | rfl | (rw [hnc]; rfl) | (rw [hnc, List.map_append]; rfl) | exact congrArg (fun n : Nat => some (AObj.row false 5 [[.ref 5 n 0 n, .int .i64 x.fin, .int .i64 x.v, .int .i64 x.to, .int .i64 x.els]])) (by rw [hnc, List.length_append]; rfl)) rfl (by first | rfl | exact slO_avoid _ _ | exact vaO_avoid _ | exact tab_avoid _ _ rfl rfl | exact wlk_avoid _ _ _ rfl rfl rfl))), ⟨hjl, all_succ ht hja (by first | exact hok | exact (by unfold Tac.callOk; first | (simp_all [Tac.same, callTac]; done) | (simp_all [Tac.same, callTac]; intro h0_; exfalso; omega)))⟩, by omega⟩
   ·
    refine AGo.cond_false false rfl rfl ?_
    have h10 : (t.op != 10) = true := by have h := hb3; simpa using h
    have hnc := noCall_yes ht h10
    have hok := callOk_no h10
    refine AGo.skip ?_
    refine AGo.region ?_
    refine af 81 tok ?_
    refine al 82 tok ?_
    refine al 83 tok ?_
    refine ax 84 (o_lit' tok rfl rfl rfl rfl rfl rfl (by decide) rfl rfl rfl rfl rfl rfl) ?_
    refine ax 85 (o_append tok (n := (noCall (x.ins.take j)).length) (m := 1) rfl rfl rfl rfl rfl rfl rfl rfl rfl (by rw [List.length_map]) rfl rfl (Nat.zero_lt_succ _) (.lst _ _) (by intro cs h; simp [partVals] at h; subst h; rfl) (fun _ cs h => by simp [partVals] at h; subst h; rfl) rfl (by have h1 := noCall_take x.ins j; have h2 := hi x hxm; simp [partVals]; omega) (by have h1 := noCall_take x.ins j; have h2 := hi x hxm; simp [partVals]; simp only [maxLen]; omega)) ?_
    refine af 86 tok ?_
    refine AOps.w rfl rfl (o_store tok rfl rfl rfl rfl rfl rfl rfl rfl rfl (by decide) rfl (by first | exact fun _ => rfl | (intro h; cases h))) ?_
    refine AOps.nil ?_
    refine AGo.region ?_
    refine am 38 ?_
    refine aq 39 (q_inc rfl rfl hjl (by have := hi x hxm; simp only [maxLen]; omega)) ?_
    refine aa 7 ?_
    refine AOps.nil ?_
    exact ⟨j+1, Drop.mk' (by repeat (first | exact EDrop.new _ _ | refine EDrop.put ?_ (by rfl) (by first | rfl | exact slA_avoid _ rfl | exact vaA_avoid _ rfl))) (by repeat (first | exact HDrop.none _ _ | exact HDrop.tail _ _ | refine HDrop.put ?_ (by first | rfl | (rw [hnc]; rfl) | (rw [hnc, List.map_append]; rfl) | exact congrArg (fun n : Nat => some (AObj.row false 5 [[.ref 5 n 0 n, .int .i64 x.fin, .int .i64 x.v, .int .i64 x.to, .int .i64 x.els]])) (by rw [hnc, List.length_append]; rfl)) rfl (by first | rfl | exact slO_avoid _ _ | exact vaO_avoid _ | exact tab_avoid _ _ rfl rfl | exact wlk_avoid _ _ _ rfl rfl rfl))), ⟨hjl, all_succ ht hja (by first | exact hok | exact (by unfold Tac.callOk; first | (simp_all [Tac.same, callTac]; done) | (simp_all [Tac.same, callTac]; intro h0_; exfalso; omega)))⟩, by omega⟩
  ·
   refine AGo.cond_false false rfl rfl ?_
   have hjge : x.ins.length ≤ j := by have h := hb2; simp only [List.length_map, decide_eq_false_iff_not] at h; omega
   refine AGo.exit ?_
   refine AGo.ghost (.freezeCell 4 0 0 5 rfl rfl rfl rfl (by simp) (by decide)) ?_
   rw [List.drop_zero, take_full (l := (noCall (x.ins.take j)).map Tac.cells) (by simp), List.take_of_length_le hjge]
   refine AGo.region ?_
   refine af 87 tok ?_
   refine al 88 tok ?_
   refine al 89 tok ?_
   refine ax 90 (o_lit' tok rfl rfl rfl rfl rfl rfl (by decide) rfl rfl rfl rfl rfl rfl) ?_
   refine ax 91 (o_append tok (n := ((f.blocks.take (k)).map Block.bare).length) (m := 1) rfl rfl rfl rfl rfl rfl rfl rfl rfl (by simp) rfl rfl (Nat.zero_lt_succ _) (.lst _ _) (by intro cs h; simp [partVals] at h; subst h; rfl) (fun _ cs h => by simp [partVals] at h; subst h; rfl) rfl (by simp [partVals]; omega) (by simp [partVals]; simp only [maxLen]; omega)) ?_
   refine af 92 tok ?_
   refine AOps.w rfl rfl (o_store tok rfl rfl rfl rfl rfl rfl rfl rfl rfl (by decide) rfl (by first | exact fun _ => rfl | (intro h; cases h))) ?_
   refine AOps.nil ?_
   refine AGo.region ?_
   refine am 17 ?_
   refine aq 18 (q_inc rfl rfl hkl (show f.blocks.length ≤ maxLen by simp only [maxLen]; omega)) ?_
   refine aa 4 ?_
   refine AOps.nil ?_
   exact ⟨k+1, Drop.mk' (by repeat (first | exact EDrop.new _ _ | refine EDrop.put ?_ (by rfl) (by first | rfl | exact slA_avoid _ rfl | exact vaA_avoid _ rfl))) (by repeat (first | exact HDrop.none _ _ | exact HDrop.tail _ _ | refine HDrop.put ?_ (by first | rfl | exact congrArg (fun es => some (AObj.row true 5 es)) (by rw [htk, List.map_append, List.map_append]; rfl) | exact congrArg (fun n : Nat => some (AObj.row false 2 [[.int .i64 f.regs, .ref 2 n 0 n]])) (by rw [htk, List.map_append, List.length_append]; rfl)) rfl (by first | rfl | exact slO_avoid _ _ | exact vaO_avoid _ | exact tab_avoid _ _ rfl rfl | exact wlk_avoid _ _ _ rfl rfl rfl))), ⟨hkl, all_succ hx hall (all_end hja hjge)⟩, by omega⟩
 ·
  refine AGo.cond_false false rfl rfl ?_
  have hge : f.blocks.length ≤ k := by simpa using hb1
  refine AGo.exit ?_
  refine AGo.seq ?_
  refine AGo.ghost (.freezeCell 1 0 1 2 rfl rfl rfl rfl (by simp) (by decide)) ?_
  rw [List.drop_zero, take_full (l := ((f.blocks.take (k)).map Block.bare).map Block.cells) (by simp), List.take_of_length_le hge]
  refine AGo.region ?_
  refine al 93 tok ?_
  refine ax 94 (o_lit' tok rfl rfl rfl rfl rfl rfl (by decide) rfl rfl rfl rfl rfl rfl) ?_
  refine aq 95 (q_build tok rfl rfl rfl rfl rfl (by decide) rfl rfl rfl) ?_
  refine ax 96 (o_pure rfl Try.func20 (by kernel_rfl) rfl rfl rfl (right_ok (Blocks.mk 1048576 [f.bare]))) ?_
  refine aa 2 ?_
  refine AOps.nil ?_
  refine AGo.ret ?_
  refine ⟨[_], ⟨rfl, trivial⟩, ?_, rfl⟩
  show AV.bool _ = AV.bool _
  congr 1
  exact (stands_all (all_end hall hge)).symm

end Go.Proofs.Ytpijoieooikfgaa.Sv

namespace Go.Proofs.Ytpijoieooikfgaa.Sv
open Go

set_option maxHeartbeats 1000000 in
set_option maxRecDepth 100000 in
theorem rof_ok (L : List RVal) (hL : L.length ≤ 100000) (v : RVal) : ACall Try.prog 38 [.ptr 4 1 0 0, .agg v.cells] (hput (hput hNew 4 (.row false 1 [[slA 9 ((L).map RVal.cells)]])) 9 (slO 9 ((L).map RVal.cells))) (fun r h' => r = .int .i64 (rnum L v).1 ∧ HSub (hput (hput hNone 4 (.row false 1 [[slA 9 (((rnum L v).2).map RVal.cells)]])) 9 (slO 9 (((rnum L v).2).map RVal.cells))) h') := by
 refine ACall.of_body (n := 41) tok Try.func38 rfl rfl ?_
 refine AGo.seq ?_
 refine AGo.region ?_
 refine ax 3 (o_box (sz := 9) 12 rfl rfl rfl rfl (Nat.zero_lt_succ _) rfl) ?_
 refine aa 4 ?_
 refine AOps.nil ?_
 refine AGo.seq ?_
 refine AGo.seq ?_
 refine AGo.region ?_
 refine aa 5 ?_
 refine AOps.nil ?_
 refine AGo.block ?_
 refine AGo.loopD (γ := Nat) 13 (fun k => ⟨41, (eput (eput (eput eNew 0 (.ptr 4 1 0 0)) 3 (.ptr 12 1 0 0)) 5 (.int .i64 (k : Int))), (hput (hput (hput (hFrom 13) 4 (.row false 1 [[slA 9 ((L).map RVal.cells)]])) 9 (slO 9 ((L).map RVal.cells))) 12 (.row false 9 [v.cells]))⟩) (fun k => k ≤ L.length ∧ ∀ j, j < k → ∀ y, L[j]? = some y → y.same v = false) (fun k => L.length - k) 0 (Sub.mk' (by repeat (first | exact ESub.new _ | refine ESub.put ?_ (by rfl))) (by repeat (first | exact HSub.refl _ | exact HSub.none _ | exact HSub.from_new _ | exact HSub.from_from (by first | decide | omega | (dsimp only; omega)) | refine HSub.put ?_ (by rfl) | refine HSub.from_put ?_ (by first | decide | omega | (dsimp only; omega)) | refine HSub.from_rm ?_ (by decide)))) ⟨Nat.zero_le _, fun j h => absurd h (Nat.not_lt_zero _)⟩ (fun _ => hput_free (hput_free (hput_free (fun b hb => hFrom_free hb) rfl) rfl) rfl) ?_
 intro k ⟨hk, hF⟩
 refine AGo.seq ?_
 refine AGo.seq ?_
 refine AGo.region ?_
 refine am 6 ?_
 refine am 7 ?_
 refine aq 8 (q_nilCheck rfl rfl rfl) ?_
 refine af 9 tok ?_
 refine al 10 tok ?_
 refine aq 11 (q_lenJ tok rfl rfl rfl rfl) ?_
 refine aq 12 (q_bin rfl rfl rfl rfl) ?_
 refine AOps.nil ?_
 refine AGo.split 12 rfl (fun hb1 => ?_) (fun hb1 => ?_)
 ·
  refine AGo.cond_true true rfl rfl ?_
  have hkl : k < L.length := by have h := hb1; simp only [List.length_map, decide_eq_true_eq] at h; omega
  obtain ⟨x, hx⟩ := get_of_lt hkl
  refine AGo.skip ?_
  refine AGo.seq ?_
  refine AGo.block ?_
  refine AGo.seq ?_
  refine AGo.draw mix ?_
  refine dm 15 ?_
  refine dq 16 (q_nilCheck rfl rfl rfl) ?_
  refine df 17 tok ?_
  refine dl 18 tok ?_
  refine dm 19 ?_
  refine dq 20 (q_indexJ tok rfl rfl rfl rfl rfl rfl rfl rfl (Int.natCast_nonneg _) (by rw [List.length_map]; omega)) ?_
  refine dq 21 (q_load tok rfl rfl rfl (ptsJ rfl (idx_map hx)) rfl) ?_
  refine dl 22 tok ?_
  refine dq 23 (q_eqStruct tok false rfl rfl rfl (by kernel_rfl) rfl rfl rfl rfl rfl) ?_
  refine DOps.nil (by kernel_rfl) ?_
  refine AGo.split 23 rfl (fun hb2 => ?_) (fun hb2 => ?_)
  ·
   refine AGo.cond_true true rfl rfl ?_
   have hsm : x.same v = true := hb2
   have hi := ridx_first hx hsm hF
   refine AGo.seq ?_
   refine AGo.region ?_
   refine am 24 ?_
   refine aa 4 ?_
   refine AOps.nil ?_
   refine AGo.ret ?_
   refine ⟨[_], ⟨rfl, trivial⟩, ?_, ?_⟩ <;> rw [rnum_old hi]
   · rfl
   · exact (HSub.put (HSub.put (HSub.none _) rfl) rfl)
  ·
   refine AGo.cond_false false rfl rfl ?_
   have hsm : x.same v = false := hb2
   refine AGo.skip ?_
   refine AGo.region ?_
   refine am 13 ?_
   refine aq 14 (q_inc rfl rfl hkl (show L.length ≤ maxLen by simp only [maxLen]; omega)) ?_
   refine aa 5 ?_
   refine AOps.nil ?_
   exact ⟨k+1, Drop.mk' (by repeat (first | exact EDrop.new _ _ | refine EDrop.put ?_ (by rfl) (by first | rfl | exact slA_avoid _ rfl | exact vaA_avoid _ rfl))) (by repeat (first | exact HDrop.none _ _ | exact HDrop.tail _ _ | refine HDrop.put ?_ (by rfl) rfl (by first | rfl | exact slO_avoid _ _ | exact rtab_avoid _ rfl | exact rwlk_avoid _ _ _ rfl rfl rfl))), ⟨hkl, fun j hj y hy => by
           by_cases hjk : j = k
           · subst hjk; rw [hx] at hy; exact (Option.some.inj hy) ▸ hsm
           · exact hF j (by omega) y hy⟩, by omega⟩
 ·
  refine AGo.cond_false false rfl rfl ?_
  have hge : L.length ≤ k := by have h := hb1; simp only [List.length_map, decide_eq_false_iff_not] at h; omega
  have hn := ridx_none (v := v) (L := L) (fun j y hy => hF j (by have := (List.getElem?_eq_some_iff.1 hy).1; omega) y hy)
  refine AGo.exit ?_
  refine AGo.seq ?_
  refine AGo.draw mix ?_
  refine dm 25 ?_
  refine dm 26 ?_
  refine dq 27 (q_nilCheck rfl rfl rfl) ?_
  refine df 28 tok ?_
  refine dl 29 tok ?_
  refine dl 30 tok ?_
  refine dx 31 (o_lit' tok rfl rfl rfl rfl rfl rfl (by decide) rfl rfl rfl rfl rfl rfl) ?_
  refine dx 32 (o_append1J tok (b := 9) (es := ((L).map RVal.cells)) rfl rfl rfl rfl rfl rfl rfl rfl rfl rfl rfl (Nat.zero_lt_succ _) (rv_len _) (rv_pure _) rfl rfl (by rw [List.length_map]; show _ * 72 ≤ _; omega) (by rw [List.length_map]; simp only [maxLen]; omega)) ?_
  refine dq 33 (q_nilCheck rfl rfl rfl) ?_
  refine df 34 tok ?_
  refine DOps.w rfl rfl (o_store1 tok rfl rfl rfl rfl rfl rfl rfl rfl rfl (slA_cells _ _) (by decide) (slA_cell1 _ _) (by intro h; cases h)) ?_
  refine DOps.nil (by kernel_rfl) ?_
  refine AGo.seq ?_
  refine AGo.region ?_
  refine am 35 ?_
  refine aq 36 (q_nilCheck rfl rfl rfl) ?_
  refine af 37 tok ?_
  refine al 38 tok ?_
  refine aq 39 (q_lenJ tok rfl rfl rfl rfl) ?_
  refine aq 40 (q_bin (r := .int .i64 (L.length : Int)) rfl rfl rfl (subZ (by rw [List.length_append, List.length_map, List.length_singleton]; omega) (by rw [List.length_append, List.length_map, List.length_singleton]; omega) (by rw [List.length_append, List.length_map, List.length_singleton]; omega))) ?_
  refine aa 4 ?_
  refine AOps.nil ?_
  refine AGo.ret ?_
  refine ⟨[_], ⟨rfl, trivial⟩, ?_, ?_⟩ <;> rw [rnum_new hn]
  · rfl
  · exact (HSub.put (HSub.put (HSub.none _) (by dsimp only; rw [List.map_append]; rfl)) (by dsimp only; rw [List.map_append]; rfl))

set_option maxHeartbeats 1000000 in
set_option maxRecDepth 100000 in
theorem rconst_ok (L : List RVal) (i : Int) (hi : 0 ≤ i ∧ i < L.length) : ACall Try.prog 68 [.ptr 4 1 0 0, .int .i64 i] (hput (hput hNew 4 (.row false 1 [[slA 9 ((L).map RVal.cells)]])) 9 (slO 9 ((L).map RVal.cells))) (fun r h' => r = .tup [.int .u32 (rconst L i).1, .bool (rconst L i).2] ∧ HSub (hput (hput hNone 4 (.row false 1 [[slA 9 ((L).map RVal.cells)]])) 9 (slO 9 ((L).map RVal.cells))) h') := by
 refine ACall.of_body (n := 23) tok Try.func68 rfl rfl ?_
 refine AGo.seq ?_
 refine AGo.region ?_
 refine aa 4 ?_
 refine aa 5 ?_
 refine AOps.nil ?_
 refine AGo.seq ?_
 refine AGo.draw mix ?_
 refine dm 6 ?_
 refine dq 7 (q_nilCheck rfl rfl rfl) ?_
 refine df 8 tok ?_
 refine dl 9 tok ?_
 refine dm 10 ?_
 refine dq 11 (q_indexJ tok rfl rfl rfl rfl rfl rfl rfl rfl hi.1 (by rw [List.length_map]; exact hi.2)) ?_
 refine df 12 tok ?_
 refine dq 13 (q_load tok rfl rfl rfl (ptsJo rfl (rval_get hi)) rfl) ?_
 refine dm 14 ?_
 refine dq 15 (q_nilCheck rfl rfl rfl) ?_
 refine df 16 tok ?_
 refine dl 17 tok ?_
 refine dm 18 ?_
 refine dq 19 (q_indexJ tok rfl rfl rfl rfl rfl rfl rfl rfl hi.1 (by rw [List.length_map]; exact hi.2)) ?_
 refine df 20 tok ?_
 refine dq 21 (q_load tok rfl rfl rfl (ptsJo rfl (rval_get hi)) rfl) ?_
 refine dq 22 (q_bin rfl rfl rfl rfl) ?_
 refine da 4 ?_
 refine da 5 ?_
 refine DOps.nil (by kernel_rfl) ?_
 refine AGo.ret ?_
 refine ⟨[_, _], ⟨rfl, rfl, trivial⟩, rfl, (HSub.put (HSub.put (HSub.none _) rfl) rfl)⟩

end Go.Proofs.Ytpijoieooikfgaa.Sv

namespace Go.Proofs.Ytpijoieooikfgaa.Sv
open Go

set_option maxRecDepth 100000 in
theorem bits_ok0 (a : Nat) (ha : a < 4294967296) : ACall Try.prog 69 [.int .u32 (a : Int)] (hput hNew 0 .free) (fun r h' => r = .ref 0 32 0 32 ∧ HSub (hput hNone 0 (.row true 1 (natCells (bitsN a 32)))) h') := by
 refine ACall.of_body (n := 18) tok Try.func69 rfl rfl ?_
 refine AGo.seq ?_
 refine AGo.region ?_
 refine aa 2 ?_
 refine AOps.nil ?_
 refine AGo.seq ?_
 refine AGo.region ?_
 refine aa 3 ?_
 refine AOps.nil ?_
 refine AGo.seq ?_
 refine AGo.seq ?_
 refine AGo.ghost (.dry 3 0 1 true rfl rfl rfl (by decide)) ?_
 refine AGo.region ?_
 refine aa 4 ?_
 refine AOps.nil ?_
 refine AGo.block ?_
 refine AGo.loopI (γ := Nat) (fun k => ⟨18, (eput (eput (eput eNew 0 (.int .u32 ((a / 2 ^ k : Nat) : Int))) 3 (.ref 0 k 0 k)) 4 (.int .i64 (k : Int))), (hput hNone 0 (.row true 1 (natCells (bitsN a k))))⟩) (fun k => k ≤ 32) (fun k => 32 - k) 0 (Sub.mk' (by repeat (first | exact ESub.new _ | refine ESub.put ?_ (by first | rfl | exact congrArg (fun (n : Nat) => some (AV.int .u32 (n : Int))) (by simp)))) (by repeat (first | exact HSub.refl _ | exact HSub.none _ | exact HSub.from_new _ | exact HSub.from_from (by first | decide | omega | (dsimp only; omega)) | refine HSub.put ?_ (by rfl) | refine HSub.from_put ?_ (by first | decide | omega | (dsimp only; omega)) | refine HSub.from_rm ?_ (by decide)))) (Nat.zero_le _) ?_
 intro k hk
 refine AGo.seq ?_
 refine AGo.seq ?_
 refine AGo.region ?_
 refine am 5 ?_
 refine aq 6 (q_bin rfl rfl rfl rfl) ?_
 refine AOps.nil ?_
 refine AGo.split 6 rfl (fun hb1 => ?_) (fun hb1 => ?_)
 ·
  refine AGo.cond_true true rfl rfl ?_
  have hkl : k < 32 := by have h := hb1; simp at h; omega
  have hle : a / 2 ^ k ≤ a := Nat.div_le_self _ _
  refine AGo.skip ?_
  refine AGo.seq ?_
  refine AGo.block ?_
  refine AGo.seq ?_
  refine AGo.region ?_
  refine am 9 ?_
  refine am 10 ?_
  refine aq 11 (q_bin (r := .int .u32 ((a / 2 ^ k % 2 : Nat) : Int)) rfl rfl rfl (ebin_rem (a := a / 2 ^ k) (b := 2) (by decide))) ?_
  refine aq 12 (q_convSame tok rfl rfl rfl rfl rfl (wrapN_i64 (by omega))) ?_
  refine ax 13 (o_lit' tok rfl rfl rfl rfl rfl rfl (by decide) rfl rfl rfl rfl rfl rfl) ?_
  refine ax 14 (o_append tok (n := k) (m := 1) rfl rfl rfl rfl rfl rfl rfl rfl rfl (by simp [natCells_len, bitsN_length]) rfl rfl (Nat.zero_lt_succ _) (.lst _ _) (by intro cs h; simp [partVals] at h; subst h; rfl) (fun _ cs h => by simp [partVals] at h; subst h; rfl) rfl (by simp [natCells_len, bitsN_length, partVals]; show _ * 8 ≤ _; omega) (by simp [natCells_len, bitsN_length, partVals]; simp only [maxLen]; omega)) ?_
  refine aa 3 ?_
  refine AOps.nil ?_
  refine AGo.region ?_
  refine am 15 ?_
  refine aq 16 (q_bin (r := .int .u32 ((a / 2 ^ k / 2 : Nat) : Int)) rfl rfl rfl (ebin_quo (a := a / 2 ^ k) (b := 2) (by decide) (wrapN_u32 (by omega)))) ?_
  refine aa 0 ?_
  refine AOps.nil ?_
  refine AGo.region ?_
  refine am 7 ?_
  refine aq 8 (q_inc rfl rfl hkl (show 32 ≤ maxLen by decide)) ?_
  refine aa 4 ?_
  refine AOps.nil ?_
  exact ⟨k+1, Sub.mk' (by repeat (first | exact ESub.new _ | refine ESub.put ?_ (by first | rfl | exact congrArg (fun (n : Nat) => some (AV.int .u32 (n : Int))) (by rw [Nat.div_div_eq_div_mul, Nat.pow_succ])))) (by repeat (first | exact HSub.refl _ | exact HSub.none _ | exact HSub.from_new _ | exact HSub.from_from (by first | decide | omega | (dsimp only; omega)) | refine HSub.put ?_ (by first | rfl | exact congrArg (fun es => some (AObj.row true 1 es)) (bits_append a k)) | refine HSub.from_put ?_ (by first | decide | omega | (dsimp only; omega)) | refine HSub.from_rm ?_ (by decide))), hkl, by omega⟩
 ·
  refine AGo.cond_false false rfl rfl ?_
  have hge : ¬ k < 32 := by have h := hb1; simp at h; omega
  refine AGo.exit ?_
  refine AGo.seq ?_
  obtain rfl : k = 32 := by omega
  refine AGo.region ?_
  refine am 17 ?_
  refine aa 2 ?_
  refine AOps.nil ?_
  refine AGo.ret ?_
  refine ⟨[_], ⟨rfl, trivial⟩, rfl, HSub.put (HSub.none _) rfl⟩

set_option maxRecDepth 100000 in
theorem bits_ok1 (a : Nat) (ha : a < 4294967296) : ACall Try.prog 69 [.int .u32 (a : Int)] (hput hNew 1 .free) (fun r h' => r = .ref 1 32 0 32 ∧ HSub (hput hNone 1 (.row true 1 (natCells (bitsN a 32)))) h') := by
 refine ACall.of_body (n := 18) tok Try.func69 rfl rfl ?_
 refine AGo.seq ?_
 refine AGo.region ?_
 refine aa 2 ?_
 refine AOps.nil ?_
 refine AGo.seq ?_
 refine AGo.region ?_
 refine aa 3 ?_
 refine AOps.nil ?_
 refine AGo.seq ?_
 refine AGo.seq ?_
 refine AGo.ghost (.dry 3 1 1 true rfl rfl rfl (by decide)) ?_
 refine AGo.region ?_
 refine aa 4 ?_
 refine AOps.nil ?_
 refine AGo.block ?_
 refine AGo.loopI (γ := Nat) (fun k => ⟨18, (eput (eput (eput eNew 0 (.int .u32 ((a / 2 ^ k : Nat) : Int))) 3 (.ref 1 k 0 k)) 4 (.int .i64 (k : Int))), (hput hNone 1 (.row true 1 (natCells (bitsN a k))))⟩) (fun k => k ≤ 32) (fun k => 32 - k) 0 (Sub.mk' (by repeat (first | exact ESub.new _ | refine ESub.put ?_ (by first | rfl | exact congrArg (fun (n : Nat) => some (AV.int .u32 (n : Int))) (by simp)))) (by repeat (first | exact HSub.refl _ | exact HSub.none _ | exact HSub.from_new _ | exact HSub.from_from (by first | decide | omega | (dsimp only; omega)) | refine HSub.put ?_ (by rfl) | refine HSub.from_put ?_ (by first | decide | omega | (dsimp only; omega)) | refine HSub.from_rm ?_ (by decide)))) (Nat.zero_le _) ?_
 intro k hk
 refine AGo.seq ?_
 refine AGo.seq ?_
 refine AGo.region ?_
 refine am 5 ?_
 refine aq 6 (q_bin rfl rfl rfl rfl) ?_
 refine AOps.nil ?_
 refine AGo.split 6 rfl (fun hb1 => ?_) (fun hb1 => ?_)
 ·
  refine AGo.cond_true true rfl rfl ?_
  have hkl : k < 32 := by have h := hb1; simp at h; omega
  have hle : a / 2 ^ k ≤ a := Nat.div_le_self _ _
  refine AGo.skip ?_
  refine AGo.seq ?_
  refine AGo.block ?_
  refine AGo.seq ?_
  refine AGo.region ?_
  refine am 9 ?_
  refine am 10 ?_
  refine aq 11 (q_bin (r := .int .u32 ((a / 2 ^ k % 2 : Nat) : Int)) rfl rfl rfl (ebin_rem (a := a / 2 ^ k) (b := 2) (by decide))) ?_
  refine aq 12 (q_convSame tok rfl rfl rfl rfl rfl (wrapN_i64 (by omega))) ?_
  refine ax 13 (o_lit' tok rfl rfl rfl rfl rfl rfl (by decide) rfl rfl rfl rfl rfl rfl) ?_
  refine ax 14 (o_append tok (n := k) (m := 1) rfl rfl rfl rfl rfl rfl rfl rfl rfl (by simp [natCells_len, bitsN_length]) rfl rfl (Nat.zero_lt_succ _) (.lst _ _) (by intro cs h; simp [partVals] at h; subst h; rfl) (fun _ cs h => by simp [partVals] at h; subst h; rfl) rfl (by simp [natCells_len, bitsN_length, partVals]; show _ * 8 ≤ _; omega) (by simp [natCells_len, bitsN_length, partVals]; simp only [maxLen]; omega)) ?_
  refine aa 3 ?_
  refine AOps.nil ?_
  refine AGo.region ?_
  refine am 15 ?_
  refine aq 16 (q_bin (r := .int .u32 ((a / 2 ^ k / 2 : Nat) : Int)) rfl rfl rfl (ebin_quo (a := a / 2 ^ k) (b := 2) (by decide) (wrapN_u32 (by omega)))) ?_
  refine aa 0 ?_
  refine AOps.nil ?_
  refine AGo.region ?_
  refine am 7 ?_
  refine aq 8 (q_inc rfl rfl hkl (show 32 ≤ maxLen by decide)) ?_
  refine aa 4 ?_
  refine AOps.nil ?_
  exact ⟨k+1, Sub.mk' (by repeat (first | exact ESub.new _ | refine ESub.put ?_ (by first | rfl | exact congrArg (fun (n : Nat) => some (AV.int .u32 (n : Int))) (by rw [Nat.div_div_eq_div_mul, Nat.pow_succ])))) (by repeat (first | exact HSub.refl _ | exact HSub.none _ | exact HSub.from_new _ | exact HSub.from_from (by first | decide | omega | (dsimp only; omega)) | refine HSub.put ?_ (by first | rfl | exact congrArg (fun es => some (AObj.row true 1 es)) (bits_append a k)) | refine HSub.from_put ?_ (by first | decide | omega | (dsimp only; omega)) | refine HSub.from_rm ?_ (by decide))), hkl, by omega⟩
 ·
  refine AGo.cond_false false rfl rfl ?_
  have hge : ¬ k < 32 := by have h := hb1; simp at h; omega
  refine AGo.exit ?_
  refine AGo.seq ?_
  obtain rfl : k = 32 := by omega
  refine AGo.region ?_
  refine am 17 ?_
  refine aa 2 ?_
  refine AOps.nil ?_
  refine AGo.ret ?_
  refine ⟨[_], ⟨rfl, trivial⟩, rfl, HSub.put (HSub.none _) rfl⟩

set_option maxRecDepth 100000 in
theorem bitsOf_ok (l : List Nat) (hl : l.length = 32) (hb : ∀ b ∈ l, b < 2) : APure Try.prog 70 [.lst false (natCells l)] (fun r => r = .int .u32 (valB l : Int)) := by
 refine APure.of_body (n := 23) tok Try.func70 rfl rfl ?_
 refine AGo.seq ?_
 refine AGo.region ?_
 refine aa 2 ?_
 refine AOps.nil ?_
 refine AGo.seq ?_
 refine AGo.region ?_
 refine aa 3 ?_
 refine AOps.nil ?_
 refine AGo.seq ?_
 refine AGo.seq ?_
 refine AGo.region ?_
 refine am 5 ?_
 refine aq 6 (q_len tok rfl rfl rfl rfl rfl) ?_
 refine aq 7 (q_bin (r := .int .i64 (31 : Int)) rfl rfl rfl (by rw [natCells_len, hl]; rfl)) ?_
 refine aa 4 ?_
 refine AOps.nil ?_
 refine AGo.block ?_
 refine AGo.loopI (γ := Nat) (fun k => ⟨23, (eput (eput (eput eNew 0 (.lst false (natCells l))) 3 (.int .u64 ((valB (l.drop k) : Nat) : Int))) 4 (.int .i64 ((k : Int) - 1))), hNone⟩) (fun k => k ≤ 32) (fun k => k) 32 (Sub.mk' (by repeat (first | exact ESub.new _ | refine ESub.put ?_ (by first | rfl | exact congrArg (fun (n : Nat) => some (AV.int .u64 (n : Int))) (by rw [List.drop_eq_nil_of_le (by omega)]; rfl)))) (by repeat (first | exact HSub.refl _ | exact HSub.none _ | exact HSub.from_new _ | exact HSub.from_from (by first | decide | omega | (dsimp only; omega)) | refine HSub.put ?_ (by rfl) | refine HSub.from_put ?_ (by first | decide | omega | (dsimp only; omega)) | refine HSub.from_rm ?_ (by decide)))) (Nat.le_refl _) ?_
 intro k hk
 refine AGo.seq ?_
 refine AGo.seq ?_
 refine AGo.region ?_
 refine am 8 ?_
 refine aq 9 (q_bin rfl rfl rfl rfl) ?_
 refine AOps.nil ?_
 refine AGo.split 9 rfl (fun hb1 => ?_) (fun hb1 => ?_)
 ·
  refine AGo.cond_true true rfl rfl ?_
  obtain ⟨m, rfl⟩ : ∃ m, k = m + 1 := ⟨k - 1, by have h := hb1; simp at h; omega⟩
  obtain ⟨b, hx⟩ := get_of_lt (l := l) (k := m) (by omega)
  have hb2 := hb b (List.mem_of_getElem? hx)
  have hv := valB_drop_lt hl hb (m + 1)
  have hv2 := valB_drop hx
  refine AGo.skip ?_
  refine AGo.seq ?_
  refine AGo.block ?_
  refine AGo.region ?_
  refine am 12 ?_
  refine aq 13 (q_bin (r := .int .u64 ((2 * valB (l.drop (m + 1)) : Nat) : Int)) rfl rfl rfl (ebin_mul (a := 2) (b := valB (l.drop (m + 1))) (wrapN_u64 (by omega)))) ?_
  refine am 14 ?_
  refine am 15 ?_
  refine aq 16 (q_index_lst tok rfl rfl rfl rfl rfl rfl (by omega) (cs := [.int .i64 (b : Int)]) (by rw [show (((m + 1 : Nat) : Int) - 1).toNat = m by omega]; show (natCells l)[m]? = _; rw [natCells, List.getElem?_map, hx]; rfl) rfl) ?_
  refine al 17 tok ?_
  refine aq 18 (q_convSame tok rfl rfl rfl rfl rfl (wrapN_u64 (by omega))) ?_
  refine aq 19 (q_bin (r := .int .u64 ((2 * valB (l.drop (m + 1)) + b : Nat) : Int)) rfl rfl rfl (ebin_add (wrapN_u64 (by omega)))) ?_
  refine aa 3 ?_
  refine AOps.nil ?_
  refine AGo.region ?_
  refine am 10 ?_
  refine aq 11 (q_bin (r := .int .i64 ((m : Int) - 1)) rfl rfl rfl (by simp only [evalBin, evalInt, isShift, cond_false, if_true]; rw [wrap_i64 (by omega) (by omega)]; congr 2; omega)) ?_
  refine aa 4 ?_
  refine AOps.nil ?_
  exact ⟨m, Sub.mk' (by repeat (first | exact ESub.new _ | refine ESub.put ?_ (by first | rfl | exact congrArg (fun (n : Nat) => some (AV.int .u64 (n : Int))) (by omega)))) (by repeat (first | exact HSub.refl _ | exact HSub.none _ | exact HSub.from_new _ | exact HSub.from_from (by first | decide | omega | (dsimp only; omega)) | refine HSub.put ?_ (by rfl) | refine HSub.from_put ?_ (by first | decide | omega | (dsimp only; omega)) | refine HSub.from_rm ?_ (by decide))), (by omega), by omega⟩
 ·
  refine AGo.cond_false false rfl rfl ?_
  obtain rfl : k = 0 := by have h := hb1; simp at h; omega
  refine AGo.exit ?_
  refine AGo.seq ?_
  refine AGo.region ?_
  refine am 20 ?_
  refine aq 21 (q_bin (r := .int .u64 ((valB (l.drop 0) % 4294967296 : Nat) : Int)) rfl rfl rfl (ebin_rem (a := valB (l.drop 0)) (b := 4294967296) (by decide))) ?_
  refine aq 22 (q_convSame tok rfl rfl rfl rfl rfl (wrapN_u32 (Nat.mod_lt _ (by decide)))) ?_
  refine aa 2 ?_
  refine AOps.nil ?_
  refine AGo.ret ?_
  refine ⟨[_], ⟨rfl, trivial⟩, ?_, rfl⟩
  show AV.int .u32 _ = _
  rw [Nat.mod_eq_of_lt (valB_drop_lt hl hb 0), List.drop_zero]

set_option maxRecDepth 100000 in
theorem both_ok (op : Int) (a b : Nat) (ha : a < 4294967296) (hb : b < 4294967296) : APure Try.prog 60 [.int .i64 op, .int .u32 (a : Int), .int .u32 (b : Int)] (fun r => r = .int .u32 (valB (bothN op a b) : Int)) := by
 refine APure.of_body (n := 50) tok Try.func60 rfl rfl ?_
 refine AGo.seq ?_
 refine AGo.region ?_
 refine aa 6 ?_
 refine AOps.nil ?_
 refine AGo.seq ?_
 refine AGo.region ?_
 refine am 11 ?_
 refine ax 12 (o_call (hc := hput hNew 0 .free) (hw := hput hNone 0 (.row true 1 (natCells (bitsN a 32)))) [0] [(0, (.row true 1 (natCells (bitsN a 32))))] rfl Try.func69 (by kernel_rfl) rfl rfl rfl ⟨⟨_, rfl, rfl⟩, trivial⟩ rfl (hres_cons rfl (hres_nil _)) ⟨⟨_, rfl, rfl, rfl⟩, trivial⟩ rfl (bits_ok0 a ha)) ?_
 refine am 13 ?_
 refine ax 14 (o_call (hc := hput hNew 1 .free) (hw := hput hNone 1 (.row true 1 (natCells (bitsN b 32)))) [1] [(1, (.row true 1 (natCells (bitsN b 32))))] rfl Try.func69 (by kernel_rfl) rfl rfl rfl ⟨⟨_, rfl, rfl⟩, trivial⟩ rfl (hres_cons rfl (hres_nil _)) ⟨⟨_, rfl, rfl, rfl⟩, trivial⟩ rfl (bits_ok1 b hb)) ?_
 refine aa 7 ?_
 refine aa 8 ?_
 refine AOps.nil ?_
 refine AGo.seq ?_
 refine AGo.seq ?_
 refine AGo.region ?_
 refine aa 9 ?_
 refine AOps.nil ?_
 refine AGo.block ?_
 refine AGo.loopI (γ := Nat) (fun k => ⟨50, (eput (eput (eput (eput eNew 0 (.int .i64 op)) 7 (.ref 0 32 0 32)) 8 (.ref 1 32 0 32)) 9 (.int .i64 (k : Int))), (hput (hput hNone 0 (.row true 1 (natCells (mixB op a b k)))) 1 (.row true 1 (natCells (bitsN b 32))))⟩) (fun k => k ≤ 32) (fun k => 32 - k) 0 (Sub.mk' (by repeat (first | exact ESub.new _ | refine ESub.put ?_ (by rfl))) (by repeat (first | exact HSub.refl _ | exact HSub.none _ | exact HSub.from_new _ | exact HSub.from_from (by first | decide | omega | (dsimp only; omega)) | refine HSub.put ?_ (by first | rfl | exact congrArg (fun l => some (AObj.row true 1 (natCells l))) (mixB_zero op a b).symm) | refine HSub.from_put ?_ (by first | decide | omega | (dsimp only; omega)) | refine HSub.from_rm ?_ (by decide)))) (Nat.zero_le _) ?_
 intro k hk
 refine AGo.seq ?_
 refine AGo.seq ?_
 refine AGo.region ?_
 refine am 15 ?_
 refine aq 16 (q_bin rfl rfl rfl rfl) ?_
 refine AOps.nil ?_
 refine AGo.split 16 rfl (fun hb1 => ?_) (fun hb1 => ?_)
 ·
  refine AGo.cond_true true rfl rfl ?_
  have hkl : k < 32 := by have h := hb1; simp at h; omega
  refine AGo.skip ?_
  refine AGo.seq ?_
  refine AGo.block ?_
  refine AGo.seq ?_
  refine AGo.draw mix ?_
  refine dm 19 ?_
  refine dm 20 ?_
  refine dq 21 (q_index_ref tok rfl rfl rfl rfl rfl rfl rfl (by simp [natCells_len, mixB_length (Nat.le_of_lt hkl), bitsN_length]) rfl (Int.natCast_nonneg _) (by omega)) ?_
  refine dq 22 (q_load tok rfl rfl rfl (.ptr _ _ _ _ _ _ _ _ rfl (by simp [natCells_len, mixB_length (Nat.le_of_lt hkl)]) (natCells_get (mixB_get hkl))) rfl) ?_
  refine dm 23 ?_
  refine dm 24 ?_
  refine dq 25 (q_index_ref tok rfl rfl rfl rfl rfl rfl rfl (by simp [natCells_len, mixB_length (Nat.le_of_lt hkl), bitsN_length]) rfl (Int.natCast_nonneg _) (by omega)) ?_
  refine dq 26 (q_load tok rfl rfl rfl (.ptr _ _ _ _ _ _ _ _ rfl (by simp [natCells_len, bitsN_length]) (natCells_get (bitsN_get hkl))) rfl) ?_
  refine dq 27 (q_bin (r := .int .i64 ((a / 2 ^ k % 2 + b / 2 ^ k % 2 : Nat) : Int)) rfl rfl rfl (ebin_add (wrapN_i64 (by omega)))) ?_
  refine da 10 ?_
  refine DOps.nil (by kernel_rfl) ?_
  refine AGo.seq ?_
  refine AGo.region ?_
  refine am 28 ?_
  refine am 29 ?_
  refine aq 30 (q_index_ref tok rfl rfl rfl rfl rfl rfl rfl (by simp [natCells_len, mixB_length (Nat.le_of_lt hkl), bitsN_length]) rfl (Int.natCast_nonneg _) (by omega)) ?_
  refine AOps.w rfl rfl (o_store tok rfl rfl rfl rfl rfl rfl (by simp [natCells_len, mixB_length (Nat.le_of_lt hkl)]) (natCells_get (mixB_get hkl)) rfl (by decide) rfl (by first | exact fun _ => rfl | (intro h; cases h))) ?_
  refine AOps.nil ?_
  refine AGo.seq ?_
  refine AGo.region ?_
  refine am 31 ?_
  refine aq 32 (q_bin rfl rfl rfl rfl) ?_
  refine am 33 ?_
  refine AOps.split 33 rfl (fun hb2 => ?_) (fun hb2 => ?_)
  ·
   refine am 34 ?_
   refine aq 35 (q_bin rfl rfl rfl rfl) ?_
   refine aq 36 (q_pick_true true rfl rfl rfl rfl) ?_
   refine am 37 ?_
   refine AOps.split 37 rfl (fun hb3 => ?_) (fun hb3 => ?_)
   ·
    refine ak 38 ?_
    refine ak 39 ?_
    refine ak 40 ?_
    refine ak 41 ?_
    refine ak 42 ?_
    refine ak 43 ?_
    refine aq 44 (q_pick_true true rfl rfl rfl rfl) ?_
    refine AOps.nil ?_
    refine AGo.cond_true true rfl rfl ?_
    refine AGo.region ?_
    refine am 45 ?_
    refine am 46 ?_
    refine aq 47 (q_index_ref tok rfl rfl rfl rfl rfl rfl rfl (by simp [natCells_len, mixB_length (Nat.le_of_lt hkl)]) rfl (Int.natCast_nonneg _) (by omega)) ?_
    refine AOps.w rfl rfl (o_store tok rfl rfl rfl rfl rfl rfl (by simp [natCells_len, mixB_length (Nat.le_of_lt hkl)]) (get_set_self (natCells_get (mixB_get hkl))) rfl (by decide) rfl (by first | exact fun _ => rfl | (intro h; cases h))) ?_
    refine AOps.nil ?_
    refine AGo.region ?_
    refine am 17 ?_
    refine aq 18 (q_inc rfl rfl hkl (show 32 ≤ maxLen by decide)) ?_
    refine aa 9 ?_
    refine AOps.nil ?_
    exact ⟨k+1, Sub.mk' (by repeat (first | exact ESub.new _ | refine ESub.put ?_ (by rfl))) (by repeat (first | exact HSub.refl _ | exact HSub.none _ | exact HSub.from_new _ | exact HSub.from_from (by first | decide | omega | (dsimp only; omega)) | refine HSub.put ?_ (by first | rfl | exact congrArg (fun es => some (AObj.row true 1 es)) (both_set0 (c := []) hkl (by rcases (by omega : a / 2 ^ k % 2 = 0 ∨ a / 2 ^ k % 2 = 1) with h1 | h1 <;> rcases (by omega : b / 2 ^ k % 2 = 0 ∨ b / 2 ^ k % 2 = 1) with h2 | h2 <;> (try simp_all [bop]) <;> first | (rw [bne_iff_ne.2 ‹¬ op = 11›]; rfl) | (rw [bne_iff_ne.2 ‹¬ op = 9›]; rfl))) | exact congrArg (fun es => some (AObj.row true 1 es)) (both_set1 hkl (by rcases (by omega : a / 2 ^ k % 2 = 0 ∨ a / 2 ^ k % 2 = 1) with h1 | h1 <;> rcases (by omega : b / 2 ^ k % 2 = 0 ∨ b / 2 ^ k % 2 = 1) with h2 | h2 <;> (try simp_all [bop]) <;> first | (rw [bne_iff_ne.2 ‹¬ op = 11›]; rfl) | (rw [bne_iff_ne.2 ‹¬ op = 9›]; rfl)))) | refine HSub.from_put ?_ (by first | decide | omega | (dsimp only; omega)) | refine HSub.from_rm ?_ (by decide))), hkl, by omega⟩
   ·
    refine am 38 ?_
    refine aq 39 (q_bin rfl rfl rfl rfl) ?_
    refine am 40 ?_
    refine AOps.split 40 rfl (fun hb4 => ?_) (fun hb4 => ?_)
    ·
     refine am 41 ?_
     refine aq 42 (q_bin rfl rfl rfl rfl) ?_
     refine aq 43 (q_pick_true true rfl rfl rfl rfl) ?_
     refine aq 44 (q_pick_false false rfl rfl rfl rfl) ?_
     refine AOps.nil ?_
     refine AGo.split 44 rfl (fun hb5 => ?_) (fun hb5 => ?_)
     ·
      refine AGo.cond_true true rfl rfl ?_
      refine AGo.region ?_
      refine am 45 ?_
      refine am 46 ?_
      refine aq 47 (q_index_ref tok rfl rfl rfl rfl rfl rfl rfl (by simp [natCells_len, mixB_length (Nat.le_of_lt hkl)]) rfl (Int.natCast_nonneg _) (by omega)) ?_
      refine AOps.w rfl rfl (o_store tok rfl rfl rfl rfl rfl rfl (by simp [natCells_len, mixB_length (Nat.le_of_lt hkl)]) (get_set_self (natCells_get (mixB_get hkl))) rfl (by decide) rfl (by first | exact fun _ => rfl | (intro h; cases h))) ?_
      refine AOps.nil ?_
      refine AGo.region ?_
      refine am 17 ?_
      refine aq 18 (q_inc rfl rfl hkl (show 32 ≤ maxLen by decide)) ?_
      refine aa 9 ?_
      refine AOps.nil ?_
      exact ⟨k+1, Sub.mk' (by repeat (first | exact ESub.new _ | refine ESub.put ?_ (by rfl))) (by repeat (first | exact HSub.refl _ | exact HSub.none _ | exact HSub.from_new _ | exact HSub.from_from (by first | decide | omega | (dsimp only; omega)) | refine HSub.put ?_ (by first | rfl | exact congrArg (fun es => some (AObj.row true 1 es)) (both_set0 (c := []) hkl (by rcases (by omega : a / 2 ^ k % 2 = 0 ∨ a / 2 ^ k % 2 = 1) with h1 | h1 <;> rcases (by omega : b / 2 ^ k % 2 = 0 ∨ b / 2 ^ k % 2 = 1) with h2 | h2 <;> (try simp_all [bop]) <;> first | (rw [bne_iff_ne.2 ‹¬ op = 11›]; rfl) | (rw [bne_iff_ne.2 ‹¬ op = 9›]; rfl))) | exact congrArg (fun es => some (AObj.row true 1 es)) (both_set1 hkl (by rcases (by omega : a / 2 ^ k % 2 = 0 ∨ a / 2 ^ k % 2 = 1) with h1 | h1 <;> rcases (by omega : b / 2 ^ k % 2 = 0 ∨ b / 2 ^ k % 2 = 1) with h2 | h2 <;> (try simp_all [bop]) <;> first | (rw [bne_iff_ne.2 ‹¬ op = 11›]; rfl) | (rw [bne_iff_ne.2 ‹¬ op = 9›]; rfl)))) | refine HSub.from_put ?_ (by first | decide | omega | (dsimp only; omega)) | refine HSub.from_rm ?_ (by decide))), hkl, by omega⟩
     ·
      refine AGo.cond_false false rfl rfl ?_
      refine AGo.skip ?_
      refine AGo.region ?_
      refine am 17 ?_
      refine aq 18 (q_inc rfl rfl hkl (show 32 ≤ maxLen by decide)) ?_
      refine aa 9 ?_
      refine AOps.nil ?_
      exact ⟨k+1, Sub.mk' (by repeat (first | exact ESub.new _ | refine ESub.put ?_ (by rfl))) (by repeat (first | exact HSub.refl _ | exact HSub.none _ | exact HSub.from_new _ | exact HSub.from_from (by first | decide | omega | (dsimp only; omega)) | refine HSub.put ?_ (by first | rfl | exact congrArg (fun es => some (AObj.row true 1 es)) (both_set0 (c := []) hkl (by rcases (by omega : a / 2 ^ k % 2 = 0 ∨ a / 2 ^ k % 2 = 1) with h1 | h1 <;> rcases (by omega : b / 2 ^ k % 2 = 0 ∨ b / 2 ^ k % 2 = 1) with h2 | h2 <;> (try simp_all [bop]) <;> first | (rw [bne_iff_ne.2 ‹¬ op = 11›]; rfl) | (rw [bne_iff_ne.2 ‹¬ op = 9›]; rfl))) | exact congrArg (fun es => some (AObj.row true 1 es)) (both_set1 hkl (by rcases (by omega : a / 2 ^ k % 2 = 0 ∨ a / 2 ^ k % 2 = 1) with h1 | h1 <;> rcases (by omega : b / 2 ^ k % 2 = 0 ∨ b / 2 ^ k % 2 = 1) with h2 | h2 <;> (try simp_all [bop]) <;> first | (rw [bne_iff_ne.2 ‹¬ op = 11›]; rfl) | (rw [bne_iff_ne.2 ‹¬ op = 9›]; rfl)))) | refine HSub.from_put ?_ (by first | decide | omega | (dsimp only; omega)) | refine HSub.from_rm ?_ (by decide))), hkl, by omega⟩
    ·
     refine ak 41 ?_
     refine ak 42 ?_
     refine aq 43 (q_pick_false false rfl rfl rfl rfl) ?_
     refine aq 44 (q_pick_false false rfl rfl rfl rfl) ?_
     refine AOps.nil ?_
     refine AGo.cond_false false rfl rfl ?_
     refine AGo.skip ?_
     refine AGo.region ?_
     refine am 17 ?_
     refine aq 18 (q_inc rfl rfl hkl (show 32 ≤ maxLen by decide)) ?_
     refine aa 9 ?_
     refine AOps.nil ?_
     exact ⟨k+1, Sub.mk' (by repeat (first | exact ESub.new _ | refine ESub.put ?_ (by rfl))) (by repeat (first | exact HSub.refl _ | exact HSub.none _ | exact HSub.from_new _ | exact HSub.from_from (by first | decide | omega | (dsimp only; omega)) | refine HSub.put ?_ (by first | rfl | exact congrArg (fun es => some (AObj.row true 1 es)) (both_set0 (c := []) hkl (by rcases (by omega : a / 2 ^ k % 2 = 0 ∨ a / 2 ^ k % 2 = 1) with h1 | h1 <;> rcases (by omega : b / 2 ^ k % 2 = 0 ∨ b / 2 ^ k % 2 = 1) with h2 | h2 <;> (try simp_all [bop]) <;> first | (rw [bne_iff_ne.2 ‹¬ op = 11›]; rfl) | (rw [bne_iff_ne.2 ‹¬ op = 9›]; rfl))) | exact congrArg (fun es => some (AObj.row true 1 es)) (both_set1 hkl (by rcases (by omega : a / 2 ^ k % 2 = 0 ∨ a / 2 ^ k % 2 = 1) with h1 | h1 <;> rcases (by omega : b / 2 ^ k % 2 = 0 ∨ b / 2 ^ k % 2 = 1) with h2 | h2 <;> (try simp_all [bop]) <;> first | (rw [bne_iff_ne.2 ‹¬ op = 11›]; rfl) | (rw [bne_iff_ne.2 ‹¬ op = 9›]; rfl)))) | refine HSub.from_put ?_ (by first | decide | omega | (dsimp only; omega)) | refine HSub.from_rm ?_ (by decide))), hkl, by omega⟩
  ·
   refine ak 34 ?_
   refine ak 35 ?_
   refine aq 36 (q_pick_false false rfl rfl rfl rfl) ?_
   refine am 37 ?_
   refine am 38 ?_
   refine aq 39 (q_bin rfl rfl rfl rfl) ?_
   refine am 40 ?_
   refine AOps.split 40 rfl (fun hb6 => ?_) (fun hb6 => ?_)
   ·
    refine am 41 ?_
    refine aq 42 (q_bin rfl rfl rfl rfl) ?_
    refine aq 43 (q_pick_true true rfl rfl rfl rfl) ?_
    refine aq 44 (q_pick_false false rfl rfl rfl rfl) ?_
    refine AOps.nil ?_
    refine AGo.split 44 rfl (fun hb7 => ?_) (fun hb7 => ?_)
    ·
     refine AGo.cond_true true rfl rfl ?_
     refine AGo.region ?_
     refine am 45 ?_
     refine am 46 ?_
     refine aq 47 (q_index_ref tok rfl rfl rfl rfl rfl rfl rfl (by simp [natCells_len, mixB_length (Nat.le_of_lt hkl)]) rfl (Int.natCast_nonneg _) (by omega)) ?_
     refine AOps.w rfl rfl (o_store tok rfl rfl rfl rfl rfl rfl (by simp [natCells_len, mixB_length (Nat.le_of_lt hkl)]) (get_set_self (natCells_get (mixB_get hkl))) rfl (by decide) rfl (by first | exact fun _ => rfl | (intro h; cases h))) ?_
     refine AOps.nil ?_
     refine AGo.region ?_
     refine am 17 ?_
     refine aq 18 (q_inc rfl rfl hkl (show 32 ≤ maxLen by decide)) ?_
     refine aa 9 ?_
     refine AOps.nil ?_
     exact ⟨k+1, Sub.mk' (by repeat (first | exact ESub.new _ | refine ESub.put ?_ (by rfl))) (by repeat (first | exact HSub.refl _ | exact HSub.none _ | exact HSub.from_new _ | exact HSub.from_from (by first | decide | omega | (dsimp only; omega)) | refine HSub.put ?_ (by first | rfl | exact congrArg (fun es => some (AObj.row true 1 es)) (both_set0 (c := []) hkl (by rcases (by omega : a / 2 ^ k % 2 = 0 ∨ a / 2 ^ k % 2 = 1) with h1 | h1 <;> rcases (by omega : b / 2 ^ k % 2 = 0 ∨ b / 2 ^ k % 2 = 1) with h2 | h2 <;> (try simp_all [bop]) <;> first | (rw [bne_iff_ne.2 ‹¬ op = 11›]; rfl) | (rw [bne_iff_ne.2 ‹¬ op = 9›]; rfl))) | exact congrArg (fun es => some (AObj.row true 1 es)) (both_set1 hkl (by rcases (by omega : a / 2 ^ k % 2 = 0 ∨ a / 2 ^ k % 2 = 1) with h1 | h1 <;> rcases (by omega : b / 2 ^ k % 2 = 0 ∨ b / 2 ^ k % 2 = 1) with h2 | h2 <;> (try simp_all [bop]) <;> first | (rw [bne_iff_ne.2 ‹¬ op = 11›]; rfl) | (rw [bne_iff_ne.2 ‹¬ op = 9›]; rfl)))) | refine HSub.from_put ?_ (by first | decide | omega | (dsimp only; omega)) | refine HSub.from_rm ?_ (by decide))), hkl, by omega⟩
    ·
     refine AGo.cond_false false rfl rfl ?_
     refine AGo.skip ?_
     refine AGo.region ?_
     refine am 17 ?_
     refine aq 18 (q_inc rfl rfl hkl (show 32 ≤ maxLen by decide)) ?_
     refine aa 9 ?_
     refine AOps.nil ?_
     exact ⟨k+1, Sub.mk' (by repeat (first | exact ESub.new _ | refine ESub.put ?_ (by rfl))) (by repeat (first | exact HSub.refl _ | exact HSub.none _ | exact HSub.from_new _ | exact HSub.from_from (by first | decide | omega | (dsimp only; omega)) | refine HSub.put ?_ (by first | rfl | exact congrArg (fun es => some (AObj.row true 1 es)) (both_set0 (c := []) hkl (by rcases (by omega : a / 2 ^ k % 2 = 0 ∨ a / 2 ^ k % 2 = 1) with h1 | h1 <;> rcases (by omega : b / 2 ^ k % 2 = 0 ∨ b / 2 ^ k % 2 = 1) with h2 | h2 <;> (try simp_all [bop]) <;> first | (rw [bne_iff_ne.2 ‹¬ op = 11›]; rfl) | (rw [bne_iff_ne.2 ‹¬ op = 9›]; rfl))) | exact congrArg (fun es => some (AObj.row true 1 es)) (both_set1 hkl (by rcases (by omega : a / 2 ^ k % 2 = 0 ∨ a / 2 ^ k % 2 = 1) with h1 | h1 <;> rcases (by omega : b / 2 ^ k % 2 = 0 ∨ b / 2 ^ k % 2 = 1) with h2 | h2 <;> (try simp_all [bop]) <;> first | (rw [bne_iff_ne.2 ‹¬ op = 11›]; rfl) | (rw [bne_iff_ne.2 ‹¬ op = 9›]; rfl)))) | refine HSub.from_put ?_ (by first | decide | omega | (dsimp only; omega)) | refine HSub.from_rm ?_ (by decide))), hkl, by omega⟩
   ·
    refine ak 41 ?_
    refine ak 42 ?_
    refine aq 43 (q_pick_false false rfl rfl rfl rfl) ?_
    refine aq 44 (q_pick_false false rfl rfl rfl rfl) ?_
    refine AOps.nil ?_
    refine AGo.cond_false false rfl rfl ?_
    refine AGo.skip ?_
    refine AGo.region ?_
    refine am 17 ?_
    refine aq 18 (q_inc rfl rfl hkl (show 32 ≤ maxLen by decide)) ?_
    refine aa 9 ?_
    refine AOps.nil ?_
    exact ⟨k+1, Sub.mk' (by repeat (first | exact ESub.new _ | refine ESub.put ?_ (by rfl))) (by repeat (first | exact HSub.refl _ | exact HSub.none _ | exact HSub.from_new _ | exact HSub.from_from (by first | decide | omega | (dsimp only; omega)) | refine HSub.put ?_ (by first | rfl | exact congrArg (fun es => some (AObj.row true 1 es)) (both_set0 (c := []) hkl (by rcases (by omega : a / 2 ^ k % 2 = 0 ∨ a / 2 ^ k % 2 = 1) with h1 | h1 <;> rcases (by omega : b / 2 ^ k % 2 = 0 ∨ b / 2 ^ k % 2 = 1) with h2 | h2 <;> (try simp_all [bop]) <;> first | (rw [bne_iff_ne.2 ‹¬ op = 11›]; rfl) | (rw [bne_iff_ne.2 ‹¬ op = 9›]; rfl))) | exact congrArg (fun es => some (AObj.row true 1 es)) (both_set1 hkl (by rcases (by omega : a / 2 ^ k % 2 = 0 ∨ a / 2 ^ k % 2 = 1) with h1 | h1 <;> rcases (by omega : b / 2 ^ k % 2 = 0 ∨ b / 2 ^ k % 2 = 1) with h2 | h2 <;> (try simp_all [bop]) <;> first | (rw [bne_iff_ne.2 ‹¬ op = 11›]; rfl) | (rw [bne_iff_ne.2 ‹¬ op = 9›]; rfl)))) | refine HSub.from_put ?_ (by first | decide | omega | (dsimp only; omega)) | refine HSub.from_rm ?_ (by decide))), hkl, by omega⟩
 ·
  refine AGo.cond_false false rfl rfl ?_
  have hge : ¬ k < 32 := by have h := hb1; simp at h; omega
  obtain rfl : k = 32 := by omega
  rw [mixB_end]
  refine AGo.exit ?_
  refine AGo.seq ?_
  refine AGo.ghost (.freezeAll 7 0 rfl rfl (by simp [natCells_len, bothN_length])) ?_
  refine AGo.region ?_
  refine am 48 ?_
  refine ax 49 (o_pure rfl Try.func70 (by kernel_rfl) rfl rfl rfl (bitsOf_ok _ (bothN_length _ _ _) (bothN_lt _ _ _))) ?_
  refine aa 6 ?_
  refine AOps.nil ?_
  refine AGo.ret ?_
  refine ⟨[_], ⟨rfl, trivial⟩, ?_, rfl⟩
  rfl

set_option maxRecDepth 100000 in
theorem rshift_ok (op : Int) (a b : Nat) (ha : a < 4294967296) (hb : b < 4294967296) (ho : op = 12 ∨ op = 13) : APure Try.prog 61 [.int .i64 op, .int .u32 (a : Int), .int .u32 (b : Int)] (fun r => r = .int .u32 (wshift op a b)) := by
 refine APure.of_body (n := 27) tok Try.func61 rfl rfl ?_
 refine AGo.seq ?_
 refine AGo.region ?_
 refine aa 6 ?_
 refine AOps.nil ?_
 refine AGo.seq ?_
 refine AGo.seq ?_
 refine AGo.region ?_
 refine am 9 ?_
 refine aq 10 (q_bin rfl rfl rfl rfl) ?_
 refine AOps.nil ?_
 refine AGo.split 10 rfl (fun hb1 => ?_) (fun hb1 => ?_)
 ·
  refine AGo.cond_true true rfl rfl ?_
  have hb32 : 32 ≤ b := by have h := hb1; simp at h; omega
  refine AGo.seq ?_
  refine AGo.region ?_
  refine aa 6 ?_
  refine AOps.nil ?_
  refine AGo.ret ?_
  refine ⟨[_], ⟨rfl, trivial⟩, ?_, rfl⟩
  show AV.int .u32 _ = _
  rw [wshift_big op hb32]
 ·
  refine AGo.cond_false false rfl rfl ?_
  have hb32 : b < 32 := by have h := hb1; simp at h; omega
  refine AGo.skip ?_
  refine AGo.seq ?_
  refine AGo.region ?_
  refine am 11 ?_
  refine aq 12 (q_convSame tok rfl rfl rfl rfl rfl (wrapN_u64 (by omega))) ?_
  refine aa 7 ?_
  refine AOps.nil ?_
  refine AGo.seq ?_
  refine AGo.seq ?_
  refine AGo.region ?_
  refine aa 8 ?_
  refine AOps.nil ?_
  refine AGo.block ?_
  refine AGo.loopI (γ := Nat) (fun k => ⟨27, (eput (eput (eput (eput eNew 0 (.int .i64 op)) 2 (.int .u32 (b : Int))) 7 (.int .u64 ((shN op a k : Nat) : Int))) 8 (.int .u32 (k : Int))), hNone⟩) (fun k => k ≤ b) (fun k => b - k) 0 (Sub.mk' (by repeat (first | exact ESub.new _ | refine ESub.put ?_ (by rfl))) (by repeat (first | exact HSub.refl _ | exact HSub.none _ | exact HSub.from_new _ | exact HSub.from_from (by first | decide | omega | (dsimp only; omega)) | refine HSub.put ?_ (by rfl) | refine HSub.from_put ?_ (by first | decide | omega | (dsimp only; omega)) | refine HSub.from_rm ?_ (by decide)))) (Nat.zero_le _) ?_
  intro k hk
  refine AGo.seq ?_
  refine AGo.seq ?_
  refine AGo.region ?_
  refine am 13 ?_
  refine am 14 ?_
  refine aq 15 (q_bin rfl rfl rfl rfl) ?_
  refine AOps.nil ?_
  refine AGo.split 15 rfl (fun hb2 => ?_) (fun hb2 => ?_)
  ·
   refine AGo.cond_true true rfl rfl ?_
   have hkl : k < b := by have h := hb2; simp at h; omega
   have hlt := shN_lt (op := op) ha k
   refine AGo.skip ?_
   refine AGo.seq ?_
   refine AGo.block ?_
   refine AGo.seq ?_
   refine AGo.region ?_
   refine am 18 ?_
   refine aq 19 (q_bin rfl rfl rfl rfl) ?_
   refine AOps.nil ?_
   refine AGo.split 19 rfl (fun hb3 => ?_) (fun hb3 => ?_)
   ·
    refine AGo.cond_true true rfl rfl ?_
    refine AGo.region ?_
    refine am 20 ?_
    refine aq 21 (q_bin (r := .int .u64 ((2 * shN op a k : Nat) : Int)) rfl rfl rfl (ebin_mul (a := 2) (b := shN op a k) (wrapN_u64 (by omega)))) ?_
    refine aq 22 (q_bin (r := .int .u64 ((2 * shN op a k % 4294967296 : Nat) : Int)) rfl rfl rfl (ebin_rem (a := 2 * shN op a k) (b := 4294967296) (by decide))) ?_
    refine aa 7 ?_
    refine AOps.nil ?_
    refine AGo.region ?_
    refine am 16 ?_
    refine aq 17 (q_bin (r := .int .u32 ((k + 1 : Nat) : Int)) rfl rfl rfl (ebin_add (b := 1) (wrapN_u32 (by omega)))) ?_
    refine aa 8 ?_
    refine AOps.nil ?_
    exact ⟨k+1, Sub.mk' (by repeat (first | exact ESub.new _ | refine ESub.put ?_ (by first | rfl | exact congrArg (fun (n : Nat) => some (AV.int .u64 (n : Int))) (by simp only [shN, *, cond_true, cond_false])))) (by repeat (first | exact HSub.refl _ | exact HSub.none _ | exact HSub.from_new _ | exact HSub.from_from (by first | decide | omega | (dsimp only; omega)) | refine HSub.put ?_ (by rfl) | refine HSub.from_put ?_ (by first | decide | omega | (dsimp only; omega)) | refine HSub.from_rm ?_ (by decide))), hkl, by omega⟩
   ·
    refine AGo.cond_false false rfl rfl ?_
    refine AGo.region ?_
    refine am 23 ?_
    refine aq 24 (q_bin (r := .int .u64 ((shN op a k / 2 : Nat) : Int)) rfl rfl rfl (ebin_quo (a := shN op a k) (b := 2) (by decide) (wrapN_u64 (by omega)))) ?_
    refine aa 7 ?_
    refine AOps.nil ?_
    refine AGo.region ?_
    refine am 16 ?_
    refine aq 17 (q_bin (r := .int .u32 ((k + 1 : Nat) : Int)) rfl rfl rfl (ebin_add (b := 1) (wrapN_u32 (by omega)))) ?_
    refine aa 8 ?_
    refine AOps.nil ?_
    exact ⟨k+1, Sub.mk' (by repeat (first | exact ESub.new _ | refine ESub.put ?_ (by first | rfl | exact congrArg (fun (n : Nat) => some (AV.int .u64 (n : Int))) (by simp only [shN, *, cond_true, cond_false])))) (by repeat (first | exact HSub.refl _ | exact HSub.none _ | exact HSub.from_new _ | exact HSub.from_from (by first | decide | omega | (dsimp only; omega)) | refine HSub.put ?_ (by rfl) | refine HSub.from_put ?_ (by first | decide | omega | (dsimp only; omega)) | refine HSub.from_rm ?_ (by decide))), hkl, by omega⟩
  ·
   refine AGo.cond_false false rfl rfl ?_
   obtain rfl : k = b := by have h := hb2; simp at h; omega
   refine AGo.exit ?_
   refine AGo.seq ?_
   refine AGo.region ?_
   refine am 25 ?_
   refine aq 26 (q_convSame tok rfl rfl rfl rfl rfl (wrapN_u32 (shN_lt ha _))) ?_
   refine aa 6 ?_
   refine AOps.nil ?_
   refine AGo.ret ?_
   refine ⟨[_], ⟨rfl, trivial⟩, ?_, rfl⟩
   show AV.int .u32 _ = _
   rw [wshift_small ha hb32 ho]

set_option maxRecDepth 100000 in
theorem flag_ok (ok : Bool) : APure Try.prog 62 [.bool ok] (fun r => r = .int .u32 (bif ok then 1 else 0)) := by
 refine APure.of_body (n := 4) tok Try.func62 rfl rfl ?_
 refine AGo.seq ?_
 refine AGo.region ?_
 refine aa 2 ?_
 refine AOps.nil ?_
 refine AGo.seq ?_
 refine AGo.seq ?_
 refine AGo.region ?_
 refine am 3 ?_
 refine AOps.nil ?_
 refine AGo.split 3 rfl (fun hb1 => ?_) (fun hb1 => ?_)
 ·
  refine AGo.cond_true true rfl rfl ?_
  refine AGo.seq ?_
  refine AGo.region ?_
  refine aa 2 ?_
  refine AOps.nil ?_
  refine AGo.ret ?_
  refine ⟨[_], ⟨rfl, trivial⟩, ?_, rfl⟩
  show AV.int .u32 _ = _
  simp [*]
 ·
  refine AGo.cond_false false rfl rfl ?_
  refine AGo.skip ?_
  refine AGo.seq ?_
  refine AGo.region ?_
  refine aa 2 ?_
  refine AOps.nil ?_
  refine AGo.ret ?_
  refine ⟨[_], ⟨rfl, trivial⟩, ?_, rfl⟩
  show AV.int .u32 _ = _
  simp [*]

set_option maxRecDepth 100000 in
theorem rapply_okN (op : Int) (a b : Nat) (ha : a < 4294967296) (hb : b < 4294967296) : APure Try.prog 53 [.int .i64 op, .int .u32 (a : Int), .int .u32 (b : Int)] (fun r => r = wpair (wapp op a b)) := by
 refine APure.of_body (n := 80) tok Try.func53 rfl rfl ?_
 refine AGo.seq ?_
 refine AGo.region ?_
 refine aa 6 ?_
 refine aa 7 ?_
 refine AOps.nil ?_
 refine AGo.seq ?_
 refine AGo.region ?_
 refine am 10 ?_
 refine aq 11 (q_convSame tok rfl rfl rfl rfl rfl (wrapN_u64 (by omega))) ?_
 refine am 12 ?_
 refine aq 13 (q_convSame tok rfl rfl rfl rfl rfl (wrapN_u64 (by omega))) ?_
 refine aa 8 ?_
 refine aa 9 ?_
 refine AOps.nil ?_
 refine AGo.seq ?_
 refine AGo.seq ?_
 refine AGo.region ?_
 refine am 14 ?_
 refine AOps.nil ?_
 refine AGo.block ?_
 refine AGo.seq ?_
 refine AGo.region ?_
 refine aq 16 (q_bin rfl rfl rfl rfl) ?_
 refine aa 15 ?_
 refine AOps.nil ?_
 refine AGo.split 15 rfl (fun hb1 => ?_) (fun hb1 => ?_)
 ·
  refine AGo.cond_true true rfl rfl ?_
  obtain rfl : op = 4 := by simpa using hb1
  refine AGo.seq ?_
  refine AGo.region ?_
  refine am 17 ?_
  refine am 18 ?_
  refine aq 19 (q_bin (r := .int .u64 ((a + b : Nat) : Int)) rfl rfl rfl (ebin_add (wrapN_u64 (by omega)))) ?_
  refine aq 20 (q_bin (r := .int .u64 (((a + b) % 4294967296 : Nat) : Int)) rfl rfl rfl (ebin_rem (a := a + b) (b := 4294967296) (by decide))) ?_
  refine aq 21 (q_convSame tok rfl rfl rfl rfl rfl (wrapN_u32 (Nat.mod_lt _ (by decide)))) ?_
  refine aa 6 ?_
  refine aa 7 ?_
  refine AOps.nil ?_
  refine AGo.ret ?_
  refine ⟨[_, _], ⟨rfl, rfl, trivial⟩, ?_, rfl⟩
  show AV.tup _ = _
  rw [wapp_add]; rfl
 ·
  refine AGo.cond_false false rfl rfl ?_
  refine AGo.seq ?_
  refine AGo.region ?_
  refine aq 23 (q_bin rfl rfl rfl rfl) ?_
  refine aa 22 ?_
  refine AOps.nil ?_
  refine AGo.split 22 rfl (fun hb2 => ?_) (fun hb2 => ?_)
  ·
   refine AGo.cond_true true rfl rfl ?_
   obtain rfl : op = 5 := by simpa using hb2
   refine AGo.seq ?_
   refine AGo.region ?_
   refine am 24 ?_
   refine aq 25 (q_bin (r := .int .u64 ((a + 4294967296 : Nat) : Int)) rfl rfl rfl (ebin_add (b := 4294967296) (wrapN_u64 (by omega)))) ?_
   refine am 26 ?_
   refine aq 27 (q_bin (r := .int .u64 ((a + 4294967296 - b : Nat) : Int)) rfl rfl rfl (ebin_sub (by omega) (wrapN_u64 (by omega)))) ?_
   refine aq 28 (q_bin (r := .int .u64 (((a + 4294967296 - b) % 4294967296 : Nat) : Int)) rfl rfl rfl (ebin_rem (a := a + 4294967296 - b) (b := 4294967296) (by decide))) ?_
   refine aq 29 (q_convSame tok rfl rfl rfl rfl rfl (wrapN_u32 (Nat.mod_lt _ (by decide)))) ?_
   refine aa 6 ?_
   refine aa 7 ?_
   refine AOps.nil ?_
   refine AGo.ret ?_
   refine ⟨[_, _], ⟨rfl, rfl, trivial⟩, ?_, rfl⟩
   show AV.tup _ = _
   rw [wapp_sub hb]; rfl
  ·
   refine AGo.cond_false false rfl rfl ?_
   refine AGo.seq ?_
   refine AGo.region ?_
   refine aq 31 (q_bin rfl rfl rfl rfl) ?_
   refine aa 30 ?_
   refine AOps.nil ?_
   refine AGo.split 30 rfl (fun hb3 => ?_) (fun hb3 => ?_)
   ·
    refine AGo.cond_true true rfl rfl ?_
    obtain rfl : op = 6 := by simpa using hb3
    have hab : a * b < 18446744073709551616 := by have := Nat.mul_lt_mul'' ha hb; omega
    refine AGo.seq ?_
    refine AGo.region ?_
    refine am 32 ?_
    refine am 33 ?_
    refine aq 34 (q_bin (r := .int .u64 ((a * b : Nat) : Int)) rfl rfl rfl (ebin_mul (wrapN_u64 hab))) ?_
    refine aq 35 (q_bin (r := .int .u64 ((a * b % 4294967296 : Nat) : Int)) rfl rfl rfl (ebin_rem (a := a * b) (b := 4294967296) (by decide))) ?_
    refine aq 36 (q_convSame tok rfl rfl rfl rfl rfl (wrapN_u32 (Nat.mod_lt _ (by decide)))) ?_
    refine aa 6 ?_
    refine aa 7 ?_
    refine AOps.nil ?_
    refine AGo.ret ?_
    refine ⟨[_, _], ⟨rfl, rfl, trivial⟩, ?_, rfl⟩
    show AV.tup _ = _
    rw [wapp_mul]; rfl
   ·
    refine AGo.cond_false false rfl rfl ?_
    refine AGo.seq ?_
    refine AGo.region ?_
    refine aq 38 (q_bin rfl rfl rfl rfl) ?_
    refine aa 37 ?_
    refine AOps.nil ?_
    refine AGo.split 37 rfl (fun hb4 => ?_) (fun hb4 => ?_)
    ·
     refine AGo.cond_true true rfl rfl ?_
     obtain rfl : op = 7 := by simpa using hb4
     refine AGo.seq ?_
     refine AGo.seq ?_
     refine AGo.region ?_
     refine am 39 ?_
     refine aq 40 (q_bin rfl rfl rfl rfl) ?_
     refine AOps.nil ?_
     refine AGo.split 40 rfl (fun hb5 => ?_) (fun hb5 => ?_)
     ·
      refine AGo.cond_true true rfl rfl ?_
      obtain rfl : b = 0 := by have h := hb5; simp at h; omega
      refine AGo.seq ?_
      refine AGo.region ?_
      refine aa 6 ?_
      refine aa 7 ?_
      refine AOps.nil ?_
      refine AGo.ret ?_
      refine ⟨[_, _], ⟨rfl, rfl, trivial⟩, ?_, rfl⟩
      show AV.tup _ = _
      rw [show (((0 : Nat) : Int)) = 0 from rfl, wapp_div0 _ _ (by simp)]; rfl
     ·
      refine AGo.cond_false false rfl rfl ?_
      have hb0 : ¬ b = 0 := by have h := hb5; simp at h; omega
      have hda := Nat.div_le_self a b
      refine AGo.skip ?_
      refine AGo.seq ?_
      refine AGo.region ?_
      refine am 41 ?_
      refine am 42 ?_
      refine aq 43 (q_bin (r := .int .u64 ((a / b : Nat) : Int)) rfl rfl rfl (ebin_quo (Nat.pos_of_ne_zero hb0) (wrapN_u64 (by omega)))) ?_
      refine aq 44 (q_convSame tok rfl rfl rfl rfl rfl (wrapN_u32 (by omega))) ?_
      refine aa 6 ?_
      refine aa 7 ?_
      refine AOps.nil ?_
      refine AGo.ret ?_
      refine ⟨[_, _], ⟨rfl, rfl, trivial⟩, ?_, rfl⟩
      show AV.tup _ = _
      rw [wapp_div ha hb0]; rfl
    ·
     refine AGo.cond_false false rfl rfl ?_
     refine AGo.seq ?_
     refine AGo.region ?_
     refine aq 46 (q_bin rfl rfl rfl rfl) ?_
     refine aa 45 ?_
     refine AOps.nil ?_
     refine AGo.split 45 rfl (fun hb6 => ?_) (fun hb6 => ?_)
     ·
      refine AGo.cond_true true rfl rfl ?_
      obtain rfl : op = 8 := by simpa using hb6
      refine AGo.seq ?_
      refine AGo.seq ?_
      refine AGo.region ?_
      refine am 47 ?_
      refine aq 48 (q_bin rfl rfl rfl rfl) ?_
      refine AOps.nil ?_
      refine AGo.split 48 rfl (fun hb7 => ?_) (fun hb7 => ?_)
      ·
       refine AGo.cond_true true rfl rfl ?_
       obtain rfl : b = 0 := by have h := hb7; simp at h; omega
       refine AGo.seq ?_
       refine AGo.region ?_
       refine aa 6 ?_
       refine aa 7 ?_
       refine AOps.nil ?_
       refine AGo.ret ?_
       refine ⟨[_, _], ⟨rfl, rfl, trivial⟩, ?_, rfl⟩
       show AV.tup _ = _
       rw [show (((0 : Nat) : Int)) = 0 from rfl, wapp_div0 _ _ (by simp)]; rfl
      ·
       refine AGo.cond_false false rfl rfl ?_
       have hb0 : ¬ b = 0 := by have h := hb7; simp at h; omega
       have hma := Nat.mod_lt a (Nat.pos_of_ne_zero hb0)
       refine AGo.skip ?_
       refine AGo.seq ?_
       refine AGo.region ?_
       refine am 49 ?_
       refine am 50 ?_
       refine aq 51 (q_bin (r := .int .u64 ((a % b : Nat) : Int)) rfl rfl rfl (ebin_rem (Nat.pos_of_ne_zero hb0))) ?_
       refine aq 52 (q_convSame tok rfl rfl rfl rfl rfl (wrapN_u32 (by omega))) ?_
       refine aa 6 ?_
       refine aa 7 ?_
       refine AOps.nil ?_
       refine AGo.ret ?_
       refine ⟨[_, _], ⟨rfl, rfl, trivial⟩, ?_, rfl⟩
       show AV.tup _ = _
       rw [wapp_mod hb0]; rfl
     ·
      refine AGo.cond_false false rfl rfl ?_
      refine AGo.seq ?_
      refine AGo.seq ?_
      refine AGo.region ?_
      refine aq 54 (q_bin rfl rfl rfl rfl) ?_
      refine aa 53 ?_
      refine AOps.nil ?_
      refine AGo.split 53 rfl (fun hb8 => ?_) (fun hb8 => ?_)
      ·
       refine AGo.cond_true true rfl rfl ?_
       refine AGo.skip ?_
       refine AGo.cond_true true rfl rfl ?_
       refine AGo.seq ?_
       refine AGo.region ?_
       have ho : op = 9 ∨ op = 10 ∨ op = 11 := by simp_all
       refine am 57 ?_
       refine am 58 ?_
       refine am 59 ?_
       refine ax 60 (o_pure rfl Try.func60 (by kernel_rfl) rfl rfl rfl (both_ok _ a b ha hb)) ?_
       refine aa 6 ?_
       refine aa 7 ?_
       refine AOps.nil ?_
       refine AGo.ret ?_
       refine ⟨[_, _], ⟨rfl, rfl, trivial⟩, ?_, rfl⟩
       show AV.tup _ = _
       rw [wapp_both ha hb ho]; rfl
      ·
       refine AGo.cond_false false rfl rfl ?_
       refine AGo.seq ?_
       refine AGo.region ?_
       refine aq 55 (q_bin rfl rfl rfl rfl) ?_
       refine aa 53 ?_
       refine AOps.nil ?_
       refine AGo.split 53 rfl (fun hb9 => ?_) (fun hb9 => ?_)
       ·
        refine AGo.cond_true true rfl rfl ?_
        refine AGo.skip ?_
        refine AGo.cond_true true rfl rfl ?_
        refine AGo.seq ?_
        refine AGo.region ?_
        have ho : op = 9 ∨ op = 10 ∨ op = 11 := by simp_all
        refine am 57 ?_
        refine am 58 ?_
        refine am 59 ?_
        refine ax 60 (o_pure rfl Try.func60 (by kernel_rfl) rfl rfl rfl (both_ok _ a b ha hb)) ?_
        refine aa 6 ?_
        refine aa 7 ?_
        refine AOps.nil ?_
        refine AGo.ret ?_
        refine ⟨[_, _], ⟨rfl, rfl, trivial⟩, ?_, rfl⟩
        show AV.tup _ = _
        rw [wapp_both ha hb ho]; rfl
       ·
        refine AGo.cond_false false rfl rfl ?_
        refine AGo.region ?_
        refine aq 56 (q_bin rfl rfl rfl rfl) ?_
        refine aa 53 ?_
        refine AOps.nil ?_
        refine AGo.split 53 rfl (fun hb10 => ?_) (fun hb10 => ?_)
        ·
         refine AGo.cond_true true rfl rfl ?_
         refine AGo.seq ?_
         refine AGo.region ?_
         have ho : op = 9 ∨ op = 10 ∨ op = 11 := by simp_all
         refine am 57 ?_
         refine am 58 ?_
         refine am 59 ?_
         refine ax 60 (o_pure rfl Try.func60 (by kernel_rfl) rfl rfl rfl (both_ok _ a b ha hb)) ?_
         refine aa 6 ?_
         refine aa 7 ?_
         refine AOps.nil ?_
         refine AGo.ret ?_
         refine ⟨[_, _], ⟨rfl, rfl, trivial⟩, ?_, rfl⟩
         show AV.tup _ = _
         rw [wapp_both ha hb ho]; rfl
        ·
         refine AGo.cond_false false rfl rfl ?_
         refine AGo.seq ?_
         refine AGo.seq ?_
         refine AGo.region ?_
         refine aq 62 (q_bin rfl rfl rfl rfl) ?_
         refine aa 61 ?_
         refine AOps.nil ?_
         refine AGo.split 61 rfl (fun hb11 => ?_) (fun hb11 => ?_)
         ·
          refine AGo.cond_true true rfl rfl ?_
          refine AGo.skip ?_
          refine AGo.cond_true true rfl rfl ?_
          refine AGo.seq ?_
          refine AGo.region ?_
          have ho : op = 12 ∨ op = 13 := by simp_all
          refine am 64 ?_
          refine am 65 ?_
          refine am 66 ?_
          refine ax 67 (o_pure rfl Try.func61 (by kernel_rfl) rfl rfl rfl (rshift_ok _ a b ha hb ho)) ?_
          refine aa 6 ?_
          refine aa 7 ?_
          refine AOps.nil ?_
          refine AGo.ret ?_
          refine ⟨[_, _], ⟨rfl, rfl, trivial⟩, ?_, rfl⟩
          show AV.tup _ = _
          rw [wapp_shift ho]; rfl
         ·
          refine AGo.cond_false false rfl rfl ?_
          refine AGo.region ?_
          refine aq 63 (q_bin rfl rfl rfl rfl) ?_
          refine aa 61 ?_
          refine AOps.nil ?_
          refine AGo.split 61 rfl (fun hb12 => ?_) (fun hb12 => ?_)
          ·
           refine AGo.cond_true true rfl rfl ?_
           refine AGo.seq ?_
           refine AGo.region ?_
           have ho : op = 12 ∨ op = 13 := by simp_all
           refine am 64 ?_
           refine am 65 ?_
           refine am 66 ?_
           refine ax 67 (o_pure rfl Try.func61 (by kernel_rfl) rfl rfl rfl (rshift_ok _ a b ha hb ho)) ?_
           refine aa 6 ?_
           refine aa 7 ?_
           refine AOps.nil ?_
           refine AGo.ret ?_
           refine ⟨[_, _], ⟨rfl, rfl, trivial⟩, ?_, rfl⟩
           show AV.tup _ = _
           rw [wapp_shift ho]; rfl
          ·
           refine AGo.cond_false false rfl rfl ?_
           refine AGo.seq ?_
           refine AGo.region ?_
           refine aq 69 (q_bin rfl rfl rfl rfl) ?_
           refine aa 68 ?_
           refine AOps.nil ?_
           refine AGo.split 68 rfl (fun hb13 => ?_) (fun hb13 => ?_)
           ·
            refine AGo.cond_true true rfl rfl ?_
            obtain rfl : op = 14 := by simpa using hb13
            refine AGo.seq ?_
            refine AGo.region ?_
            refine am 70 ?_
            refine am 71 ?_
            refine aq 72 (q_bin rfl rfl rfl rfl) ?_
            refine ax 73 (o_pure rfl Try.func62 (by kernel_rfl) rfl rfl rfl (flag_ok _)) ?_
            refine aa 6 ?_
            refine aa 7 ?_
            refine AOps.nil ?_
            refine AGo.ret ?_
            refine ⟨[_, _], ⟨rfl, rfl, trivial⟩, ?_, rfl⟩
            show AV.tup _ = _
            rw [wapp_lt]; rfl
           ·
            refine AGo.cond_false false rfl rfl ?_
            refine AGo.seq ?_
            refine AGo.region ?_
            refine aq 75 (q_bin rfl rfl rfl rfl) ?_
            refine aa 74 ?_
            refine AOps.nil ?_
            refine AGo.split 74 rfl (fun hb14 => ?_) (fun hb14 => ?_)
            ·
             refine AGo.cond_true true rfl rfl ?_
             obtain rfl : op = 15 := by simpa using hb14
             refine AGo.seq ?_
             refine AGo.region ?_
             refine am 76 ?_
             refine am 77 ?_
             refine aq 78 (q_bin rfl rfl rfl rfl) ?_
             refine ax 79 (o_pure rfl Try.func62 (by kernel_rfl) rfl rfl rfl (flag_ok _)) ?_
             refine aa 6 ?_
             refine aa 7 ?_
             refine AOps.nil ?_
             refine AGo.ret ?_
             refine ⟨[_, _], ⟨rfl, rfl, trivial⟩, ?_, rfl⟩
             show AV.tup _ = _
             rw [wapp_eq]; rfl
            ·
             refine AGo.cond_false false rfl rfl ?_
             refine AGo.skip ?_
             refine AGo.seq ?_
             refine AGo.region ?_
             refine aa 6 ?_
             refine aa 7 ?_
             refine AOps.nil ?_
             refine AGo.ret ?_
             refine ⟨[_, _], ⟨rfl, rfl, trivial⟩, ?_, rfl⟩
             show AV.tup _ = AV.tup _
             simp [wapp, *]

theorem rapply_ok (op a b : Int) (ha : isW a) (hb : isW b) : APure Try.prog 53 [.int .i64 op, .int .u32 a, .int .u32 b] (fun r => r = wpair (wapp op a b)) := by
  obtain ⟨n, rfl⟩ := Int.eq_ofNat_of_zero_le ha.1
  obtain ⟨m, rfl⟩ := Int.eq_ofNat_of_zero_le hb.1
  exact rapply_okN op n m (by have := ha.2; omega) (by have := hb.2; omega)

end Go.Proofs.Ytpijoieooikfgaa.Sv
