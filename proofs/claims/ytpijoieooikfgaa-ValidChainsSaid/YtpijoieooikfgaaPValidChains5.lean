/-
  The law ValidChains of the given program answers true for every input, and leaves its arguments as they were. There is no condition. Own work.
  WALKS: printed by a program of our own from the code's tree.
  WALKS: printed by a program of our own from the code's tree.
  WALKS: printed by a program of our own from the code's tree.
  WALKS: printed by a program of our own from the code's tree.
  WALKS: printed by a program of our own from the code's tree.
  WALKS: printed by a program of our own from the code's tree.
  WALKS: printed by a program of our own from the code's tree.
  WALKS: printed by a program of our own from the code's tree.
  WALKS: printed by a program of our own from the code's tree.
  WALKS: printed by a program of our own from the code's tree.
  WALKS: printed by a program of our own from the code's tree.
  WALKS: printed by a program of our own from the code's tree.
  WALKS: printed by a program of our own from the code's tree.
  WALKS: printed by a program of our own from the code's tree.
  The law ValidChains, of a triple.
-/
import Derived.Test.YtpijoieooikfgaaPValidChains3
import Derived.Test.YtpijoieooikfgaaPValidChains4
import Derived.Test.YtpijoieooikfgaaPValidChains2
namespace Go.Proofs.Ytpijoieooikfgaa.Sv
open Go

set_option maxHeartbeats 1000000 in
set_option maxRecDepth 100000 in
theorem shaped_ok (old new : BFunc) (hno : old.blocks.length ≤ 10000) (hnn : new.blocks.length ≤ 10000) (hio : ∀ x ∈ old.blocks, x.ins.length ≤ 10000 ∧ insW x.ins) (hin : ∀ x ∈ new.blocks, x.ins.length ≤ 10000 ∧ insW x.ins) : APure Try.prog 26 [.agg old.cells, .agg new.cells] (fun r => r = .bool (vshaped old new)) := by
 refine APure.of_body (n := 65) tok Try.func26 rfl rfl ?_
 refine AGo.seq ?_
 refine AGo.region ?_
 refine ax 2 (o_box (sz := 2) 0 rfl rfl rfl rfl (Nat.zero_lt_succ _) rfl) ?_
 refine ax 3 (o_box (sz := 2) 1 rfl rfl rfl rfl (Nat.zero_lt_succ _) rfl) ?_
 refine aa 4 ?_
 refine AOps.nil ?_
 refine AGo.seq ?_
 refine AGo.seq ?_
 refine AGo.region ?_
 refine af 8 tok ?_
 refine al 9 tok ?_
 refine af 10 tok ?_
 refine al 11 tok ?_
 refine aq 12 (q_bin rfl rfl rfl rfl) ?_
 refine am 13 ?_
 refine AOps.split 13 rfl (fun hb1 => ?_) (fun hb1 => ?_)
 ·
  refine ak 14 ?_
  refine ak 15 ?_
  refine ak 16 ?_
  refine ak 17 ?_
  refine ak 18 ?_
  refine ak 19 ?_
  refine ak 20 ?_
  refine aq 21 (q_pick_true true rfl rfl rfl rfl) ?_
  refine am 22 ?_
  refine ak 23 ?_
  refine ak 24 ?_
  refine ak 25 ?_
  refine aq 26 (q_pick_true true rfl rfl rfl rfl) ?_
  refine am 27 ?_
  refine ak 28 ?_
  refine ak 29 ?_
  refine ak 30 ?_
  refine aq 31 (q_pick_true true rfl rfl rfl rfl) ?_
  refine AOps.nil ?_
  refine AGo.cond_true true rfl rfl ?_
  refine AGo.seq ?_
  refine AGo.region ?_
  refine aa 4 ?_
  refine AOps.nil ?_
  refine AGo.ret ?_
  refine ⟨[_], ⟨rfl, trivial⟩, ?_, rfl⟩
  show AV.bool _ = AV.bool _
  congr 1
  first
  | exact (vshaped_regs (by assumption)).symm
  | exact (vshaped_len' (by assumption)).symm
  | exact (vshaped_s1 (ndec_same' (b := old.stands) (by assumption))).symm
  | exact (vshaped_s2 (ndec_same' (b := new.stands) (by assumption))).symm
 ·
  refine af 14 tok ?_
  refine al 15 tok ?_
  refine aq 16 (q_len tok rfl rfl rfl rfl rfl) ?_
  refine af 17 tok ?_
  refine al 18 tok ?_
  refine aq 19 (q_len tok rfl rfl rfl rfl rfl) ?_
  refine aq 20 (q_bin rfl rfl rfl rfl) ?_
  refine aq 21 (q_pick_false false rfl rfl rfl rfl) ?_
  refine am 22 ?_
  refine AOps.split 22 rfl (fun hb2 => ?_) (fun hb2 => ?_)
  ·
   refine ak 23 ?_
   refine ak 24 ?_
   refine ak 25 ?_
   refine aq 26 (q_pick_true true rfl rfl rfl rfl) ?_
   refine am 27 ?_
   refine ak 28 ?_
   refine ak 29 ?_
   refine ak 30 ?_
   refine aq 31 (q_pick_true true rfl rfl rfl rfl) ?_
   refine AOps.nil ?_
   refine AGo.cond_true true rfl rfl ?_
   refine AGo.seq ?_
   refine AGo.region ?_
   refine aa 4 ?_
   refine AOps.nil ?_
   refine AGo.ret ?_
   refine ⟨[_], ⟨rfl, trivial⟩, ?_, rfl⟩
   show AV.bool _ = AV.bool _
   congr 1
   first
   | exact (vshaped_regs (by assumption)).symm
   | exact (vshaped_len' (by assumption)).symm
   | exact (vshaped_s1 (ndec_same' (b := old.stands) (by assumption))).symm
   | exact (vshaped_s2 (ndec_same' (b := new.stands) (by assumption))).symm
  ·
   refine al 23 tok ?_
   refine ax 24 (o_pure rfl Try.func34 (by kernel_rfl) rfl rfl rfl (stands_ok old (by omega) (fun x hx => by have := (hio x hx).1; omega))) ?_
   refine aq 25 (q_not rfl rfl) ?_
   refine aq 26 (q_pick_false false rfl rfl rfl rfl) ?_
   refine am 27 ?_
   refine AOps.split 27 rfl (fun hb3 => ?_) (fun hb3 => ?_)
   ·
    refine ak 28 ?_
    refine ak 29 ?_
    refine ak 30 ?_
    refine aq 31 (q_pick_true true rfl rfl rfl rfl) ?_
    refine AOps.nil ?_
    refine AGo.cond_true true rfl rfl ?_
    refine AGo.seq ?_
    refine AGo.region ?_
    refine aa 4 ?_
    refine AOps.nil ?_
    refine AGo.ret ?_
    refine ⟨[_], ⟨rfl, trivial⟩, ?_, rfl⟩
    show AV.bool _ = AV.bool _
    congr 1
    first
    | exact (vshaped_regs (by assumption)).symm
    | exact (vshaped_len' (by assumption)).symm
    | exact (vshaped_s1 (ndec_same' (b := old.stands) (by assumption))).symm
    | exact (vshaped_s2 (ndec_same' (b := new.stands) (by assumption))).symm
   ·
    refine al 28 tok ?_
    refine ax 29 (o_pure rfl Try.func34 (by kernel_rfl) rfl rfl rfl (stands_ok new (by omega) (fun x hx => by have := (hin x hx).1; omega))) ?_
    refine aq 30 (q_not rfl rfl) ?_
    refine aq 31 (q_pick_false false rfl rfl rfl rfl) ?_
    refine AOps.nil ?_
    refine AGo.split 31 rfl (fun hb4 => ?_) (fun hb4 => ?_)
    ·
     refine AGo.cond_true true rfl rfl ?_
     refine AGo.seq ?_
     refine AGo.region ?_
     refine aa 4 ?_
     refine AOps.nil ?_
     refine AGo.ret ?_
     refine ⟨[_], ⟨rfl, trivial⟩, ?_, rfl⟩
     show AV.bool _ = AV.bool _
     congr 1
     first
     | exact (vshaped_regs (by assumption)).symm
     | exact (vshaped_len' (by assumption)).symm
     | exact (vshaped_s1 (ndec_same' (b := old.stands) (by assumption))).symm
     | exact (vshaped_s2 (ndec_same' (b := new.stands) (by assumption))).symm
    ·
     refine AGo.cond_false false rfl rfl ?_
     have hlen := len_eq' (by assumption)
     refine AGo.skip ?_
     refine AGo.seq ?_
     refine AGo.seq ?_
     refine AGo.region ?_
     refine af 32 tok ?_
     refine al 33 tok ?_
     refine aq 34 (q_len tok rfl rfl rfl rfl rfl) ?_
     refine am 35 ?_
     refine AOps.nil ?_
     refine AGo.block ?_
     refine AGo.loopD (γ := Nat) 2 (fun k => ⟨65, (eput (eput (eput (eput (eput eNew 2 (.ptr 0 1 0 0)) 3 (.ptr 1 1 0 0)) 33 (blocksAV old.blocks)) 34 (.int .i64 (old.blocks.length : Int))) 35 (.int .i64 (k : Int))), (hput (hput (hFrom 2) 0 (.row false 2 [old.cells])) 1 (.row false 2 [new.cells]))⟩) (fun k => k ≤ old.blocks.length ∧ ((old.blocks.zip new.blocks).take k).all (fun p => shapeB p.1 p.2) = true) (fun k => old.blocks.length - k) 0 (Sub.mk' (by repeat (first | exact ESub.new _ | refine ESub.put ?_ (by first | rfl | exact congrArg (fun (n : Nat) => some (AV.int .i64 (n : Int))) (by simp)))) (by repeat (first | exact HSub.refl _ | exact HSub.none _ | exact HSub.from_new _ | exact HSub.from_from (by first | decide | omega | (dsimp only; omega)) | refine HSub.put ?_ (by rfl) | refine HSub.from_put ?_ (by first | decide | omega | (dsimp only; omega)) | refine HSub.from_rm ?_ (by decide)))) ⟨Nat.zero_le _, rfl⟩ (fun _ => hput_free (hput_free (fun b hb => hFrom_free hb) rfl) rfl) ?_
     intro k ⟨hk, hall⟩
     refine AGo.seq ?_
     refine AGo.region ?_
     refine aq 36 (q_bin rfl rfl rfl rfl) ?_
     refine AOps.nil ?_
     refine AGo.seq ?_
     refine AGo.split 36 rfl (fun hb5 => ?_) (fun hb5 => ?_)
     ·
      refine AGo.cond_true true rfl rfl ?_
      have hkl : k < old.blocks.length := by simpa using hb5
      obtain ⟨x, hx⟩ := get_of_lt hkl
      obtain ⟨y, hy⟩ := get_of_lt (l := new.blocks) (k := k) (by omega)
      refine AGo.skip ?_
      refine AGo.seq ?_
      refine AGo.block ?_
      refine AGo.seq ?_
      refine AGo.region ?_
      refine am 37 ?_
      refine aq 38 (q_index_lst tok rfl rfl rfl rfl rfl rfl (Int.natCast_nonneg _) (idx_map hx) rfl) ?_
      refine al 39 tok ?_
      refine ax 6 (o_alloc tok 2 rfl rfl rfl rfl (Nat.zero_lt_succ _) rfl) ?_
      refine aa 5 ?_
      refine AOps.w rfl rfl (o_store tok rfl rfl rfl rfl rfl rfl rfl rfl rfl (by decide) rfl (by first | exact fun _ => rfl | (intro h; cases h))) ?_
      refine AOps.nil ?_
      refine AGo.seq ?_
      refine AGo.region ?_
      refine af 40 tok ?_
      refine al 41 tok ?_
      refine am 42 ?_
      refine aq 43 (q_index_lst tok rfl rfl rfl rfl rfl rfl (Int.natCast_nonneg _) (idx_map hy) rfl) ?_
      refine al 44 tok ?_
      refine ax 7 (o_alloc tok 3 rfl rfl rfl rfl (Nat.zero_lt_succ _) rfl) ?_
      refine AOps.w rfl rfl (o_store tok rfl rfl rfl rfl rfl rfl rfl rfl rfl (by decide) rfl (by first | exact fun _ => rfl | (intro h; cases h))) ?_
      refine AOps.nil ?_
      refine AGo.seq ?_
      refine AGo.region ?_
      refine af 45 tok ?_
      refine al 46 tok ?_
      refine af 47 tok ?_
      refine al 48 tok ?_
      refine aq 49 (q_bin rfl rfl rfl rfl) ?_
      refine am 50 ?_
      refine AOps.split 50 rfl (fun hb6 => ?_) (fun hb6 => ?_)
      ·
       refine ak 51 ?_
       refine ak 52 ?_
       refine ak 53 ?_
       refine ak 54 ?_
       refine ak 55 ?_
       refine aq 56 (q_pick_true true rfl rfl rfl rfl) ?_
       refine am 57 ?_
       refine ak 58 ?_
       refine ak 59 ?_
       refine ak 60 ?_
       refine ak 61 ?_
       refine ak 62 ?_
       refine aq 63 (q_pick_true true rfl rfl rfl rfl) ?_
       refine AOps.nil ?_
       refine AGo.cond_true true rfl rfl ?_
       refine AGo.seq ?_
       refine AGo.region ?_
       refine aa 4 ?_
       refine AOps.nil ?_
       refine AGo.ret ?_
       refine ⟨[_], ⟨rfl, trivial⟩, ?_, rfl⟩
       show AV.bool _ = AV.bool _
       congr 1
       first
       | exact (vshaped_b hx hy (shape_f (by assumption))).symm
       | exact (vshaped_b hx hy (shape_t (by assumption))).symm
       | exact (vshaped_b hx hy (shape_e (by assumption))).symm
      ·
       refine af 51 tok ?_
       refine al 52 tok ?_
       refine af 53 tok ?_
       refine al 54 tok ?_
       refine aq 55 (q_bin rfl rfl rfl rfl) ?_
       refine aq 56 (q_pick_false false rfl rfl rfl rfl) ?_
       refine am 57 ?_
       refine AOps.split 57 rfl (fun hb7 => ?_) (fun hb7 => ?_)
       ·
        refine ak 58 ?_
        refine ak 59 ?_
        refine ak 60 ?_
        refine ak 61 ?_
        refine ak 62 ?_
        refine aq 63 (q_pick_true true rfl rfl rfl rfl) ?_
        refine AOps.nil ?_
        refine AGo.cond_true true rfl rfl ?_
        refine AGo.seq ?_
        refine AGo.region ?_
        refine aa 4 ?_
        refine AOps.nil ?_
        refine AGo.ret ?_
        refine ⟨[_], ⟨rfl, trivial⟩, ?_, rfl⟩
        show AV.bool _ = AV.bool _
        congr 1
        first
        | exact (vshaped_b hx hy (shape_f (by assumption))).symm
        | exact (vshaped_b hx hy (shape_t (by assumption))).symm
        | exact (vshaped_b hx hy (shape_e (by assumption))).symm
       ·
        refine af 58 tok ?_
        refine al 59 tok ?_
        refine af 60 tok ?_
        refine al 61 tok ?_
        refine aq 62 (q_bin rfl rfl rfl rfl) ?_
        refine aq 63 (q_pick_false false rfl rfl rfl rfl) ?_
        refine AOps.nil ?_
        refine AGo.split 63 rfl (fun hb8 => ?_) (fun hb8 => ?_)
        ·
         refine AGo.cond_true true rfl rfl ?_
         refine AGo.seq ?_
         refine AGo.region ?_
         refine aa 4 ?_
         refine AOps.nil ?_
         refine AGo.ret ?_
         refine ⟨[_], ⟨rfl, trivial⟩, ?_, rfl⟩
         show AV.bool _ = AV.bool _
         congr 1
         first
         | exact (vshaped_b hx hy (shape_f (by assumption))).symm
         | exact (vshaped_b hx hy (shape_t (by assumption))).symm
         | exact (vshaped_b hx hy (shape_e (by assumption))).symm
        ·
         refine AGo.cond_false false rfl rfl ?_
         refine AGo.skip ?_
         refine AGo.region ?_
         refine aq 64 (q_inc rfl rfl hkl (show old.blocks.length ≤ maxLen by simp only [maxLen]; omega)) ?_
         refine am 35 ?_
         refine AOps.nil ?_
         exact ⟨k+1, Drop.mk' (by repeat (first | exact EDrop.new _ _ | refine EDrop.put ?_ (by rfl) (by first | rfl | exact slA_avoid _ rfl | exact vaA_avoid _ rfl))) (by repeat (first | exact HDrop.none _ _ | exact HDrop.tail _ _ | refine HDrop.put ?_ (by rfl) rfl (by first | rfl | exact slO_avoid _ _ | exact vaO_avoid _ | exact tab_avoid _ _ rfl rfl | exact wlk_avoid _ _ _ rfl rfl rfl))), ⟨hkl, all_succ (zip_at hx hy) hall (shape_y (by assumption) (by assumption) (by assumption))⟩, by omega⟩
     ·
      refine AGo.cond_false false rfl rfl ?_
      have hge : old.blocks.length ≤ k := by simpa using hb5
      refine AGo.exit ?_
      refine AGo.seq ?_
      refine AGo.region ?_
      refine aa 4 ?_
      refine AOps.nil ?_
      refine AGo.ret ?_
      refine ⟨[_], ⟨rfl, trivial⟩, ?_, rfl⟩
      show AV.bool _ = AV.bool _
      congr 1
      exact (vshaped_yes (bne_eq' (by assumption)) hlen (ndec_same (by assumption)) (ndec_same (by assumption)) (all_end hall (by rw [List.length_zip]; omega))).symm

set_option maxHeartbeats 1000000 in
set_option maxRecDepth 100000 in
theorem vcheck_ok (old new : BFunc) (hno : old.blocks.length ≤ 10000) (hnn : new.blocks.length ≤ 10000) (hio : ∀ x ∈ old.blocks, x.ins.length ≤ 10000 ∧ insW x.ins) (hin : ∀ x ∈ new.blocks, x.ins.length ≤ 10000 ∧ insW x.ins) (c : Cert) : APure Try.prog 14 [.agg old.cells, .agg new.cells, .agg c.cells] (fun r => r = .bool (vcheck old new c)) := by
 refine APure.of_body (n := 66) tok Try.func14 rfl rfl ?_
 refine AGo.seq ?_
 refine AGo.region ?_
 refine ax 3 (o_box (sz := 2) 0 rfl rfl rfl rfl (Nat.zero_lt_succ _) rfl) ?_
 refine ax 4 (o_box (sz := 2) 1 rfl rfl rfl rfl (Nat.zero_lt_succ _) rfl) ?_
 refine ax 5 (o_box (sz := 1) 2 rfl rfl rfl rfl (Nat.zero_lt_succ _) rfl) ?_
 refine aa 6 ?_
 refine AOps.nil ?_
 refine AGo.seq ?_
 refine AGo.seq ?_
 refine AGo.region ?_
 refine al 11 tok ?_
 refine al 12 tok ?_
 refine ax 13 (o_pure rfl Try.func26 (by kernel_rfl) rfl rfl rfl (shaped_ok old new hno hnn hio hin)) ?_
 refine aq 14 (q_not rfl rfl) ?_
 refine am 15 ?_
 refine AOps.split 15 rfl (fun hb1 => ?_) (fun hb1 => ?_)
 ·
  refine ak 16 ?_
  refine ak 17 ?_
  refine ak 18 ?_
  refine ak 19 ?_
  refine ak 20 ?_
  refine ak 21 ?_
  refine ak 22 ?_
  refine aq 23 (q_pick_true true rfl rfl rfl rfl) ?_
  refine AOps.nil ?_
  refine AGo.cond_true true rfl rfl ?_
  refine AGo.seq ?_
  refine AGo.region ?_
  refine aa 6 ?_
  refine AOps.nil ?_
  refine AGo.ret ?_
  refine ⟨[_], ⟨rfl, trivial⟩, ?_, rfl⟩
  show AV.bool _ = AV.bool _
  congr 1
  first
  | exact (vcheck_no1 (ndec_same' (b := vshaped old new) (by assumption))).symm
  | exact (vcheck_no2 (by assumption)).symm
 ·
  refine af 16 tok ?_
  refine al 17 tok ?_
  refine aq 18 (q_len tok rfl rfl rfl rfl rfl) ?_
  refine af 19 tok ?_
  refine al 20 tok ?_
  refine aq 21 (q_len tok rfl rfl rfl rfl rfl) ?_
  refine aq 22 (q_bin rfl rfl rfl rfl) ?_
  refine aq 23 (q_pick_false false rfl rfl rfl rfl) ?_
  refine AOps.nil ?_
  refine AGo.split 23 rfl (fun hb2 => ?_) (fun hb2 => ?_)
  ·
   refine AGo.cond_true true rfl rfl ?_
   refine AGo.seq ?_
   refine AGo.region ?_
   refine aa 6 ?_
   refine AOps.nil ?_
   refine AGo.ret ?_
   refine ⟨[_], ⟨rfl, trivial⟩, ?_, rfl⟩
   show AV.bool _ = AV.bool _
   congr 1
   first
   | exact (vcheck_no1 (ndec_same' (b := vshaped old new) (by assumption))).symm
   | exact (vcheck_no2 (by assumption)).symm
  ·
   refine AGo.cond_false false rfl rfl ?_
   have hsh : vshaped old new = true := ndec_same (by assumption)
   have hcl := cert_len (old := old) (c := c) (by assumption)
   have hV := vshaped_of hsh
   have hSo := stands_of hV.so
   have hSn := stands_of hV.sn
   have hr0 := hSo.r0
   have hr1 := hSo.r1
   have hR : ((old.regs.toNat : Nat) : Int) = old.regs := Int.toNat_of_nonneg hr0
   refine AGo.skip ?_
   refine AGo.seq ?_
   refine AGo.seq ?_
   refine AGo.region ?_
   refine af 24 tok ?_
   refine al 25 tok ?_
   refine aq 26 (q_len tok rfl rfl rfl rfl rfl) ?_
   refine am 27 ?_
   refine AOps.nil ?_
   refine AGo.block ?_
   refine AGo.loopD (γ := Nat) 3 (fun j => ⟨66, (eput (eput (eput (eput (eput (eput eNew 3 (.ptr 0 1 0 0)) 4 (.ptr 1 1 0 0)) 5 (.ptr 2 1 0 0)) 25 (rowsAV c.same)) 26 (.int .i64 (c.same.length : Int))) 27 (.int .i64 (j : Int))), (hput (hput (hput (hFrom 3) 0 (.row false 2 [old.cells])) 1 (.row false 2 [new.cells])) 2 (.row false 1 [c.cells]))⟩) (fun j => j ≤ c.same.length ∧ (c.same.take j).all (fun r => decide ((r.length : Int) = old.regs)) = true) (fun j => c.same.length - j) 0 (Sub.mk' (by repeat (first | exact ESub.new _ | refine ESub.put ?_ (by first | rfl | exact congrArg (fun (n : Nat) => some (AV.int .i64 (n : Int))) (by simp)))) (by repeat (first | exact HSub.refl _ | exact HSub.none _ | exact HSub.from_new _ | exact HSub.from_from (by first | decide | omega | (dsimp only; omega)) | refine HSub.put ?_ (by rfl) | refine HSub.from_put ?_ (by first | decide | omega | (dsimp only; omega)) | refine HSub.from_rm ?_ (by decide)))) ⟨Nat.zero_le _, rfl⟩ (fun _ => hput_free (hput_free (hput_free (fun b hb => hFrom_free hb) rfl) rfl) rfl) ?_
   intro j ⟨hj, hall⟩
   refine AGo.seq ?_
   refine AGo.region ?_
   refine aq 28 (q_bin rfl rfl rfl rfl) ?_
   refine AOps.nil ?_
   refine AGo.seq ?_
   refine AGo.split 28 rfl (fun hb3 => ?_) (fun hb3 => ?_)
   ·
    refine AGo.cond_true true rfl rfl ?_
    have hjl : j < c.same.length := by have h := hb3; simp only [List.length_map, decide_eq_true_eq] at h; omega
    obtain ⟨r, hr⟩ := get_of_lt hjl
    refine AGo.skip ?_
    refine AGo.seq ?_
    refine AGo.block ?_
    refine AGo.seq ?_
    refine AGo.region ?_
    refine aq 29 (q_index_lst tok rfl rfl rfl rfl rfl rfl (Int.natCast_nonneg _) (idx_map hr) rfl) ?_
    refine al 30 tok ?_
    refine aa 8 ?_
    refine AOps.nil ?_
    refine AGo.seq ?_
    refine AGo.region ?_
    refine am 31 ?_
    refine aq 32 (q_len tok rfl rfl rfl rfl rfl) ?_
    refine af 33 tok ?_
    refine al 34 tok ?_
    refine aq 35 (q_bin rfl rfl rfl rfl) ?_
    refine AOps.nil ?_
    refine AGo.split 35 rfl (fun hb4 => ?_) (fun hb4 => ?_)
    ·
     refine AGo.cond_true true rfl rfl ?_
     have hne : ¬ (r.length : Int) = old.regs := by have h := bne_ne' hb4; rw [List.length_map] at h; exact h
     refine AGo.seq ?_
     refine AGo.region ?_
     refine aa 6 ?_
     refine AOps.nil ?_
     refine AGo.ret ?_
     refine ⟨[_], ⟨rfl, trivial⟩, ?_, rfl⟩
     show AV.bool _ = AV.bool _
     congr 1
     exact (vcheck_no3 hr hne).symm
    ·
     refine AGo.cond_false false rfl rfl ?_
     have heq : (r.length : Int) = old.regs := by have h := bne_eq' hb4; rw [List.length_map] at h; exact h
     refine AGo.skip ?_
     refine AGo.region ?_
     refine aq 36 (q_inc rfl rfl hjl (show c.same.length ≤ maxLen by simp only [maxLen]; omega)) ?_
     refine am 27 ?_
     refine AOps.nil ?_
     exact ⟨j+1, Drop.mk' (by repeat (first | exact EDrop.new _ _ | refine EDrop.put ?_ (by rfl) (by first | rfl | exact slA_avoid _ rfl | exact vaA_avoid _ rfl))) (by repeat (first | exact HDrop.none _ _ | exact HDrop.tail _ _ | refine HDrop.put ?_ (by rfl) rfl (by first | rfl | exact slO_avoid _ _ | exact vaO_avoid _ | exact tab_avoid _ _ rfl rfl | exact wlk_avoid _ _ _ rfl rfl rfl))), ⟨hjl, all_succ hr hall (decide_eq_true heq)⟩, by omega⟩
   ·
    refine AGo.cond_false false rfl rfl ?_
    have hjge : c.same.length ≤ j := by have h := hb3; simp only [List.length_map, decide_eq_false_iff_not] at h; omega
    have hall2 := all_end hall hjge
    have hrl : ∀ r ∈ c.same, r.length = old.regs.toNat := fun r hr => by have := List.all_eq_true.1 hall2 r hr; simp only [decide_eq_true_eq] at this; omega
    refine AGo.exit ?_
    refine AGo.seq ?_
    refine AGo.region ?_
    refine al 37 tok ?_
    refine ax 38 (o_pure rfl Try.func27 (by kernel_rfl) rfl rfl rfl (next_ok old (by omega))) ?_
    refine aa 9 ?_
    refine AOps.nil ?_
    refine AGo.seq ?_
    refine AGo.seq ?_
    refine AGo.region ?_
    refine af 39 tok ?_
    refine al 40 tok ?_
    refine aq 41 (q_len tok rfl rfl rfl rfl rfl) ?_
    refine am 42 ?_
    refine AOps.nil ?_
    refine AGo.block ?_
    refine AGo.loopD (γ := Nat) 3 (fun k => ⟨66, (eput (eput (eput (eput (eput (eput eNew 3 (.ptr 0 1 0 0)) 4 (.ptr 1 1 0 0)) 5 (.ptr 2 1 0 0)) 9 (pathsAV old.nexts)) 41 (.int .i64 (old.blocks.length : Int))) 42 (.int .i64 (k : Int))), (hput (hput (hput (hFrom 3) 0 (.row false 2 [old.cells])) 1 (.row false 2 [new.cells])) 2 (.row false 1 [c.cells]))⟩) (fun k => k ≤ old.blocks.length ∧ ((old.blocks.zip new.blocks).zipIdx.take k).all (fun p => vsame old.regs.toNat p.1.1 p.1.2 c (p.2 : Int) p.1.1.nexts) = true) (fun k => old.blocks.length - k) 0 (Sub.mk' (by repeat (first | exact ESub.new _ | refine ESub.put ?_ (by first | rfl | exact congrArg (fun (n : Nat) => some (AV.int .i64 (n : Int))) (by simp)))) (by repeat (first | exact HSub.refl _ | exact HSub.none _ | exact HSub.from_new _ | exact HSub.from_from (by first | decide | omega | (dsimp only; omega)) | refine HSub.put ?_ (by rfl) | refine HSub.from_put ?_ (by first | decide | omega | (dsimp only; omega)) | refine HSub.from_rm ?_ (by decide)))) ⟨Nat.zero_le _, rfl⟩ (fun _ => hput_free (hput_free (hput_free (fun b hb => hFrom_free hb) rfl) rfl) rfl) ?_
    intro k ⟨hk, hallb⟩
    refine AGo.seq ?_
    refine AGo.region ?_
    refine aq 43 (q_bin rfl rfl rfl rfl) ?_
    refine AOps.nil ?_
    refine AGo.seq ?_
    refine AGo.split 43 rfl (fun hb5 => ?_) (fun hb5 => ?_)
    ·
     refine AGo.cond_true true rfl rfl ?_
     have hkl : k < old.blocks.length := by simpa using hb5
     obtain ⟨x, hx⟩ := get_of_lt hkl
     have hxm := List.mem_of_getElem? hx
     obtain ⟨y, hy⟩ := get_of_lt (l := new.blocks) (k := k) (by have := hV.len; omega)
     have hym := List.mem_of_getElem? hy
     have hsb := hV.b k x y hx hy
     have hnx : ∀ q ∈ x.nexts, 0 ≤ q ∧ q < c.same.length := fun q hq => by rw [hcl]; exact hSo.next x hxm q hq
     have hvv : x.fin = 2 → (0 ≤ x.v ∧ x.v < (old.regs.toNat : Int)) ∧ (0 ≤ y.v ∧ y.v < (old.regs.toNat : Int)) := fun hf => by rw [hR]; refine ⟨hSo.v x hxm hf, ?_⟩; rw [hV.regs]; exact hSn.v y hym (by rw [← hsb.1]; exact hf)
     have hto : ∀ t ∈ x.ins, TacV t old.regs.toNat := fun t ht => hSo.tacs x hxm t ht ((hio x hxm).2 t ht)
     have htn : ∀ t ∈ y.ins, TacV t old.regs.toNat := fun t ht => by rw [hV.regs]; exact hSn.tacs y hym t ht ((hin y hym).2 t ht)
     have hnl : x.nexts.length ≤ 100000 := nexts_short x
     refine AGo.skip ?_
     refine AGo.seq ?_
     refine AGo.block ?_
     refine AGo.seq ?_
     refine AGo.region ?_
     refine am 44 ?_
     refine aa 10 ?_
     refine AOps.nil ?_
     refine AGo.seq ?_
     refine AGo.draw mix ?_
     refine df 45 tok ?_
     refine dl 46 tok ?_
     refine dm 47 ?_
     refine dq 48 (q_index_lst tok rfl rfl rfl rfl rfl rfl (Int.natCast_nonneg _) (idx_map hx) rfl) ?_
     refine dl 49 tok ?_
     refine df 50 tok ?_
     refine dl 51 tok ?_
     refine dm 52 ?_
     refine dq 53 (q_index_lst tok rfl rfl rfl rfl rfl rfl (Int.natCast_nonneg _) (idx_map hy) rfl) ?_
     refine dl 54 tok ?_
     refine df 55 tok ?_
     refine dl 56 tok ?_
     refine dl 57 tok ?_
     refine dm 58 ?_
     refine dm 59 ?_
     refine dm 60 ?_
     refine dq 61 (q_index_lst tok rfl rfl rfl rfl rfl rfl (Int.natCast_nonneg _) (idx_map (nexts_get hx)) rfl) ?_
     refine dl 62 tok ?_
     refine dx 63 (o_pure rfl Try.func28 (by kernel_rfl) rfl rfl rfl ((by have h := vsame_ok x y old.regs.toNat c (k : Int) x.nexts (by omega) hrl (by omega) hnx hvv hto htn (hio x (List.mem_of_getElem? hx)).1 (hin y (List.mem_of_getElem? hy)).1 hnl; rw [hR] at h; exact h))) ?_
     refine dq 64 (q_not rfl rfl) ?_
     refine DOps.nil (by kernel_rfl) ?_
     refine AGo.split 64 rfl (fun hb6 => ?_) (fun hb6 => ?_)
     ·
      refine AGo.cond_true true rfl rfl ?_
      have hbad := ndec_same' hb6
      refine AGo.seq ?_
      refine AGo.region ?_
      refine aa 6 ?_
      refine AOps.nil ?_
      refine AGo.ret ?_
      refine ⟨[_], ⟨rfl, trivial⟩, ?_, rfl⟩
      show AV.bool _ = AV.bool _
      congr 1
      exact (vcheck_no4 hx hy hbad).symm
     ·
      refine AGo.cond_false false rfl rfl ?_
      have hgood := ndec_same hb6
      refine AGo.skip ?_
      refine AGo.region ?_
      refine aq 65 (q_inc rfl rfl hkl (show old.blocks.length ≤ maxLen by simp only [maxLen]; omega)) ?_
      refine am 42 ?_
      refine AOps.nil ?_
      exact ⟨k+1, Drop.mk' (by repeat (first | exact EDrop.new _ _ | refine EDrop.put ?_ (by rfl) (by first | rfl | exact slA_avoid _ rfl | exact vaA_avoid _ rfl))) (by repeat (first | exact HDrop.none _ _ | exact HDrop.tail _ _ | refine HDrop.put ?_ (by rfl) rfl (by first | rfl | exact slO_avoid _ _ | exact vaO_avoid _ | exact tab_avoid _ _ rfl rfl | exact wlk_avoid _ _ _ rfl rfl rfl))), ⟨hkl, all_succ (zipIdx_get (zip_at hx hy)) hallb hgood⟩, by omega⟩
    ·
     refine AGo.cond_false false rfl rfl ?_
     have hge : old.blocks.length ≤ k := by simpa using hb5
     refine AGo.exit ?_
     refine AGo.seq ?_
     refine AGo.region ?_
     refine aa 6 ?_
     refine AOps.nil ?_
     refine AGo.ret ?_
     refine ⟨[_], ⟨rfl, trivial⟩, ?_, rfl⟩
     show AV.bool _ = AV.bool _
     congr 1
     exact (vcheck_yes hsh hcl hall2 (all_end hallb (by rw [List.length_zipIdx, List.length_zip]; omega))).symm

end Go.Proofs.Ytpijoieooikfgaa.Sv

namespace Go.Proofs.Ytpijoieooikfgaa.Sv
open Go

set_option maxRecDepth 100000 in
theorem awake34_ok  : APure Try.prog 13 [] (fun r => r = .bool true) := by
 refine APure.of_body (n := 80) tok Try.func13 rfl rfl ?_
 refine AGo.seq ?_
 refine AGo.region ?_
 refine aa 0 ?_
 refine AOps.nil ?_
 refine AGo.seq ?_
 refine AGo.region ?_
 refine aq 7 (q_build tok rfl rfl rfl rfl rfl (by decide) rfl rfl rfl) ?_
 refine aq 8 (q_build tok rfl rfl rfl rfl rfl (by decide) rfl rfl rfl) ?_
 refine ax 9 (o_lit' tok rfl rfl rfl rfl rfl rfl (by decide) rfl rfl rfl rfl rfl rfl) ?_
 refine ax 10 (o_pure rfl Try.func24 (by kernel_rfl) rfl rfl rfl (one34_ok [tA, tB])) ?_
 refine ax 1 (o_alloc tok 0 rfl rfl rfl rfl (Nat.zero_lt_succ _) rfl) ?_
 refine AOps.w rfl rfl (o_store tok rfl rfl rfl rfl rfl rfl rfl rfl rfl (by decide) rfl (by first | exact fun _ => rfl | (intro h; cases h))) ?_
 refine AOps.nil ?_
 refine AGo.seq ?_
 refine AGo.region ?_
 refine aq 11 (q_build tok rfl rfl rfl rfl rfl (by decide) rfl rfl rfl) ?_
 refine aq 12 (q_build tok rfl rfl rfl rfl rfl (by decide) rfl rfl rfl) ?_
 refine aq 13 (q_build tok rfl rfl rfl rfl rfl (by decide) rfl rfl rfl) ?_
 refine ax 14 (o_lit' tok rfl rfl rfl rfl rfl rfl (by decide) rfl rfl rfl rfl rfl rfl) ?_
 refine ax 15 (o_pure rfl Try.func24 (by kernel_rfl) rfl rfl rfl (one34_ok [tC, tA, tB])) ?_
 refine ax 2 (o_alloc tok 1 rfl rfl rfl rfl (Nat.zero_lt_succ _) rfl) ?_
 refine AOps.w rfl rfl (o_store tok rfl rfl rfl rfl rfl rfl rfl rfl rfl (by decide) rfl (by first | exact fun _ => rfl | (intro h; cases h))) ?_
 refine AOps.nil ?_
 refine AGo.seq ?_
 refine AGo.region ?_
 refine aq 16 (q_build tok rfl rfl rfl rfl rfl (by decide) rfl rfl rfl) ?_
 refine aq 17 (q_build tok rfl rfl rfl rfl rfl (by decide) rfl rfl rfl) ?_
 refine aq 18 (q_build tok rfl rfl rfl rfl rfl (by decide) rfl rfl rfl) ?_
 refine ax 19 (o_lit' tok rfl rfl rfl rfl rfl rfl (by decide) rfl rfl rfl rfl rfl rfl) ?_
 refine ax 20 (o_pure rfl Try.func24 (by kernel_rfl) rfl rfl rfl (one34_ok [tD, tE, tF])) ?_
 refine ax 3 (o_alloc tok 2 rfl rfl rfl rfl (Nat.zero_lt_succ _) rfl) ?_
 refine AOps.w rfl rfl (o_store tok rfl rfl rfl rfl rfl rfl rfl rfl rfl (by decide) rfl (by first | exact fun _ => rfl | (intro h; cases h))) ?_
 refine AOps.nil ?_
 refine AGo.seq ?_
 refine AGo.region ?_
 refine aq 21 (q_build tok rfl rfl rfl rfl rfl (by decide) rfl rfl rfl) ?_
 refine ax 22 (o_lit' tok rfl rfl rfl rfl rfl rfl (by decide) rfl rfl rfl rfl rfl rfl) ?_
 refine ax 23 (o_pure rfl Try.func24 (by kernel_rfl) rfl rfl rfl (one34_ok [tG])) ?_
 refine ax 4 (o_alloc tok 3 rfl rfl rfl rfl (Nat.zero_lt_succ _) rfl) ?_
 refine AOps.w rfl rfl (o_store tok rfl rfl rfl rfl rfl rfl rfl rfl rfl (by decide) rfl (by first | exact fun _ => rfl | (intro h; cases h))) ?_
 refine AOps.nil ?_
 refine AGo.seq ?_
 refine AGo.region ?_
 refine aq 24 (q_build tok rfl rfl rfl rfl rfl (by decide) rfl rfl rfl) ?_
 refine ax 25 (o_lit' tok rfl rfl rfl rfl rfl rfl (by decide) rfl rfl rfl rfl rfl rfl) ?_
 refine ax 26 (o_pure rfl Try.func24 (by kernel_rfl) rfl rfl rfl (one34_ok [tH])) ?_
 refine ax 5 (o_alloc tok 4 rfl rfl rfl rfl (Nat.zero_lt_succ _) rfl) ?_
 refine AOps.w rfl rfl (o_store tok rfl rfl rfl rfl rfl rfl rfl rfl rfl (by decide) rfl (by first | exact fun _ => rfl | (intro h; cases h))) ?_
 refine AOps.nil ?_
 refine AGo.seq ?_
 refine AGo.region ?_
 refine ax 27 (o_pure rfl Try.func24 (by kernel_rfl) rfl rfl rfl (one34n_ok)) ?_
 refine ax 6 (o_alloc tok 5 rfl rfl rfl rfl (Nat.zero_lt_succ _) rfl) ?_
 refine AOps.w rfl rfl (o_store tok rfl rfl rfl rfl rfl rfl rfl rfl rfl (by decide) rfl (by first | exact fun _ => rfl | (intro h; cases h))) ?_
 refine AOps.nil ?_
 refine AGo.seq ?_
 refine AGo.draw mix ?_
 refine dl 28 tok ?_
 refine dl 29 tok ?_
 refine dx 30 (o_pure rfl Try.func25 (by kernel_rfl) rfl rfl rfl (none34_ok)) ?_
 refine dx 31 (o_pure rfl Try.func14 (by kernel_rfl) rfl rfl rfl ((by have h := vcheck_ok (oneF [tA, tB]) (oneF [tC, tA, tB]) (by decide) (by decide) (one_ins [tA, tB] (by decide) (by decide)) (one_ins [tC, tA, tB] (by decide) (by decide)) noneC; rw [aw1] at h; exact h))) ?_
 refine dm 32 ?_
 refine dl 33 tok ?_
 refine dl 34 tok ?_
 refine dx 35 (o_pure rfl Try.func25 (by kernel_rfl) rfl rfl rfl (none34_ok)) ?_
 refine dx 36 (o_pure rfl Try.func14 (by kernel_rfl) rfl rfl rfl ((by have h := vcheck_ok (oneF [tA, tB]) (oneF [tD, tE, tF]) (by decide) (by decide) (one_ins [tA, tB] (by decide) (by decide)) (one_ins [tD, tE, tF] (by decide) (by decide)) noneC; rw [aw2] at h; exact h))) ?_
 refine dq 37 (q_pick_true true rfl rfl rfl rfl) ?_
 refine dm 38 ?_
 refine dl 39 tok ?_
 refine dl 40 tok ?_
 refine dx 41 (o_pure rfl Try.func25 (by kernel_rfl) rfl rfl rfl (none34_ok)) ?_
 refine dx 42 (o_pure rfl Try.func14 (by kernel_rfl) rfl rfl rfl ((by have h := vcheck_ok (oneF [tG]) (oneF []) (by decide) (by decide) (one_ins [tG] (by decide) (by decide)) (one_ins [] (by decide) (by decide)) noneC; rw [aw3] at h; exact h))) ?_
 refine dq 43 (q_not rfl rfl) ?_
 refine dq 44 (q_pick_true true rfl rfl rfl rfl) ?_
 refine dm 45 ?_
 refine dl 46 tok ?_
 refine dl 47 tok ?_
 refine dx 48 (o_pure rfl Try.func25 (by kernel_rfl) rfl rfl rfl (none34_ok)) ?_
 refine dx 49 (o_pure rfl Try.func14 (by kernel_rfl) rfl rfl rfl ((by have h := vcheck_ok (oneF []) (oneF [tG]) (by decide) (by decide) (one_ins [] (by decide) (by decide)) (one_ins [tG] (by decide) (by decide)) noneC; rw [aw4] at h; exact h))) ?_
 refine dq 50 (q_not rfl rfl) ?_
 refine dq 51 (q_pick_true true rfl rfl rfl rfl) ?_
 refine dm 52 ?_
 refine dl 53 tok ?_
 refine dl 54 tok ?_
 refine dx 55 (o_pure rfl Try.func25 (by kernel_rfl) rfl rfl rfl (none34_ok)) ?_
 refine dx 56 (o_pure rfl Try.func14 (by kernel_rfl) rfl rfl rfl ((by have h := vcheck_ok (oneF [tH]) (oneF []) (by decide) (by decide) (one_ins [tH] (by decide) (by decide)) (one_ins [] (by decide) (by decide)) noneC; rw [aw5] at h; exact h))) ?_
 refine dq 57 (q_not rfl rfl) ?_
 refine dq 58 (q_pick_true true rfl rfl rfl rfl) ?_
 refine dm 59 ?_
 refine dl 60 tok ?_
 refine dl 61 tok ?_
 refine dx 62 (o_pure rfl Try.func25 (by kernel_rfl) rfl rfl rfl (none34_ok)) ?_
 refine dx 63 (o_pure rfl Try.func14 (by kernel_rfl) rfl rfl rfl ((by have h := vcheck_ok (oneF [tA, tB]) (oneF []) (by decide) (by decide) (one_ins [tA, tB] (by decide) (by decide)) (one_ins [] (by decide) (by decide)) noneC; rw [aw6] at h; exact h))) ?_
 refine dq 64 (q_not rfl rfl) ?_
 refine dq 65 (q_pick_true true rfl rfl rfl rfl) ?_
 refine dm 66 ?_
 refine dl 67 tok ?_
 refine dl 68 tok ?_
 refine dl 69 tok ?_
 refine dx 70 (o_pure rfl Try.func17 (by kernel_rfl) rfl rfl rfl (vweak_ok (oneF [tG]) (by decide) (by decide))) ?_
 refine dx 71 (o_pure rfl Try.func14 (by kernel_rfl) rfl rfl rfl ((by have h := vcheck_ok (oneF [tG]) (oneF [tG]) (by decide) (by decide) (one_ins [tG] (by decide) (by decide)) (one_ins [tG] (by decide) (by decide)) (vweak (oneF [tG])); rw [aw7] at h; exact h))) ?_
 refine dq 72 (q_pick_true true rfl rfl rfl rfl) ?_
 refine dm 73 ?_
 refine dl 74 tok ?_
 refine dl 75 tok ?_
 refine dq 76 (q_build tok rfl rfl rfl rfl rfl (by decide) rfl rfl rfl) ?_
 refine dx 77 (o_pure rfl Try.func14 (by kernel_rfl) rfl rfl rfl ((by have h := vcheck_ok (oneF [tA, tB]) (oneF [tA, tB]) (by decide) (by decide) (one_ins [tA, tB] (by decide) (by decide)) (one_ins [tA, tB] (by decide) (by decide)) ⟨[]⟩; rw [aw8] at h; exact h.weak nil_cert))) ?_
 refine dq 78 (q_not rfl rfl) ?_
 refine dq 79 (q_pick_true true rfl rfl rfl rfl) ?_
 refine da 0 ?_
 refine DOps.nil (by kernel_rfl) ?_
 refine AGo.ret ?_
 refine ⟨[_], ⟨rfl, trivial⟩, ?_, rfl⟩
 rfl

end Go.Proofs.Ytpijoieooikfgaa.Sv

namespace Go.Proofs.Ytpijoieooikfgaa.Sv
open Go

end Go.Proofs.Ytpijoieooikfgaa.Sv

namespace Go.Proofs.Ytpijoieooikfgaa.Sv
open Go

set_option maxRecDepth 100000 in
theorem few34_ok (f : BFunc) (nb ni : Int) (hb : 0 ≤ ni ∧ ni ≤ 1000) (hn : f.blocks.length ≤ big) (hi : ∀ x ∈ f.blocks, x.ins.length ≤ big) : APure Try.prog 11 [.agg f.cells, .int .i64 nb, .int .i64 ni] (fun r => r = .bool (few34 f nb ni)) := by
 refine APure.of_body (n := 36) tok Try.func11 rfl rfl ?_
 refine AGo.seq ?_
 refine AGo.region ?_
 refine ax 3 (o_box (sz := 2) 0 rfl rfl rfl rfl (Nat.zero_lt_succ _) rfl) ?_
 refine aa 6 ?_
 refine AOps.nil ?_
 refine AGo.seq ?_
 refine AGo.seq ?_
 refine AGo.region ?_
 refine af 8 tok ?_
 refine al 9 tok ?_
 refine aq 10 (q_len tok rfl rfl rfl rfl rfl) ?_
 refine am 11 ?_
 refine aq 12 (q_bin rfl rfl rfl rfl) ?_
 refine am 13 ?_
 refine AOps.split 13 rfl (fun hb1 => ?_) (fun hb1 => ?_)
 ·
  refine ak 14 ?_
  refine ak 15 ?_
  refine ak 16 ?_
  refine aq 17 (q_pick_true true rfl rfl rfl rfl) ?_
  refine AOps.nil ?_
  refine AGo.cond_true true rfl rfl ?_
  refine AGo.seq ?_
  refine AGo.region ?_
  refine aa 6 ?_
  refine AOps.nil ?_
  refine AGo.ret ?_
  refine ⟨[_], ⟨rfl, trivial⟩, ?_, rfl⟩
  show AV.bool _ = AV.bool _
  congr 1
  simp_all [few34]; try omega
 ·
  refine af 14 tok ?_
  refine al 15 tok ?_
  refine aq 16 (q_bin rfl rfl rfl rfl) ?_
  refine aq 17 (q_pick_false false rfl rfl rfl rfl) ?_
  refine AOps.nil ?_
  refine AGo.split 17 rfl (fun hb2 => ?_) (fun hb2 => ?_)
  ·
   refine AGo.cond_true true rfl rfl ?_
   refine AGo.seq ?_
   refine AGo.region ?_
   refine aa 6 ?_
   refine AOps.nil ?_
   refine AGo.ret ?_
   refine ⟨[_], ⟨rfl, trivial⟩, ?_, rfl⟩
   show AV.bool _ = AV.bool _
   congr 1
   simp_all [few34]; try omega
  ·
   refine AGo.cond_false false rfl rfl ?_
   have hg1 : (f.blocks.length : Int) ≤ nb := by have h := hb1; simp only [List.length_map, decide_eq_false_iff_not] at h; omega
   have hg2 : f.regs ≤ 40 := by have h := hb2; simp only [decide_eq_false_iff_not] at h; omega
   refine AGo.skip ?_
   refine AGo.seq ?_
   refine AGo.seq ?_
   refine AGo.region ?_
   refine aa 7 ?_
   refine AOps.nil ?_
   refine AGo.block ?_
   refine AGo.loopD (γ := Nat) 1 (fun k => ⟨36, (eput (eput (eput (eput eNew 1 (.int .i64 nb)) 2 (.int .i64 (ni - (insSum' (f.blocks.take k) : Int)))) 3 (.ptr 0 1 0 0)) 7 (.int .i64 (k : Int))), (hput (hFrom 1) 0 (.row false 2 [f.cells]))⟩) (fun k => k ≤ f.blocks.length ∧ (k ≠ 0 → (insSum' (f.blocks.take k) : Int) ≤ ni)) (fun k => f.blocks.length - k) 0 (Sub.mk' (by repeat (first | exact ESub.new _ | refine ESub.put ?_ (by first | rfl | exact congrArg (fun n : Int => some (AV.int .i64 n)) (by simp [insSum'])))) (by repeat (first | exact HSub.refl _ | exact HSub.none _ | exact HSub.from_new _ | exact HSub.from_from (by first | decide | omega | (dsimp only; omega)) | refine HSub.put ?_ (by rfl) | refine HSub.from_put ?_ (by first | decide | omega | (dsimp only; omega)) | refine HSub.from_rm ?_ (by decide)))) ⟨Nat.zero_le _, fun h => absurd rfl h⟩ (fun _ => hput_free (fun b hb => hFrom_free hb) rfl) ?_
   intro k ⟨hk, hF⟩
   refine AGo.seq ?_
   refine AGo.seq ?_
   refine AGo.region ?_
   refine am 18 ?_
   refine af 19 tok ?_
   refine al 20 tok ?_
   refine aq 21 (q_len tok rfl rfl rfl rfl rfl) ?_
   refine aq 22 (q_bin rfl rfl rfl rfl) ?_
   refine AOps.nil ?_
   refine AGo.split 22 rfl (fun hb3 => ?_) (fun hb3 => ?_)
   ·
    refine AGo.cond_true true rfl rfl ?_
    have hkl : k < f.blocks.length := by simpa using hb3
    obtain ⟨x, hx⟩ := get_of_lt hkl
    have hxb := hi x (List.mem_of_getElem? hx)
    have hsx := insSum_succ' hx
    simp only [big] at hxb hn
    have hsum : (insSum' (f.blocks.take k) : Int) ≤ ni := by by_cases h0 : k = 0; { subst h0; simp [insSum']; omega }; exact hF h0
    refine AGo.skip ?_
    refine AGo.seq ?_
    refine AGo.block ?_
    refine AGo.seq ?_
    refine AGo.region ?_
    refine am 25 ?_
    refine af 26 tok ?_
    refine al 27 tok ?_
    refine am 28 ?_
    refine aq 29 (q_index_lst tok rfl rfl rfl rfl rfl rfl (Int.natCast_nonneg _) (idx_map hx) rfl) ?_
    refine af 30 tok ?_
    refine al 31 tok ?_
    refine aq 32 (q_len tok rfl rfl rfl rfl rfl) ?_
    refine aq 33 (q_bin (r := .int .i64 (ni - (insSum' (f.blocks.take (k + 1)) : Int))) rfl rfl rfl (subZ (by rw [List.length_map]; omega) (by rw [List.length_map]; omega) (by rw [List.length_map]; omega))) ?_
    refine aa 2 ?_
    refine AOps.nil ?_
    refine AGo.seq ?_
    refine AGo.region ?_
    refine am 34 ?_
    refine aq 35 (q_bin rfl rfl rfl rfl) ?_
    refine AOps.nil ?_
    refine AGo.split 35 rfl (fun hb4 => ?_) (fun hb4 => ?_)
    ·
     refine AGo.cond_true true rfl rfl ?_
     have hover : ¬ (insSum' f.blocks : Int) ≤ ni := by have h := hb4; simp only [decide_eq_true_eq] at h; have h2 := insSum_all f.blocks (k + 1); omega
     refine AGo.seq ?_
     refine AGo.region ?_
     refine aa 6 ?_
     refine AOps.nil ?_
     refine AGo.ret ?_
     refine ⟨[_], ⟨rfl, trivial⟩, ?_, rfl⟩
     show AV.bool _ = AV.bool _
     congr 1
     simp [few34, hover]
    ·
     refine AGo.cond_false false rfl rfl ?_
     have hin : (insSum' (f.blocks.take (k + 1)) : Int) ≤ ni := by have h := hb4; simp only [decide_eq_false_iff_not] at h; omega
     refine AGo.skip ?_
     refine AGo.region ?_
     refine am 23 ?_
     refine aq 24 (q_inc rfl rfl hkl (show f.blocks.length ≤ maxLen by simp only [maxLen]; (try simp only [big] at hn); omega)) ?_
     refine aa 7 ?_
     refine AOps.nil ?_
     exact ⟨k+1, Drop.mk' (by repeat (first | exact EDrop.new _ _ | refine EDrop.put ?_ (by first | rfl | exact congrArg (fun n : Int => some (AV.int .i64 n)) (by omega)) (by first | rfl | exact slA_avoid _ rfl | exact vaA_avoid _ rfl))) (by repeat (first | exact HDrop.none _ _ | exact HDrop.tail _ _ | refine HDrop.put ?_ (by rfl) rfl (by first | rfl | exact slO_avoid _ _ | exact vaO_avoid _ | exact tab_avoid _ _ rfl rfl | exact wlk_avoid _ _ _ rfl rfl rfl))), ⟨hkl, fun _ => by omega⟩, by omega⟩
   ·
    refine AGo.cond_false false rfl rfl ?_
    have hge : f.blocks.length ≤ k := by simpa using hb3
    have hsum : (insSum' f.blocks : Int) ≤ ni := by by_cases h0 : k = 0; { subst h0; have : f.blocks = [] := List.eq_nil_of_length_eq_zero (by omega); rw [this]; simp [insSum']; omega }; { have h := hF h0; rwa [List.take_of_length_le hge] at h }
    refine AGo.exit ?_
    refine AGo.seq ?_
    refine AGo.region ?_
    refine aa 6 ?_
    refine AOps.nil ?_
    refine AGo.ret ?_
    refine ⟨[_], ⟨rfl, trivial⟩, ?_, rfl⟩
    show AV.bool _ = AV.bool _
    congr 1
    simp [few34, hg1, hg2, hsum]

set_option maxRecDepth 100000 in
theorem great_ok (c : Cert) (hn : c.same.length ≤ big) : APure Try.prog 12 [.agg c.cells] (fun r => r = .bool (great34 c)) := by
 refine APure.of_body (n := 26) tok Try.func12 rfl rfl ?_
 refine AGo.seq ?_
 refine AGo.region ?_
 refine ax 1 (o_box (sz := 1) 0 rfl rfl rfl rfl (Nat.zero_lt_succ _) rfl) ?_
 refine aa 2 ?_
 refine AOps.nil ?_
 refine AGo.seq ?_
 refine AGo.seq ?_
 refine AGo.region ?_
 refine aa 3 ?_
 refine AOps.nil ?_
 refine AGo.block ?_
 refine AGo.loopD (γ := Nat) 1 (fun k => ⟨26, (eput (eput eNew 1 (.ptr 0 1 0 0)) 3 (.int .i64 (k : Int))), (hput (hFrom 1) 0 (.row false 1 [c.cells]))⟩) (fun k => k ≤ c.same.length ∧ k ≤ 21 ∧ (c.same.take k).any (fun r => decide (60 < r.length)) = false) (fun k => c.same.length - k) 0 (Sub.mk' (by repeat (first | exact ESub.new _ | refine ESub.put ?_ (by first | rfl | exact congrArg (fun (n : Nat) => some (AV.int .i64 (n : Int))) (by simp)))) (by repeat (first | exact HSub.refl _ | exact HSub.none _ | exact HSub.from_new _ | exact HSub.from_from (by first | decide | omega | (dsimp only; omega)) | refine HSub.put ?_ (by rfl) | refine HSub.from_put ?_ (by first | decide | omega | (dsimp only; omega)) | refine HSub.from_rm ?_ (by decide)))) ⟨Nat.zero_le _, Nat.zero_le _, rfl⟩ (fun _ => hput_free (fun b hb => hFrom_free hb) rfl) ?_
 intro k ⟨hk, hk21, hF⟩
 refine AGo.seq ?_
 refine AGo.seq ?_
 refine AGo.region ?_
 refine am 4 ?_
 refine af 5 tok ?_
 refine al 6 tok ?_
 refine aq 7 (q_len tok rfl rfl rfl rfl rfl) ?_
 refine aq 8 (q_bin rfl rfl rfl rfl) ?_
 refine am 9 ?_
 refine AOps.split 9 rfl (fun hb1 => ?_) (fun hb1 => ?_)
 ·
  have hkl : k < c.same.length := by have h := hb1; simp only [List.length_map, decide_eq_true_eq] at h; omega
  refine am 10 ?_
  refine aq 11 (q_bin rfl rfl rfl rfl) ?_
  refine aq 12 (q_pick_true true rfl rfl rfl rfl) ?_
  refine AOps.nil ?_
  refine AGo.split 12 rfl (fun hb2 => ?_) (fun hb2 => ?_)
  ·
   refine AGo.cond_true true rfl rfl ?_
   have hk20 : (k : Int) ≤ 20 := by have h := hb2; simpa using h
   obtain ⟨r, hr⟩ := get_of_lt hkl
   refine AGo.skip ?_
   refine AGo.seq ?_
   refine AGo.block ?_
   refine AGo.seq ?_
   refine AGo.region ?_
   refine af 15 tok ?_
   refine al 16 tok ?_
   refine am 17 ?_
   refine aq 18 (q_index_lst tok rfl rfl rfl rfl rfl rfl (Int.natCast_nonneg _) (idx_map hr) rfl) ?_
   refine al 19 tok ?_
   refine aq 20 (q_len tok rfl rfl rfl rfl rfl) ?_
   refine aq 21 (q_bin rfl rfl rfl rfl) ?_
   refine AOps.nil ?_
   refine AGo.split 21 rfl (fun hb3 => ?_) (fun hb3 => ?_)
   ·
    refine AGo.cond_true true rfl rfl ?_
    have hbad : (60 : Int) < r.length := by have h := hb3; simp only [List.length_map, decide_eq_true_eq] at h; omega
    refine AGo.seq ?_
    refine AGo.region ?_
    refine aa 2 ?_
    refine AOps.nil ?_
    refine AGo.ret ?_
    refine ⟨[_], ⟨rfl, trivial⟩, ?_, rfl⟩
    show AV.bool _ = AV.bool _
    congr 1
    exact (great_yes hr (by omega) (by omega)).symm
   ·
    refine AGo.cond_false false rfl rfl ?_
    have hgood : ¬ (60 : Int) < r.length := by have h := hb3; simp only [List.length_map, decide_eq_false_iff_not] at h; omega
    refine AGo.skip ?_
    refine AGo.region ?_
    refine am 13 ?_
    refine aq 14 (q_inc rfl rfl hkl (show c.same.length ≤ maxLen by simp only [maxLen]; (try simp only [big] at hn); omega)) ?_
    refine aa 3 ?_
    refine AOps.nil ?_
    exact ⟨k+1, Drop.mk' (by repeat (first | exact EDrop.new _ _ | refine EDrop.put ?_ (by rfl) (by first | rfl | exact slA_avoid _ rfl | exact vaA_avoid _ rfl))) (by repeat (first | exact HDrop.none _ _ | exact HDrop.tail _ _ | refine HDrop.put ?_ (by rfl) rfl (by first | rfl | exact slO_avoid _ _ | exact vaO_avoid _ | exact tab_avoid _ _ rfl rfl | exact wlk_avoid _ _ _ rfl rfl rfl))), ⟨hkl, by omega, by rw [take_succ_eq hr, List.any_append, hF]; simp; omega⟩, by omega⟩
  ·
   refine AGo.cond_false false rfl rfl ?_
   have hend := hb2
   refine AGo.exit ?_
   refine AGo.seq ?_
   refine AGo.region ?_
   refine af 22 tok ?_
   refine al 23 tok ?_
   refine aq 24 (q_len tok rfl rfl rfl rfl rfl) ?_
   refine aq 25 (q_bin rfl rfl rfl rfl) ?_
   refine aa 2 ?_
   refine AOps.nil ?_
   refine AGo.ret ?_
   refine ⟨[_], ⟨rfl, trivial⟩, ?_, rfl⟩
   show AV.bool _ = AV.bool _
   congr 1
   exact (great_end hF hk hk21 (by first | (simp only [List.length_map, decide_eq_false_iff_not] at hend; omega) | (simp only [decide_eq_false_iff_not] at hend; omega))).symm
 ·
  refine ak 10 ?_
  refine ak 11 ?_
  refine aq 12 (q_pick_false false rfl rfl rfl rfl) ?_
  refine AOps.nil ?_
  refine AGo.cond_false false rfl rfl ?_
  have hend := hb1
  refine AGo.exit ?_
  refine AGo.seq ?_
  refine AGo.region ?_
  refine af 22 tok ?_
  refine al 23 tok ?_
  refine aq 24 (q_len tok rfl rfl rfl rfl rfl) ?_
  refine aq 25 (q_bin rfl rfl rfl rfl) ?_
  refine aa 2 ?_
  refine AOps.nil ?_
  refine AGo.ret ?_
  refine ⟨[_], ⟨rfl, trivial⟩, ?_, rfl⟩
  show AV.bool _ = AV.bool _
  congr 1
  exact (great_end hF hk hk21 (by first | (simp only [List.length_map, decide_eq_false_iff_not] at hend; omega) | (simp only [decide_eq_false_iff_not] at hend; omega))).symm

end Go.Proofs.Ytpijoieooikfgaa.Sv

namespace Go.Proofs.Ytpijoieooikfgaa.Sv
open Go

end Go.Proofs.Ytpijoieooikfgaa.Sv

namespace Go.Proofs.Ytpijoieooikfgaa.Sv
open Go

end Go.Proofs.Ytpijoieooikfgaa.Sv

namespace Go.Proofs.Ytpijoieooikfgaa.Sv
open Go

end Go.Proofs.Ytpijoieooikfgaa.Sv

namespace Go.Proofs.Ytpijoieooikfgaa.Sv
open Go

end Go.Proofs.Ytpijoieooikfgaa.Sv

namespace Go.Proofs.Ytpijoieooikfgaa.Sv
open Go

end Go.Proofs.Ytpijoieooikfgaa.Sv

namespace Go.Proofs.Ytpijoieooikfgaa.Sv
open Go

end Go.Proofs.Ytpijoieooikfgaa.Sv

namespace Go.Proofs.Ytpijoieooikfgaa.Sv
open Go

end Go.Proofs.Ytpijoieooikfgaa.Sv

namespace Go.Proofs.Ytpijoieooikfgaa.Sv
open Go

end Go.Proofs.Ytpijoieooikfgaa.Sv

namespace Go.Proofs.Ytpijoieooikfgaa.Sv
open Go

set_option maxRecDepth 100000 in
theorem rsized_ok (f : BFunc) (c : Cert) (hcl : c.same.length ≤ 100000) : APure Try.prog 18 [.agg f.cells, .agg c.cells] (fun r => r = .bool (rsized f c)) := by
 refine APure.of_body (n := 29) tok Try.func18 rfl rfl ?_
 refine AGo.seq ?_
 refine AGo.region ?_
 refine ax 2 (o_box (sz := 2) 0 rfl rfl rfl rfl (Nat.zero_lt_succ _) rfl) ?_
 refine ax 3 (o_box (sz := 1) 1 rfl rfl rfl rfl (Nat.zero_lt_succ _) rfl) ?_
 refine aa 4 ?_
 refine AOps.nil ?_
 refine AGo.seq ?_
 refine AGo.seq ?_
 refine AGo.region ?_
 refine af 6 tok ?_
 refine al 7 tok ?_
 refine aq 8 (q_len tok rfl rfl rfl rfl rfl) ?_
 refine af 9 tok ?_
 refine al 10 tok ?_
 refine aq 11 (q_len tok rfl rfl rfl rfl rfl) ?_
 refine aq 12 (q_bin rfl rfl rfl rfl) ?_
 refine AOps.nil ?_
 refine AGo.split 12 rfl (fun hb1 => ?_) (fun hb1 => ?_)
 ·
  refine AGo.cond_true true rfl rfl ?_
  have hne := hb1
  refine AGo.seq ?_
  refine AGo.region ?_
  refine aa 4 ?_
  refine AOps.nil ?_
  refine AGo.ret ?_
  refine ⟨[_], ⟨rfl, trivial⟩, ?_, rfl⟩
  show AV.bool _ = AV.bool _
  congr 1
  exact (rsized_no1 hne).symm
 ·
  refine AGo.cond_false false rfl rfl ?_
  have hcl2 := cert_len (old := f) (c := c) hb1
  refine AGo.skip ?_
  refine AGo.seq ?_
  refine AGo.seq ?_
  refine AGo.region ?_
  refine aa 5 ?_
  refine AOps.nil ?_
  refine AGo.block ?_
  refine AGo.loopD (γ := Nat) 2 (fun j => ⟨29, (eput (eput (eput eNew 2 (.ptr 0 1 0 0)) 3 (.ptr 1 1 0 0)) 5 (.int .i64 (j : Int))), (hput (hput (hFrom 2) 0 (.row false 2 [f.cells])) 1 (.row false 1 [c.cells]))⟩) (fun j => j ≤ c.same.length ∧ (c.same.take j).all (fun r => decide ((r.length : Int) = f.regs)) = true) (fun j => c.same.length - j) 0 (Sub.mk' (by repeat (first | exact ESub.new _ | refine ESub.put ?_ (by first | rfl | exact congrArg (fun (n : Nat) => some (AV.int .i64 (n : Int))) (by simp)))) (by repeat (first | exact HSub.refl _ | exact HSub.none _ | exact HSub.from_new _ | exact HSub.from_from (by first | decide | omega | (dsimp only; omega)) | refine HSub.put ?_ (by rfl) | refine HSub.from_put ?_ (by first | decide | omega | (dsimp only; omega)) | refine HSub.from_rm ?_ (by decide)))) ⟨Nat.zero_le _, rfl⟩ (fun _ => hput_free (hput_free (fun b hb => hFrom_free hb) rfl) rfl) ?_
  intro j ⟨hj, hall⟩
  refine AGo.seq ?_
  refine AGo.seq ?_
  refine AGo.region ?_
  refine am 13 ?_
  refine af 14 tok ?_
  refine al 15 tok ?_
  refine aq 16 (q_len tok rfl rfl rfl rfl rfl) ?_
  refine aq 17 (q_bin rfl rfl rfl rfl) ?_
  refine AOps.nil ?_
  refine AGo.split 17 rfl (fun hb2 => ?_) (fun hb2 => ?_)
  ·
   refine AGo.cond_true true rfl rfl ?_
   have hjl : j < c.same.length := by have h := hb2; simp only [List.length_map, decide_eq_true_eq] at h; omega
   obtain ⟨r, hr⟩ := get_of_lt hjl
   refine AGo.skip ?_
   refine AGo.seq ?_
   refine AGo.block ?_
   refine AGo.seq ?_
   refine AGo.draw mix ?_
   refine df 20 tok ?_
   refine dl 21 tok ?_
   refine dm 22 ?_
   refine dq 23 (q_index_lst tok rfl rfl rfl rfl rfl rfl (Int.natCast_nonneg _) (idx_map hr) rfl) ?_
   refine dl 24 tok ?_
   refine dq 25 (q_len tok rfl rfl rfl rfl rfl) ?_
   refine df 26 tok ?_
   refine dl 27 tok ?_
   refine dq 28 (q_bin rfl rfl rfl rfl) ?_
   refine DOps.nil (by kernel_rfl) ?_
   refine AGo.split 28 rfl (fun hb3 => ?_) (fun hb3 => ?_)
   ·
    refine AGo.cond_true true rfl rfl ?_
    have hbad : ¬ (r.length : Int) = f.regs := by have h := bne_ne' hb3; rw [List.length_map] at h; exact h
    refine AGo.seq ?_
    refine AGo.region ?_
    refine aa 4 ?_
    refine AOps.nil ?_
    refine AGo.ret ?_
    refine ⟨[_], ⟨rfl, trivial⟩, ?_, rfl⟩
    show AV.bool _ = AV.bool _
    congr 1
    exact (rsized_no2 hr hbad).symm
   ·
    refine AGo.cond_false false rfl rfl ?_
    have heq : (r.length : Int) = f.regs := by have h := bne_eq' hb3; rw [List.length_map] at h; exact h
    refine AGo.skip ?_
    refine AGo.region ?_
    refine am 18 ?_
    refine aq 19 (q_inc rfl rfl hjl (show c.same.length ≤ maxLen by simp only [maxLen]; omega)) ?_
    refine aa 5 ?_
    refine AOps.nil ?_
    exact ⟨j+1, Drop.mk' (by repeat (first | exact EDrop.new _ _ | refine EDrop.put ?_ (by rfl) (by first | rfl | exact slA_avoid _ rfl | exact vaA_avoid _ rfl))) (by repeat (first | exact HDrop.none _ _ | exact HDrop.tail _ _ | refine HDrop.put ?_ (by rfl) rfl (by first | rfl | exact slO_avoid _ _ | exact vaO_avoid _ | exact tab_avoid _ _ rfl rfl | exact wlk_avoid _ _ _ rfl rfl rfl))), ⟨hjl, all_succ hr hall (decide_eq_true heq)⟩, by omega⟩
  ·
   refine AGo.cond_false false rfl rfl ?_
   have hjge : c.same.length ≤ j := by have h := hb2; simp only [List.length_map, decide_eq_false_iff_not] at h; omega
   refine AGo.exit ?_
   refine AGo.seq ?_
   refine AGo.region ?_
   refine aa 4 ?_
   refine AOps.nil ?_
   refine AGo.ret ?_
   refine ⟨[_], ⟨rfl, trivial⟩, ?_, rfl⟩
   show AV.bool _ = AV.bool _
   congr 1
   exact (rsized_yes hcl2 (all_end hall hjge)).symm

end Go.Proofs.Ytpijoieooikfgaa.Sv

namespace Go.Proofs.Ytpijoieooikfgaa.Sv
open Go

set_option maxHeartbeats 2000000 in
set_option maxRecDepth 100000 in
theorem validChains_ok (l0 l1 l2 : BFunc) (c d : Cert) (hl0 : l0.Ok) (hl1 : l1.Ok) (hl2 : l2.Ok) (hc : c.Ok) (hd : d.Ok) : APure Try.prog 9 [.agg (l0.cells ++ (l1.cells ++ l2.cells)), .agg c.cells, .agg d.cells] (fun r => r = .bool true) := by
 refine APure.of_body (n := 115) tok Try.func9 rfl rfl ?_
 refine AGo.seq ?_
 refine AGo.region ?_
 refine ax 3 (o_box (sz := 6) 0 rfl rfl rfl rfl (Nat.zero_lt_succ _) rfl) ?_
 refine ax 4 (o_box (sz := 1) 1 rfl rfl rfl rfl (Nat.zero_lt_succ _) rfl) ?_
 refine ax 5 (o_box (sz := 1) 2 rfl rfl rfl rfl (Nat.zero_lt_succ _) rfl) ?_
 refine aa 6 ?_
 refine AOps.nil ?_
 refine AGo.seq ?_
 refine AGo.seq ?_
 refine AGo.region ?_
 refine aa 7 ?_
 refine AOps.nil ?_
 refine AGo.block ?_
 refine AGo.unroll 3 ?_
 refine AGo.un_succ (n := 2) ?_
 refine AGo.seq ?_
 refine AGo.seq ?_
 refine AGo.region ?_
 refine am 12 ?_
 refine aq 13 (q_bin rfl rfl rfl rfl) ?_
 refine AOps.nil ?_
 refine AGo.cond_true true rfl rfl ?_
 refine AGo.skip ?_
 refine AGo.seq ?_
 refine AGo.block ?_
 refine AGo.seq ?_
 refine AGo.region ?_
 refine am 16 ?_
 refine aq 17 (q_index_arr tok rfl rfl rfl rfl rfl rfl (by decide) (by decide) rfl) ?_
 refine al 18 tok ?_
 refine ax 19 (o_pure rfl Try.func11 (by kernel_rfl) rfl rfl rfl (few34_ok l0 12 60 (by decide) hl0.lenB hl0.insB)) ?_
 refine aq 20 (q_not rfl rfl) ?_
 refine AOps.nil ?_
 refine AGo.split 20 rfl (fun hb1 => ?_) (fun hb1 => ?_)
 ·
  refine AGo.cond_true true rfl rfl ?_
  refine AGo.seq ?_
  refine AGo.region ?_
  refine ax 21 (o_pure rfl Try.func13 (by kernel_rfl) rfl rfl rfl (awake34_ok)) ?_
  refine aa 6 ?_
  refine AOps.nil ?_
  refine AGo.ret ?_
  refine ⟨[_], ⟨rfl, trivial⟩, ?_, rfl⟩
  rfl
 ·
  refine AGo.cond_false false rfl rfl ?_
  have hq0 : few34 l0 12 60 = true := ndec_same (by assumption)
  refine AGo.skip ?_
  refine AGo.region ?_
  refine am 14 ?_
  refine aq 15 (q_bin rfl rfl rfl rfl) ?_
  refine aa 7 ?_
  refine AOps.nil ?_
  refine AGo.un_succ (n := 1) ?_
  refine AGo.seq ?_
  refine AGo.seq ?_
  refine AGo.region ?_
  refine am 12 ?_
  refine aq 13 (q_bin rfl rfl rfl rfl) ?_
  refine AOps.nil ?_
  refine AGo.cond_true true rfl rfl ?_
  refine AGo.skip ?_
  refine AGo.seq ?_
  refine AGo.block ?_
  refine AGo.seq ?_
  refine AGo.region ?_
  refine am 16 ?_
  refine aq 17 (q_index_arr tok rfl rfl rfl rfl rfl rfl (by decide) (by decide) rfl) ?_
  refine al 18 tok ?_
  refine ax 19 (o_pure rfl Try.func11 (by kernel_rfl) rfl rfl rfl (few34_ok l1 12 60 (by decide) hl1.lenB hl1.insB)) ?_
  refine aq 20 (q_not rfl rfl) ?_
  refine AOps.nil ?_
  refine AGo.split 20 rfl (fun hb2 => ?_) (fun hb2 => ?_)
  ·
   refine AGo.cond_true true rfl rfl ?_
   refine AGo.seq ?_
   refine AGo.region ?_
   refine ax 21 (o_pure rfl Try.func13 (by kernel_rfl) rfl rfl rfl (awake34_ok)) ?_
   refine aa 6 ?_
   refine AOps.nil ?_
   refine AGo.ret ?_
   refine ⟨[_], ⟨rfl, trivial⟩, ?_, rfl⟩
   rfl
  ·
   refine AGo.cond_false false rfl rfl ?_
   have hq1 : few34 l1 12 60 = true := ndec_same (by assumption)
   refine AGo.skip ?_
   refine AGo.region ?_
   refine am 14 ?_
   refine aq 15 (q_bin rfl rfl rfl rfl) ?_
   refine aa 7 ?_
   refine AOps.nil ?_
   refine AGo.un_succ (n := 0) ?_
   refine AGo.seq ?_
   refine AGo.seq ?_
   refine AGo.region ?_
   refine am 12 ?_
   refine aq 13 (q_bin rfl rfl rfl rfl) ?_
   refine AOps.nil ?_
   refine AGo.cond_true true rfl rfl ?_
   refine AGo.skip ?_
   refine AGo.seq ?_
   refine AGo.block ?_
   refine AGo.seq ?_
   refine AGo.region ?_
   refine am 16 ?_
   refine aq 17 (q_index_arr tok rfl rfl rfl rfl rfl rfl (by decide) (by decide) rfl) ?_
   refine al 18 tok ?_
   refine ax 19 (o_pure rfl Try.func11 (by kernel_rfl) rfl rfl rfl (few34_ok l2 12 60 (by decide) hl2.lenB hl2.insB)) ?_
   refine aq 20 (q_not rfl rfl) ?_
   refine AOps.nil ?_
   refine AGo.split 20 rfl (fun hb3 => ?_) (fun hb3 => ?_)
   ·
    refine AGo.cond_true true rfl rfl ?_
    refine AGo.seq ?_
    refine AGo.region ?_
    refine ax 21 (o_pure rfl Try.func13 (by kernel_rfl) rfl rfl rfl (awake34_ok)) ?_
    refine aa 6 ?_
    refine AOps.nil ?_
    refine AGo.ret ?_
    refine ⟨[_], ⟨rfl, trivial⟩, ?_, rfl⟩
    rfl
   ·
    refine AGo.cond_false false rfl rfl ?_
    have hq2 : few34 l2 12 60 = true := ndec_same (by assumption)
    refine AGo.skip ?_
    refine AGo.region ?_
    refine am 14 ?_
    refine aq 15 (q_bin rfl rfl rfl rfl) ?_
    refine aa 7 ?_
    refine AOps.nil ?_
    refine AGo.un_zero ?_
    refine AGo.seq ?_
    refine AGo.seq ?_
    refine AGo.region ?_
    refine am 12 ?_
    refine aq 13 (q_bin rfl rfl rfl rfl) ?_
    refine AOps.nil ?_
    refine AGo.cond_false false rfl rfl ?_
    refine AGo.exit ?_
    refine AGo.seq ?_
    refine AGo.seq ?_
    refine AGo.region ?_
    refine al 22 tok ?_
    refine ax 23 (o_pure rfl Try.func12 (by kernel_rfl) rfl rfl rfl (great_ok c hc.lenB)) ?_
    refine am 24 ?_
    refine AOps.split 24 rfl (fun hb4 => ?_) (fun hb4 => ?_)
    ·
     refine ak 25 ?_
     refine ak 26 ?_
     refine aq 27 (q_pick_true true rfl rfl rfl rfl) ?_
     refine am 28 ?_
     refine ak 29 ?_
     refine ak 30 ?_
     refine ak 31 ?_
     refine ak 32 ?_
     refine ak 33 ?_
     refine ak 34 ?_
     refine ak 35 ?_
     refine aq 36 (q_pick_true true rfl rfl rfl rfl) ?_
     refine am 37 ?_
     refine ak 38 ?_
     refine ak 39 ?_
     refine ak 40 ?_
     refine ak 41 ?_
     refine ak 42 ?_
     refine ak 43 ?_
     refine ak 44 ?_
     refine aq 45 (q_pick_true true rfl rfl rfl rfl) ?_
     refine AOps.nil ?_
     refine AGo.cond_true true rfl rfl ?_
     refine AGo.seq ?_
     refine AGo.region ?_
     refine ax 46 (o_pure rfl Try.func13 (by kernel_rfl) rfl rfl rfl (awake34_ok)) ?_
     refine aa 6 ?_
     refine AOps.nil ?_
     refine AGo.ret ?_
     refine ⟨[_], ⟨rfl, trivial⟩, ?_, rfl⟩
     rfl
    ·
     refine al 25 tok ?_
     refine ax 26 (o_pure rfl Try.func12 (by kernel_rfl) rfl rfl rfl (great_ok d hd.lenB)) ?_
     refine aq 27 (q_pick_false false rfl rfl rfl rfl) ?_
     refine am 28 ?_
     refine AOps.split 28 rfl (fun hb5 => ?_) (fun hb5 => ?_)
     ·
      refine ak 29 ?_
      refine ak 30 ?_
      refine ak 31 ?_
      refine ak 32 ?_
      refine ak 33 ?_
      refine ak 34 ?_
      refine ak 35 ?_
      refine aq 36 (q_pick_true true rfl rfl rfl rfl) ?_
      refine am 37 ?_
      refine ak 38 ?_
      refine ak 39 ?_
      refine ak 40 ?_
      refine ak 41 ?_
      refine ak 42 ?_
      refine ak 43 ?_
      refine ak 44 ?_
      refine aq 45 (q_pick_true true rfl rfl rfl rfl) ?_
      refine AOps.nil ?_
      refine AGo.cond_true true rfl rfl ?_
      refine AGo.seq ?_
      refine AGo.region ?_
      refine ax 46 (o_pure rfl Try.func13 (by kernel_rfl) rfl rfl rfl (awake34_ok)) ?_
      refine aa 6 ?_
      refine AOps.nil ?_
      refine AGo.ret ?_
      refine ⟨[_], ⟨rfl, trivial⟩, ?_, rfl⟩
      rfl
     ·
      have hs0 := few_short hl0 (nb := 12) (ni := 60) (by decide) (by decide) hq0
      have hs1 := few_short hl1 (nb := 12) (ni := 60) (by decide) (by decide) hq1
      have hs2 := few_short hl2 (nb := 12) (ni := 60) (by decide) (by decide) hq2
      refine aq 29 (q_index_arr tok rfl rfl rfl rfl rfl rfl (by decide) (by decide) rfl) ?_
      refine al 30 tok ?_
      refine aq 31 (q_index_arr tok rfl rfl rfl rfl rfl rfl (by decide) (by decide) rfl) ?_
      refine al 32 tok ?_
      refine al 33 tok ?_
      refine ax 34 (o_pure rfl Try.func14 (by kernel_rfl) rfl rfl rfl (vcheck_ok l0 l1 hs0.1 hs1.1 hs0.2 hs1.2 c)) ?_
      refine aq 35 (q_not rfl rfl) ?_
      refine aq 36 (q_pick_false false rfl rfl rfl rfl) ?_
      refine am 37 ?_
      refine AOps.split 37 rfl (fun hb6 => ?_) (fun hb6 => ?_)
      ·
       refine ak 38 ?_
       refine ak 39 ?_
       refine ak 40 ?_
       refine ak 41 ?_
       refine ak 42 ?_
       refine ak 43 ?_
       refine ak 44 ?_
       refine aq 45 (q_pick_true true rfl rfl rfl rfl) ?_
       refine AOps.nil ?_
       refine AGo.cond_true true rfl rfl ?_
       refine AGo.seq ?_
       refine AGo.region ?_
       refine ax 46 (o_pure rfl Try.func13 (by kernel_rfl) rfl rfl rfl (awake34_ok)) ?_
       refine aa 6 ?_
       refine AOps.nil ?_
       refine AGo.ret ?_
       refine ⟨[_], ⟨rfl, trivial⟩, ?_, rfl⟩
       rfl
      ·
       refine aq 38 (q_index_arr tok rfl rfl rfl rfl rfl rfl (by decide) (by decide) rfl) ?_
       refine al 39 tok ?_
       refine aq 40 (q_index_arr tok rfl rfl rfl rfl rfl rfl (by decide) (by decide) rfl) ?_
       refine al 41 tok ?_
       refine al 42 tok ?_
       refine ax 43 (o_pure rfl Try.func14 (by kernel_rfl) rfl rfl rfl (vcheck_ok l1 l2 hs1.1 hs2.1 hs1.2 hs2.2 d)) ?_
       refine aq 44 (q_not rfl rfl) ?_
       refine aq 45 (q_pick_false false rfl rfl rfl rfl) ?_
       refine AOps.nil ?_
       refine AGo.split 45 rfl (fun hb7 => ?_) (fun hb7 => ?_)
       ·
        refine AGo.cond_true true rfl rfl ?_
        refine AGo.seq ?_
        refine AGo.region ?_
        refine ax 46 (o_pure rfl Try.func13 (by kernel_rfl) rfl rfl rfl (awake34_ok)) ?_
        refine aa 6 ?_
        refine AOps.nil ?_
        refine AGo.ret ?_
        refine ⟨[_], ⟨rfl, trivial⟩, ?_, rfl⟩
        rfl
       ·
        refine AGo.cond_false false rfl rfl ?_
        have hch := check_chain (words_of hs0.2) (words_of hs1.2) (words_of hs2.2) (ndec_same (b := vcheck l0 l1 c) (by assumption)) (ndec_same (b := vcheck l1 l2 d) (by assumption))
        have hzc := rsized_of hch.2.1
        have hzd := rsized_of hch.2.2
        have hgc := great34_of (c := c) (by assumption)
        have hcl := hgc.1
        have hcd : d.same.length = c.same.length := hzd.1.trans hzc.1.symm
        have hal := and_rows hcd
        refine AGo.skip ?_
        refine AGo.seq ?_
        refine AGo.seq ?_
        refine AGo.region ?_
        refine aq 47 (q_index_arr tok rfl rfl rfl rfl rfl rfl (by decide) (by decide) rfl) ?_
        refine al 48 tok ?_
        refine al 49 tok ?_
        refine ax 50 (o_pure rfl Try.func18 (by kernel_rfl) rfl rfl rfl ((by have h := rsized_ok l0 c (by have h2 := hc.lenB; simp only [big] at h2; have h3 := (great34_of (c := c) (by assumption)).1; omega); rw [hch.2.1] at h; exact h))) ?_
        refine aq 51 (q_not rfl rfl) ?_
        refine am 52 ?_
        refine aq 53 (q_index_arr tok rfl rfl rfl rfl rfl rfl (by decide) (by decide) rfl) ?_
        refine al 54 tok ?_
        refine al 55 tok ?_
        refine ax 56 (o_pure rfl Try.func18 (by kernel_rfl) rfl rfl rfl ((by have h := rsized_ok l0 d (by have h2 := hd.lenB; simp only [big] at h2; have h3 := (great34_of (c := d) (by assumption)).1; omega); rw [hch.2.2] at h; exact h))) ?_
        refine aq 57 (q_not rfl rfl) ?_
        refine aq 58 (q_pick_false false rfl rfl rfl rfl) ?_
        refine AOps.nil ?_
        refine AGo.cond_false false rfl rfl ?_
        refine AGo.skip ?_
        refine AGo.seq ?_
        refine AGo.region ?_
        refine ax 8 (o_alloc tok 3 rfl rfl rfl rfl (Nat.zero_lt_succ _) rfl) ?_
        refine AOps.nil ?_
        refine AGo.seq ?_
        refine AGo.seq ?_
        refine AGo.ghost (.weakRowF 3 (es' := [[.lst true []]]) rfl rfl weakNil1) ?_
        refine AGo.region ?_
        refine aa 9 ?_
        refine AOps.nil ?_
        refine AGo.block ?_
        refine AGo.loopD (γ := Nat) 5 (fun k => ⟨115, (eput (eput (eput (eput (eput eNew 3 (.ptr 0 1 0 0)) 4 (.ptr 1 1 0 0)) 5 (.ptr 2 1 0 0)) 8 (.ptr 3 1 0 0)) 9 (.int .i64 (k : Int))), (hput (hput (hput (hput (hput (hFrom 5) 0 (.row false 6 [l0.cells ++ (l1.cells ++ l2.cells)])) 1 (.row false 1 [c.cells])) 2 (.row false 1 [d.cells])) 3 (.row false 1 [[slA 4 (((andC c d).same.take (k)).map rowCell)]])) 4 (slO 1 (((andC c d).same.take (k)).map rowCell)))⟩) (fun k => k ≤ c.same.length) (fun k => c.same.length - k) 0 (Sub.mk' (by repeat (first | exact ESub.new _ | refine ESub.put ?_ (by first | rfl | exact congrArg (fun (n : Nat) => some (AV.int .i64 (n : Int))) (by simp)))) (by repeat (first | exact HSub.refl _ | exact HSub.none _ | exact HSub.from_new _ | exact HSub.from_from (by first | decide | omega | (dsimp only; omega)) | refine HSub.put ?_ (by rfl) | refine HSub.from_put ?_ (by first | decide | omega | (dsimp only; omega)) | refine HSub.from_rm ?_ (by decide)))) (Nat.zero_le _) (fun _ => hput_free (hput_free (hput_free (hput_free (hput_free (fun b hb => hFrom_free hb) rfl) rfl) rfl) rfl) rfl) ?_
        intro k hk
        refine AGo.seq ?_
        refine AGo.seq ?_
        refine AGo.region ?_
        refine am 59 ?_
        refine af 60 tok ?_
        refine al 61 tok ?_
        refine aq 62 (q_len tok rfl rfl rfl rfl rfl) ?_
        refine aq 63 (q_bin rfl rfl rfl rfl) ?_
        refine AOps.nil ?_
        refine AGo.split 63 rfl (fun hb8 => ?_) (fun hb8 => ?_)
        ·
         refine AGo.cond_true true rfl rfl ?_
         have hkl : k < c.same.length := by have h := hb8; simp only [Cert.cells, List.length_map, decide_eq_true_eq] at h; omega
         obtain ⟨r, hr⟩ := get_of_lt hkl
         obtain ⟨s, hs⟩ := get_of_lt (l := d.same) (k := k) (by omega)
         have hrr := hzc.2 r (List.mem_of_getElem? hr)
         have hss := hzd.2 s (List.mem_of_getElem? hs)
         have hsr : s.length = r.length := by omega
         have hr60 := hgc.2 r (List.mem_of_getElem? hr)
         have hT := and_row hr hs
         refine AGo.skip ?_
         refine AGo.seq ?_
         refine AGo.block ?_
         refine AGo.seq ?_
         refine AGo.region ?_
         refine af 66 tok ?_
         refine al 67 tok ?_
         refine am 68 ?_
         refine aq 69 (q_index_lst tok rfl rfl rfl rfl rfl rfl (Int.natCast_nonneg _) (idx_map hr) rfl) ?_
         refine al 70 tok ?_
         refine aq 71 (q_len tok rfl rfl rfl rfl rfl) ?_
         refine ax 72 (o_makeSlice tok (n := r.length) (m := r.length) 5 true rfl rfl rfl (by rw [List.length_map]) (by rw [List.length_map]) rfl rfl rfl rfl rfl (Nat.zero_lt_succ _) rfl (Nat.le_refl _) (by show 1 * r.length ≤ _; omega) (by simp only [maxLen]; omega)) ?_
         refine aa 10 ?_
         refine AOps.nil ?_
         refine AGo.seq ?_
         refine AGo.seq ?_
         refine AGo.region ?_
         refine aa 11 ?_
         refine AOps.nil ?_
         refine AGo.block ?_
         refine AGo.loopD (γ := Nat) 6 (fun j => ⟨115, (eput (eput (eput (eput (eput (eput (eput eNew 3 (.ptr 0 1 0 0)) 4 (.ptr 1 1 0 0)) 5 (.ptr 2 1 0 0)) 8 (.ptr 3 1 0 0)) 9 (.int .i64 (k : Int))) 10 (.ref 5 r.length 0 r.length)) 11 (.int .i64 (j : Int))), (hput (hput (hput (hput (hput (hput (hFrom 6) 0 (.row false 6 [l0.cells ++ (l1.cells ++ l2.cells)])) 1 (.row false 1 [c.cells])) 2 (.row false 1 [d.cells])) 3 (.row false 1 [[slA 4 (((andC c d).same.take (k)).map rowCell)]])) 4 (slO 1 (((andC c d).same.take (k)).map rowCell))) 5 (.row true 1 ((((r.zip s).map fun q => q.1 && q.2).take (j)).map boolCells ++ List.replicate (r.length - (j)) [AV.bool false])))⟩) (fun j => j ≤ r.length) (fun j => r.length - j) 0 (Sub.mk' (by repeat (first | exact ESub.new _ | refine ESub.put ?_ (by first | rfl | exact congrArg (fun (n : Nat) => some (AV.int .i64 (n : Int))) (by simp)))) (by repeat (first | exact HSub.refl _ | exact HSub.none _ | exact HSub.from_new _ | exact HSub.from_from (by first | decide | omega | (dsimp only; omega)) | refine HSub.put ?_ (by rfl) | refine HSub.from_put ?_ (by first | decide | omega | (dsimp only; omega)) | refine HSub.from_rm ?_ (by decide)))) (Nat.zero_le _) (fun _ => hput_free (hput_free (hput_free (hput_free (hput_free (hput_free (fun b hb => hFrom_free hb) rfl) rfl) rfl) rfl) rfl) rfl) ?_
         intro j hj
         refine AGo.seq ?_
         refine AGo.seq ?_
         refine AGo.region ?_
         refine am 73 ?_
         refine am 74 ?_
         refine aq 75 (q_len tok rfl rfl rfl rfl rfl) ?_
         refine aq 76 (q_bin rfl rfl rfl rfl) ?_
         refine AOps.nil ?_
         refine AGo.split 76 rfl (fun hb9 => ?_) (fun hb9 => ?_)
         ·
          refine AGo.cond_true true rfl rfl ?_
          have hjl : j < r.length := by have h := hb9; simp only [decide_eq_true_eq] at h; omega
          obtain ⟨x, hx⟩ := get_of_lt hjl
          obtain ⟨y, hy⟩ := get_of_lt (l := s) (k := j) (by omega)
          refine AGo.skip ?_
          refine AGo.seq ?_
          refine AGo.block ?_
          refine AGo.region ?_
          refine am 79 ?_
          refine am 80 ?_
          refine af 81 tok ?_
          refine al 82 tok ?_
          refine am 83 ?_
          refine aq 84 (q_index_lst tok rfl rfl rfl rfl rfl rfl (Int.natCast_nonneg _) (idx_map hr) rfl) ?_
          refine al 85 tok ?_
          refine am 86 ?_
          refine aq 87 (q_index_lst tok rfl rfl rfl rfl rfl rfl (Int.natCast_nonneg _) (idx_map hx) rfl) ?_
          refine al 88 tok ?_
          refine am 89 ?_
          refine AOps.split 89 rfl (fun hb10 => ?_) (fun hb10 => ?_)
          ·
           refine af 90 tok ?_
           refine al 91 tok ?_
           refine am 92 ?_
           refine aq 93 (q_index_lst tok rfl rfl rfl rfl rfl rfl (Int.natCast_nonneg _) (idx_map hs) rfl) ?_
           refine al 94 tok ?_
           refine am 95 ?_
           refine aq 96 (q_index_lst tok rfl rfl rfl rfl rfl rfl (Int.natCast_nonneg _) (idx_map hy) rfl) ?_
           refine al 97 tok ?_
           first | (obtain rfl : x = true := hb10) | (obtain rfl : x = false := hb10)
           refine aq 98 (q_pick_true true rfl rfl rfl rfl) ?_
           refine aq 99 (q_index_ref tok rfl rfl rfl rfl rfl rfl rfl (fill_len (and_len hsr : ((r.zip s).map fun q => q.1 && q.2).length = r.length) (Nat.le_of_lt hjl)) rfl (Int.natCast_nonneg _) (by omega)) ?_
           refine AOps.w rfl rfl (o_store tok rfl rfl rfl rfl rfl rfl (fill_len (and_len hsr : ((r.zip s).map fun q => q.1 && q.2).length = r.length) (Nat.le_of_lt hjl)) (fill_get (and_len hsr : ((r.zip s).map fun q => q.1 && q.2).length = r.length) hjl) rfl (by decide) rfl (by first | exact fun _ => rfl | (intro h; cases h))) ?_
           refine AOps.nil ?_
           refine AGo.region ?_
           refine am 77 ?_
           refine aq 78 (q_inc rfl rfl hjl (show r.length ≤ maxLen by simp only [maxLen]; omega)) ?_
           refine aa 11 ?_
           refine AOps.nil ?_
           exact ⟨j+1, Drop.mk' (by repeat (first | exact EDrop.new _ _ | refine EDrop.put ?_ (by rfl) (by first | rfl | exact slA_avoid _ rfl | exact vaA_avoid _ rfl))) (by repeat (first | exact HDrop.none _ _ | exact HDrop.tail _ _ | refine HDrop.put ?_ (by first | rfl | exact congrArg (fun es => some (AObj.row true 1 es)) (fill_put (f := boolCells) (and_len hsr : ((r.zip s).map fun q => q.1 && q.2).length = r.length) (and_bit hx hy))) rfl (by first | rfl | exact slO_avoid _ _ | exact sl1_avoid _ rfl))), hjl, by omega⟩
          ·
           refine ak 90 ?_
           refine ak 91 ?_
           refine ak 92 ?_
           refine ak 93 ?_
           refine ak 94 ?_
           refine ak 95 ?_
           refine ak 96 ?_
           refine ak 97 ?_
           first | (obtain rfl : x = true := hb10) | (obtain rfl : x = false := hb10)
           refine aq 98 (q_pick_false false rfl rfl rfl rfl) ?_
           refine aq 99 (q_index_ref tok rfl rfl rfl rfl rfl rfl rfl (fill_len (and_len hsr : ((r.zip s).map fun q => q.1 && q.2).length = r.length) (Nat.le_of_lt hjl)) rfl (Int.natCast_nonneg _) (by omega)) ?_
           refine AOps.w rfl rfl (o_store tok rfl rfl rfl rfl rfl rfl (fill_len (and_len hsr : ((r.zip s).map fun q => q.1 && q.2).length = r.length) (Nat.le_of_lt hjl)) (fill_get (and_len hsr : ((r.zip s).map fun q => q.1 && q.2).length = r.length) hjl) rfl (by decide) rfl (by first | exact fun _ => rfl | (intro h; cases h))) ?_
           refine AOps.nil ?_
           refine AGo.region ?_
           refine am 77 ?_
           refine aq 78 (q_inc rfl rfl hjl (show r.length ≤ maxLen by simp only [maxLen]; omega)) ?_
           refine aa 11 ?_
           refine AOps.nil ?_
           exact ⟨j+1, Drop.mk' (by repeat (first | exact EDrop.new _ _ | refine EDrop.put ?_ (by rfl) (by first | rfl | exact slA_avoid _ rfl | exact vaA_avoid _ rfl))) (by repeat (first | exact HDrop.none _ _ | exact HDrop.tail _ _ | refine HDrop.put ?_ (by first | rfl | exact congrArg (fun es => some (AObj.row true 1 es)) (fill_put (f := boolCells) (and_len hsr : ((r.zip s).map fun q => q.1 && q.2).length = r.length) (and_bit hx hy))) rfl (by first | rfl | exact slO_avoid _ _ | exact sl1_avoid _ rfl))), hjl, by omega⟩
         ·
          refine AGo.cond_false false rfl rfl ?_
          have hjge : r.length ≤ j := by have h := hb9; simp only [decide_eq_false_iff_not] at h; omega
          refine AGo.exit ?_
          refine AGo.ghost (.freeze 10 5 rfl rfl (fill_len (and_len hsr : ((r.zip s).map fun q => q.1 && q.2).length = r.length) hj)) ?_
          rw [fill_end (and_len hsr : ((r.zip s).map fun q => q.1 && q.2).length = r.length) hjge]
          refine AGo.region ?_
          refine af 100 tok ?_
          refine al 101 tok ?_
          refine am 102 ?_
          refine ax 103 (o_lit' tok rfl rfl rfl rfl rfl rfl (by decide) rfl rfl rfl rfl rfl rfl) ?_
          refine ax 104 (o_append1J tok (b := 4) (es := (((andC c d).same.take (k)).map rowCell)) rfl rfl rfl rfl rfl rfl rfl rfl rfl rfl rfl (Nat.zero_lt_succ _) (row_len _) (row_pure _) rfl rfl (by rw [List.length_map, List.length_take]; show _ * 24 ≤ _; omega) (by rw [List.length_map, List.length_take]; simp only [maxLen]; omega)) ?_
          refine af 105 tok ?_
          refine AOps.w rfl rfl (o_store1 tok rfl rfl rfl rfl rfl rfl rfl rfl rfl (slA_cells _ _) (by decide) (slA_cell1 _ _) (by intro h; cases h)) ?_
          refine AOps.nil ?_
          refine AGo.region ?_
          refine am 64 ?_
          refine aq 65 (q_inc rfl rfl hkl (show c.same.length ≤ maxLen by simp only [maxLen]; omega)) ?_
          refine aa 9 ?_
          refine AOps.nil ?_
          exact ⟨k+1, Drop.mk' (by repeat (first | exact EDrop.new _ _ | refine EDrop.put ?_ (by rfl) (by first | rfl | exact slA_avoid _ rfl | exact vaA_avoid _ rfl))) (by repeat (first | exact HDrop.none _ _ | exact HDrop.tail _ _ | refine HDrop.put ?_ (by first | rfl | (rw [take_succ_eq hT, List.map_append]; rfl)) rfl (by first | rfl | exact slO_avoid _ _ | exact sl1_avoid _ rfl))), hkl, by omega⟩
        ·
         refine AGo.cond_false false rfl rfl ?_
         have hge : c.same.length ≤ k := by have h := hb8; simp only [Cert.cells, List.length_map, decide_eq_false_iff_not] at h; omega
         refine AGo.exit ?_
         refine AGo.seq ?_
         refine AGo.ghost (.endSl 3 4 rfl rfl (by decide)) ?_
         rw [List.take_of_length_le (by omega : (andC c d).same.length ≤ k)]
         refine AGo.region ?_
         refine ax 106 (o_pure rfl Try.func13 (by kernel_rfl) rfl rfl rfl (awake34_ok)) ?_
         refine am 107 ?_
         refine aq 108 (q_index_arr tok rfl rfl rfl rfl rfl rfl (by decide) (by decide) rfl) ?_
         refine al 109 tok ?_
         refine aq 110 (q_index_arr tok rfl rfl rfl rfl rfl rfl (by decide) (by decide) rfl) ?_
         refine al 111 tok ?_
         refine al 112 tok ?_
         refine ax 113 (o_pure rfl Try.func14 (by kernel_rfl) rfl rfl rfl (vcheck_ok l0 l2 hs0.1 hs2.1 hs0.2 hs2.2 (andC c d))) ?_
         refine aq 114 (q_pick_true true rfl rfl rfl rfl) ?_
         refine aa 6 ?_
         refine AOps.nil ?_
         refine AGo.ret ?_
         refine ⟨[_], ⟨rfl, trivial⟩, ?_, rfl⟩
         show AV.bool (vcheck l0 l2 (andC c d)) = _
         rw [hch.1]

end Go.Proofs.Ytpijoieooikfgaa.Sv

namespace Go.Proofs.Ytpijoieooikfgaa
open Go Sv
theorem validChains_ok3 (l : Funcs3) (c d : Cert) (hl : l.Ok) (hc : c.Ok) (hd : d.Ok) : APure Try.prog 9 [.agg l.cells, .agg c.cells, .agg d.cells] (fun r => r = .bool true) :=
  validChains_ok l.a l.b l.c c d hl.1 hl.2.1 hl.2.2 hc hd
end Go.Proofs.Ytpijoieooikfgaa

namespace Go.Proofs.Ytpijoieooikfgaa
open Go.ChangeShapes Go.WideShapes Go.ChangeAt Go.RowKit Sv
set_option linter.unusedVariables false

set_option maxRecDepth 100000 in
theorem validChains_lifted (os : Os) (started : os.Started) (H : Type) (enc : TypeId × Value → H) :
    ReturnsInHanded {} Try.checked os 9 .any (Rows.validChainsSpec.pre6 enc Try.prog Try.f9 Rows.validChainsRow.domain false) (Rows.validChainsSpec.post enc Try.prog Try.f9 false true false false) := by
  refine returnsInHanded_of_change_sized (C := Try.checked) own' started (by kernel_rfl) Try.func9
    (ChangeSpec.witness6 (enc := enc) (C := Try.checked) false ⟨#[], #[.agg #[.int .i64 0, .slice none 0 0, .int .i64 0, .slice none 0 0, .int .i64 0, .slice none 0 0], .agg #[.slice none 0 0], .agg #[.slice none 0 0]], []⟩ 8 (by kernel_rfl) (by kernel_rfl) (by kernel_rfl) (by kernel_rfl)) ?_
  intro W base args ds gs before hval0 hW hcnd hwt0 hh
  have hval : ∀ (j : Nat) t v, Try.f9.params[j]? = some t → args[j]? = some v → Value.okWide Try.prog W .any base t v := hval0
  have hW' := hW
  obtain ⟨p, q, hA0, hV, rfl, hfz, hnd⟩ := hW
  have hA : DataW.TrodAll enc Try.prog W 0 (fun _ => true) true Try.f9.params.toList args.toList ds p := hA0
  have hwt : (DataW.weightsEach Try.prog (Try.f9.params.toList ++ Rows.validChainsSpec.plain.varTypes Try.prog) (ds ++ gs)).all (· ≤ reachBytes) = true := hwt0
  rw [Try.params9] at hA hval hwt
  obtain ⟨v0, vs0, d0, ds0, p0, q0, hargs, rfl, rfl, h0, r0⟩ := trodAll_cons hA
  obtain ⟨v1, vs1, d1, ds1, p1, q1, rfl, rfl, rfl, h1, r1⟩ := trodAll_cons r0
  obtain ⟨v2, vs2, d2, ds2, p2, q2, rfl, rfl, rfl, h2, r2⟩ := trodAll_cons r1
  obtain ⟨rfl, rfl, rfl⟩ := trodAll_nil r2
  obtain rfl : args = #[v0, v1, v2] := by cases args; simp_all
  obtain ⟨rfl, rfl⟩ := trodVars_none hV
  obtain ⟨x0, e0, g0⟩ := arg_one h0 (weightsEach_get hwt (i := 0) rfl rfl) decFuncs3
  obtain ⟨x1, e1, g1⟩ := arg_one h1 (weightsEach_get hwt (i := 1) rfl rfl) decCert
  obtain ⟨x2, e2, g2⟩ := arg_one h2 (weightsEach_get hwt (i := 2) rfl rfl) decCert
  exact law_calls laidOut' rfl (by kernel_rfl) rfl bool' rfl rfl rfl hW' (.cons (e0.val (okWide_aggA funcs3T (hval 0 50 v0 rfl rfl))) (.cons (e1.val (okWide_agg tok rfl rfl (hval 1 27 v1 rfl rfl))) (.cons (e2.val (okWide_agg tok rfl rfl (hval 2 27 v2 rfl rfl))) .nil))) (validChains_ok3 x0 x1 x2 g0 g1 g2) (fun g l h => by cases h)

theorem validChains_holds : Rows.ValidChainsSaid :=
  OpenClaim.holds_of_wide 9 Try.f9 rfl rfl rfl rfl rfl rfl rfl ⟨rfl, rfl, rfl, rfl, rfl⟩ rfl rfl rfl rfl rfl (by kernel_rfl) Try.func9 (by kernel_rfl)
    (of_decide_eq_true (by kernel_rfl)) (by unfold Func.isWrapper; first | (rw [if_pos (by decide +kernel)]; kernel_rfl) | (rw [if_neg (by decide +kernel)]; exact ⟨rfl, rfl⟩))
    (fun os started H enc _ => validChains_lifted os started H enc)

end Go.Proofs.Ytpijoieooikfgaa
