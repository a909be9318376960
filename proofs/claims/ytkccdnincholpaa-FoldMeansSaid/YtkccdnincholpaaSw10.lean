/-
  WALKS: printed by a program of our own from the code's tree.
-/
import Derived.Test.YtkccdnincholpaaSp11
import Derived.Test.YtkccdnincholpaaSp5
import Derived.Test.YtkccdnincholpaaSw9
import Derived.Test.YtkccdnincholpaaSw1
namespace Go.Proofs.Ytkccdnincholpaa.Sv
open Go
set_option linter.unusedVariables false
set_option linter.unusedSimpArgs false

set_option maxRecDepth 100000 in
theorem ins_ok (l : List Tac) (regs : Int) (hl : insW l) (hn : l.length ≤ 100000) (h0 : 0 ≤ regs) (h1 : regs ≤ 100000) (hin : ∀ t ∈ l, t.inR regs) : APure Try.prog 19 [insAV l, .int .i64 regs] (fun r => r = insAV (foldIns [] l)) := by
  refine APure.of_body (n := 104) tok Try.func19 rfl rfl ?_
  refine AGo.seq ?_
  refine AGo.region ?_
  refine AOps.s 4 rfl rfl rfl (q_move (.inr rfl) rfl) ?_
  refine AOps.nil ?_
  refine AGo.seq ?_
  refine AGo.region ?_
  refine AOps.s 13 rfl rfl rfl (q_move (.inl rfl) rfl) ?_
  refine AOps.x 14 rfl rfl rfl (o_makeSlice tok (n := regs.toNat) (m := regs.toNat) 0 true rfl rfl rfl (by omega) (by omega) rfl rfl rfl rfl rfl (Nat.zero_lt_succ _) rfl (Nat.le_refl _) (by show 1 * regs.toNat ≤ _; omega) (by simp only [maxLen]; omega)) ?_
  refine AOps.s 5 rfl rfl rfl (q_move (.inr rfl) rfl) ?_
  refine AOps.nil ?_
  refine AGo.seq ?_
  refine AGo.region ?_
  refine AOps.s 15 rfl rfl rfl (q_move (.inl rfl) rfl) ?_
  refine AOps.x 16 rfl rfl rfl (o_makeSlice tok (n := regs.toNat) (m := regs.toNat) 1 true rfl rfl rfl (by omega) (by omega) rfl rfl rfl rfl rfl (Nat.zero_lt_succ _) rfl (Nat.le_refl _) (by show 4 * regs.toNat ≤ _; omega) (by simp only [maxLen]; omega)) ?_
  refine AOps.s 6 rfl rfl rfl (q_move (.inr rfl) rfl) ?_
  refine AOps.nil ?_
  refine AGo.seq ?_
  refine AGo.region ?_
  refine AOps.s 7 rfl rfl rfl (q_move (.inr rfl) rfl) ?_
  refine AOps.nil ?_
  refine AGo.seq ?_
  refine AGo.seq ?_
  refine AGo.ghost (.dry 7 2 8 true rfl rfl rfl (by decide)) ?_
  refine AGo.region ?_
  refine AOps.s 8 rfl rfl rfl (q_move (.inr rfl) rfl) ?_
  refine AOps.nil ?_
  refine AGo.block ?_
  refine AGo.loopD (γ := Nat) 3 (fun k => ⟨104, (eput (eput (eput (eput (eput (eput eNew 0 (insAV l)) 1 (.int .i64 regs)) 5 (.ref 0 regs.toNat 0 regs.toNat)) 6 (.ref 1 regs.toNat 0 regs.toNat)) 7 (.ref 2 k 0 k)) 8 (.int .i64 (k : Int))), (hput (hput (hput (hFrom 3) 0 (.row true 1 ((kAt regs.toNat l k).map boolCells))) 1 (.row true 1 ((vAt regs.toNat l k).map (fun n => [.int .u32 n])))) 2 (.row true 8 (((foldIns [] l).take k).map Tac.cells)))⟩) (fun k => k ≤ l.length) (fun k => l.length - k) 0 (Sub.mk' (by repeat (first | exact ESub.new _ | refine ESub.put ?_ (by rfl))) (by repeat (first | exact HSub.none _ | exact HSub.from_new _ | exact HSub.from_from (by decide) | refine HSub.put ?_ (by first | rfl | exact congrArg (fun es => some (AObj.row true 1 es)) (kAt_zero _ l).symm | exact congrArg (fun es => some (AObj.row true 1 es)) (by simp [vAt])) | refine HSub.from_put ?_ (by decide)))) (Nat.zero_le _) (fun _ => hput_free (hput_free (hput_free (fun b hb => hFrom_free hb) rfl) rfl) rfl) ?_
  intro k hk
  refine AGo.seq ?_
  refine AGo.seq ?_
  refine AGo.region ?_
  refine AOps.s 17 rfl rfl rfl (q_move (.inl rfl) rfl) ?_
  refine AOps.s 18 rfl rfl rfl (q_move (.inl rfl) rfl) ?_
  refine AOps.s 19 rfl rfl rfl (q_len tok rfl rfl rfl rfl rfl) ?_
  refine AOps.s 20 rfl rfl rfl (q_bin rfl rfl rfl rfl) ?_
  refine AOps.nil ?_
  refine AGo.split 20 rfl (fun hb1 => ?_) (fun hb1 => ?_)
  · -- True
    refine AGo.cond_true true rfl rfl ?_
    have hkl : k < l.length := lt_of_idx hb1
    obtain ⟨x, hx⟩ := get_of_lt hkl
    have hxi := hin x (List.mem_of_getElem? hx)
    have hK := fknow_w hl k
    refine AGo.skip ?_
    refine AGo.seq ?_
    refine AGo.block ?_
    refine AGo.seq ?_
    refine AGo.region ?_
    refine AOps.s 23 rfl rfl rfl (q_move (.inl rfl) rfl) ?_
    refine AOps.s 24 rfl rfl rfl (q_move (.inl rfl) rfl) ?_
    refine AOps.s 25 rfl rfl rfl (q_index_lst tok rfl rfl rfl rfl rfl rfl (Int.natCast_nonneg _) (idx_map (by assumption)) rfl) ?_
    refine AOps.s 26 rfl rfl rfl (q_load tok rfl rfl rfl (by first | exact .loc _ | exact .ptr _ _ _ _ _ _ _ _ rfl rfl rfl) rfl) ?_
    refine AOps.x 9 rfl rfl rfl (o_alloc tok 3 rfl rfl rfl rfl (Nat.zero_lt_succ _) rfl) ?_
    refine AOps.w rfl rfl (o_store tok rfl rfl rfl rfl rfl rfl rfl rfl rfl (by decide) rfl (by first | exact fun _ => rfl | (intro h; cases h))) ?_
    refine AOps.nil ?_
    refine AGo.seq ?_
    refine AGo.join (γ := Tac) (fun c => ⟨104, (eput (eput (eput (eput (eput (eput (eput eNew 0 (insAV l)) 1 (.int .i64 regs)) 5 (.ref 0 regs.toNat 0 regs.toNat)) 6 (.ref 1 regs.toNat 0 regs.toNat)) 7 (.ref 2 k 0 k)) 8 (.int .i64 (k : Int))) 9 (.ptr 3 1 0 0)), (hput (hput (hput (hput (hFrom 4) 0 (.row true 1 ((kAt regs.toNat l k).map boolCells))) 1 (.row true 1 ((vAt regs.toNat l k).map (fun n => [.int .u32 n])))) 2 (.row true 8 (((foldIns [] l).take k).map Tac.cells))) 3 (.row false 8 [c.cells]))⟩) (fun c => c = cstep (fknow l k) x) ?_ ?_
    · -- to the join
      refine AGo.seq ?_
      refine AGo.region ?_
      refine AOps.s 27 rfl rfl rfl (q_fieldAddr tok rfl rfl rfl rfl rfl rfl) ?_
      refine AOps.s 28 rfl rfl rfl (q_load tok rfl rfl rfl (by first | exact .loc _ | exact .ptr _ _ _ _ _ _ _ _ rfl rfl rfl) rfl) ?_
      refine AOps.s 29 rfl rfl rfl (q_bin rfl rfl rfl rfl) ?_
      refine AOps.s 30 rfl rfl rfl (q_move (.inl rfl) rfl) ?_
      refine AOps.split 30 rfl (fun hb2 => ?_) (fun hb2 => ?_)
      · -- True
        have ho2 : x.op = 2 := by simpa using hb2
        have ha := inR_a hxi (.inl ho2)
        refine AOps.s 31 rfl rfl rfl (q_move (.inl rfl) rfl) ?_
        refine AOps.s 32 rfl rfl rfl (q_fieldAddr tok rfl rfl rfl rfl rfl rfl) ?_
        refine AOps.s 33 rfl rfl rfl (q_load tok rfl rfl rfl (by first | exact .loc _ | exact .ptr _ _ _ _ _ _ _ _ rfl rfl rfl) rfl) ?_
        refine AOps.s 34 rfl rfl rfl (q_index_ref tok rfl rfl rfl rfl rfl rfl rfl (by simp [kAt_length]) rfl ha.1 (by have := ha.2; omega)) ?_
        refine AOps.s 35 rfl rfl rfl (q_load tok rfl rfl rfl (.ptr _ _ _ _ _ _ _ _ rfl (by simp [kAt_length]) (kAt_get (by have := ha; omega))) rfl) ?_
        refine AOps.s 36 rfl rfl rfl (q_pick_true true rfl rfl rfl rfl) ?_
        refine AOps.nil ?_
        refine AGo.split 36 rfl (fun hb3 => ?_) (fun hb3 => ?_)
        · -- True
          refine AGo.cond_true true rfl rfl ?_
          obtain ⟨v, hv⟩ := Option.isSome_iff_exists.1 hb3
          refine AGo.draw mix ?_
          refine DOps.s 37 rfl rfl rfl (q_fieldAddr tok rfl rfl rfl rfl rfl rfl) ?_
          refine DOps.s 38 rfl rfl rfl (q_load tok rfl rfl rfl (by first | exact .loc _ | exact .ptr _ _ _ _ _ _ _ _ rfl rfl rfl) rfl) ?_
          refine DOps.s 39 rfl rfl rfl (q_move (.inl rfl) rfl) ?_
          refine DOps.s 40 rfl rfl rfl (q_fieldAddr tok rfl rfl rfl rfl rfl rfl) ?_
          refine DOps.s 41 rfl rfl rfl (q_load tok rfl rfl rfl (by first | exact .loc _ | exact .ptr _ _ _ _ _ _ _ _ rfl rfl rfl) rfl) ?_
          refine DOps.s 42 rfl rfl rfl (q_index_ref tok rfl rfl rfl rfl rfl rfl rfl (by simp [vAt_length]) rfl ha.1 (by have := ha.2; omega)) ?_
          refine DOps.s 43 rfl rfl rfl (q_load tok rfl rfl rfl (.ptr _ _ _ _ _ _ _ _ rfl (by simp [vAt_length]) (vAt_cell (by have := ha; omega) hv)) rfl) ?_
          refine DOps.s 44 rfl rfl rfl (q_build tok rfl rfl rfl rfl rfl (by decide) rfl rfl rfl) ?_
          refine DOps.w rfl rfl (o_store tok rfl rfl rfl rfl rfl rfl rfl rfl rfl (by decide) rfl (by first | exact fun _ => rfl | (intro h; cases h))) ?_
          refine DOps.nil (by kernel_rfl) ?_
          exact ⟨(konst x.d v), Sub.mk' (by repeat (first | exact ESub.new _ | refine ESub.put ?_ (by rfl))) (by repeat (first | exact HSub.none _ | exact HSub.from_new _ | exact HSub.from_from (by decide) | refine HSub.put ?_ (by rfl) | refine HSub.from_put ?_ (by decide))), (by simp [cstep, ho2, hv])⟩
        · -- False
          refine AGo.cond_false false rfl rfl ?_
          refine AGo.skip ?_
          exact ⟨x, Sub.mk' (by repeat (first | exact ESub.new _ | refine ESub.put ?_ (by rfl))) (by repeat (first | exact HSub.none _ | exact HSub.from_new _ | exact HSub.from_from (by decide) | refine HSub.put ?_ (by rfl) | refine HSub.from_put ?_ (by decide))), (by first | exact cstep_unk ‹_› | exact cstep_not2 ‹_›)⟩
      · -- False
        refine AOps.k 31 rfl rfl rfl ?_
        refine AOps.k 32 rfl rfl rfl ?_
        refine AOps.k 33 rfl rfl rfl ?_
        refine AOps.k 34 rfl rfl rfl ?_
        refine AOps.k 35 rfl rfl rfl ?_
        refine AOps.s 36 rfl rfl rfl (q_pick_false false rfl rfl rfl rfl) ?_
        refine AOps.nil ?_
        refine AGo.cond_false false rfl rfl ?_
        refine AGo.skip ?_
        exact ⟨x, Sub.mk' (by repeat (first | exact ESub.new _ | refine ESub.put ?_ (by rfl))) (by repeat (first | exact HSub.none _ | exact HSub.from_new _ | exact HSub.from_from (by decide) | refine HSub.put ?_ (by rfl) | refine HSub.from_put ?_ (by decide))), (by first | exact cstep_unk ‹_› | exact cstep_not2 ‹_›)⟩
    intro c hc
    refine AGo.seq ?_
    refine AGo.join (γ := Tac) (fun u => ⟨104, (eput (eput (eput (eput (eput (eput (eput eNew 0 (insAV l)) 1 (.int .i64 regs)) 5 (.ref 0 regs.toNat 0 regs.toNat)) 6 (.ref 1 regs.toNat 0 regs.toNat)) 7 (.ref 2 k 0 k)) 8 (.int .i64 (k : Int))) 9 (.ptr 3 1 0 0)), (hput (hput (hput (hput (hFrom 4) 0 (.row true 1 ((kAt regs.toNat l k).map boolCells))) 1 (.row true 1 ((vAt regs.toNat l k).map (fun n => [.int .u32 n])))) 2 (.row true 8 (((foldIns [] l).take k).map Tac.cells))) 3 (.row false 8 [u.cells]))⟩) (fun u => u = fstep (fknow l k) x) ?_ ?_
    · -- to the join
      refine AGo.seq ?_
      refine AGo.region ?_
      refine AOps.s 45 rfl rfl rfl (q_fieldAddr tok rfl rfl rfl rfl rfl rfl) ?_
      refine AOps.s 46 rfl rfl rfl (q_load tok rfl rfl rfl (by first | exact .loc _ | exact .ptr _ _ _ _ _ _ _ _ rfl rfl rfl) rfl) ?_
      refine AOps.s 47 rfl rfl rfl (q_bin rfl rfl rfl rfl) ?_
      refine AOps.s 48 rfl rfl rfl (q_move (.inl rfl) rfl) ?_
      refine AOps.split 48 rfl (fun hb4 => ?_) (fun hb4 => ?_)
      · -- True
        have ho3 : c.op = 3 := by simpa using hb4
        have hxc : x = c := cstep_op3 hc ho3
        subst hxc
        have ha := inR_a hxi (.inr ho3)
        have hb := inR_b hxi ho3
        refine AOps.s 49 rfl rfl rfl (q_move (.inl rfl) rfl) ?_
        refine AOps.s 50 rfl rfl rfl (q_fieldAddr tok rfl rfl rfl rfl rfl rfl) ?_
        refine AOps.s 51 rfl rfl rfl (q_load tok rfl rfl rfl (by first | exact .loc _ | exact .ptr _ _ _ _ _ _ _ _ rfl rfl rfl) rfl) ?_
        refine AOps.s 52 rfl rfl rfl (q_index_ref tok rfl rfl rfl rfl rfl rfl rfl (by simp [kAt_length]) rfl ha.1 (by have := ha.2; omega)) ?_
        refine AOps.s 53 rfl rfl rfl (q_load tok rfl rfl rfl (.ptr _ _ _ _ _ _ _ _ rfl (by simp [kAt_length]) (kAt_get (by have := ha; omega))) rfl) ?_
        refine AOps.s 54 rfl rfl rfl (q_pick_true true rfl rfl rfl rfl) ?_
        refine AOps.s 55 rfl rfl rfl (q_move (.inl rfl) rfl) ?_
        refine AOps.split 55 rfl (fun hb5 => ?_) (fun hb5 => ?_)
        · -- True
          obtain ⟨va, hva⟩ := Option.isSome_iff_exists.1 hb5
          refine AOps.s 56 rfl rfl rfl (q_move (.inl rfl) rfl) ?_
          refine AOps.s 57 rfl rfl rfl (q_fieldAddr tok rfl rfl rfl rfl rfl rfl) ?_
          refine AOps.s 58 rfl rfl rfl (q_load tok rfl rfl rfl (by first | exact .loc _ | exact .ptr _ _ _ _ _ _ _ _ rfl rfl rfl) rfl) ?_
          refine AOps.s 59 rfl rfl rfl (q_index_ref tok rfl rfl rfl rfl rfl rfl rfl (by simp [kAt_length]) rfl hb.1 (by have := hb.2; omega)) ?_
          refine AOps.s 60 rfl rfl rfl (q_load tok rfl rfl rfl (.ptr _ _ _ _ _ _ _ _ rfl (by simp [kAt_length]) (kAt_get (by have := hb; omega))) rfl) ?_
          refine AOps.s 61 rfl rfl rfl (q_pick_true true rfl rfl rfl rfl) ?_
          refine AOps.nil ?_
          refine AGo.split 61 rfl (fun hb6 => ?_) (fun hb6 => ?_)
          · -- True
            refine AGo.cond_true true rfl rfl ?_
            obtain ⟨vb, hvb⟩ := Option.isSome_iff_exists.1 hb6
            have hwa := pget_isW hK hva
            have hwb := pget_isW hK hvb
            refine AGo.seq ?_
            refine AGo.draw mix ?_
            refine DOps.s 63 rfl rfl rfl (q_fieldAddr tok rfl rfl rfl rfl rfl rfl) ?_
            refine DOps.s 64 rfl rfl rfl (q_load tok rfl rfl rfl (by first | exact .loc _ | exact .ptr _ _ _ _ _ _ _ _ rfl rfl rfl) rfl) ?_
            refine DOps.s 65 rfl rfl rfl (q_move (.inl rfl) rfl) ?_
            refine DOps.s 66 rfl rfl rfl (q_fieldAddr tok rfl rfl rfl rfl rfl rfl) ?_
            refine DOps.s 67 rfl rfl rfl (q_load tok rfl rfl rfl (by first | exact .loc _ | exact .ptr _ _ _ _ _ _ _ _ rfl rfl rfl) rfl) ?_
            refine DOps.s 68 rfl rfl rfl (q_index_ref tok rfl rfl rfl rfl rfl rfl rfl (by simp [vAt_length]) rfl ha.1 (by have := ha.2; omega)) ?_
            refine DOps.s 69 rfl rfl rfl (q_load tok rfl rfl rfl (.ptr _ _ _ _ _ _ _ _ rfl (by simp [vAt_length]) (vAt_cell (by have := ha; omega) hva)) rfl) ?_
            refine DOps.s 70 rfl rfl rfl (q_move (.inl rfl) rfl) ?_
            refine DOps.s 71 rfl rfl rfl (q_fieldAddr tok rfl rfl rfl rfl rfl rfl) ?_
            refine DOps.s 72 rfl rfl rfl (q_load tok rfl rfl rfl (by first | exact .loc _ | exact .ptr _ _ _ _ _ _ _ _ rfl rfl rfl) rfl) ?_
            refine DOps.s 73 rfl rfl rfl (q_index_ref tok rfl rfl rfl rfl rfl rfl rfl (by simp [vAt_length]) rfl hb.1 (by have := hb.2; omega)) ?_
            refine DOps.s 74 rfl rfl rfl (q_load tok rfl rfl rfl (.ptr _ _ _ _ _ _ _ _ rfl (by simp [vAt_length]) (vAt_cell (by have := hb; omega) hvb)) rfl) ?_
            refine DOps.x 75 rfl rfl rfl (o_pure rfl Try.func28 (by kernel_rfl) rfl rfl rfl (rapply_ok x.k va vb hwa hwb)) ?_
            refine DOps.s 62 rfl rfl rfl (q_move (.inl rfl) rfl) ?_
            refine DOps.s 76 rfl rfl rfl (q_extract rfl rfl rfl) ?_
            refine DOps.s 77 rfl rfl rfl (q_extract rfl rfl rfl) ?_
            refine DOps.s 10 rfl rfl rfl (q_move (.inr rfl) rfl) ?_
            refine DOps.s 11 rfl rfl rfl (q_move (.inr rfl) rfl) ?_
            refine DOps.nil (by kernel_rfl) ?_
            refine AGo.seq ?_
            refine AGo.region ?_
            refine AOps.s 78 rfl rfl rfl (q_move (.inl rfl) rfl) ?_
            refine AOps.s 79 rfl rfl rfl (q_bin rfl rfl rfl rfl) ?_
            refine AOps.nil ?_
            refine AGo.split 79 rfl (fun hb7 => ?_) (fun hb7 => ?_)
            · -- True
              refine AGo.cond_true true rfl rfl ?_
              refine AGo.region ?_
              refine AOps.s 80 rfl rfl rfl (q_fieldAddr tok rfl rfl rfl rfl rfl rfl) ?_
              refine AOps.s 81 rfl rfl rfl (q_load tok rfl rfl rfl (by first | exact .loc _ | exact .ptr _ _ _ _ _ _ _ _ rfl rfl rfl) rfl) ?_
              refine AOps.s 82 rfl rfl rfl (q_move (.inl rfl) rfl) ?_
              refine AOps.s 83 rfl rfl rfl (q_build tok rfl rfl rfl rfl rfl (by decide) rfl rfl rfl) ?_
              refine AOps.w rfl rfl (o_store tok rfl rfl rfl rfl rfl rfl rfl rfl rfl (by decide) rfl (by first | exact fun _ => rfl | (intro h; cases h))) ?_
              refine AOps.nil ?_
              exact ⟨(konst x.d (wapp x.k va vb).1), Sub.mk' (by repeat (first | exact ESub.new _ | refine ESub.put ?_ (by rfl))) (by repeat (first | exact HSub.none _ | exact HSub.from_new _ | exact HSub.from_from (by decide) | refine HSub.put ?_ (by rfl) | refine HSub.from_put ?_ (by decide))), (cstep_val ho3 hva hvb ‹_›)⟩
            · -- False
              refine AGo.cond_false false rfl rfl ?_
              refine AGo.skip ?_
              exact ⟨x, Sub.mk' (by repeat (first | exact ESub.new _ | refine ESub.put ?_ (by rfl))) (by repeat (first | exact HSub.none _ | exact HSub.from_new _ | exact HSub.from_from (by decide) | refine HSub.put ?_ (by rfl) | refine HSub.from_put ?_ (by decide))), (cstep_zero ho3 hva hvb ‹_›)⟩
          · -- False
            refine AGo.cond_false false rfl rfl ?_
            refine AGo.skip ?_
            exact ⟨_, Sub.mk' (by repeat (first | exact ESub.new _ | refine ESub.put ?_ (by rfl))) (by repeat (first | exact HSub.none _ | exact HSub.from_new _ | exact HSub.from_from (by decide) | refine HSub.put ?_ (by rfl) | refine HSub.from_put ?_ (by decide))), (by first | exact cstep_not3 hc ‹_› | exact cstep_bad ho3 (.inr ‹_›) | exact cstep_bad ho3 (.inl ‹_›))⟩
        · -- False
          refine AOps.k 56 rfl rfl rfl ?_
          refine AOps.k 57 rfl rfl rfl ?_
          refine AOps.k 58 rfl rfl rfl ?_
          refine AOps.k 59 rfl rfl rfl ?_
          refine AOps.k 60 rfl rfl rfl ?_
          refine AOps.s 61 rfl rfl rfl (q_pick_false false rfl rfl rfl rfl) ?_
          refine AOps.nil ?_
          refine AGo.cond_false false rfl rfl ?_
          refine AGo.skip ?_
          exact ⟨_, Sub.mk' (by repeat (first | exact ESub.new _ | refine ESub.put ?_ (by rfl))) (by repeat (first | exact HSub.none _ | exact HSub.from_new _ | exact HSub.from_from (by decide) | refine HSub.put ?_ (by rfl) | refine HSub.from_put ?_ (by decide))), (by first | exact cstep_not3 hc ‹_› | exact cstep_bad ho3 (.inr ‹_›) | exact cstep_bad ho3 (.inl ‹_›))⟩
      · -- False
        refine AOps.k 49 rfl rfl rfl ?_
        refine AOps.k 50 rfl rfl rfl ?_
        refine AOps.k 51 rfl rfl rfl ?_
        refine AOps.k 52 rfl rfl rfl ?_
        refine AOps.k 53 rfl rfl rfl ?_
        refine AOps.s 54 rfl rfl rfl (q_pick_false false rfl rfl rfl rfl) ?_
        refine AOps.s 55 rfl rfl rfl (q_move (.inl rfl) rfl) ?_
        refine AOps.k 56 rfl rfl rfl ?_
        refine AOps.k 57 rfl rfl rfl ?_
        refine AOps.k 58 rfl rfl rfl ?_
        refine AOps.k 59 rfl rfl rfl ?_
        refine AOps.k 60 rfl rfl rfl ?_
        refine AOps.s 61 rfl rfl rfl (q_pick_false false rfl rfl rfl rfl) ?_
        refine AOps.nil ?_
        refine AGo.cond_false false rfl rfl ?_
        refine AGo.skip ?_
        exact ⟨_, Sub.mk' (by repeat (first | exact ESub.new _ | refine ESub.put ?_ (by rfl))) (by repeat (first | exact HSub.none _ | exact HSub.from_new _ | exact HSub.from_from (by decide) | refine HSub.put ?_ (by rfl) | refine HSub.from_put ?_ (by decide))), (by first | exact cstep_not3 hc ‹_› | exact cstep_bad ho3 (.inr ‹_›) | exact cstep_bad ho3 (.inl ‹_›))⟩
    intro u hu
    refine AGo.seq ?_
    refine AGo.region ?_
    refine AOps.s 84 rfl rfl rfl (q_load tok rfl rfl rfl (by first | exact .loc _ | exact .ptr _ _ _ _ _ _ _ _ rfl rfl rfl) rfl) ?_
    refine AOps.x 85 rfl rfl rfl (o_pure rfl Try.func29 (by kernel_rfl) rfl rfl rfl (sets_ok u)) ?_
    refine AOps.s 12 rfl rfl rfl (q_move (.inr rfl) rfl) ?_
    refine AOps.nil ?_
    refine AGo.seq ?_
    refine AGo.seq ?_
    refine AGo.region ?_
    refine AOps.s 86 rfl rfl rfl (q_move (.inl rfl) rfl) ?_
    refine AOps.s 87 rfl rfl rfl (q_bin rfl rfl rfl rfl) ?_
    refine AOps.nil ?_
    refine AGo.split 87 rfl (fun hb8 => ?_) (fun hb8 => ?_)
    · -- True
      refine AGo.cond_true true rfl rfl ?_
      have hs0 : 0 ≤ u.sets := by have h := hb8; simp at h; exact h
      have hsr : u.sets < regs := by subst hu; exact fstep_sets hxi hs0
      obtain ⟨vn, hvn⟩ := get_of_lt (l := vAt regs.toNat l k) (k := u.sets.toNat) (by rw [vAt_length]; omega)
      have hvo : ((vAt regs.toNat l k).map (fun n => [AV.int .u32 n]))[0 + u.sets.toNat]? = some [AV.int .u32 vn] := by rw [Nat.zero_add, List.getElem?_map, hvn]; rfl
      refine AGo.seq ?_
      refine AGo.region ?_
      refine AOps.s 88 rfl rfl rfl (q_move (.inl rfl) rfl) ?_
      refine AOps.s 89 rfl rfl rfl (q_move (.inl rfl) rfl) ?_
      refine AOps.s 90 rfl rfl rfl (q_fieldAddr tok rfl rfl rfl rfl rfl rfl) ?_
      refine AOps.s 91 rfl rfl rfl (q_load tok rfl rfl rfl (by first | exact .loc _ | exact .ptr _ _ _ _ _ _ _ _ rfl rfl rfl) rfl) ?_
      refine AOps.s 92 rfl rfl rfl (q_bin rfl rfl rfl rfl) ?_
      refine AOps.s 93 rfl rfl rfl (q_index_ref tok rfl rfl rfl rfl rfl rfl rfl (by simp [kAt_length]) rfl hs0 (by omega)) ?_
      refine AOps.w rfl rfl (o_store tok rfl rfl rfl rfl rfl rfl (by simp [kAt_length]) (kAt_get (by omega)) rfl (by decide) rfl (by first | exact fun _ => rfl | (intro h; cases h))) ?_
      refine AOps.nil ?_
      refine AGo.region ?_
      refine AOps.s 94 rfl rfl rfl (q_move (.inl rfl) rfl) ?_
      refine AOps.s 95 rfl rfl rfl (q_move (.inl rfl) rfl) ?_
      refine AOps.s 96 rfl rfl rfl (q_fieldAddr tok rfl rfl rfl rfl rfl rfl) ?_
      refine AOps.s 97 rfl rfl rfl (q_load tok rfl rfl rfl (by first | exact .loc _ | exact .ptr _ _ _ _ _ _ _ _ rfl rfl rfl) rfl) ?_
      refine AOps.s 98 rfl rfl rfl (q_index_ref tok rfl rfl rfl rfl rfl rfl rfl (by simp [vAt_length]) rfl hs0 (by omega)) ?_
      refine AOps.w rfl rfl (o_store tok rfl rfl rfl rfl rfl rfl (by simp [vAt_length]) hvo rfl (by decide) rfl (by first | exact fun _ => rfl | (intro h; cases h))) ?_
      refine AOps.nil ?_
      refine AGo.region ?_
      refine AOps.s 99 rfl rfl rfl (q_move (.inl rfl) rfl) ?_
      refine AOps.s 100 rfl rfl rfl (q_load tok rfl rfl rfl (by first | exact .loc _ | exact .ptr _ _ _ _ _ _ _ _ rfl rfl rfl) rfl) ?_
      refine AOps.x 101 rfl rfl rfl (o_lit' tok rfl rfl rfl rfl rfl rfl (by decide) rfl rfl rfl rfl rfl rfl) ?_
      refine AOps.x 102 rfl rfl rfl (o_append tok (n := k) (m := 1) rfl rfl rfl rfl rfl rfl rfl rfl rfl (by simp [foldIns_length]; omega) rfl rfl (Nat.zero_lt_succ _) (.lst _ _) (by intro cs h; simp [partVals] at h; subst h; rfl) (fun _ cs h => by simp [partVals] at h; subst h; rfl) rfl (by simp [foldIns_length, partVals]; show _ * 64 ≤ _; omega) (by simp [foldIns_length, partVals]; simp only [maxLen]; omega)) ?_
      refine AOps.s 7 rfl rfl rfl (q_move (.inr rfl) rfl) ?_
      refine AOps.nil ?_
      refine AGo.region ?_
      refine AOps.s 21 rfl rfl rfl (q_move (.inl rfl) rfl) ?_
      refine AOps.s 22 rfl rfl rfl (q_inc rfl rfl hkl (show l.length ≤ maxLen by simp only [maxLen]; omega)) ?_
      refine AOps.s 8 rfl rfl rfl (q_move (.inr rfl) rfl) ?_
      refine AOps.nil ?_
      exact ⟨k+1, Drop.mk' (by repeat (first | exact EDrop.new _ _ | refine EDrop.put ?_ (by rfl) rfl)) (by repeat (first | exact HDrop.none _ _ | exact HDrop.tail _ _ | refine HDrop.put ?_ (by first | rfl | exact congrArg (fun es => some (AObj.row true 1 es)) (kAt_set hx hu hs0 (by omega) rfl) | exact congrArg (fun es => some (AObj.row true 1 es)) (vAt_set hx hu hs0) | exact congrArg (fun es => some (AObj.row true 1 (List.map boolCells es))) (kAt_skip hx hu hs0) | exact congrArg (fun es => some (AObj.row true 1 (List.map (fun n => [AV.int .u32 n]) es))) (vAt_skip hx hu hs0) | exact congrArg (fun es => some (AObj.row true 8 es)) (by rw [take_succ_eq (foldIns_get l [] hx), List.map_append]; rw [hu]; rfl)) rfl rfl)), hkl, by omega⟩
    · -- False
      refine AGo.cond_false false rfl rfl ?_
      have hs0 : u.sets < 0 := by have h := hb8; simp at h; omega
      refine AGo.skip ?_
      refine AGo.region ?_
      refine AOps.s 99 rfl rfl rfl (q_move (.inl rfl) rfl) ?_
      refine AOps.s 100 rfl rfl rfl (q_load tok rfl rfl rfl (by first | exact .loc _ | exact .ptr _ _ _ _ _ _ _ _ rfl rfl rfl) rfl) ?_
      refine AOps.x 101 rfl rfl rfl (o_lit' tok rfl rfl rfl rfl rfl rfl (by decide) rfl rfl rfl rfl rfl rfl) ?_
      refine AOps.x 102 rfl rfl rfl (o_append tok (n := k) (m := 1) rfl rfl rfl rfl rfl rfl rfl rfl rfl (by simp [foldIns_length]; omega) rfl rfl (Nat.zero_lt_succ _) (.lst _ _) (by intro cs h; simp [partVals] at h; subst h; rfl) (fun _ cs h => by simp [partVals] at h; subst h; rfl) rfl (by simp [foldIns_length, partVals]; show _ * 64 ≤ _; omega) (by simp [foldIns_length, partVals]; simp only [maxLen]; omega)) ?_
      refine AOps.s 7 rfl rfl rfl (q_move (.inr rfl) rfl) ?_
      refine AOps.nil ?_
      refine AGo.region ?_
      refine AOps.s 21 rfl rfl rfl (q_move (.inl rfl) rfl) ?_
      refine AOps.s 22 rfl rfl rfl (q_inc rfl rfl hkl (show l.length ≤ maxLen by simp only [maxLen]; omega)) ?_
      refine AOps.s 8 rfl rfl rfl (q_move (.inr rfl) rfl) ?_
      refine AOps.nil ?_
      exact ⟨k+1, Drop.mk' (by repeat (first | exact EDrop.new _ _ | refine EDrop.put ?_ (by rfl) rfl)) (by repeat (first | exact HDrop.none _ _ | exact HDrop.tail _ _ | refine HDrop.put ?_ (by first | rfl | exact congrArg (fun es => some (AObj.row true 1 es)) (kAt_set hx hu hs0 (by omega) rfl) | exact congrArg (fun es => some (AObj.row true 1 es)) (vAt_set hx hu hs0) | exact congrArg (fun es => some (AObj.row true 1 (List.map boolCells es))) (kAt_skip hx hu hs0) | exact congrArg (fun es => some (AObj.row true 1 (List.map (fun n => [AV.int .u32 n]) es))) (vAt_skip hx hu hs0) | exact congrArg (fun es => some (AObj.row true 8 es)) (by rw [take_succ_eq (foldIns_get l [] hx), List.map_append]; rw [hu]; rfl)) rfl rfl)), hkl, by omega⟩
  · -- False
    refine AGo.cond_false false rfl rfl ?_
    have hge := ge_of_idx hb1
    have hfl : k = (((foldIns [] l).take k).map Tac.cells).length := by simp [foldIns_length]; omega
    refine AGo.exit ?_
    refine AGo.seq ?_
    refine AGo.ghost (.freezeAll 7 2 rfl rfl hfl) ?_
    refine AGo.region ?_
    refine AOps.s 103 rfl rfl rfl (q_move (.inl rfl) rfl) ?_
    refine AOps.s 4 rfl rfl rfl (q_move (.inr rfl) rfl) ?_
    refine AOps.nil ?_
    refine AGo.ret ?_
    refine ⟨[_], ⟨rfl, trivial⟩, ?_, rfl⟩
    show AV.lst false _ = AV.lst false _
    rw [List.take_of_length_le (by rw [foldIns_length]; exact hge)]

set_option maxRecDepth 100000 in
theorem rall_ok (f : BFunc) (hf : f.mild) : APure Try.prog 20 [.agg f.cells] (fun r => r = .agg f.all.cells) := by
  refine APure.of_body (n := 33) tok Try.func20 rfl rfl ?_
  refine AGo.seq ?_
  refine AGo.region ?_
  refine AOps.x 1 rfl rfl rfl (o_box (sz := 2) 0 rfl rfl rfl rfl (Nat.zero_lt_succ _) rfl) ?_
  refine AOps.x 2 rfl rfl rfl (o_alloc tok 1 rfl rfl rfl rfl (Nat.zero_lt_succ _) rfl) ?_
  refine AOps.nil ?_
  refine AGo.seq ?_
  refine AGo.region ?_
  refine AOps.x 3 rfl rfl rfl (o_alloc tok 2 rfl rfl rfl rfl (Nat.zero_lt_succ _) rfl) ?_
  refine AOps.nil ?_
  refine AGo.seq ?_
  refine AGo.seq ?_
  refine AGo.ghost (.dryCell 2 0 0 3 1 true rfl rfl rfl rfl rfl (by decide)) ?_
  refine AGo.region ?_
  refine AOps.s 4 rfl rfl rfl (q_move (.inr rfl) rfl) ?_
  refine AOps.nil ?_
  refine AGo.block ?_
  refine AGo.loopD (γ := Nat) 4 (fun k => ⟨33, (eput (eput (eput (eput eNew 1 (.ptr 0 1 0 0)) 2 (.ptr 1 1 0 0)) 3 (.ptr 2 1 0 0)) 4 (.int .i64 (k : Int))), (hput (hput (hput (hput (hFrom 4) 0 (.row false 2 [f.cells])) 1 (.row false 1 [[.nil]])) 2 (.row false 1 [[.ref 3 k 0 k]])) 3 (.row true 1 ((List.replicate k (List.replicate f.regs.toNat true)).map rowCell)))⟩) (fun k => k ≤ f.blocks.length) (fun k => f.blocks.length - k) 0 (Sub.mk' (by repeat (first | exact ESub.new _ | refine ESub.put ?_ (by rfl))) (by repeat (first | exact HSub.none _ | exact HSub.from_new _ | exact HSub.from_from (by decide) | refine HSub.put ?_ (by rfl) | refine HSub.from_put ?_ (by decide)))) (Nat.zero_le _) (fun _ => hput_free (hput_free (hput_free (hput_free (fun b hb => hFrom_free hb) rfl) rfl) rfl) rfl) ?_
  intro k hk
  refine AGo.seq ?_
  refine AGo.seq ?_
  refine AGo.region ?_
  refine AOps.s 7 rfl rfl rfl (q_move (.inl rfl) rfl) ?_
  refine AOps.s 8 rfl rfl rfl (q_fieldAddr tok rfl rfl rfl rfl rfl rfl) ?_
  refine AOps.s 9 rfl rfl rfl (q_load tok rfl rfl rfl (by first | exact .loc _ | exact .ptr _ _ _ _ _ _ _ _ rfl rfl rfl) rfl) ?_
  refine AOps.s 10 rfl rfl rfl (q_len tok rfl rfl rfl rfl rfl) ?_
  refine AOps.s 11 rfl rfl rfl (q_bin rfl rfl rfl rfl) ?_
  refine AOps.nil ?_
  refine AGo.split 11 rfl (fun hb1 => ?_) (fun hb1 => ?_)
  · -- True
    refine AGo.cond_true true rfl rfl ?_
    have hkl : k < f.blocks.length := lt_of_idx hb1
    refine AGo.skip ?_
    refine AGo.seq ?_
    refine AGo.block ?_
    refine AGo.seq ?_
    refine AGo.region ?_
    refine AOps.s 14 rfl rfl rfl (q_fieldAddr tok rfl rfl rfl rfl rfl rfl) ?_
    refine AOps.s 15 rfl rfl rfl (q_load tok rfl rfl rfl (by first | exact .loc _ | exact .ptr _ _ _ _ _ _ _ _ rfl rfl rfl) rfl) ?_
    refine AOps.x 16 rfl rfl rfl (o_makeSlice tok (n := f.regs.toNat) (m := f.regs.toNat) 4 true rfl rfl rfl (by have := hf.1; omega) (by have := hf.1; omega) rfl rfl rfl rfl rfl (Nat.zero_lt_succ _) rfl (Nat.le_refl _) (by show 1 * f.regs.toNat ≤ _; have := hf.2.1; omega) (by simp only [maxLen]; have := hf.2.1; omega)) ?_
    refine AOps.s 5 rfl rfl rfl (q_move (.inr rfl) rfl) ?_
    refine AOps.nil ?_
    refine AGo.seq ?_
    refine AGo.seq ?_
    refine AGo.region ?_
    refine AOps.s 6 rfl rfl rfl (q_move (.inr rfl) rfl) ?_
    refine AOps.nil ?_
    refine AGo.block ?_
    refine AGo.loopD (γ := Nat) 5 (fun j => ⟨33, (eput (eput (eput (eput (eput (eput eNew 1 (.ptr 0 1 0 0)) 2 (.ptr 1 1 0 0)) 3 (.ptr 2 1 0 0)) 4 (.int .i64 (k : Int))) 5 (.ref 4 f.regs.toNat 0 f.regs.toNat)) 6 (.int .i64 (j : Int))), (hput (hput (hput (hput (hput (hFrom 5) 0 (.row false 2 [f.cells])) 1 (.row false 1 [[.nil]])) 2 (.row false 1 [[.ref 3 k 0 k]])) 3 (.row true 1 ((List.replicate k (List.replicate f.regs.toNat true)).map rowCell))) 4 (.row true 1 (((List.replicate f.regs.toNat true).take j).map boolCells ++ List.replicate (f.regs.toNat - j) [.bool false])))⟩) (fun j => j ≤ f.regs.toNat) (fun j => f.regs.toNat - j) 0 (Sub.mk' (by repeat (first | exact ESub.new _ | refine ESub.put ?_ (by rfl))) (by repeat (first | exact HSub.none _ | exact HSub.from_new _ | exact HSub.from_from (by decide) | refine HSub.put ?_ (by rfl) | refine HSub.from_put ?_ (by decide)))) (Nat.zero_le _) (fun _ => hput_free (hput_free (hput_free (hput_free (hput_free (fun b hb => hFrom_free hb) rfl) rfl) rfl) rfl) rfl) ?_
    intro j hj
    refine AGo.seq ?_
    refine AGo.seq ?_
    refine AGo.region ?_
    refine AOps.s 17 rfl rfl rfl (q_move (.inl rfl) rfl) ?_
    refine AOps.s 18 rfl rfl rfl (q_fieldAddr tok rfl rfl rfl rfl rfl rfl) ?_
    refine AOps.s 19 rfl rfl rfl (q_load tok rfl rfl rfl (by first | exact .loc _ | exact .ptr _ _ _ _ _ _ _ _ rfl rfl rfl) rfl) ?_
    refine AOps.s 20 rfl rfl rfl (q_bin rfl rfl rfl rfl) ?_
    refine AOps.nil ?_
    refine AGo.split 20 rfl (fun hb2 => ?_) (fun hb2 => ?_)
    · -- True
      refine AGo.cond_true true rfl rfl ?_
      have hjl : j < f.regs.toNat := by have h := hb2; simp at h; omega
      refine AGo.skip ?_
      refine AGo.seq ?_
      refine AGo.block ?_
      refine AGo.region ?_
      refine AOps.s 23 rfl rfl rfl (q_move (.inl rfl) rfl) ?_
      refine AOps.s 24 rfl rfl rfl (q_move (.inl rfl) rfl) ?_
      refine AOps.s 25 rfl rfl rfl (q_index_ref tok rfl rfl rfl rfl rfl rfl rfl (fill_len (by simp : (List.replicate f.regs.toNat true).length = f.regs.toNat) (Nat.le_of_lt hjl)) rfl (Int.natCast_nonneg _) (by omega)) ?_
      refine AOps.w rfl rfl (o_store tok rfl rfl rfl rfl rfl rfl (fill_len (by simp : (List.replicate f.regs.toNat true).length = f.regs.toNat) (Nat.le_of_lt hjl)) (fill_get (by simp : (List.replicate f.regs.toNat true).length = f.regs.toNat) hjl) rfl (by decide) rfl (by first | exact fun _ => rfl | (intro h; cases h))) ?_
      refine AOps.nil ?_
      refine AGo.region ?_
      refine AOps.s 21 rfl rfl rfl (q_move (.inl rfl) rfl) ?_
      refine AOps.s 22 rfl rfl rfl (q_inc rfl rfl hjl (by simp only [maxLen]; have := hf.2.1; omega)) ?_
      refine AOps.s 6 rfl rfl rfl (q_move (.inr rfl) rfl) ?_
      refine AOps.nil ?_
      exact ⟨j+1, Drop.mk' (by repeat (first | exact EDrop.new _ _ | refine EDrop.put ?_ (by rfl) rfl)) (by repeat (first | exact HDrop.none _ _ | exact HDrop.tail _ _ | refine HDrop.put ?_ (by first | rfl | exact congrArg (fun es => some (AObj.row true 1 es)) (fill_put (f := boolCells) (x := true) (by simp : (List.replicate f.regs.toNat true).length = f.regs.toNat) (by simp [hjl]))) rfl rfl)), hjl, by omega⟩
    · -- False
      refine AGo.cond_false false rfl rfl ?_
      have hge2 : f.regs.toNat ≤ j := by have h := hb2; simp at h; omega
      refine AGo.exit ?_
      refine AGo.ghost (.freeze 5 4 rfl rfl (fill_len (by simp : (List.replicate f.regs.toNat true).length = f.regs.toNat) hj)) ?_
      refine AGo.region ?_
      refine AOps.s 26 rfl rfl rfl (q_fieldAddr tok rfl rfl rfl rfl rfl rfl) ?_
      refine AOps.s 27 rfl rfl rfl (q_load tok rfl rfl rfl (by first | exact .loc _ | exact .ptr _ _ _ _ _ _ _ _ rfl rfl rfl) rfl) ?_
      refine AOps.s 28 rfl rfl rfl (q_move (.inl rfl) rfl) ?_
      refine AOps.x 29 rfl rfl rfl (o_lit' tok rfl rfl rfl rfl rfl rfl (by decide) rfl rfl rfl rfl rfl rfl) ?_
      refine AOps.x 30 rfl rfl rfl (o_append tok (n := k) (m := 1) rfl rfl rfl rfl rfl rfl rfl rfl rfl (by simp) rfl rfl (Nat.zero_lt_succ _) (.lst _ _) (by intro cs h; simp [partVals] at h; subst h; rfl) (fun _ cs h => by simp [partVals] at h; subst h; rfl) rfl (by simp [partVals]; show _ * 24 ≤ _; have := hf.2.2.1; omega) (by simp [partVals]; simp only [maxLen]; have := hf.2.2.1; omega)) ?_
      refine AOps.s 31 rfl rfl rfl (q_fieldAddr tok rfl rfl rfl rfl rfl rfl) ?_
      refine AOps.w rfl rfl (o_store tok rfl rfl rfl rfl rfl rfl rfl rfl rfl (by decide) rfl (by first | exact fun _ => rfl | (intro h; cases h))) ?_
      refine AOps.nil ?_
      refine AGo.region ?_
      refine AOps.s 12 rfl rfl rfl (q_move (.inl rfl) rfl) ?_
      refine AOps.s 13 rfl rfl rfl (q_inc rfl rfl hkl (by simp only [maxLen]; have := hf.2.2.1; omega)) ?_
      refine AOps.s 4 rfl rfl rfl (q_move (.inr rfl) rfl) ?_
      refine AOps.nil ?_
      exact ⟨k+1, Drop.mk' (by repeat (first | exact EDrop.new _ _ | refine EDrop.put ?_ (by rfl) rfl)) (by repeat (first | exact HDrop.none _ _ | exact HDrop.tail _ _ | refine HDrop.put ?_ (by first | rfl | exact congrArg (fun es => some (AObj.row true 1 es)) (by rw [List.replicate_succ', List.map_append]; congr 1; show [[AV.lst false _]] = [[AV.lst false _]]; rw [fill_end (f := boolCells) (by simp : (List.replicate f.regs.toNat true).length = f.regs.toNat) hge2]; rfl)) rfl rfl)), hkl, by omega⟩
  · -- False
    refine AGo.cond_false false rfl rfl ?_
    have hge := ge_of_idx hb1
    obtain rfl : k = f.blocks.length := by omega
    refine AGo.exit ?_
    refine AGo.seq ?_
    refine AGo.ghost (.freezeCell 2 0 0 3 rfl rfl rfl rfl (by simp) (by decide)) ?_
    refine AGo.region ?_
    refine AOps.s 32 rfl rfl rfl (q_load tok rfl rfl rfl (by first | exact .loc _ | exact .ptr _ _ _ _ _ _ _ _ rfl rfl rfl) rfl) ?_
    refine AOps.w rfl rfl (o_store tok rfl rfl rfl rfl rfl rfl rfl rfl rfl (by decide) rfl (by first | exact fun _ => rfl | (intro h; cases h))) ?_
    refine AOps.nil ?_
    refine AGo.ret ?_
    refine ⟨[_], ⟨⟨_, _, _, _, rfl, rfl, .ptr _ _ _ _ _ _ _ _ rfl rfl rfl, rfl⟩, trivial⟩, ?_, rfl⟩
    show AV.agg [.lst false _] = AV.agg [.lst false _]
    rw [List.drop_zero, List.take_of_length_le (by simp)] <;> rfl

set_option maxRecDepth 100000 in
theorem rfoldOf_ok (f : BFunc) (hf : f.mild) (hin : ∀ x ∈ f.blocks, ∀ t ∈ x.ins, t.inR f.regs) : APure Try.prog 12 [.agg f.cells] (fun r => r = .tup [.agg f.fold.cells, .agg f.all.cells]) := by
  refine APure.of_body (n := 37) tok Try.func12 rfl rfl ?_
  refine AGo.seq ?_
  refine AGo.region ?_
  refine AOps.x 1 rfl rfl rfl (o_box (sz := 2) 0 rfl rfl rfl rfl (Nat.zero_lt_succ _) rfl) ?_
  refine AOps.x 2 rfl rfl rfl (o_alloc tok 1 rfl rfl rfl rfl (Nat.zero_lt_succ _) rfl) ?_
  refine AOps.x 3 rfl rfl rfl (o_alloc tok 2 rfl rfl rfl rfl (Nat.zero_lt_succ _) rfl) ?_
  refine AOps.nil ?_
  refine AGo.seq ?_
  refine AGo.region ?_
  refine AOps.s 7 rfl rfl rfl (q_fieldAddr tok rfl rfl rfl rfl rfl rfl) ?_
  refine AOps.s 8 rfl rfl rfl (q_load tok rfl rfl rfl (by first | exact .loc _ | exact .ptr _ _ _ _ _ _ _ _ rfl rfl rfl) rfl) ?_
  refine AOps.s 9 rfl rfl rfl (q_build tok rfl rfl rfl rfl rfl (by decide) rfl rfl rfl) ?_
  refine AOps.x 4 rfl rfl rfl (o_alloc tok 3 rfl rfl rfl rfl (Nat.zero_lt_succ _) rfl) ?_
  refine AOps.w rfl rfl (o_store tok rfl rfl rfl rfl rfl rfl rfl rfl rfl (by decide) rfl (by first | exact fun _ => rfl | (intro h; cases h))) ?_
  refine AOps.nil ?_
  refine AGo.seq ?_
  refine AGo.seq ?_
  refine AGo.ghost (.dryCell 3 0 1 4 5 true rfl rfl rfl rfl rfl (by decide)) ?_
  refine AGo.region ?_
  refine AOps.s 5 rfl rfl rfl (q_move (.inr rfl) rfl) ?_
  refine AOps.nil ?_
  refine AGo.block ?_
  refine AGo.loopD (γ := Nat) 5 (fun k => ⟨37, (eput (eput (eput (eput (eput eNew 1 (.ptr 0 1 0 0)) 2 (.ptr 1 1 0 0)) 3 (.ptr 2 1 0 0)) 4 (.ptr 3 1 0 0)) 5 (.int .i64 (k : Int))), (hput (hput (hput (hput (hput (hFrom 5) 0 (.row false 2 [f.cells])) 1 (.row false 2 [[.int .i64 0, .nil]])) 2 (.row false 1 [[.nil]])) 3 (.row false 2 [[.int .i64 f.regs, .ref 4 k 0 k]])) 4 (.row true 5 (((f.blocks.map Block.fold).take k).map Block.cells)))⟩) (fun k => k ≤ f.blocks.length) (fun k => f.blocks.length - k) 0 (Sub.mk' (by repeat (first | exact ESub.new _ | refine ESub.put ?_ (by rfl))) (by repeat (first | exact HSub.none _ | exact HSub.from_new _ | exact HSub.from_from (by decide) | refine HSub.put ?_ (by rfl) | refine HSub.from_put ?_ (by decide)))) (Nat.zero_le _) (fun _ => hput_free (hput_free (hput_free (hput_free (hput_free (fun b hb => hFrom_free hb) rfl) rfl) rfl) rfl) rfl) ?_
  intro k hk
  refine AGo.seq ?_
  refine AGo.seq ?_
  refine AGo.region ?_
  refine AOps.s 10 rfl rfl rfl (q_move (.inl rfl) rfl) ?_
  refine AOps.s 11 rfl rfl rfl (q_fieldAddr tok rfl rfl rfl rfl rfl rfl) ?_
  refine AOps.s 12 rfl rfl rfl (q_load tok rfl rfl rfl (by first | exact .loc _ | exact .ptr _ _ _ _ _ _ _ _ rfl rfl rfl) rfl) ?_
  refine AOps.s 13 rfl rfl rfl (q_len tok rfl rfl rfl rfl rfl) ?_
  refine AOps.s 14 rfl rfl rfl (q_bin rfl rfl rfl rfl) ?_
  refine AOps.nil ?_
  refine AGo.split 14 rfl (fun hb1 => ?_) (fun hb1 => ?_)
  · -- True
    refine AGo.cond_true true rfl rfl ?_
    have hkl : k < f.blocks.length := lt_of_idx hb1
    obtain ⟨x, hx⟩ := get_of_lt hkl
    have hxm := List.mem_of_getElem? hx
    refine AGo.skip ?_
    refine AGo.seq ?_
    refine AGo.block ?_
    refine AGo.seq ?_
    refine AGo.region ?_
    refine AOps.s 17 rfl rfl rfl (q_fieldAddr tok rfl rfl rfl rfl rfl rfl) ?_
    refine AOps.s 18 rfl rfl rfl (q_load tok rfl rfl rfl (by first | exact .loc _ | exact .ptr _ _ _ _ _ _ _ _ rfl rfl rfl) rfl) ?_
    refine AOps.s 19 rfl rfl rfl (q_move (.inl rfl) rfl) ?_
    refine AOps.s 20 rfl rfl rfl (q_index_lst tok rfl rfl rfl rfl rfl rfl (Int.natCast_nonneg _) (idx_map (by assumption)) rfl) ?_
    refine AOps.s 21 rfl rfl rfl (q_load tok rfl rfl rfl (by first | exact .loc _ | exact .ptr _ _ _ _ _ _ _ _ rfl rfl rfl) rfl) ?_
    refine AOps.x 6 rfl rfl rfl (o_alloc tok 5 rfl rfl rfl rfl (Nat.zero_lt_succ _) rfl) ?_
    refine AOps.w rfl rfl (o_store tok rfl rfl rfl rfl rfl rfl rfl rfl rfl (by decide) rfl (by first | exact fun _ => rfl | (intro h; cases h))) ?_
    refine AOps.nil ?_
    refine AGo.seq ?_
    refine AGo.region ?_
    refine AOps.s 22 rfl rfl rfl (q_fieldAddr tok rfl rfl rfl rfl rfl rfl) ?_
    refine AOps.s 23 rfl rfl rfl (q_load tok rfl rfl rfl (by first | exact .loc _ | exact .ptr _ _ _ _ _ _ _ _ rfl rfl rfl) rfl) ?_
    refine AOps.s 24 rfl rfl rfl (q_fieldAddr tok rfl rfl rfl rfl rfl rfl) ?_
    refine AOps.s 25 rfl rfl rfl (q_load tok rfl rfl rfl (by first | exact .loc _ | exact .ptr _ _ _ _ _ _ _ _ rfl rfl rfl) rfl) ?_
    refine AOps.x 26 rfl rfl rfl (o_pure rfl Try.func19 (by kernel_rfl) rfl rfl rfl (ins_ok x.ins f.regs (hf.2.2.2 x hxm).2 (hf.2.2.2 x hxm).1 hf.1 hf.2.1 (hin x hxm))) ?_
    refine AOps.s 27 rfl rfl rfl (q_fieldAddr tok rfl rfl rfl rfl rfl rfl) ?_
    refine AOps.w rfl rfl (o_store tok rfl rfl rfl rfl rfl rfl rfl rfl rfl (by decide) rfl (by first | exact fun _ => rfl | (intro h; cases h))) ?_
    refine AOps.nil ?_
    refine AGo.region ?_
    refine AOps.s 28 rfl rfl rfl (q_fieldAddr tok rfl rfl rfl rfl rfl rfl) ?_
    refine AOps.s 29 rfl rfl rfl (q_load tok rfl rfl rfl (by first | exact .loc _ | exact .ptr _ _ _ _ _ _ _ _ rfl rfl rfl) rfl) ?_
    refine AOps.s 30 rfl rfl rfl (q_load tok rfl rfl rfl (by first | exact .loc _ | exact .ptr _ _ _ _ _ _ _ _ rfl rfl rfl) rfl) ?_
    refine AOps.x 31 rfl rfl rfl (o_lit' tok rfl rfl rfl rfl rfl rfl (by decide) rfl rfl rfl rfl rfl rfl) ?_
    refine AOps.x 32 rfl rfl rfl (o_append tok (n := k) (m := 1) rfl rfl rfl rfl rfl rfl rfl rfl rfl (by simp; omega) rfl rfl (Nat.zero_lt_succ _) (.lst _ _) (by intro cs h; simp [partVals] at h; subst h; rfl) (fun _ cs h => by simp [partVals] at h; subst h; rfl) rfl (by simp [partVals]; show _ * 56 ≤ _; have := hf.2.2.1; omega) (by simp [partVals]; simp only [maxLen]; have := hf.2.2.1; omega)) ?_
    refine AOps.s 33 rfl rfl rfl (q_fieldAddr tok rfl rfl rfl rfl rfl rfl) ?_
    refine AOps.w rfl rfl (o_store tok rfl rfl rfl rfl rfl rfl rfl rfl rfl (by decide) rfl (by first | exact fun _ => rfl | (intro h; cases h))) ?_
    refine AOps.nil ?_
    refine AGo.region ?_
    refine AOps.s 15 rfl rfl rfl (q_move (.inl rfl) rfl) ?_
    refine AOps.s 16 rfl rfl rfl (q_inc rfl rfl hkl (by simp only [maxLen]; have := hf.2.2.1; omega)) ?_
    refine AOps.s 5 rfl rfl rfl (q_move (.inr rfl) rfl) ?_
    refine AOps.nil ?_
    exact ⟨k+1, Drop.mk' (by repeat (first | exact EDrop.new _ _ | refine EDrop.put ?_ (by rfl) rfl)) (by repeat (first | exact HDrop.none _ _ | exact HDrop.tail _ _ | refine HDrop.put ?_ (by first | rfl | exact congrArg (fun es => some (AObj.row true 5 es)) (by rw [take_succ_eq (fold_get hx), List.map_append]; rfl)) rfl rfl)), hkl, by omega⟩
  · -- False
    refine AGo.cond_false false rfl rfl ?_
    have hge := ge_of_idx hb1
    obtain rfl : k = f.blocks.length := by omega
    refine AGo.exit ?_
    refine AGo.seq ?_
    refine AGo.ghost (.freezeCell 3 0 1 4 rfl rfl rfl rfl (by simp) (by decide)) ?_
    refine AGo.draw mix ?_
    refine DOps.s 34 rfl rfl rfl (q_load tok rfl rfl rfl (by first | exact .loc _ | exact .ptr _ _ _ _ _ _ _ _ rfl rfl rfl) rfl) ?_
    refine DOps.s 35 rfl rfl rfl (q_load tok rfl rfl rfl (by first | exact .loc _ | exact .ptr _ _ _ _ _ _ _ _ rfl rfl rfl) rfl) ?_
    refine DOps.x 36 rfl rfl rfl (o_pure rfl Try.func20 (by kernel_rfl) rfl rfl rfl (rall_ok _ hf)) ?_
    refine DOps.w rfl rfl (o_store tok rfl rfl rfl rfl rfl rfl rfl rfl rfl (by decide) rfl (by first | exact fun _ => rfl | (intro h; cases h))) ?_
    refine DOps.w rfl rfl (o_store tok rfl rfl rfl rfl rfl rfl rfl rfl rfl (by decide) rfl (by first | exact fun _ => rfl | (intro h; cases h))) ?_
    refine DOps.nil (by kernel_rfl) ?_
    refine AGo.ret ?_
    refine ⟨[_, _], ⟨⟨_, _, _, _, rfl, rfl, .ptr _ _ _ _ _ _ _ _ rfl rfl rfl, rfl⟩, ⟨_, _, _, _, rfl, rfl, .ptr _ _ _ _ _ _ _ _ rfl rfl rfl, rfl⟩, trivial⟩, ?_, rfl⟩
    show AV.tup [.agg [_, .lst false _], .agg _] = _
    rw [List.drop_zero, List.take_of_length_le (by simp), List.take_of_length_le (by simp)] <;> rfl

end Go.Proofs.Ytkccdnincholpaa.Sv
