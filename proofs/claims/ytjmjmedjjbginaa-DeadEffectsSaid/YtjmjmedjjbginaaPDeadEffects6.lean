/-
  The law DeadEffects of the given program answers true for every input, and leaves its arguments as they were. There is no condition. Own work.
  WALKS: printed by a program of our own from the code's tree.
  WALKS: printed by a program of our own from the code's tree.
  WALKS: printed by a program of our own from the code's tree.
  WALKS: printed by a program of our own from the code's tree.
  SMALL LEMMAS FOR THE WALKS OF TIDY: own work, over no program.
  WALKS: printed by a program of our own from the code's tree.
  WALKS: printed by a program of our own from the code's tree.
  WALKS: printed by a program of our own from the code's tree.
  WALKS: printed by a program of our own from the code's tree.
  WALKS: printed by a program of our own from the code's tree.
-/
import Derived.Test.YtjmjmedjjbginaaPDeadEffects3
import Derived.Test.YtjmjmedjjbginaaPDeadEffects5
import Derived.Test.YtjmjmedjjbginaaPDeadEffects4
import Derived.Test.YtjmjmedjjbginaaPDeadEffects2
namespace Go.Proofs.Ytjmjmedjjbginaa.Sv
open Go

set_option maxHeartbeats 2000000 in
set_option maxRecDepth 100000 in
theorem dnote_ok (n R : Nat) (S : SS) (v i p : Nat) (hv : v < R) (hi0 : i < n) (hlast : ∀ j, i < j → S j v = []) (hlen : (S i v).length ≤ 1000000) (hn : n ≤ 100000) (c0 c1 c2 c3 c5 c6 c7 : AV) (r3 r5 r6 r7 : AObj) (r0 r1 : Nat → AObj) : ACall Try.prog 44 [.ptr 2 1 0 0, .int .i64 (v : Int), .int .i64 (i : Int), .int .i64 (p : Int)] (DH [(.row false 8 [[c0, c1, c2, c3, .ref 4 R 0 R, c5, c6, c7]]), r3, (.row false 1 (colF (oR n R S) R)), r5, r6, r7] (F4 r0 r1 (rO4 n R S) (rS4 R S))) (fun r h' => r = .ptr (4 * (v + R * i) + 3 + 16) (noteL (S i v) p).length ((noteL (S i v) p).length - 1) 0 ∧ HSub (putD hNone (DH [(.row false 8 [[c0, c1, c2, c3, .ref 4 R 0 R, c5, c6, c7]]), r3, (.row false 1 (colF (oR n R (setS S i v (noteL (S i v) p))) R)), r5, r6, r7] (F4 r0 r1 (rO4 n R (setS S i v (noteL (S i v) p))) (rS4 R (setS S i v (noteL (S i v) p)))))) h') := by
 have hpl := pastS_len S i v
 have hgl := gsS_len S n v
 refine ACall.of_body (n := 94) tok Try.func44 rfl rfl ?_
 refine AGo.seq ?_
 refine AGo.region ?_
 refine aa 8 ?_
 refine AOps.nil ?_
 refine AGo.seq ?_
 refine AGo.region ?_
 refine am 11 ?_
 refine aq 12 (q_nilCheck rfl rfl rfl) ?_
 refine af 13 tok ?_
 refine al 14 tok ?_
 refine am 15 ?_
 refine aq 16 (q_index_ref tok rfl rfl rfl rfl rfl rfl rfl (colF_len _ _).symm rfl (Int.natCast_nonneg _) (by omega)) ?_
 refine aq 17 (q_load tok rfl rfl rfl (.ptr _ _ _ _ _ _ _ [oR n R S v] rfl (colF_len _ _).symm (by rw [Nat.zero_add, Int.toNat_natCast]; exact colF_get hv)) rfl) ?_
 refine aa 9 ?_
 refine AOps.nil ?_
 refine AGo.seq ?_
 refine AGo.seq ?_
 refine AGo.region ?_
 refine am 18 ?_
 refine aq 19 (q_lenJ tok rfl rfl rfl rfl) ?_
 refine aq 20 (q_bin rfl rfl rfl rfl) ?_
 refine am 21 ?_
 refine AOps.split 21 rfl (fun hb1 => ?_) (fun hb1 => ?_)
 ·
  refine ak 22 ?_
  refine ak 23 ?_
  refine ak 24 ?_
  refine ak 25 ?_
  refine ak 26 ?_
  refine ak 27 ?_
  refine ak 28 ?_
  refine ak 29 ?_
  refine ak 30 ?_
  refine aq 31 (q_pick_true true rfl rfl rfl rfl) ?_
  refine AOps.nil ?_
  refine AGo.join (γ := Unit) (fun _u => ⟨94, (eput (eput (eput (eput (eput eNew 0 (.ptr 2 1 0 0)) 1 (.int .i64 (v : Int))) 2 (.int .i64 (i : Int))) 3 (.int .i64 (p : Int))) 9 (.ref (4 * v + 2 + 16) ((pastS S i v).length + 1) 0 ((pastS S i v).length + 1))), (DH [(.row false 8 [[c0, c1, c2, c3, .ref 4 R 0 R, c5, c6, c7]]), r3, (.row false 1 (colF (oX n R S v i) R)), r5, r6, r7] (F4 r0 r1 (rOX n R S v i (S i v)) (rS4 R S)))⟩) (fun _u => True) ?_ ?_
  ·
   refine AGo.cond_true true rfl rfl ?_
   have hS0 : S i v = [] := by
     first
     | exact note_new2 hi0 hlast hj0 (by omega) (by have h := hb1; simp at h; omega)
     | exact note_new1 hi0 hlast (eq0_zero hb1)
   have hoR : oR n R S v = slA (4 * v + 2 + 16) (pastC R S v i) := by unfold oR; rw [grs_not hi0 hlast hS0]
   rw [hoR]
   refine AGo.seq ?_
   refine AGo.region ?_
   refine am 32 ?_
   refine am 33 ?_
   refine aq 34 (q_build tok rfl rfl rfl rfl rfl (by decide) rfl rfl rfl) ?_
   refine ax 35 (o_lit' tok rfl rfl rfl rfl rfl rfl (by decide) rfl rfl rfl rfl rfl rfl) ?_
   refine ax 36 (o_append1S tok (b := (4 * v + 2 + 16)) (es := pastC R S v i) (x0 := [.int .i64 (i : Int), .nil]) rfl rfl rfl rfl rfl rfl rfl rfl ((fam_hi _ _ _).trans (congrArg some ((rO4_at hv).trans (by rw [grs_not hi0 hlast hS0])))) rfl rfl (Nat.zero_lt_succ _) (.lst _ _) rfl (by rw [pastC_len]; show _ * 32 ≤ _; omega) (by rw [pastC_len]; simp only [maxLen]; omega)) ?_
   refine aa 9 ?_
   refine AOps.nil ?_
   refine AGo.ghost (Ghost.weakRowF (4 * v + 2 + 16) (es' := pastC R S v i ++ [[.int .i64 (i : Int), slA (4 * (v + R * i) + 3 + 16) []]]) (by (try simp only [hputs]); repeat (first | rfl | exact hput_same _ _ _ | refine hput_skip (by exact beq_false_of_ne (by omega)) ?_ | refine hrm_skip (by omega) ?_ | refine (famW_out _ (fun i_ _ => by first | omega | (dsimp only; omega))).trans ?_)) (by simp) (weak_snoc (show WkAll [AV.int .i64 (i : Int), .nil] _ from ⟨Wk.refl _, Wk.nil _, trivial⟩))) ?_
   refine AGo.region ?_
   refine am 37 ?_
   refine aq 38 (q_nilCheck rfl rfl rfl) ?_
   refine af 39 tok ?_
   refine al 40 tok ?_
   refine am 41 ?_
   refine am 42 ?_
   refine aq 43 (q_index_ref tok rfl rfl rfl rfl rfl rfl rfl (colF_len _ _).symm rfl (Int.natCast_nonneg _) (by omega)) ?_
   refine AOps.w rfl rfl (o_store1 tok (p := false) (sz := 1) (es := colF (oR n R S) R) (cs := [oR n R S v]) rfl rfl rfl rfl rfl rfl (by (try simp only [hputs]); repeat (first | rfl | exact hput_same _ _ _ | refine hput_skip (by exact beq_false_of_ne (by omega)) ?_ | refine hrm_skip (by omega) ?_ | refine (famW_out _ (fun i_ _ => by first | omega | (dsimp only; omega))).trans ?_)) (colF_len _ _).symm (by rw [Nat.zero_add, Int.toNat_natCast]; exact colF_get hv) (slA_cells _ _) (by decide) (slA_cell1 _ _) (by intro h; cases h)) ?_
   refine AOps.nil ?_
   exact ⟨(), Sub.mk' (by repeat (first | exact ESub.new _ | refine ESub.put ?_ (by first | rfl | exact congrArg some (oR_has hi0 hlast hS1) | (rw [slA_snoc, pastC_len]; rfl)))) (dh_full rfl rfl rfl (by repeat (first | exact trivial | refine ⟨by first | rfl | exact congrArg (fun es => some (AObj.row false 1 es)) (oX_put (pastC_len _ _ _ _)), ?_⟩)) (fun x_ => by (try simp only [hputs]); (repeat (first | refine hput_skip (by exact beq_false_of_ne (by omega)) ?_ | refine hrm_skip (by omega) ?_)); rw [hput_twice]; exact (hput_hi (fun y_ => fam_hi _ _ _) _ _ x_).trans (congrArg some (rOX_new hS0 x_).symm)) (fun c h1 h2 => by rcases (by omega : c = 8 ∨ c = 9 ∨ c = 10 ∨ c = 11 ∨ c = 12 ∨ c = 13 ∨ c = 14 ∨ c = 15) with rfl | rfl | rfl | rfl | rfl | rfl | rfl | rfl <;> first | rfl | (try simp only [hputs]; repeat (first | rfl | refine hput_skip (by exact beq_false_of_ne (by omega)) ?_ | refine hrm_skip (by omega) ?_)))), trivial⟩
  intro _ _
  refine AGo.seq ?_
  refine AGo.region ?_
  refine am 44 ?_
  refine am 45 ?_
  refine aq 46 (q_len tok rfl rfl rfl rfl rfl) ?_
  refine aq 47 (q_bin (r := .int .i64 (((pastS S i v).length : Nat) : Int)) rfl rfl rfl (sub_1 (L := (pastS S i v).length + 1) (Nat.succ_pos _) (by omega))) ?_
  refine aq 48 (q_index_ref tok rfl rfl rfl rfl rfl rfl ((fam_hi _ _ _).trans (congrArg some (rOX_at))) (by rw [List.length_append, pastC_len]; rfl) rfl (Int.natCast_nonneg _) (by omega)) ?_
  refine aa 10 ?_
  refine AOps.nil ?_
  refine AGo.seq ?_
  refine AGo.seq ?_
  refine AGo.draw mix ?_
  refine dm 49 ?_
  refine dq 50 (q_nilCheck rfl rfl rfl) ?_
  refine df 51 tok ?_
  refine dq 52 (q_load tok rfl rfl rfl (.ptr _ _ _ _ false 2 (pastC R S v i ++ [grX R v i (S i v)]) (grX R v i (S i v)) ((fam_hi _ _ _).trans (congrArg some (rOX_at))) (by rw [List.length_append, pastC_len]; rfl) (by rw [Nat.zero_add, Int.toNat_natCast]; exact past_get)) rfl) ?_
  refine dq 53 (q_lenJ tok rfl rfl rfl rfl) ?_
  refine dq 54 (q_bin rfl rfl rfl rfl) ?_
  refine dm 55 ?_
  refine DOps.split 55 rfl (fun hb2 => ?_) (fun hb2 => ?_)
  ·
   refine dk 56 ?_
   refine dk 57 ?_
   refine dk 58 ?_
   refine dk 59 ?_
   refine dk 60 ?_
   refine dk 61 ?_
   refine dk 62 ?_
   refine dk 63 ?_
   refine dk 64 ?_
   refine dk 65 ?_
   refine dk 66 ?_
   refine dk 67 ?_
   refine dk 68 ?_
   refine dk 69 ?_
   refine dk 70 ?_
   refine dq 71 (q_pick_true true rfl rfl rfl rfl) ?_
   refine DOps.nil (by kernel_rfl) ?_
   refine AGo.join (γ := Unit) (fun _u => ⟨94, (eput eNew 10 (.ptr (4 * v + 2 + 16) ((pastS S i v).length + 1) (0 + (((pastS S i v).length : Nat) : Int).toNat) 0)), (DH [(.row false 8 [[c0, c1, c2, c3, .ref 4 R 0 R, c5, c6, c7]]), r3, (.row false 1 (colF (oX n R S v i) R)), r5, r6, r7] (F4 r0 r1 (rOX n R S v i (noteL (S i v) p)) (rSX R S v i (noteL (S i v) p))))⟩) (fun _u => True) ?_ ?_
   ·
    refine AGo.cond_true true rfl rfl ?_
    have hnl : noteL (S i v) p = S i v ++ [⟨p, false, false⟩] := by
      first
      | exact noteL_new hs0 (by omega) (by have h := hb2; simp at h; omega)
      | (have h0 : (S i v).length = 0 := (by have h := hb2; first | exact eq0_zero h | (rw [List.length_map] at h; exact eq0_zero h)); rw [len_nil h0]; rfl)
    refine AGo.region ?_
    refine am 72 ?_
    refine am 73 ?_
    refine aq 74 (q_nilCheck rfl rfl rfl) ?_
    refine af 75 tok ?_
    refine aq 76 (q_load tok rfl rfl rfl (.ptr _ _ _ _ false 2 (pastC R S v i ++ [grX R v i (S i v)]) (grX R v i (S i v)) ((fam_hi _ _ _).trans (congrArg some (rOX_at))) (by rw [List.length_append, pastC_len]; rfl) (by rw [Nat.zero_add, Int.toNat_natCast]; exact past_get)) rfl) ?_
    refine am 77 ?_
    refine aq 78 (q_build tok rfl rfl rfl rfl rfl (by decide) rfl rfl rfl) ?_
    refine ax 79 (o_lit' tok rfl rfl rfl rfl rfl rfl (by decide) rfl rfl rfl rfl rfl rfl) ?_
    refine ax 80 (o_append1J tok (b := (4 * (v + R * i) + 3 + 16)) (es := (S i v).map siC) rfl rfl rfl rfl rfl rfl rfl rfl ((fam_hi _ _ _).trans (congrArg some (rS4_F hv))) rfl rfl (Nat.zero_lt_succ _) (si_len _) (one_pure fun _ => rfl) rfl rfl (by rw [List.length_map]; show (_ + 1) * 16 ≤ _; omega) (by rw [List.length_map]; simp only [maxLen]; omega)) ?_
    refine aq 81 (q_nilCheck rfl rfl rfl) ?_
    refine af 82 tok ?_
    refine AOps.w rfl rfl (o_store1 tok (p := false) (sz := 2) (es := (pastC R S v i ++ [grX R v i (S i v)])) (cs := grX R v i (S i v)) rfl rfl rfl rfl rfl rfl (by (try simp only [hputs]); (try dsimp only); (repeat (first | refine hput_skip (by exact beq_false_of_ne (by omega)) ?_ | refine hrm_skip (by omega) ?_)); exact (fam_hi _ _ _).trans (congrArg some (rOX_at))) (by rw [List.length_append, pastC_len]; rfl) (by rw [Nat.zero_add, Int.toNat_natCast]; exact past_get) (slA_cells _ _) (by decide) (slA_cell1 _ _) (by intro h; cases h)) ?_
    refine AOps.nil ?_
    exact ⟨(), Sub.mk' (by repeat (first | exact ESub.new _ | refine ESub.put ?_ (by rfl))) (dh_full rfl rfl rfl (by repeat (first | exact trivial | refine ⟨by rfl, ?_⟩)) (fun x_ => by (try simp only [hputs]); rw [hnl]; refine (hput_hi (F := F4 r0 r1 (rOX n R S v i (S i v)) (rSX R S v i (S i v ++ [⟨p, false, false⟩]))) (fun y_ => ?_) _ _ x_).trans (congrArg some ?_); exact (hput_hi (F := F4 r0 r1 (rOX n R S v i (S i v)) (rS4 R S)) (fun z_ => fam_hi _ _ _) _ _ y_).trans (congrArg some (rSX_step (l := S i v) (s := ⟨p, false, false⟩) y_).symm); exact (rOX_step (l := S i v) (grX_snoc (s := ⟨p, false, false⟩)) x_).symm) (fun c h1 h2 => by rcases (by omega : c = 8 ∨ c = 9 ∨ c = 10 ∨ c = 11 ∨ c = 12 ∨ c = 13 ∨ c = 14 ∨ c = 15) with rfl | rfl | rfl | rfl | rfl | rfl | rfl | rfl <;> first | rfl | (try simp only [hputs]; repeat (first | rfl | refine hput_skip (by exact beq_false_of_ne (by omega)) ?_ | refine hrm_skip (by omega) ?_)))), trivial⟩
   intro _ _
   refine AGo.seq ?_
   refine AGo.draw mix ?_
   refine dm 83 ?_
   refine dq 84 (q_nilCheck rfl rfl rfl) ?_
   refine df 85 tok ?_
   refine dq 86 (q_load tok rfl rfl rfl (.ptr _ _ _ _ false 2 (pastC R S v i ++ [grX R v i (noteL (S i v) p)]) (grX R v i (noteL (S i v) p)) ((fam_hi _ _ _).trans (congrArg some (rOX_at))) (by rw [List.length_append, pastC_len]; rfl) (by rw [Nat.zero_add, Int.toNat_natCast]; exact past_get)) rfl) ?_
   refine dm 87 ?_
   refine dq 88 (q_nilCheck rfl rfl rfl) ?_
   refine df 89 tok ?_
   refine dq 90 (q_load tok rfl rfl rfl (.ptr _ _ _ _ false 2 (pastC R S v i ++ [grX R v i (noteL (S i v) p)]) (grX R v i (noteL (S i v) p)) ((fam_hi _ _ _).trans (congrArg some (rOX_at))) (by rw [List.length_append, pastC_len]; rfl) (by rw [Nat.zero_add, Int.toNat_natCast]; exact past_get)) rfl) ?_
   refine dq 91 (q_lenJ tok rfl rfl rfl rfl) ?_
   refine dq 92 (q_bin (r := .int .i64 (((noteL (S i v) p).length - 1 : Nat) : Int)) rfl rfl rfl (by rw [List.length_map]; exact sub_1 (noteL_pos _ _) (by have := noteL_len (S i v) p; omega))) ?_
   refine dq 93 (q_indexJ tok (b := (4 * (v + R * i) + 3 + 16)) (es := (noteL (S i v) p).map siC) rfl rfl rfl rfl rfl rfl ((fam_hi _ _ _).trans (congrArg some (rSX_at))) rfl (Int.natCast_nonneg _) (by rw [List.length_map]; have := noteL_pos (S i v) p; omega)) ?_
   refine da 8 ?_
   refine DOps.nil (by kernel_rfl) ?_
   refine AGo.ret ?_
   refine ⟨[_], ⟨rfl, trivial⟩, ?_, ?_⟩
   · show AV.ptr _ _ _ _ = AV.ptr _ _ _ _
     rw [List.length_map, Int.toNat_natCast]
   · rw [← oX_eq hi0 hlast (noteL_pos _ _), ← rOX_eq hv hi0 hlast (noteL_pos _ _), ← rSX_eq hv]
     exact dh_sub rfl (by repeat (first | exact trivial | refine ⟨by rfl, ?_⟩)) (fun x_ => by dsimp only; exact fam_hi _ _ _)
  ·
   have hs1 : 0 < (S i v).length := by have h := hb2; rw [List.length_map] at h; exact eq0_pos h
   obtain ⟨s0, hs0⟩ := get_of_lt (l := S i v) (k := (S i v).length - 1) (by omega)
   refine dm 56 ?_
   refine dq 57 (q_nilCheck rfl rfl rfl) ?_
   refine df 58 tok ?_
   refine dq 59 (q_load tok rfl rfl rfl (.ptr _ _ _ _ false 2 (pastC R S v i ++ [grX R v i (S i v)]) (grX R v i (S i v)) ((fam_hi _ _ _).trans (congrArg some (rOX_at))) (by rw [List.length_append, pastC_len]; rfl) (by rw [Nat.zero_add, Int.toNat_natCast]; exact past_get)) rfl) ?_
   refine dm 60 ?_
   refine dq 61 (q_nilCheck rfl rfl rfl) ?_
   refine df 62 tok ?_
   refine dq 63 (q_load tok rfl rfl rfl (.ptr _ _ _ _ false 2 (pastC R S v i ++ [grX R v i (S i v)]) (grX R v i (S i v)) ((fam_hi _ _ _).trans (congrArg some (rOX_at))) (by rw [List.length_append, pastC_len]; rfl) (by rw [Nat.zero_add, Int.toNat_natCast]; exact past_get)) rfl) ?_
   refine dq 64 (q_lenJ tok rfl rfl rfl rfl) ?_
   refine dq 65 (q_bin (r := .int .i64 (((S i v).length - 1 : Nat) : Int)) rfl rfl rfl (by rw [List.length_map]; exact sub_1 hs1 (by omega))) ?_
   refine dq 66 (q_indexJ tok (b := (4 * (v + R * i) + 3 + 16)) (es := (S i v).map siC) rfl rfl rfl rfl rfl rfl ((fam_hi _ _ _).trans (congrArg some (rS4_F hv))) rfl (Int.natCast_nonneg _) (by rw [List.length_map]; omega)) ?_
   refine df 67 tok ?_
   refine dq 68 (q_load tok rfl rfl rfl (.ptr _ _ _ _ true 3 ((S i v).map siC) (siC s0) ((fam_hi _ _ _).trans (congrArg some ((rS4_F hv).trans (row_slO hs1)))) rfl (by rw [Int.toNat_natCast, List.getElem?_map, hs0]; rfl)) rfl) ?_
   refine dm 69 ?_
   refine dq 70 (q_bin rfl rfl rfl rfl) ?_
   refine dq 71 (q_pick_false false rfl rfl rfl rfl) ?_
   refine DOps.nil (by kernel_rfl) ?_
   refine AGo.join (γ := Unit) (fun _u => ⟨94, (eput eNew 10 (.ptr (4 * v + 2 + 16) ((pastS S i v).length + 1) (0 + (((pastS S i v).length : Nat) : Int).toNat) 0)), (DH [(.row false 8 [[c0, c1, c2, c3, .ref 4 R 0 R, c5, c6, c7]]), r3, (.row false 1 (colF (oX n R S v i) R)), r5, r6, r7] (F4 r0 r1 (rOX n R S v i (noteL (S i v) p)) (rSX R S v i (noteL (S i v) p))))⟩) (fun _u => True) ?_ ?_
   ·
    refine AGo.split 71 rfl (fun hb3 => ?_) (fun hb3 => ?_)
    ·
     refine AGo.cond_true true rfl rfl ?_
     have hnl : noteL (S i v) p = S i v ++ [⟨p, false, false⟩] := by
       first
       | exact noteL_new hs0 (by omega) (by have h := hb3; simp at h; omega)
       | (have h0 : (S i v).length = 0 := (by have h := hb3; first | exact eq0_zero h | (rw [List.length_map] at h; exact eq0_zero h)); rw [len_nil h0]; rfl)
     refine AGo.region ?_
     refine am 72 ?_
     refine am 73 ?_
     refine aq 74 (q_nilCheck rfl rfl rfl) ?_
     refine af 75 tok ?_
     refine aq 76 (q_load tok rfl rfl rfl (.ptr _ _ _ _ false 2 (pastC R S v i ++ [grX R v i (S i v)]) (grX R v i (S i v)) ((fam_hi _ _ _).trans (congrArg some (rOX_at))) (by rw [List.length_append, pastC_len]; rfl) (by rw [Nat.zero_add, Int.toNat_natCast]; exact past_get)) rfl) ?_
     refine am 77 ?_
     refine aq 78 (q_build tok rfl rfl rfl rfl rfl (by decide) rfl rfl rfl) ?_
     refine ax 79 (o_lit' tok rfl rfl rfl rfl rfl rfl (by decide) rfl rfl rfl rfl rfl rfl) ?_
     refine ax 80 (o_append1J tok (b := (4 * (v + R * i) + 3 + 16)) (es := (S i v).map siC) rfl rfl rfl rfl rfl rfl rfl rfl ((fam_hi _ _ _).trans (congrArg some (rS4_F hv))) rfl rfl (Nat.zero_lt_succ _) (si_len _) (one_pure fun _ => rfl) rfl rfl (by rw [List.length_map]; show (_ + 1) * 16 ≤ _; omega) (by rw [List.length_map]; simp only [maxLen]; omega)) ?_
     refine aq 81 (q_nilCheck rfl rfl rfl) ?_
     refine af 82 tok ?_
     refine AOps.w rfl rfl (o_store1 tok (p := false) (sz := 2) (es := (pastC R S v i ++ [grX R v i (S i v)])) (cs := grX R v i (S i v)) rfl rfl rfl rfl rfl rfl (by (try simp only [hputs]); (try dsimp only); (repeat (first | refine hput_skip (by exact beq_false_of_ne (by omega)) ?_ | refine hrm_skip (by omega) ?_)); exact (fam_hi _ _ _).trans (congrArg some (rOX_at))) (by rw [List.length_append, pastC_len]; rfl) (by rw [Nat.zero_add, Int.toNat_natCast]; exact past_get) (slA_cells _ _) (by decide) (slA_cell1 _ _) (by intro h; cases h)) ?_
     refine AOps.nil ?_
     exact ⟨(), Sub.mk' (by repeat (first | exact ESub.new _ | refine ESub.put ?_ (by rfl))) (dh_full rfl rfl rfl (by repeat (first | exact trivial | refine ⟨by rfl, ?_⟩)) (fun x_ => by (try simp only [hputs]); rw [hnl]; refine (hput_hi (F := F4 r0 r1 (rOX n R S v i (S i v)) (rSX R S v i (S i v ++ [⟨p, false, false⟩]))) (fun y_ => ?_) _ _ x_).trans (congrArg some ?_); exact (hput_hi (F := F4 r0 r1 (rOX n R S v i (S i v)) (rS4 R S)) (fun z_ => fam_hi _ _ _) _ _ y_).trans (congrArg some (rSX_step (l := S i v) (s := ⟨p, false, false⟩) y_).symm); exact (rOX_step (l := S i v) (grX_snoc (s := ⟨p, false, false⟩)) x_).symm) (fun c h1 h2 => by rcases (by omega : c = 8 ∨ c = 9 ∨ c = 10 ∨ c = 11 ∨ c = 12 ∨ c = 13 ∨ c = 14 ∨ c = 15) with rfl | rfl | rfl | rfl | rfl | rfl | rfl | rfl <;> first | rfl | (try simp only [hputs]; repeat (first | rfl | refine hput_skip (by exact beq_false_of_ne (by omega)) ?_ | refine hrm_skip (by omega) ?_)))), trivial⟩
    ·
     refine AGo.cond_false false rfl rfl ?_
     have hnl : noteL (S i v) p = S i v := noteL_old hs0 (by omega) (by have h := hb3; simp at h; omega)
     refine AGo.skip ?_
     exact ⟨(), Sub.mk' (by repeat (first | exact ESub.new _ | refine ESub.put ?_ (by rfl))) (dh_full rfl rfl rfl (by repeat (first | exact trivial | refine ⟨by rfl, ?_⟩)) (fun x_ => (fam_hi _ _ _).trans (congrArg some (by rw [hnl, rSX_self hv]))) (fun c h1 h2 => by rcases (by omega : c = 8 ∨ c = 9 ∨ c = 10 ∨ c = 11 ∨ c = 12 ∨ c = 13 ∨ c = 14 ∨ c = 15) with rfl | rfl | rfl | rfl | rfl | rfl | rfl | rfl <;> first | rfl | (try simp only [hputs]; repeat (first | rfl | refine hput_skip (by exact beq_false_of_ne (by omega)) ?_ | refine hrm_skip (by omega) ?_)))), trivial⟩
   intro _ _
   refine AGo.seq ?_
   refine AGo.draw mix ?_
   refine dm 83 ?_
   refine dq 84 (q_nilCheck rfl rfl rfl) ?_
   refine df 85 tok ?_
   refine dq 86 (q_load tok rfl rfl rfl (.ptr _ _ _ _ false 2 (pastC R S v i ++ [grX R v i (noteL (S i v) p)]) (grX R v i (noteL (S i v) p)) ((fam_hi _ _ _).trans (congrArg some (rOX_at))) (by rw [List.length_append, pastC_len]; rfl) (by rw [Nat.zero_add, Int.toNat_natCast]; exact past_get)) rfl) ?_
   refine dm 87 ?_
   refine dq 88 (q_nilCheck rfl rfl rfl) ?_
   refine df 89 tok ?_
   refine dq 90 (q_load tok rfl rfl rfl (.ptr _ _ _ _ false 2 (pastC R S v i ++ [grX R v i (noteL (S i v) p)]) (grX R v i (noteL (S i v) p)) ((fam_hi _ _ _).trans (congrArg some (rOX_at))) (by rw [List.length_append, pastC_len]; rfl) (by rw [Nat.zero_add, Int.toNat_natCast]; exact past_get)) rfl) ?_
   refine dq 91 (q_lenJ tok rfl rfl rfl rfl) ?_
   refine dq 92 (q_bin (r := .int .i64 (((noteL (S i v) p).length - 1 : Nat) : Int)) rfl rfl rfl (by rw [List.length_map]; exact sub_1 (noteL_pos _ _) (by have := noteL_len (S i v) p; omega))) ?_
   refine dq 93 (q_indexJ tok (b := (4 * (v + R * i) + 3 + 16)) (es := (noteL (S i v) p).map siC) rfl rfl rfl rfl rfl rfl ((fam_hi _ _ _).trans (congrArg some (rSX_at))) rfl (Int.natCast_nonneg _) (by rw [List.length_map]; have := noteL_pos (S i v) p; omega)) ?_
   refine da 8 ?_
   refine DOps.nil (by kernel_rfl) ?_
   refine AGo.ret ?_
   refine ⟨[_], ⟨rfl, trivial⟩, ?_, ?_⟩
   · show AV.ptr _ _ _ _ = AV.ptr _ _ _ _
     rw [List.length_map, Int.toNat_natCast]
   · rw [← oX_eq hi0 hlast (noteL_pos _ _), ← rOX_eq hv hi0 hlast (noteL_pos _ _), ← rSX_eq hv]
     exact dh_sub rfl (by repeat (first | exact trivial | refine ⟨by rfl, ?_⟩)) (fun x_ => by dsimp only; exact fam_hi _ _ _)
 ·
  have hg0 : 0 < (gsS S n v).length := by have h := hb1; rw [grs_len] at h; exact eq0_pos h
  obtain ⟨j0, hj0⟩ := get_of_lt (l := gsS S n v) (k := (gsS S n v).length - 1) (by omega)
  refine am 22 ?_
  refine am 23 ?_
  refine aq 24 (q_lenJ tok rfl rfl rfl rfl) ?_
  refine aq 25 (q_bin (r := .int .i64 (((gsS S n v).length - 1 : Nat) : Int)) rfl rfl rfl (by rw [grs_len]; exact sub_1 hg0 (by omega))) ?_
  refine aq 26 (q_indexP tok rfl rfl rfl rfl rfl rfl ((fam_hi _ _ _).trans (congrArg some (rO4_at hv))) rfl (Int.natCast_nonneg _) (by rw [grs_len]; omega)) ?_
  refine af 27 tok ?_
  refine aq 28 (q_load tok rfl rfl rfl (.ptr _ _ _ _ false 2 (grs n R S v) (grC R S v j0) ((fam_hi _ _ _).trans (congrArg some ((rO4_at hv).trans (slP_at (k := (gsS S n v).length - 1) (by rw [grs_len]; omega))))) rfl (by rw [Int.toNat_natCast]; show ((gsS S n v).map (grC R S v))[_]? = _; rw [List.getElem?_map, hj0]; rfl)) rfl) ?_
  refine am 29 ?_
  refine aq 30 (q_bin rfl rfl rfl rfl) ?_
  refine aq 31 (q_pick_false false rfl rfl rfl rfl) ?_
  refine AOps.nil ?_
  refine AGo.join (γ := Unit) (fun _u => ⟨94, (eput (eput (eput (eput (eput eNew 0 (.ptr 2 1 0 0)) 1 (.int .i64 (v : Int))) 2 (.int .i64 (i : Int))) 3 (.int .i64 (p : Int))) 9 (.ref (4 * v + 2 + 16) ((pastS S i v).length + 1) 0 ((pastS S i v).length + 1))), (DH [(.row false 8 [[c0, c1, c2, c3, .ref 4 R 0 R, c5, c6, c7]]), r3, (.row false 1 (colF (oX n R S v i) R)), r5, r6, r7] (F4 r0 r1 (rOX n R S v i (S i v)) (rS4 R S)))⟩) (fun _u => True) ?_ ?_
  ·
   refine AGo.split 31 rfl (fun hb4 => ?_) (fun hb4 => ?_)
   ·
    refine AGo.cond_true true rfl rfl ?_
    have hS0 : S i v = [] := by
      first
      | exact note_new2 hi0 hlast hj0 (by omega) (by have h := hb4; simp at h; omega)
      | exact note_new1 hi0 hlast (eq0_zero hb4)
    have hoR : oR n R S v = slA (4 * v + 2 + 16) (pastC R S v i) := by unfold oR; rw [grs_not hi0 hlast hS0]
    rw [hoR]
    refine AGo.seq ?_
    refine AGo.region ?_
    refine am 32 ?_
    refine am 33 ?_
    refine aq 34 (q_build tok rfl rfl rfl rfl rfl (by decide) rfl rfl rfl) ?_
    refine ax 35 (o_lit' tok rfl rfl rfl rfl rfl rfl (by decide) rfl rfl rfl rfl rfl rfl) ?_
    refine ax 36 (o_append1S tok (b := (4 * v + 2 + 16)) (es := pastC R S v i) (x0 := [.int .i64 (i : Int), .nil]) rfl rfl rfl rfl rfl rfl rfl rfl ((fam_hi _ _ _).trans (congrArg some ((rO4_at hv).trans (by rw [grs_not hi0 hlast hS0])))) rfl rfl (Nat.zero_lt_succ _) (.lst _ _) rfl (by rw [pastC_len]; show _ * 32 ≤ _; omega) (by rw [pastC_len]; simp only [maxLen]; omega)) ?_
    refine aa 9 ?_
    refine AOps.nil ?_
    refine AGo.ghost (Ghost.weakRowF (4 * v + 2 + 16) (es' := pastC R S v i ++ [[.int .i64 (i : Int), slA (4 * (v + R * i) + 3 + 16) []]]) (by (try simp only [hputs]); repeat (first | rfl | exact hput_same _ _ _ | refine hput_skip (by exact beq_false_of_ne (by omega)) ?_ | refine hrm_skip (by omega) ?_ | refine (famW_out _ (fun i_ _ => by first | omega | (dsimp only; omega))).trans ?_)) (by simp) (weak_snoc (show WkAll [AV.int .i64 (i : Int), .nil] _ from ⟨Wk.refl _, Wk.nil _, trivial⟩))) ?_
    refine AGo.region ?_
    refine am 37 ?_
    refine aq 38 (q_nilCheck rfl rfl rfl) ?_
    refine af 39 tok ?_
    refine al 40 tok ?_
    refine am 41 ?_
    refine am 42 ?_
    refine aq 43 (q_index_ref tok rfl rfl rfl rfl rfl rfl rfl (colF_len _ _).symm rfl (Int.natCast_nonneg _) (by omega)) ?_
    refine AOps.w rfl rfl (o_store1 tok (p := false) (sz := 1) (es := colF (oR n R S) R) (cs := [oR n R S v]) rfl rfl rfl rfl rfl rfl (by (try simp only [hputs]); repeat (first | rfl | exact hput_same _ _ _ | refine hput_skip (by exact beq_false_of_ne (by omega)) ?_ | refine hrm_skip (by omega) ?_ | refine (famW_out _ (fun i_ _ => by first | omega | (dsimp only; omega))).trans ?_)) (colF_len _ _).symm (by rw [Nat.zero_add, Int.toNat_natCast]; exact colF_get hv) (slA_cells _ _) (by decide) (slA_cell1 _ _) (by intro h; cases h)) ?_
    refine AOps.nil ?_
    exact ⟨(), Sub.mk' (by repeat (first | exact ESub.new _ | refine ESub.put ?_ (by first | rfl | exact congrArg some (oR_has hi0 hlast hS1) | (rw [slA_snoc, pastC_len]; rfl)))) (dh_full rfl rfl rfl (by repeat (first | exact trivial | refine ⟨by first | rfl | exact congrArg (fun es => some (AObj.row false 1 es)) (oX_put (pastC_len _ _ _ _)), ?_⟩)) (fun x_ => by (try simp only [hputs]); (repeat (first | refine hput_skip (by exact beq_false_of_ne (by omega)) ?_ | refine hrm_skip (by omega) ?_)); rw [hput_twice]; exact (hput_hi (fun y_ => fam_hi _ _ _) _ _ x_).trans (congrArg some (rOX_new hS0 x_).symm)) (fun c h1 h2 => by rcases (by omega : c = 8 ∨ c = 9 ∨ c = 10 ∨ c = 11 ∨ c = 12 ∨ c = 13 ∨ c = 14 ∨ c = 15) with rfl | rfl | rfl | rfl | rfl | rfl | rfl | rfl <;> first | rfl | (try simp only [hputs]; repeat (first | rfl | refine hput_skip (by exact beq_false_of_ne (by omega)) ?_ | refine hrm_skip (by omega) ?_)))), trivial⟩
   ·
    refine AGo.cond_false false rfl rfl ?_
    have hji : j0 = i := by have h := hb4; simp at h; omega
    rw [hji] at hj0
    have hS1 : 0 < (S i v).length := note_old hi0 hlast hj0
    refine AGo.skip ?_
    exact ⟨(), Sub.mk' (by repeat (first | exact ESub.new _ | refine ESub.put ?_ (by first | rfl | exact congrArg some (oR_has hi0 hlast hS1) | (rw [slA_snoc, pastC_len]; rfl)))) (dh_full rfl rfl rfl (by repeat (first | exact trivial | refine ⟨by first | rfl | exact congrArg (fun es => some (AObj.row false 1 es)) ((oX_self hi0 hlast hS1).symm), ?_⟩)) (fun x_ => (fam_hi _ _ _).trans (congrArg some (by rw [rOX_self hv hi0 hlast hS1]))) (fun c h1 h2 => by rcases (by omega : c = 8 ∨ c = 9 ∨ c = 10 ∨ c = 11 ∨ c = 12 ∨ c = 13 ∨ c = 14 ∨ c = 15) with rfl | rfl | rfl | rfl | rfl | rfl | rfl | rfl <;> first | rfl | (try simp only [hputs]; repeat (first | rfl | refine hput_skip (by exact beq_false_of_ne (by omega)) ?_ | refine hrm_skip (by omega) ?_)))), trivial⟩
  intro _ _
  refine AGo.seq ?_
  refine AGo.region ?_
  refine am 44 ?_
  refine am 45 ?_
  refine aq 46 (q_len tok rfl rfl rfl rfl rfl) ?_
  refine aq 47 (q_bin (r := .int .i64 (((pastS S i v).length : Nat) : Int)) rfl rfl rfl (sub_1 (L := (pastS S i v).length + 1) (Nat.succ_pos _) (by omega))) ?_
  refine aq 48 (q_index_ref tok rfl rfl rfl rfl rfl rfl ((fam_hi _ _ _).trans (congrArg some (rOX_at))) (by rw [List.length_append, pastC_len]; rfl) rfl (Int.natCast_nonneg _) (by omega)) ?_
  refine aa 10 ?_
  refine AOps.nil ?_
  refine AGo.seq ?_
  refine AGo.seq ?_
  refine AGo.draw mix ?_
  refine dm 49 ?_
  refine dq 50 (q_nilCheck rfl rfl rfl) ?_
  refine df 51 tok ?_
  refine dq 52 (q_load tok rfl rfl rfl (.ptr _ _ _ _ false 2 (pastC R S v i ++ [grX R v i (S i v)]) (grX R v i (S i v)) ((fam_hi _ _ _).trans (congrArg some (rOX_at))) (by rw [List.length_append, pastC_len]; rfl) (by rw [Nat.zero_add, Int.toNat_natCast]; exact past_get)) rfl) ?_
  refine dq 53 (q_lenJ tok rfl rfl rfl rfl) ?_
  refine dq 54 (q_bin rfl rfl rfl rfl) ?_
  refine dm 55 ?_
  refine DOps.split 55 rfl (fun hb5 => ?_) (fun hb5 => ?_)
  ·
   refine dk 56 ?_
   refine dk 57 ?_
   refine dk 58 ?_
   refine dk 59 ?_
   refine dk 60 ?_
   refine dk 61 ?_
   refine dk 62 ?_
   refine dk 63 ?_
   refine dk 64 ?_
   refine dk 65 ?_
   refine dk 66 ?_
   refine dk 67 ?_
   refine dk 68 ?_
   refine dk 69 ?_
   refine dk 70 ?_
   refine dq 71 (q_pick_true true rfl rfl rfl rfl) ?_
   refine DOps.nil (by kernel_rfl) ?_
   refine AGo.join (γ := Unit) (fun _u => ⟨94, (eput eNew 10 (.ptr (4 * v + 2 + 16) ((pastS S i v).length + 1) (0 + (((pastS S i v).length : Nat) : Int).toNat) 0)), (DH [(.row false 8 [[c0, c1, c2, c3, .ref 4 R 0 R, c5, c6, c7]]), r3, (.row false 1 (colF (oX n R S v i) R)), r5, r6, r7] (F4 r0 r1 (rOX n R S v i (noteL (S i v) p)) (rSX R S v i (noteL (S i v) p))))⟩) (fun _u => True) ?_ ?_
   ·
    refine AGo.cond_true true rfl rfl ?_
    have hnl : noteL (S i v) p = S i v ++ [⟨p, false, false⟩] := by
      first
      | exact noteL_new hs0 (by omega) (by have h := hb5; simp at h; omega)
      | (have h0 : (S i v).length = 0 := (by have h := hb5; first | exact eq0_zero h | (rw [List.length_map] at h; exact eq0_zero h)); rw [len_nil h0]; rfl)
    refine AGo.region ?_
    refine am 72 ?_
    refine am 73 ?_
    refine aq 74 (q_nilCheck rfl rfl rfl) ?_
    refine af 75 tok ?_
    refine aq 76 (q_load tok rfl rfl rfl (.ptr _ _ _ _ false 2 (pastC R S v i ++ [grX R v i (S i v)]) (grX R v i (S i v)) ((fam_hi _ _ _).trans (congrArg some (rOX_at))) (by rw [List.length_append, pastC_len]; rfl) (by rw [Nat.zero_add, Int.toNat_natCast]; exact past_get)) rfl) ?_
    refine am 77 ?_
    refine aq 78 (q_build tok rfl rfl rfl rfl rfl (by decide) rfl rfl rfl) ?_
    refine ax 79 (o_lit' tok rfl rfl rfl rfl rfl rfl (by decide) rfl rfl rfl rfl rfl rfl) ?_
    refine ax 80 (o_append1J tok (b := (4 * (v + R * i) + 3 + 16)) (es := (S i v).map siC) rfl rfl rfl rfl rfl rfl rfl rfl ((fam_hi _ _ _).trans (congrArg some (rS4_F hv))) rfl rfl (Nat.zero_lt_succ _) (si_len _) (one_pure fun _ => rfl) rfl rfl (by rw [List.length_map]; show (_ + 1) * 16 ≤ _; omega) (by rw [List.length_map]; simp only [maxLen]; omega)) ?_
    refine aq 81 (q_nilCheck rfl rfl rfl) ?_
    refine af 82 tok ?_
    refine AOps.w rfl rfl (o_store1 tok (p := false) (sz := 2) (es := (pastC R S v i ++ [grX R v i (S i v)])) (cs := grX R v i (S i v)) rfl rfl rfl rfl rfl rfl (by (try simp only [hputs]); (try dsimp only); (repeat (first | refine hput_skip (by exact beq_false_of_ne (by omega)) ?_ | refine hrm_skip (by omega) ?_)); exact (fam_hi _ _ _).trans (congrArg some (rOX_at))) (by rw [List.length_append, pastC_len]; rfl) (by rw [Nat.zero_add, Int.toNat_natCast]; exact past_get) (slA_cells _ _) (by decide) (slA_cell1 _ _) (by intro h; cases h)) ?_
    refine AOps.nil ?_
    exact ⟨(), Sub.mk' (by repeat (first | exact ESub.new _ | refine ESub.put ?_ (by rfl))) (dh_full rfl rfl rfl (by repeat (first | exact trivial | refine ⟨by rfl, ?_⟩)) (fun x_ => by (try simp only [hputs]); rw [hnl]; refine (hput_hi (F := F4 r0 r1 (rOX n R S v i (S i v)) (rSX R S v i (S i v ++ [⟨p, false, false⟩]))) (fun y_ => ?_) _ _ x_).trans (congrArg some ?_); exact (hput_hi (F := F4 r0 r1 (rOX n R S v i (S i v)) (rS4 R S)) (fun z_ => fam_hi _ _ _) _ _ y_).trans (congrArg some (rSX_step (l := S i v) (s := ⟨p, false, false⟩) y_).symm); exact (rOX_step (l := S i v) (grX_snoc (s := ⟨p, false, false⟩)) x_).symm) (fun c h1 h2 => by rcases (by omega : c = 8 ∨ c = 9 ∨ c = 10 ∨ c = 11 ∨ c = 12 ∨ c = 13 ∨ c = 14 ∨ c = 15) with rfl | rfl | rfl | rfl | rfl | rfl | rfl | rfl <;> first | rfl | (try simp only [hputs]; repeat (first | rfl | refine hput_skip (by exact beq_false_of_ne (by omega)) ?_ | refine hrm_skip (by omega) ?_)))), trivial⟩
   intro _ _
   refine AGo.seq ?_
   refine AGo.draw mix ?_
   refine dm 83 ?_
   refine dq 84 (q_nilCheck rfl rfl rfl) ?_
   refine df 85 tok ?_
   refine dq 86 (q_load tok rfl rfl rfl (.ptr _ _ _ _ false 2 (pastC R S v i ++ [grX R v i (noteL (S i v) p)]) (grX R v i (noteL (S i v) p)) ((fam_hi _ _ _).trans (congrArg some (rOX_at))) (by rw [List.length_append, pastC_len]; rfl) (by rw [Nat.zero_add, Int.toNat_natCast]; exact past_get)) rfl) ?_
   refine dm 87 ?_
   refine dq 88 (q_nilCheck rfl rfl rfl) ?_
   refine df 89 tok ?_
   refine dq 90 (q_load tok rfl rfl rfl (.ptr _ _ _ _ false 2 (pastC R S v i ++ [grX R v i (noteL (S i v) p)]) (grX R v i (noteL (S i v) p)) ((fam_hi _ _ _).trans (congrArg some (rOX_at))) (by rw [List.length_append, pastC_len]; rfl) (by rw [Nat.zero_add, Int.toNat_natCast]; exact past_get)) rfl) ?_
   refine dq 91 (q_lenJ tok rfl rfl rfl rfl) ?_
   refine dq 92 (q_bin (r := .int .i64 (((noteL (S i v) p).length - 1 : Nat) : Int)) rfl rfl rfl (by rw [List.length_map]; exact sub_1 (noteL_pos _ _) (by have := noteL_len (S i v) p; omega))) ?_
   refine dq 93 (q_indexJ tok (b := (4 * (v + R * i) + 3 + 16)) (es := (noteL (S i v) p).map siC) rfl rfl rfl rfl rfl rfl ((fam_hi _ _ _).trans (congrArg some (rSX_at))) rfl (Int.natCast_nonneg _) (by rw [List.length_map]; have := noteL_pos (S i v) p; omega)) ?_
   refine da 8 ?_
   refine DOps.nil (by kernel_rfl) ?_
   refine AGo.ret ?_
   refine ⟨[_], ⟨rfl, trivial⟩, ?_, ?_⟩
   · show AV.ptr _ _ _ _ = AV.ptr _ _ _ _
     rw [List.length_map, Int.toNat_natCast]
   · rw [← oX_eq hi0 hlast (noteL_pos _ _), ← rOX_eq hv hi0 hlast (noteL_pos _ _), ← rSX_eq hv]
     exact dh_sub rfl (by repeat (first | exact trivial | refine ⟨by rfl, ?_⟩)) (fun x_ => by dsimp only; exact fam_hi _ _ _)
  ·
   have hs1 : 0 < (S i v).length := by have h := hb5; rw [List.length_map] at h; exact eq0_pos h
   obtain ⟨s0, hs0⟩ := get_of_lt (l := S i v) (k := (S i v).length - 1) (by omega)
   refine dm 56 ?_
   refine dq 57 (q_nilCheck rfl rfl rfl) ?_
   refine df 58 tok ?_
   refine dq 59 (q_load tok rfl rfl rfl (.ptr _ _ _ _ false 2 (pastC R S v i ++ [grX R v i (S i v)]) (grX R v i (S i v)) ((fam_hi _ _ _).trans (congrArg some (rOX_at))) (by rw [List.length_append, pastC_len]; rfl) (by rw [Nat.zero_add, Int.toNat_natCast]; exact past_get)) rfl) ?_
   refine dm 60 ?_
   refine dq 61 (q_nilCheck rfl rfl rfl) ?_
   refine df 62 tok ?_
   refine dq 63 (q_load tok rfl rfl rfl (.ptr _ _ _ _ false 2 (pastC R S v i ++ [grX R v i (S i v)]) (grX R v i (S i v)) ((fam_hi _ _ _).trans (congrArg some (rOX_at))) (by rw [List.length_append, pastC_len]; rfl) (by rw [Nat.zero_add, Int.toNat_natCast]; exact past_get)) rfl) ?_
   refine dq 64 (q_lenJ tok rfl rfl rfl rfl) ?_
   refine dq 65 (q_bin (r := .int .i64 (((S i v).length - 1 : Nat) : Int)) rfl rfl rfl (by rw [List.length_map]; exact sub_1 hs1 (by omega))) ?_
   refine dq 66 (q_indexJ tok (b := (4 * (v + R * i) + 3 + 16)) (es := (S i v).map siC) rfl rfl rfl rfl rfl rfl ((fam_hi _ _ _).trans (congrArg some (rS4_F hv))) rfl (Int.natCast_nonneg _) (by rw [List.length_map]; omega)) ?_
   refine df 67 tok ?_
   refine dq 68 (q_load tok rfl rfl rfl (.ptr _ _ _ _ true 3 ((S i v).map siC) (siC s0) ((fam_hi _ _ _).trans (congrArg some ((rS4_F hv).trans (row_slO hs1)))) rfl (by rw [Int.toNat_natCast, List.getElem?_map, hs0]; rfl)) rfl) ?_
   refine dm 69 ?_
   refine dq 70 (q_bin rfl rfl rfl rfl) ?_
   refine dq 71 (q_pick_false false rfl rfl rfl rfl) ?_
   refine DOps.nil (by kernel_rfl) ?_
   refine AGo.join (γ := Unit) (fun _u => ⟨94, (eput eNew 10 (.ptr (4 * v + 2 + 16) ((pastS S i v).length + 1) (0 + (((pastS S i v).length : Nat) : Int).toNat) 0)), (DH [(.row false 8 [[c0, c1, c2, c3, .ref 4 R 0 R, c5, c6, c7]]), r3, (.row false 1 (colF (oX n R S v i) R)), r5, r6, r7] (F4 r0 r1 (rOX n R S v i (noteL (S i v) p)) (rSX R S v i (noteL (S i v) p))))⟩) (fun _u => True) ?_ ?_
   ·
    refine AGo.split 71 rfl (fun hb6 => ?_) (fun hb6 => ?_)
    ·
     refine AGo.cond_true true rfl rfl ?_
     have hnl : noteL (S i v) p = S i v ++ [⟨p, false, false⟩] := by
       first
       | exact noteL_new hs0 (by omega) (by have h := hb6; simp at h; omega)
       | (have h0 : (S i v).length = 0 := (by have h := hb6; first | exact eq0_zero h | (rw [List.length_map] at h; exact eq0_zero h)); rw [len_nil h0]; rfl)
     refine AGo.region ?_
     refine am 72 ?_
     refine am 73 ?_
     refine aq 74 (q_nilCheck rfl rfl rfl) ?_
     refine af 75 tok ?_
     refine aq 76 (q_load tok rfl rfl rfl (.ptr _ _ _ _ false 2 (pastC R S v i ++ [grX R v i (S i v)]) (grX R v i (S i v)) ((fam_hi _ _ _).trans (congrArg some (rOX_at))) (by rw [List.length_append, pastC_len]; rfl) (by rw [Nat.zero_add, Int.toNat_natCast]; exact past_get)) rfl) ?_
     refine am 77 ?_
     refine aq 78 (q_build tok rfl rfl rfl rfl rfl (by decide) rfl rfl rfl) ?_
     refine ax 79 (o_lit' tok rfl rfl rfl rfl rfl rfl (by decide) rfl rfl rfl rfl rfl rfl) ?_
     refine ax 80 (o_append1J tok (b := (4 * (v + R * i) + 3 + 16)) (es := (S i v).map siC) rfl rfl rfl rfl rfl rfl rfl rfl ((fam_hi _ _ _).trans (congrArg some (rS4_F hv))) rfl rfl (Nat.zero_lt_succ _) (si_len _) (one_pure fun _ => rfl) rfl rfl (by rw [List.length_map]; show (_ + 1) * 16 ≤ _; omega) (by rw [List.length_map]; simp only [maxLen]; omega)) ?_
     refine aq 81 (q_nilCheck rfl rfl rfl) ?_
     refine af 82 tok ?_
     refine AOps.w rfl rfl (o_store1 tok (p := false) (sz := 2) (es := (pastC R S v i ++ [grX R v i (S i v)])) (cs := grX R v i (S i v)) rfl rfl rfl rfl rfl rfl (by (try simp only [hputs]); (try dsimp only); (repeat (first | refine hput_skip (by exact beq_false_of_ne (by omega)) ?_ | refine hrm_skip (by omega) ?_)); exact (fam_hi _ _ _).trans (congrArg some (rOX_at))) (by rw [List.length_append, pastC_len]; rfl) (by rw [Nat.zero_add, Int.toNat_natCast]; exact past_get) (slA_cells _ _) (by decide) (slA_cell1 _ _) (by intro h; cases h)) ?_
     refine AOps.nil ?_
     exact ⟨(), Sub.mk' (by repeat (first | exact ESub.new _ | refine ESub.put ?_ (by rfl))) (dh_full rfl rfl rfl (by repeat (first | exact trivial | refine ⟨by rfl, ?_⟩)) (fun x_ => by (try simp only [hputs]); rw [hnl]; refine (hput_hi (F := F4 r0 r1 (rOX n R S v i (S i v)) (rSX R S v i (S i v ++ [⟨p, false, false⟩]))) (fun y_ => ?_) _ _ x_).trans (congrArg some ?_); exact (hput_hi (F := F4 r0 r1 (rOX n R S v i (S i v)) (rS4 R S)) (fun z_ => fam_hi _ _ _) _ _ y_).trans (congrArg some (rSX_step (l := S i v) (s := ⟨p, false, false⟩) y_).symm); exact (rOX_step (l := S i v) (grX_snoc (s := ⟨p, false, false⟩)) x_).symm) (fun c h1 h2 => by rcases (by omega : c = 8 ∨ c = 9 ∨ c = 10 ∨ c = 11 ∨ c = 12 ∨ c = 13 ∨ c = 14 ∨ c = 15) with rfl | rfl | rfl | rfl | rfl | rfl | rfl | rfl <;> first | rfl | (try simp only [hputs]; repeat (first | rfl | refine hput_skip (by exact beq_false_of_ne (by omega)) ?_ | refine hrm_skip (by omega) ?_)))), trivial⟩
    ·
     refine AGo.cond_false false rfl rfl ?_
     have hnl : noteL (S i v) p = S i v := noteL_old hs0 (by omega) (by have h := hb6; simp at h; omega)
     refine AGo.skip ?_
     exact ⟨(), Sub.mk' (by repeat (first | exact ESub.new _ | refine ESub.put ?_ (by rfl))) (dh_full rfl rfl rfl (by repeat (first | exact trivial | refine ⟨by rfl, ?_⟩)) (fun x_ => (fam_hi _ _ _).trans (congrArg some (by rw [hnl, rSX_self hv]))) (fun c h1 h2 => by rcases (by omega : c = 8 ∨ c = 9 ∨ c = 10 ∨ c = 11 ∨ c = 12 ∨ c = 13 ∨ c = 14 ∨ c = 15) with rfl | rfl | rfl | rfl | rfl | rfl | rfl | rfl <;> first | rfl | (try simp only [hputs]; repeat (first | rfl | refine hput_skip (by exact beq_false_of_ne (by omega)) ?_ | refine hrm_skip (by omega) ?_)))), trivial⟩
   intro _ _
   refine AGo.seq ?_
   refine AGo.draw mix ?_
   refine dm 83 ?_
   refine dq 84 (q_nilCheck rfl rfl rfl) ?_
   refine df 85 tok ?_
   refine dq 86 (q_load tok rfl rfl rfl (.ptr _ _ _ _ false 2 (pastC R S v i ++ [grX R v i (noteL (S i v) p)]) (grX R v i (noteL (S i v) p)) ((fam_hi _ _ _).trans (congrArg some (rOX_at))) (by rw [List.length_append, pastC_len]; rfl) (by rw [Nat.zero_add, Int.toNat_natCast]; exact past_get)) rfl) ?_
   refine dm 87 ?_
   refine dq 88 (q_nilCheck rfl rfl rfl) ?_
   refine df 89 tok ?_
   refine dq 90 (q_load tok rfl rfl rfl (.ptr _ _ _ _ false 2 (pastC R S v i ++ [grX R v i (noteL (S i v) p)]) (grX R v i (noteL (S i v) p)) ((fam_hi _ _ _).trans (congrArg some (rOX_at))) (by rw [List.length_append, pastC_len]; rfl) (by rw [Nat.zero_add, Int.toNat_natCast]; exact past_get)) rfl) ?_
   refine dq 91 (q_lenJ tok rfl rfl rfl rfl) ?_
   refine dq 92 (q_bin (r := .int .i64 (((noteL (S i v) p).length - 1 : Nat) : Int)) rfl rfl rfl (by rw [List.length_map]; exact sub_1 (noteL_pos _ _) (by have := noteL_len (S i v) p; omega))) ?_
   refine dq 93 (q_indexJ tok (b := (4 * (v + R * i) + 3 + 16)) (es := (noteL (S i v) p).map siC) rfl rfl rfl rfl rfl rfl ((fam_hi _ _ _).trans (congrArg some (rSX_at))) rfl (Int.natCast_nonneg _) (by rw [List.length_map]; have := noteL_pos (S i v) p; omega)) ?_
   refine da 8 ?_
   refine DOps.nil (by kernel_rfl) ?_
   refine AGo.ret ?_
   refine ⟨[_], ⟨rfl, trivial⟩, ?_, ?_⟩
   · show AV.ptr _ _ _ _ = AV.ptr _ _ _ _
     rw [List.length_map, Int.toNat_natCast]
   · rw [← oX_eq hi0 hlast (noteL_pos _ _), ← rOX_eq hv hi0 hlast (noteL_pos _ _), ← rSX_eq hv]
     exact dh_sub rfl (by repeat (first | exact trivial | refine ⟨by rfl, ?_⟩)) (fun x_ => by dsimp only; exact fam_hi _ _ _)

end Go.Proofs.Ytjmjmedjjbginaa.Sv

namespace Go.Proofs.Ytjmjmedjjbginaa.Sv
open Go

set_option maxHeartbeats 4000000 in
set_option maxRecDepth 100000 in
theorem newSearch_ok (f : BFunc) (hs : f.sane) (R : Nat) (hRf : f.regs = (R : Int)) (hR : R ≤ 100000) (hn : f.blocks.length ≤ 100000) (hi : ∀ x ∈ f.blocks, x.ins.length ≤ 100000) : ACall Try.prog 26 [.agg f.cells] hNew (fun r h' => r = .ptr 2 1 0 0 ∧ HSub (putD hNone (DH (DSL f R (SB f) ((List.range R).map natC) (R) (fun b => decide (b < R))) (DF f R (SB f) G0))) h') := by
 refine ACall.of_body (n := 152) tok Try.func26 rfl rfl ?_
 refine AGo.seq ?_
 refine AGo.region ?_
 refine ax 1 (o_box (sz := 2) 0 rfl rfl rfl rfl (Nat.zero_lt_succ _) rfl) ?_
 refine aa 2 ?_
 refine AOps.nil ?_
 refine AGo.seq ?_
 refine AGo.draw mix ?_
 refine dl 16 tok ?_
 refine dl 17 tok ?_
 refine dx 18 (o_pure rfl Try.func42 (by kernel_rfl) rfl rfl rfl (next_ok _ (by assumption))) ?_
 refine df 19 tok ?_
 refine dl 20 tok ?_
 refine dq 21 (q_len tok rfl rfl rfl rfl rfl) ?_
 refine dx 22 (o_makeSlice tok (n := f.blocks.length) (m := f.blocks.length) 3 false rfl rfl rfl (by simp) (by simp) rfl rfl rfl rfl rfl (Nat.zero_lt_succ _) rfl (Nat.le_refl _) (by show 24 * f.blocks.length ≤ _; omega) (by simp only [maxLen]; omega)) ?_
 refine df 23 tok ?_
 refine dl 24 tok ?_
 refine dx 25 (o_makeSlice tok (n := R) (m := R) 4 false rfl rfl rfl hRf hRf rfl rfl rfl rfl rfl (Nat.zero_lt_succ _) rfl (Nat.le_refl _) (by show 24 * R ≤ _; omega) (by simp only [maxLen]; omega)) ?_
 refine df 26 tok ?_
 refine dl 27 tok ?_
 refine dq 28 (q_len tok rfl rfl rfl rfl rfl) ?_
 refine dx 29 (o_makeSlice tok (n := f.blocks.length) (m := f.blocks.length) 5 false rfl rfl rfl (by simp) (by simp) rfl rfl rfl rfl rfl (Nat.zero_lt_succ _) rfl (Nat.le_refl _) (by show 24 * f.blocks.length ≤ _; omega) (by simp only [maxLen]; omega)) ?_
 refine dq 30 (q_build tok rfl rfl rfl rfl rfl (by decide) rfl rfl rfl) ?_
 refine dx 31 (o_box (sz := 8) 2 rfl rfl rfl rfl (Nat.zero_lt_succ _) rfl) ?_
 refine da 3 ?_
 refine DOps.nil (by kernel_rfl) ?_
 refine AGo.seq ?_
 refine AGo.seq ?_
 refine AGo.ghost (Ghost.weakRowF 3 (es' := colF (aR (fun _ => [])) f.blocks.length) rfl (by rw [colF_len, List.length_replicate]) (weak_col fun b => Wk.nil _)) ?_
 refine AGo.ghost (Ghost.weakRowF 4 (es' := colF (oR f.blocks.length R S0) R) rfl (by rw [colF_len, List.length_replicate]) (weak_col fun b => by rw [oR_none]; exact Wk.nil _)) ?_
 refine AGo.region ?_
 refine am 32 ?_
 refine aq 33 (q_nilCheck rfl rfl rfl) ?_
 refine af 34 tok ?_
 refine al 35 tok ?_
 refine aq 36 (q_len tok rfl rfl rfl rfl rfl) ?_
 refine am 37 ?_
 refine AOps.nil ?_
 refine AGo.block ?_
 refine AGo.loopK (γ := Nat) (kf 8) (fun k => ⟨152, (eput (eput (eput (eput (eput eNew 1 (.ptr 0 1 0 0)) 3 (.ptr 2 1 0 0)) 35 (pathsAV f.nexts)) 36 (.int .i64 (f.blocks.length : Int))) 37 (.int .i64 (k : Int))), (fam (nb [(.row false 2 [f.cells]), .free, (.row false 8 [NSc f R]), (.row false 1 (colF (aR (aheadP f k 0)) f.blocks.length)), (.row false 1 (colF (oR f.blocks.length R S0) R)), (.row false 1 (colF (gK f 0) f.blocks.length)), .free, .free]) (F4 (rA4 f.blocks.length (aheadP f k 0)) (rG4 f 0 G0) (rO4 f.blocks.length R S0) (rS4 R S0)))⟩) (fun k => k ≤ f.blocks.length) (fun k => f.blocks.length - k) 0 (Sub.mk' (by repeat (first | exact ESub.new _ | refine ESub.put ?_ (by first | rfl | exact congrArg (fun m : Nat => some (AV.int .i64 (m : Int))) ((List.length_map _).trans (nexts_length f)) | exact congrArg (fun (n : Nat) => some (AV.int .i64 (n : Int))) (by simp)))) (famSub (k0 := 8) rfl (by repeat (first | exact trivial | refine ⟨⟨by first | rfl | exact congrArg (fun A => some (AObj.row false 1 (colF (aR A) f.blocks.length))) (funext fun c => (aheadP_zero f 0 c).symm) | exact congrArg (fun es => some (AObj.row false 1 es)) (gK_zero f f.blocks.length), by first | rfl | exact colF_avoid (fun _ _ => aR_avoid (kf_hi' _) _ _) | exact colF_avoid (fun _ _ => oR_avoid (kf_hi' _) _ _ _ _) | exact colF_avoid (fun _ _ => gK_avoid (kf_hi' _) _ _ _)⟩, ?_⟩)) (fun x_ => by rw [rA4_congr (aheadP_zero f 0)]; (try simp only [hputs]); (repeat (first | refine hput_skip (by exact beq_false_of_ne (by omega)) ?_ | refine hrm_skip (by omega) ?_)); exact congrArg some F4_start.symm) (fun c h1 h2 => by rcases (by omega : c = 8 ∨ c = 9 ∨ c = 10 ∨ c = 11 ∨ c = 12 ∨ c = 13 ∨ c = 14 ∨ c = 15) with rfl | rfl | rfl | rfl | rfl | rfl | rfl | rfl <;> first | rfl | (try simp only [hputs]; repeat (first | rfl | refine hput_skip (by exact beq_false_of_ne (by omega)) ?_ | refine hrm_skip (by omega) ?_))))) (Nat.zero_le _) (fun g b hb => famFree (k0 := 8) rfl hb) ?_
 intro k hk
 refine AGo.seq ?_
 refine AGo.region ?_
 refine aq 38 (q_bin rfl rfl rfl rfl) ?_
 refine AOps.nil ?_
 refine AGo.seq ?_
 refine AGo.split 38 rfl (fun hb1 => ?_) (fun hb1 => ?_)
 ·
  refine AGo.cond_true true rfl rfl ?_
  have hkl : k < f.blocks.length := by have h := hb1; simp at h; exact h
  obtain ⟨x, hx⟩ := get_of_lt hkl
  have hxm := List.mem_of_getElem? hx
  refine AGo.skip ?_
  refine AGo.seq ?_
  refine AGo.block ?_
  refine AGo.seq ?_
  refine AGo.region ?_
  refine am 39 ?_
  refine aq 40 (q_index_lst tok rfl rfl rfl rfl rfl rfl (Int.natCast_nonneg _) (idx_map (nexts_get hx)) rfl) ?_
  refine al 41 tok ?_
  refine aa 4 ?_
  refine aa 5 ?_
  refine AOps.nil ?_
  refine AGo.seq ?_
  refine AGo.region ?_
  refine am 42 ?_
  refine aq 43 (q_len tok rfl rfl rfl rfl rfl) ?_
  refine am 44 ?_
  refine AOps.nil ?_
  refine AGo.block ?_
  refine AGo.loopK (γ := Nat) (kf 8) (fun j => ⟨152, (eput (eput (eput (eput (eput (eput (eput (eput (eput eNew 1 (.ptr 0 1 0 0)) 3 (.ptr 2 1 0 0)) 35 (pathsAV f.nexts)) 36 (.int .i64 (f.blocks.length : Int))) 37 (.int .i64 (k : Int))) 4 (.int .i64 (k : Int))) 42 (intsAV x.nexts)) 43 (.int .i64 (x.nexts.length : Int))) 44 (.int .i64 (j : Int))), (fam (nb [(.row false 2 [f.cells]), .free, (.row false 8 [NSc f R]), (.row false 1 (colF (aR (aheadP f k j)) f.blocks.length)), (.row false 1 (colF (oR f.blocks.length R S0) R)), (.row false 1 (colF (gK f 0) f.blocks.length)), .free, .free]) (F4 (rA4 f.blocks.length (aheadP f k j)) (rG4 f 0 G0) (rO4 f.blocks.length R S0) (rS4 R S0)))⟩) (fun j => True) (fun j => x.nexts.length - j) 0 (Sub.mk' (by repeat (first | exact ESub.new _ | refine ESub.put ?_ (by first | rfl | exact congrArg (fun (n : Nat) => some (AV.int .i64 (n : Int))) (by simp)))) (famSub (k0 := 8) rfl (by repeat (first | exact trivial | refine ⟨⟨by rfl, by first | rfl | exact colF_avoid (fun _ _ => aR_avoid (kf_hi' _) _ _) | exact colF_avoid (fun _ _ => oR_avoid (kf_hi' _) _ _ _ _) | exact colF_avoid (fun _ _ => gK_avoid (kf_hi' _) _ _ _)⟩, ?_⟩)) (fun x_ => by (try simp only [hputs]); repeat (first | exact fam_hi _ _ _ | refine hput_skip (by exact beq_false_of_ne (by omega)) ?_ | refine hrm_skip (by omega) ?_)) (fun c h1 h2 => by rcases (by omega : c = 8 ∨ c = 9 ∨ c = 10 ∨ c = 11 ∨ c = 12 ∨ c = 13 ∨ c = 14 ∨ c = 15) with rfl | rfl | rfl | rfl | rfl | rfl | rfl | rfl <;> first | rfl | (try simp only [hputs]; repeat (first | rfl | refine hput_skip (by exact beq_false_of_ne (by omega)) ?_ | refine hrm_skip (by omega) ?_))))) trivial (fun g b hb => famFree (k0 := 8) rfl hb) ?_
  intro j _
  refine AGo.seq ?_
  refine AGo.region ?_
  refine aq 45 (q_bin rfl rfl rfl rfl) ?_
  refine AOps.nil ?_
  refine AGo.seq ?_
  refine AGo.split 45 rfl (fun hb2 => ?_) (fun hb2 => ?_)
  ·
   refine AGo.cond_true true rfl rfl ?_
   have hjl : j < x.nexts.length := by have h := hb2; simp [intsAV] at h; exact h
   obtain ⟨d, hd⟩ := get_of_lt hjl
   have hd0 := hs.next x hxm d (List.mem_of_getElem? hd)
   have hdn : d.toNat < f.blocks.length := by omega
   refine AGo.skip ?_
   refine AGo.seq ?_
   refine AGo.block ?_
   refine AGo.seq ?_
   refine AGo.region ?_
   refine aq 46 (q_index_lst tok rfl rfl rfl rfl rfl rfl (Int.natCast_nonneg _) (idx_map hd) rfl) ?_
   refine al 47 tok ?_
   refine aa 7 ?_
   refine AOps.nil ?_
   refine AGo.draw mix ?_
   refine dm 48 ?_
   refine dq 49 (q_nilCheck rfl rfl rfl) ?_
   refine df 50 tok ?_
   refine dl 51 tok ?_
   refine dm 52 ?_
   refine dm 53 ?_
   refine dq 54 (q_nilCheck rfl rfl rfl) ?_
   refine df 55 tok ?_
   refine dl 56 tok ?_
   refine dm 57 ?_
   refine dq 58 (q_index_ref tok rfl rfl rfl rfl rfl rfl rfl (colF_len _ _).symm rfl hd0.1 (by omega)) ?_
   refine dq 59 (q_load tok rfl rfl rfl (.ptr _ _ _ _ _ _ _ [aR (aheadP f k j) d.toNat] rfl (colF_len _ _).symm (by rw [Nat.zero_add]; exact colF_get hdn)) rfl) ?_
   refine dm 60 ?_
   refine dx 61 (o_lit' tok rfl rfl rfl rfl rfl rfl (by decide) rfl rfl rfl rfl rfl rfl) ?_
   refine dx 62 (o_append1J tok (b := 4 * d.toNat + 0 + 16) (es := (aheadP f k j d.toNat).map natC) rfl rfl rfl rfl rfl rfl rfl rfl ((fam_hi _ _ _).trans (congrArg some (rA4_0 hdn))) rfl rfl (Nat.zero_lt_succ _) (one_len fun _ => rfl) (one_pure fun _ => rfl) rfl rfl (by rw [List.length_map]; have := aheadP_len f k j d.toNat; show (_ + 1) * 8 ≤ _; omega) (by rw [List.length_map]; have := aheadP_len f k j d.toNat; simp only [maxLen]; omega)) ?_
   refine dq 63 (q_index_ref tok rfl rfl rfl rfl rfl rfl (by (try simp only [hputs]); repeat (first | rfl | exact hput_same _ _ _ | refine hput_skip (by exact beq_false_of_ne (by omega)) ?_ | refine hrm_skip (by omega) ?_ | refine (famW_out _ (fun i_ _ => by first | omega | (dsimp only; omega))).trans ?_)) (colF_len _ _).symm rfl hd0.1 (by omega)) ?_
   refine DOps.w rfl rfl (o_store1 tok (p := false) (sz := 1) (es := colF (aR (aheadP f k j)) f.blocks.length) (cs := [aR (aheadP f k j) d.toNat]) rfl rfl rfl rfl rfl rfl (by (try simp only [hputs]); repeat (first | rfl | exact hput_same _ _ _ | refine hput_skip (by exact beq_false_of_ne (by omega)) ?_ | refine hrm_skip (by omega) ?_ | refine (famW_out _ (fun i_ _ => by first | omega | (dsimp only; omega))).trans ?_)) (colF_len _ _).symm (by rw [Nat.zero_add]; exact colF_get hdn) (slA_cells _ _) (by decide) (slA_cell1 _ _) (by intro h; cases h)) ?_
   refine DOps.nilC cls4 [([],[]), ([],[]), ([],[]), ([2],[]), ([],[]), ([],[]), ([],[]), ([],[]), ([2],[]), ([],[]), ([3],[]), ([3],[]), ([],[]), ([],[]), ([16],[16]), ([3],[]), ([3],[3])] (by repeat (first | exact trivial | refine ⟨(by first | exact cls_nil _ _ | exact (show clsIn cls4 [2] [2] from cls_one (by decide)) | exact (show clsIn cls4 [3] [3] from cls_one (by decide)) | exact (show clsIn cls4 [4] [4] from cls_one (by decide)) | exact (show clsIn cls4 [5] [5] from cls_one (by decide)) | exact (show clsIn cls4 [6] [6] from cls_one (by decide)) | exact (show clsIn cls4 [7] [7] from cls_one (by decide)) | exact (show clsIn cls4 [8] [8] from cls_one (by decide)) | exact (show clsIn cls4 [9] [9] from cls_one (by decide)) | exact (show clsIn cls4 [10] [10] from cls_one (by decide)) | exact (show clsIn cls4 [11] [11] from cls_one (by decide)) | exact (show clsIn cls4 [12] [12] from cls_one (by decide)) | exact (show clsIn cls4 [13] [13] from cls_one (by decide)) | exact (show clsIn cls4 [14] [14] from cls_one (by decide)) | exact (show clsIn cls4 [15] [15] from cls_one (by decide)) | exact cls_one (by decide) | exact cls_two (by decide) (by decide) | exact cls_one (by first | rw [cls4_0]; decide | rw [cls4_1]; decide | rw [cls4_2]; decide | rw [cls4_3]; decide)), (by first | exact cls_nil _ _ | exact (show clsIn cls4 [2] [2] from cls_one (by decide)) | exact (show clsIn cls4 [3] [3] from cls_one (by decide)) | exact (show clsIn cls4 [4] [4] from cls_one (by decide)) | exact (show clsIn cls4 [5] [5] from cls_one (by decide)) | exact (show clsIn cls4 [6] [6] from cls_one (by decide)) | exact (show clsIn cls4 [7] [7] from cls_one (by decide)) | exact (show clsIn cls4 [8] [8] from cls_one (by decide)) | exact (show clsIn cls4 [9] [9] from cls_one (by decide)) | exact (show clsIn cls4 [10] [10] from cls_one (by decide)) | exact (show clsIn cls4 [11] [11] from cls_one (by decide)) | exact (show clsIn cls4 [12] [12] from cls_one (by decide)) | exact (show clsIn cls4 [13] [13] from cls_one (by decide)) | exact (show clsIn cls4 [14] [14] from cls_one (by decide)) | exact (show clsIn cls4 [15] [15] from cls_one (by decide)) | exact cls_one (by decide) | exact cls_two (by decide) (by decide) | exact cls_one (by first | rw [cls4_0]; decide | rw [cls4_1]; decide | rw [cls4_2]; decide | rw [cls4_3]; decide)), ?_⟩)) (by kernel_rfl) ?_
   refine AGo.region ?_
   refine aq 64 (q_inc rfl rfl hjl (by simp only [maxLen]; have := nexts_le2 x; omega)) ?_
   refine am 44 ?_
   refine AOps.nil ?_
   exact ⟨j+1, DropK.mk' (by repeat (first | exact EDropK.new _ _ | refine EDropK.put ?_ (by rfl) (by first | rfl))) (famDrop (k0 := 8) rfl (by repeat (first | exact trivial | refine ⟨⟨by first | rfl | exact congrArg (fun es => some (AObj.row false 1 es)) (aR_put (aheadP_succ hx hd hd0.1)), by first | rfl | exact colF_avoid (fun _ _ => aR_avoid (kf_hi' _) _ _) | exact colF_avoid (fun _ _ => oR_avoid (kf_hi' _) _ _ _ _) | exact colF_avoid (fun _ _ => gK_avoid (kf_hi' _) _ _ _)⟩, ?_⟩)) (fun x_ => by (try simp only [hputs]); (repeat (first | refine hput_skip (by exact beq_false_of_ne (by omega)) ?_ | refine hrm_skip (by omega) ?_)); exact (hput_hi (fun y_ => by (try simp only [hputs]); repeat (first | exact fam_hi _ _ _ | refine hput_skip (by exact beq_false_of_ne (by omega)) ?_ | refine hrm_skip (by omega) ?_)) _ _ x_).trans (congrArg some (rA4_put hdn (aheadP_succ hx hd hd0.1) x_).symm)) (F4_avoid (fun _ => rA4_avoid _) (fun _ => rG4_avoid _) (fun _ => rO4_avoid (kf_hi' _) _) (fun _ => rS4_avoid _))), trivial, by omega⟩
  ·
   refine AGo.cond_false false rfl rfl ?_
   have hjge : x.nexts.length ≤ j := by have h := hb2; simp [intsAV] at h; omega
   refine AGo.exit ?_
   refine AGo.region ?_
   refine aq 65 (q_inc rfl rfl hkl (by simp only [maxLen]; omega)) ?_
   refine am 37 ?_
   refine AOps.nil ?_
   exact ⟨k+1, DropK.mk' (by repeat (first | exact EDropK.new _ _ | refine EDropK.put ?_ (by rfl) (by first | rfl))) (famDrop (k0 := 8) rfl (by repeat (first | exact trivial | refine ⟨⟨by first | rfl | exact congrArg (fun A => some (AObj.row false 1 (colF (aR A) f.blocks.length))) (funext (aheadP_next hx hjge)), by first | rfl | exact colF_avoid (fun _ _ => aR_avoid (kf_hi' _) _ _) | exact colF_avoid (fun _ _ => oR_avoid (kf_hi' _) _ _ _ _) | exact colF_avoid (fun _ _ => gK_avoid (kf_hi' _) _ _ _)⟩, ?_⟩)) (fun x_ => by rw [← rA4_congr (aheadP_next hx hjge)]; exact fam_hi _ _ _) (F4_avoid (fun _ => rA4_avoid _) (fun _ => rG4_avoid _) (fun _ => rO4_avoid (kf_hi' _) _) (fun _ => rS4_avoid _))), hkl, by omega⟩
 ·
  refine AGo.cond_false false rfl rfl ?_
  have hge : f.blocks.length ≤ k := by have h := hb1; simp at h; omega
  refine AGo.exit ?_
  refine AGo.seq ?_
  refine AGo.seq ?_
  have hkn : k = f.blocks.length := by omega
  subst hkn
  rw [show aheadP f f.blocks.length 0 = aheadL f from funext fun c => aheadP_zero f _ c, phS_start f]
  refine AGo.region ?_
  refine af 66 tok ?_
  refine al 67 tok ?_
  refine aq 68 (q_len tok rfl rfl rfl rfl rfl) ?_
  refine am 69 ?_
  refine AOps.nil ?_
  refine AGo.block ?_
  refine AGo.loopK (γ := Nat) (kf 8) (fun k => ⟨152, (eput (eput (eput (eput (eput eNew 1 (.ptr 0 1 0 0)) 3 (.ptr 2 1 0 0)) 67 (blocksAV f.blocks)) 68 (.int .i64 (f.blocks.length : Int))) 69 (.int .i64 (k : Int))), (fam (nb [(.row false 2 [f.cells]), .free, (.row false 8 [NSc f R]), (.row false 1 (colF (aR (aheadL f)) f.blocks.length)), (.row false 1 (colF (oR f.blocks.length R (phS f k (fun _ => []))) R)), (.row false 1 (colF (gK f k) f.blocks.length)), .free, .free]) (NSF f R (phS f k (fun _ => [])) k))⟩) (fun k => k ≤ f.blocks.length) (fun k => f.blocks.length - k) 0 (Sub.mk' (by repeat (first | exact ESub.new _ | refine ESub.put ?_ (by first | rfl | exact congrArg (fun (n : Nat) => some (AV.int .i64 (n : Int))) (by simp)))) (famSub (k0 := 8) rfl (by repeat (first | exact trivial | refine ⟨⟨by rfl, by first | rfl | exact colF_avoid (fun _ _ => aR_avoid (kf_hi' _) _ _) | exact colF_avoid (fun _ _ => oR_avoid (kf_hi' _) _ _ _ _) | exact colF_avoid (fun _ _ => gK_avoid (kf_hi' _) _ _ _)⟩, ?_⟩)) (fun x_ => by (try simp only [hputs]); repeat (first | exact fam_hi _ _ _ | refine hput_skip (by exact beq_false_of_ne (by omega)) ?_ | refine hrm_skip (by omega) ?_)) (fun c h1 h2 => by rcases (by omega : c = 8 ∨ c = 9 ∨ c = 10 ∨ c = 11 ∨ c = 12 ∨ c = 13 ∨ c = 14 ∨ c = 15) with rfl | rfl | rfl | rfl | rfl | rfl | rfl | rfl <;> first | rfl | (try simp only [hputs]; repeat (first | rfl | refine hput_skip (by exact beq_false_of_ne (by omega)) ?_ | refine hrm_skip (by omega) ?_))))) (Nat.zero_le _) (fun g b hb => famFree (k0 := 8) rfl hb) ?_
  intro k hk
  refine AGo.seq ?_
  refine AGo.region ?_
  refine aq 70 (q_bin rfl rfl rfl rfl) ?_
  refine AOps.nil ?_
  refine AGo.seq ?_
  refine AGo.split 70 rfl (fun hb3 => ?_) (fun hb3 => ?_)
  ·
   refine AGo.cond_true true rfl rfl ?_
   have hkl : k < f.blocks.length := by have h := hb3; simp at h; exact h
   obtain ⟨x, hx⟩ := get_of_lt hkl
   have hxm := List.mem_of_getElem? hx
   have hix := hi x hxm
   refine AGo.skip ?_
   refine AGo.seq ?_
   refine AGo.block ?_
   refine AGo.seq ?_
   refine AGo.region ?_
   refine am 71 ?_
   refine aq 72 (q_index_lst tok rfl rfl rfl rfl rfl rfl (Int.natCast_nonneg _) (idx_map hx) rfl) ?_
   refine al 73 tok ?_
   refine ax 9 (o_alloc tok 8 rfl rfl rfl rfl (Nat.zero_lt_succ _) rfl) ?_
   refine aa 8 ?_
   refine AOps.w rfl rfl (o_store tok rfl rfl rfl rfl rfl rfl rfl rfl rfl (by decide) rfl (by first | exact fun _ => rfl | (intro h; cases h))) ?_
   refine AOps.nil ?_
   refine AGo.seq ?_
   refine AGo.draw mix ?_
   refine dm 74 ?_
   refine dq 75 (q_nilCheck rfl rfl rfl) ?_
   refine df 76 tok ?_
   refine dl 77 tok ?_
   refine dm 78 ?_
   refine df 79 tok ?_
   refine dl 80 tok ?_
   refine dq 81 (q_len tok rfl rfl rfl rfl rfl) ?_
   refine dx 82 (o_makeSlice tok (n := x.ins.length) (m := x.ins.length) (4 * k + 1 + 16) true rfl rfl rfl (by simp) (by simp) rfl rfl rfl (by (try simp only [hputs]); (repeat (first | refine hput_skip (by exact beq_false_of_ne (by omega)) ?_ | refine hrm_skip (by omega) ?_)); exact (fam_hi _ _ _).trans (congrArg some rG4_new)) rfl (Nat.zero_lt_succ _) rfl (Nat.le_refl _) (by show 1 * x.ins.length ≤ _; omega) (by simp only [maxLen]; omega)) ?_
   refine dq 83 (q_index_ref tok rfl rfl rfl rfl rfl rfl (by (try simp only [hputs]); repeat (first | rfl | exact hput_same _ _ _ | refine hput_skip (by exact beq_false_of_ne (by omega)) ?_ | refine hrm_skip (by omega) ?_ | refine (famW_out _ (fun i_ _ => by first | omega | (dsimp only; omega))).trans ?_)) (colF_len _ _).symm rfl (Int.natCast_nonneg _) (by omega)) ?_
   refine DOps.w rfl rfl (o_store1 tok (p := false) (sz := 1) (es := colF (gK f k) f.blocks.length) (cs := [gK f k k]) rfl rfl rfl rfl rfl rfl (by (try simp only [hputs]); repeat (first | rfl | exact hput_same _ _ _ | refine hput_skip (by exact beq_false_of_ne (by omega)) ?_ | refine hrm_skip (by omega) ?_ | refine (famW_out _ (fun i_ _ => by first | omega | (dsimp only; omega))).trans ?_)) (colF_len _ _).symm (by rw [Nat.zero_add, Int.toNat_natCast]; exact colF_get hkl) rfl (by decide) rfl (by intro h; cases h)) ?_
   refine DOps.nilC cls4 [([],[]), ([],[]), ([],[]), ([2],[]), ([],[]), ([],[]), ([8],[]), ([],[]), ([17],[17]), ([5],[]), ([5],[5])] (by repeat (first | exact trivial | refine ⟨(by first | exact cls_nil _ _ | exact (show clsIn cls4 [2] [2] from cls_one (by decide)) | exact (show clsIn cls4 [3] [3] from cls_one (by decide)) | exact (show clsIn cls4 [4] [4] from cls_one (by decide)) | exact (show clsIn cls4 [5] [5] from cls_one (by decide)) | exact (show clsIn cls4 [6] [6] from cls_one (by decide)) | exact (show clsIn cls4 [7] [7] from cls_one (by decide)) | exact (show clsIn cls4 [8] [8] from cls_one (by decide)) | exact (show clsIn cls4 [9] [9] from cls_one (by decide)) | exact (show clsIn cls4 [10] [10] from cls_one (by decide)) | exact (show clsIn cls4 [11] [11] from cls_one (by decide)) | exact (show clsIn cls4 [12] [12] from cls_one (by decide)) | exact (show clsIn cls4 [13] [13] from cls_one (by decide)) | exact (show clsIn cls4 [14] [14] from cls_one (by decide)) | exact (show clsIn cls4 [15] [15] from cls_one (by decide)) | exact cls_one (by decide) | exact cls_two (by decide) (by decide) | exact cls_one (by first | rw [cls4_0]; decide | rw [cls4_1]; decide | rw [cls4_2]; decide | rw [cls4_3]; decide)), (by first | exact cls_nil _ _ | exact (show clsIn cls4 [2] [2] from cls_one (by decide)) | exact (show clsIn cls4 [3] [3] from cls_one (by decide)) | exact (show clsIn cls4 [4] [4] from cls_one (by decide)) | exact (show clsIn cls4 [5] [5] from cls_one (by decide)) | exact (show clsIn cls4 [6] [6] from cls_one (by decide)) | exact (show clsIn cls4 [7] [7] from cls_one (by decide)) | exact (show clsIn cls4 [8] [8] from cls_one (by decide)) | exact (show clsIn cls4 [9] [9] from cls_one (by decide)) | exact (show clsIn cls4 [10] [10] from cls_one (by decide)) | exact (show clsIn cls4 [11] [11] from cls_one (by decide)) | exact (show clsIn cls4 [12] [12] from cls_one (by decide)) | exact (show clsIn cls4 [13] [13] from cls_one (by decide)) | exact (show clsIn cls4 [14] [14] from cls_one (by decide)) | exact (show clsIn cls4 [15] [15] from cls_one (by decide)) | exact cls_one (by decide) | exact cls_two (by decide) (by decide) | exact cls_one (by first | rw [cls4_0]; decide | rw [cls4_1]; decide | rw [cls4_2]; decide | rw [cls4_3]; decide)), ?_⟩)) (by kernel_rfl) ?_
   refine AGo.seq ?_
   refine AGo.seq ?_
   refine AGo.region ?_
   refine af 84 tok ?_
   refine aq 85 (q_load tok rfl rfl rfl (.ptr _ _ _ _ _ _ _ _ (by (try simp only [hputs]); repeat (first | rfl | exact hput_same _ _ _ | refine hput_skip (by exact beq_false_of_ne (by omega)) ?_ | refine hrm_skip (by omega) ?_ | refine (famW_out _ (fun i_ _ => by first | omega | (dsimp only; omega))).trans ?_)) rfl rfl) rfl) ?_
   refine aq 86 (q_len tok rfl rfl rfl rfl rfl) ?_
   refine am 87 ?_
   refine AOps.nil ?_
   refine AGo.block ?_
   refine AGo.loopK (γ := Nat) (kf 9) (fun j => ⟨152, (eput (eput (eput (eput (eput (eput (eput (eput (eput (eput eNew 1 (.ptr 0 1 0 0)) 3 (.ptr 2 1 0 0)) 67 (blocksAV f.blocks)) 68 (.int .i64 (f.blocks.length : Int))) 69 (.int .i64 (k : Int))) 8 (.int .i64 (k : Int))) 9 (.ptr 8 1 0 0)) 85 (insAV x.ins)) 86 (.int .i64 (x.ins.length : Int))) 87 (.int .i64 (j : Int))), (fam (nb [(.row false 2 [f.cells]), .free, (.row false 8 [NSc f R]), (.row false 1 (colF (aR (aheadL f)) f.blocks.length)), (.row false 1 (colF (oR f.blocks.length R (phS f k (curU x j []))) R)), (.row false 1 (colF (gK f (k + 1)) f.blocks.length)), .free, .free, (.row false 5 [x.cells])]) (NSF f R (phS f k (curU x j [])) (k + 1)))⟩) (fun j => j ≤ x.ins.length) (fun j => x.ins.length - j) 0 (Sub.mk' (by repeat (first | exact ESub.new _ | refine ESub.put ?_ (by first | rfl | exact congrArg (fun (n : Nat) => some (AV.int .i64 (n : Int))) (by simp)))) (famSub (k0 := 9) rfl (by repeat (first | exact trivial | refine ⟨⟨by first | rfl | exact congrArg (fun S => some (AObj.row false 1 (colF (oR _ R S) R))) (phS_first f k x) | exact congrArg (fun es => some (AObj.row false 1 es)) (gK_put (insLen_eq hx)) | ((try simp only [hputs]); repeat (first | rfl | exact hput_same _ _ _ | refine hput_skip (by exact beq_false_of_ne (by omega)) ?_ | refine hrm_skip (by omega) ?_ | refine (famW_out _ (fun i_ _ => by first | omega | (dsimp only; omega))).trans ?_)), by first | rfl | exact colF_avoid (fun _ _ => aR_avoid (kf_hi' _) _ _) | exact colF_avoid (fun _ _ => oR_avoid (kf_hi' _) _ _ _ _) | exact colF_avoid (fun _ _ => gK_avoid (kf_hi' _) _ _ _)⟩, ?_⟩)) (fun x_ => by (try simp only [hputs]); rw [← phS_first f k x]; (repeat (first | refine hput_skip (by exact beq_false_of_ne (by omega)) ?_ | refine hrm_skip (by omega) ?_)); exact (hput_hi (fun y_ => by (try simp only [hputs]); (repeat (first | refine hput_skip (by exact beq_false_of_ne (by omega)) ?_ | refine hrm_skip (by omega) ?_)); exact fam_hi _ _ _) _ _ x_).trans (congrArg some (rG4_succ (insLen_eq hx) x_).symm)) (fun c h1 h2 => by rcases (by omega : c = 9 ∨ c = 10 ∨ c = 11 ∨ c = 12 ∨ c = 13 ∨ c = 14 ∨ c = 15) with rfl | rfl | rfl | rfl | rfl | rfl | rfl <;> first | rfl | (try simp only [hputs]; repeat (first | rfl | refine hput_skip (by exact beq_false_of_ne (by omega)) ?_ | refine hrm_skip (by omega) ?_))))) (Nat.zero_le _) (fun g b hb => famFree (k0 := 9) rfl hb) ?_
   intro j hj
   refine AGo.seq ?_
   refine AGo.region ?_
   refine aq 88 (q_bin rfl rfl rfl rfl) ?_
   refine AOps.nil ?_
   refine AGo.seq ?_
   refine AGo.split 88 rfl (fun hb4 => ?_) (fun hb4 => ?_)
   ·
    refine AGo.cond_true true rfl rfl ?_
    have hjl : j < x.ins.length := by have h := hb4; simp at h; exact h
    obtain ⟨t, ht⟩ := get_of_lt hjl
    have hin := hs.low x hxm t (List.mem_of_getElem? ht)
    refine AGo.skip ?_
    refine AGo.seq ?_
    refine AGo.block ?_
    refine AGo.seq ?_
    refine AGo.region ?_
    refine am 89 ?_
    refine aq 90 (q_index_lst tok rfl rfl rfl rfl rfl rfl (Int.natCast_nonneg _) (idx_map ht) rfl) ?_
    refine al 91 tok ?_
    refine ax 11 (o_alloc tok 9 rfl rfl rfl rfl (Nat.zero_lt_succ _) rfl) ?_
    refine aa 10 ?_
    refine AOps.w rfl rfl (o_store tok rfl rfl rfl rfl rfl rfl rfl rfl rfl (by decide) rfl (by first | exact fun _ => rfl | (intro h; cases h))) ?_
    refine AOps.nil ?_
    refine AGo.seq ?_
    refine AGo.seq ?_
    refine AGo.region ?_
    refine al 92 tok ?_
    refine ax 93 (o_pure rfl Try.func43 (by kernel_rfl) rfl rfl rfl (bUses_ok _)) ?_
    refine aq 94 (q_len tok rfl rfl rfl rfl rfl) ?_
    refine am 95 ?_
    refine AOps.nil ?_
    refine AGo.block ?_
    refine AGo.loopK (γ := Nat) (kf 10) (fun q => ⟨152, (eput (eput (eput (eput (eput (eput (eput (eput (eput (eput (eput (eput (eput (eput (eput eNew 1 (.ptr 0 1 0 0)) 3 (.ptr 2 1 0 0)) 67 (blocksAV f.blocks)) 68 (.int .i64 (f.blocks.length : Int))) 69 (.int .i64 (k : Int))) 8 (.int .i64 (k : Int))) 9 (.ptr 8 1 0 0)) 85 (insAV x.ins)) 86 (.int .i64 (x.ins.length : Int))) 87 (.int .i64 (j : Int))) 10 (.int .i64 (j : Int))) 11 (.ptr 9 1 0 0)) 93 (intsAV t.uses)) 94 (.int .i64 (t.uses.length : Int))) 95 (.int .i64 (q : Int))), (fam (nb [(.row false 2 [f.cells]), .free, (.row false 8 [NSc f R]), (.row false 1 (colF (aR (aheadL f)) f.blocks.length)), (.row false 1 (colF (oR f.blocks.length R (phS f k (curU x j (t.uses.take q)))) R)), (.row false 1 (colF (gK f (k + 1)) f.blocks.length)), .free, .free, (.row false 5 [x.cells]), (.row false 8 [t.cells])]) (NSF f R (phS f k (curU x j (t.uses.take q))) (k + 1)))⟩) (fun q => True) (fun q => t.uses.length - q) 0 (Sub.mk' (by repeat (first | exact ESub.new _ | refine ESub.put ?_ (by first | rfl | exact congrArg (fun (n : Nat) => some (AV.int .i64 (n : Int))) (by simp)))) (famSub (k0 := 10) rfl (by repeat (first | exact trivial | refine ⟨⟨by rfl, by first | rfl | exact colF_avoid (fun _ _ => aR_avoid (kf_hi' _) _ _) | exact colF_avoid (fun _ _ => oR_avoid (kf_hi' _) _ _ _ _) | exact colF_avoid (fun _ _ => gK_avoid (kf_hi' _) _ _ _)⟩, ?_⟩)) (fun x_ => by (try simp only [hputs]); repeat (first | exact fam_hi _ _ _ | refine hput_skip (by exact beq_false_of_ne (by omega)) ?_ | refine hrm_skip (by omega) ?_)) (fun c h1 h2 => by rcases (by omega : c = 10 ∨ c = 11 ∨ c = 12 ∨ c = 13 ∨ c = 14 ∨ c = 15) with rfl | rfl | rfl | rfl | rfl | rfl <;> first | rfl | (try simp only [hputs]; repeat (first | rfl | refine hput_skip (by exact beq_false_of_ne (by omega)) ?_ | refine hrm_skip (by omega) ?_))))) trivial (fun g b hb => famFree (k0 := 10) rfl hb) ?_
    intro q _
    refine AGo.seq ?_
    refine AGo.region ?_
    refine aq 96 (q_bin rfl rfl rfl rfl) ?_
    refine AOps.nil ?_
    refine AGo.seq ?_
    refine AGo.split 96 rfl (fun hb5 => ?_) (fun hb5 => ?_)
    ·
     refine AGo.cond_true true rfl rfl ?_
     have hql : q < t.uses.length := by have h := hb5; simp [intsAV] at h; exact h
     obtain ⟨u, hu⟩ := get_of_lt hql
     have hub := hin.2 u (List.mem_of_getElem? hu)
     have hub2 : u.toNat < R := by omega
     refine AGo.skip ?_
     refine AGo.seq ?_
     refine AGo.block ?_
     refine AGo.seq ?_
     refine AGo.region ?_
     refine aq 97 (q_index_lst tok rfl rfl rfl rfl rfl rfl (Int.natCast_nonneg _) (idx_map hu) rfl) ?_
     refine al 98 tok ?_
     refine aa 13 ?_
     refine AOps.nil ?_
     refine AGo.region ?_
     refine am 99 ?_
     refine am 100 ?_
     refine am 101 ?_
     refine am 102 ?_
     refine AOps.call 103 (hn := putD _ (DH (NSL f R (setS (phS f k (curU x j (t.uses.take q))) k u.toNat (noteL (phS f k (curU x j (t.uses.take q)) k u.toNat) j)) (k + 1)) (NSF f R (setS (phS f k (curU x j (t.uses.take q))) k u.toNat (noteL (phS f k (curU x j (t.uses.take q)) k u.toNat) j)) (k + 1)))) (r := .ptr (4 * (u.toNat + R * k) + 3 + 16) (noteL (phS f k (curU x j (t.uses.take q)) k u.toNat) j).length ((noteL (phS f k (curU x j (t.uses.take q)) k u.toNat) j).length - 1) 0) rfl rfl rfl (o_callDH (NSL f R (phS f k (curU x j (t.uses.take q))) (k + 1)) (NSL f R (setS (phS f k (curU x j (t.uses.take q))) k u.toNat (noteL (phS f k (curU x j (t.uses.take q)) k u.toNat) j)) (k + 1)) (NSF f R (setS (phS f k (curU x j (t.uses.take q))) k u.toNat (noteL (phS f k (curU x j (t.uses.take q)) k u.toNat) j)) (k + 1)) rfl Try.func44 (by kernel_rfl) rfl rfl rfl rfl rfl (NSL_avoid _ _ _ _) (NSL_avoid _ _ _ _) (by repeat (first | exact trivial | refine ⟨by first | rfl | exact putD_yes rfl, ?_⟩)) (fun x_ => by (try simp only [hputs]); (try dsimp only); first | exact fam_hi _ _ _ | exact (putD_hi _ _ x_).trans (fam_hi _ _ _) | ((repeat (first | refine hput_skip (by exact beq_false_of_ne (by omega)) ?_ | refine hrm_skip (by omega) ?_)); exact fam_hi _ _ _)) (NSF_avoid kD_hi f R _ _) (NSF_avoid kD_hi f R _ _) (by simp [AV.avoid, AV.flat, kD_hi]) (by have h := dnote_ok f.blocks.length R (phS f k (curU x j (t.uses.take q))) u.toNat k j hub2 hkl (phS_last f k _ _) (ph_len (by omega)) hn (.int .i64 f.regs) (blocksAV f.blocks) (pathsAV f.nexts) (.ref 3 f.blocks.length 0 f.blocks.length) (.ref 5 f.blocks.length 0 f.blocks.length) .nil .nil (.row false 1 (colF (aR (aheadL f)) f.blocks.length)) (.row false 1 (colF (gK f (k + 1)) f.blocks.length)) .free .free (rA4 f.blocks.length (aheadL f)) (rG4 f (k + 1) G0); rw [Int.toNat_of_nonneg hub.1] at h; first | exact h | (rw [List.length_map]; exact h))) ?_
     obtain ⟨s, hs1, hs2, hs3⟩ := si_last (noteL_pos (phS f k (curU x j (t.uses.take q)) k u.toNat) j)
     refine aq 104 (q_nilCheck rfl rfl rfl) ?_
     refine af 105 tok ?_
     refine AOps.w rfl rfl (o_store tok (es := (noteL (phS f k (curU x j (t.uses.take q)) k u.toNat) j).map siC) (cs := siC s) rfl rfl rfl rfl rfl (by (try simp only [hputs]); exact (putD_hi _ _ _).trans ((fam_hi _ _ _).trans (congrArg some (flag_row hub2 (noteL_pos _ _))))) (List.length_map _).symm (by rw [List.getElem?_map, hs1]; rfl) rfl (by decide) rfl (fun _ => rfl)) ?_
     refine AOps.nil ?_
     refine AGo.region ?_
     refine aq 106 (q_inc rfl rfl hql (by have := uses_len t; simp only [maxLen]; omega)) ?_
     refine am 95 ?_
     refine AOps.nil ?_
     exact ⟨q+1, DropK.mk' (by repeat (first | exact EDropK.new _ _ | refine EDropK.put ?_ (by rfl) (by first | rfl))) (famDrop (k0 := 10) rfl (by repeat (first | exact trivial | refine ⟨⟨by first | rfl | exact congrArg (fun es => some (AObj.row false 1 es)) (NSL_put flagR_len (ph_use hu hub.1)) | (refine (putD_yes rfl).trans ?_; exact congrArg (fun es => some (AObj.row false 1 es)) (NSL_put flagR_len (ph_use hu hub.1))) | exact putD_yes rfl | ((try simp only [hputs]); repeat (first | rfl | exact hput_same _ _ _ | refine hput_skip (by exact beq_false_of_ne (by omega)) ?_ | refine hrm_skip (by omega) ?_ | refine (famW_out _ (fun i_ _ => by first | omega | (dsimp only; omega))).trans ?_)), by first | rfl | exact colF_avoid (fun _ _ => aR_avoid (kf_hi' _) _ _) | exact colF_avoid (fun _ _ => oR_avoid (kf_hi' _) _ _ _ _) | exact colF_avoid (fun _ _ => gK_avoid (kf_hi' _) _ _ _)⟩, ?_⟩)) (fun x_ => (hput_hi (fun y_ => (putD_hi _ _ y_).trans (fam_hi _ _ _)) _ _ x_).trans (congrArg some (NSF_put hub2 flagR_len (noteL_pos _ _) (ph_use hu hub.1) hs2 x_).symm)) (NSF_avoid (kf_hi' _) f R _ _)), trivial, by omega⟩
    ·
     refine AGo.cond_false false rfl rfl ?_
     have hqge : t.uses.length ≤ q := by have h := hb5; simp [intsAV] at h; omega
     rw [List.take_of_length_le hqge]
     refine AGo.exit ?_
     refine AGo.seq ?_
     refine AGo.region ?_
     refine al 107 tok ?_
     refine ax 108 (o_pure rfl Try.func45 (by kernel_rfl) rfl rfl rfl (bSets_ok _)) ?_
     refine aa 14 ?_
     refine AOps.nil ?_
     refine AGo.seq ?_
     refine AGo.region ?_
     refine am 109 ?_
     refine aq 110 (q_bin rfl rfl rfl rfl) ?_
     refine AOps.nil ?_
     refine AGo.split 110 rfl (fun hb6 => ?_) (fun hb6 => ?_)
     ·
      refine AGo.cond_true true rfl rfl ?_
      have hsp : 0 ≤ t.sets := by simpa using hb6
      have hs2_ : t.sets.toNat < R := by have := hin.1 (sets_pos (by simpa using hb6)); rw [← sets_eq (sets_pos (by simpa using hb6))] at this; omega
      refine AGo.region ?_
      refine am 111 ?_
      refine am 112 ?_
      refine am 113 ?_
      refine am 114 ?_
      refine AOps.call 115 (hn := putD _ (DH (NSL f R (setS (phS f k (curU x j t.uses)) k t.sets.toNat (noteL (phS f k (curU x j t.uses) k t.sets.toNat) j)) (k + 1)) (NSF f R (setS (phS f k (curU x j t.uses)) k t.sets.toNat (noteL (phS f k (curU x j t.uses) k t.sets.toNat) j)) (k + 1)))) (r := .ptr (4 * (t.sets.toNat + R * k) + 3 + 16) (noteL (phS f k (curU x j t.uses) k t.sets.toNat) j).length ((noteL (phS f k (curU x j t.uses) k t.sets.toNat) j).length - 1) 0) rfl rfl rfl (o_callDH (NSL f R (phS f k (curU x j t.uses)) (k + 1)) (NSL f R (setS (phS f k (curU x j t.uses)) k t.sets.toNat (noteL (phS f k (curU x j t.uses) k t.sets.toNat) j)) (k + 1)) (NSF f R (setS (phS f k (curU x j t.uses)) k t.sets.toNat (noteL (phS f k (curU x j t.uses) k t.sets.toNat) j)) (k + 1)) rfl Try.func44 (by kernel_rfl) rfl rfl rfl rfl rfl (NSL_avoid _ _ _ _) (NSL_avoid _ _ _ _) (by repeat (first | exact trivial | refine ⟨by first | rfl | exact putD_yes rfl, ?_⟩)) (fun x_ => by (try simp only [hputs]); (try dsimp only); first | exact fam_hi _ _ _ | exact (putD_hi _ _ x_).trans (fam_hi _ _ _) | ((repeat (first | refine hput_skip (by exact beq_false_of_ne (by omega)) ?_ | refine hrm_skip (by omega) ?_)); exact fam_hi _ _ _)) (NSF_avoid kD_hi f R _ _) (NSF_avoid kD_hi f R _ _) (by simp [AV.avoid, AV.flat, kD_hi]) (by have h := dnote_ok f.blocks.length R (phS f k (curU x j t.uses)) t.sets.toNat k j hs2_ hkl (phS_last f k _ _) (ph_len (by omega)) hn (.int .i64 f.regs) (blocksAV f.blocks) (pathsAV f.nexts) (.ref 3 f.blocks.length 0 f.blocks.length) (.ref 5 f.blocks.length 0 f.blocks.length) .nil .nil (.row false 1 (colF (aR (aheadL f)) f.blocks.length)) (.row false 1 (colF (gK f (k + 1)) f.blocks.length)) .free .free (rA4 f.blocks.length (aheadL f)) (rG4 f (k + 1) G0); rw [Int.toNat_of_nonneg hsp] at h; first | exact h | (rw [List.length_map]; exact h))) ?_
      obtain ⟨s, hs1, hs2, hs3⟩ := si_last (noteL_pos (phS f k (curU x j t.uses) k t.sets.toNat) j)
      refine aq 116 (q_nilCheck rfl rfl rfl) ?_
      refine af 117 tok ?_
      refine AOps.w rfl rfl (o_store tok (es := (noteL (phS f k (curU x j t.uses) k t.sets.toNat) j).map siC) (cs := siC s) rfl rfl rfl rfl rfl (by (try simp only [hputs]); exact (putD_hi _ _ _).trans ((fam_hi _ _ _).trans (congrArg some (flag_row hs2_ (noteL_pos _ _))))) (List.length_map _).symm (by rw [List.getElem?_map, hs1]; rfl) rfl (by decide) rfl (fun _ => rfl)) ?_
      refine AOps.nil ?_
      refine AGo.region ?_
      refine aq 118 (q_inc rfl rfl hjl (by simp only [maxLen]; omega)) ?_
      refine am 87 ?_
      refine AOps.nil ?_
      exact ⟨j+1, DropK.mk' (by repeat (first | exact EDropK.new _ _ | refine EDropK.put ?_ (by rfl) (by first | rfl))) (famDrop (k0 := 9) rfl (by repeat (first | exact trivial | refine ⟨⟨by first | rfl | exact congrArg (fun es => some (AObj.row false 1 es)) (NSL_put flagS_len (ph_set ht hsp)) | (refine (putD_yes rfl).trans ?_; exact congrArg (fun es => some (AObj.row false 1 es)) (NSL_put flagS_len (ph_set ht hsp))) | exact putD_yes rfl | ((try simp only [hputs]); repeat (first | rfl | exact hput_same _ _ _ | refine hput_skip (by exact beq_false_of_ne (by omega)) ?_ | refine hrm_skip (by omega) ?_ | refine (famW_out _ (fun i_ _ => by first | omega | (dsimp only; omega))).trans ?_)), by first | rfl | exact colF_avoid (fun _ _ => aR_avoid (kf_hi' _) _ _) | exact colF_avoid (fun _ _ => oR_avoid (kf_hi' _) _ _ _ _) | exact colF_avoid (fun _ _ => gK_avoid (kf_hi' _) _ _ _)⟩, ?_⟩)) (fun x_ => (hput_hi (fun y_ => (putD_hi _ _ y_).trans (fam_hi _ _ _)) _ _ x_).trans (congrArg some (NSF_put hs2_ flagS_len (noteL_pos _ _) (ph_set ht hsp) hs3 x_).symm)) (NSF_avoid (kf_hi' _) f R _ _)), hjl, by omega⟩
     ·
      refine AGo.cond_false false rfl rfl ?_
      have hsp : ¬ 0 ≤ t.sets := by simpa using hb6
      refine AGo.skip ?_
      refine AGo.region ?_
      refine aq 118 (q_inc rfl rfl hjl (by simp only [maxLen]; omega)) ?_
      refine am 87 ?_
      refine AOps.nil ?_
      exact ⟨j+1, DropK.mk' (by repeat (first | exact EDropK.new _ _ | refine EDropK.put ?_ (by rfl) (by first | rfl))) (famDrop (k0 := 9) rfl (by repeat (first | exact trivial | refine ⟨⟨by first | rfl | exact congrArg (fun S => some (AObj.row false 1 (colF (oR _ R S) R))) (ph_noset ht hsp), by first | rfl | exact colF_avoid (fun _ _ => aR_avoid (kf_hi' _) _ _) | exact colF_avoid (fun _ _ => oR_avoid (kf_hi' _) _ _ _ _) | exact colF_avoid (fun _ _ => gK_avoid (kf_hi' _) _ _ _)⟩, ?_⟩)) (fun x_ => by rw [← ph_noset ht hsp]; exact fam_hi _ _ _) (NSF_avoid (kf_hi' _) f R _ _)), hjl, by omega⟩
   ·
    refine AGo.cond_false false rfl rfl ?_
    have hje : j = x.ins.length := by have h := hb4; simp at h; omega
    subst hje
    refine AGo.exit ?_
    refine AGo.seq ?_
    refine AGo.region ?_
    refine af 119 tok ?_
    refine al 120 tok ?_
    refine aq 121 (q_bin rfl rfl rfl rfl) ?_
    refine AOps.nil ?_
    refine AGo.split 121 rfl (fun hb7 => ?_) (fun hb7 => ?_)
    ·
     refine AGo.cond_true true rfl rfl ?_
     have hfin : x.fin = 2 := by simpa using hb7
     have hv2 := hs.fin x hxm hfin
     have hv3 : x.v.toNat < R := by omega
     refine AGo.region ?_
     refine am 122 ?_
     refine af 123 tok ?_
     refine al 124 tok ?_
     refine am 125 ?_
     refine af 126 tok ?_
     refine al 127 tok ?_
     refine aq 128 (q_len tok rfl rfl rfl rfl rfl) ?_
     refine AOps.call 129 (hn := putD _ (DH (NSL f R (setS (phS f k (curU x x.ins.length [])) k x.v.toNat (noteL (phS f k (curU x x.ins.length []) k x.v.toNat) x.ins.length)) (k + 1)) (NSF f R (setS (phS f k (curU x x.ins.length [])) k x.v.toNat (noteL (phS f k (curU x x.ins.length []) k x.v.toNat) x.ins.length)) (k + 1)))) (r := .ptr (4 * (x.v.toNat + R * k) + 3 + 16) (noteL (phS f k (curU x x.ins.length []) k x.v.toNat) x.ins.length).length ((noteL (phS f k (curU x x.ins.length []) k x.v.toNat) x.ins.length).length - 1) 0) rfl rfl rfl (o_callDH (NSL f R (phS f k (curU x x.ins.length [])) (k + 1)) (NSL f R (setS (phS f k (curU x x.ins.length [])) k x.v.toNat (noteL (phS f k (curU x x.ins.length []) k x.v.toNat) x.ins.length)) (k + 1)) (NSF f R (setS (phS f k (curU x x.ins.length [])) k x.v.toNat (noteL (phS f k (curU x x.ins.length []) k x.v.toNat) x.ins.length)) (k + 1)) rfl Try.func44 (by kernel_rfl) rfl rfl rfl rfl rfl (NSL_avoid _ _ _ _) (NSL_avoid _ _ _ _) (by repeat (first | exact trivial | refine ⟨by first | rfl | exact putD_yes rfl, ?_⟩)) (fun x_ => by (try simp only [hputs]); (try dsimp only); first | exact fam_hi _ _ _ | exact (putD_hi _ _ x_).trans (fam_hi _ _ _) | ((repeat (first | refine hput_skip (by exact beq_false_of_ne (by omega)) ?_ | refine hrm_skip (by omega) ?_)); exact fam_hi _ _ _)) (NSF_avoid kD_hi f R _ _) (NSF_avoid kD_hi f R _ _) (by simp [AV.avoid, AV.flat, kD_hi]) (by have h := dnote_ok f.blocks.length R (phS f k (curU x x.ins.length [])) x.v.toNat k x.ins.length hv3 hkl (phS_last f k _ _) (ph_len (by omega)) hn (.int .i64 f.regs) (blocksAV f.blocks) (pathsAV f.nexts) (.ref 3 f.blocks.length 0 f.blocks.length) (.ref 5 f.blocks.length 0 f.blocks.length) .nil .nil (.row false 1 (colF (aR (aheadL f)) f.blocks.length)) (.row false 1 (colF (gK f (k + 1)) f.blocks.length)) .free .free (rA4 f.blocks.length (aheadL f)) (rG4 f (k + 1) G0); rw [Int.toNat_of_nonneg hv2.1] at h; first | exact h | (rw [List.length_map]; exact h))) ?_
     obtain ⟨s, hs1, hs2, hs3⟩ := si_last (noteL_pos (phS f k (curU x x.ins.length []) k x.v.toNat) x.ins.length)
     refine aq 130 (q_nilCheck rfl rfl rfl) ?_
     refine af 131 tok ?_
     refine AOps.w rfl rfl (o_store tok (es := (noteL (phS f k (curU x x.ins.length []) k x.v.toNat) x.ins.length).map siC) (cs := siC s) rfl rfl rfl rfl rfl (by (try simp only [hputs]); exact (putD_hi _ _ _).trans ((fam_hi _ _ _).trans (congrArg some (flag_row hv3 (noteL_pos _ _))))) (List.length_map _).symm (by rw [List.getElem?_map, hs1]; rfl) rfl (by decide) rfl (fun _ => rfl)) ?_
     refine AOps.nil ?_
     refine AGo.region ?_
     refine aq 132 (q_inc rfl rfl hkl (by simp only [maxLen]; omega)) ?_
     refine am 69 ?_
     refine AOps.nil ?_
     exact ⟨k+1, DropK.mk' (by repeat (first | exact EDropK.new _ _ | refine EDropK.put ?_ (by rfl) (by first | rfl))) (famDrop (k0 := 8) rfl (by repeat (first | exact trivial | refine ⟨⟨by first | rfl | exact congrArg (fun es => some (AObj.row false 1 es)) (NSL_put flagR_len (ph_end hx hfin hv2.1)) | (refine (putD_yes rfl).trans ?_; exact congrArg (fun es => some (AObj.row false 1 es)) (NSL_put flagR_len (ph_end hx hfin hv2.1))) | exact putD_yes rfl | ((try simp only [hputs]); repeat (first | rfl | exact hput_same _ _ _ | refine hput_skip (by exact beq_false_of_ne (by omega)) ?_ | refine hrm_skip (by omega) ?_ | refine (famW_out _ (fun i_ _ => by first | omega | (dsimp only; omega))).trans ?_)), by first | rfl | exact colF_avoid (fun _ _ => aR_avoid (kf_hi' _) _ _) | exact colF_avoid (fun _ _ => oR_avoid (kf_hi' _) _ _ _ _) | exact colF_avoid (fun _ _ => gK_avoid (kf_hi' _) _ _ _)⟩, ?_⟩)) (fun x_ => (hput_hi (fun y_ => (putD_hi _ _ y_).trans (fam_hi _ _ _)) _ _ x_).trans (congrArg some (NSF_put hv3 flagR_len (noteL_pos _ _) (ph_end hx hfin hv2.1) hs2 x_).symm)) (NSF_avoid (kf_hi' _) f R _ _)), hkl, by omega⟩
    ·
     refine AGo.cond_false false rfl rfl ?_
     have hfin : ¬ x.fin = 2 := by simpa using hb7
     refine AGo.skip ?_
     refine AGo.region ?_
     refine aq 132 (q_inc rfl rfl hkl (by simp only [maxLen]; omega)) ?_
     refine am 69 ?_
     refine AOps.nil ?_
     exact ⟨k+1, DropK.mk' (by repeat (first | exact EDropK.new _ _ | refine EDropK.put ?_ (by rfl) (by first | rfl))) (famDrop (k0 := 8) rfl (by repeat (first | exact trivial | refine ⟨⟨by first | rfl | exact congrArg (fun S => some (AObj.row false 1 (colF (oR _ R S) R))) (ph_noend hx hfin), by first | rfl | exact colF_avoid (fun _ _ => aR_avoid (kf_hi' _) _ _) | exact colF_avoid (fun _ _ => oR_avoid (kf_hi' _) _ _ _ _) | exact colF_avoid (fun _ _ => gK_avoid (kf_hi' _) _ _ _)⟩, ?_⟩)) (fun x_ => by rw [← ph_noend hx hfin]; exact fam_hi _ _ _) (NSF_avoid (kf_hi' _) f R _ _)), hkl, by omega⟩
  ·
   refine AGo.cond_false false rfl rfl ?_
   have hge : f.blocks.length ≤ k := by have h := hb3; simp at h; omega
   refine AGo.exit ?_
   refine AGo.seq ?_
   have hkn : k = f.blocks.length := by omega
   subst hkn
   rw [phS_all, gK_all]
   refine AGo.region ?_
   refine am 133 ?_
   refine af 134 tok ?_
   refine al 135 tok ?_
   refine ax 136 (o_makeSlice tok (n := R) (m := R) 7 true rfl rfl rfl hRf hRf rfl rfl rfl rfl rfl (Nat.zero_lt_succ _) rfl (Nat.le_refl _) (by show 1 * R ≤ _; omega) (by simp only [maxLen]; omega)) ?_
   refine aq 137 (q_nilCheck rfl rfl rfl) ?_
   refine af 138 tok ?_
   refine AOps.w rfl rfl (o_store tok rfl rfl rfl rfl rfl rfl rfl rfl rfl (by decide) rfl (by first | exact fun _ => rfl | (intro h; cases h))) ?_
   refine AOps.nil ?_
   refine AGo.seq ?_
   refine AGo.seq ?_
   refine AGo.ghost (.dryCell 2 0 6 6 1 true rfl rfl rfl rfl rfl (by decide)) ?_
   refine AGo.region ?_
   refine am 139 ?_
   refine aq 140 (q_nilCheck rfl rfl rfl) ?_
   refine af 141 tok ?_
   refine al 142 tok ?_
   refine aq 143 (q_len tok rfl rfl rfl rfl rfl) ?_
   refine am 144 ?_
   refine AOps.nil ?_
   refine AGo.block ?_
   refine AGo.loopK (γ := Nat) (kf 8) (fun k => ⟨152, (eput (eput (eput (eput eNew 1 (.ptr 0 1 0 0)) 3 (.ptr 2 1 0 0)) 143 (.int .i64 (R : Int))) 144 (.int .i64 (k : Int))), (fam (nb [(.row false 2 [f.cells]), .free, (.row false 8 [SDc f R ((List.range k).map natC).length (k)]), (.row false 1 (colF (aR (aheadL f)) f.blocks.length)), (.row false 1 (colF (oR f.blocks.length R (SB f)) R)), (.row false 1 (colF (gR f) f.blocks.length)), (.row true 1 ((List.range k).map natC)), (.row true 1 (bC R (fun b => decide (b < k))))]) (DF f R (SB f) G0))⟩) (fun k => k ≤ R) (fun k => R - k) 0 (Sub.mk' (by repeat (first | exact ESub.new _ | refine ESub.put ?_ (by first | rfl | exact congrArg (fun (n : Nat) => some (AV.int .i64 (n : Int))) (by simp)))) (famSub (k0 := 8) rfl (by repeat (first | exact trivial | refine ⟨⟨by first | rfl | exact congrArg (fun es => some (AObj.row true 1 es)) (bC_start R), by first | rfl | exact colF_avoid (fun _ _ => aR_avoid (kf_hi' _) _ _) | exact colF_avoid (fun _ _ => oR_avoid (kf_hi' _) _ _ _ _) | exact colF_avoid (fun _ _ => gR_avoid (kf_hi' _) _ _)⟩, ?_⟩)) (fun x_ => by (try simp only [hputs]); repeat (first | exact fam_hi _ _ _ | refine hput_skip (by exact beq_false_of_ne (by omega)) ?_ | refine hrm_skip (by omega) ?_)) (fun c h1 h2 => by rcases (by omega : c = 8 ∨ c = 9 ∨ c = 10 ∨ c = 11 ∨ c = 12 ∨ c = 13 ∨ c = 14 ∨ c = 15) with rfl | rfl | rfl | rfl | rfl | rfl | rfl | rfl <;> first | rfl | (try simp only [hputs]; repeat (first | rfl | refine hput_skip (by exact beq_false_of_ne (by omega)) ?_ | refine hrm_skip (by omega) ?_))))) (Nat.zero_le _) (fun g b hb => famFree (k0 := 8) rfl hb) ?_
   intro k hk
   refine AGo.seq ?_
   refine AGo.region ?_
   refine aq 145 (q_bin rfl rfl rfl rfl) ?_
   refine AOps.nil ?_
   refine AGo.seq ?_
   refine AGo.split 145 rfl (fun hb8 => ?_) (fun hb8 => ?_)
   ·
    refine AGo.cond_true true rfl rfl ?_
    have hkl : k < R := by have h := hb8; simp at h; exact h
    refine AGo.skip ?_
    refine AGo.seq ?_
    refine AGo.block ?_
    refine AGo.seq ?_
    refine AGo.region ?_
    refine am 146 ?_
    refine aa 15 ?_
    refine AOps.nil ?_
    refine AGo.region ?_
    refine am 147 ?_
    refine am 148 ?_
    refine AOps.call 149 (hn := putD _ (DH (DSL f R (SB f) ((List.range (k + 1)).map natC) (k + 1) (fun b => decide (b < k + 1))) (DF f R (SB f) G0))) (r := .tup []) rfl rfl rfl (o_callDH (DSL f R (SB f) ((List.range k).map natC) (k) (fun b => decide (b < k))) (DSL f R (SB f) ((List.range (k + 1)).map natC) (k + 1) (fun b => decide (b < k + 1))) (DF f R (SB f) G0) rfl Try.func46 (by kernel_rfl) rfl rfl rfl rfl rfl (DSL_avoid _ _ _ _ _ _) (DSL_avoid _ _ _ _ _ _) (by repeat (first | exact trivial | refine ⟨by first | rfl | exact putD_yes rfl, ?_⟩)) (fun x_ => by (try simp only [hputs]); (try dsimp only); first | exact fam_hi _ _ _ | exact (putD_hi _ _ x_).trans (fam_hi _ _ _) | ((repeat (first | refine hput_skip (by exact beq_false_of_ne (by omega)) ?_ | refine hrm_skip (by omega) ?_)); exact fam_hi _ _ _)) (DF_avoid kD_hi f R _ _) (DF_avoid kD_hi f R _ _) rfl (by have h := dpush_ok f R (SB f) G0 ((List.range k).map natC) k (fun b => decide (b < k)) k hkl hR (by simp) (by simp; omega); rw [push_range, len_range, upd_range] at h; exact h)) ?_
    refine AOps.nil ?_
    refine AGo.region ?_
    refine aq 150 (q_inc rfl rfl hkl (by simp only [maxLen]; omega)) ?_
    refine am 144 ?_
    refine AOps.nil ?_
    exact ⟨k+1, DropK.mk' (by repeat (first | exact EDropK.new _ _ | refine EDropK.put ?_ (by rfl) (by first | rfl))) (famDrop (k0 := 8) rfl (by repeat (first | exact trivial | refine ⟨⟨by first | rfl | exact putD_yes rfl, by first | rfl | exact colF_avoid (fun _ _ => aR_avoid (kf_hi' _) _ _) | exact colF_avoid (fun _ _ => oR_avoid (kf_hi' _) _ _ _ _) | exact colF_avoid (fun _ _ => gR_avoid (kf_hi' _) _ _)⟩, ?_⟩)) (fun x_ => (putD_hi _ _ x_).trans (fam_hi _ _ _)) (DF_avoid (kf_hi' _) f R _ _)), hkl, by omega⟩
   ·
    refine AGo.cond_false false rfl rfl ?_
    have hge : R ≤ k := by have h := hb8; simp at h; omega
    refine AGo.exit ?_
    refine AGo.seq ?_
    refine AGo.region ?_
    refine am 151 ?_
    refine aa 2 ?_
    refine AOps.nil ?_
    refine AGo.ret ?_
    have hkn : k = R := by omega
    subst hkn
    exact ⟨[_], ⟨rfl, trivial⟩, rfl, (dh_sub rfl (by repeat (first | exact trivial | refine ⟨by rfl, ?_⟩)) (fun x_ => by (try simp only [hputs]); (try dsimp only); first | exact fam_hi _ _ _ | exact (putD_hi _ _ x_).trans (fam_hi _ _ _) | ((repeat (first | refine hput_skip (by exact beq_false_of_ne (by omega)) ?_ | refine hrm_skip (by omega) ?_)); exact fam_hi _ _ _)))⟩

end Go.Proofs.Ytjmjmedjjbginaa.Sv

namespace Go.Proofs.Ytjmjmedjjbginaa.Sv
open Go

set_option maxRecDepth 100000 in
theorem gone_ok (f : BFunc) (R : Nat) (S : SS) (G : GG) (es : List (List AV)) (len : Nat) (w : Nat → Bool) (i : Nat) (x : Block) (hx : f.blocks[i]? = some x) (j : Nat) (hj : j < x.ins.length) : ACall Try.prog 29 [.int .i64 (j : Int), .ptr 8 1 0 0, .ptr 12 1 0 0] (WS f R S G es len w i) (fun r h' => r = .bool (G i j) ∧ HSub (putK kW hNone (WS f R S G es len w i)) h') := by
 have hb : i < f.blocks.length := (List.getElem?_eq_some_iff.1 hx).1
 refine ACall.of_body (n := 15) tok Try.func29 rfl rfl ?_
 refine AGo.seq ?_
 refine AGo.region ?_
 refine aa 4 ?_
 refine AOps.nil ?_
 refine AGo.seq ?_
 refine AGo.draw mix ?_
 refine dl 5 tok ?_
 refine dq 6 (q_nilCheck rfl rfl rfl) ?_
 refine df 7 tok ?_
 refine dl 8 tok ?_
 refine dl 9 tok ?_
 refine dq 10 (q_index_ref tok rfl rfl rfl rfl rfl rfl rfl (colF_len _ _).symm rfl (Int.natCast_nonneg _) (by omega)) ?_
 refine dq 11 (q_load tok rfl rfl rfl (.ptr _ _ _ _ _ _ _ [gR f i] rfl (colF_len _ _).symm (by rw [Nat.zero_add, Int.toNat_natCast]; exact colF_get hb)) rfl) ?_
 refine dm 12 ?_
 refine dq 13 (q_index_ref tok rfl rfl rfl rfl rfl rfl ((fam_hi _ _ _).trans (congrArg some (rG4_at hb hx))) (by rw [colF_len, insLen_eq hx]) rfl (Int.natCast_nonneg _) (by rw [insLen_eq hx]; omega)) ?_
 refine dq 14 (q_load tok rfl rfl rfl (.ptr _ _ _ _ true 1 (bC x.ins.length (G i)) [.bool (G i j)] ((fam_hi _ _ _).trans (congrArg some (rG4_at hb hx))) (by rw [colF_len, insLen_eq hx]) (by rw [Nat.zero_add, Int.toNat_natCast]; exact colF_get hj)) rfl) ?_
 refine da 4 ?_
 refine DOps.nil (by kernel_rfl) ?_
 refine AGo.ret ?_
 exact ⟨[_], ⟨rfl, trivial⟩, rfl, putK_sub (WH_of rfl rfl rfl rfl rfl rfl rfl rfl (fun x_ => by dsimp only; exact fam_hi _ _ _))⟩

set_option maxHeartbeats 1000000 in
set_option maxRecDepth 100000 in
theorem without_ok (f : BFunc) (R : Nat) (S : SS) (G : GG) (es : List (List AV)) (len : Nat) (w : Nat → Bool) (i : Nat) (x : Block) (hx : f.blocks[i]? = some x) (hi : x.ins.length ≤ 100000) : ACall Try.prog 28 [insAV x.ins, (.fn (.func 29) [] [.ptr 8 1 0 0, .ptr 12 1 0 0])] (WS f R S G es len w i) (fun r h' => r = insAV (kpI (G i) x.ins 0) ∧ HSub (putK kW hNone (WS f R S G es len w i)) h') := by
 refine ACall.of_body (n := 28) tok Try.func28 rfl rfl ?_
 refine AGo.seq ?_
 refine AGo.region ?_
 refine aa 4 ?_
 refine AOps.nil ?_
 refine AGo.seq ?_
 refine AGo.region ?_
 refine am 8 ?_
 refine aq 9 (q_len tok rfl rfl rfl rfl rfl) ?_
 refine ax 10 (o_makeSlice tok (n := 0) (m := x.ins.length) 9 true rfl rfl rfl (rfl) (by simp) rfl rfl rfl rfl rfl (Nat.zero_lt_succ _) rfl (Nat.zero_le _) (by show 64 * x.ins.length ≤ _; omega) (by simp only [maxLen]; omega)) ?_
 refine aa 5 ?_
 refine AOps.nil ?_
 refine AGo.seq ?_
 refine AGo.seq ?_
 refine AGo.region ?_
 refine am 11 ?_
 refine aq 12 (q_len tok rfl rfl rfl rfl rfl) ?_
 refine am 13 ?_
 refine AOps.nil ?_
 refine AGo.block ?_
 refine AGo.loopK (γ := Nat) (kf 13) (fun j => ⟨28, (eput (eput (eput (eput (eput eNew 1 (.fn (.func 29) [] [.ptr 8 1 0 0, .ptr 12 1 0 0])) 5 (.ref 9 (kpI (G i) (x.ins.take j) 0).length 0 (kpI (G i) (x.ins.take j) 0).length)) 11 (insAV x.ins)) 12 (.int .i64 (x.ins.length : Int))) 13 (.int .i64 (j : Int))), (fam (nb [.free, .free, (.row false 8 [SDc f R (es).length (len)]), (.row false 1 (colF (aR (aheadL f)) f.blocks.length)), (.row false 1 (colF (oR f.blocks.length R S) R)), (.row false 1 (colF (gR f) f.blocks.length)), (.row true 1 (es)), (.row true 1 (bC R (w))), ArW, (.row true 8 ((kpI (G i) (x.ins.take j) 0).map Tac.cells)), .free, .free, (BrW i)]) (DF f R S G))⟩) (fun j => j ≤ x.ins.length) (fun j => x.ins.length - j) 0 (Sub.mk' (by repeat (first | exact ESub.new _ | refine ESub.put ?_ (by first | rfl | exact congrArg (fun (n : Nat) => some (AV.int .i64 (n : Int))) (by simp)))) (famSub (k0 := 13) rfl (by repeat (first | exact trivial | refine ⟨⟨by rfl, by first | rfl | exact colF_avoid (fun _ _ => aR_avoid (kf_hi' _) _ _) | exact colF_avoid (fun _ _ => oR_avoid (kf_hi' _) _ _ _ _) | exact colF_avoid (fun _ _ => gR_avoid (kf_hi' _) _ _)⟩, ?_⟩)) (fun x_ => by (try simp only [hputs]); repeat (first | exact fam_hi _ _ _ | refine hput_skip (by exact beq_false_of_ne (by omega)) ?_ | refine hrm_skip (by omega) ?_)) (fun c h1 h2 => by rcases (by omega : c = 13 ∨ c = 14 ∨ c = 15) with rfl | rfl | rfl <;> first | rfl | (try simp only [hputs]; repeat (first | rfl | refine hput_skip (by exact beq_false_of_ne (by omega)) ?_ | refine hrm_skip (by omega) ?_))))) (Nat.zero_le _) (fun g b hb => famFree (k0 := 13) rfl hb) ?_
 intro j hj
 refine AGo.seq ?_
 refine AGo.region ?_
 refine aq 14 (q_bin rfl rfl rfl rfl) ?_
 refine AOps.nil ?_
 refine AGo.seq ?_
 refine AGo.split 14 rfl (fun hb1 => ?_) (fun hb1 => ?_)
 ·
  refine AGo.cond_true true rfl rfl ?_
  have hjl : j < x.ins.length := by have h := hb1; simp at h; exact h
  obtain ⟨t, ht⟩ := get_of_lt hjl
  refine AGo.skip ?_
  refine AGo.seq ?_
  refine AGo.block ?_
  refine AGo.seq ?_
  refine AGo.region ?_
  refine am 15 ?_
  refine aq 16 (q_index_lst tok rfl rfl rfl rfl rfl rfl (Int.natCast_nonneg _) (idx_map ht) rfl) ?_
  refine al 17 tok ?_
  refine ax 7 (o_alloc tok 13 rfl rfl rfl rfl (Nat.zero_lt_succ _) rfl) ?_
  refine aa 6 ?_
  refine AOps.w rfl rfl (o_store tok rfl rfl rfl rfl rfl rfl rfl rfl rfl (by decide) rfl (by first | exact fun _ => rfl | (intro h; cases h))) ?_
  refine AOps.nil ?_
  refine AGo.seq ?_
  refine AGo.region ?_
  refine am 18 ?_
  refine am 19 ?_
  refine AOps.call 20 (hn := _) (r := .bool (G i j)) rfl rfl rfl (o_callFR (W := (WS f R S G es len w i)) kW rfl rfl Try.func29 (by kernel_rfl) rfl rfl rfl (WH_of (by (try simp only [hputs]); repeat (first | rfl | exact hput_same _ _ _ | refine hput_skip (by exact beq_false_of_ne (by omega)) ?_ | refine hrm_skip (by omega) ?_ | refine (famW_out _ (fun i_ _ => by first | omega | (dsimp only; omega))).trans ?_)) (by (try simp only [hputs]); repeat (first | rfl | exact hput_same _ _ _ | refine hput_skip (by exact beq_false_of_ne (by omega)) ?_ | refine hrm_skip (by omega) ?_ | refine (famW_out _ (fun i_ _ => by first | omega | (dsimp only; omega))).trans ?_)) (by (try simp only [hputs]); repeat (first | rfl | exact hput_same _ _ _ | refine hput_skip (by exact beq_false_of_ne (by omega)) ?_ | refine hrm_skip (by omega) ?_ | refine (famW_out _ (fun i_ _ => by first | omega | (dsimp only; omega))).trans ?_)) (by (try simp only [hputs]); repeat (first | rfl | exact hput_same _ _ _ | refine hput_skip (by exact beq_false_of_ne (by omega)) ?_ | refine hrm_skip (by omega) ?_ | refine (famW_out _ (fun i_ _ => by first | omega | (dsimp only; omega))).trans ?_)) (by (try simp only [hputs]); repeat (first | rfl | exact hput_same _ _ _ | refine hput_skip (by exact beq_false_of_ne (by omega)) ?_ | refine hrm_skip (by omega) ?_ | refine (famW_out _ (fun i_ _ => by first | omega | (dsimp only; omega))).trans ?_)) (by (try simp only [hputs]); repeat (first | rfl | exact hput_same _ _ _ | refine hput_skip (by exact beq_false_of_ne (by omega)) ?_ | refine hrm_skip (by omega) ?_ | refine (famW_out _ (fun i_ _ => by first | omega | (dsimp only; omega))).trans ?_)) (by (try simp only [hputs]); repeat (first | rfl | exact hput_same _ _ _ | refine hput_skip (by exact beq_false_of_ne (by omega)) ?_ | refine hrm_skip (by omega) ?_ | refine (famW_out _ (fun i_ _ => by first | omega | (dsimp only; omega))).trans ?_)) (by (try simp only [hputs]); repeat (first | rfl | exact hput_same _ _ _ | refine hput_skip (by exact beq_false_of_ne (by omega)) ?_ | refine hrm_skip (by omega) ?_ | refine (famW_out _ (fun i_ _ => by first | omega | (dsimp only; omega))).trans ?_)) (fun x_ => by (try simp only [hputs]); (try dsimp only); first | exact fam_hi _ _ _ | ((repeat (first | refine hput_skip (by exact beq_false_of_ne (by omega)) ?_ | refine hrm_skip (by omega) ?_)); exact fam_hi _ _ _))) (WS_avoid f R S G es len w i) WH_free rfl (gone_ok f R S G es len w i x hx j hjl)) ?_
  refine aq 21 (q_not rfl rfl) ?_
  refine AOps.nil ?_
  refine AGo.split 21 rfl (fun hb2 => ?_) (fun hb2 => ?_)
  ·
   refine AGo.cond_true true rfl rfl ?_
   have hg : G i j = false := by have h := hb2; simpa using h
   refine AGo.region ?_
   refine am 22 ?_
   refine al 23 tok ?_
   refine ax 24 (o_lit' tok rfl rfl rfl rfl rfl rfl (by decide) rfl rfl rfl rfl rfl rfl) ?_
   refine ax 25 (o_append tok (n := (kpI (G i) (x.ins.take j) 0).length) (m := 1) (es := (kpI (G i) (x.ins.take j) 0).map Tac.cells) rfl rfl rfl rfl rfl rfl rfl rfl rfl (by rw [List.length_map]) rfl rfl (Nat.zero_lt_succ _) (.lst _ _) (by intro cs h; simp [partVals] at h; subst h; rfl) (fun _ cs h => by simp [partVals] at h; subst h; rfl) rfl (by have h1 := kpI_len (G i) (x.ins.take j) 0; rw [List.length_take] at h1; simp [partVals]; omega) (by have h1 := kpI_len (G i) (x.ins.take j) 0; rw [List.length_take] at h1; simp [partVals]; simp only [maxLen]; omega)) ?_
   refine aa 5 ?_
   refine AOps.nil ?_
   refine AGo.region ?_
   refine aq 26 (q_inc rfl rfl hjl (by simp only [maxLen]; omega)) ?_
   refine am 13 ?_
   refine AOps.nil ?_
   exact ⟨j+1, DropK.mk' (by repeat (first | exact EDropK.new _ _ | refine EDropK.put ?_ (by first | rfl | exact congrArg (fun m => some (AV.ref 9 m 0 m)) (congrArg List.length (kpI_gone ht hg).symm) | exact congrArg (fun m => some (AV.ref 9 m 0 m)) ((List.length_map (f := Tac.cells)).symm.trans ((congrArg List.length (kpI_left ht hg).symm).trans (by simp))).symm | exact congrArg (fun (n : Nat) => some (AV.int .i64 (n : Int))) (by simp)) (by first | rfl))) (famDrop (k0 := 13) rfl (by repeat (first | exact trivial | refine ⟨⟨by first | rfl | exact congrArg (fun es => some (AObj.row true 8 es)) (kpI_left ht hg) | exact congrArg (fun l => some (AObj.row true 8 (l.map Tac.cells))) (kpI_gone ht hg).symm | ((try simp only [hputs]); repeat (first | rfl | exact hput_same _ _ _ | refine hput_skip (by exact beq_false_of_ne (by omega)) ?_ | refine hrm_skip (by omega) ?_ | refine (famW_out _ (fun i_ _ => by first | omega | (dsimp only; omega))).trans ?_)), by first | rfl | exact colF_avoid (fun _ _ => aR_avoid (kf_hi' _) _ _) | exact colF_avoid (fun _ _ => oR_avoid (kf_hi' _) _ _ _ _) | exact colF_avoid (fun _ _ => gR_avoid (kf_hi' _) _ _)⟩, ?_⟩)) (fun x_ => by (try simp only [hputs]); repeat (first | exact fam_hi _ _ _ | refine hput_skip (by exact beq_false_of_ne (by omega)) ?_ | refine hrm_skip (by omega) ?_)) (DF_avoid (kf_hi' _) f R _ _)), hjl, by omega⟩
  ·
   refine AGo.cond_false false rfl rfl ?_
   have hg : G i j = true := by have h := hb2; simpa using h
   refine AGo.skip ?_
   refine AGo.region ?_
   refine aq 26 (q_inc rfl rfl hjl (by simp only [maxLen]; omega)) ?_
   refine am 13 ?_
   refine AOps.nil ?_
   exact ⟨j+1, DropK.mk' (by repeat (first | exact EDropK.new _ _ | refine EDropK.put ?_ (by first | rfl | exact congrArg (fun m => some (AV.ref 9 m 0 m)) (congrArg List.length (kpI_gone ht hg).symm) | exact congrArg (fun m => some (AV.ref 9 m 0 m)) ((List.length_map (f := Tac.cells)).symm.trans ((congrArg List.length (kpI_left ht hg).symm).trans (by simp))).symm | exact congrArg (fun (n : Nat) => some (AV.int .i64 (n : Int))) (by simp)) (by first | rfl))) (famDrop (k0 := 13) rfl (by repeat (first | exact trivial | refine ⟨⟨by first | rfl | exact congrArg (fun es => some (AObj.row true 8 es)) (kpI_left ht hg) | exact congrArg (fun l => some (AObj.row true 8 (l.map Tac.cells))) (kpI_gone ht hg).symm | ((try simp only [hputs]); repeat (first | rfl | exact hput_same _ _ _ | refine hput_skip (by exact beq_false_of_ne (by omega)) ?_ | refine hrm_skip (by omega) ?_ | refine (famW_out _ (fun i_ _ => by first | omega | (dsimp only; omega))).trans ?_)), by first | rfl | exact colF_avoid (fun _ _ => aR_avoid (kf_hi' _) _ _) | exact colF_avoid (fun _ _ => oR_avoid (kf_hi' _) _ _ _ _) | exact colF_avoid (fun _ _ => gR_avoid (kf_hi' _) _ _)⟩, ?_⟩)) (fun x_ => by (try simp only [hputs]); repeat (first | exact fam_hi _ _ _ | refine hput_skip (by exact beq_false_of_ne (by omega)) ?_ | refine hrm_skip (by omega) ?_)) (DF_avoid (kf_hi' _) f R _ _)), hjl, by omega⟩
 ·
  refine AGo.cond_false false rfl rfl ?_
  have hje : j = x.ins.length := by have h := hb1; simp at h; omega
  subst hje
  refine AGo.exit ?_
  refine AGo.seq ?_
  refine AGo.ghost (.freeze 5 9 rfl rfl (by rw [List.length_map])) ?_
  refine AGo.region ?_
  refine am 27 ?_
  refine aa 4 ?_
  refine AOps.nil ?_
  refine AGo.ret ?_
  refine ⟨[_], ⟨rfl, trivial⟩, ?_, putK_sub (WH_of (by (try simp only [hputs]); repeat (first | rfl | exact hput_same _ _ _ | refine hput_skip (by exact beq_false_of_ne (by omega)) ?_ | refine hrm_skip (by omega) ?_ | refine (famW_out _ (fun i_ _ => by first | omega | (dsimp only; omega))).trans ?_)) (by (try simp only [hputs]); repeat (first | rfl | exact hput_same _ _ _ | refine hput_skip (by exact beq_false_of_ne (by omega)) ?_ | refine hrm_skip (by omega) ?_ | refine (famW_out _ (fun i_ _ => by first | omega | (dsimp only; omega))).trans ?_)) (by (try simp only [hputs]); repeat (first | rfl | exact hput_same _ _ _ | refine hput_skip (by exact beq_false_of_ne (by omega)) ?_ | refine hrm_skip (by omega) ?_ | refine (famW_out _ (fun i_ _ => by first | omega | (dsimp only; omega))).trans ?_)) (by (try simp only [hputs]); repeat (first | rfl | exact hput_same _ _ _ | refine hput_skip (by exact beq_false_of_ne (by omega)) ?_ | refine hrm_skip (by omega) ?_ | refine (famW_out _ (fun i_ _ => by first | omega | (dsimp only; omega))).trans ?_)) (by (try simp only [hputs]); repeat (first | rfl | exact hput_same _ _ _ | refine hput_skip (by exact beq_false_of_ne (by omega)) ?_ | refine hrm_skip (by omega) ?_ | refine (famW_out _ (fun i_ _ => by first | omega | (dsimp only; omega))).trans ?_)) (by (try simp only [hputs]); repeat (first | rfl | exact hput_same _ _ _ | refine hput_skip (by exact beq_false_of_ne (by omega)) ?_ | refine hrm_skip (by omega) ?_ | refine (famW_out _ (fun i_ _ => by first | omega | (dsimp only; omega))).trans ?_)) (by (try simp only [hputs]); repeat (first | rfl | exact hput_same _ _ _ | refine hput_skip (by exact beq_false_of_ne (by omega)) ?_ | refine hrm_skip (by omega) ?_ | refine (famW_out _ (fun i_ _ => by first | omega | (dsimp only; omega))).trans ?_)) (by (try simp only [hputs]); repeat (first | rfl | exact hput_same _ _ _ | refine hput_skip (by exact beq_false_of_ne (by omega)) ?_ | refine hrm_skip (by omega) ?_ | refine (famW_out _ (fun i_ _ => by first | omega | (dsimp only; omega))).trans ?_)) (fun x_ => by dsimp only; rw [hrm_ne _ (by omega)]; exact fam_hi _ _ _))⟩
  show AV.lst false _ = AV.lst false _
  rw [List.take_length, List.drop_zero, List.take_of_length_le (by rw [List.length_map]; exact Nat.le_refl _)]

end Go.Proofs.Ytjmjmedjjbginaa.Sv

namespace Go.Proofs.Ytjmjmedjjbginaa.Sv
open Go

set_option maxHeartbeats 4000000 in
set_option maxRecDepth 100000 in
theorem deadOf_ok (f : BFunc) (hs : f.sane) (hn0 : 0 < f.blocks.length) (hn : f.blocks.length ≤ 100000) (hr : f.regs ≤ 100000) (hi : ∀ x ∈ f.blocks, x.ins.length ≤ 100000) : APure Try.prog 13 [.agg f.cells] (fun r => r = .tup [.agg (dnf f).cells, .agg [rowsAV (inRows (dnf f))]]) := by
 have hr0 := hs.regs
 obtain ⟨R, hRf⟩ : ∃ R : Nat, f.regs = (R : Int) := ⟨f.regs.toNat, by omega⟩
 have hR : R ≤ 100000 := by omega
 refine APure.of_body (n := 83) tok Try.func13 rfl rfl ?_
 refine AGo.seq ?_
 refine AGo.region ?_
 refine ax 1 (o_box (sz := 2) 0 rfl rfl rfl rfl (Nat.zero_lt_succ _) rfl) ?_
 refine ax 2 (o_alloc tok 1 rfl rfl rfl rfl (Nat.zero_lt_succ _) rfl) ?_
 refine ax 3 (o_alloc tok 9 rfl rfl rfl rfl (Nat.zero_lt_succ _) rfl) ?_
 refine AOps.nil ?_
 refine AGo.seq ?_
 refine AGo.region ?_
 refine al 9 tok ?_
 refine AOps.call 10 (hn := putD _ (DH (DSL f R (SB f) ((List.range R).map natC) (R) (fun b => decide (b < R))) (DF f R (SB f) G0))) (r := .ptr 2 1 0 0) rfl rfl rfl (o_callKW (W := hNew) (W' := (DH (DSL f R (SB f) ((List.range R).map natC) (R) (fun b => decide (b < R))) (DF f R (SB f) G0))) kD rfl Try.func26 (by kernel_rfl) rfl rfl rfl (fun b hb => by have := kD_true hb; (try simp only [hputs]); show _ = some AObj.free; (repeat (first | refine hput_skip (by exact beq_false_of_ne (by omega)) ?_ | refine hrm_skip (by omega) ?_)); rfl) (fun b hb => ⟨.free, rfl, rfl⟩) (fun b hb => rfl) (fun b hb => DH_avoid rfl (DSL_avoid _ _ _ _ _ _) (DF_avoid kD_hi f R _ _) hb) rfl (newSearch_ok f hs R hRf hR hn hi)) ?_
 refine ax 4 (o_alloc tok 8 rfl rfl rfl rfl (Nat.zero_lt_succ _) rfl) ?_
 refine AOps.w rfl rfl (o_store tok rfl rfl rfl rfl rfl rfl rfl rfl rfl (by decide) rfl (by first | exact fun _ => rfl | (intro h; cases h))) ?_
 refine AOps.nil ?_
 refine AGo.seq ?_
 refine AGo.block ?_
 refine AGo.loopK (γ := RS) (kf 10) (fun st => ⟨83, (eput (eput (eput (eput eNew 1 (.ptr 0 1 0 0)) 2 (.ptr 1 1 0 0)) 3 (.ptr 9 1 0 0)) 4 (.ptr 8 1 0 0)), (fam (nb [(.row false 2 [f.cells]), (.row false 2 [[.int .i64 0, .nil]]), (.row false 8 [SDc f R (st.es).length (st.ws.length)]), (.row false 1 (colF (aR (aheadL f)) f.blocks.length)), (.row false 1 (colF (oR f.blocks.length R (SB f)) R)), (.row false 1 (colF (gR f) f.blocks.length)), (.row true 1 (st.es)), (.row true 1 (bC R (st.w))), ArW, (.row false 1 [[.nil]])]) (DF f R (SB f) st.G))⟩) (fun st => SI f R st) (fun st => smu f R st) (rs0 R) (Sub.mk' (by repeat (first | exact ESub.new _ | refine ESub.put ?_ (by rfl))) (famSub (k0 := 10) rfl (by repeat (first | exact trivial | refine ⟨⟨by first | rfl | exact putD_yes rfl | exact rs0_row, by first | rfl | exact colF_avoid (fun _ _ => aR_avoid (kf_hi' _) _ _) | exact colF_avoid (fun _ _ => oR_avoid (kf_hi' _) _ _ _ _) | exact colF_avoid (fun _ _ => gR_avoid (kf_hi' _) _ _)⟩, ?_⟩)) (fun x_ => by (try simp only [hputs]); (try dsimp only); first | exact fam_hi _ _ _ | exact (putD_hi _ _ x_).trans (fam_hi _ _ _) | ((repeat (first | refine hput_skip (by exact beq_false_of_ne (by omega)) ?_ | refine hrm_skip (by omega) ?_)); exact fam_hi _ _ _)) (fun c h1 h2 => by rcases (by omega : c = 10 ∨ c = 11 ∨ c = 12 ∨ c = 13 ∨ c = 14 ∨ c = 15) with rfl | rfl | rfl | rfl | rfl | rfl <;> first | rfl | (try simp only [hputs]; repeat (first | rfl | refine hput_skip (by exact beq_false_of_ne (by omega)) ?_ | refine hrm_skip (by omega) ?_))))) (SI.first hs hRf) (fun g b hb => famFree (k0 := 10) rfl hb) ?_
 intro st hQ
 obtain ⟨G, w, ws, es⟩ := st
 dsimp only at hQ ⊢
 refine AGo.seq ?_
 refine AGo.seq ?_
 refine AGo.region ?_
 refine al 11 tok ?_
 refine aq 12 (q_nilCheck rfl rfl rfl) ?_
 refine af 13 tok ?_
 refine al 14 tok ?_
 refine aq 15 (q_len tok rfl rfl rfl rfl rfl) ?_
 refine aq 16 (q_bin rfl rfl rfl rfl) ?_
 refine AOps.nil ?_
 refine AGo.split 16 rfl (fun hb1 => ?_) (fun hb1 => ?_)
 ·
  refine AGo.cond_true true rfl rfl ?_
  obtain ⟨ws', v, hws⟩ : ∃ ws' v, ws = ws' ++ [v] := by
    rcases snoc_cases ws with h | h
    · have h2 := hb1; rw [h] at h2; simp at h2
    · exact h
  subst hws
  have hpop := hQ.q.wt.pop
  have hv := hpop.2.1
  refine AGo.skip ?_
  refine AGo.block ?_
  refine AGo.seq ?_
  refine AGo.draw mix ?_
  refine dl 17 tok ?_
  refine dq 18 (q_nilCheck rfl rfl rfl) ?_
  refine df 19 tok ?_
  refine dl 20 tok ?_
  refine dl 21 tok ?_
  refine dq 22 (q_nilCheck rfl rfl rfl) ?_
  refine df 23 tok ?_
  refine dl 24 tok ?_
  refine dq 25 (q_len tok rfl rfl rfl rfl rfl) ?_
  refine dq 26 (q_bin (r := .int .i64 (ws'.length : Int)) rfl rfl rfl (pop_len (by have := hQ.q.wt.le; simp at this; omega))) ?_
  refine dq 27 (q_index_ref tok rfl rfl rfl rfl rfl rfl rfl rfl rfl (Int.natCast_nonneg _) (by simp; omega)) ?_
  refine dq 28 (q_load tok rfl rfl rfl (.ptr _ _ _ _ _ _ _ (natC v) rfl rfl (by rw [Nat.zero_add, Int.toNat_natCast]; exact hQ.q.st.get)) rfl) ?_
  refine da 5 ?_
  refine DOps.nil (by kernel_rfl) ?_
  refine AGo.seq ?_
  refine AGo.draw mix ?_
  refine dl 29 tok ?_
  refine dl 30 tok ?_
  refine dq 31 (q_nilCheck rfl rfl rfl) ?_
  refine df 32 tok ?_
  refine dl 33 tok ?_
  refine dl 34 tok ?_
  refine dq 35 (q_nilCheck rfl rfl rfl) ?_
  refine df 36 tok ?_
  refine dl 37 tok ?_
  refine dq 38 (q_len tok rfl rfl rfl rfl rfl) ?_
  refine dq 39 (q_bin (r := .int .i64 (ws'.length : Int)) rfl rfl rfl (pop_len (by have := hQ.q.wt.le; simp at this; omega))) ?_
  refine dq 40 (q_slice_ref tok (es := es) (m := ws'.length) rfl rfl rfl rfl rfl rfl rfl rfl rfl (by simp)) ?_
  refine dq 41 (q_nilCheck rfl rfl rfl) ?_
  refine df 42 tok ?_
  refine DOps.w rfl rfl (o_store tok rfl rfl rfl rfl rfl rfl rfl rfl rfl (by decide) rfl (by first | exact fun _ => rfl | (intro h; cases h))) ?_
  refine DOps.nil (by kernel_rfl) ?_
  refine AGo.seq ?_
  refine AGo.region ?_
  refine al 43 tok ?_
  refine aq 44 (q_nilCheck rfl rfl rfl) ?_
  refine af 45 tok ?_
  refine al 46 tok ?_
  refine am 47 ?_
  refine aq 48 (q_index_ref tok rfl rfl rfl rfl rfl rfl rfl (colF_len _ _).symm rfl (Int.natCast_nonneg _) (by omega)) ?_
  refine AOps.w rfl rfl (o_store tok rfl rfl rfl rfl rfl rfl (colF_len _ _).symm (by rw [Nat.zero_add, Int.toNat_natCast]; exact colF_get hv) rfl (by decide) rfl (by first | exact fun _ => rfl | (intro h; cases h))) ?_
  refine AOps.nil ?_
  refine AGo.region ?_
  refine al 49 tok ?_
  refine am 50 ?_
  refine AOps.call 51 (hn := putD _ (DH (DSL f R (SB f) ((regR f v (⟨G, updB w v false, ws', es⟩ : RS)).es) ((regR f v (⟨G, updB w v false, ws', es⟩ : RS)).ws.length) ((regR f v (⟨G, updB w v false, ws', es⟩ : RS)).w)) (DF f R (SB f) (regR f v (⟨G, updB w v false, ws', es⟩ : RS)).G))) (r := .tup []) rfl rfl rfl (o_callDH (DSL f R (SB f) es ws'.length (updB w v false)) (DSL f R (SB f) (regR f v (⟨G, updB w v false, ws', es⟩ : RS)).es (regR f v (⟨G, updB w v false, ws', es⟩ : RS)).ws.length (regR f v (⟨G, updB w v false, ws', es⟩ : RS)).w) (DF f R (SB f) (regR f v (⟨G, updB w v false, ws', es⟩ : RS)).G) rfl Try.func27 (by kernel_rfl) rfl rfl rfl rfl rfl (DSL_avoid _ _ _ _ _ _) (DSL_avoid _ _ _ _ _ _) (by repeat (first | exact trivial | refine ⟨by first | rfl | exact congrArg (fun es => some (AObj.row true 1 es)) (bC_set' false), ?_⟩)) (fun x_ => by (try simp only [hputs]); (try dsimp only); first | exact fam_hi _ _ _ | exact (putD_hi _ _ x_).trans (fam_hi _ _ _) | ((repeat (first | refine hput_skip (by exact beq_false_of_ne (by omega)) ?_ | refine hrm_skip (by omega) ?_)); exact fam_hi _ _ _)) (DF_avoid kD_hi f R _ _) (DF_avoid kD_hi f R _ _) rfl (dregister_ok f hs R hRf (⟨G, updB w v false, ws', es⟩ : RS) ⟨hpop.1, hQ.q.st.pop⟩ v hv hn hR hi)) ?_
  refine AOps.nil ?_
  exact ⟨(regR f v (⟨G, updB w v false, ws', es⟩ : RS)), DropK.mk' (by repeat (first | exact EDropK.new _ _ | refine EDropK.put ?_ (by rfl) (by first | rfl))) (famDrop (k0 := 10) rfl (by repeat (first | exact trivial | refine ⟨⟨by first | rfl | exact putD_yes rfl, by first | rfl | exact colF_avoid (fun _ _ => aR_avoid (kf_hi' _) _ _) | exact colF_avoid (fun _ _ => oR_avoid (kf_hi' _) _ _ _ _) | exact colF_avoid (fun _ _ => gR_avoid (kf_hi' _) _ _)⟩, ?_⟩)) (fun x_ => by (try simp only [hputs]); (try dsimp only); first | exact fam_hi _ _ _ | exact (putD_hi _ _ x_).trans (fam_hi _ _ _) | ((repeat (first | refine hput_skip (by exact beq_false_of_ne (by omega)) ?_ | refine hrm_skip (by omega) ?_)); exact fam_hi _ _ _)) (DF_avoid (kf_hi' _) f R _ _)), (hQ.reg hs hRf rfl).1, (hQ.reg hs hRf rfl).2⟩
 ·
  refine AGo.cond_false false rfl rfl ?_
  have hws : ws = [] := by
    rcases snoc_cases ws with h | ⟨L, b, h⟩
    · exact h
    · have h2 := hb1; rw [h] at h2; simp at h2
  subst hws
  have hdn : cutF f G = dnf f := hQ.done hs hRf rfl
  refine AGo.exit ?_
  refine AGo.seq ?_
  refine AGo.draw mix ?_
  refine df 52 tok ?_
  refine dl 53 tok ?_
  refine df 54 tok ?_
  refine dl 55 tok ?_
  refine dq 56 (q_len tok rfl rfl rfl rfl rfl) ?_
  refine dx 57 (o_makeSlice tok (n := f.blocks.length) (m := f.blocks.length) 11 true rfl rfl rfl (by simp) (by simp) rfl rfl rfl rfl rfl (Nat.zero_lt_succ _) rfl (Nat.le_refl _) (by show 56 * f.blocks.length ≤ _; omega) (by simp only [maxLen]; omega)) ?_
  refine dq 58 (q_build tok rfl rfl rfl rfl rfl (by decide) rfl rfl rfl) ?_
  refine dx 6 (o_alloc tok 10 rfl rfl rfl rfl (Nat.zero_lt_succ _) rfl) ?_
  refine DOps.w rfl rfl (o_store tok rfl rfl rfl rfl rfl rfl rfl rfl rfl (by decide) rfl (by first | exact fun _ => rfl | (intro h; cases h))) ?_
  refine DOps.nil (by kernel_rfl) ?_
  refine AGo.seq ?_
  refine AGo.seq ?_
  refine AGo.region ?_
  refine af 59 tok ?_
  refine al 60 tok ?_
  refine aq 61 (q_len tok rfl rfl rfl rfl rfl) ?_
  refine am 62 ?_
  refine AOps.nil ?_
  refine AGo.block ?_
  refine AGo.loopK (γ := Nat) (kf 12) (fun k => ⟨83, (eput (eput (eput (eput (eput (eput (eput (eput eNew 1 (.ptr 0 1 0 0)) 2 (.ptr 1 1 0 0)) 3 (.ptr 9 1 0 0)) 4 (.ptr 8 1 0 0)) 6 (.ptr 10 1 0 0)) 60 (blocksAV f.blocks)) 61 (.int .i64 (f.blocks.length : Int))) 62 (.int .i64 (k : Int))), (fam (nb [(.row false 2 [f.cells]), (.row false 2 [[.int .i64 0, .nil]]), (.row false 8 [SDc f R (es).length (([] : List Nat).length)]), (.row false 1 (colF (aR (aheadL f)) f.blocks.length)), (.row false 1 (colF (oR f.blocks.length R (SB f)) R)), (.row false 1 (colF (gR f) f.blocks.length)), (.row true 1 (es)), (.row true 1 (bC R (w))), ArW, (.row false 1 [[.nil]]), (.row false 2 [[.int .i64 f.regs, .ref 11 f.blocks.length 0 f.blocks.length]]), (.row true 5 (((cutF f G).blocks.take k).map Block.cells ++ List.replicate (f.blocks.length - k) [.nil, .int .i64 0, .int .i64 0, .int .i64 0, .int .i64 0]))]) (DF f R (SB f) G))⟩) (fun k => k ≤ f.blocks.length) (fun k => f.blocks.length - k) 0 (Sub.mk' (by repeat (first | exact ESub.new _ | refine ESub.put ?_ (by first | rfl | exact congrArg (fun (n : Nat) => some (AV.int .i64 (n : Int))) (by simp)))) (famSub (k0 := 12) rfl (by repeat (first | exact trivial | refine ⟨⟨by rfl, by first | rfl | exact colF_avoid (fun _ _ => aR_avoid (kf_hi' _) _ _) | exact colF_avoid (fun _ _ => oR_avoid (kf_hi' _) _ _ _ _) | exact colF_avoid (fun _ _ => gR_avoid (kf_hi' _) _ _)⟩, ?_⟩)) (fun x_ => by (try simp only [hputs]); repeat (first | exact fam_hi _ _ _ | refine hput_skip (by exact beq_false_of_ne (by omega)) ?_ | refine hrm_skip (by omega) ?_)) (fun c h1 h2 => by rcases (by omega : c = 12 ∨ c = 13 ∨ c = 14 ∨ c = 15) with rfl | rfl | rfl | rfl <;> first | rfl | (try simp only [hputs]; repeat (first | rfl | refine hput_skip (by exact beq_false_of_ne (by omega)) ?_ | refine hrm_skip (by omega) ?_))))) (Nat.zero_le _) (fun g b hb => famFree (k0 := 12) rfl hb) ?_
  intro k hk
  refine AGo.seq ?_
  refine AGo.region ?_
  refine aq 63 (q_bin rfl rfl rfl rfl) ?_
  refine AOps.nil ?_
  refine AGo.seq ?_
  refine AGo.split 63 rfl (fun hb2 => ?_) (fun hb2 => ?_)
  ·
   refine AGo.cond_true true rfl rfl ?_
   have hkl : k < f.blocks.length := by have h := hb2; simp at h; exact h
   obtain ⟨x, hx⟩ := get_of_lt hkl
   have hxm := List.mem_of_getElem? hx
   refine AGo.skip ?_
   refine AGo.seq ?_
   refine AGo.block ?_
   refine AGo.seq ?_
   refine AGo.region ?_
   refine am 64 ?_
   refine aq 65 (q_index_lst tok rfl rfl rfl rfl rfl rfl (Int.natCast_nonneg _) (idx_map hx) rfl) ?_
   refine al 66 tok ?_
   refine ax 7 (o_alloc tok 12 rfl rfl rfl rfl (Nat.zero_lt_succ _) rfl) ?_
   refine ax 8 (o_alloc tok 13 rfl rfl rfl rfl (Nat.zero_lt_succ _) rfl) ?_
   refine AOps.w rfl rfl (o_store tok rfl rfl rfl rfl rfl rfl rfl rfl rfl (by decide) rfl (by first | exact fun _ => rfl | (intro h; cases h))) ?_
   refine AOps.w rfl rfl (o_store tok rfl rfl rfl rfl rfl rfl rfl rfl rfl (by decide) rfl (by first | exact fun _ => rfl | (intro h; cases h))) ?_
   refine AOps.nil ?_
   refine AGo.seq ?_
   refine AGo.region ?_
   refine af 67 tok ?_
   refine al 68 tok ?_
   refine aq 69 (q_makeFunc rfl rfl rfl) ?_
   refine AOps.call 70 (hn := _) (r := insAV (kpI (G k) x.ins 0)) rfl rfl rfl (o_callKR (W := WS f R (SB f) G es ([] : List Nat).length w k) kW rfl Try.func28 (by kernel_rfl) rfl rfl rfl (WH_of (by (try simp only [hputs]); repeat (first | rfl | exact hput_same _ _ _ | refine hput_skip (by exact beq_false_of_ne (by omega)) ?_ | refine hrm_skip (by omega) ?_ | refine (famW_out _ (fun i_ _ => by first | omega | (dsimp only; omega))).trans ?_)) (by (try simp only [hputs]); repeat (first | rfl | exact hput_same _ _ _ | refine hput_skip (by exact beq_false_of_ne (by omega)) ?_ | refine hrm_skip (by omega) ?_ | refine (famW_out _ (fun i_ _ => by first | omega | (dsimp only; omega))).trans ?_)) (by (try simp only [hputs]); repeat (first | rfl | exact hput_same _ _ _ | refine hput_skip (by exact beq_false_of_ne (by omega)) ?_ | refine hrm_skip (by omega) ?_ | refine (famW_out _ (fun i_ _ => by first | omega | (dsimp only; omega))).trans ?_)) (by (try simp only [hputs]); repeat (first | rfl | exact hput_same _ _ _ | refine hput_skip (by exact beq_false_of_ne (by omega)) ?_ | refine hrm_skip (by omega) ?_ | refine (famW_out _ (fun i_ _ => by first | omega | (dsimp only; omega))).trans ?_)) (by (try simp only [hputs]); repeat (first | rfl | exact hput_same _ _ _ | refine hput_skip (by exact beq_false_of_ne (by omega)) ?_ | refine hrm_skip (by omega) ?_ | refine (famW_out _ (fun i_ _ => by first | omega | (dsimp only; omega))).trans ?_)) (by (try simp only [hputs]); repeat (first | rfl | exact hput_same _ _ _ | refine hput_skip (by exact beq_false_of_ne (by omega)) ?_ | refine hrm_skip (by omega) ?_ | refine (famW_out _ (fun i_ _ => by first | omega | (dsimp only; omega))).trans ?_)) (by (try simp only [hputs]); repeat (first | rfl | exact hput_same _ _ _ | refine hput_skip (by exact beq_false_of_ne (by omega)) ?_ | refine hrm_skip (by omega) ?_ | refine (famW_out _ (fun i_ _ => by first | omega | (dsimp only; omega))).trans ?_)) (by (try simp only [hputs]); repeat (first | rfl | exact hput_same _ _ _ | refine hput_skip (by exact beq_false_of_ne (by omega)) ?_ | refine hrm_skip (by omega) ?_ | refine (famW_out _ (fun i_ _ => by first | omega | (dsimp only; omega))).trans ?_)) (fun x_ => by (try simp only [hputs]); (try dsimp only); first | exact fam_hi _ _ _ | ((repeat (first | refine hput_skip (by exact beq_false_of_ne (by omega)) ?_ | refine hrm_skip (by omega) ?_)); exact fam_hi _ _ _))) (WS_avoid f R (SB f) G es _ w k) WH_free rfl (without_ok f R (SB f) G es _ w k x hx (hi x hxm))) ?_
   refine af 71 tok ?_
   refine AOps.w rfl rfl (o_store tok rfl rfl rfl rfl rfl rfl rfl rfl rfl (by decide) rfl (by first | exact fun _ => rfl | (intro h; cases h))) ?_
   refine AOps.nil ?_
   refine AGo.region ?_
   refine af 72 tok ?_
   refine al 73 tok ?_
   refine al 74 tok ?_
   refine al 75 tok ?_
   refine aq 76 (q_index_ref tok rfl rfl rfl rfl rfl rfl rfl (fill_len (cutF_len f G) (Nat.le_of_lt hkl)) rfl (Int.natCast_nonneg _) (by omega)) ?_
   refine AOps.w rfl rfl (o_store tok rfl rfl rfl rfl rfl rfl (fill_len (cutF_len f G) (Nat.le_of_lt hkl)) (fill_get (cutF_len f G) hkl) rfl (by decide) rfl (by first | exact fun _ => rfl | (intro h; cases h))) ?_
   refine AOps.nil ?_
   refine AGo.region ?_
   refine aq 77 (q_inc rfl rfl hkl (by simp only [maxLen]; omega)) ?_
   refine am 62 ?_
   refine AOps.nil ?_
   exact ⟨k+1, DropK.mk' (by repeat (first | exact EDropK.new _ _ | refine EDropK.put ?_ (by rfl) (by first | rfl))) (famDrop (k0 := 12) rfl (by repeat (first | exact trivial | refine ⟨⟨by first | rfl | exact congrArg (fun es => some (AObj.row true 5 es)) (fill_put (f := Block.cells) (x := x.mid (kpI (G k) x.ins 0)) (cutF_len f G) (cutF_get hx)), by first | rfl | exact colF_avoid (fun _ _ => aR_avoid (kf_hi' _) _ _) | exact colF_avoid (fun _ _ => oR_avoid (kf_hi' _) _ _ _ _) | exact colF_avoid (fun _ _ => gR_avoid (kf_hi' _) _ _)⟩, ?_⟩)) (fun x_ => by (try simp only [hputs]); repeat (first | exact fam_hi _ _ _ | refine hput_skip (by exact beq_false_of_ne (by omega)) ?_ | refine hrm_skip (by omega) ?_)) (DF_avoid (kf_hi' _) f R _ _)), hkl, by omega⟩
  ·
   refine AGo.cond_false false rfl rfl ?_
   have hge : f.blocks.length ≤ k := by have h := hb2; simp at h; omega
   refine AGo.exit ?_
   refine AGo.seq ?_
   refine AGo.ghost (.freezeCell 10 0 1 11 rfl rfl rfl rfl (fill_len (cutF_len f G) hk) (by decide)) ?_
   rw [fill_end (f := Block.cells) (z := [.nil, .int .i64 0, .int .i64 0, .int .i64 0, .int .i64 0]) (cutF_len f G) hge]
   refine AGo.draw mix ?_
   refine dl 78 tok ?_
   refine dl 79 tok ?_
   refine dx 80 (o_pure rfl Try.func30 (by kernel_rfl) rfl rfl rfl (live_ok (cutF f G) (cuts_sane hQ.c hs) (by rw [cutF_len]; exact hn0) (by rw [cutF_len]; exact hn) hr (cutF_ins hi))) ?_
   refine dq 81 (q_field tok rfl rfl rfl rfl rfl rfl rfl rfl) ?_
   refine dq 82 (q_build tok rfl rfl rfl rfl rfl (by decide) rfl rfl rfl) ?_
   refine DOps.w rfl rfl (o_store tok rfl rfl rfl rfl rfl rfl rfl rfl rfl (by decide) rfl (by first | exact fun _ => rfl | (intro h; cases h))) ?_
   refine DOps.w rfl rfl (o_store tok rfl rfl rfl rfl rfl rfl rfl rfl rfl (by decide) rfl (by first | exact fun _ => rfl | (intro h; cases h))) ?_
   refine DOps.nil (by kernel_rfl) ?_
   refine AGo.ret ?_
   refine ⟨[_, _], ⟨⟨_, _, _, _, rfl, rfl, .ptr _ _ _ _ _ _ _ _ rfl rfl rfl, rfl⟩, ⟨_, _, _, _, rfl, rfl, .ptr _ _ _ _ _ _ _ _ rfl rfl rfl, rfl⟩, trivial⟩, ?_, rfl⟩
   rw [← hdn]
   rfl

end Go.Proofs.Ytjmjmedjjbginaa.Sv

namespace Go.Proofs.Ytjmjmedjjbginaa.Sv
open Go

section
variable {P : Program} {T : Nat → Option TyI} {o : Oper} {e : AEnv} {h : AHeap}
end
end Go.Proofs.Ytjmjmedjjbginaa.Sv

namespace Go.Proofs.Ytjmjmedjjbginaa.Sv
open Go

end Go.Proofs.Ytjmjmedjjbginaa.Sv

namespace Go.Proofs.Ytjmjmedjjbginaa.Sv
open Go

end Go.Proofs.Ytjmjmedjjbginaa.Sv

namespace Go.Proofs.Ytjmjmedjjbginaa.Sv
open Go

set_option maxRecDepth 100000 in
theorem rsameBlock_ok (x y : Block) (hx : x.ins.length ≤ 1000000000000000) : APure Try.prog 31 [.agg x.cells, .agg y.cells] (fun r => r = .bool (decide (x = y))) := by
 refine APure.of_body (n := 59) tok Try.func31 rfl rfl ?_
 refine AGo.seq ?_
 refine AGo.region ?_
 refine ax 2 (o_box (sz := 5) 0 rfl rfl rfl rfl (Nat.zero_lt_succ _) rfl) ?_
 refine ax 3 (o_box (sz := 5) 1 rfl rfl rfl rfl (Nat.zero_lt_succ _) rfl) ?_
 refine aa 4 ?_
 refine AOps.nil ?_
 refine AGo.seq ?_
 refine AGo.seq ?_
 refine AGo.region ?_
 refine af 6 tok ?_
 refine al 7 tok ?_
 refine af 8 tok ?_
 refine al 9 tok ?_
 refine aq 10 (q_bin rfl rfl rfl rfl) ?_
 refine am 11 ?_
 refine AOps.split 11 rfl (fun hb1 => ?_) (fun hb1 => ?_)
 ·
  refine ak 12 ?_
  refine ak 13 ?_
  refine ak 14 ?_
  refine ak 15 ?_
  refine ak 16 ?_
  refine aq 17 (q_pick_true true rfl rfl rfl rfl) ?_
  refine am 18 ?_
  refine ak 19 ?_
  refine ak 20 ?_
  refine ak 21 ?_
  refine ak 22 ?_
  refine ak 23 ?_
  refine aq 24 (q_pick_true true rfl rfl rfl rfl) ?_
  refine am 25 ?_
  refine ak 26 ?_
  refine ak 27 ?_
  refine ak 28 ?_
  refine ak 29 ?_
  refine ak 30 ?_
  refine aq 31 (q_pick_true true rfl rfl rfl rfl) ?_
  refine am 32 ?_
  refine ak 33 ?_
  refine ak 34 ?_
  refine ak 35 ?_
  refine ak 36 ?_
  refine ak 37 ?_
  refine ak 38 ?_
  refine ak 39 ?_
  refine aq 40 (q_pick_true true rfl rfl rfl rfl) ?_
  refine AOps.nil ?_
  refine AGo.cond_true true rfl rfl ?_
  refine AGo.seq ?_
  refine AGo.region ?_
  refine aa 4 ?_
  refine AOps.nil ?_
  refine AGo.ret ?_
  refine ⟨[_], ⟨rfl, trivial⟩, ?_, rfl⟩
  show AV.bool false = _
  rw [decide_eq_false (by rintro rfl; simp_all)]
 ·
  refine af 12 tok ?_
  refine al 13 tok ?_
  refine af 14 tok ?_
  refine al 15 tok ?_
  refine aq 16 (q_bin rfl rfl rfl rfl) ?_
  refine aq 17 (q_pick_false false rfl rfl rfl rfl) ?_
  refine am 18 ?_
  refine AOps.split 18 rfl (fun hb2 => ?_) (fun hb2 => ?_)
  ·
   refine ak 19 ?_
   refine ak 20 ?_
   refine ak 21 ?_
   refine ak 22 ?_
   refine ak 23 ?_
   refine aq 24 (q_pick_true true rfl rfl rfl rfl) ?_
   refine am 25 ?_
   refine ak 26 ?_
   refine ak 27 ?_
   refine ak 28 ?_
   refine ak 29 ?_
   refine ak 30 ?_
   refine aq 31 (q_pick_true true rfl rfl rfl rfl) ?_
   refine am 32 ?_
   refine ak 33 ?_
   refine ak 34 ?_
   refine ak 35 ?_
   refine ak 36 ?_
   refine ak 37 ?_
   refine ak 38 ?_
   refine ak 39 ?_
   refine aq 40 (q_pick_true true rfl rfl rfl rfl) ?_
   refine AOps.nil ?_
   refine AGo.cond_true true rfl rfl ?_
   refine AGo.seq ?_
   refine AGo.region ?_
   refine aa 4 ?_
   refine AOps.nil ?_
   refine AGo.ret ?_
   refine ⟨[_], ⟨rfl, trivial⟩, ?_, rfl⟩
   show AV.bool false = _
   rw [decide_eq_false (by rintro rfl; simp_all)]
  ·
   refine af 19 tok ?_
   refine al 20 tok ?_
   refine af 21 tok ?_
   refine al 22 tok ?_
   refine aq 23 (q_bin rfl rfl rfl rfl) ?_
   refine aq 24 (q_pick_false false rfl rfl rfl rfl) ?_
   refine am 25 ?_
   refine AOps.split 25 rfl (fun hb3 => ?_) (fun hb3 => ?_)
   ·
    refine ak 26 ?_
    refine ak 27 ?_
    refine ak 28 ?_
    refine ak 29 ?_
    refine ak 30 ?_
    refine aq 31 (q_pick_true true rfl rfl rfl rfl) ?_
    refine am 32 ?_
    refine ak 33 ?_
    refine ak 34 ?_
    refine ak 35 ?_
    refine ak 36 ?_
    refine ak 37 ?_
    refine ak 38 ?_
    refine ak 39 ?_
    refine aq 40 (q_pick_true true rfl rfl rfl rfl) ?_
    refine AOps.nil ?_
    refine AGo.cond_true true rfl rfl ?_
    refine AGo.seq ?_
    refine AGo.region ?_
    refine aa 4 ?_
    refine AOps.nil ?_
    refine AGo.ret ?_
    refine ⟨[_], ⟨rfl, trivial⟩, ?_, rfl⟩
    show AV.bool false = _
    rw [decide_eq_false (by rintro rfl; simp_all)]
   ·
    refine af 26 tok ?_
    refine al 27 tok ?_
    refine af 28 tok ?_
    refine al 29 tok ?_
    refine aq 30 (q_bin rfl rfl rfl rfl) ?_
    refine aq 31 (q_pick_false false rfl rfl rfl rfl) ?_
    refine am 32 ?_
    refine AOps.split 32 rfl (fun hb4 => ?_) (fun hb4 => ?_)
    ·
     refine ak 33 ?_
     refine ak 34 ?_
     refine ak 35 ?_
     refine ak 36 ?_
     refine ak 37 ?_
     refine ak 38 ?_
     refine ak 39 ?_
     refine aq 40 (q_pick_true true rfl rfl rfl rfl) ?_
     refine AOps.nil ?_
     refine AGo.cond_true true rfl rfl ?_
     refine AGo.seq ?_
     refine AGo.region ?_
     refine aa 4 ?_
     refine AOps.nil ?_
     refine AGo.ret ?_
     refine ⟨[_], ⟨rfl, trivial⟩, ?_, rfl⟩
     show AV.bool false = _
     rw [decide_eq_false (by rintro rfl; simp_all)]
    ·
     refine af 33 tok ?_
     refine al 34 tok ?_
     refine aq 35 (q_len tok rfl rfl rfl rfl rfl) ?_
     refine af 36 tok ?_
     refine al 37 tok ?_
     refine aq 38 (q_len tok rfl rfl rfl rfl rfl) ?_
     refine aq 39 (q_bin rfl rfl rfl rfl) ?_
     refine aq 40 (q_pick_false false rfl rfl rfl rfl) ?_
     refine AOps.nil ?_
     refine AGo.split 40 rfl (fun hb5 => ?_) (fun hb5 => ?_)
     ·
      refine AGo.cond_true true rfl rfl ?_
      refine AGo.seq ?_
      refine AGo.region ?_
      refine aa 4 ?_
      refine AOps.nil ?_
      refine AGo.ret ?_
      refine ⟨[_], ⟨rfl, trivial⟩, ?_, rfl⟩
      show AV.bool false = _
      rw [decide_eq_false (by rintro rfl; simp_all)]
     ·
      refine AGo.cond_false false rfl rfl ?_
      have h0 : x.fin = y.fin ∧ x.v = y.v ∧ x.to = y.to ∧ x.els = y.els ∧ x.ins.length = y.ins.length := by simp_all <;> omega
      refine AGo.skip ?_
      refine AGo.seq ?_
      refine AGo.seq ?_
      refine AGo.region ?_
      refine aa 5 ?_
      refine AOps.nil ?_
      refine AGo.block ?_
      refine AGo.loopD (γ := Nat) 2 (fun i => ⟨59, (eput (eput (eput eNew 2 (.ptr 0 1 0 0)) 3 (.ptr 1 1 0 0)) 5 (.int .i64 (i : Int))), (hput (hput (hFrom 2) 0 (.row false 5 [x.cells])) 1 (.row false 5 [y.cells]))⟩) (fun i => x.ins.take i = y.ins.take i) (fun i => x.ins.length - i) 0 (Sub.mk' (by repeat (first | exact ESub.new _ | refine ESub.put ?_ (by first | rfl | exact congrArg (fun (n : Nat) => some (AV.int .i64 (n : Int))) (by simp)))) (by repeat (first | exact HSub.refl _ | exact HSub.none _ | exact HSub.from_new _ | exact HSub.from_from (by first | decide | omega | (dsimp only; omega)) | refine HSub.put ?_ (by rfl) | refine HSub.from_put ?_ (by first | decide | omega | (dsimp only; omega)) | refine HSub.from_rm ?_ (by decide)))) rfl (fun _ => hput_free (hput_free (fun b hb => hFrom_free hb) rfl) rfl) ?_
      intro i ht
      refine AGo.seq ?_
      refine AGo.seq ?_
      refine AGo.region ?_
      refine am 41 ?_
      refine af 42 tok ?_
      refine al 43 tok ?_
      refine aq 44 (q_len tok rfl rfl rfl rfl rfl) ?_
      refine aq 45 (q_bin rfl rfl rfl rfl) ?_
      refine AOps.nil ?_
      refine AGo.split 45 rfl (fun hb6 => ?_) (fun hb6 => ?_)
      ·
       refine AGo.cond_true true rfl rfl ?_
       have hil : i < x.ins.length := by simpa using hb6
       obtain ⟨u, hu⟩ := get_of_lt hil
       obtain ⟨v, hv⟩ := get_of_lt (l := y.ins) (k := i) (by omega)
       refine AGo.skip ?_
       refine AGo.seq ?_
       refine AGo.block ?_
       refine AGo.seq ?_
       refine AGo.draw mix ?_
       refine df 48 tok ?_
       refine dl 49 tok ?_
       refine dm 50 ?_
       refine dq 51 (q_index_lst tok rfl rfl rfl rfl rfl rfl (Int.natCast_nonneg _) (idx_map (by assumption)) rfl) ?_
       refine dl 52 tok ?_
       refine df 53 tok ?_
       refine dl 54 tok ?_
       refine dm 55 ?_
       refine dq 56 (q_index_lst tok rfl rfl rfl rfl rfl rfl (Int.natCast_nonneg _) (idx_map (by assumption)) rfl) ?_
       refine dl 57 tok ?_
       refine dq 58 (q_eqStruct tok true rfl rfl rfl (by kernel_rfl) rfl rfl rfl rfl (Tac.eqCells u v)) ?_
       refine DOps.nil (by kernel_rfl) ?_
       refine AGo.split 58 rfl (fun hb7 => ?_) (fun hb7 => ?_)
       ·
        refine AGo.cond_true true rfl rfl ?_
        have huv : u ≠ v := by simpa using hb7
        refine AGo.seq ?_
        refine AGo.region ?_
        refine aa 4 ?_
        refine AOps.nil ?_
        refine AGo.ret ?_
        refine ⟨[_], ⟨rfl, trivial⟩, ?_, rfl⟩
        show AV.bool false = _
        rw [decide_eq_false (by rintro rfl; rw [hu] at hv; cases hv; exact huv rfl)]
       ·
        refine AGo.cond_false false rfl rfl ?_
        have huv : u = v := by simpa using hb7
        refine AGo.skip ?_
        refine AGo.region ?_
        refine am 46 ?_
        refine aq 47 (q_inc rfl rfl hil (by simp only [maxLen]; omega)) ?_
        refine aa 5 ?_
        refine AOps.nil ?_
        exact ⟨i+1, Drop.mk' (by repeat (first | exact EDrop.new _ _ | refine EDrop.put ?_ (by rfl) (by first | rfl | exact slA_avoid _ rfl | exact vaA_avoid _ rfl))) (by repeat (first | exact HDrop.none _ _ | exact HDrop.tail _ _ | refine HDrop.put ?_ (by rfl) rfl (by first | rfl | exact slO_avoid _ _ | exact vaO_avoid _ | exact tab_avoid _ _ rfl rfl | exact wlk_avoid _ _ _ rfl rfl rfl))), (by rw [take_succ_eq hu, take_succ_eq hv, ht, huv]), by omega⟩
      ·
       refine AGo.cond_false false rfl rfl ?_
       have hge : x.ins.length ≤ i := by simpa using hb6
       refine AGo.exit ?_
       refine AGo.seq ?_
       refine AGo.region ?_
       refine aa 4 ?_
       refine AOps.nil ?_
       refine AGo.ret ?_
       refine ⟨[_], ⟨rfl, trivial⟩, ?_, rfl⟩
       show AV.bool true = _
       rw [decide_eq_true (Block.ext5 h0.1 h0.2.1 h0.2.2.1 h0.2.2.2.1 (take_all ht hge (h0.2.2.2.2 ▸ hge)))]

set_option maxRecDepth 100000 in
theorem rsameFunc_ok (f g : BFunc) (hf : f.blocks.length ≤ 1000000000000000 ∧ ∀ x ∈ f.blocks, x.ins.length ≤ 1000000000000000) : APure Try.prog 14 [.agg f.cells, .agg g.cells] (fun r => r = .bool (decide (f = g))) := by
 refine APure.of_body (n := 39) tok Try.func14 rfl rfl ?_
 refine AGo.seq ?_
 refine AGo.region ?_
 refine ax 2 (o_box (sz := 2) 0 rfl rfl rfl rfl (Nat.zero_lt_succ _) rfl) ?_
 refine ax 3 (o_box (sz := 2) 1 rfl rfl rfl rfl (Nat.zero_lt_succ _) rfl) ?_
 refine aa 4 ?_
 refine AOps.nil ?_
 refine AGo.seq ?_
 refine AGo.seq ?_
 refine AGo.region ?_
 refine af 6 tok ?_
 refine al 7 tok ?_
 refine af 8 tok ?_
 refine al 9 tok ?_
 refine aq 10 (q_bin rfl rfl rfl rfl) ?_
 refine am 11 ?_
 refine AOps.split 11 rfl (fun hb1 => ?_) (fun hb1 => ?_)
 ·
  refine ak 12 ?_
  refine ak 13 ?_
  refine ak 14 ?_
  refine ak 15 ?_
  refine ak 16 ?_
  refine ak 17 ?_
  refine ak 18 ?_
  refine aq 19 (q_pick_true true rfl rfl rfl rfl) ?_
  refine AOps.nil ?_
  refine AGo.cond_true true rfl rfl ?_
  refine AGo.seq ?_
  refine AGo.region ?_
  refine aa 4 ?_
  refine AOps.nil ?_
  refine AGo.ret ?_
  refine ⟨[_], ⟨rfl, trivial⟩, ?_, rfl⟩
  show AV.bool false = _
  rw [decide_eq_false (by rintro rfl; simp_all)]
 ·
  refine af 12 tok ?_
  refine al 13 tok ?_
  refine aq 14 (q_len tok rfl rfl rfl rfl rfl) ?_
  refine af 15 tok ?_
  refine al 16 tok ?_
  refine aq 17 (q_len tok rfl rfl rfl rfl rfl) ?_
  refine aq 18 (q_bin rfl rfl rfl rfl) ?_
  refine aq 19 (q_pick_false false rfl rfl rfl rfl) ?_
  refine AOps.nil ?_
  refine AGo.split 19 rfl (fun hb2 => ?_) (fun hb2 => ?_)
  ·
   refine AGo.cond_true true rfl rfl ?_
   refine AGo.seq ?_
   refine AGo.region ?_
   refine aa 4 ?_
   refine AOps.nil ?_
   refine AGo.ret ?_
   refine ⟨[_], ⟨rfl, trivial⟩, ?_, rfl⟩
   show AV.bool false = _
   rw [decide_eq_false (by rintro rfl; simp_all)]
  ·
   refine AGo.cond_false false rfl rfl ?_
   have h0 : f.regs = g.regs ∧ f.blocks.length = g.blocks.length := by simp_all <;> omega
   refine AGo.skip ?_
   refine AGo.seq ?_
   refine AGo.seq ?_
   refine AGo.region ?_
   refine aa 5 ?_
   refine AOps.nil ?_
   refine AGo.block ?_
   refine AGo.loopD (γ := Nat) 2 (fun i => ⟨39, (eput (eput (eput eNew 2 (.ptr 0 1 0 0)) 3 (.ptr 1 1 0 0)) 5 (.int .i64 (i : Int))), (hput (hput (hFrom 2) 0 (.row false 2 [f.cells])) 1 (.row false 2 [g.cells]))⟩) (fun i => f.blocks.take i = g.blocks.take i) (fun i => f.blocks.length - i) 0 (Sub.mk' (by repeat (first | exact ESub.new _ | refine ESub.put ?_ (by first | rfl | exact congrArg (fun (n : Nat) => some (AV.int .i64 (n : Int))) (by simp)))) (by repeat (first | exact HSub.refl _ | exact HSub.none _ | exact HSub.from_new _ | exact HSub.from_from (by first | decide | omega | (dsimp only; omega)) | refine HSub.put ?_ (by rfl) | refine HSub.from_put ?_ (by first | decide | omega | (dsimp only; omega)) | refine HSub.from_rm ?_ (by decide)))) rfl (fun _ => hput_free (hput_free (fun b hb => hFrom_free hb) rfl) rfl) ?_
   intro i ht
   refine AGo.seq ?_
   refine AGo.seq ?_
   refine AGo.region ?_
   refine am 20 ?_
   refine af 21 tok ?_
   refine al 22 tok ?_
   refine aq 23 (q_len tok rfl rfl rfl rfl rfl) ?_
   refine aq 24 (q_bin rfl rfl rfl rfl) ?_
   refine AOps.nil ?_
   refine AGo.split 24 rfl (fun hb3 => ?_) (fun hb3 => ?_)
   ·
    refine AGo.cond_true true rfl rfl ?_
    have hil : i < f.blocks.length := by simpa using hb3
    obtain ⟨x, hx⟩ := get_of_lt hil
    obtain ⟨y, hy⟩ := get_of_lt (l := g.blocks) (k := i) (by omega)
    have hil2 := hf.1
    refine AGo.skip ?_
    refine AGo.seq ?_
    refine AGo.block ?_
    refine AGo.seq ?_
    refine AGo.draw mix ?_
    refine df 27 tok ?_
    refine dl 28 tok ?_
    refine dm 29 ?_
    refine dq 30 (q_index_lst tok rfl rfl rfl rfl rfl rfl (Int.natCast_nonneg _) (idx_map hx) rfl) ?_
    refine dl 31 tok ?_
    refine df 32 tok ?_
    refine dl 33 tok ?_
    refine dm 34 ?_
    refine dq 35 (q_index_lst tok rfl rfl rfl rfl rfl rfl (Int.natCast_nonneg _) (idx_map hy) rfl) ?_
    refine dl 36 tok ?_
    refine dx 37 (o_pure rfl Try.func31 (by kernel_rfl) rfl rfl rfl (rsameBlock_ok x y (hf.2 x (List.mem_of_getElem? hx)))) ?_
    refine dq 38 (q_not rfl rfl) ?_
    refine DOps.nil (by kernel_rfl) ?_
    refine AGo.split 38 rfl (fun hb4 => ?_) (fun hb4 => ?_)
    ·
     refine AGo.cond_true true rfl rfl ?_
     have hxy : x ≠ y := by simpa using hb4
     refine AGo.seq ?_
     refine AGo.region ?_
     refine aa 4 ?_
     refine AOps.nil ?_
     refine AGo.ret ?_
     refine ⟨[_], ⟨rfl, trivial⟩, ?_, rfl⟩
     show AV.bool false = _
     rw [decide_eq_false (by rintro rfl; rw [hx] at hy; cases hy; exact hxy rfl)]
    ·
     refine AGo.cond_false false rfl rfl ?_
     have hxy : x = y := by simpa using hb4
     refine AGo.skip ?_
     refine AGo.region ?_
     refine am 25 ?_
     refine aq 26 (q_inc rfl rfl hil (by simp only [maxLen]; omega)) ?_
     refine aa 5 ?_
     refine AOps.nil ?_
     exact ⟨i+1, Drop.mk' (by repeat (first | exact EDrop.new _ _ | refine EDrop.put ?_ (by rfl) (by first | rfl | exact slA_avoid _ rfl | exact vaA_avoid _ rfl))) (by repeat (first | exact HDrop.none _ _ | exact HDrop.tail _ _ | refine HDrop.put ?_ (by rfl) rfl (by first | rfl | exact slO_avoid _ _ | exact vaO_avoid _ | exact tab_avoid _ _ rfl rfl | exact wlk_avoid _ _ _ rfl rfl rfl))), (by rw [take_succ_eq hx, take_succ_eq hy, ht, hxy]), by omega⟩
   ·
    refine AGo.cond_false false rfl rfl ?_
    have hge : f.blocks.length ≤ i := by simpa using hb3
    refine AGo.exit ?_
    refine AGo.seq ?_
    refine AGo.region ?_
    refine aa 4 ?_
    refine AOps.nil ?_
    refine AGo.ret ?_
    refine ⟨[_], ⟨rfl, trivial⟩, ?_, rfl⟩
    show AV.bool true = _
    rw [decide_eq_true (BFunc.ext' h0.1 (take_all ht hge (h0.2 ▸ hge)))]

end Go.Proofs.Ytjmjmedjjbginaa.Sv

namespace Go.Proofs.Ytjmjmedjjbginaa.Sv
open Go

set_option maxRecDepth 100000 in
theorem alive32_ok  : APure Try.prog 9 [] (fun r => r = .bool true) := by
 refine APure.of_body (n := 66) tok Try.func9 rfl rfl ?_
 refine AGo.seq ?_
 refine AGo.region ?_
 refine aa 0 ?_
 refine AOps.nil ?_
 refine AGo.seq ?_
 refine AGo.region ?_
 refine aq 7 (q_build tok rfl rfl rfl rfl rfl (by decide) rfl rfl rfl) ?_
 refine aq 8 (q_build tok rfl rfl rfl rfl rfl (by decide) rfl rfl rfl) ?_
 refine aq 9 (q_build tok rfl rfl rfl rfl rfl (by decide) rfl rfl rfl) ?_
 refine ax 10 (o_lit' tok rfl rfl rfl rfl rfl rfl (by decide) rfl rfl rfl rfl rfl rfl) ?_
 refine aq 11 (q_build tok rfl rfl rfl rfl rfl (by decide) rfl rfl rfl) ?_
 refine ax 12 (o_lit' tok rfl rfl rfl rfl rfl rfl (by decide) rfl rfl rfl rfl rfl rfl) ?_
 refine aq 13 (q_build tok rfl rfl rfl rfl rfl (by decide) rfl rfl rfl) ?_
 refine ax 1 (o_alloc tok 0 rfl rfl rfl rfl (Nat.zero_lt_succ _) rfl) ?_
 refine AOps.w rfl rfl (o_store tok rfl rfl rfl rfl rfl rfl rfl rfl rfl (by decide) rfl (by first | exact fun _ => rfl | (intro h; cases h))) ?_
 refine AOps.nil ?_
 refine AGo.seq ?_
 refine AGo.region ?_
 refine al 15 tok ?_
 refine ax 16 (o_pure rfl Try.func13 (by kernel_rfl) rfl rfl rfl ((deadOf_ok (one32 3 [c32, y32, p32 2]) (aw32_few 3 [c32, y32, p32 2] (by decide)).s (aw32_few 3 [c32, y32, p32 2] (by decide)).n0 (aw32_few 3 [c32, y32, p32 2] (by decide)).n (aw32_few 3 [c32, y32, p32 2] (by decide)).r (aw32_few 3 [c32, y32, p32 2] (by decide)).i).mono (fun r h => by rw [h, aw32a, aw32c]))) ?_
 refine am 14 ?_
 refine aq 17 (q_extract rfl rfl rfl) ?_
 refine aq 18 (q_extract rfl rfl rfl) ?_
 refine ax 2 (o_alloc tok 1 rfl rfl rfl rfl (Nat.zero_lt_succ _) rfl) ?_
 refine ax 3 (o_alloc tok 2 rfl rfl rfl rfl (Nat.zero_lt_succ _) rfl) ?_
 refine AOps.w rfl rfl (o_store tok rfl rfl rfl rfl rfl rfl rfl rfl rfl (by decide) rfl (by first | exact fun _ => rfl | (intro h; cases h))) ?_
 refine AOps.w rfl rfl (o_store tok rfl rfl rfl rfl rfl rfl rfl rfl rfl (by decide) rfl (by first | exact fun _ => rfl | (intro h; cases h))) ?_
 refine AOps.nil ?_
 refine AGo.seq ?_
 refine AGo.region ?_
 refine aq 19 (q_build tok rfl rfl rfl rfl rfl (by decide) rfl rfl rfl) ?_
 refine aq 20 (q_build tok rfl rfl rfl rfl rfl (by decide) rfl rfl rfl) ?_
 refine ax 21 (o_lit' tok rfl rfl rfl rfl rfl rfl (by decide) rfl rfl rfl rfl rfl rfl) ?_
 refine aq 22 (q_build tok rfl rfl rfl rfl rfl (by decide) rfl rfl rfl) ?_
 refine ax 23 (o_lit' tok rfl rfl rfl rfl rfl rfl (by decide) rfl rfl rfl rfl rfl rfl) ?_
 refine aq 24 (q_build tok rfl rfl rfl rfl rfl (by decide) rfl rfl rfl) ?_
 refine ax 4 (o_alloc tok 3 rfl rfl rfl rfl (Nat.zero_lt_succ _) rfl) ?_
 refine AOps.w rfl rfl (o_store tok rfl rfl rfl rfl rfl rfl rfl rfl rfl (by decide) rfl (by first | exact fun _ => rfl | (intro h; cases h))) ?_
 refine AOps.nil ?_
 refine AGo.seq ?_
 refine AGo.region ?_
 refine al 26 tok ?_
 refine ax 27 (o_pure rfl Try.func13 (by kernel_rfl) rfl rfl rfl ((deadOf_ok (one32 1 [c32, p32 0]) (aw32_few 1 [c32, p32 0] (by decide)).s (aw32_few 1 [c32, p32 0] (by decide)).n0 (aw32_few 1 [c32, p32 0] (by decide)).n (aw32_few 1 [c32, p32 0] (by decide)).r (aw32_few 1 [c32, p32 0] (by decide)).i).mono (fun r h => by rw [h, aw32b]))) ?_
 refine am 25 ?_
 refine aq 28 (q_extract rfl rfl rfl) ?_
 refine aq 29 (q_extract rfl rfl rfl) ?_
 refine ax 5 (o_alloc tok 4 rfl rfl rfl rfl (Nat.zero_lt_succ _) rfl) ?_
 refine ax 6 (o_alloc tok 5 rfl rfl rfl rfl (Nat.zero_lt_succ _) rfl) ?_
 refine AOps.w rfl rfl (o_store tok rfl rfl rfl rfl rfl rfl rfl rfl rfl (by decide) rfl (by first | exact fun _ => rfl | (intro h; cases h))) ?_
 refine AOps.w rfl rfl (o_store tok rfl rfl rfl rfl rfl rfl rfl rfl rfl (by decide) rfl (by first | exact fun _ => rfl | (intro h; cases h))) ?_
 refine AOps.nil ?_
 refine AGo.seq ?_
 refine AGo.region ?_
 refine af 30 tok ?_
 refine al 31 tok ?_
 refine aq 32 (q_len tok rfl rfl rfl rfl rfl) ?_
 refine aq 33 (q_bin (r := .bool true) rfl rfl rfl (by rfl)) ?_
 refine am 34 ?_
 refine af 35 tok ?_
 refine al 36 tok ?_
 refine aq 37 (q_index_lst tok rfl rfl rfl rfl rfl rfl (by decide) (cs := (⟨[p32 2], 3, 0, 0, 0⟩ : Block).cells) rfl rfl) ?_
 refine af 38 tok ?_
 refine al 39 tok ?_
 refine aq 40 (q_len tok rfl rfl rfl rfl rfl) ?_
 refine aq 41 (q_bin (r := .bool true) rfl rfl rfl (by rfl)) ?_
 refine aq 42 (q_pick_true true rfl rfl rfl rfl) ?_
 refine am 43 ?_
 refine af 44 tok ?_
 refine al 45 tok ?_
 refine aq 46 (q_index_lst tok rfl rfl rfl rfl rfl rfl (by decide) (cs := (⟨[p32 2], 3, 0, 0, 0⟩ : Block).cells) rfl rfl) ?_
 refine af 47 tok ?_
 refine al 48 tok ?_
 refine aq 49 (q_index_lst tok rfl rfl rfl rfl rfl rfl (by decide) (cs := (p32 2).cells) rfl rfl) ?_
 refine al 50 tok ?_
 refine aq 51 (q_build tok rfl rfl rfl rfl rfl (by decide) rfl rfl rfl) ?_
 refine aq 52 (q_eqStruct tok false (r := true) rfl rfl rfl (by kernel_rfl) rfl rfl rfl rfl rfl) ?_
 refine aq 53 (q_pick_true true rfl rfl rfl rfl) ?_
 refine am 54 ?_
 refine af 55 tok ?_
 refine al 56 tok ?_
 refine ax 57 (o_lit' tok rfl rfl rfl rfl rfl rfl (by decide) rfl rfl rfl rfl rfl rfl) ?_
 refine ax 58 (o_lit' tok rfl rfl rfl rfl rfl rfl (by decide) rfl rfl rfl rfl rfl rfl) ?_
 refine ax 59 (o_pure rfl Try.func17 (by kernel_rfl) rfl rfl rfl ((rrows_ok [[false, false, true]] [[false, false, true]] (by decide) (by decide)).mono (fun r h => by rw [h, decide_eq_true rfl]))) ?_
 refine aq 60 (q_pick_true true rfl rfl rfl rfl) ?_
 refine am 61 ?_
 refine al 62 tok ?_
 refine al 63 tok ?_
 refine ax 64 (o_pure rfl Try.func14 (by kernel_rfl) rfl rfl rfl ((rsameFunc_ok (one32 1 [c32, p32 0]) (one32 1 [c32, p32 0]) (small_lens32 (aw32_few 1 [c32, p32 0] (by decide)))).mono (fun r h => by rw [h, decide_eq_true rfl]))) ?_
 refine aq 65 (q_pick_true true rfl rfl rfl rfl) ?_
 refine aa 0 ?_
 refine AOps.nil ?_
 refine AGo.ret ?_
 refine ⟨[_], ⟨rfl, trivial⟩, ?_, rfl⟩
 rfl

end Go.Proofs.Ytjmjmedjjbginaa.Sv

namespace Go.Proofs.Ytjmjmedjjbginaa.Sv
open Go

set_option maxHeartbeats 2000000 in
set_option maxRecDepth 100000 in
theorem deadEffects_ok (f : BFunc) (hf : f.Ok) : APure Try.prog 6 [.agg f.cells] (fun r => r = .bool true) := by
 refine APure.of_body (n := 116) tok Try.func6 rfl rfl ?_
 refine AGo.seq ?_
 refine AGo.region ?_
 refine ax 1 (o_box (sz := 2) 0 rfl rfl rfl rfl (Nat.zero_lt_succ _) rfl) ?_
 refine aa 2 ?_
 refine AOps.nil ?_
 refine AGo.seq ?_
 refine AGo.seq ?_
 refine AGo.region ?_
 refine ax 10 (o_pure rfl Try.func9 (by kernel_rfl) rfl rfl rfl (alive32_ok)) ?_
 refine aq 11 (q_not rfl rfl) ?_
 refine AOps.nil ?_
 refine AGo.cond_false false rfl rfl ?_
 refine AGo.skip ?_
 refine AGo.seq ?_
 refine AGo.seq ?_
 refine AGo.region ?_
 refine al 12 tok ?_
 refine ax 13 (o_pure rfl Try.func12 (by kernel_rfl) rfl rfl rfl (few32_ok f hf)) ?_
 refine aq 14 (q_not rfl rfl) ?_
 refine AOps.nil ?_
 refine AGo.split 14 rfl (fun hb1 => ?_) (fun hb1 => ?_)
 ·
  refine AGo.cond_true true rfl rfl ?_
  refine AGo.seq ?_
  refine AGo.region ?_
  refine aa 2 ?_
  refine AOps.nil ?_
  refine AGo.ret ?_
  refine ⟨[_], ⟨rfl, trivial⟩, ?_, rfl⟩
  rfl
 ·
  refine AGo.cond_false false rfl rfl ?_
  have hfw : few32 f = true := by simpa using hb1
  have hF := few32_of hfw
  have hc := cut_regs (dnf_cuts f)
  have hb30 := (few32_spec hfw).1
  refine AGo.skip ?_
  refine AGo.seq ?_
  refine AGo.region ?_
  refine al 16 tok ?_
  refine ax 17 (o_pure rfl Try.func13 (by kernel_rfl) rfl rfl rfl ((deadOf_ok f hF.s hF.n0 hF.n hF.r hF.i))) ?_
  refine am 15 ?_
  refine aq 18 (q_extract rfl rfl rfl) ?_
  refine aq 19 (q_extract rfl rfl rfl) ?_
  refine ax 3 (o_alloc tok 1 rfl rfl rfl rfl (Nat.zero_lt_succ _) rfl) ?_
  refine ax 4 (o_alloc tok 2 rfl rfl rfl rfl (Nat.zero_lt_succ _) rfl) ?_
  refine AOps.w rfl rfl (o_store tok rfl rfl rfl rfl rfl rfl rfl rfl rfl (by decide) rfl (by first | exact fun _ => rfl | (intro h; cases h))) ?_
  refine AOps.w rfl rfl (o_store tok rfl rfl rfl rfl rfl rfl rfl rfl rfl (by decide) rfl (by first | exact fun _ => rfl | (intro h; cases h))) ?_
  refine AOps.nil ?_
  refine AGo.seq ?_
  refine AGo.seq ?_
  refine AGo.region ?_
  refine af 20 tok ?_
  refine al 21 tok ?_
  refine af 22 tok ?_
  refine al 23 tok ?_
  refine aq 24 (q_bin (r := .bool false) rfl rfl rfl (by rw [hc.1]; exact neq_same _)) ?_
  refine am 25 ?_
  refine af 26 tok ?_
  refine al 27 tok ?_
  refine aq 28 (q_len tok rfl rfl rfl rfl rfl) ?_
  refine af 29 tok ?_
  refine al 30 tok ?_
  refine aq 31 (q_len tok rfl rfl rfl rfl rfl) ?_
  refine aq 32 (q_bin (r := .bool false) rfl rfl rfl (by rw [List.length_map, List.length_map, hc.2]; exact neq_same _)) ?_
  refine aq 33 (q_pick_false false rfl rfl rfl rfl) ?_
  refine AOps.nil ?_
  refine AGo.cond_false false rfl rfl ?_
  refine AGo.skip ?_
  refine AGo.seq ?_
  refine AGo.seq ?_
  refine AGo.region ?_
  refine aa 5 ?_
  refine AOps.nil ?_
  refine AGo.block ?_
  refine AGo.loopD (γ := Nat) 3 (fun k => ⟨116, (eput (eput (eput eNew 1 (.ptr 0 1 0 0)) 3 (.ptr 1 1 0 0)) 5 (.int .i64 (k : Int))), (hput (hput (hFrom 3) 0 (.row false 2 [f.cells])) 1 (.row false 2 [(dnf f).cells]))⟩) (fun k => True) (fun k => f.blocks.length - k) 0 (Sub.mk' (by repeat (first | exact ESub.new _ | refine ESub.put ?_ (by first | rfl | exact congrArg (fun (n : Nat) => some (AV.int .i64 (n : Int))) (by simp)))) (by repeat (first | exact HSub.refl _ | exact HSub.none _ | exact HSub.from_new _ | exact HSub.from_from (by first | decide | omega | (dsimp only; omega)) | refine HSub.put ?_ (by rfl) | refine HSub.from_put ?_ (by first | decide | omega | (dsimp only; omega)) | refine HSub.from_rm ?_ (by decide)))) trivial (fun _ => hput_free (hput_free (fun b hb => hFrom_free hb) rfl) rfl) ?_
  intro k _
  refine AGo.seq ?_
  refine AGo.seq ?_
  refine AGo.region ?_
  refine am 34 ?_
  refine af 35 tok ?_
  refine al 36 tok ?_
  refine aq 37 (q_len tok rfl rfl rfl rfl rfl) ?_
  refine aq 38 (q_bin rfl rfl rfl rfl) ?_
  refine AOps.nil ?_
  refine AGo.split 38 rfl (fun hb2 => ?_) (fun hb2 => ?_)
  ·
   refine AGo.cond_true true rfl rfl ?_
   have hkl := lt_of_idx hb2
   obtain ⟨x, hx⟩ := get_of_lt hkl
   obtain ⟨y, hy, hl⟩ := dnf_like hx
   have hxi := hF.i x (List.mem_of_getElem? hx)
   have hyi := hF.dnf.i y (List.mem_of_getElem? hy)
   refine AGo.skip ?_
   refine AGo.seq ?_
   refine AGo.block ?_
   refine AGo.seq ?_
   refine AGo.draw mix ?_
   refine df 41 tok ?_
   refine dl 42 tok ?_
   refine dm 43 ?_
   refine dq 44 (q_index_lst tok rfl rfl rfl rfl rfl rfl (Int.natCast_nonneg _) (idx_map hx) rfl) ?_
   refine dl 45 tok ?_
   refine df 46 tok ?_
   refine dl 47 tok ?_
   refine dm 48 ?_
   refine dq 49 (q_index_lst tok rfl rfl rfl rfl rfl rfl (Int.natCast_nonneg _) (idx_map hy) rfl) ?_
   refine dl 50 tok ?_
   refine dx 6 (o_alloc tok 3 rfl rfl rfl rfl (Nat.zero_lt_succ _) rfl) ?_
   refine dx 7 (o_alloc tok 4 rfl rfl rfl rfl (Nat.zero_lt_succ _) rfl) ?_
   refine DOps.w rfl rfl (o_store tok rfl rfl rfl rfl rfl rfl rfl rfl rfl (by decide) rfl (by first | exact fun _ => rfl | (intro h; cases h))) ?_
   refine DOps.w rfl rfl (o_store tok rfl rfl rfl rfl rfl rfl rfl rfl rfl (by decide) rfl (by first | exact fun _ => rfl | (intro h; cases h))) ?_
   refine DOps.nil (by kernel_rfl) ?_
   refine AGo.seq ?_
   refine AGo.seq ?_
   refine AGo.region ?_
   refine af 51 tok ?_
   refine al 52 tok ?_
   refine af 53 tok ?_
   refine al 54 tok ?_
   refine aq 55 (q_bin (r := .bool false) rfl rfl rfl (by rw [hl.1.1]; exact neq_same _)) ?_
   refine am 56 ?_
   refine af 57 tok ?_
   refine al 58 tok ?_
   refine af 59 tok ?_
   refine al 60 tok ?_
   refine aq 61 (q_bin (r := .bool false) rfl rfl rfl (by rw [hl.1.2.1]; exact neq_same _)) ?_
   refine aq 62 (q_pick_false false rfl rfl rfl rfl) ?_
   refine am 63 ?_
   refine af 64 tok ?_
   refine al 65 tok ?_
   refine af 66 tok ?_
   refine al 67 tok ?_
   refine aq 68 (q_bin (r := .bool false) rfl rfl rfl (by rw [hl.1.2.2.1]; exact neq_same _)) ?_
   refine aq 69 (q_pick_false false rfl rfl rfl rfl) ?_
   refine am 70 ?_
   refine af 71 tok ?_
   refine al 72 tok ?_
   refine af 73 tok ?_
   refine al 74 tok ?_
   refine aq 75 (q_bin (r := .bool false) rfl rfl rfl (by rw [hl.1.2.2.2.1]; exact neq_same _)) ?_
   refine aq 76 (q_pick_false false rfl rfl rfl rfl) ?_
   refine AOps.nil ?_
   refine AGo.cond_false false rfl rfl ?_
   refine AGo.skip ?_
   refine AGo.seq ?_
   refine AGo.region ?_
   refine aa 8 ?_
   refine AOps.nil ?_
   refine AGo.seq ?_
   refine AGo.seq ?_
   refine AGo.region ?_
   refine aa 9 ?_
   refine AOps.nil ?_
   refine AGo.block ?_
   refine AGo.loopD (γ := Nat × Nat) 5 (fun p => ⟨116, (eput (eput (eput (eput (eput (eput (eput eNew 1 (.ptr 0 1 0 0)) 3 (.ptr 1 1 0 0)) 5 (.int .i64 (k : Int))) 6 (.ptr 3 1 0 0)) 7 (.ptr 4 1 0 0)) 8 (.int .i64 (p.2 : Int))) 9 (.int .i64 (p.1 : Int))), (hput (hput (hput (hput (hFrom 5) 0 (.row false 2 [f.cells])) 1 (.row false 2 [(dnf f).cells])) 3 (.row false 5 [x.cells])) 4 (.row false 5 [y.cells]))⟩) (fun p => p.1 ≤ x.ins.length ∧ p.2 ≤ y.ins.length ∧ partB (x.ins.drop p.1) (y.ins.drop p.2) = true) (fun p => x.ins.length - p.1) (0, 0) (Sub.mk' (by repeat (first | exact ESub.new _ | refine ESub.put ?_ (by first | rfl | exact congrArg (fun (n : Nat) => some (AV.int .i64 (n : Int))) (by simp)))) (by repeat (first | exact HSub.refl _ | exact HSub.none _ | exact HSub.from_new _ | exact HSub.from_from (by first | decide | omega | (dsimp only; omega)) | refine HSub.put ?_ (by rfl) | refine HSub.from_put ?_ (by first | decide | omega | (dsimp only; omega)) | refine HSub.from_rm ?_ (by decide)))) ⟨Nat.zero_le _, Nat.zero_le _, hl.2⟩ (fun _ => hput_free (hput_free (hput_free (hput_free (fun b hb => hFrom_free hb) rfl) rfl) rfl) rfl) ?_
   intro p hP
   refine AGo.seq ?_
   refine AGo.seq ?_
   refine AGo.region ?_
   refine am 77 ?_
   refine af 78 tok ?_
   refine al 79 tok ?_
   refine aq 80 (q_len tok rfl rfl rfl rfl rfl) ?_
   refine aq 81 (q_bin rfl rfl rfl rfl) ?_
   refine AOps.nil ?_
   refine AGo.split 81 rfl (fun hb3 => ?_) (fun hb3 => ?_)
   ·
    refine AGo.cond_true true rfl rfl ?_
    have hil := lt_of_idx hb3
    obtain ⟨t, ht⟩ := get_of_lt hil
    refine AGo.skip ?_
    refine AGo.seq ?_
    refine AGo.block ?_
    refine AGo.seq ?_
    refine AGo.draw mix ?_
    refine dm 84 ?_
    refine df 85 tok ?_
    refine dl 86 tok ?_
    refine dq 87 (q_len tok rfl rfl rfl rfl rfl) ?_
    refine dq 88 (q_bin rfl rfl rfl rfl) ?_
    refine dm 89 ?_
    refine DOps.split 89 rfl (fun hb4 => ?_) (fun hb4 => ?_)
    ·
     have hk2 : p.2 < y.ins.length := by have h := hb4; simpa using h
     obtain ⟨u, hu⟩ := get_of_lt hk2
     refine df 90 tok ?_
     refine dl 91 tok ?_
     refine dm 92 ?_
     refine dq 93 (q_index_lst tok rfl rfl rfl rfl rfl rfl (Int.natCast_nonneg _) (idx_map hu) rfl) ?_
     refine dl 94 tok ?_
     refine df 95 tok ?_
     refine dl 96 tok ?_
     refine dm 97 ?_
     refine dq 98 (q_index_lst tok rfl rfl rfl rfl rfl rfl (Int.natCast_nonneg _) (idx_map ht) rfl) ?_
     refine dl 99 tok ?_
     refine dq 100 (q_eqStruct tok false rfl rfl rfl (by kernel_rfl) rfl rfl rfl rfl (Tac.eqCells u t)) ?_
     refine dq 101 (q_pick_true true rfl rfl rfl rfl) ?_
     refine DOps.nil (by kernel_rfl) ?_
     refine AGo.split 101 rfl (fun hb5 => ?_) (fun hb5 => ?_)
     ·
      refine AGo.cond_true true rfl rfl ?_
      have hut : u = t := by simpa using hb5
      refine AGo.region ?_
      refine am 102 ?_
      refine aq 103 (q_inc rfl rfl hk2 (by simp only [maxLen]; omega)) ?_
      refine aa 8 ?_
      refine AOps.nil ?_
      refine AGo.region ?_
      refine am 82 ?_
      refine aq 83 (q_inc rfl rfl hil (by simp only [maxLen]; omega)) ?_
      refine aa 9 ?_
      refine AOps.nil ?_
      exact ⟨(p.1 + 1, p.2 + 1), Drop.mk' (by repeat (first | exact EDrop.new _ _ | refine EDrop.put ?_ (by rfl) (by first | rfl | exact slA_avoid _ rfl | exact vaA_avoid _ rfl))) (by repeat (first | exact HDrop.none _ _ | exact HDrop.tail _ _ | refine HDrop.put ?_ (by rfl) rfl (by first | rfl | exact slO_avoid _ _ | exact vaO_avoid _ | exact tab_avoid _ _ rfl rfl | exact wlk_avoid _ _ _ rfl rfl rfl))), ⟨hil, hk2, partB_hit ht hu hP.2.2 hut⟩, (by show x.ins.length - (p.1 + 1) < x.ins.length - p.1; omega)⟩
     ·
      refine AGo.cond_false false rfl rfl ?_
      have hmiss := partB_miss ht hP.2.2 (fun u' hu' e => by
        have h := hb5
        first
        | (rw [hu] at hu'; cases hu'; simp [e] at h; done)
        | (have hk2 := (List.getElem?_eq_some_iff.1 hu').1; simp_all; done)
        | (have hk2 := (List.getElem?_eq_some_iff.1 hu').1; simp at hb1; omega))
      refine AGo.seq ?_
      refine AGo.region ?_
      refine af 104 tok ?_
      refine al 105 tok ?_
      refine am 106 ?_
      refine aq 107 (q_index_lst tok rfl rfl rfl rfl rfl rfl (Int.natCast_nonneg _) (idx_map ht) rfl) ?_
      refine al 108 tok ?_
      refine ax 109 (o_pure rfl Try.func11 (by kernel_rfl) rfl rfl rfl (rpure_ok _)) ?_
      refine aq 110 (q_not rfl rfl) ?_
      refine AOps.nil ?_
      refine AGo.split 110 rfl (fun hb6 => ?_) (fun hb6 => ?_)
      ·
       refine AGo.cond_true true rfl rfl ?_
       refine AGo.seq ?_
       refine AGo.region ?_
       refine aa 2 ?_
       refine AOps.nil ?_
       refine AGo.ret ?_
       exfalso
       simp_all
      ·
       refine AGo.cond_false false rfl rfl ?_
       refine AGo.skip ?_
       refine AGo.region ?_
       refine am 82 ?_
       refine aq 83 (q_inc rfl rfl hil (by simp only [maxLen]; omega)) ?_
       refine aa 9 ?_
       refine AOps.nil ?_
       exact ⟨(p.1 + 1, p.2), Drop.mk' (by repeat (first | exact EDrop.new _ _ | refine EDrop.put ?_ (by rfl) (by first | rfl | exact slA_avoid _ rfl | exact vaA_avoid _ rfl))) (by repeat (first | exact HDrop.none _ _ | exact HDrop.tail _ _ | refine HDrop.put ?_ (by rfl) rfl (by first | rfl | exact slO_avoid _ _ | exact vaO_avoid _ | exact tab_avoid _ _ rfl rfl | exact wlk_avoid _ _ _ rfl rfl rfl))), ⟨hil, hP.2.1, hmiss.2⟩, (by show x.ins.length - (p.1 + 1) < x.ins.length - p.1; omega)⟩
    ·
     refine dk 90 ?_
     refine dk 91 ?_
     refine dk 92 ?_
     refine dk 93 ?_
     refine dk 94 ?_
     refine dk 95 ?_
     refine dk 96 ?_
     refine dk 97 ?_
     refine dk 98 ?_
     refine dk 99 ?_
     refine dk 100 ?_
     refine dq 101 (q_pick_false false rfl rfl rfl rfl) ?_
     refine DOps.nil (by kernel_rfl) ?_
     refine AGo.cond_false false rfl rfl ?_
     have hmiss := partB_miss ht hP.2.2 (fun u' hu' e => by
       have h := hb4
       first
       | (rw [hu] at hu'; cases hu'; simp [e] at h; done)
       | (have hk2 := (List.getElem?_eq_some_iff.1 hu').1; simp_all; done)
       | (have hk2 := (List.getElem?_eq_some_iff.1 hu').1; simp at hb1; omega))
     refine AGo.seq ?_
     refine AGo.region ?_
     refine af 104 tok ?_
     refine al 105 tok ?_
     refine am 106 ?_
     refine aq 107 (q_index_lst tok rfl rfl rfl rfl rfl rfl (Int.natCast_nonneg _) (idx_map ht) rfl) ?_
     refine al 108 tok ?_
     refine ax 109 (o_pure rfl Try.func11 (by kernel_rfl) rfl rfl rfl (rpure_ok _)) ?_
     refine aq 110 (q_not rfl rfl) ?_
     refine AOps.nil ?_
     refine AGo.split 110 rfl (fun hb7 => ?_) (fun hb7 => ?_)
     ·
      refine AGo.cond_true true rfl rfl ?_
      refine AGo.seq ?_
      refine AGo.region ?_
      refine aa 2 ?_
      refine AOps.nil ?_
      refine AGo.ret ?_
      exfalso
      simp_all
     ·
      refine AGo.cond_false false rfl rfl ?_
      refine AGo.skip ?_
      refine AGo.region ?_
      refine am 82 ?_
      refine aq 83 (q_inc rfl rfl hil (by simp only [maxLen]; omega)) ?_
      refine aa 9 ?_
      refine AOps.nil ?_
      exact ⟨(p.1 + 1, p.2), Drop.mk' (by repeat (first | exact EDrop.new _ _ | refine EDrop.put ?_ (by rfl) (by first | rfl | exact slA_avoid _ rfl | exact vaA_avoid _ rfl))) (by repeat (first | exact HDrop.none _ _ | exact HDrop.tail _ _ | refine HDrop.put ?_ (by rfl) rfl (by first | rfl | exact slO_avoid _ _ | exact vaO_avoid _ | exact tab_avoid _ _ rfl rfl | exact wlk_avoid _ _ _ rfl rfl rfl))), ⟨hil, hP.2.1, hmiss.2⟩, (by show x.ins.length - (p.1 + 1) < x.ins.length - p.1; omega)⟩
   ·
    refine AGo.cond_false false rfl rfl ?_
    have hige := ge_of_idx hb3
    have hie : p.1 = x.ins.length := by have := hP.1; omega
    have hke : p.2 = y.ins.length := partB_end hP.2.1 (by have h := hP.2.2; rwa [hie] at h)
    refine AGo.exit ?_
    refine AGo.seq ?_
    refine AGo.region ?_
    refine am 111 ?_
    refine af 112 tok ?_
    refine al 113 tok ?_
    refine aq 114 (q_len tok rfl rfl rfl rfl rfl) ?_
    refine aq 115 (q_bin (r := .bool false) rfl rfl rfl (by rw [List.length_map, hke]; exact neq_same _)) ?_
    refine AOps.nil ?_
    refine AGo.cond_false false rfl rfl ?_
    refine AGo.skip ?_
    refine AGo.region ?_
    refine am 39 ?_
    refine aq 40 (q_inc rfl rfl hkl (by simp only [maxLen]; omega)) ?_
    refine aa 5 ?_
    refine AOps.nil ?_
    exact ⟨k+1, Drop.mk' (by repeat (first | exact EDrop.new _ _ | refine EDrop.put ?_ (by rfl) (by first | rfl | exact slA_avoid _ rfl | exact vaA_avoid _ rfl))) (by repeat (first | exact HDrop.none _ _ | exact HDrop.tail _ _ | refine HDrop.put ?_ (by rfl) rfl (by first | rfl | exact slO_avoid _ _ | exact vaO_avoid _ | exact tab_avoid _ _ rfl rfl | exact wlk_avoid _ _ _ rfl rfl rfl))), trivial, by omega⟩
  ·
   refine AGo.cond_false false rfl rfl ?_
   have hge := ge_of_idx hb2
   refine AGo.exit ?_
   refine AGo.seq ?_
   refine AGo.region ?_
   refine aa 2 ?_
   refine AOps.nil ?_
   refine AGo.ret ?_
   refine ⟨[_], ⟨rfl, trivial⟩, ?_, rfl⟩
   rfl

end Go.Proofs.Ytjmjmedjjbginaa.Sv

namespace Go.Proofs.Ytjmjmedjjbginaa
open Go.ChangeShapes Go.WideShapes Go.ChangeAt Go.RowKit Sv
set_option linter.unusedVariables false

set_option maxRecDepth 100000 in
theorem deadEffects_lifted (os : Os) (started : os.Started) (H : Type) (enc : TypeId × Value → H) :
    ReturnsInHanded {} Try.checked os 6 .any (Rows.deadEffectsSpec.pre6 enc Try.prog Try.f6 Rows.deadEffectsRow.domain false) (Rows.deadEffectsSpec.post enc Try.prog Try.f6 false true false false) := by
  refine returnsInHanded_of_change_sized (C := Try.checked) own' started (by kernel_rfl) Try.func6
    (ChangeSpec.witness6 (enc := enc) (C := Try.checked) false ⟨#[], #[.agg #[.int .i64 0, .slice none 0 0]], []⟩ 8 (by kernel_rfl) (by kernel_rfl) (by kernel_rfl) (by kernel_rfl)) ?_
  intro W base args ds gs before hval0 hW hcnd hwt0 hh
  have hval : ∀ (j : Nat) t v, Try.f6.params[j]? = some t → args[j]? = some v → Value.okWide Try.prog W .any base t v := hval0
  have hW' := hW
  obtain ⟨p, q, hA0, hV, rfl, hfz, hnd⟩ := hW
  have hA : DataW.TrodAll enc Try.prog W 0 (fun _ => true) true Try.f6.params.toList args.toList ds p := hA0
  have hwt : (DataW.weightsEach Try.prog (Try.f6.params.toList ++ Rows.deadEffectsSpec.plain.varTypes Try.prog) (ds ++ gs)).all (· ≤ reachBytes) = true := hwt0
  rw [Try.params6] at hA hval hwt
  obtain ⟨v0, vs0, d0, ds0, p0, q0, hargs, rfl, rfl, h0, r0⟩ := trodAll_cons hA
  obtain ⟨rfl, rfl, rfl⟩ := trodAll_nil r0
  obtain rfl : args = #[v0] := by cases args; simp_all
  obtain ⟨rfl, rfl⟩ := trodVars_none hV
  obtain ⟨x0, e0, g0⟩ := arg_one h0 (weightsEach_get hwt (i := 0) rfl rfl) decBFunc
  exact law_calls laidOut' rfl (by kernel_rfl) rfl bool' rfl rfl rfl hW' (.cons (e0.val (okWide_agg tok rfl rfl (hval 0 24 v0 rfl rfl))) .nil) (deadEffects_ok x0 g0) (fun g l h => by cases h)

theorem deadEffects_holds : Rows.DeadEffectsSaid :=
  OpenClaim.holds_of_wide 6 Try.f6 rfl rfl rfl rfl rfl rfl rfl ⟨rfl, rfl, rfl, rfl, rfl⟩ rfl rfl rfl rfl rfl (by kernel_rfl) Try.func6 (by kernel_rfl)
    (of_decide_eq_true (by kernel_rfl)) (by unfold Func.isWrapper; first | (rw [if_pos (by decide +kernel)]; kernel_rfl) | (rw [if_neg (by decide +kernel)]; exact ⟨rfl, rfl⟩))
    (fun os started H enc _ => deadEffects_lifted os started H enc)

end Go.Proofs.Ytjmjmedjjbginaa
