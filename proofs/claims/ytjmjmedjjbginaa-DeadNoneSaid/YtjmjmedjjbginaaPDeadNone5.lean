/-
  WALKS: printed by a program of our own from the code's tree.
  WALKS: printed by a program of our own from the code's tree.
  WALKS: printed by a program of our own from the code's tree.
  WALKS: printed by a program of our own from the code's tree.
  WALKS: printed by a program of our own from the code's tree.
  WALKS: printed by a program of our own from the code's tree.
  WALKS: printed by a program of our own from the code's tree.
  WALKS: printed by a program of our own from the code's tree.
  WALKS: printed by a program of our own from the code's tree.
  WALKS: printed by a program of our own from the code's tree.
  WALKS: printed by a program of our own from the code's tree.
  WALKS: printed by a program of our own from the code's tree.
  TIDYING, AS THE PROGRAM DOES IT, IN PLAIN LEAN: own work, over no program.
-/
import Derived.Test.YtjmjmedjjbginaaPDeadNone4
import Derived.Test.YtjmjmedjjbginaaPDeadNone3
import Derived.Test.YtjmjmedjjbginaaPDeadNone2
namespace Go.Proofs.Ytjmjmedjjbginaa.Sv
open Go

set_option maxHeartbeats 2000000 in
set_option maxRecDepth 100000 in
theorem grow_ok (f : BFunc) (hs : f.sane) (R : Nat) (hR : R ≤ 100000) (es : List (List AV)) (len : Nat) (w : Nat → Bool) (I O : BB) (r2 : Nat → AObj) (h2a : ∀ b, (r2 b).avoid (kf 10) = true) (b : Nat) (x : Block) (hx : f.blocks[b]? = some x) (hn : f.blocks.length ≤ 100000) : ACall Try.prog 51 [.ptr 2 1 0 0, .int .i64 (b : Int)] (HS f R (es) (len) (w) (F3 (rI f.blocks.length R I) (rI f.blocks.length R O) r2)) (fun r h' => r = .bool (chg (inN x (outN I (O b) x)) (I b) (nw R)) ∧ HSub (HS f R (es) (len) (w) (F3 (rI f.blocks.length R (setRow I b ((inN x (outN I (O b) x))))) (rI f.blocks.length R (setRow O b (outN I (O b) x))) r2)) h') := by
 have hb : b < f.blocks.length := (List.getElem?_eq_some_iff.1 hx).1
 have hxm := List.mem_of_getElem? hx
 have hnw : nw R ≤ 100000 := by unfold nw; omega
 refine ACall.of_body (n := 109) tok Try.func51 rfl rfl ?_
 refine AGo.seq ?_
 refine AGo.region ?_
 refine aa 4 ?_
 refine AOps.nil ?_
 refine AGo.seq ?_
 refine AGo.region ?_
 refine am 13 ?_
 refine aq 14 (q_nilCheck rfl rfl rfl) ?_
 refine af 15 tok ?_
 refine al 16 tok ?_
 refine am 17 ?_
 refine aq 18 (q_index_ref tok rfl rfl rfl rfl rfl rfl rfl (colF_len _ _).symm rfl (Int.natCast_nonneg _) (by omega)) ?_
 refine aq 19 (q_load tok rfl rfl rfl (.ptr _ _ _ _ _ _ _ [rG 1 (nw R) b] rfl (colF_len _ _).symm (by rw [Nat.zero_add, Int.toNat_natCast]; exact colF_get hb)) rfl) ?_
 refine aa 5 ?_
 refine aa 6 ?_
 refine AOps.nil ?_
 refine AGo.seq ?_
 refine AGo.seq ?_
 refine AGo.region ?_
 refine am 20 ?_
 refine aq 21 (q_nilCheck rfl rfl rfl) ?_
 refine af 22 tok ?_
 refine al 23 tok ?_
 refine am 24 ?_
 refine aq 25 (q_index_lst tok rfl rfl rfl rfl rfl rfl (Int.natCast_nonneg _) (idx_map (nexts_get hx)) rfl) ?_
 refine al 26 tok ?_
 refine aq 27 (q_len tok rfl rfl rfl rfl rfl) ?_
 refine am 28 ?_
 refine AOps.nil ?_
 refine AGo.block ?_
 refine AGo.loopK (γ := Nat) (kf 10) (fun j => ⟨109, (eput (eput (eput (eput (eput (eput (eput eNew 0 (.ptr 2 1 0 0)) 1 (.int .i64 (b : Int))) 5 (rG 1 (nw R) b)) 6 (.bool false)) 26 (intsAV x.nexts)) 27 (.int .i64 (x.nexts.length : Int))) 28 (.int .i64 (j : Int))), (fam (nb [.free, .free, (.row false 8 [SBc f (es).length (len)]), (.row false 1 (colF (rG 0 (nw R)) f.blocks.length)), (.row false 1 (colF (rG 1 (nw R)) f.blocks.length)), (.row true 1 (bC f.blocks.length (w))), (.row true 1 (es)), (.row false 1 (colF (ahR (aheadL f)) f.blocks.length)), (.row true 1 (f.blocks.map (rdC R))), (.row true 1 (f.blocks.map (stC R)))]) (F3 (rI f.blocks.length R I) (rI f.blocks.length R (setRow O b (outP I (O b) x j))) r2))⟩) (fun j => True) (fun j => x.nexts.length - j) 0 (Sub.mk' (by repeat (first | exact ESub.new _ | refine ESub.put ?_ (by first | rfl | exact congrArg (fun (n : Nat) => some (AV.int .i64 (n : Int))) (by simp)))) (famSub (k0 := 10) rfl (by repeat (first | exact trivial | refine ⟨⟨by rfl, by first | rfl | exact colF_avoid (fun _ _ => rG_avoid _ _ _ _) | exact colF_avoid (fun _ _ => ahR_avoid _ _ _)⟩, ?_⟩)) (fun x_ => by (try simp only [hputs]); exact (fam_hi _ _ _).trans (congrArg some (rows1 (outP_zero I (O b) x) _))) (fun c h1 h2 => by rcases (by omega : c = 10 ∨ c = 11 ∨ c = 12 ∨ c = 13 ∨ c = 14 ∨ c = 15) with rfl | rfl | rfl | rfl | rfl | rfl <;> first | rfl | (try simp only [hputs]; repeat (first | rfl | refine hput_skip (by exact beq_false_of_ne (by omega)) ?_ | refine hrm_skip (by omega) ?_))))) trivial (fun g b hb => famFree (k0 := 10) rfl hb) ?_
 intro j _
 refine AGo.seq ?_
 refine AGo.region ?_
 refine aq 29 (q_bin rfl rfl rfl rfl) ?_
 refine AOps.nil ?_
 refine AGo.seq ?_
 refine AGo.split 29 rfl (fun hb1 => ?_) (fun hb1 => ?_)
 ·
  refine AGo.cond_true true rfl rfl ?_
  have hjl : j < x.nexts.length := by have h := hb1; simp [intsAV] at h; exact h
  obtain ⟨d, hd⟩ := get_of_lt hjl
  have hd0 := hs.next x hxm d (List.mem_of_getElem? hd)
  have hdn : d.toNat < f.blocks.length := by omega
  refine AGo.skip ?_
  refine AGo.seq ?_
  refine AGo.block ?_
  refine AGo.seq ?_
  refine AGo.region ?_
  refine aq 30 (q_index_lst tok rfl rfl rfl rfl rfl rfl (Int.natCast_nonneg _) (idx_map hd) rfl) ?_
  refine al 31 tok ?_
  refine aa 8 ?_
  refine AOps.nil ?_
  refine AGo.seq ?_
  refine AGo.region ?_
  refine am 32 ?_
  refine aq 33 (q_nilCheck rfl rfl rfl) ?_
  refine af 34 tok ?_
  refine al 35 tok ?_
  refine am 36 ?_
  refine aq 37 (q_index_ref tok rfl rfl rfl rfl rfl rfl rfl (colF_len _ _).symm rfl hd0.1 (by omega)) ?_
  refine aq 38 (q_load tok rfl rfl rfl (.ptr _ _ _ _ _ _ _ [rG 0 (nw R) d.toNat] rfl (colF_len _ _).symm (by rw [Nat.zero_add]; exact colF_get hdn)) rfl) ?_
  refine aq 39 (q_len tok rfl rfl rfl rfl rfl) ?_
  refine am 40 ?_
  refine AOps.nil ?_
  refine AGo.block ?_
  refine AGo.loopK (γ := Nat) (kf 10) (fun k => ⟨109, (eput (eput (eput (eput (eput (eput (eput (eput (eput (eput (eput eNew 0 (.ptr 2 1 0 0)) 1 (.int .i64 (b : Int))) 5 (rG 1 (nw R) b)) 6 (.bool false)) 26 (intsAV x.nexts)) 27 (.int .i64 (x.nexts.length : Int))) 28 (.int .i64 (j : Int))) 8 (.int .i64 d)) 38 (rG 0 (nw R) d.toNat)) 39 (.int .i64 (nw R : Int))) 40 (.int .i64 (k : Int))), (fam (nb [.free, .free, (.row false 8 [SBc f (es).length (len)]), (.row false 1 (colF (rG 0 (nw R)) f.blocks.length)), (.row false 1 (colF (rG 1 (nw R)) f.blocks.length)), (.row true 1 (bC f.blocks.length (w))), (.row true 1 (es)), (.row false 1 (colF (ahR (aheadL f)) f.blocks.length)), (.row true 1 (f.blocks.map (rdC R))), (.row true 1 (f.blocks.map (stC R)))]) (F3 (rI f.blocks.length R I) (rI f.blocks.length R (setRow O b (orK (outP I (O b) x j) (I d.toNat) k))) r2))⟩) (fun k => True) (fun k => nw R - k) 0 (Sub.mk' (by repeat (first | exact ESub.new _ | refine ESub.put ?_ (by first | rfl | exact congrArg (fun (n : Nat) => some (AV.int .i64 (n : Int))) (by simp)))) (famSub (k0 := 10) rfl (by repeat (first | exact trivial | refine ⟨⟨by rfl, by first | rfl | exact colF_avoid (fun _ _ => rG_avoid _ _ _ _) | exact colF_avoid (fun _ _ => ahR_avoid _ _ _)⟩, ?_⟩)) (fun x_ => by (try simp only [hputs]); exact (fam_hi _ _ _).trans (congrArg some (rowsS1 (rowW_congr (orK_zero _ _)) _))) (fun c h1 h2 => by rcases (by omega : c = 10 ∨ c = 11 ∨ c = 12 ∨ c = 13 ∨ c = 14 ∨ c = 15) with rfl | rfl | rfl | rfl | rfl | rfl <;> first | rfl | (try simp only [hputs]; repeat (first | rfl | refine hput_skip (by exact beq_false_of_ne (by omega)) ?_ | refine hrm_skip (by omega) ?_))))) trivial (fun g b hb => famFree (k0 := 10) rfl hb) ?_
  intro k _
  refine AGo.seq ?_
  refine AGo.region ?_
  refine aq 41 (q_bin rfl rfl rfl rfl) ?_
  refine AOps.nil ?_
  refine AGo.seq ?_
  refine AGo.split 41 rfl (fun hb2 => ?_) (fun hb2 => ?_)
  ·
   refine AGo.cond_true true rfl rfl ?_
   have hkl : k < nw R := by have h := hb2; simp at h; exact h
   refine AGo.skip ?_
   refine AGo.seq ?_
   refine AGo.block ?_
   refine AGo.seq ?_
   refine AGo.region ?_
   refine am 42 ?_
   refine aq 43 (q_index_ref tok rfl rfl rfl rfl rfl rfl ((fam_hi _ _ _).trans (congrArg some (rI_0 hdn))) (rowW_len _ _).symm rfl (Int.natCast_nonneg _) (by omega)) ?_
   refine aq 44 (q_load tok rfl rfl rfl (.ptr _ _ _ _ _ _ _ (wdcell (I d.toNat) k) ((fam_hi _ _ _).trans (congrArg some (rI_0 hdn))) (rowW_len _ _).symm (by rw [Nat.zero_add, Int.toNat_natCast]; exact (rowW_get hkl).trans (congrArg some rfl))) rfl) ?_
   refine aa 9 ?_
   refine aa 10 ?_
   refine AOps.nil ?_
   refine AGo.region ?_
   refine am 45 ?_
   refine am 46 ?_
   refine aq 47 (q_index_ref tok rfl rfl rfl rfl rfl rfl ((fam_hi _ _ _).trans (congrArg some (rIs_1 hb))) (rowW_len _ _).symm rfl (Int.natCast_nonneg _) (by omega)) ?_
   refine aq 48 (q_load tok rfl rfl rfl (.ptr _ _ _ _ _ _ _ (wdcell (outP I (O b) x j) k) ((fam_hi _ _ _).trans (congrArg some (rIs_1 hb))) (rowW_len _ _).symm (by rw [Nat.zero_add, Int.toNat_natCast]; exact (rowW_get hkl).trans (congrArg some (orK_old _ _ _)))) rfl) ?_
   refine am 49 ?_
   refine aq 50 (q_bin rfl rfl rfl (wd_or (fun v => (outP I (O b) x j) (64 * k + v)) (fun v => I d.toNat (64 * k + v)))) ?_
   refine aq 51 (q_index_ref tok rfl rfl rfl rfl rfl rfl ((fam_hi _ _ _).trans (congrArg some (rIs_1 hb))) (rowW_len _ _).symm rfl (Int.natCast_nonneg _) (by omega)) ?_
   refine AOps.w rfl rfl (o_store tok (es := rowW R (orK (outP I (O b) x j) (I d.toNat) k)) (cs := wdcell (outP I (O b) x j) k) rfl rfl rfl rfl rfl ((fam_hi _ _ _).trans (congrArg some (rIs_1 hb))) (rowW_len _ _).symm (by rw [Nat.zero_add, Int.toNat_natCast]; exact (rowW_get hkl).trans (congrArg some (orK_old _ _ _))) rfl (by decide) rfl (fun _ => rfl)) ?_
   refine AOps.nil ?_
   refine AGo.region ?_
   refine aq 52 (q_inc rfl rfl hkl (by simp only [maxLen]; omega)) ?_
   refine am 40 ?_
   refine AOps.nil ?_
   exact ⟨k+1, DropK.mk' (by repeat (first | exact EDropK.new _ _ | refine EDropK.put ?_ (by rfl) (by first | rfl | exact rG_avoid _ _ _ _))) (famDrop (k0 := 10) rfl (by repeat (first | exact trivial | refine ⟨⟨by rfl, by first | rfl | exact colF_avoid (fun _ _ => rG_avoid _ _ _ _) | exact colF_avoid (fun _ _ => ahR_avoid _ _ _)⟩, ?_⟩)) (fun x_ => by (try simp only [hputs]); (repeat (first | refine hput_skip (by exact beq_false_of_ne (by omega)) ?_ | refine hrm_skip (by omega) ?_)); exact (hput_hi (fun y_ => by (try simp only [hputs]); repeat (first | exact fam_hi _ _ _ | refine hput_skip (by exact beq_false_of_ne (by omega)) ?_ | refine hrm_skip (by omega) ?_)) _ _ x_).trans (congrArg some (rIs_put1 hb (orK_succ _ _ _) x_).symm)) (F3_avoid (fun _ => rI_avoid _) (fun _ => rI_avoid _) h2a)), trivial, by omega⟩
  ·
   refine AGo.cond_false false rfl rfl ?_
   have hkge : nw R ≤ k := by have h := hb2; simp at h; omega
   refine AGo.exit ?_
   refine AGo.region ?_
   refine aq 53 (q_inc rfl rfl hjl (by simp only [maxLen]; have := nexts_le2 x; omega)) ?_
   refine am 28 ?_
   refine AOps.nil ?_
   exact ⟨j+1, DropK.mk' (by repeat (first | exact EDropK.new _ _ | refine EDropK.put ?_ (by rfl) (by first | rfl | exact rG_avoid _ _ _ _))) (famDrop (k0 := 10) rfl (by repeat (first | exact trivial | refine ⟨⟨by rfl, by first | rfl | exact colF_avoid (fun _ _ => rG_avoid _ _ _ _) | exact colF_avoid (fun _ _ => ahR_avoid _ _ _)⟩, ?_⟩)) (fun x_ => by (try simp only [hputs]); exact (fam_hi _ _ _).trans (congrArg some (rowsS1 ((orK_end _ _ hkge).trans (rowW_congr (outP_succ hd))) _))) (F3_avoid (fun _ => rI_avoid _) (fun _ => rI_avoid _) h2a)), trivial, by omega⟩
 ·
  refine AGo.cond_false false rfl rfl ?_
  have hjge : x.nexts.length ≤ j := by have h := hb1; simp [intsAV] at h; omega
  refine AGo.exit ?_
  refine AGo.seq ?_
  refine AGo.seq ?_
  refine AGo.region ?_
  refine am 54 ?_
  refine aq 55 (q_len tok rfl rfl rfl rfl rfl) ?_
  refine am 56 ?_
  refine AOps.nil ?_
  refine AGo.block ?_
  refine AGo.loopK (γ := Nat) (kf 10) (fun k => ⟨109, (eput (eput (eput (eput (eput (eput eNew 0 (.ptr 2 1 0 0)) 1 (.int .i64 (b : Int))) 5 (rG 1 (nw R) b)) 6 (.bool (chg (inN x (outN I (O b) x)) (I b) k))) 55 (.int .i64 (nw R : Int))) 56 (.int .i64 (k : Int))), (fam (nb [.free, .free, (.row false 8 [SBc f (es).length (len)]), (.row false 1 (colF (rG 0 (nw R)) f.blocks.length)), (.row false 1 (colF (rG 1 (nw R)) f.blocks.length)), (.row true 1 (bC f.blocks.length (w))), (.row true 1 (es)), (.row false 1 (colF (ahR (aheadL f)) f.blocks.length)), (.row true 1 (f.blocks.map (rdC R))), (.row true 1 (f.blocks.map (stC R)))]) (F3 (rI f.blocks.length R (setRow I b (mixN (inN x (outN I (O b) x)) (I b) k))) (rI f.blocks.length R (setRow O b (outN I (O b) x))) r2))⟩) (fun k => k ≤ nw R) (fun k => nw R - k) 0 (Sub.mk' (by repeat (first | exact ESub.new _ | refine ESub.put ?_ (by first | rfl | exact congrArg (fun (n : Nat) => some (AV.int .i64 (n : Int))) (by simp)))) (famSub (k0 := 10) rfl (by repeat (first | exact trivial | refine ⟨⟨by rfl, by first | rfl | exact colF_avoid (fun _ _ => rG_avoid _ _ _ _) | exact colF_avoid (fun _ _ => ahR_avoid _ _ _)⟩, ?_⟩)) (fun x_ => by (try simp only [hputs]); exact (fam_hi _ _ _).trans (congrArg some (by rw [outP_end hjge]; exact rows0 (mixN_zero _ _) _))) (fun c h1 h2 => by rcases (by omega : c = 10 ∨ c = 11 ∨ c = 12 ∨ c = 13 ∨ c = 14 ∨ c = 15) with rfl | rfl | rfl | rfl | rfl | rfl <;> first | rfl | (try simp only [hputs]; repeat (first | rfl | refine hput_skip (by exact beq_false_of_ne (by omega)) ?_ | refine hrm_skip (by omega) ?_))))) (Nat.zero_le _) (fun g b hb => famFree (k0 := 10) rfl hb) ?_
  intro k hkn
  refine AGo.seq ?_
  refine AGo.region ?_
  refine aq 57 (q_bin rfl rfl rfl rfl) ?_
  refine AOps.nil ?_
  refine AGo.seq ?_
  refine AGo.split 57 rfl (fun hb3 => ?_) (fun hb3 => ?_)
  ·
   refine AGo.cond_true true rfl rfl ?_
   have hkl : k < nw R := by have h := hb3; simp at h; exact h
   refine AGo.skip ?_
   refine AGo.seq ?_
   refine AGo.block ?_
   refine AGo.seq ?_
   refine AGo.region ?_
   refine am 58 ?_
   refine aa 11 ?_
   refine AOps.nil ?_
   refine AGo.seq ?_
   refine AGo.draw mix ?_
   refine dm 59 ?_
   refine dq 60 (q_nilCheck rfl rfl rfl) ?_
   refine df 61 tok ?_
   refine dl 62 tok ?_
   refine dm 63 ?_
   refine dq 64 (q_index_ref tok rfl rfl rfl rfl rfl rfl rfl (List.length_map _).symm rfl (Int.natCast_nonneg _) (by omega)) ?_
   refine dq 65 (q_load tok rfl rfl rfl (.ptr _ _ _ _ _ _ _ (rdC R x) rfl (List.length_map _).symm (by rw [Nat.zero_add, Int.toNat_natCast, List.getElem?_map, hx]; rfl)) rfl) ?_
   refine dm 66 ?_
   refine dq 67 (q_index_lst tok rfl rfl rfl rfl rfl rfl (Int.natCast_nonneg _) (by rw [Int.toNat_natCast]; exact rowW_get hkl) rfl) ?_
   refine dl 68 tok ?_
   refine dm 69 ?_
   refine dm 70 ?_
   refine dq 71 (q_index_ref tok rfl rfl rfl rfl rfl rfl ((fam_hi _ _ _).trans (congrArg some (rIs_1 hb))) (rowW_len _ _).symm rfl (Int.natCast_nonneg _) (by omega)) ?_
   refine dq 72 (q_load tok rfl rfl rfl (.ptr _ _ _ _ _ _ _ (wdcell (outN I (O b) x) k) ((fam_hi _ _ _).trans (congrArg some (rIs_1 hb))) (rowW_len _ _).symm (by rw [Nat.zero_add, Int.toNat_natCast]; exact (rowW_get hkl).trans (congrArg some rfl))) rfl) ?_
   refine dm 73 ?_
   refine dq 74 (q_nilCheck rfl rfl rfl) ?_
   refine df 75 tok ?_
   refine dl 76 tok ?_
   refine dm 77 ?_
   refine dq 78 (q_index_ref tok rfl rfl rfl rfl rfl rfl rfl (List.length_map _).symm rfl (Int.natCast_nonneg _) (by omega)) ?_
   refine dq 79 (q_load tok rfl rfl rfl (.ptr _ _ _ _ _ _ _ (stC R x) rfl (List.length_map _).symm (by rw [Nat.zero_add, Int.toNat_natCast, List.getElem?_map, hx]; rfl)) rfl) ?_
   refine dm 80 ?_
   refine dq 81 (q_index_lst tok rfl rfl rfl rfl rfl rfl (Int.natCast_nonneg _) (by rw [Int.toNat_natCast]; exact rowW_get hkl) rfl) ?_
   refine dl 82 tok ?_
   refine dq 83 (q_bin rfl rfl rfl (wd_andNot (fun v => (outN I (O b) x) (64 * k + v)) (fun v => setsAny (64 * k + v) x.ins))) ?_
   refine dq 84 (q_bin rfl rfl rfl (wd_or (fun v => readP x (64 * k + v)) (fun v => (outN I (O b) x) (64 * k + v) && !setsAny (64 * k + v) x.ins))) ?_
   refine da 12 ?_
   refine DOps.nil (by kernel_rfl) ?_
   refine AGo.seq ?_
   refine AGo.region ?_
   refine am 85 ?_
   refine am 86 ?_
   refine aq 87 (q_nilCheck rfl rfl rfl) ?_
   refine af 88 tok ?_
   refine al 89 tok ?_
   refine am 90 ?_
   refine aq 91 (q_index_ref tok rfl rfl rfl rfl rfl rfl rfl (colF_len _ _).symm rfl (Int.natCast_nonneg _) (by omega)) ?_
   refine aq 92 (q_load tok rfl rfl rfl (.ptr _ _ _ _ _ _ _ [rG 0 (nw R) b] rfl (colF_len _ _).symm (by rw [Nat.zero_add, Int.toNat_natCast]; exact colF_get hb)) rfl) ?_
   refine am 93 ?_
   refine aq 94 (q_index_ref tok rfl rfl rfl rfl rfl rfl ((fam_hi _ _ _).trans (congrArg some (rIs_0 hb))) (rowW_len _ _).symm rfl (Int.natCast_nonneg _) (by omega)) ?_
   refine aq 95 (q_load tok rfl rfl rfl (.ptr _ _ _ _ _ _ _ (wdcell (I b) k) ((fam_hi _ _ _).trans (congrArg some (rIs_0 hb))) (rowW_len _ _).symm (by rw [Nat.zero_add, Int.toNat_natCast]; exact (rowW_get hkl).trans (congrArg some (mixN_old _ _ _)))) rfl) ?_
   refine aq 96 (q_bin rfl rfl rfl rfl) ?_
   refine AOps.nil ?_
   refine AGo.split 96 rfl (fun hb4 => ?_) (fun hb4 => ?_)
   ·
    refine AGo.cond_true true rfl rfl ?_
    have hne : (wdN (inN x (outN I (O b) x)) k != wdN (I b) k) = true := neq_wd hb4
    refine AGo.seq ?_
    refine AGo.region ?_
    refine am 97 ?_
    refine aq 98 (q_nilCheck rfl rfl rfl) ?_
    refine af 99 tok ?_
    refine al 100 tok ?_
    refine am 101 ?_
    refine aq 102 (q_index_ref tok rfl rfl rfl rfl rfl rfl rfl (colF_len _ _).symm rfl (Int.natCast_nonneg _) (by omega)) ?_
    refine aq 103 (q_load tok rfl rfl rfl (.ptr _ _ _ _ _ _ _ [rG 0 (nw R) b] rfl (colF_len _ _).symm (by rw [Nat.zero_add, Int.toNat_natCast]; exact colF_get hb)) rfl) ?_
    refine am 104 ?_
    refine am 105 ?_
    refine aq 106 (q_index_ref tok rfl rfl rfl rfl rfl rfl ((fam_hi _ _ _).trans (congrArg some (rIs_0 hb))) (rowW_len _ _).symm rfl (Int.natCast_nonneg _) (by omega)) ?_
    refine AOps.w rfl rfl (o_store tok (es := rowW R (mixN (inN x (outN I (O b) x)) (I b) k)) (cs := wdcell (I b) k) rfl rfl rfl rfl rfl ((fam_hi _ _ _).trans (congrArg some (rIs_0 hb))) (rowW_len _ _).symm (by rw [Nat.zero_add, Int.toNat_natCast]; exact (rowW_get hkl).trans (congrArg some (mixN_old _ _ _))) rfl (by decide) rfl (fun _ => rfl)) ?_
    refine AOps.nil ?_
    refine AGo.region ?_
    refine aa 6 ?_
    refine AOps.nil ?_
    refine AGo.region ?_
    refine aq 107 (q_inc rfl rfl hkl (by simp only [maxLen]; omega)) ?_
    refine am 56 ?_
    refine AOps.nil ?_
    exact ⟨k+1, DropK.mk' (by repeat (first | exact EDropK.new _ _ | refine EDropK.put ?_ (by first | rfl | exact congrArg (fun z => some (AV.bool z)) (chg_yes hne) | exact congrArg (fun z => some (AV.bool z)) (chg_no heq)) (by first | rfl | exact rG_avoid _ _ _ _))) (famDrop (k0 := 10) rfl (by repeat (first | exact trivial | refine ⟨⟨by rfl, by first | rfl | exact colF_avoid (fun _ _ => rG_avoid _ _ _ _) | exact colF_avoid (fun _ _ => ahR_avoid _ _ _)⟩, ?_⟩)) (fun x_ => by (try simp only [hputs]); (repeat (first | refine hput_skip (by exact beq_false_of_ne (by omega)) ?_ | refine hrm_skip (by omega) ?_)); exact (hput_hi (fun y_ => by (try simp only [hputs]); repeat (first | exact fam_hi _ _ _ | refine hput_skip (by exact beq_false_of_ne (by omega)) ?_ | refine hrm_skip (by omega) ?_)) _ _ x_).trans (congrArg some (rIs_put0 hb (mixN_put _ _ _) x_).symm)) (F3_avoid (fun _ => rI_avoid _) (fun _ => rI_avoid _) h2a)), hkl, by omega⟩
   ·
    refine AGo.cond_false false rfl rfl ?_
    have heq : wdN (inN x (outN I (O b) x)) k = wdN (I b) k := bne_false (neq_wd hb4)
    refine AGo.skip ?_
    refine AGo.region ?_
    refine aq 107 (q_inc rfl rfl hkl (by simp only [maxLen]; omega)) ?_
    refine am 56 ?_
    refine AOps.nil ?_
    exact ⟨k+1, DropK.mk' (by repeat (first | exact EDropK.new _ _ | refine EDropK.put ?_ (by first | rfl | exact congrArg (fun z => some (AV.bool z)) (chg_yes hne) | exact congrArg (fun z => some (AV.bool z)) (chg_no heq)) (by first | rfl | exact rG_avoid _ _ _ _))) (famDrop (k0 := 10) rfl (by repeat (first | exact trivial | refine ⟨⟨by rfl, by first | rfl | exact colF_avoid (fun _ _ => rG_avoid _ _ _ _) | exact colF_avoid (fun _ _ => ahR_avoid _ _ _)⟩, ?_⟩)) (fun x_ => by (try simp only [hputs]); exact (fam_hi _ _ _).trans (congrArg some (rowsS0 (rowW_congr (mixN_skip heq)) _))) (F3_avoid (fun _ => rI_avoid _) (fun _ => rI_avoid _) h2a)), hkl, by omega⟩
  ·
   refine AGo.cond_false false rfl rfl ?_
   have hkge : nw R ≤ k := by have h := hb3; simp at h; omega
   refine AGo.exit ?_
   refine AGo.seq ?_
   refine AGo.region ?_
   refine am 108 ?_
   refine aa 4 ?_
   refine AOps.nil ?_
   refine AGo.ret ?_
   refine ⟨[_], ⟨rfl, trivial⟩, ?_, (famSub (k0 := 10) rfl (by repeat (first | exact trivial | refine ⟨⟨by rfl, by first | rfl | exact colF_avoid (fun _ _ => rG_avoid _ _ _ _) | exact colF_avoid (fun _ _ => ahR_avoid _ _ _)⟩, ?_⟩)) (fun x_ => by (try simp only [hputs]); exact (fam_hi _ _ _).trans (congrArg some (rowsS0 (mixN_end _ _ hkge) _))) (fun c h1 h2 => by rcases (by omega : c = 10 ∨ c = 11 ∨ c = 12 ∨ c = 13 ∨ c = 14 ∨ c = 15) with rfl | rfl | rfl | rfl | rfl | rfl <;> first | rfl | (try simp only [hputs]; repeat (first | rfl | refine hput_skip (by exact beq_false_of_ne (by omega)) ?_ | refine hrm_skip (by omega) ?_))))⟩
   show AV.bool _ = AV.bool _
   congr 2
   omega

end Go.Proofs.Ytjmjmedjjbginaa.Sv

namespace Go.Proofs.Ytjmjmedjjbginaa.Sv
open Go

set_option maxHeartbeats 2000000 in
set_option maxRecDepth 100000 in
theorem solverOf_ok (f : BFunc) (hs : f.sane) (R : Nat) (hRf : f.regs = (R : Int)) (hR : R ≤ 100000) (hn0 : 0 < f.blocks.length) (hn : f.blocks.length ≤ 100000) (hi : ∀ x ∈ f.blocks, x.ins.length ≤ 100000) : ACall Try.prog 50 [.agg f.cells] hNew (fun r h' => r = .ptr 2 1 0 0 ∧ HSub (putS hNone (HS f R ((List.range f.blocks.length).map natC) f.blocks.length (fun b => decide (b < f.blocks.length)) (F3 (rI f.blocks.length R B0) (rI f.blocks.length R B0) (rA f.blocks.length (aheadL f))))) h') := by
 refine ACall.of_body (n := 121) tok Try.func50 rfl rfl ?_
 refine AGo.seq ?_
 refine AGo.region ?_
 refine ax 1 (o_box (sz := 2) 0 rfl rfl rfl rfl (Nat.zero_lt_succ _) rfl) ?_
 refine aa 2 ?_
 refine AOps.nil ?_
 refine AGo.seq ?_
 refine AGo.region ?_
 refine af 12 tok ?_
 refine al 13 tok ?_
 refine aq 14 (q_len tok rfl rfl rfl rfl rfl) ?_
 refine aa 3 ?_
 refine AOps.nil ?_
 refine AGo.seq ?_
 refine AGo.draw mix ?_
 refine dl 15 tok ?_
 refine dx 16 (o_pure rfl Try.func42 (by kernel_rfl) rfl rfl rfl (next_ok _ (by assumption))) ?_
 refine dm 17 ?_
 refine dx 18 (o_makeSlice tok (n := f.blocks.length) (m := f.blocks.length) 7 false rfl rfl rfl (by simp) (by simp) rfl rfl rfl rfl rfl (Nat.zero_lt_succ _) rfl (Nat.le_refl _) (by show 24 * f.blocks.length ≤ _; omega) (by simp only [maxLen]; omega)) ?_
 refine dm 19 ?_
 refine dx 20 (o_makeSlice tok (n := f.blocks.length) (m := f.blocks.length) 5 true rfl rfl rfl (by simp) (by simp) rfl rfl rfl rfl rfl (Nat.zero_lt_succ _) rfl (Nat.le_refl _) (by show 1 * f.blocks.length ≤ _; omega) (by simp only [maxLen]; omega)) ?_
 refine dq 21 (q_build tok rfl rfl rfl rfl rfl (by decide) rfl rfl rfl) ?_
 refine dx 22 (o_box (sz := 8) 2 rfl rfl rfl rfl (Nat.zero_lt_succ _) rfl) ?_
 refine da 4 ?_
 refine DOps.nil (by kernel_rfl) ?_
 refine AGo.seq ?_
 refine AGo.seq ?_
 refine AGo.ghost (Ghost.weakRowF 2 (es' := [SBb f R 0]) rfl rfl (weak_one ⟨Wk.refl _, Wk.refl _, Wk.nil _, Wk.nil _, Wk.nil _, Wk.nil _, Wk.refl _, Wk.refl _, trivial⟩)) ?_
 refine AGo.ghost (Ghost.weakRowF 7 (es' := colF (ahR (fun _ => [])) f.blocks.length) rfl (by rw [colF_len, List.length_replicate]) (weak_col fun b => Wk.nil _)) ?_
 refine AGo.region ?_
 refine am 23 ?_
 refine aq 24 (q_nilCheck rfl rfl rfl) ?_
 refine af 25 tok ?_
 refine al 26 tok ?_
 refine aq 27 (q_len tok rfl rfl rfl rfl rfl) ?_
 refine am 28 ?_
 refine AOps.nil ?_
 refine AGo.block ?_
 refine AGo.loopK (γ := Nat) (kf 10) (fun k => ⟨121, (eput (eput (eput (eput (eput (eput eNew 1 (.ptr 0 1 0 0)) 3 (.int .i64 (f.blocks.length : Int))) 4 (.ptr 2 1 0 0)) 26 (pathsAV f.nexts)) 27 (.int .i64 (f.blocks.length : Int))) 28 (.int .i64 (k : Int))), (fam (nb [(.row false 2 [f.cells]), .free, (.row false 8 [SBb f R k]), (slP 1 (colF (rG 0 (nw R)) k)), (slP 1 (colF (rG 1 (nw R)) k)), (.row true 1 (bC f.blocks.length (fun _ => false))), .free, (.row false 1 (colF (ahR (aheadP f k 0)) f.blocks.length)), (slO 1 ((f.blocks.take k).map (rdC R))), (slO 1 ((f.blocks.take k).map (stC R)))]) (F3 (rI k R B0) (rI k R B0) (rA f.blocks.length (aheadP f k 0))))⟩) (fun k => k ≤ f.blocks.length) (fun k => f.blocks.length - k) 0 (Sub.mk' (by repeat (first | exact ESub.new _ | refine ESub.put ?_ (by first | rfl | exact congrArg (fun m : Nat => some (AV.int .i64 (m : Int))) ((List.length_map _).trans (nexts_length f)) | exact congrArg (fun (n : Nat) => some (AV.int .i64 (n : Int))) (by simp)))) (famSub (k0 := 10) rfl (by repeat (first | exact trivial | refine ⟨⟨by first | rfl | exact congrArg (fun es => some (AObj.row true 1 es)) (colF_rep _ _) | exact congrArg (fun A => some (AObj.row false 1 (colF (ahR A) f.blocks.length))) (funext fun c => (aheadP_zero f 0 c).symm), by first | rfl | exact sbb_avoid f R (by decide) | exact slO_avoid _ _ | exact slP_avoid (fun _ _ => rG_avoid _ _ _ _) | exact colF_avoid (fun _ _ => ahR_avoid _ _ _)⟩, ?_⟩)) (fun x_ => by rw [rA_congr (aheadP_zero f 0)]; (try simp only [hputs]); (repeat (first | refine hput_skip (by exact beq_false_of_ne (by omega)) ?_ | refine hrm_skip (by omega) ?_)); exact congrArg some rI_start.symm) (fun c h1 h2 => by rcases (by omega : c = 10 ∨ c = 11 ∨ c = 12 ∨ c = 13 ∨ c = 14 ∨ c = 15) with rfl | rfl | rfl | rfl | rfl | rfl <;> first | rfl | (try simp only [hputs]; repeat (first | rfl | refine hput_skip (by exact beq_false_of_ne (by omega)) ?_ | refine hrm_skip (by omega) ?_))))) (Nat.zero_le _) (fun g b hb => famFree (k0 := 10) rfl hb) ?_
 intro k hk
 refine AGo.seq ?_
 refine AGo.region ?_
 refine aq 29 (q_bin rfl rfl rfl rfl) ?_
 refine AOps.nil ?_
 refine AGo.seq ?_
 refine AGo.split 29 rfl (fun hb1 => ?_) (fun hb1 => ?_)
 ·
  refine AGo.cond_true true rfl rfl ?_
  have hkl : k < f.blocks.length := by have h := hb1; simp at h; exact h
  obtain ⟨x, hx⟩ := get_of_lt hkl
  have hxm := List.mem_of_getElem? hx
  refine AGo.skip ?_
  refine AGo.seq ?_
  refine AGo.block ?_
  refine AGo.seq ?_
  refine AGo.region ?_
  refine am 30 ?_
  refine aq 31 (q_index_lst tok rfl rfl rfl rfl rfl rfl (Int.natCast_nonneg _) (idx_map (nexts_get hx)) rfl) ?_
  refine al 32 tok ?_
  refine aa 5 ?_
  refine aa 6 ?_
  refine AOps.nil ?_
  refine AGo.seq ?_
  refine AGo.seq ?_
  refine AGo.region ?_
  refine am 33 ?_
  refine aq 34 (q_len tok rfl rfl rfl rfl rfl) ?_
  refine am 35 ?_
  refine AOps.nil ?_
  refine AGo.block ?_
  refine AGo.loopK (γ := Nat) (kf 10) (fun j => ⟨121, (eput (eput (eput (eput (eput (eput (eput (eput (eput (eput eNew 1 (.ptr 0 1 0 0)) 3 (.int .i64 (f.blocks.length : Int))) 4 (.ptr 2 1 0 0)) 26 (pathsAV f.nexts)) 27 (.int .i64 (f.blocks.length : Int))) 28 (.int .i64 (k : Int))) 5 (.int .i64 (k : Int))) 33 (intsAV x.nexts)) 34 (.int .i64 (x.nexts.length : Int))) 35 (.int .i64 (j : Int))), (fam (nb [(.row false 2 [f.cells]), .free, (.row false 8 [SBb f R k]), (slP 1 (colF (rG 0 (nw R)) k)), (slP 1 (colF (rG 1 (nw R)) k)), (.row true 1 (bC f.blocks.length (fun _ => false))), .free, (.row false 1 (colF (ahR (aheadP f k j)) f.blocks.length)), (slO 1 ((f.blocks.take k).map (rdC R))), (slO 1 ((f.blocks.take k).map (stC R)))]) (F3 (rI k R B0) (rI k R B0) (rA f.blocks.length (aheadP f k j))))⟩) (fun j => True) (fun j => x.nexts.length - j) 0 (Sub.mk' (by repeat (first | exact ESub.new _ | refine ESub.put ?_ (by first | rfl | exact congrArg (fun (n : Nat) => some (AV.int .i64 (n : Int))) (by simp)))) (famSub (k0 := 10) rfl (by repeat (first | exact trivial | refine ⟨⟨by rfl, by first | rfl | exact sbb_avoid f R (by decide) | exact slO_avoid _ _ | exact slP_avoid (fun _ _ => rG_avoid _ _ _ _) | exact colF_avoid (fun _ _ => ahR_avoid _ _ _)⟩, ?_⟩)) (fun x_ => by (try simp only [hputs]); repeat (first | exact fam_hi _ _ _ | refine hput_skip (by exact beq_false_of_ne (by omega)) ?_ | refine hrm_skip (by omega) ?_)) (fun c h1 h2 => by rcases (by omega : c = 10 ∨ c = 11 ∨ c = 12 ∨ c = 13 ∨ c = 14 ∨ c = 15) with rfl | rfl | rfl | rfl | rfl | rfl <;> first | rfl | (try simp only [hputs]; repeat (first | rfl | refine hput_skip (by exact beq_false_of_ne (by omega)) ?_ | refine hrm_skip (by omega) ?_))))) trivial (fun g b hb => famFree (k0 := 10) rfl hb) ?_
  intro j _
  refine AGo.seq ?_
  refine AGo.region ?_
  refine aq 36 (q_bin rfl rfl rfl rfl) ?_
  refine AOps.nil ?_
  refine AGo.seq ?_
  refine AGo.split 36 rfl (fun hb2 => ?_) (fun hb2 => ?_)
  ·
   refine AGo.cond_true true rfl rfl ?_
   have hjl : j < x.nexts.length := by have h := hb2; simp [intsAV] at h; exact h
   obtain ⟨d, hd⟩ := get_of_lt hjl
   have hd0 := hs.next x hxm d (List.mem_of_getElem? hd)
   have hdn : d.toNat < f.blocks.length := by omega
   refine AGo.skip ?_
   refine AGo.seq ?_
   refine AGo.block ?_
   refine AGo.seq ?_
   refine AGo.region ?_
   refine aq 37 (q_index_lst tok rfl rfl rfl rfl rfl rfl (Int.natCast_nonneg _) (idx_map hd) rfl) ?_
   refine al 38 tok ?_
   refine aa 8 ?_
   refine AOps.nil ?_
   refine AGo.draw mix ?_
   refine dm 39 ?_
   refine dq 40 (q_nilCheck rfl rfl rfl) ?_
   refine df 41 tok ?_
   refine dl 42 tok ?_
   refine dm 43 ?_
   refine dm 44 ?_
   refine dq 45 (q_nilCheck rfl rfl rfl) ?_
   refine df 46 tok ?_
   refine dl 47 tok ?_
   refine dm 48 ?_
   refine dq 49 (q_index_ref tok rfl rfl rfl rfl rfl rfl rfl (colF_len _ _).symm rfl hd0.1 (by omega)) ?_
   refine dq 50 (q_load tok rfl rfl rfl (.ptr _ _ _ _ _ _ _ [ahR (aheadP f k j) d.toNat] rfl (colF_len _ _).symm (by rw [Nat.zero_add]; exact colF_get hdn)) rfl) ?_
   refine dm 51 ?_
   refine dx 52 (o_lit' tok rfl rfl rfl rfl rfl rfl (by decide) rfl rfl rfl rfl rfl rfl) ?_
   refine dx 53 (o_append1J tok (b := 3 * d.toNat + 2 + 16) (es := (aheadP f k j d.toNat).map natC) rfl rfl rfl rfl rfl rfl rfl rfl ((fam_hi _ _ _).trans (congrArg some (rA_2 hdn))) rfl rfl (Nat.zero_lt_succ _) (one_len fun _ => rfl) (one_pure fun _ => rfl) rfl rfl (by rw [List.length_map]; have := aheadP_len f k j d.toNat; show (_ + 1) * 8 ≤ _; omega) (by rw [List.length_map]; have := aheadP_len f k j d.toNat; simp only [maxLen]; omega)) ?_
   refine dq 54 (q_index_ref tok rfl rfl rfl rfl rfl rfl rfl (colF_len _ _).symm rfl hd0.1 (by omega)) ?_
   refine DOps.w rfl rfl (o_store1 tok (p := false) (sz := 1) (es := colF (ahR (aheadP f k j)) f.blocks.length) (cs := [ahR (aheadP f k j) d.toNat]) rfl rfl rfl rfl rfl rfl (by (try simp only [hputs]); repeat (first | rfl | exact hput_same _ _ _ | refine hput_skip (by exact beq_false_of_ne (by omega)) ?_ | refine hrm_skip (by omega) ?_ | refine (famW_out _ (fun i_ _ => by first | omega | (dsimp only; omega))).trans ?_)) (colF_len _ _).symm (by rw [Nat.zero_add]; exact colF_get hdn) (slA_cells _ _) (by decide) (slA_cell1 _ _) (by intro h; cases h)) ?_
   refine DOps.nilC cls3 [([],[]), ([],[]), ([],[]), ([2],[]), ([],[]), ([],[]), ([],[]), ([],[]), ([2],[]), ([],[]), ([7],[]), ([7],[]), ([],[]), ([],[]), ([18],[18]), ([7],[]), ([7],[7])] (by repeat (first | exact trivial | refine ⟨(by first | exact cls_nil _ _ | exact (show clsIn cls3 [2] [2] from cls_one (by decide)) | exact (show clsIn cls3 [3] [3] from cls_one (by decide)) | exact (show clsIn cls3 [4] [4] from cls_one (by decide)) | exact (show clsIn cls3 [5] [5] from cls_one (by decide)) | exact (show clsIn cls3 [6] [6] from cls_one (by decide)) | exact (show clsIn cls3 [7] [7] from cls_one (by decide)) | exact (show clsIn cls3 [8] [8] from cls_one (by decide)) | exact (show clsIn cls3 [9] [9] from cls_one (by decide)) | exact (show clsIn cls3 [10] [10] from cls_one (by decide)) | exact (show clsIn cls3 [11] [11] from cls_one (by decide)) | exact (show clsIn cls3 [12] [12] from cls_one (by decide)) | exact (show clsIn cls3 [13] [13] from cls_one (by decide)) | exact (show clsIn cls3 [14] [14] from cls_one (by decide)) | exact (show clsIn cls3 [15] [15] from cls_one (by decide)) | exact cls_one (by decide) | exact cls_two (by decide) (by decide) | exact cls_one (by first | rw [cls3_0]; decide | rw [cls3_1]; decide | rw [cls3_2]; decide)), (by first | exact cls_nil _ _ | exact (show clsIn cls3 [2] [2] from cls_one (by decide)) | exact (show clsIn cls3 [3] [3] from cls_one (by decide)) | exact (show clsIn cls3 [4] [4] from cls_one (by decide)) | exact (show clsIn cls3 [5] [5] from cls_one (by decide)) | exact (show clsIn cls3 [6] [6] from cls_one (by decide)) | exact (show clsIn cls3 [7] [7] from cls_one (by decide)) | exact (show clsIn cls3 [8] [8] from cls_one (by decide)) | exact (show clsIn cls3 [9] [9] from cls_one (by decide)) | exact (show clsIn cls3 [10] [10] from cls_one (by decide)) | exact (show clsIn cls3 [11] [11] from cls_one (by decide)) | exact (show clsIn cls3 [12] [12] from cls_one (by decide)) | exact (show clsIn cls3 [13] [13] from cls_one (by decide)) | exact (show clsIn cls3 [14] [14] from cls_one (by decide)) | exact (show clsIn cls3 [15] [15] from cls_one (by decide)) | exact cls_one (by decide) | exact cls_two (by decide) (by decide) | exact cls_one (by first | rw [cls3_0]; decide | rw [cls3_1]; decide | rw [cls3_2]; decide)), ?_⟩)) (by kernel_rfl) ?_
   refine AGo.region ?_
   refine aq 55 (q_inc rfl rfl hjl (by simp only [maxLen]; have := nexts_le2 x; omega)) ?_
   refine am 35 ?_
   refine AOps.nil ?_
   exact ⟨j+1, DropK.mk' (by repeat (first | exact EDropK.new _ _ | refine EDropK.put ?_ (by rfl) (by first | rfl))) (famDrop (k0 := 10) rfl (by repeat (first | exact trivial | refine ⟨⟨by first | rfl | exact congrArg (fun es => some (AObj.row false 1 es)) (ah_put (aheadP_succ hx hd hd0.1)), by first | rfl | exact sbb_avoid f R (by decide) | exact slO_avoid _ _ | exact slP_avoid (fun _ _ => rG_avoid _ _ _ _) | exact colF_avoid (fun _ _ => ahR_avoid _ _ _)⟩, ?_⟩)) (fun x_ => by (try simp only [hputs]); (repeat (first | refine hput_skip (by exact beq_false_of_ne (by omega)) ?_ | refine hrm_skip (by omega) ?_)); exact (hput_hi (fun y_ => by (try simp only [hputs]); repeat (first | exact fam_hi _ _ _ | refine hput_skip (by exact beq_false_of_ne (by omega)) ?_ | refine hrm_skip (by omega) ?_)) _ _ x_).trans (congrArg some (rA_put hdn (aheadP_succ hx hd hd0.1) x_).symm)) (F3_avoid (fun _ => rI_avoid _) (fun _ => rI_avoid _) (fun _ => rA_avoid _))), trivial, by omega⟩
  ·
   refine AGo.cond_false false rfl rfl ?_
   have hjge : x.nexts.length ≤ j := by have h := hb2; simp [intsAV] at h; omega
   refine AGo.exit ?_
   refine AGo.seq ?_
   refine AGo.draw mix ?_
   refine df 57 tok ?_
   refine dl 58 tok ?_
   refine dm 59 ?_
   refine dq 60 (q_index_lst tok rfl rfl rfl rfl rfl rfl (Int.natCast_nonneg _) (idx_map hx) rfl) ?_
   refine dl 61 tok ?_
   refine df 62 tok ?_
   refine dl 63 tok ?_
   refine dx 64 (o_call (r := .tup [.lst false (rowW R (readP x)), .lst false (rowW R (fun v => setsAny v x.ins))]) (hc := hNew) (hw := hNone) [] [] rfl Try.func66 (by kernel_rfl) rfl rfl rfl trivial rfl (hres_nil _) trivial rfl (by rw [hRf]; exact touch_ok x R hR (hi x hxm) (fun t ht => by rw [← hRf]; exact hs.low x hxm t ht) (fun e => by rw [← hRf]; exact hs.fin x hxm e))) ?_
   refine dm 56 ?_
   refine dq 65 (q_extract rfl rfl rfl) ?_
   refine dq 66 (q_extract rfl rfl rfl) ?_
   refine da 9 ?_
   refine da 10 ?_
   refine DOps.nil (by kernel_rfl) ?_
   refine AGo.seq ?_
   refine AGo.region ?_
   refine am 67 ?_
   refine am 68 ?_
   refine aq 69 (q_nilCheck rfl rfl rfl) ?_
   refine af 70 tok ?_
   refine al 71 tok ?_
   refine am 72 ?_
   refine ax 73 (o_lit' tok rfl rfl rfl rfl rfl rfl (by decide) rfl rfl rfl rfl rfl rfl) ?_
   refine ax 74 (o_append1J tok (b := 8) (es := (f.blocks.take k).map (rdC R)) rfl rfl rfl rfl rfl rfl rfl rfl (by (try simp only [hputs]); repeat (first | rfl | exact hput_same _ _ _ | refine hput_skip (by exact beq_false_of_ne (by omega)) ?_ | refine hrm_skip (by omega) ?_ | refine (famW_out _ (fun i_ _ => by first | omega | (dsimp only; omega))).trans ?_)) rfl rfl (Nat.zero_lt_succ _) (one_len fun _ => rfl) (one_pure fun _ => rfl) rfl rfl (by rw [List.length_map, List.length_take]; show (_ + 1) * 24 ≤ _; omega) (by rw [List.length_map, List.length_take]; simp only [maxLen]; omega)) ?_
   refine aq 75 (q_nilCheck rfl rfl rfl) ?_
   refine af 76 tok ?_
   refine AOps.w rfl rfl (o_store1 tok rfl rfl rfl rfl rfl rfl rfl rfl rfl (slA_cells _ _) (by decide) (slA_cell1 _ _) (by intro h; cases h)) ?_
   refine AOps.nil ?_
   refine AGo.seq ?_
   refine AGo.region ?_
   refine am 77 ?_
   refine am 78 ?_
   refine aq 79 (q_nilCheck rfl rfl rfl) ?_
   refine af 80 tok ?_
   refine al 81 tok ?_
   refine am 82 ?_
   refine ax 83 (o_lit' tok rfl rfl rfl rfl rfl rfl (by decide) rfl rfl rfl rfl rfl rfl) ?_
   refine ax 84 (o_append1J tok (b := 9) (es := (f.blocks.take k).map (stC R)) rfl rfl rfl rfl rfl rfl rfl rfl (by (try simp only [hputs]); repeat (first | rfl | exact hput_same _ _ _ | refine hput_skip (by exact beq_false_of_ne (by omega)) ?_ | refine hrm_skip (by omega) ?_ | refine (famW_out _ (fun i_ _ => by first | omega | (dsimp only; omega))).trans ?_)) rfl rfl (Nat.zero_lt_succ _) (one_len fun _ => rfl) (one_pure fun _ => rfl) rfl rfl (by rw [List.length_map, List.length_take]; show (_ + 1) * 24 ≤ _; omega) (by rw [List.length_map, List.length_take]; simp only [maxLen]; omega)) ?_
   refine aq 85 (q_nilCheck rfl rfl rfl) ?_
   refine af 86 tok ?_
   refine AOps.w rfl rfl (o_store1 tok rfl rfl rfl rfl rfl rfl rfl rfl rfl (slA_cells _ _) (by decide) (slA_cell1 _ _) (by intro h; cases h)) ?_
   refine AOps.nil ?_
   refine AGo.seq ?_
   refine AGo.draw mix ?_
   refine dm 87 ?_
   refine dm 88 ?_
   refine dq 89 (q_nilCheck rfl rfl rfl) ?_
   refine df 90 tok ?_
   refine dl 91 tok ?_
   refine df 92 tok ?_
   refine dl 93 tok ?_
   refine dx 94 (o_callNew (q := wRow R (fun _ => false)) (r := .ref (3 * k + 0 + 16) (nw R) 0 (nw R)) (3 * k + 0 + 16) rfl Try.func67 (by kernel_rfl) rfl rfl rfl (by (try simp only [hputs]); (repeat (first | refine hput_skip (by exact beq_false_of_ne (by omega)) ?_ | refine hrm_skip (by omega) ?_)); exact (fam_hi _ _ _).trans (congrArg some rI_new0)) rfl (by show mem _ _ = true; exact mem_one _) (by rw [hRf]; exact rowOf_ok (3 * k + 0 + 16) R hR)) ?_
   refine dx 95 (o_litRow tok 10 false rfl rfl rfl rfl rfl rfl (by decide) (by (try simp only [hputs]); repeat (first | rfl | exact hput_same _ _ _ | refine hput_skip (by exact beq_false_of_ne (by omega)) ?_ | refine hrm_skip (by omega) ?_ | refine (famW_out _ (fun i_ _ => by first | omega | (dsimp only; omega))).trans ?_)) rfl rfl rfl (by intro h; cases h) rfl rfl) ?_
   refine dx 96 (o_append1S tok (b := 3) (es := colF (rG 0 (nw R)) k) (x0 := [rG 0 (nw R) k]) rfl rfl rfl rfl rfl rfl rfl rfl (by (try simp only [hputs]); repeat (first | rfl | exact hput_same _ _ _ | refine hput_skip (by exact beq_false_of_ne (by omega)) ?_ | refine hrm_skip (by omega) ?_ | refine (famW_out _ (fun i_ _ => by first | omega | (dsimp only; omega))).trans ?_)) rfl rfl (Nat.zero_lt_succ _) (src_ref (p := false) (sz := 1) (by (try simp only [hputs]); repeat (first | rfl | exact hput_same _ _ _ | refine hput_skip (by exact beq_false_of_ne (by omega)) ?_ | refine hrm_skip (by omega) ?_ | refine (famW_out _ (fun i_ _ => by first | omega | (dsimp only; omega))).trans ?_)) rfl) rfl (by rw [colF_len]; show _ * 24 ≤ _; omega) (by rw [colF_len]; simp only [maxLen]; omega)) ?_
   refine dq 97 (q_nilCheck rfl rfl rfl) ?_
   refine df 98 tok ?_
   refine DOps.w rfl rfl (o_store1 tok rfl rfl rfl rfl rfl rfl rfl rfl rfl (slA_cells _ _) (by decide) (slA_cell1 _ _) (by intro h; cases h)) ?_
   refine DOps.nilC cls3 [([],[]), ([],[]), ([],[]), ([],[]), ([2],[]), ([],[]), ([0],[]), ([16],[16]), ([10],[10]), ([3, 10],[3]), ([],[]), ([],[]), ([2],[2])] (by repeat (first | exact trivial | refine ⟨(by first | exact cls_nil _ _ | exact (show clsIn cls3 [2] [2] from cls_one (by decide)) | exact (show clsIn cls3 [3] [3] from cls_one (by decide)) | exact (show clsIn cls3 [4] [4] from cls_one (by decide)) | exact (show clsIn cls3 [5] [5] from cls_one (by decide)) | exact (show clsIn cls3 [6] [6] from cls_one (by decide)) | exact (show clsIn cls3 [7] [7] from cls_one (by decide)) | exact (show clsIn cls3 [8] [8] from cls_one (by decide)) | exact (show clsIn cls3 [9] [9] from cls_one (by decide)) | exact (show clsIn cls3 [10] [10] from cls_one (by decide)) | exact (show clsIn cls3 [11] [11] from cls_one (by decide)) | exact (show clsIn cls3 [12] [12] from cls_one (by decide)) | exact (show clsIn cls3 [13] [13] from cls_one (by decide)) | exact (show clsIn cls3 [14] [14] from cls_one (by decide)) | exact (show clsIn cls3 [15] [15] from cls_one (by decide)) | exact cls_one (by decide) | exact cls_two (by decide) (by decide) | exact cls_one (by first | rw [cls3_0]; decide | rw [cls3_1]; decide | rw [cls3_2]; decide)), (by first | exact cls_nil _ _ | exact (show clsIn cls3 [2] [2] from cls_one (by decide)) | exact (show clsIn cls3 [3] [3] from cls_one (by decide)) | exact (show clsIn cls3 [4] [4] from cls_one (by decide)) | exact (show clsIn cls3 [5] [5] from cls_one (by decide)) | exact (show clsIn cls3 [6] [6] from cls_one (by decide)) | exact (show clsIn cls3 [7] [7] from cls_one (by decide)) | exact (show clsIn cls3 [8] [8] from cls_one (by decide)) | exact (show clsIn cls3 [9] [9] from cls_one (by decide)) | exact (show clsIn cls3 [10] [10] from cls_one (by decide)) | exact (show clsIn cls3 [11] [11] from cls_one (by decide)) | exact (show clsIn cls3 [12] [12] from cls_one (by decide)) | exact (show clsIn cls3 [13] [13] from cls_one (by decide)) | exact (show clsIn cls3 [14] [14] from cls_one (by decide)) | exact (show clsIn cls3 [15] [15] from cls_one (by decide)) | exact cls_one (by decide) | exact cls_two (by decide) (by decide) | exact cls_one (by first | rw [cls3_0]; decide | rw [cls3_1]; decide | rw [cls3_2]; decide)), ?_⟩)) (by kernel_rfl) ?_
   refine AGo.draw mix ?_
   refine dm 99 ?_
   refine dm 100 ?_
   refine dq 101 (q_nilCheck rfl rfl rfl) ?_
   refine df 102 tok ?_
   refine dl 103 tok ?_
   refine df 104 tok ?_
   refine dl 105 tok ?_
   refine dx 106 (o_callNew (q := wRow R (fun _ => false)) (r := .ref (3 * k + 1 + 16) (nw R) 0 (nw R)) (3 * k + 1 + 16) rfl Try.func67 (by kernel_rfl) rfl rfl rfl (by (try simp only [hputs]); (repeat (first | refine hput_skip (by exact beq_false_of_ne (by omega)) ?_ | refine hrm_skip (by omega) ?_)); exact (fam_hi _ _ _).trans (congrArg some rI_new1)) rfl (by show mem _ _ = true; exact mem_one _) (by rw [hRf]; exact rowOf_ok (3 * k + 1 + 16) R hR)) ?_
   refine dx 107 (o_litRow tok 11 false rfl rfl rfl rfl rfl rfl (by decide) (by (try simp only [hputs]); repeat (first | rfl | exact hput_same _ _ _ | refine hput_skip (by exact beq_false_of_ne (by omega)) ?_ | refine hrm_skip (by omega) ?_ | refine (famW_out _ (fun i_ _ => by first | omega | (dsimp only; omega))).trans ?_)) rfl rfl rfl (by intro h; cases h) rfl rfl) ?_
   refine dx 108 (o_append1S tok (b := 4) (es := colF (rG 1 (nw R)) k) (x0 := [rG 1 (nw R) k]) rfl rfl rfl rfl rfl rfl rfl rfl (by (try simp only [hputs]); repeat (first | rfl | exact hput_same _ _ _ | refine hput_skip (by exact beq_false_of_ne (by omega)) ?_ | refine hrm_skip (by omega) ?_ | refine (famW_out _ (fun i_ _ => by first | omega | (dsimp only; omega))).trans ?_)) rfl rfl (Nat.zero_lt_succ _) (src_ref (p := false) (sz := 1) (by (try simp only [hputs]); repeat (first | rfl | exact hput_same _ _ _ | refine hput_skip (by exact beq_false_of_ne (by omega)) ?_ | refine hrm_skip (by omega) ?_ | refine (famW_out _ (fun i_ _ => by first | omega | (dsimp only; omega))).trans ?_)) rfl) rfl (by rw [colF_len]; show _ * 24 ≤ _; omega) (by rw [colF_len]; simp only [maxLen]; omega)) ?_
   refine dq 109 (q_nilCheck rfl rfl rfl) ?_
   refine df 110 tok ?_
   refine DOps.w rfl rfl (o_store1 tok rfl rfl rfl rfl rfl rfl rfl rfl rfl (slA_cells _ _) (by decide) (slA_cell1 _ _) (by intro h; cases h)) ?_
   refine DOps.nilC cls3 [([],[]), ([],[]), ([],[]), ([],[]), ([2],[]), ([],[]), ([0],[]), ([17],[17]), ([11],[11]), ([4, 11],[4]), ([],[]), ([],[]), ([2],[2])] (by repeat (first | exact trivial | refine ⟨(by first | exact cls_nil _ _ | exact (show clsIn cls3 [2] [2] from cls_one (by decide)) | exact (show clsIn cls3 [3] [3] from cls_one (by decide)) | exact (show clsIn cls3 [4] [4] from cls_one (by decide)) | exact (show clsIn cls3 [5] [5] from cls_one (by decide)) | exact (show clsIn cls3 [6] [6] from cls_one (by decide)) | exact (show clsIn cls3 [7] [7] from cls_one (by decide)) | exact (show clsIn cls3 [8] [8] from cls_one (by decide)) | exact (show clsIn cls3 [9] [9] from cls_one (by decide)) | exact (show clsIn cls3 [10] [10] from cls_one (by decide)) | exact (show clsIn cls3 [11] [11] from cls_one (by decide)) | exact (show clsIn cls3 [12] [12] from cls_one (by decide)) | exact (show clsIn cls3 [13] [13] from cls_one (by decide)) | exact (show clsIn cls3 [14] [14] from cls_one (by decide)) | exact (show clsIn cls3 [15] [15] from cls_one (by decide)) | exact cls_one (by decide) | exact cls_two (by decide) (by decide) | exact cls_one (by first | rw [cls3_0]; decide | rw [cls3_1]; decide | rw [cls3_2]; decide)), (by first | exact cls_nil _ _ | exact (show clsIn cls3 [2] [2] from cls_one (by decide)) | exact (show clsIn cls3 [3] [3] from cls_one (by decide)) | exact (show clsIn cls3 [4] [4] from cls_one (by decide)) | exact (show clsIn cls3 [5] [5] from cls_one (by decide)) | exact (show clsIn cls3 [6] [6] from cls_one (by decide)) | exact (show clsIn cls3 [7] [7] from cls_one (by decide)) | exact (show clsIn cls3 [8] [8] from cls_one (by decide)) | exact (show clsIn cls3 [9] [9] from cls_one (by decide)) | exact (show clsIn cls3 [10] [10] from cls_one (by decide)) | exact (show clsIn cls3 [11] [11] from cls_one (by decide)) | exact (show clsIn cls3 [12] [12] from cls_one (by decide)) | exact (show clsIn cls3 [13] [13] from cls_one (by decide)) | exact (show clsIn cls3 [14] [14] from cls_one (by decide)) | exact (show clsIn cls3 [15] [15] from cls_one (by decide)) | exact cls_one (by decide) | exact cls_two (by decide) (by decide) | exact cls_one (by first | rw [cls3_0]; decide | rw [cls3_1]; decide | rw [cls3_2]; decide)), ?_⟩)) (by kernel_rfl) ?_
   refine AGo.region ?_
   refine aq 111 (q_inc rfl rfl hkl (by simp only [maxLen]; omega)) ?_
   refine am 28 ?_
   refine AOps.nil ?_
   exact ⟨k+1, DropK.mk' (by repeat (first | exact EDropK.new _ _ | refine EDropK.put ?_ (by rfl) (by first | rfl))) (famDrop (k0 := 10) rfl (by repeat (first | exact trivial | refine ⟨⟨by first | rfl | exact congrArg (fun s => some (AObj.row false 8 [s])) (sbb_succ hx) | exact congrArg some (slP_col _ _ _).symm | exact congrArg (fun A => some (AObj.row false 1 (colF (ahR A) f.blocks.length))) (funext (aheadP_next hx hjge)) | exact congrArg (fun es => some (slO 1 es)) (map_take_succ hx _), by first | rfl | exact sbb_avoid f R (by decide) | exact slO_avoid _ _ | exact slP_avoid (fun _ _ => rG_avoid _ _ _ _) | exact colF_avoid (fun _ _ => ahR_avoid _ _ _)⟩, ?_⟩)) (fun x_ => by rw [← rA_congr (aheadP_next hx hjge)]; (try simp only [hputs]); (repeat (first | refine hput_skip (by exact beq_false_of_ne (by omega)) ?_ | refine hrm_skip (by omega) ?_)); refine (hput_hi (F := F3 (rI (k + 1) R B0) (rI k R B0) (rA f.blocks.length (aheadP f k j))) (fun y_ => ?_) _ _ x_).trans (congrArg some (rI_succ1 x_).symm); (repeat (first | refine hput_skip (by exact beq_false_of_ne (by omega)) ?_ | refine hrm_skip (by omega) ?_)); exact (hput_hi (fun z_ => by (repeat (first | refine hput_skip (by exact beq_false_of_ne (by omega)) ?_ | refine hrm_skip (by omega) ?_)); exact fam_hi _ _ _) _ _ y_).trans (congrArg some (rI_succ0 y_).symm)) (F3_avoid (fun _ => rI_avoid _) (fun _ => rI_avoid _) (fun _ => rA_avoid _))), hkl, by omega⟩
 ·
  refine AGo.cond_false false rfl rfl ?_
  have hge : f.blocks.length ≤ k := by have h := hb1; simp at h; omega
  refine AGo.exit ?_
  refine AGo.seq ?_
  refine AGo.seq ?_
  have hkn : k = f.blocks.length := by omega
  subst hkn
  rw [sbb_end hn0, slP_col' hn0, slP_col' hn0, List.take_length, slO_map hn0, slO_map hn0, show aheadP f f.blocks.length 0 = aheadL f from funext fun c => aheadP_zero f _ c]
  refine AGo.ghost (.dryCell 2 0 6 6 1 true rfl rfl rfl rfl rfl (by decide)) ?_
  refine AGo.region ?_
  refine am 112 ?_
  refine am 113 ?_
  refine AOps.nil ?_
  refine AGo.block ?_
  refine AGo.loopK (γ := Nat) (kf 10) (fun k => ⟨121, (eput (eput (eput (eput (eput eNew 1 (.ptr 0 1 0 0)) 3 (.int .i64 (f.blocks.length : Int))) 4 (.ptr 2 1 0 0)) 112 (.int .i64 (f.blocks.length : Int))) 113 (.int .i64 (k : Int))), (fam (nb [(.row false 2 [f.cells]), .free, (.row false 8 [SBc f ((List.range k).map natC).length (k)]), (.row false 1 (colF (rG 0 (nw R)) f.blocks.length)), (.row false 1 (colF (rG 1 (nw R)) f.blocks.length)), (.row true 1 (bC f.blocks.length (fun b => decide (b < k)))), (.row true 1 ((List.range k).map natC)), (.row false 1 (colF (ahR (aheadL f)) f.blocks.length)), (.row true 1 (f.blocks.map (rdC R))), (.row true 1 (f.blocks.map (stC R)))]) (F3 (rI f.blocks.length R B0) (rI f.blocks.length R B0) (rA f.blocks.length (aheadL f))))⟩) (fun k => k ≤ f.blocks.length) (fun k => f.blocks.length - k) 0 (Sub.mk' (by repeat (first | exact ESub.new _ | refine ESub.put ?_ (by first | rfl | exact congrArg (fun (n : Nat) => some (AV.int .i64 (n : Int))) (by simp)))) (famSub (k0 := 10) rfl (by repeat (first | exact trivial | refine ⟨⟨by first | rfl | exact congrArg (fun w => some (AObj.row true 1 (bC _ w))) (funext fun b => (decide_eq_false (Nat.not_lt_zero b)).symm), by first | rfl | exact colF_avoid (fun _ _ => rG_avoid _ _ _ _) | exact colF_avoid (fun _ _ => ahR_avoid _ _ _)⟩, ?_⟩)) (fun x_ => by (try simp only [hputs]); repeat (first | exact fam_hi _ _ _ | refine hput_skip (by exact beq_false_of_ne (by omega)) ?_ | refine hrm_skip (by omega) ?_)) (fun c h1 h2 => by rcases (by omega : c = 10 ∨ c = 11 ∨ c = 12 ∨ c = 13 ∨ c = 14 ∨ c = 15) with rfl | rfl | rfl | rfl | rfl | rfl <;> first | rfl | (try simp only [hputs]; repeat (first | rfl | refine hput_skip (by exact beq_false_of_ne (by omega)) ?_ | refine hrm_skip (by omega) ?_))))) (Nat.zero_le _) (fun g b hb => famFree (k0 := 10) rfl hb) ?_
  intro k hk
  refine AGo.seq ?_
  refine AGo.region ?_
  refine aq 114 (q_bin rfl rfl rfl rfl) ?_
  refine AOps.nil ?_
  refine AGo.seq ?_
  refine AGo.split 114 rfl (fun hb3 => ?_) (fun hb3 => ?_)
  ·
   refine AGo.cond_true true rfl rfl ?_
   have hkl : k < f.blocks.length := by have h := hb3; simp at h; exact h
   refine AGo.skip ?_
   refine AGo.seq ?_
   refine AGo.block ?_
   refine AGo.seq ?_
   refine AGo.region ?_
   refine am 115 ?_
   refine aa 11 ?_
   refine AOps.nil ?_
   refine AGo.region ?_
   refine am 116 ?_
   refine am 117 ?_
   refine AOps.call 118 (hn := putS _ (HS f R ((List.range (k + 1)).map natC) (k + 1) (fun b => decide (b < k + 1)) (F3 (rI f.blocks.length R B0) (rI f.blocks.length R B0) (rA f.blocks.length (aheadL f))))) (r := .tup []) rfl rfl rfl (o_callHS (es := (List.range k).map natC) (len := k) (w := fun b => decide (b < k)) rfl Try.func52 (by kernel_rfl) rfl rfl rfl (by repeat (first | exact trivial | refine ⟨by rfl, ?_⟩)) (fun x_ => fam_hi _ _ _) (F3_avoid (fun _ => rI_avoid _) (fun _ => rI_avoid _) (fun _ => rA_avoid _)) (F3_avoid (fun _ => rI_avoid _) (fun _ => rI_avoid _) (fun _ => rA_avoid _)) rfl (by have h := wait_ok f R ((List.range k).map natC) k (fun b => decide (b < k)) (F3 (rI f.blocks.length R B0) (rI f.blocks.length R B0) (rA f.blocks.length (aheadL f))) k hkl hn (by simp) (by simp; omega); rw [push_range, len_range, upd_range] at h; exact h)) ?_
   refine AOps.nil ?_
   refine AGo.region ?_
   refine aq 119 (q_inc rfl rfl hkl (by simp only [maxLen]; omega)) ?_
   refine am 113 ?_
   refine AOps.nil ?_
   exact ⟨k+1, DropK.mk' (by repeat (first | exact EDropK.new _ _ | refine EDropK.put ?_ (by rfl) (by first | rfl))) (famDrop (k0 := 10) rfl (by repeat (first | exact trivial | refine ⟨⟨by first | rfl | exact putS_yes rfl, by first | rfl | exact colF_avoid (fun _ _ => rG_avoid _ _ _ _) | exact colF_avoid (fun _ _ => ahR_avoid _ _ _)⟩, ?_⟩)) (fun x_ => (putS_hi _ _ x_).trans (fam_hi _ _ _)) (F3_avoid (fun _ => rI_avoid _) (fun _ => rI_avoid _) (fun _ => rA_avoid _))), hkl, by omega⟩
  ·
   refine AGo.cond_false false rfl rfl ?_
   have hge : f.blocks.length ≤ k := by have h := hb3; simp at h; omega
   refine AGo.exit ?_
   refine AGo.seq ?_
   refine AGo.region ?_
   refine am 120 ?_
   refine aa 2 ?_
   refine AOps.nil ?_
   refine AGo.ret ?_
   have hkn : k = f.blocks.length := by omega
   subst hkn
   exact ⟨[_], ⟨rfl, trivial⟩, rfl, hs_sub (by repeat (first | exact trivial | refine ⟨by rfl, ?_⟩)) (fun x_ => by dsimp only; exact fam_hi _ _ _)⟩

end Go.Proofs.Ytjmjmedjjbginaa.Sv

namespace Go.Proofs.Ytjmjmedjjbginaa.Sv
open Go

set_option maxHeartbeats 2000000 in
set_option maxRecDepth 100000 in
theorem live_ok (f : BFunc) (hs : f.sane) (hn0 : 0 < f.blocks.length) (hn : f.blocks.length ≤ 100000) (hr : f.regs ≤ 100000) (hi : ∀ x ∈ f.blocks, x.ins.length ≤ 100000) : APure Try.prog 30 [.agg f.cells] (fun r => r = .agg [rowsAV (inRows f), rowsAV (outRows f)]) := by
 have hr0 := hs.regs
 obtain ⟨R, hRf⟩ : ∃ R : Nat, f.regs = (R : Int) := ⟨f.regs.toNat, by omega⟩
 have hRt : R = f.regs.toNat := by omega
 have hR : R ≤ 100000 := by omega
 refine APure.of_body (n := 103) tok Try.func30 rfl rfl ?_
 refine AGo.seq ?_
 refine AGo.region ?_
 refine ax 1 (o_box (sz := 2) 0 rfl rfl rfl rfl (Nat.zero_lt_succ _) rfl) ?_
 refine ax 2 (o_alloc tok 1 rfl rfl rfl rfl (Nat.zero_lt_succ _) rfl) ?_
 refine AOps.nil ?_
 refine AGo.seq ?_
 refine AGo.region ?_
 refine al 10 tok ?_
 refine AOps.call 11 (hn := putS _ (HS f R ((List.range f.blocks.length).map natC) f.blocks.length (fun b => decide (b < f.blocks.length)) (F3 (rI f.blocks.length R B0) (rI f.blocks.length R B0) (rA f.blocks.length (aheadL f))))) (r := .ptr 2 1 0 0) rfl rfl rfl (o_callK (hc := hNew) (hw := putS hNone (HS f R ((List.range f.blocks.length).map natC) f.blocks.length (fun b => decide (b < f.blocks.length)) (F3 (rI f.blocks.length R B0) (rI f.blocks.length R B0) (rA f.blocks.length (aheadL f))))) kS rfl Try.func50 (by kernel_rfl) rfl rfl rfl (fun b hb => ⟨.free, by have := kS_true hb; (try simp only [hputs]); (repeat (first | refine hput_skip (by exact beq_false_of_ne (by omega)) ?_ | refine hrm_skip (by omega) ?_)); rfl, rfl⟩) (funext fun b => by unfold hresK; cases e : kS b with
   | false => rfl
   | true => (have := kS_true e; (try simp only [hputs]); show _ = some AObj.free; (repeat (first | refine hput_skip (by exact beq_false_of_ne (by omega)) ?_ | refine hrm_skip (by omega) ?_)); rfl)) (fun b hb => putS_no hb) (fun b hb => by obtain ⟨q, q1, q2⟩ := HS_avoid (f := f) (R := R) (es := (List.range f.blocks.length).map natC) (len := f.blocks.length) (w := fun b => decide (b < f.blocks.length)) (F := (F3 (rI f.blocks.length R B0) (rI f.blocks.length R B0) (rA f.blocks.length (aheadL f)))) (F3_avoid (fun _ => rI_avoid _) (fun _ => rI_avoid _) (fun _ => rA_avoid _)) hb; exact ⟨q, (putS_yes hb).trans q1, (putS_yes hb).trans q1, q2⟩) rfl (solverOf_ok f hs R hRf hR hn0 hn hi)) ?_
 refine aa 3 ?_
 refine AOps.nil ?_
 refine AGo.seq ?_
 refine AGo.block ?_
 refine AGo.loopK (γ := LQ) (kf 10) (fun q => ⟨103, (eput (eput (eput eNew 1 (.ptr 0 1 0 0)) 2 (.ptr 1 1 0 0)) 3 (.ptr 2 1 0 0)), (fam (nb [(.row false 2 [f.cells]), (.row false 2 [[.nil, .nil]]), (.row false 8 [SBc f (q.es).length (q.ws.length)]), (.row false 1 (colF (rG 0 (nw R)) f.blocks.length)), (.row false 1 (colF (rG 1 (nw R)) f.blocks.length)), (.row true 1 (bC f.blocks.length (q.w))), (.row true 1 (q.es)), (.row false 1 (colF (ahR (aheadL f)) f.blocks.length)), (.row true 1 (f.blocks.map (rdC R))), (.row true 1 (f.blocks.map (stC R)))]) (F3 (rI f.blocks.length R q.I) (rI f.blocks.length R q.O) (rA f.blocks.length (aheadL f))))⟩) (fun q => LQI f R q) (fun q => lmu f R q) (lq0 f.blocks.length) (Sub.mk' (by repeat (first | exact ESub.new _ | refine ESub.put ?_ (by rfl))) (famSub (k0 := 10) rfl (by repeat (first | exact trivial | refine ⟨⟨by first | rfl | exact putS_yes rfl | (show some (AObj.row false 8 [SBc f ((List.range f.blocks.length).map natC).length f.blocks.length]) = some (AObj.row false 8 [SBc f ((List.range f.blocks.length).map natC).length (List.range f.blocks.length).length]); rw [List.length_range]), by first | rfl | exact colF_avoid (fun _ _ => rG_avoid _ _ _ _) | exact colF_avoid (fun _ _ => ahR_avoid _ _ _)⟩, ?_⟩)) (fun x_ => (putS_hi _ _ x_).trans (fam_hi _ _ _)) (fun c h1 h2 => by rcases (by omega : c = 10 ∨ c = 11 ∨ c = 12 ∨ c = 13 ∨ c = 14 ∨ c = 15) with rfl | rfl | rfl | rfl | rfl | rfl <;> first | rfl | (try simp only [hputs]; repeat (first | rfl | refine hput_skip (by exact beq_false_of_ne (by omega)) ?_ | refine hrm_skip (by omega) ?_))))) (LQI.first f R) (fun g b hb => famFree (k0 := 10) rfl hb) ?_
 intro q hQ
 obtain ⟨I, O, w, ws, es⟩ := q
 dsimp only at hQ ⊢
 refine AGo.seq ?_
 refine AGo.seq ?_
 refine AGo.region ?_
 refine am 12 ?_
 refine aq 13 (q_nilCheck rfl rfl rfl) ?_
 refine af 14 tok ?_
 refine al 15 tok ?_
 refine aq 16 (q_len tok rfl rfl rfl rfl rfl) ?_
 refine aq 17 (q_bin rfl rfl rfl rfl) ?_
 refine AOps.nil ?_
 refine AGo.split 17 rfl (fun hb1 => ?_) (fun hb1 => ?_)
 ·
  refine AGo.cond_true true rfl rfl ?_
  obtain ⟨ws', b, hws⟩ : ∃ ws' b, ws = ws' ++ [b] := by
    rcases snoc_cases ws with h | h
    · have h2 := hb1; rw [h] at h2; simp at h2
    · exact h
  subst hws
  have hpop := hQ.wt.pop
  have hb := hpop.2.1
  obtain ⟨x, hx⟩ := get_of_lt hb
  have hxm := List.mem_of_getElem? hx
  have hle := hQ.wt.le
  have hgr := hQ.k.grow hs hx hRt
  refine AGo.skip ?_
  refine AGo.block ?_
  refine AGo.seq ?_
  refine AGo.region ?_
  refine am 18 ?_
  refine aq 19 (q_nilCheck rfl rfl rfl) ?_
  refine af 20 tok ?_
  refine al 21 tok ?_
  refine aq 22 (q_len tok rfl rfl rfl rfl rfl) ?_
  refine aq 23 (q_bin (r := .int .i64 (ws'.length : Int)) rfl rfl rfl (pop_len (by have := hQ.wt.le; simp at this; omega))) ?_
  refine aa 4 ?_
  refine AOps.nil ?_
  refine AGo.seq ?_
  refine AGo.region ?_
  refine am 24 ?_
  refine aq 25 (q_nilCheck rfl rfl rfl) ?_
  refine af 26 tok ?_
  refine al 27 tok ?_
  refine am 28 ?_
  refine aq 29 (q_index_ref tok rfl rfl rfl rfl rfl rfl rfl rfl rfl (Int.natCast_nonneg _) (by simp; omega)) ?_
  refine aq 30 (q_load tok rfl rfl rfl (.ptr _ _ _ _ _ _ _ (natC b) rfl rfl (by rw [Nat.zero_add, Int.toNat_natCast]; exact hQ.st.get)) rfl) ?_
  refine aa 5 ?_
  refine AOps.nil ?_
  refine AGo.seq ?_
  refine AGo.region ?_
  refine am 31 ?_
  refine am 32 ?_
  refine aq 33 (q_nilCheck rfl rfl rfl) ?_
  refine af 34 tok ?_
  refine al 35 tok ?_
  refine am 36 ?_
  refine aq 37 (q_slice_ref tok (es := es) (m := ws'.length) rfl rfl rfl rfl rfl rfl rfl rfl rfl (by simp)) ?_
  refine aq 38 (q_nilCheck rfl rfl rfl) ?_
  refine af 39 tok ?_
  refine AOps.w rfl rfl (o_store tok rfl rfl rfl rfl rfl rfl rfl rfl rfl (by decide) rfl (by first | exact fun _ => rfl | (intro h; cases h))) ?_
  refine AOps.nil ?_
  refine AGo.seq ?_
  refine AGo.region ?_
  refine am 40 ?_
  refine aq 41 (q_nilCheck rfl rfl rfl) ?_
  refine af 42 tok ?_
  refine al 43 tok ?_
  refine am 44 ?_
  refine aq 45 (q_index_ref tok rfl rfl rfl rfl rfl rfl rfl (colF_len _ _).symm rfl (Int.natCast_nonneg _) (by omega)) ?_
  refine AOps.w rfl rfl (o_store tok rfl rfl rfl rfl rfl rfl (colF_len _ _).symm (by rw [Nat.zero_add, Int.toNat_natCast]; exact colF_get hb) rfl (by decide) rfl (by first | exact fun _ => rfl | (intro h; cases h))) ?_
  refine AOps.nil ?_
  refine AGo.seq ?_
  refine AGo.region ?_
  refine am 46 ?_
  refine am 47 ?_
  refine AOps.call 48 (hn := putS _ (HS f R es ws'.length (updB w b false) (F3 (rI f.blocks.length R (setRow I b (inN x (outN I (O b) x)))) (rI f.blocks.length R (setRow O b (outN I (O b) x))) (rA f.blocks.length (aheadL f))))) (r := .bool (chg (inN x (outN I (O b) x)) (I b) (nw R))) rfl rfl rfl (o_callHS (es := es) (len := ws'.length) (w := updB w b false) rfl Try.func51 (by kernel_rfl) rfl rfl rfl (by repeat (first | exact trivial | refine ⟨by first | rfl | exact congrArg (fun es => some (AObj.row true 1 es)) (bC_set' false), ?_⟩)) (fun x_ => by (try simp only [hputs]); (try dsimp only); first | exact fam_hi _ _ _ | exact (putS_hi _ _ x_).trans (fam_hi _ _ _) | ((repeat (first | refine hput_skip (by exact beq_false_of_ne (by omega)) ?_ | refine hrm_skip (by omega) ?_)); exact fam_hi _ _ _)) (F3_avoid (fun _ => rI_avoid _) (fun _ => rI_avoid _) (fun _ => rA_avoid _)) (F3_avoid (fun _ => rI_avoid _) (fun _ => rI_avoid _) (fun _ => rA_avoid _)) rfl (grow_ok f hs R hR es ws'.length (updB w b false) I O (rA f.blocks.length (aheadL f)) (fun _ => rA_avoid _) b x hx hn)) ?_
  refine AOps.nil ?_
  refine AGo.split 48 rfl (fun hb2 => ?_) (fun hb2 => ?_)
  ·
   refine AGo.cond_true true rfl rfl ?_
   have hch : chg (inN x (outN I (O b) x)) (I b) (nw R) = true := hb2
   refine AGo.seq ?_
   refine AGo.region ?_
   refine am 49 ?_
   refine aq 50 (q_nilCheck rfl rfl rfl) ?_
   refine af 51 tok ?_
   refine al 52 tok ?_
   refine am 53 ?_
   refine aq 54 (q_index_ref tok rfl rfl rfl rfl rfl rfl rfl (colF_len _ _).symm rfl (Int.natCast_nonneg _) (by omega)) ?_
   refine aq 55 (q_load tok rfl rfl rfl (.ptr _ _ _ _ _ _ _ [ahR (aheadL f) b] rfl (colF_len _ _).symm (by rw [Nat.zero_add, Int.toNat_natCast]; exact colF_get hb)) rfl) ?_
   refine aq 56 (q_lenJ tok rfl rfl rfl rfl) ?_
   refine am 57 ?_
   refine AOps.nil ?_
   refine AGo.block ?_
   refine AGo.loopK (γ := LP) (kf 10) (fun p => ⟨103, (eput (eput (eput (eput (eput (eput (eput eNew 1 (.ptr 0 1 0 0)) 2 (.ptr 1 1 0 0)) 3 (.ptr 2 1 0 0)) 5 (.int .i64 (b : Int))) 55 (ahR (aheadL f) b)) 56 (.int .i64 ((aheadL f b).length : Int))) 57 (.int .i64 (p.j : Int))), (fam (nb [(.row false 2 [f.cells]), (.row false 2 [[.nil, .nil]]), (.row false 8 [SBc f (p.es).length (p.ws.length)]), (.row false 1 (colF (rG 0 (nw R)) f.blocks.length)), (.row false 1 (colF (rG 1 (nw R)) f.blocks.length)), (.row true 1 (bC f.blocks.length (p.w))), (.row true 1 (p.es)), (.row false 1 (colF (ahR (aheadL f)) f.blocks.length)), (.row true 1 (f.blocks.map (rdC R))), (.row true 1 (f.blocks.map (stC R)))]) (F3 (rI f.blocks.length R (setRow I b (inN x (outN I (O b) x)))) (rI f.blocks.length R (setRow O b (outN I (O b) x))) (rA f.blocks.length (aheadL f))))⟩) (fun p => LPI f R (setRow I b (inN x (outN I (O b) x))) (setRow O b (outN I (O b) x)) b p) (fun p => (aheadL f b).length - p.j) ⟨updB w b false, ws', es, 0⟩ (Sub.mk' (by repeat (first | exact ESub.new _ | refine ESub.put ?_ (by first | rfl | exact congrArg (fun m : Nat => some (AV.int .i64 (m : Int))) (by simp)))) (famSub (k0 := 10) rfl (by repeat (first | exact trivial | refine ⟨⟨by first | rfl | exact putS_yes rfl, by first | rfl | exact colF_avoid (fun _ _ => rG_avoid _ _ _ _) | exact colF_avoid (fun _ _ => ahR_avoid _ _ _)⟩, ?_⟩)) (fun x_ => (putS_hi _ _ x_).trans (fam_hi _ _ _)) (fun c h1 h2 => by rcases (by omega : c = 10 ∨ c = 11 ∨ c = 12 ∨ c = 13 ∨ c = 14 ∨ c = 15) with rfl | rfl | rfl | rfl | rfl | rfl <;> first | rfl | (try simp only [hputs]; repeat (first | rfl | refine hput_skip (by exact beq_false_of_ne (by omega)) ?_ | refine hrm_skip (by omega) ?_))))) ⟨by have h := hgr.1; rw [hch] at h; exact h, hpop.1, hQ.st.pop⟩ (fun g b hb => famFree (k0 := 10) rfl hb) ?_
   intro p hP
   refine AGo.seq ?_
   refine AGo.region ?_
   refine aq 58 (q_bin rfl rfl rfl rfl) ?_
   refine AOps.nil ?_
   refine AGo.seq ?_
   refine AGo.split 58 rfl (fun hb3 => ?_) (fun hb3 => ?_)
   ·
    refine AGo.cond_true true rfl rfl ?_
    have hjl : p.j < (aheadL f b).length := by have h := hb3; simp at h; exact h
    obtain ⟨a, ha⟩ := get_of_lt hjl
    have ha2 := aheadL_lt (List.mem_of_getElem? ha)
    refine AGo.skip ?_
    refine AGo.seq ?_
    refine AGo.block ?_
    refine AGo.seq ?_
    refine AGo.region ?_
    refine aq 59 (q_indexJ tok (b := 3 * b + 2 + 16) (es := (aheadL f b).map natC) rfl rfl rfl rfl rfl rfl ((fam_hi _ _ _).trans (congrArg some (rA_2 hb))) rfl (Int.natCast_nonneg _) (by rw [List.length_map]; omega)) ?_
    refine aq 60 (q_load tok rfl rfl rfl (.ptr _ _ _ _ true 1 ((aheadL f b).map natC) (natC a) ((fam_hi _ _ _).trans (congrArg some ((rA_2 hb).trans (slO_at (k := p.j) (by rw [List.length_map]; omega))))) rfl (by rw [Int.toNat_natCast, List.getElem?_map, ha]; rfl)) rfl) ?_
    refine aa 7 ?_
    refine AOps.nil ?_
    refine AGo.region ?_
    refine am 61 ?_
    refine am 62 ?_
    refine AOps.call 63 (hn := putS _ (HS f R (waitEs p.w p.es p.ws.length a) (waitL p.w p.ws a).length (waitW p.w a) (F3 (rI f.blocks.length R (setRow I b (inN x (outN I (O b) x)))) (rI f.blocks.length R (setRow O b (outN I (O b) x))) (rA f.blocks.length (aheadL f))))) (r := .tup []) rfl rfl rfl (o_callHS (es := p.es) (len := p.ws.length) (w := p.w) rfl Try.func52 (by kernel_rfl) rfl rfl rfl (by repeat (first | exact trivial | refine ⟨by rfl, ?_⟩)) (fun x_ => by (try simp only [hputs]); (try dsimp only); first | exact fam_hi _ _ _ | exact (putS_hi _ _ x_).trans (fam_hi _ _ _) | ((repeat (first | refine hput_skip (by exact beq_false_of_ne (by omega)) ?_ | refine hrm_skip (by omega) ?_)); exact fam_hi _ _ _)) (F3_avoid (fun _ => rI_avoid _) (fun _ => rI_avoid _) (fun _ => rA_avoid _)) (F3_avoid (fun _ => rI_avoid _) (fun _ => rI_avoid _) (fun _ => rA_avoid _)) rfl (by have h := wait_ok f R p.es p.ws.length p.w (F3 (rI f.blocks.length R (setRow I b (inN x (outN I (O b) x)))) (rI f.blocks.length R (setRow O b (outN I (O b) x))) (rA f.blocks.length (aheadL f))) a ha2 hn hP.st.le hP.st.max; rw [waitLen_eq] at h; exact h)) ?_
    refine AOps.nil ?_
    refine AGo.region ?_
    refine aq 64 (q_inc rfl rfl hjl (by have := aheadL_len f b; simp only [maxLen]; omega)) ?_
    refine am 57 ?_
    refine AOps.nil ?_
    exact ⟨⟨waitW p.w a, waitL p.w p.ws a, waitEs p.w p.es p.ws.length a, p.j + 1⟩, DropK.mk' (by repeat (first | exact EDropK.new _ _ | refine EDropK.put ?_ (by first | rfl) (by first | rfl | exact ahR_avoid _ _ _))) (famDrop (k0 := 10) rfl (by repeat (first | exact trivial | refine ⟨⟨by first | rfl | exact putS_yes rfl, by first | rfl | exact colF_avoid (fun _ _ => rG_avoid _ _ _ _) | exact colF_avoid (fun _ _ => ahR_avoid _ _ _)⟩, ?_⟩)) (fun x_ => (putS_hi _ _ x_).trans (fam_hi _ _ _)) (F3_avoid (fun _ => rI_avoid _) (fun _ => rI_avoid _) (fun _ => rA_avoid _))), (hP.next ha), (by show (aheadL f b).length - (p.j + 1) < (aheadL f b).length - p.j; omega)⟩
   ·
    refine AGo.cond_false false rfl rfl ?_
    have hjge : (aheadL f b).length ≤ p.j := by have h := hb3; simp at h; omega
    refine AGo.exit ?_
    exact ⟨⟨(setRow I b (inN x (outN I (O b) x))), (setRow O b (outN I (O b) x)), p.w, p.ws, p.es⟩, DropK.mk' (by repeat (first | exact EDropK.new _ _ | refine EDropK.put ?_ (by rfl) (by first | rfl))) (famDrop (k0 := 10) rfl (by repeat (first | exact trivial | refine ⟨⟨by first | rfl | exact putS_yes rfl, by first | rfl | exact colF_avoid (fun _ _ => rG_avoid _ _ _ _) | exact colF_avoid (fun _ _ => ahR_avoid _ _ _)⟩, ?_⟩)) (fun x_ => by (try simp only [hputs]); (try dsimp only); first | exact fam_hi _ _ _ | exact (putS_hi _ _ x_).trans (fam_hi _ _ _) | ((repeat (first | refine hput_skip (by exact beq_false_of_ne (by omega)) ?_ | refine hrm_skip (by omega) ?_)); exact fam_hi _ _ _)) (F3_avoid (fun _ => rI_avoid _) (fun _ => rI_avoid _) (fun _ => rA_avoid _))), (hP.done hjge), (mu_more (hgr.2.1 hch) hP.wt.le)⟩
  ·
   refine AGo.cond_false false rfl rfl ?_
   have hch : chg (inN x (outN I (O b) x)) (I b) (nw R) = false := hb2
   refine AGo.skip ?_
   exact ⟨⟨(setRow I b (inN x (outN I (O b) x))), (setRow O b (outN I (O b) x)), updB w b false, ws', es⟩, DropK.mk' (by repeat (first | exact EDropK.new _ _ | refine EDropK.put ?_ (by rfl) (by first | rfl))) (famDrop (k0 := 10) rfl (by repeat (first | exact trivial | refine ⟨⟨by first | rfl | exact putS_yes rfl, by first | rfl | exact colF_avoid (fun _ _ => rG_avoid _ _ _ _) | exact colF_avoid (fun _ _ => ahR_avoid _ _ _)⟩, ?_⟩)) (fun x_ => by (try simp only [hputs]); (try dsimp only); first | exact fam_hi _ _ _ | exact (putS_hi _ _ x_).trans (fam_hi _ _ _) | ((repeat (first | refine hput_skip (by exact beq_false_of_ne (by omega)) ?_ | refine hrm_skip (by omega) ?_)); exact fam_hi _ _ _)) (F3_avoid (fun _ => rI_avoid _) (fun _ => rI_avoid _) (fun _ => rA_avoid _))), ⟨by have h := hgr.1; rw [hch] at h; exact h, hpop.1, hQ.st.pop⟩, (mu_less hgr.2.2 (by simp))⟩
 ·
  refine AGo.cond_false false rfl rfl ?_
  have hws : ws = [] := by
    rcases snoc_cases ws with h | ⟨L, b, h⟩
    · exact h
    · have h2 := hb1; rw [h] at h2; simp at h2
  subst hws
  have hK := hQ.k
  have hW := hQ.wt
  refine AGo.exit ?_
  refine AGo.seq ?_
  refine AGo.region ?_
  refine ax 8 (o_alloc tok 10 rfl rfl rfl rfl (Nat.zero_lt_succ _) rfl) ?_
  refine AOps.nil ?_
  refine AGo.seq ?_
  refine AGo.seq ?_
  refine AGo.ghost (Ghost.weakRowF 10 (es' := [[slA 11 [], slA 12 []]]) rfl rfl (weak_one ⟨Wk.nil _, Wk.nil _, trivial⟩)) ?_
  refine AGo.region ?_
  refine af 65 tok ?_
  refine al 66 tok ?_
  refine aq 67 (q_len tok rfl rfl rfl rfl rfl) ?_
  refine am 68 ?_
  refine AOps.nil ?_
  refine AGo.block ?_
  refine AGo.loopK (γ := Nat) (kf 13) (fun k => ⟨103, (eput (eput (eput (eput (eput (eput eNew 1 (.ptr 0 1 0 0)) 2 (.ptr 1 1 0 0)) 3 (.ptr 2 1 0 0)) 8 (.ptr 10 1 0 0)) 67 (.int .i64 (f.blocks.length : Int))) 68 (.int .i64 (k : Int))), (fam (nb [(.row false 2 [f.cells]), (.row false 2 [[.nil, .nil]]), (.row false 8 [SBc f (es).length (0)]), (.row false 1 (colF (rG 0 (nw R)) f.blocks.length)), (.row false 1 (colF (rG 1 (nw R)) f.blocks.length)), (.row true 1 (bC f.blocks.length (w))), (.row true 1 (es)), (.row false 1 (colF (ahR (aheadL f)) f.blocks.length)), (.row true 1 (f.blocks.map (rdC R))), (.row true 1 (f.blocks.map (stC R))), (.row false 2 [[slA 11 (((inRows f).take k).map rowCell), slA 12 (((outRows f).take k).map rowCell)]]), (slO 1 (((inRows f).take k).map rowCell)), (slO 1 (((outRows f).take k).map rowCell))]) (F3 (rI f.blocks.length R I) (rI f.blocks.length R O) (rA f.blocks.length (aheadL f))))⟩) (fun k => k ≤ f.blocks.length) (fun k => f.blocks.length - k) 0 (Sub.mk' (by repeat (first | exact ESub.new _ | refine ESub.put ?_ (by first | rfl | exact congrArg (fun (n : Nat) => some (AV.int .i64 (n : Int))) (by simp)))) (famSub (k0 := 13) rfl (by repeat (first | exact trivial | refine ⟨⟨by rfl, by first | rfl | exact rows2_avoid (by decide) | exact slO_avoid _ _ | exact colF_avoid (fun _ _ => rG_avoid _ _ _ _) | exact colF_avoid (fun _ _ => ahR_avoid _ _ _)⟩, ?_⟩)) (fun x_ => by (try simp only [hputs]); repeat (first | exact fam_hi _ _ _ | refine hput_skip (by exact beq_false_of_ne (by omega)) ?_ | refine hrm_skip (by omega) ?_)) (fun c h1 h2 => by rcases (by omega : c = 13 ∨ c = 14 ∨ c = 15) with rfl | rfl | rfl <;> first | rfl | (try simp only [hputs]; repeat (first | rfl | refine hput_skip (by exact beq_false_of_ne (by omega)) ?_ | refine hrm_skip (by omega) ?_))))) (Nat.zero_le _) (fun g b hb => famFree (k0 := 13) rfl hb) ?_
  intro k hk
  refine AGo.seq ?_
  refine AGo.region ?_
  refine aq 69 (q_bin rfl rfl rfl rfl) ?_
  refine AOps.nil ?_
  refine AGo.seq ?_
  refine AGo.split 69 rfl (fun hb4 => ?_) (fun hb4 => ?_)
  ·
   refine AGo.cond_true true rfl rfl ?_
   have hkl : k < f.blocks.length := by have h := hb4; simp at h; exact h
   obtain ⟨x, hx⟩ := get_of_lt hkl
   have hxm := List.mem_of_getElem? hx
   refine AGo.skip ?_
   refine AGo.seq ?_
   refine AGo.block ?_
   refine AGo.seq ?_
   refine AGo.region ?_
   refine am 70 ?_
   refine aa 9 ?_
   refine AOps.nil ?_
   refine AGo.seq ?_
   refine AGo.draw mix ?_
   refine df 71 tok ?_
   refine dl 72 tok ?_
   refine dm 73 ?_
   refine dq 74 (q_nilCheck rfl rfl rfl) ?_
   refine df 75 tok ?_
   refine dl 76 tok ?_
   refine dm 77 ?_
   refine dq 78 (q_index_ref tok rfl rfl rfl rfl rfl rfl rfl (colF_len _ _).symm rfl (Int.natCast_nonneg _) (by omega)) ?_
   refine dq 79 (q_load tok rfl rfl rfl (.ptr _ _ _ _ _ _ _ [rG 0 (nw R) k] rfl (colF_len _ _).symm (by rw [Nat.zero_add, Int.toNat_natCast]; exact colF_get hkl)) rfl) ?_
   refine df 80 tok ?_
   refine dl 81 tok ?_
   refine dx 82 (o_callSee (q := AObj.row true 1 (rowW R (I k))) (r := boolsAV (inRow f k)) (3 * k + 0 + 16) rfl Try.func53 (by kernel_rfl) rfl rfl (by simp only [List.all_cons, List.all_nil, Bool.and_true]; exact and_both (by show mem _ _ = true; exact mem_one _) rfl) (by (try simp only [hputs]); (repeat (first | refine hput_skip (by exact beq_false_of_ne (by omega)) ?_ | refine hrm_skip (by omega) ?_)); exact (fam_hi _ _ _).trans (congrArg some (rI_0 hkl))) rfl rfl (by have h := rspread_ok (3 * k + 0) R (I k) hR; rw [hK.inRow hs hRt hW hkl] at h; rw [hRf]; exact h)) ?_
   refine dx 83 (o_lit' tok rfl rfl rfl rfl rfl rfl (by decide) rfl rfl rfl rfl rfl rfl) ?_
   refine dx 84 (o_append1J tok (b := 11) (es := ((inRows f).take k).map rowCell) rfl rfl rfl rfl rfl rfl rfl rfl (by (try simp only [hputs]); repeat (first | rfl | exact hput_same _ _ _ | refine hput_skip (by exact beq_false_of_ne (by omega)) ?_ | refine hrm_skip (by omega) ?_ | refine (famW_out _ (fun i_ _ => by first | omega | (dsimp only; omega))).trans ?_)) rfl rfl (Nat.zero_lt_succ _) (one_len fun _ => rfl) (one_pure fun _ => rfl) rfl rfl (by rw [List.length_map, List.length_take]; show (_ + 1) * 24 ≤ _; omega) (by rw [List.length_map, List.length_take]; simp only [maxLen]; omega)) ?_
   refine df 85 tok ?_
   refine DOps.w rfl rfl (o_store1 tok rfl rfl rfl rfl rfl rfl rfl rfl rfl (slA_cells _ _) (by decide) (slA_cell1 _ _) (by intro h; cases h)) ?_
   refine DOps.nilC cls3 [([],[]), ([10],[]), ([],[]), ([],[]), ([],[]), ([2],[]), ([],[]), ([3],[]), ([3],[]), ([],[]), ([0],[]), ([16],[]), ([],[]), ([11],[11]), ([],[]), ([10],[10])] (by repeat (first | exact trivial | refine ⟨(by first | exact cls_nil _ _ | exact (show clsIn cls3 [2] [2] from cls_one (by decide)) | exact (show clsIn cls3 [3] [3] from cls_one (by decide)) | exact (show clsIn cls3 [4] [4] from cls_one (by decide)) | exact (show clsIn cls3 [5] [5] from cls_one (by decide)) | exact (show clsIn cls3 [6] [6] from cls_one (by decide)) | exact (show clsIn cls3 [7] [7] from cls_one (by decide)) | exact (show clsIn cls3 [8] [8] from cls_one (by decide)) | exact (show clsIn cls3 [9] [9] from cls_one (by decide)) | exact (show clsIn cls3 [10] [10] from cls_one (by decide)) | exact (show clsIn cls3 [11] [11] from cls_one (by decide)) | exact (show clsIn cls3 [12] [12] from cls_one (by decide)) | exact (show clsIn cls3 [13] [13] from cls_one (by decide)) | exact (show clsIn cls3 [14] [14] from cls_one (by decide)) | exact (show clsIn cls3 [15] [15] from cls_one (by decide)) | exact cls_one (by decide) | exact cls_two (by decide) (by decide) | exact cls_one (by first | rw [cls3_0]; decide | rw [cls3_1]; decide | rw [cls3_2]; decide)), (by first | exact cls_nil _ _ | exact (show clsIn cls3 [2] [2] from cls_one (by decide)) | exact (show clsIn cls3 [3] [3] from cls_one (by decide)) | exact (show clsIn cls3 [4] [4] from cls_one (by decide)) | exact (show clsIn cls3 [5] [5] from cls_one (by decide)) | exact (show clsIn cls3 [6] [6] from cls_one (by decide)) | exact (show clsIn cls3 [7] [7] from cls_one (by decide)) | exact (show clsIn cls3 [8] [8] from cls_one (by decide)) | exact (show clsIn cls3 [9] [9] from cls_one (by decide)) | exact (show clsIn cls3 [10] [10] from cls_one (by decide)) | exact (show clsIn cls3 [11] [11] from cls_one (by decide)) | exact (show clsIn cls3 [12] [12] from cls_one (by decide)) | exact (show clsIn cls3 [13] [13] from cls_one (by decide)) | exact (show clsIn cls3 [14] [14] from cls_one (by decide)) | exact (show clsIn cls3 [15] [15] from cls_one (by decide)) | exact cls_one (by decide) | exact cls_two (by decide) (by decide) | exact cls_one (by first | rw [cls3_0]; decide | rw [cls3_1]; decide | rw [cls3_2]; decide)), ?_⟩)) (by kernel_rfl) ?_
   refine AGo.draw mix ?_
   refine df 86 tok ?_
   refine dl 87 tok ?_
   refine dm 88 ?_
   refine dq 89 (q_nilCheck rfl rfl rfl) ?_
   refine df 90 tok ?_
   refine dl 91 tok ?_
   refine dm 92 ?_
   refine dq 93 (q_index_ref tok rfl rfl rfl rfl rfl rfl rfl (colF_len _ _).symm rfl (Int.natCast_nonneg _) (by omega)) ?_
   refine dq 94 (q_load tok rfl rfl rfl (.ptr _ _ _ _ _ _ _ [rG 1 (nw R) k] rfl (colF_len _ _).symm (by rw [Nat.zero_add, Int.toNat_natCast]; exact colF_get hkl)) rfl) ?_
   refine df 95 tok ?_
   refine dl 96 tok ?_
   refine dx 97 (o_callSee (q := AObj.row true 1 (rowW R (O k))) (r := boolsAV (outRow f x)) (3 * k + 1 + 16) rfl Try.func53 (by kernel_rfl) rfl rfl (by simp only [List.all_cons, List.all_nil, Bool.and_true]; exact and_both (by show mem _ _ = true; exact mem_one _) rfl) (by (try simp only [hputs]); (repeat (first | refine hput_skip (by exact beq_false_of_ne (by omega)) ?_ | refine hrm_skip (by omega) ?_)); exact (fam_hi _ _ _).trans (congrArg some (rI_1 hkl))) rfl rfl (by have h := rspread_ok (3 * k + 1) R (O k) hR; rw [hK.outRow hs hRt hW hx] at h; rw [hRf]; exact h)) ?_
   refine dx 98 (o_lit' tok rfl rfl rfl rfl rfl rfl (by decide) rfl rfl rfl rfl rfl rfl) ?_
   refine dx 99 (o_append1J tok (b := 12) (es := ((outRows f).take k).map rowCell) rfl rfl rfl rfl rfl rfl rfl rfl (by (try simp only [hputs]); repeat (first | rfl | exact hput_same _ _ _ | refine hput_skip (by exact beq_false_of_ne (by omega)) ?_ | refine hrm_skip (by omega) ?_ | refine (famW_out _ (fun i_ _ => by first | omega | (dsimp only; omega))).trans ?_)) rfl rfl (Nat.zero_lt_succ _) (one_len fun _ => rfl) (one_pure fun _ => rfl) rfl rfl (by rw [List.length_map, List.length_take]; show (_ + 1) * 24 ≤ _; omega) (by rw [List.length_map, List.length_take]; simp only [maxLen]; omega)) ?_
   refine df 100 tok ?_
   refine DOps.w rfl rfl (o_store1 tok rfl rfl rfl rfl rfl rfl rfl rfl rfl (slA_cells _ _) (by decide) (slA_cell1 _ _) (by intro h; cases h)) ?_
   refine DOps.nilC cls3 [([],[]), ([10],[]), ([],[]), ([],[]), ([],[]), ([2],[]), ([],[]), ([4],[]), ([4],[]), ([],[]), ([0],[]), ([17],[]), ([],[]), ([12],[12]), ([],[]), ([10],[10])] (by repeat (first | exact trivial | refine ⟨(by first | exact cls_nil _ _ | exact (show clsIn cls3 [2] [2] from cls_one (by decide)) | exact (show clsIn cls3 [3] [3] from cls_one (by decide)) | exact (show clsIn cls3 [4] [4] from cls_one (by decide)) | exact (show clsIn cls3 [5] [5] from cls_one (by decide)) | exact (show clsIn cls3 [6] [6] from cls_one (by decide)) | exact (show clsIn cls3 [7] [7] from cls_one (by decide)) | exact (show clsIn cls3 [8] [8] from cls_one (by decide)) | exact (show clsIn cls3 [9] [9] from cls_one (by decide)) | exact (show clsIn cls3 [10] [10] from cls_one (by decide)) | exact (show clsIn cls3 [11] [11] from cls_one (by decide)) | exact (show clsIn cls3 [12] [12] from cls_one (by decide)) | exact (show clsIn cls3 [13] [13] from cls_one (by decide)) | exact (show clsIn cls3 [14] [14] from cls_one (by decide)) | exact (show clsIn cls3 [15] [15] from cls_one (by decide)) | exact cls_one (by decide) | exact cls_two (by decide) (by decide) | exact cls_one (by first | rw [cls3_0]; decide | rw [cls3_1]; decide | rw [cls3_2]; decide)), (by first | exact cls_nil _ _ | exact (show clsIn cls3 [2] [2] from cls_one (by decide)) | exact (show clsIn cls3 [3] [3] from cls_one (by decide)) | exact (show clsIn cls3 [4] [4] from cls_one (by decide)) | exact (show clsIn cls3 [5] [5] from cls_one (by decide)) | exact (show clsIn cls3 [6] [6] from cls_one (by decide)) | exact (show clsIn cls3 [7] [7] from cls_one (by decide)) | exact (show clsIn cls3 [8] [8] from cls_one (by decide)) | exact (show clsIn cls3 [9] [9] from cls_one (by decide)) | exact (show clsIn cls3 [10] [10] from cls_one (by decide)) | exact (show clsIn cls3 [11] [11] from cls_one (by decide)) | exact (show clsIn cls3 [12] [12] from cls_one (by decide)) | exact (show clsIn cls3 [13] [13] from cls_one (by decide)) | exact (show clsIn cls3 [14] [14] from cls_one (by decide)) | exact (show clsIn cls3 [15] [15] from cls_one (by decide)) | exact cls_one (by decide) | exact cls_two (by decide) (by decide) | exact cls_one (by first | rw [cls3_0]; decide | rw [cls3_1]; decide | rw [cls3_2]; decide)), ?_⟩)) (by kernel_rfl) ?_
   refine AGo.region ?_
   refine aq 101 (q_inc rfl rfl hkl (by simp only [maxLen]; omega)) ?_
   refine am 68 ?_
   refine AOps.nil ?_
   exact ⟨k+1, DropK.mk' (by repeat (first | exact EDropK.new _ _ | refine EDropK.put ?_ (by rfl) (by first | rfl))) (famDrop (k0 := 13) rfl (by repeat (first | exact trivial | refine ⟨⟨by first | rfl | exact congrArg (fun es => some (slO 1 es)) (row_take_succ (inRows_get hkl)) | exact congrArg (fun es => some (slO 1 es)) (row_take_succ (outRows_get hx)) | (rw [← row_take_succ (inRows_get hkl), ← row_take_succ (outRows_get hx)]; rfl), by first | rfl | exact rows2_avoid (by decide) | exact slO_avoid _ _ | exact colF_avoid (fun _ _ => rG_avoid _ _ _ _) | exact colF_avoid (fun _ _ => ahR_avoid _ _ _)⟩, ?_⟩)) (fun x_ => by (try simp only [hputs]); repeat (first | exact fam_hi _ _ _ | refine hput_skip (by exact beq_false_of_ne (by omega)) ?_ | refine hrm_skip (by omega) ?_)) (F3_avoid (fun _ => rI_avoid _) (fun _ => rI_avoid _) (fun _ => rA_avoid _))), hkl, by omega⟩
  ·
   refine AGo.cond_false false rfl rfl ?_
   have hge : f.blocks.length ≤ k := by have h := hb4; simp at h; omega
   refine AGo.exit ?_
   refine AGo.seq ?_
   have hkn : k = f.blocks.length := by omega
   subst hkn
   refine AGo.ghost (.endCell 10 0 11 rfl rfl rfl (by decide)) ?_
   refine AGo.ghost (.endCell 10 1 12 rfl rfl rfl (by decide)) ?_
   refine AGo.region ?_
   refine al 102 tok ?_
   refine AOps.w rfl rfl (o_store tok rfl rfl rfl rfl rfl rfl rfl rfl rfl (by decide) rfl (by first | exact fun _ => rfl | (intro h; cases h))) ?_
   refine AOps.nil ?_
   refine AGo.ret ?_
   refine ⟨[_], ⟨⟨_, _, _, _, rfl, rfl, .ptr _ _ _ _ _ _ _ _ rfl rfl rfl, rfl⟩, trivial⟩, ?_, rfl⟩
   show AV.agg [AV.lst false _, AV.lst false _] = AV.agg [AV.lst false _, AV.lst false _]
   rw [List.take_of_length_le (by simp [inRows]), List.take_of_length_le (by simp [outRows])]
   rfl

end Go.Proofs.Ytjmjmedjjbginaa.Sv

namespace Go.Proofs.Ytjmjmedjjbginaa.Sv
open Go

set_option maxRecDepth 100000 in
theorem dpush_ok (f : BFunc) (R : Nat) (S : SS) (G : GG) (es : List (List AV)) (len : Nat) (w : Nat → Bool) (b : Nat) (hb : b < R) (hR : R ≤ 100000) (hl : len ≤ es.length) (he : es.length ≤ R) : ACall Try.prog 46 [.ptr 2 1 0 0, .int .i64 (b : Int)] (DH (DSL f R S (es) (len) (w)) (DF f R S G)) (fun r h' => r = .tup [] ∧ HSub (putD hNone (DH (DSL f R S (waitEs w es len b) (waitLen w len b) (updB w b true)) (DF f R S G))) h') := by
 refine ACall.of_body (n := 28) tok Try.func46 rfl rfl ?_
 refine AGo.seq ?_
 refine AGo.region ?_
 refine am 4 ?_
 refine aq 5 (q_nilCheck rfl rfl rfl) ?_
 refine af 6 tok ?_
 refine al 7 tok ?_
 refine am 8 ?_
 refine aq 9 (q_index_ref tok rfl rfl rfl rfl rfl rfl rfl (colF_len _ _).symm rfl (Int.natCast_nonneg _) (by omega)) ?_
 refine aq 10 (q_load tok rfl rfl rfl (.ptr _ _ _ _ _ _ _ [.bool (w b)] rfl (colF_len _ _).symm (by rw [Nat.zero_add, Int.toNat_natCast]; exact colF_get hb)) rfl) ?_
 refine aq 11 (q_not rfl rfl) ?_
 refine AOps.nil ?_
 refine AGo.split 11 rfl (fun hb1 => ?_) (fun hb1 => ?_)
 ·
  refine AGo.cond_true true rfl rfl ?_
  have hwb : w b = false := by have h := hb1; simpa using h
  refine AGo.seq ?_
  refine AGo.region ?_
  refine am 12 ?_
  refine aq 13 (q_nilCheck rfl rfl rfl) ?_
  refine af 14 tok ?_
  refine al 15 tok ?_
  refine am 16 ?_
  refine aq 17 (q_index_ref tok rfl rfl rfl rfl rfl rfl rfl (colF_len _ _).symm rfl (Int.natCast_nonneg _) (by omega)) ?_
  refine AOps.w rfl rfl (o_store tok rfl rfl rfl rfl rfl rfl (colF_len _ _).symm (by rw [Nat.zero_add, Int.toNat_natCast]; exact colF_get hb) rfl (by decide) rfl (by first | exact fun _ => rfl | (intro h; cases h))) ?_
  refine AOps.nil ?_
  refine AGo.region ?_
  refine am 18 ?_
  refine am 19 ?_
  refine aq 20 (q_nilCheck rfl rfl rfl) ?_
  refine af 21 tok ?_
  refine al 22 tok ?_
  refine am 23 ?_
  refine ax 24 (o_lit' tok rfl rfl rfl rfl rfl rfl (by decide) rfl rfl rfl rfl rfl rfl) ?_
  refine ax 25 (o_push tok (es := es) rfl rfl rfl rfl rfl rfl rfl rfl rfl rfl hl rfl rfl (Nat.zero_lt_succ _) (.lst _ _) rfl (fun _ => rfl) (by show _ * 8 ≤ _; omega) (by simp only [maxLen]; omega)) ?_
  refine aq 26 (q_nilCheck rfl rfl rfl) ?_
  refine af 27 tok ?_
  refine AOps.w rfl rfl (o_store tok rfl rfl rfl rfl rfl rfl rfl rfl rfl (by decide) rfl (by first | exact fun _ => rfl | (intro h; cases h))) ?_
  refine AOps.nil ?_
  have e1 : waitEs w es len b = pushE es len (natC b) := by unfold waitEs; rw [hwb]; rfl
  have e2 : waitLen w len b = len + 1 := by unfold waitLen; rw [hwb]; rfl
  rw [e1, e2]
  exact ⟨[], trivial, rfl, (dh_sub rfl (by repeat (first | exact trivial | refine ⟨by first | rfl | exact congrArg (fun es => some (AObj.row true 1 es)) (bC_set' true), ?_⟩)) (fun x_ => by (try simp only [hputs]); (try dsimp only); first | exact fam_hi _ _ _ | exact (putD_hi _ _ x_).trans (fam_hi _ _ _) | ((repeat (first | refine hput_skip (by exact beq_false_of_ne (by omega)) ?_ | refine hrm_skip (by omega) ?_)); exact fam_hi _ _ _)))⟩
 ·
  refine AGo.cond_false false rfl rfl ?_
  have hwb : w b = true := by have h := hb1; simpa using h
  refine AGo.skip ?_
  have e1 : waitEs w es len b = es := by unfold waitEs; rw [hwb]; rfl
  have e2 : waitLen w len b = len := by unfold waitLen; rw [hwb]; rfl
  rw [e1, e2, updB_self hwb]
  exact ⟨[], trivial, rfl, (dh_sub rfl (by repeat (first | exact trivial | refine ⟨by rfl, ?_⟩)) (fun x_ => by (try simp only [hputs]); (try dsimp only); first | exact fam_hi _ _ _ | exact (putD_hi _ _ x_).trans (fam_hi _ _ _) | ((repeat (first | refine hput_skip (by exact beq_false_of_ne (by omega)) ?_ | refine hrm_skip (by omega) ?_)); exact fam_hi _ _ _)))⟩

end Go.Proofs.Ytjmjmedjjbginaa.Sv

namespace Go.Proofs.Ytjmjmedjjbginaa.Sv
open Go

set_option maxRecDepth 100000 in
theorem dleft_ok (f : BFunc) (R : Nat) (S : SS) (G : GG) (es : List (List AV)) (len : Nat) (w : Nat → Bool) (b : Nat) (x : Block) (hx : f.blocks[b]? = some x) (s : Site) (hat : s.at_ ≤ x.ins.length) : ACall Try.prog 48 [.ptr 2 1 0 0, .int .i64 (b : Int), .agg (siC s)] (DH (DSL f R S (es) (len) (w)) (DF f R S G)) (fun r h' => r = .bool (leftS (G b) x.ins.length s) ∧ HSub (putD hNone (DH (DSL f R S (es) (len) (w)) (DF f R S G))) h') := by
 have hb : b < f.blocks.length := (List.getElem?_eq_some_iff.1 hx).1
 refine ACall.of_body (n := 34) tok Try.func48 rfl rfl ?_
 refine AGo.seq ?_
 refine AGo.region ?_
 refine ax 5 (o_box (sz := 3) 8 rfl rfl rfl rfl (Nat.zero_lt_succ _) rfl) ?_
 refine aa 6 ?_
 refine AOps.nil ?_
 refine AGo.seq ?_
 refine AGo.draw mix ?_
 refine df 7 tok ?_
 refine dl 8 tok ?_
 refine dm 9 ?_
 refine dq 10 (q_nilCheck rfl rfl rfl) ?_
 refine df 11 tok ?_
 refine df 12 tok ?_
 refine dl 13 tok ?_
 refine dm 14 ?_
 refine dq 15 (q_index_lst tok rfl rfl rfl rfl rfl rfl (Int.natCast_nonneg _) (idx_map hx) rfl) ?_
 refine df 16 tok ?_
 refine dl 17 tok ?_
 refine dq 18 (q_len tok rfl rfl rfl rfl rfl) ?_
 refine dq 19 (q_bin rfl rfl rfl rfl) ?_
 refine dm 20 ?_
 refine DOps.split 20 rfl (fun hb1 => ?_) (fun hb1 => ?_)
 ·
  refine dk 21 ?_
  refine dk 22 ?_
  refine dk 23 ?_
  refine dk 24 ?_
  refine dk 25 ?_
  refine dk 26 ?_
  refine dk 27 ?_
  refine dk 28 ?_
  refine dk 29 ?_
  refine dk 30 ?_
  refine dk 31 ?_
  refine dk 32 ?_
  refine dq 33 (q_pick_true true rfl rfl rfl rfl) ?_
  refine da 6 ?_
  refine DOps.nil (by kernel_rfl) ?_
  refine AGo.ret ?_
  refine ⟨[_], ⟨rfl, trivial⟩, ?_, (dh_sub rfl (by repeat (first | exact trivial | refine ⟨by first | rfl | exact hput_same _ _ _ | ((try simp only [hputs]); repeat (first | rfl | exact hput_same _ _ _ | refine hput_skip (by exact beq_false_of_ne (by omega)) ?_ | refine hrm_skip (by omega) ?_ | refine (famW_out _ (fun i_ _ => by first | omega | (dsimp only; omega))).trans ?_)), ?_⟩)) (fun x_ => by (try simp only [hputs]); (try dsimp only); first | exact fam_hi _ _ _ | exact (putD_hi _ _ x_).trans (fam_hi _ _ _) | ((repeat (first | refine hput_skip (by exact beq_false_of_ne (by omega)) ?_ | refine hrm_skip (by omega) ?_)); exact fam_hi _ _ _)))⟩
  show AV.bool _ = AV.bool _
  congr 1
  unfold leftS
  first | exact left_no hne | exact left_yes (by have h := hb1; simp at h; omega)
 ·
  have hc0 := hb1
  have hne : ¬ s.at_ = x.ins.length := by have h := hc0; simp at h; omega
  refine dm 21 ?_
  refine dq 22 (q_nilCheck rfl rfl rfl) ?_
  refine df 23 tok ?_
  refine dl 24 tok ?_
  refine dm 25 ?_
  refine dq 26 (q_index_ref tok rfl rfl rfl rfl rfl rfl rfl (colF_len _ _).symm rfl (Int.natCast_nonneg _) (by omega)) ?_
  refine dq 27 (q_load tok rfl rfl rfl (.ptr _ _ _ _ _ _ _ [gR f b] rfl (colF_len _ _).symm (by rw [Nat.zero_add, Int.toNat_natCast]; exact colF_get hb)) rfl) ?_
  refine df 28 tok ?_
  refine dl 29 tok ?_
  refine dq 30 (q_index_ref tok rfl rfl rfl rfl rfl rfl (by (try simp only [hputs]); (repeat (first | refine hput_skip (by exact beq_false_of_ne (by omega)) ?_ | refine hrm_skip (by omega) ?_)); exact (fam_hi _ _ _).trans (congrArg some (rG4_at hb hx))) (by rw [colF_len, insLen_eq hx]) rfl (Int.natCast_nonneg _) (by rw [insLen_eq hx]; omega)) ?_
  refine dq 31 (q_load tok rfl rfl rfl (.ptr _ _ _ _ true 1 (bC x.ins.length (G b)) [.bool (G b s.at_)] (by (try simp only [hputs]); (repeat (first | refine hput_skip (by exact beq_false_of_ne (by omega)) ?_ | refine hrm_skip (by omega) ?_)); exact (fam_hi _ _ _).trans (congrArg some (rG4_at hb hx))) (by rw [colF_len, insLen_eq hx]) (by rw [Nat.zero_add, Int.toNat_natCast]; exact colF_get (by omega))) rfl) ?_
  refine dq 32 (q_not rfl rfl) ?_
  refine dq 33 (q_pick_false false rfl rfl rfl rfl) ?_
  refine da 6 ?_
  refine DOps.nil (by kernel_rfl) ?_
  refine AGo.ret ?_
  refine ⟨[_], ⟨rfl, trivial⟩, ?_, (dh_sub rfl (by repeat (first | exact trivial | refine ⟨by first | rfl | exact hput_same _ _ _ | ((try simp only [hputs]); repeat (first | rfl | exact hput_same _ _ _ | refine hput_skip (by exact beq_false_of_ne (by omega)) ?_ | refine hrm_skip (by omega) ?_ | refine (famW_out _ (fun i_ _ => by first | omega | (dsimp only; omega))).trans ?_)), ?_⟩)) (fun x_ => by (try simp only [hputs]); (try dsimp only); first | exact fam_hi _ _ _ | exact (putD_hi _ _ x_).trans (fam_hi _ _ _) | ((repeat (first | refine hput_skip (by exact beq_false_of_ne (by omega)) ?_ | refine hrm_skip (by omega) ?_)); exact fam_hi _ _ _)))⟩
  show AV.bool _ = AV.bool _
  congr 1
  unfold leftS
  first | exact left_no hne | exact left_yes (by have h := hb1; simp at h; omega)

end Go.Proofs.Ytjmjmedjjbginaa.Sv

namespace Go.Proofs.Ytjmjmedjjbginaa.Sv
open Go

set_option maxHeartbeats 1000000 in
set_option maxRecDepth 100000 in
theorem dleave_ok (f : BFunc) (R : Nat) (S : SS) (G : GG) (es : List (List AV)) (ws : List Nat) (w : Nat → Bool) (b p : Nat) (x : Block) (hx : f.blocks[b]? = some x) (hp : p < x.ins.length) (t : Tac) (ht : ∀ u ∈ t.uses, 0 ≤ u ∧ u < R) (hR : R ≤ 100000) (hq : QI R ⟨G, w, ws, es⟩) : ACall Try.prog 49 [.ptr 2 1 0 0, .int .i64 (b : Int), .int .i64 (p : Int), .agg t.cells] (DH (DSL f R S (es) (ws.length) (w)) (DF f R S G)) (fun r h' => r = .tup [] ∧ HSub (putD hNone (DH (DSL f R S (leaveR b p t.uses ⟨G, w, ws, es⟩).es (leaveR b p t.uses ⟨G, w, ws, es⟩).ws.length (leaveR b p t.uses ⟨G, w, ws, es⟩).w) (DF f R S (leaveR b p t.uses ⟨G, w, ws, es⟩).G))) h') := by
 have hb : b < f.blocks.length := (List.getElem?_eq_some_iff.1 hx).1
 refine ACall.of_body (n := 30) tok Try.func49 rfl rfl ?_
 refine AGo.seq ?_
 refine AGo.region ?_
 refine ax 7 (o_box (sz := 8) 0 rfl rfl rfl rfl (Nat.zero_lt_succ _) rfl) ?_
 refine AOps.nil ?_
 refine AGo.seq ?_
 refine AGo.region ?_
 refine am 10 ?_
 refine aq 11 (q_nilCheck rfl rfl rfl) ?_
 refine af 12 tok ?_
 refine al 13 tok ?_
 refine am 14 ?_
 refine aq 15 (q_index_ref tok rfl rfl rfl rfl rfl rfl rfl (colF_len _ _).symm rfl (Int.natCast_nonneg _) (by omega)) ?_
 refine aq 16 (q_load tok rfl rfl rfl (.ptr _ _ _ _ _ _ _ [gR f b] rfl (colF_len _ _).symm (by rw [Nat.zero_add, Int.toNat_natCast]; exact colF_get hb)) rfl) ?_
 refine am 17 ?_
 refine aq 18 (q_index_ref tok rfl rfl rfl rfl rfl rfl (by (try simp only [hputs]); (repeat (first | refine hput_skip (by exact beq_false_of_ne (by omega)) ?_ | refine hrm_skip (by omega) ?_)); exact (fam_hi _ _ _).trans (congrArg some (rG4_at hb hx))) (by rw [colF_len, insLen_eq hx]) rfl (Int.natCast_nonneg _) (by rw [insLen_eq hx]; omega)) ?_
 refine AOps.w rfl rfl (o_store tok (es := bC x.ins.length (G b)) (cs := [.bool (G b p)]) rfl rfl rfl rfl rfl (by (try simp only [hputs]); (repeat (first | refine hput_skip (by exact beq_false_of_ne (by omega)) ?_ | refine hrm_skip (by omega) ?_)); exact (fam_hi _ _ _).trans (congrArg some (rG4_at hb hx))) (by rw [colF_len, insLen_eq hx]) (by rw [Nat.zero_add, Int.toNat_natCast]; exact colF_get hp) rfl (by decide) rfl (fun _ => rfl)) ?_
 refine AOps.nil ?_
 refine AGo.seq ?_
 refine AGo.region ?_
 refine al 19 tok ?_
 refine ax 20 (o_pure rfl Try.func43 (by kernel_rfl) rfl rfl rfl (bUses_ok _)) ?_
 refine aq 21 (q_len tok rfl rfl rfl rfl rfl) ?_
 refine am 22 ?_
 refine AOps.nil ?_
 refine AGo.block ?_
 refine AGo.loopK (γ := Nat) (kf 8) (fun k => ⟨30, (eput (eput (eput (eput eNew 0 (.ptr 2 1 0 0)) 20 (intsAV t.uses)) 21 (.int .i64 (t.uses.length : Int))) 22 (.int .i64 (k : Int))), (fam (nb [(.row false 8 [t.cells]), .free, (.row false 8 [SDc f R (((t.uses.take k).foldl (fun st u => pushR st u.toNat) (⟨putG G b p, w, ws, es⟩ : RS)).es).length (((t.uses.take k).foldl (fun st u => pushR st u.toNat) (⟨putG G b p, w, ws, es⟩ : RS)).ws.length)]), (.row false 1 (colF (aR (aheadL f)) f.blocks.length)), (.row false 1 (colF (oR f.blocks.length R S) R)), (.row false 1 (colF (gR f) f.blocks.length)), (.row true 1 (((t.uses.take k).foldl (fun st u => pushR st u.toNat) (⟨putG G b p, w, ws, es⟩ : RS)).es)), (.row true 1 (bC R (((t.uses.take k).foldl (fun st u => pushR st u.toNat) (⟨putG G b p, w, ws, es⟩ : RS)).w)))]) (DF f R S (putG G b p)))⟩) (fun k => QI R ((t.uses.take k).foldl (fun st u => pushR st u.toNat) (⟨putG G b p, w, ws, es⟩ : RS)) ∧ k ≤ t.uses.length) (fun k => t.uses.length - k) 0 (Sub.mk' (by repeat (first | exact ESub.new _ | refine ESub.put ?_ (by first | rfl | exact congrArg (fun (n : Nat) => some (AV.int .i64 (n : Int))) (by simp)))) (famSub (k0 := 8) rfl (by repeat (first | exact trivial | refine ⟨⟨by rfl, by first | rfl | exact colF_avoid (fun _ _ => aR_avoid (kf_hi' _) _ _) | exact colF_avoid (fun _ _ => oR_avoid (kf_hi' _) _ _ _ _) | exact colF_avoid (fun _ _ => gR_avoid (kf_hi' _) _ _)⟩, ?_⟩)) (fun x_ => by (try simp only [hputs]); (repeat (first | refine hput_skip (by exact beq_false_of_ne (by omega)) ?_ | refine hrm_skip (by omega) ?_)); exact (hput_hi (fun y_ => by (try simp only [hputs]); repeat (first | exact fam_hi _ _ _ | refine hput_skip (by exact beq_false_of_ne (by omega)) ?_ | refine hrm_skip (by omega) ?_)) _ _ x_).trans (congrArg some (DF_put hb hx x_).symm)) (fun c h1 h2 => by rcases (by omega : c = 8 ∨ c = 9 ∨ c = 10 ∨ c = 11 ∨ c = 12 ∨ c = 13 ∨ c = 14 ∨ c = 15) with rfl | rfl | rfl | rfl | rfl | rfl | rfl | rfl <;> first | rfl | (try simp only [hputs]; repeat (first | rfl | refine hput_skip (by exact beq_false_of_ne (by omega)) ?_ | refine hrm_skip (by omega) ?_))))) ⟨⟨hq.wt, hq.st⟩, Nat.zero_le _⟩ (fun g b hb => famFree (k0 := 8) rfl hb) ?_
 intro k hQ
 generalize hqe : ((t.uses.take k).foldl (fun st u => pushR st u.toNat) (⟨putG G b p, w, ws, es⟩ : RS)) = q at hQ ⊢
 refine AGo.seq ?_
 refine AGo.region ?_
 refine aq 23 (q_bin rfl rfl rfl rfl) ?_
 refine AOps.nil ?_
 refine AGo.seq ?_
 refine AGo.split 23 rfl (fun hb1 => ?_) (fun hb1 => ?_)
 ·
  refine AGo.cond_true true rfl rfl ?_
  have hkl : k < t.uses.length := by have h := hb1; simp [intsAV] at h; exact h
  obtain ⟨u, hu⟩ := get_of_lt hkl
  have hub := ht u (List.mem_of_getElem? hu)
  refine AGo.skip ?_
  refine AGo.seq ?_
  refine AGo.block ?_
  refine AGo.seq ?_
  refine AGo.region ?_
  refine aq 24 (q_index_lst tok rfl rfl rfl rfl rfl rfl (Int.natCast_nonneg _) (idx_map hu) rfl) ?_
  refine al 25 tok ?_
  refine aa 9 ?_
  refine AOps.nil ?_
  refine AGo.region ?_
  refine am 26 ?_
  refine am 27 ?_
  refine AOps.call 28 (hn := putD _ (DH (DSL f R S (waitEs q.w q.es q.ws.length u.toNat) ((waitL q.w q.ws u.toNat).length) (waitW q.w u.toNat)) (DF f R S (putG G b p)))) (r := .tup []) rfl rfl rfl (o_callDH (DSL f R S (q.es) (q.ws.length) (q.w)) (DSL f R S (waitEs q.w q.es q.ws.length u.toNat) ((waitL q.w q.ws u.toNat).length) (waitW q.w u.toNat)) (DF f R S (putG G b p)) rfl Try.func46 (by kernel_rfl) rfl rfl rfl rfl rfl (DSL_avoid _ _ _ _ _ _) (DSL_avoid _ _ _ _ _ _) (by repeat (first | exact trivial | refine ⟨by first | rfl | exact putD_yes rfl, ?_⟩)) (fun x_ => by (try simp only [hputs]); (try dsimp only); first | exact fam_hi _ _ _ | exact (putD_hi _ _ x_).trans (fam_hi _ _ _) | ((repeat (first | refine hput_skip (by exact beq_false_of_ne (by omega)) ?_ | refine hrm_skip (by omega) ?_)); exact fam_hi _ _ _)) (DF_avoid kD_hi f R _ _) (DF_avoid kD_hi f R _ _) rfl (by have h := dpush_ok f R S (putG G b p) q.es q.ws.length q.w u.toNat (by omega) hR hQ.1.st.le hQ.1.st.max; rw [waitLen_eq, Int.toNat_of_nonneg hub.1] at h; exact h)) ?_
  refine AOps.nil ?_
  refine AGo.region ?_
  refine aq 29 (q_inc rfl rfl hkl (by have := uses_len t; simp only [maxLen]; omega)) ?_
  refine am 22 ?_
  refine AOps.nil ?_
  exact ⟨k+1, DropK.mk' (by repeat (first | exact EDropK.new _ _ | refine EDropK.put ?_ (by rfl) (by first | rfl))) (famDrop (k0 := 8) rfl (by repeat (first | exact trivial | refine ⟨⟨by first | rfl | exact putD_yes rfl | (rw [pushes_succ hu, hqe]; first | rfl | exact putD_yes rfl), by first | rfl | exact colF_avoid (fun _ _ => aR_avoid (kf_hi' _) _ _) | exact colF_avoid (fun _ _ => oR_avoid (kf_hi' _) _ _ _ _) | exact colF_avoid (fun _ _ => gR_avoid (kf_hi' _) _ _)⟩, ?_⟩)) (fun x_ => by (try simp only [hputs]); (try dsimp only); first | exact fam_hi _ _ _ | exact (putD_hi _ _ x_).trans (fam_hi _ _ _) | ((repeat (first | refine hput_skip (by exact beq_false_of_ne (by omega)) ?_ | refine hrm_skip (by omega) ?_)); exact fam_hi _ _ _)) (DF_avoid (kf_hi' _) f R _ _)), ⟨by rw [pushes_succ hu, hqe]; exact hQ.1.push (by omega), hkl⟩, by omega⟩
 ·
  refine AGo.cond_false false rfl rfl ?_
  have hge : t.uses.length ≤ k := by have h := hb1; simp [intsAV] at h; omega
  refine AGo.exit ?_
  have hk : k = t.uses.length := by omega
  subst hk
  rw [List.take_length] at hqe
  have e1 : leaveR b p t.uses ⟨G, w, ws, es⟩ = q := hqe
  have e2 : q.G = putG G b p := by rw [← e1]; exact leave_G _ _ _ _
  rw [e1, e2]
  exact ⟨[], trivial, rfl, (dh_sub rfl (by repeat (first | exact trivial | refine ⟨by rfl, ?_⟩)) (fun x_ => by (try simp only [hputs]); (try dsimp only); first | exact fam_hi _ _ _ | exact (putD_hi _ _ x_).trans (fam_hi _ _ _) | ((repeat (first | refine hput_skip (by exact beq_false_of_ne (by omega)) ?_ | refine hrm_skip (by omega) ?_)); exact fam_hi _ _ _)))⟩

end Go.Proofs.Ytjmjmedjjbginaa.Sv

namespace Go.Proofs.Ytjmjmedjjbginaa.Sv
open Go

set_option maxHeartbeats 2000000 in
set_option maxRecDepth 100000 in
theorem dmatters_ok (f : BFunc) (hs : f.sane) (R : Nat) (G : GG) (es : List (List AV)) (len : Nat) (w : Nat → Bool) (v : Nat) (hv : v < R) (hn : f.blocks.length ≤ 100000) (hR : R ≤ 100000) (hi : ∀ x ∈ f.blocks, x.ins.length ≤ 100000) : ACall Try.prog 47 [.ptr 2 1 0 0, .int .i64 (v : Int)] (DH (DSL f R (SB f) (es) (len) (w)) (DF f R (SB f) G)) (fun r h' => r = boolsAV (mrow f.blocks.length (fun b => inB (cutF f G) v b)) ∧ HSub (putD hNone (DH (DSL f R (SB f) (es) (len) (w)) (DF f R (SB f) G))) h') := by
 refine ACall.of_body (n := 122) tok Try.func47 rfl rfl ?_
 refine AGo.seq ?_
 refine AGo.region ?_
 refine aa 4 ?_
 refine AOps.nil ?_
 refine AGo.seq ?_
 refine AGo.region ?_
 refine am 15 ?_
 refine aq 16 (q_nilCheck rfl rfl rfl) ?_
 refine af 17 tok ?_
 refine af 18 tok ?_
 refine al 19 tok ?_
 refine aq 20 (q_len tok rfl rfl rfl rfl rfl) ?_
 refine ax 21 (o_makeSlice tok (n := f.blocks.length) (m := f.blocks.length) 0 true rfl rfl rfl ((by simp)) ((by simp)) rfl rfl rfl rfl rfl (Nat.zero_lt_succ _) rfl (Nat.le_refl _) (by show 8 * f.blocks.length ≤ _; omega) (by simp only [maxLen]; omega)) ?_
 refine aa 5 ?_
 refine AOps.nil ?_
 refine AGo.seq ?_
 refine AGo.region ?_
 refine am 22 ?_
 refine aq 23 (q_nilCheck rfl rfl rfl) ?_
 refine af 24 tok ?_
 refine af 25 tok ?_
 refine al 26 tok ?_
 refine aq 27 (q_len tok rfl rfl rfl rfl rfl) ?_
 refine ax 28 (o_makeSlice tok (n := f.blocks.length) (m := f.blocks.length) 1 true rfl rfl rfl ((by simp)) ((by simp)) rfl rfl rfl rfl rfl (Nat.zero_lt_succ _) rfl (Nat.le_refl _) (by show 1 * f.blocks.length ≤ _; omega) (by simp only [maxLen]; omega)) ?_
 refine aa 6 ?_
 refine AOps.nil ?_
 refine AGo.seq ?_
 refine AGo.region ?_
 refine aa 7 ?_
 refine AOps.nil ?_
 refine AGo.seq ?_
 refine AGo.seq ?_
 refine AGo.ghost (.dry 7 8 1 true rfl rfl rfl (by decide)) ?_
 refine AGo.region ?_
 refine am 29 ?_
 refine aq 30 (q_nilCheck rfl rfl rfl) ?_
 refine af 31 tok ?_
 refine al 32 tok ?_
 refine am 33 ?_
 refine aq 34 (q_index_ref tok rfl rfl rfl rfl rfl rfl (by (try simp only [hputs]); repeat (first | rfl | exact hput_same _ _ _ | refine hput_skip (by exact beq_false_of_ne (by omega)) ?_ | refine hrm_skip (by omega) ?_ | refine (famW_out _ (fun i_ _ => by first | omega | (dsimp only; omega))).trans ?_)) (colF_len _ _).symm rfl (Int.natCast_nonneg _) (by omega)) ?_
 refine aq 35 (q_load tok rfl rfl rfl (.ptr _ _ _ _ _ _ _ [oR f.blocks.length R (SB f) v] (by (try simp only [hputs]); repeat (first | rfl | exact hput_same _ _ _ | refine hput_skip (by exact beq_false_of_ne (by omega)) ?_ | refine hrm_skip (by omega) ?_ | refine (famW_out _ (fun i_ _ => by first | omega | (dsimp only; omega))).trans ?_)) (colF_len _ _).symm (by rw [Nat.zero_add, Int.toNat_natCast]; exact colF_get hv)) rfl) ?_
 refine aq 36 (q_lenJ tok rfl rfl rfl rfl) ?_
 refine am 37 ?_
 refine AOps.nil ?_
 refine AGo.block ?_
 refine AGo.loopK (γ := Nat × List (List AV)) (kf 9) (fun q => ⟨122, (eput (eput (eput (eput (eput (eput (eput (eput eNew 0 (.ptr 2 1 0 0)) 1 (.int .i64 (v : Int))) 5 (.ref 0 f.blocks.length 0 f.blocks.length)) 6 (.ref 1 f.blocks.length 0 f.blocks.length)) 7 (.ref 8 q.2.length 0 (todoK f G v q.1).length)) 35 (oR f.blocks.length R (SB f) v)) 36 (.int .i64 ((grs f.blocks.length R (SB f) v).length : Int))) 37 (.int .i64 (q.1 : Int))), (fam (nb [(.row true 1 (iC f.blocks.length (fstK f G v q.1))), (.row true 1 (bC f.blocks.length (inK f G v q.1))), (.row false 8 [SDc f R (es).length (len)]), (.row false 1 (colF (aR (aheadL f)) f.blocks.length)), (.row false 1 (colF (oR f.blocks.length R (SB f)) R)), (.row false 1 (colF (gR f) f.blocks.length)), (.row true 1 (es)), (.row true 1 (bC R (w))), (.row true 1 q.2)]) (DF f R (SB f) G))⟩) (fun q => q.1 ≤ (gsB f v).length ∧ StackI f.blocks.length q.2 (todoK f G v q.1)) (fun q => (gsB f v).length - q.1) (0, []) (Sub.mk' (by repeat (first | exact ESub.new _ | refine ESub.put ?_ (by first | rfl))) (famSub (k0 := 9) rfl (by repeat (first | exact trivial | refine ⟨⟨by first | rfl | exact congrArg (fun es => some (AObj.row true 1 es)) ((colF_rep _ _).trans (by rw [fstK_zero]; rfl)) | exact congrArg (fun es => some (AObj.row true 1 es)) ((colF_rep _ _).trans (by unfold inK; rw [fstK_zero]; rfl)) | ((try simp only [hputs]); repeat (first | rfl | exact hput_same _ _ _ | refine hput_skip (by exact beq_false_of_ne (by omega)) ?_ | refine hrm_skip (by omega) ?_ | refine (famW_out _ (fun i_ _ => by first | omega | (dsimp only; omega))).trans ?_)), by first | rfl | exact colF_avoid (fun _ _ => aR_avoid (kf_hi' _) _ _) | exact colF_avoid (fun _ _ => oR_avoid (kf_hi' _) _ _ _ _) | exact colF_avoid (fun _ _ => gR_avoid (kf_hi' _) _ _) | exact gb_avoid _⟩, ?_⟩)) (fun x_ => by (try simp only [hputs]); repeat (first | exact fam_hi _ _ _ | refine hput_skip (by exact beq_false_of_ne (by omega)) ?_ | refine hrm_skip (by omega) ?_)) (fun c h1 h2 => by rcases (by omega : c = 9 ∨ c = 10 ∨ c = 11 ∨ c = 12 ∨ c = 13 ∨ c = 14 ∨ c = 15) with rfl | rfl | rfl | rfl | rfl | rfl | rfl <;> first | rfl | (try simp only [hputs]; repeat (first | rfl | refine hput_skip (by exact beq_false_of_ne (by omega)) ?_ | refine hrm_skip (by omega) ?_))))) ⟨Nat.zero_le _, by unfold todoK; exact StackI.none _⟩ (fun g b hb => famFree (k0 := 9) rfl hb) ?_
 intro q hq
 refine AGo.seq ?_
 refine AGo.region ?_
 refine aq 38 (q_bin rfl rfl rfl rfl) ?_
 refine AOps.nil ?_
 refine AGo.seq ?_
 refine AGo.split 38 rfl (fun hb1 => ?_) (fun hb1 => ?_)
 ·
  refine AGo.cond_true true rfl rfl ?_
  have hkl : q.1 < (gsB f v).length := by have h := hb1; rw [grs_len] at h; simp only [decide_eq_true_eq] at h; exact Int.ofNat_lt.1 h
  obtain ⟨i, hgi⟩ := get_of_lt hkl
  have hig : i < f.blocks.length ∧ 0 < (SB f i v).length := gsS_get (S := SB f) hgi
  obtain ⟨x, hx⟩ := get_of_lt hig.1
  refine AGo.skip ?_
  refine AGo.seq ?_
  refine AGo.block ?_
  refine AGo.seq ?_
  refine AGo.region ?_
  refine aq 39 (q_indexP tok rfl rfl rfl rfl rfl rfl ((fam_hi _ _ _).trans (congrArg some (DF_grp hv))) rfl (Int.natCast_nonneg _) (by rw [grs_len]; exact Int.ofNat_lt.2 hkl)) ?_
  refine aq 40 (q_load tok rfl rfl rfl (.ptr _ _ _ _ false 2 (grs f.blocks.length R (SB f) v) (grC R (SB f) v i) ((fam_hi _ _ _).trans (congrArg some ((DF_grp hv).trans (slP_at (k := q.1) (by rw [grs_len]; exact hkl))))) rfl (by rw [Int.toNat_natCast]; show ((gsB f v).map (grC R (SB f) v))[_]? = _; rw [List.getElem?_map, hgi]; rfl)) rfl) ?_
  refine ax 9 (o_alloc tok 9 rfl rfl (by (try simp only [hputs]); repeat (first | rfl | exact hput_same _ _ _ | refine hput_skip (by exact beq_false_of_ne (by omega)) ?_ | refine hrm_skip (by omega) ?_ | refine (famW_out _ (fun i_ _ => by first | omega | (dsimp only; omega))).trans ?_)) rfl (Nat.zero_lt_succ _) rfl) ?_
  refine AOps.w rfl rfl (o_store tok rfl rfl rfl rfl rfl rfl rfl rfl rfl (by decide) rfl (by first | exact fun _ => rfl | (intro h; cases h))) ?_
  refine AOps.nil ?_
  refine AGo.seq ?_
  refine AGo.region ?_
  refine af 41 tok ?_
  refine al 42 tok ?_
  refine aq 43 (q_len tok rfl rfl rfl rfl rfl) ?_
  refine am 44 ?_
  refine AOps.nil ?_
  refine AGo.block ?_
  refine AGo.loopK (γ := Nat) (kf 10) (fun j => ⟨122, (eput (eput (eput (eput (eput (eput (eput (eput (eput (eput (eput (eput eNew 0 (.ptr 2 1 0 0)) 1 (.int .i64 (v : Int))) 5 (.ref 0 f.blocks.length 0 f.blocks.length)) 6 (.ref 1 f.blocks.length 0 f.blocks.length)) 7 (.ref 8 q.2.length 0 (todoK f G v q.1).length)) 35 (oR f.blocks.length R (SB f) v)) 36 (.int .i64 ((grs f.blocks.length R (SB f) v).length : Int))) 37 (.int .i64 (q.1 : Int))) 9 (.ptr 9 1 0 0)) 42 (.ref (4 * (v + R * i) + 3 + 16) (siB f v i).length 0 (siB f v i).length)) 43 (.int .i64 ((siB f v i).length : Int))) 44 (.int .i64 (j : Int))), (fam (nb [(.row true 1 (iC f.blocks.length (fstK f G v q.1))), (.row true 1 (bC f.blocks.length (inK f G v q.1))), (.row false 8 [SDc f R (es).length (len)]), (.row false 1 (colF (aR (aheadL f)) f.blocks.length)), (.row false 1 (colF (oR f.blocks.length R (SB f)) R)), (.row false 1 (colF (gR f) f.blocks.length)), (.row true 1 (es)), (.row true 1 (bC R (w))), (.row true 1 q.2), (.row false 2 [grC R (SB f) v i])]) (DF f R (SB f) G))⟩) (fun j => firstS (G i) x.ins.length ((siB f v i).drop j) = firstG f G v i ∧ j ≤ (siB f v i).length) (fun j => (siB f v i).length - j) 0 (Sub.mk' (by repeat (first | exact ESub.new _ | refine ESub.put ?_ (by first | rfl | exact congrArg (fun (n : Nat) => some (AV.int .i64 (n : Int))) (by simp)))) (famSub (k0 := 10) rfl (by repeat (first | exact trivial | refine ⟨⟨by first | rfl | ((try simp only [hputs]); repeat (first | rfl | exact hput_same _ _ _ | refine hput_skip (by exact beq_false_of_ne (by omega)) ?_ | refine hrm_skip (by omega) ?_ | refine (famW_out _ (fun i_ _ => by first | omega | (dsimp only; omega))).trans ?_)), by first | rfl | exact colF_avoid (fun _ _ => aR_avoid (kf_hi' _) _ _) | exact colF_avoid (fun _ _ => oR_avoid (kf_hi' _) _ _ _ _) | exact colF_avoid (fun _ _ => gR_avoid (kf_hi' _) _ _) | exact gb_avoid _⟩, ?_⟩)) (fun x_ => by (try simp only [hputs]); repeat (first | exact fam_hi _ _ _ | refine hput_skip (by exact beq_false_of_ne (by omega)) ?_ | refine hrm_skip (by omega) ?_)) (fun c h1 h2 => by rcases (by omega : c = 10 ∨ c = 11 ∨ c = 12 ∨ c = 13 ∨ c = 14 ∨ c = 15) with rfl | rfl | rfl | rfl | rfl | rfl <;> first | rfl | (try simp only [hputs]; repeat (first | rfl | refine hput_skip (by exact beq_false_of_ne (by omega)) ?_ | refine hrm_skip (by omega) ?_))))) ⟨by rw [List.drop_zero, siB_eq hx, firstG_eq hx], Nat.zero_le _⟩ (fun g b hb => famFree (k0 := 10) rfl hb) ?_
  intro j hF
  refine AGo.seq ?_
  refine AGo.region ?_
  refine aq 45 (q_bin rfl rfl rfl rfl) ?_
  refine AOps.nil ?_
  refine AGo.seq ?_
  refine AGo.split 45 rfl (fun hb2 => ?_) (fun hb2 => ?_)
  ·
   refine AGo.cond_true true rfl rfl ?_
   have hjl : j < (siB f v i).length := by have h := hb2; simp at h; exact h
   obtain ⟨s, hsj⟩ := get_of_lt hjl
   have hat := site_at hx hsj
   refine AGo.skip ?_
   refine AGo.seq ?_
   refine AGo.block ?_
   refine AGo.seq ?_
   refine AGo.region ?_
   refine aq 46 (q_index_ref tok rfl rfl rfl rfl rfl rfl ((fam_hi _ _ _).trans (congrArg some (DF_site hv hig.2))) (List.length_map _).symm rfl (Int.natCast_nonneg _) (by omega)) ?_
   refine aq 47 (q_load tok rfl rfl rfl (.ptr _ _ _ _ true 3 ((siB f v i).map siC) (siC s) ((fam_hi _ _ _).trans (congrArg some (DF_site hv hig.2))) (List.length_map _).symm (by rw [Nat.zero_add, Int.toNat_natCast, List.getElem?_map, hsj]; rfl)) rfl) ?_
   refine ax 11 (o_alloc tok 10 rfl rfl (by (try simp only [hputs]); repeat (first | rfl | exact hput_same _ _ _ | refine hput_skip (by exact beq_false_of_ne (by omega)) ?_ | refine hrm_skip (by omega) ?_ | refine (famW_out _ (fun i_ _ => by first | omega | (dsimp only; omega))).trans ?_)) rfl (Nat.zero_lt_succ _) rfl) ?_
   refine AOps.w rfl rfl (o_store tok rfl rfl rfl rfl rfl rfl rfl rfl rfl (by decide) rfl (by first | exact fun _ => rfl | (intro h; cases h))) ?_
   refine AOps.nil ?_
   refine AGo.seq ?_
   refine AGo.seq ?_
   refine AGo.region ?_
   refine am 48 ?_
   refine af 49 tok ?_
   refine al 50 tok ?_
   refine al 51 tok ?_
   refine AOps.call 52 (hn := putD _ (DH (DSL f R (SB f) (es) (len) (w)) (DF f R (SB f) G))) (r := .bool (leftS (G i) x.ins.length s)) rfl rfl rfl (o_callDH (DSL f R (SB f) (es) (len) (w)) (DSL f R (SB f) (es) (len) (w)) (DF f R (SB f) G) rfl Try.func48 (by kernel_rfl) rfl rfl rfl rfl rfl (DSL_avoid _ _ _ _ _ _) (DSL_avoid _ _ _ _ _ _) (by repeat (first | exact trivial | refine ⟨by first | rfl | exact putD_yes rfl, ?_⟩)) (fun x_ => by (try simp only [hputs]); (try dsimp only); first | exact fam_hi _ _ _ | exact (putD_hi _ _ x_).trans (fam_hi _ _ _) | ((repeat (first | refine hput_skip (by exact beq_false_of_ne (by omega)) ?_ | refine hrm_skip (by omega) ?_)); exact fam_hi _ _ _)) (DF_avoid kD_hi f R _ _) (DF_avoid kD_hi f R _ _) rfl (dleft_ok f R (SB f) G es len w i x hx s hat)) ?_
   refine aq 53 (q_not rfl rfl) ?_
   refine AOps.nil ?_
   refine AGo.split 53 rfl (fun hb3 => ?_) (fun hb3 => ?_)
   ·
    refine AGo.cond_true true rfl rfl ?_
    have hlf : leftS (G i) x.ins.length s = false := by have h := hb3; simpa using h
    refine AGo.exit ?_
    refine AGo.region ?_
    refine aq 73 (q_inc rfl rfl hjl (by have := siB_len hx (v := v); have := hi x (List.mem_of_getElem? hx); simp only [maxLen]; omega)) ?_
    refine am 44 ?_
    refine AOps.nil ?_
    exact ⟨j + 1, DropK.mk' (by repeat (first | exact EDropK.new _ _ | refine EDropK.put ?_ (by first | rfl | exact congrArg (fun (n : Nat) => some (AV.int .i64 (n : Int))) (by simp)) (by first | rfl | exact oR_avoid (kf_hi' _) _ _ _ _ | exact kf_hi _ _))) (famDrop (k0 := 10) rfl (by repeat (first | exact trivial | refine ⟨⟨by first | rfl | exact putD_yes rfl | ((try simp only [hputs]); repeat (first | rfl | exact hput_same _ _ _ | refine hput_skip (by exact beq_false_of_ne (by omega)) ?_ | refine hrm_skip (by omega) ?_ | refine (famW_out _ (fun i_ _ => by first | omega | (dsimp only; omega))).trans ?_)), by first | rfl | exact colF_avoid (fun _ _ => aR_avoid (kf_hi' _) _ _) | exact colF_avoid (fun _ _ => oR_avoid (kf_hi' _) _ _ _ _) | exact colF_avoid (fun _ _ => gR_avoid (kf_hi' _) _ _) | exact gb_avoid _⟩, ?_⟩)) (fun x_ => by (try simp only [hputs]); (try dsimp only); first | exact fam_hi _ _ _ | exact (putD_hi _ _ x_).trans (fam_hi _ _ _) | ((repeat (first | refine hput_skip (by exact beq_false_of_ne (by omega)) ?_ | refine hrm_skip (by omega) ?_)); exact fam_hi _ _ _)) (DF_avoid (kf_hi' _) f R _ _)), ⟨by rw [← first_skip hsj hlf]; exact hF.1, hjl⟩, (by omega)⟩
   ·
    refine AGo.cond_false false rfl rfl ?_
    have hlf : leftS (G i) x.ins.length s = true := by have h := hb3; simpa using h
    refine AGo.skip ?_
    refine AGo.seq ?_
    refine AGo.region ?_
    refine am 54 ?_
    refine af 55 tok ?_
    refine al 56 tok ?_
    refine aq 57 (q_index_ref tok rfl rfl rfl rfl rfl rfl (by (try simp only [hputs]); repeat (first | rfl | exact hput_same _ _ _ | refine hput_skip (by exact beq_false_of_ne (by omega)) ?_ | refine hrm_skip (by omega) ?_ | refine (famW_out _ (fun i_ _ => by first | omega | (dsimp only; omega))).trans ?_)) (colF_len _ _).symm rfl (Int.natCast_nonneg _) (by omega)) ?_
    refine AOps.w rfl rfl (o_store tok rfl rfl rfl rfl rfl (by (try simp only [hputs]); repeat (first | rfl | exact hput_same _ _ _ | refine hput_skip (by exact beq_false_of_ne (by omega)) ?_ | refine hrm_skip (by omega) ?_ | refine (famW_out _ (fun i_ _ => by first | omega | (dsimp only; omega))).trans ?_)) (colF_len _ _).symm (by rw [Nat.zero_add, Int.toNat_natCast]; exact colF_get hig.1) rfl (by decide) rfl (fun _ => rfl)) ?_
    refine AOps.nil ?_
    refine AGo.seq ?_
    refine AGo.seq ?_
    refine AGo.region ?_
    refine af 58 tok ?_
    refine al 59 tok ?_
    refine AOps.nil ?_
    refine AGo.split 59 rfl (fun hb4 => ?_) (fun hb4 => ?_)
    ·
     refine AGo.cond_true true rfl rfl ?_
     have hfg : firstG f G v i = 1 := by rw [← hF.1, first_left hsj hlf, show s.r = true from hb4]; rfl
     refine AGo.seq ?_
     refine AGo.region ?_
     refine am 60 ?_
     refine af 61 tok ?_
     refine al 62 tok ?_
     refine aq 63 (q_index_ref tok rfl rfl rfl rfl rfl rfl (by (try simp only [hputs]); repeat (first | rfl | exact hput_same _ _ _ | refine hput_skip (by exact beq_false_of_ne (by omega)) ?_ | refine hrm_skip (by omega) ?_ | refine (famW_out _ (fun i_ _ => by first | omega | (dsimp only; omega))).trans ?_)) (by rw [List.length_set]; exact (colF_len _ _).symm) rfl (Int.natCast_nonneg _) (by omega)) ?_
     refine AOps.w rfl rfl (o_store tok rfl rfl rfl rfl rfl (by (try simp only [hputs]); repeat (first | rfl | exact hput_same _ _ _ | refine hput_skip (by exact beq_false_of_ne (by omega)) ?_ | refine hrm_skip (by omega) ?_ | refine (famW_out _ (fun i_ _ => by first | omega | (dsimp only; omega))).trans ?_)) (by rw [List.length_set]; exact (colF_len _ _).symm) (List.getElem?_set_self (by rw [colF_len]; omega)) rfl (by decide) rfl (fun _ => rfl)) ?_
     refine AOps.nil ?_
     refine AGo.seq ?_
     refine AGo.region ?_
     refine am 64 ?_
     refine af 65 tok ?_
     refine al 66 tok ?_
     refine aq 67 (q_index_ref tok rfl rfl rfl rfl rfl rfl (by (try simp only [hputs]); repeat (first | rfl | exact hput_same _ _ _ | refine hput_skip (by exact beq_false_of_ne (by omega)) ?_ | refine hrm_skip (by omega) ?_ | refine (famW_out _ (fun i_ _ => by first | omega | (dsimp only; omega))).trans ?_)) (colF_len _ _).symm rfl (Int.natCast_nonneg _) (by omega)) ?_
     refine AOps.w rfl rfl (o_store tok rfl rfl rfl rfl rfl (by (try simp only [hputs]); repeat (first | rfl | exact hput_same _ _ _ | refine hput_skip (by exact beq_false_of_ne (by omega)) ?_ | refine hrm_skip (by omega) ?_ | refine (famW_out _ (fun i_ _ => by first | omega | (dsimp only; omega))).trans ?_)) (colF_len _ _).symm (by rw [Nat.zero_add, Int.toNat_natCast]; exact colF_get hig.1) rfl (by decide) rfl (fun _ => rfl)) ?_
     refine AOps.nil ?_
     refine AGo.region ?_
     refine am 68 ?_
     refine af 69 tok ?_
     refine al 70 tok ?_
     refine ax 71 (o_lit' tok rfl rfl rfl rfl rfl rfl (by decide) rfl rfl rfl rfl rfl rfl) ?_
     refine ax 72 (o_push tok (es := q.2) rfl rfl rfl rfl rfl rfl rfl rfl (by (try simp only [hputs]); repeat (first | rfl | exact hput_same _ _ _ | refine hput_skip (by exact beq_false_of_ne (by omega)) ?_ | refine hrm_skip (by omega) ?_ | refine (famW_out _ (fun i_ _ => by first | omega | (dsimp only; omega))).trans ?_)) rfl hq.2.le rfl rfl (Nat.zero_lt_succ _) (.lst _ _) rfl (fun _ => rfl) (by have := hq.2.max; show _ * 8 ≤ _; omega) (by have := hq.2.max; simp only [maxLen]; omega)) ?_
     refine aa 7 ?_
     refine AOps.nil ?_
     refine AGo.exit ?_
     refine AGo.region ?_
     refine aq 74 (q_inc rfl rfl hkl (by have := gsS_len (SB f) f.blocks.length v; have e : gsS (SB f) f.blocks.length v = gsB f v := rfl; rw [e] at this; simp only [maxLen]; omega)) ?_
     refine am 37 ?_
     refine AOps.nil ?_
     exact ⟨(q.1 + 1, pushE q.2 (todoK f G v q.1).length (natC i)), DropK.mk' (by repeat (first | exact EDropK.new _ _ | refine EDropK.put ?_ (by first | rfl | exact congrArg (fun m => some (AV.ref 8 _ 0 m)) (by rw [← todoK_succ hgi hfg, List.length_append]; rfl) | exact congrArg (fun l : List Nat => some (AV.ref 8 _ 0 l.length)) (todoK_skip hgi (by omega)) | exact congrArg (fun (n : Nat) => some (AV.int .i64 (n : Int))) (by simp)) (by first | rfl | exact oR_avoid (kf_hi' _) _ _ _ _))) (famDrop (k0 := 9) rfl (by repeat (first | exact trivial | refine ⟨⟨by first | rfl | exact putD_yes rfl | exact congrArg (fun es => some (AObj.row true 1 es)) (row0_r hgi hfg) | exact congrArg (fun es => some (AObj.row true 1 es)) (row0_s hgi hfg) | exact congrArg (fun w => some (AObj.row true 1 (iC _ w))) (fstK_0 hgi hfg) | exact congrArg (fun es => some (AObj.row true 1 es)) ((bC_set' true).trans (congrArg (bC _) (inK_succ hgi hfg))) | exact congrArg (fun w => some (AObj.row true 1 (bC _ w))) (inK_skip hgi (by omega)), by first | rfl | exact colF_avoid (fun _ _ => aR_avoid (kf_hi' _) _ _) | exact colF_avoid (fun _ _ => oR_avoid (kf_hi' _) _ _ _ _) | exact colF_avoid (fun _ _ => gR_avoid (kf_hi' _) _ _) | exact gb_avoid _⟩, ?_⟩)) (fun x_ => by (try simp only [hputs]); (try dsimp only); first | exact fam_hi _ _ _ | exact (putD_hi _ _ x_).trans (fam_hi _ _ _) | ((repeat (first | refine hput_skip (by exact beq_false_of_ne (by omega)) ?_ | refine hrm_skip (by omega) ?_)); exact fam_hi _ _ _)) (DF_avoid (kf_hi' _) f R _ _)), ⟨hkl, by rw [← todoK_succ hgi hfg]; exact hq.2.push (Nat.lt_of_le_of_lt (todoK_len f G v q.1) (Nat.lt_of_lt_of_le hkl (gsS_len (SB f) f.blocks.length v)))⟩, (by show (gsB f v).length - (q.1 + 1) < (gsB f v).length - q.1; omega)⟩
    ·
     refine AGo.cond_false false rfl rfl ?_
     have hfg : firstG f G v i = 2 := by rw [← hF.1, first_left hsj hlf, show s.r = false from hb4]; rfl
     refine AGo.skip ?_
     refine AGo.exit ?_
     refine AGo.region ?_
     refine aq 74 (q_inc rfl rfl hkl (by have := gsS_len (SB f) f.blocks.length v; have e : gsS (SB f) f.blocks.length v = gsB f v := rfl; rw [e] at this; simp only [maxLen]; omega)) ?_
     refine am 37 ?_
     refine AOps.nil ?_
     exact ⟨(q.1 + 1, q.2), DropK.mk' (by repeat (first | exact EDropK.new _ _ | refine EDropK.put ?_ (by first | rfl | exact congrArg (fun m => some (AV.ref 8 _ 0 m)) (by rw [← todoK_succ hgi hfg, List.length_append]; rfl) | exact congrArg (fun l : List Nat => some (AV.ref 8 _ 0 l.length)) (todoK_skip hgi (by omega)) | exact congrArg (fun (n : Nat) => some (AV.int .i64 (n : Int))) (by simp)) (by first | rfl | exact oR_avoid (kf_hi' _) _ _ _ _))) (famDrop (k0 := 9) rfl (by repeat (first | exact trivial | refine ⟨⟨by first | rfl | exact putD_yes rfl | exact congrArg (fun es => some (AObj.row true 1 es)) (row0_r hgi hfg) | exact congrArg (fun es => some (AObj.row true 1 es)) (row0_s hgi hfg) | exact congrArg (fun w => some (AObj.row true 1 (iC _ w))) (fstK_0 hgi hfg) | exact congrArg (fun es => some (AObj.row true 1 es)) ((bC_set' true).trans (congrArg (bC _) (inK_succ hgi hfg))) | exact congrArg (fun w => some (AObj.row true 1 (bC _ w))) (inK_skip hgi (by omega)), by first | rfl | exact colF_avoid (fun _ _ => aR_avoid (kf_hi' _) _ _) | exact colF_avoid (fun _ _ => oR_avoid (kf_hi' _) _ _ _ _) | exact colF_avoid (fun _ _ => gR_avoid (kf_hi' _) _ _) | exact gb_avoid _⟩, ?_⟩)) (fun x_ => by (try simp only [hputs]); (try dsimp only); first | exact fam_hi _ _ _ | exact (putD_hi _ _ x_).trans (fam_hi _ _ _) | ((repeat (first | refine hput_skip (by exact beq_false_of_ne (by omega)) ?_ | refine hrm_skip (by omega) ?_)); exact fam_hi _ _ _)) (DF_avoid (kf_hi' _) f R _ _)), ⟨hkl, by rw [← todoK_skip hgi (by omega)]; exact hq.2⟩, (by show (gsB f v).length - (q.1 + 1) < (gsB f v).length - q.1; omega)⟩
  ·
   refine AGo.cond_false false rfl rfl ?_
   have hjge : (siB f v i).length ≤ j := by have h := hb2; simp at h; omega
   have hfg : firstG f G v i = 0 := by rw [← hF.1, List.drop_eq_nil_iff.2 hjge]; rfl
   refine AGo.exit ?_
   refine AGo.region ?_
   refine aq 74 (q_inc rfl rfl hkl (by have := gsS_len (SB f) f.blocks.length v; have e : gsS (SB f) f.blocks.length v = gsB f v := rfl; rw [e] at this; simp only [maxLen]; omega)) ?_
   refine am 37 ?_
   refine AOps.nil ?_
   exact ⟨(q.1 + 1, q.2), DropK.mk' (by repeat (first | exact EDropK.new _ _ | refine EDropK.put ?_ (by first | rfl | exact congrArg (fun m => some (AV.ref 8 _ 0 m)) (by rw [← todoK_succ hgi hfg, List.length_append]; rfl) | exact congrArg (fun l : List Nat => some (AV.ref 8 _ 0 l.length)) (todoK_skip hgi (by omega)) | exact congrArg (fun (n : Nat) => some (AV.int .i64 (n : Int))) (by simp)) (by first | rfl | exact oR_avoid (kf_hi' _) _ _ _ _))) (famDrop (k0 := 9) rfl (by repeat (first | exact trivial | refine ⟨⟨by first | rfl | exact putD_yes rfl | exact congrArg (fun es => some (AObj.row true 1 es)) (row0_r hgi hfg) | exact congrArg (fun es => some (AObj.row true 1 es)) (row0_s hgi hfg) | exact congrArg (fun w => some (AObj.row true 1 (iC _ w))) (fstK_0 hgi hfg) | exact congrArg (fun es => some (AObj.row true 1 es)) ((bC_set' true).trans (congrArg (bC _) (inK_succ hgi hfg))) | exact congrArg (fun w => some (AObj.row true 1 (bC _ w))) (inK_skip hgi (by omega)), by first | rfl | exact colF_avoid (fun _ _ => aR_avoid (kf_hi' _) _ _) | exact colF_avoid (fun _ _ => oR_avoid (kf_hi' _) _ _ _ _) | exact colF_avoid (fun _ _ => gR_avoid (kf_hi' _) _ _) | exact gb_avoid _⟩, ?_⟩)) (fun x_ => by (try simp only [hputs]); (try dsimp only); first | exact fam_hi _ _ _ | exact (putD_hi _ _ x_).trans (fam_hi _ _ _) | ((repeat (first | refine hput_skip (by exact beq_false_of_ne (by omega)) ?_ | refine hrm_skip (by omega) ?_)); exact fam_hi _ _ _)) (DF_avoid (kf_hi' _) f R _ _)), ⟨hkl, by rw [← todoK_skip hgi (by omega)]; exact hq.2⟩, (by show (gsB f v).length - (q.1 + 1) < (gsB f v).length - q.1; omega)⟩
 ·
  refine AGo.cond_false false rfl rfl ?_
  have hkge : (gsB f v).length ≤ q.1 := by have h := hb1; rw [grs_len] at h; simp only [decide_eq_false_iff_not] at h; exact Nat.le_of_not_lt fun e => h (Int.ofNat_lt.2 e)
  refine AGo.exit ?_
  refine AGo.seq ?_
  refine AGo.block ?_
  refine AGo.loopK (γ := MQ) (kf 9) (fun m => ⟨122, (eput (eput (eput (eput (eput eNew 0 (.ptr 2 1 0 0)) 1 (.int .i64 (v : Int))) 5 (.ref 0 f.blocks.length 0 f.blocks.length)) 6 (.ref 1 f.blocks.length 0 f.blocks.length)) 7 (.ref 8 m.es.length 0 m.todo.length)), (fam (nb [(.row true 1 (iC f.blocks.length (firstG f G v))), (.row true 1 (bC f.blocks.length m.inn)), (.row false 8 [SDc f R (es).length (len)]), (.row false 1 (colF (aR (aheadL f)) f.blocks.length)), (.row false 1 (colF (oR f.blocks.length R (SB f)) R)), (.row false 1 (colF (gR f) f.blocks.length)), (.row true 1 (es)), (.row true 1 (bC R (w))), (.row true 1 m.es)]) (DF f R (SB f) G))⟩) (fun m => BfI f G v m.inn m.todo 0 [] ∧ StackI f.blocks.length m.es m.todo) (fun m => 2 * cntF f.blocks.length m.inn + m.todo.length) ⟨inK f G v q.1, todoK f G v q.1, q.2⟩ (Sub.mk' (by repeat (first | exact ESub.new _ | refine ESub.put ?_ (by rfl))) (famSub (k0 := 9) rfl (by repeat (first | exact trivial | refine ⟨⟨by first | rfl | exact congrArg (fun w => some (AObj.row true 1 (iC _ w))) (fstK_all hkge), by first | rfl | exact colF_avoid (fun _ _ => aR_avoid (kf_hi' _) _ _) | exact colF_avoid (fun _ _ => oR_avoid (kf_hi' _) _ _ _ _) | exact colF_avoid (fun _ _ => gR_avoid (kf_hi' _) _ _) | exact gb_avoid _⟩, ?_⟩)) (fun x_ => by (try simp only [hputs]); repeat (first | exact fam_hi _ _ _ | refine hput_skip (by exact beq_false_of_ne (by omega)) ?_ | refine hrm_skip (by omega) ?_)) (fun c h1 h2 => by rcases (by omega : c = 9 ∨ c = 10 ∨ c = 11 ∨ c = 12 ∨ c = 13 ∨ c = 14 ∨ c = 15) with rfl | rfl | rfl | rfl | rfl | rfl | rfl <;> first | rfl | (try simp only [hputs]; repeat (first | rfl | refine hput_skip (by exact beq_false_of_ne (by omega)) ?_ | refine hrm_skip (by omega) ?_))))) ⟨BfI.first hkge, hq.2⟩ (fun g b hb => famFree (k0 := 9) rfl hb) ?_
  intro m hM
  obtain ⟨inn, todo, es'⟩ := m
  dsimp only at hM ⊢
  refine AGo.seq ?_
  refine AGo.seq ?_
  refine AGo.region ?_
  refine am 75 ?_
  refine aq 76 (q_len tok rfl rfl rfl rfl rfl) ?_
  refine aq 77 (q_bin rfl rfl rfl rfl) ?_
  refine AOps.nil ?_
  refine AGo.split 77 rfl (fun hb5 => ?_) (fun hb5 => ?_)
  ·
   refine AGo.cond_true true rfl rfl ?_
   obtain ⟨todo', b, htd⟩ : ∃ todo' b, todo = todo' ++ [b] := by
     rcases snoc_cases todo with h | h
     · have h2 := hb5; rw [h] at h2; simp at h2
     · exact h
   subst htd
   have hib := hM.1.tod b (List.mem_append.2 (.inr (List.mem_singleton.2 rfl)))
   have hb := (hM.1.sound b hib).1
   refine AGo.skip ?_
   refine AGo.block ?_
   refine AGo.seq ?_
   refine AGo.region ?_
   refine am 78 ?_
   refine am 79 ?_
   refine aq 80 (q_len tok rfl rfl rfl rfl rfl) ?_
   refine aq 81 (q_bin (r := .int .i64 (todo'.length : Int)) rfl rfl rfl (pop_len (by have := hM.1.cnt; simp at this; omega))) ?_
   refine aq 82 (q_index_ref tok rfl rfl rfl rfl rfl rfl (by (try simp only [hputs]); repeat (first | rfl | exact hput_same _ _ _ | refine hput_skip (by exact beq_false_of_ne (by omega)) ?_ | refine hrm_skip (by omega) ?_ | refine (famW_out _ (fun i_ _ => by first | omega | (dsimp only; omega))).trans ?_)) rfl rfl (Int.natCast_nonneg _) (by simp; omega)) ?_
   refine aq 83 (q_load tok rfl rfl rfl (.ptr _ _ _ _ _ _ _ (natC b) (by (try simp only [hputs]); repeat (first | rfl | exact hput_same _ _ _ | refine hput_skip (by exact beq_false_of_ne (by omega)) ?_ | refine hrm_skip (by omega) ?_ | refine (famW_out _ (fun i_ _ => by first | omega | (dsimp only; omega))).trans ?_)) rfl (by rw [Nat.zero_add, Int.toNat_natCast]; exact hM.2.get)) rfl) ?_
   refine aa 12 ?_
   refine AOps.nil ?_
   refine AGo.seq ?_
   refine AGo.region ?_
   refine am 84 ?_
   refine am 85 ?_
   refine aq 86 (q_len tok rfl rfl rfl rfl rfl) ?_
   refine aq 87 (q_bin (r := .int .i64 (todo'.length : Int)) rfl rfl rfl (pop_len (by have := hM.1.cnt; simp at this; omega))) ?_
   refine aq 88 (q_slice_ref tok (es := es') (m := todo'.length) rfl rfl rfl rfl rfl rfl (by (try simp only [hputs]); repeat (first | rfl | exact hput_same _ _ _ | refine hput_skip (by exact beq_false_of_ne (by omega)) ?_ | refine hrm_skip (by omega) ?_ | refine (famW_out _ (fun i_ _ => by first | omega | (dsimp only; omega))).trans ?_)) rfl rfl (by simp)) ?_
   refine aa 7 ?_
   refine AOps.nil ?_
   refine AGo.seq ?_
   refine AGo.region ?_
   refine am 89 ?_
   refine aq 90 (q_nilCheck rfl rfl rfl) ?_
   refine af 91 tok ?_
   refine al 92 tok ?_
   refine am 93 ?_
   refine aq 94 (q_index_ref tok rfl rfl rfl rfl rfl rfl (by (try simp only [hputs]); repeat (first | rfl | exact hput_same _ _ _ | refine hput_skip (by exact beq_false_of_ne (by omega)) ?_ | refine hrm_skip (by omega) ?_ | refine (famW_out _ (fun i_ _ => by first | omega | (dsimp only; omega))).trans ?_)) (colF_len _ _).symm rfl (Int.natCast_nonneg _) (by omega)) ?_
   refine aq 95 (q_load tok rfl rfl rfl (.ptr _ _ _ _ _ _ _ [aR (aheadL f) b] (by (try simp only [hputs]); repeat (first | rfl | exact hput_same _ _ _ | refine hput_skip (by exact beq_false_of_ne (by omega)) ?_ | refine hrm_skip (by omega) ?_ | refine (famW_out _ (fun i_ _ => by first | omega | (dsimp only; omega))).trans ?_)) (colF_len _ _).symm (by rw [Nat.zero_add, Int.toNat_natCast]; exact colF_get hb)) rfl) ?_
   refine aq 96 (q_lenJ tok rfl rfl rfl rfl) ?_
   refine am 97 ?_
   refine AOps.nil ?_
   refine AGo.block ?_
   refine AGo.loopK (γ := MP) (kf 9) (fun p => ⟨122, (eput (eput (eput (eput (eput (eput (eput (eput (eput eNew 0 (.ptr 2 1 0 0)) 1 (.int .i64 (v : Int))) 5 (.ref 0 f.blocks.length 0 f.blocks.length)) 6 (.ref 1 f.blocks.length 0 f.blocks.length)) 7 (.ref 8 p.es.length 0 p.todo.length)) 12 (.int .i64 (b : Int))) 95 (aR (aheadL f) b)) 96 (.int .i64 ((aheadL f b).length : Int))) 97 (.int .i64 (p.j : Int))), (fam (nb [(.row true 1 (iC f.blocks.length (firstG f G v))), (.row true 1 (bC f.blocks.length p.inn)), (.row false 8 [SDc f R (es).length (len)]), (.row false 1 (colF (aR (aheadL f)) f.blocks.length)), (.row false 1 (colF (oR f.blocks.length R (SB f)) R)), (.row false 1 (colF (gR f) f.blocks.length)), (.row true 1 (es)), (.row true 1 (bC R (w))), (.row true 1 p.es)]) (DF f R (SB f) G))⟩) (fun p => MPI f G v b (2 * cntF f.blocks.length inn + todo'.length) p) (fun p => (aheadL f b).length - p.j) ⟨inn, todo', es', 0⟩ (Sub.mk' (by repeat (first | exact ESub.new _ | refine ESub.put ?_ (by first | rfl | exact congrArg (fun m : Nat => some (AV.int .i64 (m : Int))) (by simp)))) (famSub (k0 := 9) rfl (by repeat (first | exact trivial | refine ⟨⟨by rfl, by first | rfl | exact colF_avoid (fun _ _ => aR_avoid (kf_hi' _) _ _) | exact colF_avoid (fun _ _ => oR_avoid (kf_hi' _) _ _ _ _) | exact colF_avoid (fun _ _ => gR_avoid (kf_hi' _) _ _) | exact gb_avoid _⟩, ?_⟩)) (fun x_ => by (try simp only [hputs]); repeat (first | exact fam_hi _ _ _ | refine hput_skip (by exact beq_false_of_ne (by omega)) ?_ | refine hrm_skip (by omega) ?_)) (fun c h1 h2 => by rcases (by omega : c = 9 ∨ c = 10 ∨ c = 11 ∨ c = 12 ∨ c = 13 ∨ c = 14 ∨ c = 15) with rfl | rfl | rfl | rfl | rfl | rfl | rfl <;> first | rfl | (try simp only [hputs]; repeat (first | rfl | refine hput_skip (by exact beq_false_of_ne (by omega)) ?_ | refine hrm_skip (by omega) ?_))))) ⟨hM.1.pop, hib, hM.2.pop, Nat.le_refl _⟩ (fun g b hb => famFree (k0 := 9) rfl hb) ?_
   intro p hP
   refine AGo.seq ?_
   refine AGo.region ?_
   refine aq 98 (q_bin rfl rfl rfl rfl) ?_
   refine AOps.nil ?_
   refine AGo.seq ?_
   refine AGo.split 98 rfl (fun hb6 => ?_) (fun hb6 => ?_)
   ·
    refine AGo.cond_true true rfl rfl ?_
    have hjl : p.j < (aheadL f b).length := by have h := hb6; simp at h; exact h
    obtain ⟨a, ha⟩ := get_of_lt hjl
    have ha2 := aheadL_lt (List.mem_of_getElem? ha)
    refine AGo.skip ?_
    refine AGo.seq ?_
    refine AGo.block ?_
    refine AGo.seq ?_
    refine AGo.region ?_
    refine aq 99 (q_indexJ tok (b := 4 * b + 0 + 16) (es := (aheadL f b).map natC) rfl rfl rfl rfl rfl rfl ((fam_hi _ _ _).trans (congrArg some (DF_ah hb))) rfl (Int.natCast_nonneg _) (by rw [List.length_map]; omega)) ?_
    refine aq 100 (q_load tok rfl rfl rfl (.ptr _ _ _ _ true 1 ((aheadL f b).map natC) (natC a) ((fam_hi _ _ _).trans (congrArg some ((DF_ah hb).trans (slO_at (k := p.j) (by rw [List.length_map]; omega))))) rfl (by rw [Int.toNat_natCast, List.getElem?_map, ha]; rfl)) rfl) ?_
    refine aa 14 ?_
    refine AOps.nil ?_
    refine AGo.seq ?_
    refine AGo.region ?_
    refine am 101 ?_
    refine am 102 ?_
    refine aq 103 (q_index_ref tok rfl rfl rfl rfl rfl rfl (by (try simp only [hputs]); repeat (first | rfl | exact hput_same _ _ _ | refine hput_skip (by exact beq_false_of_ne (by omega)) ?_ | refine hrm_skip (by omega) ?_ | refine (famW_out _ (fun i_ _ => by first | omega | (dsimp only; omega))).trans ?_)) (colF_len _ _).symm rfl (Int.natCast_nonneg _) (by omega)) ?_
    refine aq 104 (q_load tok rfl rfl rfl (.ptr _ _ _ _ _ _ _ [.int .i64 (firstG f G v a : Int)] (by (try simp only [hputs]); repeat (first | rfl | exact hput_same _ _ _ | refine hput_skip (by exact beq_false_of_ne (by omega)) ?_ | refine hrm_skip (by omega) ?_ | refine (famW_out _ (fun i_ _ => by first | omega | (dsimp only; omega))).trans ?_)) (colF_len _ _).symm (by rw [Nat.zero_add, Int.toNat_natCast]; exact colF_get ha2)) rfl) ?_
    refine aq 105 (q_bin rfl rfl rfl rfl) ?_
    refine am 106 ?_
    refine AOps.split 106 rfl (fun hb7 => ?_) (fun hb7 => ?_)
    ·
     refine am 107 ?_
     have hz := hb7
     refine am 108 ?_
     refine aq 109 (q_index_ref tok rfl rfl rfl rfl rfl rfl (by (try simp only [hputs]); repeat (first | rfl | exact hput_same _ _ _ | refine hput_skip (by exact beq_false_of_ne (by omega)) ?_ | refine hrm_skip (by omega) ?_ | refine (famW_out _ (fun i_ _ => by first | omega | (dsimp only; omega))).trans ?_)) (colF_len _ _).symm rfl (Int.natCast_nonneg _) (by omega)) ?_
     refine aq 110 (q_load tok rfl rfl rfl (.ptr _ _ _ _ _ _ _ [.bool (p.inn a)] (by (try simp only [hputs]); repeat (first | rfl | exact hput_same _ _ _ | refine hput_skip (by exact beq_false_of_ne (by omega)) ?_ | refine hrm_skip (by omega) ?_ | refine (famW_out _ (fun i_ _ => by first | omega | (dsimp only; omega))).trans ?_)) (colF_len _ _).symm (by rw [Nat.zero_add, Int.toNat_natCast]; exact colF_get ha2)) rfl) ?_
     refine aq 111 (q_not rfl rfl) ?_
     refine aq 112 (q_pick_true true rfl rfl rfl rfl) ?_
     refine AOps.nil ?_
     refine AGo.split 112 rfl (fun hb8 => ?_) (fun hb8 => ?_)
     ·
      refine AGo.cond_true true rfl rfl ?_
      have h0 : firstG f G v a = 0 := by have h := hz; simp at h; omega
      have hni : p.inn a = false := by have h := hb8; simpa using h
      refine AGo.seq ?_
      refine AGo.region ?_
      refine am 113 ?_
      refine am 114 ?_
      refine aq 115 (q_index_ref tok rfl rfl rfl rfl rfl rfl (by (try simp only [hputs]); repeat (first | rfl | exact hput_same _ _ _ | refine hput_skip (by exact beq_false_of_ne (by omega)) ?_ | refine hrm_skip (by omega) ?_ | refine (famW_out _ (fun i_ _ => by first | omega | (dsimp only; omega))).trans ?_)) (colF_len _ _).symm rfl (Int.natCast_nonneg _) (by omega)) ?_
      refine AOps.w rfl rfl (o_store tok rfl rfl rfl rfl rfl (by (try simp only [hputs]); repeat (first | rfl | exact hput_same _ _ _ | refine hput_skip (by exact beq_false_of_ne (by omega)) ?_ | refine hrm_skip (by omega) ?_ | refine (famW_out _ (fun i_ _ => by first | omega | (dsimp only; omega))).trans ?_)) (colF_len _ _).symm (by rw [Nat.zero_add, Int.toNat_natCast]; exact colF_get ha2) rfl (by decide) rfl (fun _ => rfl)) ?_
      refine AOps.nil ?_
      refine AGo.region ?_
      refine am 116 ?_
      refine am 117 ?_
      refine ax 118 (o_lit' tok rfl rfl rfl rfl rfl rfl (by decide) rfl rfl rfl rfl rfl rfl) ?_
      refine ax 119 (o_push tok (es := p.es) rfl rfl rfl rfl rfl rfl rfl rfl (by (try simp only [hputs]); repeat (first | rfl | exact hput_same _ _ _ | refine hput_skip (by exact beq_false_of_ne (by omega)) ?_ | refine hrm_skip (by omega) ?_ | refine (famW_out _ (fun i_ _ => by first | omega | (dsimp only; omega))).trans ?_)) rfl hP.st.le rfl rfl (Nat.zero_lt_succ _) (.lst _ _) rfl (fun _ => rfl) (by have := hP.st.max; show _ * 8 ≤ _; omega) (by have := hP.st.max; simp only [maxLen]; omega)) ?_
      refine aa 7 ?_
      refine AOps.nil ?_
      refine AGo.region ?_
      refine aq 120 (q_inc rfl rfl hjl (by have := aheadL_len f b; simp only [maxLen]; omega)) ?_
      refine am 97 ?_
      refine AOps.nil ?_
      exact ⟨⟨updB p.inn a true, p.todo ++ [a], pushE p.es p.todo.length (natC a), p.j + 1⟩, DropK.mk' (by repeat (first | exact EDropK.new _ _ | refine EDropK.put ?_ (by first | rfl | exact congrArg (fun m => some (AV.ref 8 _ 0 m)) (by rw [List.length_append]; rfl) | exact congrArg (fun (n : Nat) => some (AV.int .i64 (n : Int))) (by simp)) (by first | rfl | exact aR_avoid (kf_hi' _) _ _))) (famDrop (k0 := 9) rfl (by repeat (first | exact trivial | refine ⟨⟨by first | rfl | exact congrArg (fun es => some (AObj.row true 1 es)) (bC_set' true) | ((try simp only [hputs]); repeat (first | rfl | exact hput_same _ _ _ | refine hput_skip (by exact beq_false_of_ne (by omega)) ?_ | refine hrm_skip (by omega) ?_ | refine (famW_out _ (fun i_ _ => by first | omega | (dsimp only; omega))).trans ?_)), by first | rfl | exact colF_avoid (fun _ _ => aR_avoid (kf_hi' _) _ _) | exact colF_avoid (fun _ _ => oR_avoid (kf_hi' _) _ _ _ _) | exact colF_avoid (fun _ _ => gR_avoid (kf_hi' _) _ _) | exact gb_avoid _⟩, ?_⟩)) (fun x_ => by (try simp only [hputs]); repeat (first | exact fam_hi _ _ _ | refine hput_skip (by exact beq_false_of_ne (by omega)) ?_ | refine hrm_skip (by omega) ?_)) (DF_avoid (kf_hi' _) f R _ _)), (hP.push ha h0 hni), (by show (aheadL f b).length - (p.j + 1) < (aheadL f b).length - p.j; omega)⟩
     ·
      refine AGo.cond_false false rfl rfl ?_
      have hno : ¬ (firstG f G v a = 0 ∧ p.inn a = false) := fun e => by
        have h := hz
        have h2 := hb8
        simp [e.1, e.2] at h h2
      refine AGo.skip ?_
      refine AGo.region ?_
      refine aq 120 (q_inc rfl rfl hjl (by have := aheadL_len f b; simp only [maxLen]; omega)) ?_
      refine am 97 ?_
      refine AOps.nil ?_
      exact ⟨⟨p.inn, p.todo, p.es, p.j + 1⟩, DropK.mk' (by repeat (first | exact EDropK.new _ _ | refine EDropK.put ?_ (by first | rfl | exact congrArg (fun m => some (AV.ref 8 _ 0 m)) (by rw [List.length_append]; rfl) | exact congrArg (fun (n : Nat) => some (AV.int .i64 (n : Int))) (by simp)) (by first | rfl | exact aR_avoid (kf_hi' _) _ _))) (famDrop (k0 := 9) rfl (by repeat (first | exact trivial | refine ⟨⟨by first | rfl | exact congrArg (fun es => some (AObj.row true 1 es)) (bC_set' true) | ((try simp only [hputs]); repeat (first | rfl | exact hput_same _ _ _ | refine hput_skip (by exact beq_false_of_ne (by omega)) ?_ | refine hrm_skip (by omega) ?_ | refine (famW_out _ (fun i_ _ => by first | omega | (dsimp only; omega))).trans ?_)), by first | rfl | exact colF_avoid (fun _ _ => aR_avoid (kf_hi' _) _ _) | exact colF_avoid (fun _ _ => oR_avoid (kf_hi' _) _ _ _ _) | exact colF_avoid (fun _ _ => gR_avoid (kf_hi' _) _ _) | exact gb_avoid _⟩, ?_⟩)) (fun x_ => by (try simp only [hputs]); repeat (first | exact fam_hi _ _ _ | refine hput_skip (by exact beq_false_of_ne (by omega)) ?_ | refine hrm_skip (by omega) ?_)) (DF_avoid (kf_hi' _) f R _ _)), (hP.skip ha hno), (by show (aheadL f b).length - (p.j + 1) < (aheadL f b).length - p.j; omega)⟩
    ·
     refine ak 107 ?_
     have hz := hb7
     refine ak 108 ?_
     refine ak 109 ?_
     refine ak 110 ?_
     refine ak 111 ?_
     refine aq 112 (q_pick_false false rfl rfl rfl rfl) ?_
     refine AOps.nil ?_
     refine AGo.cond_false false rfl rfl ?_
     have hno : ¬ (firstG f G v a = 0 ∧ p.inn a = false) := fun e => by
       have h := hz
       have h2 := hb7
       simp [e.1, e.2] at h h2
     refine AGo.skip ?_
     refine AGo.region ?_
     refine aq 120 (q_inc rfl rfl hjl (by have := aheadL_len f b; simp only [maxLen]; omega)) ?_
     refine am 97 ?_
     refine AOps.nil ?_
     exact ⟨⟨p.inn, p.todo, p.es, p.j + 1⟩, DropK.mk' (by repeat (first | exact EDropK.new _ _ | refine EDropK.put ?_ (by first | rfl | exact congrArg (fun m => some (AV.ref 8 _ 0 m)) (by rw [List.length_append]; rfl) | exact congrArg (fun (n : Nat) => some (AV.int .i64 (n : Int))) (by simp)) (by first | rfl | exact aR_avoid (kf_hi' _) _ _))) (famDrop (k0 := 9) rfl (by repeat (first | exact trivial | refine ⟨⟨by first | rfl | exact congrArg (fun es => some (AObj.row true 1 es)) (bC_set' true) | ((try simp only [hputs]); repeat (first | rfl | exact hput_same _ _ _ | refine hput_skip (by exact beq_false_of_ne (by omega)) ?_ | refine hrm_skip (by omega) ?_ | refine (famW_out _ (fun i_ _ => by first | omega | (dsimp only; omega))).trans ?_)), by first | rfl | exact colF_avoid (fun _ _ => aR_avoid (kf_hi' _) _ _) | exact colF_avoid (fun _ _ => oR_avoid (kf_hi' _) _ _ _ _) | exact colF_avoid (fun _ _ => gR_avoid (kf_hi' _) _ _) | exact gb_avoid _⟩, ?_⟩)) (fun x_ => by (try simp only [hputs]); repeat (first | exact fam_hi _ _ _ | refine hput_skip (by exact beq_false_of_ne (by omega)) ?_ | refine hrm_skip (by omega) ?_)) (DF_avoid (kf_hi' _) f R _ _)), (hP.skip ha hno), (by show (aheadL f b).length - (p.j + 1) < (aheadL f b).length - p.j; omega)⟩
   ·
    refine AGo.cond_false false rfl rfl ?_
    have hjge : (aheadL f b).length ≤ p.j := by have h := hb6; simp at h; omega
    refine AGo.exit ?_
    exact ⟨⟨p.inn, p.todo, p.es⟩, DropK.mk' (by repeat (first | exact EDropK.new _ _ | refine EDropK.put ?_ (by rfl) (by first | rfl))) (famDrop (k0 := 9) rfl (by repeat (first | exact trivial | refine ⟨⟨by rfl, by first | rfl | exact colF_avoid (fun _ _ => aR_avoid (kf_hi' _) _ _) | exact colF_avoid (fun _ _ => oR_avoid (kf_hi' _) _ _ _ _) | exact colF_avoid (fun _ _ => gR_avoid (kf_hi' _) _ _) | exact gb_avoid _⟩, ?_⟩)) (fun x_ => by (try simp only [hputs]); repeat (first | exact fam_hi _ _ _ | refine hput_skip (by exact beq_false_of_ne (by omega)) ?_ | refine hrm_skip (by omega) ?_)) (DF_avoid (kf_hi' _) f R _ _)), ⟨(by have h := hP.k; rw [List.drop_eq_nil_iff.2 hjge] at h; exact h.any), hP.st⟩, (Nat.lt_of_le_of_lt hP.mu (by show 2 * cntF f.blocks.length inn + todo'.length < 2 * cntF f.blocks.length inn + (todo' ++ [b]).length; simp))⟩
  ·
   refine AGo.cond_false false rfl rfl ?_
   have htd : todo = [] := by
     rcases snoc_cases todo with h | ⟨L, b, h⟩
     · exact h
     · have h2 := hb5; rw [h] at h2; simp at h2
   subst htd
   refine AGo.exit ?_
   refine AGo.seq ?_
   refine AGo.ghost (.freezeA 6 1 rfl rfl (colF_len _ _).symm) ?_
   refine AGo.region ?_
   refine am 121 ?_
   refine aa 4 ?_
   refine AOps.nil ?_
   refine AGo.ret ?_
   refine ⟨[_], ⟨rfl, trivial⟩, ?_, (dh_sub rfl (by repeat (first | exact trivial | refine ⟨by first | rfl | ((try simp only [hputs]); repeat (first | rfl | exact hput_same _ _ _ | refine hput_skip (by exact beq_false_of_ne (by omega)) ?_ | refine hrm_skip (by omega) ?_ | refine (famW_out _ (fun i_ _ => by first | omega | (dsimp only; omega))).trans ?_)), ?_⟩)) (fun x_ => by dsimp only; rw [hrm_ne _ (by omega)]; exact fam_hi _ _ _))⟩
   show AV.lst false (bC f.blocks.length inn) = _
   rw [bC_bools]
   exact congrArg boolsAV (mrow_congr fun b hb => hM.1.done hs hb)

end Go.Proofs.Ytjmjmedjjbginaa.Sv

namespace Go.Proofs.Ytjmjmedjjbginaa.Sv
open Go

set_option maxRecDepth 100000 in
theorem rnext_ok (f : BFunc) (hn : f.blocks.length ≤ 100000) : APure Try.prog 35 [.agg f.cells] (fun r => r = pathsAV f.nexts) := by
 refine APure.of_body (n := 43) tok Try.func35 rfl rfl ?_
 refine AGo.seq ?_
 refine AGo.region ?_
 refine ax 1 (o_box (sz := 2) 0 rfl rfl rfl rfl (Nat.zero_lt_succ _) rfl) ?_
 refine aa 2 ?_
 refine AOps.nil ?_
 refine AGo.seq ?_
 refine AGo.region ?_
 refine af 6 tok ?_
 refine al 7 tok ?_
 refine aq 8 (q_len tok rfl rfl rfl rfl rfl) ?_
 refine ax 9 (o_makeSlice tok (n := f.blocks.length) (m := f.blocks.length) 1 true rfl rfl rfl (by simp) (by simp) rfl rfl rfl rfl rfl (Nat.zero_lt_succ _) rfl (Nat.le_refl _) (by show 24 * f.blocks.length ≤ _; omega) (by simp only [maxLen]; omega)) ?_
 refine aa 3 ?_
 refine AOps.nil ?_
 refine AGo.seq ?_
 refine AGo.seq ?_
 refine AGo.ghost (Ghost.weakRow 1 (es' := List.replicate f.blocks.length [.lst false []]) rfl (by simp) (weak_nils _)) ?_
 refine AGo.region ?_
 refine aa 4 ?_
 refine AOps.nil ?_
 refine AGo.block ?_
 refine AGo.loopD (γ := Nat) 2 (fun k => ⟨43, (eput (eput (eput eNew 1 (.ptr 0 1 0 0)) 3 (.ref 1 f.blocks.length 0 f.blocks.length)) 4 (.int .i64 (k : Int))), (hput (hput (hFrom 2) 0 (.row false 2 [f.cells])) 1 (.row true 1 (((f.nexts.take (k)).map pathCell) ++ List.replicate (f.blocks.length - (k)) [.lst false []])))⟩) (fun k => k ≤ f.blocks.length) (fun k => f.blocks.length - k) 0 (Sub.mk' (by repeat (first | exact ESub.new _ | refine ESub.put ?_ (by first | rfl | exact congrArg (fun (n : Nat) => some (AV.int .i64 (n : Int))) (by simp)))) (by repeat (first | exact HSub.refl _ | exact HSub.none _ | exact HSub.from_new _ | exact HSub.from_from (by first | decide | omega | (dsimp only; omega)) | refine HSub.put ?_ (by rfl) | refine HSub.from_put ?_ (by first | decide | omega | (dsimp only; omega)) | refine HSub.from_rm ?_ (by decide)))) (Nat.zero_le _) (fun _ => hput_free (hput_free (fun b hb => hFrom_free hb) rfl) rfl) ?_
 intro k hk
 refine AGo.seq ?_
 refine AGo.seq ?_
 refine AGo.region ?_
 refine am 10 ?_
 refine af 11 tok ?_
 refine al 12 tok ?_
 refine aq 13 (q_len tok rfl rfl rfl rfl rfl) ?_
 refine aq 14 (q_bin rfl rfl rfl rfl) ?_
 refine AOps.nil ?_
 refine AGo.split 14 rfl (fun hb1 => ?_) (fun hb1 => ?_)
 ·
  refine AGo.cond_true true rfl rfl ?_
  have hkl : k < f.blocks.length := by simpa using hb1
  obtain ⟨x, hx⟩ := get_of_lt hkl
  have hnx := nexts_get hx
  refine AGo.skip ?_
  refine AGo.seq ?_
  refine AGo.block ?_
  refine AGo.seq ?_
  refine AGo.region ?_
  refine af 17 tok ?_
  refine al 18 tok ?_
  refine am 19 ?_
  refine aq 20 (q_index_lst tok rfl rfl rfl rfl rfl rfl (Int.natCast_nonneg _) (idx_map (by assumption)) rfl) ?_
  refine al 21 tok ?_
  refine ax 5 (o_alloc tok 2 rfl rfl rfl rfl (Nat.zero_lt_succ _) rfl) ?_
  refine AOps.w rfl rfl (o_store tok rfl rfl rfl rfl rfl rfl rfl rfl rfl (by decide) rfl (by first | exact fun _ => rfl | (intro h; cases h))) ?_
  refine AOps.nil ?_
  refine AGo.seq ?_
  refine AGo.seq ?_
  refine AGo.region ?_
  refine af 22 tok ?_
  refine al 23 tok ?_
  refine aq 24 (q_bin rfl rfl rfl rfl) ?_
  refine AOps.nil ?_
  refine AGo.split 24 rfl (fun hb2 => ?_) (fun hb2 => ?_)
  ·
   refine AGo.cond_true true rfl rfl ?_
   have hx1 : x.fin = 1 := by simpa using hb2
   refine AGo.region ?_
   refine am 25 ?_
   refine am 26 ?_
   refine af 27 tok ?_
   refine al 28 tok ?_
   refine ax 29 (o_lit' tok rfl rfl rfl rfl rfl rfl (by decide) rfl rfl rfl rfl rfl rfl) ?_
   refine aq 30 (q_index_ref tok rfl rfl rfl rfl rfl rfl rfl (fill_len (nexts_length f) (Nat.le_of_lt hkl)) rfl (Int.natCast_nonneg _) (by omega)) ?_
   refine AOps.w rfl rfl (o_store tok rfl rfl rfl rfl rfl rfl (fill_len (nexts_length f) (Nat.le_of_lt hkl)) (fill_get (nexts_length f) hkl) rfl (by decide) rfl (by first | exact fun _ => rfl | (intro h; cases h))) ?_
   refine AOps.nil ?_
   refine AGo.seq ?_
   refine AGo.region ?_
   refine af 31 tok ?_
   refine al 32 tok ?_
   refine aq 33 (q_bin (r := .bool false) rfl rfl rfl (by show some (AV.bool (x.fin == 2)) = _; rw [hx1]; rfl)) ?_
   refine AOps.nil ?_
   refine AGo.cond_false false rfl rfl ?_
   refine AGo.skip ?_
   refine AGo.region ?_
   refine am 15 ?_
   refine aq 16 (q_inc rfl rfl hkl (show f.blocks.length ≤ maxLen by simp only [maxLen]; omega)) ?_
   refine aa 4 ?_
   refine AOps.nil ?_
   exact ⟨k+1, Drop.mk' (by repeat (first | exact EDrop.new _ _ | refine EDrop.put ?_ (by rfl) (by first | rfl | exact slA_avoid _ rfl | exact vaA_avoid _ rfl))) (by repeat (first | exact HDrop.none _ _ | exact HDrop.tail _ _ | refine HDrop.put ?_ (by first | rfl | exact congrArg (fun es => some (AObj.row true 1 es)) (fill_put (f := pathCell) (x := [x.to]) (nexts_length f) (by rw [hnx]; simp [Block.nexts, *])) | exact congrArg (fun es => some (AObj.row true 1 es)) (fill_put (f := pathCell) (x := [x.to, x.els]) (nexts_length f) (by rw [hnx]; simp [Block.nexts, *])) | exact congrArg (fun es => some (AObj.row true 1 es)) (fill_skip (f := pathCell) (x := []) (nexts_length f) (by rw [hnx]; simp [Block.nexts, *]) rfl)) rfl (by first | rfl | exact slO_avoid _ _ | exact vaO_avoid _ | exact tab_avoid _ _ rfl rfl | exact wlk_avoid _ _ _ rfl rfl rfl))), hkl, by omega⟩
  ·
   refine AGo.cond_false false rfl rfl ?_
   have hx1 : ¬ x.fin = 1 := by simpa using hb2
   refine AGo.skip ?_
   refine AGo.seq ?_
   refine AGo.region ?_
   refine af 31 tok ?_
   refine al 32 tok ?_
   refine aq 33 (q_bin rfl rfl rfl rfl) ?_
   refine AOps.nil ?_
   refine AGo.split 33 rfl (fun hb3 => ?_) (fun hb3 => ?_)
   ·
    refine AGo.cond_true true rfl rfl ?_
    refine AGo.region ?_
    refine am 34 ?_
    refine am 35 ?_
    refine af 36 tok ?_
    refine al 37 tok ?_
    refine af 38 tok ?_
    refine al 39 tok ?_
    refine ax 40 (o_lit' tok rfl rfl rfl rfl rfl rfl (by decide) rfl rfl rfl rfl rfl rfl) ?_
    refine aq 41 (q_index_ref tok rfl rfl rfl rfl rfl rfl rfl (fill_len (nexts_length f) (Nat.le_of_lt hkl)) rfl (Int.natCast_nonneg _) (by omega)) ?_
    refine AOps.w rfl rfl (o_store tok rfl rfl rfl rfl rfl rfl (fill_len (nexts_length f) (Nat.le_of_lt hkl)) (fill_get (nexts_length f) hkl) rfl (by decide) rfl (by first | exact fun _ => rfl | (intro h; cases h))) ?_
    refine AOps.nil ?_
    refine AGo.region ?_
    refine am 15 ?_
    refine aq 16 (q_inc rfl rfl hkl (show f.blocks.length ≤ maxLen by simp only [maxLen]; omega)) ?_
    refine aa 4 ?_
    refine AOps.nil ?_
    exact ⟨k+1, Drop.mk' (by repeat (first | exact EDrop.new _ _ | refine EDrop.put ?_ (by rfl) (by first | rfl | exact slA_avoid _ rfl | exact vaA_avoid _ rfl))) (by repeat (first | exact HDrop.none _ _ | exact HDrop.tail _ _ | refine HDrop.put ?_ (by first | rfl | exact congrArg (fun es => some (AObj.row true 1 es)) (fill_put (f := pathCell) (x := [x.to]) (nexts_length f) (by rw [hnx]; simp [Block.nexts, *])) | exact congrArg (fun es => some (AObj.row true 1 es)) (fill_put (f := pathCell) (x := [x.to, x.els]) (nexts_length f) (by rw [hnx]; simp [Block.nexts, *])) | exact congrArg (fun es => some (AObj.row true 1 es)) (fill_skip (f := pathCell) (x := []) (nexts_length f) (by rw [hnx]; simp [Block.nexts, *]) rfl)) rfl (by first | rfl | exact slO_avoid _ _ | exact vaO_avoid _ | exact tab_avoid _ _ rfl rfl | exact wlk_avoid _ _ _ rfl rfl rfl))), hkl, by omega⟩
   ·
    refine AGo.cond_false false rfl rfl ?_
    refine AGo.skip ?_
    refine AGo.region ?_
    refine am 15 ?_
    refine aq 16 (q_inc rfl rfl hkl (show f.blocks.length ≤ maxLen by simp only [maxLen]; omega)) ?_
    refine aa 4 ?_
    refine AOps.nil ?_
    exact ⟨k+1, Drop.mk' (by repeat (first | exact EDrop.new _ _ | refine EDrop.put ?_ (by rfl) (by first | rfl | exact slA_avoid _ rfl | exact vaA_avoid _ rfl))) (by repeat (first | exact HDrop.none _ _ | exact HDrop.tail _ _ | refine HDrop.put ?_ (by first | rfl | exact congrArg (fun es => some (AObj.row true 1 es)) (fill_put (f := pathCell) (x := [x.to]) (nexts_length f) (by rw [hnx]; simp [Block.nexts, *])) | exact congrArg (fun es => some (AObj.row true 1 es)) (fill_put (f := pathCell) (x := [x.to, x.els]) (nexts_length f) (by rw [hnx]; simp [Block.nexts, *])) | exact congrArg (fun es => some (AObj.row true 1 es)) (fill_skip (f := pathCell) (x := []) (nexts_length f) (by rw [hnx]; simp [Block.nexts, *]) rfl)) rfl (by first | rfl | exact slO_avoid _ _ | exact vaO_avoid _ | exact tab_avoid _ _ rfl rfl | exact wlk_avoid _ _ _ rfl rfl rfl))), hkl, by omega⟩
 ·
  refine AGo.cond_false false rfl rfl ?_
  have hge : f.blocks.length ≤ k := by simpa using hb1
  refine AGo.exit ?_
  refine AGo.seq ?_
  refine AGo.ghost (.freezeA 3 1 rfl rfl (fill_len (nexts_length f) hk)) ?_
  refine AGo.region ?_
  refine am 42 ?_
  refine aa 2 ?_
  refine AOps.nil ?_
  refine AGo.ret ?_
  refine ⟨[_], ⟨rfl, trivial⟩, ?_, rfl⟩
  have e1 := fill_end (f := pathCell) (z := [.lst false []]) (nexts_length f) hge
  rw [List.drop_zero, List.take_of_length_le (Nat.le_of_eq (fill_len (nexts_length f) hk).symm)] at e1
  show AV.lst false _ = AV.lst false _
  rw [e1]
  rfl

end Go.Proofs.Ytjmjmedjjbginaa.Sv

namespace Go.Proofs.Ytjmjmedjjbginaa.Sv
open Go

theorem idx_pred {α : Type} {l : List α} {f : α → List AV} {k : Nat} {x : α} (h : l[k]? = some x) : (l.map f)[(((k + 1 : Nat) : Int) - 1).toNat]? = some (f x) := by
  rw [show (((k + 1 : Nat) : Int) - 1).toNat = k by omega, List.getElem?_map, h]; rfl
theorem subZ {a : Int} (h1 : -1000000000000 ≤ a) (h2 : a ≤ 1000000000000) : evalBin .sub (.int .i64 a) (.int .i64 1) = some (.int .i64 (a - 1)) := by
  simp only [evalBin, evalInt, isShift, cond_false, if_true]
  rw [wrap_i64 (by omega) (by omega)]
theorem been_set' (l : List Bool) (z : Nat) (v : Bool) : (l.map boolCells).set (0 + z) [AV.bool v] = (l.set z v).map boolCells := by
  rw [Nat.zero_add, List.map_set]; rfl

set_option maxRecDepth 100000 in
theorem rback_ok (t : Tac) (l : List Bool) (hl : l.length ≤ 100000) (ht : t.inR l.length) : APure Try.prog 57 [.agg t.cells, boolsAV l] (fun r => r = boolsAV (backR t l)) := by
 refine APure.of_body (n := 34) tok Try.func57 rfl rfl ?_
 refine AGo.seq ?_
 refine AGo.region ?_
 refine ax 2 (o_box (sz := 8) 0 rfl rfl rfl rfl (Nat.zero_lt_succ _) rfl) ?_
 refine aa 4 ?_
 refine AOps.nil ?_
 refine AGo.seq ?_
 refine AGo.region ?_
 refine ax 9 (o_litRow tok 1 true rfl rfl rfl rfl rfl rfl (by decide) rfl rfl rfl rfl (by first | exact fun _ => rfl | (intro h; cases h)) rfl rfl) ?_
 refine am 10 ?_
 refine ax 11 (o_append tok (b := 1) (es := []) (es2 := (l.map boolCells)) (m := l.length) rfl rfl rfl rfl rfl rfl rfl rfl rfl rfl rfl rfl (Nat.zero_lt_succ _) (.lst _ _) (bools_mem _) (fun _ => bools_pure1 _) (by simp) (by simp only [List.length_nil, Nat.zero_add, List.length_map]; show _ * 1 ≤ _; omega) (by simp only [List.length_nil, Nat.zero_add, List.length_map, maxLen]; omega)) ?_
 refine aa 5 ?_
 refine AOps.nil ?_
 refine AGo.seq ?_
 refine AGo.seq ?_
 refine AGo.region ?_
 refine al 12 tok ?_
 refine ax 13 (o_pure rfl Try.func55 (by kernel_rfl) rfl rfl rfl (sets_ok _)) ?_
 refine aa 6 ?_
 refine AOps.nil ?_
 refine AGo.seq ?_
 refine AGo.region ?_
 refine am 14 ?_
 refine aq 15 (q_bin rfl rfl rfl rfl) ?_
 refine AOps.nil ?_
 refine AGo.split 15 rfl (fun hb1 => ?_) (fun hb1 => ?_)
 ·
  refine AGo.cond_true true rfl rfl ?_
  have hsp := hb1
  have hs0 : 0 ≤ t.sets := by simpa using hsp
  have hsl : t.sets.toNat < l.length := by have := ht.1 (sets_pos hsp); rw [sets_eq (sets_pos hsp)]; omega
  have hs1 : (bif decide (t.sets ≥ 0) then l.set t.sets.toNat false else l) = l.set t.sets.toNat false := by rw [hsp]; rfl
  refine AGo.region ?_
  refine am 16 ?_
  refine am 17 ?_
  refine aq 18 (q_index_ref tok rfl rfl rfl rfl rfl rfl rfl (by simp) rfl hs0 (by omega)) ?_
  refine AOps.w rfl rfl (o_store tok rfl rfl rfl rfl rfl rfl (by simp) (by rw [Nat.zero_add, List.nil_append, List.getElem?_map, List.getElem?_eq_getElem hsl]; rfl) rfl (by decide) rfl (by first | exact fun _ => rfl | (intro h; cases h))) ?_
  refine AOps.nil ?_
  refine AGo.seq ?_
  refine AGo.ghost (.of_sub (Sub.refl _)) ?_
  refine AGo.region ?_
  refine al 19 tok ?_
  refine ax 20 (o_pure rfl Try.func63 (by kernel_rfl) rfl rfl rfl (uses_ok _)) ?_
  refine aa 7 ?_
  refine AOps.nil ?_
  refine AGo.seq ?_
  refine AGo.seq ?_
  refine AGo.region ?_
  refine aa 8 ?_
  refine AOps.nil ?_
  refine AGo.block ?_
  refine AGo.loopD (γ := Nat) 2 (fun k => ⟨34, (eput (eput (eput (eput eNew 2 (.ptr 0 1 0 0)) 5 (.ref 1 l.length 0 l.length)) 7 (intsAV t.uses)) 8 (.int .i64 (k : Int))), (hput (hput (hFrom 2) 0 (.row false 8 [t.cells])) 1 (.row true 1 ((usesAt t l k).map boolCells)))⟩) (fun k => True) (fun k => t.uses.length - k) 0 (Sub.mk' (by repeat (first | exact ESub.new _ | refine ESub.put ?_ (by first | rfl | exact congrArg (fun n => some (AV.ref 1 n 0 n)) (by simp)))) (by repeat (first | exact HSub.refl _ | exact HSub.none _ | exact HSub.from_new _ | exact HSub.from_from (by first | decide | omega | (dsimp only; omega)) | refine HSub.put ?_ (by first | rfl | (refine congrArg (fun es => some (AObj.row true 1 es)) ?_; unfold usesAt; rw [List.take_zero, List.foldl_nil, hs1]; first | rfl | exact been_set' _ _ _)) | refine HSub.from_put ?_ (by first | decide | omega | (dsimp only; omega)) | refine HSub.from_rm ?_ (by decide)))) trivial (fun _ => hput_free (hput_free (fun b hb => hFrom_free hb) rfl) rfl) ?_
  intro k _
  refine AGo.seq ?_
  refine AGo.seq ?_
  refine AGo.region ?_
  refine am 21 ?_
  refine am 22 ?_
  refine aq 23 (q_len tok rfl rfl rfl rfl rfl) ?_
  refine aq 24 (q_bin rfl rfl rfl rfl) ?_
  refine AOps.nil ?_
  refine AGo.split 24 rfl (fun hb2 => ?_) (fun hb2 => ?_)
  ·
   refine AGo.cond_true true rfl rfl ?_
   have hkl : k < t.uses.length := by have h := hb2; simp [intsAV] at h; exact h
   obtain ⟨u, hu⟩ := get_of_lt hkl
   have hub := ht.2 u (List.mem_of_getElem? hu)
   refine AGo.skip ?_
   refine AGo.seq ?_
   refine AGo.block ?_
   refine AGo.region ?_
   refine am 27 ?_
   refine am 28 ?_
   refine am 29 ?_
   refine aq 30 (q_index_lst tok rfl rfl rfl rfl rfl rfl (Int.natCast_nonneg _) (idx_map hu) rfl) ?_
   refine al 31 tok ?_
   refine aq 32 (q_index_ref tok rfl rfl rfl rfl rfl rfl rfl (by rw [List.length_map, usesAt_len]) rfl hub.1 (by omega)) ?_
   refine AOps.w rfl rfl (o_store tok rfl rfl rfl rfl rfl rfl (by rw [List.length_map, usesAt_len]) (by rw [Nat.zero_add, List.getElem?_map, List.getElem?_eq_getElem (by rw [usesAt_len]; omega)]; rfl) rfl (by decide) rfl (by first | exact fun _ => rfl | (intro h; cases h))) ?_
   refine AOps.nil ?_
   refine AGo.region ?_
   refine am 25 ?_
   refine aq 26 (q_inc rfl rfl hkl (by have := uses_len t; simp only [maxLen]; omega)) ?_
   refine aa 8 ?_
   refine AOps.nil ?_
   exact ⟨k+1, Drop.mk' (by repeat (first | exact EDrop.new _ _ | refine EDrop.put ?_ (by rfl) (by first | rfl | exact slA_avoid _ rfl | exact vaA_avoid _ rfl))) (by repeat (first | exact HDrop.none _ _ | exact HDrop.tail _ _ | refine HDrop.put ?_ (by first | rfl | exact congrArg (fun es => some (AObj.row true 1 es)) ((been_set' _ _ _).trans (by rw [usesAt_succ hu]))) rfl (by first | rfl | exact slO_avoid _ _ | exact vaO_avoid _ | exact tab_avoid _ _ rfl rfl | exact wlk_avoid _ _ _ rfl rfl rfl))), trivial, by omega⟩
  ·
   refine AGo.cond_false false rfl rfl ?_
   have hge : t.uses.length ≤ k := by have h := hb2; simp [intsAV] at h; omega
   refine AGo.exit ?_
   refine AGo.seq ?_
   refine AGo.ghost (.freezeA 5 1 rfl rfl (by rw [List.length_map, usesAt_len])) ?_
   refine AGo.region ?_
   refine am 33 ?_
   refine aa 4 ?_
   refine AOps.nil ?_
   refine AGo.ret ?_
   refine ⟨[_], ⟨rfl, trivial⟩, ?_, rfl⟩
   rw [usesAt_end hge]
   rfl
 ·
  refine AGo.cond_false false rfl rfl ?_
  have hsn := hb1
  have hs1 : (bif decide (t.sets ≥ 0) then l.set t.sets.toNat false else l) = l := by rw [hsn]; rfl
  refine AGo.skip ?_
  refine AGo.seq ?_
  refine AGo.ghost (.of_sub (Sub.refl _)) ?_
  refine AGo.region ?_
  refine al 19 tok ?_
  refine ax 20 (o_pure rfl Try.func63 (by kernel_rfl) rfl rfl rfl (uses_ok _)) ?_
  refine aa 7 ?_
  refine AOps.nil ?_
  refine AGo.seq ?_
  refine AGo.seq ?_
  refine AGo.region ?_
  refine aa 8 ?_
  refine AOps.nil ?_
  refine AGo.block ?_
  refine AGo.loopD (γ := Nat) 2 (fun k => ⟨34, (eput (eput (eput (eput eNew 2 (.ptr 0 1 0 0)) 5 (.ref 1 l.length 0 l.length)) 7 (intsAV t.uses)) 8 (.int .i64 (k : Int))), (hput (hput (hFrom 2) 0 (.row false 8 [t.cells])) 1 (.row true 1 ((usesAt t l k).map boolCells)))⟩) (fun k => True) (fun k => t.uses.length - k) 0 (Sub.mk' (by repeat (first | exact ESub.new _ | refine ESub.put ?_ (by first | rfl | exact congrArg (fun n => some (AV.ref 1 n 0 n)) (by simp)))) (by repeat (first | exact HSub.refl _ | exact HSub.none _ | exact HSub.from_new _ | exact HSub.from_from (by first | decide | omega | (dsimp only; omega)) | refine HSub.put ?_ (by first | rfl | (refine congrArg (fun es => some (AObj.row true 1 es)) ?_; unfold usesAt; rw [List.take_zero, List.foldl_nil, hs1]; first | rfl | exact been_set' _ _ _)) | refine HSub.from_put ?_ (by first | decide | omega | (dsimp only; omega)) | refine HSub.from_rm ?_ (by decide)))) trivial (fun _ => hput_free (hput_free (fun b hb => hFrom_free hb) rfl) rfl) ?_
  intro k _
  refine AGo.seq ?_
  refine AGo.seq ?_
  refine AGo.region ?_
  refine am 21 ?_
  refine am 22 ?_
  refine aq 23 (q_len tok rfl rfl rfl rfl rfl) ?_
  refine aq 24 (q_bin rfl rfl rfl rfl) ?_
  refine AOps.nil ?_
  refine AGo.split 24 rfl (fun hb3 => ?_) (fun hb3 => ?_)
  ·
   refine AGo.cond_true true rfl rfl ?_
   have hkl : k < t.uses.length := by have h := hb3; simp [intsAV] at h; exact h
   obtain ⟨u, hu⟩ := get_of_lt hkl
   have hub := ht.2 u (List.mem_of_getElem? hu)
   refine AGo.skip ?_
   refine AGo.seq ?_
   refine AGo.block ?_
   refine AGo.region ?_
   refine am 27 ?_
   refine am 28 ?_
   refine am 29 ?_
   refine aq 30 (q_index_lst tok rfl rfl rfl rfl rfl rfl (Int.natCast_nonneg _) (idx_map hu) rfl) ?_
   refine al 31 tok ?_
   refine aq 32 (q_index_ref tok rfl rfl rfl rfl rfl rfl rfl (by rw [List.length_map, usesAt_len]) rfl hub.1 (by omega)) ?_
   refine AOps.w rfl rfl (o_store tok rfl rfl rfl rfl rfl rfl (by rw [List.length_map, usesAt_len]) (by rw [Nat.zero_add, List.getElem?_map, List.getElem?_eq_getElem (by rw [usesAt_len]; omega)]; rfl) rfl (by decide) rfl (by first | exact fun _ => rfl | (intro h; cases h))) ?_
   refine AOps.nil ?_
   refine AGo.region ?_
   refine am 25 ?_
   refine aq 26 (q_inc rfl rfl hkl (by have := uses_len t; simp only [maxLen]; omega)) ?_
   refine aa 8 ?_
   refine AOps.nil ?_
   exact ⟨k+1, Drop.mk' (by repeat (first | exact EDrop.new _ _ | refine EDrop.put ?_ (by rfl) (by first | rfl | exact slA_avoid _ rfl | exact vaA_avoid _ rfl))) (by repeat (first | exact HDrop.none _ _ | exact HDrop.tail _ _ | refine HDrop.put ?_ (by first | rfl | exact congrArg (fun es => some (AObj.row true 1 es)) ((been_set' _ _ _).trans (by rw [usesAt_succ hu]))) rfl (by first | rfl | exact slO_avoid _ _ | exact vaO_avoid _ | exact tab_avoid _ _ rfl rfl | exact wlk_avoid _ _ _ rfl rfl rfl))), trivial, by omega⟩
  ·
   refine AGo.cond_false false rfl rfl ?_
   have hge : t.uses.length ≤ k := by have h := hb3; simp [intsAV] at h; omega
   refine AGo.exit ?_
   refine AGo.seq ?_
   refine AGo.ghost (.freezeA 5 1 rfl rfl (by rw [List.length_map, usesAt_len])) ?_
   refine AGo.region ?_
   refine am 33 ?_
   refine aa 4 ?_
   refine AOps.nil ?_
   refine AGo.ret ?_
   refine ⟨[_], ⟨rfl, trivial⟩, ?_, rfl⟩
   rw [usesAt_end hge]
   rfl

set_option maxRecDepth 100000 in
theorem rlast_ok1 (x : Block) (l : List Bool) (hl : l.length ≤ 100000) (hv : x.fin = 2 → 0 ≤ x.v ∧ x.v < l.length) : APure Try.prog 56 [.agg x.cells, boolsAV l] (fun r => r = boolsAV (endR x l)) := by
 refine APure.of_body (n := 17) tok Try.func56 rfl rfl ?_
 refine AGo.seq ?_
 refine AGo.region ?_
 refine ax 2 (o_box (sz := 5) 0 rfl rfl rfl rfl (Nat.zero_lt_succ _) rfl) ?_
 refine aa 4 ?_
 refine AOps.nil ?_
 refine AGo.seq ?_
 refine AGo.region ?_
 refine ax 6 (o_litRow tok 1 true rfl rfl rfl rfl rfl rfl (by decide) rfl rfl rfl rfl (by first | exact fun _ => rfl | (intro h; cases h)) rfl rfl) ?_
 refine am 7 ?_
 refine ax 8 (o_append tok (b := 1) (es := []) (es2 := (l.map boolCells)) (m := l.length) rfl rfl rfl rfl rfl rfl rfl rfl rfl rfl rfl rfl (Nat.zero_lt_succ _) (.lst _ _) (bools_mem _) (fun _ => bools_pure1 _) (by simp) (by simp only [List.length_nil, Nat.zero_add, List.length_map]; show _ * 1 ≤ _; omega) (by simp only [List.length_nil, Nat.zero_add, List.length_map, maxLen]; omega)) ?_
 refine aa 5 ?_
 refine AOps.nil ?_
 refine AGo.seq ?_
 refine AGo.seq ?_
 refine AGo.region ?_
 refine af 9 tok ?_
 refine al 10 tok ?_
 refine aq 11 (q_bin rfl rfl rfl rfl) ?_
 refine AOps.nil ?_
 refine AGo.join (γ := Unit) (fun p => ⟨17, (eput eNew 5 (.ref 1 l.length 0 l.length)), (hput hNone 1 (.row true 1 ((endR x l).map boolCells)))⟩) (fun p => True) ?_ ?_
 ·
  refine AGo.split 11 rfl (fun hb1 => ?_) (fun hb1 => ?_)
  ·
   refine AGo.cond_true true rfl rfl ?_
   have hfe := hb1
   have hf2 := hv (by simpa using hfe)
   refine AGo.region ?_
   refine am 12 ?_
   refine af 13 tok ?_
   refine al 14 tok ?_
   refine aq 15 (q_index_ref tok rfl rfl rfl rfl rfl rfl rfl (by simp) rfl hf2.1 (by omega)) ?_
   refine AOps.w rfl rfl (o_store tok rfl rfl rfl rfl rfl rfl (by simp) (by rw [Nat.zero_add, List.nil_append, List.getElem?_map, List.getElem?_eq_getElem (by omega : x.v.toNat < l.length)]; rfl) rfl (by decide) rfl (by first | exact fun _ => rfl | (intro h; cases h))) ?_
   refine AOps.nil ?_
   exact ⟨(), Sub.mk' (by repeat (first | exact ESub.new _ | refine ESub.put ?_ (by first | rfl | exact congrArg (fun n => some (AV.ref 1 n 0 n)) (by simp)))) (by repeat (first | exact HSub.refl _ | exact HSub.none _ | exact HSub.from_new _ | exact HSub.from_from (by first | decide | omega | (dsimp only; omega)) | refine HSub.put ?_ (by first | rfl | (refine congrArg (fun es => some (AObj.row true 1 es)) ?_; unfold endR; rw [hfe]; first | rfl | exact been_set' _ _ _) | ((try simp only [hputs]); repeat (first | rfl | exact hput_same _ _ _ | refine hput_skip (by exact beq_false_of_ne (by omega)) ?_ | refine hrm_skip (by omega) ?_ | refine (famW_out _ (fun i_ _ => by first | omega | (dsimp only; omega))).trans ?_))) | refine HSub.from_put ?_ (by first | decide | omega | (dsimp only; omega)) | refine HSub.from_rm ?_ (by decide))), trivial⟩
  ·
   refine AGo.cond_false false rfl rfl ?_
   have hfe := hb1
   refine AGo.skip ?_
   exact ⟨(), Sub.mk' (by repeat (first | exact ESub.new _ | refine ESub.put ?_ (by first | rfl | exact congrArg (fun n => some (AV.ref 1 n 0 n)) (by simp)))) (by repeat (first | exact HSub.refl _ | exact HSub.none _ | exact HSub.from_new _ | exact HSub.from_from (by first | decide | omega | (dsimp only; omega)) | refine HSub.put ?_ (by first | rfl | (refine congrArg (fun es => some (AObj.row true 1 es)) ?_; unfold endR; rw [hfe]; first | rfl | exact been_set' _ _ _) | ((try simp only [hputs]); repeat (first | rfl | exact hput_same _ _ _ | refine hput_skip (by exact beq_false_of_ne (by omega)) ?_ | refine hrm_skip (by omega) ?_ | refine (famW_out _ (fun i_ _ => by first | omega | (dsimp only; omega))).trans ?_))) | refine HSub.from_put ?_ (by first | decide | omega | (dsimp only; omega)) | refine HSub.from_rm ?_ (by decide))), trivial⟩
 intro _ _
 refine AGo.seq ?_
 refine AGo.ghost (.freezeA 5 1 rfl rfl (by rw [List.length_map, endR_len])) ?_
 refine AGo.region ?_
 refine am 16 ?_
 refine aa 4 ?_
 refine AOps.nil ?_
 refine AGo.ret ?_
 refine ⟨[_], ⟨rfl, trivial⟩, ?_, rfl⟩
 first | rfl | (unfold endR; rw [hfe]; rfl)

set_option maxRecDepth 100000 in
theorem rlast_ok2 (x : Block) (l : List Bool) (z : Nat) (hl : l.length ≤ 100000) (hv : x.fin = 2 → 0 ≤ x.v ∧ x.v < l.length) : ACall Try.prog 56 [.agg x.cells, .ref (z + 16) l.length 0 l.length] (hput hNew (z + 16) (.row true 1 (l.map boolCells))) (fun r h' => r = boolsAV (endR x l) ∧ HSub (hput hNone (z + 16) (.row true 1 (l.map boolCells))) h') := by
 refine ACall.of_body (n := 17) tok Try.func56 rfl rfl ?_
 refine AGo.seq ?_
 refine AGo.region ?_
 refine ax 2 (o_box (sz := 5) 0 rfl rfl rfl rfl (Nat.zero_lt_succ _) rfl) ?_
 refine aa 4 ?_
 refine AOps.nil ?_
 refine AGo.seq ?_
 refine AGo.region ?_
 refine ax 6 (o_litRow tok 1 true rfl rfl rfl rfl rfl rfl (by decide) rfl rfl rfl rfl (by first | exact fun _ => rfl | (intro h; cases h)) rfl rfl) ?_
 refine am 7 ?_
 refine ax 8 (o_append tok (b := 1) (es := []) (es2 := (l.map boolCells)) (m := l.length) rfl rfl rfl rfl rfl rfl rfl rfl rfl rfl rfl rfl (Nat.zero_lt_succ _) (src_ref (p := true) (sz := 1) (es := l.map boolCells) (by (try simp only [hputs]); repeat (first | rfl | exact hput_same _ _ _ | refine hput_skip (by exact beq_false_of_ne (by omega)) ?_ | refine hrm_skip (by omega) ?_ | refine (famW_out _ (fun i_ _ => by first | omega | (dsimp only; omega))).trans ?_)) (by simp)) (bools_mem _) (fun _ => bools_pure1 _) (by simp) (by simp only [List.length_nil, Nat.zero_add, List.length_map]; show _ * 1 ≤ _; omega) (by simp only [List.length_nil, Nat.zero_add, List.length_map, maxLen]; omega)) ?_
 refine aa 5 ?_
 refine AOps.nil ?_
 refine AGo.seq ?_
 refine AGo.seq ?_
 refine AGo.region ?_
 refine af 9 tok ?_
 refine al 10 tok ?_
 refine aq 11 (q_bin rfl rfl rfl rfl) ?_
 refine AOps.nil ?_
 refine AGo.join (γ := Unit) (fun p => ⟨17, (eput eNew 5 (.ref 1 l.length 0 l.length)), (hput (hput hNone (z + 16) (.row true 1 (l.map boolCells))) 1 (.row true 1 ((endR x l).map boolCells)))⟩) (fun p => True) ?_ ?_
 ·
  refine AGo.split 11 rfl (fun hb1 => ?_) (fun hb1 => ?_)
  ·
   refine AGo.cond_true true rfl rfl ?_
   have hfe := hb1
   have hf2 := hv (by simpa using hfe)
   refine AGo.region ?_
   refine am 12 ?_
   refine af 13 tok ?_
   refine al 14 tok ?_
   refine aq 15 (q_index_ref tok rfl rfl rfl rfl rfl rfl rfl (by simp) rfl hf2.1 (by omega)) ?_
   refine AOps.w rfl rfl (o_store tok rfl rfl rfl rfl rfl rfl (by simp) (by rw [Nat.zero_add, List.nil_append, List.getElem?_map, List.getElem?_eq_getElem (by omega : x.v.toNat < l.length)]; rfl) rfl (by decide) rfl (by first | exact fun _ => rfl | (intro h; cases h))) ?_
   refine AOps.nil ?_
   exact ⟨(), Sub.mk' (by repeat (first | exact ESub.new _ | refine ESub.put ?_ (by first | rfl | exact congrArg (fun n => some (AV.ref 1 n 0 n)) (by simp)))) (by repeat (first | exact HSub.refl _ | exact HSub.none _ | exact HSub.from_new _ | exact HSub.from_from (by first | decide | omega | (dsimp only; omega)) | refine HSub.put ?_ (by first | rfl | (refine congrArg (fun es => some (AObj.row true 1 es)) ?_; unfold endR; rw [hfe]; first | rfl | exact been_set' _ _ _) | ((try simp only [hputs]); repeat (first | rfl | exact hput_same _ _ _ | refine hput_skip (by exact beq_false_of_ne (by omega)) ?_ | refine hrm_skip (by omega) ?_ | refine (famW_out _ (fun i_ _ => by first | omega | (dsimp only; omega))).trans ?_))) | refine HSub.from_put ?_ (by first | decide | omega | (dsimp only; omega)) | refine HSub.from_rm ?_ (by decide))), trivial⟩
  ·
   refine AGo.cond_false false rfl rfl ?_
   have hfe := hb1
   refine AGo.skip ?_
   exact ⟨(), Sub.mk' (by repeat (first | exact ESub.new _ | refine ESub.put ?_ (by first | rfl | exact congrArg (fun n => some (AV.ref 1 n 0 n)) (by simp)))) (by repeat (first | exact HSub.refl _ | exact HSub.none _ | exact HSub.from_new _ | exact HSub.from_from (by first | decide | omega | (dsimp only; omega)) | refine HSub.put ?_ (by first | rfl | (refine congrArg (fun es => some (AObj.row true 1 es)) ?_; unfold endR; rw [hfe]; first | rfl | exact been_set' _ _ _) | ((try simp only [hputs]); repeat (first | rfl | exact hput_same _ _ _ | refine hput_skip (by exact beq_false_of_ne (by omega)) ?_ | refine hrm_skip (by omega) ?_ | refine (famW_out _ (fun i_ _ => by first | omega | (dsimp only; omega))).trans ?_))) | refine HSub.from_put ?_ (by first | decide | omega | (dsimp only; omega)) | refine HSub.from_rm ?_ (by decide))), trivial⟩
 intro _ _
 refine AGo.seq ?_
 refine AGo.ghost (.freezeA 5 1 rfl rfl (by rw [List.length_map, endR_len])) ?_
 refine AGo.region ?_
 refine am 16 ?_
 refine aa 4 ?_
 refine AOps.nil ?_
 refine AGo.ret ?_
 refine ⟨[_], ⟨rfl, trivial⟩, ?_, HSub.put (HSub.none _) (by (try simp only [hputs]); repeat (first | rfl | exact hput_same _ _ _ | refine hput_skip (by exact beq_false_of_ne (by omega)) ?_ | refine hrm_skip (by omega) ?_ | refine (famW_out _ (fun i_ _ => by first | omega | (dsimp only; omega))).trans ?_))⟩
 rfl

end Go.Proofs.Ytjmjmedjjbginaa.Sv

namespace Go.Proofs.Ytjmjmedjjbginaa.Sv
open Go

set_option maxRecDepth 100000 in
theorem rahead_ok (x : Block) (l : List Bool) (z : Nat) (hl : l.length ≤ 100000) (hv : x.fin = 2 → 0 ≤ x.v ∧ x.v < l.length) (hi : ∀ t ∈ x.ins, t.inR l.length) (hn : x.ins.length ≤ 1000000) : ACall Try.prog 36 [.agg x.cells, .ref (z + 16) l.length 0 l.length] (hput hNew (z + 16) (AObj.row true 1 (l.map boolCells))) (fun r h' => r = boolsAV (bkAt x l 0) ∧ HSub (hput hNone (z + 16) (AObj.row true 1 (l.map boolCells))) h') := by
 refine ACall.of_body (n := 26) tok Try.func36 rfl rfl ?_
 refine AGo.seq ?_
 refine AGo.region ?_
 refine ax 2 (o_box (sz := 5) 0 rfl rfl rfl rfl (Nat.zero_lt_succ _) rfl) ?_
 refine aa 4 ?_
 refine AOps.nil ?_
 refine AGo.seq ?_
 refine AGo.region ?_
 refine al 7 tok ?_
 refine am 8 ?_
 refine ax 9 (o_callSee (q := (AObj.row true 1 (l.map boolCells))) (z + 16) rfl Try.func56 (by kernel_rfl) rfl rfl (by simp only [List.all_cons, List.all_nil, Bool.and_true]; exact and_both rfl (mem_one _)) (by (try simp only [hputs]); repeat (first | rfl | exact hput_same _ _ _ | refine hput_skip (by exact beq_false_of_ne (by omega)) ?_ | refine hrm_skip (by omega) ?_ | refine (famW_out _ (fun i_ _ => by first | omega | (dsimp only; omega))).trans ?_)) rfl rfl (rlast_ok2 x l z hl hv)) ?_
 refine aa 5 ?_
 refine AOps.nil ?_
 refine AGo.seq ?_
 refine AGo.seq ?_
 refine AGo.region ?_
 refine af 10 tok ?_
 refine al 11 tok ?_
 refine aq 12 (q_len tok rfl rfl rfl rfl rfl) ?_
 refine aq 13 (q_bin (r := .int .i64 ((x.ins.length : Int) - 1)) rfl rfl rfl (by rw [List.length_map]; exact subZ (by omega) (by omega))) ?_
 refine aa 6 ?_
 refine AOps.nil ?_
 refine AGo.block ?_
 refine AGo.loopI (γ := Nat) (fun m => ⟨26, (eput (eput (eput eNew 2 (.ptr 0 1 0 0)) 5 (boolsAV (bkAt x l m))) 6 (.int .i64 ((m : Int) - 1))), (hput (hput hNone (z + 16) (AObj.row true 1 (l.map boolCells))) 0 (.row false 5 [x.cells]))⟩) (fun m => m ≤ x.ins.length) (fun m => m) x.ins.length (Sub.mk' (by repeat (first | exact ESub.new _ | refine ESub.put ?_ (by first | rfl | (rw [bkAt_end (Nat.le_refl _)]; rfl)))) (by repeat (first | exact HSub.refl _ | exact HSub.none _ | exact HSub.from_new _ | exact HSub.from_from (by first | decide | omega | (dsimp only; omega)) | refine HSub.put ?_ (by (try simp only [hputs]); repeat (first | rfl | exact hput_same _ _ _ | refine hput_skip (by exact beq_false_of_ne (by omega)) ?_ | refine hrm_skip (by omega) ?_ | refine (famW_out _ (fun i_ _ => by first | omega | (dsimp only; omega))).trans ?_)) | refine HSub.from_put ?_ (by first | decide | omega | (dsimp only; omega)) | refine HSub.from_rm ?_ (by decide)))) (Nat.le_refl _) ?_
 intro m hm
 refine AGo.seq ?_
 refine AGo.seq ?_
 refine AGo.region ?_
 refine am 14 ?_
 refine aq 15 (q_bin rfl rfl rfl rfl) ?_
 refine AOps.nil ?_
 refine AGo.split 15 rfl (fun hb1 => ?_) (fun hb1 => ?_)
 ·
  refine AGo.cond_true true rfl rfl ?_
  obtain ⟨k, rfl⟩ : ∃ k, m = k + 1 := ⟨m - 1, by have h := hb1; simp at h; omega⟩
  obtain ⟨t, ht⟩ := get_of_lt (l := x.ins) (k := k) (by omega)
  refine AGo.skip ?_
  refine AGo.seq ?_
  refine AGo.block ?_
  refine AGo.region ?_
  refine af 18 tok ?_
  refine al 19 tok ?_
  refine am 20 ?_
  refine aq 21 (q_index_lst tok rfl rfl rfl rfl rfl rfl (by omega) (idx_pred ht) rfl) ?_
  refine al 22 tok ?_
  refine am 23 ?_
  refine ax 24 (o_pure rfl Try.func57 (by kernel_rfl) rfl rfl rfl ((rback_ok t (bkAt x l (k + 1)) (by rw [bkAt_len]; omega) (by rw [bkAt_len]; exact hi t (List.mem_of_getElem? ht))).mono (fun r h => by rw [h, ← bkAt_step ht]))) ?_
  refine aa 5 ?_
  refine AOps.nil ?_
  refine AGo.region ?_
  refine am 16 ?_
  refine aq 17 (q_bin (r := .int .i64 ((k : Int) - 1)) rfl rfl rfl (by have h := subZ (a := ((k + 1 : Nat) : Int) - 1) (by omega) (by omega); rw [show ((k + 1 : Nat) : Int) - 1 - 1 = (k : Int) - 1 by omega] at h; exact h)) ?_
  refine aa 6 ?_
  refine AOps.nil ?_
  exact ⟨k, Sub.mk' (by repeat (first | exact ESub.new _ | refine ESub.put ?_ (by first | rfl))) (by repeat (first | exact HSub.refl _ | exact HSub.none _ | exact HSub.from_new _ | exact HSub.from_from (by first | decide | omega | (dsimp only; omega)) | refine HSub.put ?_ (by (try simp only [hputs]); repeat (first | rfl | exact hput_same _ _ _ | refine hput_skip (by exact beq_false_of_ne (by omega)) ?_ | refine hrm_skip (by omega) ?_ | refine (famW_out _ (fun i_ _ => by first | omega | (dsimp only; omega))).trans ?_)) | refine HSub.from_put ?_ (by first | decide | omega | (dsimp only; omega)) | refine HSub.from_rm ?_ (by decide))), (by omega), (by omega)⟩
 ·
  refine AGo.cond_false false rfl rfl ?_
  have hm0 : m = 0 := by have h := hb1; simp at h; omega
  subst hm0
  refine AGo.exit ?_
  refine AGo.seq ?_
  refine AGo.region ?_
  refine am 25 ?_
  refine aa 4 ?_
  refine AOps.nil ?_
  refine AGo.ret ?_
  refine ⟨[_], ⟨rfl, trivial⟩, rfl, HSub.put (HSub.none _) (by (try simp only [hputs]); repeat (first | rfl | exact hput_same _ _ _ | refine hput_skip (by exact beq_false_of_ne (by omega)) ?_ | refine hrm_skip (by omega) ?_ | refine (famW_out _ (fun i_ _ => by first | omega | (dsimp only; omega))).trans ?_))⟩

end Go.Proofs.Ytjmjmedjjbginaa.Sv

namespace Go.Proofs.Ytjmjmedjjbginaa.Sv
open Go

set_option maxRecDepth 100000 in
theorem rnone_ok2 (n m : Nat) (hn : 0 < n) (hn2 : n ≤ 100000) (hm : m ≤ 100000) : ACall Try.prog 34 [.int .i64 (n : Int), .int .i64 (m : Int)] hNew (fun r h' => r = .ref 2 n 0 n ∧ HSub (hputs hNone ((2, .row false 1 (outerC 0 n m)) :: famW (fun b => 2 * b + 0 + 16) (fun _ => .row true 1 (bcells m (fun _ => false))) n)) h') := by
 refine ACall.of_body (n := 18) tok Try.func34 rfl rfl ?_
 refine AGo.seq ?_
 refine AGo.region ?_
 refine aa 4 ?_
 refine AOps.nil ?_
 refine AGo.seq ?_
 refine AGo.region ?_
 refine aa 5 ?_
 refine AOps.nil ?_
 refine AGo.seq ?_
 refine AGo.seq ?_
 refine AGo.ghost (.weakSlot 5 rfl (fun H ι v h => rel_nil0 h)) ?_
 refine AGo.region ?_
 refine aa 6 ?_
 refine AOps.nil ?_
 refine AGo.block ?_
 refine AGo.loopK (γ := Nat) (kf 3) (fun k => ⟨18, (eput (eput (eput (eput eNew 0 (.int .i64 (n : Int))) 1 (.int .i64 (m : Int))) 5 (slA 2 (outerC 0 k m))) 6 (.int .i64 (k : Int))), (fam (nb [.free, .free, (slP 1 (outerC 0 k m))]) (nFam 0 k m))⟩) (fun k => k ≤ n) (fun k => n - k) 0 (Sub.mk' (by repeat (first | exact ESub.new _ | refine ESub.put ?_ (by rfl))) (famSub (k0 := 3) rfl (by repeat (first | exact trivial | refine ⟨⟨by first | rfl, by first | rfl | exact slP_outer_avoid _ _ _ _⟩, ?_⟩)) (fun x => by rw [nFam_zero]; rfl) (fun c h1 h2 => by rcases (by omega : c = 3 ∨ c = 4 ∨ c = 5 ∨ c = 6 ∨ c = 7 ∨ c = 8 ∨ c = 9 ∨ c = 10 ∨ c = 11 ∨ c = 12 ∨ c = 13 ∨ c = 14 ∨ c = 15) with rfl | rfl | rfl | rfl | rfl | rfl | rfl | rfl | rfl | rfl | rfl | rfl | rfl <;> first | rfl | (try simp only [hputs]; repeat (first | rfl | refine hput_skip (by exact beq_false_of_ne (by omega)) ?_ | refine hrm_skip (by omega) ?_))))) (Nat.zero_le _) (fun g b hb => famFree (k0 := 3) rfl hb) ?_
 intro k hk
 refine AGo.seq ?_
 refine AGo.seq ?_
 refine AGo.region ?_
 refine am 7 ?_
 refine am 8 ?_
 refine aq 9 (q_bin rfl rfl rfl rfl) ?_
 refine AOps.nil ?_
 refine AGo.split 9 rfl (fun hb1 => ?_) (fun hb1 => ?_)
 ·
  refine AGo.cond_true true rfl rfl ?_
  have hkl : k < n := by have h := hb1; simp at h; exact h
  refine AGo.skip ?_
  refine AGo.seq ?_
  refine AGo.block ?_
  refine AGo.region ?_
  refine am 12 ?_
  refine am 13 ?_
  refine ax 14 (o_makeSlice tok (n := m) (m := m) (2 * k + 0 + 16) true rfl rfl rfl rfl rfl rfl rfl rfl ((fam_hi _ _ _).trans (congrArg some (nFam_free (by decide)))) rfl (Nat.zero_lt_succ _) rfl (Nat.le_refl _) (by show 1 * m ≤ _; omega) (by simp only [maxLen]; omega)) ?_
  refine ax 15 (o_litRow tok 5 false rfl rfl rfl rfl rfl rfl (by decide) rfl rfl rfl rfl (by intro h; cases h) rfl rfl) ?_
  refine ax 16 (o_append1S tok (b := 2) (es := (outerC 0 k m)) (x0 := [AV.ref (2 * k + 0 + 16) m 0 m]) rfl rfl rfl rfl rfl rfl rfl rfl rfl rfl rfl (Nat.zero_lt_succ _) (src_ref (p := false) (sz := 1) rfl rfl) rfl (by rw [outerC_len]; show _ * 24 ≤ _; omega) (by rw [outerC_len]; simp only [maxLen]; omega)) ?_
  refine aa 5 ?_
  refine AOps.nil ?_
  refine AGo.region ?_
  refine am 10 ?_
  refine aq 11 (q_inc rfl rfl hkl (by simp only [maxLen]; omega)) ?_
  refine aa 6 ?_
  refine AOps.nil ?_
  exact ⟨k+1, DropK.mk' (by repeat (first | exact EDropK.new _ _ | refine EDropK.put ?_ (by first | rfl | exact congrArg (fun es => some (slA 2 es)) (outerC_succ _ _ _).symm) (by first | rfl | exact slA_avoid _ rfl))) (famDrop (k0 := 3) rfl (by repeat (first | exact trivial | refine ⟨⟨by first | rfl | exact congrArg some (slP_outer _ _ _).symm, by first | rfl | exact slP_outer_avoid _ _ _ _⟩, ?_⟩)) (fun x_ => by (try simp only [hputs]); (repeat (first | refine hput_skip (by exact beq_false_of_ne (by omega)) ?_ | refine hrm_skip (by omega) ?_)); exact (hput_hi (fun y_ => by (try simp only [hputs]); repeat (first | exact fam_hi _ _ _ | refine hput_skip (by exact beq_false_of_ne (by omega)) ?_ | refine hrm_skip (by omega) ?_)) _ _ x_).trans (congrArg some (nFam_succ' (q := 0) (by decide) x_).symm)) (nFam_avoid _ _ _ _)), hkl, by omega⟩
 ·
  refine AGo.cond_false false rfl rfl ?_
  have hge : k = n := by have h := hb1; simp at h; omega
  subst hge
  refine AGo.exit ?_
  refine AGo.seq ?_
  refine AGo.region ?_
  refine am 17 ?_
  refine aa 4 ?_
  refine AOps.nil ?_
  refine AGo.ret ?_
  refine ⟨[_], ⟨rfl, trivial⟩, ?_, none_sub (by decide) (by decide) hn rfl (fun x => fam_hi (nb [.free, .free, slP 1 (outerC 0 k m)]) (nFam 0 k m) x)⟩
  exact outer_ref hn

set_option maxRecDepth 100000 in
theorem rnone_ok3 (n m : Nat) (hn : 0 < n) (hn2 : n ≤ 100000) (hm : m ≤ 100000) : ACall Try.prog 34 [.int .i64 (n : Int), .int .i64 (m : Int)] hNew (fun r h' => r = .ref 3 n 0 n ∧ HSub (hputs hNone ((3, .row false 1 (outerC 1 n m)) :: famW (fun b => 2 * b + 1 + 16) (fun _ => .row true 1 (bcells m (fun _ => false))) n)) h') := by
 refine ACall.of_body (n := 18) tok Try.func34 rfl rfl ?_
 refine AGo.seq ?_
 refine AGo.region ?_
 refine aa 4 ?_
 refine AOps.nil ?_
 refine AGo.seq ?_
 refine AGo.region ?_
 refine aa 5 ?_
 refine AOps.nil ?_
 refine AGo.seq ?_
 refine AGo.seq ?_
 refine AGo.ghost (.weakSlot 5 rfl (fun H ι v h => rel_nil0 h)) ?_
 refine AGo.region ?_
 refine aa 6 ?_
 refine AOps.nil ?_
 refine AGo.block ?_
 refine AGo.loopK (γ := Nat) (kf 4) (fun k => ⟨18, (eput (eput (eput (eput eNew 0 (.int .i64 (n : Int))) 1 (.int .i64 (m : Int))) 5 (slA 3 (outerC 1 k m))) 6 (.int .i64 (k : Int))), (fam (nb [.free, .free, .free, (slP 1 (outerC 1 k m))]) (nFam 1 k m))⟩) (fun k => k ≤ n) (fun k => n - k) 0 (Sub.mk' (by repeat (first | exact ESub.new _ | refine ESub.put ?_ (by rfl))) (famSub (k0 := 4) rfl (by repeat (first | exact trivial | refine ⟨⟨by first | rfl, by first | rfl | exact slP_outer_avoid _ _ _ _⟩, ?_⟩)) (fun x => by rw [nFam_zero]; rfl) (fun c h1 h2 => by rcases (by omega : c = 4 ∨ c = 5 ∨ c = 6 ∨ c = 7 ∨ c = 8 ∨ c = 9 ∨ c = 10 ∨ c = 11 ∨ c = 12 ∨ c = 13 ∨ c = 14 ∨ c = 15) with rfl | rfl | rfl | rfl | rfl | rfl | rfl | rfl | rfl | rfl | rfl | rfl <;> first | rfl | (try simp only [hputs]; repeat (first | rfl | refine hput_skip (by exact beq_false_of_ne (by omega)) ?_ | refine hrm_skip (by omega) ?_))))) (Nat.zero_le _) (fun g b hb => famFree (k0 := 4) rfl hb) ?_
 intro k hk
 refine AGo.seq ?_
 refine AGo.seq ?_
 refine AGo.region ?_
 refine am 7 ?_
 refine am 8 ?_
 refine aq 9 (q_bin rfl rfl rfl rfl) ?_
 refine AOps.nil ?_
 refine AGo.split 9 rfl (fun hb1 => ?_) (fun hb1 => ?_)
 ·
  refine AGo.cond_true true rfl rfl ?_
  have hkl : k < n := by have h := hb1; simp at h; exact h
  refine AGo.skip ?_
  refine AGo.seq ?_
  refine AGo.block ?_
  refine AGo.region ?_
  refine am 12 ?_
  refine am 13 ?_
  refine ax 14 (o_makeSlice tok (n := m) (m := m) (2 * k + 1 + 16) true rfl rfl rfl rfl rfl rfl rfl rfl ((fam_hi _ _ _).trans (congrArg some (nFam_free (by decide)))) rfl (Nat.zero_lt_succ _) rfl (Nat.le_refl _) (by show 1 * m ≤ _; omega) (by simp only [maxLen]; omega)) ?_
  refine ax 15 (o_litRow tok 5 false rfl rfl rfl rfl rfl rfl (by decide) rfl rfl rfl rfl (by intro h; cases h) rfl rfl) ?_
  refine ax 16 (o_append1S tok (b := 3) (es := (outerC 1 k m)) (x0 := [AV.ref (2 * k + 1 + 16) m 0 m]) rfl rfl rfl rfl rfl rfl rfl rfl rfl rfl rfl (Nat.zero_lt_succ _) (src_ref (p := false) (sz := 1) rfl rfl) rfl (by rw [outerC_len]; show _ * 24 ≤ _; omega) (by rw [outerC_len]; simp only [maxLen]; omega)) ?_
  refine aa 5 ?_
  refine AOps.nil ?_
  refine AGo.region ?_
  refine am 10 ?_
  refine aq 11 (q_inc rfl rfl hkl (by simp only [maxLen]; omega)) ?_
  refine aa 6 ?_
  refine AOps.nil ?_
  exact ⟨k+1, DropK.mk' (by repeat (first | exact EDropK.new _ _ | refine EDropK.put ?_ (by first | rfl | exact congrArg (fun es => some (slA 3 es)) (outerC_succ _ _ _).symm) (by first | rfl | exact slA_avoid _ rfl))) (famDrop (k0 := 4) rfl (by repeat (first | exact trivial | refine ⟨⟨by first | rfl | exact congrArg some (slP_outer _ _ _).symm, by first | rfl | exact slP_outer_avoid _ _ _ _⟩, ?_⟩)) (fun x_ => by (try simp only [hputs]); (repeat (first | refine hput_skip (by exact beq_false_of_ne (by omega)) ?_ | refine hrm_skip (by omega) ?_)); exact (hput_hi (fun y_ => by (try simp only [hputs]); repeat (first | exact fam_hi _ _ _ | refine hput_skip (by exact beq_false_of_ne (by omega)) ?_ | refine hrm_skip (by omega) ?_)) _ _ x_).trans (congrArg some (nFam_succ' (q := 1) (by decide) x_).symm)) (nFam_avoid _ _ _ _)), hkl, by omega⟩
 ·
  refine AGo.cond_false false rfl rfl ?_
  have hge : k = n := by have h := hb1; simp at h; omega
  subst hge
  refine AGo.exit ?_
  refine AGo.seq ?_
  refine AGo.region ?_
  refine am 17 ?_
  refine aa 4 ?_
  refine AOps.nil ?_
  refine AGo.ret ?_
  refine ⟨[_], ⟨rfl, trivial⟩, ?_, none_sub (by decide) (by decide) hn rfl (fun x => fam_hi (nb [.free, .free, .free, slP 1 (outerC 1 k m)]) (nFam 1 k m) x)⟩
  exact outer_ref hn

end Go.Proofs.Ytjmjmedjjbginaa.Sv

namespace Go.Proofs.Ytjmjmedjjbginaa.Sv
open Go

set_option maxHeartbeats 2000000 in
set_option maxRecDepth 100000 in
theorem rlive_ok (f : BFunc) (hs : f.sane) (hn : 0 < f.blocks.length) (hn2 : f.blocks.length ≤ 100000) (hr : f.regs ≤ 100000) (hi : ∀ x ∈ f.blocks, x.ins.length ≤ 100000) : APure Try.prog 18 [.agg f.cells] (fun r => r = .agg [rowsAV (inRows f), rowsAV (outRows f)]) := by
 have hr0 := hs.regs
 obtain ⟨R, hR⟩ : ∃ R : Nat, f.regs = (R : Int) := ⟨f.regs.toNat, by omega⟩
 have hRt : R = f.regs.toNat := by omega
 have hR2 : R ≤ 100000 := by omega
 refine APure.of_body (n := 119) tok Try.func18 rfl rfl ?_
 refine AGo.seq ?_
 refine AGo.region ?_
 refine ax 1 (o_box (sz := 2) 0 rfl rfl rfl rfl (Nat.zero_lt_succ _) rfl) ?_
 refine ax 2 (o_alloc tok 1 rfl rfl rfl rfl (Nat.zero_lt_succ _) rfl) ?_
 refine AOps.nil ?_
 refine AGo.seq ?_
 refine AGo.region ?_
 refine af 12 tok ?_
 refine al 13 tok ?_
 refine aq 14 (q_len tok rfl rfl rfl rfl rfl) ?_
 refine aa 3 ?_
 refine AOps.nil ?_
 refine AGo.seq ?_
 refine AGo.draw mix ?_
 refine dm 15 ?_
 refine df 16 tok ?_
 refine dl 17 tok ?_
 refine dx 18 (o_callFam (r := .ref 2 f.blocks.length 0 f.blocks.length) 2 f.blocks.length (fun b => 2 * b + 0 + 16) (AObj.row false 1 (outerC 0 f.blocks.length R)) (fun _ => AObj.row true 1 (bcells R (fun _ => false))) rfl Try.func34 (by kernel_rfl) rfl rfl (fun _ => rfl) (fun i j h => by first | omega | (dsimp only at h; omega)) (fun i => by first | omega | (dsimp only; omega)) (by (try simp only [hputs]); repeat (first | rfl | exact hput_same _ _ _ | refine hput_skip (by exact beq_false_of_ne (by omega)) ?_ | refine hrm_skip (by omega) ?_ | refine (famW_out _ (fun i_ _ => by first | omega | (dsimp only; omega))).trans ?_)) (fun i _ => by (try simp only [hputs]); repeat (first | rfl | exact hput_same _ _ _ | refine hput_skip (by exact beq_false_of_ne (by omega)) ?_ | refine hrm_skip (by omega) ?_ | refine (famW_out _ (fun i_ _ => by first | omega | (dsimp only; omega))).trans ?_)) (outerC_avoid' rfl (fun i hi => mem_iff.2 (List.mem_cons_of_mem _ (famL_mem.2 ⟨i, hi, rfl⟩)))) (fun _ _ => rfl) (by show mem _ _ = true; exact mem_iff.2 (by simp)) (by rw [hR, List.length_map]; exact rnone_ok2 f.blocks.length R hn hn2 hR2)) ?_
 refine dm 19 ?_
 refine df 20 tok ?_
 refine dq 21 (q_load tok rfl rfl rfl (.ptr _ _ _ _ false 2 [f.cells] f.cells (by (try simp only [hputs]); repeat (first | rfl | exact hput_same _ _ _ | refine hput_skip (by exact beq_false_of_ne (by omega)) ?_ | refine hrm_skip (by omega) ?_ | refine (famW_out _ (fun i_ _ => by first | omega | (dsimp only; omega))).trans ?_)) rfl rfl) rfl) ?_
 refine dx 22 (o_callFam (r := .ref 3 f.blocks.length 0 f.blocks.length) 3 f.blocks.length (fun b => 2 * b + 1 + 16) (AObj.row false 1 (outerC 1 f.blocks.length R)) (fun _ => AObj.row true 1 (bcells R (fun _ => false))) rfl Try.func34 (by kernel_rfl) rfl rfl (fun _ => rfl) (fun i j h => by first | omega | (dsimp only at h; omega)) (fun i => by first | omega | (dsimp only; omega)) (by (try simp only [hputs]); repeat (first | rfl | exact hput_same _ _ _ | refine hput_skip (by exact beq_false_of_ne (by omega)) ?_ | refine hrm_skip (by omega) ?_ | refine (famW_out _ (fun i_ _ => by first | omega | (dsimp only; omega))).trans ?_)) (fun i _ => by (try simp only [hputs]); repeat (first | rfl | exact hput_same _ _ _ | refine hput_skip (by exact beq_false_of_ne (by omega)) ?_ | refine hrm_skip (by omega) ?_ | refine (famW_out _ (fun i_ _ => by first | omega | (dsimp only; omega))).trans ?_)) (outerC_avoid' rfl (fun i hi => mem_iff.2 (List.mem_cons_of_mem _ (famL_mem.2 ⟨i, hi, rfl⟩)))) (fun _ _ => rfl) (by show mem _ _ = true; exact mem_iff.2 (by simp)) (by rw [hR, List.length_map]; exact rnone_ok3 f.blocks.length R hn hn2 hR2)) ?_
 refine dq 23 (q_build tok rfl rfl rfl rfl rfl (by decide) rfl rfl rfl) ?_
 refine dx 4 (o_alloc tok 4 rfl rfl (by (try simp only [hputs]); repeat (first | rfl | exact hput_same _ _ _ | refine hput_skip (by exact beq_false_of_ne (by omega)) ?_ | refine hrm_skip (by omega) ?_ | refine (famW_out _ (fun i_ _ => by first | omega | (dsimp only; omega))).trans ?_)) rfl (Nat.zero_lt_succ _) rfl) ?_
 refine DOps.w rfl rfl (o_store tok (p := false) (sz := 2) (es := [[.nil, .nil]]) rfl rfl rfl rfl rfl (by (try simp only [hputs]); repeat (first | rfl | exact hput_same _ _ _ | refine hput_skip (by exact beq_false_of_ne (by omega)) ?_ | refine hrm_skip (by omega) ?_ | refine (famW_out _ (fun i_ _ => by first | omega | (dsimp only; omega))).trans ?_)) rfl rfl rfl (by decide) rfl (by intro h; cases h)) ?_
 refine DOps.nilC cls2 [([],[]),([0],[]),([0],[]),([2,16],[2,16]),([],[]),([0],[]),([0],[]),([3,17],[3,17]),([],[]),([4],[4]),([4],[4])] (by repeat (first | exact trivial | refine ⟨(by first | exact cls_nil _ _ | exact (show clsIn cls2 [4] [4] from cls_one (by decide)) | exact cls_one (by decide) | exact cls_fam (by decide) (fun i => by first | rw [cls2_ev]; decide | rw [cls2_od]; decide) | exact cls_famW (by decide) (fun i => by first | rw [cls2_ev]; decide | rw [cls2_od]; decide)), (by first | exact cls_nil _ _ | exact (show clsIn cls2 [4] [4] from cls_one (by decide)) | exact cls_one (by decide) | exact cls_fam (by decide) (fun i => by first | rw [cls2_ev]; decide | rw [cls2_od]; decide) | exact cls_famW (by decide) (fun i => by first | rw [cls2_ev]; decide | rw [cls2_od]; decide)), ?_⟩)) (by kernel_rfl) ?_
 refine AGo.seq ?_
 refine AGo.sub (s' := ⟨119, (eput (eput (eput (eput eNew 1 (.ptr 0 1 0 0)) 2 (.ptr 1 1 0 0)) 3 (.int .i64 (f.blocks.length : Int))) 4 (.ptr 4 1 0 0)), fam (nb [(.row false 2 [f.cells]), (.row false 2 [[.nil, .nil]]), (.row false 1 (outerC 0 f.blocks.length R)), (.row false 1 (outerC 1 f.blocks.length R)), (.row false 2 [[.ref 2 f.blocks.length 0 f.blocks.length, .ref 3 f.blocks.length 0 f.blocks.length]])]) (FIO f.blocks.length R (fun _ _ => false) (fun _ _ => false))⟩) (Sub.mk' (by repeat (first | exact ESub.new _ | refine ESub.put ?_ (by first | rfl | exact congrArg (fun (n : Nat) => some (AV.int .i64 (n : Int))) (by simp)))) (famSub (k0 := 5) rfl (by repeat (first | exact trivial | refine ⟨⟨by (try simp only [hputs]); repeat (first | rfl | exact hput_same _ _ _ | refine hput_skip (by exact beq_false_of_ne (by omega)) ?_ | refine hrm_skip (by omega) ?_ | refine (famW_out _ (fun i_ _ => by first | omega | (dsimp only; omega))).trans ?_), by first | rfl | exact outerC_avoid _ _ _ _⟩, ?_⟩)) (fun x => by simp only [hputs]; (repeat (refine hput_skip (by exact beq_false_of_ne (by omega)) ?_)); exact fio_start x _ _ _ (fun c hc => by repeat (first | rfl | refine hput_skip (by exact beq_false_of_ne (by omega)) ?_))) (fun c h1 h2 => by rcases (by omega : c = 5 ∨ c = 6 ∨ c = 7 ∨ c = 8 ∨ c = 9 ∨ c = 10 ∨ c = 11 ∨ c = 12 ∨ c = 13 ∨ c = 14 ∨ c = 15) with rfl | rfl | rfl | rfl | rfl | rfl | rfl | rfl | rfl | rfl | rfl <;> (try simp only [hputs]); repeat (first | rfl | exact hput_same _ _ _ | refine hput_skip (by exact beq_false_of_ne (by omega)) ?_ | refine hrm_skip (by omega) ?_ | refine (famW_out _ (fun i_ _ => by first | omega | (dsimp only; omega))).trans ?_)))) ?_
 refine AGo.region ?_
 refine al 24 tok ?_
 refine ax 25 (o_pure rfl Try.func35 (by kernel_rfl) rfl rfl rfl (rnext_ok _ (by assumption))) ?_
 refine aa 5 ?_
 refine AOps.nil ?_
 refine AGo.seq ?_
 refine AGo.seq ?_
 refine AGo.region ?_
 refine aa 6 ?_
 refine AOps.nil ?_
 refine AGo.block ?_
 refine AGo.loopK (γ := RG) (kf 5) (fun g => ⟨119, (eput (eput (eput (eput (eput (eput eNew 1 (.ptr 0 1 0 0)) 2 (.ptr 1 1 0 0)) 3 (.int .i64 (f.blocks.length : Int))) 4 (.ptr 4 1 0 0)) 5 (pathsAV f.nexts)) 6 (.bool g.more)), (fam (nb [(.row false 2 [f.cells]), (.row false 2 [[.nil, .nil]]), (.row false 1 (outerC 0 f.blocks.length R)), (.row false 1 (outerC 1 f.blocks.length R)), (.row false 2 [[.ref 2 f.blocks.length 0 f.blocks.length, .ref 3 f.blocks.length 0 f.blocks.length]])]) (FIO f.blocks.length R g.I g.O))⟩) (fun g => RInv f R g) (fun g => rmu f R g) ⟨fun _ _ => false, fun _ _ => false, true⟩ (Sub.mk' (by repeat (first | exact ESub.new _ | refine ESub.put ?_ (by rfl))) (famSub (k0 := 5) rfl (by repeat (first | exact trivial | refine ⟨⟨by rfl, by first | rfl | exact outerC_avoid _ _ _ _⟩, ?_⟩)) (fun x_ => by (try simp only [hputs]); repeat (first | exact fam_hi _ _ _ | refine hput_skip (by exact beq_false_of_ne (by omega)) ?_ | refine hrm_skip (by omega) ?_)) (fun c h1 h2 => by rcases (by omega : c = 5 ∨ c = 6 ∨ c = 7 ∨ c = 8 ∨ c = 9 ∨ c = 10 ∨ c = 11 ∨ c = 12 ∨ c = 13 ∨ c = 14 ∨ c = 15) with rfl | rfl | rfl | rfl | rfl | rfl | rfl | rfl | rfl | rfl | rfl <;> first | rfl | (try simp only [hputs]; repeat (first | rfl | refine hput_skip (by exact beq_false_of_ne (by omega)) ?_ | refine hrm_skip (by omega) ?_))))) (RInv.first f R) (fun g b hb => famFree (k0 := 5) rfl hb) ?_
 intro g hF
 refine AGo.seq ?_
 refine AGo.seq ?_
 refine AGo.region ?_
 refine am 26 ?_
 refine AOps.nil ?_
 refine AGo.split 26 rfl (fun hb1 => ?_) (fun hb1 => ?_)
 ·
  refine AGo.cond_true true rfl rfl ?_
  have hmore : g.more = true := hb1
  refine AGo.skip ?_
  refine AGo.block ?_
  refine AGo.seq ?_
  refine AGo.region ?_
  refine aa 6 ?_
  refine AOps.nil ?_
  refine AGo.seq ?_
  refine AGo.region ?_
  refine am 27 ?_
  refine aq 28 (q_bin (r := .int .i64 ((f.blocks.length : Int) - 1)) rfl rfl rfl (subZ (by omega) (by omega))) ?_
  refine aa 7 ?_
  refine AOps.nil ?_
  refine AGo.block ?_
  refine AGo.loopK (γ := RG × Nat) (kf 5) (fun q => ⟨119, (eput (eput (eput (eput (eput (eput (eput eNew 1 (.ptr 0 1 0 0)) 2 (.ptr 1 1 0 0)) 3 (.int .i64 (f.blocks.length : Int))) 4 (.ptr 4 1 0 0)) 5 (pathsAV f.nexts)) 6 (.bool q.1.more)) 7 (.int .i64 ((q.2 : Int) - 1))), (fam (nb [(.row false 2 [f.cells]), (.row false 2 [[.nil, .nil]]), (.row false 1 (outerC 0 f.blocks.length R)), (.row false 1 (outerC 1 f.blocks.length R)), (.row false 2 [[.ref 2 f.blocks.length 0 f.blocks.length, .ref 3 f.blocks.length 0 f.blocks.length]])]) (FIO f.blocks.length R q.1.I q.1.O))⟩) (fun q => MInv f R (falses f.blocks.length R g.I) q.1 q.2) (fun q => q.2) (⟨g.I, g.O, false⟩, f.blocks.length) (Sub.mk' (by repeat (first | exact ESub.new _ | refine ESub.put ?_ (by rfl))) (famSub (k0 := 5) rfl (by repeat (first | exact trivial | refine ⟨⟨by rfl, by first | rfl | exact outerC_avoid _ _ _ _⟩, ?_⟩)) (fun x_ => by (try simp only [hputs]); repeat (first | exact fam_hi _ _ _ | refine hput_skip (by exact beq_false_of_ne (by omega)) ?_ | refine hrm_skip (by omega) ?_)) (fun c h1 h2 => by rcases (by omega : c = 5 ∨ c = 6 ∨ c = 7 ∨ c = 8 ∨ c = 9 ∨ c = 10 ∨ c = 11 ∨ c = 12 ∨ c = 13 ∨ c = 14 ∨ c = 15) with rfl | rfl | rfl | rfl | rfl | rfl | rfl | rfl | rfl | rfl | rfl <;> first | rfl | (try simp only [hputs]; repeat (first | rfl | refine hput_skip (by exact beq_false_of_ne (by omega)) ?_ | refine hrm_skip (by omega) ?_))))) (MInv.first hF) (fun g b hb => famFree (k0 := 5) rfl hb) ?_
  intro q hM
  refine AGo.seq ?_
  refine AGo.seq ?_
  refine AGo.region ?_
  refine am 29 ?_
  refine aq 30 (q_bin rfl rfl rfl rfl) ?_
  refine AOps.nil ?_
  refine AGo.split 30 rfl (fun hb2 => ?_) (fun hb2 => ?_)
  ·
   refine AGo.cond_true true rfl rfl ?_
   obtain ⟨b, hq2⟩ : ∃ b, q.2 = b + 1 := ⟨q.2 - 1, by have h := hb2; simp at h; omega⟩
   rw [hq2] at hM
   have hbn : b < f.blocks.length := by have := hM.kn; omega
   obtain ⟨x, hx⟩ := get_of_lt hbn
   have hxm := List.mem_of_getElem? hx
   rw [hq2, show (((b + 1 : Nat) : Int) - 1) = (b : Int) by omega]
   refine AGo.skip ?_
   refine AGo.seq ?_
   refine AGo.block ?_
   refine AGo.seq ?_
   refine AGo.seq ?_
   refine AGo.region ?_
   refine aa 8 ?_
   refine AOps.nil ?_
   refine AGo.block ?_
   refine AGo.loopK (γ := BB × Nat) (kf 5) (fun p => ⟨119, (eput (eput (eput (eput (eput (eput (eput (eput eNew 1 (.ptr 0 1 0 0)) 2 (.ptr 1 1 0 0)) 3 (.int .i64 (f.blocks.length : Int))) 4 (.ptr 4 1 0 0)) 5 (pathsAV f.nexts)) 6 (.bool q.1.more)) 7 (.int .i64 (b : Int))) 8 (.int .i64 (p.2 : Int))), (fam (nb [(.row false 2 [f.cells]), (.row false 2 [[.nil, .nil]]), (.row false 1 (outerC 0 f.blocks.length R)), (.row false 1 (outerC 1 f.blocks.length R)), (.row false 2 [[.ref 2 f.blocks.length 0 f.blocks.length, .ref 3 f.blocks.length 0 f.blocks.length]])]) (FIO f.blocks.length R q.1.I p.1))⟩) (fun p => OInv f R q.1.I q.1.O b x p.1 p.2 0) (fun p => x.nexts.length - p.2) (q.1.O, 0) (Sub.mk' (by repeat (first | exact ESub.new _ | refine ESub.put ?_ (by rfl))) (famSub (k0 := 5) rfl (by repeat (first | exact trivial | refine ⟨⟨by rfl, by first | rfl | exact outerC_avoid _ _ _ _⟩, ?_⟩)) (fun x_ => by (try simp only [hputs]); repeat (first | exact fam_hi _ _ _ | refine hput_skip (by exact beq_false_of_ne (by omega)) ?_ | refine hrm_skip (by omega) ?_)) (fun c h1 h2 => by rcases (by omega : c = 5 ∨ c = 6 ∨ c = 7 ∨ c = 8 ∨ c = 9 ∨ c = 10 ∨ c = 11 ∨ c = 12 ∨ c = 13 ∨ c = 14 ∨ c = 15) with rfl | rfl | rfl | rfl | rfl | rfl | rfl | rfl | rfl | rfl | rfl <;> first | rfl | (try simp only [hputs]; repeat (first | rfl | refine hput_skip (by exact beq_false_of_ne (by omega)) ?_ | refine hrm_skip (by omega) ?_))))) (OInv.first hM.so) (fun g b hb => famFree (k0 := 5) rfl hb) ?_
   intro p hO
   refine AGo.seq ?_
   refine AGo.seq ?_
   refine AGo.region ?_
   refine am 33 ?_
   refine am 34 ?_
   refine am 35 ?_
   refine aq 36 (q_index_lst tok rfl rfl rfl rfl rfl rfl (Int.natCast_nonneg _) (idx_map (nexts_get hx)) rfl) ?_
   refine al 37 tok ?_
   refine aq 38 (q_len tok rfl rfl rfl rfl rfl) ?_
   refine aq 39 (q_bin rfl rfl rfl rfl) ?_
   refine AOps.nil ?_
   refine AGo.split 39 rfl (fun hb3 => ?_) (fun hb3 => ?_)
   ·
    refine AGo.cond_true true rfl rfl ?_
    have hjl : p.2 < x.nexts.length := by have h := hb3; simp [intsAV] at h; exact h
    obtain ⟨d, hd⟩ := get_of_lt hjl
    have hd0 := hs.next x hxm d (List.mem_of_getElem? hd)
    have hdn : d.toNat < f.blocks.length := by omega
    refine AGo.skip ?_
    refine AGo.seq ?_
    refine AGo.block ?_
    refine AGo.seq ?_
    refine AGo.region ?_
    refine aa 9 ?_
    refine AOps.nil ?_
    refine AGo.block ?_
    refine AGo.loopK (γ := BB × Nat) (kf 5) (fun r => ⟨119, (eput (eput (eput (eput (eput (eput (eput (eput (eput eNew 1 (.ptr 0 1 0 0)) 2 (.ptr 1 1 0 0)) 3 (.int .i64 (f.blocks.length : Int))) 4 (.ptr 4 1 0 0)) 5 (pathsAV f.nexts)) 6 (.bool q.1.more)) 7 (.int .i64 (b : Int))) 8 (.int .i64 (p.2 : Int))) 9 (.int .i64 (r.2 : Int))), (fam (nb [(.row false 2 [f.cells]), (.row false 2 [[.nil, .nil]]), (.row false 1 (outerC 0 f.blocks.length R)), (.row false 1 (outerC 1 f.blocks.length R)), (.row false 2 [[.ref 2 f.blocks.length 0 f.blocks.length, .ref 3 f.blocks.length 0 f.blocks.length]])]) (FIO f.blocks.length R q.1.I r.1))⟩) (fun r => OInv f R q.1.I q.1.O b x r.1 p.2 r.2 ∧ r.2 ≤ R) (fun r => R - r.2) (p.1, 0) (Sub.mk' (by repeat (first | exact ESub.new _ | refine ESub.put ?_ (by rfl))) (famSub (k0 := 5) rfl (by repeat (first | exact trivial | refine ⟨⟨by rfl, by first | rfl | exact outerC_avoid _ _ _ _⟩, ?_⟩)) (fun x_ => by (try simp only [hputs]); repeat (first | exact fam_hi _ _ _ | refine hput_skip (by exact beq_false_of_ne (by omega)) ?_ | refine hrm_skip (by omega) ?_)) (fun c h1 h2 => by rcases (by omega : c = 5 ∨ c = 6 ∨ c = 7 ∨ c = 8 ∨ c = 9 ∨ c = 10 ∨ c = 11 ∨ c = 12 ∨ c = 13 ∨ c = 14 ∨ c = 15) with rfl | rfl | rfl | rfl | rfl | rfl | rfl | rfl | rfl | rfl | rfl <;> first | rfl | (try simp only [hputs]; repeat (first | rfl | refine hput_skip (by exact beq_false_of_ne (by omega)) ?_ | refine hrm_skip (by omega) ?_))))) ⟨hO, Nat.zero_le _⟩ (fun g b hb => famFree (k0 := 5) rfl hb) ?_
    intro r hOr
    refine AGo.seq ?_
    refine AGo.seq ?_
    refine AGo.region ?_
    refine am 42 ?_
    refine af 43 tok ?_
    refine al 44 tok ?_
    refine aq 45 (q_bin rfl rfl rfl rfl) ?_
    refine AOps.nil ?_
    refine AGo.split 45 rfl (fun hb4 => ?_) (fun hb4 => ?_)
    ·
     refine AGo.cond_true true rfl rfl ?_
     have hvl : r.2 < R := by have h := hb4; rw [hR] at h; simp at h; exact h
     refine AGo.skip ?_
     refine AGo.seq ?_
     refine AGo.block ?_
     refine AGo.draw mix ?_
     refine df 48 tok ?_
     refine dl 49 tok ?_
     refine dm 50 ?_
     refine dq 51 (q_index_ref tok rfl rfl rfl rfl rfl rfl rfl (outerC_len _ _ _).symm rfl (Int.natCast_nonneg _) (by omega)) ?_
     refine dq 52 (q_load tok rfl rfl rfl (.ptr _ _ _ _ _ _ _ [AV.ref (2 * b + 1 + 16) R 0 R] rfl (outerC_len _ _ _).symm (by rw [Nat.zero_add]; exact outerC_get (by omega))) rfl) ?_
     refine dm 53 ?_
     refine df 54 tok ?_
     refine dl 55 tok ?_
     refine dm 56 ?_
     refine dq 57 (q_index_ref tok rfl rfl rfl rfl rfl rfl rfl (outerC_len _ _ _).symm rfl (Int.natCast_nonneg _) (by omega)) ?_
     refine dq 58 (q_load tok rfl rfl rfl (.ptr _ _ _ _ _ _ _ [AV.ref (2 * b + 1 + 16) R 0 R] rfl (outerC_len _ _ _).symm (by rw [Nat.zero_add]; exact outerC_get (by omega))) rfl) ?_
     refine dm 59 ?_
     refine dq 60 (q_index_ref tok rfl rfl rfl rfl rfl rfl ((fam_hi _ _ _).trans (congrArg some (fio_out hbn))) (bcells_len _ _).symm rfl (Int.natCast_nonneg _) (by omega)) ?_
     refine dq 61 (q_load tok rfl rfl rfl (.ptr _ _ _ _ _ _ _ [AV.bool (r.1 b r.2)] ((fam_hi _ _ _).trans (congrArg some (fio_out hbn))) (bcells_len _ _).symm (by rw [Nat.zero_add, Int.toNat_natCast]; exact bcells_get (by omega))) rfl) ?_
     refine dm 62 ?_
     refine DOps.split 62 rfl (fun hb5 => ?_) (fun hb5 => ?_)
     ·
      refine dk 63 ?_
      refine dk 64 ?_
      refine dk 65 ?_
      refine dk 66 ?_
      refine dk 67 ?_
      refine dk 68 ?_
      refine dk 69 ?_
      refine dk 70 ?_
      refine dk 71 ?_
      refine dk 72 ?_
      refine dk 73 ?_
      refine dk 74 ?_
      refine dk 75 ?_
      refine dk 76 ?_
      have hz := hb5
      refine dq 77 (q_pick_true true rfl rfl rfl rfl) ?_
      refine dq 78 (q_index_ref tok rfl rfl rfl rfl rfl rfl ((fam_hi _ _ _).trans (congrArg some (fio_out hbn))) (bcells_len _ _).symm rfl (Int.natCast_nonneg _) (by omega)) ?_
      refine DOps.w rfl rfl (o_store tok (es := bcells R (r.1 b)) (cs := [AV.bool (r.1 b r.2)]) rfl rfl rfl rfl rfl ((fam_hi _ _ _).trans (congrArg some (fio_out hbn))) (bcells_len _ _).symm (by rw [Nat.zero_add, Int.toNat_natCast]; exact bcells_get (by omega)) rfl (by decide) rfl (by first | exact fun _ => rfl | (intro h; cases h))) ?_
      refine DOps.nil (by kernel_rfl) ?_
      refine AGo.region ?_
      refine am 46 ?_
      refine aq 47 (q_inc rfl rfl hvl (by simp only [maxLen]; omega)) ?_
      refine aa 9 ?_
      refine AOps.nil ?_
      exact ⟨(putBB r.1 b r.2 (r.1 b r.2 || q.1.I d.toNat r.2), r.2 + 1), DropK.mk' (by repeat (first | exact EDropK.new _ _ | refine EDropK.put ?_ (by rfl) (by rfl))) (famDrop (k0 := 5) rfl (by repeat (first | exact trivial | refine ⟨⟨by rfl, by first | rfl | exact outerC_avoid _ _ _ _⟩, ?_⟩)) (fun x_ => by (try simp only [hputs]); (repeat (first | refine hput_skip (by exact beq_false_of_ne (by omega)) ?_ | refine hrm_skip (by omega) ?_)); exact (hput_hi (fun y_ => by (try simp only [hputs]); repeat (first | exact fam_hi _ _ _ | refine hput_skip (by exact beq_false_of_ne (by omega)) ?_ | refine hrm_skip (by omega) ?_)) _ _ x_).trans (congrArg some (fio_putOz (z := (r.1 b r.2 || q.1.I d.toNat r.2)) (z' := true) hbn (by rw [hz]; rfl) x_).symm)) (fio_avoid _ _ _ _ _)), ⟨hOr.1.step hM.si hx hd, hvl⟩, (by show R - (r.2 + 1) < R - r.2; omega)⟩
     ·
      refine df 63 tok ?_
      refine dl 64 tok ?_
      refine dm 65 ?_
      refine dm 66 ?_
      refine dq 67 (q_index_lst tok rfl rfl rfl rfl rfl rfl (Int.natCast_nonneg _) (idx_map (nexts_get hx)) rfl) ?_
      refine dl 68 tok ?_
      refine dm 69 ?_
      refine dq 70 (q_index_lst tok rfl rfl rfl rfl rfl rfl (Int.natCast_nonneg _) (idx_map hd) rfl) ?_
      refine dl 71 tok ?_
      refine dq 72 (q_index_ref tok rfl rfl rfl rfl rfl rfl rfl (outerC_len _ _ _).symm rfl hd0.1 (by omega)) ?_
      refine dq 73 (q_load tok rfl rfl rfl (.ptr _ _ _ _ _ _ _ [AV.ref (2 * d.toNat + 0 + 16) R 0 R] rfl (outerC_len _ _ _).symm (by rw [Nat.zero_add]; exact outerC_get (by omega))) rfl) ?_
      refine dm 74 ?_
      refine dq 75 (q_index_ref tok rfl rfl rfl rfl rfl rfl ((fam_hi _ _ _).trans (congrArg some (fio_in hdn))) (bcells_len _ _).symm rfl (Int.natCast_nonneg _) (by omega)) ?_
      refine dq 76 (q_load tok rfl rfl rfl (.ptr _ _ _ _ _ _ _ [AV.bool (q.1.I d.toNat r.2)] ((fam_hi _ _ _).trans (congrArg some (fio_in hdn))) (bcells_len _ _).symm (by rw [Nat.zero_add, Int.toNat_natCast]; exact bcells_get (by omega))) rfl) ?_
      have hz := hb5
      refine dq 77 (q_pick_false false rfl rfl rfl rfl) ?_
      refine dq 78 (q_index_ref tok rfl rfl rfl rfl rfl rfl ((fam_hi _ _ _).trans (congrArg some (fio_out hbn))) (bcells_len _ _).symm rfl (Int.natCast_nonneg _) (by omega)) ?_
      refine DOps.w rfl rfl (o_store tok (es := bcells R (r.1 b)) (cs := [AV.bool (r.1 b r.2)]) rfl rfl rfl rfl rfl ((fam_hi _ _ _).trans (congrArg some (fio_out hbn))) (bcells_len _ _).symm (by rw [Nat.zero_add, Int.toNat_natCast]; exact bcells_get (by omega)) rfl (by decide) rfl (by first | exact fun _ => rfl | (intro h; cases h))) ?_
      refine DOps.nil (by kernel_rfl) ?_
      refine AGo.region ?_
      refine am 46 ?_
      refine aq 47 (q_inc rfl rfl hvl (by simp only [maxLen]; omega)) ?_
      refine aa 9 ?_
      refine AOps.nil ?_
      exact ⟨(putBB r.1 b r.2 (r.1 b r.2 || q.1.I d.toNat r.2), r.2 + 1), DropK.mk' (by repeat (first | exact EDropK.new _ _ | refine EDropK.put ?_ (by rfl) (by rfl))) (famDrop (k0 := 5) rfl (by repeat (first | exact trivial | refine ⟨⟨by rfl, by first | rfl | exact outerC_avoid _ _ _ _⟩, ?_⟩)) (fun x_ => by (try simp only [hputs]); (repeat (first | refine hput_skip (by exact beq_false_of_ne (by omega)) ?_ | refine hrm_skip (by omega) ?_)); exact (hput_hi (fun y_ => by (try simp only [hputs]); repeat (first | exact fam_hi _ _ _ | refine hput_skip (by exact beq_false_of_ne (by omega)) ?_ | refine hrm_skip (by omega) ?_)) _ _ x_).trans (congrArg some (fio_putOz (z := (r.1 b r.2 || q.1.I d.toNat r.2)) (z' := q.1.I d.toNat r.2) hbn (by rw [hz]; rfl) x_).symm)) (fio_avoid _ _ _ _ _)), ⟨hOr.1.step hM.si hx hd, hvl⟩, (by show R - (r.2 + 1) < R - r.2; omega)⟩
    ·
     refine AGo.cond_false false rfl rfl ?_
     have hvge : R ≤ r.2 := by have h := hb4; rw [hR] at h; simp at h; omega
     refine AGo.exit ?_
     refine AGo.region ?_
     refine am 40 ?_
     refine aq 41 (q_inc rfl rfl hjl (by simp only [maxLen]; have := nexts_le2 x; omega)) ?_
     refine aa 8 ?_
     refine AOps.nil ?_
     exact ⟨(r.1, p.2 + 1), DropK.mk' (by repeat (first | exact EDropK.new _ _ | refine EDropK.put ?_ (by rfl) (by rfl))) (famDrop (k0 := 5) rfl (by repeat (first | exact trivial | refine ⟨⟨by rfl, by first | rfl | exact outerC_avoid _ _ _ _⟩, ?_⟩)) (fun x_ => by (try simp only [hputs]); repeat (first | exact fam_hi _ _ _ | refine hput_skip (by exact beq_false_of_ne (by omega)) ?_ | refine hrm_skip (by omega) ?_)) (fio_avoid _ _ _ _ _)), (hOr.1.next hvge), (by show x.nexts.length - (p.2 + 1) < x.nexts.length - p.2; omega)⟩
   ·
    refine AGo.cond_false false rfl rfl ?_
    have hge : x.nexts.length ≤ p.2 := by have h := hb3; simp [intsAV] at h; omega
    refine AGo.exit ?_
    refine AGo.seq ?_
    refine AGo.draw mix ?_
    refine df 79 tok ?_
    refine dl 80 tok ?_
    refine dm 81 ?_
    refine dq 82 (q_index_lst tok rfl rfl rfl rfl rfl rfl (Int.natCast_nonneg _) (idx_map hx) rfl) ?_
    refine dl 83 tok ?_
    refine df 84 tok ?_
    refine dl 85 tok ?_
    refine dm 86 ?_
    refine dq 87 (q_index_ref tok rfl rfl rfl rfl rfl rfl rfl (outerC_len _ _ _).symm rfl (Int.natCast_nonneg _) (by omega)) ?_
    refine dq 88 (q_load tok rfl rfl rfl (.ptr _ _ _ _ _ _ _ [AV.ref (2 * b + 1 + 16) R 0 R] rfl (outerC_len _ _ _).symm (by rw [Nat.zero_add]; exact outerC_get (by omega))) rfl) ?_
    refine dx 89 (o_callSee (q := AObj.row true 1 ((mrow R (p.1 b)).map boolCells)) (2 * b + 1 + 16) rfl Try.func36 (by kernel_rfl) rfl rfl (by simp only [List.all_cons, List.all_nil, Bool.and_true]; exact and_both rfl (mem_one _)) ((fam_hi _ _ _).trans (congrArg some (fio_out hbn))) rfl rfl (by have h := rahead_ok x (mrow R (p.1 b)) (2 * b + 1) (by rw [mrow_len]; omega) (fun e => by rw [mrow_len, ← hR]; exact hs.fin x hxm e) (fun t ht => by rw [mrow_len, ← hR]; exact hs.low x hxm t ht) (by have := hi x hxm; omega); rw [mrow_len, bkAt_mrow (fun t ht => inR_low (hs.low x hxm t ht)) (fun e => (hs.fin x hxm e).1)] at h; exact h)) ?_
    refine da 10 ?_
    refine DOps.nil (by kernel_rfl) ?_
    refine AGo.seq ?_
    refine AGo.region ?_
    refine aa 11 ?_
    refine AOps.nil ?_
    refine AGo.block ?_
    refine AGo.loopK (γ := BB × Bool × Nat) (kf 5) (fun s => ⟨119, (eput (eput (eput (eput (eput (eput (eput (eput (eput eNew 1 (.ptr 0 1 0 0)) 2 (.ptr 1 1 0 0)) 3 (.int .i64 (f.blocks.length : Int))) 4 (.ptr 4 1 0 0)) 5 (pathsAV f.nexts)) 6 (.bool s.2.1)) 7 (.int .i64 (b : Int))) 10 (boolsAV (mrow R (fun v => need v x.ins (endz x v || p.1 b v))))) 11 (.int .i64 (s.2.2 : Int))), (fam (nb [(.row false 2 [f.cells]), (.row false 2 [[.nil, .nil]]), (.row false 1 (outerC 0 f.blocks.length R)), (.row false 1 (outerC 1 f.blocks.length R)), (.row false 2 [[.ref 2 f.blocks.length 0 f.blocks.length, .ref 3 f.blocks.length 0 f.blocks.length]])]) (FIO f.blocks.length R s.1 p.1))⟩) (fun s => AInv f R (falses f.blocks.length R g.I) q.1 b (fun v => need v x.ins (endz x v || p.1 b v)) s.1 s.2.1 s.2.2 ∧ s.2.2 ≤ R) (fun s => R - s.2.2) (q.1.I, q.1.more, 0) (Sub.mk' (by repeat (first | exact ESub.new _ | refine ESub.put ?_ (by rfl))) (famSub (k0 := 5) rfl (by repeat (first | exact trivial | refine ⟨⟨by rfl, by first | rfl | exact outerC_avoid _ _ _ _⟩, ?_⟩)) (fun x_ => by (try simp only [hputs]); repeat (first | exact fam_hi _ _ _ | refine hput_skip (by exact beq_false_of_ne (by omega)) ?_ | refine hrm_skip (by omega) ?_)) (fun c h1 h2 => by rcases (by omega : c = 5 ∨ c = 6 ∨ c = 7 ∨ c = 8 ∨ c = 9 ∨ c = 10 ∨ c = 11 ∨ c = 12 ∨ c = 13 ∨ c = 14 ∨ c = 15) with rfl | rfl | rfl | rfl | rfl | rfl | rfl | rfl | rfl | rfl | rfl <;> first | rfl | (try simp only [hputs]; repeat (first | rfl | refine hput_skip (by exact beq_false_of_ne (by omega)) ?_ | refine hrm_skip (by omega) ?_))))) ⟨AInv.first hM, Nat.zero_le _⟩ (fun g b hb => famFree (k0 := 5) rfl hb) ?_
    intro s hA
    refine AGo.seq ?_
    refine AGo.seq ?_
    refine AGo.region ?_
    refine am 90 ?_
    refine af 91 tok ?_
    refine al 92 tok ?_
    refine aq 93 (q_bin rfl rfl rfl rfl) ?_
    refine AOps.nil ?_
    refine AGo.split 93 rfl (fun hb6 => ?_) (fun hb6 => ?_)
    ·
     refine AGo.cond_true true rfl rfl ?_
     have hul : s.2.2 < R := by have h := hb6; rw [hR] at h; simp at h; exact h
     refine AGo.skip ?_
     refine AGo.seq ?_
     refine AGo.block ?_
     refine AGo.seq ?_
     refine AGo.region ?_
     refine am 96 ?_
     refine am 97 ?_
     refine aq 98 (q_index_lst tok rfl rfl rfl rfl rfl rfl (Int.natCast_nonneg _) (idx_map (mrow_get (by omega))) rfl) ?_
     refine al 99 tok ?_
     refine am 100 ?_
     refine AOps.split 100 rfl (fun hb7 => ?_) (fun hb7 => ?_)
     ·
      have hpv := hb7
      refine af 101 tok ?_
      refine al 102 tok ?_
      refine am 103 ?_
      refine aq 104 (q_index_ref tok rfl rfl rfl rfl rfl rfl rfl (outerC_len _ _ _).symm rfl (Int.natCast_nonneg _) (by omega)) ?_
      refine aq 105 (q_load tok rfl rfl rfl (.ptr _ _ _ _ _ _ _ [AV.ref (2 * b + 0 + 16) R 0 R] rfl (outerC_len _ _ _).symm (by rw [Nat.zero_add]; exact outerC_get (by omega))) rfl) ?_
      refine am 106 ?_
      refine aq 107 (q_index_ref tok rfl rfl rfl rfl rfl rfl ((fam_hi _ _ _).trans (congrArg some (fio_in hbn))) (bcells_len _ _).symm rfl (Int.natCast_nonneg _) (by omega)) ?_
      refine aq 108 (q_load tok rfl rfl rfl (.ptr _ _ _ _ _ _ _ [AV.bool (s.1 b s.2.2)] ((fam_hi _ _ _).trans (congrArg some (fio_in hbn))) (bcells_len _ _).symm (by rw [Nat.zero_add, Int.toNat_natCast]; exact bcells_get (by omega))) rfl) ?_
      refine aq 109 (q_not rfl rfl) ?_
      refine aq 110 (q_pick_true true rfl rfl rfl rfl) ?_
      refine AOps.nil ?_
      refine AGo.split 110 rfl (fun hb8 => ?_) (fun hb8 => ?_)
      ·
       refine AGo.cond_true true rfl rfl ?_
       have hp : ((fun v => need v x.ins (endz x v || p.1 b v)) s.2.2 && !s.1 b s.2.2) = true := by show (need s.2.2 x.ins (endz x s.2.2 || p.1 b s.2.2) && !s.1 b s.2.2) = true; rw [hpv]; exact hb8
       refine AGo.seq ?_
       refine AGo.region ?_
       refine af 111 tok ?_
       refine al 112 tok ?_
       refine am 113 ?_
       refine aq 114 (q_index_ref tok rfl rfl rfl rfl rfl rfl rfl (outerC_len _ _ _).symm rfl (Int.natCast_nonneg _) (by omega)) ?_
       refine aq 115 (q_load tok rfl rfl rfl (.ptr _ _ _ _ _ _ _ [AV.ref (2 * b + 0 + 16) R 0 R] rfl (outerC_len _ _ _).symm (by rw [Nat.zero_add]; exact outerC_get (by omega))) rfl) ?_
       refine am 116 ?_
       refine aq 117 (q_index_ref tok rfl rfl rfl rfl rfl rfl ((fam_hi _ _ _).trans (congrArg some (fio_in hbn))) (bcells_len _ _).symm rfl (Int.natCast_nonneg _) (by omega)) ?_
       refine AOps.w rfl rfl (o_store tok (es := bcells R (s.1 b)) (cs := [AV.bool (s.1 b s.2.2)]) rfl rfl rfl rfl rfl ((fam_hi _ _ _).trans (congrArg some (fio_in hbn))) (bcells_len _ _).symm (by rw [Nat.zero_add, Int.toNat_natCast]; exact bcells_get (by omega)) rfl (by decide) rfl (by first | exact fun _ => rfl | (intro h; cases h))) ?_
       refine AOps.nil ?_
       refine AGo.region ?_
       refine aa 6 ?_
       refine AOps.nil ?_
       refine AGo.region ?_
       refine am 94 ?_
       refine aq 95 (q_inc rfl rfl hul (by simp only [maxLen]; omega)) ?_
       refine aa 11 ?_
       refine AOps.nil ?_
       exact ⟨(putBB s.1 b s.2.2 true, true, s.2.2 + 1), DropK.mk' (by repeat (first | exact EDropK.new _ _ | refine EDropK.put ?_ (by rfl) (by rfl))) (famDrop (k0 := 5) rfl (by repeat (first | exact trivial | refine ⟨⟨by rfl, by first | rfl | exact outerC_avoid _ _ _ _⟩, ?_⟩)) (fun x_ => by (try simp only [hputs]); (repeat (first | refine hput_skip (by exact beq_false_of_ne (by omega)) ?_ | refine hrm_skip (by omega) ?_)); exact (hput_hi (fun y_ => by (try simp only [hputs]); repeat (first | exact fam_hi _ _ _ | refine hput_skip (by exact beq_false_of_ne (by omega)) ?_ | refine hrm_skip (by omega) ?_)) _ _ x_).trans (congrArg some (fio_putIz (z := true) hbn x_).symm)) (fio_avoid _ _ _ _ _)), ⟨hA.1.put hp hbn hul (live_of_need hO.so hx _), hul⟩, (by show R - (s.2.2 + 1) < R - s.2.2; omega)⟩
      ·
       refine AGo.cond_false false rfl rfl ?_
       have hp : ((fun v => need v x.ins (endz x v || p.1 b v)) s.2.2 && !s.1 b s.2.2) = false := by show (need s.2.2 x.ins (endz x s.2.2 || p.1 b s.2.2) && !s.1 b s.2.2) = false; first | (rw [hpv]; exact hb8) | (rw [hb8]; rfl)
       refine AGo.skip ?_
       refine AGo.region ?_
       refine am 94 ?_
       refine aq 95 (q_inc rfl rfl hul (by simp only [maxLen]; omega)) ?_
       refine aa 11 ?_
       refine AOps.nil ?_
       exact ⟨(s.1, s.2.1, s.2.2 + 1), DropK.mk' (by repeat (first | exact EDropK.new _ _ | refine EDropK.put ?_ (by rfl) (by rfl))) (famDrop (k0 := 5) rfl (by repeat (first | exact trivial | refine ⟨⟨by rfl, by first | rfl | exact outerC_avoid _ _ _ _⟩, ?_⟩)) (fun x_ => by (try simp only [hputs]); repeat (first | exact fam_hi _ _ _ | refine hput_skip (by exact beq_false_of_ne (by omega)) ?_ | refine hrm_skip (by omega) ?_)) (fio_avoid _ _ _ _ _)), ⟨hA.1.skip hp, hul⟩, (by show R - (s.2.2 + 1) < R - s.2.2; omega)⟩
     ·
      refine ak 101 ?_
      refine ak 102 ?_
      refine ak 103 ?_
      refine ak 104 ?_
      refine ak 105 ?_
      refine ak 106 ?_
      refine ak 107 ?_
      refine ak 108 ?_
      refine ak 109 ?_
      refine aq 110 (q_pick_false false rfl rfl rfl rfl) ?_
      refine AOps.nil ?_
      refine AGo.cond_false false rfl rfl ?_
      have hp : ((fun v => need v x.ins (endz x v || p.1 b v)) s.2.2 && !s.1 b s.2.2) = false := by show (need s.2.2 x.ins (endz x s.2.2 || p.1 b s.2.2) && !s.1 b s.2.2) = false; first | (rw [hpv]; exact hb7) | (rw [hb7]; rfl)
      refine AGo.skip ?_
      refine AGo.region ?_
      refine am 94 ?_
      refine aq 95 (q_inc rfl rfl hul (by simp only [maxLen]; omega)) ?_
      refine aa 11 ?_
      refine AOps.nil ?_
      exact ⟨(s.1, s.2.1, s.2.2 + 1), DropK.mk' (by repeat (first | exact EDropK.new _ _ | refine EDropK.put ?_ (by rfl) (by rfl))) (famDrop (k0 := 5) rfl (by repeat (first | exact trivial | refine ⟨⟨by rfl, by first | rfl | exact outerC_avoid _ _ _ _⟩, ?_⟩)) (fun x_ => by (try simp only [hputs]); repeat (first | exact fam_hi _ _ _ | refine hput_skip (by exact beq_false_of_ne (by omega)) ?_ | refine hrm_skip (by omega) ?_)) (fio_avoid _ _ _ _ _)), ⟨hA.1.skip hp, hul⟩, (by show R - (s.2.2 + 1) < R - s.2.2; omega)⟩
    ·
     refine AGo.cond_false false rfl rfl ?_
     have huge : R ≤ s.2.2 := by have h := hb6; rw [hR] at h; simp at h; omega
     refine AGo.exit ?_
     refine AGo.region ?_
     refine am 31 ?_
     refine aq 32 (q_bin (r := .int .i64 ((b : Int) - 1)) rfl rfl rfl (subZ (by omega) (by omega))) ?_
     refine aa 7 ?_
     refine AOps.nil ?_
     exact ⟨(⟨s.1, p.1, s.2.1⟩, b), DropK.mk' (by repeat (first | exact EDropK.new _ _ | refine EDropK.put ?_ (by rfl) (by rfl))) (famDrop (k0 := 5) rfl (by repeat (first | exact trivial | refine ⟨⟨by rfl, by first | rfl | exact outerC_avoid _ _ _ _⟩, ?_⟩)) (fun x_ => by (try simp only [hputs]); repeat (first | exact fam_hi _ _ _ | refine hput_skip (by exact beq_false_of_ne (by omega)) ?_ | refine hrm_skip (by omega) ?_)) (fio_avoid _ _ _ _ _)), (hM.next hx hO hge hA.1 huge), (by show b < b + 1; omega)⟩
  ·
   refine AGo.cond_false false rfl rfl ?_
   have hq0 : q.2 = 0 := by have h := hb2; simp at h; omega
   rw [hq0] at hM
   have hL := hM.last hmore
   refine AGo.exit ?_
   exact ⟨q.1, DropK.mk' (by repeat (first | exact EDropK.new _ _ | refine EDropK.put ?_ (by rfl) (by rfl))) (famDrop (k0 := 5) rfl (by repeat (first | exact trivial | refine ⟨⟨by rfl, by first | rfl | exact outerC_avoid _ _ _ _⟩, ?_⟩)) (fun x_ => by (try simp only [hputs]); repeat (first | exact fam_hi _ _ _ | refine hput_skip (by exact beq_false_of_ne (by omega)) ?_ | refine hrm_skip (by omega) ?_)) (fio_avoid _ _ _ _ _)), hL.1, hL.2⟩
 ·
  refine AGo.cond_false false rfl rfl ?_
  have hmore : g.more = false := hb1
  refine AGo.exit ?_
  refine AGo.seq ?_
  refine AGo.sub (s' := ⟨119, (eput (eput (eput eNew 1 (.ptr 0 1 0 0)) 2 (.ptr 1 1 0 0)) 4 (.ptr 4 1 0 0)), fam (nb [(.row false 2 [f.cells]), (.row false 2 [[.nil, .nil]]), (.row false 1 (outerC 0 f.blocks.length R)), (.row false 1 (outerC 1 f.blocks.length R)), (.row false 2 [[.ref 2 f.blocks.length 0 f.blocks.length, .ref 3 f.blocks.length 0 f.blocks.length]])]) (FIO f.blocks.length R g.I g.O)⟩) (Sub.mk' (by repeat (first | exact ESub.new _ | refine ESub.put ?_ (by rfl))) (HSub.refl _)) ?_
  obtain ⟨h1, gg1, e1, k1⟩ := Ghost.freezeFam (n0 := 119) (e := (eput (eput (eput eNew 1 (.ptr 0 1 0 0)) 2 (.ptr 1 1 0 0)) 4 (.ptr 4 1 0 0))) (q := 0) (R := R) (n := f.blocks.length) (I := g.I) (t := 2) (by decide) f.blocks.length (fam (nb [(.row false 2 [f.cells]), (.row false 2 [[.nil, .nil]]), (.row false 1 (outerC 0 f.blocks.length R)), (.row false 1 (outerC 1 f.blocks.length R)), (.row false 2 [[.ref 2 f.blocks.length 0 f.blocks.length, .ref 3 f.blocks.length 0 f.blocks.length]])]) (FIO f.blocks.length R g.I g.O)) (Nat.le_refl _) rfl (fun b hb => (fam_hi _ _ _).trans (congrArg some (fio_in hb)))
  rw [halfC_all, frozen_in hRt hs hF hmore] at e1
  obtain ⟨h2, gg2, e2, k2⟩ := Ghost.freezeFam (n0 := 119) (e := (eput (eput (eput eNew 1 (.ptr 0 1 0 0)) 2 (.ptr 1 1 0 0)) 4 (.ptr 4 1 0 0))) (q := 1) (R := R) (n := f.blocks.length) (I := g.O) (t := 3) (by decide) f.blocks.length h1 (Nat.le_refl _) ((k1 3 (by decide) (fun b _ => by omega)).trans rfl) (fun b hb => (k1 _ (by omega) (fun c _ => by omega)).trans ((fam_hi _ _ _).trans (congrArg some (fio_out hb))))
  rw [halfC_all, frozen_out hRt hs hF hmore] at e2
  have k12 : ∀ c, c < 16 → c ≠ 2 → c ≠ 3 → h2 c = fam (nb [(.row false 2 [f.cells]), (.row false 2 [[.nil, .nil]]), (.row false 1 (outerC 0 f.blocks.length R)), (.row false 1 (outerC 1 f.blocks.length R)), (.row false 2 [[.ref 2 f.blocks.length 0 f.blocks.length, .ref 3 f.blocks.length 0 f.blocks.length]])]) (FIO f.blocks.length R g.I g.O) c := fun c hc hc2 hc3 => (k2 c hc3 (fun b _ => by omega)).trans (k1 c hc2 (fun b _ => by omega))
  refine AGo.ghost (gg1.trans gg2) ?_
  refine AGo.sub (s' := ⟨119, (eput (eput (eput eNew 1 (.ptr 0 1 0 0)) 2 (.ptr 1 1 0 0)) 4 (.ptr 4 1 0 0)), hput (hput (hput (hput (hput hNone 0 (.row false 2 [f.cells])) 1 (.row false 2 [[.nil, .nil]])) 4 (.row false 2 [[.ref 2 f.blocks.length 0 f.blocks.length, .ref 3 f.blocks.length 0 f.blocks.length]])) 2 (.row false 1 ((inRows f).map rowCell))) 3 (.row false 1 ((outRows f).map rowCell))⟩) (Sub.mk' (by repeat (first | exact ESub.new _ | refine ESub.put ?_ (by rfl))) (HSub.put (HSub.put (HSub.put (HSub.put (HSub.put (HSub.none _) ((k12 0 (by decide) (by decide) (by decide)).trans rfl)) ((k12 1 (by decide) (by decide) (by decide)).trans rfl)) ((k12 4 (by decide) (by decide) (by decide)).trans rfl)) ((k2 2 (by decide) (fun b _ => by omega)).trans e1)) e2)) ?_
  refine AGo.ghost (.plain 2 rfl (rows_pure _)) ?_
  refine AGo.ghost (.plain 3 rfl (rows_pure _)) ?_
  refine AGo.ghost (.freezeCell 4 0 0 2 rfl rfl rfl rfl (by simp [inRows]) (by decide)) ?_
  refine AGo.ghost (.freezeCell 4 0 1 3 rfl rfl rfl rfl (by simp [outRows]) (by decide)) ?_
  refine AGo.region ?_
  refine al 118 tok ?_
  refine AOps.w rfl rfl (o_store tok rfl rfl rfl rfl rfl rfl rfl rfl rfl (by decide) rfl (by first | exact fun _ => rfl | (intro h; cases h))) ?_
  refine AOps.nil ?_
  refine AGo.ret ?_
  refine ⟨[_], ⟨⟨_, _, _, _, rfl, rfl, .ptr _ _ _ _ _ _ _ _ rfl rfl rfl, rfl⟩, trivial⟩, ?_, rfl⟩
  show AV.agg [AV.lst false _, AV.lst false _] = AV.agg [AV.lst false _, AV.lst false _]
  rw [List.drop_zero, List.drop_zero, List.take_of_length_le (by simp [inRows]), List.take_of_length_le (by simp [outRows])]
  rfl

end Go.Proofs.Ytjmjmedjjbginaa.Sv

namespace Go.Proofs.Ytjmjmedjjbginaa.Sv
open Go

def iget (l : List Int) (z : Int) : Int := (l[z.toNat]?).getD 0
def iset (l : List Int) (z v : Int) : List Int := l.set z.toNat v
def bump (w : List Int) (k : Int) : List Int := iset w k (iget w k + 1)
def waysAt (next : List (List Int)) (reach : List Bool) : Nat → List Int
  | 0 => List.replicate next.length 0
  | k + 1 => bif (reach[k]?).getD false then ((next[k]?).getD []).foldl bump (waysAt next reach k) else waysAt next reach k
def waysF (next : List (List Int)) (reach : List Bool) : List Int := waysAt next reach next.length
def takeOf (next : List (List Int)) (reach : List Bool) (i : Nat) (b : Block) : Int :=
  bif (reach[i]?).getD false && (b.fin == 1 && (b.to != 0 && (b.to != (i : Int) && iget (waysF next reach) b.to == 1))) then b.to else -1
def BFunc.takes (f : BFunc) (reach : List Bool) : List Int := f.blocks.zipIdx.map fun p => takeOf f.nexts reach p.2 p.1
def BFunc.takenAt (f : BFunc) (reach : List Bool) : Nat → List Bool
  | 0 => List.replicate f.blocks.length false
  | k + 1 => match f.blocks[k]? with
    | some b => bif takeOf f.nexts reach k b == -1 then f.takenAt reach k else (f.takenAt reach k).set b.to.toNat true
    | none => f.takenAt reach k
def BFunc.leads (f : BFunc) : Prop := ∀ l ∈ f.nexts, ∀ k ∈ l, 0 ≤ k ∧ k < f.blocks.length
def chain (takes : List Int) : Nat → Int → List Int
  | 0, _ => []
  | g + 1, c => bif iget takes c == -1 then [] else iget takes c :: chain takes g (iget takes c)
def ends (takes : List Int) : Nat → Int → Bool
  | 0, c => iget takes c == -1
  | g + 1, c => iget takes c == -1 || ends takes g (iget takes c)
def pathOf (takes : List Int) (i : Int) : List Int := i :: chain takes takes.length i
structure FG2 where
  c : Int
  acc : List Int
  g : Nat
structure FInv2 (takes : List Int) (tgt : List Int) (q : FG2) : Prop where
  c : 0 ≤ q.c ∧ q.c < takes.length
  len : q.acc.length + q.g ≤ takes.length + 1
  fin : ends takes q.g q.c = true
  tgt : q.acc ++ chain takes q.g q.c = tgt
theorem FInv2.first {takes : List Int} {i : Int} (hi : 0 ≤ i ∧ i < takes.length) (he : ends takes takes.length i = true) : FInv2 takes (pathOf takes i) ⟨i, [i], takes.length⟩ := ⟨hi, by show 1 + takes.length ≤ _; omega, he, rfl⟩
theorem FInv2.next {takes : List Int} {tgt : List Int} {q : FG2} (hin : ∀ v ∈ takes, v = -1 ∨ (0 ≤ v ∧ v < takes.length)) (h : FInv2 takes tgt q) (hc : (iget takes q.c != -1) = true) :
    FInv2 takes tgt ⟨iget takes q.c, q.acc ++ [iget takes q.c], q.g - 1⟩ ∧ q.g - 1 < q.g := by
  have hne : (iget takes q.c == -1) = false := by simpa [bne] using hc
  obtain ⟨v, hv⟩ := get_of_lt (l := takes) (k := q.c.toNat) (by have := h.c; omega)
  have hi : iget takes q.c = v := by simp [iget, hv]
  have hlen := h.len
  have hfin := h.fin
  have htgt := h.tgt
  obtain ⟨g, hg⟩ : ∃ g, q.g = g + 1 := by
    cases e : q.g with
    | zero => rw [e] at hfin; simp only [ends, hne] at hfin; cases hfin
    | succ g => exact ⟨g, rfl⟩
  rw [hg] at hfin htgt hlen
  simp only [ends, chain, hne, Bool.false_or, cond_false] at hfin htgt
  rw [hg]
  refine ⟨⟨?_, ?_, hfin, ?_⟩, by simp⟩
  · rcases hin v (List.mem_of_getElem? hv) with e | e
    · rw [hi, e] at hne; simp at hne
    · rw [hi]; exact e
  · simp only [List.length_append, List.length_cons, List.length_nil]
    show q.acc.length + 1 + g ≤ _
    omega
  · show (q.acc ++ [iget takes q.c]) ++ chain takes g (iget takes q.c) = tgt
    rw [List.append_assoc]; exact htgt
theorem FInv2.done {takes : List Int} {tgt : List Int} {q : FG2} (h : FInv2 takes tgt q) (hc : (iget takes q.c != -1) = false) : q.acc = tgt := by
  have hne : (iget takes q.c == -1) = true := by simpa [bne] using hc
  have htgt := h.tgt
  cases e : q.g with
  | zero => rw [e] at htgt; simpa [chain] using htgt
  | succ g => rw [e] at htgt; simpa [chain, hne] using htgt
def BFunc.headOf (f : BFunc) (k : Nat) : Bool := (f.reach[k]?).getD false && !((f.takenAt f.reach f.blocks.length)[k]?).getD false
def BFunc.tk (f : BFunc) : List Int := f.takes f.reach
structure BFunc.tame (f : BFunc) : Prop where
  mild : f.blocks.length ≤ 1000
  ins : ∀ x ∈ f.blocks, x.ins.length ≤ 10000
  leads : f.leads
  ends : ∀ k, f.headOf k = true → ends f.tk f.tk.length k = true
end Go.Proofs.Ytjmjmedjjbginaa.Sv
