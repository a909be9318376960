/-
  WALKS: printed by a program of our own from the code's tree.
-/
import Derived.Test.YtidfabbnobipkaaSp10
import Derived.Test.YtidfabbnobipkaaSvT
namespace Go.Proofs.Ytidfabbnobipkaa.Sv
open Go
set_option linter.unusedVariables false
set_option linter.unusedSimpArgs false

set_option maxRecDepth 100000 in
theorem bits_ok0 (a : Nat) (ha : a < 4294967296) : ACall Try.prog 59 [.int .u32 (a : Int)] (hput hNew 0 .free) (fun r h' => r = .ref 0 32 0 32 ∧ HSub (hput hNone 0 (.row true 1 (natCells (bitsN a 32)))) h') := by
  refine ACall.of_body (n := 18) tok Try.func59 rfl rfl ?_
  refine AGo.seq ?_
  refine AGo.region ?_
  refine AOps.s 2 rfl rfl rfl (q_move (.inr rfl) rfl) ?_
  refine AOps.nil ?_
  refine AGo.seq ?_
  refine AGo.region ?_
  refine AOps.s 3 rfl rfl rfl (q_move (.inr rfl) rfl) ?_
  refine AOps.nil ?_
  refine AGo.seq ?_
  refine AGo.seq ?_
  refine AGo.ghost (.dry 3 0 1 true rfl rfl rfl (by decide)) ?_
  refine AGo.region ?_
  refine AOps.s 4 rfl rfl rfl (q_move (.inr rfl) rfl) ?_
  refine AOps.nil ?_
  refine AGo.block ?_
  refine AGo.loopI (γ := Nat) (fun k => ⟨18, (eput (eput (eput eNew 0 (.int .u32 ((a / 2 ^ k : Nat) : Int))) 3 (.ref 0 k 0 k)) 4 (.int .i64 (k : Int))), (hput hNone 0 (.row true 1 (natCells (bitsN a k))))⟩) (fun k => k ≤ 32) (fun k => 32 - k) 0 (Sub.mk' (by repeat (first | exact ESub.new _ | refine ESub.put ?_ (by first | rfl | exact congrArg (fun (n : Nat) => some (AV.int .u32 (n : Int))) (by simp)))) (by repeat (first | exact HSub.none _ | exact HSub.from_new _ | exact HSub.from_from (by decide) | refine HSub.put ?_ (by rfl) | refine HSub.from_put ?_ (by decide) | refine HSub.from_rm ?_ (by decide)))) (Nat.zero_le _) ?_
  intro k hk
  refine AGo.seq ?_
  refine AGo.seq ?_
  refine AGo.region ?_
  refine AOps.s 5 rfl rfl rfl (q_move (.inl rfl) rfl) ?_
  refine AOps.s 6 rfl rfl rfl (q_bin rfl rfl rfl rfl) ?_
  refine AOps.nil ?_
  refine AGo.split 6 rfl (fun hb1 => ?_) (fun hb1 => ?_)
  · -- True
    refine AGo.cond_true true rfl rfl ?_
    have hkl : k < 32 := by have h := hb1; simp at h; omega
    have hle : a / 2 ^ k ≤ a := Nat.div_le_self _ _
    refine AGo.skip ?_
    refine AGo.seq ?_
    refine AGo.block ?_
    refine AGo.seq ?_
    refine AGo.region ?_
    refine AOps.s 9 rfl rfl rfl (q_move (.inl rfl) rfl) ?_
    refine AOps.s 10 rfl rfl rfl (q_move (.inl rfl) rfl) ?_
    refine AOps.s 11 rfl rfl rfl (q_bin (r := .int .u32 ((a / 2 ^ k % 2 : Nat) : Int)) rfl rfl rfl (ebin_rem (a := a / 2 ^ k) (b := 2) (by decide))) ?_
    refine AOps.s 12 rfl rfl rfl (q_convSame tok rfl rfl rfl rfl rfl (wrapN_i64 (by omega))) ?_
    refine AOps.x 13 rfl rfl rfl (o_lit' tok rfl rfl rfl rfl rfl rfl (by decide) rfl rfl rfl rfl rfl rfl) ?_
    refine AOps.x 14 rfl rfl rfl (o_append tok (n := k) (m := 1) rfl rfl rfl rfl rfl rfl rfl rfl rfl (by simp [natCells_len, bitsN_length]) rfl rfl (Nat.zero_lt_succ _) (.lst _ _) (by intro cs h; simp [partVals] at h; subst h; rfl) (fun _ cs h => by simp [partVals] at h; subst h; rfl) rfl (by simp [natCells_len, bitsN_length, partVals]; show _ * 8 ≤ _; omega) (by simp [natCells_len, bitsN_length, partVals]; simp only [maxLen]; omega)) ?_
    refine AOps.s 3 rfl rfl rfl (q_move (.inr rfl) rfl) ?_
    refine AOps.nil ?_
    refine AGo.region ?_
    refine AOps.s 15 rfl rfl rfl (q_move (.inl rfl) rfl) ?_
    refine AOps.s 16 rfl rfl rfl (q_bin (r := .int .u32 ((a / 2 ^ k / 2 : Nat) : Int)) rfl rfl rfl (ebin_quo (a := a / 2 ^ k) (b := 2) (by decide) (wrapN_u32 (by omega)))) ?_
    refine AOps.s 0 rfl rfl rfl (q_move (.inr rfl) rfl) ?_
    refine AOps.nil ?_
    refine AGo.region ?_
    refine AOps.s 7 rfl rfl rfl (q_move (.inl rfl) rfl) ?_
    refine AOps.s 8 rfl rfl rfl (q_inc rfl rfl hkl (show 32 ≤ maxLen by decide)) ?_
    refine AOps.s 4 rfl rfl rfl (q_move (.inr rfl) rfl) ?_
    refine AOps.nil ?_
    exact ⟨k+1, Sub.mk' (by repeat (first | exact ESub.new _ | refine ESub.put ?_ (by first | rfl | exact congrArg (fun (n : Nat) => some (AV.int .u32 (n : Int))) (by rw [Nat.div_div_eq_div_mul, Nat.pow_succ])))) (by repeat (first | exact HSub.none _ | exact HSub.from_new _ | exact HSub.from_from (by decide) | refine HSub.put ?_ (by first | rfl | exact congrArg (fun es => some (AObj.row true 1 es)) (bits_append a k)) | refine HSub.from_put ?_ (by decide) | refine HSub.from_rm ?_ (by decide))), hkl, by omega⟩
  · -- False
    refine AGo.cond_false false rfl rfl ?_
    have hge : ¬ k < 32 := by have h := hb1; simp at h; omega
    refine AGo.exit ?_
    refine AGo.seq ?_
    obtain rfl : k = 32 := by omega
    refine AGo.region ?_
    refine AOps.s 17 rfl rfl rfl (q_move (.inl rfl) rfl) ?_
    refine AOps.s 2 rfl rfl rfl (q_move (.inr rfl) rfl) ?_
    refine AOps.nil ?_
    refine AGo.ret ?_
    refine ⟨[_], ⟨rfl, trivial⟩, rfl, HSub.put (HSub.none _) rfl⟩

set_option maxRecDepth 100000 in
theorem bits_ok1 (a : Nat) (ha : a < 4294967296) : ACall Try.prog 59 [.int .u32 (a : Int)] (hput hNew 1 .free) (fun r h' => r = .ref 1 32 0 32 ∧ HSub (hput hNone 1 (.row true 1 (natCells (bitsN a 32)))) h') := by
  refine ACall.of_body (n := 18) tok Try.func59 rfl rfl ?_
  refine AGo.seq ?_
  refine AGo.region ?_
  refine AOps.s 2 rfl rfl rfl (q_move (.inr rfl) rfl) ?_
  refine AOps.nil ?_
  refine AGo.seq ?_
  refine AGo.region ?_
  refine AOps.s 3 rfl rfl rfl (q_move (.inr rfl) rfl) ?_
  refine AOps.nil ?_
  refine AGo.seq ?_
  refine AGo.seq ?_
  refine AGo.ghost (.dry 3 1 1 true rfl rfl rfl (by decide)) ?_
  refine AGo.region ?_
  refine AOps.s 4 rfl rfl rfl (q_move (.inr rfl) rfl) ?_
  refine AOps.nil ?_
  refine AGo.block ?_
  refine AGo.loopI (γ := Nat) (fun k => ⟨18, (eput (eput (eput eNew 0 (.int .u32 ((a / 2 ^ k : Nat) : Int))) 3 (.ref 1 k 0 k)) 4 (.int .i64 (k : Int))), (hput hNone 1 (.row true 1 (natCells (bitsN a k))))⟩) (fun k => k ≤ 32) (fun k => 32 - k) 0 (Sub.mk' (by repeat (first | exact ESub.new _ | refine ESub.put ?_ (by first | rfl | exact congrArg (fun (n : Nat) => some (AV.int .u32 (n : Int))) (by simp)))) (by repeat (first | exact HSub.none _ | exact HSub.from_new _ | exact HSub.from_from (by decide) | refine HSub.put ?_ (by rfl) | refine HSub.from_put ?_ (by decide) | refine HSub.from_rm ?_ (by decide)))) (Nat.zero_le _) ?_
  intro k hk
  refine AGo.seq ?_
  refine AGo.seq ?_
  refine AGo.region ?_
  refine AOps.s 5 rfl rfl rfl (q_move (.inl rfl) rfl) ?_
  refine AOps.s 6 rfl rfl rfl (q_bin rfl rfl rfl rfl) ?_
  refine AOps.nil ?_
  refine AGo.split 6 rfl (fun hb1 => ?_) (fun hb1 => ?_)
  · -- True
    refine AGo.cond_true true rfl rfl ?_
    have hkl : k < 32 := by have h := hb1; simp at h; omega
    have hle : a / 2 ^ k ≤ a := Nat.div_le_self _ _
    refine AGo.skip ?_
    refine AGo.seq ?_
    refine AGo.block ?_
    refine AGo.seq ?_
    refine AGo.region ?_
    refine AOps.s 9 rfl rfl rfl (q_move (.inl rfl) rfl) ?_
    refine AOps.s 10 rfl rfl rfl (q_move (.inl rfl) rfl) ?_
    refine AOps.s 11 rfl rfl rfl (q_bin (r := .int .u32 ((a / 2 ^ k % 2 : Nat) : Int)) rfl rfl rfl (ebin_rem (a := a / 2 ^ k) (b := 2) (by decide))) ?_
    refine AOps.s 12 rfl rfl rfl (q_convSame tok rfl rfl rfl rfl rfl (wrapN_i64 (by omega))) ?_
    refine AOps.x 13 rfl rfl rfl (o_lit' tok rfl rfl rfl rfl rfl rfl (by decide) rfl rfl rfl rfl rfl rfl) ?_
    refine AOps.x 14 rfl rfl rfl (o_append tok (n := k) (m := 1) rfl rfl rfl rfl rfl rfl rfl rfl rfl (by simp [natCells_len, bitsN_length]) rfl rfl (Nat.zero_lt_succ _) (.lst _ _) (by intro cs h; simp [partVals] at h; subst h; rfl) (fun _ cs h => by simp [partVals] at h; subst h; rfl) rfl (by simp [natCells_len, bitsN_length, partVals]; show _ * 8 ≤ _; omega) (by simp [natCells_len, bitsN_length, partVals]; simp only [maxLen]; omega)) ?_
    refine AOps.s 3 rfl rfl rfl (q_move (.inr rfl) rfl) ?_
    refine AOps.nil ?_
    refine AGo.region ?_
    refine AOps.s 15 rfl rfl rfl (q_move (.inl rfl) rfl) ?_
    refine AOps.s 16 rfl rfl rfl (q_bin (r := .int .u32 ((a / 2 ^ k / 2 : Nat) : Int)) rfl rfl rfl (ebin_quo (a := a / 2 ^ k) (b := 2) (by decide) (wrapN_u32 (by omega)))) ?_
    refine AOps.s 0 rfl rfl rfl (q_move (.inr rfl) rfl) ?_
    refine AOps.nil ?_
    refine AGo.region ?_
    refine AOps.s 7 rfl rfl rfl (q_move (.inl rfl) rfl) ?_
    refine AOps.s 8 rfl rfl rfl (q_inc rfl rfl hkl (show 32 ≤ maxLen by decide)) ?_
    refine AOps.s 4 rfl rfl rfl (q_move (.inr rfl) rfl) ?_
    refine AOps.nil ?_
    exact ⟨k+1, Sub.mk' (by repeat (first | exact ESub.new _ | refine ESub.put ?_ (by first | rfl | exact congrArg (fun (n : Nat) => some (AV.int .u32 (n : Int))) (by rw [Nat.div_div_eq_div_mul, Nat.pow_succ])))) (by repeat (first | exact HSub.none _ | exact HSub.from_new _ | exact HSub.from_from (by decide) | refine HSub.put ?_ (by first | rfl | exact congrArg (fun es => some (AObj.row true 1 es)) (bits_append a k)) | refine HSub.from_put ?_ (by decide) | refine HSub.from_rm ?_ (by decide))), hkl, by omega⟩
  · -- False
    refine AGo.cond_false false rfl rfl ?_
    have hge : ¬ k < 32 := by have h := hb1; simp at h; omega
    refine AGo.exit ?_
    refine AGo.seq ?_
    obtain rfl : k = 32 := by omega
    refine AGo.region ?_
    refine AOps.s 17 rfl rfl rfl (q_move (.inl rfl) rfl) ?_
    refine AOps.s 2 rfl rfl rfl (q_move (.inr rfl) rfl) ?_
    refine AOps.nil ?_
    refine AGo.ret ?_
    refine ⟨[_], ⟨rfl, trivial⟩, rfl, HSub.put (HSub.none _) rfl⟩

set_option maxRecDepth 100000 in
theorem bitsOf_ok (l : List Nat) (hl : l.length = 32) (hb : ∀ b ∈ l, b < 2) : APure Try.prog 60 [.lst false (natCells l)] (fun r => r = .int .u32 (valB l : Int)) := by
  refine APure.of_body (n := 23) tok Try.func60 rfl rfl ?_
  refine AGo.seq ?_
  refine AGo.region ?_
  refine AOps.s 2 rfl rfl rfl (q_move (.inr rfl) rfl) ?_
  refine AOps.nil ?_
  refine AGo.seq ?_
  refine AGo.region ?_
  refine AOps.s 3 rfl rfl rfl (q_move (.inr rfl) rfl) ?_
  refine AOps.nil ?_
  refine AGo.seq ?_
  refine AGo.seq ?_
  refine AGo.region ?_
  refine AOps.s 5 rfl rfl rfl (q_move (.inl rfl) rfl) ?_
  refine AOps.s 6 rfl rfl rfl (q_len tok rfl rfl rfl rfl rfl) ?_
  refine AOps.s 7 rfl rfl rfl (q_bin (r := .int .i64 (31 : Int)) rfl rfl rfl (by rw [natCells_len, hl]; rfl)) ?_
  refine AOps.s 4 rfl rfl rfl (q_move (.inr rfl) rfl) ?_
  refine AOps.nil ?_
  refine AGo.block ?_
  refine AGo.loopI (γ := Nat) (fun k => ⟨23, (eput (eput (eput eNew 0 (.lst false (natCells l))) 3 (.int .u64 ((valB (l.drop k) : Nat) : Int))) 4 (.int .i64 ((k : Int) - 1))), hNone⟩) (fun k => k ≤ 32) (fun k => k) 32 (Sub.mk' (by repeat (first | exact ESub.new _ | refine ESub.put ?_ (by first | rfl | exact congrArg (fun (n : Nat) => some (AV.int .u64 (n : Int))) (by rw [List.drop_eq_nil_of_le (by omega)]; rfl)))) (by repeat (first | exact HSub.none _ | exact HSub.from_new _ | exact HSub.from_from (by decide) | refine HSub.put ?_ (by rfl) | refine HSub.from_put ?_ (by decide) | refine HSub.from_rm ?_ (by decide)))) (Nat.le_refl _) ?_
  intro k hk
  refine AGo.seq ?_
  refine AGo.seq ?_
  refine AGo.region ?_
  refine AOps.s 8 rfl rfl rfl (q_move (.inl rfl) rfl) ?_
  refine AOps.s 9 rfl rfl rfl (q_bin rfl rfl rfl rfl) ?_
  refine AOps.nil ?_
  refine AGo.split 9 rfl (fun hb1 => ?_) (fun hb1 => ?_)
  · -- True
    refine AGo.cond_true true rfl rfl ?_
    obtain ⟨m, rfl⟩ : ∃ m, k = m + 1 := ⟨k - 1, by have h := hb1; simp at h; omega⟩
    obtain ⟨b, hx⟩ := get_of_lt (l := l) (k := m) (by omega)
    have hb2 := hb b (List.mem_of_getElem? hx)
    have hv := valB_drop_lt hl hb (m + 1)
    have hv2 := valB_drop hx
    refine AGo.skip ?_
    refine AGo.seq ?_
    refine AGo.block ?_
    refine AGo.region ?_
    refine AOps.s 12 rfl rfl rfl (q_move (.inl rfl) rfl) ?_
    refine AOps.s 13 rfl rfl rfl (q_bin (r := .int .u64 ((2 * valB (l.drop (m + 1)) : Nat) : Int)) rfl rfl rfl (ebin_mul (a := 2) (b := valB (l.drop (m + 1))) (wrapN_u64 (by omega)))) ?_
    refine AOps.s 14 rfl rfl rfl (q_move (.inl rfl) rfl) ?_
    refine AOps.s 15 rfl rfl rfl (q_move (.inl rfl) rfl) ?_
    refine AOps.s 16 rfl rfl rfl (q_index_lst tok rfl rfl rfl rfl rfl rfl (by omega) (cs := [.int .i64 (b : Int)]) (by rw [show (((m + 1 : Nat) : Int) - 1).toNat = m by omega]; show (natCells l)[m]? = _; rw [natCells, List.getElem?_map, hx]; rfl) rfl) ?_
    refine AOps.s 17 rfl rfl rfl (q_load tok rfl rfl rfl (by first | exact .loc _ | exact .ptr _ _ _ _ _ _ _ _ rfl rfl rfl) rfl) ?_
    refine AOps.s 18 rfl rfl rfl (q_convSame tok rfl rfl rfl rfl rfl (wrapN_u64 (by omega))) ?_
    refine AOps.s 19 rfl rfl rfl (q_bin (r := .int .u64 ((2 * valB (l.drop (m + 1)) + b : Nat) : Int)) rfl rfl rfl (ebin_add (wrapN_u64 (by omega)))) ?_
    refine AOps.s 3 rfl rfl rfl (q_move (.inr rfl) rfl) ?_
    refine AOps.nil ?_
    refine AGo.region ?_
    refine AOps.s 10 rfl rfl rfl (q_move (.inl rfl) rfl) ?_
    refine AOps.s 11 rfl rfl rfl (q_bin (r := .int .i64 ((m : Int) - 1)) rfl rfl rfl (by simp only [evalBin, evalInt, isShift, cond_false, if_true]; rw [wrap_i64 (by omega) (by omega)]; congr 2; omega)) ?_
    refine AOps.s 4 rfl rfl rfl (q_move (.inr rfl) rfl) ?_
    refine AOps.nil ?_
    exact ⟨m, Sub.mk' (by repeat (first | exact ESub.new _ | refine ESub.put ?_ (by first | rfl | exact congrArg (fun (n : Nat) => some (AV.int .u64 (n : Int))) (by omega)))) (by repeat (first | exact HSub.none _ | exact HSub.from_new _ | exact HSub.from_from (by decide) | refine HSub.put ?_ (by rfl) | refine HSub.from_put ?_ (by decide) | refine HSub.from_rm ?_ (by decide))), (by omega), by omega⟩
  · -- False
    refine AGo.cond_false false rfl rfl ?_
    obtain rfl : k = 0 := by have h := hb1; simp at h; omega
    refine AGo.exit ?_
    refine AGo.seq ?_
    refine AGo.region ?_
    refine AOps.s 20 rfl rfl rfl (q_move (.inl rfl) rfl) ?_
    refine AOps.s 21 rfl rfl rfl (q_bin (r := .int .u64 ((valB (l.drop 0) % 4294967296 : Nat) : Int)) rfl rfl rfl (ebin_rem (a := valB (l.drop 0)) (b := 4294967296) (by decide))) ?_
    refine AOps.s 22 rfl rfl rfl (q_convSame tok rfl rfl rfl rfl rfl (wrapN_u32 (Nat.mod_lt _ (by decide)))) ?_
    refine AOps.s 2 rfl rfl rfl (q_move (.inr rfl) rfl) ?_
    refine AOps.nil ?_
    refine AGo.ret ?_
    refine ⟨[_], ⟨rfl, trivial⟩, ?_, rfl⟩
    show AV.int .u32 _ = _
    rw [Nat.mod_eq_of_lt (valB_drop_lt hl hb 0), List.drop_zero]

set_option maxRecDepth 100000 in
theorem both_ok (op : Int) (a b : Nat) (ha : a < 4294967296) (hb : b < 4294967296) : APure Try.prog 56 [.int .i64 op, .int .u32 (a : Int), .int .u32 (b : Int)] (fun r => r = .int .u32 (valB (bothN op a b) : Int)) := by
  refine APure.of_body (n := 50) tok Try.func56 rfl rfl ?_
  refine AGo.seq ?_
  refine AGo.region ?_
  refine AOps.s 6 rfl rfl rfl (q_move (.inr rfl) rfl) ?_
  refine AOps.nil ?_
  refine AGo.seq ?_
  refine AGo.region ?_
  refine AOps.s 11 rfl rfl rfl (q_move (.inl rfl) rfl) ?_
  refine AOps.x 12 rfl rfl rfl (o_call (hc := hput hNew 0 .free) (hw := hput hNone 0 (.row true 1 (natCells (bitsN a 32)))) [0] [(0, (.row true 1 (natCells (bitsN a 32))))] rfl Try.func59 (by kernel_rfl) rfl rfl rfl ⟨⟨_, rfl, rfl⟩, trivial⟩ rfl (hres_cons rfl (hres_nil _)) ⟨⟨_, rfl, rfl, rfl⟩, trivial⟩ rfl (bits_ok0 a ha)) ?_
  refine AOps.s 13 rfl rfl rfl (q_move (.inl rfl) rfl) ?_
  refine AOps.x 14 rfl rfl rfl (o_call (hc := hput hNew 1 .free) (hw := hput hNone 1 (.row true 1 (natCells (bitsN b 32)))) [1] [(1, (.row true 1 (natCells (bitsN b 32))))] rfl Try.func59 (by kernel_rfl) rfl rfl rfl ⟨⟨_, rfl, rfl⟩, trivial⟩ rfl (hres_cons rfl (hres_nil _)) ⟨⟨_, rfl, rfl, rfl⟩, trivial⟩ rfl (bits_ok1 b hb)) ?_
  refine AOps.s 7 rfl rfl rfl (q_move (.inr rfl) rfl) ?_
  refine AOps.s 8 rfl rfl rfl (q_move (.inr rfl) rfl) ?_
  refine AOps.nil ?_
  refine AGo.seq ?_
  refine AGo.seq ?_
  refine AGo.region ?_
  refine AOps.s 9 rfl rfl rfl (q_move (.inr rfl) rfl) ?_
  refine AOps.nil ?_
  refine AGo.block ?_
  refine AGo.loopI (γ := Nat) (fun k => ⟨50, (eput (eput (eput (eput eNew 0 (.int .i64 op)) 7 (.ref 0 32 0 32)) 8 (.ref 1 32 0 32)) 9 (.int .i64 (k : Int))), (hput (hput hNone 0 (.row true 1 (natCells (mixB op a b k)))) 1 (.row true 1 (natCells (bitsN b 32))))⟩) (fun k => k ≤ 32) (fun k => 32 - k) 0 (Sub.mk' (by repeat (first | exact ESub.new _ | refine ESub.put ?_ (by rfl))) (by repeat (first | exact HSub.none _ | exact HSub.from_new _ | exact HSub.from_from (by decide) | refine HSub.put ?_ (by first | rfl | exact congrArg (fun l => some (AObj.row true 1 (natCells l))) (mixB_zero op a b).symm) | refine HSub.from_put ?_ (by decide) | refine HSub.from_rm ?_ (by decide)))) (Nat.zero_le _) ?_
  intro k hk
  refine AGo.seq ?_
  refine AGo.seq ?_
  refine AGo.region ?_
  refine AOps.s 15 rfl rfl rfl (q_move (.inl rfl) rfl) ?_
  refine AOps.s 16 rfl rfl rfl (q_bin rfl rfl rfl rfl) ?_
  refine AOps.nil ?_
  refine AGo.split 16 rfl (fun hb1 => ?_) (fun hb1 => ?_)
  · -- True
    refine AGo.cond_true true rfl rfl ?_
    have hkl : k < 32 := by have h := hb1; simp at h; omega
    refine AGo.skip ?_
    refine AGo.seq ?_
    refine AGo.block ?_
    refine AGo.seq ?_
    refine AGo.draw mix ?_
    refine DOps.s 19 rfl rfl rfl (q_move (.inl rfl) rfl) ?_
    refine DOps.s 20 rfl rfl rfl (q_move (.inl rfl) rfl) ?_
    refine DOps.s 21 rfl rfl rfl (q_index_ref tok rfl rfl rfl rfl rfl rfl rfl (by simp [natCells_len, mixB_length (Nat.le_of_lt hkl), bitsN_length]) rfl (Int.natCast_nonneg _) (by omega)) ?_
    refine DOps.s 22 rfl rfl rfl (q_load tok rfl rfl rfl (.ptr _ _ _ _ _ _ _ _ rfl (by simp [natCells_len, mixB_length (Nat.le_of_lt hkl)]) (natCells_get (mixB_get hkl))) rfl) ?_
    refine DOps.s 23 rfl rfl rfl (q_move (.inl rfl) rfl) ?_
    refine DOps.s 24 rfl rfl rfl (q_move (.inl rfl) rfl) ?_
    refine DOps.s 25 rfl rfl rfl (q_index_ref tok rfl rfl rfl rfl rfl rfl rfl (by simp [natCells_len, mixB_length (Nat.le_of_lt hkl), bitsN_length]) rfl (Int.natCast_nonneg _) (by omega)) ?_
    refine DOps.s 26 rfl rfl rfl (q_load tok rfl rfl rfl (.ptr _ _ _ _ _ _ _ _ rfl (by simp [natCells_len, bitsN_length]) (natCells_get (bitsN_get hkl))) rfl) ?_
    refine DOps.s 27 rfl rfl rfl (q_bin (r := .int .i64 ((a / 2 ^ k % 2 + b / 2 ^ k % 2 : Nat) : Int)) rfl rfl rfl (ebin_add (wrapN_i64 (by omega)))) ?_
    refine DOps.s 10 rfl rfl rfl (q_move (.inr rfl) rfl) ?_
    refine DOps.nil (by kernel_rfl) ?_
    refine AGo.seq ?_
    refine AGo.region ?_
    refine AOps.s 28 rfl rfl rfl (q_move (.inl rfl) rfl) ?_
    refine AOps.s 29 rfl rfl rfl (q_move (.inl rfl) rfl) ?_
    refine AOps.s 30 rfl rfl rfl (q_index_ref tok rfl rfl rfl rfl rfl rfl rfl (by simp [natCells_len, mixB_length (Nat.le_of_lt hkl), bitsN_length]) rfl (Int.natCast_nonneg _) (by omega)) ?_
    refine AOps.w rfl rfl (o_store tok rfl rfl rfl rfl rfl rfl (by simp [natCells_len, mixB_length (Nat.le_of_lt hkl)]) (natCells_get (mixB_get hkl)) rfl (by decide) rfl (by first | exact fun _ => rfl | (intro h; cases h))) ?_
    refine AOps.nil ?_
    refine AGo.seq ?_
    refine AGo.region ?_
    refine AOps.s 31 rfl rfl rfl (q_move (.inl rfl) rfl) ?_
    refine AOps.s 32 rfl rfl rfl (q_bin rfl rfl rfl rfl) ?_
    refine AOps.s 33 rfl rfl rfl (q_move (.inl rfl) rfl) ?_
    refine AOps.split 33 rfl (fun hb2 => ?_) (fun hb2 => ?_)
    · -- True
      refine AOps.s 34 rfl rfl rfl (q_move (.inl rfl) rfl) ?_
      refine AOps.s 35 rfl rfl rfl (q_bin rfl rfl rfl rfl) ?_
      refine AOps.s 36 rfl rfl rfl (q_pick_true true rfl rfl rfl rfl) ?_
      refine AOps.s 37 rfl rfl rfl (q_move (.inl rfl) rfl) ?_
      refine AOps.split 37 rfl (fun hb3 => ?_) (fun hb3 => ?_)
      · -- True
        refine AOps.k 38 rfl rfl rfl ?_
        refine AOps.k 39 rfl rfl rfl ?_
        refine AOps.k 40 rfl rfl rfl ?_
        refine AOps.k 41 rfl rfl rfl ?_
        refine AOps.k 42 rfl rfl rfl ?_
        refine AOps.k 43 rfl rfl rfl ?_
        refine AOps.s 44 rfl rfl rfl (q_pick_true true rfl rfl rfl rfl) ?_
        refine AOps.nil ?_
        refine AGo.cond_true true rfl rfl ?_
        refine AGo.region ?_
        refine AOps.s 45 rfl rfl rfl (q_move (.inl rfl) rfl) ?_
        refine AOps.s 46 rfl rfl rfl (q_move (.inl rfl) rfl) ?_
        refine AOps.s 47 rfl rfl rfl (q_index_ref tok rfl rfl rfl rfl rfl rfl rfl (by simp [natCells_len, mixB_length (Nat.le_of_lt hkl)]) rfl (Int.natCast_nonneg _) (by omega)) ?_
        refine AOps.w rfl rfl (o_store tok rfl rfl rfl rfl rfl rfl (by simp [natCells_len, mixB_length (Nat.le_of_lt hkl)]) (get_set_self (natCells_get (mixB_get hkl))) rfl (by decide) rfl (by first | exact fun _ => rfl | (intro h; cases h))) ?_
        refine AOps.nil ?_
        refine AGo.region ?_
        refine AOps.s 17 rfl rfl rfl (q_move (.inl rfl) rfl) ?_
        refine AOps.s 18 rfl rfl rfl (q_inc rfl rfl hkl (show 32 ≤ maxLen by decide)) ?_
        refine AOps.s 9 rfl rfl rfl (q_move (.inr rfl) rfl) ?_
        refine AOps.nil ?_
        exact ⟨k+1, Sub.mk' (by repeat (first | exact ESub.new _ | refine ESub.put ?_ (by rfl))) (by repeat (first | exact HSub.none _ | exact HSub.from_new _ | exact HSub.from_from (by decide) | refine HSub.put ?_ (by first | rfl | exact congrArg (fun es => some (AObj.row true 1 es)) (both_set0 (c := []) hkl (by rcases (by omega : a / 2 ^ k % 2 = 0 ∨ a / 2 ^ k % 2 = 1) with h1 | h1 <;> rcases (by omega : b / 2 ^ k % 2 = 0 ∨ b / 2 ^ k % 2 = 1) with h2 | h2 <;> (try simp_all [bop]) <;> first | (rw [bne_iff_ne.2 ‹¬ op = 11›]; rfl) | (rw [bne_iff_ne.2 ‹¬ op = 9›]; rfl))) | exact congrArg (fun es => some (AObj.row true 1 es)) (both_set1 hkl (by rcases (by omega : a / 2 ^ k % 2 = 0 ∨ a / 2 ^ k % 2 = 1) with h1 | h1 <;> rcases (by omega : b / 2 ^ k % 2 = 0 ∨ b / 2 ^ k % 2 = 1) with h2 | h2 <;> (try simp_all [bop]) <;> first | (rw [bne_iff_ne.2 ‹¬ op = 11›]; rfl) | (rw [bne_iff_ne.2 ‹¬ op = 9›]; rfl)))) | refine HSub.from_put ?_ (by decide) | refine HSub.from_rm ?_ (by decide))), hkl, by omega⟩
      · -- False
        refine AOps.s 38 rfl rfl rfl (q_move (.inl rfl) rfl) ?_
        refine AOps.s 39 rfl rfl rfl (q_bin rfl rfl rfl rfl) ?_
        refine AOps.s 40 rfl rfl rfl (q_move (.inl rfl) rfl) ?_
        refine AOps.split 40 rfl (fun hb4 => ?_) (fun hb4 => ?_)
        · -- True
          refine AOps.s 41 rfl rfl rfl (q_move (.inl rfl) rfl) ?_
          refine AOps.s 42 rfl rfl rfl (q_bin rfl rfl rfl rfl) ?_
          refine AOps.s 43 rfl rfl rfl (q_pick_true true rfl rfl rfl rfl) ?_
          refine AOps.s 44 rfl rfl rfl (q_pick_false false rfl rfl rfl rfl) ?_
          refine AOps.nil ?_
          refine AGo.split 44 rfl (fun hb5 => ?_) (fun hb5 => ?_)
          · -- True
            refine AGo.cond_true true rfl rfl ?_
            refine AGo.region ?_
            refine AOps.s 45 rfl rfl rfl (q_move (.inl rfl) rfl) ?_
            refine AOps.s 46 rfl rfl rfl (q_move (.inl rfl) rfl) ?_
            refine AOps.s 47 rfl rfl rfl (q_index_ref tok rfl rfl rfl rfl rfl rfl rfl (by simp [natCells_len, mixB_length (Nat.le_of_lt hkl)]) rfl (Int.natCast_nonneg _) (by omega)) ?_
            refine AOps.w rfl rfl (o_store tok rfl rfl rfl rfl rfl rfl (by simp [natCells_len, mixB_length (Nat.le_of_lt hkl)]) (get_set_self (natCells_get (mixB_get hkl))) rfl (by decide) rfl (by first | exact fun _ => rfl | (intro h; cases h))) ?_
            refine AOps.nil ?_
            refine AGo.region ?_
            refine AOps.s 17 rfl rfl rfl (q_move (.inl rfl) rfl) ?_
            refine AOps.s 18 rfl rfl rfl (q_inc rfl rfl hkl (show 32 ≤ maxLen by decide)) ?_
            refine AOps.s 9 rfl rfl rfl (q_move (.inr rfl) rfl) ?_
            refine AOps.nil ?_
            exact ⟨k+1, Sub.mk' (by repeat (first | exact ESub.new _ | refine ESub.put ?_ (by rfl))) (by repeat (first | exact HSub.none _ | exact HSub.from_new _ | exact HSub.from_from (by decide) | refine HSub.put ?_ (by first | rfl | exact congrArg (fun es => some (AObj.row true 1 es)) (both_set0 (c := []) hkl (by rcases (by omega : a / 2 ^ k % 2 = 0 ∨ a / 2 ^ k % 2 = 1) with h1 | h1 <;> rcases (by omega : b / 2 ^ k % 2 = 0 ∨ b / 2 ^ k % 2 = 1) with h2 | h2 <;> (try simp_all [bop]) <;> first | (rw [bne_iff_ne.2 ‹¬ op = 11›]; rfl) | (rw [bne_iff_ne.2 ‹¬ op = 9›]; rfl))) | exact congrArg (fun es => some (AObj.row true 1 es)) (both_set1 hkl (by rcases (by omega : a / 2 ^ k % 2 = 0 ∨ a / 2 ^ k % 2 = 1) with h1 | h1 <;> rcases (by omega : b / 2 ^ k % 2 = 0 ∨ b / 2 ^ k % 2 = 1) with h2 | h2 <;> (try simp_all [bop]) <;> first | (rw [bne_iff_ne.2 ‹¬ op = 11›]; rfl) | (rw [bne_iff_ne.2 ‹¬ op = 9›]; rfl)))) | refine HSub.from_put ?_ (by decide) | refine HSub.from_rm ?_ (by decide))), hkl, by omega⟩
          · -- False
            refine AGo.cond_false false rfl rfl ?_
            refine AGo.skip ?_
            refine AGo.region ?_
            refine AOps.s 17 rfl rfl rfl (q_move (.inl rfl) rfl) ?_
            refine AOps.s 18 rfl rfl rfl (q_inc rfl rfl hkl (show 32 ≤ maxLen by decide)) ?_
            refine AOps.s 9 rfl rfl rfl (q_move (.inr rfl) rfl) ?_
            refine AOps.nil ?_
            exact ⟨k+1, Sub.mk' (by repeat (first | exact ESub.new _ | refine ESub.put ?_ (by rfl))) (by repeat (first | exact HSub.none _ | exact HSub.from_new _ | exact HSub.from_from (by decide) | refine HSub.put ?_ (by first | rfl | exact congrArg (fun es => some (AObj.row true 1 es)) (both_set0 (c := []) hkl (by rcases (by omega : a / 2 ^ k % 2 = 0 ∨ a / 2 ^ k % 2 = 1) with h1 | h1 <;> rcases (by omega : b / 2 ^ k % 2 = 0 ∨ b / 2 ^ k % 2 = 1) with h2 | h2 <;> (try simp_all [bop]) <;> first | (rw [bne_iff_ne.2 ‹¬ op = 11›]; rfl) | (rw [bne_iff_ne.2 ‹¬ op = 9›]; rfl))) | exact congrArg (fun es => some (AObj.row true 1 es)) (both_set1 hkl (by rcases (by omega : a / 2 ^ k % 2 = 0 ∨ a / 2 ^ k % 2 = 1) with h1 | h1 <;> rcases (by omega : b / 2 ^ k % 2 = 0 ∨ b / 2 ^ k % 2 = 1) with h2 | h2 <;> (try simp_all [bop]) <;> first | (rw [bne_iff_ne.2 ‹¬ op = 11›]; rfl) | (rw [bne_iff_ne.2 ‹¬ op = 9›]; rfl)))) | refine HSub.from_put ?_ (by decide) | refine HSub.from_rm ?_ (by decide))), hkl, by omega⟩
        · -- False
          refine AOps.k 41 rfl rfl rfl ?_
          refine AOps.k 42 rfl rfl rfl ?_
          refine AOps.s 43 rfl rfl rfl (q_pick_false false rfl rfl rfl rfl) ?_
          refine AOps.s 44 rfl rfl rfl (q_pick_false false rfl rfl rfl rfl) ?_
          refine AOps.nil ?_
          refine AGo.cond_false false rfl rfl ?_
          refine AGo.skip ?_
          refine AGo.region ?_
          refine AOps.s 17 rfl rfl rfl (q_move (.inl rfl) rfl) ?_
          refine AOps.s 18 rfl rfl rfl (q_inc rfl rfl hkl (show 32 ≤ maxLen by decide)) ?_
          refine AOps.s 9 rfl rfl rfl (q_move (.inr rfl) rfl) ?_
          refine AOps.nil ?_
          exact ⟨k+1, Sub.mk' (by repeat (first | exact ESub.new _ | refine ESub.put ?_ (by rfl))) (by repeat (first | exact HSub.none _ | exact HSub.from_new _ | exact HSub.from_from (by decide) | refine HSub.put ?_ (by first | rfl | exact congrArg (fun es => some (AObj.row true 1 es)) (both_set0 (c := []) hkl (by rcases (by omega : a / 2 ^ k % 2 = 0 ∨ a / 2 ^ k % 2 = 1) with h1 | h1 <;> rcases (by omega : b / 2 ^ k % 2 = 0 ∨ b / 2 ^ k % 2 = 1) with h2 | h2 <;> (try simp_all [bop]) <;> first | (rw [bne_iff_ne.2 ‹¬ op = 11›]; rfl) | (rw [bne_iff_ne.2 ‹¬ op = 9›]; rfl))) | exact congrArg (fun es => some (AObj.row true 1 es)) (both_set1 hkl (by rcases (by omega : a / 2 ^ k % 2 = 0 ∨ a / 2 ^ k % 2 = 1) with h1 | h1 <;> rcases (by omega : b / 2 ^ k % 2 = 0 ∨ b / 2 ^ k % 2 = 1) with h2 | h2 <;> (try simp_all [bop]) <;> first | (rw [bne_iff_ne.2 ‹¬ op = 11›]; rfl) | (rw [bne_iff_ne.2 ‹¬ op = 9›]; rfl)))) | refine HSub.from_put ?_ (by decide) | refine HSub.from_rm ?_ (by decide))), hkl, by omega⟩
    · -- False
      refine AOps.k 34 rfl rfl rfl ?_
      refine AOps.k 35 rfl rfl rfl ?_
      refine AOps.s 36 rfl rfl rfl (q_pick_false false rfl rfl rfl rfl) ?_
      refine AOps.s 37 rfl rfl rfl (q_move (.inl rfl) rfl) ?_
      refine AOps.s 38 rfl rfl rfl (q_move (.inl rfl) rfl) ?_
      refine AOps.s 39 rfl rfl rfl (q_bin rfl rfl rfl rfl) ?_
      refine AOps.s 40 rfl rfl rfl (q_move (.inl rfl) rfl) ?_
      refine AOps.split 40 rfl (fun hb6 => ?_) (fun hb6 => ?_)
      · -- True
        refine AOps.s 41 rfl rfl rfl (q_move (.inl rfl) rfl) ?_
        refine AOps.s 42 rfl rfl rfl (q_bin rfl rfl rfl rfl) ?_
        refine AOps.s 43 rfl rfl rfl (q_pick_true true rfl rfl rfl rfl) ?_
        refine AOps.s 44 rfl rfl rfl (q_pick_false false rfl rfl rfl rfl) ?_
        refine AOps.nil ?_
        refine AGo.split 44 rfl (fun hb7 => ?_) (fun hb7 => ?_)
        · -- True
          refine AGo.cond_true true rfl rfl ?_
          refine AGo.region ?_
          refine AOps.s 45 rfl rfl rfl (q_move (.inl rfl) rfl) ?_
          refine AOps.s 46 rfl rfl rfl (q_move (.inl rfl) rfl) ?_
          refine AOps.s 47 rfl rfl rfl (q_index_ref tok rfl rfl rfl rfl rfl rfl rfl (by simp [natCells_len, mixB_length (Nat.le_of_lt hkl)]) rfl (Int.natCast_nonneg _) (by omega)) ?_
          refine AOps.w rfl rfl (o_store tok rfl rfl rfl rfl rfl rfl (by simp [natCells_len, mixB_length (Nat.le_of_lt hkl)]) (get_set_self (natCells_get (mixB_get hkl))) rfl (by decide) rfl (by first | exact fun _ => rfl | (intro h; cases h))) ?_
          refine AOps.nil ?_
          refine AGo.region ?_
          refine AOps.s 17 rfl rfl rfl (q_move (.inl rfl) rfl) ?_
          refine AOps.s 18 rfl rfl rfl (q_inc rfl rfl hkl (show 32 ≤ maxLen by decide)) ?_
          refine AOps.s 9 rfl rfl rfl (q_move (.inr rfl) rfl) ?_
          refine AOps.nil ?_
          exact ⟨k+1, Sub.mk' (by repeat (first | exact ESub.new _ | refine ESub.put ?_ (by rfl))) (by repeat (first | exact HSub.none _ | exact HSub.from_new _ | exact HSub.from_from (by decide) | refine HSub.put ?_ (by first | rfl | exact congrArg (fun es => some (AObj.row true 1 es)) (both_set0 (c := []) hkl (by rcases (by omega : a / 2 ^ k % 2 = 0 ∨ a / 2 ^ k % 2 = 1) with h1 | h1 <;> rcases (by omega : b / 2 ^ k % 2 = 0 ∨ b / 2 ^ k % 2 = 1) with h2 | h2 <;> (try simp_all [bop]) <;> first | (rw [bne_iff_ne.2 ‹¬ op = 11›]; rfl) | (rw [bne_iff_ne.2 ‹¬ op = 9›]; rfl))) | exact congrArg (fun es => some (AObj.row true 1 es)) (both_set1 hkl (by rcases (by omega : a / 2 ^ k % 2 = 0 ∨ a / 2 ^ k % 2 = 1) with h1 | h1 <;> rcases (by omega : b / 2 ^ k % 2 = 0 ∨ b / 2 ^ k % 2 = 1) with h2 | h2 <;> (try simp_all [bop]) <;> first | (rw [bne_iff_ne.2 ‹¬ op = 11›]; rfl) | (rw [bne_iff_ne.2 ‹¬ op = 9›]; rfl)))) | refine HSub.from_put ?_ (by decide) | refine HSub.from_rm ?_ (by decide))), hkl, by omega⟩
        · -- False
          refine AGo.cond_false false rfl rfl ?_
          refine AGo.skip ?_
          refine AGo.region ?_
          refine AOps.s 17 rfl rfl rfl (q_move (.inl rfl) rfl) ?_
          refine AOps.s 18 rfl rfl rfl (q_inc rfl rfl hkl (show 32 ≤ maxLen by decide)) ?_
          refine AOps.s 9 rfl rfl rfl (q_move (.inr rfl) rfl) ?_
          refine AOps.nil ?_
          exact ⟨k+1, Sub.mk' (by repeat (first | exact ESub.new _ | refine ESub.put ?_ (by rfl))) (by repeat (first | exact HSub.none _ | exact HSub.from_new _ | exact HSub.from_from (by decide) | refine HSub.put ?_ (by first | rfl | exact congrArg (fun es => some (AObj.row true 1 es)) (both_set0 (c := []) hkl (by rcases (by omega : a / 2 ^ k % 2 = 0 ∨ a / 2 ^ k % 2 = 1) with h1 | h1 <;> rcases (by omega : b / 2 ^ k % 2 = 0 ∨ b / 2 ^ k % 2 = 1) with h2 | h2 <;> (try simp_all [bop]) <;> first | (rw [bne_iff_ne.2 ‹¬ op = 11›]; rfl) | (rw [bne_iff_ne.2 ‹¬ op = 9›]; rfl))) | exact congrArg (fun es => some (AObj.row true 1 es)) (both_set1 hkl (by rcases (by omega : a / 2 ^ k % 2 = 0 ∨ a / 2 ^ k % 2 = 1) with h1 | h1 <;> rcases (by omega : b / 2 ^ k % 2 = 0 ∨ b / 2 ^ k % 2 = 1) with h2 | h2 <;> (try simp_all [bop]) <;> first | (rw [bne_iff_ne.2 ‹¬ op = 11›]; rfl) | (rw [bne_iff_ne.2 ‹¬ op = 9›]; rfl)))) | refine HSub.from_put ?_ (by decide) | refine HSub.from_rm ?_ (by decide))), hkl, by omega⟩
      · -- False
        refine AOps.k 41 rfl rfl rfl ?_
        refine AOps.k 42 rfl rfl rfl ?_
        refine AOps.s 43 rfl rfl rfl (q_pick_false false rfl rfl rfl rfl) ?_
        refine AOps.s 44 rfl rfl rfl (q_pick_false false rfl rfl rfl rfl) ?_
        refine AOps.nil ?_
        refine AGo.cond_false false rfl rfl ?_
        refine AGo.skip ?_
        refine AGo.region ?_
        refine AOps.s 17 rfl rfl rfl (q_move (.inl rfl) rfl) ?_
        refine AOps.s 18 rfl rfl rfl (q_inc rfl rfl hkl (show 32 ≤ maxLen by decide)) ?_
        refine AOps.s 9 rfl rfl rfl (q_move (.inr rfl) rfl) ?_
        refine AOps.nil ?_
        exact ⟨k+1, Sub.mk' (by repeat (first | exact ESub.new _ | refine ESub.put ?_ (by rfl))) (by repeat (first | exact HSub.none _ | exact HSub.from_new _ | exact HSub.from_from (by decide) | refine HSub.put ?_ (by first | rfl | exact congrArg (fun es => some (AObj.row true 1 es)) (both_set0 (c := []) hkl (by rcases (by omega : a / 2 ^ k % 2 = 0 ∨ a / 2 ^ k % 2 = 1) with h1 | h1 <;> rcases (by omega : b / 2 ^ k % 2 = 0 ∨ b / 2 ^ k % 2 = 1) with h2 | h2 <;> (try simp_all [bop]) <;> first | (rw [bne_iff_ne.2 ‹¬ op = 11›]; rfl) | (rw [bne_iff_ne.2 ‹¬ op = 9›]; rfl))) | exact congrArg (fun es => some (AObj.row true 1 es)) (both_set1 hkl (by rcases (by omega : a / 2 ^ k % 2 = 0 ∨ a / 2 ^ k % 2 = 1) with h1 | h1 <;> rcases (by omega : b / 2 ^ k % 2 = 0 ∨ b / 2 ^ k % 2 = 1) with h2 | h2 <;> (try simp_all [bop]) <;> first | (rw [bne_iff_ne.2 ‹¬ op = 11›]; rfl) | (rw [bne_iff_ne.2 ‹¬ op = 9›]; rfl)))) | refine HSub.from_put ?_ (by decide) | refine HSub.from_rm ?_ (by decide))), hkl, by omega⟩
  · -- False
    refine AGo.cond_false false rfl rfl ?_
    have hge : ¬ k < 32 := by have h := hb1; simp at h; omega
    obtain rfl : k = 32 := by omega
    rw [mixB_end]
    refine AGo.exit ?_
    refine AGo.seq ?_
    refine AGo.ghost (.freezeAll 7 0 rfl rfl (by simp [natCells_len, bothN_length])) ?_
    refine AGo.region ?_
    refine AOps.s 48 rfl rfl rfl (q_move (.inl rfl) rfl) ?_
    refine AOps.x 49 rfl rfl rfl (o_pure rfl Try.func60 (by kernel_rfl) rfl rfl rfl (bitsOf_ok _ (bothN_length _ _ _) (bothN_lt _ _ _))) ?_
    refine AOps.s 6 rfl rfl rfl (q_move (.inr rfl) rfl) ?_
    refine AOps.nil ?_
    refine AGo.ret ?_
    refine ⟨[_], ⟨rfl, trivial⟩, ?_, rfl⟩
    rfl

set_option maxRecDepth 100000 in
theorem rshift_ok (op : Int) (a b : Nat) (ha : a < 4294967296) (hb : b < 4294967296) (ho : op = 12 ∨ op = 13) : APure Try.prog 57 [.int .i64 op, .int .u32 (a : Int), .int .u32 (b : Int)] (fun r => r = .int .u32 (wshift op a b)) := by
  refine APure.of_body (n := 27) tok Try.func57 rfl rfl ?_
  refine AGo.seq ?_
  refine AGo.region ?_
  refine AOps.s 6 rfl rfl rfl (q_move (.inr rfl) rfl) ?_
  refine AOps.nil ?_
  refine AGo.seq ?_
  refine AGo.seq ?_
  refine AGo.region ?_
  refine AOps.s 9 rfl rfl rfl (q_move (.inl rfl) rfl) ?_
  refine AOps.s 10 rfl rfl rfl (q_bin rfl rfl rfl rfl) ?_
  refine AOps.nil ?_
  refine AGo.split 10 rfl (fun hb1 => ?_) (fun hb1 => ?_)
  · -- True
    refine AGo.cond_true true rfl rfl ?_
    have hb32 : 32 ≤ b := by have h := hb1; simp at h; omega
    refine AGo.seq ?_
    refine AGo.region ?_
    refine AOps.s 6 rfl rfl rfl (q_move (.inr rfl) rfl) ?_
    refine AOps.nil ?_
    refine AGo.ret ?_
    refine ⟨[_], ⟨rfl, trivial⟩, ?_, rfl⟩
    show AV.int .u32 _ = _
    rw [wshift_big op hb32]
  · -- False
    refine AGo.cond_false false rfl rfl ?_
    have hb32 : b < 32 := by have h := hb1; simp at h; omega
    refine AGo.skip ?_
    refine AGo.seq ?_
    refine AGo.region ?_
    refine AOps.s 11 rfl rfl rfl (q_move (.inl rfl) rfl) ?_
    refine AOps.s 12 rfl rfl rfl (q_convSame tok rfl rfl rfl rfl rfl (wrapN_u64 (by omega))) ?_
    refine AOps.s 7 rfl rfl rfl (q_move (.inr rfl) rfl) ?_
    refine AOps.nil ?_
    refine AGo.seq ?_
    refine AGo.seq ?_
    refine AGo.region ?_
    refine AOps.s 8 rfl rfl rfl (q_move (.inr rfl) rfl) ?_
    refine AOps.nil ?_
    refine AGo.block ?_
    refine AGo.loopI (γ := Nat) (fun k => ⟨27, (eput (eput (eput (eput eNew 0 (.int .i64 op)) 2 (.int .u32 (b : Int))) 7 (.int .u64 ((shN op a k : Nat) : Int))) 8 (.int .u32 (k : Int))), hNone⟩) (fun k => k ≤ b) (fun k => b - k) 0 (Sub.mk' (by repeat (first | exact ESub.new _ | refine ESub.put ?_ (by rfl))) (by repeat (first | exact HSub.none _ | exact HSub.from_new _ | exact HSub.from_from (by decide) | refine HSub.put ?_ (by rfl) | refine HSub.from_put ?_ (by decide) | refine HSub.from_rm ?_ (by decide)))) (Nat.zero_le _) ?_
    intro k hk
    refine AGo.seq ?_
    refine AGo.seq ?_
    refine AGo.region ?_
    refine AOps.s 13 rfl rfl rfl (q_move (.inl rfl) rfl) ?_
    refine AOps.s 14 rfl rfl rfl (q_move (.inl rfl) rfl) ?_
    refine AOps.s 15 rfl rfl rfl (q_bin rfl rfl rfl rfl) ?_
    refine AOps.nil ?_
    refine AGo.split 15 rfl (fun hb2 => ?_) (fun hb2 => ?_)
    · -- True
      refine AGo.cond_true true rfl rfl ?_
      have hkl : k < b := by have h := hb2; simp at h; omega
      have hlt := shN_lt (op := op) ha k
      refine AGo.skip ?_
      refine AGo.seq ?_
      refine AGo.block ?_
      refine AGo.seq ?_
      refine AGo.region ?_
      refine AOps.s 18 rfl rfl rfl (q_move (.inl rfl) rfl) ?_
      refine AOps.s 19 rfl rfl rfl (q_bin rfl rfl rfl rfl) ?_
      refine AOps.nil ?_
      refine AGo.split 19 rfl (fun hb3 => ?_) (fun hb3 => ?_)
      · -- True
        refine AGo.cond_true true rfl rfl ?_
        refine AGo.region ?_
        refine AOps.s 20 rfl rfl rfl (q_move (.inl rfl) rfl) ?_
        refine AOps.s 21 rfl rfl rfl (q_bin (r := .int .u64 ((2 * shN op a k : Nat) : Int)) rfl rfl rfl (ebin_mul (a := 2) (b := shN op a k) (wrapN_u64 (by omega)))) ?_
        refine AOps.s 22 rfl rfl rfl (q_bin (r := .int .u64 ((2 * shN op a k % 4294967296 : Nat) : Int)) rfl rfl rfl (ebin_rem (a := 2 * shN op a k) (b := 4294967296) (by decide))) ?_
        refine AOps.s 7 rfl rfl rfl (q_move (.inr rfl) rfl) ?_
        refine AOps.nil ?_
        refine AGo.region ?_
        refine AOps.s 16 rfl rfl rfl (q_move (.inl rfl) rfl) ?_
        refine AOps.s 17 rfl rfl rfl (q_bin (r := .int .u32 ((k + 1 : Nat) : Int)) rfl rfl rfl (ebin_add (b := 1) (wrapN_u32 (by omega)))) ?_
        refine AOps.s 8 rfl rfl rfl (q_move (.inr rfl) rfl) ?_
        refine AOps.nil ?_
        exact ⟨k+1, Sub.mk' (by repeat (first | exact ESub.new _ | refine ESub.put ?_ (by first | rfl | exact congrArg (fun (n : Nat) => some (AV.int .u64 (n : Int))) (by simp only [shN, *, cond_true, cond_false])))) (by repeat (first | exact HSub.none _ | exact HSub.from_new _ | exact HSub.from_from (by decide) | refine HSub.put ?_ (by rfl) | refine HSub.from_put ?_ (by decide) | refine HSub.from_rm ?_ (by decide))), hkl, by omega⟩
      · -- False
        refine AGo.cond_false false rfl rfl ?_
        refine AGo.region ?_
        refine AOps.s 23 rfl rfl rfl (q_move (.inl rfl) rfl) ?_
        refine AOps.s 24 rfl rfl rfl (q_bin (r := .int .u64 ((shN op a k / 2 : Nat) : Int)) rfl rfl rfl (ebin_quo (a := shN op a k) (b := 2) (by decide) (wrapN_u64 (by omega)))) ?_
        refine AOps.s 7 rfl rfl rfl (q_move (.inr rfl) rfl) ?_
        refine AOps.nil ?_
        refine AGo.region ?_
        refine AOps.s 16 rfl rfl rfl (q_move (.inl rfl) rfl) ?_
        refine AOps.s 17 rfl rfl rfl (q_bin (r := .int .u32 ((k + 1 : Nat) : Int)) rfl rfl rfl (ebin_add (b := 1) (wrapN_u32 (by omega)))) ?_
        refine AOps.s 8 rfl rfl rfl (q_move (.inr rfl) rfl) ?_
        refine AOps.nil ?_
        exact ⟨k+1, Sub.mk' (by repeat (first | exact ESub.new _ | refine ESub.put ?_ (by first | rfl | exact congrArg (fun (n : Nat) => some (AV.int .u64 (n : Int))) (by simp only [shN, *, cond_true, cond_false])))) (by repeat (first | exact HSub.none _ | exact HSub.from_new _ | exact HSub.from_from (by decide) | refine HSub.put ?_ (by rfl) | refine HSub.from_put ?_ (by decide) | refine HSub.from_rm ?_ (by decide))), hkl, by omega⟩
    · -- False
      refine AGo.cond_false false rfl rfl ?_
      obtain rfl : k = b := by have h := hb2; simp at h; omega
      refine AGo.exit ?_
      refine AGo.seq ?_
      refine AGo.region ?_
      refine AOps.s 25 rfl rfl rfl (q_move (.inl rfl) rfl) ?_
      refine AOps.s 26 rfl rfl rfl (q_convSame tok rfl rfl rfl rfl rfl (wrapN_u32 (shN_lt ha _))) ?_
      refine AOps.s 6 rfl rfl rfl (q_move (.inr rfl) rfl) ?_
      refine AOps.nil ?_
      refine AGo.ret ?_
      refine ⟨[_], ⟨rfl, trivial⟩, ?_, rfl⟩
      show AV.int .u32 _ = _
      rw [wshift_small ha hb32 ho]

set_option maxRecDepth 100000 in
theorem flag_ok (ok : Bool) : APure Try.prog 58 [.bool ok] (fun r => r = .int .u32 (bif ok then 1 else 0)) := by
  refine APure.of_body (n := 4) tok Try.func58 rfl rfl ?_
  refine AGo.seq ?_
  refine AGo.region ?_
  refine AOps.s 2 rfl rfl rfl (q_move (.inr rfl) rfl) ?_
  refine AOps.nil ?_
  refine AGo.seq ?_
  refine AGo.seq ?_
  refine AGo.region ?_
  refine AOps.s 3 rfl rfl rfl (q_move (.inl rfl) rfl) ?_
  refine AOps.nil ?_
  refine AGo.split 3 rfl (fun hb1 => ?_) (fun hb1 => ?_)
  · -- True
    refine AGo.cond_true true rfl rfl ?_
    refine AGo.seq ?_
    refine AGo.region ?_
    refine AOps.s 2 rfl rfl rfl (q_move (.inr rfl) rfl) ?_
    refine AOps.nil ?_
    refine AGo.ret ?_
    refine ⟨[_], ⟨rfl, trivial⟩, ?_, rfl⟩
    show AV.int .u32 _ = _
    simp [*]
  · -- False
    refine AGo.cond_false false rfl rfl ?_
    refine AGo.skip ?_
    refine AGo.seq ?_
    refine AGo.region ?_
    refine AOps.s 2 rfl rfl rfl (q_move (.inr rfl) rfl) ?_
    refine AOps.nil ?_
    refine AGo.ret ?_
    refine ⟨[_], ⟨rfl, trivial⟩, ?_, rfl⟩
    show AV.int .u32 _ = _
    simp [*]

set_option maxRecDepth 100000 in
theorem rapply_okN (op : Int) (a b : Nat) (ha : a < 4294967296) (hb : b < 4294967296) : APure Try.prog 55 [.int .i64 op, .int .u32 (a : Int), .int .u32 (b : Int)] (fun r => r = wpair (wapp op a b)) := by
  refine APure.of_body (n := 80) tok Try.func55 rfl rfl ?_
  refine AGo.seq ?_
  refine AGo.region ?_
  refine AOps.s 6 rfl rfl rfl (q_move (.inr rfl) rfl) ?_
  refine AOps.s 7 rfl rfl rfl (q_move (.inr rfl) rfl) ?_
  refine AOps.nil ?_
  refine AGo.seq ?_
  refine AGo.region ?_
  refine AOps.s 10 rfl rfl rfl (q_move (.inl rfl) rfl) ?_
  refine AOps.s 11 rfl rfl rfl (q_convSame tok rfl rfl rfl rfl rfl (wrapN_u64 (by omega))) ?_
  refine AOps.s 12 rfl rfl rfl (q_move (.inl rfl) rfl) ?_
  refine AOps.s 13 rfl rfl rfl (q_convSame tok rfl rfl rfl rfl rfl (wrapN_u64 (by omega))) ?_
  refine AOps.s 8 rfl rfl rfl (q_move (.inr rfl) rfl) ?_
  refine AOps.s 9 rfl rfl rfl (q_move (.inr rfl) rfl) ?_
  refine AOps.nil ?_
  refine AGo.seq ?_
  refine AGo.seq ?_
  refine AGo.region ?_
  refine AOps.s 14 rfl rfl rfl (q_move (.inl rfl) rfl) ?_
  refine AOps.nil ?_
  refine AGo.block ?_
  refine AGo.seq ?_
  refine AGo.region ?_
  refine AOps.s 16 rfl rfl rfl (q_bin rfl rfl rfl rfl) ?_
  refine AOps.s 15 rfl rfl rfl (q_move (.inr rfl) rfl) ?_
  refine AOps.nil ?_
  refine AGo.split 15 rfl (fun hb1 => ?_) (fun hb1 => ?_)
  · -- True
    refine AGo.cond_true true rfl rfl ?_
    obtain rfl : op = 4 := by simpa using hb1
    refine AGo.seq ?_
    refine AGo.region ?_
    refine AOps.s 17 rfl rfl rfl (q_move (.inl rfl) rfl) ?_
    refine AOps.s 18 rfl rfl rfl (q_move (.inl rfl) rfl) ?_
    refine AOps.s 19 rfl rfl rfl (q_bin (r := .int .u64 ((a + b : Nat) : Int)) rfl rfl rfl (ebin_add (wrapN_u64 (by omega)))) ?_
    refine AOps.s 20 rfl rfl rfl (q_bin (r := .int .u64 (((a + b) % 4294967296 : Nat) : Int)) rfl rfl rfl (ebin_rem (a := a + b) (b := 4294967296) (by decide))) ?_
    refine AOps.s 21 rfl rfl rfl (q_convSame tok rfl rfl rfl rfl rfl (wrapN_u32 (Nat.mod_lt _ (by decide)))) ?_
    refine AOps.s 6 rfl rfl rfl (q_move (.inr rfl) rfl) ?_
    refine AOps.s 7 rfl rfl rfl (q_move (.inr rfl) rfl) ?_
    refine AOps.nil ?_
    refine AGo.ret ?_
    refine ⟨[_, _], ⟨rfl, rfl, trivial⟩, ?_, rfl⟩
    show AV.tup _ = _
    rw [wapp_add]; rfl
  · -- False
    refine AGo.cond_false false rfl rfl ?_
    refine AGo.seq ?_
    refine AGo.region ?_
    refine AOps.s 23 rfl rfl rfl (q_bin rfl rfl rfl rfl) ?_
    refine AOps.s 22 rfl rfl rfl (q_move (.inr rfl) rfl) ?_
    refine AOps.nil ?_
    refine AGo.split 22 rfl (fun hb2 => ?_) (fun hb2 => ?_)
    · -- True
      refine AGo.cond_true true rfl rfl ?_
      obtain rfl : op = 5 := by simpa using hb2
      refine AGo.seq ?_
      refine AGo.region ?_
      refine AOps.s 24 rfl rfl rfl (q_move (.inl rfl) rfl) ?_
      refine AOps.s 25 rfl rfl rfl (q_bin (r := .int .u64 ((a + 4294967296 : Nat) : Int)) rfl rfl rfl (ebin_add (b := 4294967296) (wrapN_u64 (by omega)))) ?_
      refine AOps.s 26 rfl rfl rfl (q_move (.inl rfl) rfl) ?_
      refine AOps.s 27 rfl rfl rfl (q_bin (r := .int .u64 ((a + 4294967296 - b : Nat) : Int)) rfl rfl rfl (ebin_sub (by omega) (wrapN_u64 (by omega)))) ?_
      refine AOps.s 28 rfl rfl rfl (q_bin (r := .int .u64 (((a + 4294967296 - b) % 4294967296 : Nat) : Int)) rfl rfl rfl (ebin_rem (a := a + 4294967296 - b) (b := 4294967296) (by decide))) ?_
      refine AOps.s 29 rfl rfl rfl (q_convSame tok rfl rfl rfl rfl rfl (wrapN_u32 (Nat.mod_lt _ (by decide)))) ?_
      refine AOps.s 6 rfl rfl rfl (q_move (.inr rfl) rfl) ?_
      refine AOps.s 7 rfl rfl rfl (q_move (.inr rfl) rfl) ?_
      refine AOps.nil ?_
      refine AGo.ret ?_
      refine ⟨[_, _], ⟨rfl, rfl, trivial⟩, ?_, rfl⟩
      show AV.tup _ = _
      rw [wapp_sub hb]; rfl
    · -- False
      refine AGo.cond_false false rfl rfl ?_
      refine AGo.seq ?_
      refine AGo.region ?_
      refine AOps.s 31 rfl rfl rfl (q_bin rfl rfl rfl rfl) ?_
      refine AOps.s 30 rfl rfl rfl (q_move (.inr rfl) rfl) ?_
      refine AOps.nil ?_
      refine AGo.split 30 rfl (fun hb3 => ?_) (fun hb3 => ?_)
      · -- True
        refine AGo.cond_true true rfl rfl ?_
        obtain rfl : op = 6 := by simpa using hb3
        have hab : a * b < 18446744073709551616 := by have := Nat.mul_lt_mul'' ha hb; omega
        refine AGo.seq ?_
        refine AGo.region ?_
        refine AOps.s 32 rfl rfl rfl (q_move (.inl rfl) rfl) ?_
        refine AOps.s 33 rfl rfl rfl (q_move (.inl rfl) rfl) ?_
        refine AOps.s 34 rfl rfl rfl (q_bin (r := .int .u64 ((a * b : Nat) : Int)) rfl rfl rfl (ebin_mul (wrapN_u64 hab))) ?_
        refine AOps.s 35 rfl rfl rfl (q_bin (r := .int .u64 ((a * b % 4294967296 : Nat) : Int)) rfl rfl rfl (ebin_rem (a := a * b) (b := 4294967296) (by decide))) ?_
        refine AOps.s 36 rfl rfl rfl (q_convSame tok rfl rfl rfl rfl rfl (wrapN_u32 (Nat.mod_lt _ (by decide)))) ?_
        refine AOps.s 6 rfl rfl rfl (q_move (.inr rfl) rfl) ?_
        refine AOps.s 7 rfl rfl rfl (q_move (.inr rfl) rfl) ?_
        refine AOps.nil ?_
        refine AGo.ret ?_
        refine ⟨[_, _], ⟨rfl, rfl, trivial⟩, ?_, rfl⟩
        show AV.tup _ = _
        rw [wapp_mul]; rfl
      · -- False
        refine AGo.cond_false false rfl rfl ?_
        refine AGo.seq ?_
        refine AGo.region ?_
        refine AOps.s 38 rfl rfl rfl (q_bin rfl rfl rfl rfl) ?_
        refine AOps.s 37 rfl rfl rfl (q_move (.inr rfl) rfl) ?_
        refine AOps.nil ?_
        refine AGo.split 37 rfl (fun hb4 => ?_) (fun hb4 => ?_)
        · -- True
          refine AGo.cond_true true rfl rfl ?_
          obtain rfl : op = 7 := by simpa using hb4
          refine AGo.seq ?_
          refine AGo.seq ?_
          refine AGo.region ?_
          refine AOps.s 39 rfl rfl rfl (q_move (.inl rfl) rfl) ?_
          refine AOps.s 40 rfl rfl rfl (q_bin rfl rfl rfl rfl) ?_
          refine AOps.nil ?_
          refine AGo.split 40 rfl (fun hb5 => ?_) (fun hb5 => ?_)
          · -- True
            refine AGo.cond_true true rfl rfl ?_
            obtain rfl : b = 0 := by have h := hb5; simp at h; omega
            refine AGo.seq ?_
            refine AGo.region ?_
            refine AOps.s 6 rfl rfl rfl (q_move (.inr rfl) rfl) ?_
            refine AOps.s 7 rfl rfl rfl (q_move (.inr rfl) rfl) ?_
            refine AOps.nil ?_
            refine AGo.ret ?_
            refine ⟨[_, _], ⟨rfl, rfl, trivial⟩, ?_, rfl⟩
            show AV.tup _ = _
            rw [show (((0 : Nat) : Int)) = 0 from rfl, wapp_div0 _ _ (by simp)]; rfl
          · -- False
            refine AGo.cond_false false rfl rfl ?_
            have hb0 : ¬ b = 0 := by have h := hb5; simp at h; omega
            have hda := Nat.div_le_self a b
            refine AGo.skip ?_
            refine AGo.seq ?_
            refine AGo.region ?_
            refine AOps.s 41 rfl rfl rfl (q_move (.inl rfl) rfl) ?_
            refine AOps.s 42 rfl rfl rfl (q_move (.inl rfl) rfl) ?_
            refine AOps.s 43 rfl rfl rfl (q_bin (r := .int .u64 ((a / b : Nat) : Int)) rfl rfl rfl (ebin_quo (Nat.pos_of_ne_zero hb0) (wrapN_u64 (by omega)))) ?_
            refine AOps.s 44 rfl rfl rfl (q_convSame tok rfl rfl rfl rfl rfl (wrapN_u32 (by omega))) ?_
            refine AOps.s 6 rfl rfl rfl (q_move (.inr rfl) rfl) ?_
            refine AOps.s 7 rfl rfl rfl (q_move (.inr rfl) rfl) ?_
            refine AOps.nil ?_
            refine AGo.ret ?_
            refine ⟨[_, _], ⟨rfl, rfl, trivial⟩, ?_, rfl⟩
            show AV.tup _ = _
            rw [wapp_div ha hb0]; rfl
        · -- False
          refine AGo.cond_false false rfl rfl ?_
          refine AGo.seq ?_
          refine AGo.region ?_
          refine AOps.s 46 rfl rfl rfl (q_bin rfl rfl rfl rfl) ?_
          refine AOps.s 45 rfl rfl rfl (q_move (.inr rfl) rfl) ?_
          refine AOps.nil ?_
          refine AGo.split 45 rfl (fun hb6 => ?_) (fun hb6 => ?_)
          · -- True
            refine AGo.cond_true true rfl rfl ?_
            obtain rfl : op = 8 := by simpa using hb6
            refine AGo.seq ?_
            refine AGo.seq ?_
            refine AGo.region ?_
            refine AOps.s 47 rfl rfl rfl (q_move (.inl rfl) rfl) ?_
            refine AOps.s 48 rfl rfl rfl (q_bin rfl rfl rfl rfl) ?_
            refine AOps.nil ?_
            refine AGo.split 48 rfl (fun hb7 => ?_) (fun hb7 => ?_)
            · -- True
              refine AGo.cond_true true rfl rfl ?_
              obtain rfl : b = 0 := by have h := hb7; simp at h; omega
              refine AGo.seq ?_
              refine AGo.region ?_
              refine AOps.s 6 rfl rfl rfl (q_move (.inr rfl) rfl) ?_
              refine AOps.s 7 rfl rfl rfl (q_move (.inr rfl) rfl) ?_
              refine AOps.nil ?_
              refine AGo.ret ?_
              refine ⟨[_, _], ⟨rfl, rfl, trivial⟩, ?_, rfl⟩
              show AV.tup _ = _
              rw [show (((0 : Nat) : Int)) = 0 from rfl, wapp_div0 _ _ (by simp)]; rfl
            · -- False
              refine AGo.cond_false false rfl rfl ?_
              have hb0 : ¬ b = 0 := by have h := hb7; simp at h; omega
              have hma := Nat.mod_lt a (Nat.pos_of_ne_zero hb0)
              refine AGo.skip ?_
              refine AGo.seq ?_
              refine AGo.region ?_
              refine AOps.s 49 rfl rfl rfl (q_move (.inl rfl) rfl) ?_
              refine AOps.s 50 rfl rfl rfl (q_move (.inl rfl) rfl) ?_
              refine AOps.s 51 rfl rfl rfl (q_bin (r := .int .u64 ((a % b : Nat) : Int)) rfl rfl rfl (ebin_rem (Nat.pos_of_ne_zero hb0))) ?_
              refine AOps.s 52 rfl rfl rfl (q_convSame tok rfl rfl rfl rfl rfl (wrapN_u32 (by omega))) ?_
              refine AOps.s 6 rfl rfl rfl (q_move (.inr rfl) rfl) ?_
              refine AOps.s 7 rfl rfl rfl (q_move (.inr rfl) rfl) ?_
              refine AOps.nil ?_
              refine AGo.ret ?_
              refine ⟨[_, _], ⟨rfl, rfl, trivial⟩, ?_, rfl⟩
              show AV.tup _ = _
              rw [wapp_mod hb0]; rfl
          · -- False
            refine AGo.cond_false false rfl rfl ?_
            refine AGo.seq ?_
            refine AGo.seq ?_
            refine AGo.region ?_
            refine AOps.s 54 rfl rfl rfl (q_bin rfl rfl rfl rfl) ?_
            refine AOps.s 53 rfl rfl rfl (q_move (.inr rfl) rfl) ?_
            refine AOps.nil ?_
            refine AGo.split 53 rfl (fun hb8 => ?_) (fun hb8 => ?_)
            · -- True
              refine AGo.cond_true true rfl rfl ?_
              refine AGo.skip ?_
              refine AGo.cond_true true rfl rfl ?_
              refine AGo.seq ?_
              refine AGo.region ?_
              have ho : op = 9 ∨ op = 10 ∨ op = 11 := by simp_all
              refine AOps.s 57 rfl rfl rfl (q_move (.inl rfl) rfl) ?_
              refine AOps.s 58 rfl rfl rfl (q_move (.inl rfl) rfl) ?_
              refine AOps.s 59 rfl rfl rfl (q_move (.inl rfl) rfl) ?_
              refine AOps.x 60 rfl rfl rfl (o_pure rfl Try.func56 (by kernel_rfl) rfl rfl rfl (both_ok _ a b ha hb)) ?_
              refine AOps.s 6 rfl rfl rfl (q_move (.inr rfl) rfl) ?_
              refine AOps.s 7 rfl rfl rfl (q_move (.inr rfl) rfl) ?_
              refine AOps.nil ?_
              refine AGo.ret ?_
              refine ⟨[_, _], ⟨rfl, rfl, trivial⟩, ?_, rfl⟩
              show AV.tup _ = _
              rw [wapp_both ha hb ho]; rfl
            · -- False
              refine AGo.cond_false false rfl rfl ?_
              refine AGo.seq ?_
              refine AGo.region ?_
              refine AOps.s 55 rfl rfl rfl (q_bin rfl rfl rfl rfl) ?_
              refine AOps.s 53 rfl rfl rfl (q_move (.inr rfl) rfl) ?_
              refine AOps.nil ?_
              refine AGo.split 53 rfl (fun hb9 => ?_) (fun hb9 => ?_)
              · -- True
                refine AGo.cond_true true rfl rfl ?_
                refine AGo.skip ?_
                refine AGo.cond_true true rfl rfl ?_
                refine AGo.seq ?_
                refine AGo.region ?_
                have ho : op = 9 ∨ op = 10 ∨ op = 11 := by simp_all
                refine AOps.s 57 rfl rfl rfl (q_move (.inl rfl) rfl) ?_
                refine AOps.s 58 rfl rfl rfl (q_move (.inl rfl) rfl) ?_
                refine AOps.s 59 rfl rfl rfl (q_move (.inl rfl) rfl) ?_
                refine AOps.x 60 rfl rfl rfl (o_pure rfl Try.func56 (by kernel_rfl) rfl rfl rfl (both_ok _ a b ha hb)) ?_
                refine AOps.s 6 rfl rfl rfl (q_move (.inr rfl) rfl) ?_
                refine AOps.s 7 rfl rfl rfl (q_move (.inr rfl) rfl) ?_
                refine AOps.nil ?_
                refine AGo.ret ?_
                refine ⟨[_, _], ⟨rfl, rfl, trivial⟩, ?_, rfl⟩
                show AV.tup _ = _
                rw [wapp_both ha hb ho]; rfl
              · -- False
                refine AGo.cond_false false rfl rfl ?_
                refine AGo.region ?_
                refine AOps.s 56 rfl rfl rfl (q_bin rfl rfl rfl rfl) ?_
                refine AOps.s 53 rfl rfl rfl (q_move (.inr rfl) rfl) ?_
                refine AOps.nil ?_
                refine AGo.split 53 rfl (fun hb10 => ?_) (fun hb10 => ?_)
                · -- True
                  refine AGo.cond_true true rfl rfl ?_
                  refine AGo.seq ?_
                  refine AGo.region ?_
                  have ho : op = 9 ∨ op = 10 ∨ op = 11 := by simp_all
                  refine AOps.s 57 rfl rfl rfl (q_move (.inl rfl) rfl) ?_
                  refine AOps.s 58 rfl rfl rfl (q_move (.inl rfl) rfl) ?_
                  refine AOps.s 59 rfl rfl rfl (q_move (.inl rfl) rfl) ?_
                  refine AOps.x 60 rfl rfl rfl (o_pure rfl Try.func56 (by kernel_rfl) rfl rfl rfl (both_ok _ a b ha hb)) ?_
                  refine AOps.s 6 rfl rfl rfl (q_move (.inr rfl) rfl) ?_
                  refine AOps.s 7 rfl rfl rfl (q_move (.inr rfl) rfl) ?_
                  refine AOps.nil ?_
                  refine AGo.ret ?_
                  refine ⟨[_, _], ⟨rfl, rfl, trivial⟩, ?_, rfl⟩
                  show AV.tup _ = _
                  rw [wapp_both ha hb ho]; rfl
                · -- False
                  refine AGo.cond_false false rfl rfl ?_
                  refine AGo.seq ?_
                  refine AGo.seq ?_
                  refine AGo.region ?_
                  refine AOps.s 62 rfl rfl rfl (q_bin rfl rfl rfl rfl) ?_
                  refine AOps.s 61 rfl rfl rfl (q_move (.inr rfl) rfl) ?_
                  refine AOps.nil ?_
                  refine AGo.split 61 rfl (fun hb11 => ?_) (fun hb11 => ?_)
                  · -- True
                    refine AGo.cond_true true rfl rfl ?_
                    refine AGo.skip ?_
                    refine AGo.cond_true true rfl rfl ?_
                    refine AGo.seq ?_
                    refine AGo.region ?_
                    have ho : op = 12 ∨ op = 13 := by simp_all
                    refine AOps.s 64 rfl rfl rfl (q_move (.inl rfl) rfl) ?_
                    refine AOps.s 65 rfl rfl rfl (q_move (.inl rfl) rfl) ?_
                    refine AOps.s 66 rfl rfl rfl (q_move (.inl rfl) rfl) ?_
                    refine AOps.x 67 rfl rfl rfl (o_pure rfl Try.func57 (by kernel_rfl) rfl rfl rfl (rshift_ok _ a b ha hb ho)) ?_
                    refine AOps.s 6 rfl rfl rfl (q_move (.inr rfl) rfl) ?_
                    refine AOps.s 7 rfl rfl rfl (q_move (.inr rfl) rfl) ?_
                    refine AOps.nil ?_
                    refine AGo.ret ?_
                    refine ⟨[_, _], ⟨rfl, rfl, trivial⟩, ?_, rfl⟩
                    show AV.tup _ = _
                    rw [wapp_shift ho]; rfl
                  · -- False
                    refine AGo.cond_false false rfl rfl ?_
                    refine AGo.region ?_
                    refine AOps.s 63 rfl rfl rfl (q_bin rfl rfl rfl rfl) ?_
                    refine AOps.s 61 rfl rfl rfl (q_move (.inr rfl) rfl) ?_
                    refine AOps.nil ?_
                    refine AGo.split 61 rfl (fun hb12 => ?_) (fun hb12 => ?_)
                    · -- True
                      refine AGo.cond_true true rfl rfl ?_
                      refine AGo.seq ?_
                      refine AGo.region ?_
                      have ho : op = 12 ∨ op = 13 := by simp_all
                      refine AOps.s 64 rfl rfl rfl (q_move (.inl rfl) rfl) ?_
                      refine AOps.s 65 rfl rfl rfl (q_move (.inl rfl) rfl) ?_
                      refine AOps.s 66 rfl rfl rfl (q_move (.inl rfl) rfl) ?_
                      refine AOps.x 67 rfl rfl rfl (o_pure rfl Try.func57 (by kernel_rfl) rfl rfl rfl (rshift_ok _ a b ha hb ho)) ?_
                      refine AOps.s 6 rfl rfl rfl (q_move (.inr rfl) rfl) ?_
                      refine AOps.s 7 rfl rfl rfl (q_move (.inr rfl) rfl) ?_
                      refine AOps.nil ?_
                      refine AGo.ret ?_
                      refine ⟨[_, _], ⟨rfl, rfl, trivial⟩, ?_, rfl⟩
                      show AV.tup _ = _
                      rw [wapp_shift ho]; rfl
                    · -- False
                      refine AGo.cond_false false rfl rfl ?_
                      refine AGo.seq ?_
                      refine AGo.region ?_
                      refine AOps.s 69 rfl rfl rfl (q_bin rfl rfl rfl rfl) ?_
                      refine AOps.s 68 rfl rfl rfl (q_move (.inr rfl) rfl) ?_
                      refine AOps.nil ?_
                      refine AGo.split 68 rfl (fun hb13 => ?_) (fun hb13 => ?_)
                      · -- True
                        refine AGo.cond_true true rfl rfl ?_
                        obtain rfl : op = 14 := by simpa using hb13
                        refine AGo.seq ?_
                        refine AGo.region ?_
                        refine AOps.s 70 rfl rfl rfl (q_move (.inl rfl) rfl) ?_
                        refine AOps.s 71 rfl rfl rfl (q_move (.inl rfl) rfl) ?_
                        refine AOps.s 72 rfl rfl rfl (q_bin rfl rfl rfl rfl) ?_
                        refine AOps.x 73 rfl rfl rfl (o_pure rfl Try.func58 (by kernel_rfl) rfl rfl rfl (flag_ok _)) ?_
                        refine AOps.s 6 rfl rfl rfl (q_move (.inr rfl) rfl) ?_
                        refine AOps.s 7 rfl rfl rfl (q_move (.inr rfl) rfl) ?_
                        refine AOps.nil ?_
                        refine AGo.ret ?_
                        refine ⟨[_, _], ⟨rfl, rfl, trivial⟩, ?_, rfl⟩
                        show AV.tup _ = _
                        rw [wapp_lt]; rfl
                      · -- False
                        refine AGo.cond_false false rfl rfl ?_
                        refine AGo.seq ?_
                        refine AGo.region ?_
                        refine AOps.s 75 rfl rfl rfl (q_bin rfl rfl rfl rfl) ?_
                        refine AOps.s 74 rfl rfl rfl (q_move (.inr rfl) rfl) ?_
                        refine AOps.nil ?_
                        refine AGo.split 74 rfl (fun hb14 => ?_) (fun hb14 => ?_)
                        · -- True
                          refine AGo.cond_true true rfl rfl ?_
                          obtain rfl : op = 15 := by simpa using hb14
                          refine AGo.seq ?_
                          refine AGo.region ?_
                          refine AOps.s 76 rfl rfl rfl (q_move (.inl rfl) rfl) ?_
                          refine AOps.s 77 rfl rfl rfl (q_move (.inl rfl) rfl) ?_
                          refine AOps.s 78 rfl rfl rfl (q_bin rfl rfl rfl rfl) ?_
                          refine AOps.x 79 rfl rfl rfl (o_pure rfl Try.func58 (by kernel_rfl) rfl rfl rfl (flag_ok _)) ?_
                          refine AOps.s 6 rfl rfl rfl (q_move (.inr rfl) rfl) ?_
                          refine AOps.s 7 rfl rfl rfl (q_move (.inr rfl) rfl) ?_
                          refine AOps.nil ?_
                          refine AGo.ret ?_
                          refine ⟨[_, _], ⟨rfl, rfl, trivial⟩, ?_, rfl⟩
                          show AV.tup _ = _
                          rw [wapp_eq]; rfl
                        · -- False
                          refine AGo.cond_false false rfl rfl ?_
                          refine AGo.skip ?_
                          refine AGo.seq ?_
                          refine AGo.region ?_
                          refine AOps.s 6 rfl rfl rfl (q_move (.inr rfl) rfl) ?_
                          refine AOps.s 7 rfl rfl rfl (q_move (.inr rfl) rfl) ?_
                          refine AOps.nil ?_
                          refine AGo.ret ?_
                          refine ⟨[_, _], ⟨rfl, rfl, trivial⟩, ?_, rfl⟩
                          show AV.tup _ = AV.tup _
                          simp [wapp, *]

theorem rapply_ok (op a b : Int) (ha : isW a) (hb : isW b) : APure Try.prog 55 [.int .i64 op, .int .u32 a, .int .u32 b] (fun r => r = wpair (wapp op a b)) := by
  obtain ⟨n, rfl⟩ := Int.eq_ofNat_of_zero_le ha.1
  obtain ⟨m, rfl⟩ := Int.eq_ofNat_of_zero_le hb.1
  exact rapply_okN op n m (by have := ha.2; omega) (by have := hb.2; omega)

end Go.Proofs.Ytidfabbnobipkaa.Sv
