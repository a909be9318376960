/-
  The law TidyChain of the given program answers true for every input, and leaves its arguments as they were. There is no condition. Own work.
  WALKS: printed by a program of our own from the code's tree.
  THE LAW ON BLOCKS IN A ROW, STEP BY STEP, IN PLAIN LEAN: own work, over no program.
  WALKS: printed by a program of our own from the code's tree.
-/
import Derived.Test.YtidfabbnobipkaaPTidyChain3
import Derived.Test.YtidfabbnobipkaaPTidyChain2
namespace Go.Proofs.Ytidfabbnobipkaa.Sv
open Go
set_option linter.unusedVariables false
set_option linter.unusedSimpArgs false

set_option maxRecDepth 100000 in
theorem same_ok (a b : List (List Int)) (hl : a.length ≤ 1000000) (hp : ∀ p ∈ a, p.length ≤ 1000000000) : APure Try.prog 16 [pathsAV a, pathsAV b] (fun r => r = .bool (decide (a = b))) := by
  refine APure.of_body (n := 27) tok Try.func16 rfl rfl ?_
  refine AGo.seq ?_
  refine AGo.region ?_
  refine AOps.s 4 rfl rfl rfl (q_move (.inr rfl) rfl) ?_
  refine AOps.nil ?_
  refine AGo.seq ?_
  refine AGo.seq ?_
  refine AGo.region ?_
  refine AOps.s 6 rfl rfl rfl (q_move (.inl rfl) rfl) ?_
  refine AOps.s 7 rfl rfl rfl (q_len tok rfl rfl rfl rfl rfl) ?_
  refine AOps.s 8 rfl rfl rfl (q_move (.inl rfl) rfl) ?_
  refine AOps.s 9 rfl rfl rfl (q_len tok rfl rfl rfl rfl rfl) ?_
  refine AOps.s 10 rfl rfl rfl (q_bin rfl rfl rfl rfl) ?_
  refine AOps.nil ?_
  refine AGo.split 10 rfl (fun hb1 => ?_) (fun hb1 => ?_)
  · -- True
    refine AGo.cond_true true rfl rfl ?_
    have hlr : a.length ≠ b.length := by have h := hb1; simp at h; omega
    refine AGo.seq ?_
    refine AGo.region ?_
    refine AOps.s 4 rfl rfl rfl (q_move (.inr rfl) rfl) ?_
    refine AOps.nil ?_
    refine AGo.ret ?_
    refine ⟨[_], ⟨rfl, trivial⟩, ?_, rfl⟩
    show AV.bool _ = AV.bool _
    congr 1
    exact (decide_eq_false (by rintro rfl; exact hlr rfl)).symm
  · -- False
    refine AGo.cond_false false rfl rfl ?_
    have hlr : a.length = b.length := by have h := hb1; simp at h; omega
    refine AGo.skip ?_
    refine AGo.seq ?_
    refine AGo.seq ?_
    refine AGo.region ?_
    refine AOps.s 5 rfl rfl rfl (q_move (.inr rfl) rfl) ?_
    refine AOps.nil ?_
    refine AGo.block ?_
    refine AGo.loopI (γ := Nat) (fun k => ⟨27, (eput (eput (eput eNew 0 (pathsAV a)) 1 (pathsAV b)) 5 (.int .i64 (k : Int))), hNone⟩) (fun k => a.take k = b.take k) (fun k => a.length - k) 0 (Sub.mk' (by repeat (first | exact ESub.new _ | refine ESub.put ?_ (by rfl))) (by repeat (first | exact HSub.none _ | exact HSub.from_new _ | exact HSub.from_from (by first | decide | omega | (dsimp only; omega)) | refine HSub.put ?_ (by rfl) | refine HSub.from_put ?_ (by first | decide | omega | (dsimp only; omega)) | refine HSub.from_rm ?_ (by decide)))) rfl ?_
    intro k ht
    refine AGo.seq ?_
    refine AGo.seq ?_
    refine AGo.region ?_
    refine AOps.s 11 rfl rfl rfl (q_move (.inl rfl) rfl) ?_
    refine AOps.s 12 rfl rfl rfl (q_move (.inl rfl) rfl) ?_
    refine AOps.s 13 rfl rfl rfl (q_len tok rfl rfl rfl rfl rfl) ?_
    refine AOps.s 14 rfl rfl rfl (q_bin rfl rfl rfl rfl) ?_
    refine AOps.nil ?_
    refine AGo.split 14 rfl (fun hb2 => ?_) (fun hb2 => ?_)
    · -- True
      refine AGo.cond_true true rfl rfl ?_
      have hkl : k < a.length := lt_of_idx hb2
      obtain ⟨x, hx⟩ := get_of_lt hkl
      obtain ⟨y, hy⟩ := get_of_lt (l := b) (k := k) (by omega)
      refine AGo.skip ?_
      refine AGo.seq ?_
      refine AGo.block ?_
      refine AGo.seq ?_
      refine AGo.draw mix ?_
      refine DOps.s 17 rfl rfl rfl (q_move (.inl rfl) rfl) ?_
      refine DOps.s 18 rfl rfl rfl (q_move (.inl rfl) rfl) ?_
      refine DOps.s 19 rfl rfl rfl (q_index_lst tok rfl rfl rfl rfl rfl rfl (Int.natCast_nonneg _) (idx_map hx) rfl) ?_
      refine DOps.s 20 rfl rfl rfl (q_load tok rfl rfl rfl (by first | exact .loc _ | exact .ptr _ _ _ _ _ _ _ _ rfl rfl rfl) rfl) ?_
      refine DOps.s 21 rfl rfl rfl (q_move (.inl rfl) rfl) ?_
      refine DOps.s 22 rfl rfl rfl (q_move (.inl rfl) rfl) ?_
      refine DOps.s 23 rfl rfl rfl (q_index_lst tok rfl rfl rfl rfl rfl rfl (Int.natCast_nonneg _) (idx_map hy) rfl) ?_
      refine DOps.s 24 rfl rfl rfl (q_load tok rfl rfl rfl (by first | exact .loc _ | exact .ptr _ _ _ _ _ _ _ _ rfl rfl rfl) rfl) ?_
      refine DOps.x 25 rfl rfl rfl (o_pure rfl Try.func26 (by kernel_rfl) rfl rfl rfl (list_ok x y (hp x (List.mem_of_getElem? hx)))) ?_
      refine DOps.s 26 rfl rfl rfl (q_not rfl rfl) ?_
      refine DOps.nil (by kernel_rfl) ?_
      refine AGo.split 26 rfl (fun hb3 => ?_) (fun hb3 => ?_)
      · -- True
        refine AGo.cond_true true rfl rfl ?_
        have hxy : x ≠ y := by simpa using hb3
        refine AGo.seq ?_
        refine AGo.region ?_
        refine AOps.s 4 rfl rfl rfl (q_move (.inr rfl) rfl) ?_
        refine AOps.nil ?_
        refine AGo.ret ?_
        refine ⟨[_], ⟨rfl, trivial⟩, ?_, rfl⟩
        show AV.bool _ = AV.bool _
        congr 1
        exact (decide_eq_false (by rintro rfl; rw [hx] at hy; cases hy; exact hxy rfl)).symm
      · -- False
        refine AGo.cond_false false rfl rfl ?_
        have hxy : x = y := by simpa using hb3
        refine AGo.skip ?_
        refine AGo.region ?_
        refine AOps.s 15 rfl rfl rfl (q_move (.inl rfl) rfl) ?_
        refine AOps.s 16 rfl rfl rfl (q_inc rfl rfl hkl (by simp only [maxLen]; omega)) ?_
        refine AOps.s 5 rfl rfl rfl (q_move (.inr rfl) rfl) ?_
        refine AOps.nil ?_
        exact ⟨k+1, Sub.mk' (by repeat (first | exact ESub.new _ | refine ESub.put ?_ (by rfl))) (by repeat (first | exact HSub.none _ | exact HSub.from_new _ | exact HSub.from_from (by first | decide | omega | (dsimp only; omega)) | refine HSub.put ?_ (by rfl) | refine HSub.from_put ?_ (by first | decide | omega | (dsimp only; omega)) | refine HSub.from_rm ?_ (by decide))), (by rw [take_succ_eq hx, take_succ_eq hy, ht, hxy]), by omega⟩
    · -- False
      refine AGo.cond_false false rfl rfl ?_
      have hge := ge_of_idx hb2
      refine AGo.exit ?_
      refine AGo.seq ?_
      refine AGo.region ?_
      refine AOps.s 4 rfl rfl rfl (q_move (.inr rfl) rfl) ?_
      refine AOps.nil ?_
      refine AGo.ret ?_
      refine ⟨[_], ⟨rfl, trivial⟩, ?_, rfl⟩
      show AV.bool _ = AV.bool _
      congr 1
      exact (decide_eq_true (take_all ht hge (hlr ▸ hge))).symm

end Go.Proofs.Ytidfabbnobipkaa.Sv

namespace Go.Proofs.Ytidfabbnobipkaa.Sv
open Go
set_option linter.unusedVariables false
set_option linter.unusedSimpArgs false

def selTo (keys : List Int) (k : Nat) (i : Nat) : List Int := ((List.range i).filter fun (j : Nat) => iget keys j == (k : Int)).map fun (j : Nat) => (j : Int) + 1
theorem selTo_hit {keys : List Int} {k i : Nat} {y : Int} (hy : keys[i]? = some y) (h : (y == (k : Int)) = true) : selTo keys k (i + 1) = selTo keys k i ++ [((i + 1 : Nat) : Int)] := by
  have e : iget keys (i : Int) = y := by simp [iget, hy]
  unfold selTo
  rw [List.range_succ, List.filter_append, List.map_append]
  simp [e, h]
theorem selTo_miss {keys : List Int} {k i : Nat} {y : Int} (hy : keys[i]? = some y) (h : (y == (k : Int)) = false) : selTo keys k (i + 1) = selTo keys k i := by
  have e : iget keys (i : Int) = y := by simp [iget, hy]
  unfold selTo
  rw [List.range_succ, List.filter_append, List.map_append]
  simp [e, h]
theorem selTo_len (keys : List Int) (k i : Nat) : (selTo keys k i).length ≤ i := by
  unfold selTo
  rw [List.length_map]
  exact Nat.le_trans (List.length_filter_le _ _) (by simp)
theorem orderTo_len (keys : List Int) (m : Nat) : (orderTo keys m).length ≤ keys.length := by
  rw [orderTo_length]; exact List.countP_le_length
theorem wf_bytes {keys : List Int} (h : ∀ n ∈ keys, (Lit.int .u8 n).wf = true) : bytesIn keys := fun x hx => wf_u8 (h x hx)
theorem weak_zB (n : Nat) : ∀ (i : Nat) (cs cs' : List AV), (List.replicate n [AV.nil, .int .i64 0, .int .i64 0, .int .i64 0, .int .i64 0])[i]? = some cs → (List.replicate n zBlock.cells)[i]? = some cs' → cs'.length = cs.length ∧ ∀ (j : Nat) (x y : AV), cs[j]? = some x → cs'[j]? = some y → y.cell1 = true ∧ ∀ H v, Rel H noLay x v → Rel H noLay y v := fun i cs cs' h1 h2 => by
  have e1 := List.eq_of_mem_replicate (List.mem_of_getElem? h1)
  have e2 := List.eq_of_mem_replicate (List.mem_of_getElem? h2)
  subst e1; subst e2
  refine ⟨rfl, fun j x y hx hy => ?_⟩
  match j, hx, hy with
  | 0, hx, hy => simp [zBlock, Block.cells, insAV] at hx hy; subst hx; subst hy; exact ⟨rfl, fun H v h => nil_empty h⟩
  | 1, hx, hy => simp [zBlock, Block.cells] at hx hy; subst hx; subst hy; exact ⟨rfl, fun H v h => h⟩
  | 2, hx, hy => simp [zBlock, Block.cells] at hx hy; subst hx; subst hy; exact ⟨rfl, fun H v h => h⟩
  | 3, hx, hy => simp [zBlock, Block.cells] at hx hy; subst hx; subst hy; exact ⟨rfl, fun H v h => h⟩
  | 4, hx, hy => simp [zBlock, Block.cells] at hx hy; subst hx; subst hy; exact ⟨rfl, fun H v h => h⟩
  | j + 5, hx, hy => simp at hx
theorem cBlocks_old {p : List Int} (m : Nat) {x : Int} (hx : 0 ≤ x ∧ x < p.length) : ∃ b : Block, (cBlocks p m)[x.toNat]? = some b := get_of_lt (by rw [cBlocks_length]; omega)
theorem cBlocks_last {p : List Int} {i : Nat} {x : Int} (hx : p[i]? = some x) (hn : p[i + 1]? = none) : ((cBlocks p i).map Block.cells).set (0 + x.toNat) [insAV [cTac x], .int .i64 3, .int .i64 0, .int .i64 0, .int .i64 0] = (cBlocks p (i + 1)).map Block.cells := by
  have e : iget p i = x := by simp [iget, hx]
  show _ = ((cBlocks p i).set (iget p i).toNat (cBlock p i)).map Block.cells
  rw [List.map_set, e, Nat.zero_add, cBlock, hn, e]
  rfl
theorem cBlocks_jump {p : List Int} {i : Nat} {x y : Int} (hx : p[i]? = some x) (hn : p[i + 1]? = some y) : ((cBlocks p i).map Block.cells).set (0 + x.toNat) [insAV [cTac x], .int .i64 1, .int .i64 0, .int .i64 y, .int .i64 0] = (cBlocks p (i + 1)).map Block.cells := by
  have e : iget p i = x := by simp [iget, hx]
  show _ = ((cBlocks p i).set (iget p i).toNat (cBlock p i)).map Block.cells
  rw [List.map_set, e, Nat.zero_add, cBlock, hn, e]
  rfl
theorem cTame {keys : List Int} (h : bytesIn keys) (hl : keys.length ≤ 19) : (cFunc (orderP keys)).tame := by
  have hpl := orderP_length h
  have hc := cFunc_chainy h
  have hle := hc.leads
  refine ⟨by simp only [cFunc, cBlocks_length]; omega, fun x hx => ?_, hle, fun k hk => head_ends hle hk⟩
  obtain ⟨j, hj⟩ := List.getElem?_of_mem hx
  have hjl := (List.getElem?_eq_some_iff.1 hj).1
  have hin : ∀ x ∈ orderP keys, 0 ≤ x ∧ x < (orderP keys).length := fun x hx => by
    have := (orderP_mem h x).1 hx
    omega
  have hm : (j : Int) ∈ orderP keys := (hc.mem j).2 (by omega)
  obtain ⟨i, hi⟩ := List.getElem?_of_mem hm
  have hb := cFunc_at (orderP_nodup keys) hin hi
  have hbx : (cFunc (orderP keys)).blockAt (j : Int) = x := by simp [BFunc.blockAt, hj]
  rw [← hbx, hb]
  unfold cBlock
  split <;> simp
theorem cAll_get {p : List Int} {i : Nat} {x : Int} (h : p[i]? = some x) : (cAll p)[i]? = some (cTac x) := by simp [cAll, h]
theorem cAll_length (p : List Int) : (cAll p).length = p.length := by simp [cAll]
end Go.Proofs.Ytidfabbnobipkaa.Sv

namespace Go.Proofs.Ytidfabbnobipkaa.Sv
open Go
set_option linter.unusedVariables false
set_option linter.unusedSimpArgs false

set_option maxRecDepth 100000 in
theorem tidyChain_ok (keys : List Int) (hk : keys.length * 1 ≤ reachBytes ∧ ∀ n ∈ keys, (Lit.int .u8 n).wf = true) : APure Try.prog 8 [(.lst false (keys.map fun n => [.int .u8 n]))] (fun r => r = .bool true) := by
  refine APure.of_body (n := 113) tok Try.func8 rfl rfl ?_
  refine AGo.seq ?_
  refine AGo.region ?_
  refine AOps.s 2 rfl rfl rfl (q_move (.inr rfl) rfl) ?_
  refine AOps.nil ?_
  refine AGo.seq ?_
  refine AGo.seq ?_
  refine AGo.region ?_
  refine AOps.x 13 rfl rfl rfl (o_pure rfl Try.func11 (by kernel_rfl) rfl rfl rfl (awake_ok)) ?_
  refine AOps.s 14 rfl rfl rfl (q_not rfl rfl) ?_
  refine AOps.nil ?_
  refine AGo.cond_false false rfl rfl ?_
  refine AGo.skip ?_
  refine AGo.seq ?_
  refine AGo.seq ?_
  refine AGo.region ?_
  refine AOps.s 15 rfl rfl rfl (q_move (.inl rfl) rfl) ?_
  refine AOps.s 16 rfl rfl rfl (q_len tok rfl rfl rfl rfl rfl) ?_
  refine AOps.s 17 rfl rfl rfl (q_bin rfl rfl rfl rfl) ?_
  refine AOps.nil ?_
  refine AGo.split 17 rfl (fun hb1 => ?_) (fun hb1 => ?_)
  · -- True
    refine AGo.cond_true true rfl rfl ?_
    refine AGo.seq ?_
    refine AGo.region ?_
    refine AOps.s 2 rfl rfl rfl (q_move (.inr rfl) rfl) ?_
    refine AOps.nil ?_
    refine AGo.ret ?_
    refine ⟨[_], ⟨rfl, trivial⟩, ?_, rfl⟩
    rfl
  · -- False
    refine AGo.cond_false false rfl rfl ?_
    have hl : keys.length ≤ 19 := by have h := hb1; simp at h; omega
    have hby := wf_bytes hk.2
    obtain ⟨P, hP⟩ : ∃ P, P = orderP keys := ⟨_, rfl⟩
    have hpl : P.length = keys.length + 1 := by rw [hP]; exact orderP_length hby
    have hPm : ∀ x ∈ P, 0 ≤ x ∧ x < P.length := fun x hx => by rw [hP] at hx; have := (orderP_mem hby x).1 hx; omega
    have hct : (cFunc P).tame := hP ▸ cTame hby hl
    have hcp : (cFunc P).tpaths = [P] ∧ (cFunc P).tidy = ⟨1, [⟨cAll P, 3, 0, 0, 0⟩]⟩ := by rw [hP]; exact cTidy hby
    refine AGo.skip ?_
    refine AGo.seq ?_
    refine AGo.region ?_
    refine AOps.s 3 rfl rfl rfl (q_move (.inr rfl) rfl) ?_
    refine AOps.nil ?_
    refine AGo.seq ?_
    refine AGo.seq ?_
    refine AGo.ghost (.dry 3 0 1 true rfl rfl rfl (by decide)) ?_
    refine AGo.region ?_
    refine AOps.s 4 rfl rfl rfl (q_move (.inr rfl) rfl) ?_
    refine AOps.nil ?_
    refine AGo.block ?_
    refine AGo.loopD (γ := Nat) 1 (fun k => ⟨113, (eput (eput (eput eNew 0 (.lst false (keys.map fun n => [.int .u8 n]))) 3 (.ref 0 (orderTo keys k).length 0 (orderTo keys k).length)) 4 (.int .i64 (k : Int))), (hput (hFrom 1) 0 (.row true 1 (intCells (orderTo keys k))))⟩) (fun k => k ≤ 256) (fun k => 256 - k) 0 (Sub.mk' (by repeat (first | exact ESub.new _ | refine ESub.put ?_ (by rfl))) (by repeat (first | exact HSub.none _ | exact HSub.from_new _ | exact HSub.from_from (by first | decide | omega | (dsimp only; omega)) | refine HSub.put ?_ (by rfl) | refine HSub.from_put ?_ (by first | decide | omega | (dsimp only; omega)) | refine HSub.from_rm ?_ (by decide)))) (Nat.zero_le _) (fun _ => hput_free (fun b hb => hFrom_free hb) rfl) ?_
    intro k hk0
    refine AGo.seq ?_
    refine AGo.seq ?_
    refine AGo.region ?_
    refine AOps.s 18 rfl rfl rfl (q_move (.inl rfl) rfl) ?_
    refine AOps.s 19 rfl rfl rfl (q_bin rfl rfl rfl rfl) ?_
    refine AOps.nil ?_
    refine AGo.split 19 rfl (fun hb2 => ?_) (fun hb2 => ?_)
    · -- True
      refine AGo.cond_true true rfl rfl ?_
      have hkl : k < 256 := by have h := hb2; simp at h; omega
      have hol := orderTo_len keys k
      refine AGo.skip ?_
      refine AGo.seq ?_
      refine AGo.block ?_
      refine AGo.seq ?_
      refine AGo.region ?_
      refine AOps.s 5 rfl rfl rfl (q_move (.inr rfl) rfl) ?_
      refine AOps.nil ?_
      refine AGo.block ?_
      refine AGo.loopD (γ := Nat) 1 (fun i => ⟨113, (eput (eput (eput (eput eNew 0 (.lst false (keys.map fun n => [.int .u8 n]))) 3 (.ref 0 (orderTo keys k ++ selTo keys k i).length 0 (orderTo keys k ++ selTo keys k i).length)) 4 (.int .i64 (k : Int))) 5 (.int .i64 (i : Int))), (hput (hFrom 1) 0 (.row true 1 (intCells (orderTo keys k ++ selTo keys k i))))⟩) (fun i => i ≤ keys.length) (fun i => keys.length - i) 0 (Sub.mk' (by repeat (first | exact ESub.new _ | refine ESub.put ?_ (by first | rfl | exact congrArg (fun l : List Int => some (AV.ref 0 l.length 0 l.length)) (show _ = (orderTo keys k ++ selTo keys k 0) by simp [selTo])))) (by repeat (first | exact HSub.none _ | exact HSub.from_new _ | exact HSub.from_from (by first | decide | omega | (dsimp only; omega)) | refine HSub.put ?_ (by first | rfl | exact congrArg (fun l => some (AObj.row true 1 (intCells l))) (show _ = (orderTo keys k ++ selTo keys k 0) by simp [selTo])) | refine HSub.from_put ?_ (by first | decide | omega | (dsimp only; omega)) | refine HSub.from_rm ?_ (by decide)))) (Nat.zero_le _) (fun _ => hput_free (fun b hb => hFrom_free hb) rfl) ?_
      intro i hi0
      refine AGo.seq ?_
      refine AGo.seq ?_
      refine AGo.region ?_
      refine AOps.s 22 rfl rfl rfl (q_move (.inl rfl) rfl) ?_
      refine AOps.s 23 rfl rfl rfl (q_move (.inl rfl) rfl) ?_
      refine AOps.s 24 rfl rfl rfl (q_len tok rfl rfl rfl rfl rfl) ?_
      refine AOps.s 25 rfl rfl rfl (q_bin rfl rfl rfl rfl) ?_
      refine AOps.nil ?_
      refine AGo.split 25 rfl (fun hb3 => ?_) (fun hb3 => ?_)
      · -- True
        refine AGo.cond_true true rfl rfl ?_
        have hil : i < keys.length := lt_of_idx hb3
        obtain ⟨y, hy⟩ := get_of_lt hil
        have hyr := hby y (List.mem_of_getElem? hy)
        have hsl := selTo_len keys k i
        refine AGo.skip ?_
        refine AGo.seq ?_
        refine AGo.block ?_
        refine AGo.seq ?_
        refine AGo.region ?_
        refine AOps.s 28 rfl rfl rfl (q_move (.inl rfl) rfl) ?_
        refine AOps.s 29 rfl rfl rfl (q_move (.inl rfl) rfl) ?_
        refine AOps.s 30 rfl rfl rfl (q_index_lst tok rfl rfl rfl rfl rfl rfl (Int.natCast_nonneg _) (idx_map hy) rfl) ?_
        refine AOps.s 31 rfl rfl rfl (q_load tok rfl rfl rfl (by first | exact .loc _ | exact .ptr _ _ _ _ _ _ _ _ rfl rfl rfl) rfl) ?_
        refine AOps.s 32 rfl rfl rfl (q_convTo tok rfl rfl rfl rfl rfl (r := y) (wrap_i64 (by omega) (by omega))) ?_
        refine AOps.s 33 rfl rfl rfl (q_move (.inl rfl) rfl) ?_
        refine AOps.s 34 rfl rfl rfl (q_bin rfl rfl rfl rfl) ?_
        refine AOps.nil ?_
        refine AGo.split 34 rfl (fun hb4 => ?_) (fun hb4 => ?_)
        · -- True
          refine AGo.cond_true true rfl rfl ?_
          have hyk : (y == (k : Int)) = true := hb4
          refine AGo.region ?_
          refine AOps.s 35 rfl rfl rfl (q_move (.inl rfl) rfl) ?_
          refine AOps.s 36 rfl rfl rfl (q_move (.inl rfl) rfl) ?_
          refine AOps.s 37 rfl rfl rfl (q_inc rfl rfl hil (by simp only [maxLen]; omega)) ?_
          refine AOps.x 38 rfl rfl rfl (o_lit' tok rfl rfl rfl rfl rfl rfl (by decide) rfl rfl rfl rfl rfl rfl) ?_
          refine AOps.x 39 rfl rfl rfl (o_append tok (n := (orderTo keys k ++ selTo keys k i).length) (m := 1) rfl rfl rfl rfl rfl rfl rfl rfl rfl (by rw [intCells_len]) rfl rfl (Nat.zero_lt_succ _) (.lst _ _) (by intro cs h; simp [partVals] at h; subst h; rfl) (fun _ cs h => by simp [partVals] at h; subst h; rfl) rfl (by simp [partVals, intCells_len]; show _ * 8 ≤ _; omega) (by simp [partVals, intCells_len]; simp only [maxLen]; omega)) ?_
          refine AOps.s 3 rfl rfl rfl (q_move (.inr rfl) rfl) ?_
          refine AOps.nil ?_
          refine AGo.region ?_
          refine AOps.s 26 rfl rfl rfl (q_move (.inl rfl) rfl) ?_
          refine AOps.s 27 rfl rfl rfl (q_inc rfl rfl hil (by simp only [maxLen]; omega)) ?_
          refine AOps.s 5 rfl rfl rfl (q_move (.inr rfl) rfl) ?_
          refine AOps.nil ?_
          exact ⟨i+1, Drop.mk' (by repeat (first | exact EDrop.new _ _ | refine EDrop.put ?_ (by first | rfl | exact congrArg (fun n : Nat => some (AV.ref 0 n 0 n)) (by rw [selTo_hit hy hyk]; simp only [List.length_append, List.length_singleton]; omega) | exact congrArg (fun l : List Int => some (AV.ref 0 l.length 0 l.length)) (by rw [selTo_miss hy hyk])) rfl)) (by repeat (first | exact HDrop.none _ _ | exact HDrop.tail _ _ | refine HDrop.put ?_ (by first | rfl | exact congrArg (fun es => some (AObj.row true 1 es)) (by rw [selTo_hit hy hyk]; simp [intCells, partVals, AV.cells]) | exact congrArg (fun l => some (AObj.row true 1 (intCells l))) (by rw [selTo_miss hy hyk])) rfl rfl)), hil, by omega⟩
        · -- False
          refine AGo.cond_false false rfl rfl ?_
          have hyk : (y == (k : Int)) = false := hb4
          refine AGo.skip ?_
          refine AGo.region ?_
          refine AOps.s 26 rfl rfl rfl (q_move (.inl rfl) rfl) ?_
          refine AOps.s 27 rfl rfl rfl (q_inc rfl rfl hil (by simp only [maxLen]; omega)) ?_
          refine AOps.s 5 rfl rfl rfl (q_move (.inr rfl) rfl) ?_
          refine AOps.nil ?_
          exact ⟨i+1, Drop.mk' (by repeat (first | exact EDrop.new _ _ | refine EDrop.put ?_ (by first | rfl | exact congrArg (fun n : Nat => some (AV.ref 0 n 0 n)) (by rw [selTo_hit hy hyk]; simp only [List.length_append, List.length_singleton]; omega) | exact congrArg (fun l : List Int => some (AV.ref 0 l.length 0 l.length)) (by rw [selTo_miss hy hyk])) rfl)) (by repeat (first | exact HDrop.none _ _ | exact HDrop.tail _ _ | refine HDrop.put ?_ (by first | rfl | exact congrArg (fun es => some (AObj.row true 1 es)) (by rw [selTo_hit hy hyk]; simp [intCells, partVals, AV.cells]) | exact congrArg (fun l => some (AObj.row true 1 (intCells l))) (by rw [selTo_miss hy hyk])) rfl rfl)), hil, by omega⟩
      · -- False
        refine AGo.cond_false false rfl rfl ?_
        have hge : keys.length ≤ i := ge_of_idx hb3
        obtain rfl : i = keys.length := by omega
        refine AGo.exit ?_
        refine AGo.region ?_
        refine AOps.s 20 rfl rfl rfl (q_move (.inl rfl) rfl) ?_
        refine AOps.s 21 rfl rfl rfl (q_inc rfl rfl hkl (by simp only [maxLen]; omega)) ?_
        refine AOps.s 4 rfl rfl rfl (q_move (.inr rfl) rfl) ?_
        refine AOps.nil ?_
        exact ⟨k+1, Drop.mk' (by repeat (first | exact EDrop.new _ _ | refine EDrop.put ?_ (by first | rfl | exact congrArg (fun l : List Int => some (AV.ref 0 l.length 0 l.length)) (show (orderTo keys k ++ selTo keys k keys.length) = _ by rfl)) rfl)) (by repeat (first | exact HDrop.none _ _ | exact HDrop.tail _ _ | refine HDrop.put ?_ (by first | rfl | exact congrArg (fun l => some (AObj.row true 1 (intCells l))) (show (orderTo keys k ++ selTo keys k keys.length) = _ by rfl)) rfl rfl)), hkl, by omega⟩
    · -- False
      refine AGo.cond_false false rfl rfl ?_
      have hge : 256 ≤ k := by have h := hb2; simp at h; omega
      obtain rfl : k = 256 := by omega
      have hol := orderTo_len keys 256
      have hPO : P = 0 :: orderTo keys 256 := hP
      generalize orderTo keys 256 = O at hPO hol ⊢
      refine AGo.exit ?_
      refine AGo.seq ?_
      refine AGo.ghost (.freezeA 3 0 rfl rfl (by rw [intCells_len])) ?_
      refine AGo.region ?_
      refine AOps.x 40 rfl rfl rfl (o_litRow tok 1 true rfl rfl rfl rfl rfl rfl (by decide) rfl rfl rfl rfl (by first | exact fun _ => rfl | (intro h; cases h)) rfl rfl) ?_
      refine AOps.s 41 rfl rfl rfl (q_move (.inl rfl) rfl) ?_
      refine AOps.x 42 rfl rfl rfl (o_append tok (n := 1) (m := O.length) rfl rfl rfl rfl rfl rfl rfl rfl rfl rfl rfl rfl (Nat.zero_lt_succ _) (.lst _ _) (by intro cs h; simp [intCells] at h; obtain ⟨v, _, rfl⟩ := h; rfl) (fun _ cs h => by simp [intCells] at h; obtain ⟨v, _, rfl⟩ := h; rfl) (by rw [intCells_len]) (by simp [partVals, intCells_len]; show _ * 8 ≤ _; omega) (by simp [partVals, intCells_len]; simp only [maxLen]; omega)) ?_
      refine AOps.s 6 rfl rfl rfl (q_move (.inr rfl) rfl) ?_
      refine AOps.nil ?_
      refine AGo.seq ?_
      refine AGo.ghost (.freezeA 6 1 rfl rfl (by simp [intCells_len, partVals]; omega)) ?_
      refine AGo.ghost (Ghost.weakSlot 6 (y := intsAV P) rfl (fun _ _ _ h => by rw [hPO]; exact h)) ?_
      refine AGo.region ?_
      refine AOps.s 43 rfl rfl rfl (q_move (.inl rfl) rfl) ?_
      refine AOps.s 44 rfl rfl rfl (q_len tok rfl rfl rfl rfl rfl) ?_
      refine AOps.x 45 rfl rfl rfl (o_makeSlice tok (n := P.length) (m := P.length) 2 true rfl rfl rfl (by rw [List.length_map]) (by rw [List.length_map]) rfl rfl rfl rfl rfl (Nat.zero_lt_succ _) rfl (Nat.le_refl _) (by show 56 * P.length ≤ _; omega) (by simp only [maxLen]; omega)) ?_
      refine AOps.s 7 rfl rfl rfl (q_move (.inr rfl) rfl) ?_
      refine AOps.nil ?_
      refine AGo.seq ?_
      refine AGo.ghost (Ghost.weakRow 2 (es' := List.replicate P.length zBlock.cells) rfl (by simp) (weak_zB _)) ?_
      refine AGo.region ?_
      refine AOps.s 8 rfl rfl rfl (q_move (.inr rfl) rfl) ?_
      refine AOps.nil ?_
      refine AGo.seq ?_
      refine AGo.seq ?_
      refine AGo.ghost (.dry 8 3 8 true rfl rfl rfl (by decide)) ?_
      refine AGo.region ?_
      refine AOps.s 9 rfl rfl rfl (q_move (.inr rfl) rfl) ?_
      refine AOps.nil ?_
      refine AGo.block ?_
      refine AGo.loopD (γ := Nat) 4 (fun i => ⟨113, (eput (eput (eput (eput eNew 6 (intsAV P)) 7 (.ref 2 P.length 0 P.length)) 8 (.ref 3 i 0 i)) 9 (.int .i64 (i : Int))), (hput (hput (hFrom 4) 2 (.row true 5 ((cBlocks P i).map Block.cells))) 3 (.row true 8 (((cAll P).take i).map Tac.cells)))⟩) (fun i => i ≤ P.length) (fun i => P.length - i) 0 (Sub.mk' (by repeat (first | exact ESub.new _ | refine ESub.put ?_ (by first | rfl | exact congrArg (fun n : Nat => some (AV.ref 2 n 0 n)) (List.length_map (fun (b : Int) => [AV.int .i64 b])).symm))) (by repeat (first | exact HSub.none _ | exact HSub.from_new _ | exact HSub.from_from (by first | decide | omega | (dsimp only; omega)) | refine HSub.put ?_ (by first | rfl | exact congrArg (fun es => some (AObj.row true 5 es)) (by rw [cBlocks, List.map_replicate])) | refine HSub.from_put ?_ (by first | decide | omega | (dsimp only; omega)) | refine HSub.from_rm ?_ (by decide)))) (Nat.zero_le _) (fun _ => hput_free (hput_free (fun b hb => hFrom_free hb) rfl) rfl) ?_
      intro i hi0
      refine AGo.seq ?_
      refine AGo.seq ?_
      refine AGo.region ?_
      refine AOps.s 46 rfl rfl rfl (q_move (.inl rfl) rfl) ?_
      refine AOps.s 47 rfl rfl rfl (q_move (.inl rfl) rfl) ?_
      refine AOps.s 48 rfl rfl rfl (q_len tok rfl rfl rfl rfl rfl) ?_
      refine AOps.s 49 rfl rfl rfl (q_bin rfl rfl rfl rfl) ?_
      refine AOps.nil ?_
      refine AGo.split 49 rfl (fun hb5 => ?_) (fun hb5 => ?_)
      · -- True
        refine AGo.cond_true true rfl rfl ?_
        have hil : i < P.length := lt_of_idx hb5
        obtain ⟨x, hx⟩ := get_of_lt hil
        have hxr : 0 ≤ x ∧ x < P.length := hPm x (List.mem_of_getElem? hx)
        obtain ⟨ob, hob⟩ := cBlocks_old i hxr
        have hobc : ((cBlocks P i).map Block.cells)[0 + x.toNat]? = some ob.cells := by rw [Nat.zero_add, List.getElem?_map, hob]; rfl
        refine AGo.skip ?_
        refine AGo.seq ?_
        refine AGo.block ?_
        refine AGo.seq ?_
        refine AGo.region ?_
        refine AOps.s 52 rfl rfl rfl (q_move (.inl rfl) rfl) ?_
        refine AOps.s 53 rfl rfl rfl (q_move (.inl rfl) rfl) ?_
        refine AOps.s 54 rfl rfl rfl (q_index_lst tok rfl rfl rfl rfl rfl rfl (Int.natCast_nonneg _) (cs := [.int .i64 x]) (by show (List.map (fun b => [AV.int .i64 b]) P)[_]? = _; rw [Int.toNat_natCast, List.getElem?_map, hx]; rfl) rfl) ?_
        refine AOps.s 55 rfl rfl rfl (q_load tok rfl rfl rfl (by first | exact .loc _ | exact .ptr _ _ _ _ _ _ _ _ rfl rfl rfl) rfl) ?_
        refine AOps.s 56 rfl rfl rfl (q_convInt tok rfl rfl rfl rfl rfl) ?_
        refine AOps.s 57 rfl rfl rfl (q_build tok rfl rfl rfl rfl rfl (by decide) rfl rfl rfl) ?_
        refine AOps.x 10 rfl rfl rfl (o_alloc tok 4 rfl rfl rfl rfl (Nat.zero_lt_succ _) rfl) ?_
        refine AOps.w rfl rfl (o_store tok rfl rfl rfl rfl rfl rfl rfl rfl rfl (by decide) rfl (by first | exact fun _ => rfl | (intro h; cases h))) ?_
        refine AOps.nil ?_
        refine AGo.seq ?_
        refine AGo.region ?_
        refine AOps.s 58 rfl rfl rfl (q_move (.inl rfl) rfl) ?_
        refine AOps.s 59 rfl rfl rfl (q_load tok rfl rfl rfl (by first | exact .loc _ | exact .ptr _ _ _ _ _ _ _ _ rfl rfl rfl) rfl) ?_
        refine AOps.x 60 rfl rfl rfl (o_lit' tok rfl rfl rfl rfl rfl rfl (by decide) rfl rfl rfl rfl rfl rfl) ?_
        refine AOps.x 61 rfl rfl rfl (o_append tok (n := i) (m := 1) rfl rfl rfl rfl rfl rfl rfl rfl rfl (by simp [cAll_length]; omega) rfl rfl (Nat.zero_lt_succ _) (.lst _ _) (by intro cs h; simp [partVals] at h; subst h; rfl) (fun _ cs h => by simp [partVals] at h; subst h; rfl) rfl (by simp [partVals]; show _ * 64 ≤ _; omega) (by simp [partVals]; simp only [maxLen]; omega)) ?_
        refine AOps.s 8 rfl rfl rfl (q_move (.inr rfl) rfl) ?_
        refine AOps.nil ?_
        refine AGo.seq ?_
        refine AGo.draw mix ?_
        refine DOps.s 62 rfl rfl rfl (q_move (.inl rfl) rfl) ?_
        refine DOps.s 63 rfl rfl rfl (q_move (.inl rfl) rfl) ?_
        refine DOps.s 64 rfl rfl rfl (q_move (.inl rfl) rfl) ?_
        refine DOps.s 65 rfl rfl rfl (q_index_lst tok rfl rfl rfl rfl rfl rfl (Int.natCast_nonneg _) (cs := [.int .i64 x]) (by show (List.map (fun b => [AV.int .i64 b]) P)[_]? = _; rw [Int.toNat_natCast, List.getElem?_map, hx]; rfl) rfl) ?_
        refine DOps.s 66 rfl rfl rfl (q_load tok rfl rfl rfl (by first | exact .loc _ | exact .ptr _ _ _ _ _ _ _ _ rfl rfl rfl) rfl) ?_
        refine DOps.s 67 rfl rfl rfl (q_load tok rfl rfl rfl (by first | exact .loc _ | exact .ptr _ _ _ _ _ _ _ _ rfl rfl rfl) rfl) ?_
        refine DOps.x 68 rfl rfl rfl (o_lit' tok rfl rfl rfl rfl rfl rfl (by decide) rfl rfl rfl rfl rfl rfl) ?_
        refine DOps.s 69 rfl rfl rfl (q_build tok rfl rfl rfl rfl rfl (by decide) rfl rfl rfl) ?_
        refine DOps.s 70 rfl rfl rfl (q_index_ref tok rfl rfl rfl rfl rfl rfl rfl (by rw [List.length_map, cBlocks_length]) rfl hxr.1 hxr.2) ?_
        refine DOps.w rfl rfl (o_store tok rfl rfl rfl rfl rfl rfl (by rw [List.length_map, cBlocks_length]) hobc rfl (by decide) rfl (by first | exact fun _ => rfl | (intro h; cases h))) ?_
        refine DOps.nil (by kernel_rfl) ?_
        refine AGo.seq ?_
        refine AGo.region ?_
        refine AOps.s 71 rfl rfl rfl (q_move (.inl rfl) rfl) ?_
        refine AOps.s 72 rfl rfl rfl (q_inc rfl rfl hil (by simp only [maxLen]; omega)) ?_
        refine AOps.s 73 rfl rfl rfl (q_move (.inl rfl) rfl) ?_
        refine AOps.s 74 rfl rfl rfl (q_len tok rfl rfl rfl rfl rfl) ?_
        refine AOps.s 75 rfl rfl rfl (q_bin rfl rfl rfl rfl) ?_
        refine AOps.nil ?_
        refine AGo.split 75 rfl (fun hb6 => ?_) (fun hb6 => ?_)
        · -- True
          refine AGo.cond_true true rfl rfl ?_
          have hil2 : i + 1 < P.length := by have h := hb6; simp at h; omega
          obtain ⟨y, hy⟩ := get_of_lt hil2
          refine AGo.seq ?_
          refine AGo.region ?_
          refine AOps.s 76 rfl rfl rfl (q_move (.inl rfl) rfl) ?_
          refine AOps.s 77 rfl rfl rfl (q_move (.inl rfl) rfl) ?_
          refine AOps.s 78 rfl rfl rfl (q_move (.inl rfl) rfl) ?_
          refine AOps.s 79 rfl rfl rfl (q_index_lst tok rfl rfl rfl rfl rfl rfl (Int.natCast_nonneg _) (cs := [.int .i64 x]) (by show (List.map (fun b => [AV.int .i64 b]) P)[_]? = _; rw [Int.toNat_natCast, List.getElem?_map, hx]; rfl) rfl) ?_
          refine AOps.s 80 rfl rfl rfl (q_load tok rfl rfl rfl (by first | exact .loc _ | exact .ptr _ _ _ _ _ _ _ _ rfl rfl rfl) rfl) ?_
          refine AOps.s 81 rfl rfl rfl (q_index_ref tok rfl rfl rfl rfl rfl rfl rfl (by rw [List.length_set, List.length_map, cBlocks_length]) rfl hxr.1 hxr.2) ?_
          refine AOps.s 82 rfl rfl rfl (q_fieldAddr tok rfl rfl rfl rfl rfl rfl) ?_
          refine AOps.w rfl rfl (o_store tok rfl rfl rfl rfl rfl rfl (by rw [List.length_set, List.length_map, cBlocks_length]) (get_set_selfZ hobc) rfl (by decide) rfl (by first | exact fun _ => rfl | (intro h; cases h))) ?_
          refine AOps.nil ?_
          refine AGo.draw mix ?_
          refine DOps.s 83 rfl rfl rfl (q_move (.inl rfl) rfl) ?_
          refine DOps.s 84 rfl rfl rfl (q_move (.inl rfl) rfl) ?_
          refine DOps.s 85 rfl rfl rfl (q_move (.inl rfl) rfl) ?_
          refine DOps.s 86 rfl rfl rfl (q_index_lst tok rfl rfl rfl rfl rfl rfl (Int.natCast_nonneg _) (cs := [.int .i64 x]) (by show (List.map (fun b => [AV.int .i64 b]) P)[_]? = _; rw [Int.toNat_natCast, List.getElem?_map, hx]; rfl) rfl) ?_
          refine DOps.s 87 rfl rfl rfl (q_load tok rfl rfl rfl (by first | exact .loc _ | exact .ptr _ _ _ _ _ _ _ _ rfl rfl rfl) rfl) ?_
          refine DOps.s 88 rfl rfl rfl (q_move (.inl rfl) rfl) ?_
          refine DOps.s 89 rfl rfl rfl (q_move (.inl rfl) rfl) ?_
          refine DOps.s 90 rfl rfl rfl (q_inc rfl rfl hil (by simp only [maxLen]; omega)) ?_
          refine DOps.s 91 rfl rfl rfl (q_index_lst tok rfl rfl rfl rfl rfl rfl (Int.natCast_nonneg _) (cs := [.int .i64 y]) (by show (List.map (fun b => [AV.int .i64 b]) P)[_]? = _; rw [Int.toNat_natCast, List.getElem?_map, hy]; rfl) rfl) ?_
          refine DOps.s 92 rfl rfl rfl (q_load tok rfl rfl rfl (by first | exact .loc _ | exact .ptr _ _ _ _ _ _ _ _ rfl rfl rfl) rfl) ?_
          refine DOps.s 93 rfl rfl rfl (q_index_ref tok rfl rfl rfl rfl rfl rfl rfl (by rw [List.length_set, List.length_set, List.length_map, cBlocks_length]) rfl hxr.1 hxr.2) ?_
          refine DOps.s 94 rfl rfl rfl (q_fieldAddr tok rfl rfl rfl rfl rfl rfl) ?_
          refine DOps.w rfl rfl (o_store tok rfl rfl rfl rfl rfl rfl (by rw [List.length_set, List.length_set, List.length_map, cBlocks_length]) (get_set_selfZ (get_set_selfZ hobc)) rfl (by decide) rfl (by first | exact fun _ => rfl | (intro h; cases h))) ?_
          refine DOps.nil (by kernel_rfl) ?_
          refine AGo.region ?_
          refine AOps.s 50 rfl rfl rfl (q_move (.inl rfl) rfl) ?_
          refine AOps.s 51 rfl rfl rfl (q_inc rfl rfl hil (by simp only [maxLen]; omega)) ?_
          refine AOps.s 9 rfl rfl rfl (q_move (.inr rfl) rfl) ?_
          refine AOps.nil ?_
          exact ⟨i+1, Drop.mk' (by repeat (first | exact EDrop.new _ _ | refine EDrop.put ?_ (by rfl) rfl)) (by repeat (first | exact HDrop.none _ _ | exact HDrop.tail _ _ | refine HDrop.put ?_ (by first | rfl | exact congrArg (fun es => some (AObj.row true 5 es)) (by rw [List.set_set, List.set_set]; exact cBlocks_jump hx hy) | exact congrArg (fun es => some (AObj.row true 5 es)) (cBlocks_last hx hnx) | exact congrArg (fun es => some (AObj.row true 8 es)) (by rw [take_succ_eq (cAll_get hx), List.map_append]; rfl)) rfl rfl)), hil, by omega⟩
        · -- False
          refine AGo.cond_false false rfl rfl ?_
          have hnx : P[i + 1]? = none := List.getElem?_eq_none (by have h := hb6; simp at h; omega)
          refine AGo.skip ?_
          refine AGo.region ?_
          refine AOps.s 50 rfl rfl rfl (q_move (.inl rfl) rfl) ?_
          refine AOps.s 51 rfl rfl rfl (q_inc rfl rfl hil (by simp only [maxLen]; omega)) ?_
          refine AOps.s 9 rfl rfl rfl (q_move (.inr rfl) rfl) ?_
          refine AOps.nil ?_
          exact ⟨i+1, Drop.mk' (by repeat (first | exact EDrop.new _ _ | refine EDrop.put ?_ (by rfl) rfl)) (by repeat (first | exact HDrop.none _ _ | exact HDrop.tail _ _ | refine HDrop.put ?_ (by first | rfl | exact congrArg (fun es => some (AObj.row true 5 es)) (by rw [List.set_set, List.set_set]; exact cBlocks_jump hx hy) | exact congrArg (fun es => some (AObj.row true 5 es)) (cBlocks_last hx hnx) | exact congrArg (fun es => some (AObj.row true 8 es)) (by rw [take_succ_eq (cAll_get hx), List.map_append]; rfl)) rfl rfl)), hil, by omega⟩
      · -- False
        refine AGo.cond_false false rfl rfl ?_
        have hge := ge_of_idx hb5
        obtain rfl : i = P.length := by omega
        refine AGo.exit ?_
        refine AGo.seq ?_
        refine AGo.ghost (.freezeA 7 2 rfl rfl (by rw [List.length_map, cBlocks_length])) ?_
        refine AGo.ghost (.freezeA 8 3 rfl rfl (by simp [cAll_length])) ?_
        refine AGo.region ?_
        refine AOps.s 96 rfl rfl rfl (q_move (.inl rfl) rfl) ?_
        refine AOps.s 97 rfl rfl rfl (q_build tok rfl rfl rfl rfl rfl (by decide) rfl rfl rfl) ?_
        refine AOps.x 98 rfl rfl rfl (o_pure rfl Try.func13 (by kernel_rfl) rfl rfl rfl ((tidyOf_ok (cFunc P) hct).mono (fun r h => by rw [h, hcp.1, hcp.2]))) ?_
        refine AOps.s 95 rfl rfl rfl (q_move (.inl rfl) rfl) ?_
        refine AOps.s 99 rfl rfl rfl (q_extract rfl rfl rfl) ?_
        refine AOps.s 100 rfl rfl rfl (q_extract rfl rfl rfl) ?_
        refine AOps.x 11 rfl rfl rfl (o_alloc tok 4 rfl rfl rfl rfl (Nat.zero_lt_succ _) rfl) ?_
        refine AOps.w rfl rfl (o_store tok rfl rfl rfl rfl rfl rfl rfl rfl rfl (by decide) rfl (by first | exact fun _ => rfl | (intro h; cases h))) ?_
        refine AOps.s 12 rfl rfl rfl (q_move (.inr rfl) rfl) ?_
        refine AOps.nil ?_
        refine AGo.seq ?_
        refine AGo.region ?_
        refine AOps.s 101 rfl rfl rfl (q_move (.inl rfl) rfl) ?_
        refine AOps.s 102 rfl rfl rfl (q_move (.inl rfl) rfl) ?_
        refine AOps.x 103 rfl rfl rfl (o_lit' tok rfl rfl rfl rfl rfl rfl (by decide) rfl rfl rfl rfl rfl rfl) ?_
        refine AOps.x 104 rfl rfl rfl (o_pure rfl Try.func16 (by kernel_rfl) rfl rfl rfl ((same_ok [P] [P] (by show 1 ≤ _; omega) (fun p hp => by simp at hp; subst hp; omega)).mono (fun r h => by rw [h, decide_eq_true rfl]))) ?_
        refine AOps.s 105 rfl rfl rfl (q_move (.inl rfl) rfl) ?_
        refine AOps.s 106 rfl rfl rfl (q_load tok rfl rfl rfl (by first | exact .loc _ | exact .ptr _ _ _ _ _ _ _ _ rfl rfl rfl) rfl) ?_
        refine AOps.s 107 rfl rfl rfl (q_move (.inl rfl) rfl) ?_
        refine AOps.s 108 rfl rfl rfl (q_build tok rfl rfl rfl rfl rfl (by decide) rfl rfl rfl) ?_
        refine AOps.x 109 rfl rfl rfl (o_lit' tok rfl rfl rfl rfl rfl rfl (by decide) rfl rfl rfl rfl rfl rfl) ?_
        refine AOps.s 110 rfl rfl rfl (q_build tok rfl rfl rfl rfl rfl (by decide) rfl rfl rfl) ?_
        refine AOps.x 111 rfl rfl rfl (o_pure rfl Try.func15 (by kernel_rfl) rfl rfl rfl ((sameFunc_ok ⟨1, [⟨cAll P, 3, 0, 0, 0⟩]⟩ ⟨1, [⟨(cAll P).take P.length, 3, 0, 0, 0⟩]⟩).mono (fun r h => by rw [h, decide_eq_true (by rw [List.take_of_length_le (by rw [cAll_length]; exact Nat.le_refl _)])]))) ?_
        refine AOps.s 112 rfl rfl rfl (q_pick_true true rfl rfl rfl rfl) ?_
        refine AOps.s 2 rfl rfl rfl (q_move (.inr rfl) rfl) ?_
        refine AOps.nil ?_
        refine AGo.ret ?_
        refine ⟨[_], ⟨rfl, trivial⟩, ?_, rfl⟩
        rfl

end Go.Proofs.Ytidfabbnobipkaa.Sv

namespace Go.Proofs.Ytidfabbnobipkaa
open Go.ChangeShapes Go.WideShapes Go.ChangeAt Go.RowKit Sv
set_option linter.unusedVariables false

set_option maxRecDepth 100000 in
theorem tidyChain_lifted (os : Os) (started : os.Started) (H : Type) (enc : TypeId × Value → H) :
    ReturnsInHanded {} Try.checked os 8 .any (Rows.tidyChainSpec.pre6 enc Try.prog Try.f8 Rows.tidyChainRow.domain false) (Rows.tidyChainSpec.post enc Try.prog Try.f8 false true false false) := by
  refine returnsInHanded_of_change_sized (C := Try.checked) own' started (by kernel_rfl) Try.func8
    (ChangeSpec.witness6 (enc := enc) (C := Try.checked) false ⟨#[], #[.slice none 0 0], []⟩ 8 (by kernel_rfl) (by kernel_rfl) (by kernel_rfl) (by kernel_rfl)) ?_
  intro W base args ds gs before hval0 hW hcnd hwt0 hh
  have hval : ∀ (j : Nat) t v, Try.f8.params[j]? = some t → args[j]? = some v → Value.okWide Try.prog W .any base t v := hval0
  have hW' := hW
  obtain ⟨p, q, hA0, hV, rfl, hfz, hnd⟩ := hW
  have hA : DataW.TrodAll enc Try.prog W 0 (fun _ => true) true Try.f8.params.toList args.toList ds p := hA0
  have hwt : (DataW.weightsEach Try.prog (Try.f8.params.toList ++ Rows.tidyChainSpec.plain.varTypes Try.prog) (ds ++ gs)).all (· ≤ reachBytes) = true := hwt0
  rw [Try.params8] at hA hval hwt
  obtain ⟨v0, vs0, d0, ds0, p0, q0, hargs, rfl, rfl, h0, r0⟩ := trodAll_cons hA
  obtain ⟨rfl, rfl, rfl⟩ := trodAll_nil r0
  obtain rfl : args = #[v0] := by cases args; simp_all
  obtain ⟨rfl, rfl⟩ := trodVars_none hV
  obtain ⟨x0, e0, g0⟩ := arg_one h0 (weightsEach_get hwt (i := 0) rfl rfl) decBytes
  exact law_calls laidOut' rfl (by kernel_rfl) rfl bool' rfl rfl rfl hW' (.cons (e0.val1 (okWide_cell tok rfl rfl (hval 0 _ v0 rfl rfl))) .nil) (tidyChain_ok x0 g0)

theorem tidyChain_holds : Rows.TidyChainSaid :=
  OpenClaim.holds_of_wide 8 Try.f8 rfl rfl rfl rfl rfl rfl rfl ⟨rfl, rfl, rfl, rfl, rfl⟩ rfl rfl rfl rfl rfl (by kernel_rfl) Try.func8 (by kernel_rfl)
    (of_decide_eq_true (by kernel_rfl)) (by unfold Func.isWrapper; first | (rw [if_pos (by decide +kernel)]; kernel_rfl) | (rw [if_neg (by decide +kernel)]; exact ⟨rfl, rfl⟩))
    (fun os started H enc _ => tidyChain_lifted os started H enc)

end Go.Proofs.Ytidfabbnobipkaa
