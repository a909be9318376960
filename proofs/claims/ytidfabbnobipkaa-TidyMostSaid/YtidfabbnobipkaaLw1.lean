/-
  WALKS: printed by a program of our own from the code's tree.
-/
import Derived.Test.YtidfabbnobipkaaSp21
namespace Go.Proofs.Ytidfabbnobipkaa.Sv
open Go
set_option linter.unusedVariables false
set_option linter.unusedSimpArgs false

set_option maxRecDepth 100000 in
theorem next_ok (f : BFunc) (hn : f.blocks.length ≤ 100000) : APure Try.prog 27 [.agg f.cells] (fun r => r = pathsAV f.nexts) := by
  refine APure.of_body (n := 40) tok Try.func27 rfl rfl ?_
  refine AGo.seq ?_
  refine AGo.region ?_
  refine AOps.x 1 rfl rfl rfl (o_box (sz := 2) 0 rfl rfl rfl rfl (Nat.zero_lt_succ _) rfl) ?_
  refine AOps.s 2 rfl rfl rfl (q_move (.inr rfl) rfl) ?_
  refine AOps.nil ?_
  refine AGo.seq ?_
  refine AGo.region ?_
  refine AOps.s 6 rfl rfl rfl (q_fieldAddr tok rfl rfl rfl rfl rfl rfl) ?_
  refine AOps.s 7 rfl rfl rfl (q_load tok rfl rfl rfl (by first | exact .loc _ | exact .ptr _ _ _ _ _ _ _ _ rfl rfl rfl) rfl) ?_
  refine AOps.s 8 rfl rfl rfl (q_len tok rfl rfl rfl rfl rfl) ?_
  refine AOps.x 9 rfl rfl rfl (o_makeSlice tok (n := f.blocks.length) (m := f.blocks.length) 1 true rfl rfl rfl (by simp) (by simp) rfl rfl rfl rfl rfl (Nat.zero_lt_succ _) rfl (Nat.le_refl _) (by show 24 * f.blocks.length ≤ _; omega) (by simp only [maxLen]; omega)) ?_
  refine AOps.s 3 rfl rfl rfl (q_move (.inr rfl) rfl) ?_
  refine AOps.nil ?_
  refine AGo.seq ?_
  refine AGo.seq ?_
  refine AGo.ghost (Ghost.weakRow 1 (es' := List.replicate f.blocks.length [.lst false []]) rfl (by simp) (weak_nils _)) ?_
  refine AGo.region ?_
  refine AOps.s 10 rfl rfl rfl (q_fieldAddr tok rfl rfl rfl rfl rfl rfl) ?_
  refine AOps.s 11 rfl rfl rfl (q_load tok rfl rfl rfl (by first | exact .loc _ | exact .ptr _ _ _ _ _ _ _ _ rfl rfl rfl) rfl) ?_
  refine AOps.s 12 rfl rfl rfl (q_len tok rfl rfl rfl rfl rfl) ?_
  refine AOps.s 13 rfl rfl rfl (q_move (.inl rfl) rfl) ?_
  refine AOps.nil ?_
  refine AGo.block ?_
  refine AGo.loopD (γ := Nat) 2 (fun k => ⟨40, (eput (eput (eput (eput eNew 3 (.ref 1 f.blocks.length 0 f.blocks.length)) 11 (blocksAV f.blocks)) 12 (.int .i64 (f.blocks.length : Int))) 13 (.int .i64 (k : Int))), (hput (hput (hFrom 2) 0 (.row false 2 [f.cells])) 1 (.row true 1 (((f.nexts.take (k)).map pathCell) ++ List.replicate (f.blocks.length - (k)) [.lst false []])))⟩) (fun k => k ≤ f.blocks.length) (fun k => f.blocks.length - k) 0 (Sub.mk' (by repeat (first | exact ESub.new _ | refine ESub.put ?_ (by first | rfl | exact congrArg (fun (n : Nat) => some (AV.int .i64 (n : Int))) (by simp)))) (by repeat (first | exact HSub.none _ | exact HSub.from_new _ | exact HSub.from_from (by decide) | refine HSub.put ?_ (by rfl) | refine HSub.from_put ?_ (by decide)))) (Nat.zero_le _) (fun _ => hput_free (hput_free (fun b hb => hFrom_free hb) rfl) rfl) ?_
  intro k hk
  refine AGo.seq ?_
  refine AGo.region ?_
  refine AOps.s 14 rfl rfl rfl (q_bin rfl rfl rfl rfl) ?_
  refine AOps.nil ?_
  refine AGo.seq ?_
  refine AGo.split 14 rfl (fun hb1 => ?_) (fun hb1 => ?_)
  · -- True
    refine AGo.cond_true true rfl rfl ?_
    have hkl : k < f.blocks.length := by simpa using hb1
    obtain ⟨x, hx⟩ := get_of_lt hkl
    have hnx := nexts_get hx
    refine AGo.skip ?_
    refine AGo.seq ?_
    refine AGo.block ?_
    refine AGo.seq ?_
    refine AGo.region ?_
    refine AOps.s 15 rfl rfl rfl (q_move (.inl rfl) rfl) ?_
    refine AOps.s 16 rfl rfl rfl (q_index_lst tok rfl rfl rfl rfl rfl rfl (Int.natCast_nonneg _) (idx_map (by assumption)) rfl) ?_
    refine AOps.s 17 rfl rfl rfl (q_load tok rfl rfl rfl (by first | exact .loc _ | exact .ptr _ _ _ _ _ _ _ _ rfl rfl rfl) rfl) ?_
    refine AOps.x 5 rfl rfl rfl (o_alloc tok 2 rfl rfl rfl rfl (Nat.zero_lt_succ _) rfl) ?_
    refine AOps.s 4 rfl rfl rfl (q_move (.inr rfl) rfl) ?_
    refine AOps.w rfl rfl (o_store tok rfl rfl rfl rfl rfl rfl rfl rfl rfl (by decide) rfl (by first | exact fun _ => rfl | (intro h; cases h))) ?_
    refine AOps.nil ?_
    refine AGo.seq ?_
    refine AGo.region ?_
    refine AOps.s 18 rfl rfl rfl (q_fieldAddr tok rfl rfl rfl rfl rfl rfl) ?_
    refine AOps.s 19 rfl rfl rfl (q_load tok rfl rfl rfl (by first | exact .loc _ | exact .ptr _ _ _ _ _ _ _ _ rfl rfl rfl) rfl) ?_
    refine AOps.nil ?_
    refine AGo.block ?_
    refine AGo.seq ?_
    refine AGo.region ?_
    refine AOps.s 21 rfl rfl rfl (q_bin rfl rfl rfl rfl) ?_
    refine AOps.s 20 rfl rfl rfl (q_move (.inr rfl) rfl) ?_
    refine AOps.nil ?_
    refine AGo.split 20 rfl (fun hb2 => ?_) (fun hb2 => ?_)
    · -- True
      refine AGo.cond_true true rfl rfl ?_
      refine AGo.region ?_
      refine AOps.s 22 rfl rfl rfl (q_move (.inl rfl) rfl) ?_
      refine AOps.s 23 rfl rfl rfl (q_move (.inl rfl) rfl) ?_
      refine AOps.s 24 rfl rfl rfl (q_fieldAddr tok rfl rfl rfl rfl rfl rfl) ?_
      refine AOps.s 25 rfl rfl rfl (q_load tok rfl rfl rfl (by first | exact .loc _ | exact .ptr _ _ _ _ _ _ _ _ rfl rfl rfl) rfl) ?_
      refine AOps.x 26 rfl rfl rfl (o_lit' tok rfl rfl rfl rfl rfl rfl (by decide) rfl rfl rfl rfl rfl rfl) ?_
      refine AOps.s 27 rfl rfl rfl (q_index_ref tok rfl rfl rfl rfl rfl rfl rfl (fill_len (nexts_length f) (Nat.le_of_lt hkl)) rfl (Int.natCast_nonneg _) (by omega)) ?_
      refine AOps.w rfl rfl (o_store tok rfl rfl rfl rfl rfl rfl (fill_len (nexts_length f) (Nat.le_of_lt hkl)) (fill_get (nexts_length f) hkl) rfl (by decide) rfl (by first | exact fun _ => rfl | (intro h; cases h))) ?_
      refine AOps.nil ?_
      refine AGo.region ?_
      refine AOps.s 38 rfl rfl rfl (q_inc rfl rfl hkl (show f.blocks.length ≤ maxLen by simp only [maxLen]; omega)) ?_
      refine AOps.s 13 rfl rfl rfl (q_move (.inl rfl) rfl) ?_
      refine AOps.nil ?_
      exact ⟨k+1, Drop.mk' (by repeat (first | exact EDrop.new _ _ | refine EDrop.put ?_ (by rfl) rfl)) (by repeat (first | exact HDrop.none _ _ | exact HDrop.tail _ _ | refine HDrop.put ?_ (by first | rfl | exact congrArg (fun es => some (AObj.row true 1 es)) (fill_put (f := pathCell) (x := [x.to]) (nexts_length f) (by rw [hnx]; simp [Block.nexts, *])) | exact congrArg (fun es => some (AObj.row true 1 es)) (fill_put (f := pathCell) (x := [x.to, x.els]) (nexts_length f) (by rw [hnx]; simp [Block.nexts, *])) | exact congrArg (fun es => some (AObj.row true 1 es)) (fill_skip (f := pathCell) (x := []) (nexts_length f) (by rw [hnx]; simp [Block.nexts, *]) rfl)) rfl rfl)), hkl, by omega⟩
    · -- False
      refine AGo.cond_false false rfl rfl ?_
      refine AGo.seq ?_
      refine AGo.region ?_
      refine AOps.s 29 rfl rfl rfl (q_bin rfl rfl rfl rfl) ?_
      refine AOps.s 28 rfl rfl rfl (q_move (.inr rfl) rfl) ?_
      refine AOps.nil ?_
      refine AGo.split 28 rfl (fun hb3 => ?_) (fun hb3 => ?_)
      · -- True
        refine AGo.cond_true true rfl rfl ?_
        refine AGo.region ?_
        refine AOps.s 30 rfl rfl rfl (q_move (.inl rfl) rfl) ?_
        refine AOps.s 31 rfl rfl rfl (q_move (.inl rfl) rfl) ?_
        refine AOps.s 32 rfl rfl rfl (q_fieldAddr tok rfl rfl rfl rfl rfl rfl) ?_
        refine AOps.s 33 rfl rfl rfl (q_load tok rfl rfl rfl (by first | exact .loc _ | exact .ptr _ _ _ _ _ _ _ _ rfl rfl rfl) rfl) ?_
        refine AOps.s 34 rfl rfl rfl (q_fieldAddr tok rfl rfl rfl rfl rfl rfl) ?_
        refine AOps.s 35 rfl rfl rfl (q_load tok rfl rfl rfl (by first | exact .loc _ | exact .ptr _ _ _ _ _ _ _ _ rfl rfl rfl) rfl) ?_
        refine AOps.x 36 rfl rfl rfl (o_lit' tok rfl rfl rfl rfl rfl rfl (by decide) rfl rfl rfl rfl rfl rfl) ?_
        refine AOps.s 37 rfl rfl rfl (q_index_ref tok rfl rfl rfl rfl rfl rfl rfl (fill_len (nexts_length f) (Nat.le_of_lt hkl)) rfl (Int.natCast_nonneg _) (by omega)) ?_
        refine AOps.w rfl rfl (o_store tok rfl rfl rfl rfl rfl rfl (fill_len (nexts_length f) (Nat.le_of_lt hkl)) (fill_get (nexts_length f) hkl) rfl (by decide) rfl (by first | exact fun _ => rfl | (intro h; cases h))) ?_
        refine AOps.nil ?_
        refine AGo.region ?_
        refine AOps.s 38 rfl rfl rfl (q_inc rfl rfl hkl (show f.blocks.length ≤ maxLen by simp only [maxLen]; omega)) ?_
        refine AOps.s 13 rfl rfl rfl (q_move (.inl rfl) rfl) ?_
        refine AOps.nil ?_
        exact ⟨k+1, Drop.mk' (by repeat (first | exact EDrop.new _ _ | refine EDrop.put ?_ (by rfl) rfl)) (by repeat (first | exact HDrop.none _ _ | exact HDrop.tail _ _ | refine HDrop.put ?_ (by first | rfl | exact congrArg (fun es => some (AObj.row true 1 es)) (fill_put (f := pathCell) (x := [x.to]) (nexts_length f) (by rw [hnx]; simp [Block.nexts, *])) | exact congrArg (fun es => some (AObj.row true 1 es)) (fill_put (f := pathCell) (x := [x.to, x.els]) (nexts_length f) (by rw [hnx]; simp [Block.nexts, *])) | exact congrArg (fun es => some (AObj.row true 1 es)) (fill_skip (f := pathCell) (x := []) (nexts_length f) (by rw [hnx]; simp [Block.nexts, *]) rfl)) rfl rfl)), hkl, by omega⟩
      · -- False
        refine AGo.cond_false false rfl rfl ?_
        refine AGo.skip ?_
        refine AGo.region ?_
        refine AOps.s 38 rfl rfl rfl (q_inc rfl rfl hkl (show f.blocks.length ≤ maxLen by simp only [maxLen]; omega)) ?_
        refine AOps.s 13 rfl rfl rfl (q_move (.inl rfl) rfl) ?_
        refine AOps.nil ?_
        exact ⟨k+1, Drop.mk' (by repeat (first | exact EDrop.new _ _ | refine EDrop.put ?_ (by rfl) rfl)) (by repeat (first | exact HDrop.none _ _ | exact HDrop.tail _ _ | refine HDrop.put ?_ (by first | rfl | exact congrArg (fun es => some (AObj.row true 1 es)) (fill_put (f := pathCell) (x := [x.to]) (nexts_length f) (by rw [hnx]; simp [Block.nexts, *])) | exact congrArg (fun es => some (AObj.row true 1 es)) (fill_put (f := pathCell) (x := [x.to, x.els]) (nexts_length f) (by rw [hnx]; simp [Block.nexts, *])) | exact congrArg (fun es => some (AObj.row true 1 es)) (fill_skip (f := pathCell) (x := []) (nexts_length f) (by rw [hnx]; simp [Block.nexts, *]) rfl)) rfl rfl)), hkl, by omega⟩
  · -- False
    refine AGo.cond_false false rfl rfl ?_
    have hge : f.blocks.length ≤ k := by simpa using hb1
    refine AGo.exit ?_
    refine AGo.seq ?_
    refine AGo.ghost (.freeze 3 1 rfl rfl (fill_len (nexts_length f) hk)) ?_
    refine AGo.region ?_
    refine AOps.s 39 rfl rfl rfl (q_move (.inl rfl) rfl) ?_
    refine AOps.s 2 rfl rfl rfl (q_move (.inr rfl) rfl) ?_
    refine AOps.nil ?_
    refine AGo.ret ?_
    refine ⟨[_], ⟨rfl, trivial⟩, ?_, rfl⟩
    show AV.lst false _ = AV.lst false _
    rw [fill_end (nexts_length f) hge]
    rfl

set_option maxRecDepth 100000 in
theorem into_ok (next : List (List Int)) (hnl : next.length ≤ 100000) (b : Int) (s : DS) (es : List (List AV)) (hl : s.been.length = next.length) (hw : WayIn next.length s es) : ACall Try.prog 51 [.int .i64 b, .ptr 1 1 0 0, .ptr 2 1 0 0, .ptr 3 1 0 0] (hput (hput (hput (hput (hput hNew 0 (.row true 1 ((s).been.map boolCells))) 1 (.row false 1 [[pathsAV next]])) 2 (.row false 1 [[.ref 0 next.length 0 next.length]])) 3 (.row false 1 [[.ref 4 (es).length 0 (s).way.length]])) 4 (.row true 2 (es))) (fun r h' => r = .tup [] ∧ HSub (hput (hput (hput (hput (hput hNone 0 (.row true 1 (((dinto b s)).been.map boolCells))) 1 (.row false 1 [[pathsAV next]])) 2 (.row false 1 [[.ref 0 next.length 0 next.length]])) 3 (.row false 1 [[.ref 4 ((ies b s es)).length 0 ((dinto b s)).way.length]])) 4 (.row true 2 ((ies b s es)))) h') := by
  refine ACall.of_body (n := 28) tok Try.func51 rfl rfl ?_
  refine AGo.seq ?_
  refine AGo.region ?_
  refine AOps.s 5 rfl rfl rfl (q_move (.inl rfl) rfl) ?_
  refine AOps.s 6 rfl rfl rfl (q_bin rfl rfl rfl rfl) ?_
  refine AOps.s 7 rfl rfl rfl (q_move (.inl rfl) rfl) ?_
  refine AOps.split 7 rfl (fun hb1 => ?_) (fun hb1 => ?_)
  · -- True
    refine AOps.s 8 rfl rfl rfl (q_move (.inl rfl) rfl) ?_
    refine AOps.s 9 rfl rfl rfl (q_load tok rfl rfl rfl (by first | exact .loc _ | exact .ptr _ _ _ _ _ _ _ _ rfl rfl rfl) rfl) ?_
    refine AOps.s 10 rfl rfl rfl (q_len tok rfl rfl rfl rfl rfl) ?_
    refine AOps.s 11 rfl rfl rfl (q_bin rfl rfl rfl rfl) ?_
    refine AOps.s 12 rfl rfl rfl (q_pick_true true rfl rfl rfl rfl) ?_
    refine AOps.s 13 rfl rfl rfl (q_move (.inl rfl) rfl) ?_
    refine AOps.split 13 rfl (fun hb2 => ?_) (fun hb2 => ?_)
    · -- True
      have hb0 : 0 ≤ b ∧ b < s.been.length := by simp_all [pathsAV] <;> omega
      obtain ⟨v, hv⟩ := get_of_lt (l := s.been) (k := b.toNat) (by omega)
      refine AOps.s 14 rfl rfl rfl (q_load tok rfl rfl rfl (by first | exact .loc _ | exact .ptr _ _ _ _ _ _ _ _ rfl rfl rfl) rfl) ?_
      refine AOps.s 15 rfl rfl rfl (q_move (.inl rfl) rfl) ?_
      refine AOps.s 16 rfl rfl rfl (q_index_ref tok rfl rfl rfl rfl rfl rfl rfl (by simp [hl]) rfl hb0.1 (by omega)) ?_
      refine AOps.s 17 rfl rfl rfl (q_load tok rfl rfl rfl (.ptr _ _ _ _ _ _ _ _ rfl (by simp [hl]) (show _ = some [AV.bool v] by rw [Nat.zero_add, List.getElem?_map, hv]; rfl)) rfl) ?_
      refine AOps.s 18 rfl rfl rfl (q_not rfl rfl) ?_
      refine AOps.s 19 rfl rfl rfl (q_pick_true true rfl rfl rfl rfl) ?_
      refine AOps.nil ?_
      refine AGo.split 19 rfl (fun hb3 => ?_) (fun hb3 => ?_)
      · -- True
        refine AGo.cond_true true rfl rfl ?_
        have hnb : notBeen s.been b = true := by rw [notBeen, hv]; simp_all
        have hcap := hw.cap
        have hle := hw.le
        refine AGo.seq ?_
        refine AGo.region ?_
        refine AOps.s 20 rfl rfl rfl (q_load tok rfl rfl rfl (by first | exact .loc _ | exact .ptr _ _ _ _ _ _ _ _ rfl rfl rfl) rfl) ?_
        refine AOps.s 21 rfl rfl rfl (q_move (.inl rfl) rfl) ?_
        refine AOps.s 22 rfl rfl rfl (q_index_ref tok rfl rfl rfl rfl rfl rfl rfl (by simp [hl]) rfl hb0.1 (by omega)) ?_
        refine AOps.w rfl rfl (o_store tok rfl rfl rfl rfl rfl rfl (by simp [hl]) (show _ = some [AV.bool v] by rw [Nat.zero_add, List.getElem?_map, hv]; rfl) rfl (by decide) rfl (by first | exact fun _ => rfl | (intro h; cases h))) ?_
        refine AOps.nil ?_
        refine AGo.region ?_
        refine AOps.s 23 rfl rfl rfl (q_load tok rfl rfl rfl (by first | exact .loc _ | exact .ptr _ _ _ _ _ _ _ _ rfl rfl rfl) rfl) ?_
        refine AOps.s 24 rfl rfl rfl (q_move (.inl rfl) rfl) ?_
        refine AOps.s 25 rfl rfl rfl (q_build tok rfl rfl rfl rfl rfl (by decide) rfl rfl rfl) ?_
        refine AOps.x 26 rfl rfl rfl (o_lit' tok rfl rfl rfl rfl rfl rfl (by decide) rfl rfl rfl rfl rfl rfl) ?_
        refine AOps.x 27 rfl rfl rfl (o_push tok (es := es) rfl rfl rfl rfl rfl rfl rfl rfl rfl rfl hw.le rfl rfl (Nat.zero_lt_succ _) (.lst _ _) rfl (fun _ => rfl) (by show _ * 16 ≤ _; omega) (by simp only [maxLen]; omega)) ?_
        refine AOps.w rfl rfl (o_store tok rfl rfl rfl rfl rfl rfl rfl rfl rfl (by decide) rfl (by first | exact fun _ => rfl | (intro h; cases h))) ?_
        refine AOps.nil ?_
        refine ⟨[], trivial, rfl, ?_⟩
        rw [show dinto b s = _ from dinto_eq hnb, show ies b s es = _ from ies_eq hnb]
        exact HSub.put (HSub.put (HSub.put (HSub.put (HSub.put (HSub.none _) (by first | rfl | exact congrArg (fun es => some (AObj.row true 1 es)) (been_set _ _ _))) rfl) rfl) (by first | rfl | exact congrArg (fun m => some (AObj.row false 1 [[AV.ref 4 _ 0 m]])) (by simp))) (by rfl)
      · -- False
        refine AGo.cond_false false rfl rfl ?_
        have hnb : notBeen s.been b = false := by
          rw [Bool.eq_false_iff]
          intro h
          obtain ⟨h1, h2, h3⟩ := notBeen_get h
          first | (simp_all [pathsAV]; done) | (simp_all [pathsAV]; omega)
        refine AGo.skip ?_
        refine ⟨[], trivial, rfl, ?_⟩
        rw [show dinto b s = _ from dinto_eq hnb, show ies b s es = _ from ies_eq hnb]
        exact HSub.put (HSub.put (HSub.put (HSub.put (HSub.put (HSub.none _) (by first | rfl | exact congrArg (fun es => some (AObj.row true 1 es)) (been_set _ _ _))) rfl) rfl) (by first | rfl | exact congrArg (fun m => some (AObj.row false 1 [[AV.ref 4 _ 0 m]])) (by simp))) (by rfl)
    · -- False
      refine AOps.k 14 rfl rfl rfl ?_
      refine AOps.k 15 rfl rfl rfl ?_
      refine AOps.k 16 rfl rfl rfl ?_
      refine AOps.k 17 rfl rfl rfl ?_
      refine AOps.k 18 rfl rfl rfl ?_
      refine AOps.s 19 rfl rfl rfl (q_pick_false false rfl rfl rfl rfl) ?_
      refine AOps.nil ?_
      refine AGo.cond_false false rfl rfl ?_
      have hnb : notBeen s.been b = false := by
        rw [Bool.eq_false_iff]
        intro h
        obtain ⟨h1, h2, h3⟩ := notBeen_get h
        first | (simp_all [pathsAV]; done) | (simp_all [pathsAV]; omega)
      refine AGo.skip ?_
      refine ⟨[], trivial, rfl, ?_⟩
      rw [show dinto b s = _ from dinto_eq hnb, show ies b s es = _ from ies_eq hnb]
      exact HSub.put (HSub.put (HSub.put (HSub.put (HSub.put (HSub.none _) (by first | rfl | exact congrArg (fun es => some (AObj.row true 1 es)) (been_set _ _ _))) rfl) rfl) (by first | rfl | exact congrArg (fun m => some (AObj.row false 1 [[AV.ref 4 _ 0 m]])) (by simp))) (by rfl)
  · -- False
    refine AOps.k 8 rfl rfl rfl ?_
    refine AOps.k 9 rfl rfl rfl ?_
    refine AOps.k 10 rfl rfl rfl ?_
    refine AOps.k 11 rfl rfl rfl ?_
    refine AOps.s 12 rfl rfl rfl (q_pick_false false rfl rfl rfl rfl) ?_
    refine AOps.s 13 rfl rfl rfl (q_move (.inl rfl) rfl) ?_
    refine AOps.k 14 rfl rfl rfl ?_
    refine AOps.k 15 rfl rfl rfl ?_
    refine AOps.k 16 rfl rfl rfl ?_
    refine AOps.k 17 rfl rfl rfl ?_
    refine AOps.k 18 rfl rfl rfl ?_
    refine AOps.s 19 rfl rfl rfl (q_pick_false false rfl rfl rfl rfl) ?_
    refine AOps.nil ?_
    refine AGo.cond_false false rfl rfl ?_
    have hnb : notBeen s.been b = false := by
      rw [Bool.eq_false_iff]
      intro h
      obtain ⟨h1, h2, h3⟩ := notBeen_get h
      first | (simp_all [pathsAV]; done) | (simp_all [pathsAV]; omega)
    refine AGo.skip ?_
    refine ⟨[], trivial, rfl, ?_⟩
    rw [show dinto b s = _ from dinto_eq hnb, show ies b s es = _ from ies_eq hnb]
    exact HSub.put (HSub.put (HSub.put (HSub.put (HSub.put (HSub.none _) (by first | rfl | exact congrArg (fun es => some (AObj.row true 1 es)) (been_set _ _ _))) rfl) rfl) (by first | rfl | exact congrArg (fun m => some (AObj.row false 1 [[AV.ref 4 _ 0 m]])) (by simp))) (by rfl)

set_option maxRecDepth 100000 in
theorem idle_ok (b : Int) : ACall Try.prog 42 [.int .i64 b] hNew (fun r h' => r = .tup [] ∧ HSub hNone h') := by
  refine ACall.of_body (n := 2) tok Try.func42 rfl rfl ?_
  refine AGo.skip ?_
  exact ⟨[], trivial, rfl, HSub.none _⟩

set_option maxRecDepth 100000 in
theorem walk_ok (next : List (List Int)) (hnl : next.length ≤ 100000) (hsm : ∀ l ∈ next, l.length ≤ 100000) (been : List Bool) (hbl : been.length = next.length) : ACall Try.prog 41 [pathsAV next, .ref 0 next.length 0 next.length, .fn (.func 42) [] []] (hput hNew 0 (.row true 1 (been.map boolCells))) (fun r h' => r = .tup [] ∧ HSub (hput hNone 0 (.row true 1 ((dreach next been).map boolCells))) h') := by
  refine ACall.of_body (n := 69) tok Try.func41 rfl rfl ?_
  refine AGo.seq ?_
  refine AGo.region ?_
  refine AOps.x 3 rfl rfl rfl (o_box (sz := 1) 1 rfl rfl rfl rfl (Nat.zero_lt_succ _) rfl) ?_
  refine AOps.x 4 rfl rfl rfl (o_box (sz := 1) 2 rfl rfl rfl rfl (Nat.zero_lt_succ _) rfl) ?_
  refine AOps.nil ?_
  refine AGo.seq ?_
  refine AGo.region ?_
  refine AOps.x 6 rfl rfl rfl (o_alloc tok 3 rfl rfl rfl rfl (Nat.zero_lt_succ _) rfl) ?_
  refine AOps.nil ?_
  refine AGo.seq ?_
  refine AGo.ghost (.dryCell 3 0 0 4 2 true rfl rfl rfl rfl rfl (by decide)) ?_
  refine AGo.region ?_
  refine AOps.s 10 rfl rfl rfl (q_makeFunc rfl rfl rfl) ?_
  refine AOps.s 7 rfl rfl rfl (q_move (.inr rfl) rfl) ?_
  refine AOps.nil ?_
  refine AGo.seq ?_
  refine AGo.region ?_
  refine AOps.s 11 rfl rfl rfl (q_move (.inl rfl) rfl) ?_
  refine AOps.x 12 rfl rfl rfl (o_callF (hc := (hput (hput (hput (hput (hput hNew 0 (.row true 1 (((DS.mk been [])).been.map boolCells))) 1 (.row false 1 [[pathsAV next]])) 2 (.row false 1 [[.ref 0 next.length 0 next.length]])) 3 (.row false 1 [[.ref 4 (([] : List (List AV))).length 0 ((DS.mk been [])).way.length]])) 4 (.row true 2 (([] : List (List AV)))))) (hw := (hput (hput (hput (hput (hput hNone 0 (.row true 1 (((dinto 0 (DS.mk been []))).been.map boolCells))) 1 (.row false 1 [[pathsAV next]])) 2 (.row false 1 [[.ref 0 next.length 0 next.length]])) 3 (.row false 1 [[.ref 4 ((ies 0 (DS.mk been []) ([] : List (List AV)))).length 0 ((dinto 0 (DS.mk been []))).way.length]])) 4 (.row true 2 ((ies 0 (DS.mk been []) ([] : List (List AV))))))) [4, 3, 2, 1, 0] [(0, (.row true 1 (((dinto 0 (DS.mk been []))).been.map boolCells))), (1, (.row false 1 [[pathsAV next]])), (2, (.row false 1 [[.ref 0 next.length 0 next.length]])), (3, (.row false 1 [[.ref 4 ((ies 0 (DS.mk been []) ([] : List (List AV)))).length 0 ((dinto 0 (DS.mk been []))).way.length]])), (4, (.row true 2 ((ies 0 (DS.mk been []) ([] : List (List AV))))))] rfl rfl Try.func51 (by kernel_rfl) rfl rfl rfl ⟨⟨_, rfl, rfl⟩, ⟨_, rfl, rfl⟩, ⟨_, rfl, rfl⟩, ⟨_, rfl, rfl⟩, ⟨_, rfl, rfl⟩, trivial⟩ rfl (hres_cons rfl (hres_cons rfl (hres_cons rfl (hres_cons rfl (hres_cons rfl (hres_nil _)))))) ⟨⟨_, rfl, rfl, rfl⟩, ⟨_, rfl, rfl, rfl⟩, ⟨_, rfl, rfl, rfl⟩, ⟨_, rfl, rfl, rfl⟩, ⟨_, rfl, rfl, rfl⟩, trivial⟩ rfl (into_ok next hnl 0 (DS.mk been []) ([] : List (List AV)) hbl (way_first hbl))) ?_
  refine AOps.nil ?_
  refine AGo.block ?_
  refine AGo.loopD (γ := FW) 5 (fun q => ⟨69, (eput (eput (eput (eput (eput eNew 2 (.fn (.func 42) [] [])) 3 (.ptr 1 1 0 0)) 4 (.ptr 2 1 0 0)) 6 (.ptr 3 1 0 0)) 7 (.fn (.func 51) [] [.ptr 1 1 0 0, .ptr 2 1 0 0, .ptr 3 1 0 0])), (hput (hput (hput (hput (hput (hFrom 5) 0 (.row true 1 ((q.s).been.map boolCells))) 1 (.row false 1 [[pathsAV next]])) 2 (.row false 1 [[.ref 0 next.length 0 next.length]])) 3 (.row false 1 [[.ref 4 (q.es).length 0 (q.s).way.length]])) 4 (.row true 2 (q.es)))⟩) (fun q => FWInv next (drun next (dmu next (dstart been) + 1) (dstart been)) q) (fun q => q.g) ⟨dstart been, ies 0 (DS.mk been []) [], dmu next (dstart been) + 1⟩ (Sub.mk' (by repeat (first | exact ESub.new _ | refine ESub.put ?_ (by rfl))) (by repeat (first | exact HSub.none _ | exact HSub.from_new _ | exact HSub.from_from (by decide) | refine HSub.put ?_ (by rfl) | refine HSub.from_put ?_ (by decide)))) (FWInv.first hbl) (fun _ => hput_free (hput_free (hput_free (hput_free (hput_free (fun b hb => hFrom_free hb) rfl) rfl) rfl) rfl) rfl) ?_
  intro q hF
  refine AGo.seq ?_
  refine AGo.seq ?_
  refine AGo.region ?_
  refine AOps.s 13 rfl rfl rfl (q_load tok rfl rfl rfl (by first | exact .loc _ | exact .ptr _ _ _ _ _ _ _ _ rfl rfl rfl) rfl) ?_
  refine AOps.s 14 rfl rfl rfl (q_len tok rfl rfl rfl rfl rfl) ?_
  refine AOps.s 15 rfl rfl rfl (q_bin rfl rfl rfl rfl) ?_
  refine AOps.nil ?_
  refine AGo.split 15 rfl (fun hb1 => ?_) (fun hb1 => ?_)
  · -- True
    refine AGo.cond_true true rfl rfl ?_
    have hpos : 0 < q.s.way.length := by simpa using hb1
    obtain ⟨⟨b, i⟩, hp⟩ : ∃ p, q.s.way.getLast? = some p := ⟨_, List.getLast?_eq_some_getLast (List.ne_nil_of_length_pos hpos)⟩
    have htop := (hF.way.top hp).1
    have hbi := hF.ok.way (b, i) (by rw [way_last hp]; simp)
    simp only at hbi
    obtain ⟨l, hnx⟩ := get_of_lt (l := next) (k := b.toNat) (by omega)
    have hrl : rowAt next b = l := by simp [rowAt, hnx]
    rw [hrl] at hbi
    refine AGo.skip ?_
    refine AGo.block ?_
    refine AGo.seq ?_
    refine AGo.region ?_
    refine AOps.s 16 rfl rfl rfl (q_load tok rfl rfl rfl (by first | exact .loc _ | exact .ptr _ _ _ _ _ _ _ _ rfl rfl rfl) rfl) ?_
    refine AOps.s 17 rfl rfl rfl (q_load tok rfl rfl rfl (by first | exact .loc _ | exact .ptr _ _ _ _ _ _ _ _ rfl rfl rfl) rfl) ?_
    refine AOps.s 18 rfl rfl rfl (q_len tok rfl rfl rfl rfl rfl) ?_
    refine AOps.s 19 rfl rfl rfl (q_bin (r := .int .i64 ((q.s.way.length - 1 : Nat) : Int)) rfl rfl rfl (len_pred hpos (by have := hF.way.cap; have := hF.way.le; omega))) ?_
    refine AOps.s 20 rfl rfl rfl (q_index_ref tok rfl rfl rfl rfl rfl rfl rfl rfl rfl (Int.natCast_nonneg _) (by have := hF.way.le; omega)) ?_
    refine AOps.s 8 rfl rfl rfl (q_move (.inr rfl) rfl) ?_
    refine AOps.nil ?_
    refine AGo.seq ?_
    refine AGo.seq ?_
    refine AGo.draw mix ?_
    refine DOps.s 21 rfl rfl rfl (q_move (.inl rfl) rfl) ?_
    refine DOps.s 22 rfl rfl rfl (q_nilCheck rfl rfl rfl) ?_
    refine DOps.s 23 rfl rfl rfl (q_fieldAddr tok rfl rfl rfl rfl rfl rfl) ?_
    refine DOps.s 24 rfl rfl rfl (q_load tok rfl rfl rfl (.ptr _ _ _ _ _ _ _ _ rfl rfl (show _ = some (wcell (b, i)) by rw [Nat.zero_add, Int.toNat_natCast]; exact htop)) rfl) ?_
    refine DOps.s 25 rfl rfl rfl (q_load tok rfl rfl rfl (by first | exact .loc _ | exact .ptr _ _ _ _ _ _ _ _ rfl rfl rfl) rfl) ?_
    refine DOps.s 26 rfl rfl rfl (q_move (.inl rfl) rfl) ?_
    refine DOps.s 27 rfl rfl rfl (q_nilCheck rfl rfl rfl) ?_
    refine DOps.s 28 rfl rfl rfl (q_fieldAddr tok rfl rfl rfl rfl rfl rfl) ?_
    refine DOps.s 29 rfl rfl rfl (q_load tok rfl rfl rfl (.ptr _ _ _ _ _ _ _ _ rfl rfl (show _ = some (wcell (b, i)) by rw [Nat.zero_add, Int.toNat_natCast]; exact htop)) rfl) ?_
    refine DOps.s 30 rfl rfl rfl (q_index_lst tok rfl rfl rfl rfl rfl rfl hbi.1 (idx_mapZ hnx) rfl) ?_
    refine DOps.s 31 rfl rfl rfl (q_load tok rfl rfl rfl (by first | exact .loc _ | exact .ptr _ _ _ _ _ _ _ _ rfl rfl rfl) rfl) ?_
    refine DOps.s 32 rfl rfl rfl (q_len tok rfl rfl rfl rfl rfl) ?_
    refine DOps.s 33 rfl rfl rfl (q_bin rfl rfl rfl rfl) ?_
    refine DOps.nil (by kernel_rfl) ?_
    refine AGo.split 33 rfl (fun hb2 => ?_) (fun hb2 => ?_)
    · -- True
      refine AGo.cond_true true rfl rfl ?_
      have hil : i < l.length := by have h := hb2; simp at h; exact h
      obtain ⟨y, hlx⟩ := get_of_lt (l := l) (k := i.toNat) (by omega)
      refine AGo.seq ?_
      refine AGo.region ?_
      refine AOps.s 34 rfl rfl rfl (q_move (.inl rfl) rfl) ?_
      refine AOps.s 35 rfl rfl rfl (q_nilCheck rfl rfl rfl) ?_
      refine AOps.s 36 rfl rfl rfl (q_fieldAddr tok rfl rfl rfl rfl rfl rfl) ?_
      refine AOps.s 37 rfl rfl rfl (q_load tok rfl rfl rfl (.ptr _ _ _ _ _ _ _ _ rfl rfl (show _ = some (wcell (b, i)) by rw [Nat.zero_add, Int.toNat_natCast]; exact htop)) rfl) ?_
      refine AOps.s 38 rfl rfl rfl (q_bin (r := .int .i64 (i + 1)) rfl rfl rfl (by simp only [evalBin, evalInt, isShift, cond_false, if_true]; rw [wrap_i64 (by omega) (by have := hsm _ (List.mem_of_getElem? hnx); omega)])) ?_
      refine AOps.s 39 rfl rfl rfl (q_nilCheck rfl rfl rfl) ?_
      refine AOps.s 40 rfl rfl rfl (q_fieldAddr tok rfl rfl rfl rfl rfl rfl) ?_
      refine AOps.w rfl rfl (o_store tok rfl rfl rfl rfl rfl rfl rfl (show _ = some (wcell (b, i)) by rw [Nat.zero_add, Int.toNat_natCast]; exact htop) rfl (by decide) rfl (by first | exact fun _ => rfl | (intro h; cases h))) ?_
      refine AOps.nil ?_
      refine AGo.seq ?_
      refine AGo.sub (s' := ⟨69, (eput (eput (eput (eput (eput (eput eNew 2 (.fn (.func 42) [] [])) 3 (.ptr 1 1 0 0)) 4 (.ptr 2 1 0 0)) 6 (.ptr 3 1 0 0)) 7 (.fn (.func 51) [] [.ptr 1 1 0 0, .ptr 2 1 0 0, .ptr 3 1 0 0])) 8 (.ptr 4 q.es.length (0 + (((q.s.way.length - 1 : Nat) : Int)).toNat) 0)), (hput (hput (hput (hput (hput hNone 0 (.row true 1 (((DS.mk q.s.been (q.s.way.dropLast ++ [(b, i + 1)]))).been.map boolCells))) 1 (.row false 1 [[pathsAV next]])) 2 (.row false 1 [[.ref 0 next.length 0 next.length]])) 3 (.row false 1 [[.ref 4 ((q.es.set (q.s.way.length - 1) (wcell (b, i + 1)))).length 0 ((DS.mk q.s.been (q.s.way.dropLast ++ [(b, i + 1)]))).way.length]])) 4 (.row true 2 ((q.es.set (q.s.way.length - 1) (wcell (b, i + 1))))))⟩) (Sub.mk' (by repeat (first | exact ESub.new _ | refine ESub.put ?_ (by rfl))) (by repeat (first | exact HSub.none _ | exact HSub.from_new _ | exact HSub.from_from (by decide) | refine HSub.put ?_ (by first | rfl | exact congrArg (fun es => some (AObj.row true 2 es)) (by rw [Nat.zero_add, Int.toNat_natCast]; rfl) | exact congrArg (fun p : Nat × Nat => some (AObj.row false 1 [[AV.ref 4 p.1 0 p.2]])) (way_seen_len hp _ _)) | refine HSub.from_put ?_ (by decide)))) ?_
      refine AGo.draw mix ?_
      refine DOps.s 41 rfl rfl rfl (q_move (.inl rfl) rfl) ?_
      refine DOps.s 42 rfl rfl rfl (q_load tok rfl rfl rfl (by first | exact .loc _ | exact .ptr _ _ _ _ _ _ _ _ rfl rfl rfl) rfl) ?_
      refine DOps.s 43 rfl rfl rfl (q_move (.inl rfl) rfl) ?_
      refine DOps.s 44 rfl rfl rfl (q_nilCheck rfl rfl rfl) ?_
      refine DOps.s 45 rfl rfl rfl (q_fieldAddr tok rfl rfl rfl rfl rfl rfl) ?_
      refine DOps.s 46 rfl rfl rfl (q_load tok rfl rfl rfl (.ptr _ _ _ _ _ _ _ _ rfl (by simp) (show _ = some (wcell (b, i + 1)) by rw [Nat.zero_add, Int.toNat_natCast, List.getElem?_set_self (by have := hF.way.le; omega)])) rfl) ?_
      refine DOps.s 47 rfl rfl rfl (q_index_lst tok rfl rfl rfl rfl rfl rfl hbi.1 (idx_mapZ hnx) rfl) ?_
      refine DOps.s 48 rfl rfl rfl (q_load tok rfl rfl rfl (by first | exact .loc _ | exact .ptr _ _ _ _ _ _ _ _ rfl rfl rfl) rfl) ?_
      refine DOps.s 49 rfl rfl rfl (q_move (.inl rfl) rfl) ?_
      refine DOps.s 50 rfl rfl rfl (q_nilCheck rfl rfl rfl) ?_
      refine DOps.s 51 rfl rfl rfl (q_fieldAddr tok rfl rfl rfl rfl rfl rfl) ?_
      refine DOps.s 52 rfl rfl rfl (q_load tok rfl rfl rfl (.ptr _ _ _ _ _ _ _ _ rfl (by simp) (show _ = some (wcell (b, i + 1)) by rw [Nat.zero_add, Int.toNat_natCast, List.getElem?_set_self (by have := hF.way.le; omega)])) rfl) ?_
      refine DOps.s 53 rfl rfl rfl (q_bin (r := .int .i64 i) rfl rfl rfl (by simp only [evalBin, evalInt, isShift, cond_false, if_true]; rw [show i + 1 - 1 = i by omega, wrap_i64 (by omega) (by have := hsm _ (List.mem_of_getElem? hnx); omega)])) ?_
      refine DOps.s 54 rfl rfl rfl (q_index_lst tok rfl rfl rfl rfl rfl rfl hbi.2.2.1 (cs := [.int .i64 (((rowAt next b)[i.toNat]?).getD 0)]) (by show (List.map (fun b => [AV.int .i64 b]) l)[i.toNat]? = _; rw [List.getElem?_map, hlx, hrl, hlx]; rfl) rfl) ?_
      refine DOps.s 55 rfl rfl rfl (q_load tok rfl rfl rfl (by first | exact .loc _ | exact .ptr _ _ _ _ _ _ _ _ rfl rfl rfl) rfl) ?_
      refine DOps.x 56 rfl rfl rfl (o_callF (hc := (hput (hput (hput (hput (hput hNew 0 (.row true 1 (((DS.mk q.s.been (q.s.way.dropLast ++ [(b, i + 1)]))).been.map boolCells))) 1 (.row false 1 [[pathsAV next]])) 2 (.row false 1 [[.ref 0 next.length 0 next.length]])) 3 (.row false 1 [[.ref 4 ((q.es.set (q.s.way.length - 1) (wcell (b, i + 1)))).length 0 ((DS.mk q.s.been (q.s.way.dropLast ++ [(b, i + 1)]))).way.length]])) 4 (.row true 2 ((q.es.set (q.s.way.length - 1) (wcell (b, i + 1))))))) (hw := (hput (hput (hput (hput (hput hNone 0 (.row true 1 (((dinto (((rowAt next b)[i.toNat]?).getD 0) (DS.mk q.s.been (q.s.way.dropLast ++ [(b, i + 1)])))).been.map boolCells))) 1 (.row false 1 [[pathsAV next]])) 2 (.row false 1 [[.ref 0 next.length 0 next.length]])) 3 (.row false 1 [[.ref 4 ((ies (((rowAt next b)[i.toNat]?).getD 0) (DS.mk q.s.been (q.s.way.dropLast ++ [(b, i + 1)])) (q.es.set (q.s.way.length - 1) (wcell (b, i + 1))))).length 0 ((dinto (((rowAt next b)[i.toNat]?).getD 0) (DS.mk q.s.been (q.s.way.dropLast ++ [(b, i + 1)])))).way.length]])) 4 (.row true 2 ((ies (((rowAt next b)[i.toNat]?).getD 0) (DS.mk q.s.been (q.s.way.dropLast ++ [(b, i + 1)])) (q.es.set (q.s.way.length - 1) (wcell (b, i + 1)))))))) [4, 3, 2, 1, 0] [(0, (.row true 1 (((dinto (((rowAt next b)[i.toNat]?).getD 0) (DS.mk q.s.been (q.s.way.dropLast ++ [(b, i + 1)])))).been.map boolCells))), (1, (.row false 1 [[pathsAV next]])), (2, (.row false 1 [[.ref 0 next.length 0 next.length]])), (3, (.row false 1 [[.ref 4 ((ies (((rowAt next b)[i.toNat]?).getD 0) (DS.mk q.s.been (q.s.way.dropLast ++ [(b, i + 1)])) (q.es.set (q.s.way.length - 1) (wcell (b, i + 1))))).length 0 ((dinto (((rowAt next b)[i.toNat]?).getD 0) (DS.mk q.s.been (q.s.way.dropLast ++ [(b, i + 1)])))).way.length]])), (4, (.row true 2 ((ies (((rowAt next b)[i.toNat]?).getD 0) (DS.mk q.s.been (q.s.way.dropLast ++ [(b, i + 1)])) (q.es.set (q.s.way.length - 1) (wcell (b, i + 1)))))))] rfl rfl Try.func51 (by kernel_rfl) rfl rfl rfl ⟨⟨_, rfl, rfl⟩, ⟨_, rfl, rfl⟩, ⟨_, rfl, rfl⟩, ⟨_, rfl, rfl⟩, ⟨_, rfl, rfl⟩, trivial⟩ rfl (hres_cons rfl (hres_cons rfl (hres_cons rfl (hres_cons rfl (hres_cons rfl (hres_nil _)))))) ⟨⟨_, rfl, rfl, rfl⟩, ⟨_, rfl, rfl, rfl⟩, ⟨_, rfl, rfl, rfl⟩, ⟨_, rfl, rfl, rfl⟩, ⟨_, rfl, rfl, rfl⟩, trivial⟩ rfl (into_ok next hnl (((rowAt next b)[i.toNat]?).getD 0) (DS.mk q.s.been (q.s.way.dropLast ++ [(b, i + 1)])) (q.es.set (q.s.way.length - 1) (wcell (b, i + 1))) hF.ok.len (hF.way.seen hp))) ?_
      refine DOps.nil (by kernel_rfl) ?_
      refine AGo.exit ?_
      first
      | have hnx2 := hF.next (s' := dinto (((rowAt next b)[i.toNat]?).getD 0) (DS.mk q.s.been (q.s.way.dropLast ++ [(b, i + 1)]))) (es' := ies (((rowAt next b)[i.toNat]?).getD 0) (DS.mk q.s.been (q.s.way.dropLast ++ [(b, i + 1)])) (q.es.set (q.s.way.length - 1) (wcell (b, i + 1)))) hp (dstep_in hp (by rw [hrl]; simpa using hil)) (hF.way.seen hp).into
      | have hnx2 := hF.next (s' := ⟨q.s.been, q.s.way.dropLast⟩) (es' := q.es) hp (dstep_out hp (by rw [hrl]; simpa using hil)) (hF.way.pop hp)
      exact ⟨⟨_, _, q.g - 1⟩, Drop.mk' (by repeat (first | exact EDrop.new _ _ | refine EDrop.put ?_ (by rfl) rfl)) (by repeat (first | exact HDrop.none _ _ | exact HDrop.tail _ _ | refine HDrop.put ?_ (by rfl) rfl rfl)), hnx2.1, hnx2.2⟩
    · -- False
      refine AGo.cond_false false rfl rfl ?_
      have hil : ¬ i < l.length := by have h := hb2; simp at h; omega
      refine AGo.skip ?_
      refine AGo.seq ?_
      refine AGo.region ?_
      refine AOps.s 57 rfl rfl rfl (q_move (.inl rfl) rfl) ?_
      refine AOps.s 58 rfl rfl rfl (q_nilCheck rfl rfl rfl) ?_
      refine AOps.s 59 rfl rfl rfl (q_fieldAddr tok rfl rfl rfl rfl rfl rfl) ?_
      refine AOps.s 60 rfl rfl rfl (q_load tok rfl rfl rfl (.ptr _ _ _ _ _ _ _ _ rfl rfl (show _ = some (wcell (b, i)) by rw [Nat.zero_add, Int.toNat_natCast]; exact htop)) rfl) ?_
      refine AOps.s 9 rfl rfl rfl (q_move (.inr rfl) rfl) ?_
      refine AOps.nil ?_
      refine AGo.seq ?_
      refine AGo.region ?_
      refine AOps.s 61 rfl rfl rfl (q_load tok rfl rfl rfl (by first | exact .loc _ | exact .ptr _ _ _ _ _ _ _ _ rfl rfl rfl) rfl) ?_
      refine AOps.s 62 rfl rfl rfl (q_load tok rfl rfl rfl (by first | exact .loc _ | exact .ptr _ _ _ _ _ _ _ _ rfl rfl rfl) rfl) ?_
      refine AOps.s 63 rfl rfl rfl (q_len tok rfl rfl rfl rfl rfl) ?_
      refine AOps.s 64 rfl rfl rfl (q_bin (r := .int .i64 ((q.s.way.length - 1 : Nat) : Int)) rfl rfl rfl (len_pred hpos (by have := hF.way.cap; have := hF.way.le; omega))) ?_
      refine AOps.s 65 rfl rfl rfl (q_slice_ref (m := (DS.mk q.s.been q.s.way.dropLast).way.length) tok rfl rfl rfl rfl rfl rfl rfl rfl (by simp) (by simp)) ?_
      refine AOps.w rfl rfl (o_store tok rfl rfl rfl rfl rfl rfl rfl rfl rfl (by decide) rfl (by first | exact fun _ => rfl | (intro h; cases h))) ?_
      refine AOps.nil ?_
      refine AGo.region ?_
      refine AOps.s 66 rfl rfl rfl (q_move (.inl rfl) rfl) ?_
      refine AOps.s 67 rfl rfl rfl (q_move (.inl rfl) rfl) ?_
      refine AOps.x 68 rfl rfl rfl (o_callF (hc := hNew) (hw := hNone) [] [] rfl rfl Try.func42 (by kernel_rfl) rfl rfl rfl trivial rfl (hres_nil _) trivial rfl (idle_ok b)) ?_
      refine AOps.nil ?_
      first
      | have hnx2 := hF.next (s' := dinto (((rowAt next b)[i.toNat]?).getD 0) (DS.mk q.s.been (q.s.way.dropLast ++ [(b, i + 1)]))) (es' := ies (((rowAt next b)[i.toNat]?).getD 0) (DS.mk q.s.been (q.s.way.dropLast ++ [(b, i + 1)])) (q.es.set (q.s.way.length - 1) (wcell (b, i + 1)))) hp (dstep_in hp (by rw [hrl]; simpa using hil)) (hF.way.seen hp).into
      | have hnx2 := hF.next (s' := ⟨q.s.been, q.s.way.dropLast⟩) (es' := q.es) hp (dstep_out hp (by rw [hrl]; simpa using hil)) (hF.way.pop hp)
      exact ⟨⟨_, _, q.g - 1⟩, Drop.mk' (by repeat (first | exact EDrop.new _ _ | refine EDrop.put ?_ (by rfl) rfl)) (by repeat (first | exact HDrop.none _ _ | exact HDrop.tail _ _ | refine HDrop.put ?_ (by rfl) rfl rfl)), hnx2.1, hnx2.2⟩
  · -- False
    refine AGo.cond_false false rfl rfl ?_
    have hnil : q.s.way = [] := List.length_eq_zero_iff.1 (by have h := hb1; simp at h; simpa using h)
    refine AGo.exit ?_
    refine ⟨[], trivial, rfl, ?_⟩
    rw [show dreach next been = q.s.been from (congrArg DS.been (hF.done hnil)).symm]
    exact HSub.put (HSub.none _) rfl

set_option maxRecDepth 100000 in
theorem reach_ok (next : List (List Int)) (hnl : next.length ≤ 100000) (hsm : ∀ l ∈ next, l.length ≤ 100000) : APure Try.prog 28 [pathsAV next] (fun r => r = boolsAV (dreach next (List.replicate next.length false))) := by
  refine APure.of_body (n := 11) tok Try.func28 rfl rfl ?_
  refine AGo.seq ?_
  refine AGo.region ?_
  refine AOps.s 2 rfl rfl rfl (q_move (.inr rfl) rfl) ?_
  refine AOps.nil ?_
  refine AGo.seq ?_
  refine AGo.region ?_
  refine AOps.s 4 rfl rfl rfl (q_move (.inl rfl) rfl) ?_
  refine AOps.s 5 rfl rfl rfl (q_len tok rfl rfl rfl rfl rfl) ?_
  refine AOps.x 6 rfl rfl rfl (o_makeSlice tok (n := next.length) (m := next.length) 0 true rfl rfl rfl (by simp) (by simp) rfl rfl rfl rfl rfl (Nat.zero_lt_succ _) rfl (Nat.le_refl _) (by show 1 * next.length ≤ _; omega) (by simp only [maxLen]; omega)) ?_
  refine AOps.s 3 rfl rfl rfl (q_move (.inr rfl) rfl) ?_
  refine AOps.nil ?_
  refine AGo.seq ?_
  refine AGo.sub (s' := ⟨11, (eput (eput eNew 0 (pathsAV next)) 3 (.ref 0 next.length 0 next.length)), (hput hNone 0 (.row true 1 (((List.replicate next.length false)).map boolCells)))⟩) (Sub.mk' (by repeat (first | exact ESub.new _ | refine ESub.put ?_ (by rfl))) (by repeat (first | exact HSub.none _ | exact HSub.from_new _ | exact HSub.from_from (by decide) | refine HSub.put ?_ (by first | rfl | exact congrArg (fun es => some (AObj.row true 1 es)) (by rw [List.map_replicate]; rfl)) | refine HSub.from_put ?_ (by decide)))) ?_
  refine AGo.region ?_
  refine AOps.s 7 rfl rfl rfl (q_move (.inl rfl) rfl) ?_
  refine AOps.s 8 rfl rfl rfl (q_move (.inl rfl) rfl) ?_
  refine AOps.x 9 rfl rfl rfl (o_call (hc := hput hNew 0 (.row true 1 (((List.replicate next.length false)).map boolCells))) (hw := hput hNone 0 (.row true 1 ((dreach next (List.replicate next.length false)).map boolCells))) [0] [(0, (.row true 1 ((dreach next (List.replicate next.length false)).map boolCells)))] rfl Try.func41 (by kernel_rfl) rfl rfl rfl ⟨⟨_, rfl, rfl⟩, trivial⟩ rfl (hres_cons rfl (hres_nil _)) ⟨⟨_, rfl, rfl, rfl⟩, trivial⟩ rfl (walk_ok next hnl hsm (List.replicate next.length false) (by simp))) ?_
  refine AOps.nil ?_
  refine AGo.seq ?_
  refine AGo.ghost (.freezeA 3 0 rfl rfl (by simp [dreach_length])) ?_
  refine AGo.region ?_
  refine AOps.s 10 rfl rfl rfl (q_move (.inl rfl) rfl) ?_
  refine AOps.s 2 rfl rfl rfl (q_move (.inr rfl) rfl) ?_
  refine AOps.nil ?_
  refine AGo.ret ?_
  refine ⟨[_], ⟨rfl, trivial⟩, ?_, rfl⟩
  rfl

end Go.Proofs.Ytidfabbnobipkaa.Sv
