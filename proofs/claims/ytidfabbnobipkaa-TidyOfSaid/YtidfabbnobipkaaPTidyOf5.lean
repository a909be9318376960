/-
  The law TidyOf of the given program answers true for every input, and leaves its arguments as they were. There is no condition. Own work.
  WALKS: printed by a program of our own from the code's tree.
  WALKS: printed by a program of our own from the code's tree.
  WALKS: printed by a program of our own from the code's tree.
  WALKS: printed by a program of our own from the code's tree.
  WALKS: printed by a program of our own from the code's tree.
  WALKS: printed by a program of our own from the code's tree.
  WALKS: printed by a program of our own from the code's tree.
-/
import Derived.Test.YtidfabbnobipkaaPTidyOf3
import Derived.Test.YtidfabbnobipkaaPTidyOf4
import Derived.Test.YtidfabbnobipkaaPTidyOf2
namespace Go.Proofs.Ytidfabbnobipkaa.Sv
open Go
set_option linter.unusedVariables false
set_option linter.unusedSimpArgs false

set_option maxRecDepth 100000 in
theorem without_ok (next : List (List Int)) (hn : next.length ≤ 100000) (hp : ∀ l ∈ next, l.length ≤ 100000) : APure Try.prog 40 [pathsAV next, .int .i64 (-1)] (fun r => r = boolsAV (bif next.isEmpty then [] else breach next)) := by
  refine APure.of_body (n := 72) tok Try.func40 rfl rfl ?_
  refine AGo.seq ?_
  refine AGo.region ?_
  refine AOps.s 4 rfl rfl rfl (q_move (.inr rfl) rfl) ?_
  refine AOps.nil ?_
  refine AGo.seq ?_
  refine AGo.region ?_
  refine AOps.s 10 rfl rfl rfl (q_move (.inl rfl) rfl) ?_
  refine AOps.s 11 rfl rfl rfl (q_len tok rfl rfl rfl rfl rfl) ?_
  refine AOps.x 12 rfl rfl rfl (o_makeSlice tok (n := next.length) (m := next.length) 0 true rfl rfl rfl (by simp) (by simp) rfl rfl rfl rfl rfl (Nat.zero_lt_succ _) rfl (Nat.le_refl _) (by show 1 * next.length ≤ _; omega) (by simp only [maxLen]; omega)) ?_
  refine AOps.s 5 rfl rfl rfl (q_move (.inr rfl) rfl) ?_
  refine AOps.nil ?_
  refine AGo.seq ?_
  refine AGo.seq ?_
  refine AGo.region ?_
  refine AOps.s 13 rfl rfl rfl (q_move (.inl rfl) rfl) ?_
  refine AOps.s 14 rfl rfl rfl (q_len tok rfl rfl rfl rfl rfl) ?_
  refine AOps.s 15 rfl rfl rfl (q_bin rfl rfl rfl rfl) ?_
  refine AOps.nil ?_
  refine AGo.split 15 rfl (fun hb1 => ?_) (fun hb1 => ?_)
  · -- True
    refine AGo.cond_true true rfl rfl ?_
    have h0 : next.length = 0 := by simpa [pathsAV] using hb1
    refine AGo.seq ?_
    refine AGo.ghost (.freezeA 5 0 rfl rfl (by simp)) ?_
    refine AGo.region ?_
    refine AOps.s 16 rfl rfl rfl (q_move (.inl rfl) rfl) ?_
    refine AOps.s 4 rfl rfl rfl (q_move (.inr rfl) rfl) ?_
    refine AOps.nil ?_
    refine AGo.ret ?_
    refine ⟨[_], ⟨rfl, trivial⟩, ?_, rfl⟩
    have : next = [] := List.eq_nil_of_length_eq_zero h0
    subst this
    rfl
  · -- False
    refine AGo.cond_false false rfl rfl ?_
    have h0 : next.length ≠ 0 := by simpa [pathsAV] using hb1
    have hne : next ≠ [] := fun e => h0 (by rw [e]; rfl)
    have hie : next.isEmpty = false := by cases next with | nil => exact absurd rfl hne | cons a b => rfl
    obtain ⟨i1, _, i3⟩ := bstart_inv hne
    refine AGo.skip ?_
    refine AGo.seq ?_
    refine AGo.region ?_
    refine AOps.s 17 rfl rfl rfl (q_move (.inl rfl) rfl) ?_
    refine AOps.s 18 rfl rfl rfl (q_index_ref tok rfl rfl rfl rfl rfl rfl rfl (by simp) rfl (by decide) (by omega)) ?_
    refine AOps.w rfl rfl (o_store tok rfl rfl rfl rfl rfl rfl (by simp) (cs := [.bool false]) (by rw [List.getElem?_replicate, if_pos (by show (0 : Nat) < _; omega)]) rfl (by decide) rfl (by first | exact fun _ => rfl | (intro h; cases h))) ?_
    refine AOps.nil ?_
    refine AGo.seq ?_
    refine AGo.region ?_
    refine AOps.x 19 rfl rfl rfl (o_litRow tok 1 true rfl rfl rfl rfl rfl rfl (by decide) rfl rfl rfl rfl (by first | exact fun _ => rfl | (intro h; cases h)) rfl rfl) ?_
    refine AOps.s 6 rfl rfl rfl (q_move (.inr rfl) rfl) ?_
    refine AOps.nil ?_
    refine AGo.seq ?_
    refine AGo.block ?_
    refine AGo.loopI (γ := QG) (fun q => ⟨72, (eput (eput (eput (eput eNew 0 (pathsAV next)) 1 (.int .i64 (-1))) 5 (.ref 0 next.length 0 next.length)) 6 (.ref (q.g + 1) q.es.length q.off (q.es.length - q.off))), (hput (hput (hFrom (q.g + 2)) 0 (.row true 1 (q.s.been.map boolCells))) (q.g + 1) (.row true 1 (intCells q.es)))⟩) (fun q => QInv next q) (fun q => q.gas) ⟨bstart next.length, [0], 0, 0, next.length + 1⟩ (Sub.mk' (by repeat (first | exact ESub.new _ | refine ESub.put ?_ (by rfl))) (by repeat (first | exact HSub.none _ | exact HSub.from_new _ | exact HSub.from_from (by first | decide | omega | (dsimp only; omega)) | refine HSub.put ?_ (by first | rfl | exact congrArg (fun l => some (AObj.row true 1 l)) (by simp [bstart]; rfl)) | refine HSub.from_put ?_ (by first | decide | omega | (dsimp only; omega)) | refine HSub.from_rm ?_ (by decide)))) (QInv.first hne) ?_
    intro q hF
    refine AGo.seq ?_
    refine AGo.seq ?_
    refine AGo.region ?_
    refine AOps.s 20 rfl rfl rfl (q_move (.inl rfl) rfl) ?_
    refine AOps.s 21 rfl rfl rfl (q_len tok rfl rfl rfl rfl rfl) ?_
    refine AOps.s 22 rfl rfl rfl (q_bin rfl rfl rfl rfl) ?_
    refine AOps.nil ?_
    refine AGo.split 22 rfl (fun hb2 => ?_) (fun hb2 => ?_)
    · -- True
      refine AGo.cond_true true rfl rfl ?_
      have hlt : 0 < q.es.length - q.off := by simpa using hb2
      have hqq : q.s.q ≠ [] := fun e => by rw [hF.qe, ← List.length_eq_zero_iff, List.length_drop] at e; omega
      obtain ⟨at', hat⟩ := get_of_lt (l := q.es) (k := q.off) (by omega)
      have hsq : q.s.q = at' :: q.s.q.tail := by rw [hF.qe, List.drop_eq_getElem_cons (by omega), (List.getElem?_eq_some_iff.1 hat).2]; rfl
      have har := hF.inv.q at' (by rw [hsq]; simp)
      obtain ⟨row, hrow⟩ := get_of_lt (l := next) (k := at'.toNat) (by omega)
      have hra : rowAt next at' = row := by rw [rowAt, hrow]; rfl
      have hrl := hp row (List.mem_of_getElem? hrow)
      have hbl := hF.inv.len
      refine AGo.skip ?_
      refine AGo.block ?_
      refine AGo.seq ?_
      refine AGo.region ?_
      refine AOps.s 23 rfl rfl rfl (q_move (.inl rfl) rfl) ?_
      refine AOps.s 24 rfl rfl rfl (q_index_ref tok rfl rfl rfl rfl rfl rfl (hput_same _ _ _) (by rw [intCells_len]) rfl (by decide) (by omega)) ?_
      refine AOps.s 25 rfl rfl rfl (q_load tok rfl rfl rfl (.ptr _ _ _ _ _ _ _ [.int .i64 at'] (hput_same _ _ _) (by rw [intCells_len]) (by show (List.map (fun b => [AV.int .i64 b]) q.es)[_]? = _; rw [List.getElem?_map, show q.off + (0 : Int).toNat = q.off from rfl, hat]; rfl)) rfl) ?_
      refine AOps.s 7 rfl rfl rfl (q_move (.inr rfl) rfl) ?_
      refine AOps.nil ?_
      refine AGo.seq ?_
      refine AGo.join (γ := Nat × List Int × Nat) (fun p => ⟨72, (eput (eput (eput (eput (eput eNew 0 (pathsAV next)) 1 (.int .i64 (-1))) 5 (.ref 0 next.length 0 next.length)) 6 (.ref (p.1 + 1) p.2.1.length p.2.2 (p.2.1.length - p.2.2))) 7 (.int .i64 at')), (hput (hput (hFrom (p.1 + 2)) 0 (.row true 1 (q.s.been.map boolCells))) (p.1 + 1) (.row true 1 (intCells p.2.1)))⟩) (fun p => p.2.2 ≤ p.2.1.length ∧ p.2.1.drop p.2.2 = q.s.q.tail) ?_ ?_
      · -- to the join
        refine AGo.region ?_
        refine AOps.s 26 rfl rfl rfl (q_move (.inl rfl) rfl) ?_
        refine AOps.ex 27 rfl rfl rfl (o_sliceQ tok (q.g + 2) 1 rfl rfl rfl rfl rfl rfl (hput_same _ _ _) (hput_skip (beq_false_of_ne (by omega)) (hput_skip rfl (hFrom_at (by omega)))) (by rw [intCells_len]) rfl (by omega) rfl (by decide)) ?_
        intro W_ r_ hS_
        rcases hS_ with ⟨rfl, rfl⟩ | ⟨hl, rfl, rfl⟩
        · -- way 0
          have w1 : 0 = 0 := rfl
          refine AOps.s 6 rfl rfl rfl (q_move (.inr rfl) rfl) ?_
          refine AOps.nil ?_
          exact ⟨(q.g, q.es, q.off + 1), Sub.mk' (by repeat (first | exact ESub.new _ | refine ESub.put ?_ (by first | rfl | exact congrArg (fun n => some (AV.ref (q.g + 1) q.es.length (q.off + 1) n)) (by omega)))) (by repeat (first | exact HSub.none _ | exact HSub.from_new _ | exact HSub.from_from (by first | decide | omega | (dsimp only; omega)) | refine HSub.put ?_ (by first | rfl | exact hput_same _ _ _ | exact hput_skip rfl (hput_same _ _ _) | exact hput_skip (beq_false_of_ne (by omega)) (hput_same _ _ _)) | refine HSub.from_put ?_ (by first | decide | omega | (dsimp only; omega)) | refine HSub.from_rm ?_ (by decide))), ⟨by show q.off + 1 ≤ q.es.length; omega, by show q.es.drop (q.off + 1) = _; rw [hF.qe, List.tail_drop]⟩⟩
        · -- way 1
          have w1 : 0 = 0 := rfl
          refine AOps.s 6 rfl rfl rfl (q_move (.inr rfl) rfl) ?_
          refine AOps.nil ?_
          exact ⟨(q.g + 1, [], 0), Sub.mk' (by repeat (first | exact ESub.new _ | refine ESub.put ?_ (by first | rfl | exact congrArg (fun n => some (AV.ref (q.g + 1) q.es.length (q.off + 1) n)) (by omega)))) (by repeat (first | exact HSub.none _ | exact HSub.from_new _ | exact HSub.from_from (by first | decide | omega | (dsimp only; omega)) | refine HSub.put ?_ (by first | rfl | exact hput_same _ _ _ | exact hput_skip rfl (hput_same _ _ _) | exact hput_skip (beq_false_of_ne (by omega)) (hput_same _ _ _)) | refine HSub.from_put ?_ (by first | decide | omega | (dsimp only; omega)) | refine HSub.from_rm ?_ (by decide))), ⟨Nat.le_refl _, by show ([] : List Int) = _; have := congrArg List.length hF.qe; rw [List.length_drop] at this; exact (List.eq_nil_of_length_eq_zero (by rw [List.length_tail]; omega)).symm⟩⟩
      intro p hP
      refine AGo.seq ?_
      refine AGo.region ?_
      refine AOps.s 8 rfl rfl rfl (q_move (.inr rfl) rfl) ?_
      refine AOps.nil ?_
      refine AGo.block ?_
      refine AGo.loopI (γ := QI) (fun i => ⟨72, (eput (eput (eput (eput (eput (eput eNew 0 (pathsAV next)) 1 (.int .i64 (-1))) 5 (.ref 0 next.length 0 next.length)) 6 (.ref (i.g + 1) i.es.length i.off (i.es.length - i.off))) 7 (.int .i64 at')) 8 (.int .i64 (i.j : Int))), (hput (hput (hFrom (i.g + 2)) 0 (.row true 1 (((row.take i.j).foldl binto (BS.mk q.s.been q.s.q.tail)).been.map boolCells))) (i.g + 1) (.row true 1 (intCells i.es)))⟩) (fun i => QIInv q.s.been q.s.q.tail row i) (fun i => row.length - i.j) ⟨0, p.2.1, p.2.2, p.1⟩ (Sub.mk' (by repeat (first | exact ESub.new _ | refine ESub.put ?_ (by rfl))) (by repeat (first | exact HSub.none _ | exact HSub.from_new _ | exact HSub.from_from (by first | decide | omega | (dsimp only; omega)) | refine HSub.put ?_ (by first | rfl | exact hput_same _ _ _) | refine HSub.from_put ?_ (by first | decide | omega | (dsimp only; omega)) | refine HSub.from_rm ?_ (by decide)))) ⟨hP.1, hP.2⟩ ?_
      intro i hI
      have hql := hF.len hqq hI
      refine AGo.seq ?_
      refine AGo.seq ?_
      refine AGo.region ?_
      refine AOps.s 28 rfl rfl rfl (q_move (.inl rfl) rfl) ?_
      refine AOps.s 29 rfl rfl rfl (q_move (.inl rfl) rfl) ?_
      refine AOps.s 30 rfl rfl rfl (q_move (.inl rfl) rfl) ?_
      refine AOps.s 31 rfl rfl rfl (q_index_lst tok rfl rfl rfl rfl rfl rfl har.1 (idx_mapZ hrow) rfl) ?_
      refine AOps.s 32 rfl rfl rfl (q_load tok rfl rfl rfl (by first | exact .loc _ | exact .ptr _ _ _ _ _ _ _ _ rfl rfl rfl) rfl) ?_
      refine AOps.s 33 rfl rfl rfl (q_len tok rfl rfl rfl rfl rfl) ?_
      refine AOps.s 34 rfl rfl rfl (q_bin rfl rfl rfl rfl) ?_
      refine AOps.s 35 rfl rfl rfl (q_move (.inl rfl) rfl) ?_
      refine AOps.split 35 rfl (fun hb3 => ?_) (fun hb3 => ?_)
      · -- True
        have hjb := hb3
        refine AOps.s 36 rfl rfl rfl (q_move (.inl rfl) rfl) ?_
        refine AOps.s 37 rfl rfl rfl (q_move (.inl rfl) rfl) ?_
        refine AOps.s 38 rfl rfl rfl (q_bin rfl rfl rfl rfl) ?_
        refine AOps.s 39 rfl rfl rfl (q_pick_true true rfl rfl rfl rfl) ?_
        refine AOps.nil ?_
        refine AGo.split 39 rfl (fun hb4 => ?_) (fun hb4 => ?_)
        · -- True
          refine AGo.cond_true true rfl rfl ?_
          have hjl : i.j < row.length := by simpa using hjb
          obtain ⟨y, hy⟩ := get_of_lt hjl
          refine AGo.skip ?_
          refine AGo.seq ?_
          refine AGo.block ?_
          refine AGo.seq ?_
          refine AGo.region ?_
          refine AOps.s 42 rfl rfl rfl (q_move (.inl rfl) rfl) ?_
          refine AOps.s 43 rfl rfl rfl (q_move (.inl rfl) rfl) ?_
          refine AOps.s 44 rfl rfl rfl (q_index_lst tok rfl rfl rfl rfl rfl rfl har.1 (idx_mapZ hrow) rfl) ?_
          refine AOps.s 45 rfl rfl rfl (q_load tok rfl rfl rfl (by first | exact .loc _ | exact .ptr _ _ _ _ _ _ _ _ rfl rfl rfl) rfl) ?_
          refine AOps.s 46 rfl rfl rfl (q_move (.inl rfl) rfl) ?_
          refine AOps.s 47 rfl rfl rfl (q_index_lst tok rfl rfl rfl rfl rfl rfl (Int.natCast_nonneg _) (idx_map hy) rfl) ?_
          refine AOps.s 48 rfl rfl rfl (q_load tok rfl rfl rfl (by first | exact .loc _ | exact .ptr _ _ _ _ _ _ _ _ rfl rfl rfl) rfl) ?_
          refine AOps.s 9 rfl rfl rfl (q_move (.inr rfl) rfl) ?_
          refine AOps.nil ?_
          refine AGo.seq ?_
          refine AGo.region ?_
          refine AOps.s 49 rfl rfl rfl (q_move (.inl rfl) rfl) ?_
          refine AOps.s 50 rfl rfl rfl (q_bin rfl rfl rfl rfl) ?_
          refine AOps.s 51 rfl rfl rfl (q_move (.inl rfl) rfl) ?_
          refine AOps.split 51 rfl (fun hb5 => ?_) (fun hb5 => ?_)
          · -- True
            have hy0 : 0 ≤ y := by simpa using hb5
            refine AOps.s 52 rfl rfl rfl (q_move (.inl rfl) rfl) ?_
            refine AOps.s 53 rfl rfl rfl (q_move (.inl rfl) rfl) ?_
            refine AOps.s 54 rfl rfl rfl (q_len tok rfl rfl rfl rfl rfl) ?_
            refine AOps.s 55 rfl rfl rfl (q_bin rfl rfl rfl rfl) ?_
            refine AOps.s 56 rfl rfl rfl (q_pick_true true rfl rfl rfl rfl) ?_
            refine AOps.s 57 rfl rfl rfl (q_move (.inl rfl) rfl) ?_
            refine AOps.split 57 rfl (fun hb6 => ?_) (fun hb6 => ?_)
            · -- True
              have hyl : y < next.length := by have h := hb6; rw [List.length_map] at h; simpa using h
              refine AOps.s 58 rfl rfl rfl (q_move (.inl rfl) rfl) ?_
              refine AOps.s 59 rfl rfl rfl (q_move (.inl rfl) rfl) ?_
              refine AOps.s 60 rfl rfl rfl (q_index_ref tok rfl rfl rfl rfl rfl rfl rfl (by simp [bintos_len, hbl]) rfl hy0 hyl) ?_
              refine AOps.s 61 rfl rfl rfl (q_load tok rfl rfl rfl (.ptr _ _ _ _ _ _ _ [.bool (bget ((row.take i.j).foldl binto (BS.mk q.s.been q.s.q.tail)).been y)] rfl (by simp [bintos_len, hbl]) (by rw [Nat.zero_add]; exact bcellZ (by rw [bintos_len, hbl]; exact ⟨hy0, hyl⟩))) rfl) ?_
              refine AOps.s 62 rfl rfl rfl (q_not rfl rfl) ?_
              refine AOps.s 63 rfl rfl rfl (q_pick_true true rfl rfl rfl rfl) ?_
              refine AOps.nil ?_
              refine AGo.join (γ := Nat × List Int × Nat) (fun p => ⟨72, (eput (eput (eput (eput (eput (eput (eput eNew 0 (pathsAV next)) 1 (.int .i64 (-1))) 5 (.ref 0 next.length 0 next.length)) 6 (.ref (p.1 + 1) p.2.1.length p.2.2 (p.2.1.length - p.2.2))) 7 (.int .i64 at')) 8 (.int .i64 (i.j : Int))) 9 (.int .i64 y)), (hput (hput (hFrom (p.1 + 2)) 0 (.row true 1 (((row.take (i.j + 1)).foldl binto (BS.mk q.s.been q.s.q.tail)).been.map boolCells))) (p.1 + 1) (.row true 1 (intCells p.2.1)))⟩) (fun p => p.2.2 ≤ p.2.1.length ∧ p.2.1.drop p.2.2 = ((row.take (i.j + 1)).foldl binto (BS.mk q.s.been q.s.q.tail)).q) ?_ ?_
              · -- to the join
                refine AGo.split 63 rfl (fun hb7 => ?_) (fun hb7 => ?_)
                · -- True
                  refine AGo.cond_true true rfl rfl ?_
                  have hnb : notBeen ((row.take i.j).foldl binto (BS.mk q.s.been q.s.q.tail)).been y = true := nbT hy0 (by rw [bintos_len, hbl]; exact hyl) hb7
                  have hsN : ((row.take (i.j + 1)).foldl binto (BS.mk q.s.been q.s.q.tail)) = ⟨((row.take i.j).foldl binto (BS.mk q.s.been q.s.q.tail)).been.set y.toNat true, ((row.take i.j).foldl binto (BS.mk q.s.been q.s.q.tail)).q ++ [y]⟩ := by rw [bintosSucc hy, binto_eq hnb]; rfl
                  refine AGo.seq ?_
                  refine AGo.region ?_
                  refine AOps.s 64 rfl rfl rfl (q_move (.inl rfl) rfl) ?_
                  refine AOps.s 65 rfl rfl rfl (q_move (.inl rfl) rfl) ?_
                  refine AOps.s 66 rfl rfl rfl (q_index_ref tok rfl rfl rfl rfl rfl rfl rfl (by simp [bintos_len, hbl]) rfl hy0 hyl) ?_
                  refine AOps.w rfl rfl (o_store tok rfl rfl rfl rfl rfl rfl (by simp [bintos_len, hbl]) (cs := [.bool false]) (by rw [Nat.zero_add, List.getElem?_map, (notBeen_get hnb).2.2]; rfl) rfl (by decide) rfl (by first | exact fun _ => rfl | (intro h; cases h))) ?_
                  refine AOps.nil ?_
                  refine AGo.region ?_
                  refine AOps.s 67 rfl rfl rfl (q_move (.inl rfl) rfl) ?_
                  refine AOps.s 68 rfl rfl rfl (q_move (.inl rfl) rfl) ?_
                  refine AOps.x 69 rfl rfl rfl (o_lit' tok rfl rfl rfl rfl rfl rfl (by decide) rfl rfl rfl rfl rfl rfl) ?_
                  refine AOps.ex 70 rfl rfl rfl (o_appendQ tok (i.g + 2) rfl rfl rfl rfl rfl rfl rfl rfl (hput_same _ _ _) (hput_skip (beq_false_of_ne (by omega)) (hput_skip rfl (hFrom_at (by omega)))) (by rw [intCells_len]) (by have := hI.off; omega) rfl rfl (by decide) (.lst _ _) rfl rfl (by show _ * 8 ≤ _; omega) (by simp only [maxLen]; omega)) ?_
                  intro W_ r_ hS_
                  rcases hS_ with ⟨rfl, rfl⟩ | ⟨rfl, rfl⟩
                  · -- way 0
                    refine AOps.s 6 rfl rfl rfl (q_move (.inr rfl) rfl) ?_
                    refine AOps.nil ?_
                    exact ⟨(i.g, i.es ++ [y], i.off), Sub.mk' (by repeat (first | exact ESub.new _ | refine ESub.put ?_ (by first | rfl | exact refQ1 y hI.off | exact refQ2 y))) (by repeat (first | exact HSub.none _ | exact HSub.from_new _ | exact HSub.from_from (by first | decide | omega | (dsimp only; omega)) | refine HSub.put ?_ (by first | rfl | exact hput_same _ _ _ | exact hput_skip rfl (hput_same _ _ _) | exact (hput_same _ _ _).trans (congrArg (fun es => some (AObj.row true 1 es)) rowQ1) | exact (hput_same _ _ _).trans (congrArg (fun es => some (AObj.row true 1 es)) rowQ2) | exact congrArg (fun es => some (AObj.row true 1 es)) (by rw [hsN]; try exact been_set _ _ _)) | refine HSub.from_put ?_ (by first | decide | omega | (dsimp only; omega)) | refine HSub.from_rm ?_ (by decide))), ⟨by show i.off ≤ (i.es ++ [y]).length; have := hI.off; simp; omega, by show (i.es ++ [y]).drop i.off = _; rw [hsN, List.drop_append_of_le_length hI.off, hI.q]⟩⟩
                  · -- way 1
                    refine AOps.s 6 rfl rfl rfl (q_move (.inr rfl) rfl) ?_
                    refine AOps.nil ?_
                    exact ⟨(i.g + 1, i.es.drop i.off ++ [y], 0), Sub.mk' (by repeat (first | exact ESub.new _ | refine ESub.put ?_ (by first | rfl | exact refQ1 y hI.off | exact refQ2 y))) (by repeat (first | exact HSub.none _ | exact HSub.from_new _ | exact HSub.from_from (by first | decide | omega | (dsimp only; omega)) | refine HSub.put ?_ (by first | rfl | exact hput_same _ _ _ | exact hput_skip rfl (hput_same _ _ _) | exact (hput_same _ _ _).trans (congrArg (fun es => some (AObj.row true 1 es)) rowQ1) | exact (hput_same _ _ _).trans (congrArg (fun es => some (AObj.row true 1 es)) rowQ2) | exact congrArg (fun es => some (AObj.row true 1 es)) (by rw [hsN]; try exact been_set _ _ _)) | refine HSub.from_put ?_ (by first | decide | omega | (dsimp only; omega)) | refine HSub.from_rm ?_ (by decide))), ⟨Nat.zero_le _, by show i.es.drop i.off ++ [y] = _; rw [hsN, hI.q]⟩⟩
                · -- False
                  refine AGo.cond_false false rfl rfl ?_
                  have hnb : notBeen ((row.take i.j).foldl binto (BS.mk q.s.been q.s.q.tail)).been y = false := by first | exact nb1 hb7 | exact nb2 hb7 (by rw [List.length_map, bintos_len, hbl]) | exact nb3 hb7
                  have hsN : ((row.take (i.j + 1)).foldl binto (BS.mk q.s.been q.s.q.tail)) = ((row.take i.j).foldl binto (BS.mk q.s.been q.s.q.tail)) := by rw [bintosSucc hy, binto_eq hnb]; rfl
                  refine AGo.skip ?_
                  exact ⟨(i.g, i.es, i.off), Sub.mk' (by repeat (first | exact ESub.new _ | refine ESub.put ?_ (by first | rfl | exact refQ1 y hI.off | exact refQ2 y))) (by repeat (first | exact HSub.none _ | exact HSub.from_new _ | exact HSub.from_from (by first | decide | omega | (dsimp only; omega)) | refine HSub.put ?_ (by first | rfl | exact hput_same _ _ _ | exact hput_skip rfl (hput_same _ _ _) | exact (hput_same _ _ _).trans (congrArg (fun es => some (AObj.row true 1 es)) rowQ1) | exact (hput_same _ _ _).trans (congrArg (fun es => some (AObj.row true 1 es)) rowQ2) | exact congrArg (fun es => some (AObj.row true 1 es)) (by rw [hsN]; try exact been_set _ _ _)) | refine HSub.from_put ?_ (by first | decide | omega | (dsimp only; omega)) | refine HSub.from_rm ?_ (by decide))), ⟨hI.off, by show i.es.drop i.off = _; rw [hsN]; exact hI.q⟩⟩
              intro p hP2
              refine AGo.region ?_
              refine AOps.s 40 rfl rfl rfl (q_move (.inl rfl) rfl) ?_
              refine AOps.s 41 rfl rfl rfl (q_inc rfl rfl hjl (by simp only [maxLen]; omega)) ?_
              refine AOps.s 8 rfl rfl rfl (q_move (.inr rfl) rfl) ?_
              refine AOps.nil ?_
              exact ⟨⟨i.j + 1, p.2.1, p.2.2, p.1⟩, Sub.mk' (by repeat (first | exact ESub.new _ | refine ESub.put ?_ (by rfl))) (by repeat (first | exact HSub.none _ | exact HSub.from_new _ | exact HSub.from_from (by first | decide | omega | (dsimp only; omega)) | refine HSub.put ?_ (by first | rfl | exact hput_same _ _ _) | refine HSub.from_put ?_ (by first | decide | omega | (dsimp only; omega)) | refine HSub.from_rm ?_ (by decide))), ⟨hP2.1, hP2.2⟩, by show row.length - (i.j + 1) < _; omega⟩
            · -- False
              refine AOps.k 58 rfl rfl rfl ?_
              refine AOps.k 59 rfl rfl rfl ?_
              refine AOps.k 60 rfl rfl rfl ?_
              refine AOps.k 61 rfl rfl rfl ?_
              refine AOps.k 62 rfl rfl rfl ?_
              refine AOps.s 63 rfl rfl rfl (q_pick_false false rfl rfl rfl rfl) ?_
              refine AOps.nil ?_
              refine AGo.join (γ := Nat × List Int × Nat) (fun p => ⟨72, (eput (eput (eput (eput (eput (eput (eput eNew 0 (pathsAV next)) 1 (.int .i64 (-1))) 5 (.ref 0 next.length 0 next.length)) 6 (.ref (p.1 + 1) p.2.1.length p.2.2 (p.2.1.length - p.2.2))) 7 (.int .i64 at')) 8 (.int .i64 (i.j : Int))) 9 (.int .i64 y)), (hput (hput (hFrom (p.1 + 2)) 0 (.row true 1 (((row.take (i.j + 1)).foldl binto (BS.mk q.s.been q.s.q.tail)).been.map boolCells))) (p.1 + 1) (.row true 1 (intCells p.2.1)))⟩) (fun p => p.2.2 ≤ p.2.1.length ∧ p.2.1.drop p.2.2 = ((row.take (i.j + 1)).foldl binto (BS.mk q.s.been q.s.q.tail)).q) ?_ ?_
              · -- to the join
                refine AGo.cond_false false rfl rfl ?_
                have hnb : notBeen ((row.take i.j).foldl binto (BS.mk q.s.been q.s.q.tail)).been y = false := by first | exact nb1 hb6 | exact nb2 hb6 (by rw [List.length_map, bintos_len, hbl]) | exact nb3 hb6
                have hsN : ((row.take (i.j + 1)).foldl binto (BS.mk q.s.been q.s.q.tail)) = ((row.take i.j).foldl binto (BS.mk q.s.been q.s.q.tail)) := by rw [bintosSucc hy, binto_eq hnb]; rfl
                refine AGo.skip ?_
                exact ⟨(i.g, i.es, i.off), Sub.mk' (by repeat (first | exact ESub.new _ | refine ESub.put ?_ (by first | rfl | exact refQ1 y hI.off | exact refQ2 y))) (by repeat (first | exact HSub.none _ | exact HSub.from_new _ | exact HSub.from_from (by first | decide | omega | (dsimp only; omega)) | refine HSub.put ?_ (by first | rfl | exact hput_same _ _ _ | exact hput_skip rfl (hput_same _ _ _) | exact (hput_same _ _ _).trans (congrArg (fun es => some (AObj.row true 1 es)) rowQ1) | exact (hput_same _ _ _).trans (congrArg (fun es => some (AObj.row true 1 es)) rowQ2) | exact congrArg (fun es => some (AObj.row true 1 es)) (by rw [hsN]; try exact been_set _ _ _)) | refine HSub.from_put ?_ (by first | decide | omega | (dsimp only; omega)) | refine HSub.from_rm ?_ (by decide))), ⟨hI.off, by show i.es.drop i.off = _; rw [hsN]; exact hI.q⟩⟩
              intro p hP2
              refine AGo.region ?_
              refine AOps.s 40 rfl rfl rfl (q_move (.inl rfl) rfl) ?_
              refine AOps.s 41 rfl rfl rfl (q_inc rfl rfl hjl (by simp only [maxLen]; omega)) ?_
              refine AOps.s 8 rfl rfl rfl (q_move (.inr rfl) rfl) ?_
              refine AOps.nil ?_
              exact ⟨⟨i.j + 1, p.2.1, p.2.2, p.1⟩, Sub.mk' (by repeat (first | exact ESub.new _ | refine ESub.put ?_ (by rfl))) (by repeat (first | exact HSub.none _ | exact HSub.from_new _ | exact HSub.from_from (by first | decide | omega | (dsimp only; omega)) | refine HSub.put ?_ (by first | rfl | exact hput_same _ _ _) | refine HSub.from_put ?_ (by first | decide | omega | (dsimp only; omega)) | refine HSub.from_rm ?_ (by decide))), ⟨hP2.1, hP2.2⟩, by show row.length - (i.j + 1) < _; omega⟩
          · -- False
            refine AOps.k 52 rfl rfl rfl ?_
            refine AOps.k 53 rfl rfl rfl ?_
            refine AOps.k 54 rfl rfl rfl ?_
            refine AOps.k 55 rfl rfl rfl ?_
            refine AOps.s 56 rfl rfl rfl (q_pick_false false rfl rfl rfl rfl) ?_
            refine AOps.s 57 rfl rfl rfl (q_move (.inl rfl) rfl) ?_
            refine AOps.k 58 rfl rfl rfl ?_
            refine AOps.k 59 rfl rfl rfl ?_
            refine AOps.k 60 rfl rfl rfl ?_
            refine AOps.k 61 rfl rfl rfl ?_
            refine AOps.k 62 rfl rfl rfl ?_
            refine AOps.s 63 rfl rfl rfl (q_pick_false false rfl rfl rfl rfl) ?_
            refine AOps.nil ?_
            refine AGo.join (γ := Nat × List Int × Nat) (fun p => ⟨72, (eput (eput (eput (eput (eput (eput (eput eNew 0 (pathsAV next)) 1 (.int .i64 (-1))) 5 (.ref 0 next.length 0 next.length)) 6 (.ref (p.1 + 1) p.2.1.length p.2.2 (p.2.1.length - p.2.2))) 7 (.int .i64 at')) 8 (.int .i64 (i.j : Int))) 9 (.int .i64 y)), (hput (hput (hFrom (p.1 + 2)) 0 (.row true 1 (((row.take (i.j + 1)).foldl binto (BS.mk q.s.been q.s.q.tail)).been.map boolCells))) (p.1 + 1) (.row true 1 (intCells p.2.1)))⟩) (fun p => p.2.2 ≤ p.2.1.length ∧ p.2.1.drop p.2.2 = ((row.take (i.j + 1)).foldl binto (BS.mk q.s.been q.s.q.tail)).q) ?_ ?_
            · -- to the join
              refine AGo.cond_false false rfl rfl ?_
              have hnb : notBeen ((row.take i.j).foldl binto (BS.mk q.s.been q.s.q.tail)).been y = false := by first | exact nb1 hb5 | exact nb2 hb5 (by rw [List.length_map, bintos_len, hbl]) | exact nb3 hb5
              have hsN : ((row.take (i.j + 1)).foldl binto (BS.mk q.s.been q.s.q.tail)) = ((row.take i.j).foldl binto (BS.mk q.s.been q.s.q.tail)) := by rw [bintosSucc hy, binto_eq hnb]; rfl
              refine AGo.skip ?_
              exact ⟨(i.g, i.es, i.off), Sub.mk' (by repeat (first | exact ESub.new _ | refine ESub.put ?_ (by first | rfl | exact refQ1 y hI.off | exact refQ2 y))) (by repeat (first | exact HSub.none _ | exact HSub.from_new _ | exact HSub.from_from (by first | decide | omega | (dsimp only; omega)) | refine HSub.put ?_ (by first | rfl | exact hput_same _ _ _ | exact hput_skip rfl (hput_same _ _ _) | exact (hput_same _ _ _).trans (congrArg (fun es => some (AObj.row true 1 es)) rowQ1) | exact (hput_same _ _ _).trans (congrArg (fun es => some (AObj.row true 1 es)) rowQ2) | exact congrArg (fun es => some (AObj.row true 1 es)) (by rw [hsN]; try exact been_set _ _ _)) | refine HSub.from_put ?_ (by first | decide | omega | (dsimp only; omega)) | refine HSub.from_rm ?_ (by decide))), ⟨hI.off, by show i.es.drop i.off = _; rw [hsN]; exact hI.q⟩⟩
            intro p hP2
            refine AGo.region ?_
            refine AOps.s 40 rfl rfl rfl (q_move (.inl rfl) rfl) ?_
            refine AOps.s 41 rfl rfl rfl (q_inc rfl rfl hjl (by simp only [maxLen]; omega)) ?_
            refine AOps.s 8 rfl rfl rfl (q_move (.inr rfl) rfl) ?_
            refine AOps.nil ?_
            exact ⟨⟨i.j + 1, p.2.1, p.2.2, p.1⟩, Sub.mk' (by repeat (first | exact ESub.new _ | refine ESub.put ?_ (by rfl))) (by repeat (first | exact HSub.none _ | exact HSub.from_new _ | exact HSub.from_from (by first | decide | omega | (dsimp only; omega)) | refine HSub.put ?_ (by first | rfl | exact hput_same _ _ _) | refine HSub.from_put ?_ (by first | decide | omega | (dsimp only; omega)) | refine HSub.from_rm ?_ (by decide))), ⟨hP2.1, hP2.2⟩, by show row.length - (i.j + 1) < _; omega⟩
        · -- False
          refine AGo.cond_false false rfl rfl ?_
          have hge : row.length ≤ i.j := by first | (have h := hb4; simp at h; omega) | (exfalso; have h := hb4; simp at h; omega)
          have hnx := QInv.next hF hqq hsq hra hI hge
          refine AGo.exit ?_
          exact ⟨⟨bround next q.s, i.es, i.off, i.g, q.gas - 1⟩, Sub.mk' (by repeat (first | exact ESub.new _ | refine ESub.put ?_ (by rfl))) (by repeat (first | exact HSub.none _ | exact HSub.from_new _ | exact HSub.from_from (by first | decide | omega | (dsimp only; omega)) | refine HSub.put ?_ (by first | rfl | exact hput_same _ _ _ | exact congrArg (fun (z : BS) => some (AObj.row true 1 (z.been.map boolCells))) hnx.2.2) | refine HSub.from_put ?_ (by first | decide | omega | (dsimp only; omega)) | refine HSub.from_rm ?_ (by decide))), hnx.1, hnx.2.1⟩
      · -- False
        refine AOps.k 36 rfl rfl rfl ?_
        refine AOps.k 37 rfl rfl rfl ?_
        refine AOps.k 38 rfl rfl rfl ?_
        refine AOps.s 39 rfl rfl rfl (q_pick_false false rfl rfl rfl rfl) ?_
        refine AOps.nil ?_
        refine AGo.cond_false false rfl rfl ?_
        have hge : row.length ≤ i.j := by first | (have h := hb3; simp at h; omega) | (exfalso; have h := hb3; simp at h; omega)
        have hnx := QInv.next hF hqq hsq hra hI hge
        refine AGo.exit ?_
        exact ⟨⟨bround next q.s, i.es, i.off, i.g, q.gas - 1⟩, Sub.mk' (by repeat (first | exact ESub.new _ | refine ESub.put ?_ (by rfl))) (by repeat (first | exact HSub.none _ | exact HSub.from_new _ | exact HSub.from_from (by first | decide | omega | (dsimp only; omega)) | refine HSub.put ?_ (by first | rfl | exact hput_same _ _ _ | exact congrArg (fun (z : BS) => some (AObj.row true 1 (z.been.map boolCells))) hnx.2.2) | refine HSub.from_put ?_ (by first | decide | omega | (dsimp only; omega)) | refine HSub.from_rm ?_ (by decide))), hnx.1, hnx.2.1⟩
    · -- False
      refine AGo.cond_false false rfl rfl ?_
      have hlt : q.es.length - q.off = 0 := by have h := hb2; simp at h; omega
      refine AGo.exit ?_
      refine AGo.seq ?_
      refine AGo.ghost (.freezeA 5 0 rfl rfl (by have := hF.inv.len; simp [this])) ?_
      refine AGo.region ?_
      refine AOps.s 71 rfl rfl rfl (q_move (.inl rfl) rfl) ?_
      refine AOps.s 4 rfl rfl rfl (q_move (.inr rfl) rfl) ?_
      refine AOps.nil ?_
      refine AGo.ret ?_
      refine ⟨[_], ⟨rfl, trivial⟩, ?_, rfl⟩
      rw [hie]
      show AV.lst false _ = AV.lst false _
      rw [QInv.done hF hlt]
      rfl

end Go.Proofs.Ytidfabbnobipkaa.Sv

namespace Go.Proofs.Ytidfabbnobipkaa.Sv
open Go
set_option linter.unusedVariables false
set_option linter.unusedSimpArgs false

set_option maxRecDepth 100000 in
theorem rreach_ok (f : BFunc) (hn : f.blocks.length ≤ 100000) (hle : f.leads) (hne : f.blocks ≠ []) : APure Try.prog 24 [pathsAV f.nexts] (fun r => r = boolsAV f.reach) := by
  have hnn : f.nexts ≠ [] := by simpa [BFunc.nexts] using hne
  have hnl := nexts_length f
  have hie : f.nexts.isEmpty = false := by cases h : f.nexts with | nil => exact absurd h hnn | cons a b => rfl
  refine APure.of_body (n := 5) tok Try.func24 rfl rfl ?_
  refine AGo.seq ?_
  refine AGo.region ?_
  refine AOps.s 2 rfl rfl rfl (q_move (.inr rfl) rfl) ?_
  refine AOps.nil ?_
  refine AGo.seq ?_
  refine AGo.region ?_
  refine AOps.s 3 rfl rfl rfl (q_move (.inl rfl) rfl) ?_
  refine AOps.x 4 rfl rfl rfl (o_pure rfl Try.func40 (by kernel_rfl) rfl rfl rfl ((without_ok f.nexts (by omega) (fun l hl => by have := nexts_two f l hl; omega)).mono (fun r h => by rw [h, hie, cond_false, breach_eq hnn (leadN hle)]))) ?_
  refine AOps.s 2 rfl rfl rfl (q_move (.inr rfl) rfl) ?_
  refine AOps.nil ?_
  refine AGo.ret ?_
  refine ⟨[_], ⟨rfl, trivial⟩, ?_, rfl⟩
  rfl

end Go.Proofs.Ytidfabbnobipkaa.Sv

namespace Go.Proofs.Ytidfabbnobipkaa.Sv
open Go
set_option linter.unusedVariables false
set_option linter.unusedSimpArgs false

set_option maxRecDepth 100000 in
theorem rin_ok (f : BFunc) (reach : List Bool) (a : Int) (hn : f.blocks.length ≤ 100000) (hr : reach.length = f.blocks.length) : APure Try.prog 43 [.agg f.cells, boolsAV reach, .int .i64 a] (fun r => r = .tup [.int .i64 ((cntTo f.nexts reach a f.nexts.length : Nat) : Int), .int .i64 (fromTo f.nexts reach a f.nexts.length)]) := by
  have hnl := nexts_length f
  refine APure.of_body (n := 50) tok Try.func43 rfl rfl ?_
  refine AGo.seq ?_
  refine AGo.region ?_
  refine AOps.x 3 rfl rfl rfl (o_box (sz := 2) 0 rfl rfl rfl rfl (Nat.zero_lt_succ _) rfl) ?_
  refine AOps.s 6 rfl rfl rfl (q_move (.inr rfl) rfl) ?_
  refine AOps.s 7 rfl rfl rfl (q_move (.inr rfl) rfl) ?_
  refine AOps.nil ?_
  refine AGo.seq ?_
  refine AGo.region ?_
  refine AOps.s 13 rfl rfl rfl (q_load tok rfl rfl rfl (by first | exact .loc _ | exact .ptr _ _ _ _ _ _ _ _ rfl rfl rfl) rfl) ?_
  refine AOps.x 14 rfl rfl rfl (o_pure rfl Try.func25 (by kernel_rfl) rfl rfl rfl (rnext_ok f hn)) ?_
  refine AOps.s 8 rfl rfl rfl (q_move (.inr rfl) rfl) ?_
  refine AOps.nil ?_
  refine AGo.seq ?_
  refine AGo.region ?_
  refine AOps.s 9 rfl rfl rfl (q_move (.inr rfl) rfl) ?_
  refine AOps.nil ?_
  refine AGo.seq ?_
  refine AGo.region ?_
  refine AOps.s 10 rfl rfl rfl (q_move (.inr rfl) rfl) ?_
  refine AOps.nil ?_
  refine AGo.seq ?_
  refine AGo.seq ?_
  refine AGo.region ?_
  refine AOps.s 11 rfl rfl rfl (q_move (.inr rfl) rfl) ?_
  refine AOps.nil ?_
  refine AGo.block ?_
  refine AGo.loopD (γ := Nat) 1 (fun i => ⟨50, (eput (eput (eput (eput (eput (eput eNew 1 (boolsAV reach)) 2 (.int .i64 a)) 8 (pathsAV f.nexts)) 9 (.int .i64 ((cntTo f.nexts reach a i : Nat) : Int))) 10 (.int .i64 (fromTo f.nexts reach a i))) 11 (.int .i64 (i : Int))), (hFrom 1)⟩) (fun i => i ≤ f.nexts.length) (fun i => f.nexts.length - i) 0 (Sub.mk' (by repeat (first | exact ESub.new _ | refine ESub.put ?_ (by rfl))) (by repeat (first | exact HSub.none _ | exact HSub.from_new _ | exact HSub.from_from (by first | decide | omega | (dsimp only; omega)) | refine HSub.put ?_ (by rfl) | refine HSub.from_put ?_ (by first | decide | omega | (dsimp only; omega)) | refine HSub.from_rm ?_ (by decide)))) (Nat.zero_le _) (fun _ => fun b hb => hFrom_free hb) ?_
  intro i hi
  refine AGo.seq ?_
  refine AGo.seq ?_
  refine AGo.region ?_
  refine AOps.s 15 rfl rfl rfl (q_move (.inl rfl) rfl) ?_
  refine AOps.s 16 rfl rfl rfl (q_move (.inl rfl) rfl) ?_
  refine AOps.s 17 rfl rfl rfl (q_len tok rfl rfl rfl rfl rfl) ?_
  refine AOps.s 18 rfl rfl rfl (q_bin rfl rfl rfl rfl) ?_
  refine AOps.nil ?_
  refine AGo.split 18 rfl (fun hb1 => ?_) (fun hb1 => ?_)
  · -- True
    refine AGo.cond_true true rfl rfl ?_
    have hil : i < f.nexts.length := lt_of_idx hb1
    obtain ⟨row, hrow⟩ := get_of_lt hil
    have hrl := nexts_two f row (List.mem_of_getElem? hrow)
    obtain ⟨r, hrr⟩ := get_of_lt (l := reach) (k := i) (by omega)
    have hcb := cnt_bound (reach := reach) (k := a) (nexts_two f) i
    refine AGo.skip ?_
    refine AGo.seq ?_
    refine AGo.block ?_
    refine AGo.seq ?_
    refine AGo.region ?_
    refine AOps.s 12 rfl rfl rfl (q_move (.inr rfl) rfl) ?_
    refine AOps.nil ?_
    refine AGo.block ?_
    refine AGo.loopD (γ := Nat) 1 (fun k => ⟨50, (eput (eput (eput (eput (eput (eput (eput eNew 1 (boolsAV reach)) 2 (.int .i64 a)) 8 (pathsAV f.nexts)) 9 (.int .i64 ((cntTo f.nexts reach a i + (row.take k).count a : Nat) : Int))) 10 (.int .i64 (frA i (fromTo f.nexts reach a i) (row.take k) a))) 11 (.int .i64 (i : Int))) 12 (.int .i64 (k : Int))), (hFrom 1)⟩) (fun k => k = 0 ∨ r = true) (fun k => row.length - k) 0 (Sub.mk' (by repeat (first | exact ESub.new _ | refine ESub.put ?_ (by first | rfl | exact congrArg (fun n : Nat => some (AV.int .i64 (n : Int))) (by simp) | exact congrArg (fun z : Int => some (AV.int .i64 z)) (by simp [frA])))) (by repeat (first | exact HSub.none _ | exact HSub.from_new _ | exact HSub.from_from (by first | decide | omega | (dsimp only; omega)) | refine HSub.put ?_ (by rfl) | refine HSub.from_put ?_ (by first | decide | omega | (dsimp only; omega)) | refine HSub.from_rm ?_ (by decide)))) (.inl rfl) (fun _ => fun b hb => hFrom_free hb) ?_
    intro k hF
    refine AGo.seq ?_
    refine AGo.seq ?_
    refine AGo.region ?_
    refine AOps.s 21 rfl rfl rfl (q_move (.inl rfl) rfl) ?_
    refine AOps.s 22 rfl rfl rfl (q_move (.inl rfl) rfl) ?_
    refine AOps.s 23 rfl rfl rfl (q_move (.inl rfl) rfl) ?_
    refine AOps.s 24 rfl rfl rfl (q_index_lst tok rfl rfl rfl rfl rfl rfl (Int.natCast_nonneg _) (idx_map hrow) rfl) ?_
    refine AOps.s 25 rfl rfl rfl (q_load tok rfl rfl rfl (by first | exact .loc _ | exact .ptr _ _ _ _ _ _ _ _ rfl rfl rfl) rfl) ?_
    refine AOps.s 26 rfl rfl rfl (q_len tok rfl rfl rfl rfl rfl) ?_
    refine AOps.s 27 rfl rfl rfl (q_bin rfl rfl rfl rfl) ?_
    refine AOps.s 28 rfl rfl rfl (q_move (.inl rfl) rfl) ?_
    refine AOps.split 28 rfl (fun hb2 => ?_) (fun hb2 => ?_)
    · -- True
      have hkl : k < row.length := lt_of_idx hb2
      obtain ⟨y, hy⟩ := get_of_lt hkl
      refine AOps.s 29 rfl rfl rfl (q_move (.inl rfl) rfl) ?_
      refine AOps.s 30 rfl rfl rfl (q_move (.inl rfl) rfl) ?_
      refine AOps.s 31 rfl rfl rfl (q_index_lst tok rfl rfl rfl rfl rfl rfl (Int.natCast_nonneg _) (idx_map hrr) rfl) ?_
      refine AOps.s 32 rfl rfl rfl (q_load tok rfl rfl rfl (by first | exact .loc _ | exact .ptr _ _ _ _ _ _ _ _ rfl rfl rfl) rfl) ?_
      refine AOps.s 33 rfl rfl rfl (q_pick_true true rfl rfl rfl rfl) ?_
      refine AOps.nil ?_
      refine AGo.split 33 rfl (fun hb3 => ?_) (fun hb3 => ?_)
      · -- True
        refine AGo.cond_true true rfl rfl ?_
        have hrt : r = true := by simpa using hb3
        have hct := List.count_le_length (a := a) (l := row.take k)
        rw [List.length_take] at hct
        refine AGo.skip ?_
        refine AGo.seq ?_
        refine AGo.block ?_
        refine AGo.seq ?_
        refine AGo.region ?_
        refine AOps.s 36 rfl rfl rfl (q_move (.inl rfl) rfl) ?_
        refine AOps.s 37 rfl rfl rfl (q_move (.inl rfl) rfl) ?_
        refine AOps.s 38 rfl rfl rfl (q_index_lst tok rfl rfl rfl rfl rfl rfl (Int.natCast_nonneg _) (idx_map hrow) rfl) ?_
        refine AOps.s 39 rfl rfl rfl (q_load tok rfl rfl rfl (by first | exact .loc _ | exact .ptr _ _ _ _ _ _ _ _ rfl rfl rfl) rfl) ?_
        refine AOps.s 40 rfl rfl rfl (q_move (.inl rfl) rfl) ?_
        refine AOps.s 41 rfl rfl rfl (q_index_lst tok rfl rfl rfl rfl rfl rfl (Int.natCast_nonneg _) (idx_map hy) rfl) ?_
        refine AOps.s 42 rfl rfl rfl (q_load tok rfl rfl rfl (by first | exact .loc _ | exact .ptr _ _ _ _ _ _ _ _ rfl rfl rfl) rfl) ?_
        refine AOps.s 43 rfl rfl rfl (q_move (.inl rfl) rfl) ?_
        refine AOps.s 44 rfl rfl rfl (q_bin rfl rfl rfl rfl) ?_
        refine AOps.nil ?_
        refine AGo.split 44 rfl (fun hb4 => ?_) (fun hb4 => ?_)
        · -- True
          refine AGo.cond_true true rfl rfl ?_
          have hya : (y == a) = true := hb4
          refine AGo.seq ?_
          refine AGo.region ?_
          refine AOps.s 45 rfl rfl rfl (q_move (.inl rfl) rfl) ?_
          refine AOps.s 46 rfl rfl rfl (q_inc rfl rfl (m := 1000000) (by omega) (by decide)) ?_
          refine AOps.s 9 rfl rfl rfl (q_move (.inr rfl) rfl) ?_
          refine AOps.nil ?_
          refine AGo.region ?_
          refine AOps.s 47 rfl rfl rfl (q_move (.inl rfl) rfl) ?_
          refine AOps.s 10 rfl rfl rfl (q_move (.inr rfl) rfl) ?_
          refine AOps.nil ?_
          refine AGo.region ?_
          refine AOps.s 34 rfl rfl rfl (q_move (.inl rfl) rfl) ?_
          refine AOps.s 35 rfl rfl rfl (q_inc rfl rfl hkl (by simp only [maxLen]; omega)) ?_
          refine AOps.s 12 rfl rfl rfl (q_move (.inr rfl) rfl) ?_
          refine AOps.nil ?_
          exact ⟨k+1, Drop.mk' (by repeat (first | exact EDrop.new _ _ | refine EDrop.put ?_ (by first | rfl | exact congrArg (fun n : Nat => some (AV.int .i64 (n : Int))) (count_hit hy hya _).symm | exact congrArg (fun n : Nat => some (AV.int .i64 (n : Int))) (count_miss hy hya _).symm | exact congrArg (fun z : Int => some (AV.int .i64 z)) (frA_hit hy hya) | exact congrArg (fun z : Int => some (AV.int .i64 z)) (frA_miss hy hya)) rfl)) (by repeat (first | exact HDrop.none _ _ | exact HDrop.tail _ _ | refine HDrop.put ?_ (by rfl) rfl rfl)), (.inr hrt), by omega⟩
        · -- False
          refine AGo.cond_false false rfl rfl ?_
          have hya : (y == a) = false := hb4
          refine AGo.skip ?_
          refine AGo.region ?_
          refine AOps.s 34 rfl rfl rfl (q_move (.inl rfl) rfl) ?_
          refine AOps.s 35 rfl rfl rfl (q_inc rfl rfl hkl (by simp only [maxLen]; omega)) ?_
          refine AOps.s 12 rfl rfl rfl (q_move (.inr rfl) rfl) ?_
          refine AOps.nil ?_
          exact ⟨k+1, Drop.mk' (by repeat (first | exact EDrop.new _ _ | refine EDrop.put ?_ (by first | rfl | exact congrArg (fun n : Nat => some (AV.int .i64 (n : Int))) (count_hit hy hya _).symm | exact congrArg (fun n : Nat => some (AV.int .i64 (n : Int))) (count_miss hy hya _).symm | exact congrArg (fun z : Int => some (AV.int .i64 z)) (frA_hit hy hya) | exact congrArg (fun z : Int => some (AV.int .i64 z)) (frA_miss hy hya)) rfl)) (by repeat (first | exact HDrop.none _ _ | exact HDrop.tail _ _ | refine HDrop.put ?_ (by rfl) rfl rfl)), (.inr hrt), by omega⟩
      · -- False
        refine AGo.cond_false false rfl rfl ?_
        have hex : row.length ≤ k ∨ r = false := by first | (left; exact ge_of_idx hb3) | (right; simpa using hb3)
        refine AGo.exit ?_
        refine AGo.region ?_
        refine AOps.s 19 rfl rfl rfl (q_move (.inl rfl) rfl) ?_
        refine AOps.s 20 rfl rfl rfl (q_inc rfl rfl hil (by simp only [maxLen]; omega)) ?_
        refine AOps.s 11 rfl rfl rfl (q_move (.inr rfl) rfl) ?_
        refine AOps.nil ?_
        exact ⟨i+1, Drop.mk' (by repeat (first | exact EDrop.new _ _ | refine EDrop.put ?_ (by first | rfl | exact congrArg (fun n : Nat => some (AV.int .i64 (n : Int))) (cnt_row hrr hrow hF hex) | exact congrArg (fun z : Int => some (AV.int .i64 z)) (from_row hrr hrow hF hex)) rfl)) (by repeat (first | exact HDrop.none _ _ | exact HDrop.tail _ _ | refine HDrop.put ?_ (by rfl) rfl rfl)), hil, by omega⟩
    · -- False
      refine AOps.k 29 rfl rfl rfl ?_
      refine AOps.k 30 rfl rfl rfl ?_
      refine AOps.k 31 rfl rfl rfl ?_
      refine AOps.k 32 rfl rfl rfl ?_
      refine AOps.s 33 rfl rfl rfl (q_pick_false false rfl rfl rfl rfl) ?_
      refine AOps.nil ?_
      refine AGo.cond_false false rfl rfl ?_
      have hex : row.length ≤ k ∨ r = false := by first | (left; exact ge_of_idx hb2) | (right; simpa using hb2)
      refine AGo.exit ?_
      refine AGo.region ?_
      refine AOps.s 19 rfl rfl rfl (q_move (.inl rfl) rfl) ?_
      refine AOps.s 20 rfl rfl rfl (q_inc rfl rfl hil (by simp only [maxLen]; omega)) ?_
      refine AOps.s 11 rfl rfl rfl (q_move (.inr rfl) rfl) ?_
      refine AOps.nil ?_
      exact ⟨i+1, Drop.mk' (by repeat (first | exact EDrop.new _ _ | refine EDrop.put ?_ (by first | rfl | exact congrArg (fun n : Nat => some (AV.int .i64 (n : Int))) (cnt_row hrr hrow hF hex) | exact congrArg (fun z : Int => some (AV.int .i64 z)) (from_row hrr hrow hF hex)) rfl)) (by repeat (first | exact HDrop.none _ _ | exact HDrop.tail _ _ | refine HDrop.put ?_ (by rfl) rfl rfl)), hil, by omega⟩
  · -- False
    refine AGo.cond_false false rfl rfl ?_
    have hge := ge_of_idx hb1
    obtain rfl : i = f.nexts.length := by omega
    refine AGo.exit ?_
    refine AGo.seq ?_
    refine AGo.region ?_
    refine AOps.s 48 rfl rfl rfl (q_move (.inl rfl) rfl) ?_
    refine AOps.s 49 rfl rfl rfl (q_move (.inl rfl) rfl) ?_
    refine AOps.s 6 rfl rfl rfl (q_move (.inr rfl) rfl) ?_
    refine AOps.s 7 rfl rfl rfl (q_move (.inr rfl) rfl) ?_
    refine AOps.nil ?_
    refine AGo.ret ?_
    refine ⟨[_, _], ⟨rfl, rfl, trivial⟩, ?_, rfl⟩
    rfl

end Go.Proofs.Ytidfabbnobipkaa.Sv

namespace Go.Proofs.Ytidfabbnobipkaa.Sv
open Go
set_option linter.unusedVariables false
set_option linter.unusedSimpArgs false

set_option maxRecDepth 100000 in
theorem rpaths_ok (f : BFunc) (hn : f.blocks.length ≤ 1000) (hle : f.leads) (hne : f.blocks ≠ []) : APure Try.prog 32 [.agg f.cells] (fun r => r = pathsAV f.tpaths) := by
  have htl : f.tk.length = f.blocks.length := takes_length f f.reach
  refine APure.of_body (n := 117) tok Try.func32 rfl rfl ?_
  refine AGo.seq ?_
  refine AGo.region ?_
  refine AOps.x 1 rfl rfl rfl (o_box (sz := 2) 0 rfl rfl rfl rfl (Nat.zero_lt_succ _) rfl) ?_
  refine AOps.s 2 rfl rfl rfl (q_move (.inr rfl) rfl) ?_
  refine AOps.nil ?_
  refine AGo.seq ?_
  refine AGo.region ?_
  refine AOps.s 14 rfl rfl rfl (q_load tok rfl rfl rfl (by first | exact .loc _ | exact .ptr _ _ _ _ _ _ _ _ rfl rfl rfl) rfl) ?_
  refine AOps.x 15 rfl rfl rfl (o_pure rfl Try.func25 (by kernel_rfl) rfl rfl rfl (rnext_ok f (by omega))) ?_
  refine AOps.x 16 rfl rfl rfl (o_pure rfl Try.func24 (by kernel_rfl) rfl rfl rfl (rreach_ok f (by omega) hle hne)) ?_
  refine AOps.s 3 rfl rfl rfl (q_move (.inr rfl) rfl) ?_
  refine AOps.nil ?_
  refine AGo.seq ?_
  refine AGo.region ?_
  refine AOps.s 17 rfl rfl rfl (q_fieldAddr tok rfl rfl rfl rfl rfl rfl) ?_
  refine AOps.s 18 rfl rfl rfl (q_load tok rfl rfl rfl (by first | exact .loc _ | exact .ptr _ _ _ _ _ _ _ _ rfl rfl rfl) rfl) ?_
  refine AOps.s 19 rfl rfl rfl (q_len tok rfl rfl rfl rfl rfl) ?_
  refine AOps.x 20 rfl rfl rfl (o_makeSlice tok (n := f.blocks.length) (m := f.blocks.length) 1 true rfl rfl rfl (by simp) (by simp) rfl rfl rfl rfl rfl (Nat.zero_lt_succ _) rfl (Nat.le_refl _) (by show 8 * f.blocks.length ≤ _; omega) (by simp only [maxLen]; omega)) ?_
  refine AOps.s 4 rfl rfl rfl (q_move (.inr rfl) rfl) ?_
  refine AOps.nil ?_
  refine AGo.seq ?_
  refine AGo.seq ?_
  refine AGo.region ?_
  refine AOps.s 5 rfl rfl rfl (q_move (.inr rfl) rfl) ?_
  refine AOps.nil ?_
  refine AGo.block ?_
  refine AGo.loopD (γ := Nat) 2 (fun k => ⟨117, (eput (eput (eput (eput eNew 1 (.ptr 0 1 0 0)) 3 (boolsAV f.reach)) 4 (.ref 1 f.blocks.length 0 f.blocks.length)) 5 (.int .i64 (k : Int))), (hput (hput (hFrom 2) 0 (.row false 2 [f.cells])) 1 (.row true 1 ((f.bys.take k).map icell1 ++ List.replicate (f.blocks.length - k) [.int .i64 0])))⟩) (fun k => k ≤ f.blocks.length) (fun k => f.blocks.length - k) 0 (Sub.mk' (by repeat (first | exact ESub.new _ | refine ESub.put ?_ (by rfl))) (by repeat (first | exact HSub.none _ | exact HSub.from_new _ | exact HSub.from_from (by first | decide | omega | (dsimp only; omega)) | refine HSub.put ?_ (by rfl) | refine HSub.from_put ?_ (by first | decide | omega | (dsimp only; omega)) | refine HSub.from_rm ?_ (by decide)))) (Nat.zero_le _) (fun _ => hput_free (hput_free (fun b hb => hFrom_free hb) rfl) rfl) ?_
  intro k hk
  refine AGo.seq ?_
  refine AGo.seq ?_
  refine AGo.region ?_
  refine AOps.s 21 rfl rfl rfl (q_move (.inl rfl) rfl) ?_
  refine AOps.s 22 rfl rfl rfl (q_fieldAddr tok rfl rfl rfl rfl rfl rfl) ?_
  refine AOps.s 23 rfl rfl rfl (q_load tok rfl rfl rfl (by first | exact .loc _ | exact .ptr _ _ _ _ _ _ _ _ rfl rfl rfl) rfl) ?_
  refine AOps.s 24 rfl rfl rfl (q_len tok rfl rfl rfl rfl rfl) ?_
  refine AOps.s 25 rfl rfl rfl (q_bin rfl rfl rfl rfl) ?_
  refine AOps.nil ?_
  refine AGo.split 25 rfl (fun hb1 => ?_) (fun hb1 => ?_)
  · -- True
    refine AGo.cond_true true rfl rfl ?_
    have hkl : k < f.blocks.length := lt_of_idx hb1
    obtain ⟨r, hrr⟩ := get_of_lt (l := f.reach) (k := k) (by rw [reach_length]; exact hkl)
    have hbg := bys_get hkl
    refine AGo.skip ?_
    refine AGo.seq ?_
    refine AGo.block ?_
    refine AGo.seq ?_
    refine AGo.region ?_
    refine AOps.s 29 rfl rfl rfl (q_load tok rfl rfl rfl (by first | exact .loc _ | exact .ptr _ _ _ _ _ _ _ _ rfl rfl rfl) rfl) ?_
    refine AOps.s 30 rfl rfl rfl (q_move (.inl rfl) rfl) ?_
    refine AOps.s 31 rfl rfl rfl (q_move (.inl rfl) rfl) ?_
    refine AOps.x 32 rfl rfl rfl (o_pure rfl Try.func43 (by kernel_rfl) rfl rfl rfl (rin_ok f f.reach (k : Int) (by omega) (reach_length f))) ?_
    refine AOps.s 28 rfl rfl rfl (q_move (.inl rfl) rfl) ?_
    refine AOps.s 33 rfl rfl rfl (q_extract rfl rfl rfl) ?_
    refine AOps.s 34 rfl rfl rfl (q_extract rfl rfl rfl) ?_
    refine AOps.s 6 rfl rfl rfl (q_move (.inr rfl) rfl) ?_
    refine AOps.s 7 rfl rfl rfl (q_move (.inr rfl) rfl) ?_
    refine AOps.nil ?_
    refine AGo.seq ?_
    refine AGo.region ?_
    refine AOps.s 35 rfl rfl rfl (q_move (.inl rfl) rfl) ?_
    refine AOps.s 36 rfl rfl rfl (q_move (.inl rfl) rfl) ?_
    refine AOps.s 37 rfl rfl rfl (q_index_ref tok rfl rfl rfl rfl rfl rfl rfl (fill_len (bys_length (f := f)) (Nat.le_of_lt hkl)) rfl (Int.natCast_nonneg _) (by omega)) ?_
    refine AOps.w rfl rfl (o_store tok rfl rfl rfl rfl rfl rfl (fill_len (bys_length (f := f)) (Nat.le_of_lt hkl)) (fill_get (bys_length (f := f)) hkl) rfl (by decide) rfl (by first | exact fun _ => rfl | (intro h; cases h))) ?_
    refine AOps.nil ?_
    refine AGo.seq ?_
    refine AGo.region ?_
    refine AOps.s 38 rfl rfl rfl (q_move (.inl rfl) rfl) ?_
    refine AOps.s 39 rfl rfl rfl (q_bin rfl rfl rfl rfl) ?_
    refine AOps.s 40 rfl rfl rfl (q_move (.inl rfl) rfl) ?_
    refine AOps.split 40 rfl (fun hb2 => ?_) (fun hb2 => ?_)
    · -- True
      have h1 := hb2
      refine AOps.s 41 rfl rfl rfl (q_move (.inl rfl) rfl) ?_
      refine AOps.s 42 rfl rfl rfl (q_move (.inl rfl) rfl) ?_
      refine AOps.s 43 rfl rfl rfl (q_index_lst tok rfl rfl rfl rfl rfl rfl (Int.natCast_nonneg _) (idx_map hrr) rfl) ?_
      refine AOps.s 44 rfl rfl rfl (q_load tok rfl rfl rfl (by first | exact .loc _ | exact .ptr _ _ _ _ _ _ _ _ rfl rfl rfl) rfl) ?_
      refine AOps.s 45 rfl rfl rfl (q_pick_true true rfl rfl rfl rfl) ?_
      refine AOps.s 46 rfl rfl rfl (q_move (.inl rfl) rfl) ?_
      refine AOps.split 46 rfl (fun hb3 => ?_) (fun hb3 => ?_)
      · -- True
        have h2 := hb3
        refine AOps.s 47 rfl rfl rfl (q_move (.inl rfl) rfl) ?_
        refine AOps.s 48 rfl rfl rfl (q_bin rfl rfl rfl rfl) ?_
        refine AOps.s 49 rfl rfl rfl (q_pick_true true rfl rfl rfl rfl) ?_
        refine AOps.s 50 rfl rfl rfl (q_move (.inl rfl) rfl) ?_
        refine AOps.split 50 rfl (fun hb4 => ?_) (fun hb4 => ?_)
        · -- True
          have h3 := hb4
          refine AOps.s 51 rfl rfl rfl (q_move (.inl rfl) rfl) ?_
          refine AOps.s 52 rfl rfl rfl (q_move (.inl rfl) rfl) ?_
          refine AOps.s 53 rfl rfl rfl (q_bin rfl rfl rfl rfl) ?_
          refine AOps.s 54 rfl rfl rfl (q_pick_true true rfl rfl rfl rfl) ?_
          refine AOps.s 55 rfl rfl rfl (q_move (.inl rfl) rfl) ?_
          refine AOps.split 55 rfl (fun hb5 => ?_) (fun hb5 => ?_)
          · -- True
            have h4 := hb5
            have hfr := inFrom_range h3
            refine AOps.s 56 rfl rfl rfl (q_fieldAddr tok rfl rfl rfl rfl rfl rfl) ?_
            refine AOps.s 57 rfl rfl rfl (q_load tok rfl rfl rfl (by first | exact .loc _ | exact .ptr _ _ _ _ _ _ _ _ rfl rfl rfl) rfl) ?_
            refine AOps.s 58 rfl rfl rfl (q_move (.inl rfl) rfl) ?_
            refine AOps.s 59 rfl rfl rfl (q_index_lst tok rfl rfl rfl rfl rfl rfl hfr.1 (idx_mapZ (blockAt_get hfr)) rfl) ?_
            refine AOps.s 60 rfl rfl rfl (q_fieldAddr tok rfl rfl rfl rfl rfl rfl) ?_
            refine AOps.s 61 rfl rfl rfl (q_load tok rfl rfl rfl (by first | exact .loc _ | exact .ptr _ _ _ _ _ _ _ _ rfl rfl rfl) rfl) ?_
            refine AOps.s 62 rfl rfl rfl (q_bin rfl rfl rfl rfl) ?_
            refine AOps.s 63 rfl rfl rfl (q_pick_true true rfl rfl rfl rfl) ?_
            refine AOps.nil ?_
            refine AGo.split 63 rfl (fun hb6 => ?_) (fun hb6 => ?_)
            · -- True
              refine AGo.cond_true true rfl rfl ?_
              have hby : f.byOf k = f.inFrom (k : Int) := by_yes h1 hrr h2 h3 h4 hb6
              refine AGo.region ?_
              refine AOps.s 64 rfl rfl rfl (q_move (.inl rfl) rfl) ?_
              refine AOps.s 65 rfl rfl rfl (q_move (.inl rfl) rfl) ?_
              refine AOps.s 66 rfl rfl rfl (q_move (.inl rfl) rfl) ?_
              refine AOps.s 67 rfl rfl rfl (q_index_ref tok rfl rfl rfl rfl rfl rfl rfl (by rw [List.length_set]; exact fill_len (bys_length (f := f)) (Nat.le_of_lt hkl)) rfl (Int.natCast_nonneg _) (by omega)) ?_
              refine AOps.w rfl rfl (o_store tok rfl rfl rfl rfl rfl rfl (by rw [List.length_set]; exact fill_len (bys_length (f := f)) (Nat.le_of_lt hkl)) (get_set_selfZ (fill_get (bys_length (f := f)) hkl)) rfl (by decide) rfl (by first | exact fun _ => rfl | (intro h; cases h))) ?_
              refine AOps.nil ?_
              refine AGo.region ?_
              refine AOps.s 26 rfl rfl rfl (q_move (.inl rfl) rfl) ?_
              refine AOps.s 27 rfl rfl rfl (q_inc rfl rfl hkl (by simp only [maxLen]; omega)) ?_
              refine AOps.s 5 rfl rfl rfl (q_move (.inr rfl) rfl) ?_
              refine AOps.nil ?_
              exact ⟨k+1, Drop.mk' (by repeat (first | exact EDrop.new _ _ | refine EDrop.put ?_ (by rfl) rfl)) (by repeat (first | exact HDrop.none _ _ | exact HDrop.tail _ _ | refine HDrop.put ?_ (by first | rfl | exact congrArg (fun es => some (AObj.row true 1 es)) (fill_put (f := icell1) (x := -1) (bys_length (f := f)) (by rw [hbg, hby])) | exact congrArg (fun es => some (AObj.row true 1 es)) (by rw [List.set_set]; exact fill_put (f := icell1) (x := f.inFrom (k : Int)) (bys_length (f := f)) (by rw [hbg, hby]))) rfl rfl)), hkl, by omega⟩
            · -- False
              refine AGo.cond_false false rfl rfl ?_
              have hby : f.byOf k = -1 := by first | exact by_no1 hb6 | exact by_no2 hrr hb6 | exact by_no3 hb6 | exact by_no4 hb6 | exact by_no5 hb6
              refine AGo.skip ?_
              refine AGo.region ?_
              refine AOps.s 26 rfl rfl rfl (q_move (.inl rfl) rfl) ?_
              refine AOps.s 27 rfl rfl rfl (q_inc rfl rfl hkl (by simp only [maxLen]; omega)) ?_
              refine AOps.s 5 rfl rfl rfl (q_move (.inr rfl) rfl) ?_
              refine AOps.nil ?_
              exact ⟨k+1, Drop.mk' (by repeat (first | exact EDrop.new _ _ | refine EDrop.put ?_ (by rfl) rfl)) (by repeat (first | exact HDrop.none _ _ | exact HDrop.tail _ _ | refine HDrop.put ?_ (by first | rfl | exact congrArg (fun es => some (AObj.row true 1 es)) (fill_put (f := icell1) (x := -1) (bys_length (f := f)) (by rw [hbg, hby])) | exact congrArg (fun es => some (AObj.row true 1 es)) (by rw [List.set_set]; exact fill_put (f := icell1) (x := f.inFrom (k : Int)) (bys_length (f := f)) (by rw [hbg, hby]))) rfl rfl)), hkl, by omega⟩
          · -- False
            refine AOps.k 56 rfl rfl rfl ?_
            refine AOps.k 57 rfl rfl rfl ?_
            refine AOps.k 58 rfl rfl rfl ?_
            refine AOps.k 59 rfl rfl rfl ?_
            refine AOps.k 60 rfl rfl rfl ?_
            refine AOps.k 61 rfl rfl rfl ?_
            refine AOps.k 62 rfl rfl rfl ?_
            refine AOps.s 63 rfl rfl rfl (q_pick_false false rfl rfl rfl rfl) ?_
            refine AOps.nil ?_
            refine AGo.cond_false false rfl rfl ?_
            have hby : f.byOf k = -1 := by first | exact by_no1 hb5 | exact by_no2 hrr hb5 | exact by_no3 hb5 | exact by_no4 hb5 | exact by_no5 hb5
            refine AGo.skip ?_
            refine AGo.region ?_
            refine AOps.s 26 rfl rfl rfl (q_move (.inl rfl) rfl) ?_
            refine AOps.s 27 rfl rfl rfl (q_inc rfl rfl hkl (by simp only [maxLen]; omega)) ?_
            refine AOps.s 5 rfl rfl rfl (q_move (.inr rfl) rfl) ?_
            refine AOps.nil ?_
            exact ⟨k+1, Drop.mk' (by repeat (first | exact EDrop.new _ _ | refine EDrop.put ?_ (by rfl) rfl)) (by repeat (first | exact HDrop.none _ _ | exact HDrop.tail _ _ | refine HDrop.put ?_ (by first | rfl | exact congrArg (fun es => some (AObj.row true 1 es)) (fill_put (f := icell1) (x := -1) (bys_length (f := f)) (by rw [hbg, hby])) | exact congrArg (fun es => some (AObj.row true 1 es)) (by rw [List.set_set]; exact fill_put (f := icell1) (x := f.inFrom (k : Int)) (bys_length (f := f)) (by rw [hbg, hby]))) rfl rfl)), hkl, by omega⟩
        · -- False
          refine AOps.k 51 rfl rfl rfl ?_
          refine AOps.k 52 rfl rfl rfl ?_
          refine AOps.k 53 rfl rfl rfl ?_
          refine AOps.s 54 rfl rfl rfl (q_pick_false false rfl rfl rfl rfl) ?_
          refine AOps.s 55 rfl rfl rfl (q_move (.inl rfl) rfl) ?_
          refine AOps.k 56 rfl rfl rfl ?_
          refine AOps.k 57 rfl rfl rfl ?_
          refine AOps.k 58 rfl rfl rfl ?_
          refine AOps.k 59 rfl rfl rfl ?_
          refine AOps.k 60 rfl rfl rfl ?_
          refine AOps.k 61 rfl rfl rfl ?_
          refine AOps.k 62 rfl rfl rfl ?_
          refine AOps.s 63 rfl rfl rfl (q_pick_false false rfl rfl rfl rfl) ?_
          refine AOps.nil ?_
          refine AGo.cond_false false rfl rfl ?_
          have hby : f.byOf k = -1 := by first | exact by_no1 hb4 | exact by_no2 hrr hb4 | exact by_no3 hb4 | exact by_no4 hb4 | exact by_no5 hb4
          refine AGo.skip ?_
          refine AGo.region ?_
          refine AOps.s 26 rfl rfl rfl (q_move (.inl rfl) rfl) ?_
          refine AOps.s 27 rfl rfl rfl (q_inc rfl rfl hkl (by simp only [maxLen]; omega)) ?_
          refine AOps.s 5 rfl rfl rfl (q_move (.inr rfl) rfl) ?_
          refine AOps.nil ?_
          exact ⟨k+1, Drop.mk' (by repeat (first | exact EDrop.new _ _ | refine EDrop.put ?_ (by rfl) rfl)) (by repeat (first | exact HDrop.none _ _ | exact HDrop.tail _ _ | refine HDrop.put ?_ (by first | rfl | exact congrArg (fun es => some (AObj.row true 1 es)) (fill_put (f := icell1) (x := -1) (bys_length (f := f)) (by rw [hbg, hby])) | exact congrArg (fun es => some (AObj.row true 1 es)) (by rw [List.set_set]; exact fill_put (f := icell1) (x := f.inFrom (k : Int)) (bys_length (f := f)) (by rw [hbg, hby]))) rfl rfl)), hkl, by omega⟩
      · -- False
        refine AOps.k 47 rfl rfl rfl ?_
        refine AOps.k 48 rfl rfl rfl ?_
        refine AOps.s 49 rfl rfl rfl (q_pick_false false rfl rfl rfl rfl) ?_
        refine AOps.s 50 rfl rfl rfl (q_move (.inl rfl) rfl) ?_
        refine AOps.k 51 rfl rfl rfl ?_
        refine AOps.k 52 rfl rfl rfl ?_
        refine AOps.k 53 rfl rfl rfl ?_
        refine AOps.s 54 rfl rfl rfl (q_pick_false false rfl rfl rfl rfl) ?_
        refine AOps.s 55 rfl rfl rfl (q_move (.inl rfl) rfl) ?_
        refine AOps.k 56 rfl rfl rfl ?_
        refine AOps.k 57 rfl rfl rfl ?_
        refine AOps.k 58 rfl rfl rfl ?_
        refine AOps.k 59 rfl rfl rfl ?_
        refine AOps.k 60 rfl rfl rfl ?_
        refine AOps.k 61 rfl rfl rfl ?_
        refine AOps.k 62 rfl rfl rfl ?_
        refine AOps.s 63 rfl rfl rfl (q_pick_false false rfl rfl rfl rfl) ?_
        refine AOps.nil ?_
        refine AGo.cond_false false rfl rfl ?_
        have hby : f.byOf k = -1 := by first | exact by_no1 hb3 | exact by_no2 hrr hb3 | exact by_no3 hb3 | exact by_no4 hb3 | exact by_no5 hb3
        refine AGo.skip ?_
        refine AGo.region ?_
        refine AOps.s 26 rfl rfl rfl (q_move (.inl rfl) rfl) ?_
        refine AOps.s 27 rfl rfl rfl (q_inc rfl rfl hkl (by simp only [maxLen]; omega)) ?_
        refine AOps.s 5 rfl rfl rfl (q_move (.inr rfl) rfl) ?_
        refine AOps.nil ?_
        exact ⟨k+1, Drop.mk' (by repeat (first | exact EDrop.new _ _ | refine EDrop.put ?_ (by rfl) rfl)) (by repeat (first | exact HDrop.none _ _ | exact HDrop.tail _ _ | refine HDrop.put ?_ (by first | rfl | exact congrArg (fun es => some (AObj.row true 1 es)) (fill_put (f := icell1) (x := -1) (bys_length (f := f)) (by rw [hbg, hby])) | exact congrArg (fun es => some (AObj.row true 1 es)) (by rw [List.set_set]; exact fill_put (f := icell1) (x := f.inFrom (k : Int)) (bys_length (f := f)) (by rw [hbg, hby]))) rfl rfl)), hkl, by omega⟩
    · -- False
      refine AOps.k 41 rfl rfl rfl ?_
      refine AOps.k 42 rfl rfl rfl ?_
      refine AOps.k 43 rfl rfl rfl ?_
      refine AOps.k 44 rfl rfl rfl ?_
      refine AOps.s 45 rfl rfl rfl (q_pick_false false rfl rfl rfl rfl) ?_
      refine AOps.s 46 rfl rfl rfl (q_move (.inl rfl) rfl) ?_
      refine AOps.k 47 rfl rfl rfl ?_
      refine AOps.k 48 rfl rfl rfl ?_
      refine AOps.s 49 rfl rfl rfl (q_pick_false false rfl rfl rfl rfl) ?_
      refine AOps.s 50 rfl rfl rfl (q_move (.inl rfl) rfl) ?_
      refine AOps.k 51 rfl rfl rfl ?_
      refine AOps.k 52 rfl rfl rfl ?_
      refine AOps.k 53 rfl rfl rfl ?_
      refine AOps.s 54 rfl rfl rfl (q_pick_false false rfl rfl rfl rfl) ?_
      refine AOps.s 55 rfl rfl rfl (q_move (.inl rfl) rfl) ?_
      refine AOps.k 56 rfl rfl rfl ?_
      refine AOps.k 57 rfl rfl rfl ?_
      refine AOps.k 58 rfl rfl rfl ?_
      refine AOps.k 59 rfl rfl rfl ?_
      refine AOps.k 60 rfl rfl rfl ?_
      refine AOps.k 61 rfl rfl rfl ?_
      refine AOps.k 62 rfl rfl rfl ?_
      refine AOps.s 63 rfl rfl rfl (q_pick_false false rfl rfl rfl rfl) ?_
      refine AOps.nil ?_
      refine AGo.cond_false false rfl rfl ?_
      have hby : f.byOf k = -1 := by first | exact by_no1 hb2 | exact by_no2 hrr hb2 | exact by_no3 hb2 | exact by_no4 hb2 | exact by_no5 hb2
      refine AGo.skip ?_
      refine AGo.region ?_
      refine AOps.s 26 rfl rfl rfl (q_move (.inl rfl) rfl) ?_
      refine AOps.s 27 rfl rfl rfl (q_inc rfl rfl hkl (by simp only [maxLen]; omega)) ?_
      refine AOps.s 5 rfl rfl rfl (q_move (.inr rfl) rfl) ?_
      refine AOps.nil ?_
      exact ⟨k+1, Drop.mk' (by repeat (first | exact EDrop.new _ _ | refine EDrop.put ?_ (by rfl) rfl)) (by repeat (first | exact HDrop.none _ _ | exact HDrop.tail _ _ | refine HDrop.put ?_ (by first | rfl | exact congrArg (fun es => some (AObj.row true 1 es)) (fill_put (f := icell1) (x := -1) (bys_length (f := f)) (by rw [hbg, hby])) | exact congrArg (fun es => some (AObj.row true 1 es)) (by rw [List.set_set]; exact fill_put (f := icell1) (x := f.inFrom (k : Int)) (bys_length (f := f)) (by rw [hbg, hby]))) rfl rfl)), hkl, by omega⟩
  · -- False
    refine AGo.cond_false false rfl rfl ?_
    have hge := ge_of_idx hb1
    obtain rfl : k = f.blocks.length := by omega
    refine AGo.exit ?_
    refine AGo.seq ?_
    refine AGo.ghost (.freezeA 4 1 rfl rfl (fill_len (bys_length (f := f)) (Nat.le_refl _))) ?_
    refine AGo.region ?_
    refine AOps.s 8 rfl rfl rfl (q_move (.inr rfl) rfl) ?_
    refine AOps.nil ?_
    refine AGo.seq ?_
    refine AGo.seq ?_
    refine AGo.ghost (.dry 8 2 1 true rfl rfl rfl (by decide)) ?_
    refine AGo.region ?_
    refine AOps.s 9 rfl rfl rfl (q_move (.inr rfl) rfl) ?_
    refine AOps.nil ?_
    refine AGo.block ?_
    refine AGo.loopD (γ := Nat) 3 (fun k => ⟨117, (eput (eput (eput (eput (eput eNew 1 (.ptr 0 1 0 0)) 3 (boolsAV f.reach)) 4 (intsAV f.bys)) 8 (.ref 2 (f.pathsTo k).length 0 (f.pathsTo k).length)) 9 (.int .i64 (k : Int))), (hput (hput (hFrom 3) 0 (.row false 2 [f.cells])) 2 (.row true 1 ((f.pathsTo k).map pathCell)))⟩) (fun k => k ≤ f.blocks.length) (fun k => f.blocks.length - k) 0 (Sub.mk' (by repeat (first | exact ESub.new _ | refine ESub.put ?_ (by first | rfl | (have e1 := fill_end (f := icell1) (z := [.int .i64 0]) (bys_length (f := f)) (Nat.le_refl _); rw [List.drop_zero, List.take_of_length_le (Nat.le_of_eq (fill_len (bys_length (f := f)) (Nat.le_refl _)).symm)] at e1; exact congrArg (fun es => some (AV.lst false es)) e1)))) (by repeat (first | exact HSub.none _ | exact HSub.from_new _ | exact HSub.from_from (by first | decide | omega | (dsimp only; omega)) | refine HSub.put ?_ (by rfl) | refine HSub.from_put ?_ (by first | decide | omega | (dsimp only; omega)) | refine HSub.from_rm ?_ (by decide)))) (Nat.zero_le _) (fun _ => hput_free (hput_free (fun b hb => hFrom_free hb) rfl) rfl) ?_
    intro k hk
    refine AGo.seq ?_
    refine AGo.seq ?_
    refine AGo.region ?_
    refine AOps.s 68 rfl rfl rfl (q_move (.inl rfl) rfl) ?_
    refine AOps.s 69 rfl rfl rfl (q_fieldAddr tok rfl rfl rfl rfl rfl rfl) ?_
    refine AOps.s 70 rfl rfl rfl (q_load tok rfl rfl rfl (by first | exact .loc _ | exact .ptr _ _ _ _ _ _ _ _ rfl rfl rfl) rfl) ?_
    refine AOps.s 71 rfl rfl rfl (q_len tok rfl rfl rfl rfl rfl) ?_
    refine AOps.s 72 rfl rfl rfl (q_bin rfl rfl rfl rfl) ?_
    refine AOps.nil ?_
    refine AGo.split 72 rfl (fun hb7 => ?_) (fun hb7 => ?_)
    · -- True
      refine AGo.cond_true true rfl rfl ?_
      have hkl : k < f.blocks.length := lt_of_idx hb7
      obtain ⟨r, hrr⟩ := get_of_lt (l := f.reach) (k := k) (by rw [reach_length]; exact hkl)
      have hpl := pathsTo_length f k
      refine AGo.skip ?_
      refine AGo.seq ?_
      refine AGo.block ?_
      refine AGo.seq ?_
      refine AGo.seq ?_
      refine AGo.region ?_
      refine AOps.s 75 rfl rfl rfl (q_move (.inl rfl) rfl) ?_
      refine AOps.s 76 rfl rfl rfl (q_move (.inl rfl) rfl) ?_
      refine AOps.s 77 rfl rfl rfl (q_index_lst tok rfl rfl rfl rfl rfl rfl (Int.natCast_nonneg _) (idx_map hrr) rfl) ?_
      refine AOps.s 78 rfl rfl rfl (q_load tok rfl rfl rfl (by first | exact .loc _ | exact .ptr _ _ _ _ _ _ _ _ rfl rfl rfl) rfl) ?_
      refine AOps.s 79 rfl rfl rfl (q_not rfl rfl) ?_
      refine AOps.s 80 rfl rfl rfl (q_move (.inl rfl) rfl) ?_
      refine AOps.split 80 rfl (fun hb8 => ?_) (fun hb8 => ?_)
      · -- True
        refine AOps.k 81 rfl rfl rfl ?_
        refine AOps.k 82 rfl rfl rfl ?_
        refine AOps.k 83 rfl rfl rfl ?_
        refine AOps.k 84 rfl rfl rfl ?_
        refine AOps.k 85 rfl rfl rfl ?_
        refine AOps.s 86 rfl rfl rfl (q_pick_true true rfl rfl rfl rfl) ?_
        refine AOps.nil ?_
        refine AGo.cond_true true rfl rfl ?_
        have hho : f.headOf k = false := by first | exact hd_no1 hle hne hkl hrr hb8 | exact hd_no2 hle hne hkl hb8
        refine AGo.exit ?_
        refine AGo.region ?_
        refine AOps.s 73 rfl rfl rfl (q_move (.inl rfl) rfl) ?_
        refine AOps.s 74 rfl rfl rfl (q_inc rfl rfl hkl (by simp only [maxLen]; omega)) ?_
        refine AOps.s 9 rfl rfl rfl (q_move (.inr rfl) rfl) ?_
        refine AOps.nil ?_
        exact ⟨k+1, Drop.mk' (by repeat (first | exact EDrop.new _ _ | refine EDrop.put ?_ (by first | rfl | exact congrArg (fun (l : List (List Int)) => some (AV.ref 2 l.length 0 l.length)) (pathsTo_no hho).symm | exact congrArg (fun n : Nat => some (AV.ref 2 n 0 n)) (by rw [pathsTo_yes hho]; simp)) rfl)) (by repeat (first | exact HDrop.none _ _ | exact HDrop.tail _ _ | refine HDrop.put ?_ (by first | rfl | exact congrArg (fun (l : List (List Int)) => some (AObj.row true 1 (l.map pathCell))) (pathsTo_no hho).symm | exact congrArg (fun es => some (AObj.row true 1 es)) (by rw [pathsTo_yes hho, ← hacc, List.map_append]; rfl)) rfl rfl)), hkl, by omega⟩
      · -- False
        have h0 := hb8
        refine AOps.s 81 rfl rfl rfl (q_move (.inl rfl) rfl) ?_
        refine AOps.s 82 rfl rfl rfl (q_move (.inl rfl) rfl) ?_
        refine AOps.s 83 rfl rfl rfl (q_index_lst tok rfl rfl rfl rfl rfl rfl (Int.natCast_nonneg _) (cs := [.int .i64 (f.byOf k)]) (by show (List.map (fun b => [AV.int .i64 b]) f.bys)[_]? = _; rw [Int.toNat_natCast, List.getElem?_map, bys_get hkl]; rfl) rfl) ?_
        refine AOps.s 84 rfl rfl rfl (q_load tok rfl rfl rfl (by first | exact .loc _ | exact .ptr _ _ _ _ _ _ _ _ rfl rfl rfl) rfl) ?_
        refine AOps.s 85 rfl rfl rfl (q_bin rfl rfl rfl rfl) ?_
        refine AOps.s 86 rfl rfl rfl (q_pick_false false rfl rfl rfl rfl) ?_
        refine AOps.nil ?_
        refine AGo.split 86 rfl (fun hb9 => ?_) (fun hb9 => ?_)
        · -- True
          refine AGo.cond_true true rfl rfl ?_
          have hho : f.headOf k = false := by first | exact hd_no1 hle hne hkl hrr hb9 | exact hd_no2 hle hne hkl hb9
          refine AGo.exit ?_
          refine AGo.region ?_
          refine AOps.s 73 rfl rfl rfl (q_move (.inl rfl) rfl) ?_
          refine AOps.s 74 rfl rfl rfl (q_inc rfl rfl hkl (by simp only [maxLen]; omega)) ?_
          refine AOps.s 9 rfl rfl rfl (q_move (.inr rfl) rfl) ?_
          refine AOps.nil ?_
          exact ⟨k+1, Drop.mk' (by repeat (first | exact EDrop.new _ _ | refine EDrop.put ?_ (by first | rfl | exact congrArg (fun (l : List (List Int)) => some (AV.ref 2 l.length 0 l.length)) (pathsTo_no hho).symm | exact congrArg (fun n : Nat => some (AV.ref 2 n 0 n)) (by rw [pathsTo_yes hho]; simp)) rfl)) (by repeat (first | exact HDrop.none _ _ | exact HDrop.tail _ _ | refine HDrop.put ?_ (by first | rfl | exact congrArg (fun (l : List (List Int)) => some (AObj.row true 1 (l.map pathCell))) (pathsTo_no hho).symm | exact congrArg (fun es => some (AObj.row true 1 es)) (by rw [pathsTo_yes hho, ← hacc, List.map_append]; rfl)) rfl rfl)), hkl, by omega⟩
        · -- False
          refine AGo.cond_false false rfl rfl ?_
          have hho : f.headOf k = true := hd_yes hle hne hkl hrr h0 hb9
          have hfi := FInv2.first (takes := f.tk) (i := (k : Int)) (by omega) (head_ends hle hho)
          refine AGo.skip ?_
          refine AGo.seq ?_
          refine AGo.region ?_
          refine AOps.s 87 rfl rfl rfl (q_move (.inl rfl) rfl) ?_
          refine AOps.x 88 rfl rfl rfl (o_litRow tok 3 true rfl rfl rfl rfl rfl rfl (by decide) rfl rfl rfl rfl (by first | exact fun _ => rfl | (intro h; cases h)) rfl rfl) ?_
          refine AOps.s 10 rfl rfl rfl (q_move (.inr rfl) rfl) ?_
          refine AOps.nil ?_
          refine AGo.seq ?_
          refine AGo.region ?_
          refine AOps.s 89 rfl rfl rfl (q_move (.inl rfl) rfl) ?_
          refine AOps.s 11 rfl rfl rfl (q_move (.inr rfl) rfl) ?_
          refine AOps.nil ?_
          refine AGo.seq ?_
          refine AGo.block ?_
          refine AGo.loopD (γ := FG2) 4 (fun q => ⟨117, (eput (eput (eput (eput (eput (eput (eput eNew 1 (.ptr 0 1 0 0)) 3 (boolsAV f.reach)) 4 (intsAV f.bys)) 8 (.ref 2 (f.pathsTo k).length 0 (f.pathsTo k).length)) 9 (.int .i64 (k : Int))) 10 (.ref 3 q.acc.length 0 q.acc.length)) 11 (.int .i64 q.c)), (hput (hput (hput (hFrom 4) 0 (.row false 2 [f.cells])) 2 (.row true 1 ((f.pathsTo k).map pathCell))) 3 (.row true 1 (intCells q.acc)))⟩) (fun q => FP f.tk (pathOf f.tk k) q) (fun q => fpmu q) ⟨(k : Int), [(k : Int)], f.tk.length⟩ (Sub.mk' (by repeat (first | exact ESub.new _ | refine ESub.put ?_ (by rfl))) (by repeat (first | exact HSub.none _ | exact HSub.from_new _ | exact HSub.from_from (by first | decide | omega | (dsimp only; omega)) | refine HSub.put ?_ (by rfl) | refine HSub.from_put ?_ (by first | decide | omega | (dsimp only; omega)) | refine HSub.from_rm ?_ (by decide)))) ⟨fun _ => hfi, fun h => absurd h (by show ¬ ((k : Int) < 0); omega)⟩ (fun _ => hput_free (hput_free (hput_free (fun b hb => hFrom_free hb) rfl) rfl) rfl) ?_
          intro q hQ
          refine AGo.seq ?_
          refine AGo.seq ?_
          refine AGo.region ?_
          refine AOps.s 90 rfl rfl rfl (q_move (.inl rfl) rfl) ?_
          refine AOps.s 91 rfl rfl rfl (q_bin rfl rfl rfl rfl) ?_
          refine AOps.nil ?_
          refine AGo.split 91 rfl (fun hb10 => ?_) (fun hb10 => ?_)
          · -- True
            refine AGo.cond_true true rfl rfl ?_
            have hc0 : 0 ≤ q.c := by simpa using hb10
            have hal := hQ.len hc0
            have hcr := (hQ.on hc0).c
            refine AGo.skip ?_
            refine AGo.block ?_
            refine AGo.seq ?_
            refine AGo.region ?_
            refine AOps.s 12 rfl rfl rfl (q_move (.inr rfl) rfl) ?_
            refine AOps.nil ?_
            refine AGo.seq ?_
            refine AGo.seq ?_
            refine AGo.region ?_
            refine AOps.s 13 rfl rfl rfl (q_move (.inr rfl) rfl) ?_
            refine AOps.nil ?_
            refine AGo.block ?_
            refine AGo.loopD (γ := Nat) 4 (fun j => ⟨117, (eput (eput (eput (eput (eput (eput (eput (eput (eput eNew 1 (.ptr 0 1 0 0)) 3 (boolsAV f.reach)) 4 (intsAV f.bys)) 8 (.ref 2 (f.pathsTo k).length 0 (f.pathsTo k).length)) 9 (.int .i64 (k : Int))) 10 (.ref 3 q.acc.length 0 q.acc.length)) 11 (.int .i64 q.c)) 12 (.int .i64 (lastBy f.bys q.c j))) 13 (.int .i64 (j : Int))), (hput (hput (hput (hFrom 4) 0 (.row false 2 [f.cells])) 2 (.row true 1 ((f.pathsTo k).map pathCell))) 3 (.row true 1 (intCells q.acc)))⟩) (fun j => j ≤ f.blocks.length) (fun j => f.blocks.length - j) 0 (Sub.mk' (by repeat (first | exact ESub.new _ | refine ESub.put ?_ (by rfl))) (by repeat (first | exact HSub.none _ | exact HSub.from_new _ | exact HSub.from_from (by first | decide | omega | (dsimp only; omega)) | refine HSub.put ?_ (by rfl) | refine HSub.from_put ?_ (by first | decide | omega | (dsimp only; omega)) | refine HSub.from_rm ?_ (by decide)))) (Nat.zero_le _) (fun _ => hput_free (hput_free (hput_free (fun b hb => hFrom_free hb) rfl) rfl) rfl) ?_
            intro j hj
            refine AGo.seq ?_
            refine AGo.seq ?_
            refine AGo.region ?_
            refine AOps.s 92 rfl rfl rfl (q_move (.inl rfl) rfl) ?_
            refine AOps.s 93 rfl rfl rfl (q_move (.inl rfl) rfl) ?_
            refine AOps.s 94 rfl rfl rfl (q_len tok rfl rfl rfl rfl rfl) ?_
            refine AOps.s 95 rfl rfl rfl (q_bin rfl rfl rfl rfl) ?_
            refine AOps.nil ?_
            refine AGo.split 95 rfl (fun hb11 => ?_) (fun hb11 => ?_)
            · -- True
              refine AGo.cond_true true rfl rfl ?_
              have hjl : j < f.blocks.length := by have h := hb11; simp [bys_length] at h; omega
              refine AGo.skip ?_
              refine AGo.seq ?_
              refine AGo.block ?_
              refine AGo.seq ?_
              refine AGo.region ?_
              refine AOps.s 98 rfl rfl rfl (q_move (.inl rfl) rfl) ?_
              refine AOps.s 99 rfl rfl rfl (q_move (.inl rfl) rfl) ?_
              refine AOps.s 100 rfl rfl rfl (q_index_lst tok rfl rfl rfl rfl rfl rfl (Int.natCast_nonneg _) (cs := [.int .i64 (iget f.bys j)]) (by show (List.map (fun b => [AV.int .i64 b]) f.bys)[_]? = _; rw [Int.toNat_natCast, List.getElem?_map, bys_get hjl, bys_iget hjl]; rfl) rfl) ?_
              refine AOps.s 101 rfl rfl rfl (q_load tok rfl rfl rfl (by first | exact .loc _ | exact .ptr _ _ _ _ _ _ _ _ rfl rfl rfl) rfl) ?_
              refine AOps.s 102 rfl rfl rfl (q_move (.inl rfl) rfl) ?_
              refine AOps.s 103 rfl rfl rfl (q_bin rfl rfl rfl rfl) ?_
              refine AOps.nil ?_
              refine AGo.split 103 rfl (fun hb12 => ?_) (fun hb12 => ?_)
              · -- True
                refine AGo.cond_true true rfl rfl ?_
                have hls := lastBy_succ (l := f.bys) (a := q.c) (j := j) hb12
                refine AGo.region ?_
                refine AOps.s 104 rfl rfl rfl (q_move (.inl rfl) rfl) ?_
                refine AOps.s 12 rfl rfl rfl (q_move (.inr rfl) rfl) ?_
                refine AOps.nil ?_
                refine AGo.region ?_
                refine AOps.s 96 rfl rfl rfl (q_move (.inl rfl) rfl) ?_
                refine AOps.s 97 rfl rfl rfl (q_inc rfl rfl hjl (by simp only [maxLen]; omega)) ?_
                refine AOps.s 13 rfl rfl rfl (q_move (.inr rfl) rfl) ?_
                refine AOps.nil ?_
                exact ⟨j+1, Drop.mk' (by repeat (first | exact EDrop.new _ _ | refine EDrop.put ?_ (by first | rfl | exact congrArg (fun z : Int => some (AV.int .i64 z)) hls.symm) rfl)) (by repeat (first | exact HDrop.none _ _ | exact HDrop.tail _ _ | refine HDrop.put ?_ (by rfl) rfl rfl)), hjl, by omega⟩
              · -- False
                refine AGo.cond_false false rfl rfl ?_
                have hls := lastBy_succ (l := f.bys) (a := q.c) (j := j) hb12
                refine AGo.skip ?_
                refine AGo.region ?_
                refine AOps.s 96 rfl rfl rfl (q_move (.inl rfl) rfl) ?_
                refine AOps.s 97 rfl rfl rfl (q_inc rfl rfl hjl (by simp only [maxLen]; omega)) ?_
                refine AOps.s 13 rfl rfl rfl (q_move (.inr rfl) rfl) ?_
                refine AOps.nil ?_
                exact ⟨j+1, Drop.mk' (by repeat (first | exact EDrop.new _ _ | refine EDrop.put ?_ (by first | rfl | exact congrArg (fun z : Int => some (AV.int .i64 z)) hls.symm) rfl)) (by repeat (first | exact HDrop.none _ _ | exact HDrop.tail _ _ | refine HDrop.put ?_ (by rfl) rfl rfl)), hjl, by omega⟩
            · -- False
              refine AGo.cond_false false rfl rfl ?_
              have hge2 : f.blocks.length ≤ j := by have h := hb11; simp [bys_length] at h; omega
              obtain rfl : j = f.blocks.length := by omega
              have hlb := lastBy_tk hle hne (a := q.c) (by omega)
              refine AGo.exit ?_
              refine AGo.seq ?_
              refine AGo.seq ?_
              refine AGo.region ?_
              refine AOps.s 105 rfl rfl rfl (q_move (.inl rfl) rfl) ?_
              refine AOps.s 106 rfl rfl rfl (q_bin rfl rfl rfl rfl) ?_
              refine AOps.nil ?_
              refine AGo.join (γ := FG2) (fun p => ⟨117, (eput (eput (eput (eput (eput (eput (eput eNew 1 (.ptr 0 1 0 0)) 3 (boolsAV f.reach)) 4 (intsAV f.bys)) 8 (.ref 2 (f.pathsTo k).length 0 (f.pathsTo k).length)) 9 (.int .i64 (k : Int))) 10 (.ref 3 p.acc.length 0 p.acc.length)) 12 (.int .i64 p.c)), (hput (hput (hput (hFrom 4) 0 (.row false 2 [f.cells])) 2 (.row true 1 ((f.pathsTo k).map pathCell))) 3 (.row true 1 (intCells p.acc)))⟩) (fun p => FP f.tk (pathOf f.tk k) p ∧ fpmu p < fpmu q) ?_ ?_
              · -- to the join
                refine AGo.split 106 rfl (fun hb13 => ?_) (fun hb13 => ?_)
                · -- True
                  refine AGo.cond_true true rfl rfl ?_
                  have hto : 0 ≤ iget f.tk q.c := by rw [← hlb]; simpa using hb13
                  have hfn := FP.next hle hQ hc0 hto
                  refine AGo.region ?_
                  refine AOps.s 107 rfl rfl rfl (q_move (.inl rfl) rfl) ?_
                  refine AOps.s 108 rfl rfl rfl (q_move (.inl rfl) rfl) ?_
                  refine AOps.x 109 rfl rfl rfl (o_lit' tok rfl rfl rfl rfl rfl rfl (by decide) rfl rfl rfl rfl rfl rfl) ?_
                  refine AOps.x 110 rfl rfl rfl (o_append tok (n := q.acc.length) (m := 1) rfl rfl rfl rfl rfl rfl rfl rfl rfl (by rw [intCells_len]) rfl rfl (Nat.zero_lt_succ _) (.lst _ _) (by intro cs h; simp [partVals] at h; subst h; rfl) (fun _ cs h => by simp [partVals] at h; subst h; rfl) rfl (by simp [partVals, intCells_len]; show _ * 8 ≤ _; omega) (by simp [partVals, intCells_len]; simp only [maxLen]; omega)) ?_
                  refine AOps.s 10 rfl rfl rfl (q_move (.inr rfl) rfl) ?_
                  refine AOps.nil ?_
                  exact ⟨⟨iget f.tk q.c, q.acc ++ [iget f.tk q.c], q.g - 1⟩, Sub.mk' (by repeat (first | exact ESub.new _ | refine ESub.put ?_ (by first | rfl | exact congrArg (fun z : Int => some (AV.int .i64 z)) hlb | exact congrArg (fun n : Nat => some (AV.ref 3 n 0 n)) (by simp)))) (by repeat (first | exact HSub.none _ | exact HSub.from_new _ | exact HSub.from_from (by first | decide | omega | (dsimp only; omega)) | refine HSub.put ?_ (by first | rfl | exact congrArg (fun es => some (AObj.row true 1 es)) (by rw [hlb]; simp [intCells, partVals, AV.cells])) | refine HSub.from_put ?_ (by first | decide | omega | (dsimp only; omega)) | refine HSub.from_rm ?_ (by decide))), hfn⟩
                · -- False
                  refine AGo.cond_false false rfl rfl ?_
                  have hto : ¬ 0 ≤ iget f.tk q.c := by rw [← hlb]; simpa using hb13
                  have hfn := FP.stop hle hQ hc0 hto
                  refine AGo.skip ?_
                  exact ⟨⟨iget f.tk q.c, q.acc, 0⟩, Sub.mk' (by repeat (first | exact ESub.new _ | refine ESub.put ?_ (by first | rfl | exact congrArg (fun z : Int => some (AV.int .i64 z)) hlb | exact congrArg (fun n : Nat => some (AV.ref 3 n 0 n)) (by simp)))) (by repeat (first | exact HSub.none _ | exact HSub.from_new _ | exact HSub.from_from (by first | decide | omega | (dsimp only; omega)) | refine HSub.put ?_ (by first | rfl | exact congrArg (fun es => some (AObj.row true 1 es)) (by rw [hlb]; simp [intCells, partVals, AV.cells])) | refine HSub.from_put ?_ (by first | decide | omega | (dsimp only; omega)) | refine HSub.from_rm ?_ (by decide))), hfn⟩
              intro p hfn
              refine AGo.region ?_
              refine AOps.s 111 rfl rfl rfl (q_move (.inl rfl) rfl) ?_
              refine AOps.s 11 rfl rfl rfl (q_move (.inr rfl) rfl) ?_
              refine AOps.nil ?_
              exact ⟨p, Drop.mk' (by repeat (first | exact EDrop.new _ _ | refine EDrop.put ?_ (by rfl) rfl)) (by repeat (first | exact HDrop.none _ _ | exact HDrop.tail _ _ | refine HDrop.put ?_ (by rfl) rfl rfl)), hfn.1, hfn.2⟩
          · -- False
            refine AGo.cond_false false rfl rfl ?_
            have hc1 : q.c < 0 := by have h := hb10; simp at h; omega
            have hacc := hQ.off hc1
            refine AGo.exit ?_
            refine AGo.ghost (.freezeA 10 3 rfl rfl (by rw [intCells_len])) ?_
            refine AGo.region ?_
            refine AOps.s 112 rfl rfl rfl (q_move (.inl rfl) rfl) ?_
            refine AOps.s 113 rfl rfl rfl (q_move (.inl rfl) rfl) ?_
            refine AOps.x 114 rfl rfl rfl (o_lit' tok rfl rfl rfl rfl rfl rfl (by decide) rfl rfl rfl rfl rfl rfl) ?_
            refine AOps.x 115 rfl rfl rfl (o_append tok (n := (f.pathsTo k).length) (m := 1) rfl rfl rfl rfl rfl rfl rfl rfl rfl (by simp) rfl rfl (Nat.zero_lt_succ _) (.lst _ _) (by intro cs h; simp [partVals] at h; subst h; rfl) (fun _ cs h => by simp [partVals] at h; subst h; rfl) rfl (by simp [partVals]; show _ * 24 ≤ _; omega) (by simp [partVals]; simp only [maxLen]; omega)) ?_
            refine AOps.s 8 rfl rfl rfl (q_move (.inr rfl) rfl) ?_
            refine AOps.nil ?_
            refine AGo.region ?_
            refine AOps.s 73 rfl rfl rfl (q_move (.inl rfl) rfl) ?_
            refine AOps.s 74 rfl rfl rfl (q_inc rfl rfl hkl (by simp only [maxLen]; omega)) ?_
            refine AOps.s 9 rfl rfl rfl (q_move (.inr rfl) rfl) ?_
            refine AOps.nil ?_
            exact ⟨k+1, Drop.mk' (by repeat (first | exact EDrop.new _ _ | refine EDrop.put ?_ (by first | rfl | exact congrArg (fun (l : List (List Int)) => some (AV.ref 2 l.length 0 l.length)) (pathsTo_no hho).symm | exact congrArg (fun n : Nat => some (AV.ref 2 n 0 n)) (by rw [pathsTo_yes hho]; simp)) rfl)) (by repeat (first | exact HDrop.none _ _ | exact HDrop.tail _ _ | refine HDrop.put ?_ (by first | rfl | exact congrArg (fun (l : List (List Int)) => some (AObj.row true 1 (l.map pathCell))) (pathsTo_no hho).symm | exact congrArg (fun es => some (AObj.row true 1 es)) (by rw [pathsTo_yes hho, ← hacc, List.map_append]; rfl)) rfl rfl)), hkl, by omega⟩
    · -- False
      refine AGo.cond_false false rfl rfl ?_
      have hge := ge_of_idx hb7
      obtain rfl : k = f.blocks.length := by omega
      refine AGo.exit ?_
      refine AGo.seq ?_
      refine AGo.ghost (.freezeA 8 2 rfl rfl (by simp)) ?_
      refine AGo.region ?_
      refine AOps.s 116 rfl rfl rfl (q_move (.inl rfl) rfl) ?_
      refine AOps.s 2 rfl rfl rfl (q_move (.inr rfl) rfl) ?_
      refine AOps.nil ?_
      refine AGo.ret ?_
      refine ⟨[_], ⟨rfl, trivial⟩, ?_, rfl⟩
      rfl

end Go.Proofs.Ytidfabbnobipkaa.Sv

namespace Go.Proofs.Ytidfabbnobipkaa.Sv
open Go
set_option linter.unusedVariables false
set_option linter.unusedSimpArgs false

set_option maxRecDepth 100000 in
theorem rhead_ok (paths : List (List Int)) (a : Int) (hn : paths.length ≤ 100000) : APure Try.prog 33 [pathsAV paths, .int .i64 a] (fun r => r = .int .i64 (headI paths a)) := by
  refine APure.of_body (n := 29) tok Try.func33 rfl rfl ?_
  refine AGo.seq ?_
  refine AGo.region ?_
  refine AOps.s 4 rfl rfl rfl (q_move (.inr rfl) rfl) ?_
  refine AOps.nil ?_
  refine AGo.seq ?_
  refine AGo.seq ?_
  refine AGo.region ?_
  refine AOps.s 5 rfl rfl rfl (q_move (.inr rfl) rfl) ?_
  refine AOps.nil ?_
  refine AGo.block ?_
  refine AGo.loopI (γ := Nat) (fun k => ⟨29, (eput (eput (eput eNew 0 (pathsAV paths)) 1 (.int .i64 a)) 5 (.int .i64 (k : Int))), hNone⟩) (fun k => noHead paths a k) (fun k => paths.length - k) 0 (Sub.mk' (by repeat (first | exact ESub.new _ | refine ESub.put ?_ (by rfl))) (by repeat (first | exact HSub.none _ | exact HSub.from_new _ | exact HSub.from_from (by first | decide | omega | (dsimp only; omega)) | refine HSub.put ?_ (by rfl) | refine HSub.from_put ?_ (by first | decide | omega | (dsimp only; omega)) | refine HSub.from_rm ?_ (by decide)))) (noHead.zero _ _) ?_
  intro k hF
  refine AGo.seq ?_
  refine AGo.seq ?_
  refine AGo.region ?_
  refine AOps.s 6 rfl rfl rfl (q_move (.inl rfl) rfl) ?_
  refine AOps.s 7 rfl rfl rfl (q_move (.inl rfl) rfl) ?_
  refine AOps.s 8 rfl rfl rfl (q_len tok rfl rfl rfl rfl rfl) ?_
  refine AOps.s 9 rfl rfl rfl (q_bin rfl rfl rfl rfl) ?_
  refine AOps.nil ?_
  refine AGo.split 9 rfl (fun hb1 => ?_) (fun hb1 => ?_)
  · -- True
    refine AGo.cond_true true rfl rfl ?_
    have hkl : k < paths.length := lt_of_idx hb1
    obtain ⟨p, hp⟩ := get_of_lt hkl
    refine AGo.skip ?_
    refine AGo.seq ?_
    refine AGo.block ?_
    refine AGo.seq ?_
    refine AGo.region ?_
    refine AOps.s 12 rfl rfl rfl (q_move (.inl rfl) rfl) ?_
    refine AOps.s 13 rfl rfl rfl (q_move (.inl rfl) rfl) ?_
    refine AOps.s 14 rfl rfl rfl (q_index_lst tok rfl rfl rfl rfl rfl rfl (Int.natCast_nonneg _) (idx_map hp) rfl) ?_
    refine AOps.s 15 rfl rfl rfl (q_load tok rfl rfl rfl (by first | exact .loc _ | exact .ptr _ _ _ _ _ _ _ _ rfl rfl rfl) rfl) ?_
    refine AOps.s 16 rfl rfl rfl (q_len tok rfl rfl rfl rfl rfl) ?_
    refine AOps.s 17 rfl rfl rfl (q_bin rfl rfl rfl rfl) ?_
    refine AOps.s 18 rfl rfl rfl (q_move (.inl rfl) rfl) ?_
    refine AOps.split 18 rfl (fun hb2 => ?_) (fun hb2 => ?_)
    · -- True
      have hp0 : p ≠ [] := by have h := hb2; rw [List.length_map] at h; intro e; rw [e] at h; simp at h
      have hph := headZ_get hp0
      refine AOps.s 19 rfl rfl rfl (q_move (.inl rfl) rfl) ?_
      refine AOps.s 20 rfl rfl rfl (q_move (.inl rfl) rfl) ?_
      refine AOps.s 21 rfl rfl rfl (q_index_lst tok rfl rfl rfl rfl rfl rfl (Int.natCast_nonneg _) (idx_map hp) rfl) ?_
      refine AOps.s 22 rfl rfl rfl (q_load tok rfl rfl rfl (by first | exact .loc _ | exact .ptr _ _ _ _ _ _ _ _ rfl rfl rfl) rfl) ?_
      refine AOps.s 23 rfl rfl rfl (q_index_lst tok rfl rfl rfl rfl rfl rfl (by decide) (cs := [.int .i64 (headZ p)]) (by show (List.map (fun b => [AV.int .i64 b]) p)[0]? = _; rw [List.getElem?_map, hph]; rfl) rfl) ?_
      refine AOps.s 24 rfl rfl rfl (q_load tok rfl rfl rfl (by first | exact .loc _ | exact .ptr _ _ _ _ _ _ _ _ rfl rfl rfl) rfl) ?_
      refine AOps.s 25 rfl rfl rfl (q_move (.inl rfl) rfl) ?_
      refine AOps.s 26 rfl rfl rfl (q_bin rfl rfl rfl rfl) ?_
      refine AOps.s 27 rfl rfl rfl (q_pick_true true rfl rfl rfl rfl) ?_
      refine AOps.nil ?_
      refine AGo.split 27 rfl (fun hb3 => ?_) (fun hb3 => ?_)
      · -- True
        refine AGo.cond_true true rfl rfl ?_
        have hpa : (headZ p == a) = true := hb3
        refine AGo.seq ?_
        refine AGo.region ?_
        refine AOps.s 28 rfl rfl rfl (q_move (.inl rfl) rfl) ?_
        refine AOps.s 4 rfl rfl rfl (q_move (.inr rfl) rfl) ?_
        refine AOps.nil ?_
        refine AGo.ret ?_
        refine ⟨[_], ⟨rfl, trivial⟩, ?_, rfl⟩
        show AV.int .i64 _ = AV.int .i64 _
        rw [headI_at hp (by rw [hpa, Bool.and_true]; exact decide_eq_true (List.length_pos_iff.2 hp0)) hF]
      · -- False
        refine AGo.cond_false false rfl rfl ?_
        have hno : (decide (p.length > 0) && headZ p == a) = false := by first | (have h := hb3; rw [List.length_map] at h; have h2 : ¬ p.length > 0 := (by simpa using h); simp [h2]; done) | (rw [show (headZ p == a) = false from hb3, Bool.and_false])
        refine AGo.skip ?_
        refine AGo.region ?_
        refine AOps.s 10 rfl rfl rfl (q_move (.inl rfl) rfl) ?_
        refine AOps.s 11 rfl rfl rfl (q_inc rfl rfl hkl (by simp only [maxLen]; omega)) ?_
        refine AOps.s 5 rfl rfl rfl (q_move (.inr rfl) rfl) ?_
        refine AOps.nil ?_
        exact ⟨k+1, Sub.mk' (by repeat (first | exact ESub.new _ | refine ESub.put ?_ (by rfl))) (by repeat (first | exact HSub.none _ | exact HSub.from_new _ | exact HSub.from_from (by first | decide | omega | (dsimp only; omega)) | refine HSub.put ?_ (by rfl) | refine HSub.from_put ?_ (by first | decide | omega | (dsimp only; omega)) | refine HSub.from_rm ?_ (by decide))), (hF.succ hp hno), by omega⟩
    · -- False
      refine AOps.k 19 rfl rfl rfl ?_
      refine AOps.k 20 rfl rfl rfl ?_
      refine AOps.k 21 rfl rfl rfl ?_
      refine AOps.k 22 rfl rfl rfl ?_
      refine AOps.k 23 rfl rfl rfl ?_
      refine AOps.k 24 rfl rfl rfl ?_
      refine AOps.k 25 rfl rfl rfl ?_
      refine AOps.k 26 rfl rfl rfl ?_
      refine AOps.s 27 rfl rfl rfl (q_pick_false false rfl rfl rfl rfl) ?_
      refine AOps.nil ?_
      refine AGo.cond_false false rfl rfl ?_
      have hno : (decide (p.length > 0) && headZ p == a) = false := by first | (have h := hb2; rw [List.length_map] at h; have h2 : ¬ p.length > 0 := (by simpa using h); simp [h2]; done) | (rw [show (headZ p == a) = false from hb2, Bool.and_false])
      refine AGo.skip ?_
      refine AGo.region ?_
      refine AOps.s 10 rfl rfl rfl (q_move (.inl rfl) rfl) ?_
      refine AOps.s 11 rfl rfl rfl (q_inc rfl rfl hkl (by simp only [maxLen]; omega)) ?_
      refine AOps.s 5 rfl rfl rfl (q_move (.inr rfl) rfl) ?_
      refine AOps.nil ?_
      exact ⟨k+1, Sub.mk' (by repeat (first | exact ESub.new _ | refine ESub.put ?_ (by rfl))) (by repeat (first | exact HSub.none _ | exact HSub.from_new _ | exact HSub.from_from (by first | decide | omega | (dsimp only; omega)) | refine HSub.put ?_ (by rfl) | refine HSub.from_put ?_ (by first | decide | omega | (dsimp only; omega)) | refine HSub.from_rm ?_ (by decide))), (hF.succ hp hno), by omega⟩
  · -- False
    refine AGo.cond_false false rfl rfl ?_
    have hge := ge_of_idx hb1
    refine AGo.exit ?_
    refine AGo.seq ?_
    refine AGo.region ?_
    refine AOps.s 4 rfl rfl rfl (q_move (.inr rfl) rfl) ?_
    refine AOps.nil ?_
    refine AGo.ret ?_
    refine ⟨[_], ⟨rfl, trivial⟩, ?_, rfl⟩
    show AV.int .i64 _ = AV.int .i64 _
    rw [hF.none hge]

end Go.Proofs.Ytidfabbnobipkaa.Sv

namespace Go.Proofs.Ytidfabbnobipkaa.Sv
open Go
set_option linter.unusedVariables false
set_option linter.unusedSimpArgs false

set_option maxRecDepth 100000 in
theorem rof_ok (f : BFunc) (hn : f.blocks.length ≤ 1000) (hin : ∀ x ∈ f.blocks, x.ins.length ≤ 10000) (hle : f.leads) (hne : f.blocks ≠ []) : APure Try.prog 14 [.agg f.cells] (fun r => r = .tup [.agg f.tidy.cells, pathsAV f.tpaths]) := by
  have htpl : f.tpaths.length ≤ 100000 := by have := pathsTo_length f f.blocks.length; unfold BFunc.tpaths; omega
  have htl2 := pathsTo_length f f.blocks.length
  refine APure.of_body (n := 90) tok Try.func14 rfl rfl ?_
  refine AGo.seq ?_
  refine AGo.region ?_
  refine AOps.x 1 rfl rfl rfl (o_box (sz := 2) 0 rfl rfl rfl rfl (Nat.zero_lt_succ _) rfl) ?_
  refine AOps.x 2 rfl rfl rfl (o_alloc tok 1 rfl rfl rfl rfl (Nat.zero_lt_succ _) rfl) ?_
  refine AOps.s 3 rfl rfl rfl (q_move (.inr rfl) rfl) ?_
  refine AOps.nil ?_
  refine AGo.seq ?_
  refine AGo.region ?_
  refine AOps.s 10 rfl rfl rfl (q_load tok rfl rfl rfl (by first | exact .loc _ | exact .ptr _ _ _ _ _ _ _ _ rfl rfl rfl) rfl) ?_
  refine AOps.x 11 rfl rfl rfl (o_pure rfl Try.func32 (by kernel_rfl) rfl rfl rfl (rpaths_ok f hn hle hne)) ?_
  refine AOps.s 4 rfl rfl rfl (q_move (.inr rfl) rfl) ?_
  refine AOps.nil ?_
  refine AGo.seq ?_
  refine AGo.region ?_
  refine AOps.s 12 rfl rfl rfl (q_fieldAddr tok rfl rfl rfl rfl rfl rfl) ?_
  refine AOps.s 13 rfl rfl rfl (q_load tok rfl rfl rfl (by first | exact .loc _ | exact .ptr _ _ _ _ _ _ _ _ rfl rfl rfl) rfl) ?_
  refine AOps.s 14 rfl rfl rfl (q_build tok rfl rfl rfl rfl rfl (by decide) rfl rfl rfl) ?_
  refine AOps.x 5 rfl rfl rfl (o_alloc tok 2 rfl rfl rfl rfl (Nat.zero_lt_succ _) rfl) ?_
  refine AOps.w rfl rfl (o_store tok rfl rfl rfl rfl rfl rfl rfl rfl rfl (by decide) rfl (by first | exact fun _ => rfl | (intro h; cases h))) ?_
  refine AOps.nil ?_
  refine AGo.seq ?_
  refine AGo.seq ?_
  refine AGo.ghost (.dryCell 2 0 1 3 5 true rfl rfl rfl rfl rfl (by decide)) ?_
  refine AGo.region ?_
  refine AOps.s 6 rfl rfl rfl (q_move (.inr rfl) rfl) ?_
  refine AOps.nil ?_
  refine AGo.block ?_
  refine AGo.loopD (γ := Nat) 4 (fun k => ⟨90, (eput (eput (eput (eput (eput eNew 1 (.ptr 0 1 0 0)) 2 (.ptr 1 1 0 0)) 4 (pathsAV f.tpaths)) 5 (.ptr 2 1 0 0)) 6 (.int .i64 (k : Int))), (hput (hput (hput (hput (hFrom 4) 0 (.row false 2 [f.cells])) 1 (.row false 2 [[.int .i64 0, .nil]])) 2 (.row false 2 [[.int .i64 f.regs, .ref 3 k 0 k]])) 3 (.row true 5 (((f.tpaths.map (f.refBlock f.tpaths)).take k).map Block.cells)))⟩) (fun k => k ≤ f.tpaths.length) (fun k => f.tpaths.length - k) 0 (Sub.mk' (by repeat (first | exact ESub.new _ | refine ESub.put ?_ (by rfl))) (by repeat (first | exact HSub.none _ | exact HSub.from_new _ | exact HSub.from_from (by first | decide | omega | (dsimp only; omega)) | refine HSub.put ?_ (by rfl) | refine HSub.from_put ?_ (by first | decide | omega | (dsimp only; omega)) | refine HSub.from_rm ?_ (by decide)))) (Nat.zero_le _) (fun _ => hput_free (hput_free (hput_free (hput_free (fun b hb => hFrom_free hb) rfl) rfl) rfl) rfl) ?_
  intro k hk
  refine AGo.seq ?_
  refine AGo.seq ?_
  refine AGo.region ?_
  refine AOps.s 15 rfl rfl rfl (q_move (.inl rfl) rfl) ?_
  refine AOps.s 16 rfl rfl rfl (q_move (.inl rfl) rfl) ?_
  refine AOps.s 17 rfl rfl rfl (q_len tok rfl rfl rfl rfl rfl) ?_
  refine AOps.s 18 rfl rfl rfl (q_bin rfl rfl rfl rfl) ?_
  refine AOps.nil ?_
  refine AGo.split 18 rfl (fun hb1 => ?_) (fun hb1 => ?_)
  · -- True
    refine AGo.cond_true true rfl rfl ?_
    have hkl : k < f.tpaths.length := lt_of_idx hb1
    obtain ⟨p, hp⟩ := get_of_lt hkl
    have hpm := List.mem_of_getElem? hp
    have hpi := paths_in hle f.blocks.length (Nat.le_refl _) p hpm
    have hpl := pathsTo_len f.blocks.length p hpm
    have hFB : (f.tpaths.map (f.refBlock f.tpaths))[k]? = some (f.refBlock f.tpaths p) := by rw [List.getElem?_map, hp]; rfl
    refine AGo.skip ?_
    refine AGo.seq ?_
    refine AGo.block ?_
    refine AGo.seq ?_
    refine AGo.region ?_
    refine AOps.x 7 rfl rfl rfl (o_alloc tok 4 rfl rfl rfl rfl (Nat.zero_lt_succ _) rfl) ?_
    refine AOps.nil ?_
    refine AGo.seq ?_
    refine AGo.seq ?_
    refine AGo.ghost (.weakCell 4 0 0 (.lst false []) rfl rfl rfl (fun H ι v h => nil_empty h) rfl) ?_
    refine AGo.region ?_
    refine AOps.s 8 rfl rfl rfl (q_move (.inr rfl) rfl) ?_
    refine AOps.nil ?_
    refine AGo.block ?_
    refine AGo.loopD (γ := Nat) 5 (fun j => ⟨90, (eput (eput (eput (eput (eput (eput (eput eNew 1 (.ptr 0 1 0 0)) 2 (.ptr 1 1 0 0)) 4 (pathsAV f.tpaths)) 5 (.ptr 2 1 0 0)) 6 (.int .i64 (k : Int))) 7 (.ptr 4 1 0 0)) 8 (.int .i64 (j : Int))), (hput (hput (hput (hput (hput (hFrom 5) 0 (.row false 2 [f.cells])) 1 (.row false 2 [[.int .i64 0, .nil]])) 2 (.row false 2 [[.int .i64 f.regs, .ref 3 k 0 k]])) 3 (.row true 5 (((f.tpaths.map (f.refBlock f.tpaths)).take k).map Block.cells))) 4 (.row false 5 [(curB f p j).cells]))⟩) (fun j => j ≤ p.length) (fun j => p.length - j) 0 (Sub.mk' (by repeat (first | exact ESub.new _ | refine ESub.put ?_ (by rfl))) (by repeat (first | exact HSub.none _ | exact HSub.from_new _ | exact HSub.from_from (by first | decide | omega | (dsimp only; omega)) | refine HSub.put ?_ (by rfl) | refine HSub.from_put ?_ (by first | decide | omega | (dsimp only; omega)) | refine HSub.from_rm ?_ (by decide)))) (Nat.zero_le _) (fun _ => hput_free (hput_free (hput_free (hput_free (hput_free (fun b hb => hFrom_free hb) rfl) rfl) rfl) rfl) rfl) ?_
    intro j hj
    refine AGo.seq ?_
    refine AGo.seq ?_
    refine AGo.region ?_
    refine AOps.s 21 rfl rfl rfl (q_move (.inl rfl) rfl) ?_
    refine AOps.s 22 rfl rfl rfl (q_move (.inl rfl) rfl) ?_
    refine AOps.s 23 rfl rfl rfl (q_move (.inl rfl) rfl) ?_
    refine AOps.s 24 rfl rfl rfl (q_index_lst tok rfl rfl rfl rfl rfl rfl (Int.natCast_nonneg _) (idx_map hp) rfl) ?_
    refine AOps.s 25 rfl rfl rfl (q_load tok rfl rfl rfl (by first | exact .loc _ | exact .ptr _ _ _ _ _ _ _ _ rfl rfl rfl) rfl) ?_
    refine AOps.s 26 rfl rfl rfl (q_len tok rfl rfl rfl rfl rfl) ?_
    refine AOps.s 27 rfl rfl rfl (q_bin rfl rfl rfl rfl) ?_
    refine AOps.nil ?_
    refine AGo.split 27 rfl (fun hb2 => ?_) (fun hb2 => ?_)
    · -- True
      refine AGo.cond_true true rfl rfl ?_
      have hjl : j < p.length := lt_of_idx hb2
      obtain ⟨y, hy⟩ := get_of_lt hjl
      have hyr := hpi.2 y (List.mem_of_getElem? hy)
      have hcl : (curB f p j).ins.length ≤ 100000000 := by rw [curB_ins]; have h1 := joined_le hin (p.take j); rw [List.length_take] at h1; have h2 : min j p.length * 10000 ≤ 1001 * 10000 := Nat.mul_le_mul_right _ (by omega); omega
      have hyl : (f.blockAt y).ins.length ≤ 10000 := hin _ (List.mem_of_getElem? (blockAt_get hyr))
      refine AGo.skip ?_
      refine AGo.seq ?_
      refine AGo.block ?_
      refine AGo.seq ?_
      refine AGo.draw mix ?_
      refine DOps.s 30 rfl rfl rfl (q_fieldAddr tok rfl rfl rfl rfl rfl rfl) ?_
      refine DOps.s 31 rfl rfl rfl (q_load tok rfl rfl rfl (by first | exact .loc _ | exact .ptr _ _ _ _ _ _ _ _ rfl rfl rfl) rfl) ?_
      refine DOps.s 32 rfl rfl rfl (q_move (.inl rfl) rfl) ?_
      refine DOps.s 33 rfl rfl rfl (q_move (.inl rfl) rfl) ?_
      refine DOps.s 34 rfl rfl rfl (q_index_lst tok rfl rfl rfl rfl rfl rfl (Int.natCast_nonneg _) (idx_map hp) rfl) ?_
      refine DOps.s 35 rfl rfl rfl (q_load tok rfl rfl rfl (by first | exact .loc _ | exact .ptr _ _ _ _ _ _ _ _ rfl rfl rfl) rfl) ?_
      refine DOps.s 36 rfl rfl rfl (q_move (.inl rfl) rfl) ?_
      refine DOps.s 37 rfl rfl rfl (q_index_lst tok rfl rfl rfl rfl rfl rfl (Int.natCast_nonneg _) (idx_map hy) rfl) ?_
      refine DOps.s 38 rfl rfl rfl (q_load tok rfl rfl rfl (by first | exact .loc _ | exact .ptr _ _ _ _ _ _ _ _ rfl rfl rfl) rfl) ?_
      refine DOps.s 39 rfl rfl rfl (q_index_lst tok rfl rfl rfl rfl rfl rfl hyr.1 (idx_mapZ (blockAt_get hyr)) rfl) ?_
      refine DOps.s 40 rfl rfl rfl (q_load tok rfl rfl rfl (by first | exact .loc _ | exact .ptr _ _ _ _ _ _ _ _ rfl rfl rfl) rfl) ?_
      refine DOps.x 9 rfl rfl rfl (o_alloc tok 5 rfl rfl rfl rfl (Nat.zero_lt_succ _) rfl) ?_
      refine DOps.w rfl rfl (o_store tok rfl rfl rfl rfl rfl rfl rfl rfl rfl (by decide) rfl (by first | exact fun _ => rfl | (intro h; cases h))) ?_
      refine DOps.nil (by kernel_rfl) ?_
      refine AGo.seq ?_
      refine AGo.draw mix ?_
      refine DOps.x 41 rfl rfl rfl (o_litRow tok 6 true rfl rfl rfl rfl rfl rfl (by decide) rfl rfl rfl rfl (by first | exact fun _ => rfl | (intro h; cases h)) rfl rfl) ?_
      refine DOps.s 42 rfl rfl rfl (q_fieldAddr tok rfl rfl rfl rfl rfl rfl) ?_
      refine DOps.s 43 rfl rfl rfl (q_load tok rfl rfl rfl (by first | exact .loc _ | exact .ptr _ _ _ _ _ _ _ _ rfl rfl rfl) rfl) ?_
      refine DOps.x 44 rfl rfl rfl (o_append tok (n := 0) (m := (curB f p j).ins.length) (es := []) rfl rfl rfl rfl rfl rfl rfl rfl rfl rfl rfl rfl (Nat.zero_lt_succ _) (.lst _ _) (by intro cs h; simp at h; obtain ⟨v, _, rfl⟩ := h; rfl) (fun _ cs h => by simp at h; obtain ⟨v, _, rfl⟩ := h; rfl) (by simp) (by simp; show _ * 64 ≤ _; omega) (by simp; simp only [maxLen]; omega)) ?_
      refine DOps.s 45 rfl rfl rfl (q_fieldAddr tok rfl rfl rfl rfl rfl rfl) ?_
      refine DOps.s 46 rfl rfl rfl (q_load tok rfl rfl rfl (by first | exact .loc _ | exact .ptr _ _ _ _ _ _ _ _ rfl rfl rfl) rfl) ?_
      refine DOps.x 47 rfl rfl rfl (o_append tok (n := 0 + (curB f p j).ins.length) (m := (f.blockAt y).ins.length) rfl rfl rfl rfl rfl rfl rfl rfl rfl (by simp) rfl rfl (Nat.zero_lt_succ _) (.lst _ _) (by intro cs h; simp at h; obtain ⟨v, _, rfl⟩ := h; rfl) (fun _ cs h => by simp at h; obtain ⟨v, _, rfl⟩ := h; rfl) (by simp) (by simp; show _ * 64 ≤ _; omega) (by simp; simp only [maxLen]; omega)) ?_
      refine DOps.s 48 rfl rfl rfl (q_fieldAddr tok rfl rfl rfl rfl rfl rfl) ?_
      refine DOps.w rfl rfl (o_store tok rfl rfl rfl rfl rfl rfl rfl rfl rfl (by decide) rfl (by first | exact fun _ => rfl | (intro h; cases h))) ?_
      refine DOps.nil (by kernel_rfl) ?_
      refine AGo.seq ?_
      refine AGo.ghost (.freezeCell 4 0 0 6 rfl rfl rfl rfl (by simp) (by decide)) ?_
      refine AGo.region ?_
      refine AOps.s 49 rfl rfl rfl (q_fieldAddr tok rfl rfl rfl rfl rfl rfl) ?_
      refine AOps.s 50 rfl rfl rfl (q_load tok rfl rfl rfl (by first | exact .loc _ | exact .ptr _ _ _ _ _ _ _ _ rfl rfl rfl) rfl) ?_
      refine AOps.s 51 rfl rfl rfl (q_fieldAddr tok rfl rfl rfl rfl rfl rfl) ?_
      refine AOps.w rfl rfl (o_store tok rfl rfl rfl rfl rfl rfl rfl rfl rfl (by decide) rfl (by first | exact fun _ => rfl | (intro h; cases h))) ?_
      refine AOps.nil ?_
      refine AGo.seq ?_
      refine AGo.region ?_
      refine AOps.s 52 rfl rfl rfl (q_fieldAddr tok rfl rfl rfl rfl rfl rfl) ?_
      refine AOps.s 53 rfl rfl rfl (q_load tok rfl rfl rfl (by first | exact .loc _ | exact .ptr _ _ _ _ _ _ _ _ rfl rfl rfl) rfl) ?_
      refine AOps.s 54 rfl rfl rfl (q_fieldAddr tok rfl rfl rfl rfl rfl rfl) ?_
      refine AOps.w rfl rfl (o_store tok rfl rfl rfl rfl rfl rfl rfl rfl rfl (by decide) rfl (by first | exact fun _ => rfl | (intro h; cases h))) ?_
      refine AOps.nil ?_
      refine AGo.seq ?_
      refine AGo.region ?_
      refine AOps.s 55 rfl rfl rfl (q_fieldAddr tok rfl rfl rfl rfl rfl rfl) ?_
      refine AOps.s 56 rfl rfl rfl (q_load tok rfl rfl rfl (by first | exact .loc _ | exact .ptr _ _ _ _ _ _ _ _ rfl rfl rfl) rfl) ?_
      refine AOps.s 57 rfl rfl rfl (q_fieldAddr tok rfl rfl rfl rfl rfl rfl) ?_
      refine AOps.w rfl rfl (o_store tok rfl rfl rfl rfl rfl rfl rfl rfl rfl (by decide) rfl (by first | exact fun _ => rfl | (intro h; cases h))) ?_
      refine AOps.nil ?_
      refine AGo.region ?_
      refine AOps.s 58 rfl rfl rfl (q_fieldAddr tok rfl rfl rfl rfl rfl rfl) ?_
      refine AOps.s 59 rfl rfl rfl (q_load tok rfl rfl rfl (by first | exact .loc _ | exact .ptr _ _ _ _ _ _ _ _ rfl rfl rfl) rfl) ?_
      refine AOps.s 60 rfl rfl rfl (q_fieldAddr tok rfl rfl rfl rfl rfl rfl) ?_
      refine AOps.w rfl rfl (o_store tok rfl rfl rfl rfl rfl rfl rfl rfl rfl (by decide) rfl (by first | exact fun _ => rfl | (intro h; cases h))) ?_
      refine AOps.nil ?_
      refine AGo.region ?_
      refine AOps.s 28 rfl rfl rfl (q_move (.inl rfl) rfl) ?_
      refine AOps.s 29 rfl rfl rfl (q_inc rfl rfl hjl (by simp only [maxLen]; omega)) ?_
      refine AOps.s 8 rfl rfl rfl (q_move (.inr rfl) rfl) ?_
      refine AOps.nil ?_
      exact ⟨j+1, Drop.mk' (by repeat (first | exact EDrop.new _ _ | refine EDrop.put ?_ (by rfl) rfl)) (by repeat (first | exact HDrop.none _ _ | exact HDrop.tail _ _ | refine HDrop.put ?_ (by first | rfl | exact congrArg (fun cs => some (AObj.row false 5 [cs])) (by rw [curB_succ hy]; show [AV.lst false _, _, _, _, _] = [AV.lst false _, _, _, _, _]; rw [List.drop_zero, List.take_of_length_le (by simp), List.nil_append, curB_ins, List.map_append])) rfl rfl)), hjl, by omega⟩
    · -- False
      refine AGo.cond_false false rfl rfl ?_
      have hge2 := ge_of_idx hb2
      rw [curB_end hpi.1 hge2 hj]
      refine AGo.exit ?_
      refine AGo.seq ?_
      refine AGo.seq ?_
      refine AGo.region ?_
      refine AOps.s 61 rfl rfl rfl (q_fieldAddr tok rfl rfl rfl rfl rfl rfl) ?_
      refine AOps.s 62 rfl rfl rfl (q_load tok rfl rfl rfl (by first | exact .loc _ | exact .ptr _ _ _ _ _ _ _ _ rfl rfl rfl) rfl) ?_
      refine AOps.s 63 rfl rfl rfl (q_bin rfl rfl rfl rfl) ?_
      refine AOps.s 64 rfl rfl rfl (q_move (.inl rfl) rfl) ?_
      refine AOps.split 64 rfl (fun hb3 => ?_) (fun hb3 => ?_)
      · -- True
        refine AOps.k 65 rfl rfl rfl ?_
        refine AOps.k 66 rfl rfl rfl ?_
        refine AOps.k 67 rfl rfl rfl ?_
        refine AOps.s 68 rfl rfl rfl (q_pick_true true rfl rfl rfl rfl) ?_
        refine AOps.nil ?_
        refine AGo.cond_true true rfl rfl ?_
        refine AGo.region ?_
        refine AOps.s 69 rfl rfl rfl (q_move (.inl rfl) rfl) ?_
        refine AOps.s 70 rfl rfl rfl (q_fieldAddr tok rfl rfl rfl rfl rfl rfl) ?_
        refine AOps.s 71 rfl rfl rfl (q_load tok rfl rfl rfl (by first | exact .loc _ | exact .ptr _ _ _ _ _ _ _ _ rfl rfl rfl) rfl) ?_
        refine AOps.x 72 rfl rfl rfl (o_pure rfl Try.func33 (by kernel_rfl) rfl rfl rfl (rhead_ok _ _ (by assumption))) ?_
        refine AOps.s 73 rfl rfl rfl (q_fieldAddr tok rfl rfl rfl rfl rfl rfl) ?_
        refine AOps.w rfl rfl (o_store tok rfl rfl rfl rfl rfl rfl rfl rfl rfl (by decide) rfl (by first | exact fun _ => rfl | (intro h; cases h))) ?_
        refine AOps.nil ?_
        refine AGo.seq ?_
        refine AGo.seq ?_
        refine AGo.region ?_
        refine AOps.s 74 rfl rfl rfl (q_fieldAddr tok rfl rfl rfl rfl rfl rfl) ?_
        refine AOps.s 75 rfl rfl rfl (q_load tok rfl rfl rfl (by first | exact .loc _ | exact .ptr _ _ _ _ _ _ _ _ rfl rfl rfl) rfl) ?_
        refine AOps.s 76 rfl rfl rfl (q_bin rfl rfl rfl rfl) ?_
        refine AOps.nil ?_
        refine AGo.split 76 rfl (fun hb4 => ?_) (fun hb4 => ?_)
        · -- True
          refine AGo.cond_true true rfl rfl ?_
          refine AGo.region ?_
          refine AOps.s 77 rfl rfl rfl (q_move (.inl rfl) rfl) ?_
          refine AOps.s 78 rfl rfl rfl (q_fieldAddr tok rfl rfl rfl rfl rfl rfl) ?_
          refine AOps.s 79 rfl rfl rfl (q_load tok rfl rfl rfl (by first | exact .loc _ | exact .ptr _ _ _ _ _ _ _ _ rfl rfl rfl) rfl) ?_
          refine AOps.x 80 rfl rfl rfl (o_pure rfl Try.func33 (by kernel_rfl) rfl rfl rfl (rhead_ok _ _ (by assumption))) ?_
          refine AOps.s 81 rfl rfl rfl (q_fieldAddr tok rfl rfl rfl rfl rfl rfl) ?_
          refine AOps.w rfl rfl (o_store tok rfl rfl rfl rfl rfl rfl rfl rfl rfl (by decide) rfl (by first | exact fun _ => rfl | (intro h; cases h))) ?_
          refine AOps.nil ?_
          refine AGo.region ?_
          refine AOps.s 82 rfl rfl rfl (q_fieldAddr tok rfl rfl rfl rfl rfl rfl) ?_
          refine AOps.s 83 rfl rfl rfl (q_load tok rfl rfl rfl (by first | exact .loc _ | exact .ptr _ _ _ _ _ _ _ _ rfl rfl rfl) rfl) ?_
          refine AOps.s 84 rfl rfl rfl (q_load tok rfl rfl rfl (by first | exact .loc _ | exact .ptr _ _ _ _ _ _ _ _ rfl rfl rfl) rfl) ?_
          refine AOps.x 85 rfl rfl rfl (o_lit' tok rfl rfl rfl rfl rfl rfl (by decide) rfl rfl rfl rfl rfl rfl) ?_
          refine AOps.x 86 rfl rfl rfl (o_append tok (n := k) (m := 1) rfl rfl rfl rfl rfl rfl rfl rfl rfl (by simp; omega) rfl rfl (Nat.zero_lt_succ _) (.lst _ _) (by intro cs h; simp [partVals] at h; subst h; rfl) (fun _ cs h => by simp [partVals] at h; subst h; rfl) rfl (by simp [partVals]; show _ * 56 ≤ _; omega) (by simp [partVals]; simp only [maxLen]; omega)) ?_
          refine AOps.s 87 rfl rfl rfl (q_fieldAddr tok rfl rfl rfl rfl rfl rfl) ?_
          refine AOps.w rfl rfl (o_store tok rfl rfl rfl rfl rfl rfl rfl rfl rfl (by decide) rfl (by first | exact fun _ => rfl | (intro h; cases h))) ?_
          refine AOps.nil ?_
          refine AGo.region ?_
          refine AOps.s 19 rfl rfl rfl (q_move (.inl rfl) rfl) ?_
          refine AOps.s 20 rfl rfl rfl (q_inc rfl rfl hkl (by simp only [maxLen]; omega)) ?_
          refine AOps.s 6 rfl rfl rfl (q_move (.inr rfl) rfl) ?_
          refine AOps.nil ?_
          exact ⟨k+1, Drop.mk' (by repeat (first | exact EDrop.new _ _ | refine EDrop.put ?_ (by rfl) rfl)) (by repeat (first | exact HDrop.none _ _ | exact HDrop.tail _ _ | refine HDrop.put ?_ (by first | rfl | exact congrArg (fun es => some (AObj.row true 5 es)) (by rw [take_succ_eq hFB, List.map_append]; congr 1; show [[_, _, _, _, _]] = [[_, _, _, _, _]]; simp only [BFunc.refBlock, *]; rfl) | (exfalso; simp_all; done)) rfl rfl)), hkl, by omega⟩
        · -- False
          refine AGo.cond_false false rfl rfl ?_
          refine AGo.skip ?_
          refine AGo.region ?_
          refine AOps.s 82 rfl rfl rfl (q_fieldAddr tok rfl rfl rfl rfl rfl rfl) ?_
          refine AOps.s 83 rfl rfl rfl (q_load tok rfl rfl rfl (by first | exact .loc _ | exact .ptr _ _ _ _ _ _ _ _ rfl rfl rfl) rfl) ?_
          refine AOps.s 84 rfl rfl rfl (q_load tok rfl rfl rfl (by first | exact .loc _ | exact .ptr _ _ _ _ _ _ _ _ rfl rfl rfl) rfl) ?_
          refine AOps.x 85 rfl rfl rfl (o_lit' tok rfl rfl rfl rfl rfl rfl (by decide) rfl rfl rfl rfl rfl rfl) ?_
          refine AOps.x 86 rfl rfl rfl (o_append tok (n := k) (m := 1) rfl rfl rfl rfl rfl rfl rfl rfl rfl (by simp; omega) rfl rfl (Nat.zero_lt_succ _) (.lst _ _) (by intro cs h; simp [partVals] at h; subst h; rfl) (fun _ cs h => by simp [partVals] at h; subst h; rfl) rfl (by simp [partVals]; show _ * 56 ≤ _; omega) (by simp [partVals]; simp only [maxLen]; omega)) ?_
          refine AOps.s 87 rfl rfl rfl (q_fieldAddr tok rfl rfl rfl rfl rfl rfl) ?_
          refine AOps.w rfl rfl (o_store tok rfl rfl rfl rfl rfl rfl rfl rfl rfl (by decide) rfl (by first | exact fun _ => rfl | (intro h; cases h))) ?_
          refine AOps.nil ?_
          refine AGo.region ?_
          refine AOps.s 19 rfl rfl rfl (q_move (.inl rfl) rfl) ?_
          refine AOps.s 20 rfl rfl rfl (q_inc rfl rfl hkl (by simp only [maxLen]; omega)) ?_
          refine AOps.s 6 rfl rfl rfl (q_move (.inr rfl) rfl) ?_
          refine AOps.nil ?_
          exact ⟨k+1, Drop.mk' (by repeat (first | exact EDrop.new _ _ | refine EDrop.put ?_ (by rfl) rfl)) (by repeat (first | exact HDrop.none _ _ | exact HDrop.tail _ _ | refine HDrop.put ?_ (by first | rfl | exact congrArg (fun es => some (AObj.row true 5 es)) (by rw [take_succ_eq hFB, List.map_append]; congr 1; show [[_, _, _, _, _]] = [[_, _, _, _, _]]; simp only [BFunc.refBlock, *]; rfl) | (exfalso; simp_all; done)) rfl rfl)), hkl, by omega⟩
      · -- False
        refine AOps.s 65 rfl rfl rfl (q_fieldAddr tok rfl rfl rfl rfl rfl rfl) ?_
        refine AOps.s 66 rfl rfl rfl (q_load tok rfl rfl rfl (by first | exact .loc _ | exact .ptr _ _ _ _ _ _ _ _ rfl rfl rfl) rfl) ?_
        refine AOps.s 67 rfl rfl rfl (q_bin rfl rfl rfl rfl) ?_
        refine AOps.s 68 rfl rfl rfl (q_pick_false false rfl rfl rfl rfl) ?_
        refine AOps.nil ?_
        refine AGo.split 68 rfl (fun hb5 => ?_) (fun hb5 => ?_)
        · -- True
          refine AGo.cond_true true rfl rfl ?_
          refine AGo.region ?_
          refine AOps.s 69 rfl rfl rfl (q_move (.inl rfl) rfl) ?_
          refine AOps.s 70 rfl rfl rfl (q_fieldAddr tok rfl rfl rfl rfl rfl rfl) ?_
          refine AOps.s 71 rfl rfl rfl (q_load tok rfl rfl rfl (by first | exact .loc _ | exact .ptr _ _ _ _ _ _ _ _ rfl rfl rfl) rfl) ?_
          refine AOps.x 72 rfl rfl rfl (o_pure rfl Try.func33 (by kernel_rfl) rfl rfl rfl (rhead_ok _ _ (by assumption))) ?_
          refine AOps.s 73 rfl rfl rfl (q_fieldAddr tok rfl rfl rfl rfl rfl rfl) ?_
          refine AOps.w rfl rfl (o_store tok rfl rfl rfl rfl rfl rfl rfl rfl rfl (by decide) rfl (by first | exact fun _ => rfl | (intro h; cases h))) ?_
          refine AOps.nil ?_
          refine AGo.seq ?_
          refine AGo.seq ?_
          refine AGo.region ?_
          refine AOps.s 74 rfl rfl rfl (q_fieldAddr tok rfl rfl rfl rfl rfl rfl) ?_
          refine AOps.s 75 rfl rfl rfl (q_load tok rfl rfl rfl (by first | exact .loc _ | exact .ptr _ _ _ _ _ _ _ _ rfl rfl rfl) rfl) ?_
          refine AOps.s 76 rfl rfl rfl (q_bin rfl rfl rfl rfl) ?_
          refine AOps.nil ?_
          refine AGo.split 76 rfl (fun hb6 => ?_) (fun hb6 => ?_)
          · -- True
            refine AGo.cond_true true rfl rfl ?_
            refine AGo.region ?_
            refine AOps.s 77 rfl rfl rfl (q_move (.inl rfl) rfl) ?_
            refine AOps.s 78 rfl rfl rfl (q_fieldAddr tok rfl rfl rfl rfl rfl rfl) ?_
            refine AOps.s 79 rfl rfl rfl (q_load tok rfl rfl rfl (by first | exact .loc _ | exact .ptr _ _ _ _ _ _ _ _ rfl rfl rfl) rfl) ?_
            refine AOps.x 80 rfl rfl rfl (o_pure rfl Try.func33 (by kernel_rfl) rfl rfl rfl (rhead_ok _ _ (by assumption))) ?_
            refine AOps.s 81 rfl rfl rfl (q_fieldAddr tok rfl rfl rfl rfl rfl rfl) ?_
            refine AOps.w rfl rfl (o_store tok rfl rfl rfl rfl rfl rfl rfl rfl rfl (by decide) rfl (by first | exact fun _ => rfl | (intro h; cases h))) ?_
            refine AOps.nil ?_
            refine AGo.region ?_
            refine AOps.s 82 rfl rfl rfl (q_fieldAddr tok rfl rfl rfl rfl rfl rfl) ?_
            refine AOps.s 83 rfl rfl rfl (q_load tok rfl rfl rfl (by first | exact .loc _ | exact .ptr _ _ _ _ _ _ _ _ rfl rfl rfl) rfl) ?_
            refine AOps.s 84 rfl rfl rfl (q_load tok rfl rfl rfl (by first | exact .loc _ | exact .ptr _ _ _ _ _ _ _ _ rfl rfl rfl) rfl) ?_
            refine AOps.x 85 rfl rfl rfl (o_lit' tok rfl rfl rfl rfl rfl rfl (by decide) rfl rfl rfl rfl rfl rfl) ?_
            refine AOps.x 86 rfl rfl rfl (o_append tok (n := k) (m := 1) rfl rfl rfl rfl rfl rfl rfl rfl rfl (by simp; omega) rfl rfl (Nat.zero_lt_succ _) (.lst _ _) (by intro cs h; simp [partVals] at h; subst h; rfl) (fun _ cs h => by simp [partVals] at h; subst h; rfl) rfl (by simp [partVals]; show _ * 56 ≤ _; omega) (by simp [partVals]; simp only [maxLen]; omega)) ?_
            refine AOps.s 87 rfl rfl rfl (q_fieldAddr tok rfl rfl rfl rfl rfl rfl) ?_
            refine AOps.w rfl rfl (o_store tok rfl rfl rfl rfl rfl rfl rfl rfl rfl (by decide) rfl (by first | exact fun _ => rfl | (intro h; cases h))) ?_
            refine AOps.nil ?_
            refine AGo.region ?_
            refine AOps.s 19 rfl rfl rfl (q_move (.inl rfl) rfl) ?_
            refine AOps.s 20 rfl rfl rfl (q_inc rfl rfl hkl (by simp only [maxLen]; omega)) ?_
            refine AOps.s 6 rfl rfl rfl (q_move (.inr rfl) rfl) ?_
            refine AOps.nil ?_
            exact ⟨k+1, Drop.mk' (by repeat (first | exact EDrop.new _ _ | refine EDrop.put ?_ (by rfl) rfl)) (by repeat (first | exact HDrop.none _ _ | exact HDrop.tail _ _ | refine HDrop.put ?_ (by first | rfl | exact congrArg (fun es => some (AObj.row true 5 es)) (by rw [take_succ_eq hFB, List.map_append]; congr 1; show [[_, _, _, _, _]] = [[_, _, _, _, _]]; simp only [BFunc.refBlock, *]; rfl) | (exfalso; simp_all; done)) rfl rfl)), hkl, by omega⟩
          · -- False
            refine AGo.cond_false false rfl rfl ?_
            refine AGo.skip ?_
            refine AGo.region ?_
            refine AOps.s 82 rfl rfl rfl (q_fieldAddr tok rfl rfl rfl rfl rfl rfl) ?_
            refine AOps.s 83 rfl rfl rfl (q_load tok rfl rfl rfl (by first | exact .loc _ | exact .ptr _ _ _ _ _ _ _ _ rfl rfl rfl) rfl) ?_
            refine AOps.s 84 rfl rfl rfl (q_load tok rfl rfl rfl (by first | exact .loc _ | exact .ptr _ _ _ _ _ _ _ _ rfl rfl rfl) rfl) ?_
            refine AOps.x 85 rfl rfl rfl (o_lit' tok rfl rfl rfl rfl rfl rfl (by decide) rfl rfl rfl rfl rfl rfl) ?_
            refine AOps.x 86 rfl rfl rfl (o_append tok (n := k) (m := 1) rfl rfl rfl rfl rfl rfl rfl rfl rfl (by simp; omega) rfl rfl (Nat.zero_lt_succ _) (.lst _ _) (by intro cs h; simp [partVals] at h; subst h; rfl) (fun _ cs h => by simp [partVals] at h; subst h; rfl) rfl (by simp [partVals]; show _ * 56 ≤ _; omega) (by simp [partVals]; simp only [maxLen]; omega)) ?_
            refine AOps.s 87 rfl rfl rfl (q_fieldAddr tok rfl rfl rfl rfl rfl rfl) ?_
            refine AOps.w rfl rfl (o_store tok rfl rfl rfl rfl rfl rfl rfl rfl rfl (by decide) rfl (by first | exact fun _ => rfl | (intro h; cases h))) ?_
            refine AOps.nil ?_
            refine AGo.region ?_
            refine AOps.s 19 rfl rfl rfl (q_move (.inl rfl) rfl) ?_
            refine AOps.s 20 rfl rfl rfl (q_inc rfl rfl hkl (by simp only [maxLen]; omega)) ?_
            refine AOps.s 6 rfl rfl rfl (q_move (.inr rfl) rfl) ?_
            refine AOps.nil ?_
            exact ⟨k+1, Drop.mk' (by repeat (first | exact EDrop.new _ _ | refine EDrop.put ?_ (by rfl) rfl)) (by repeat (first | exact HDrop.none _ _ | exact HDrop.tail _ _ | refine HDrop.put ?_ (by first | rfl | exact congrArg (fun es => some (AObj.row true 5 es)) (by rw [take_succ_eq hFB, List.map_append]; congr 1; show [[_, _, _, _, _]] = [[_, _, _, _, _]]; simp only [BFunc.refBlock, *]; rfl) | (exfalso; simp_all; done)) rfl rfl)), hkl, by omega⟩
        · -- False
          refine AGo.cond_false false rfl rfl ?_
          refine AGo.skip ?_
          refine AGo.seq ?_
          refine AGo.seq ?_
          refine AGo.region ?_
          refine AOps.s 74 rfl rfl rfl (q_fieldAddr tok rfl rfl rfl rfl rfl rfl) ?_
          refine AOps.s 75 rfl rfl rfl (q_load tok rfl rfl rfl (by first | exact .loc _ | exact .ptr _ _ _ _ _ _ _ _ rfl rfl rfl) rfl) ?_
          refine AOps.s 76 rfl rfl rfl (q_bin rfl rfl rfl rfl) ?_
          refine AOps.nil ?_
          refine AGo.split 76 rfl (fun hb7 => ?_) (fun hb7 => ?_)
          · -- True
            refine AGo.cond_true true rfl rfl ?_
            refine AGo.region ?_
            refine AOps.s 77 rfl rfl rfl (q_move (.inl rfl) rfl) ?_
            refine AOps.s 78 rfl rfl rfl (q_fieldAddr tok rfl rfl rfl rfl rfl rfl) ?_
            refine AOps.s 79 rfl rfl rfl (q_load tok rfl rfl rfl (by first | exact .loc _ | exact .ptr _ _ _ _ _ _ _ _ rfl rfl rfl) rfl) ?_
            refine AOps.x 80 rfl rfl rfl (o_pure rfl Try.func33 (by kernel_rfl) rfl rfl rfl (rhead_ok _ _ (by assumption))) ?_
            refine AOps.s 81 rfl rfl rfl (q_fieldAddr tok rfl rfl rfl rfl rfl rfl) ?_
            refine AOps.w rfl rfl (o_store tok rfl rfl rfl rfl rfl rfl rfl rfl rfl (by decide) rfl (by first | exact fun _ => rfl | (intro h; cases h))) ?_
            refine AOps.nil ?_
            refine AGo.region ?_
            refine AOps.s 82 rfl rfl rfl (q_fieldAddr tok rfl rfl rfl rfl rfl rfl) ?_
            refine AOps.s 83 rfl rfl rfl (q_load tok rfl rfl rfl (by first | exact .loc _ | exact .ptr _ _ _ _ _ _ _ _ rfl rfl rfl) rfl) ?_
            refine AOps.s 84 rfl rfl rfl (q_load tok rfl rfl rfl (by first | exact .loc _ | exact .ptr _ _ _ _ _ _ _ _ rfl rfl rfl) rfl) ?_
            refine AOps.x 85 rfl rfl rfl (o_lit' tok rfl rfl rfl rfl rfl rfl (by decide) rfl rfl rfl rfl rfl rfl) ?_
            refine AOps.x 86 rfl rfl rfl (o_append tok (n := k) (m := 1) rfl rfl rfl rfl rfl rfl rfl rfl rfl (by simp; omega) rfl rfl (Nat.zero_lt_succ _) (.lst _ _) (by intro cs h; simp [partVals] at h; subst h; rfl) (fun _ cs h => by simp [partVals] at h; subst h; rfl) rfl (by simp [partVals]; show _ * 56 ≤ _; omega) (by simp [partVals]; simp only [maxLen]; omega)) ?_
            refine AOps.s 87 rfl rfl rfl (q_fieldAddr tok rfl rfl rfl rfl rfl rfl) ?_
            refine AOps.w rfl rfl (o_store tok rfl rfl rfl rfl rfl rfl rfl rfl rfl (by decide) rfl (by first | exact fun _ => rfl | (intro h; cases h))) ?_
            refine AOps.nil ?_
            refine AGo.region ?_
            refine AOps.s 19 rfl rfl rfl (q_move (.inl rfl) rfl) ?_
            refine AOps.s 20 rfl rfl rfl (q_inc rfl rfl hkl (by simp only [maxLen]; omega)) ?_
            refine AOps.s 6 rfl rfl rfl (q_move (.inr rfl) rfl) ?_
            refine AOps.nil ?_
            exact ⟨k+1, Drop.mk' (by repeat (first | exact EDrop.new _ _ | refine EDrop.put ?_ (by rfl) rfl)) (by repeat (first | exact HDrop.none _ _ | exact HDrop.tail _ _ | refine HDrop.put ?_ (by first | rfl | exact congrArg (fun es => some (AObj.row true 5 es)) (by rw [take_succ_eq hFB, List.map_append]; congr 1; show [[_, _, _, _, _]] = [[_, _, _, _, _]]; simp only [BFunc.refBlock, *]; rfl) | (exfalso; simp_all; done)) rfl rfl)), hkl, by omega⟩
          · -- False
            refine AGo.cond_false false rfl rfl ?_
            refine AGo.skip ?_
            refine AGo.region ?_
            refine AOps.s 82 rfl rfl rfl (q_fieldAddr tok rfl rfl rfl rfl rfl rfl) ?_
            refine AOps.s 83 rfl rfl rfl (q_load tok rfl rfl rfl (by first | exact .loc _ | exact .ptr _ _ _ _ _ _ _ _ rfl rfl rfl) rfl) ?_
            refine AOps.s 84 rfl rfl rfl (q_load tok rfl rfl rfl (by first | exact .loc _ | exact .ptr _ _ _ _ _ _ _ _ rfl rfl rfl) rfl) ?_
            refine AOps.x 85 rfl rfl rfl (o_lit' tok rfl rfl rfl rfl rfl rfl (by decide) rfl rfl rfl rfl rfl rfl) ?_
            refine AOps.x 86 rfl rfl rfl (o_append tok (n := k) (m := 1) rfl rfl rfl rfl rfl rfl rfl rfl rfl (by simp; omega) rfl rfl (Nat.zero_lt_succ _) (.lst _ _) (by intro cs h; simp [partVals] at h; subst h; rfl) (fun _ cs h => by simp [partVals] at h; subst h; rfl) rfl (by simp [partVals]; show _ * 56 ≤ _; omega) (by simp [partVals]; simp only [maxLen]; omega)) ?_
            refine AOps.s 87 rfl rfl rfl (q_fieldAddr tok rfl rfl rfl rfl rfl rfl) ?_
            refine AOps.w rfl rfl (o_store tok rfl rfl rfl rfl rfl rfl rfl rfl rfl (by decide) rfl (by first | exact fun _ => rfl | (intro h; cases h))) ?_
            refine AOps.nil ?_
            refine AGo.region ?_
            refine AOps.s 19 rfl rfl rfl (q_move (.inl rfl) rfl) ?_
            refine AOps.s 20 rfl rfl rfl (q_inc rfl rfl hkl (by simp only [maxLen]; omega)) ?_
            refine AOps.s 6 rfl rfl rfl (q_move (.inr rfl) rfl) ?_
            refine AOps.nil ?_
            exact ⟨k+1, Drop.mk' (by repeat (first | exact EDrop.new _ _ | refine EDrop.put ?_ (by rfl) rfl)) (by repeat (first | exact HDrop.none _ _ | exact HDrop.tail _ _ | refine HDrop.put ?_ (by first | rfl | exact congrArg (fun es => some (AObj.row true 5 es)) (by rw [take_succ_eq hFB, List.map_append]; congr 1; show [[_, _, _, _, _]] = [[_, _, _, _, _]]; simp only [BFunc.refBlock, *]; rfl) | (exfalso; simp_all; done)) rfl rfl)), hkl, by omega⟩
  · -- False
    refine AGo.cond_false false rfl rfl ?_
    have hge := ge_of_idx hb1
    obtain rfl : k = f.tpaths.length := by omega
    refine AGo.exit ?_
    refine AGo.seq ?_
    refine AGo.ghost (.freezeCell 2 0 1 3 rfl rfl rfl rfl (by simp) (by decide)) ?_
    refine AGo.region ?_
    refine AOps.s 88 rfl rfl rfl (q_load tok rfl rfl rfl (by first | exact .loc _ | exact .ptr _ _ _ _ _ _ _ _ rfl rfl rfl) rfl) ?_
    refine AOps.s 89 rfl rfl rfl (q_move (.inl rfl) rfl) ?_
    refine AOps.w rfl rfl (o_store tok rfl rfl rfl rfl rfl rfl rfl rfl rfl (by decide) rfl (by first | exact fun _ => rfl | (intro h; cases h))) ?_
    refine AOps.s 3 rfl rfl rfl (q_move (.inr rfl) rfl) ?_
    refine AOps.nil ?_
    refine AGo.ret ?_
    refine ⟨[_, _], ⟨⟨_, _, _, _, rfl, rfl, .ptr _ _ _ _ _ _ _ _ rfl rfl rfl, rfl⟩, rfl, trivial⟩, ?_, rfl⟩
    show AV.tup [.agg [_, .lst false _], _] = AV.tup [.agg [_, .lst false _], _]
    rw [List.drop_zero, List.take_of_length_le (by simp), List.take_of_length_le (by simp), ref_tidy hle hne]
    rfl

end Go.Proofs.Ytidfabbnobipkaa.Sv

namespace Go.Proofs.Ytidfabbnobipkaa.Sv
open Go
set_option linter.unusedVariables false
set_option linter.unusedSimpArgs false

set_option maxRecDepth 100000 in
theorem same_ok (a b : List (List Int)) (hl : a.length ≤ 1000000) (hp : ∀ p ∈ a, p.length ≤ 1000000000) : APure Try.prog 16 [pathsAV a, pathsAV b] (fun r => r = .bool (decide (a = b))) := by
  refine APure.of_body (n := 27) tok Try.func16 rfl rfl ?_
  refine AGo.seq ?_
  refine AGo.region ?_
  refine AOps.s 4 rfl rfl rfl (q_move (.inr rfl) rfl) ?_
  refine AOps.nil ?_
  refine AGo.seq ?_
  refine AGo.seq ?_
  refine AGo.region ?_
  refine AOps.s 6 rfl rfl rfl (q_move (.inl rfl) rfl) ?_
  refine AOps.s 7 rfl rfl rfl (q_len tok rfl rfl rfl rfl rfl) ?_
  refine AOps.s 8 rfl rfl rfl (q_move (.inl rfl) rfl) ?_
  refine AOps.s 9 rfl rfl rfl (q_len tok rfl rfl rfl rfl rfl) ?_
  refine AOps.s 10 rfl rfl rfl (q_bin rfl rfl rfl rfl) ?_
  refine AOps.nil ?_
  refine AGo.split 10 rfl (fun hb1 => ?_) (fun hb1 => ?_)
  · -- True
    refine AGo.cond_true true rfl rfl ?_
    have hlr : a.length ≠ b.length := by have h := hb1; simp at h; omega
    refine AGo.seq ?_
    refine AGo.region ?_
    refine AOps.s 4 rfl rfl rfl (q_move (.inr rfl) rfl) ?_
    refine AOps.nil ?_
    refine AGo.ret ?_
    refine ⟨[_], ⟨rfl, trivial⟩, ?_, rfl⟩
    show AV.bool _ = AV.bool _
    congr 1
    exact (decide_eq_false (by rintro rfl; exact hlr rfl)).symm
  · -- False
    refine AGo.cond_false false rfl rfl ?_
    have hlr : a.length = b.length := by have h := hb1; simp at h; omega
    refine AGo.skip ?_
    refine AGo.seq ?_
    refine AGo.seq ?_
    refine AGo.region ?_
    refine AOps.s 5 rfl rfl rfl (q_move (.inr rfl) rfl) ?_
    refine AOps.nil ?_
    refine AGo.block ?_
    refine AGo.loopI (γ := Nat) (fun k => ⟨27, (eput (eput (eput eNew 0 (pathsAV a)) 1 (pathsAV b)) 5 (.int .i64 (k : Int))), hNone⟩) (fun k => a.take k = b.take k) (fun k => a.length - k) 0 (Sub.mk' (by repeat (first | exact ESub.new _ | refine ESub.put ?_ (by rfl))) (by repeat (first | exact HSub.none _ | exact HSub.from_new _ | exact HSub.from_from (by first | decide | omega | (dsimp only; omega)) | refine HSub.put ?_ (by rfl) | refine HSub.from_put ?_ (by first | decide | omega | (dsimp only; omega)) | refine HSub.from_rm ?_ (by decide)))) rfl ?_
    intro k ht
    refine AGo.seq ?_
    refine AGo.seq ?_
    refine AGo.region ?_
    refine AOps.s 11 rfl rfl rfl (q_move (.inl rfl) rfl) ?_
    refine AOps.s 12 rfl rfl rfl (q_move (.inl rfl) rfl) ?_
    refine AOps.s 13 rfl rfl rfl (q_len tok rfl rfl rfl rfl rfl) ?_
    refine AOps.s 14 rfl rfl rfl (q_bin rfl rfl rfl rfl) ?_
    refine AOps.nil ?_
    refine AGo.split 14 rfl (fun hb2 => ?_) (fun hb2 => ?_)
    · -- True
      refine AGo.cond_true true rfl rfl ?_
      have hkl : k < a.length := lt_of_idx hb2
      obtain ⟨x, hx⟩ := get_of_lt hkl
      obtain ⟨y, hy⟩ := get_of_lt (l := b) (k := k) (by omega)
      refine AGo.skip ?_
      refine AGo.seq ?_
      refine AGo.block ?_
      refine AGo.seq ?_
      refine AGo.draw mix ?_
      refine DOps.s 17 rfl rfl rfl (q_move (.inl rfl) rfl) ?_
      refine DOps.s 18 rfl rfl rfl (q_move (.inl rfl) rfl) ?_
      refine DOps.s 19 rfl rfl rfl (q_index_lst tok rfl rfl rfl rfl rfl rfl (Int.natCast_nonneg _) (idx_map hx) rfl) ?_
      refine DOps.s 20 rfl rfl rfl (q_load tok rfl rfl rfl (by first | exact .loc _ | exact .ptr _ _ _ _ _ _ _ _ rfl rfl rfl) rfl) ?_
      refine DOps.s 21 rfl rfl rfl (q_move (.inl rfl) rfl) ?_
      refine DOps.s 22 rfl rfl rfl (q_move (.inl rfl) rfl) ?_
      refine DOps.s 23 rfl rfl rfl (q_index_lst tok rfl rfl rfl rfl rfl rfl (Int.natCast_nonneg _) (idx_map hy) rfl) ?_
      refine DOps.s 24 rfl rfl rfl (q_load tok rfl rfl rfl (by first | exact .loc _ | exact .ptr _ _ _ _ _ _ _ _ rfl rfl rfl) rfl) ?_
      refine DOps.x 25 rfl rfl rfl (o_pure rfl Try.func26 (by kernel_rfl) rfl rfl rfl (list_ok x y (hp x (List.mem_of_getElem? hx)))) ?_
      refine DOps.s 26 rfl rfl rfl (q_not rfl rfl) ?_
      refine DOps.nil (by kernel_rfl) ?_
      refine AGo.split 26 rfl (fun hb3 => ?_) (fun hb3 => ?_)
      · -- True
        refine AGo.cond_true true rfl rfl ?_
        have hxy : x ≠ y := by simpa using hb3
        refine AGo.seq ?_
        refine AGo.region ?_
        refine AOps.s 4 rfl rfl rfl (q_move (.inr rfl) rfl) ?_
        refine AOps.nil ?_
        refine AGo.ret ?_
        refine ⟨[_], ⟨rfl, trivial⟩, ?_, rfl⟩
        show AV.bool _ = AV.bool _
        congr 1
        exact (decide_eq_false (by rintro rfl; rw [hx] at hy; cases hy; exact hxy rfl)).symm
      · -- False
        refine AGo.cond_false false rfl rfl ?_
        have hxy : x = y := by simpa using hb3
        refine AGo.skip ?_
        refine AGo.region ?_
        refine AOps.s 15 rfl rfl rfl (q_move (.inl rfl) rfl) ?_
        refine AOps.s 16 rfl rfl rfl (q_inc rfl rfl hkl (by simp only [maxLen]; omega)) ?_
        refine AOps.s 5 rfl rfl rfl (q_move (.inr rfl) rfl) ?_
        refine AOps.nil ?_
        exact ⟨k+1, Sub.mk' (by repeat (first | exact ESub.new _ | refine ESub.put ?_ (by rfl))) (by repeat (first | exact HSub.none _ | exact HSub.from_new _ | exact HSub.from_from (by first | decide | omega | (dsimp only; omega)) | refine HSub.put ?_ (by rfl) | refine HSub.from_put ?_ (by first | decide | omega | (dsimp only; omega)) | refine HSub.from_rm ?_ (by decide))), (by rw [take_succ_eq hx, take_succ_eq hy, ht, hxy]), by omega⟩
    · -- False
      refine AGo.cond_false false rfl rfl ?_
      have hge := ge_of_idx hb2
      refine AGo.exit ?_
      refine AGo.seq ?_
      refine AGo.region ?_
      refine AOps.s 4 rfl rfl rfl (q_move (.inr rfl) rfl) ?_
      refine AOps.nil ?_
      refine AGo.ret ?_
      refine ⟨[_], ⟨rfl, trivial⟩, ?_, rfl⟩
      show AV.bool _ = AV.bool _
      congr 1
      exact (decide_eq_true (take_all ht hge (hlr ▸ hge))).symm

set_option maxRecDepth 100000 in
theorem lawTidyOf_ok (b : Blocks) (i : Int) (hb : b.Ok) (hi : 0 ≤ i ∧ i ≤ 255) : APure Try.prog 3 [.agg b.cells, .int .u8 i] (fun r => r = .bool true) := by
  refine APure.of_body (n := 58) tok Try.func3 rfl rfl ?_
  refine AGo.seq ?_
  refine AGo.region ?_
  refine AOps.x 2 rfl rfl rfl (o_box (sz := 2) 0 rfl rfl rfl rfl (Nat.zero_lt_succ _) rfl) ?_
  refine AOps.s 4 rfl rfl rfl (q_move (.inr rfl) rfl) ?_
  refine AOps.nil ?_
  refine AGo.seq ?_
  refine AGo.seq ?_
  refine AGo.region ?_
  refine AOps.x 9 rfl rfl rfl (o_pure rfl Try.func11 (by kernel_rfl) rfl rfl rfl (awake_ok)) ?_
  refine AOps.s 10 rfl rfl rfl (q_not rfl rfl) ?_
  refine AOps.nil ?_
  refine AGo.cond_false false rfl rfl ?_
  refine AGo.skip ?_
  refine AGo.seq ?_
  refine AGo.seq ?_
  refine AGo.region ?_
  refine AOps.s 11 rfl rfl rfl (q_load tok rfl rfl rfl (by first | exact .loc _ | exact .ptr _ _ _ _ _ _ _ _ rfl rfl rfl) rfl) ?_
  refine AOps.x 12 rfl rfl rfl (o_pure rfl Try.func12 (by kernel_rfl) rfl rfl rfl (small_ok b 150 hb.tight)) ?_
  refine AOps.s 13 rfl rfl rfl (q_not rfl rfl) ?_
  refine AOps.s 14 rfl rfl rfl (q_move (.inl rfl) rfl) ?_
  refine AOps.split 14 rfl (fun hb1 => ?_) (fun hb1 => ?_)
  · -- True
    refine AOps.k 15 rfl rfl rfl ?_
    refine AOps.k 16 rfl rfl rfl ?_
    refine AOps.k 17 rfl rfl rfl ?_
    refine AOps.k 18 rfl rfl rfl ?_
    refine AOps.k 19 rfl rfl rfl ?_
    refine AOps.k 20 rfl rfl rfl ?_
    refine AOps.s 21 rfl rfl rfl (q_pick_true true rfl rfl rfl rfl) ?_
    refine AOps.nil ?_
    refine AGo.cond_true true rfl rfl ?_
    refine AGo.seq ?_
    refine AGo.region ?_
    refine AOps.s 4 rfl rfl rfl (q_move (.inr rfl) rfl) ?_
    refine AOps.nil ?_
    refine AGo.ret ?_
    refine ⟨[_], ⟨rfl, trivial⟩, ?_, rfl⟩
    rfl
  · -- False
    have hsm : b.small 150 = true := by simpa using hb1
    refine AOps.s 15 rfl rfl rfl (q_move (.inl rfl) rfl) ?_
    refine AOps.s 16 rfl rfl rfl (q_convInt tok rfl rfl rfl rfl rfl) ?_
    refine AOps.s 17 rfl rfl rfl (q_fieldAddr tok rfl rfl rfl rfl rfl rfl) ?_
    refine AOps.s 18 rfl rfl rfl (q_load tok rfl rfl rfl (by first | exact .loc _ | exact .ptr _ _ _ _ _ _ _ _ rfl rfl rfl) rfl) ?_
    refine AOps.s 19 rfl rfl rfl (q_len tok rfl rfl rfl rfl rfl) ?_
    refine AOps.s 20 rfl rfl rfl (q_bin rfl rfl rfl rfl) ?_
    refine AOps.s 21 rfl rfl rfl (q_pick_false false rfl rfl rfl rfl) ?_
    refine AOps.nil ?_
    refine AGo.split 21 rfl (fun hb2 => ?_) (fun hb2 => ?_)
    · -- True
      refine AGo.cond_true true rfl rfl ?_
      refine AGo.seq ?_
      refine AGo.region ?_
      refine AOps.s 4 rfl rfl rfl (q_move (.inr rfl) rfl) ?_
      refine AOps.nil ?_
      refine AGo.ret ?_
      refine ⟨[_], ⟨rfl, trivial⟩, ?_, rfl⟩
      rfl
    · -- False
      refine AGo.cond_false false rfl rfl ?_
      have hil : i.toNat < b.funcs.length := by
        have h := hb2
        rw [wrap_i64 (by omega) (by omega)] at h
        simp [blocksAV, funcsAV] at h
        omega
      obtain ⟨f, hf⟩ := get_of_lt hil
      obtain ⟨htame, hfn, hins, hfl⟩ := tameS (by decide) hsm hf
      have hle := htame.leads
      have htl := tidy_blocks_len f
      have htpl : f.tpaths.length ≤ 1000000 := by have := pathsTo_length f f.blocks.length; unfold BFunc.tpaths; omega
      have htpq : ∀ p ∈ f.tpaths, p.length ≤ f.blocks.length + 1 := fun p hp => pathsTo_len f.blocks.length p hp
      have htpp : ∀ p ∈ f.tpaths, p.length ≤ 1000000000 := fun p hp => by have := htpq p hp; omega
      have htpl2 := pathsTo_length f f.blocks.length
      have htpe : f.tpaths.length = (f.pathsTo f.blocks.length).length := rfl
      refine AGo.skip ?_
      refine AGo.seq ?_
      refine AGo.region ?_
      refine AOps.s 23 rfl rfl rfl (q_fieldAddr tok rfl rfl rfl rfl rfl rfl) ?_
      refine AOps.s 24 rfl rfl rfl (q_load tok rfl rfl rfl (by first | exact .loc _ | exact .ptr _ _ _ _ _ _ _ _ rfl rfl rfl) rfl) ?_
      refine AOps.s 25 rfl rfl rfl (q_move (.inl rfl) rfl) ?_
      refine AOps.s 26 rfl rfl rfl (q_index_lst tok rfl rfl rfl rfl rfl rfl hi.1 (idx_mapN hf) rfl) ?_
      refine AOps.s 27 rfl rfl rfl (q_load tok rfl rfl rfl (by first | exact .loc _ | exact .ptr _ _ _ _ _ _ _ _ rfl rfl rfl) rfl) ?_
      refine AOps.x 28 rfl rfl rfl (o_pure rfl Try.func13 (by kernel_rfl) rfl rfl rfl (tidyOf_ok f htame)) ?_
      refine AOps.s 22 rfl rfl rfl (q_move (.inl rfl) rfl) ?_
      refine AOps.s 29 rfl rfl rfl (q_extract rfl rfl rfl) ?_
      refine AOps.s 30 rfl rfl rfl (q_extract rfl rfl rfl) ?_
      refine AOps.x 5 rfl rfl rfl (o_alloc tok 1 rfl rfl rfl rfl (Nat.zero_lt_succ _) rfl) ?_
      refine AOps.w rfl rfl (o_store tok rfl rfl rfl rfl rfl rfl rfl rfl rfl (by decide) rfl (by first | exact fun _ => rfl | (intro h; cases h))) ?_
      refine AOps.s 6 rfl rfl rfl (q_move (.inr rfl) rfl) ?_
      refine AOps.nil ?_
      refine AGo.seq ?_
      refine AGo.region ?_
      refine AOps.s 32 rfl rfl rfl (q_fieldAddr tok rfl rfl rfl rfl rfl rfl) ?_
      refine AOps.s 33 rfl rfl rfl (q_load tok rfl rfl rfl (by first | exact .loc _ | exact .ptr _ _ _ _ _ _ _ _ rfl rfl rfl) rfl) ?_
      refine AOps.s 34 rfl rfl rfl (q_move (.inl rfl) rfl) ?_
      refine AOps.s 35 rfl rfl rfl (q_index_lst tok rfl rfl rfl rfl rfl rfl hi.1 (idx_mapN hf) rfl) ?_
      refine AOps.s 36 rfl rfl rfl (q_load tok rfl rfl rfl (by first | exact .loc _ | exact .ptr _ _ _ _ _ _ _ _ rfl rfl rfl) rfl) ?_
      refine AOps.x 37 rfl rfl rfl (o_pure rfl Try.func14 (by kernel_rfl) rfl rfl rfl (rof_ok f htame.mild htame.ins hle hfn)) ?_
      refine AOps.s 31 rfl rfl rfl (q_move (.inl rfl) rfl) ?_
      refine AOps.s 38 rfl rfl rfl (q_extract rfl rfl rfl) ?_
      refine AOps.s 39 rfl rfl rfl (q_extract rfl rfl rfl) ?_
      refine AOps.x 7 rfl rfl rfl (o_alloc tok 2 rfl rfl rfl rfl (Nat.zero_lt_succ _) rfl) ?_
      refine AOps.w rfl rfl (o_store tok rfl rfl rfl rfl rfl rfl rfl rfl rfl (by decide) rfl (by first | exact fun _ => rfl | (intro h; cases h))) ?_
      refine AOps.s 8 rfl rfl rfl (q_move (.inr rfl) rfl) ?_
      refine AOps.nil ?_
      refine AGo.seq ?_
      refine AGo.draw mix ?_
      refine DOps.s 40 rfl rfl rfl (q_load tok rfl rfl rfl (by first | exact .loc _ | exact .ptr _ _ _ _ _ _ _ _ rfl rfl rfl) rfl) ?_
      refine DOps.s 41 rfl rfl rfl (q_load tok rfl rfl rfl (by first | exact .loc _ | exact .ptr _ _ _ _ _ _ _ _ rfl rfl rfl) rfl) ?_
      refine DOps.x 42 rfl rfl rfl (o_pure rfl Try.func15 (by kernel_rfl) rfl rfl rfl ((sameFunc_ok f.tidy f.tidy).mono (fun r h => by rw [h, decide_eq_true rfl]))) ?_
      refine DOps.s 43 rfl rfl rfl (q_move (.inl rfl) rfl) ?_
      refine DOps.s 44 rfl rfl rfl (q_move (.inl rfl) rfl) ?_
      refine DOps.s 45 rfl rfl rfl (q_move (.inl rfl) rfl) ?_
      refine DOps.x 46 rfl rfl rfl (o_pure rfl Try.func16 (by kernel_rfl) rfl rfl rfl ((same_ok f.tpaths f.tpaths htpl htpp).mono (fun r h => by rw [h, decide_eq_true rfl]))) ?_
      refine DOps.s 47 rfl rfl rfl (q_pick_true true rfl rfl rfl rfl) ?_
      refine DOps.s 48 rfl rfl rfl (q_move (.inl rfl) rfl) ?_
      refine DOps.s 49 rfl rfl rfl (q_fieldAddr tok rfl rfl rfl rfl rfl rfl) ?_
      refine DOps.s 50 rfl rfl rfl (q_load tok rfl rfl rfl (by first | exact .loc _ | exact .ptr _ _ _ _ _ _ _ _ rfl rfl rfl) rfl) ?_
      refine DOps.s 51 rfl rfl rfl (q_move (.inl rfl) rfl) ?_
      refine DOps.s 52 rfl rfl rfl (q_index_lst tok rfl rfl rfl rfl rfl rfl hi.1 (idx_mapN hf) rfl) ?_
      refine DOps.s 53 rfl rfl rfl (q_load tok rfl rfl rfl (by first | exact .loc _ | exact .ptr _ _ _ _ _ _ _ _ rfl rfl rfl) rfl) ?_
      refine DOps.s 54 rfl rfl rfl (q_load tok rfl rfl rfl (by first | exact .loc _ | exact .ptr _ _ _ _ _ _ _ _ rfl rfl rfl) rfl) ?_
      refine DOps.s 55 rfl rfl rfl (q_move (.inl rfl) rfl) ?_
      refine DOps.x 56 rfl rfl rfl (o_pure rfl Try.func17 (by kernel_rfl) rfl rfl rfl ((check_ok f f.tidy f.tpaths (tidy_lens htame) (by omega) (fun p hp => by have := htpq p hp; omega)).mono (fun r h => by rw [h, check_iff.2 (tidy_holds hle hfn)]))) ?_
      refine DOps.s 57 rfl rfl rfl (q_pick_true true rfl rfl rfl rfl) ?_
      refine DOps.s 4 rfl rfl rfl (q_move (.inr rfl) rfl) ?_
      refine DOps.nil (by kernel_rfl) ?_
      refine AGo.ret ?_
      refine ⟨[_], ⟨rfl, trivial⟩, ?_, rfl⟩
      rfl

end Go.Proofs.Ytidfabbnobipkaa.Sv

namespace Go.Proofs.Ytidfabbnobipkaa
open Go.ChangeShapes Go.WideShapes Go.ChangeAt Go.RowKit Sv
set_option linter.unusedVariables false

set_option maxRecDepth 100000 in
theorem tidyOf_lifted (os : Os) (started : os.Started) (H : Type) (enc : TypeId × Value → H) :
    ReturnsInHanded {} Try.checked os 3 .any (Rows.tidyOfSpec.pre6 enc Try.prog Try.f3 Rows.tidyOfRow.domain false) (Rows.tidyOfSpec.post enc Try.prog Try.f3 false true false false) := by
  refine returnsInHanded_of_change_sized (C := Try.checked) own' started (by kernel_rfl) Try.func3
    (ChangeSpec.witness6 (enc := enc) (C := Try.checked) false ⟨#[], #[.agg #[.int .i64 0, .slice none 0 0], .int .u8 0], []⟩ 8 (by kernel_rfl) (by kernel_rfl) (by kernel_rfl) (by kernel_rfl)) ?_
  intro W base args ds gs before hval0 hW hcnd hwt0 hh
  have hval : ∀ (j : Nat) t v, Try.f3.params[j]? = some t → args[j]? = some v → Value.okWide Try.prog W .any base t v := hval0
  have hW' := hW
  obtain ⟨p, q, hA0, hV, rfl, hfz, hnd⟩ := hW
  have hA : DataW.TrodAll enc Try.prog W 0 (fun _ => true) true Try.f3.params.toList args.toList ds p := hA0
  have hwt : (DataW.weightsEach Try.prog (Try.f3.params.toList ++ Rows.tidyOfSpec.plain.varTypes Try.prog) (ds ++ gs)).all (· ≤ reachBytes) = true := hwt0
  rw [Try.params3] at hA hval hwt
  obtain ⟨v0, vs0, d0, ds0, p0, q0, hargs, rfl, rfl, h0, r0⟩ := trodAll_cons hA
  obtain ⟨v1, vs1, d1, ds1, p1, q1, rfl, rfl, rfl, h1, r1⟩ := trodAll_cons r0
  obtain ⟨rfl, rfl, rfl⟩ := trodAll_nil r1
  obtain rfl : args = #[v0, v1] := by cases args; simp_all
  obtain ⟨rfl, rfl⟩ := trodVars_none hV
  obtain ⟨x0, e0, g0⟩ := arg_one h0 (weightsEach_get hwt (i := 0) rfl rfl) decBlocks
  obtain ⟨x1, rfl, rfl, rfl, w1⟩ := open_int Try.underlying5 (hval 1 5 v1 rfl rfl) h1
  exact law_calls laidOut' rfl (by kernel_rfl) rfl bool' rfl rfl rfl hW' (.cons (e0.val (okWide_agg tok rfl rfl (hval 0 24 v0 rfl rfl))) (.cons (.int _ _ _) .nil)) (lawTidyOf_ok x0 x1 g0 (wf_u8 w1))

theorem tidyOf_holds : Rows.TidyOfSaid :=
  OpenClaim.holds_of_wide 3 Try.f3 rfl rfl rfl rfl rfl rfl rfl ⟨rfl, rfl, rfl, rfl, rfl⟩ rfl rfl rfl rfl rfl (by kernel_rfl) Try.func3 (by kernel_rfl)
    (of_decide_eq_true (by kernel_rfl)) (by unfold Func.isWrapper; first | (rw [if_pos (by decide +kernel)]; kernel_rfl) | (rw [if_neg (by decide +kernel)]; exact ⟨rfl, rfl⟩))
    (fun os started H enc _ => tidyOf_lifted os started H enc)

end Go.Proofs.Ytidfabbnobipkaa
