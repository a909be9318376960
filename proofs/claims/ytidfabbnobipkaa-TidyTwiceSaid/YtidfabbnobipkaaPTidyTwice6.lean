/-
  The law TidyTwice of the given program answers true for every input, and leaves its arguments as they were. There is no condition. Own work.
  WALKS: printed by a program of our own from the code's tree.
  WALKS: printed by a program of our own from the code's tree.
-/
import Derived.Test.YtidfabbnobipkaaPTidyTwice3
import Derived.Test.YtidfabbnobipkaaPTidyTwice5
import Derived.Test.YtidfabbnobipkaaPTidyTwice2
namespace Go.Proofs.Ytidfabbnobipkaa.Sv
open Go
set_option linter.unusedVariables false
set_option linter.unusedSimpArgs false

set_option maxRecDepth 100000 in
theorem without_ok (next : List (List Int)) (hn : next.length ≤ 100000) (hp : ∀ l ∈ next, l.length ≤ 100000) : APure Try.prog 40 [pathsAV next, .int .i64 (-1)] (fun r => r = boolsAV (bif next.isEmpty then [] else breach next)) := by
  refine APure.of_body (n := 72) tok Try.func40 rfl rfl ?_
  refine AGo.seq ?_
  refine AGo.region ?_
  refine AOps.s 4 rfl rfl rfl (q_move (.inr rfl) rfl) ?_
  refine AOps.nil ?_
  refine AGo.seq ?_
  refine AGo.region ?_
  refine AOps.s 10 rfl rfl rfl (q_move (.inl rfl) rfl) ?_
  refine AOps.s 11 rfl rfl rfl (q_len tok rfl rfl rfl rfl rfl) ?_
  refine AOps.x 12 rfl rfl rfl (o_makeSlice tok (n := next.length) (m := next.length) 0 true rfl rfl rfl (by simp) (by simp) rfl rfl rfl rfl rfl (Nat.zero_lt_succ _) rfl (Nat.le_refl _) (by show 1 * next.length ≤ _; omega) (by simp only [maxLen]; omega)) ?_
  refine AOps.s 5 rfl rfl rfl (q_move (.inr rfl) rfl) ?_
  refine AOps.nil ?_
  refine AGo.seq ?_
  refine AGo.seq ?_
  refine AGo.region ?_
  refine AOps.s 13 rfl rfl rfl (q_move (.inl rfl) rfl) ?_
  refine AOps.s 14 rfl rfl rfl (q_len tok rfl rfl rfl rfl rfl) ?_
  refine AOps.s 15 rfl rfl rfl (q_bin rfl rfl rfl rfl) ?_
  refine AOps.nil ?_
  refine AGo.split 15 rfl (fun hb1 => ?_) (fun hb1 => ?_)
  · -- True
    refine AGo.cond_true true rfl rfl ?_
    have h0 : next.length = 0 := by simpa [pathsAV] using hb1
    refine AGo.seq ?_
    refine AGo.ghost (.freezeA 5 0 rfl rfl (by simp)) ?_
    refine AGo.region ?_
    refine AOps.s 16 rfl rfl rfl (q_move (.inl rfl) rfl) ?_
    refine AOps.s 4 rfl rfl rfl (q_move (.inr rfl) rfl) ?_
    refine AOps.nil ?_
    refine AGo.ret ?_
    refine ⟨[_], ⟨rfl, trivial⟩, ?_, rfl⟩
    have : next = [] := List.eq_nil_of_length_eq_zero h0
    subst this
    rfl
  · -- False
    refine AGo.cond_false false rfl rfl ?_
    have h0 : next.length ≠ 0 := by simpa [pathsAV] using hb1
    have hne : next ≠ [] := fun e => h0 (by rw [e]; rfl)
    have hie : next.isEmpty = false := by cases next with | nil => exact absurd rfl hne | cons a b => rfl
    obtain ⟨i1, _, i3⟩ := bstart_inv hne
    refine AGo.skip ?_
    refine AGo.seq ?_
    refine AGo.region ?_
    refine AOps.s 17 rfl rfl rfl (q_move (.inl rfl) rfl) ?_
    refine AOps.s 18 rfl rfl rfl (q_index_ref tok rfl rfl rfl rfl rfl rfl rfl (by simp) rfl (by decide) (by omega)) ?_
    refine AOps.w rfl rfl (o_store tok rfl rfl rfl rfl rfl rfl (by simp) (cs := [.bool false]) (by rw [List.getElem?_replicate, if_pos (by show (0 : Nat) < _; omega)]) rfl (by decide) rfl (by first | exact fun _ => rfl | (intro h; cases h))) ?_
    refine AOps.nil ?_
    refine AGo.seq ?_
    refine AGo.region ?_
    refine AOps.x 19 rfl rfl rfl (o_litRow tok 1 true rfl rfl rfl rfl rfl rfl (by decide) rfl rfl rfl rfl (by first | exact fun _ => rfl | (intro h; cases h)) rfl rfl) ?_
    refine AOps.s 6 rfl rfl rfl (q_move (.inr rfl) rfl) ?_
    refine AOps.nil ?_
    refine AGo.seq ?_
    refine AGo.block ?_
    refine AGo.loopI (γ := QG) (fun q => ⟨72, (eput (eput (eput (eput eNew 0 (pathsAV next)) 1 (.int .i64 (-1))) 5 (.ref 0 next.length 0 next.length)) 6 (.ref (q.g + 1) q.es.length q.off (q.es.length - q.off))), (hput (hput (hFrom (q.g + 2)) 0 (.row true 1 (q.s.been.map boolCells))) (q.g + 1) (.row true 1 (intCells q.es)))⟩) (fun q => QInv next q) (fun q => q.gas) ⟨bstart next.length, [0], 0, 0, next.length + 1⟩ (Sub.mk' (by repeat (first | exact ESub.new _ | refine ESub.put ?_ (by rfl))) (by repeat (first | exact HSub.none _ | exact HSub.from_new _ | exact HSub.from_from (by first | decide | omega | (dsimp only; omega)) | refine HSub.put ?_ (by first | rfl | exact congrArg (fun l => some (AObj.row true 1 l)) (by simp [bstart]; rfl)) | refine HSub.from_put ?_ (by first | decide | omega | (dsimp only; omega)) | refine HSub.from_rm ?_ (by decide)))) (QInv.first hne) ?_
    intro q hF
    refine AGo.seq ?_
    refine AGo.seq ?_
    refine AGo.region ?_
    refine AOps.s 20 rfl rfl rfl (q_move (.inl rfl) rfl) ?_
    refine AOps.s 21 rfl rfl rfl (q_len tok rfl rfl rfl rfl rfl) ?_
    refine AOps.s 22 rfl rfl rfl (q_bin rfl rfl rfl rfl) ?_
    refine AOps.nil ?_
    refine AGo.split 22 rfl (fun hb2 => ?_) (fun hb2 => ?_)
    · -- True
      refine AGo.cond_true true rfl rfl ?_
      have hlt : 0 < q.es.length - q.off := by simpa using hb2
      have hqq : q.s.q ≠ [] := fun e => by rw [hF.qe, ← List.length_eq_zero_iff, List.length_drop] at e; omega
      obtain ⟨at', hat⟩ := get_of_lt (l := q.es) (k := q.off) (by omega)
      have hsq : q.s.q = at' :: q.s.q.tail := by rw [hF.qe, List.drop_eq_getElem_cons (by omega), (List.getElem?_eq_some_iff.1 hat).2]; rfl
      have har := hF.inv.q at' (by rw [hsq]; simp)
      obtain ⟨row, hrow⟩ := get_of_lt (l := next) (k := at'.toNat) (by omega)
      have hra : rowAt next at' = row := by rw [rowAt, hrow]; rfl
      have hrl := hp row (List.mem_of_getElem? hrow)
      have hbl := hF.inv.len
      refine AGo.skip ?_
      refine AGo.block ?_
      refine AGo.seq ?_
      refine AGo.region ?_
      refine AOps.s 23 rfl rfl rfl (q_move (.inl rfl) rfl) ?_
      refine AOps.s 24 rfl rfl rfl (q_index_ref tok rfl rfl rfl rfl rfl rfl (hput_same _ _ _) (by rw [intCells_len]) rfl (by decide) (by omega)) ?_
      refine AOps.s 25 rfl rfl rfl (q_load tok rfl rfl rfl (.ptr _ _ _ _ _ _ _ [.int .i64 at'] (hput_same _ _ _) (by rw [intCells_len]) (by show (List.map (fun b => [AV.int .i64 b]) q.es)[_]? = _; rw [List.getElem?_map, show q.off + (0 : Int).toNat = q.off from rfl, hat]; rfl)) rfl) ?_
      refine AOps.s 7 rfl rfl rfl (q_move (.inr rfl) rfl) ?_
      refine AOps.nil ?_
      refine AGo.seq ?_
      refine AGo.join (γ := Nat × List Int × Nat) (fun p => ⟨72, (eput (eput (eput (eput (eput eNew 0 (pathsAV next)) 1 (.int .i64 (-1))) 5 (.ref 0 next.length 0 next.length)) 6 (.ref (p.1 + 1) p.2.1.length p.2.2 (p.2.1.length - p.2.2))) 7 (.int .i64 at')), (hput (hput (hFrom (p.1 + 2)) 0 (.row true 1 (q.s.been.map boolCells))) (p.1 + 1) (.row true 1 (intCells p.2.1)))⟩) (fun p => p.2.2 ≤ p.2.1.length ∧ p.2.1.drop p.2.2 = q.s.q.tail) ?_ ?_
      · -- to the join
        refine AGo.region ?_
        refine AOps.s 26 rfl rfl rfl (q_move (.inl rfl) rfl) ?_
        refine AOps.ex 27 rfl rfl rfl (o_sliceQ tok (q.g + 2) 1 rfl rfl rfl rfl rfl rfl (hput_same _ _ _) (hput_skip (beq_false_of_ne (by omega)) (hput_skip rfl (hFrom_at (by omega)))) (by rw [intCells_len]) rfl (by omega) rfl (by decide)) ?_
        intro W_ r_ hS_
        rcases hS_ with ⟨rfl, rfl⟩ | ⟨hl, rfl, rfl⟩
        · -- way 0
          have w1 : 0 = 0 := rfl
          refine AOps.s 6 rfl rfl rfl (q_move (.inr rfl) rfl) ?_
          refine AOps.nil ?_
          exact ⟨(q.g, q.es, q.off + 1), Sub.mk' (by repeat (first | exact ESub.new _ | refine ESub.put ?_ (by first | rfl | exact congrArg (fun n => some (AV.ref (q.g + 1) q.es.length (q.off + 1) n)) (by omega)))) (by repeat (first | exact HSub.none _ | exact HSub.from_new _ | exact HSub.from_from (by first | decide | omega | (dsimp only; omega)) | refine HSub.put ?_ (by first | rfl | exact hput_same _ _ _ | exact hput_skip rfl (hput_same _ _ _) | exact hput_skip (beq_false_of_ne (by omega)) (hput_same _ _ _)) | refine HSub.from_put ?_ (by first | decide | omega | (dsimp only; omega)) | refine HSub.from_rm ?_ (by decide))), ⟨by show q.off + 1 ≤ q.es.length; omega, by show q.es.drop (q.off + 1) = _; rw [hF.qe, List.tail_drop]⟩⟩
        · -- way 1
          have w1 : 0 = 0 := rfl
          refine AOps.s 6 rfl rfl rfl (q_move (.inr rfl) rfl) ?_
          refine AOps.nil ?_
          exact ⟨(q.g + 1, [], 0), Sub.mk' (by repeat (first | exact ESub.new _ | refine ESub.put ?_ (by first | rfl | exact congrArg (fun n => some (AV.ref (q.g + 1) q.es.length (q.off + 1) n)) (by omega)))) (by repeat (first | exact HSub.none _ | exact HSub.from_new _ | exact HSub.from_from (by first | decide | omega | (dsimp only; omega)) | refine HSub.put ?_ (by first | rfl | exact hput_same _ _ _ | exact hput_skip rfl (hput_same _ _ _) | exact hput_skip (beq_false_of_ne (by omega)) (hput_same _ _ _)) | refine HSub.from_put ?_ (by first | decide | omega | (dsimp only; omega)) | refine HSub.from_rm ?_ (by decide))), ⟨Nat.le_refl _, by show ([] : List Int) = _; have := congrArg List.length hF.qe; rw [List.length_drop] at this; exact (List.eq_nil_of_length_eq_zero (by rw [List.length_tail]; omega)).symm⟩⟩
      intro p hP
      refine AGo.seq ?_
      refine AGo.region ?_
      refine AOps.s 8 rfl rfl rfl (q_move (.inr rfl) rfl) ?_
      refine AOps.nil ?_
      refine AGo.block ?_
      refine AGo.loopI (γ := QI) (fun i => ⟨72, (eput (eput (eput (eput (eput (eput eNew 0 (pathsAV next)) 1 (.int .i64 (-1))) 5 (.ref 0 next.length 0 next.length)) 6 (.ref (i.g + 1) i.es.length i.off (i.es.length - i.off))) 7 (.int .i64 at')) 8 (.int .i64 (i.j : Int))), (hput (hput (hFrom (i.g + 2)) 0 (.row true 1 (((row.take i.j).foldl binto (BS.mk q.s.been q.s.q.tail)).been.map boolCells))) (i.g + 1) (.row true 1 (intCells i.es)))⟩) (fun i => QIInv q.s.been q.s.q.tail row i) (fun i => row.length - i.j) ⟨0, p.2.1, p.2.2, p.1⟩ (Sub.mk' (by repeat (first | exact ESub.new _ | refine ESub.put ?_ (by rfl))) (by repeat (first | exact HSub.none _ | exact HSub.from_new _ | exact HSub.from_from (by first | decide | omega | (dsimp only; omega)) | refine HSub.put ?_ (by first | rfl | exact hput_same _ _ _) | refine HSub.from_put ?_ (by first | decide | omega | (dsimp only; omega)) | refine HSub.from_rm ?_ (by decide)))) ⟨hP.1, hP.2⟩ ?_
      intro i hI
      have hql := hF.len hqq hI
      refine AGo.seq ?_
      refine AGo.seq ?_
      refine AGo.region ?_
      refine AOps.s 28 rfl rfl rfl (q_move (.inl rfl) rfl) ?_
      refine AOps.s 29 rfl rfl rfl (q_move (.inl rfl) rfl) ?_
      refine AOps.s 30 rfl rfl rfl (q_move (.inl rfl) rfl) ?_
      refine AOps.s 31 rfl rfl rfl (q_index_lst tok rfl rfl rfl rfl rfl rfl har.1 (idx_mapZ hrow) rfl) ?_
      refine AOps.s 32 rfl rfl rfl (q_load tok rfl rfl rfl (by first | exact .loc _ | exact .ptr _ _ _ _ _ _ _ _ rfl rfl rfl) rfl) ?_
      refine AOps.s 33 rfl rfl rfl (q_len tok rfl rfl rfl rfl rfl) ?_
      refine AOps.s 34 rfl rfl rfl (q_bin rfl rfl rfl rfl) ?_
      refine AOps.s 35 rfl rfl rfl (q_move (.inl rfl) rfl) ?_
      refine AOps.split 35 rfl (fun hb3 => ?_) (fun hb3 => ?_)
      · -- True
        have hjb := hb3
        refine AOps.s 36 rfl rfl rfl (q_move (.inl rfl) rfl) ?_
        refine AOps.s 37 rfl rfl rfl (q_move (.inl rfl) rfl) ?_
        refine AOps.s 38 rfl rfl rfl (q_bin rfl rfl rfl rfl) ?_
        refine AOps.s 39 rfl rfl rfl (q_pick_true true rfl rfl rfl rfl) ?_
        refine AOps.nil ?_
        refine AGo.split 39 rfl (fun hb4 => ?_) (fun hb4 => ?_)
        · -- True
          refine AGo.cond_true true rfl rfl ?_
          have hjl : i.j < row.length := by simpa using hjb
          obtain ⟨y, hy⟩ := get_of_lt hjl
          refine AGo.skip ?_
          refine AGo.seq ?_
          refine AGo.block ?_
          refine AGo.seq ?_
          refine AGo.region ?_
          refine AOps.s 42 rfl rfl rfl (q_move (.inl rfl) rfl) ?_
          refine AOps.s 43 rfl rfl rfl (q_move (.inl rfl) rfl) ?_
          refine AOps.s 44 rfl rfl rfl (q_index_lst tok rfl rfl rfl rfl rfl rfl har.1 (idx_mapZ hrow) rfl) ?_
          refine AOps.s 45 rfl rfl rfl (q_load tok rfl rfl rfl (by first | exact .loc _ | exact .ptr _ _ _ _ _ _ _ _ rfl rfl rfl) rfl) ?_
          refine AOps.s 46 rfl rfl rfl (q_move (.inl rfl) rfl) ?_
          refine AOps.s 47 rfl rfl rfl (q_index_lst tok rfl rfl rfl rfl rfl rfl (Int.natCast_nonneg _) (idx_map hy) rfl) ?_
          refine AOps.s 48 rfl rfl rfl (q_load tok rfl rfl rfl (by first | exact .loc _ | exact .ptr _ _ _ _ _ _ _ _ rfl rfl rfl) rfl) ?_
          refine AOps.s 9 rfl rfl rfl (q_move (.inr rfl) rfl) ?_
          refine AOps.nil ?_
          refine AGo.seq ?_
          refine AGo.region ?_
          refine AOps.s 49 rfl rfl rfl (q_move (.inl rfl) rfl) ?_
          refine AOps.s 50 rfl rfl rfl (q_bin rfl rfl rfl rfl) ?_
          refine AOps.s 51 rfl rfl rfl (q_move (.inl rfl) rfl) ?_
          refine AOps.split 51 rfl (fun hb5 => ?_) (fun hb5 => ?_)
          · -- True
            have hy0 : 0 ≤ y := by simpa using hb5
            refine AOps.s 52 rfl rfl rfl (q_move (.inl rfl) rfl) ?_
            refine AOps.s 53 rfl rfl rfl (q_move (.inl rfl) rfl) ?_
            refine AOps.s 54 rfl rfl rfl (q_len tok rfl rfl rfl rfl rfl) ?_
            refine AOps.s 55 rfl rfl rfl (q_bin rfl rfl rfl rfl) ?_
            refine AOps.s 56 rfl rfl rfl (q_pick_true true rfl rfl rfl rfl) ?_
            refine AOps.s 57 rfl rfl rfl (q_move (.inl rfl) rfl) ?_
            refine AOps.split 57 rfl (fun hb6 => ?_) (fun hb6 => ?_)
            · -- True
              have hyl : y < next.length := by have h := hb6; rw [List.length_map] at h; simpa using h
              refine AOps.s 58 rfl rfl rfl (q_move (.inl rfl) rfl) ?_
              refine AOps.s 59 rfl rfl rfl (q_move (.inl rfl) rfl) ?_
              refine AOps.s 60 rfl rfl rfl (q_index_ref tok rfl rfl rfl rfl rfl rfl rfl (by simp [bintos_len, hbl]) rfl hy0 hyl) ?_
              refine AOps.s 61 rfl rfl rfl (q_load tok rfl rfl rfl (.ptr _ _ _ _ _ _ _ [.bool (bget ((row.take i.j).foldl binto (BS.mk q.s.been q.s.q.tail)).been y)] rfl (by simp [bintos_len, hbl]) (by rw [Nat.zero_add]; exact bcellZ (by rw [bintos_len, hbl]; exact ⟨hy0, hyl⟩))) rfl) ?_
              refine AOps.s 62 rfl rfl rfl (q_not rfl rfl) ?_
              refine AOps.s 63 rfl rfl rfl (q_pick_true true rfl rfl rfl rfl) ?_
              refine AOps.nil ?_
              refine AGo.join (γ := Nat × List Int × Nat) (fun p => ⟨72, (eput (eput (eput (eput (eput (eput (eput eNew 0 (pathsAV next)) 1 (.int .i64 (-1))) 5 (.ref 0 next.length 0 next.length)) 6 (.ref (p.1 + 1) p.2.1.length p.2.2 (p.2.1.length - p.2.2))) 7 (.int .i64 at')) 8 (.int .i64 (i.j : Int))) 9 (.int .i64 y)), (hput (hput (hFrom (p.1 + 2)) 0 (.row true 1 (((row.take (i.j + 1)).foldl binto (BS.mk q.s.been q.s.q.tail)).been.map boolCells))) (p.1 + 1) (.row true 1 (intCells p.2.1)))⟩) (fun p => p.2.2 ≤ p.2.1.length ∧ p.2.1.drop p.2.2 = ((row.take (i.j + 1)).foldl binto (BS.mk q.s.been q.s.q.tail)).q) ?_ ?_
              · -- to the join
                refine AGo.split 63 rfl (fun hb7 => ?_) (fun hb7 => ?_)
                · -- True
                  refine AGo.cond_true true rfl rfl ?_
                  have hnb : notBeen ((row.take i.j).foldl binto (BS.mk q.s.been q.s.q.tail)).been y = true := nbT hy0 (by rw [bintos_len, hbl]; exact hyl) hb7
                  have hsN : ((row.take (i.j + 1)).foldl binto (BS.mk q.s.been q.s.q.tail)) = ⟨((row.take i.j).foldl binto (BS.mk q.s.been q.s.q.tail)).been.set y.toNat true, ((row.take i.j).foldl binto (BS.mk q.s.been q.s.q.tail)).q ++ [y]⟩ := by rw [bintosSucc hy, binto_eq hnb]; rfl
                  refine AGo.seq ?_
                  refine AGo.region ?_
                  refine AOps.s 64 rfl rfl rfl (q_move (.inl rfl) rfl) ?_
                  refine AOps.s 65 rfl rfl rfl (q_move (.inl rfl) rfl) ?_
                  refine AOps.s 66 rfl rfl rfl (q_index_ref tok rfl rfl rfl rfl rfl rfl rfl (by simp [bintos_len, hbl]) rfl hy0 hyl) ?_
                  refine AOps.w rfl rfl (o_store tok rfl rfl rfl rfl rfl rfl (by simp [bintos_len, hbl]) (cs := [.bool false]) (by rw [Nat.zero_add, List.getElem?_map, (notBeen_get hnb).2.2]; rfl) rfl (by decide) rfl (by first | exact fun _ => rfl | (intro h; cases h))) ?_
                  refine AOps.nil ?_
                  refine AGo.region ?_
                  refine AOps.s 67 rfl rfl rfl (q_move (.inl rfl) rfl) ?_
                  refine AOps.s 68 rfl rfl rfl (q_move (.inl rfl) rfl) ?_
                  refine AOps.x 69 rfl rfl rfl (o_lit' tok rfl rfl rfl rfl rfl rfl (by decide) rfl rfl rfl rfl rfl rfl) ?_
                  refine AOps.ex 70 rfl rfl rfl (o_appendQ tok (i.g + 2) rfl rfl rfl rfl rfl rfl rfl rfl (hput_same _ _ _) (hput_skip (beq_false_of_ne (by omega)) (hput_skip rfl (hFrom_at (by omega)))) (by rw [intCells_len]) (by have := hI.off; omega) rfl rfl (by decide) (.lst _ _) rfl rfl (by show _ * 8 ≤ _; omega) (by simp only [maxLen]; omega)) ?_
                  intro W_ r_ hS_
                  rcases hS_ with ⟨rfl, rfl⟩ | ⟨rfl, rfl⟩
                  · -- way 0
                    refine AOps.s 6 rfl rfl rfl (q_move (.inr rfl) rfl) ?_
                    refine AOps.nil ?_
                    exact ⟨(i.g, i.es ++ [y], i.off), Sub.mk' (by repeat (first | exact ESub.new _ | refine ESub.put ?_ (by first | rfl | exact refQ1 y hI.off | exact refQ2 y))) (by repeat (first | exact HSub.none _ | exact HSub.from_new _ | exact HSub.from_from (by first | decide | omega | (dsimp only; omega)) | refine HSub.put ?_ (by first | rfl | exact hput_same _ _ _ | exact hput_skip rfl (hput_same _ _ _) | exact (hput_same _ _ _).trans (congrArg (fun es => some (AObj.row true 1 es)) rowQ1) | exact (hput_same _ _ _).trans (congrArg (fun es => some (AObj.row true 1 es)) rowQ2) | exact congrArg (fun es => some (AObj.row true 1 es)) (by rw [hsN]; try exact been_set _ _ _)) | refine HSub.from_put ?_ (by first | decide | omega | (dsimp only; omega)) | refine HSub.from_rm ?_ (by decide))), ⟨by show i.off ≤ (i.es ++ [y]).length; have := hI.off; simp; omega, by show (i.es ++ [y]).drop i.off = _; rw [hsN, List.drop_append_of_le_length hI.off, hI.q]⟩⟩
                  · -- way 1
                    refine AOps.s 6 rfl rfl rfl (q_move (.inr rfl) rfl) ?_
                    refine AOps.nil ?_
                    exact ⟨(i.g + 1, i.es.drop i.off ++ [y], 0), Sub.mk' (by repeat (first | exact ESub.new _ | refine ESub.put ?_ (by first | rfl | exact refQ1 y hI.off | exact refQ2 y))) (by repeat (first | exact HSub.none _ | exact HSub.from_new _ | exact HSub.from_from (by first | decide | omega | (dsimp only; omega)) | refine HSub.put ?_ (by first | rfl | exact hput_same _ _ _ | exact hput_skip rfl (hput_same _ _ _) | exact (hput_same _ _ _).trans (congrArg (fun es => some (AObj.row true 1 es)) rowQ1) | exact (hput_same _ _ _).trans (congrArg (fun es => some (AObj.row true 1 es)) rowQ2) | exact congrArg (fun es => some (AObj.row true 1 es)) (by rw [hsN]; try exact been_set _ _ _)) | refine HSub.from_put ?_ (by first | decide | omega | (dsimp only; omega)) | refine HSub.from_rm ?_ (by decide))), ⟨Nat.zero_le _, by show i.es.drop i.off ++ [y] = _; rw [hsN, hI.q]⟩⟩
                · -- False
                  refine AGo.cond_false false rfl rfl ?_
                  have hnb : notBeen ((row.take i.j).foldl binto (BS.mk q.s.been q.s.q.tail)).been y = false := by first | exact nb1 hb7 | exact nb2 hb7 (by rw [List.length_map, bintos_len, hbl]) | exact nb3 hb7
                  have hsN : ((row.take (i.j + 1)).foldl binto (BS.mk q.s.been q.s.q.tail)) = ((row.take i.j).foldl binto (BS.mk q.s.been q.s.q.tail)) := by rw [bintosSucc hy, binto_eq hnb]; rfl
                  refine AGo.skip ?_
                  exact ⟨(i.g, i.es, i.off), Sub.mk' (by repeat (first | exact ESub.new _ | refine ESub.put ?_ (by first | rfl | exact refQ1 y hI.off | exact refQ2 y))) (by repeat (first | exact HSub.none _ | exact HSub.from_new _ | exact HSub.from_from (by first | decide | omega | (dsimp only; omega)) | refine HSub.put ?_ (by first | rfl | exact hput_same _ _ _ | exact hput_skip rfl (hput_same _ _ _) | exact (hput_same _ _ _).trans (congrArg (fun es => some (AObj.row true 1 es)) rowQ1) | exact (hput_same _ _ _).trans (congrArg (fun es => some (AObj.row true 1 es)) rowQ2) | exact congrArg (fun es => some (AObj.row true 1 es)) (by rw [hsN]; try exact been_set _ _ _)) | refine HSub.from_put ?_ (by first | decide | omega | (dsimp only; omega)) | refine HSub.from_rm ?_ (by decide))), ⟨hI.off, by show i.es.drop i.off = _; rw [hsN]; exact hI.q⟩⟩
              intro p hP2
              refine AGo.region ?_
              refine AOps.s 40 rfl rfl rfl (q_move (.inl rfl) rfl) ?_
              refine AOps.s 41 rfl rfl rfl (q_inc rfl rfl hjl (by simp only [maxLen]; omega)) ?_
              refine AOps.s 8 rfl rfl rfl (q_move (.inr rfl) rfl) ?_
              refine AOps.nil ?_
              exact ⟨⟨i.j + 1, p.2.1, p.2.2, p.1⟩, Sub.mk' (by repeat (first | exact ESub.new _ | refine ESub.put ?_ (by rfl))) (by repeat (first | exact HSub.none _ | exact HSub.from_new _ | exact HSub.from_from (by first | decide | omega | (dsimp only; omega)) | refine HSub.put ?_ (by first | rfl | exact hput_same _ _ _) | refine HSub.from_put ?_ (by first | decide | omega | (dsimp only; omega)) | refine HSub.from_rm ?_ (by decide))), ⟨hP2.1, hP2.2⟩, by show row.length - (i.j + 1) < _; omega⟩
            · -- False
              refine AOps.k 58 rfl rfl rfl ?_
              refine AOps.k 59 rfl rfl rfl ?_
              refine AOps.k 60 rfl rfl rfl ?_
              refine AOps.k 61 rfl rfl rfl ?_
              refine AOps.k 62 rfl rfl rfl ?_
              refine AOps.s 63 rfl rfl rfl (q_pick_false false rfl rfl rfl rfl) ?_
              refine AOps.nil ?_
              refine AGo.join (γ := Nat × List Int × Nat) (fun p => ⟨72, (eput (eput (eput (eput (eput (eput (eput eNew 0 (pathsAV next)) 1 (.int .i64 (-1))) 5 (.ref 0 next.length 0 next.length)) 6 (.ref (p.1 + 1) p.2.1.length p.2.2 (p.2.1.length - p.2.2))) 7 (.int .i64 at')) 8 (.int .i64 (i.j : Int))) 9 (.int .i64 y)), (hput (hput (hFrom (p.1 + 2)) 0 (.row true 1 (((row.take (i.j + 1)).foldl binto (BS.mk q.s.been q.s.q.tail)).been.map boolCells))) (p.1 + 1) (.row true 1 (intCells p.2.1)))⟩) (fun p => p.2.2 ≤ p.2.1.length ∧ p.2.1.drop p.2.2 = ((row.take (i.j + 1)).foldl binto (BS.mk q.s.been q.s.q.tail)).q) ?_ ?_
              · -- to the join
                refine AGo.cond_false false rfl rfl ?_
                have hnb : notBeen ((row.take i.j).foldl binto (BS.mk q.s.been q.s.q.tail)).been y = false := by first | exact nb1 hb6 | exact nb2 hb6 (by rw [List.length_map, bintos_len, hbl]) | exact nb3 hb6
                have hsN : ((row.take (i.j + 1)).foldl binto (BS.mk q.s.been q.s.q.tail)) = ((row.take i.j).foldl binto (BS.mk q.s.been q.s.q.tail)) := by rw [bintosSucc hy, binto_eq hnb]; rfl
                refine AGo.skip ?_
                exact ⟨(i.g, i.es, i.off), Sub.mk' (by repeat (first | exact ESub.new _ | refine ESub.put ?_ (by first | rfl | exact refQ1 y hI.off | exact refQ2 y))) (by repeat (first | exact HSub.none _ | exact HSub.from_new _ | exact HSub.from_from (by first | decide | omega | (dsimp only; omega)) | refine HSub.put ?_ (by first | rfl | exact hput_same _ _ _ | exact hput_skip rfl (hput_same _ _ _) | exact (hput_same _ _ _).trans (congrArg (fun es => some (AObj.row true 1 es)) rowQ1) | exact (hput_same _ _ _).trans (congrArg (fun es => some (AObj.row true 1 es)) rowQ2) | exact congrArg (fun es => some (AObj.row true 1 es)) (by rw [hsN]; try exact been_set _ _ _)) | refine HSub.from_put ?_ (by first | decide | omega | (dsimp only; omega)) | refine HSub.from_rm ?_ (by decide))), ⟨hI.off, by show i.es.drop i.off = _; rw [hsN]; exact hI.q⟩⟩
              intro p hP2
              refine AGo.region ?_
              refine AOps.s 40 rfl rfl rfl (q_move (.inl rfl) rfl) ?_
              refine AOps.s 41 rfl rfl rfl (q_inc rfl rfl hjl (by simp only [maxLen]; omega)) ?_
              refine AOps.s 8 rfl rfl rfl (q_move (.inr rfl) rfl) ?_
              refine AOps.nil ?_
              exact ⟨⟨i.j + 1, p.2.1, p.2.2, p.1⟩, Sub.mk' (by repeat (first | exact ESub.new _ | refine ESub.put ?_ (by rfl))) (by repeat (first | exact HSub.none _ | exact HSub.from_new _ | exact HSub.from_from (by first | decide | omega | (dsimp only; omega)) | refine HSub.put ?_ (by first | rfl | exact hput_same _ _ _) | refine HSub.from_put ?_ (by first | decide | omega | (dsimp only; omega)) | refine HSub.from_rm ?_ (by decide))), ⟨hP2.1, hP2.2⟩, by show row.length - (i.j + 1) < _; omega⟩
          · -- False
            refine AOps.k 52 rfl rfl rfl ?_
            refine AOps.k 53 rfl rfl rfl ?_
            refine AOps.k 54 rfl rfl rfl ?_
            refine AOps.k 55 rfl rfl rfl ?_
            refine AOps.s 56 rfl rfl rfl (q_pick_false false rfl rfl rfl rfl) ?_
            refine AOps.s 57 rfl rfl rfl (q_move (.inl rfl) rfl) ?_
            refine AOps.k 58 rfl rfl rfl ?_
            refine AOps.k 59 rfl rfl rfl ?_
            refine AOps.k 60 rfl rfl rfl ?_
            refine AOps.k 61 rfl rfl rfl ?_
            refine AOps.k 62 rfl rfl rfl ?_
            refine AOps.s 63 rfl rfl rfl (q_pick_false false rfl rfl rfl rfl) ?_
            refine AOps.nil ?_
            refine AGo.join (γ := Nat × List Int × Nat) (fun p => ⟨72, (eput (eput (eput (eput (eput (eput (eput eNew 0 (pathsAV next)) 1 (.int .i64 (-1))) 5 (.ref 0 next.length 0 next.length)) 6 (.ref (p.1 + 1) p.2.1.length p.2.2 (p.2.1.length - p.2.2))) 7 (.int .i64 at')) 8 (.int .i64 (i.j : Int))) 9 (.int .i64 y)), (hput (hput (hFrom (p.1 + 2)) 0 (.row true 1 (((row.take (i.j + 1)).foldl binto (BS.mk q.s.been q.s.q.tail)).been.map boolCells))) (p.1 + 1) (.row true 1 (intCells p.2.1)))⟩) (fun p => p.2.2 ≤ p.2.1.length ∧ p.2.1.drop p.2.2 = ((row.take (i.j + 1)).foldl binto (BS.mk q.s.been q.s.q.tail)).q) ?_ ?_
            · -- to the join
              refine AGo.cond_false false rfl rfl ?_
              have hnb : notBeen ((row.take i.j).foldl binto (BS.mk q.s.been q.s.q.tail)).been y = false := by first | exact nb1 hb5 | exact nb2 hb5 (by rw [List.length_map, bintos_len, hbl]) | exact nb3 hb5
              have hsN : ((row.take (i.j + 1)).foldl binto (BS.mk q.s.been q.s.q.tail)) = ((row.take i.j).foldl binto (BS.mk q.s.been q.s.q.tail)) := by rw [bintosSucc hy, binto_eq hnb]; rfl
              refine AGo.skip ?_
              exact ⟨(i.g, i.es, i.off), Sub.mk' (by repeat (first | exact ESub.new _ | refine ESub.put ?_ (by first | rfl | exact refQ1 y hI.off | exact refQ2 y))) (by repeat (first | exact HSub.none _ | exact HSub.from_new _ | exact HSub.from_from (by first | decide | omega | (dsimp only; omega)) | refine HSub.put ?_ (by first | rfl | exact hput_same _ _ _ | exact hput_skip rfl (hput_same _ _ _) | exact (hput_same _ _ _).trans (congrArg (fun es => some (AObj.row true 1 es)) rowQ1) | exact (hput_same _ _ _).trans (congrArg (fun es => some (AObj.row true 1 es)) rowQ2) | exact congrArg (fun es => some (AObj.row true 1 es)) (by rw [hsN]; try exact been_set _ _ _)) | refine HSub.from_put ?_ (by first | decide | omega | (dsimp only; omega)) | refine HSub.from_rm ?_ (by decide))), ⟨hI.off, by show i.es.drop i.off = _; rw [hsN]; exact hI.q⟩⟩
            intro p hP2
            refine AGo.region ?_
            refine AOps.s 40 rfl rfl rfl (q_move (.inl rfl) rfl) ?_
            refine AOps.s 41 rfl rfl rfl (q_inc rfl rfl hjl (by simp only [maxLen]; omega)) ?_
            refine AOps.s 8 rfl rfl rfl (q_move (.inr rfl) rfl) ?_
            refine AOps.nil ?_
            exact ⟨⟨i.j + 1, p.2.1, p.2.2, p.1⟩, Sub.mk' (by repeat (first | exact ESub.new _ | refine ESub.put ?_ (by rfl))) (by repeat (first | exact HSub.none _ | exact HSub.from_new _ | exact HSub.from_from (by first | decide | omega | (dsimp only; omega)) | refine HSub.put ?_ (by first | rfl | exact hput_same _ _ _) | refine HSub.from_put ?_ (by first | decide | omega | (dsimp only; omega)) | refine HSub.from_rm ?_ (by decide))), ⟨hP2.1, hP2.2⟩, by show row.length - (i.j + 1) < _; omega⟩
        · -- False
          refine AGo.cond_false false rfl rfl ?_
          have hge : row.length ≤ i.j := by first | (have h := hb4; simp at h; omega) | (exfalso; have h := hb4; simp at h; omega)
          have hnx := QInv.next hF hqq hsq hra hI hge
          refine AGo.exit ?_
          exact ⟨⟨bround next q.s, i.es, i.off, i.g, q.gas - 1⟩, Sub.mk' (by repeat (first | exact ESub.new _ | refine ESub.put ?_ (by rfl))) (by repeat (first | exact HSub.none _ | exact HSub.from_new _ | exact HSub.from_from (by first | decide | omega | (dsimp only; omega)) | refine HSub.put ?_ (by first | rfl | exact hput_same _ _ _ | exact congrArg (fun (z : BS) => some (AObj.row true 1 (z.been.map boolCells))) hnx.2.2) | refine HSub.from_put ?_ (by first | decide | omega | (dsimp only; omega)) | refine HSub.from_rm ?_ (by decide))), hnx.1, hnx.2.1⟩
      · -- False
        refine AOps.k 36 rfl rfl rfl ?_
        refine AOps.k 37 rfl rfl rfl ?_
        refine AOps.k 38 rfl rfl rfl ?_
        refine AOps.s 39 rfl rfl rfl (q_pick_false false rfl rfl rfl rfl) ?_
        refine AOps.nil ?_
        refine AGo.cond_false false rfl rfl ?_
        have hge : row.length ≤ i.j := by first | (have h := hb3; simp at h; omega) | (exfalso; have h := hb3; simp at h; omega)
        have hnx := QInv.next hF hqq hsq hra hI hge
        refine AGo.exit ?_
        exact ⟨⟨bround next q.s, i.es, i.off, i.g, q.gas - 1⟩, Sub.mk' (by repeat (first | exact ESub.new _ | refine ESub.put ?_ (by rfl))) (by repeat (first | exact HSub.none _ | exact HSub.from_new _ | exact HSub.from_from (by first | decide | omega | (dsimp only; omega)) | refine HSub.put ?_ (by first | rfl | exact hput_same _ _ _ | exact congrArg (fun (z : BS) => some (AObj.row true 1 (z.been.map boolCells))) hnx.2.2) | refine HSub.from_put ?_ (by first | decide | omega | (dsimp only; omega)) | refine HSub.from_rm ?_ (by decide))), hnx.1, hnx.2.1⟩
    · -- False
      refine AGo.cond_false false rfl rfl ?_
      have hlt : q.es.length - q.off = 0 := by have h := hb2; simp at h; omega
      refine AGo.exit ?_
      refine AGo.seq ?_
      refine AGo.ghost (.freezeA 5 0 rfl rfl (by have := hF.inv.len; simp [this])) ?_
      refine AGo.region ?_
      refine AOps.s 71 rfl rfl rfl (q_move (.inl rfl) rfl) ?_
      refine AOps.s 4 rfl rfl rfl (q_move (.inr rfl) rfl) ?_
      refine AOps.nil ?_
      refine AGo.ret ?_
      refine ⟨[_], ⟨rfl, trivial⟩, ?_, rfl⟩
      rw [hie]
      show AV.lst false _ = AV.lst false _
      rw [QInv.done hF hlt]
      rfl

end Go.Proofs.Ytidfabbnobipkaa.Sv

namespace Go.Proofs.Ytidfabbnobipkaa.Sv
open Go
set_option linter.unusedVariables false
set_option linter.unusedSimpArgs false

set_option maxRecDepth 100000 in
theorem rreach_ok (f : BFunc) (hn : f.blocks.length ≤ 100000) (hle : f.leads) (hne : f.blocks ≠ []) : APure Try.prog 24 [pathsAV f.nexts] (fun r => r = boolsAV f.reach) := by
  have hnn : f.nexts ≠ [] := by simpa [BFunc.nexts] using hne
  have hnl := nexts_length f
  have hie : f.nexts.isEmpty = false := by cases h : f.nexts with | nil => exact absurd h hnn | cons a b => rfl
  refine APure.of_body (n := 5) tok Try.func24 rfl rfl ?_
  refine AGo.seq ?_
  refine AGo.region ?_
  refine AOps.s 2 rfl rfl rfl (q_move (.inr rfl) rfl) ?_
  refine AOps.nil ?_
  refine AGo.seq ?_
  refine AGo.region ?_
  refine AOps.s 3 rfl rfl rfl (q_move (.inl rfl) rfl) ?_
  refine AOps.x 4 rfl rfl rfl (o_pure rfl Try.func40 (by kernel_rfl) rfl rfl rfl ((without_ok f.nexts (by omega) (fun l hl => by have := nexts_two f l hl; omega)).mono (fun r h => by rw [h, hie, cond_false, breach_eq hnn (leadN hle)]))) ?_
  refine AOps.s 2 rfl rfl rfl (q_move (.inr rfl) rfl) ?_
  refine AOps.nil ?_
  refine AGo.ret ?_
  refine ⟨[_], ⟨rfl, trivial⟩, ?_, rfl⟩
  rfl

set_option maxRecDepth 100000 in
theorem tidyTwice_ok (b : Blocks) (i : Int) (hb : b.Ok) (hi : 0 ≤ i ∧ i ≤ 255) : APure Try.prog 7 [.agg b.cells, .int .u8 i] (fun r => r = .bool true) := by
  refine APure.of_body (n := 74) tok Try.func7 rfl rfl ?_
  refine AGo.seq ?_
  refine AGo.region ?_
  refine AOps.x 2 rfl rfl rfl (o_box (sz := 2) 0 rfl rfl rfl rfl (Nat.zero_lt_succ _) rfl) ?_
  refine AOps.s 4 rfl rfl rfl (q_move (.inr rfl) rfl) ?_
  refine AOps.nil ?_
  refine AGo.seq ?_
  refine AGo.seq ?_
  refine AGo.region ?_
  refine AOps.x 11 rfl rfl rfl (o_pure rfl Try.func11 (by kernel_rfl) rfl rfl rfl (awake_ok)) ?_
  refine AOps.s 12 rfl rfl rfl (q_not rfl rfl) ?_
  refine AOps.nil ?_
  refine AGo.cond_false false rfl rfl ?_
  refine AGo.skip ?_
  refine AGo.seq ?_
  refine AGo.seq ?_
  refine AGo.region ?_
  refine AOps.s 13 rfl rfl rfl (q_load tok rfl rfl rfl (by first | exact .loc _ | exact .ptr _ _ _ _ _ _ _ _ rfl rfl rfl) rfl) ?_
  refine AOps.x 14 rfl rfl rfl (o_pure rfl Try.func12 (by kernel_rfl) rfl rfl rfl (small_ok b 150 hb.tight)) ?_
  refine AOps.s 15 rfl rfl rfl (q_not rfl rfl) ?_
  refine AOps.s 16 rfl rfl rfl (q_move (.inl rfl) rfl) ?_
  refine AOps.split 16 rfl (fun hb1 => ?_) (fun hb1 => ?_)
  · -- True
    refine AOps.k 17 rfl rfl rfl ?_
    refine AOps.k 18 rfl rfl rfl ?_
    refine AOps.k 19 rfl rfl rfl ?_
    refine AOps.k 20 rfl rfl rfl ?_
    refine AOps.k 21 rfl rfl rfl ?_
    refine AOps.k 22 rfl rfl rfl ?_
    refine AOps.s 23 rfl rfl rfl (q_pick_true true rfl rfl rfl rfl) ?_
    refine AOps.nil ?_
    refine AGo.cond_true true rfl rfl ?_
    refine AGo.seq ?_
    refine AGo.region ?_
    refine AOps.s 4 rfl rfl rfl (q_move (.inr rfl) rfl) ?_
    refine AOps.nil ?_
    refine AGo.ret ?_
    refine ⟨[_], ⟨rfl, trivial⟩, ?_, rfl⟩
    rfl
  · -- False
    have hsm : b.small 150 = true := by simpa using hb1
    refine AOps.s 17 rfl rfl rfl (q_move (.inl rfl) rfl) ?_
    refine AOps.s 18 rfl rfl rfl (q_convInt tok rfl rfl rfl rfl rfl) ?_
    refine AOps.s 19 rfl rfl rfl (q_fieldAddr tok rfl rfl rfl rfl rfl rfl) ?_
    refine AOps.s 20 rfl rfl rfl (q_load tok rfl rfl rfl (by first | exact .loc _ | exact .ptr _ _ _ _ _ _ _ _ rfl rfl rfl) rfl) ?_
    refine AOps.s 21 rfl rfl rfl (q_len tok rfl rfl rfl rfl rfl) ?_
    refine AOps.s 22 rfl rfl rfl (q_bin rfl rfl rfl rfl) ?_
    refine AOps.s 23 rfl rfl rfl (q_pick_false false rfl rfl rfl rfl) ?_
    refine AOps.nil ?_
    refine AGo.split 23 rfl (fun hb2 => ?_) (fun hb2 => ?_)
    · -- True
      refine AGo.cond_true true rfl rfl ?_
      refine AGo.seq ?_
      refine AGo.region ?_
      refine AOps.s 4 rfl rfl rfl (q_move (.inr rfl) rfl) ?_
      refine AOps.nil ?_
      refine AGo.ret ?_
      refine ⟨[_], ⟨rfl, trivial⟩, ?_, rfl⟩
      rfl
    · -- False
      refine AGo.cond_false false rfl rfl ?_
      have hil : i.toNat < b.funcs.length := by
        have h := hb2
        rw [wrap_i64 (by omega) (by omega)] at h
        simp [blocksAV, funcsAV] at h
        omega
      obtain ⟨f, hf⟩ := get_of_lt hil
      obtain ⟨htame, hfn, hins, hfl⟩ := tameS (by decide) hsm hf
      have hle := htame.leads
      have htl := tidy_blocks_len f
      obtain ⟨ht2, htn⟩ := tameT hsm hf
      obtain ⟨tw1, tw2', tw3⟩ := tidy_twice hle hfn
      have tw2 : f.tidy.tpaths = rangeP f.tidy.blocks.length := tw2'
      refine AGo.skip ?_
      refine AGo.seq ?_
      refine AGo.region ?_
      refine AOps.s 25 rfl rfl rfl (q_fieldAddr tok rfl rfl rfl rfl rfl rfl) ?_
      refine AOps.s 26 rfl rfl rfl (q_load tok rfl rfl rfl (by first | exact .loc _ | exact .ptr _ _ _ _ _ _ _ _ rfl rfl rfl) rfl) ?_
      refine AOps.s 27 rfl rfl rfl (q_move (.inl rfl) rfl) ?_
      refine AOps.s 28 rfl rfl rfl (q_index_lst tok rfl rfl rfl rfl rfl rfl hi.1 (idx_mapN hf) rfl) ?_
      refine AOps.s 29 rfl rfl rfl (q_load tok rfl rfl rfl (by first | exact .loc _ | exact .ptr _ _ _ _ _ _ _ _ rfl rfl rfl) rfl) ?_
      refine AOps.x 30 rfl rfl rfl (o_pure rfl Try.func13 (by kernel_rfl) rfl rfl rfl (tidyOf_ok f htame)) ?_
      refine AOps.s 24 rfl rfl rfl (q_move (.inl rfl) rfl) ?_
      refine AOps.s 31 rfl rfl rfl (q_extract rfl rfl rfl) ?_
      refine AOps.s 32 rfl rfl rfl (q_extract rfl rfl rfl) ?_
      refine AOps.x 5 rfl rfl rfl (o_alloc tok 1 rfl rfl rfl rfl (Nat.zero_lt_succ _) rfl) ?_
      refine AOps.w rfl rfl (o_store tok rfl rfl rfl rfl rfl rfl rfl rfl rfl (by decide) rfl (by first | exact fun _ => rfl | (intro h; cases h))) ?_
      refine AOps.s 6 rfl rfl rfl (q_move (.inr rfl) rfl) ?_
      refine AOps.nil ?_
      refine AGo.seq ?_
      refine AGo.region ?_
      refine AOps.s 34 rfl rfl rfl (q_load tok rfl rfl rfl (by first | exact .loc _ | exact .ptr _ _ _ _ _ _ _ _ rfl rfl rfl) rfl) ?_
      refine AOps.x 35 rfl rfl rfl (o_pure rfl Try.func13 (by kernel_rfl) rfl rfl rfl ((tidyOf_ok f.tidy ht2).mono (fun r h => by rw [h, tw1, tw2]))) ?_
      refine AOps.s 33 rfl rfl rfl (q_move (.inl rfl) rfl) ?_
      refine AOps.s 36 rfl rfl rfl (q_extract rfl rfl rfl) ?_
      refine AOps.s 37 rfl rfl rfl (q_extract rfl rfl rfl) ?_
      refine AOps.x 7 rfl rfl rfl (o_alloc tok 2 rfl rfl rfl rfl (Nat.zero_lt_succ _) rfl) ?_
      refine AOps.w rfl rfl (o_store tok rfl rfl rfl rfl rfl rfl rfl rfl rfl (by decide) rfl (by first | exact fun _ => rfl | (intro h; cases h))) ?_
      refine AOps.s 8 rfl rfl rfl (q_move (.inr rfl) rfl) ?_
      refine AOps.nil ?_
      refine AGo.seq ?_
      refine AGo.seq ?_
      refine AGo.region ?_
      refine AOps.s 38 rfl rfl rfl (q_load tok rfl rfl rfl (by first | exact .loc _ | exact .ptr _ _ _ _ _ _ _ _ rfl rfl rfl) rfl) ?_
      refine AOps.s 39 rfl rfl rfl (q_load tok rfl rfl rfl (by first | exact .loc _ | exact .ptr _ _ _ _ _ _ _ _ rfl rfl rfl) rfl) ?_
      refine AOps.x 40 rfl rfl rfl (o_pure rfl Try.func15 (by kernel_rfl) rfl rfl rfl ((sameFunc_ok f.tidy f.tidy).mono (fun r h => by rw [h, decide_eq_true rfl]))) ?_
      refine AOps.s 41 rfl rfl rfl (q_not rfl rfl) ?_
      refine AOps.s 42 rfl rfl rfl (q_move (.inl rfl) rfl) ?_
      refine AOps.s 43 rfl rfl rfl (q_move (.inl rfl) rfl) ?_
      refine AOps.s 44 rfl rfl rfl (q_len tok rfl rfl rfl rfl rfl) ?_
      refine AOps.s 45 rfl rfl rfl (q_fieldAddr tok rfl rfl rfl rfl rfl rfl) ?_
      refine AOps.s 46 rfl rfl rfl (q_load tok rfl rfl rfl (by first | exact .loc _ | exact .ptr _ _ _ _ _ _ _ _ rfl rfl rfl) rfl) ?_
      refine AOps.s 47 rfl rfl rfl (q_len tok rfl rfl rfl rfl rfl) ?_
      refine AOps.s 48 rfl rfl rfl (q_bin (r := .bool false) rfl rfl rfl (by simp [evalBin, evalInt, isShift, rangeP_length])) ?_
      refine AOps.s 49 rfl rfl rfl (q_pick_false false rfl rfl rfl rfl) ?_
      refine AOps.nil ?_
      refine AGo.cond_false false rfl rfl ?_
      refine AGo.skip ?_
      refine AGo.seq ?_
      refine AGo.region ?_
      refine AOps.s 50 rfl rfl rfl (q_load tok rfl rfl rfl (by first | exact .loc _ | exact .ptr _ _ _ _ _ _ _ _ rfl rfl rfl) rfl) ?_
      refine AOps.x 51 rfl rfl rfl (o_pure rfl Try.func25 (by kernel_rfl) rfl rfl rfl (rnext_ok f.tidy (by omega))) ?_
      refine AOps.x 52 rfl rfl rfl (o_pure rfl Try.func24 (by kernel_rfl) rfl rfl rfl (rreach_ok f.tidy (by omega) ht2.leads htn)) ?_
      refine AOps.s 9 rfl rfl rfl (q_move (.inr rfl) rfl) ?_
      refine AOps.nil ?_
      refine AGo.seq ?_
      refine AGo.seq ?_
      refine AGo.region ?_
      refine AOps.s 10 rfl rfl rfl (q_move (.inr rfl) rfl) ?_
      refine AOps.nil ?_
      refine AGo.block ?_
      refine AGo.loopI (γ := Nat) (fun k => ⟨74, (eput (eput (eput eNew 8 (pathsAV (rangeP f.tidy.blocks.length))) 9 (boolsAV f.tidy.reach)) 10 (.int .i64 (k : Int))), hNone⟩) (fun k => True) (fun k => f.tidy.blocks.length - k) 0 (Sub.mk' (by repeat (first | exact ESub.new _ | refine ESub.put ?_ (by rfl))) (by repeat (first | exact HSub.none _ | exact HSub.from_new _ | exact HSub.from_from (by first | decide | omega | (dsimp only; omega)) | refine HSub.put ?_ (by rfl) | refine HSub.from_put ?_ (by first | decide | omega | (dsimp only; omega)) | refine HSub.from_rm ?_ (by decide)))) trivial ?_
      intro k _
      refine AGo.seq ?_
      refine AGo.seq ?_
      refine AGo.region ?_
      refine AOps.s 53 rfl rfl rfl (q_move (.inl rfl) rfl) ?_
      refine AOps.s 54 rfl rfl rfl (q_move (.inl rfl) rfl) ?_
      refine AOps.s 55 rfl rfl rfl (q_len tok rfl rfl rfl rfl rfl) ?_
      refine AOps.s 56 rfl rfl rfl (q_bin rfl rfl rfl rfl) ?_
      refine AOps.nil ?_
      refine AGo.split 56 rfl (fun hb3 => ?_) (fun hb3 => ?_)
      · -- True
        refine AGo.cond_true true rfl rfl ?_
        have hkl : k < f.tidy.blocks.length := by have h := hb3; simp [rangeP_length] at h; exact h
        refine AGo.skip ?_
        refine AGo.seq ?_
        refine AGo.block ?_
        refine AGo.seq ?_
        refine AGo.region ?_
        refine AOps.s 59 rfl rfl rfl (q_move (.inl rfl) rfl) ?_
        refine AOps.s 60 rfl rfl rfl (q_move (.inl rfl) rfl) ?_
        refine AOps.s 61 rfl rfl rfl (q_index_lst tok rfl rfl rfl rfl rfl rfl (Int.natCast_nonneg _) (idx_map (rangeP_get hkl)) rfl) ?_
        refine AOps.s 62 rfl rfl rfl (q_load tok rfl rfl rfl (by first | exact .loc _ | exact .ptr _ _ _ _ _ _ _ _ rfl rfl rfl) rfl) ?_
        refine AOps.s 63 rfl rfl rfl (q_move (.inl rfl) rfl) ?_
        refine AOps.x 64 rfl rfl rfl (o_lit' tok rfl rfl rfl rfl rfl rfl (by decide) rfl rfl rfl rfl rfl rfl) ?_
        refine AOps.x 65 rfl rfl rfl (o_pure rfl Try.func26 (by kernel_rfl) rfl rfl rfl ((list_ok [(k : Int)] [(k : Int)] (by show 1 ≤ _; omega)).mono (fun r h => by rw [h, decide_eq_true rfl]))) ?_
        refine AOps.s 66 rfl rfl rfl (q_not rfl rfl) ?_
        refine AOps.s 67 rfl rfl rfl (q_move (.inl rfl) rfl) ?_
        refine AOps.s 68 rfl rfl rfl (q_move (.inl rfl) rfl) ?_
        refine AOps.s 69 rfl rfl rfl (q_move (.inl rfl) rfl) ?_
        refine AOps.s 70 rfl rfl rfl (q_index_lst tok rfl rfl rfl rfl rfl rfl (Int.natCast_nonneg _) (idx_map (tw3 k hkl)) rfl) ?_
        refine AOps.s 71 rfl rfl rfl (q_load tok rfl rfl rfl (by first | exact .loc _ | exact .ptr _ _ _ _ _ _ _ _ rfl rfl rfl) rfl) ?_
        refine AOps.s 72 rfl rfl rfl (q_not rfl rfl) ?_
        refine AOps.s 73 rfl rfl rfl (q_pick_false false rfl rfl rfl rfl) ?_
        refine AOps.nil ?_
        refine AGo.cond_false false rfl rfl ?_
        refine AGo.skip ?_
        refine AGo.region ?_
        refine AOps.s 57 rfl rfl rfl (q_move (.inl rfl) rfl) ?_
        refine AOps.s 58 rfl rfl rfl (q_inc rfl rfl hkl (by simp only [maxLen]; omega)) ?_
        refine AOps.s 10 rfl rfl rfl (q_move (.inr rfl) rfl) ?_
        refine AOps.nil ?_
        exact ⟨k+1, Sub.mk' (by repeat (first | exact ESub.new _ | refine ESub.put ?_ (by rfl))) (by repeat (first | exact HSub.none _ | exact HSub.from_new _ | exact HSub.from_from (by first | decide | omega | (dsimp only; omega)) | refine HSub.put ?_ (by rfl) | refine HSub.from_put ?_ (by first | decide | omega | (dsimp only; omega)) | refine HSub.from_rm ?_ (by decide))), trivial, by omega⟩
      · -- False
        refine AGo.cond_false false rfl rfl ?_
        refine AGo.exit ?_
        refine AGo.seq ?_
        refine AGo.region ?_
        refine AOps.s 4 rfl rfl rfl (q_move (.inr rfl) rfl) ?_
        refine AOps.nil ?_
        refine AGo.ret ?_
        refine ⟨[_], ⟨rfl, trivial⟩, ?_, rfl⟩
        rfl

end Go.Proofs.Ytidfabbnobipkaa.Sv

namespace Go.Proofs.Ytidfabbnobipkaa
open Go.ChangeShapes Go.WideShapes Go.ChangeAt Go.RowKit Sv
set_option linter.unusedVariables false

set_option maxRecDepth 100000 in
theorem tidyTwice_lifted (os : Os) (started : os.Started) (H : Type) (enc : TypeId × Value → H) :
    ReturnsInHanded {} Try.checked os 7 .any (Rows.tidyTwiceSpec.pre6 enc Try.prog Try.f7 Rows.tidyTwiceRow.domain false) (Rows.tidyTwiceSpec.post enc Try.prog Try.f7 false true false false) := by
  refine returnsInHanded_of_change_sized (C := Try.checked) own' started (by kernel_rfl) Try.func7
    (ChangeSpec.witness6 (enc := enc) (C := Try.checked) false ⟨#[], #[.agg #[.int .i64 0, .slice none 0 0], .int .u8 0], []⟩ 8 (by kernel_rfl) (by kernel_rfl) (by kernel_rfl) (by kernel_rfl)) ?_
  intro W base args ds gs before hval0 hW hcnd hwt0 hh
  have hval : ∀ (j : Nat) t v, Try.f7.params[j]? = some t → args[j]? = some v → Value.okWide Try.prog W .any base t v := hval0
  have hW' := hW
  obtain ⟨p, q, hA0, hV, rfl, hfz, hnd⟩ := hW
  have hA : DataW.TrodAll enc Try.prog W 0 (fun _ => true) true Try.f7.params.toList args.toList ds p := hA0
  have hwt : (DataW.weightsEach Try.prog (Try.f7.params.toList ++ Rows.tidyTwiceSpec.plain.varTypes Try.prog) (ds ++ gs)).all (· ≤ reachBytes) = true := hwt0
  rw [Try.params7] at hA hval hwt
  obtain ⟨v0, vs0, d0, ds0, p0, q0, hargs, rfl, rfl, h0, r0⟩ := trodAll_cons hA
  obtain ⟨v1, vs1, d1, ds1, p1, q1, rfl, rfl, rfl, h1, r1⟩ := trodAll_cons r0
  obtain ⟨rfl, rfl, rfl⟩ := trodAll_nil r1
  obtain rfl : args = #[v0, v1] := by cases args; simp_all
  obtain ⟨rfl, rfl⟩ := trodVars_none hV
  obtain ⟨x0, e0, g0⟩ := arg_one h0 (weightsEach_get hwt (i := 0) rfl rfl) decBlocks
  obtain ⟨x1, rfl, rfl, rfl, w1⟩ := open_int Try.underlying5 (hval 1 5 v1 rfl rfl) h1
  exact law_calls laidOut' rfl (by kernel_rfl) rfl bool' rfl rfl rfl hW' (.cons (e0.val (okWide_agg tok rfl rfl (hval 0 24 v0 rfl rfl))) (.cons (.int _ _ _) .nil)) (tidyTwice_ok x0 x1 g0 (wf_u8 w1))

theorem tidyTwice_holds : Rows.TidyTwiceSaid :=
  OpenClaim.holds_of_wide 7 Try.f7 rfl rfl rfl rfl rfl rfl rfl ⟨rfl, rfl, rfl, rfl, rfl⟩ rfl rfl rfl rfl rfl (by kernel_rfl) Try.func7 (by kernel_rfl)
    (of_decide_eq_true (by kernel_rfl)) (by unfold Func.isWrapper; first | (rw [if_pos (by decide +kernel)]; kernel_rfl) | (rw [if_neg (by decide +kernel)]; exact ⟨rfl, rfl⟩))
    (fun os started H enc _ => tidyTwice_lifted os started H enc)

end Go.Proofs.Ytidfabbnobipkaa
