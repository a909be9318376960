/-
  WALKS: printed by a program of our own from the code's tree.
-/
import Derived.Test.YtkccdnincholpaaSp3
import Derived.Test.YtkccdnincholpaaSw3
namespace Go.Proofs.Ytkccdnincholpaa.Sv
open Go
set_option linter.unusedVariables false
set_option linter.unusedSimpArgs false

set_option maxRecDepth 100000 in
theorem bsets_ok (op : Int) : APure Try.prog 34 [.int .i64 op] (fun r => r = .bool (setsOp op)) := by
  refine APure.of_body (n := 11) tok Try.func34 rfl rfl ?_
  refine AGo.seq ?_
  refine AGo.region ?_
  refine AOps.s 2 rfl rfl rfl (q_move (.inr rfl) rfl) ?_
  refine AOps.nil ?_
  refine AGo.seq ?_
  refine AGo.seq ?_
  refine AGo.region ?_
  refine AOps.s 3 rfl rfl rfl (q_move (.inl rfl) rfl) ?_
  refine AOps.nil ?_
  refine AGo.block ?_
  refine AGo.seq ?_
  refine AGo.seq ?_
  refine AGo.region ?_
  refine AOps.s 5 rfl rfl rfl (q_bin rfl rfl rfl rfl) ?_
  refine AOps.s 4 rfl rfl rfl (q_move (.inr rfl) rfl) ?_
  refine AOps.nil ?_
  refine AGo.split 4 rfl (fun hb1 => ?_) (fun hb1 => ?_)
  · -- True
    refine AGo.cond_true true rfl rfl ?_
    refine AGo.skip ?_
    refine AGo.cond_true true rfl rfl ?_
    refine AGo.seq ?_
    refine AGo.region ?_
    refine AOps.s 2 rfl rfl rfl (q_move (.inr rfl) rfl) ?_
    refine AOps.nil ?_
    refine AGo.ret ?_
    refine ⟨[_], ⟨rfl, trivial⟩, ?_, rfl⟩
    show AV.bool _ = AV.bool _
    congr 1
    simp [setsOp, *]
  · -- False
    refine AGo.cond_false false rfl rfl ?_
    refine AGo.seq ?_
    refine AGo.region ?_
    refine AOps.s 6 rfl rfl rfl (q_bin rfl rfl rfl rfl) ?_
    refine AOps.s 4 rfl rfl rfl (q_move (.inr rfl) rfl) ?_
    refine AOps.nil ?_
    refine AGo.split 4 rfl (fun hb2 => ?_) (fun hb2 => ?_)
    · -- True
      refine AGo.cond_true true rfl rfl ?_
      refine AGo.skip ?_
      refine AGo.cond_true true rfl rfl ?_
      refine AGo.seq ?_
      refine AGo.region ?_
      refine AOps.s 2 rfl rfl rfl (q_move (.inr rfl) rfl) ?_
      refine AOps.nil ?_
      refine AGo.ret ?_
      refine ⟨[_], ⟨rfl, trivial⟩, ?_, rfl⟩
      show AV.bool _ = AV.bool _
      congr 1
      simp [setsOp, *]
    · -- False
      refine AGo.cond_false false rfl rfl ?_
      refine AGo.seq ?_
      refine AGo.region ?_
      refine AOps.s 7 rfl rfl rfl (q_bin rfl rfl rfl rfl) ?_
      refine AOps.s 4 rfl rfl rfl (q_move (.inr rfl) rfl) ?_
      refine AOps.nil ?_
      refine AGo.split 4 rfl (fun hb3 => ?_) (fun hb3 => ?_)
      · -- True
        refine AGo.cond_true true rfl rfl ?_
        refine AGo.skip ?_
        refine AGo.cond_true true rfl rfl ?_
        refine AGo.seq ?_
        refine AGo.region ?_
        refine AOps.s 2 rfl rfl rfl (q_move (.inr rfl) rfl) ?_
        refine AOps.nil ?_
        refine AGo.ret ?_
        refine ⟨[_], ⟨rfl, trivial⟩, ?_, rfl⟩
        show AV.bool _ = AV.bool _
        congr 1
        simp [setsOp, *]
      · -- False
        refine AGo.cond_false false rfl rfl ?_
        refine AGo.seq ?_
        refine AGo.region ?_
        refine AOps.s 8 rfl rfl rfl (q_bin rfl rfl rfl rfl) ?_
        refine AOps.s 4 rfl rfl rfl (q_move (.inr rfl) rfl) ?_
        refine AOps.nil ?_
        refine AGo.split 4 rfl (fun hb4 => ?_) (fun hb4 => ?_)
        · -- True
          refine AGo.cond_true true rfl rfl ?_
          refine AGo.skip ?_
          refine AGo.cond_true true rfl rfl ?_
          refine AGo.seq ?_
          refine AGo.region ?_
          refine AOps.s 2 rfl rfl rfl (q_move (.inr rfl) rfl) ?_
          refine AOps.nil ?_
          refine AGo.ret ?_
          refine ⟨[_], ⟨rfl, trivial⟩, ?_, rfl⟩
          show AV.bool _ = AV.bool _
          congr 1
          simp [setsOp, *]
        · -- False
          refine AGo.cond_false false rfl rfl ?_
          refine AGo.seq ?_
          refine AGo.region ?_
          refine AOps.s 9 rfl rfl rfl (q_bin rfl rfl rfl rfl) ?_
          refine AOps.s 4 rfl rfl rfl (q_move (.inr rfl) rfl) ?_
          refine AOps.nil ?_
          refine AGo.split 4 rfl (fun hb5 => ?_) (fun hb5 => ?_)
          · -- True
            refine AGo.cond_true true rfl rfl ?_
            refine AGo.skip ?_
            refine AGo.cond_true true rfl rfl ?_
            refine AGo.seq ?_
            refine AGo.region ?_
            refine AOps.s 2 rfl rfl rfl (q_move (.inr rfl) rfl) ?_
            refine AOps.nil ?_
            refine AGo.ret ?_
            refine ⟨[_], ⟨rfl, trivial⟩, ?_, rfl⟩
            show AV.bool _ = AV.bool _
            congr 1
            simp [setsOp, *]
          · -- False
            refine AGo.cond_false false rfl rfl ?_
            refine AGo.region ?_
            refine AOps.s 10 rfl rfl rfl (q_bin rfl rfl rfl rfl) ?_
            refine AOps.s 4 rfl rfl rfl (q_move (.inr rfl) rfl) ?_
            refine AOps.nil ?_
            refine AGo.split 4 rfl (fun hb6 => ?_) (fun hb6 => ?_)
            · -- True
              refine AGo.cond_true true rfl rfl ?_
              refine AGo.seq ?_
              refine AGo.region ?_
              refine AOps.s 2 rfl rfl rfl (q_move (.inr rfl) rfl) ?_
              refine AOps.nil ?_
              refine AGo.ret ?_
              refine ⟨[_], ⟨rfl, trivial⟩, ?_, rfl⟩
              show AV.bool _ = AV.bool _
              congr 1
              simp [setsOp, *]
            · -- False
              refine AGo.cond_false false rfl rfl ?_
              refine AGo.skip ?_
              refine AGo.seq ?_
              refine AGo.region ?_
              refine AOps.s 2 rfl rfl rfl (q_move (.inr rfl) rfl) ?_
              refine AOps.nil ?_
              refine AGo.ret ?_
              refine ⟨[_], ⟨rfl, trivial⟩, ?_, rfl⟩
              show AV.bool _ = AV.bool _
              congr 1
              simp [setsOp, *]

set_option maxRecDepth 100000 in
theorem bSets_ok (t : Tac) : APure Try.prog 27 [.agg t.cells] (fun r => r = .int .i64 t.sets) := by
  refine APure.of_body (n := 8) tok Try.func27 rfl rfl ?_
  refine AGo.seq ?_
  refine AGo.region ?_
  refine AOps.x 1 rfl rfl rfl (o_box (sz := 8) 0 rfl rfl rfl rfl (Nat.zero_lt_succ _) rfl) ?_
  refine AOps.s 2 rfl rfl rfl (q_move (.inr rfl) rfl) ?_
  refine AOps.nil ?_
  refine AGo.seq ?_
  refine AGo.seq ?_
  refine AGo.region ?_
  refine AOps.s 3 rfl rfl rfl (q_fieldAddr tok rfl rfl rfl rfl rfl rfl) ?_
  refine AOps.s 4 rfl rfl rfl (q_load tok rfl rfl rfl (by first | exact .loc _ | exact .ptr _ _ _ _ _ _ _ _ rfl rfl rfl) rfl) ?_
  refine AOps.x 5 rfl rfl rfl (o_pure rfl Try.func34 (by kernel_rfl) rfl rfl rfl (bsets_ok _)) ?_
  refine AOps.nil ?_
  refine AGo.split 5 rfl (fun hb1 => ?_) (fun hb1 => ?_)
  · -- True
    refine AGo.cond_true true rfl rfl ?_
    refine AGo.seq ?_
    refine AGo.region ?_
    refine AOps.s 6 rfl rfl rfl (q_fieldAddr tok rfl rfl rfl rfl rfl rfl) ?_
    refine AOps.s 7 rfl rfl rfl (q_load tok rfl rfl rfl (by first | exact .loc _ | exact .ptr _ _ _ _ _ _ _ _ rfl rfl rfl) rfl) ?_
    refine AOps.s 2 rfl rfl rfl (q_move (.inr rfl) rfl) ?_
    refine AOps.nil ?_
    refine AGo.ret ?_
    refine ⟨[_], ⟨rfl, trivial⟩, ?_, rfl⟩
    show AV.int .i64 _ = AV.int .i64 _
    congr 1
    simp [Tac.sets, *]
  · -- False
    refine AGo.cond_false false rfl rfl ?_
    refine AGo.skip ?_
    refine AGo.seq ?_
    refine AGo.region ?_
    refine AOps.s 2 rfl rfl rfl (q_move (.inr rfl) rfl) ?_
    refine AOps.nil ?_
    refine AGo.ret ?_
    refine ⟨[_], ⟨rfl, trivial⟩, ?_, rfl⟩
    show AV.int .i64 _ = AV.int .i64 _
    congr 1
    simp [Tac.sets, *]

set_option maxRecDepth 100000 in
theorem value_ok (t : Tac) (K : WMap) (hK : allW K) : ACall Try.prog 26 [.agg t.cells, .map 0] (hput hNew 0 (.map (kvs .i64 (nm K)))) (fun r h' => r = .tup [.int .u32 (fvalue t K).1, .bool (fvalue t K).2] ∧ HSub (hput hNone 0 (.map (kvs .i64 (nm K)))) h') := by
  refine ACall.of_body (n := 60) tok Try.func26 rfl rfl ?_
  refine AGo.seq ?_
  refine AGo.region ?_
  refine AOps.x 2 rfl rfl rfl (o_box (sz := 8) 1 rfl rfl rfl rfl (Nat.zero_lt_succ _) rfl) ?_
  refine AOps.s 4 rfl rfl rfl (q_move (.inr rfl) rfl) ?_
  refine AOps.s 5 rfl rfl rfl (q_move (.inr rfl) rfl) ?_
  refine AOps.nil ?_
  refine AGo.seq ?_
  refine AGo.seq ?_
  refine AGo.region ?_
  refine AOps.s 14 rfl rfl rfl (q_fieldAddr tok rfl rfl rfl rfl rfl rfl) ?_
  refine AOps.s 15 rfl rfl rfl (q_load tok rfl rfl rfl (by first | exact .loc _ | exact .ptr _ _ _ _ _ _ _ _ rfl rfl rfl) rfl) ?_
  refine AOps.nil ?_
  refine AGo.block ?_
  refine AGo.seq ?_
  refine AGo.region ?_
  refine AOps.s 17 rfl rfl rfl (q_bin rfl rfl rfl rfl) ?_
  refine AOps.s 16 rfl rfl rfl (q_move (.inr rfl) rfl) ?_
  refine AOps.nil ?_
  refine AGo.split 16 rfl (fun hb1 => ?_) (fun hb1 => ?_)
  · -- True
    refine AGo.cond_true true rfl rfl ?_
    refine AGo.seq ?_
    refine AGo.region ?_
    refine AOps.s 19 rfl rfl rfl (q_move (.inl rfl) rfl) ?_
    refine AOps.s 20 rfl rfl rfl (q_fieldAddr tok rfl rfl rfl rfl rfl rfl) ?_
    refine AOps.s 21 rfl rfl rfl (q_load tok rfl rfl rfl (by first | exact .loc _ | exact .ptr _ _ _ _ _ _ _ _ rfl rfl rfl) rfl) ?_
    refine AOps.s 22 rfl rfl rfl (q_lookupW tok rfl rfl rfl rfl rfl rfl rfl rfl (by kernel_rfl)) ?_
    refine AOps.s 18 rfl rfl rfl (q_move (.inl rfl) rfl) ?_
    refine AOps.s 23 rfl rfl rfl (q_extract rfl rfl rfl) ?_
    refine AOps.s 24 rfl rfl rfl (q_extract rfl rfl rfl) ?_
    refine AOps.s 6 rfl rfl rfl (q_move (.inr rfl) rfl) ?_
    refine AOps.s 7 rfl rfl rfl (q_move (.inr rfl) rfl) ?_
    refine AOps.nil ?_
    refine AGo.seq ?_
    refine AGo.region ?_
    refine AOps.s 25 rfl rfl rfl (q_move (.inl rfl) rfl) ?_
    refine AOps.s 26 rfl rfl rfl (q_move (.inl rfl) rfl) ?_
    refine AOps.s 4 rfl rfl rfl (q_move (.inr rfl) rfl) ?_
    refine AOps.s 5 rfl rfl rfl (q_move (.inr rfl) rfl) ?_
    refine AOps.nil ?_
    refine AGo.ret ?_
    refine ⟨[_, _], ⟨rfl, rfl, trivial⟩, ?_, HSub.put (HSub.none _) rfl⟩
    show AV.tup _ = AV.tup _
    first | (simp [fvalue, *]; done) | (cases h1 : (pget t.a K).isSome <;> cases h2 : (pget t.b K).isSome <;> simp_all [fvalue])
  · -- False
    refine AGo.cond_false false rfl rfl ?_
    refine AGo.seq ?_
    refine AGo.region ?_
    refine AOps.s 28 rfl rfl rfl (q_bin rfl rfl rfl rfl) ?_
    refine AOps.s 27 rfl rfl rfl (q_move (.inr rfl) rfl) ?_
    refine AOps.nil ?_
    refine AGo.split 27 rfl (fun hb2 => ?_) (fun hb2 => ?_)
    · -- True
      refine AGo.cond_true true rfl rfl ?_
      refine AGo.seq ?_
      refine AGo.region ?_
      refine AOps.s 30 rfl rfl rfl (q_move (.inl rfl) rfl) ?_
      refine AOps.s 31 rfl rfl rfl (q_fieldAddr tok rfl rfl rfl rfl rfl rfl) ?_
      refine AOps.s 32 rfl rfl rfl (q_load tok rfl rfl rfl (by first | exact .loc _ | exact .ptr _ _ _ _ _ _ _ _ rfl rfl rfl) rfl) ?_
      refine AOps.s 33 rfl rfl rfl (q_lookupW tok rfl rfl rfl rfl rfl rfl rfl rfl (by kernel_rfl)) ?_
      refine AOps.s 29 rfl rfl rfl (q_move (.inl rfl) rfl) ?_
      refine AOps.s 34 rfl rfl rfl (q_extract rfl rfl rfl) ?_
      refine AOps.s 35 rfl rfl rfl (q_extract rfl rfl rfl) ?_
      refine AOps.s 8 rfl rfl rfl (q_move (.inr rfl) rfl) ?_
      refine AOps.s 9 rfl rfl rfl (q_move (.inr rfl) rfl) ?_
      refine AOps.nil ?_
      refine AGo.seq ?_
      refine AGo.region ?_
      refine AOps.s 37 rfl rfl rfl (q_move (.inl rfl) rfl) ?_
      refine AOps.s 38 rfl rfl rfl (q_fieldAddr tok rfl rfl rfl rfl rfl rfl) ?_
      refine AOps.s 39 rfl rfl rfl (q_load tok rfl rfl rfl (by first | exact .loc _ | exact .ptr _ _ _ _ _ _ _ _ rfl rfl rfl) rfl) ?_
      refine AOps.s 40 rfl rfl rfl (q_lookupW tok rfl rfl rfl rfl rfl rfl rfl rfl (by kernel_rfl)) ?_
      refine AOps.s 36 rfl rfl rfl (q_move (.inl rfl) rfl) ?_
      refine AOps.s 41 rfl rfl rfl (q_extract rfl rfl rfl) ?_
      refine AOps.s 42 rfl rfl rfl (q_extract rfl rfl rfl) ?_
      refine AOps.s 10 rfl rfl rfl (q_move (.inr rfl) rfl) ?_
      refine AOps.s 11 rfl rfl rfl (q_move (.inr rfl) rfl) ?_
      refine AOps.nil ?_
      refine AGo.seq ?_
      refine AGo.seq ?_
      refine AGo.region ?_
      refine AOps.s 43 rfl rfl rfl (q_move (.inl rfl) rfl) ?_
      refine AOps.s 44 rfl rfl rfl (q_not rfl rfl) ?_
      refine AOps.s 45 rfl rfl rfl (q_move (.inl rfl) rfl) ?_
      refine AOps.split 45 rfl (fun hb3 => ?_) (fun hb3 => ?_)
      · -- True
        refine AOps.k 46 rfl rfl rfl ?_
        refine AOps.k 47 rfl rfl rfl ?_
        refine AOps.s 48 rfl rfl rfl (q_pick_true true rfl rfl rfl rfl) ?_
        refine AOps.nil ?_
        refine AGo.cond_true true rfl rfl ?_
        refine AGo.seq ?_
        refine AGo.region ?_
        refine AOps.s 4 rfl rfl rfl (q_move (.inr rfl) rfl) ?_
        refine AOps.s 5 rfl rfl rfl (q_move (.inr rfl) rfl) ?_
        refine AOps.nil ?_
        refine AGo.ret ?_
        refine ⟨[_, _], ⟨rfl, rfl, trivial⟩, ?_, HSub.put (HSub.none _) rfl⟩
        show AV.tup _ = AV.tup _
        first | (simp [fvalue, *]; done) | (cases h1 : (pget t.a K).isSome <;> cases h2 : (pget t.b K).isSome <;> simp_all [fvalue])
      · -- False
        refine AOps.s 46 rfl rfl rfl (q_move (.inl rfl) rfl) ?_
        refine AOps.s 47 rfl rfl rfl (q_not rfl rfl) ?_
        refine AOps.s 48 rfl rfl rfl (q_pick_false false rfl rfl rfl rfl) ?_
        refine AOps.nil ?_
        refine AGo.split 48 rfl (fun hb4 => ?_) (fun hb4 => ?_)
        · -- True
          refine AGo.cond_true true rfl rfl ?_
          refine AGo.seq ?_
          refine AGo.region ?_
          refine AOps.s 4 rfl rfl rfl (q_move (.inr rfl) rfl) ?_
          refine AOps.s 5 rfl rfl rfl (q_move (.inr rfl) rfl) ?_
          refine AOps.nil ?_
          refine AGo.ret ?_
          refine ⟨[_, _], ⟨rfl, rfl, trivial⟩, ?_, HSub.put (HSub.none _) rfl⟩
          show AV.tup _ = AV.tup _
          first | (simp [fvalue, *]; done) | (cases h1 : (pget t.a K).isSome <;> cases h2 : (pget t.b K).isSome <;> simp_all [fvalue])
        · -- False
          refine AGo.cond_false false rfl rfl ?_
          refine AGo.skip ?_
          refine AGo.seq ?_
          refine AGo.region ?_
          refine AOps.s 50 rfl rfl rfl (q_fieldAddr tok rfl rfl rfl rfl rfl rfl) ?_
          refine AOps.s 51 rfl rfl rfl (q_load tok rfl rfl rfl (by first | exact .loc _ | exact .ptr _ _ _ _ _ _ _ _ rfl rfl rfl) rfl) ?_
          refine AOps.s 52 rfl rfl rfl (q_move (.inl rfl) rfl) ?_
          refine AOps.s 53 rfl rfl rfl (q_move (.inl rfl) rfl) ?_
          refine AOps.x 54 rfl rfl rfl (o_pure rfl Try.func17 (by kernel_rfl) rfl rfl rfl (apply_ok _ _ _ (pget_w hK _).1)) ?_
          refine AOps.s 49 rfl rfl rfl (q_move (.inl rfl) rfl) ?_
          refine AOps.s 55 rfl rfl rfl (q_extract rfl rfl rfl) ?_
          refine AOps.s 56 rfl rfl rfl (q_extract rfl rfl rfl) ?_
          refine AOps.s 12 rfl rfl rfl (q_move (.inr rfl) rfl) ?_
          refine AOps.s 13 rfl rfl rfl (q_move (.inr rfl) rfl) ?_
          refine AOps.nil ?_
          refine AGo.seq ?_
          refine AGo.region ?_
          refine AOps.s 57 rfl rfl rfl (q_move (.inl rfl) rfl) ?_
          refine AOps.s 58 rfl rfl rfl (q_move (.inl rfl) rfl) ?_
          refine AOps.s 59 rfl rfl rfl (q_bin rfl rfl rfl rfl) ?_
          refine AOps.s 4 rfl rfl rfl (q_move (.inr rfl) rfl) ?_
          refine AOps.s 5 rfl rfl rfl (q_move (.inr rfl) rfl) ?_
          refine AOps.nil ?_
          refine AGo.ret ?_
          refine ⟨[_, _], ⟨rfl, rfl, trivial⟩, ?_, HSub.put (HSub.none _) rfl⟩
          show AV.tup _ = AV.tup _
          first | (simp [fvalue, *]; done) | (cases h1 : (pget t.a K).isSome <;> cases h2 : (pget t.b K).isSome <;> simp_all [fvalue])
    · -- False
      refine AGo.cond_false false rfl rfl ?_
      refine AGo.skip ?_
      refine AGo.seq ?_
      refine AGo.region ?_
      refine AOps.s 4 rfl rfl rfl (q_move (.inr rfl) rfl) ?_
      refine AOps.s 5 rfl rfl rfl (q_move (.inr rfl) rfl) ?_
      refine AOps.nil ?_
      refine AGo.ret ?_
      refine ⟨[_, _], ⟨rfl, rfl, trivial⟩, ?_, HSub.put (HSub.none _) rfl⟩
      show AV.tup _ = AV.tup _
      first | (simp [fvalue, *]; done) | (cases h1 : (pget t.a K).isSome <;> cases h2 : (pget t.b K).isSome <;> simp_all [fvalue])

set_option maxRecDepth 100000 in
theorem folded_ok (l : List Tac) (hl : insW l) (hn : l.length ≤ 100000) : APure Try.prog 18 [insAV l] (fun r => r = insAV (foldIns [] l)) := by
  refine APure.of_body (n := 51) tok Try.func18 rfl rfl ?_
  refine AGo.seq ?_
  refine AGo.region ?_
  refine AOps.s 2 rfl rfl rfl (q_move (.inr rfl) rfl) ?_
  refine AOps.nil ?_
  refine AGo.seq ?_
  refine AGo.region ?_
  refine AOps.x 10 rfl rfl rfl (o_makeMap .i64 0 rfl rfl) ?_
  refine AOps.s 3 rfl rfl rfl (q_move (.inr rfl) rfl) ?_
  refine AOps.nil ?_
  refine AGo.seq ?_
  refine AGo.region ?_
  refine AOps.s 11 rfl rfl rfl (q_move (.inl rfl) rfl) ?_
  refine AOps.s 12 rfl rfl rfl (q_len tok rfl rfl rfl rfl rfl) ?_
  refine AOps.x 13 rfl rfl rfl (o_makeSlice tok (n := l.length) (m := l.length) 1 true rfl rfl rfl (by simp) (by simp) rfl rfl rfl rfl rfl (Nat.zero_lt_succ _) rfl (Nat.le_refl _) (by show 64 * l.length ≤ _; omega) (by simp only [maxLen]; omega)) ?_
  refine AOps.s 4 rfl rfl rfl (q_move (.inr rfl) rfl) ?_
  refine AOps.nil ?_
  refine AGo.seq ?_
  refine AGo.seq ?_
  refine AGo.region ?_
  refine AOps.s 14 rfl rfl rfl (q_move (.inl rfl) rfl) ?_
  refine AOps.s 15 rfl rfl rfl (q_len tok rfl rfl rfl rfl rfl) ?_
  refine AOps.s 16 rfl rfl rfl (q_move (.inl rfl) rfl) ?_
  refine AOps.nil ?_
  refine AGo.block ?_
  refine AGo.loopD (γ := Nat) 2 (fun k => ⟨51, (eput (eput (eput (eput (eput eNew 3 (.map 0)) 4 (.ref 1 l.length 0 l.length)) 14 (insAV l)) 15 (.int .i64 (l.length : Int))) 16 (.int .i64 (k : Int))), (hput (hput (hFrom 2) 0 (.map (kvs .i64 (nm (fknow l k))))) 1 (.row true 8 (((foldIns [] l).take (k)).map Tac.cells ++ List.replicate (l.length - (k)) [.int .i64 0, .int .i64 0, .int .i64 0, .int .i64 0, .int .i64 0, .int .i64 0, .int .i64 0, .int .u32 0])))⟩) (fun k => k ≤ l.length) (fun k => l.length - k) 0 (Sub.mk' (by repeat (first | exact ESub.new _ | refine ESub.put ?_ (by first | rfl | exact congrArg (fun (n : Nat) => some (AV.int .i64 (n : Int))) (by simp)))) (by repeat (first | exact HSub.none _ | exact HSub.from_new _ | exact HSub.from_from (by decide) | refine HSub.put ?_ (by first | rfl | (simp; rfl)) | refine HSub.from_put ?_ (by decide)))) (Nat.zero_le _) (fun _ => hput_free (hput_free (fun b hb => hFrom_free hb) rfl) rfl) ?_
  intro k hk
  refine AGo.seq ?_
  refine AGo.region ?_
  refine AOps.s 17 rfl rfl rfl (q_bin rfl rfl rfl rfl) ?_
  refine AOps.nil ?_
  refine AGo.seq ?_
  refine AGo.split 17 rfl (fun hb1 => ?_) (fun hb1 => ?_)
  · -- True
    refine AGo.cond_true true rfl rfl ?_
    have hkl : k < l.length := by simpa using hb1
    obtain ⟨x, hx⟩ := get_of_lt hkl
    refine AGo.skip ?_
    refine AGo.seq ?_
    refine AGo.block ?_
    refine AGo.seq ?_
    refine AGo.region ?_
    refine AOps.s 18 rfl rfl rfl (q_move (.inl rfl) rfl) ?_
    refine AOps.s 19 rfl rfl rfl (q_index_lst tok rfl rfl rfl rfl rfl rfl (Int.natCast_nonneg _) (idx_map (by assumption)) rfl) ?_
    refine AOps.s 20 rfl rfl rfl (q_load tok rfl rfl rfl (by first | exact .loc _ | exact .ptr _ _ _ _ _ _ _ _ rfl rfl rfl) rfl) ?_
    refine AOps.x 6 rfl rfl rfl (o_alloc tok 2 rfl rfl rfl rfl (Nat.zero_lt_succ _) rfl) ?_
    refine AOps.s 5 rfl rfl rfl (q_move (.inr rfl) rfl) ?_
    refine AOps.w rfl rfl (o_store tok rfl rfl rfl rfl rfl rfl rfl rfl rfl (by decide) rfl (by first | exact fun _ => rfl | (intro h; cases h))) ?_
    refine AOps.nil ?_
    refine AGo.seq ?_
    refine AGo.seq ?_
    refine AGo.region ?_
    refine AOps.s 22 rfl rfl rfl (q_load tok rfl rfl rfl (by first | exact .loc _ | exact .ptr _ _ _ _ _ _ _ _ rfl rfl rfl) rfl) ?_
    refine AOps.s 23 rfl rfl rfl (q_move (.inl rfl) rfl) ?_
    refine AOps.x 24 rfl rfl rfl (o_call (hc := hput hNew 0 (.map (kvs .i64 (nm (fknow l k))))) (hw := hput hNone 0 (.map (kvs .i64 (nm (fknow l k))))) [0] [] rfl Try.func26 (by kernel_rfl) rfl rfl rfl ⟨⟨_, rfl, rfl⟩, trivial⟩ rfl (hres_cons rfl (hres_nil _)) ⟨⟨_, rfl, rfl, rfl⟩, trivial⟩ rfl (value_ok x (fknow l k) (fknow_w hl k))) ?_
    refine AOps.s 21 rfl rfl rfl (q_move (.inl rfl) rfl) ?_
    refine AOps.s 25 rfl rfl rfl (q_extract rfl rfl rfl) ?_
    refine AOps.s 26 rfl rfl rfl (q_extract rfl rfl rfl) ?_
    refine AOps.s 7 rfl rfl rfl (q_move (.inr rfl) rfl) ?_
    refine AOps.s 8 rfl rfl rfl (q_move (.inr rfl) rfl) ?_
    refine AOps.nil ?_
    refine AGo.join (γ := Tac) (fun u => ⟨51, (eput (eput (eput (eput (eput (eput (eput eNew 3 (.map 0)) 4 (.ref 1 l.length 0 l.length)) 14 (insAV l)) 15 (.int .i64 (l.length : Int))) 16 (.int .i64 (k : Int))) 5 (.int .i64 (k : Int))) 6 (.ptr 2 1 0 0)), (hput (hput (hput (hFrom 3) 0 (.map (kvs .i64 (nm (fknow l k))))) 1 (.row true 8 (((foldIns [] l).take (k)).map Tac.cells ++ List.replicate (l.length - (k)) [.int .i64 0, .int .i64 0, .int .i64 0, .int .i64 0, .int .i64 0, .int .i64 0, .int .i64 0, .int .u32 0]))) 2 (.row false 8 [u.cells]))⟩) (fun u => u = fstep (fknow l k) x) ?_ ?_
    · -- to the join
      refine AGo.seq ?_
      refine AGo.region ?_
      refine AOps.s 27 rfl rfl rfl (q_move (.inl rfl) rfl) ?_
      refine AOps.nil ?_
      refine AGo.split 27 rfl (fun hb2 => ?_) (fun hb2 => ?_)
      · -- True
        refine AGo.cond_true true rfl rfl ?_
        refine AGo.region ?_
        refine AOps.s 28 rfl rfl rfl (q_fieldAddr tok rfl rfl rfl rfl rfl rfl) ?_
        refine AOps.s 29 rfl rfl rfl (q_load tok rfl rfl rfl (by first | exact .loc _ | exact .ptr _ _ _ _ _ _ _ _ rfl rfl rfl) rfl) ?_
        refine AOps.s 30 rfl rfl rfl (q_move (.inl rfl) rfl) ?_
        refine AOps.s 31 rfl rfl rfl (q_build tok rfl rfl rfl rfl rfl (by decide) rfl rfl rfl) ?_
        refine AOps.w rfl rfl (o_store tok rfl rfl rfl rfl rfl rfl rfl rfl rfl (by decide) rfl (by first | exact fun _ => rfl | (intro h; cases h))) ?_
        refine AOps.nil ?_
        exact ⟨(konst x.d (fvalue x (fknow l k)).1), Sub.mk' (by repeat (first | exact ESub.new _ | refine ESub.put ?_ (by rfl))) (by repeat (first | exact HSub.none _ | exact HSub.from_new _ | exact HSub.from_from (by decide) | refine HSub.put ?_ (by rfl) | refine HSub.from_put ?_ (by decide))), (by simp [fstep, *])⟩
      · -- False
        refine AGo.cond_false false rfl rfl ?_
        refine AGo.skip ?_
        exact ⟨x, Sub.mk' (by repeat (first | exact ESub.new _ | refine ESub.put ?_ (by rfl))) (by repeat (first | exact HSub.none _ | exact HSub.from_new _ | exact HSub.from_from (by decide) | refine HSub.put ?_ (by rfl) | refine HSub.from_put ?_ (by decide))), (by simp [fstep, *])⟩
    intro u hu
    refine AGo.seq ?_
    refine AGo.region ?_
    refine AOps.s 32 rfl rfl rfl (q_move (.inl rfl) rfl) ?_
    refine AOps.s 33 rfl rfl rfl (q_move (.inl rfl) rfl) ?_
    refine AOps.s 34 rfl rfl rfl (q_load tok rfl rfl rfl (by first | exact .loc _ | exact .ptr _ _ _ _ _ _ _ _ rfl rfl rfl) rfl) ?_
    refine AOps.s 35 rfl rfl rfl (q_index_ref tok rfl rfl rfl rfl rfl rfl rfl (fill_len (foldIns_length l []) (Nat.le_of_lt hkl)) rfl (Int.natCast_nonneg _) (by omega)) ?_
    refine AOps.w rfl rfl (o_store tok rfl rfl rfl rfl rfl rfl (fill_len (foldIns_length l []) (Nat.le_of_lt hkl)) (fill_get (foldIns_length l []) hkl) rfl (by decide) rfl (by first | exact fun _ => rfl | (intro h; cases h))) ?_
    refine AOps.nil ?_
    refine AGo.seq ?_
    refine AGo.region ?_
    refine AOps.s 36 rfl rfl rfl (q_load tok rfl rfl rfl (by first | exact .loc _ | exact .ptr _ _ _ _ _ _ _ _ rfl rfl rfl) rfl) ?_
    refine AOps.x 37 rfl rfl rfl (o_pure rfl Try.func27 (by kernel_rfl) rfl rfl rfl (bSets_ok _)) ?_
    refine AOps.s 9 rfl rfl rfl (q_move (.inr rfl) rfl) ?_
    refine AOps.nil ?_
    refine AGo.seq ?_
    refine AGo.seq ?_
    refine AGo.region ?_
    refine AOps.s 38 rfl rfl rfl (q_move (.inl rfl) rfl) ?_
    refine AOps.s 39 rfl rfl rfl (q_bin rfl rfl rfl rfl) ?_
    refine AOps.nil ?_
    refine AGo.split 39 rfl (fun hb3 => ?_) (fun hb3 => ?_)
    · -- True
      refine AGo.cond_true true rfl rfl ?_
      refine AGo.exit ?_
      refine AGo.region ?_
      refine AOps.s 49 rfl rfl rfl (q_inc rfl rfl hkl (show l.length ≤ maxLen by simp only [maxLen]; omega)) ?_
      refine AOps.s 16 rfl rfl rfl (q_move (.inl rfl) rfl) ?_
      refine AOps.nil ?_
      exact ⟨k+1, Drop.mk' (by repeat (first | exact EDrop.new _ _ | refine EDrop.put ?_ (by first | rfl) rfl)) (by repeat (first | exact HDrop.none _ _ | exact HDrop.tail _ _ | refine HDrop.put ?_ (by first | rfl | exact congrArg (fun es => some (AObj.row true 8 es)) (by subst hu; exact fill_put (f := Tac.cells) (foldIns_length l []) (foldIns_get l [] hx)) | exact congrArg (fun m => some (AObj.map (kvs .i64 (nm m)))) (by rw [fknow_succ hx, ← hu]; clear hu; simp [fnext, *])) rfl rfl)), hkl, by omega⟩
    · -- False
      refine AGo.cond_false false rfl rfl ?_
      refine AGo.skip ?_
      refine AGo.seq ?_
      refine AGo.region ?_
      refine AOps.s 40 rfl rfl rfl (q_fieldAddr tok rfl rfl rfl rfl rfl rfl) ?_
      refine AOps.s 41 rfl rfl rfl (q_load tok rfl rfl rfl (by first | exact .loc _ | exact .ptr _ _ _ _ _ _ _ _ rfl rfl rfl) rfl) ?_
      refine AOps.s 42 rfl rfl rfl (q_bin rfl rfl rfl rfl) ?_
      refine AOps.nil ?_
      refine AGo.split 42 rfl (fun hb4 => ?_) (fun hb4 => ?_)
      · -- True
        refine AGo.cond_true true rfl rfl ?_
        refine AGo.region ?_
        refine AOps.s 43 rfl rfl rfl (q_move (.inl rfl) rfl) ?_
        refine AOps.s 44 rfl rfl rfl (q_move (.inl rfl) rfl) ?_
        refine AOps.s 45 rfl rfl rfl (q_fieldAddr tok rfl rfl rfl rfl rfl rfl) ?_
        refine AOps.s 46 rfl rfl rfl (q_load tok rfl rfl rfl (by first | exact .loc _ | exact .ptr _ _ _ _ _ _ _ _ rfl rfl rfl) rfl) ?_
        refine AOps.w rfl rfl (o_mapUpdateW tok rfl rfl rfl rfl rfl rfl rfl rfl rfl rfl) ?_
        refine AOps.nil ?_
        refine AGo.region ?_
        refine AOps.s 49 rfl rfl rfl (q_inc rfl rfl hkl (show l.length ≤ maxLen by simp only [maxLen]; omega)) ?_
        refine AOps.s 16 rfl rfl rfl (q_move (.inl rfl) rfl) ?_
        refine AOps.nil ?_
        exact ⟨k+1, Drop.mk' (by repeat (first | exact EDrop.new _ _ | refine EDrop.put ?_ (by first | rfl) rfl)) (by repeat (first | exact HDrop.none _ _ | exact HDrop.tail _ _ | refine HDrop.put ?_ (by first | rfl | exact congrArg (fun es => some (AObj.row true 8 es)) (by subst hu; exact fill_put (f := Tac.cells) (foldIns_length l []) (foldIns_get l [] hx)) | exact congrArg (fun m => some (AObj.map (kvs .i64 (nm m)))) (by rw [fknow_succ hx, ← hu]; clear hu; simp [fnext, *])) rfl rfl)), hkl, by omega⟩
      · -- False
        refine AGo.cond_false false rfl rfl ?_
        refine AGo.region ?_
        refine AOps.s 47 rfl rfl rfl (q_move (.inl rfl) rfl) ?_
        refine AOps.s 48 rfl rfl rfl (q_move (.inl rfl) rfl) ?_
        refine AOps.w rfl rfl (o_deleteW tok rfl rfl rfl rfl rfl rfl rfl rfl rfl) ?_
        refine AOps.nil ?_
        refine AGo.region ?_
        refine AOps.s 49 rfl rfl rfl (q_inc rfl rfl hkl (show l.length ≤ maxLen by simp only [maxLen]; omega)) ?_
        refine AOps.s 16 rfl rfl rfl (q_move (.inl rfl) rfl) ?_
        refine AOps.nil ?_
        exact ⟨k+1, Drop.mk' (by repeat (first | exact EDrop.new _ _ | refine EDrop.put ?_ (by first | rfl) rfl)) (by repeat (first | exact HDrop.none _ _ | exact HDrop.tail _ _ | refine HDrop.put ?_ (by first | rfl | exact congrArg (fun es => some (AObj.row true 8 es)) (by subst hu; exact fill_put (f := Tac.cells) (foldIns_length l []) (foldIns_get l [] hx)) | exact congrArg (fun m => some (AObj.map (kvs .i64 (nm m)))) (by rw [fknow_succ hx, ← hu]; clear hu; simp [fnext, *])) rfl rfl)), hkl, by omega⟩
  · -- False
    refine AGo.cond_false false rfl rfl ?_
    have hge : l.length ≤ k := by simpa using hb1
    refine AGo.exit ?_
    refine AGo.seq ?_
    refine AGo.region ?_
    refine AOps.s 50 rfl rfl rfl (q_move (.inl rfl) rfl) ?_
    refine AOps.s 2 rfl rfl rfl (q_move (.inr rfl) rfl) ?_
    refine AOps.nil ?_
    refine AGo.ghost (.freeze 2 1 rfl rfl (fill_len (foldIns_length l []) hk)) ?_
    refine AGo.ret ?_
    refine ⟨[_], ⟨rfl, trivial⟩, ?_, rfl⟩
    show AV.lst false _ = AV.lst false _
    rw [fill_end (foldIns_length l []) hge]

set_option maxRecDepth 100000 in
theorem foldOf_ok (f : BFunc) (hf : f.mild) : APure Try.prog 11 [.agg f.cells] (fun r => r = .tup [.agg f.fold.cells, .agg f.all.cells]) := by
  refine APure.of_body (n := 59) tok Try.func11 rfl rfl ?_
  refine AGo.seq ?_
  refine AGo.region ?_
  refine AOps.x 1 rfl rfl rfl (o_box (sz := 2) 0 rfl rfl rfl rfl (Nat.zero_lt_succ _) rfl) ?_
  refine AOps.x 2 rfl rfl rfl (o_alloc tok 1 rfl rfl rfl rfl (Nat.zero_lt_succ _) rfl) ?_
  refine AOps.x 3 rfl rfl rfl (o_alloc tok 2 rfl rfl rfl rfl (Nat.zero_lt_succ _) rfl) ?_
  refine AOps.nil ?_
  refine AGo.seq ?_
  refine AGo.draw mix ?_
  refine DOps.s 10 rfl rfl rfl (q_fieldAddr tok rfl rfl rfl rfl rfl rfl) ?_
  refine DOps.s 11 rfl rfl rfl (q_load tok rfl rfl rfl (by first | exact .loc _ | exact .ptr _ _ _ _ _ _ _ _ rfl rfl rfl) rfl) ?_
  refine DOps.s 12 rfl rfl rfl (q_fieldAddr tok rfl rfl rfl rfl rfl rfl) ?_
  refine DOps.s 13 rfl rfl rfl (q_load tok rfl rfl rfl (by first | exact .loc _ | exact .ptr _ _ _ _ _ _ _ _ rfl rfl rfl) rfl) ?_
  refine DOps.s 14 rfl rfl rfl (q_len tok rfl rfl rfl rfl rfl) ?_
  refine DOps.x 15 rfl rfl rfl (o_makeSlice tok (n := f.blocks.length) (m := f.blocks.length) 3 true rfl rfl rfl (by simp) (by simp) rfl rfl rfl rfl rfl (Nat.zero_lt_succ _) rfl (Nat.le_refl _) (by show 56 * f.blocks.length ≤ _; have := hf.2.2.1; omega) (by simp only [maxLen]; have := hf.2.2.1; omega)) ?_
  refine DOps.s 16 rfl rfl rfl (q_build tok rfl rfl rfl rfl rfl (by decide) rfl rfl rfl) ?_
  refine DOps.x 4 rfl rfl rfl (o_alloc tok 4 rfl rfl rfl rfl (Nat.zero_lt_succ _) rfl) ?_
  refine DOps.w rfl rfl (o_store tok rfl rfl rfl rfl rfl rfl rfl rfl rfl (by decide) rfl (by first | exact fun _ => rfl | (intro h; cases h))) ?_
  refine DOps.nil (by kernel_rfl) ?_
  refine AGo.seq ?_
  refine AGo.region ?_
  refine AOps.s 17 rfl rfl rfl (q_fieldAddr tok rfl rfl rfl rfl rfl rfl) ?_
  refine AOps.s 18 rfl rfl rfl (q_load tok rfl rfl rfl (by first | exact .loc _ | exact .ptr _ _ _ _ _ _ _ _ rfl rfl rfl) rfl) ?_
  refine AOps.s 19 rfl rfl rfl (q_len tok rfl rfl rfl rfl rfl) ?_
  refine AOps.x 20 rfl rfl rfl (o_makeSlice tok (n := f.blocks.length) (m := f.blocks.length) 5 true rfl rfl rfl (by simp) (by simp) rfl rfl rfl rfl rfl (Nat.zero_lt_succ _) rfl (Nat.le_refl _) (by show 24 * f.blocks.length ≤ _; have := hf.2.2.1; omega) (by simp only [maxLen]; have := hf.2.2.1; omega)) ?_
  refine AOps.s 21 rfl rfl rfl (q_build tok rfl rfl rfl rfl rfl (by decide) rfl rfl rfl) ?_
  refine AOps.x 5 rfl rfl rfl (o_alloc tok 6 rfl rfl rfl rfl (Nat.zero_lt_succ _) rfl) ?_
  refine AOps.w rfl rfl (o_store tok rfl rfl rfl rfl rfl rfl rfl rfl rfl (by decide) rfl (by first | exact fun _ => rfl | (intro h; cases h))) ?_
  refine AOps.nil ?_
  refine AGo.seq ?_
  refine AGo.seq ?_
  refine AGo.region ?_
  refine AOps.s 22 rfl rfl rfl (q_fieldAddr tok rfl rfl rfl rfl rfl rfl) ?_
  refine AOps.s 23 rfl rfl rfl (q_load tok rfl rfl rfl (by first | exact .loc _ | exact .ptr _ _ _ _ _ _ _ _ rfl rfl rfl) rfl) ?_
  refine AOps.s 24 rfl rfl rfl (q_len tok rfl rfl rfl rfl rfl) ?_
  refine AOps.s 25 rfl rfl rfl (q_move (.inl rfl) rfl) ?_
  refine AOps.nil ?_
  refine AGo.block ?_
  refine AGo.loopD (γ := Nat) 7 (fun k => ⟨59, (eput (eput (eput (eput (eput (eput (eput (eput eNew 1 (.ptr 0 1 0 0)) 2 (.ptr 1 1 0 0)) 3 (.ptr 2 1 0 0)) 4 (.ptr 4 1 0 0)) 5 (.ptr 6 1 0 0)) 23 (blocksAV f.blocks)) 24 (.int .i64 (f.blocks.length : Int))) 25 (.int .i64 (k : Int))), (hput (hput (hput (hput (hput (hput (hput (hFrom 7) 0 (.row false 2 [f.cells])) 1 (.row false 2 [[.int .i64 0, .nil]])) 2 (.row false 1 [[.nil]])) 4 (.row false 2 [[.int .i64 f.regs, .ref 3 f.blocks.length 0 f.blocks.length]])) 6 (.row false 1 [[.ref 5 f.blocks.length 0 f.blocks.length]])) 3 (.row true 5 ((((f.blocks.map Block.fold).take (k)).map Block.cells) ++ List.replicate (f.blocks.length - (k)) [.nil, .int .i64 0, .int .i64 0, .int .i64 0, .int .i64 0]))) 5 (.row true 1 ((((List.replicate f.blocks.length (List.replicate f.regs.toNat true)).take (k)).map rowCell) ++ List.replicate (f.blocks.length - (k)) [.nil])))⟩) (fun k => k ≤ f.blocks.length) (fun k => f.blocks.length - k) 0 (Sub.mk' (by repeat (first | exact ESub.new _ | refine ESub.put ?_ (by first | rfl | exact congrArg (fun (n : Nat) => some (AV.int .i64 (n : Int))) (by simp)))) (by repeat (first | exact HSub.none _ | exact HSub.from_new _ | exact HSub.from_from (by decide) | refine HSub.put ?_ (by rfl) | refine HSub.from_put ?_ (by decide)))) (Nat.zero_le _) (fun _ => hput_free (hput_free (hput_free (hput_free (hput_free (hput_free (hput_free (fun b hb => hFrom_free hb) rfl) rfl) rfl) rfl) rfl) rfl) rfl) ?_
  intro k hk
  refine AGo.seq ?_
  refine AGo.region ?_
  refine AOps.s 26 rfl rfl rfl (q_bin rfl rfl rfl rfl) ?_
  refine AOps.nil ?_
  refine AGo.seq ?_
  refine AGo.split 26 rfl (fun hb1 => ?_) (fun hb1 => ?_)
  · -- True
    refine AGo.cond_true true rfl rfl ?_
    have hkl : k < f.blocks.length := by simpa using hb1
    obtain ⟨x, hx⟩ := get_of_lt hkl
    refine AGo.skip ?_
    refine AGo.seq ?_
    refine AGo.block ?_
    refine AGo.seq ?_
    refine AGo.region ?_
    refine AOps.s 27 rfl rfl rfl (q_move (.inl rfl) rfl) ?_
    refine AOps.s 28 rfl rfl rfl (q_index_lst tok rfl rfl rfl rfl rfl rfl (Int.natCast_nonneg _) (idx_map (by assumption)) rfl) ?_
    refine AOps.s 29 rfl rfl rfl (q_load tok rfl rfl rfl (by first | exact .loc _ | exact .ptr _ _ _ _ _ _ _ _ rfl rfl rfl) rfl) ?_
    refine AOps.x 7 rfl rfl rfl (o_alloc tok 7 rfl rfl rfl rfl (Nat.zero_lt_succ _) rfl) ?_
    refine AOps.s 6 rfl rfl rfl (q_move (.inr rfl) rfl) ?_
    refine AOps.w rfl rfl (o_store tok rfl rfl rfl rfl rfl rfl rfl rfl rfl (by decide) rfl (by first | exact fun _ => rfl | (intro h; cases h))) ?_
    refine AOps.nil ?_
    refine AGo.seq ?_
    refine AGo.region ?_
    refine AOps.s 30 rfl rfl rfl (q_fieldAddr tok rfl rfl rfl rfl rfl rfl) ?_
    refine AOps.s 31 rfl rfl rfl (q_load tok rfl rfl rfl (by first | exact .loc _ | exact .ptr _ _ _ _ _ _ _ _ rfl rfl rfl) rfl) ?_
    refine AOps.x 32 rfl rfl rfl (o_pure rfl Try.func18 (by kernel_rfl) rfl rfl rfl (folded_ok _ (hf.2.2.2 x (List.mem_of_getElem? hx)).2 (hf.2.2.2 x (List.mem_of_getElem? hx)).1)) ?_
    refine AOps.s 33 rfl rfl rfl (q_fieldAddr tok rfl rfl rfl rfl rfl rfl) ?_
    refine AOps.w rfl rfl (o_store tok rfl rfl rfl rfl rfl rfl rfl rfl rfl (by decide) rfl (by first | exact fun _ => rfl | (intro h; cases h))) ?_
    refine AOps.nil ?_
    refine AGo.seq ?_
    refine AGo.region ?_
    refine AOps.s 34 rfl rfl rfl (q_fieldAddr tok rfl rfl rfl rfl rfl rfl) ?_
    refine AOps.s 35 rfl rfl rfl (q_load tok rfl rfl rfl (by first | exact .loc _ | exact .ptr _ _ _ _ _ _ _ _ rfl rfl rfl) rfl) ?_
    refine AOps.s 36 rfl rfl rfl (q_move (.inl rfl) rfl) ?_
    refine AOps.s 37 rfl rfl rfl (q_load tok rfl rfl rfl (by first | exact .loc _ | exact .ptr _ _ _ _ _ _ _ _ rfl rfl rfl) rfl) ?_
    refine AOps.s 38 rfl rfl rfl (q_index_ref tok rfl rfl rfl rfl rfl rfl rfl (fill_len (by simp : (f.blocks.map Block.fold).length = f.blocks.length) (Nat.le_of_lt hkl)) rfl (Int.natCast_nonneg _) (by omega)) ?_
    refine AOps.w rfl rfl (o_store tok rfl rfl rfl rfl rfl rfl (fill_len (by simp : (f.blocks.map Block.fold).length = f.blocks.length) (Nat.le_of_lt hkl)) (fill_get (by simp : (f.blocks.map Block.fold).length = f.blocks.length) hkl) rfl (by decide) rfl (by first | exact fun _ => rfl | (intro h; cases h))) ?_
    refine AOps.nil ?_
    refine AGo.seq ?_
    refine AGo.region ?_
    refine AOps.s 39 rfl rfl rfl (q_fieldAddr tok rfl rfl rfl rfl rfl rfl) ?_
    refine AOps.s 40 rfl rfl rfl (q_load tok rfl rfl rfl (by first | exact .loc _ | exact .ptr _ _ _ _ _ _ _ _ rfl rfl rfl) rfl) ?_
    refine AOps.x 41 rfl rfl rfl (o_makeSlice tok (n := f.regs.toNat) (m := f.regs.toNat) 8 true rfl rfl rfl (by have := hf.1; omega) (by have := hf.1; omega) rfl rfl rfl rfl rfl (Nat.zero_lt_succ _) rfl (Nat.le_refl _) (by show 1 * f.regs.toNat ≤ _; have := hf.2.1; omega) (by simp only [maxLen]; have := hf.2.1; omega)) ?_
    refine AOps.s 8 rfl rfl rfl (q_move (.inr rfl) rfl) ?_
    refine AOps.nil ?_
    refine AGo.seq ?_
    refine AGo.seq ?_
    refine AGo.region ?_
    refine AOps.s 42 rfl rfl rfl (q_move (.inl rfl) rfl) ?_
    refine AOps.s 43 rfl rfl rfl (q_len tok rfl rfl rfl rfl rfl) ?_
    refine AOps.s 44 rfl rfl rfl (q_move (.inl rfl) rfl) ?_
    refine AOps.nil ?_
    refine AGo.block ?_
    refine AGo.loopD (γ := Nat) 9 (fun j => ⟨59, (eput (eput (eput (eput (eput (eput (eput (eput (eput (eput (eput (eput eNew 1 (.ptr 0 1 0 0)) 2 (.ptr 1 1 0 0)) 3 (.ptr 2 1 0 0)) 4 (.ptr 4 1 0 0)) 5 (.ptr 6 1 0 0)) 23 (blocksAV f.blocks)) 24 (.int .i64 (f.blocks.length : Int))) 25 (.int .i64 (k : Int))) 6 (.int .i64 (k : Int))) 8 (.ref 8 f.regs.toNat 0 f.regs.toNat)) 43 (.int .i64 (f.regs.toNat : Int))) 44 (.int .i64 (j : Int))), (hput (hput (hput (hput (hput (hput (hput (hput (hFrom 9) 0 (.row false 2 [f.cells])) 1 (.row false 2 [[.int .i64 0, .nil]])) 2 (.row false 1 [[.nil]])) 4 (.row false 2 [[.int .i64 f.regs, .ref 3 f.blocks.length 0 f.blocks.length]])) 6 (.row false 1 [[.ref 5 f.blocks.length 0 f.blocks.length]])) 3 (.row true 5 (((f.blocks.map Block.fold).take (k + 1)).map Block.cells ++ List.replicate (f.blocks.length - (k + 1)) [.nil, .int .i64 0, .int .i64 0, .int .i64 0, .int .i64 0]))) 5 (.row true 1 ((((List.replicate f.blocks.length (List.replicate f.regs.toNat true)).take (k)).map rowCell) ++ List.replicate (f.blocks.length - (k)) [.nil]))) 8 (.row true 1 ((((List.replicate f.regs.toNat true).take (j)).map boolCells) ++ List.replicate (f.regs.toNat - (j)) [.bool false])))⟩) (fun j => j ≤ f.regs.toNat) (fun j => f.regs.toNat - j) 0 (Sub.mk' (by repeat (first | exact ESub.new _ | refine ESub.put ?_ (by rfl))) (by repeat (first | exact HSub.none _ | exact HSub.from_new _ | exact HSub.from_from (by decide) | refine HSub.put ?_ (by first | rfl | exact congrArg (fun es => some (AObj.row true 5 es)) (fill_put (f := Block.cells) (x := x.fold) (by simp : (f.blocks.map Block.fold).length = f.blocks.length) (by simp [hx]))) | refine HSub.from_put ?_ (by decide)))) (Nat.zero_le _) (fun _ => hput_free (hput_free (hput_free (hput_free (hput_free (hput_free (hput_free (hput_free (fun b hb => hFrom_free hb) rfl) rfl) rfl) rfl) rfl) rfl) rfl) rfl) ?_
    intro j hj
    refine AGo.seq ?_
    refine AGo.region ?_
    refine AOps.s 45 rfl rfl rfl (q_bin rfl rfl rfl rfl) ?_
    refine AOps.nil ?_
    refine AGo.seq ?_
    refine AGo.split 45 rfl (fun hb2 => ?_) (fun hb2 => ?_)
    · -- True
      refine AGo.cond_true true rfl rfl ?_
      have hjl : j < f.regs.toNat := by have h := hb2; simp at h; omega
      refine AGo.skip ?_
      refine AGo.seq ?_
      refine AGo.block ?_
      refine AGo.seq ?_
      refine AGo.region ?_
      refine AOps.s 46 rfl rfl rfl (q_move (.inl rfl) rfl) ?_
      refine AOps.s 9 rfl rfl rfl (q_move (.inr rfl) rfl) ?_
      refine AOps.nil ?_
      refine AGo.region ?_
      refine AOps.s 47 rfl rfl rfl (q_move (.inl rfl) rfl) ?_
      refine AOps.s 48 rfl rfl rfl (q_move (.inl rfl) rfl) ?_
      refine AOps.s 49 rfl rfl rfl (q_index_ref tok rfl rfl rfl rfl rfl rfl rfl (fill_len (by simp : (List.replicate f.regs.toNat true).length = f.regs.toNat) (Nat.le_of_lt hjl)) rfl (Int.natCast_nonneg _) (by omega)) ?_
      refine AOps.w rfl rfl (o_store tok rfl rfl rfl rfl rfl rfl (fill_len (by simp : (List.replicate f.regs.toNat true).length = f.regs.toNat) (Nat.le_of_lt hjl)) (fill_get (by simp : (List.replicate f.regs.toNat true).length = f.regs.toNat) hjl) rfl (by decide) rfl (by first | exact fun _ => rfl | (intro h; cases h))) ?_
      refine AOps.nil ?_
      refine AGo.region ?_
      refine AOps.s 50 rfl rfl rfl (q_inc rfl rfl hjl (by simp only [maxLen]; have := hf.2.1; omega)) ?_
      refine AOps.s 44 rfl rfl rfl (q_move (.inl rfl) rfl) ?_
      refine AOps.nil ?_
      exact ⟨j+1, Drop.mk' (by repeat (first | exact EDrop.new _ _ | refine EDrop.put ?_ (by rfl) rfl)) (by repeat (first | exact HDrop.none _ _ | exact HDrop.tail _ _ | refine HDrop.put ?_ (by first | rfl | exact congrArg (fun es => some (AObj.row true 1 es)) (fill_put (f := boolCells) (x := true) (by simp : (List.replicate f.regs.toNat true).length = f.regs.toNat) (by simp [hjl]))) rfl rfl)), hjl, by omega⟩
    · -- False
      refine AGo.cond_false false rfl rfl ?_
      have hge2 : f.regs.toNat ≤ j := by have h := hb2; simp at h; omega
      refine AGo.exit ?_
      refine AGo.ghost (.freeze 8 8 rfl rfl (fill_len (by simp : (List.replicate f.regs.toNat true).length = f.regs.toNat) hj)) ?_
      refine AGo.region ?_
      refine AOps.s 51 rfl rfl rfl (q_fieldAddr tok rfl rfl rfl rfl rfl rfl) ?_
      refine AOps.s 52 rfl rfl rfl (q_load tok rfl rfl rfl (by first | exact .loc _ | exact .ptr _ _ _ _ _ _ _ _ rfl rfl rfl) rfl) ?_
      refine AOps.s 53 rfl rfl rfl (q_move (.inl rfl) rfl) ?_
      refine AOps.s 54 rfl rfl rfl (q_move (.inl rfl) rfl) ?_
      refine AOps.s 55 rfl rfl rfl (q_index_ref tok rfl rfl rfl rfl rfl rfl rfl (fill_len (by simp : (List.replicate f.blocks.length (List.replicate f.regs.toNat true)).length = f.blocks.length) (Nat.le_of_lt hkl)) rfl (Int.natCast_nonneg _) (by omega)) ?_
      refine AOps.w rfl rfl (o_store tok rfl rfl rfl rfl rfl rfl (fill_len (by simp : (List.replicate f.blocks.length (List.replicate f.regs.toNat true)).length = f.blocks.length) (Nat.le_of_lt hkl)) (fill_get (by simp : (List.replicate f.blocks.length (List.replicate f.regs.toNat true)).length = f.blocks.length) hkl) rfl (by decide) rfl (by first | exact fun _ => rfl | (intro h; cases h))) ?_
      refine AOps.nil ?_
      refine AGo.region ?_
      refine AOps.s 56 rfl rfl rfl (q_inc rfl rfl hkl (by simp only [maxLen]; have := hf.2.2.1; omega)) ?_
      refine AOps.s 25 rfl rfl rfl (q_move (.inl rfl) rfl) ?_
      refine AOps.nil ?_
      exact ⟨k+1, Drop.mk' (by repeat (first | exact EDrop.new _ _ | refine EDrop.put ?_ (by rfl) rfl)) (by repeat (first | exact HDrop.none _ _ | exact HDrop.tail _ _ | refine HDrop.put ?_ (by first | rfl | exact congrArg (fun es => some (AObj.row true 5 es)) (fill_put (f := Block.cells) (x := x.fold) (by simp : (f.blocks.map Block.fold).length = f.blocks.length) (by simp [hx])) | exact congrArg (fun es => some (AObj.row true 1 es)) (by rw [← fill_put (f := rowCell) (x := List.replicate f.regs.toNat true) (by simp : (List.replicate f.blocks.length (List.replicate f.regs.toNat true)).length = f.blocks.length) (by simp [hkl])]; exact congrArg (fun b => List.set _ _ [AV.lst false b]) (fill_end (f := boolCells) (by simp : (List.replicate f.regs.toNat true).length = f.regs.toNat) hge2))) rfl rfl)), hkl, by omega⟩
  · -- False
    refine AGo.cond_false false rfl rfl ?_
    have hge : f.blocks.length ≤ k := by simpa using hb1
    refine AGo.exit ?_
    refine AGo.seq ?_
    refine AGo.ghost (.freezeCell 4 0 1 3 rfl rfl rfl rfl (fill_len (by simp : (f.blocks.map Block.fold).length = f.blocks.length) hk) (by decide)) ?_
    refine AGo.ghost (.freezeCell 6 0 0 5 rfl rfl rfl rfl (fill_len (by simp : (List.replicate f.blocks.length (List.replicate f.regs.toNat true)).length = f.blocks.length) hk) (by decide)) ?_
    refine AGo.draw mix ?_
    refine DOps.s 57 rfl rfl rfl (q_load tok rfl rfl rfl (by first | exact .loc _ | exact .ptr _ _ _ _ _ _ _ _ rfl rfl rfl) rfl) ?_
    refine DOps.s 58 rfl rfl rfl (q_load tok rfl rfl rfl (by first | exact .loc _ | exact .ptr _ _ _ _ _ _ _ _ rfl rfl rfl) rfl) ?_
    refine DOps.w rfl rfl (o_store tok rfl rfl rfl rfl rfl rfl rfl rfl rfl (by decide) rfl (by first | exact fun _ => rfl | (intro h; cases h))) ?_
    refine DOps.w rfl rfl (o_store tok rfl rfl rfl rfl rfl rfl rfl rfl rfl (by decide) rfl (by first | exact fun _ => rfl | (intro h; cases h))) ?_
    refine DOps.nil (by kernel_rfl) ?_
    refine AGo.ret ?_
    refine ⟨[_, _], ⟨⟨_, _, _, _, rfl, rfl, .ptr _ _ _ _ _ _ _ _ rfl rfl rfl, rfl⟩, ⟨_, _, _, _, rfl, rfl, .ptr _ _ _ _ _ _ _ _ rfl rfl rfl, rfl⟩, trivial⟩, ?_, rfl⟩
    have e1 := fill_end (f := Block.cells) (z := [.nil, .int .i64 0, .int .i64 0, .int .i64 0, .int .i64 0]) (by simp : (f.blocks.map Block.fold).length = f.blocks.length) hge
    have e2 := fill_end (f := rowCell) (z := [.nil]) (by simp : (List.replicate f.blocks.length (List.replicate f.regs.toNat true)).length = f.blocks.length) hge
    show AV.tup [.agg [_, .lst false _], .agg [.lst false _]] = _
    rw [e1, e2]
    rfl

end Go.Proofs.Ytkccdnincholpaa.Sv
