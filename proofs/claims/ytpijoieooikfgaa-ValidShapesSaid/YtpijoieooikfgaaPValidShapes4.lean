/-
  WALKS: printed by a program of our own from the code's tree.
  WALKS: printed by a program of our own from the code's tree.
  WALKS: printed by a program of our own from the code's tree.
  WALKS: printed by a program of our own from the code's tree.
  WALKS: printed by a program of our own from the code's tree.
  WALKS: printed by a program of our own from the code's tree.
  WALKS: printed by a program of our own from the code's tree.
-/
import Derived.Test.YtpijoieooikfgaaPValidShapes2
import Derived.Test.YtpijoieooikfgaaPValidShapes3
namespace Go.Proofs.Ytpijoieooikfgaa.Sv
open Go

set_option maxRecDepth 100000 in
theorem divide_ok (op a b : Int) (hb : 0 ≤ b) : APure Try.prog 71 [.int .i64 op, .int .u32 a, .int .u32 b] (fun r => r = wpair (wdivide op a b)) := by
 refine APure.of_body (n := 18) tok Try.func71 rfl rfl ?_
 refine AGo.seq ?_
 refine AGo.region ?_
 refine aa 6 ?_
 refine aa 7 ?_
 refine AOps.nil ?_
 refine AGo.seq ?_
 refine AGo.seq ?_
 refine AGo.region ?_
 refine am 8 ?_
 refine aq 9 (q_bin rfl rfl rfl rfl) ?_
 refine AOps.nil ?_
 refine AGo.split 9 rfl (fun hb1 => ?_) (fun hb1 => ?_)
 ·
  refine AGo.cond_true true rfl rfl ?_
  refine AGo.seq ?_
  refine AGo.region ?_
  refine aa 6 ?_
  refine aa 7 ?_
  refine AOps.nil ?_
  refine AGo.ret ?_
  refine ⟨[_, _], ⟨rfl, rfl, trivial⟩, ?_, rfl⟩
  show AV.tup _ = AV.tup _
  simp [wdivide, *]
 ·
  refine AGo.cond_false false rfl rfl ?_
  have hb0 : ¬ b = 0 := by simpa using hb1
  refine AGo.skip ?_
  refine AGo.seq ?_
  refine AGo.seq ?_
  refine AGo.region ?_
  refine am 10 ?_
  refine aq 11 (q_bin rfl rfl rfl rfl) ?_
  refine AOps.nil ?_
  refine AGo.split 11 rfl (fun hb2 => ?_) (fun hb2 => ?_)
  ·
   refine AGo.cond_true true rfl rfl ?_
   refine AGo.seq ?_
   refine AGo.region ?_
   refine am 12 ?_
   refine am 13 ?_
   refine aq 14 (q_bin (r := .int .u32 (IntKind.u32.wrap (a.tdiv b))) rfl rfl rfl (by simp [evalBin, evalInt, isShift, hb0])) ?_
   refine aa 6 ?_
   refine aa 7 ?_
   refine AOps.nil ?_
   refine AGo.ret ?_
   refine ⟨[_, _], ⟨rfl, rfl, trivial⟩, ?_, rfl⟩
   show AV.tup _ = AV.tup _
   simp [wdivide, *]
  ·
   refine AGo.cond_false false rfl rfl ?_
   refine AGo.skip ?_
   refine AGo.seq ?_
   refine AGo.region ?_
   refine am 15 ?_
   refine am 16 ?_
   refine aq 17 (q_bin (r := .int .u32 (a.tmod b)) rfl rfl rfl (by simp [evalBin, evalInt, isShift, hb0])) ?_
   refine aa 6 ?_
   refine aa 7 ?_
   refine AOps.nil ?_
   refine AGo.ret ?_
   refine ⟨[_, _], ⟨rfl, rfl, trivial⟩, ?_, rfl⟩
   show AV.tup _ = AV.tup _
   simp [wdivide, *]

set_option maxRecDepth 100000 in
theorem shift_ok (op a b : Int) (hb : 0 ≤ b) : APure Try.prog 72 [.int .i64 op, .int .u32 a, .int .u32 b] (fun r => r = .int .u32 (wshift op a b)) := by
 refine APure.of_body (n := 19) tok Try.func72 rfl rfl ?_
 refine AGo.seq ?_
 refine AGo.region ?_
 refine aa 6 ?_
 refine AOps.nil ?_
 refine AGo.seq ?_
 refine AGo.block ?_
 refine AGo.seq ?_
 refine AGo.region ?_
 refine am 8 ?_
 refine aq 9 (q_bin rfl rfl rfl rfl) ?_
 refine aa 7 ?_
 refine AOps.nil ?_
 refine AGo.split 7 rfl (fun hb1 => ?_) (fun hb1 => ?_)
 ·
  refine AGo.cond_true true rfl rfl ?_
  refine AGo.seq ?_
  refine AGo.region ?_
  refine aa 6 ?_
  refine AOps.nil ?_
  refine AGo.ret ?_
  refine ⟨[_], ⟨rfl, trivial⟩, ?_, rfl⟩
  show AV.int .u32 _ = AV.int .u32 _
  simp only [wshift, *, cond_true, cond_false]
 ·
  refine AGo.cond_false false rfl rfl ?_
  refine AGo.seq ?_
  refine AGo.region ?_
  refine am 11 ?_
  refine aq 12 (q_bin rfl rfl rfl rfl) ?_
  refine aa 10 ?_
  refine AOps.nil ?_
  refine AGo.split 10 rfl (fun hb2 => ?_) (fun hb2 => ?_)
  ·
   refine AGo.cond_true true rfl rfl ?_
   refine AGo.seq ?_
   refine AGo.region ?_
   refine am 13 ?_
   refine am 14 ?_
   refine aq 15 (q_bin (r := .int .u32 (IntKind.u32.wrap (a * 2 ^ (min b.toNat IntKind.u32.bits)))) rfl rfl rfl (by simp only [evalBin, evalInt, isShift, cond_true, if_neg (show ¬ b < 0 by omega)])) ?_
   refine aa 6 ?_
   refine AOps.nil ?_
   refine AGo.ret ?_
   refine ⟨[_], ⟨rfl, trivial⟩, ?_, rfl⟩
   show AV.int .u32 _ = AV.int .u32 _
   simp only [wshift, *, cond_true, cond_false]
  ·
   refine AGo.cond_false false rfl rfl ?_
   refine AGo.skip ?_
   refine AGo.seq ?_
   refine AGo.region ?_
   refine am 16 ?_
   refine am 17 ?_
   refine aq 18 (q_bin (r := .int .u32 (a.fdiv (2 ^ (min b.toNat IntKind.u32.bits)))) rfl rfl rfl (by simp only [evalBin, evalInt, isShift, cond_true, if_neg (show ¬ b < 0 by omega)])) ?_
   refine aa 6 ?_
   refine AOps.nil ?_
   refine AGo.ret ?_
   refine ⟨[_], ⟨rfl, trivial⟩, ?_, rfl⟩
   show AV.int .u32 _ = AV.int .u32 _
   simp only [wshift, *, cond_true, cond_false]

set_option maxRecDepth 100000 in
theorem compare_ok (op a b : Int) (hb : 0 ≤ b) : APure Try.prog 73 [.int .i64 op, .int .u32 a, .int .u32 b] (fun r => r = .int .u32 (wcompare op a b)) := by
 refine APure.of_body (n := 23) tok Try.func73 rfl rfl ?_
 refine AGo.seq ?_
 refine AGo.region ?_
 refine aa 6 ?_
 refine AOps.nil ?_
 refine AGo.seq ?_
 refine AGo.block ?_
 refine AGo.seq ?_
 refine AGo.block ?_
 refine AGo.block ?_
 refine AGo.seq ?_
 refine AGo.seq ?_
 refine AGo.seq ?_
 refine AGo.region ?_
 refine am 8 ?_
 refine aq 9 (q_bin rfl rfl rfl rfl) ?_
 refine am 10 ?_
 refine AOps.split 10 rfl (fun hb1 => ?_) (fun hb1 => ?_)
 ·
  refine am 11 ?_
  refine am 12 ?_
  refine aq 13 (q_bin rfl rfl rfl rfl) ?_
  refine aq 14 (q_pick_true true rfl rfl rfl rfl) ?_
  refine aa 7 ?_
  refine AOps.nil ?_
  refine AGo.split 7 rfl (fun hb2 => ?_) (fun hb2 => ?_)
  ·
   refine AGo.cond_true true rfl rfl ?_
   refine AGo.exit ?_
   refine AGo.seq ?_
   refine AGo.seq ?_
   refine AGo.region ?_
   refine aa 6 ?_
   refine AOps.nil ?_
   refine AGo.ret ?_
   refine ⟨[_], ⟨rfl, trivial⟩, ?_, rfl⟩
   show AV.int .u32 _ = AV.int .u32 _
   simp [wcompare, *]
  ·
   refine AGo.cond_false false rfl rfl ?_
   refine AGo.skip ?_
   refine AGo.seq ?_
   refine AGo.region ?_
   refine am 16 ?_
   refine aq 17 (q_bin rfl rfl rfl rfl) ?_
   refine am 18 ?_
   refine AOps.split 18 rfl (fun hb3 => ?_) (fun hb3 => ?_)
   ·
    refine am 19 ?_
    refine am 20 ?_
    refine aq 21 (q_bin rfl rfl rfl rfl) ?_
    refine aq 22 (q_pick_true true rfl rfl rfl rfl) ?_
    refine aa 15 ?_
    refine AOps.nil ?_
    refine AGo.split 15 rfl (fun hb4 => ?_) (fun hb4 => ?_)
    ·
     refine AGo.cond_true true rfl rfl ?_
     refine AGo.exit ?_
     refine AGo.seq ?_
     refine AGo.seq ?_
     refine AGo.region ?_
     refine aa 6 ?_
     refine AOps.nil ?_
     refine AGo.ret ?_
     refine ⟨[_], ⟨rfl, trivial⟩, ?_, rfl⟩
     show AV.int .u32 _ = AV.int .u32 _
     simp [wcompare, *]
    ·
     refine AGo.cond_false false rfl rfl ?_
     refine AGo.skip ?_
     refine AGo.exit ?_
     refine AGo.seq ?_
     refine AGo.region ?_
     refine aa 6 ?_
     refine AOps.nil ?_
     refine AGo.ret ?_
     refine ⟨[_], ⟨rfl, trivial⟩, ?_, rfl⟩
     show AV.int .u32 _ = AV.int .u32 _
     simp [wcompare, *]
   ·
    refine ak 19 ?_
    refine ak 20 ?_
    refine ak 21 ?_
    refine aq 22 (q_pick_false false rfl rfl rfl rfl) ?_
    refine aa 15 ?_
    refine AOps.nil ?_
    refine AGo.cond_false false rfl rfl ?_
    refine AGo.skip ?_
    refine AGo.exit ?_
    refine AGo.seq ?_
    refine AGo.region ?_
    refine aa 6 ?_
    refine AOps.nil ?_
    refine AGo.ret ?_
    refine ⟨[_], ⟨rfl, trivial⟩, ?_, rfl⟩
    show AV.int .u32 _ = AV.int .u32 _
    simp [wcompare, *]
 ·
  refine ak 11 ?_
  refine ak 12 ?_
  refine ak 13 ?_
  refine aq 14 (q_pick_false false rfl rfl rfl rfl) ?_
  refine aa 7 ?_
  refine AOps.nil ?_
  refine AGo.cond_false false rfl rfl ?_
  refine AGo.skip ?_
  refine AGo.seq ?_
  refine AGo.region ?_
  refine am 16 ?_
  refine aq 17 (q_bin rfl rfl rfl rfl) ?_
  refine am 18 ?_
  refine AOps.split 18 rfl (fun hb5 => ?_) (fun hb5 => ?_)
  ·
   refine am 19 ?_
   refine am 20 ?_
   refine aq 21 (q_bin rfl rfl rfl rfl) ?_
   refine aq 22 (q_pick_true true rfl rfl rfl rfl) ?_
   refine aa 15 ?_
   refine AOps.nil ?_
   refine AGo.split 15 rfl (fun hb6 => ?_) (fun hb6 => ?_)
   ·
    refine AGo.cond_true true rfl rfl ?_
    refine AGo.exit ?_
    refine AGo.seq ?_
    refine AGo.seq ?_
    refine AGo.region ?_
    refine aa 6 ?_
    refine AOps.nil ?_
    refine AGo.ret ?_
    refine ⟨[_], ⟨rfl, trivial⟩, ?_, rfl⟩
    show AV.int .u32 _ = AV.int .u32 _
    simp [wcompare, *]
   ·
    refine AGo.cond_false false rfl rfl ?_
    refine AGo.skip ?_
    refine AGo.exit ?_
    refine AGo.seq ?_
    refine AGo.region ?_
    refine aa 6 ?_
    refine AOps.nil ?_
    refine AGo.ret ?_
    refine ⟨[_], ⟨rfl, trivial⟩, ?_, rfl⟩
    show AV.int .u32 _ = AV.int .u32 _
    simp [wcompare, *]
  ·
   refine ak 19 ?_
   refine ak 20 ?_
   refine ak 21 ?_
   refine aq 22 (q_pick_false false rfl rfl rfl rfl) ?_
   refine aa 15 ?_
   refine AOps.nil ?_
   refine AGo.cond_false false rfl rfl ?_
   refine AGo.skip ?_
   refine AGo.exit ?_
   refine AGo.seq ?_
   refine AGo.region ?_
   refine aa 6 ?_
   refine AOps.nil ?_
   refine AGo.ret ?_
   refine ⟨[_], ⟨rfl, trivial⟩, ?_, rfl⟩
   show AV.int .u32 _ = AV.int .u32 _
   simp [wcompare, *]

set_option maxRecDepth 100000 in
theorem apply_ok (op a b : Int) (hb : 0 ≤ b) : APure Try.prog 67 [.int .i64 op, .int .u32 a, .int .u32 b] (fun r => r = wpair (wapp op a b)) := by
 refine APure.of_body (n := 62) tok Try.func67 rfl rfl ?_
 refine AGo.seq ?_
 refine AGo.region ?_
 refine aa 6 ?_
 refine aa 7 ?_
 refine AOps.nil ?_
 refine AGo.seq ?_
 refine AGo.seq ?_
 refine AGo.region ?_
 refine am 8 ?_
 refine AOps.nil ?_
 refine AGo.block ?_
 refine AGo.seq ?_
 refine AGo.region ?_
 refine aq 10 (q_bin rfl rfl rfl rfl) ?_
 refine aa 9 ?_
 refine AOps.nil ?_
 refine AGo.split 9 rfl (fun hb1 => ?_) (fun hb1 => ?_)
 ·
  refine AGo.cond_true true rfl rfl ?_
  refine AGo.seq ?_
  refine AGo.region ?_
  refine am 11 ?_
  refine am 12 ?_
  refine aq 13 (q_bin rfl rfl rfl rfl) ?_
  refine aa 6 ?_
  refine aa 7 ?_
  refine AOps.nil ?_
  refine AGo.ret ?_
  refine ⟨[_, _], ⟨rfl, rfl, trivial⟩, ?_, rfl⟩
  show AV.tup _ = AV.tup _
  simp [wapp, *]
 ·
  refine AGo.cond_false false rfl rfl ?_
  refine AGo.seq ?_
  refine AGo.region ?_
  refine aq 15 (q_bin rfl rfl rfl rfl) ?_
  refine aa 14 ?_
  refine AOps.nil ?_
  refine AGo.split 14 rfl (fun hb2 => ?_) (fun hb2 => ?_)
  ·
   refine AGo.cond_true true rfl rfl ?_
   refine AGo.seq ?_
   refine AGo.region ?_
   refine am 16 ?_
   refine am 17 ?_
   refine aq 18 (q_bin rfl rfl rfl rfl) ?_
   refine aa 6 ?_
   refine aa 7 ?_
   refine AOps.nil ?_
   refine AGo.ret ?_
   refine ⟨[_, _], ⟨rfl, rfl, trivial⟩, ?_, rfl⟩
   show AV.tup _ = AV.tup _
   simp [wapp, *]
  ·
   refine AGo.cond_false false rfl rfl ?_
   refine AGo.seq ?_
   refine AGo.region ?_
   refine aq 20 (q_bin rfl rfl rfl rfl) ?_
   refine aa 19 ?_
   refine AOps.nil ?_
   refine AGo.split 19 rfl (fun hb3 => ?_) (fun hb3 => ?_)
   ·
    refine AGo.cond_true true rfl rfl ?_
    refine AGo.seq ?_
    refine AGo.region ?_
    refine am 21 ?_
    refine am 22 ?_
    refine aq 23 (q_bin rfl rfl rfl rfl) ?_
    refine aa 6 ?_
    refine aa 7 ?_
    refine AOps.nil ?_
    refine AGo.ret ?_
    refine ⟨[_, _], ⟨rfl, rfl, trivial⟩, ?_, rfl⟩
    show AV.tup _ = AV.tup _
    simp [wapp, *]
   ·
    refine AGo.cond_false false rfl rfl ?_
    refine AGo.seq ?_
    refine AGo.seq ?_
    refine AGo.region ?_
    refine aq 25 (q_bin rfl rfl rfl rfl) ?_
    refine aa 24 ?_
    refine AOps.nil ?_
    refine AGo.split 24 rfl (fun hb4 => ?_) (fun hb4 => ?_)
    ·
     refine AGo.cond_true true rfl rfl ?_
     refine AGo.skip ?_
     refine AGo.cond_true true rfl rfl ?_
     refine AGo.seq ?_
     refine AGo.region ?_
     refine am 27 ?_
     refine am 28 ?_
     refine am 29 ?_
     refine ax 30 (o_pure rfl Try.func71 (by kernel_rfl) rfl rfl rfl (divide_ok _ _ _ hb)) ?_
     refine aq 31 (q_extract rfl rfl rfl) ?_
     refine aq 32 (q_extract rfl rfl rfl) ?_
     refine aa 6 ?_
     refine aa 7 ?_
     refine AOps.nil ?_
     refine AGo.ret ?_
     refine ⟨[_, _], ⟨rfl, rfl, trivial⟩, ?_, rfl⟩
     show AV.tup _ = AV.tup _
     simp [wapp, *]
    ·
     refine AGo.cond_false false rfl rfl ?_
     refine AGo.region ?_
     refine aq 26 (q_bin rfl rfl rfl rfl) ?_
     refine aa 24 ?_
     refine AOps.nil ?_
     refine AGo.split 24 rfl (fun hb5 => ?_) (fun hb5 => ?_)
     ·
      refine AGo.cond_true true rfl rfl ?_
      refine AGo.seq ?_
      refine AGo.region ?_
      refine am 27 ?_
      refine am 28 ?_
      refine am 29 ?_
      refine ax 30 (o_pure rfl Try.func71 (by kernel_rfl) rfl rfl rfl (divide_ok _ _ _ hb)) ?_
      refine aq 31 (q_extract rfl rfl rfl) ?_
      refine aq 32 (q_extract rfl rfl rfl) ?_
      refine aa 6 ?_
      refine aa 7 ?_
      refine AOps.nil ?_
      refine AGo.ret ?_
      refine ⟨[_, _], ⟨rfl, rfl, trivial⟩, ?_, rfl⟩
      show AV.tup _ = AV.tup _
      simp [wapp, *]
     ·
      refine AGo.cond_false false rfl rfl ?_
      refine AGo.seq ?_
      refine AGo.region ?_
      refine aq 34 (q_bin rfl rfl rfl rfl) ?_
      refine aa 33 ?_
      refine AOps.nil ?_
      refine AGo.split 33 rfl (fun hb6 => ?_) (fun hb6 => ?_)
      ·
       refine AGo.cond_true true rfl rfl ?_
       refine AGo.seq ?_
       refine AGo.region ?_
       refine am 35 ?_
       refine am 36 ?_
       refine aq 37 (q_bin rfl rfl rfl rfl) ?_
       refine aa 6 ?_
       refine aa 7 ?_
       refine AOps.nil ?_
       refine AGo.ret ?_
       refine ⟨[_, _], ⟨rfl, rfl, trivial⟩, ?_, rfl⟩
       show AV.tup _ = AV.tup _
       simp [wapp, *]
      ·
       refine AGo.cond_false false rfl rfl ?_
       refine AGo.seq ?_
       refine AGo.region ?_
       refine aq 39 (q_bin rfl rfl rfl rfl) ?_
       refine aa 38 ?_
       refine AOps.nil ?_
       refine AGo.split 38 rfl (fun hb7 => ?_) (fun hb7 => ?_)
       ·
        refine AGo.cond_true true rfl rfl ?_
        refine AGo.seq ?_
        refine AGo.region ?_
        refine am 40 ?_
        refine am 41 ?_
        refine aq 42 (q_bin rfl rfl rfl rfl) ?_
        refine aa 6 ?_
        refine aa 7 ?_
        refine AOps.nil ?_
        refine AGo.ret ?_
        refine ⟨[_, _], ⟨rfl, rfl, trivial⟩, ?_, rfl⟩
        show AV.tup _ = AV.tup _
        simp [wapp, *]
       ·
        refine AGo.cond_false false rfl rfl ?_
        refine AGo.seq ?_
        refine AGo.region ?_
        refine aq 44 (q_bin rfl rfl rfl rfl) ?_
        refine aa 43 ?_
        refine AOps.nil ?_
        refine AGo.split 43 rfl (fun hb8 => ?_) (fun hb8 => ?_)
        ·
         refine AGo.cond_true true rfl rfl ?_
         refine AGo.seq ?_
         refine AGo.region ?_
         refine am 45 ?_
         refine am 46 ?_
         refine aq 47 (q_bin rfl rfl rfl rfl) ?_
         refine aa 6 ?_
         refine aa 7 ?_
         refine AOps.nil ?_
         refine AGo.ret ?_
         refine ⟨[_, _], ⟨rfl, rfl, trivial⟩, ?_, rfl⟩
         show AV.tup _ = AV.tup _
         simp [wapp, *]
        ·
         refine AGo.cond_false false rfl rfl ?_
         refine AGo.seq ?_
         refine AGo.seq ?_
         refine AGo.region ?_
         refine aq 49 (q_bin rfl rfl rfl rfl) ?_
         refine aa 48 ?_
         refine AOps.nil ?_
         refine AGo.split 48 rfl (fun hb9 => ?_) (fun hb9 => ?_)
         ·
          refine AGo.cond_true true rfl rfl ?_
          refine AGo.skip ?_
          refine AGo.cond_true true rfl rfl ?_
          refine AGo.seq ?_
          refine AGo.region ?_
          refine am 51 ?_
          refine am 52 ?_
          refine am 53 ?_
          refine ax 54 (o_pure rfl Try.func72 (by kernel_rfl) rfl rfl rfl (shift_ok _ _ _ hb)) ?_
          refine aa 6 ?_
          refine aa 7 ?_
          refine AOps.nil ?_
          refine AGo.ret ?_
          refine ⟨[_, _], ⟨rfl, rfl, trivial⟩, ?_, rfl⟩
          show AV.tup _ = AV.tup _
          simp [wapp, *]
         ·
          refine AGo.cond_false false rfl rfl ?_
          refine AGo.region ?_
          refine aq 50 (q_bin rfl rfl rfl rfl) ?_
          refine aa 48 ?_
          refine AOps.nil ?_
          refine AGo.split 48 rfl (fun hb10 => ?_) (fun hb10 => ?_)
          ·
           refine AGo.cond_true true rfl rfl ?_
           refine AGo.seq ?_
           refine AGo.region ?_
           refine am 51 ?_
           refine am 52 ?_
           refine am 53 ?_
           refine ax 54 (o_pure rfl Try.func72 (by kernel_rfl) rfl rfl rfl (shift_ok _ _ _ hb)) ?_
           refine aa 6 ?_
           refine aa 7 ?_
           refine AOps.nil ?_
           refine AGo.ret ?_
           refine ⟨[_, _], ⟨rfl, rfl, trivial⟩, ?_, rfl⟩
           show AV.tup _ = AV.tup _
           simp [wapp, *]
          ·
           refine AGo.cond_false false rfl rfl ?_
           refine AGo.seq ?_
           refine AGo.seq ?_
           refine AGo.region ?_
           refine aq 56 (q_bin rfl rfl rfl rfl) ?_
           refine aa 55 ?_
           refine AOps.nil ?_
           refine AGo.split 55 rfl (fun hb11 => ?_) (fun hb11 => ?_)
           ·
            refine AGo.cond_true true rfl rfl ?_
            refine AGo.skip ?_
            refine AGo.cond_true true rfl rfl ?_
            refine AGo.seq ?_
            refine AGo.region ?_
            refine am 58 ?_
            refine am 59 ?_
            refine am 60 ?_
            refine ax 61 (o_pure rfl Try.func73 (by kernel_rfl) rfl rfl rfl (compare_ok _ _ _ hb)) ?_
            refine aa 6 ?_
            refine aa 7 ?_
            refine AOps.nil ?_
            refine AGo.ret ?_
            refine ⟨[_, _], ⟨rfl, rfl, trivial⟩, ?_, rfl⟩
            show AV.tup _ = AV.tup _
            simp [wapp, *]
           ·
            refine AGo.cond_false false rfl rfl ?_
            refine AGo.region ?_
            refine aq 57 (q_bin rfl rfl rfl rfl) ?_
            refine aa 55 ?_
            refine AOps.nil ?_
            refine AGo.split 55 rfl (fun hb12 => ?_) (fun hb12 => ?_)
            ·
             refine AGo.cond_true true rfl rfl ?_
             refine AGo.seq ?_
             refine AGo.region ?_
             refine am 58 ?_
             refine am 59 ?_
             refine am 60 ?_
             refine ax 61 (o_pure rfl Try.func73 (by kernel_rfl) rfl rfl rfl (compare_ok _ _ _ hb)) ?_
             refine aa 6 ?_
             refine aa 7 ?_
             refine AOps.nil ?_
             refine AGo.ret ?_
             refine ⟨[_, _], ⟨rfl, rfl, trivial⟩, ?_, rfl⟩
             show AV.tup _ = AV.tup _
             simp [wapp, *]
            ·
             refine AGo.cond_false false rfl rfl ?_
             refine AGo.skip ?_
             refine AGo.seq ?_
             refine AGo.region ?_
             refine aa 6 ?_
             refine aa 7 ?_
             refine AOps.nil ?_
             refine AGo.ret ?_
             refine ⟨[_, _], ⟨rfl, rfl, trivial⟩, ?_, rfl⟩
             show AV.tup _ = AV.tup _
             simp [wapp, *]

end Go.Proofs.Ytpijoieooikfgaa.Sv

namespace Go.Proofs.Ytpijoieooikfgaa.Sv
open Go

set_option maxHeartbeats 1000000 in
set_option maxRecDepth 100000 in
theorem constant_ok (first : Int) (K : List (List Int)) (hf : 0 ≤ first ∧ first ≤ 100000) (h4 : ∀ k ∈ K, k.length = 4) (hK : K.length ≤ 100000) (n : Int) (hn : 0 ≤ n ∧ n < first + K.length) : ACall Try.prog 56 [.ptr 4 1 0 0, .int .i64 n] (hput (hput (hput hNew 3 (.map (kvsA .i64 (vmap first (K))))) 4 (.row false 3 [[.int .i64 first, .map 3, slA 9 ((K).map (arrAV .i64))]])) 9 (slO 4 ((K).map (arrAV .i64)))) (fun r h' => r = .tup [.int .u32 (vconst first K n).1, .bool (vconst first K n).2] ∧ HSub (hput (hput (hput hNone 3 (.map (kvsA .i64 (vmap first (K))))) 4 (.row false 3 [[.int .i64 first, .map 3, slA 9 ((K).map (arrAV .i64))]])) 9 (slO 4 ((K).map (arrAV .i64)))) h') := by
 refine ACall.of_body (n := 31) tok Try.func56 rfl rfl ?_
 refine AGo.seq ?_
 refine AGo.region ?_
 refine aa 4 ?_
 refine aa 5 ?_
 refine AOps.nil ?_
 refine AGo.seq ?_
 refine AGo.seq ?_
 refine AGo.region ?_
 refine am 7 ?_
 refine am 8 ?_
 refine aq 9 (q_nilCheck rfl rfl rfl) ?_
 refine af 10 tok ?_
 refine al 11 tok ?_
 refine aq 12 (q_bin rfl rfl rfl rfl) ?_
 refine AOps.nil ?_
 refine AGo.split 12 rfl (fun hb1 => ?_) (fun hb1 => ?_)
 ·
  refine AGo.cond_true true rfl rfl ?_
  have hlo := hb1
  refine AGo.seq ?_
  refine AGo.region ?_
  refine aa 4 ?_
  refine aa 5 ?_
  refine AOps.nil ?_
  refine AGo.ret ?_
  refine ⟨[_, _], ⟨rfl, rfl, trivial⟩, ?_, ?_⟩
  · first
    | (rw [vconst_low hlo]; rfl)
    | (rw [hv]; rfl)
  · exact HSub.put (HSub.put (HSub.put (HSub.none _) rfl) rfl) rfl
 ·
  refine AGo.cond_false false rfl rfl ?_
  obtain ⟨hi1, hi2, a, b, c, d, hg, hv⟩ := vkey h4 hn hb1
  refine AGo.skip ?_
  refine AGo.seq ?_
  refine AGo.draw mix ?_
  refine dm 13 ?_
  refine dq 14 (q_nilCheck rfl rfl rfl) ?_
  refine df 15 tok ?_
  refine dl 16 tok ?_
  refine dm 17 ?_
  refine dm 18 ?_
  refine dq 19 (q_nilCheck rfl rfl rfl) ?_
  refine df 20 tok ?_
  refine dl 21 tok ?_
  refine dq 22 (q_bin (r := .int .i64 (n - first)) rfl rfl rfl (subZ (by omega) (by omega) rfl)) ?_
  refine dq 23 (q_indexJ tok rfl rfl rfl rfl rfl rfl rfl rfl hi1 hi2) ?_
  refine dq 24 (q_load tok rfl rfl rfl (ptsJ rfl hg) rfl) ?_
  refine dx 6 (o_alloc tok 12 rfl rfl rfl rfl (Nat.zero_lt_succ _) rfl) ?_
  refine DOps.w rfl rfl (o_store tok rfl rfl rfl rfl rfl rfl rfl rfl rfl (by decide) rfl (by first | exact fun _ => rfl | (intro h; cases h))) ?_
  refine DOps.nil (by kernel_rfl) ?_
  refine AGo.seq ?_
  refine AGo.draw mix ?_
  refine dq 25 (q_index_arr tok rfl rfl rfl rfl rfl rfl (by decide) (by decide) rfl) ?_
  refine dl 26 tok ?_
  refine dq 27 (q_convInt tok rfl rfl rfl rfl rfl) ?_
  refine dq 28 (q_index_arr tok rfl rfl rfl rfl rfl rfl (by decide) (by decide) rfl) ?_
  refine dl 29 tok ?_
  refine dq 30 (q_bin rfl rfl rfl rfl) ?_
  refine da 4 ?_
  refine da 5 ?_
  refine DOps.nil (by kernel_rfl) ?_
  refine AGo.ret ?_
  refine ⟨[_, _], ⟨rfl, rfl, trivial⟩, ?_, ?_⟩
  · first
    | (rw [vconst_low hlo]; rfl)
    | (rw [hv]; rfl)
  · exact HSub.put (HSub.put (HSub.put (HSub.none _) rfl) rfl) rfl

set_option maxHeartbeats 1000000 in
set_option maxRecDepth 100000 in
theorem vapply_ok' (first : Int) (K : List (List Int)) (hf : 0 ≤ first ∧ first ≤ 100000) (h4 : ∀ k ∈ K, k.length = 4) (hK : K.length ≤ 100000) (op a b : Int) (ha : 0 ≤ a ∧ a < first + K.length) (hb : 0 ≤ b ∧ b < first + K.length) : ACall Try.prog 57 [.ptr 4 1 0 0, .int .i64 op, .int .i64 a, .int .i64 b] (hput (hput (hput hNew 3 (.map (kvsA .i64 (vmap first (K))))) 4 (.row false 3 [[.int .i64 first, .map 3, slA 9 ((K).map (arrAV .i64))]])) 9 (slO 4 ((K).map (arrAV .i64)))) (fun r h' => r = .int .i64 (vapply first K op a b).1 ∧ HSub (hput (hput (hput hNone 3 (.map (kvsA .i64 (vmap first ((vapply first K op a b).2))))) 4 (.row false 3 [[.int .i64 first, .map 3, slA 9 (((vapply first K op a b).2).map (arrAV .i64))]])) 9 (slO 4 (((vapply first K op a b).2).map (arrAV .i64)))) h') := by
 refine ACall.of_body (n := 51) tok Try.func57 rfl rfl ?_
 refine AGo.seq ?_
 refine AGo.region ?_
 refine aa 8 ?_
 refine AOps.nil ?_
 refine AGo.seq ?_
 refine AGo.region ?_
 refine am 16 ?_
 refine am 17 ?_
 refine ax 18 (o_call (hc := (hput (hput (hput hNew 3 (.map (kvsA .i64 (vmap first (K))))) 4 (.row false 3 [[.int .i64 first, .map 3, slA 9 ((K).map (arrAV .i64))]])) 9 (slO 4 ((K).map (arrAV .i64))))) (hw := (hput (hput (hput hNone 3 (.map (kvsA .i64 (vmap first (K))))) 4 (.row false 3 [[.int .i64 first, .map 3, slA 9 ((K).map (arrAV .i64))]])) 9 (slO 4 ((K).map (arrAV .i64))))) [9, 4, 3] [(3, (.map (kvsA .i64 (vmap first (K))))), (4, (.row false 3 [[.int .i64 first, .map 3, slA 9 ((K).map (arrAV .i64))]])), (9, (slO 4 ((K).map (arrAV .i64))))] rfl Try.func56 (by kernel_rfl) rfl rfl rfl ⟨⟨_, rfl, (by first | rfl | exact slO_avoid _ _ | exact vaO_avoid _ | exact tab_avoid _ _ rfl rfl | exact wlk_avoid _ _ _ rfl rfl rfl)⟩, ⟨_, rfl, (by first | rfl | exact slO_avoid _ _ | exact vaO_avoid _ | exact tab_avoid _ _ rfl rfl | exact wlk_avoid _ _ _ rfl rfl rfl)⟩, ⟨_, rfl, (by first | rfl | exact slO_avoid _ _ | exact vaO_avoid _ | exact tab_avoid _ _ rfl rfl | exact wlk_avoid _ _ _ rfl rfl rfl)⟩, trivial⟩ rfl (hres_cons rfl (hres_cons rfl (hres_cons rfl (hres_nil _)))) ⟨⟨_, rfl, rfl, (by first | rfl | exact slO_avoid _ _ | exact vaO_avoid _ | exact tab_avoid _ _ rfl rfl | exact wlk_avoid _ _ _ rfl rfl rfl)⟩, ⟨_, rfl, rfl, (by first | rfl | exact slO_avoid _ _ | exact vaO_avoid _ | exact tab_avoid _ _ rfl rfl | exact wlk_avoid _ _ _ rfl rfl rfl)⟩, ⟨_, rfl, rfl, (by first | rfl | exact slO_avoid _ _ | exact vaO_avoid _ | exact tab_avoid _ _ rfl rfl | exact wlk_avoid _ _ _ rfl rfl rfl)⟩, trivial⟩ rfl (constant_ok first K hf h4 hK a ha)) ?_
 refine am 15 ?_
 refine aq 19 (q_extract rfl rfl rfl) ?_
 refine aq 20 (q_extract rfl rfl rfl) ?_
 refine aa 9 ?_
 refine aa 10 ?_
 refine AOps.nil ?_
 refine AGo.seq ?_
 refine AGo.region ?_
 refine am 22 ?_
 refine am 23 ?_
 refine ax 24 (o_call (hc := (hput (hput (hput hNew 3 (.map (kvsA .i64 (vmap first (K))))) 4 (.row false 3 [[.int .i64 first, .map 3, slA 9 ((K).map (arrAV .i64))]])) 9 (slO 4 ((K).map (arrAV .i64))))) (hw := (hput (hput (hput hNone 3 (.map (kvsA .i64 (vmap first (K))))) 4 (.row false 3 [[.int .i64 first, .map 3, slA 9 ((K).map (arrAV .i64))]])) 9 (slO 4 ((K).map (arrAV .i64))))) [9, 4, 3] [(3, (.map (kvsA .i64 (vmap first (K))))), (4, (.row false 3 [[.int .i64 first, .map 3, slA 9 ((K).map (arrAV .i64))]])), (9, (slO 4 ((K).map (arrAV .i64))))] rfl Try.func56 (by kernel_rfl) rfl rfl rfl ⟨⟨_, rfl, (by first | rfl | exact slO_avoid _ _ | exact vaO_avoid _ | exact tab_avoid _ _ rfl rfl | exact wlk_avoid _ _ _ rfl rfl rfl)⟩, ⟨_, rfl, (by first | rfl | exact slO_avoid _ _ | exact vaO_avoid _ | exact tab_avoid _ _ rfl rfl | exact wlk_avoid _ _ _ rfl rfl rfl)⟩, ⟨_, rfl, (by first | rfl | exact slO_avoid _ _ | exact vaO_avoid _ | exact tab_avoid _ _ rfl rfl | exact wlk_avoid _ _ _ rfl rfl rfl)⟩, trivial⟩ rfl (hres_cons rfl (hres_cons rfl (hres_cons rfl (hres_nil _)))) ⟨⟨_, rfl, rfl, (by first | rfl | exact slO_avoid _ _ | exact vaO_avoid _ | exact tab_avoid _ _ rfl rfl | exact wlk_avoid _ _ _ rfl rfl rfl)⟩, ⟨_, rfl, rfl, (by first | rfl | exact slO_avoid _ _ | exact vaO_avoid _ | exact tab_avoid _ _ rfl rfl | exact wlk_avoid _ _ _ rfl rfl rfl)⟩, ⟨_, rfl, rfl, (by first | rfl | exact slO_avoid _ _ | exact vaO_avoid _ | exact tab_avoid _ _ rfl rfl | exact wlk_avoid _ _ _ rfl rfl rfl)⟩, trivial⟩ rfl (constant_ok first K hf h4 hK b hb)) ?_
 refine am 21 ?_
 refine aq 25 (q_extract rfl rfl rfl) ?_
 refine aq 26 (q_extract rfl rfl rfl) ?_
 refine aa 11 ?_
 refine aa 12 ?_
 refine AOps.nil ?_
 refine AGo.seq ?_
 refine AGo.seq ?_
 refine AGo.region ?_
 refine am 27 ?_
 refine am 28 ?_
 refine AOps.split 28 rfl (fun hb1 => ?_) (fun hb1 => ?_)
 ·
  refine am 29 ?_
  refine aq 30 (q_pick_true true rfl rfl rfl rfl) ?_
  refine AOps.nil ?_
  refine AGo.split 30 rfl (fun hb2 => ?_) (fun hb2 => ?_)
  ·
   refine AGo.cond_true true rfl rfl ?_
   refine AGo.seq ?_
   refine AGo.region ?_
   refine am 32 ?_
   refine am 33 ?_
   refine am 34 ?_
   refine ax 35 (o_pure rfl Try.func67 (by kernel_rfl) rfl rfl rfl (apply_ok op _ _ (vconst_w first K b).1)) ?_
   refine am 31 ?_
   refine aq 36 (q_extract rfl rfl rfl) ?_
   refine aq 37 (q_extract rfl rfl rfl) ?_
   refine aa 13 ?_
   refine aa 14 ?_
   refine AOps.nil ?_
   refine AGo.seq ?_
   refine AGo.region ?_
   refine am 38 ?_
   refine aq 39 (q_bin rfl rfl rfl rfl) ?_
   refine AOps.nil ?_
   refine AGo.split 39 rfl (fun hb3 => ?_) (fun hb3 => ?_)
   ·
    refine AGo.cond_true true rfl rfl ?_
    refine AGo.seq ?_
    refine AGo.region ?_
    refine am 40 ?_
    refine am 41 ?_
    refine aq 42 (q_convTo tok rfl rfl rfl rfl rfl (r := (wapp op (vconst first K a).1 (vconst first K b).1).1) (by have h := wapp_word (op := op) (vconst_w first K a) (vconst_w first K b); obtain ⟨h1, h2⟩ := h; exact wrap_i64 (by omega) (by omega))) ?_
    refine aq 43 (q_build_arr tok rfl rfl rfl rfl rfl rfl (by decide) rfl rfl) ?_
    refine ax 44 (o_call (hc := (hput (hput (hput hNew 3 (.map (kvsA .i64 (vmap first (K))))) 4 (.row false 3 [[.int .i64 first, .map 3, slA 9 ((K).map (arrAV .i64))]])) 9 (slO 4 ((K).map (arrAV .i64))))) (hw := (hput (hput (hput hNone 3 (.map (kvsA .i64 (vmap first ((vnum first K [1, (wapp op (vconst first K a).1 (vconst first K b).1).1, 0, 0]).2))))) 4 (.row false 3 [[.int .i64 first, .map 3, slA 9 (((vnum first K [1, (wapp op (vconst first K a).1 (vconst first K b).1).1, 0, 0]).2).map (arrAV .i64))]])) 9 (slO 4 (((vnum first K [1, (wapp op (vconst first K a).1 (vconst first K b).1).1, 0, 0]).2).map (arrAV .i64))))) [9, 4, 3] [(3, (.map (kvsA .i64 (vmap first ((vnum first K [1, (wapp op (vconst first K a).1 (vconst first K b).1).1, 0, 0]).2))))), (4, (.row false 3 [[.int .i64 first, .map 3, slA 9 (((vnum first K [1, (wapp op (vconst first K a).1 (vconst first K b).1).1, 0, 0]).2).map (arrAV .i64))]])), (9, (slO 4 (((vnum first K [1, (wapp op (vconst first K a).1 (vconst first K b).1).1, 0, 0]).2).map (arrAV .i64))))] rfl Try.func45 (by kernel_rfl) rfl rfl rfl ⟨⟨_, rfl, (by first | rfl | exact slO_avoid _ _ | exact vaO_avoid _ | exact tab_avoid _ _ rfl rfl | exact wlk_avoid _ _ _ rfl rfl rfl)⟩, ⟨_, rfl, (by first | rfl | exact slO_avoid _ _ | exact vaO_avoid _ | exact tab_avoid _ _ rfl rfl | exact wlk_avoid _ _ _ rfl rfl rfl)⟩, ⟨_, rfl, (by first | rfl | exact slO_avoid _ _ | exact vaO_avoid _ | exact tab_avoid _ _ rfl rfl | exact wlk_avoid _ _ _ rfl rfl rfl)⟩, trivial⟩ rfl (hres_cons rfl (hres_cons rfl (hres_cons rfl (hres_nil _)))) ⟨⟨_, rfl, rfl, (by first | rfl | exact slO_avoid _ _ | exact vaO_avoid _ | exact tab_avoid _ _ rfl rfl | exact wlk_avoid _ _ _ rfl rfl rfl)⟩, ⟨_, rfl, rfl, (by first | rfl | exact slO_avoid _ _ | exact vaO_avoid _ | exact tab_avoid _ _ rfl rfl | exact wlk_avoid _ _ _ rfl rfl rfl)⟩, ⟨_, rfl, rfl, (by first | rfl | exact slO_avoid _ _ | exact vaO_avoid _ | exact tab_avoid _ _ rfl rfl | exact wlk_avoid _ _ _ rfl rfl rfl)⟩, trivial⟩ rfl (number_ok first K hf h4 hK 1 (wapp op (vconst first K a).1 (vconst first K b).1).1 0 0)) ?_
    refine aa 8 ?_
    refine AOps.nil ?_
    refine AGo.ret ?_
    first
    | (refine ⟨[_], ⟨rfl, trivial⟩, ?_, ?_⟩ <;> rw [vapply_c (by assumption) (by assumption) (by assumption)] <;> first | rfl | exact HSub.put (HSub.put (HSub.put (HSub.none _) rfl) rfl) rfl)
   ·
    refine AGo.cond_false false rfl rfl ?_
    refine AGo.skip ?_
    refine AGo.seq ?_
    refine AGo.region ?_
    refine am 45 ?_
    refine am 46 ?_
    refine am 47 ?_
    refine am 48 ?_
    refine aq 49 (q_build_arr tok rfl rfl rfl rfl rfl rfl (by decide) rfl rfl) ?_
    refine ax 50 (o_call (hc := (hput (hput (hput hNew 3 (.map (kvsA .i64 (vmap first (K))))) 4 (.row false 3 [[.int .i64 first, .map 3, slA 9 ((K).map (arrAV .i64))]])) 9 (slO 4 ((K).map (arrAV .i64))))) (hw := (hput (hput (hput hNone 3 (.map (kvsA .i64 (vmap first ((vnum first K [2, op, a, b]).2))))) 4 (.row false 3 [[.int .i64 first, .map 3, slA 9 (((vnum first K [2, op, a, b]).2).map (arrAV .i64))]])) 9 (slO 4 (((vnum first K [2, op, a, b]).2).map (arrAV .i64))))) [9, 4, 3] [(3, (.map (kvsA .i64 (vmap first ((vnum first K [2, op, a, b]).2))))), (4, (.row false 3 [[.int .i64 first, .map 3, slA 9 (((vnum first K [2, op, a, b]).2).map (arrAV .i64))]])), (9, (slO 4 (((vnum first K [2, op, a, b]).2).map (arrAV .i64))))] rfl Try.func45 (by kernel_rfl) rfl rfl rfl ⟨⟨_, rfl, (by first | rfl | exact slO_avoid _ _ | exact vaO_avoid _ | exact tab_avoid _ _ rfl rfl | exact wlk_avoid _ _ _ rfl rfl rfl)⟩, ⟨_, rfl, (by first | rfl | exact slO_avoid _ _ | exact vaO_avoid _ | exact tab_avoid _ _ rfl rfl | exact wlk_avoid _ _ _ rfl rfl rfl)⟩, ⟨_, rfl, (by first | rfl | exact slO_avoid _ _ | exact vaO_avoid _ | exact tab_avoid _ _ rfl rfl | exact wlk_avoid _ _ _ rfl rfl rfl)⟩, trivial⟩ rfl (hres_cons rfl (hres_cons rfl (hres_cons rfl (hres_nil _)))) ⟨⟨_, rfl, rfl, (by first | rfl | exact slO_avoid _ _ | exact vaO_avoid _ | exact tab_avoid _ _ rfl rfl | exact wlk_avoid _ _ _ rfl rfl rfl)⟩, ⟨_, rfl, rfl, (by first | rfl | exact slO_avoid _ _ | exact vaO_avoid _ | exact tab_avoid _ _ rfl rfl | exact wlk_avoid _ _ _ rfl rfl rfl)⟩, ⟨_, rfl, rfl, (by first | rfl | exact slO_avoid _ _ | exact vaO_avoid _ | exact tab_avoid _ _ rfl rfl | exact wlk_avoid _ _ _ rfl rfl rfl)⟩, trivial⟩ rfl (number_ok first K hf h4 hK 2 op a b)) ?_
    refine aa 8 ?_
    refine AOps.nil ?_
    refine AGo.ret ?_
    first
    | (refine ⟨[_], ⟨rfl, trivial⟩, ?_, ?_⟩ <;> rw [vapply_o1 (by assumption)] <;> first | rfl | exact HSub.put (HSub.put (HSub.put (HSub.none _) rfl) rfl) rfl)
    | (refine ⟨[_], ⟨rfl, trivial⟩, ?_, ?_⟩ <;> rw [vapply_o2 (by assumption)] <;> first | rfl | exact HSub.put (HSub.put (HSub.put (HSub.none _) rfl) rfl) rfl)
    | (refine ⟨[_], ⟨rfl, trivial⟩, ?_, ?_⟩ <;> rw [vapply_o3 (by assumption)] <;> first | rfl | exact HSub.put (HSub.put (HSub.put (HSub.none _) rfl) rfl) rfl)
  ·
   refine AGo.cond_false false rfl rfl ?_
   refine AGo.skip ?_
   refine AGo.seq ?_
   refine AGo.region ?_
   refine am 45 ?_
   refine am 46 ?_
   refine am 47 ?_
   refine am 48 ?_
   refine aq 49 (q_build_arr tok rfl rfl rfl rfl rfl rfl (by decide) rfl rfl) ?_
   refine ax 50 (o_call (hc := (hput (hput (hput hNew 3 (.map (kvsA .i64 (vmap first (K))))) 4 (.row false 3 [[.int .i64 first, .map 3, slA 9 ((K).map (arrAV .i64))]])) 9 (slO 4 ((K).map (arrAV .i64))))) (hw := (hput (hput (hput hNone 3 (.map (kvsA .i64 (vmap first ((vnum first K [2, op, a, b]).2))))) 4 (.row false 3 [[.int .i64 first, .map 3, slA 9 (((vnum first K [2, op, a, b]).2).map (arrAV .i64))]])) 9 (slO 4 (((vnum first K [2, op, a, b]).2).map (arrAV .i64))))) [9, 4, 3] [(3, (.map (kvsA .i64 (vmap first ((vnum first K [2, op, a, b]).2))))), (4, (.row false 3 [[.int .i64 first, .map 3, slA 9 (((vnum first K [2, op, a, b]).2).map (arrAV .i64))]])), (9, (slO 4 (((vnum first K [2, op, a, b]).2).map (arrAV .i64))))] rfl Try.func45 (by kernel_rfl) rfl rfl rfl ⟨⟨_, rfl, (by first | rfl | exact slO_avoid _ _ | exact vaO_avoid _ | exact tab_avoid _ _ rfl rfl | exact wlk_avoid _ _ _ rfl rfl rfl)⟩, ⟨_, rfl, (by first | rfl | exact slO_avoid _ _ | exact vaO_avoid _ | exact tab_avoid _ _ rfl rfl | exact wlk_avoid _ _ _ rfl rfl rfl)⟩, ⟨_, rfl, (by first | rfl | exact slO_avoid _ _ | exact vaO_avoid _ | exact tab_avoid _ _ rfl rfl | exact wlk_avoid _ _ _ rfl rfl rfl)⟩, trivial⟩ rfl (hres_cons rfl (hres_cons rfl (hres_cons rfl (hres_nil _)))) ⟨⟨_, rfl, rfl, (by first | rfl | exact slO_avoid _ _ | exact vaO_avoid _ | exact tab_avoid _ _ rfl rfl | exact wlk_avoid _ _ _ rfl rfl rfl)⟩, ⟨_, rfl, rfl, (by first | rfl | exact slO_avoid _ _ | exact vaO_avoid _ | exact tab_avoid _ _ rfl rfl | exact wlk_avoid _ _ _ rfl rfl rfl)⟩, ⟨_, rfl, rfl, (by first | rfl | exact slO_avoid _ _ | exact vaO_avoid _ | exact tab_avoid _ _ rfl rfl | exact wlk_avoid _ _ _ rfl rfl rfl)⟩, trivial⟩ rfl (number_ok first K hf h4 hK 2 op a b)) ?_
   refine aa 8 ?_
   refine AOps.nil ?_
   refine AGo.ret ?_
   first
   | (refine ⟨[_], ⟨rfl, trivial⟩, ?_, ?_⟩ <;> rw [vapply_o1 (by assumption)] <;> first | rfl | exact HSub.put (HSub.put (HSub.put (HSub.none _) rfl) rfl) rfl)
   | (refine ⟨[_], ⟨rfl, trivial⟩, ?_, ?_⟩ <;> rw [vapply_o2 (by assumption)] <;> first | rfl | exact HSub.put (HSub.put (HSub.put (HSub.none _) rfl) rfl) rfl)
   | (refine ⟨[_], ⟨rfl, trivial⟩, ?_, ?_⟩ <;> rw [vapply_o3 (by assumption)] <;> first | rfl | exact HSub.put (HSub.put (HSub.put (HSub.none _) rfl) rfl) rfl)
 ·
  refine ak 29 ?_
  refine aq 30 (q_pick_false false rfl rfl rfl rfl) ?_
  refine AOps.nil ?_
  refine AGo.cond_false false rfl rfl ?_
  refine AGo.skip ?_
  refine AGo.seq ?_
  refine AGo.region ?_
  refine am 45 ?_
  refine am 46 ?_
  refine am 47 ?_
  refine am 48 ?_
  refine aq 49 (q_build_arr tok rfl rfl rfl rfl rfl rfl (by decide) rfl rfl) ?_
  refine ax 50 (o_call (hc := (hput (hput (hput hNew 3 (.map (kvsA .i64 (vmap first (K))))) 4 (.row false 3 [[.int .i64 first, .map 3, slA 9 ((K).map (arrAV .i64))]])) 9 (slO 4 ((K).map (arrAV .i64))))) (hw := (hput (hput (hput hNone 3 (.map (kvsA .i64 (vmap first ((vnum first K [2, op, a, b]).2))))) 4 (.row false 3 [[.int .i64 first, .map 3, slA 9 (((vnum first K [2, op, a, b]).2).map (arrAV .i64))]])) 9 (slO 4 (((vnum first K [2, op, a, b]).2).map (arrAV .i64))))) [9, 4, 3] [(3, (.map (kvsA .i64 (vmap first ((vnum first K [2, op, a, b]).2))))), (4, (.row false 3 [[.int .i64 first, .map 3, slA 9 (((vnum first K [2, op, a, b]).2).map (arrAV .i64))]])), (9, (slO 4 (((vnum first K [2, op, a, b]).2).map (arrAV .i64))))] rfl Try.func45 (by kernel_rfl) rfl rfl rfl ⟨⟨_, rfl, (by first | rfl | exact slO_avoid _ _ | exact vaO_avoid _ | exact tab_avoid _ _ rfl rfl | exact wlk_avoid _ _ _ rfl rfl rfl)⟩, ⟨_, rfl, (by first | rfl | exact slO_avoid _ _ | exact vaO_avoid _ | exact tab_avoid _ _ rfl rfl | exact wlk_avoid _ _ _ rfl rfl rfl)⟩, ⟨_, rfl, (by first | rfl | exact slO_avoid _ _ | exact vaO_avoid _ | exact tab_avoid _ _ rfl rfl | exact wlk_avoid _ _ _ rfl rfl rfl)⟩, trivial⟩ rfl (hres_cons rfl (hres_cons rfl (hres_cons rfl (hres_nil _)))) ⟨⟨_, rfl, rfl, (by first | rfl | exact slO_avoid _ _ | exact vaO_avoid _ | exact tab_avoid _ _ rfl rfl | exact wlk_avoid _ _ _ rfl rfl rfl)⟩, ⟨_, rfl, rfl, (by first | rfl | exact slO_avoid _ _ | exact vaO_avoid _ | exact tab_avoid _ _ rfl rfl | exact wlk_avoid _ _ _ rfl rfl rfl)⟩, ⟨_, rfl, rfl, (by first | rfl | exact slO_avoid _ _ | exact vaO_avoid _ | exact tab_avoid _ _ rfl rfl | exact wlk_avoid _ _ _ rfl rfl rfl)⟩, trivial⟩ rfl (number_ok first K hf h4 hK 2 op a b)) ?_
  refine aa 8 ?_
  refine AOps.nil ?_
  refine AGo.ret ?_
  first
  | (refine ⟨[_], ⟨rfl, trivial⟩, ?_, ?_⟩ <;> rw [vapply_o1 (by assumption)] <;> first | rfl | exact HSub.put (HSub.put (HSub.put (HSub.none _) rfl) rfl) rfl)
  | (refine ⟨[_], ⟨rfl, trivial⟩, ?_, ?_⟩ <;> rw [vapply_o2 (by assumption)] <;> first | rfl | exact HSub.put (HSub.put (HSub.put (HSub.none _) rfl) rfl) rfl)
  | (refine ⟨[_], ⟨rfl, trivial⟩, ?_, ?_⟩ <;> rw [vapply_o3 (by assumption)] <;> first | rfl | exact HSub.put (HSub.put (HSub.put (HSub.none _) rfl) rfl) rfl)

end Go.Proofs.Ytpijoieooikfgaa.Sv

namespace Go.Proofs.Ytpijoieooikfgaa.Sv
open Go

set_option maxHeartbeats 1000000 in
set_option maxRecDepth 100000 in
theorem happensb_ok (first : Int) (R m : Nat) (w : VW) (h : VOk first R m w) (hm : m ≤ 90000) (t : Tac) (a b : Int) : ACall Try.prog 47 [.ptr 8 1 0 0, .agg t.cells, .int .i64 a, .int .i64 b] (hput (hput (hput (hput (hput (hput hNew 3 (.map (kvsA .i64 (vmap first ((w).K))))) 4 (.row false 3 [[.int .i64 first, .map 3, slA 9 (((w).K).map (arrAV .i64))]])) 9 (slO 4 (((w).K).map (arrAV .i64)))) 8 (.row false 4 [[.ptr 4 1 0 0, vaA 7 (valC ((w).vals)), slA 11 (((w).effs).map (arrAV .i64)), .int .i64 ((w).time)]])) 7 (vaO (valC ((w).vals)))) 11 (slO 6 (((w).effs).map (arrAV .i64)))) (fun r h' => r = .tup [] ∧ HSub (hput (hput (hput (hput (hput (hput hNone 3 (.map (kvsA .i64 (vmap first (((w.hap t a b)).K))))) 4 (.row false 3 [[.int .i64 first, .map 3, slA 9 ((((w.hap t a b)).K).map (arrAV .i64))]])) 9 (slO 4 ((((w.hap t a b)).K).map (arrAV .i64)))) 8 (.row false 4 [[.ptr 4 1 0 0, vaA 7 (valC (((w.hap t a b)).vals)), slA 11 ((((w.hap t a b)).effs).map (arrAV .i64)), .int .i64 (((w.hap t a b)).time)]])) 7 (vaO (valC (((w.hap t a b)).vals)))) 11 (slO 6 ((((w.hap t a b)).effs).map (arrAV .i64)))) h') := by
 have hel := h.el
 refine ACall.of_body (n := 26) tok Try.func47 rfl rfl ?_
 refine AGo.seq ?_
 refine AGo.region ?_
 refine ax 5 (o_box (sz := 8) 12 rfl rfl rfl rfl (Nat.zero_lt_succ _) rfl) ?_
 refine AOps.nil ?_
 refine AGo.draw mix ?_
 refine dm 8 ?_
 refine dm 9 ?_
 refine dq 10 (q_nilCheck rfl rfl rfl) ?_
 refine df 11 tok ?_
 refine dl 12 tok ?_
 refine df 13 tok ?_
 refine dl 14 tok ?_
 refine df 15 tok ?_
 refine dl 16 tok ?_
 refine df 17 tok ?_
 refine dl 18 tok ?_
 refine dm 19 ?_
 refine dm 20 ?_
 refine dq 21 (q_build_arr tok rfl rfl rfl rfl rfl rfl (by decide) rfl rfl) ?_
 refine dx 22 (o_lit' tok rfl rfl rfl rfl rfl rfl (by decide) rfl rfl rfl rfl rfl rfl) ?_
 refine dx 23 (o_append1J tok (b := 11) (es := ((w.effs).map (arrAV .i64))) rfl rfl rfl rfl rfl rfl rfl rfl rfl rfl rfl (Nat.zero_lt_succ _) (arr_len h.e6) (arr_pure _) rfl rfl (by rw [List.length_map]; show _ * 48 ≤ _; omega) (by rw [List.length_map]; simp only [maxLen]; omega)) ?_
 refine dq 24 (q_nilCheck rfl rfl rfl) ?_
 refine df 25 tok ?_
 refine DOps.w rfl rfl (o_store1 tok rfl rfl rfl rfl rfl rfl rfl rfl rfl (slA_cells _ _) (by decide) (slA_cell1 _ _) (by intro h; cases h)) ?_
 refine DOps.nil (by kernel_rfl) ?_
 refine ⟨[], trivial, rfl, ?_⟩
 exact HSub.put (HSub.put (HSub.put (HSub.put (HSub.put (HSub.put (HSub.none _) rfl) rfl) rfl) (by show _ = some (AObj.row false 4 [[.ptr 4 1 0 0, vaA 7 (valC (w.vals)), slA 11 ((w.effs ++ [_]).map (arrAV .i64)), .int .i64 w.time]]); rw [List.map_append]; rfl)) rfl) (by show _ = some (slO 6 ((w.effs ++ [_]).map (arrAV .i64))); rw [List.map_append]; rfl)

set_option maxHeartbeats 1000000 in
set_option maxRecDepth 100000 in
theorem unknownb_ok (first : Int) (R m : Nat) (w : VW) (h : VOk first R m w) (hm : m ≤ 90000) : ACall Try.prog 48 [.ptr 8 1 0 0] (hput (hput (hput (hput (hput (hput hNew 3 (.map (kvsA .i64 (vmap first ((w).K))))) 4 (.row false 3 [[.int .i64 first, .map 3, slA 9 (((w).K).map (arrAV .i64))]])) 9 (slO 4 (((w).K).map (arrAV .i64)))) 8 (.row false 4 [[.ptr 4 1 0 0, vaA 7 (valC ((w).vals)), slA 11 (((w).effs).map (arrAV .i64)), .int .i64 ((w).time)]])) 7 (vaO (valC ((w).vals)))) 11 (slO 6 (((w).effs).map (arrAV .i64)))) (fun r h' => r = .int .i64 (vunk first w).1 ∧ HSub (hput (hput (hput (hput (hput (hput hNone 3 (.map (kvsA .i64 (vmap first ((vunk first w).2))))) 4 (.row false 3 [[.int .i64 first, .map 3, slA 9 (((vunk first w).2).map (arrAV .i64))]])) 9 (slO 4 (((vunk first w).2).map (arrAV .i64)))) 8 (.row false 4 [[.ptr 4 1 0 0, vaA 7 (valC ((w).vals)), slA 11 (((w).effs).map (arrAV .i64)), .int .i64 ((w).time)]])) 7 (vaO (valC ((w).vals)))) 11 (slO 6 (((w).effs).map (arrAV .i64)))) h') := by
 have hkl := h.kl
 refine ACall.of_body (n := 14) tok Try.func48 rfl rfl ?_
 refine AGo.seq ?_
 refine AGo.region ?_
 refine aa 2 ?_
 refine AOps.nil ?_
 refine AGo.seq ?_
 refine AGo.draw mix ?_
 refine dm 3 ?_
 refine dq 4 (q_nilCheck rfl rfl rfl) ?_
 refine df 5 tok ?_
 refine dl 6 tok ?_
 refine dm 7 ?_
 refine dq 8 (q_nilCheck rfl rfl rfl) ?_
 refine df 9 tok ?_
 refine dl 10 tok ?_
 refine dq 11 (q_lenJ tok rfl rfl rfl rfl) ?_
 refine dq 12 (q_build_arr tok rfl rfl rfl rfl rfl rfl (by decide) rfl rfl) ?_
 refine dx 13 (o_call (hc := (hput (hput (hput hNew 3 (.map (kvsA .i64 (vmap first (w.K))))) 4 (.row false 3 [[.int .i64 first, .map 3, slA 9 ((w.K).map (arrAV .i64))]])) 9 (slO 4 ((w.K).map (arrAV .i64))))) (hw := (hput (hput (hput hNone 3 (.map (kvsA .i64 (vmap first ((vunk first w).2))))) 4 (.row false 3 [[.int .i64 first, .map 3, slA 9 (((vunk first w).2).map (arrAV .i64))]])) 9 (slO 4 (((vunk first w).2).map (arrAV .i64))))) [9, 4, 3] [(3, (.map (kvsA .i64 (vmap first ((vunk first w).2))))), (4, (.row false 3 [[.int .i64 first, .map 3, slA 9 (((vunk first w).2).map (arrAV .i64))]])), (9, (slO 4 (((vunk first w).2).map (arrAV .i64))))] rfl Try.func45 (by kernel_rfl) rfl rfl rfl ⟨⟨_, rfl, (by first | rfl | exact slO_avoid _ _ | exact vaO_avoid _ | exact tab_avoid _ _ rfl rfl | exact wlk_avoid _ _ _ rfl rfl rfl)⟩, ⟨_, rfl, (by first | rfl | exact slO_avoid _ _ | exact vaO_avoid _ | exact tab_avoid _ _ rfl rfl | exact wlk_avoid _ _ _ rfl rfl rfl)⟩, ⟨_, rfl, (by first | rfl | exact slO_avoid _ _ | exact vaO_avoid _ | exact tab_avoid _ _ rfl rfl | exact wlk_avoid _ _ _ rfl rfl rfl)⟩, trivial⟩ rfl (hres_cons rfl (hres_cons rfl (hres_cons rfl (hres_nil _)))) ⟨⟨_, rfl, rfl, (by first | rfl | exact slO_avoid _ _ | exact vaO_avoid _ | exact tab_avoid _ _ rfl rfl | exact wlk_avoid _ _ _ rfl rfl rfl)⟩, ⟨_, rfl, rfl, (by first | rfl | exact slO_avoid _ _ | exact vaO_avoid _ | exact tab_avoid _ _ rfl rfl | exact wlk_avoid _ _ _ rfl rfl rfl)⟩, ⟨_, rfl, rfl, (by first | rfl | exact slO_avoid _ _ | exact vaO_avoid _ | exact tab_avoid _ _ rfl rfl | exact wlk_avoid _ _ _ rfl rfl rfl)⟩, trivial⟩ rfl ((by rw [List.length_map]; exact number_ok first w.K h.f h.k4 (by omega) 4 (w.effs.length : Int) 0 0))) ?_
 refine da 2 ?_
 refine DOps.nil (by kernel_rfl) ?_
 refine AGo.ret ?_
 refine ⟨[_], ⟨rfl, trivial⟩, rfl, ?_⟩
 exact HSub.put (HSub.put (HSub.put (HSub.put (HSub.put (HSub.put (HSub.none _) rfl) rfl) rfl) rfl) rfl) rfl

theorem bin_db (first : Int) (w : VW) (t : Tac) : w.bin first t = ⟨(vapply first w.K t.k (rget w.vals t.a) (rget w.vals t.b)).2, rset w.vals t.d (vapply first w.K t.k (rget w.vals t.a) (rget w.vals t.b)).1, (w.div first t).effs, w.time⟩ := by
  cases hr : vrisky first w t with
  | true => rw [bin_yes hr]; simp only [VW.div, hr, cond_true]
  | false => rw [bin_no hr]; simp only [VW.div, hr, cond_false]
set_option maxHeartbeats 2000000 in
set_option maxRecDepth 100000 in
theorem binaryb_ok (first : Int) (R m : Nat) (w : VW) (h : VOk first R m w) (hm : m ≤ 90000) (t : Tac) (hd : 0 ≤ t.d ∧ t.d < R) (ha : 0 ≤ t.a ∧ t.a < R) (hb : 0 ≤ t.b ∧ t.b < R) : ACall Try.prog 46 [.ptr 8 1 0 0, .agg t.cells] (hput (hput (hput (hput (hput (hput hNew 3 (.map (kvsA .i64 (vmap first ((w).K))))) 4 (.row false 3 [[.int .i64 first, .map 3, slA 9 (((w).K).map (arrAV .i64))]])) 9 (slO 4 (((w).K).map (arrAV .i64)))) 8 (.row false 4 [[.ptr 4 1 0 0, vaA 7 (valC ((w).vals)), slA 11 (((w).effs).map (arrAV .i64)), .int .i64 ((w).time)]])) 7 (vaO (valC ((w).vals)))) 11 (slO 6 (((w).effs).map (arrAV .i64)))) (fun r h' => r = .tup [] ∧ HSub (hput (hput (hput (hput (hput (hput hNone 3 (.map (kvsA .i64 (vmap first (((w.bin first t)).K))))) 4 (.row false 3 [[.int .i64 first, .map 3, slA 9 ((((w.bin first t)).K).map (arrAV .i64))]])) 9 (slO 4 ((((w.bin first t)).K).map (arrAV .i64)))) 8 (.row false 4 [[.ptr 4 1 0 0, vaA 7 (valC (((w.bin first t)).vals)), slA 11 ((((w.bin first t)).effs).map (arrAV .i64)), .int .i64 (((w.bin first t)).time)]])) 7 (vaO (valC (((w.bin first t)).vals)))) 11 (slO 6 ((((w.bin first t)).effs).map (arrAV .i64)))) h') := by
 have hel := h.el
 have hkl := h.kl
 have hxd := h.at hd
 have hxa := h.at ha
 have hxb := h.at hb
 refine ACall.of_body (n := 77) tok Try.func46 rfl rfl ?_
 refine AGo.seq ?_
 refine AGo.region ?_
 refine ax 3 (o_box (sz := 8) 12 rfl rfl rfl rfl (Nat.zero_lt_succ _) rfl) ?_
 refine AOps.nil ?_
 refine AGo.seq ?_
 refine AGo.draw mix ?_
 refine dm 8 ?_
 refine dq 9 (q_nilCheck rfl rfl rfl) ?_
 refine df 10 tok ?_
 refine dl 11 tok ?_
 refine df 12 tok ?_
 refine dl 13 tok ?_
 refine dq 14 (q_indexV tok rfl rfl rfl rfl rfl rfl rfl rfl hxa.1 hxa.2.2.1) ?_
 refine dq 15 (q_load tok rfl rfl rfl (ptsV rfl (valC_get ⟨hxa.1, hxa.2.1⟩)) rfl) ?_
 refine dm 16 ?_
 refine dq 17 (q_nilCheck rfl rfl rfl) ?_
 refine df 18 tok ?_
 refine dl 19 tok ?_
 refine df 20 tok ?_
 refine dl 21 tok ?_
 refine dq 22 (q_indexV tok rfl rfl rfl rfl rfl rfl rfl rfl hxb.1 hxb.2.2.1) ?_
 refine dq 23 (q_load tok rfl rfl rfl (ptsV rfl (valC_get ⟨hxb.1, hxb.2.1⟩)) rfl) ?_
 refine da 4 ?_
 refine da 5 ?_
 refine DOps.nil (by kernel_rfl) ?_
 refine AGo.seq ?_
 refine AGo.seq ?_
 refine AGo.join (γ := Unit) (fun _u => ⟨77, (eput (eput (eput (eput (eput eNew 0 (.ptr 8 1 0 0)) 3 (.ptr 12 1 0 0)) 4 (.int .i64 (rget w.vals t.a))) 5 (.int .i64 (rget w.vals t.b))) 31 (.bool (t.k == 7 || t.k == 8))), (hput (hput (hput (hput (hput (hput (hput (hFrom 13) 12 (.row false 8 [t.cells])) 3 (.map (kvsA .i64 (vmap first ((w).K))))) 4 (.row false 3 [[.int .i64 first, .map 3, slA 9 (((w).K).map (arrAV .i64))]])) 9 (slO 4 (((w).K).map (arrAV .i64)))) 8 (.row false 4 [[.ptr 4 1 0 0, vaA 7 (valC ((w).vals)), slA 11 (((w).effs).map (arrAV .i64)), .int .i64 ((w).time)]])) 7 (vaO (valC ((w).vals)))) 11 (slO 6 (((w).effs).map (arrAV .i64))))⟩) (fun _u => True) ?_ ?_
 ·
  refine AGo.region ?_
  refine af 24 tok ?_
  refine al 25 tok ?_
  refine aq 26 (q_bin rfl rfl rfl rfl) ?_
  refine am 27 ?_
  refine AOps.split 27 rfl (fun hb1 => ?_) (fun hb1 => ?_)
  ·
   refine ak 28 ?_
   refine ak 29 ?_
   refine ak 30 ?_
   refine aq 31 (q_pick_true true rfl rfl rfl rfl) ?_
   refine AOps.nil ?_
   exact ⟨(), Sub.mk' (by repeat (first | exact ESub.new _ | refine ESub.put ?_ (by first | rfl | exact congrArg (fun c => some (AV.bool c)) (by simp_all)))) (by repeat (first | exact HSub.refl _ | exact HSub.none _ | exact HSub.from_new _ | exact HSub.from_from (by first | decide | omega | (dsimp only; omega)) | refine HSub.put ?_ (by rfl) | refine HSub.from_put ?_ (by first | decide | omega | (dsimp only; omega)) | refine HSub.from_rm ?_ (by decide))), trivial⟩
  ·
   refine af 28 tok ?_
   refine al 29 tok ?_
   refine aq 30 (q_bin rfl rfl rfl rfl) ?_
   refine aq 31 (q_pick_false false rfl rfl rfl rfl) ?_
   refine AOps.nil ?_
   exact ⟨(), Sub.mk' (by repeat (first | exact ESub.new _ | refine ESub.put ?_ (by first | rfl | exact congrArg (fun c => some (AV.bool c)) (by simp_all)))) (by repeat (first | exact HSub.refl _ | exact HSub.none _ | exact HSub.from_new _ | exact HSub.from_from (by first | decide | omega | (dsimp only; omega)) | refine HSub.put ?_ (by rfl) | refine HSub.from_put ?_ (by first | decide | omega | (dsimp only; omega)) | refine HSub.from_rm ?_ (by decide))), trivial⟩
 intro _u _
 refine AGo.join (γ := Unit) (fun _u => ⟨77, (eput (eput (eput (eput eNew 0 (.ptr 8 1 0 0)) 3 (.ptr 12 1 0 0)) 4 (.int .i64 (rget w.vals t.a))) 5 (.int .i64 (rget w.vals t.b))), (hput (hput (hput (hput (hput (hput (hput (hFrom 13) 12 (.row false 8 [t.cells])) 3 (.map (kvsA .i64 (vmap first (w.K))))) 4 (.row false 3 [[.int .i64 first, .map 3, slA 9 ((w.K).map (arrAV .i64))]])) 9 (slO 4 ((w.K).map (arrAV .i64)))) 8 (.row false 4 [[.ptr 4 1 0 0, vaA 7 (valC ((w).vals)), slA 11 (((w.div first t).effs).map (arrAV .i64)), .int .i64 (w.time)]])) 7 (vaO (valC ((w).vals)))) 11 (slO 6 (((w.div first t).effs).map (arrAV .i64))))⟩) (fun _u => True) ?_ ?_
 ·
  refine AGo.split 31 rfl (fun hb2 => ?_) (fun hb2 => ?_)
  ·
   refine AGo.cond_true true rfl rfl ?_
   refine AGo.seq ?_
   refine AGo.region ?_
   refine am 33 ?_
   refine aq 34 (q_nilCheck rfl rfl rfl) ?_
   refine af 35 tok ?_
   refine al 36 tok ?_
   refine am 37 ?_
   refine ax 38 (o_call (hc := (hput (hput (hput hNew 3 (.map (kvsA .i64 (vmap first (w.K))))) 4 (.row false 3 [[.int .i64 first, .map 3, slA 9 ((w.K).map (arrAV .i64))]])) 9 (slO 4 ((w.K).map (arrAV .i64))))) (hw := (hput (hput (hput hNone 3 (.map (kvsA .i64 (vmap first (w.K))))) 4 (.row false 3 [[.int .i64 first, .map 3, slA 9 ((w.K).map (arrAV .i64))]])) 9 (slO 4 ((w.K).map (arrAV .i64))))) [9, 4, 3] [(3, (.map (kvsA .i64 (vmap first (w.K))))), (4, (.row false 3 [[.int .i64 first, .map 3, slA 9 ((w.K).map (arrAV .i64))]])), (9, (slO 4 ((w.K).map (arrAV .i64))))] rfl Try.func56 (by kernel_rfl) rfl rfl rfl ⟨⟨_, rfl, (by first | rfl | exact slO_avoid _ _ | exact vaO_avoid _ | exact tab_avoid _ _ rfl rfl | exact wlk_avoid _ _ _ rfl rfl rfl)⟩, ⟨_, rfl, (by first | rfl | exact slO_avoid _ _ | exact vaO_avoid _ | exact tab_avoid _ _ rfl rfl | exact wlk_avoid _ _ _ rfl rfl rfl)⟩, ⟨_, rfl, (by first | rfl | exact slO_avoid _ _ | exact vaO_avoid _ | exact tab_avoid _ _ rfl rfl | exact wlk_avoid _ _ _ rfl rfl rfl)⟩, trivial⟩ rfl (hres_cons rfl (hres_cons rfl (hres_cons rfl (hres_nil _)))) ⟨⟨_, rfl, rfl, (by first | rfl | exact slO_avoid _ _ | exact vaO_avoid _ | exact tab_avoid _ _ rfl rfl | exact wlk_avoid _ _ _ rfl rfl rfl)⟩, ⟨_, rfl, rfl, (by first | rfl | exact slO_avoid _ _ | exact vaO_avoid _ | exact tab_avoid _ _ rfl rfl | exact wlk_avoid _ _ _ rfl rfl rfl)⟩, ⟨_, rfl, rfl, (by first | rfl | exact slO_avoid _ _ | exact vaO_avoid _ | exact tab_avoid _ _ rfl rfl | exact wlk_avoid _ _ _ rfl rfl rfl)⟩, trivial⟩ rfl (constant_ok first w.K h.f h.k4 (by omega) (rget w.vals t.b) hxb.2.2.2)) ?_
   refine am 32 ?_
   refine aq 39 (q_extract rfl rfl rfl) ?_
   refine aq 40 (q_extract rfl rfl rfl) ?_
   refine aa 6 ?_
   refine aa 7 ?_
   refine AOps.nil ?_
   refine AGo.seq ?_
   refine AGo.region ?_
   refine am 41 ?_
   refine aq 42 (q_not rfl rfl) ?_
   refine am 43 ?_
   refine AOps.split 43 rfl (fun hb3 => ?_) (fun hb3 => ?_)
   ·
    refine ak 44 ?_
    refine ak 45 ?_
    refine aq 46 (q_pick_true true rfl rfl rfl rfl) ?_
    refine AOps.nil ?_
    refine AGo.cond_true true rfl rfl ?_
    refine AGo.draw mix ?_
    refine dm 47 ?_
    refine dm 48 ?_
    refine dq 49 (q_nilCheck rfl rfl rfl) ?_
    refine df 50 tok ?_
    refine dl 51 tok ?_
    refine df 52 tok ?_
    refine dl 53 tok ?_
    refine dm 54 ?_
    refine dm 55 ?_
    refine dq 56 (q_build_arr tok rfl rfl rfl rfl rfl rfl (by decide) rfl rfl) ?_
    refine dx 57 (o_lit' tok rfl rfl rfl rfl rfl rfl (by decide) rfl rfl rfl rfl rfl rfl) ?_
    refine dx 58 (o_append1J tok (b := 11) (es := ((w.effs).map (arrAV .i64))) rfl rfl rfl rfl rfl rfl rfl rfl rfl rfl rfl (Nat.zero_lt_succ _) (arr_len h.e6) (arr_pure _) rfl rfl (by rw [List.length_map]; show _ * 48 ≤ _; omega) (by rw [List.length_map]; simp only [maxLen]; omega)) ?_
    refine dq 59 (q_nilCheck rfl rfl rfl) ?_
    refine df 60 tok ?_
    refine DOps.w rfl rfl (o_store1 tok rfl rfl rfl rfl rfl rfl rfl rfl rfl (slA_cells _ _) (by decide) (slA_cell1 _ _) (by intro h; cases h)) ?_
    refine DOps.nil (by kernel_rfl) ?_
    exact ⟨(), Sub.mk' (by repeat (first | exact ESub.new _ | refine ESub.put ?_ (by rfl))) (by repeat (first | exact HSub.refl _ | exact HSub.none _ | exact HSub.from_new _ | exact HSub.from_from (by first | decide | omega | (dsimp only; omega)) | refine HSub.put ?_ (by first | rfl | ((have hr : vrisky first w t = true := by (first | (simp [vrisky, *]; done) | (simp_all [vrisky]; done))); simp only [VW.div, hr, cond_true, cond_false, List.map_append]; rfl) | ((have hr : vrisky first w t = false := by (first | (simp [vrisky, *]; done) | (simp_all [vrisky]; done))); simp only [VW.div, hr, cond_true, cond_false, List.map_append]; rfl)) | refine HSub.from_put ?_ (by first | decide | omega | (dsimp only; omega)) | refine HSub.from_rm ?_ (by decide))), trivial⟩
   ·
    refine am 44 ?_
    refine aq 45 (q_bin rfl rfl rfl rfl) ?_
    refine aq 46 (q_pick_false false rfl rfl rfl rfl) ?_
    refine AOps.nil ?_
    refine AGo.split 46 rfl (fun hb4 => ?_) (fun hb4 => ?_)
    ·
     refine AGo.cond_true true rfl rfl ?_
     refine AGo.draw mix ?_
     refine dm 47 ?_
     refine dm 48 ?_
     refine dq 49 (q_nilCheck rfl rfl rfl) ?_
     refine df 50 tok ?_
     refine dl 51 tok ?_
     refine df 52 tok ?_
     refine dl 53 tok ?_
     refine dm 54 ?_
     refine dm 55 ?_
     refine dq 56 (q_build_arr tok rfl rfl rfl rfl rfl rfl (by decide) rfl rfl) ?_
     refine dx 57 (o_lit' tok rfl rfl rfl rfl rfl rfl (by decide) rfl rfl rfl rfl rfl rfl) ?_
     refine dx 58 (o_append1J tok (b := 11) (es := ((w.effs).map (arrAV .i64))) rfl rfl rfl rfl rfl rfl rfl rfl rfl rfl rfl (Nat.zero_lt_succ _) (arr_len h.e6) (arr_pure _) rfl rfl (by rw [List.length_map]; show _ * 48 ≤ _; omega) (by rw [List.length_map]; simp only [maxLen]; omega)) ?_
     refine dq 59 (q_nilCheck rfl rfl rfl) ?_
     refine df 60 tok ?_
     refine DOps.w rfl rfl (o_store1 tok rfl rfl rfl rfl rfl rfl rfl rfl rfl (slA_cells _ _) (by decide) (slA_cell1 _ _) (by intro h; cases h)) ?_
     refine DOps.nil (by kernel_rfl) ?_
     exact ⟨(), Sub.mk' (by repeat (first | exact ESub.new _ | refine ESub.put ?_ (by rfl))) (by repeat (first | exact HSub.refl _ | exact HSub.none _ | exact HSub.from_new _ | exact HSub.from_from (by first | decide | omega | (dsimp only; omega)) | refine HSub.put ?_ (by first | rfl | ((have hr : vrisky first w t = true := by (first | (simp [vrisky, *]; done) | (simp_all [vrisky]; done))); simp only [VW.div, hr, cond_true, cond_false, List.map_append]; rfl) | ((have hr : vrisky first w t = false := by (first | (simp [vrisky, *]; done) | (simp_all [vrisky]; done))); simp only [VW.div, hr, cond_true, cond_false, List.map_append]; rfl)) | refine HSub.from_put ?_ (by first | decide | omega | (dsimp only; omega)) | refine HSub.from_rm ?_ (by decide))), trivial⟩
    ·
     refine AGo.cond_false false rfl rfl ?_
     refine AGo.skip ?_
     exact ⟨(), Sub.mk' (by repeat (first | exact ESub.new _ | refine ESub.put ?_ (by rfl))) (by repeat (first | exact HSub.refl _ | exact HSub.none _ | exact HSub.from_new _ | exact HSub.from_from (by first | decide | omega | (dsimp only; omega)) | refine HSub.put ?_ (by first | rfl | ((have hr : vrisky first w t = true := by (first | (simp [vrisky, *]; done) | (simp_all [vrisky]; done))); simp only [VW.div, hr, cond_true, cond_false, List.map_append]; rfl) | ((have hr : vrisky first w t = false := by (first | (simp [vrisky, *]; done) | (simp_all [vrisky]; done))); simp only [VW.div, hr, cond_true, cond_false, List.map_append]; rfl)) | refine HSub.from_put ?_ (by first | decide | omega | (dsimp only; omega)) | refine HSub.from_rm ?_ (by decide))), trivial⟩
  ·
   refine AGo.cond_false false rfl rfl ?_
   refine AGo.skip ?_
   exact ⟨(), Sub.mk' (by repeat (first | exact ESub.new _ | refine ESub.put ?_ (by rfl))) (by repeat (first | exact HSub.refl _ | exact HSub.none _ | exact HSub.from_new _ | exact HSub.from_from (by first | decide | omega | (dsimp only; omega)) | refine HSub.put ?_ (by first | rfl | ((have hr : vrisky first w t = true := by (first | (simp [vrisky, *]; done) | (simp_all [vrisky]; done))); simp only [VW.div, hr, cond_true, cond_false, List.map_append]; rfl) | ((have hr : vrisky first w t = false := by (first | (simp [vrisky, *]; done) | (simp_all [vrisky]; done))); simp only [VW.div, hr, cond_true, cond_false, List.map_append]; rfl)) | refine HSub.from_put ?_ (by first | decide | omega | (dsimp only; omega)) | refine HSub.from_rm ?_ (by decide))), trivial⟩
 intro _u _
 refine AGo.draw mix ?_
 refine dm 61 ?_
 refine dq 62 (q_nilCheck rfl rfl rfl) ?_
 refine df 63 tok ?_
 refine dl 64 tok ?_
 refine df 65 tok ?_
 refine dl 66 tok ?_
 refine dm 67 ?_
 refine dq 68 (q_nilCheck rfl rfl rfl) ?_
 refine df 69 tok ?_
 refine dl 70 tok ?_
 refine df 71 tok ?_
 refine dl 72 tok ?_
 refine dm 73 ?_
 refine dm 74 ?_
 refine dx 75 (o_call (hc := (hput (hput (hput hNew 3 (.map (kvsA .i64 (vmap first (w.K))))) 4 (.row false 3 [[.int .i64 first, .map 3, slA 9 ((w.K).map (arrAV .i64))]])) 9 (slO 4 ((w.K).map (arrAV .i64))))) (hw := (hput (hput (hput hNone 3 (.map (kvsA .i64 (vmap first ((vapply first w.K t.k (rget w.vals t.a) (rget w.vals t.b)).2))))) 4 (.row false 3 [[.int .i64 first, .map 3, slA 9 (((vapply first w.K t.k (rget w.vals t.a) (rget w.vals t.b)).2).map (arrAV .i64))]])) 9 (slO 4 (((vapply first w.K t.k (rget w.vals t.a) (rget w.vals t.b)).2).map (arrAV .i64))))) [9, 4, 3] [(3, (.map (kvsA .i64 (vmap first ((vapply first w.K t.k (rget w.vals t.a) (rget w.vals t.b)).2))))), (4, (.row false 3 [[.int .i64 first, .map 3, slA 9 (((vapply first w.K t.k (rget w.vals t.a) (rget w.vals t.b)).2).map (arrAV .i64))]])), (9, (slO 4 (((vapply first w.K t.k (rget w.vals t.a) (rget w.vals t.b)).2).map (arrAV .i64))))] rfl Try.func57 (by kernel_rfl) rfl rfl rfl ⟨⟨_, rfl, (by first | rfl | exact slO_avoid _ _ | exact vaO_avoid _ | exact tab_avoid _ _ rfl rfl | exact wlk_avoid _ _ _ rfl rfl rfl)⟩, ⟨_, rfl, (by first | rfl | exact slO_avoid _ _ | exact vaO_avoid _ | exact tab_avoid _ _ rfl rfl | exact wlk_avoid _ _ _ rfl rfl rfl)⟩, ⟨_, rfl, (by first | rfl | exact slO_avoid _ _ | exact vaO_avoid _ | exact tab_avoid _ _ rfl rfl | exact wlk_avoid _ _ _ rfl rfl rfl)⟩, trivial⟩ rfl (hres_cons rfl (hres_cons rfl (hres_cons rfl (hres_nil _)))) ⟨⟨_, rfl, rfl, (by first | rfl | exact slO_avoid _ _ | exact vaO_avoid _ | exact tab_avoid _ _ rfl rfl | exact wlk_avoid _ _ _ rfl rfl rfl)⟩, ⟨_, rfl, rfl, (by first | rfl | exact slO_avoid _ _ | exact vaO_avoid _ | exact tab_avoid _ _ rfl rfl | exact wlk_avoid _ _ _ rfl rfl rfl)⟩, ⟨_, rfl, rfl, (by first | rfl | exact slO_avoid _ _ | exact vaO_avoid _ | exact tab_avoid _ _ rfl rfl | exact wlk_avoid _ _ _ rfl rfl rfl)⟩, trivial⟩ rfl (vapply_ok' first w.K h.f h.k4 (by omega) t.k (rget w.vals t.a) (rget w.vals t.b) hxa.2.2.2 hxb.2.2.2)) ?_
 refine dq 76 (q_indexV tok rfl rfl rfl rfl rfl rfl rfl rfl hxd.1 hxd.2.2.1) ?_
 refine DOps.w rfl rfl (o_storeV tok rfl rfl rfl rfl rfl rfl rfl (by have h1 := hxd.2.2.1; have h0 := hxd.1; omega) (valC_one _) rfl rfl rfl) ?_
 refine DOps.nil (by kernel_rfl) ?_
 refine ⟨[], trivial, rfl, ?_⟩
 rw [bin_db]
 exact HSub.put (HSub.put (HSub.put (HSub.put (HSub.put (HSub.put (HSub.none _) rfl) rfl) rfl) (by show _ = some (AObj.row false 4 [[.ptr 4 1 0 0, vaA 7 (valC (rset w.vals t.d _)), slA 11 ((w.div first t).effs.map (arrAV .i64)), .int .i64 w.time]]); rw [valC_vaA]; rfl)) (by show _ = some (vaO (valC (rset w.vals t.d _))); rw [valC_set]; rfl)) rfl

set_option maxHeartbeats 2000000 in
set_option maxRecDepth 100000 in
theorem vstepb_ok (first : Int) (R m : Nat) (w : VW) (h : VOk first R m w) (hm : m ≤ 80000) (t : Tac) (ht : TacV t R) : ACall Try.prog 35 [.ptr 8 1 0 0, .agg t.cells] (hput (hput (hput (hput (hput (hput hNew 3 (.map (kvsA .i64 (vmap first ((w).K))))) 4 (.row false 3 [[.int .i64 first, .map 3, slA 9 (((w).K).map (arrAV .i64))]])) 9 (slO 4 (((w).K).map (arrAV .i64)))) 8 (.row false 4 [[.ptr 4 1 0 0, vaA 7 (valC ((w).vals)), slA 11 (((w).effs).map (arrAV .i64)), .int .i64 ((w).time)]])) 7 (vaO (valC ((w).vals)))) 11 (slO 6 (((w).effs).map (arrAV .i64)))) (fun r h' => r = .tup [] ∧ HSub (hput (hput (hput (hput (hput (hput hNone 3 (.map (kvsA .i64 (vmap first (((w.step first t)).K))))) 4 (.row false 3 [[.int .i64 first, .map 3, slA 9 ((((w.step first t)).K).map (arrAV .i64))]])) 9 (slO 4 ((((w.step first t)).K).map (arrAV .i64)))) 8 (.row false 4 [[.ptr 4 1 0 0, vaA 7 (valC (((w.step first t)).vals)), slA 11 ((((w.step first t)).effs).map (arrAV .i64)), .int .i64 (((w.step first t)).time)]])) 7 (vaO (valC (((w.step first t)).vals)))) 11 (slO 6 ((((w.step first t)).effs).map (arrAV .i64)))) h') := by
 have hel := h.el
 have hkl := h.kl
 have htl := h.tl
 refine ACall.of_body (n := 148) tok Try.func35 rfl rfl ?_
 refine AGo.seq ?_
 refine AGo.region ?_
 refine ax 3 (o_box (sz := 8) 12 rfl rfl rfl rfl (Nat.zero_lt_succ _) rfl) ?_
 refine AOps.nil ?_
 refine AGo.seq ?_
 refine AGo.region ?_
 refine am 5 ?_
 refine aq 6 (q_nilCheck rfl rfl rfl) ?_
 refine af 7 tok ?_
 refine al 8 tok ?_
 refine aa 4 ?_
 refine AOps.nil ?_
 refine AGo.seq ?_
 refine AGo.region ?_
 refine af 9 tok ?_
 refine al 10 tok ?_
 refine AOps.nil ?_
 refine AGo.block ?_
 refine AGo.seq ?_
 refine AGo.region ?_
 refine aq 12 (q_bin rfl rfl rfl rfl) ?_
 refine aa 11 ?_
 refine AOps.nil ?_
 refine AGo.split 11 rfl (fun hb1 => ?_) (fun hb1 => ?_)
 ·
  refine AGo.cond_true true rfl rfl ?_
  have ho : t.op = 1 := by simpa using hb1
  have hxd := h.at (ht.d (by rw [ho]; rfl))
  
  refine AGo.draw mix ?_
  refine dm 13 ?_
  refine df 14 tok ?_
  refine dl 15 tok ?_
  refine dm 16 ?_
  refine dq 17 (q_nilCheck rfl rfl rfl) ?_
  refine df 18 tok ?_
  refine dl 19 tok ?_
  refine df 20 tok ?_
  refine dl 21 tok ?_
  refine dq 22 (q_convTo tok rfl rfl rfl rfl rfl (r := t.n) (by obtain ⟨h1, h2⟩ := ht.n; exact wrap_i64 (by omega) (by omega))) ?_
  refine dq 23 (q_build_arr tok rfl rfl rfl rfl rfl rfl (by decide) rfl rfl) ?_
  refine dx 24 (o_call (hc := (hput (hput (hput hNew 3 (.map (kvsA .i64 (vmap first (w.K))))) 4 (.row false 3 [[.int .i64 first, .map 3, slA 9 ((w.K).map (arrAV .i64))]])) 9 (slO 4 ((w.K).map (arrAV .i64))))) (hw := (hput (hput (hput hNone 3 (.map (kvsA .i64 (vmap first ((vnum first w.K [1, t.n, 0, 0]).2))))) 4 (.row false 3 [[.int .i64 first, .map 3, slA 9 (((vnum first w.K [1, t.n, 0, 0]).2).map (arrAV .i64))]])) 9 (slO 4 (((vnum first w.K [1, t.n, 0, 0]).2).map (arrAV .i64))))) [9, 4, 3] [(3, (.map (kvsA .i64 (vmap first ((vnum first w.K [1, t.n, 0, 0]).2))))), (4, (.row false 3 [[.int .i64 first, .map 3, slA 9 (((vnum first w.K [1, t.n, 0, 0]).2).map (arrAV .i64))]])), (9, (slO 4 (((vnum first w.K [1, t.n, 0, 0]).2).map (arrAV .i64))))] rfl Try.func45 (by kernel_rfl) rfl rfl rfl ⟨⟨_, rfl, (by first | rfl | exact slO_avoid _ _ | exact vaO_avoid _ | exact tab_avoid _ _ rfl rfl | exact wlk_avoid _ _ _ rfl rfl rfl)⟩, ⟨_, rfl, (by first | rfl | exact slO_avoid _ _ | exact vaO_avoid _ | exact tab_avoid _ _ rfl rfl | exact wlk_avoid _ _ _ rfl rfl rfl)⟩, ⟨_, rfl, (by first | rfl | exact slO_avoid _ _ | exact vaO_avoid _ | exact tab_avoid _ _ rfl rfl | exact wlk_avoid _ _ _ rfl rfl rfl)⟩, trivial⟩ rfl (hres_cons rfl (hres_cons rfl (hres_cons rfl (hres_nil _)))) ⟨⟨_, rfl, rfl, (by first | rfl | exact slO_avoid _ _ | exact vaO_avoid _ | exact tab_avoid _ _ rfl rfl | exact wlk_avoid _ _ _ rfl rfl rfl)⟩, ⟨_, rfl, rfl, (by first | rfl | exact slO_avoid _ _ | exact vaO_avoid _ | exact tab_avoid _ _ rfl rfl | exact wlk_avoid _ _ _ rfl rfl rfl)⟩, ⟨_, rfl, rfl, (by first | rfl | exact slO_avoid _ _ | exact vaO_avoid _ | exact tab_avoid _ _ rfl rfl | exact wlk_avoid _ _ _ rfl rfl rfl)⟩, trivial⟩ rfl (number_ok first w.K h.f h.k4 (by omega) (1) (t.n) (0) (0))) ?_
  refine dq 25 (q_indexV tok rfl rfl rfl rfl rfl rfl rfl rfl hxd.1 hxd.2.2.1) ?_
  refine DOps.w rfl rfl (o_storeV tok rfl rfl rfl rfl rfl rfl rfl (by have h1 := hxd.2.2.1; have h0 := hxd.1; omega) (valC_one _) rfl rfl rfl) ?_
  refine DOps.nil (by kernel_rfl) ?_
  refine ⟨[], trivial, rfl, ?_⟩
  rw [vstep1 ho]
  exact HSub.put (HSub.put (HSub.put (HSub.put (HSub.put (HSub.put (HSub.none _) rfl) rfl) rfl) (by show _ = some (AObj.row false 4 [[.ptr 4 1 0 0, vaA 7 (valC (rset w.vals t.d _)), slA 11 (w.effs.map (arrAV .i64)), .int .i64 w.time]]); rw [valC_vaA]; rfl)) (by show _ = some (vaO (valC (rset w.vals t.d _))); rw [valC_set]; rfl)) rfl
 ·
  refine AGo.cond_false false rfl rfl ?_
  refine AGo.seq ?_
  refine AGo.region ?_
  refine aq 27 (q_bin rfl rfl rfl rfl) ?_
  refine aa 26 ?_
  refine AOps.nil ?_
  refine AGo.split 26 rfl (fun hb2 => ?_) (fun hb2 => ?_)
  ·
   refine AGo.cond_true true rfl rfl ?_
   have ho : t.op = 2 := by simpa using hb2
   have hxd := h.at (ht.d (by rw [ho]; rfl))
   have hxa := h.at (ht.a (.inl (by rw [ho]; rfl)))
   
   refine AGo.draw mix ?_
   refine dm 28 ?_
   refine df 29 tok ?_
   refine dl 30 tok ?_
   refine dm 31 ?_
   refine df 32 tok ?_
   refine dl 33 tok ?_
   refine dq 34 (q_indexV tok rfl rfl rfl rfl rfl rfl rfl rfl hxa.1 hxa.2.2.1) ?_
   refine dq 35 (q_load tok rfl rfl rfl (ptsV rfl (valC_get ⟨hxa.1, hxa.2.1⟩)) rfl) ?_
   refine dq 36 (q_indexV tok rfl rfl rfl rfl rfl rfl rfl rfl hxd.1 hxd.2.2.1) ?_
   refine DOps.w rfl rfl (o_storeV tok rfl rfl rfl rfl rfl rfl rfl (by have h1 := hxd.2.2.1; have h0 := hxd.1; omega) (valC_one _) rfl rfl rfl) ?_
   refine DOps.nil (by kernel_rfl) ?_
   refine ⟨[], trivial, rfl, ?_⟩
   rw [vstep2 ho]
   exact HSub.put (HSub.put (HSub.put (HSub.put (HSub.put (HSub.put (HSub.none _) rfl) rfl) rfl) (by show _ = some (AObj.row false 4 [[.ptr 4 1 0 0, vaA 7 (valC (rset w.vals t.d _)), slA 11 (w.effs.map (arrAV .i64)), .int .i64 w.time]]); rw [valC_vaA]; rfl)) (by show _ = some (vaO (valC (rset w.vals t.d _))); rw [valC_set]; rfl)) rfl
  ·
   refine AGo.cond_false false rfl rfl ?_
   refine AGo.seq ?_
   refine AGo.region ?_
   refine aq 38 (q_bin rfl rfl rfl rfl) ?_
   refine aa 37 ?_
   refine AOps.nil ?_
   refine AGo.split 37 rfl (fun hb3 => ?_) (fun hb3 => ?_)
   ·
    refine AGo.cond_true true rfl rfl ?_
    have ho : t.op = 3 := by simpa using hb3
    
    refine AGo.region ?_
    refine am 39 ?_
    refine al 40 tok ?_
    refine ax 41 (o_call (hc := (hput (hput (hput (hput (hput (hput hNew 3 (.map (kvsA .i64 (vmap first ((w).K))))) 4 (.row false 3 [[.int .i64 first, .map 3, slA 9 (((w).K).map (arrAV .i64))]])) 9 (slO 4 (((w).K).map (arrAV .i64)))) 8 (.row false 4 [[.ptr 4 1 0 0, vaA 7 (valC ((w).vals)), slA 11 (((w).effs).map (arrAV .i64)), .int .i64 ((w).time)]])) 7 (vaO (valC ((w).vals)))) 11 (slO 6 (((w).effs).map (arrAV .i64))))) (hw := (hput (hput (hput (hput (hput (hput hNone 3 (.map (kvsA .i64 (vmap first (((w.bin first t)).K))))) 4 (.row false 3 [[.int .i64 first, .map 3, slA 9 ((((w.bin first t)).K).map (arrAV .i64))]])) 9 (slO 4 ((((w.bin first t)).K).map (arrAV .i64)))) 8 (.row false 4 [[.ptr 4 1 0 0, vaA 7 (valC (((w.bin first t)).vals)), slA 11 ((((w.bin first t)).effs).map (arrAV .i64)), .int .i64 (((w.bin first t)).time)]])) 7 (vaO (valC (((w.bin first t)).vals)))) 11 (slO 6 ((((w.bin first t)).effs).map (arrAV .i64))))) [11, 7, 8, 9, 4, 3] [(3, (.map (kvsA .i64 (vmap first (((w.bin first t)).K))))), (4, (.row false 3 [[.int .i64 first, .map 3, slA 9 ((((w.bin first t)).K).map (arrAV .i64))]])), (9, (slO 4 ((((w.bin first t)).K).map (arrAV .i64)))), (8, (.row false 4 [[.ptr 4 1 0 0, vaA 7 (valC (((w.bin first t)).vals)), slA 11 ((((w.bin first t)).effs).map (arrAV .i64)), .int .i64 (((w.bin first t)).time)]])), (7, (vaO (valC (((w.bin first t)).vals)))), (11, (slO 6 ((((w.bin first t)).effs).map (arrAV .i64))))] rfl Try.func46 (by kernel_rfl) rfl rfl rfl ⟨⟨_, rfl, (by first | rfl | exact slO_avoid _ _ | exact vaO_avoid _ | exact tab_avoid _ _ rfl rfl | exact wlk_avoid _ _ _ rfl rfl rfl)⟩, ⟨_, rfl, (by first | rfl | exact slO_avoid _ _ | exact vaO_avoid _ | exact tab_avoid _ _ rfl rfl | exact wlk_avoid _ _ _ rfl rfl rfl)⟩, ⟨_, rfl, (by first | rfl | exact slO_avoid _ _ | exact vaO_avoid _ | exact tab_avoid _ _ rfl rfl | exact wlk_avoid _ _ _ rfl rfl rfl)⟩, ⟨_, rfl, (by first | rfl | exact slO_avoid _ _ | exact vaO_avoid _ | exact tab_avoid _ _ rfl rfl | exact wlk_avoid _ _ _ rfl rfl rfl)⟩, ⟨_, rfl, (by first | rfl | exact slO_avoid _ _ | exact vaO_avoid _ | exact tab_avoid _ _ rfl rfl | exact wlk_avoid _ _ _ rfl rfl rfl)⟩, ⟨_, rfl, (by first | rfl | exact slO_avoid _ _ | exact vaO_avoid _ | exact tab_avoid _ _ rfl rfl | exact wlk_avoid _ _ _ rfl rfl rfl)⟩, trivial⟩ rfl (hres_cons rfl (hres_cons rfl (hres_cons rfl (hres_cons rfl (hres_cons rfl (hres_cons rfl (hres_nil _))))))) ⟨⟨_, rfl, rfl, (by first | rfl | exact slO_avoid _ _ | exact vaO_avoid _ | exact tab_avoid _ _ rfl rfl | exact wlk_avoid _ _ _ rfl rfl rfl)⟩, ⟨_, rfl, rfl, (by first | rfl | exact slO_avoid _ _ | exact vaO_avoid _ | exact tab_avoid _ _ rfl rfl | exact wlk_avoid _ _ _ rfl rfl rfl)⟩, ⟨_, rfl, rfl, (by first | rfl | exact slO_avoid _ _ | exact vaO_avoid _ | exact tab_avoid _ _ rfl rfl | exact wlk_avoid _ _ _ rfl rfl rfl)⟩, ⟨_, rfl, rfl, (by first | rfl | exact slO_avoid _ _ | exact vaO_avoid _ | exact tab_avoid _ _ rfl rfl | exact wlk_avoid _ _ _ rfl rfl rfl)⟩, ⟨_, rfl, rfl, (by first | rfl | exact slO_avoid _ _ | exact vaO_avoid _ | exact tab_avoid _ _ rfl rfl | exact wlk_avoid _ _ _ rfl rfl rfl)⟩, ⟨_, rfl, rfl, (by first | rfl | exact slO_avoid _ _ | exact vaO_avoid _ | exact tab_avoid _ _ rfl rfl | exact wlk_avoid _ _ _ rfl rfl rfl)⟩, trivial⟩ rfl (binaryb_ok first R m w h (by omega) t (ht.d (by rw [ho]; rfl)) (ht.a (.inr (by rw [ho]; rfl))) (ht.b (by rw [ho]; rfl)))) ?_
    refine AOps.nil ?_
    refine ⟨[], trivial, rfl, ?_⟩
    rw [vstep3 ho]
    exact HSub.put (HSub.put (HSub.put (HSub.put (HSub.put (HSub.put (HSub.none _) rfl) rfl) rfl) rfl) rfl) rfl
   ·
    refine AGo.cond_false false rfl rfl ?_
    refine AGo.seq ?_
    refine AGo.region ?_
    refine aq 43 (q_bin rfl rfl rfl rfl) ?_
    refine aa 42 ?_
    refine AOps.nil ?_
    refine AGo.split 42 rfl (fun hb4 => ?_) (fun hb4 => ?_)
    ·
     refine AGo.cond_true true rfl rfl ?_
     have ho : t.op = 4 := by simpa using hb4
     have hxd := h.at (ht.d (by rw [ho]; rfl))
     
     refine AGo.draw mix ?_
     refine dm 44 ?_
     refine df 45 tok ?_
     refine dl 46 tok ?_
     refine dm 47 ?_
     refine dq 48 (q_nilCheck rfl rfl rfl) ?_
     refine df 49 tok ?_
     refine dl 50 tok ?_
     refine df 51 tok ?_
     refine dl 52 tok ?_
     refine dm 53 ?_
     refine dq 54 (q_nilCheck rfl rfl rfl) ?_
     refine df 55 tok ?_
     refine dl 56 tok ?_
     refine dq 57 (q_build_arr tok rfl rfl rfl rfl rfl rfl (by decide) rfl rfl) ?_
     refine dx 58 (o_call (hc := (hput (hput (hput hNew 3 (.map (kvsA .i64 (vmap first (w.K))))) 4 (.row false 3 [[.int .i64 first, .map 3, slA 9 ((w.K).map (arrAV .i64))]])) 9 (slO 4 ((w.K).map (arrAV .i64))))) (hw := (hput (hput (hput hNone 3 (.map (kvsA .i64 (vmap first ((vnum first w.K [3, t.base, w.time, 0]).2))))) 4 (.row false 3 [[.int .i64 first, .map 3, slA 9 (((vnum first w.K [3, t.base, w.time, 0]).2).map (arrAV .i64))]])) 9 (slO 4 (((vnum first w.K [3, t.base, w.time, 0]).2).map (arrAV .i64))))) [9, 4, 3] [(3, (.map (kvsA .i64 (vmap first ((vnum first w.K [3, t.base, w.time, 0]).2))))), (4, (.row false 3 [[.int .i64 first, .map 3, slA 9 (((vnum first w.K [3, t.base, w.time, 0]).2).map (arrAV .i64))]])), (9, (slO 4 (((vnum first w.K [3, t.base, w.time, 0]).2).map (arrAV .i64))))] rfl Try.func45 (by kernel_rfl) rfl rfl rfl ⟨⟨_, rfl, (by first | rfl | exact slO_avoid _ _ | exact vaO_avoid _ | exact tab_avoid _ _ rfl rfl | exact wlk_avoid _ _ _ rfl rfl rfl)⟩, ⟨_, rfl, (by first | rfl | exact slO_avoid _ _ | exact vaO_avoid _ | exact tab_avoid _ _ rfl rfl | exact wlk_avoid _ _ _ rfl rfl rfl)⟩, ⟨_, rfl, (by first | rfl | exact slO_avoid _ _ | exact vaO_avoid _ | exact tab_avoid _ _ rfl rfl | exact wlk_avoid _ _ _ rfl rfl rfl)⟩, trivial⟩ rfl (hres_cons rfl (hres_cons rfl (hres_cons rfl (hres_nil _)))) ⟨⟨_, rfl, rfl, (by first | rfl | exact slO_avoid _ _ | exact vaO_avoid _ | exact tab_avoid _ _ rfl rfl | exact wlk_avoid _ _ _ rfl rfl rfl)⟩, ⟨_, rfl, rfl, (by first | rfl | exact slO_avoid _ _ | exact vaO_avoid _ | exact tab_avoid _ _ rfl rfl | exact wlk_avoid _ _ _ rfl rfl rfl)⟩, ⟨_, rfl, rfl, (by first | rfl | exact slO_avoid _ _ | exact vaO_avoid _ | exact tab_avoid _ _ rfl rfl | exact wlk_avoid _ _ _ rfl rfl rfl)⟩, trivial⟩ rfl (number_ok first w.K h.f h.k4 (by omega) (3) (t.base) (w.time) (0))) ?_
     refine dq 59 (q_indexV tok rfl rfl rfl rfl rfl rfl rfl rfl hxd.1 hxd.2.2.1) ?_
     refine DOps.w rfl rfl (o_storeV tok rfl rfl rfl rfl rfl rfl rfl (by have h1 := hxd.2.2.1; have h0 := hxd.1; omega) (valC_one _) rfl rfl rfl) ?_
     refine DOps.nil (by kernel_rfl) ?_
     refine ⟨[], trivial, rfl, ?_⟩
     rw [vstep4 ho]
     exact HSub.put (HSub.put (HSub.put (HSub.put (HSub.put (HSub.put (HSub.none _) rfl) rfl) rfl) (by show _ = some (AObj.row false 4 [[.ptr 4 1 0 0, vaA 7 (valC (rset w.vals t.d _)), slA 11 (w.effs.map (arrAV .i64)), .int .i64 w.time]]); rw [valC_vaA]; rfl)) (by show _ = some (vaO (valC (rset w.vals t.d _))); rw [valC_set]; rfl)) rfl
    ·
     refine AGo.cond_false false rfl rfl ?_
     refine AGo.seq ?_
     refine AGo.region ?_
     refine aq 61 (q_bin rfl rfl rfl rfl) ?_
     refine aa 60 ?_
     refine AOps.nil ?_
     refine AGo.split 60 rfl (fun hb5 => ?_) (fun hb5 => ?_)
     ·
      refine AGo.cond_true true rfl rfl ?_
      have ho : t.op = 5 := by simpa using hb5
      have hxa := h.at (ht.a (.inl (by rw [ho]; rfl)))
      
      refine AGo.seq ?_
      refine AGo.draw mix ?_
      refine dm 62 ?_
      refine dl 63 tok ?_
      refine dm 64 ?_
      refine df 65 tok ?_
      refine dl 66 tok ?_
      refine dq 67 (q_indexV tok rfl rfl rfl rfl rfl rfl rfl rfl hxa.1 hxa.2.2.1) ?_
      refine dq 68 (q_load tok rfl rfl rfl (ptsV rfl (valC_get ⟨hxa.1, hxa.2.1⟩)) rfl) ?_
      refine dx 69 (o_call (hc := (hput (hput (hput (hput (hput (hput hNew 3 (.map (kvsA .i64 (vmap first ((w).K))))) 4 (.row false 3 [[.int .i64 first, .map 3, slA 9 (((w).K).map (arrAV .i64))]])) 9 (slO 4 (((w).K).map (arrAV .i64)))) 8 (.row false 4 [[.ptr 4 1 0 0, vaA 7 (valC ((w).vals)), slA 11 (((w).effs).map (arrAV .i64)), .int .i64 ((w).time)]])) 7 (vaO (valC ((w).vals)))) 11 (slO 6 (((w).effs).map (arrAV .i64))))) (hw := (hput (hput (hput (hput (hput (hput hNone 3 (.map (kvsA .i64 (vmap first (((w.hap t (rget w.vals t.a) 0)).K))))) 4 (.row false 3 [[.int .i64 first, .map 3, slA 9 ((((w.hap t (rget w.vals t.a) 0)).K).map (arrAV .i64))]])) 9 (slO 4 ((((w.hap t (rget w.vals t.a) 0)).K).map (arrAV .i64)))) 8 (.row false 4 [[.ptr 4 1 0 0, vaA 7 (valC (((w.hap t (rget w.vals t.a) 0)).vals)), slA 11 ((((w.hap t (rget w.vals t.a) 0)).effs).map (arrAV .i64)), .int .i64 (((w.hap t (rget w.vals t.a) 0)).time)]])) 7 (vaO (valC (((w.hap t (rget w.vals t.a) 0)).vals)))) 11 (slO 6 ((((w.hap t (rget w.vals t.a) 0)).effs).map (arrAV .i64))))) [11, 7, 8, 9, 4, 3] [(3, (.map (kvsA .i64 (vmap first (((w.hap t (rget w.vals t.a) 0)).K))))), (4, (.row false 3 [[.int .i64 first, .map 3, slA 9 ((((w.hap t (rget w.vals t.a) 0)).K).map (arrAV .i64))]])), (9, (slO 4 ((((w.hap t (rget w.vals t.a) 0)).K).map (arrAV .i64)))), (8, (.row false 4 [[.ptr 4 1 0 0, vaA 7 (valC (((w.hap t (rget w.vals t.a) 0)).vals)), slA 11 ((((w.hap t (rget w.vals t.a) 0)).effs).map (arrAV .i64)), .int .i64 (((w.hap t (rget w.vals t.a) 0)).time)]])), (7, (vaO (valC (((w.hap t (rget w.vals t.a) 0)).vals)))), (11, (slO 6 ((((w.hap t (rget w.vals t.a) 0)).effs).map (arrAV .i64))))] rfl Try.func47 (by kernel_rfl) rfl rfl rfl ⟨⟨_, rfl, (by first | rfl | exact slO_avoid _ _ | exact vaO_avoid _ | exact tab_avoid _ _ rfl rfl | exact wlk_avoid _ _ _ rfl rfl rfl)⟩, ⟨_, rfl, (by first | rfl | exact slO_avoid _ _ | exact vaO_avoid _ | exact tab_avoid _ _ rfl rfl | exact wlk_avoid _ _ _ rfl rfl rfl)⟩, ⟨_, rfl, (by first | rfl | exact slO_avoid _ _ | exact vaO_avoid _ | exact tab_avoid _ _ rfl rfl | exact wlk_avoid _ _ _ rfl rfl rfl)⟩, ⟨_, rfl, (by first | rfl | exact slO_avoid _ _ | exact vaO_avoid _ | exact tab_avoid _ _ rfl rfl | exact wlk_avoid _ _ _ rfl rfl rfl)⟩, ⟨_, rfl, (by first | rfl | exact slO_avoid _ _ | exact vaO_avoid _ | exact tab_avoid _ _ rfl rfl | exact wlk_avoid _ _ _ rfl rfl rfl)⟩, ⟨_, rfl, (by first | rfl | exact slO_avoid _ _ | exact vaO_avoid _ | exact tab_avoid _ _ rfl rfl | exact wlk_avoid _ _ _ rfl rfl rfl)⟩, trivial⟩ rfl (hres_cons rfl (hres_cons rfl (hres_cons rfl (hres_cons rfl (hres_cons rfl (hres_cons rfl (hres_nil _))))))) ⟨⟨_, rfl, rfl, (by first | rfl | exact slO_avoid _ _ | exact vaO_avoid _ | exact tab_avoid _ _ rfl rfl | exact wlk_avoid _ _ _ rfl rfl rfl)⟩, ⟨_, rfl, rfl, (by first | rfl | exact slO_avoid _ _ | exact vaO_avoid _ | exact tab_avoid _ _ rfl rfl | exact wlk_avoid _ _ _ rfl rfl rfl)⟩, ⟨_, rfl, rfl, (by first | rfl | exact slO_avoid _ _ | exact vaO_avoid _ | exact tab_avoid _ _ rfl rfl | exact wlk_avoid _ _ _ rfl rfl rfl)⟩, ⟨_, rfl, rfl, (by first | rfl | exact slO_avoid _ _ | exact vaO_avoid _ | exact tab_avoid _ _ rfl rfl | exact wlk_avoid _ _ _ rfl rfl rfl)⟩, ⟨_, rfl, rfl, (by first | rfl | exact slO_avoid _ _ | exact vaO_avoid _ | exact tab_avoid _ _ rfl rfl | exact wlk_avoid _ _ _ rfl rfl rfl)⟩, ⟨_, rfl, rfl, (by first | rfl | exact slO_avoid _ _ | exact vaO_avoid _ | exact tab_avoid _ _ rfl rfl | exact wlk_avoid _ _ _ rfl rfl rfl)⟩, trivial⟩ rfl (happensb_ok first R m w h (by omega) t (rget w.vals t.a) 0)) ?_
      refine DOps.nil (by kernel_rfl) ?_
      refine AGo.region ?_
      refine am 70 ?_
      refine aq 71 (q_nilCheck rfl rfl rfl) ?_
      refine af 72 tok ?_
      refine al 73 tok ?_
      refine aq 74 (q_bin (r := .int .i64 (w.time + 1)) rfl rfl rfl (by exact timeZ (x := w.time) (by omega))) ?_
      refine aq 75 (q_nilCheck rfl rfl rfl) ?_
      refine af 76 tok ?_
      refine AOps.w rfl rfl (o_store tok rfl rfl rfl rfl rfl rfl rfl rfl rfl (by decide) rfl (by first | exact fun _ => rfl | (intro h; cases h))) ?_
      refine AOps.nil ?_
      refine ⟨[], trivial, rfl, ?_⟩
      rw [vstep5 ho]
      exact HSub.put (HSub.put (HSub.put (HSub.put (HSub.put (HSub.put (HSub.none _) rfl) rfl) rfl) rfl) rfl) rfl
     ·
      refine AGo.cond_false false rfl rfl ?_
      refine AGo.seq ?_
      refine AGo.region ?_
      refine aq 78 (q_bin rfl rfl rfl rfl) ?_
      refine aa 77 ?_
      refine AOps.nil ?_
      refine AGo.split 77 rfl (fun hb6 => ?_) (fun hb6 => ?_)
      ·
       refine AGo.cond_true true rfl rfl ?_
       have ho : t.op = 6 := by simpa using hb6
       have hxd := h.at (ht.d (by rw [ho]; rfl))
       have hxa := h.at (ht.a (.inl (by rw [ho]; rfl)))
       
       refine AGo.seq ?_
       refine AGo.draw mix ?_
       refine dm 79 ?_
       refine dl 80 tok ?_
       refine dm 81 ?_
       refine df 82 tok ?_
       refine dl 83 tok ?_
       refine dq 84 (q_indexV tok rfl rfl rfl rfl rfl rfl rfl rfl hxa.1 hxa.2.2.1) ?_
       refine dq 85 (q_load tok rfl rfl rfl (ptsV rfl (valC_get ⟨hxa.1, hxa.2.1⟩)) rfl) ?_
       refine dx 86 (o_call (hc := (hput (hput (hput (hput (hput (hput hNew 3 (.map (kvsA .i64 (vmap first ((w).K))))) 4 (.row false 3 [[.int .i64 first, .map 3, slA 9 (((w).K).map (arrAV .i64))]])) 9 (slO 4 (((w).K).map (arrAV .i64)))) 8 (.row false 4 [[.ptr 4 1 0 0, vaA 7 (valC ((w).vals)), slA 11 (((w).effs).map (arrAV .i64)), .int .i64 ((w).time)]])) 7 (vaO (valC ((w).vals)))) 11 (slO 6 (((w).effs).map (arrAV .i64))))) (hw := (hput (hput (hput (hput (hput (hput hNone 3 (.map (kvsA .i64 (vmap first (((w.hap t (rget w.vals t.a) 0)).K))))) 4 (.row false 3 [[.int .i64 first, .map 3, slA 9 ((((w.hap t (rget w.vals t.a) 0)).K).map (arrAV .i64))]])) 9 (slO 4 ((((w.hap t (rget w.vals t.a) 0)).K).map (arrAV .i64)))) 8 (.row false 4 [[.ptr 4 1 0 0, vaA 7 (valC (((w.hap t (rget w.vals t.a) 0)).vals)), slA 11 ((((w.hap t (rget w.vals t.a) 0)).effs).map (arrAV .i64)), .int .i64 (((w.hap t (rget w.vals t.a) 0)).time)]])) 7 (vaO (valC (((w.hap t (rget w.vals t.a) 0)).vals)))) 11 (slO 6 ((((w.hap t (rget w.vals t.a) 0)).effs).map (arrAV .i64))))) [11, 7, 8, 9, 4, 3] [(3, (.map (kvsA .i64 (vmap first (((w.hap t (rget w.vals t.a) 0)).K))))), (4, (.row false 3 [[.int .i64 first, .map 3, slA 9 ((((w.hap t (rget w.vals t.a) 0)).K).map (arrAV .i64))]])), (9, (slO 4 ((((w.hap t (rget w.vals t.a) 0)).K).map (arrAV .i64)))), (8, (.row false 4 [[.ptr 4 1 0 0, vaA 7 (valC (((w.hap t (rget w.vals t.a) 0)).vals)), slA 11 ((((w.hap t (rget w.vals t.a) 0)).effs).map (arrAV .i64)), .int .i64 (((w.hap t (rget w.vals t.a) 0)).time)]])), (7, (vaO (valC (((w.hap t (rget w.vals t.a) 0)).vals)))), (11, (slO 6 ((((w.hap t (rget w.vals t.a) 0)).effs).map (arrAV .i64))))] rfl Try.func47 (by kernel_rfl) rfl rfl rfl ⟨⟨_, rfl, (by first | rfl | exact slO_avoid _ _ | exact vaO_avoid _ | exact tab_avoid _ _ rfl rfl | exact wlk_avoid _ _ _ rfl rfl rfl)⟩, ⟨_, rfl, (by first | rfl | exact slO_avoid _ _ | exact vaO_avoid _ | exact tab_avoid _ _ rfl rfl | exact wlk_avoid _ _ _ rfl rfl rfl)⟩, ⟨_, rfl, (by first | rfl | exact slO_avoid _ _ | exact vaO_avoid _ | exact tab_avoid _ _ rfl rfl | exact wlk_avoid _ _ _ rfl rfl rfl)⟩, ⟨_, rfl, (by first | rfl | exact slO_avoid _ _ | exact vaO_avoid _ | exact tab_avoid _ _ rfl rfl | exact wlk_avoid _ _ _ rfl rfl rfl)⟩, ⟨_, rfl, (by first | rfl | exact slO_avoid _ _ | exact vaO_avoid _ | exact tab_avoid _ _ rfl rfl | exact wlk_avoid _ _ _ rfl rfl rfl)⟩, ⟨_, rfl, (by first | rfl | exact slO_avoid _ _ | exact vaO_avoid _ | exact tab_avoid _ _ rfl rfl | exact wlk_avoid _ _ _ rfl rfl rfl)⟩, trivial⟩ rfl (hres_cons rfl (hres_cons rfl (hres_cons rfl (hres_cons rfl (hres_cons rfl (hres_cons rfl (hres_nil _))))))) ⟨⟨_, rfl, rfl, (by first | rfl | exact slO_avoid _ _ | exact vaO_avoid _ | exact tab_avoid _ _ rfl rfl | exact wlk_avoid _ _ _ rfl rfl rfl)⟩, ⟨_, rfl, rfl, (by first | rfl | exact slO_avoid _ _ | exact vaO_avoid _ | exact tab_avoid _ _ rfl rfl | exact wlk_avoid _ _ _ rfl rfl rfl)⟩, ⟨_, rfl, rfl, (by first | rfl | exact slO_avoid _ _ | exact vaO_avoid _ | exact tab_avoid _ _ rfl rfl | exact wlk_avoid _ _ _ rfl rfl rfl)⟩, ⟨_, rfl, rfl, (by first | rfl | exact slO_avoid _ _ | exact vaO_avoid _ | exact tab_avoid _ _ rfl rfl | exact wlk_avoid _ _ _ rfl rfl rfl)⟩, ⟨_, rfl, rfl, (by first | rfl | exact slO_avoid _ _ | exact vaO_avoid _ | exact tab_avoid _ _ rfl rfl | exact wlk_avoid _ _ _ rfl rfl rfl)⟩, ⟨_, rfl, rfl, (by first | rfl | exact slO_avoid _ _ | exact vaO_avoid _ | exact tab_avoid _ _ rfl rfl | exact wlk_avoid _ _ _ rfl rfl rfl)⟩, trivial⟩ rfl (happensb_ok first R m w h (by omega) t (rget w.vals t.a) 0)) ?_
       refine DOps.nil (by kernel_rfl) ?_
       refine AGo.draw mix ?_
       refine dm 87 ?_
       refine df 88 tok ?_
       refine dl 89 tok ?_
       refine dm 90 ?_
       refine dx 91 (o_call (hc := (hput (hput (hput (hput (hput (hput hNew 3 (.map (kvsA .i64 (vmap first (((w.hap t (rget w.vals t.a) 0)).K))))) 4 (.row false 3 [[.int .i64 first, .map 3, slA 9 ((((w.hap t (rget w.vals t.a) 0)).K).map (arrAV .i64))]])) 9 (slO 4 ((((w.hap t (rget w.vals t.a) 0)).K).map (arrAV .i64)))) 8 (.row false 4 [[.ptr 4 1 0 0, vaA 7 (valC (((w.hap t (rget w.vals t.a) 0)).vals)), slA 11 ((((w.hap t (rget w.vals t.a) 0)).effs).map (arrAV .i64)), .int .i64 (((w.hap t (rget w.vals t.a) 0)).time)]])) 7 (vaO (valC (((w.hap t (rget w.vals t.a) 0)).vals)))) 11 (slO 6 ((((w.hap t (rget w.vals t.a) 0)).effs).map (arrAV .i64))))) (hw := (hput (hput (hput (hput (hput (hput hNone 3 (.map (kvsA .i64 (vmap first ((vunk first (w.hap t (rget w.vals t.a) 0)).2))))) 4 (.row false 3 [[.int .i64 first, .map 3, slA 9 (((vunk first (w.hap t (rget w.vals t.a) 0)).2).map (arrAV .i64))]])) 9 (slO 4 (((vunk first (w.hap t (rget w.vals t.a) 0)).2).map (arrAV .i64)))) 8 (.row false 4 [[.ptr 4 1 0 0, vaA 7 (valC (((w.hap t (rget w.vals t.a) 0)).vals)), slA 11 ((((w.hap t (rget w.vals t.a) 0)).effs).map (arrAV .i64)), .int .i64 (((w.hap t (rget w.vals t.a) 0)).time)]])) 7 (vaO (valC (((w.hap t (rget w.vals t.a) 0)).vals)))) 11 (slO 6 ((((w.hap t (rget w.vals t.a) 0)).effs).map (arrAV .i64))))) [11, 7, 8, 9, 4, 3] [(3, (.map (kvsA .i64 (vmap first ((vunk first (w.hap t (rget w.vals t.a) 0)).2))))), (4, (.row false 3 [[.int .i64 first, .map 3, slA 9 (((vunk first (w.hap t (rget w.vals t.a) 0)).2).map (arrAV .i64))]])), (9, (slO 4 (((vunk first (w.hap t (rget w.vals t.a) 0)).2).map (arrAV .i64)))), (8, (.row false 4 [[.ptr 4 1 0 0, vaA 7 (valC (((w.hap t (rget w.vals t.a) 0)).vals)), slA 11 ((((w.hap t (rget w.vals t.a) 0)).effs).map (arrAV .i64)), .int .i64 (((w.hap t (rget w.vals t.a) 0)).time)]])), (7, (vaO (valC (((w.hap t (rget w.vals t.a) 0)).vals)))), (11, (slO 6 ((((w.hap t (rget w.vals t.a) 0)).effs).map (arrAV .i64))))] rfl Try.func48 (by kernel_rfl) rfl rfl rfl ⟨⟨_, rfl, (by first | rfl | exact slO_avoid _ _ | exact vaO_avoid _ | exact tab_avoid _ _ rfl rfl | exact wlk_avoid _ _ _ rfl rfl rfl)⟩, ⟨_, rfl, (by first | rfl | exact slO_avoid _ _ | exact vaO_avoid _ | exact tab_avoid _ _ rfl rfl | exact wlk_avoid _ _ _ rfl rfl rfl)⟩, ⟨_, rfl, (by first | rfl | exact slO_avoid _ _ | exact vaO_avoid _ | exact tab_avoid _ _ rfl rfl | exact wlk_avoid _ _ _ rfl rfl rfl)⟩, ⟨_, rfl, (by first | rfl | exact slO_avoid _ _ | exact vaO_avoid _ | exact tab_avoid _ _ rfl rfl | exact wlk_avoid _ _ _ rfl rfl rfl)⟩, ⟨_, rfl, (by first | rfl | exact slO_avoid _ _ | exact vaO_avoid _ | exact tab_avoid _ _ rfl rfl | exact wlk_avoid _ _ _ rfl rfl rfl)⟩, ⟨_, rfl, (by first | rfl | exact slO_avoid _ _ | exact vaO_avoid _ | exact tab_avoid _ _ rfl rfl | exact wlk_avoid _ _ _ rfl rfl rfl)⟩, trivial⟩ rfl (hres_cons rfl (hres_cons rfl (hres_cons rfl (hres_cons rfl (hres_cons rfl (hres_cons rfl (hres_nil _))))))) ⟨⟨_, rfl, rfl, (by first | rfl | exact slO_avoid _ _ | exact vaO_avoid _ | exact tab_avoid _ _ rfl rfl | exact wlk_avoid _ _ _ rfl rfl rfl)⟩, ⟨_, rfl, rfl, (by first | rfl | exact slO_avoid _ _ | exact vaO_avoid _ | exact tab_avoid _ _ rfl rfl | exact wlk_avoid _ _ _ rfl rfl rfl)⟩, ⟨_, rfl, rfl, (by first | rfl | exact slO_avoid _ _ | exact vaO_avoid _ | exact tab_avoid _ _ rfl rfl | exact wlk_avoid _ _ _ rfl rfl rfl)⟩, ⟨_, rfl, rfl, (by first | rfl | exact slO_avoid _ _ | exact vaO_avoid _ | exact tab_avoid _ _ rfl rfl | exact wlk_avoid _ _ _ rfl rfl rfl)⟩, ⟨_, rfl, rfl, (by first | rfl | exact slO_avoid _ _ | exact vaO_avoid _ | exact tab_avoid _ _ rfl rfl | exact wlk_avoid _ _ _ rfl rfl rfl)⟩, ⟨_, rfl, rfl, (by first | rfl | exact slO_avoid _ _ | exact vaO_avoid _ | exact tab_avoid _ _ rfl rfl | exact wlk_avoid _ _ _ rfl rfl rfl)⟩, trivial⟩ rfl (unknownb_ok first R (m + 1) (w.hap t (rget w.vals t.a) 0) (h.eff rfl) (by omega))) ?_
       refine dq 92 (q_indexV tok rfl rfl rfl rfl rfl rfl rfl rfl hxd.1 hxd.2.2.1) ?_
       refine DOps.w rfl rfl (o_storeV tok rfl rfl rfl rfl rfl rfl rfl (by have h1 := hxd.2.2.1; have h0 := hxd.1; omega) (valC_one _) rfl rfl rfl) ?_
       refine DOps.nil (by kernel_rfl) ?_
       refine ⟨[], trivial, rfl, ?_⟩
       rw [vstep6 ho]
       exact HSub.put (HSub.put (HSub.put (HSub.put (HSub.put (HSub.put (HSub.none _) rfl) rfl) rfl) (by show _ = some (AObj.row false 4 [[.ptr 4 1 0 0, vaA 7 (valC (rset w.vals t.d _)), slA 11 ((w.hap t (rget w.vals t.a) 0).effs.map (arrAV .i64)), .int .i64 w.time]]); rw [valC_vaA]; rfl)) (by show _ = some (vaO (valC (rset w.vals t.d _))); rw [valC_set]; rfl)) rfl
      ·
       refine AGo.cond_false false rfl rfl ?_
       refine AGo.seq ?_
       refine AGo.region ?_
       refine aq 94 (q_bin rfl rfl rfl rfl) ?_
       refine aa 93 ?_
       refine AOps.nil ?_
       refine AGo.split 93 rfl (fun hb7 => ?_) (fun hb7 => ?_)
       ·
        refine AGo.cond_true true rfl rfl ?_
        have ho : t.op = 7 := by simpa using hb7
        have hxa := h.at (ht.a (.inr (by rw [ho]; rfl)))
        have hxb := h.at (ht.b (by rw [ho]; rfl))
        
        refine AGo.seq ?_
        refine AGo.draw mix ?_
        refine dm 95 ?_
        refine dl 96 tok ?_
        refine dm 97 ?_
        refine df 98 tok ?_
        refine dl 99 tok ?_
        refine dq 100 (q_indexV tok rfl rfl rfl rfl rfl rfl rfl rfl hxa.1 hxa.2.2.1) ?_
        refine dq 101 (q_load tok rfl rfl rfl (ptsV rfl (valC_get ⟨hxa.1, hxa.2.1⟩)) rfl) ?_
        refine dm 102 ?_
        refine df 103 tok ?_
        refine dl 104 tok ?_
        refine dq 105 (q_indexV tok rfl rfl rfl rfl rfl rfl rfl rfl hxb.1 hxb.2.2.1) ?_
        refine dq 106 (q_load tok rfl rfl rfl (ptsV rfl (valC_get ⟨hxb.1, hxb.2.1⟩)) rfl) ?_
        refine dx 107 (o_call (hc := (hput (hput (hput (hput (hput (hput hNew 3 (.map (kvsA .i64 (vmap first ((w).K))))) 4 (.row false 3 [[.int .i64 first, .map 3, slA 9 (((w).K).map (arrAV .i64))]])) 9 (slO 4 (((w).K).map (arrAV .i64)))) 8 (.row false 4 [[.ptr 4 1 0 0, vaA 7 (valC ((w).vals)), slA 11 (((w).effs).map (arrAV .i64)), .int .i64 ((w).time)]])) 7 (vaO (valC ((w).vals)))) 11 (slO 6 (((w).effs).map (arrAV .i64))))) (hw := (hput (hput (hput (hput (hput (hput hNone 3 (.map (kvsA .i64 (vmap first (((w.hap t (rget w.vals t.a) (rget w.vals t.b))).K))))) 4 (.row false 3 [[.int .i64 first, .map 3, slA 9 ((((w.hap t (rget w.vals t.a) (rget w.vals t.b))).K).map (arrAV .i64))]])) 9 (slO 4 ((((w.hap t (rget w.vals t.a) (rget w.vals t.b))).K).map (arrAV .i64)))) 8 (.row false 4 [[.ptr 4 1 0 0, vaA 7 (valC (((w.hap t (rget w.vals t.a) (rget w.vals t.b))).vals)), slA 11 ((((w.hap t (rget w.vals t.a) (rget w.vals t.b))).effs).map (arrAV .i64)), .int .i64 (((w.hap t (rget w.vals t.a) (rget w.vals t.b))).time)]])) 7 (vaO (valC (((w.hap t (rget w.vals t.a) (rget w.vals t.b))).vals)))) 11 (slO 6 ((((w.hap t (rget w.vals t.a) (rget w.vals t.b))).effs).map (arrAV .i64))))) [11, 7, 8, 9, 4, 3] [(3, (.map (kvsA .i64 (vmap first (((w.hap t (rget w.vals t.a) (rget w.vals t.b))).K))))), (4, (.row false 3 [[.int .i64 first, .map 3, slA 9 ((((w.hap t (rget w.vals t.a) (rget w.vals t.b))).K).map (arrAV .i64))]])), (9, (slO 4 ((((w.hap t (rget w.vals t.a) (rget w.vals t.b))).K).map (arrAV .i64)))), (8, (.row false 4 [[.ptr 4 1 0 0, vaA 7 (valC (((w.hap t (rget w.vals t.a) (rget w.vals t.b))).vals)), slA 11 ((((w.hap t (rget w.vals t.a) (rget w.vals t.b))).effs).map (arrAV .i64)), .int .i64 (((w.hap t (rget w.vals t.a) (rget w.vals t.b))).time)]])), (7, (vaO (valC (((w.hap t (rget w.vals t.a) (rget w.vals t.b))).vals)))), (11, (slO 6 ((((w.hap t (rget w.vals t.a) (rget w.vals t.b))).effs).map (arrAV .i64))))] rfl Try.func47 (by kernel_rfl) rfl rfl rfl ⟨⟨_, rfl, (by first | rfl | exact slO_avoid _ _ | exact vaO_avoid _ | exact tab_avoid _ _ rfl rfl | exact wlk_avoid _ _ _ rfl rfl rfl)⟩, ⟨_, rfl, (by first | rfl | exact slO_avoid _ _ | exact vaO_avoid _ | exact tab_avoid _ _ rfl rfl | exact wlk_avoid _ _ _ rfl rfl rfl)⟩, ⟨_, rfl, (by first | rfl | exact slO_avoid _ _ | exact vaO_avoid _ | exact tab_avoid _ _ rfl rfl | exact wlk_avoid _ _ _ rfl rfl rfl)⟩, ⟨_, rfl, (by first | rfl | exact slO_avoid _ _ | exact vaO_avoid _ | exact tab_avoid _ _ rfl rfl | exact wlk_avoid _ _ _ rfl rfl rfl)⟩, ⟨_, rfl, (by first | rfl | exact slO_avoid _ _ | exact vaO_avoid _ | exact tab_avoid _ _ rfl rfl | exact wlk_avoid _ _ _ rfl rfl rfl)⟩, ⟨_, rfl, (by first | rfl | exact slO_avoid _ _ | exact vaO_avoid _ | exact tab_avoid _ _ rfl rfl | exact wlk_avoid _ _ _ rfl rfl rfl)⟩, trivial⟩ rfl (hres_cons rfl (hres_cons rfl (hres_cons rfl (hres_cons rfl (hres_cons rfl (hres_cons rfl (hres_nil _))))))) ⟨⟨_, rfl, rfl, (by first | rfl | exact slO_avoid _ _ | exact vaO_avoid _ | exact tab_avoid _ _ rfl rfl | exact wlk_avoid _ _ _ rfl rfl rfl)⟩, ⟨_, rfl, rfl, (by first | rfl | exact slO_avoid _ _ | exact vaO_avoid _ | exact tab_avoid _ _ rfl rfl | exact wlk_avoid _ _ _ rfl rfl rfl)⟩, ⟨_, rfl, rfl, (by first | rfl | exact slO_avoid _ _ | exact vaO_avoid _ | exact tab_avoid _ _ rfl rfl | exact wlk_avoid _ _ _ rfl rfl rfl)⟩, ⟨_, rfl, rfl, (by first | rfl | exact slO_avoid _ _ | exact vaO_avoid _ | exact tab_avoid _ _ rfl rfl | exact wlk_avoid _ _ _ rfl rfl rfl)⟩, ⟨_, rfl, rfl, (by first | rfl | exact slO_avoid _ _ | exact vaO_avoid _ | exact tab_avoid _ _ rfl rfl | exact wlk_avoid _ _ _ rfl rfl rfl)⟩, ⟨_, rfl, rfl, (by first | rfl | exact slO_avoid _ _ | exact vaO_avoid _ | exact tab_avoid _ _ rfl rfl | exact wlk_avoid _ _ _ rfl rfl rfl)⟩, trivial⟩ rfl (happensb_ok first R m w h (by omega) t (rget w.vals t.a) (rget w.vals t.b))) ?_
        refine DOps.nil (by kernel_rfl) ?_
        refine AGo.region ?_
        refine am 108 ?_
        refine aq 109 (q_nilCheck rfl rfl rfl) ?_
        refine af 110 tok ?_
        refine al 111 tok ?_
        refine aq 112 (q_bin (r := .int .i64 (w.time + 1)) rfl rfl rfl (by exact timeZ (x := w.time) (by omega))) ?_
        refine aq 113 (q_nilCheck rfl rfl rfl) ?_
        refine af 114 tok ?_
        refine AOps.w rfl rfl (o_store tok rfl rfl rfl rfl rfl rfl rfl rfl rfl (by decide) rfl (by first | exact fun _ => rfl | (intro h; cases h))) ?_
        refine AOps.nil ?_
        refine ⟨[], trivial, rfl, ?_⟩
        rw [vstep7 ho]
        exact HSub.put (HSub.put (HSub.put (HSub.put (HSub.put (HSub.put (HSub.none _) rfl) rfl) rfl) rfl) rfl) rfl
       ·
        refine AGo.cond_false false rfl rfl ?_
        refine AGo.seq ?_
        refine AGo.region ?_
        refine aq 116 (q_bin rfl rfl rfl rfl) ?_
        refine aa 115 ?_
        refine AOps.nil ?_
        refine AGo.split 115 rfl (fun hb8 => ?_) (fun hb8 => ?_)
        ·
         refine AGo.cond_true true rfl rfl ?_
         have ho : t.op = 8 := by simpa using hb8
         have hxd := h.at (ht.d (by rw [ho]; rfl))
         
         refine AGo.seq ?_
         refine AGo.region ?_
         refine am 117 ?_
         refine al 118 tok ?_
         refine ax 119 (o_call (hc := (hput (hput (hput (hput (hput (hput hNew 3 (.map (kvsA .i64 (vmap first ((w).K))))) 4 (.row false 3 [[.int .i64 first, .map 3, slA 9 (((w).K).map (arrAV .i64))]])) 9 (slO 4 (((w).K).map (arrAV .i64)))) 8 (.row false 4 [[.ptr 4 1 0 0, vaA 7 (valC ((w).vals)), slA 11 (((w).effs).map (arrAV .i64)), .int .i64 ((w).time)]])) 7 (vaO (valC ((w).vals)))) 11 (slO 6 (((w).effs).map (arrAV .i64))))) (hw := (hput (hput (hput (hput (hput (hput hNone 3 (.map (kvsA .i64 (vmap first (((w.hap t 0 0)).K))))) 4 (.row false 3 [[.int .i64 first, .map 3, slA 9 ((((w.hap t 0 0)).K).map (arrAV .i64))]])) 9 (slO 4 ((((w.hap t 0 0)).K).map (arrAV .i64)))) 8 (.row false 4 [[.ptr 4 1 0 0, vaA 7 (valC (((w.hap t 0 0)).vals)), slA 11 ((((w.hap t 0 0)).effs).map (arrAV .i64)), .int .i64 (((w.hap t 0 0)).time)]])) 7 (vaO (valC (((w.hap t 0 0)).vals)))) 11 (slO 6 ((((w.hap t 0 0)).effs).map (arrAV .i64))))) [11, 7, 8, 9, 4, 3] [(3, (.map (kvsA .i64 (vmap first (((w.hap t 0 0)).K))))), (4, (.row false 3 [[.int .i64 first, .map 3, slA 9 ((((w.hap t 0 0)).K).map (arrAV .i64))]])), (9, (slO 4 ((((w.hap t 0 0)).K).map (arrAV .i64)))), (8, (.row false 4 [[.ptr 4 1 0 0, vaA 7 (valC (((w.hap t 0 0)).vals)), slA 11 ((((w.hap t 0 0)).effs).map (arrAV .i64)), .int .i64 (((w.hap t 0 0)).time)]])), (7, (vaO (valC (((w.hap t 0 0)).vals)))), (11, (slO 6 ((((w.hap t 0 0)).effs).map (arrAV .i64))))] rfl Try.func47 (by kernel_rfl) rfl rfl rfl ⟨⟨_, rfl, (by first | rfl | exact slO_avoid _ _ | exact vaO_avoid _ | exact tab_avoid _ _ rfl rfl | exact wlk_avoid _ _ _ rfl rfl rfl)⟩, ⟨_, rfl, (by first | rfl | exact slO_avoid _ _ | exact vaO_avoid _ | exact tab_avoid _ _ rfl rfl | exact wlk_avoid _ _ _ rfl rfl rfl)⟩, ⟨_, rfl, (by first | rfl | exact slO_avoid _ _ | exact vaO_avoid _ | exact tab_avoid _ _ rfl rfl | exact wlk_avoid _ _ _ rfl rfl rfl)⟩, ⟨_, rfl, (by first | rfl | exact slO_avoid _ _ | exact vaO_avoid _ | exact tab_avoid _ _ rfl rfl | exact wlk_avoid _ _ _ rfl rfl rfl)⟩, ⟨_, rfl, (by first | rfl | exact slO_avoid _ _ | exact vaO_avoid _ | exact tab_avoid _ _ rfl rfl | exact wlk_avoid _ _ _ rfl rfl rfl)⟩, ⟨_, rfl, (by first | rfl | exact slO_avoid _ _ | exact vaO_avoid _ | exact tab_avoid _ _ rfl rfl | exact wlk_avoid _ _ _ rfl rfl rfl)⟩, trivial⟩ rfl (hres_cons rfl (hres_cons rfl (hres_cons rfl (hres_cons rfl (hres_cons rfl (hres_cons rfl (hres_nil _))))))) ⟨⟨_, rfl, rfl, (by first | rfl | exact slO_avoid _ _ | exact vaO_avoid _ | exact tab_avoid _ _ rfl rfl | exact wlk_avoid _ _ _ rfl rfl rfl)⟩, ⟨_, rfl, rfl, (by first | rfl | exact slO_avoid _ _ | exact vaO_avoid _ | exact tab_avoid _ _ rfl rfl | exact wlk_avoid _ _ _ rfl rfl rfl)⟩, ⟨_, rfl, rfl, (by first | rfl | exact slO_avoid _ _ | exact vaO_avoid _ | exact tab_avoid _ _ rfl rfl | exact wlk_avoid _ _ _ rfl rfl rfl)⟩, ⟨_, rfl, rfl, (by first | rfl | exact slO_avoid _ _ | exact vaO_avoid _ | exact tab_avoid _ _ rfl rfl | exact wlk_avoid _ _ _ rfl rfl rfl)⟩, ⟨_, rfl, rfl, (by first | rfl | exact slO_avoid _ _ | exact vaO_avoid _ | exact tab_avoid _ _ rfl rfl | exact wlk_avoid _ _ _ rfl rfl rfl)⟩, ⟨_, rfl, rfl, (by first | rfl | exact slO_avoid _ _ | exact vaO_avoid _ | exact tab_avoid _ _ rfl rfl | exact wlk_avoid _ _ _ rfl rfl rfl)⟩, trivial⟩ rfl (happensb_ok first R m w h (by omega) t 0 0)) ?_
         refine AOps.nil ?_
         refine AGo.draw mix ?_
         refine dm 120 ?_
         refine df 121 tok ?_
         refine dl 122 tok ?_
         refine dm 123 ?_
         refine dx 124 (o_call (hc := (hput (hput (hput (hput (hput (hput hNew 3 (.map (kvsA .i64 (vmap first (((w.hap t 0 0)).K))))) 4 (.row false 3 [[.int .i64 first, .map 3, slA 9 ((((w.hap t 0 0)).K).map (arrAV .i64))]])) 9 (slO 4 ((((w.hap t 0 0)).K).map (arrAV .i64)))) 8 (.row false 4 [[.ptr 4 1 0 0, vaA 7 (valC (((w.hap t 0 0)).vals)), slA 11 ((((w.hap t 0 0)).effs).map (arrAV .i64)), .int .i64 (((w.hap t 0 0)).time)]])) 7 (vaO (valC (((w.hap t 0 0)).vals)))) 11 (slO 6 ((((w.hap t 0 0)).effs).map (arrAV .i64))))) (hw := (hput (hput (hput (hput (hput (hput hNone 3 (.map (kvsA .i64 (vmap first ((vunk first (w.hap t 0 0)).2))))) 4 (.row false 3 [[.int .i64 first, .map 3, slA 9 (((vunk first (w.hap t 0 0)).2).map (arrAV .i64))]])) 9 (slO 4 (((vunk first (w.hap t 0 0)).2).map (arrAV .i64)))) 8 (.row false 4 [[.ptr 4 1 0 0, vaA 7 (valC (((w.hap t 0 0)).vals)), slA 11 ((((w.hap t 0 0)).effs).map (arrAV .i64)), .int .i64 (((w.hap t 0 0)).time)]])) 7 (vaO (valC (((w.hap t 0 0)).vals)))) 11 (slO 6 ((((w.hap t 0 0)).effs).map (arrAV .i64))))) [11, 7, 8, 9, 4, 3] [(3, (.map (kvsA .i64 (vmap first ((vunk first (w.hap t 0 0)).2))))), (4, (.row false 3 [[.int .i64 first, .map 3, slA 9 (((vunk first (w.hap t 0 0)).2).map (arrAV .i64))]])), (9, (slO 4 (((vunk first (w.hap t 0 0)).2).map (arrAV .i64)))), (8, (.row false 4 [[.ptr 4 1 0 0, vaA 7 (valC (((w.hap t 0 0)).vals)), slA 11 ((((w.hap t 0 0)).effs).map (arrAV .i64)), .int .i64 (((w.hap t 0 0)).time)]])), (7, (vaO (valC (((w.hap t 0 0)).vals)))), (11, (slO 6 ((((w.hap t 0 0)).effs).map (arrAV .i64))))] rfl Try.func48 (by kernel_rfl) rfl rfl rfl ⟨⟨_, rfl, (by first | rfl | exact slO_avoid _ _ | exact vaO_avoid _ | exact tab_avoid _ _ rfl rfl | exact wlk_avoid _ _ _ rfl rfl rfl)⟩, ⟨_, rfl, (by first | rfl | exact slO_avoid _ _ | exact vaO_avoid _ | exact tab_avoid _ _ rfl rfl | exact wlk_avoid _ _ _ rfl rfl rfl)⟩, ⟨_, rfl, (by first | rfl | exact slO_avoid _ _ | exact vaO_avoid _ | exact tab_avoid _ _ rfl rfl | exact wlk_avoid _ _ _ rfl rfl rfl)⟩, ⟨_, rfl, (by first | rfl | exact slO_avoid _ _ | exact vaO_avoid _ | exact tab_avoid _ _ rfl rfl | exact wlk_avoid _ _ _ rfl rfl rfl)⟩, ⟨_, rfl, (by first | rfl | exact slO_avoid _ _ | exact vaO_avoid _ | exact tab_avoid _ _ rfl rfl | exact wlk_avoid _ _ _ rfl rfl rfl)⟩, ⟨_, rfl, (by first | rfl | exact slO_avoid _ _ | exact vaO_avoid _ | exact tab_avoid _ _ rfl rfl | exact wlk_avoid _ _ _ rfl rfl rfl)⟩, trivial⟩ rfl (hres_cons rfl (hres_cons rfl (hres_cons rfl (hres_cons rfl (hres_cons rfl (hres_cons rfl (hres_nil _))))))) ⟨⟨_, rfl, rfl, (by first | rfl | exact slO_avoid _ _ | exact vaO_avoid _ | exact tab_avoid _ _ rfl rfl | exact wlk_avoid _ _ _ rfl rfl rfl)⟩, ⟨_, rfl, rfl, (by first | rfl | exact slO_avoid _ _ | exact vaO_avoid _ | exact tab_avoid _ _ rfl rfl | exact wlk_avoid _ _ _ rfl rfl rfl)⟩, ⟨_, rfl, rfl, (by first | rfl | exact slO_avoid _ _ | exact vaO_avoid _ | exact tab_avoid _ _ rfl rfl | exact wlk_avoid _ _ _ rfl rfl rfl)⟩, ⟨_, rfl, rfl, (by first | rfl | exact slO_avoid _ _ | exact vaO_avoid _ | exact tab_avoid _ _ rfl rfl | exact wlk_avoid _ _ _ rfl rfl rfl)⟩, ⟨_, rfl, rfl, (by first | rfl | exact slO_avoid _ _ | exact vaO_avoid _ | exact tab_avoid _ _ rfl rfl | exact wlk_avoid _ _ _ rfl rfl rfl)⟩, ⟨_, rfl, rfl, (by first | rfl | exact slO_avoid _ _ | exact vaO_avoid _ | exact tab_avoid _ _ rfl rfl | exact wlk_avoid _ _ _ rfl rfl rfl)⟩, trivial⟩ rfl (unknownb_ok first R (m + 1) (w.hap t 0 0) (h.eff rfl) (by omega))) ?_
         refine dq 125 (q_indexV tok rfl rfl rfl rfl rfl rfl rfl rfl hxd.1 hxd.2.2.1) ?_
         refine DOps.w rfl rfl (o_storeV tok rfl rfl rfl rfl rfl rfl rfl (by have h1 := hxd.2.2.1; have h0 := hxd.1; omega) (valC_one _) rfl rfl rfl) ?_
         refine DOps.nil (by kernel_rfl) ?_
         refine ⟨[], trivial, rfl, ?_⟩
         rw [vstep8 ho]
         exact HSub.put (HSub.put (HSub.put (HSub.put (HSub.put (HSub.put (HSub.none _) rfl) rfl) rfl) (by show _ = some (AObj.row false 4 [[.ptr 4 1 0 0, vaA 7 (valC (rset w.vals t.d _)), slA 11 ((w.hap t 0 0).effs.map (arrAV .i64)), .int .i64 w.time]]); rw [valC_vaA]; rfl)) (by show _ = some (vaO (valC (rset w.vals t.d _))); rw [valC_set]; rfl)) rfl
        ·
         refine AGo.cond_false false rfl rfl ?_
         refine AGo.seq ?_
         refine AGo.region ?_
         refine aq 127 (q_bin rfl rfl rfl rfl) ?_
         refine aa 126 ?_
         refine AOps.nil ?_
         refine AGo.split 126 rfl (fun hb9 => ?_) (fun hb9 => ?_)
         ·
          refine AGo.cond_true true rfl rfl ?_
          have ho : t.op = 9 := by simpa using hb9
          have hxa := h.at (ht.a (.inl (by rw [ho]; rfl)))
          
          refine AGo.draw mix ?_
          refine dm 128 ?_
          refine dl 129 tok ?_
          refine dm 130 ?_
          refine df 131 tok ?_
          refine dl 132 tok ?_
          refine dq 133 (q_indexV tok rfl rfl rfl rfl rfl rfl rfl rfl hxa.1 hxa.2.2.1) ?_
          refine dq 134 (q_load tok rfl rfl rfl (ptsV rfl (valC_get ⟨hxa.1, hxa.2.1⟩)) rfl) ?_
          refine dx 135 (o_call (hc := (hput (hput (hput (hput (hput (hput hNew 3 (.map (kvsA .i64 (vmap first ((w).K))))) 4 (.row false 3 [[.int .i64 first, .map 3, slA 9 (((w).K).map (arrAV .i64))]])) 9 (slO 4 (((w).K).map (arrAV .i64)))) 8 (.row false 4 [[.ptr 4 1 0 0, vaA 7 (valC ((w).vals)), slA 11 (((w).effs).map (arrAV .i64)), .int .i64 ((w).time)]])) 7 (vaO (valC ((w).vals)))) 11 (slO 6 (((w).effs).map (arrAV .i64))))) (hw := (hput (hput (hput (hput (hput (hput hNone 3 (.map (kvsA .i64 (vmap first (((w.hap t (rget w.vals t.a) 0)).K))))) 4 (.row false 3 [[.int .i64 first, .map 3, slA 9 ((((w.hap t (rget w.vals t.a) 0)).K).map (arrAV .i64))]])) 9 (slO 4 ((((w.hap t (rget w.vals t.a) 0)).K).map (arrAV .i64)))) 8 (.row false 4 [[.ptr 4 1 0 0, vaA 7 (valC (((w.hap t (rget w.vals t.a) 0)).vals)), slA 11 ((((w.hap t (rget w.vals t.a) 0)).effs).map (arrAV .i64)), .int .i64 (((w.hap t (rget w.vals t.a) 0)).time)]])) 7 (vaO (valC (((w.hap t (rget w.vals t.a) 0)).vals)))) 11 (slO 6 ((((w.hap t (rget w.vals t.a) 0)).effs).map (arrAV .i64))))) [11, 7, 8, 9, 4, 3] [(3, (.map (kvsA .i64 (vmap first (((w.hap t (rget w.vals t.a) 0)).K))))), (4, (.row false 3 [[.int .i64 first, .map 3, slA 9 ((((w.hap t (rget w.vals t.a) 0)).K).map (arrAV .i64))]])), (9, (slO 4 ((((w.hap t (rget w.vals t.a) 0)).K).map (arrAV .i64)))), (8, (.row false 4 [[.ptr 4 1 0 0, vaA 7 (valC (((w.hap t (rget w.vals t.a) 0)).vals)), slA 11 ((((w.hap t (rget w.vals t.a) 0)).effs).map (arrAV .i64)), .int .i64 (((w.hap t (rget w.vals t.a) 0)).time)]])), (7, (vaO (valC (((w.hap t (rget w.vals t.a) 0)).vals)))), (11, (slO 6 ((((w.hap t (rget w.vals t.a) 0)).effs).map (arrAV .i64))))] rfl Try.func47 (by kernel_rfl) rfl rfl rfl ⟨⟨_, rfl, (by first | rfl | exact slO_avoid _ _ | exact vaO_avoid _ | exact tab_avoid _ _ rfl rfl | exact wlk_avoid _ _ _ rfl rfl rfl)⟩, ⟨_, rfl, (by first | rfl | exact slO_avoid _ _ | exact vaO_avoid _ | exact tab_avoid _ _ rfl rfl | exact wlk_avoid _ _ _ rfl rfl rfl)⟩, ⟨_, rfl, (by first | rfl | exact slO_avoid _ _ | exact vaO_avoid _ | exact tab_avoid _ _ rfl rfl | exact wlk_avoid _ _ _ rfl rfl rfl)⟩, ⟨_, rfl, (by first | rfl | exact slO_avoid _ _ | exact vaO_avoid _ | exact tab_avoid _ _ rfl rfl | exact wlk_avoid _ _ _ rfl rfl rfl)⟩, ⟨_, rfl, (by first | rfl | exact slO_avoid _ _ | exact vaO_avoid _ | exact tab_avoid _ _ rfl rfl | exact wlk_avoid _ _ _ rfl rfl rfl)⟩, ⟨_, rfl, (by first | rfl | exact slO_avoid _ _ | exact vaO_avoid _ | exact tab_avoid _ _ rfl rfl | exact wlk_avoid _ _ _ rfl rfl rfl)⟩, trivial⟩ rfl (hres_cons rfl (hres_cons rfl (hres_cons rfl (hres_cons rfl (hres_cons rfl (hres_cons rfl (hres_nil _))))))) ⟨⟨_, rfl, rfl, (by first | rfl | exact slO_avoid _ _ | exact vaO_avoid _ | exact tab_avoid _ _ rfl rfl | exact wlk_avoid _ _ _ rfl rfl rfl)⟩, ⟨_, rfl, rfl, (by first | rfl | exact slO_avoid _ _ | exact vaO_avoid _ | exact tab_avoid _ _ rfl rfl | exact wlk_avoid _ _ _ rfl rfl rfl)⟩, ⟨_, rfl, rfl, (by first | rfl | exact slO_avoid _ _ | exact vaO_avoid _ | exact tab_avoid _ _ rfl rfl | exact wlk_avoid _ _ _ rfl rfl rfl)⟩, ⟨_, rfl, rfl, (by first | rfl | exact slO_avoid _ _ | exact vaO_avoid _ | exact tab_avoid _ _ rfl rfl | exact wlk_avoid _ _ _ rfl rfl rfl)⟩, ⟨_, rfl, rfl, (by first | rfl | exact slO_avoid _ _ | exact vaO_avoid _ | exact tab_avoid _ _ rfl rfl | exact wlk_avoid _ _ _ rfl rfl rfl)⟩, ⟨_, rfl, rfl, (by first | rfl | exact slO_avoid _ _ | exact vaO_avoid _ | exact tab_avoid _ _ rfl rfl | exact wlk_avoid _ _ _ rfl rfl rfl)⟩, trivial⟩ rfl (happensb_ok first R m w h (by omega) t (rget w.vals t.a) 0)) ?_
          refine DOps.nil (by kernel_rfl) ?_
          refine ⟨[], trivial, rfl, ?_⟩
          rw [vstep9 ho]
          exact HSub.put (HSub.put (HSub.put (HSub.put (HSub.put (HSub.put (HSub.none _) rfl) rfl) rfl) rfl) rfl) rfl
         ·
          refine AGo.cond_false false rfl rfl ?_
          refine AGo.seq ?_
          refine AGo.region ?_
          refine aq 137 (q_bin rfl rfl rfl rfl) ?_
          refine aa 136 ?_
          refine AOps.nil ?_
          refine AGo.split 136 rfl (fun hb10 => ?_) (fun hb10 => ?_)
          ·
           refine AGo.cond_true true rfl rfl ?_
           have ho : t.op = 10 := by simpa using hb10
           
           refine AGo.seq ?_
           refine AGo.region ?_
           refine am 138 ?_
           refine al 139 tok ?_
           refine ax 140 (o_call (hc := (hput (hput (hput (hput (hput (hput hNew 3 (.map (kvsA .i64 (vmap first ((w).K))))) 4 (.row false 3 [[.int .i64 first, .map 3, slA 9 (((w).K).map (arrAV .i64))]])) 9 (slO 4 (((w).K).map (arrAV .i64)))) 8 (.row false 4 [[.ptr 4 1 0 0, vaA 7 (valC ((w).vals)), slA 11 (((w).effs).map (arrAV .i64)), .int .i64 ((w).time)]])) 7 (vaO (valC ((w).vals)))) 11 (slO 6 (((w).effs).map (arrAV .i64))))) (hw := (hput (hput (hput (hput (hput (hput hNone 3 (.map (kvsA .i64 (vmap first (((w.hap t 0 0)).K))))) 4 (.row false 3 [[.int .i64 first, .map 3, slA 9 ((((w.hap t 0 0)).K).map (arrAV .i64))]])) 9 (slO 4 ((((w.hap t 0 0)).K).map (arrAV .i64)))) 8 (.row false 4 [[.ptr 4 1 0 0, vaA 7 (valC (((w.hap t 0 0)).vals)), slA 11 ((((w.hap t 0 0)).effs).map (arrAV .i64)), .int .i64 (((w.hap t 0 0)).time)]])) 7 (vaO (valC (((w.hap t 0 0)).vals)))) 11 (slO 6 ((((w.hap t 0 0)).effs).map (arrAV .i64))))) [11, 7, 8, 9, 4, 3] [(3, (.map (kvsA .i64 (vmap first (((w.hap t 0 0)).K))))), (4, (.row false 3 [[.int .i64 first, .map 3, slA 9 ((((w.hap t 0 0)).K).map (arrAV .i64))]])), (9, (slO 4 ((((w.hap t 0 0)).K).map (arrAV .i64)))), (8, (.row false 4 [[.ptr 4 1 0 0, vaA 7 (valC (((w.hap t 0 0)).vals)), slA 11 ((((w.hap t 0 0)).effs).map (arrAV .i64)), .int .i64 (((w.hap t 0 0)).time)]])), (7, (vaO (valC (((w.hap t 0 0)).vals)))), (11, (slO 6 ((((w.hap t 0 0)).effs).map (arrAV .i64))))] rfl Try.func47 (by kernel_rfl) rfl rfl rfl ⟨⟨_, rfl, (by first | rfl | exact slO_avoid _ _ | exact vaO_avoid _ | exact tab_avoid _ _ rfl rfl | exact wlk_avoid _ _ _ rfl rfl rfl)⟩, ⟨_, rfl, (by first | rfl | exact slO_avoid _ _ | exact vaO_avoid _ | exact tab_avoid _ _ rfl rfl | exact wlk_avoid _ _ _ rfl rfl rfl)⟩, ⟨_, rfl, (by first | rfl | exact slO_avoid _ _ | exact vaO_avoid _ | exact tab_avoid _ _ rfl rfl | exact wlk_avoid _ _ _ rfl rfl rfl)⟩, ⟨_, rfl, (by first | rfl | exact slO_avoid _ _ | exact vaO_avoid _ | exact tab_avoid _ _ rfl rfl | exact wlk_avoid _ _ _ rfl rfl rfl)⟩, ⟨_, rfl, (by first | rfl | exact slO_avoid _ _ | exact vaO_avoid _ | exact tab_avoid _ _ rfl rfl | exact wlk_avoid _ _ _ rfl rfl rfl)⟩, ⟨_, rfl, (by first | rfl | exact slO_avoid _ _ | exact vaO_avoid _ | exact tab_avoid _ _ rfl rfl | exact wlk_avoid _ _ _ rfl rfl rfl)⟩, trivial⟩ rfl (hres_cons rfl (hres_cons rfl (hres_cons rfl (hres_cons rfl (hres_cons rfl (hres_cons rfl (hres_nil _))))))) ⟨⟨_, rfl, rfl, (by first | rfl | exact slO_avoid _ _ | exact vaO_avoid _ | exact tab_avoid _ _ rfl rfl | exact wlk_avoid _ _ _ rfl rfl rfl)⟩, ⟨_, rfl, rfl, (by first | rfl | exact slO_avoid _ _ | exact vaO_avoid _ | exact tab_avoid _ _ rfl rfl | exact wlk_avoid _ _ _ rfl rfl rfl)⟩, ⟨_, rfl, rfl, (by first | rfl | exact slO_avoid _ _ | exact vaO_avoid _ | exact tab_avoid _ _ rfl rfl | exact wlk_avoid _ _ _ rfl rfl rfl)⟩, ⟨_, rfl, rfl, (by first | rfl | exact slO_avoid _ _ | exact vaO_avoid _ | exact tab_avoid _ _ rfl rfl | exact wlk_avoid _ _ _ rfl rfl rfl)⟩, ⟨_, rfl, rfl, (by first | rfl | exact slO_avoid _ _ | exact vaO_avoid _ | exact tab_avoid _ _ rfl rfl | exact wlk_avoid _ _ _ rfl rfl rfl)⟩, ⟨_, rfl, rfl, (by first | rfl | exact slO_avoid _ _ | exact vaO_avoid _ | exact tab_avoid _ _ rfl rfl | exact wlk_avoid _ _ _ rfl rfl rfl)⟩, trivial⟩ rfl (happensb_ok first R m w h (by omega) t 0 0)) ?_
           refine AOps.nil ?_
           refine AGo.region ?_
           refine am 141 ?_
           refine aq 142 (q_nilCheck rfl rfl rfl) ?_
           refine af 143 tok ?_
           refine al 144 tok ?_
           refine aq 145 (q_bin (r := .int .i64 (w.time + 1)) rfl rfl rfl (by exact timeZ (x := w.time) (by omega))) ?_
           refine aq 146 (q_nilCheck rfl rfl rfl) ?_
           refine af 147 tok ?_
           refine AOps.w rfl rfl (o_store tok rfl rfl rfl rfl rfl rfl rfl rfl rfl (by decide) rfl (by first | exact fun _ => rfl | (intro h; cases h))) ?_
           refine AOps.nil ?_
           refine ⟨[], trivial, rfl, ?_⟩
           rw [vstep10 ho]
           exact HSub.put (HSub.put (HSub.put (HSub.put (HSub.put (HSub.put (HSub.none _) rfl) rfl) rfl) rfl) rfl) rfl
          ·
           refine AGo.cond_false false rfl rfl ?_
           refine AGo.skip ?_
           refine ⟨[], trivial, rfl, ?_⟩
           rw [vstep0 hb1 hb2 hb3 hb4 hb5 hb6 hb7 hb8 hb9 hb10]
           exact HSub.put (HSub.put (HSub.put (HSub.put (HSub.put (HSub.put (HSub.none _) rfl) rfl) rfl) rfl) rfl) rfl

end Go.Proofs.Ytpijoieooikfgaa.Sv

namespace Go.Proofs.Ytpijoieooikfgaa.Sv
open Go

set_option maxHeartbeats 1000000 in
set_option maxRecDepth 100000 in
theorem happensa_ok (first : Int) (R m : Nat) (w : VW) (h : VOk first R m w) (hm : m ≤ 90000) (t : Tac) (a b : Int) : ACall Try.prog 47 [.ptr 6 1 0 0, .agg t.cells, .int .i64 a, .int .i64 b] (hput (hput (hput (hput (hput (hput hNew 3 (.map (kvsA .i64 (vmap first ((w).K))))) 4 (.row false 3 [[.int .i64 first, .map 3, slA 9 (((w).K).map (arrAV .i64))]])) 9 (slO 4 (((w).K).map (arrAV .i64)))) 6 (.row false 4 [[.ptr 4 1 0 0, vaA 5 (valC ((w).vals)), slA 10 (((w).effs).map (arrAV .i64)), .int .i64 ((w).time)]])) 5 (vaO (valC ((w).vals)))) 10 (slO 6 (((w).effs).map (arrAV .i64)))) (fun r h' => r = .tup [] ∧ HSub (hput (hput (hput (hput (hput (hput hNone 3 (.map (kvsA .i64 (vmap first (((w.hap t a b)).K))))) 4 (.row false 3 [[.int .i64 first, .map 3, slA 9 ((((w.hap t a b)).K).map (arrAV .i64))]])) 9 (slO 4 ((((w.hap t a b)).K).map (arrAV .i64)))) 6 (.row false 4 [[.ptr 4 1 0 0, vaA 5 (valC (((w.hap t a b)).vals)), slA 10 ((((w.hap t a b)).effs).map (arrAV .i64)), .int .i64 (((w.hap t a b)).time)]])) 5 (vaO (valC (((w.hap t a b)).vals)))) 10 (slO 6 ((((w.hap t a b)).effs).map (arrAV .i64)))) h') := by
 have hel := h.el
 refine ACall.of_body (n := 26) tok Try.func47 rfl rfl ?_
 refine AGo.seq ?_
 refine AGo.region ?_
 refine ax 5 (o_box (sz := 8) 12 rfl rfl rfl rfl (Nat.zero_lt_succ _) rfl) ?_
 refine AOps.nil ?_
 refine AGo.draw mix ?_
 refine dm 8 ?_
 refine dm 9 ?_
 refine dq 10 (q_nilCheck rfl rfl rfl) ?_
 refine df 11 tok ?_
 refine dl 12 tok ?_
 refine df 13 tok ?_
 refine dl 14 tok ?_
 refine df 15 tok ?_
 refine dl 16 tok ?_
 refine df 17 tok ?_
 refine dl 18 tok ?_
 refine dm 19 ?_
 refine dm 20 ?_
 refine dq 21 (q_build_arr tok rfl rfl rfl rfl rfl rfl (by decide) rfl rfl) ?_
 refine dx 22 (o_lit' tok rfl rfl rfl rfl rfl rfl (by decide) rfl rfl rfl rfl rfl rfl) ?_
 refine dx 23 (o_append1J tok (b := 10) (es := ((w.effs).map (arrAV .i64))) rfl rfl rfl rfl rfl rfl rfl rfl rfl rfl rfl (Nat.zero_lt_succ _) (arr_len h.e6) (arr_pure _) rfl rfl (by rw [List.length_map]; show _ * 48 ≤ _; omega) (by rw [List.length_map]; simp only [maxLen]; omega)) ?_
 refine dq 24 (q_nilCheck rfl rfl rfl) ?_
 refine df 25 tok ?_
 refine DOps.w rfl rfl (o_store1 tok rfl rfl rfl rfl rfl rfl rfl rfl rfl (slA_cells _ _) (by decide) (slA_cell1 _ _) (by intro h; cases h)) ?_
 refine DOps.nil (by kernel_rfl) ?_
 refine ⟨[], trivial, rfl, ?_⟩
 exact HSub.put (HSub.put (HSub.put (HSub.put (HSub.put (HSub.put (HSub.none _) rfl) rfl) rfl) (by show _ = some (AObj.row false 4 [[.ptr 4 1 0 0, vaA 5 (valC (w.vals)), slA 10 ((w.effs ++ [_]).map (arrAV .i64)), .int .i64 w.time]]); rw [List.map_append]; rfl)) rfl) (by show _ = some (slO 6 ((w.effs ++ [_]).map (arrAV .i64))); rw [List.map_append]; rfl)

set_option maxHeartbeats 1000000 in
set_option maxRecDepth 100000 in
theorem unknowna_ok (first : Int) (R m : Nat) (w : VW) (h : VOk first R m w) (hm : m ≤ 90000) : ACall Try.prog 48 [.ptr 6 1 0 0] (hput (hput (hput (hput (hput (hput hNew 3 (.map (kvsA .i64 (vmap first ((w).K))))) 4 (.row false 3 [[.int .i64 first, .map 3, slA 9 (((w).K).map (arrAV .i64))]])) 9 (slO 4 (((w).K).map (arrAV .i64)))) 6 (.row false 4 [[.ptr 4 1 0 0, vaA 5 (valC ((w).vals)), slA 10 (((w).effs).map (arrAV .i64)), .int .i64 ((w).time)]])) 5 (vaO (valC ((w).vals)))) 10 (slO 6 (((w).effs).map (arrAV .i64)))) (fun r h' => r = .int .i64 (vunk first w).1 ∧ HSub (hput (hput (hput (hput (hput (hput hNone 3 (.map (kvsA .i64 (vmap first ((vunk first w).2))))) 4 (.row false 3 [[.int .i64 first, .map 3, slA 9 (((vunk first w).2).map (arrAV .i64))]])) 9 (slO 4 (((vunk first w).2).map (arrAV .i64)))) 6 (.row false 4 [[.ptr 4 1 0 0, vaA 5 (valC ((w).vals)), slA 10 (((w).effs).map (arrAV .i64)), .int .i64 ((w).time)]])) 5 (vaO (valC ((w).vals)))) 10 (slO 6 (((w).effs).map (arrAV .i64)))) h') := by
 have hkl := h.kl
 refine ACall.of_body (n := 14) tok Try.func48 rfl rfl ?_
 refine AGo.seq ?_
 refine AGo.region ?_
 refine aa 2 ?_
 refine AOps.nil ?_
 refine AGo.seq ?_
 refine AGo.draw mix ?_
 refine dm 3 ?_
 refine dq 4 (q_nilCheck rfl rfl rfl) ?_
 refine df 5 tok ?_
 refine dl 6 tok ?_
 refine dm 7 ?_
 refine dq 8 (q_nilCheck rfl rfl rfl) ?_
 refine df 9 tok ?_
 refine dl 10 tok ?_
 refine dq 11 (q_lenJ tok rfl rfl rfl rfl) ?_
 refine dq 12 (q_build_arr tok rfl rfl rfl rfl rfl rfl (by decide) rfl rfl) ?_
 refine dx 13 (o_call (hc := (hput (hput (hput hNew 3 (.map (kvsA .i64 (vmap first (w.K))))) 4 (.row false 3 [[.int .i64 first, .map 3, slA 9 ((w.K).map (arrAV .i64))]])) 9 (slO 4 ((w.K).map (arrAV .i64))))) (hw := (hput (hput (hput hNone 3 (.map (kvsA .i64 (vmap first ((vunk first w).2))))) 4 (.row false 3 [[.int .i64 first, .map 3, slA 9 (((vunk first w).2).map (arrAV .i64))]])) 9 (slO 4 (((vunk first w).2).map (arrAV .i64))))) [9, 4, 3] [(3, (.map (kvsA .i64 (vmap first ((vunk first w).2))))), (4, (.row false 3 [[.int .i64 first, .map 3, slA 9 (((vunk first w).2).map (arrAV .i64))]])), (9, (slO 4 (((vunk first w).2).map (arrAV .i64))))] rfl Try.func45 (by kernel_rfl) rfl rfl rfl ⟨⟨_, rfl, (by first | rfl | exact slO_avoid _ _ | exact vaO_avoid _ | exact tab_avoid _ _ rfl rfl | exact wlk_avoid _ _ _ rfl rfl rfl)⟩, ⟨_, rfl, (by first | rfl | exact slO_avoid _ _ | exact vaO_avoid _ | exact tab_avoid _ _ rfl rfl | exact wlk_avoid _ _ _ rfl rfl rfl)⟩, ⟨_, rfl, (by first | rfl | exact slO_avoid _ _ | exact vaO_avoid _ | exact tab_avoid _ _ rfl rfl | exact wlk_avoid _ _ _ rfl rfl rfl)⟩, trivial⟩ rfl (hres_cons rfl (hres_cons rfl (hres_cons rfl (hres_nil _)))) ⟨⟨_, rfl, rfl, (by first | rfl | exact slO_avoid _ _ | exact vaO_avoid _ | exact tab_avoid _ _ rfl rfl | exact wlk_avoid _ _ _ rfl rfl rfl)⟩, ⟨_, rfl, rfl, (by first | rfl | exact slO_avoid _ _ | exact vaO_avoid _ | exact tab_avoid _ _ rfl rfl | exact wlk_avoid _ _ _ rfl rfl rfl)⟩, ⟨_, rfl, rfl, (by first | rfl | exact slO_avoid _ _ | exact vaO_avoid _ | exact tab_avoid _ _ rfl rfl | exact wlk_avoid _ _ _ rfl rfl rfl)⟩, trivial⟩ rfl ((by rw [List.length_map]; exact number_ok first w.K h.f h.k4 (by omega) 4 (w.effs.length : Int) 0 0))) ?_
 refine da 2 ?_
 refine DOps.nil (by kernel_rfl) ?_
 refine AGo.ret ?_
 refine ⟨[_], ⟨rfl, trivial⟩, rfl, ?_⟩
 exact HSub.put (HSub.put (HSub.put (HSub.put (HSub.put (HSub.put (HSub.none _) rfl) rfl) rfl) rfl) rfl) rfl

end Go.Proofs.Ytpijoieooikfgaa.Sv

namespace Go.Proofs.Ytpijoieooikfgaa.Sv
open Go

theorem bin_da (first : Int) (w : VW) (t : Tac) : w.bin first t = ⟨(vapply first w.K t.k (rget w.vals t.a) (rget w.vals t.b)).2, rset w.vals t.d (vapply first w.K t.k (rget w.vals t.a) (rget w.vals t.b)).1, (w.div first t).effs, w.time⟩ := by
  cases hr : vrisky first w t with
  | true => rw [bin_yes hr]; simp only [VW.div, hr, cond_true]
  | false => rw [bin_no hr]; simp only [VW.div, hr, cond_false]
set_option maxHeartbeats 2000000 in
set_option maxRecDepth 100000 in
theorem binarya_ok (first : Int) (R m : Nat) (w : VW) (h : VOk first R m w) (hm : m ≤ 90000) (t : Tac) (hd : 0 ≤ t.d ∧ t.d < R) (ha : 0 ≤ t.a ∧ t.a < R) (hb : 0 ≤ t.b ∧ t.b < R) : ACall Try.prog 46 [.ptr 6 1 0 0, .agg t.cells] (hput (hput (hput (hput (hput (hput hNew 3 (.map (kvsA .i64 (vmap first ((w).K))))) 4 (.row false 3 [[.int .i64 first, .map 3, slA 9 (((w).K).map (arrAV .i64))]])) 9 (slO 4 (((w).K).map (arrAV .i64)))) 6 (.row false 4 [[.ptr 4 1 0 0, vaA 5 (valC ((w).vals)), slA 10 (((w).effs).map (arrAV .i64)), .int .i64 ((w).time)]])) 5 (vaO (valC ((w).vals)))) 10 (slO 6 (((w).effs).map (arrAV .i64)))) (fun r h' => r = .tup [] ∧ HSub (hput (hput (hput (hput (hput (hput hNone 3 (.map (kvsA .i64 (vmap first (((w.bin first t)).K))))) 4 (.row false 3 [[.int .i64 first, .map 3, slA 9 ((((w.bin first t)).K).map (arrAV .i64))]])) 9 (slO 4 ((((w.bin first t)).K).map (arrAV .i64)))) 6 (.row false 4 [[.ptr 4 1 0 0, vaA 5 (valC (((w.bin first t)).vals)), slA 10 ((((w.bin first t)).effs).map (arrAV .i64)), .int .i64 (((w.bin first t)).time)]])) 5 (vaO (valC (((w.bin first t)).vals)))) 10 (slO 6 ((((w.bin first t)).effs).map (arrAV .i64)))) h') := by
 have hel := h.el
 have hkl := h.kl
 have hxd := h.at hd
 have hxa := h.at ha
 have hxb := h.at hb
 refine ACall.of_body (n := 77) tok Try.func46 rfl rfl ?_
 refine AGo.seq ?_
 refine AGo.region ?_
 refine ax 3 (o_box (sz := 8) 12 rfl rfl rfl rfl (Nat.zero_lt_succ _) rfl) ?_
 refine AOps.nil ?_
 refine AGo.seq ?_
 refine AGo.draw mix ?_
 refine dm 8 ?_
 refine dq 9 (q_nilCheck rfl rfl rfl) ?_
 refine df 10 tok ?_
 refine dl 11 tok ?_
 refine df 12 tok ?_
 refine dl 13 tok ?_
 refine dq 14 (q_indexV tok rfl rfl rfl rfl rfl rfl rfl rfl hxa.1 hxa.2.2.1) ?_
 refine dq 15 (q_load tok rfl rfl rfl (ptsV rfl (valC_get ⟨hxa.1, hxa.2.1⟩)) rfl) ?_
 refine dm 16 ?_
 refine dq 17 (q_nilCheck rfl rfl rfl) ?_
 refine df 18 tok ?_
 refine dl 19 tok ?_
 refine df 20 tok ?_
 refine dl 21 tok ?_
 refine dq 22 (q_indexV tok rfl rfl rfl rfl rfl rfl rfl rfl hxb.1 hxb.2.2.1) ?_
 refine dq 23 (q_load tok rfl rfl rfl (ptsV rfl (valC_get ⟨hxb.1, hxb.2.1⟩)) rfl) ?_
 refine da 4 ?_
 refine da 5 ?_
 refine DOps.nil (by kernel_rfl) ?_
 refine AGo.seq ?_
 refine AGo.seq ?_
 refine AGo.join (γ := Unit) (fun _u => ⟨77, (eput (eput (eput (eput (eput eNew 0 (.ptr 6 1 0 0)) 3 (.ptr 12 1 0 0)) 4 (.int .i64 (rget w.vals t.a))) 5 (.int .i64 (rget w.vals t.b))) 31 (.bool (t.k == 7 || t.k == 8))), (hput (hput (hput (hput (hput (hput (hput (hFrom 13) 12 (.row false 8 [t.cells])) 3 (.map (kvsA .i64 (vmap first ((w).K))))) 4 (.row false 3 [[.int .i64 first, .map 3, slA 9 (((w).K).map (arrAV .i64))]])) 9 (slO 4 (((w).K).map (arrAV .i64)))) 6 (.row false 4 [[.ptr 4 1 0 0, vaA 5 (valC ((w).vals)), slA 10 (((w).effs).map (arrAV .i64)), .int .i64 ((w).time)]])) 5 (vaO (valC ((w).vals)))) 10 (slO 6 (((w).effs).map (arrAV .i64))))⟩) (fun _u => True) ?_ ?_
 ·
  refine AGo.region ?_
  refine af 24 tok ?_
  refine al 25 tok ?_
  refine aq 26 (q_bin rfl rfl rfl rfl) ?_
  refine am 27 ?_
  refine AOps.split 27 rfl (fun hb1 => ?_) (fun hb1 => ?_)
  ·
   refine ak 28 ?_
   refine ak 29 ?_
   refine ak 30 ?_
   refine aq 31 (q_pick_true true rfl rfl rfl rfl) ?_
   refine AOps.nil ?_
   exact ⟨(), Sub.mk' (by repeat (first | exact ESub.new _ | refine ESub.put ?_ (by first | rfl | exact congrArg (fun c => some (AV.bool c)) (by simp_all)))) (by repeat (first | exact HSub.refl _ | exact HSub.none _ | exact HSub.from_new _ | exact HSub.from_from (by first | decide | omega | (dsimp only; omega)) | refine HSub.put ?_ (by rfl) | refine HSub.from_put ?_ (by first | decide | omega | (dsimp only; omega)) | refine HSub.from_rm ?_ (by decide))), trivial⟩
  ·
   refine af 28 tok ?_
   refine al 29 tok ?_
   refine aq 30 (q_bin rfl rfl rfl rfl) ?_
   refine aq 31 (q_pick_false false rfl rfl rfl rfl) ?_
   refine AOps.nil ?_
   exact ⟨(), Sub.mk' (by repeat (first | exact ESub.new _ | refine ESub.put ?_ (by first | rfl | exact congrArg (fun c => some (AV.bool c)) (by simp_all)))) (by repeat (first | exact HSub.refl _ | exact HSub.none _ | exact HSub.from_new _ | exact HSub.from_from (by first | decide | omega | (dsimp only; omega)) | refine HSub.put ?_ (by rfl) | refine HSub.from_put ?_ (by first | decide | omega | (dsimp only; omega)) | refine HSub.from_rm ?_ (by decide))), trivial⟩
 intro _u _
 refine AGo.join (γ := Unit) (fun _u => ⟨77, (eput (eput (eput (eput eNew 0 (.ptr 6 1 0 0)) 3 (.ptr 12 1 0 0)) 4 (.int .i64 (rget w.vals t.a))) 5 (.int .i64 (rget w.vals t.b))), (hput (hput (hput (hput (hput (hput (hput (hFrom 13) 12 (.row false 8 [t.cells])) 3 (.map (kvsA .i64 (vmap first (w.K))))) 4 (.row false 3 [[.int .i64 first, .map 3, slA 9 ((w.K).map (arrAV .i64))]])) 9 (slO 4 ((w.K).map (arrAV .i64)))) 6 (.row false 4 [[.ptr 4 1 0 0, vaA 5 (valC ((w).vals)), slA 10 (((w.div first t).effs).map (arrAV .i64)), .int .i64 (w.time)]])) 5 (vaO (valC ((w).vals)))) 10 (slO 6 (((w.div first t).effs).map (arrAV .i64))))⟩) (fun _u => True) ?_ ?_
 ·
  refine AGo.split 31 rfl (fun hb2 => ?_) (fun hb2 => ?_)
  ·
   refine AGo.cond_true true rfl rfl ?_
   refine AGo.seq ?_
   refine AGo.region ?_
   refine am 33 ?_
   refine aq 34 (q_nilCheck rfl rfl rfl) ?_
   refine af 35 tok ?_
   refine al 36 tok ?_
   refine am 37 ?_
   refine ax 38 (o_call (hc := (hput (hput (hput hNew 3 (.map (kvsA .i64 (vmap first (w.K))))) 4 (.row false 3 [[.int .i64 first, .map 3, slA 9 ((w.K).map (arrAV .i64))]])) 9 (slO 4 ((w.K).map (arrAV .i64))))) (hw := (hput (hput (hput hNone 3 (.map (kvsA .i64 (vmap first (w.K))))) 4 (.row false 3 [[.int .i64 first, .map 3, slA 9 ((w.K).map (arrAV .i64))]])) 9 (slO 4 ((w.K).map (arrAV .i64))))) [9, 4, 3] [(3, (.map (kvsA .i64 (vmap first (w.K))))), (4, (.row false 3 [[.int .i64 first, .map 3, slA 9 ((w.K).map (arrAV .i64))]])), (9, (slO 4 ((w.K).map (arrAV .i64))))] rfl Try.func56 (by kernel_rfl) rfl rfl rfl ⟨⟨_, rfl, (by first | rfl | exact slO_avoid _ _ | exact vaO_avoid _ | exact tab_avoid _ _ rfl rfl | exact wlk_avoid _ _ _ rfl rfl rfl)⟩, ⟨_, rfl, (by first | rfl | exact slO_avoid _ _ | exact vaO_avoid _ | exact tab_avoid _ _ rfl rfl | exact wlk_avoid _ _ _ rfl rfl rfl)⟩, ⟨_, rfl, (by first | rfl | exact slO_avoid _ _ | exact vaO_avoid _ | exact tab_avoid _ _ rfl rfl | exact wlk_avoid _ _ _ rfl rfl rfl)⟩, trivial⟩ rfl (hres_cons rfl (hres_cons rfl (hres_cons rfl (hres_nil _)))) ⟨⟨_, rfl, rfl, (by first | rfl | exact slO_avoid _ _ | exact vaO_avoid _ | exact tab_avoid _ _ rfl rfl | exact wlk_avoid _ _ _ rfl rfl rfl)⟩, ⟨_, rfl, rfl, (by first | rfl | exact slO_avoid _ _ | exact vaO_avoid _ | exact tab_avoid _ _ rfl rfl | exact wlk_avoid _ _ _ rfl rfl rfl)⟩, ⟨_, rfl, rfl, (by first | rfl | exact slO_avoid _ _ | exact vaO_avoid _ | exact tab_avoid _ _ rfl rfl | exact wlk_avoid _ _ _ rfl rfl rfl)⟩, trivial⟩ rfl (constant_ok first w.K h.f h.k4 (by omega) (rget w.vals t.b) hxb.2.2.2)) ?_
   refine am 32 ?_
   refine aq 39 (q_extract rfl rfl rfl) ?_
   refine aq 40 (q_extract rfl rfl rfl) ?_
   refine aa 6 ?_
   refine aa 7 ?_
   refine AOps.nil ?_
   refine AGo.seq ?_
   refine AGo.region ?_
   refine am 41 ?_
   refine aq 42 (q_not rfl rfl) ?_
   refine am 43 ?_
   refine AOps.split 43 rfl (fun hb3 => ?_) (fun hb3 => ?_)
   ·
    refine ak 44 ?_
    refine ak 45 ?_
    refine aq 46 (q_pick_true true rfl rfl rfl rfl) ?_
    refine AOps.nil ?_
    refine AGo.cond_true true rfl rfl ?_
    refine AGo.draw mix ?_
    refine dm 47 ?_
    refine dm 48 ?_
    refine dq 49 (q_nilCheck rfl rfl rfl) ?_
    refine df 50 tok ?_
    refine dl 51 tok ?_
    refine df 52 tok ?_
    refine dl 53 tok ?_
    refine dm 54 ?_
    refine dm 55 ?_
    refine dq 56 (q_build_arr tok rfl rfl rfl rfl rfl rfl (by decide) rfl rfl) ?_
    refine dx 57 (o_lit' tok rfl rfl rfl rfl rfl rfl (by decide) rfl rfl rfl rfl rfl rfl) ?_
    refine dx 58 (o_append1J tok (b := 10) (es := ((w.effs).map (arrAV .i64))) rfl rfl rfl rfl rfl rfl rfl rfl rfl rfl rfl (Nat.zero_lt_succ _) (arr_len h.e6) (arr_pure _) rfl rfl (by rw [List.length_map]; show _ * 48 ≤ _; omega) (by rw [List.length_map]; simp only [maxLen]; omega)) ?_
    refine dq 59 (q_nilCheck rfl rfl rfl) ?_
    refine df 60 tok ?_
    refine DOps.w rfl rfl (o_store1 tok rfl rfl rfl rfl rfl rfl rfl rfl rfl (slA_cells _ _) (by decide) (slA_cell1 _ _) (by intro h; cases h)) ?_
    refine DOps.nil (by kernel_rfl) ?_
    exact ⟨(), Sub.mk' (by repeat (first | exact ESub.new _ | refine ESub.put ?_ (by rfl))) (by repeat (first | exact HSub.refl _ | exact HSub.none _ | exact HSub.from_new _ | exact HSub.from_from (by first | decide | omega | (dsimp only; omega)) | refine HSub.put ?_ (by first | rfl | ((have hr : vrisky first w t = true := by (first | (simp [vrisky, *]; done) | (simp_all [vrisky]; done))); simp only [VW.div, hr, cond_true, cond_false, List.map_append]; rfl) | ((have hr : vrisky first w t = false := by (first | (simp [vrisky, *]; done) | (simp_all [vrisky]; done))); simp only [VW.div, hr, cond_true, cond_false, List.map_append]; rfl)) | refine HSub.from_put ?_ (by first | decide | omega | (dsimp only; omega)) | refine HSub.from_rm ?_ (by decide))), trivial⟩
   ·
    refine am 44 ?_
    refine aq 45 (q_bin rfl rfl rfl rfl) ?_
    refine aq 46 (q_pick_false false rfl rfl rfl rfl) ?_
    refine AOps.nil ?_
    refine AGo.split 46 rfl (fun hb4 => ?_) (fun hb4 => ?_)
    ·
     refine AGo.cond_true true rfl rfl ?_
     refine AGo.draw mix ?_
     refine dm 47 ?_
     refine dm 48 ?_
     refine dq 49 (q_nilCheck rfl rfl rfl) ?_
     refine df 50 tok ?_
     refine dl 51 tok ?_
     refine df 52 tok ?_
     refine dl 53 tok ?_
     refine dm 54 ?_
     refine dm 55 ?_
     refine dq 56 (q_build_arr tok rfl rfl rfl rfl rfl rfl (by decide) rfl rfl) ?_
     refine dx 57 (o_lit' tok rfl rfl rfl rfl rfl rfl (by decide) rfl rfl rfl rfl rfl rfl) ?_
     refine dx 58 (o_append1J tok (b := 10) (es := ((w.effs).map (arrAV .i64))) rfl rfl rfl rfl rfl rfl rfl rfl rfl rfl rfl (Nat.zero_lt_succ _) (arr_len h.e6) (arr_pure _) rfl rfl (by rw [List.length_map]; show _ * 48 ≤ _; omega) (by rw [List.length_map]; simp only [maxLen]; omega)) ?_
     refine dq 59 (q_nilCheck rfl rfl rfl) ?_
     refine df 60 tok ?_
     refine DOps.w rfl rfl (o_store1 tok rfl rfl rfl rfl rfl rfl rfl rfl rfl (slA_cells _ _) (by decide) (slA_cell1 _ _) (by intro h; cases h)) ?_
     refine DOps.nil (by kernel_rfl) ?_
     exact ⟨(), Sub.mk' (by repeat (first | exact ESub.new _ | refine ESub.put ?_ (by rfl))) (by repeat (first | exact HSub.refl _ | exact HSub.none _ | exact HSub.from_new _ | exact HSub.from_from (by first | decide | omega | (dsimp only; omega)) | refine HSub.put ?_ (by first | rfl | ((have hr : vrisky first w t = true := by (first | (simp [vrisky, *]; done) | (simp_all [vrisky]; done))); simp only [VW.div, hr, cond_true, cond_false, List.map_append]; rfl) | ((have hr : vrisky first w t = false := by (first | (simp [vrisky, *]; done) | (simp_all [vrisky]; done))); simp only [VW.div, hr, cond_true, cond_false, List.map_append]; rfl)) | refine HSub.from_put ?_ (by first | decide | omega | (dsimp only; omega)) | refine HSub.from_rm ?_ (by decide))), trivial⟩
    ·
     refine AGo.cond_false false rfl rfl ?_
     refine AGo.skip ?_
     exact ⟨(), Sub.mk' (by repeat (first | exact ESub.new _ | refine ESub.put ?_ (by rfl))) (by repeat (first | exact HSub.refl _ | exact HSub.none _ | exact HSub.from_new _ | exact HSub.from_from (by first | decide | omega | (dsimp only; omega)) | refine HSub.put ?_ (by first | rfl | ((have hr : vrisky first w t = true := by (first | (simp [vrisky, *]; done) | (simp_all [vrisky]; done))); simp only [VW.div, hr, cond_true, cond_false, List.map_append]; rfl) | ((have hr : vrisky first w t = false := by (first | (simp [vrisky, *]; done) | (simp_all [vrisky]; done))); simp only [VW.div, hr, cond_true, cond_false, List.map_append]; rfl)) | refine HSub.from_put ?_ (by first | decide | omega | (dsimp only; omega)) | refine HSub.from_rm ?_ (by decide))), trivial⟩
  ·
   refine AGo.cond_false false rfl rfl ?_
   refine AGo.skip ?_
   exact ⟨(), Sub.mk' (by repeat (first | exact ESub.new _ | refine ESub.put ?_ (by rfl))) (by repeat (first | exact HSub.refl _ | exact HSub.none _ | exact HSub.from_new _ | exact HSub.from_from (by first | decide | omega | (dsimp only; omega)) | refine HSub.put ?_ (by first | rfl | ((have hr : vrisky first w t = true := by (first | (simp [vrisky, *]; done) | (simp_all [vrisky]; done))); simp only [VW.div, hr, cond_true, cond_false, List.map_append]; rfl) | ((have hr : vrisky first w t = false := by (first | (simp [vrisky, *]; done) | (simp_all [vrisky]; done))); simp only [VW.div, hr, cond_true, cond_false, List.map_append]; rfl)) | refine HSub.from_put ?_ (by first | decide | omega | (dsimp only; omega)) | refine HSub.from_rm ?_ (by decide))), trivial⟩
 intro _u _
 refine AGo.draw mix ?_
 refine dm 61 ?_
 refine dq 62 (q_nilCheck rfl rfl rfl) ?_
 refine df 63 tok ?_
 refine dl 64 tok ?_
 refine df 65 tok ?_
 refine dl 66 tok ?_
 refine dm 67 ?_
 refine dq 68 (q_nilCheck rfl rfl rfl) ?_
 refine df 69 tok ?_
 refine dl 70 tok ?_
 refine df 71 tok ?_
 refine dl 72 tok ?_
 refine dm 73 ?_
 refine dm 74 ?_
 refine dx 75 (o_call (hc := (hput (hput (hput hNew 3 (.map (kvsA .i64 (vmap first (w.K))))) 4 (.row false 3 [[.int .i64 first, .map 3, slA 9 ((w.K).map (arrAV .i64))]])) 9 (slO 4 ((w.K).map (arrAV .i64))))) (hw := (hput (hput (hput hNone 3 (.map (kvsA .i64 (vmap first ((vapply first w.K t.k (rget w.vals t.a) (rget w.vals t.b)).2))))) 4 (.row false 3 [[.int .i64 first, .map 3, slA 9 (((vapply first w.K t.k (rget w.vals t.a) (rget w.vals t.b)).2).map (arrAV .i64))]])) 9 (slO 4 (((vapply first w.K t.k (rget w.vals t.a) (rget w.vals t.b)).2).map (arrAV .i64))))) [9, 4, 3] [(3, (.map (kvsA .i64 (vmap first ((vapply first w.K t.k (rget w.vals t.a) (rget w.vals t.b)).2))))), (4, (.row false 3 [[.int .i64 first, .map 3, slA 9 (((vapply first w.K t.k (rget w.vals t.a) (rget w.vals t.b)).2).map (arrAV .i64))]])), (9, (slO 4 (((vapply first w.K t.k (rget w.vals t.a) (rget w.vals t.b)).2).map (arrAV .i64))))] rfl Try.func57 (by kernel_rfl) rfl rfl rfl ⟨⟨_, rfl, (by first | rfl | exact slO_avoid _ _ | exact vaO_avoid _ | exact tab_avoid _ _ rfl rfl | exact wlk_avoid _ _ _ rfl rfl rfl)⟩, ⟨_, rfl, (by first | rfl | exact slO_avoid _ _ | exact vaO_avoid _ | exact tab_avoid _ _ rfl rfl | exact wlk_avoid _ _ _ rfl rfl rfl)⟩, ⟨_, rfl, (by first | rfl | exact slO_avoid _ _ | exact vaO_avoid _ | exact tab_avoid _ _ rfl rfl | exact wlk_avoid _ _ _ rfl rfl rfl)⟩, trivial⟩ rfl (hres_cons rfl (hres_cons rfl (hres_cons rfl (hres_nil _)))) ⟨⟨_, rfl, rfl, (by first | rfl | exact slO_avoid _ _ | exact vaO_avoid _ | exact tab_avoid _ _ rfl rfl | exact wlk_avoid _ _ _ rfl rfl rfl)⟩, ⟨_, rfl, rfl, (by first | rfl | exact slO_avoid _ _ | exact vaO_avoid _ | exact tab_avoid _ _ rfl rfl | exact wlk_avoid _ _ _ rfl rfl rfl)⟩, ⟨_, rfl, rfl, (by first | rfl | exact slO_avoid _ _ | exact vaO_avoid _ | exact tab_avoid _ _ rfl rfl | exact wlk_avoid _ _ _ rfl rfl rfl)⟩, trivial⟩ rfl (vapply_ok' first w.K h.f h.k4 (by omega) t.k (rget w.vals t.a) (rget w.vals t.b) hxa.2.2.2 hxb.2.2.2)) ?_
 refine dq 76 (q_indexV tok rfl rfl rfl rfl rfl rfl rfl rfl hxd.1 hxd.2.2.1) ?_
 refine DOps.w rfl rfl (o_storeV tok rfl rfl rfl rfl rfl rfl rfl (by have h1 := hxd.2.2.1; have h0 := hxd.1; omega) (valC_one _) rfl rfl rfl) ?_
 refine DOps.nil (by kernel_rfl) ?_
 refine ⟨[], trivial, rfl, ?_⟩
 rw [bin_da]
 exact HSub.put (HSub.put (HSub.put (HSub.put (HSub.put (HSub.put (HSub.none _) rfl) rfl) rfl) (by show _ = some (AObj.row false 4 [[.ptr 4 1 0 0, vaA 5 (valC (rset w.vals t.d _)), slA 10 ((w.div first t).effs.map (arrAV .i64)), .int .i64 w.time]]); rw [valC_vaA]; rfl)) (by show _ = some (vaO (valC (rset w.vals t.d _))); rw [valC_set]; rfl)) rfl

end Go.Proofs.Ytpijoieooikfgaa.Sv

namespace Go.Proofs.Ytpijoieooikfgaa.Sv
open Go

set_option maxHeartbeats 2000000 in
set_option maxRecDepth 100000 in
theorem vstepa_ok (first : Int) (R m : Nat) (w : VW) (h : VOk first R m w) (hm : m ≤ 80000) (t : Tac) (ht : TacV t R) : ACall Try.prog 35 [.ptr 6 1 0 0, .agg t.cells] (hput (hput (hput (hput (hput (hput hNew 3 (.map (kvsA .i64 (vmap first ((w).K))))) 4 (.row false 3 [[.int .i64 first, .map 3, slA 9 (((w).K).map (arrAV .i64))]])) 9 (slO 4 (((w).K).map (arrAV .i64)))) 6 (.row false 4 [[.ptr 4 1 0 0, vaA 5 (valC ((w).vals)), slA 10 (((w).effs).map (arrAV .i64)), .int .i64 ((w).time)]])) 5 (vaO (valC ((w).vals)))) 10 (slO 6 (((w).effs).map (arrAV .i64)))) (fun r h' => r = .tup [] ∧ HSub (hput (hput (hput (hput (hput (hput hNone 3 (.map (kvsA .i64 (vmap first (((w.step first t)).K))))) 4 (.row false 3 [[.int .i64 first, .map 3, slA 9 ((((w.step first t)).K).map (arrAV .i64))]])) 9 (slO 4 ((((w.step first t)).K).map (arrAV .i64)))) 6 (.row false 4 [[.ptr 4 1 0 0, vaA 5 (valC (((w.step first t)).vals)), slA 10 ((((w.step first t)).effs).map (arrAV .i64)), .int .i64 (((w.step first t)).time)]])) 5 (vaO (valC (((w.step first t)).vals)))) 10 (slO 6 ((((w.step first t)).effs).map (arrAV .i64)))) h') := by
 have hel := h.el
 have hkl := h.kl
 have htl := h.tl
 refine ACall.of_body (n := 148) tok Try.func35 rfl rfl ?_
 refine AGo.seq ?_
 refine AGo.region ?_
 refine ax 3 (o_box (sz := 8) 12 rfl rfl rfl rfl (Nat.zero_lt_succ _) rfl) ?_
 refine AOps.nil ?_
 refine AGo.seq ?_
 refine AGo.region ?_
 refine am 5 ?_
 refine aq 6 (q_nilCheck rfl rfl rfl) ?_
 refine af 7 tok ?_
 refine al 8 tok ?_
 refine aa 4 ?_
 refine AOps.nil ?_
 refine AGo.seq ?_
 refine AGo.region ?_
 refine af 9 tok ?_
 refine al 10 tok ?_
 refine AOps.nil ?_
 refine AGo.block ?_
 refine AGo.seq ?_
 refine AGo.region ?_
 refine aq 12 (q_bin rfl rfl rfl rfl) ?_
 refine aa 11 ?_
 refine AOps.nil ?_
 refine AGo.split 11 rfl (fun hb1 => ?_) (fun hb1 => ?_)
 ·
  refine AGo.cond_true true rfl rfl ?_
  have ho : t.op = 1 := by simpa using hb1
  have hxd := h.at (ht.d (by rw [ho]; rfl))
  
  refine AGo.draw mix ?_
  refine dm 13 ?_
  refine df 14 tok ?_
  refine dl 15 tok ?_
  refine dm 16 ?_
  refine dq 17 (q_nilCheck rfl rfl rfl) ?_
  refine df 18 tok ?_
  refine dl 19 tok ?_
  refine df 20 tok ?_
  refine dl 21 tok ?_
  refine dq 22 (q_convTo tok rfl rfl rfl rfl rfl (r := t.n) (by obtain ⟨h1, h2⟩ := ht.n; exact wrap_i64 (by omega) (by omega))) ?_
  refine dq 23 (q_build_arr tok rfl rfl rfl rfl rfl rfl (by decide) rfl rfl) ?_
  refine dx 24 (o_call (hc := (hput (hput (hput hNew 3 (.map (kvsA .i64 (vmap first (w.K))))) 4 (.row false 3 [[.int .i64 first, .map 3, slA 9 ((w.K).map (arrAV .i64))]])) 9 (slO 4 ((w.K).map (arrAV .i64))))) (hw := (hput (hput (hput hNone 3 (.map (kvsA .i64 (vmap first ((vnum first w.K [1, t.n, 0, 0]).2))))) 4 (.row false 3 [[.int .i64 first, .map 3, slA 9 (((vnum first w.K [1, t.n, 0, 0]).2).map (arrAV .i64))]])) 9 (slO 4 (((vnum first w.K [1, t.n, 0, 0]).2).map (arrAV .i64))))) [9, 4, 3] [(3, (.map (kvsA .i64 (vmap first ((vnum first w.K [1, t.n, 0, 0]).2))))), (4, (.row false 3 [[.int .i64 first, .map 3, slA 9 (((vnum first w.K [1, t.n, 0, 0]).2).map (arrAV .i64))]])), (9, (slO 4 (((vnum first w.K [1, t.n, 0, 0]).2).map (arrAV .i64))))] rfl Try.func45 (by kernel_rfl) rfl rfl rfl ⟨⟨_, rfl, (by first | rfl | exact slO_avoid _ _ | exact vaO_avoid _ | exact tab_avoid _ _ rfl rfl | exact wlk_avoid _ _ _ rfl rfl rfl)⟩, ⟨_, rfl, (by first | rfl | exact slO_avoid _ _ | exact vaO_avoid _ | exact tab_avoid _ _ rfl rfl | exact wlk_avoid _ _ _ rfl rfl rfl)⟩, ⟨_, rfl, (by first | rfl | exact slO_avoid _ _ | exact vaO_avoid _ | exact tab_avoid _ _ rfl rfl | exact wlk_avoid _ _ _ rfl rfl rfl)⟩, trivial⟩ rfl (hres_cons rfl (hres_cons rfl (hres_cons rfl (hres_nil _)))) ⟨⟨_, rfl, rfl, (by first | rfl | exact slO_avoid _ _ | exact vaO_avoid _ | exact tab_avoid _ _ rfl rfl | exact wlk_avoid _ _ _ rfl rfl rfl)⟩, ⟨_, rfl, rfl, (by first | rfl | exact slO_avoid _ _ | exact vaO_avoid _ | exact tab_avoid _ _ rfl rfl | exact wlk_avoid _ _ _ rfl rfl rfl)⟩, ⟨_, rfl, rfl, (by first | rfl | exact slO_avoid _ _ | exact vaO_avoid _ | exact tab_avoid _ _ rfl rfl | exact wlk_avoid _ _ _ rfl rfl rfl)⟩, trivial⟩ rfl (number_ok first w.K h.f h.k4 (by omega) (1) (t.n) (0) (0))) ?_
  refine dq 25 (q_indexV tok rfl rfl rfl rfl rfl rfl rfl rfl hxd.1 hxd.2.2.1) ?_
  refine DOps.w rfl rfl (o_storeV tok rfl rfl rfl rfl rfl rfl rfl (by have h1 := hxd.2.2.1; have h0 := hxd.1; omega) (valC_one _) rfl rfl rfl) ?_
  refine DOps.nil (by kernel_rfl) ?_
  refine ⟨[], trivial, rfl, ?_⟩
  rw [vstep1 ho]
  exact HSub.put (HSub.put (HSub.put (HSub.put (HSub.put (HSub.put (HSub.none _) rfl) rfl) rfl) (by show _ = some (AObj.row false 4 [[.ptr 4 1 0 0, vaA 5 (valC (rset w.vals t.d _)), slA 10 (w.effs.map (arrAV .i64)), .int .i64 w.time]]); rw [valC_vaA]; rfl)) (by show _ = some (vaO (valC (rset w.vals t.d _))); rw [valC_set]; rfl)) rfl
 ·
  refine AGo.cond_false false rfl rfl ?_
  refine AGo.seq ?_
  refine AGo.region ?_
  refine aq 27 (q_bin rfl rfl rfl rfl) ?_
  refine aa 26 ?_
  refine AOps.nil ?_
  refine AGo.split 26 rfl (fun hb2 => ?_) (fun hb2 => ?_)
  ·
   refine AGo.cond_true true rfl rfl ?_
   have ho : t.op = 2 := by simpa using hb2
   have hxd := h.at (ht.d (by rw [ho]; rfl))
   have hxa := h.at (ht.a (.inl (by rw [ho]; rfl)))
   
   refine AGo.draw mix ?_
   refine dm 28 ?_
   refine df 29 tok ?_
   refine dl 30 tok ?_
   refine dm 31 ?_
   refine df 32 tok ?_
   refine dl 33 tok ?_
   refine dq 34 (q_indexV tok rfl rfl rfl rfl rfl rfl rfl rfl hxa.1 hxa.2.2.1) ?_
   refine dq 35 (q_load tok rfl rfl rfl (ptsV rfl (valC_get ⟨hxa.1, hxa.2.1⟩)) rfl) ?_
   refine dq 36 (q_indexV tok rfl rfl rfl rfl rfl rfl rfl rfl hxd.1 hxd.2.2.1) ?_
   refine DOps.w rfl rfl (o_storeV tok rfl rfl rfl rfl rfl rfl rfl (by have h1 := hxd.2.2.1; have h0 := hxd.1; omega) (valC_one _) rfl rfl rfl) ?_
   refine DOps.nil (by kernel_rfl) ?_
   refine ⟨[], trivial, rfl, ?_⟩
   rw [vstep2 ho]
   exact HSub.put (HSub.put (HSub.put (HSub.put (HSub.put (HSub.put (HSub.none _) rfl) rfl) rfl) (by show _ = some (AObj.row false 4 [[.ptr 4 1 0 0, vaA 5 (valC (rset w.vals t.d _)), slA 10 (w.effs.map (arrAV .i64)), .int .i64 w.time]]); rw [valC_vaA]; rfl)) (by show _ = some (vaO (valC (rset w.vals t.d _))); rw [valC_set]; rfl)) rfl
  ·
   refine AGo.cond_false false rfl rfl ?_
   refine AGo.seq ?_
   refine AGo.region ?_
   refine aq 38 (q_bin rfl rfl rfl rfl) ?_
   refine aa 37 ?_
   refine AOps.nil ?_
   refine AGo.split 37 rfl (fun hb3 => ?_) (fun hb3 => ?_)
   ·
    refine AGo.cond_true true rfl rfl ?_
    have ho : t.op = 3 := by simpa using hb3
    
    refine AGo.region ?_
    refine am 39 ?_
    refine al 40 tok ?_
    refine ax 41 (o_call (hc := (hput (hput (hput (hput (hput (hput hNew 3 (.map (kvsA .i64 (vmap first ((w).K))))) 4 (.row false 3 [[.int .i64 first, .map 3, slA 9 (((w).K).map (arrAV .i64))]])) 9 (slO 4 (((w).K).map (arrAV .i64)))) 6 (.row false 4 [[.ptr 4 1 0 0, vaA 5 (valC ((w).vals)), slA 10 (((w).effs).map (arrAV .i64)), .int .i64 ((w).time)]])) 5 (vaO (valC ((w).vals)))) 10 (slO 6 (((w).effs).map (arrAV .i64))))) (hw := (hput (hput (hput (hput (hput (hput hNone 3 (.map (kvsA .i64 (vmap first (((w.bin first t)).K))))) 4 (.row false 3 [[.int .i64 first, .map 3, slA 9 ((((w.bin first t)).K).map (arrAV .i64))]])) 9 (slO 4 ((((w.bin first t)).K).map (arrAV .i64)))) 6 (.row false 4 [[.ptr 4 1 0 0, vaA 5 (valC (((w.bin first t)).vals)), slA 10 ((((w.bin first t)).effs).map (arrAV .i64)), .int .i64 (((w.bin first t)).time)]])) 5 (vaO (valC (((w.bin first t)).vals)))) 10 (slO 6 ((((w.bin first t)).effs).map (arrAV .i64))))) [10, 5, 6, 9, 4, 3] [(3, (.map (kvsA .i64 (vmap first (((w.bin first t)).K))))), (4, (.row false 3 [[.int .i64 first, .map 3, slA 9 ((((w.bin first t)).K).map (arrAV .i64))]])), (9, (slO 4 ((((w.bin first t)).K).map (arrAV .i64)))), (6, (.row false 4 [[.ptr 4 1 0 0, vaA 5 (valC (((w.bin first t)).vals)), slA 10 ((((w.bin first t)).effs).map (arrAV .i64)), .int .i64 (((w.bin first t)).time)]])), (5, (vaO (valC (((w.bin first t)).vals)))), (10, (slO 6 ((((w.bin first t)).effs).map (arrAV .i64))))] rfl Try.func46 (by kernel_rfl) rfl rfl rfl ⟨⟨_, rfl, (by first | rfl | exact slO_avoid _ _ | exact vaO_avoid _ | exact tab_avoid _ _ rfl rfl | exact wlk_avoid _ _ _ rfl rfl rfl)⟩, ⟨_, rfl, (by first | rfl | exact slO_avoid _ _ | exact vaO_avoid _ | exact tab_avoid _ _ rfl rfl | exact wlk_avoid _ _ _ rfl rfl rfl)⟩, ⟨_, rfl, (by first | rfl | exact slO_avoid _ _ | exact vaO_avoid _ | exact tab_avoid _ _ rfl rfl | exact wlk_avoid _ _ _ rfl rfl rfl)⟩, ⟨_, rfl, (by first | rfl | exact slO_avoid _ _ | exact vaO_avoid _ | exact tab_avoid _ _ rfl rfl | exact wlk_avoid _ _ _ rfl rfl rfl)⟩, ⟨_, rfl, (by first | rfl | exact slO_avoid _ _ | exact vaO_avoid _ | exact tab_avoid _ _ rfl rfl | exact wlk_avoid _ _ _ rfl rfl rfl)⟩, ⟨_, rfl, (by first | rfl | exact slO_avoid _ _ | exact vaO_avoid _ | exact tab_avoid _ _ rfl rfl | exact wlk_avoid _ _ _ rfl rfl rfl)⟩, trivial⟩ rfl (hres_cons rfl (hres_cons rfl (hres_cons rfl (hres_cons rfl (hres_cons rfl (hres_cons rfl (hres_nil _))))))) ⟨⟨_, rfl, rfl, (by first | rfl | exact slO_avoid _ _ | exact vaO_avoid _ | exact tab_avoid _ _ rfl rfl | exact wlk_avoid _ _ _ rfl rfl rfl)⟩, ⟨_, rfl, rfl, (by first | rfl | exact slO_avoid _ _ | exact vaO_avoid _ | exact tab_avoid _ _ rfl rfl | exact wlk_avoid _ _ _ rfl rfl rfl)⟩, ⟨_, rfl, rfl, (by first | rfl | exact slO_avoid _ _ | exact vaO_avoid _ | exact tab_avoid _ _ rfl rfl | exact wlk_avoid _ _ _ rfl rfl rfl)⟩, ⟨_, rfl, rfl, (by first | rfl | exact slO_avoid _ _ | exact vaO_avoid _ | exact tab_avoid _ _ rfl rfl | exact wlk_avoid _ _ _ rfl rfl rfl)⟩, ⟨_, rfl, rfl, (by first | rfl | exact slO_avoid _ _ | exact vaO_avoid _ | exact tab_avoid _ _ rfl rfl | exact wlk_avoid _ _ _ rfl rfl rfl)⟩, ⟨_, rfl, rfl, (by first | rfl | exact slO_avoid _ _ | exact vaO_avoid _ | exact tab_avoid _ _ rfl rfl | exact wlk_avoid _ _ _ rfl rfl rfl)⟩, trivial⟩ rfl (binarya_ok first R m w h (by omega) t (ht.d (by rw [ho]; rfl)) (ht.a (.inr (by rw [ho]; rfl))) (ht.b (by rw [ho]; rfl)))) ?_
    refine AOps.nil ?_
    refine ⟨[], trivial, rfl, ?_⟩
    rw [vstep3 ho]
    exact HSub.put (HSub.put (HSub.put (HSub.put (HSub.put (HSub.put (HSub.none _) rfl) rfl) rfl) rfl) rfl) rfl
   ·
    refine AGo.cond_false false rfl rfl ?_
    refine AGo.seq ?_
    refine AGo.region ?_
    refine aq 43 (q_bin rfl rfl rfl rfl) ?_
    refine aa 42 ?_
    refine AOps.nil ?_
    refine AGo.split 42 rfl (fun hb4 => ?_) (fun hb4 => ?_)
    ·
     refine AGo.cond_true true rfl rfl ?_
     have ho : t.op = 4 := by simpa using hb4
     have hxd := h.at (ht.d (by rw [ho]; rfl))
     
     refine AGo.draw mix ?_
     refine dm 44 ?_
     refine df 45 tok ?_
     refine dl 46 tok ?_
     refine dm 47 ?_
     refine dq 48 (q_nilCheck rfl rfl rfl) ?_
     refine df 49 tok ?_
     refine dl 50 tok ?_
     refine df 51 tok ?_
     refine dl 52 tok ?_
     refine dm 53 ?_
     refine dq 54 (q_nilCheck rfl rfl rfl) ?_
     refine df 55 tok ?_
     refine dl 56 tok ?_
     refine dq 57 (q_build_arr tok rfl rfl rfl rfl rfl rfl (by decide) rfl rfl) ?_
     refine dx 58 (o_call (hc := (hput (hput (hput hNew 3 (.map (kvsA .i64 (vmap first (w.K))))) 4 (.row false 3 [[.int .i64 first, .map 3, slA 9 ((w.K).map (arrAV .i64))]])) 9 (slO 4 ((w.K).map (arrAV .i64))))) (hw := (hput (hput (hput hNone 3 (.map (kvsA .i64 (vmap first ((vnum first w.K [3, t.base, w.time, 0]).2))))) 4 (.row false 3 [[.int .i64 first, .map 3, slA 9 (((vnum first w.K [3, t.base, w.time, 0]).2).map (arrAV .i64))]])) 9 (slO 4 (((vnum first w.K [3, t.base, w.time, 0]).2).map (arrAV .i64))))) [9, 4, 3] [(3, (.map (kvsA .i64 (vmap first ((vnum first w.K [3, t.base, w.time, 0]).2))))), (4, (.row false 3 [[.int .i64 first, .map 3, slA 9 (((vnum first w.K [3, t.base, w.time, 0]).2).map (arrAV .i64))]])), (9, (slO 4 (((vnum first w.K [3, t.base, w.time, 0]).2).map (arrAV .i64))))] rfl Try.func45 (by kernel_rfl) rfl rfl rfl ⟨⟨_, rfl, (by first | rfl | exact slO_avoid _ _ | exact vaO_avoid _ | exact tab_avoid _ _ rfl rfl | exact wlk_avoid _ _ _ rfl rfl rfl)⟩, ⟨_, rfl, (by first | rfl | exact slO_avoid _ _ | exact vaO_avoid _ | exact tab_avoid _ _ rfl rfl | exact wlk_avoid _ _ _ rfl rfl rfl)⟩, ⟨_, rfl, (by first | rfl | exact slO_avoid _ _ | exact vaO_avoid _ | exact tab_avoid _ _ rfl rfl | exact wlk_avoid _ _ _ rfl rfl rfl)⟩, trivial⟩ rfl (hres_cons rfl (hres_cons rfl (hres_cons rfl (hres_nil _)))) ⟨⟨_, rfl, rfl, (by first | rfl | exact slO_avoid _ _ | exact vaO_avoid _ | exact tab_avoid _ _ rfl rfl | exact wlk_avoid _ _ _ rfl rfl rfl)⟩, ⟨_, rfl, rfl, (by first | rfl | exact slO_avoid _ _ | exact vaO_avoid _ | exact tab_avoid _ _ rfl rfl | exact wlk_avoid _ _ _ rfl rfl rfl)⟩, ⟨_, rfl, rfl, (by first | rfl | exact slO_avoid _ _ | exact vaO_avoid _ | exact tab_avoid _ _ rfl rfl | exact wlk_avoid _ _ _ rfl rfl rfl)⟩, trivial⟩ rfl (number_ok first w.K h.f h.k4 (by omega) (3) (t.base) (w.time) (0))) ?_
     refine dq 59 (q_indexV tok rfl rfl rfl rfl rfl rfl rfl rfl hxd.1 hxd.2.2.1) ?_
     refine DOps.w rfl rfl (o_storeV tok rfl rfl rfl rfl rfl rfl rfl (by have h1 := hxd.2.2.1; have h0 := hxd.1; omega) (valC_one _) rfl rfl rfl) ?_
     refine DOps.nil (by kernel_rfl) ?_
     refine ⟨[], trivial, rfl, ?_⟩
     rw [vstep4 ho]
     exact HSub.put (HSub.put (HSub.put (HSub.put (HSub.put (HSub.put (HSub.none _) rfl) rfl) rfl) (by show _ = some (AObj.row false 4 [[.ptr 4 1 0 0, vaA 5 (valC (rset w.vals t.d _)), slA 10 (w.effs.map (arrAV .i64)), .int .i64 w.time]]); rw [valC_vaA]; rfl)) (by show _ = some (vaO (valC (rset w.vals t.d _))); rw [valC_set]; rfl)) rfl
    ·
     refine AGo.cond_false false rfl rfl ?_
     refine AGo.seq ?_
     refine AGo.region ?_
     refine aq 61 (q_bin rfl rfl rfl rfl) ?_
     refine aa 60 ?_
     refine AOps.nil ?_
     refine AGo.split 60 rfl (fun hb5 => ?_) (fun hb5 => ?_)
     ·
      refine AGo.cond_true true rfl rfl ?_
      have ho : t.op = 5 := by simpa using hb5
      have hxa := h.at (ht.a (.inl (by rw [ho]; rfl)))
      
      refine AGo.seq ?_
      refine AGo.draw mix ?_
      refine dm 62 ?_
      refine dl 63 tok ?_
      refine dm 64 ?_
      refine df 65 tok ?_
      refine dl 66 tok ?_
      refine dq 67 (q_indexV tok rfl rfl rfl rfl rfl rfl rfl rfl hxa.1 hxa.2.2.1) ?_
      refine dq 68 (q_load tok rfl rfl rfl (ptsV rfl (valC_get ⟨hxa.1, hxa.2.1⟩)) rfl) ?_
      refine dx 69 (o_call (hc := (hput (hput (hput (hput (hput (hput hNew 3 (.map (kvsA .i64 (vmap first ((w).K))))) 4 (.row false 3 [[.int .i64 first, .map 3, slA 9 (((w).K).map (arrAV .i64))]])) 9 (slO 4 (((w).K).map (arrAV .i64)))) 6 (.row false 4 [[.ptr 4 1 0 0, vaA 5 (valC ((w).vals)), slA 10 (((w).effs).map (arrAV .i64)), .int .i64 ((w).time)]])) 5 (vaO (valC ((w).vals)))) 10 (slO 6 (((w).effs).map (arrAV .i64))))) (hw := (hput (hput (hput (hput (hput (hput hNone 3 (.map (kvsA .i64 (vmap first (((w.hap t (rget w.vals t.a) 0)).K))))) 4 (.row false 3 [[.int .i64 first, .map 3, slA 9 ((((w.hap t (rget w.vals t.a) 0)).K).map (arrAV .i64))]])) 9 (slO 4 ((((w.hap t (rget w.vals t.a) 0)).K).map (arrAV .i64)))) 6 (.row false 4 [[.ptr 4 1 0 0, vaA 5 (valC (((w.hap t (rget w.vals t.a) 0)).vals)), slA 10 ((((w.hap t (rget w.vals t.a) 0)).effs).map (arrAV .i64)), .int .i64 (((w.hap t (rget w.vals t.a) 0)).time)]])) 5 (vaO (valC (((w.hap t (rget w.vals t.a) 0)).vals)))) 10 (slO 6 ((((w.hap t (rget w.vals t.a) 0)).effs).map (arrAV .i64))))) [10, 5, 6, 9, 4, 3] [(3, (.map (kvsA .i64 (vmap first (((w.hap t (rget w.vals t.a) 0)).K))))), (4, (.row false 3 [[.int .i64 first, .map 3, slA 9 ((((w.hap t (rget w.vals t.a) 0)).K).map (arrAV .i64))]])), (9, (slO 4 ((((w.hap t (rget w.vals t.a) 0)).K).map (arrAV .i64)))), (6, (.row false 4 [[.ptr 4 1 0 0, vaA 5 (valC (((w.hap t (rget w.vals t.a) 0)).vals)), slA 10 ((((w.hap t (rget w.vals t.a) 0)).effs).map (arrAV .i64)), .int .i64 (((w.hap t (rget w.vals t.a) 0)).time)]])), (5, (vaO (valC (((w.hap t (rget w.vals t.a) 0)).vals)))), (10, (slO 6 ((((w.hap t (rget w.vals t.a) 0)).effs).map (arrAV .i64))))] rfl Try.func47 (by kernel_rfl) rfl rfl rfl ⟨⟨_, rfl, (by first | rfl | exact slO_avoid _ _ | exact vaO_avoid _ | exact tab_avoid _ _ rfl rfl | exact wlk_avoid _ _ _ rfl rfl rfl)⟩, ⟨_, rfl, (by first | rfl | exact slO_avoid _ _ | exact vaO_avoid _ | exact tab_avoid _ _ rfl rfl | exact wlk_avoid _ _ _ rfl rfl rfl)⟩, ⟨_, rfl, (by first | rfl | exact slO_avoid _ _ | exact vaO_avoid _ | exact tab_avoid _ _ rfl rfl | exact wlk_avoid _ _ _ rfl rfl rfl)⟩, ⟨_, rfl, (by first | rfl | exact slO_avoid _ _ | exact vaO_avoid _ | exact tab_avoid _ _ rfl rfl | exact wlk_avoid _ _ _ rfl rfl rfl)⟩, ⟨_, rfl, (by first | rfl | exact slO_avoid _ _ | exact vaO_avoid _ | exact tab_avoid _ _ rfl rfl | exact wlk_avoid _ _ _ rfl rfl rfl)⟩, ⟨_, rfl, (by first | rfl | exact slO_avoid _ _ | exact vaO_avoid _ | exact tab_avoid _ _ rfl rfl | exact wlk_avoid _ _ _ rfl rfl rfl)⟩, trivial⟩ rfl (hres_cons rfl (hres_cons rfl (hres_cons rfl (hres_cons rfl (hres_cons rfl (hres_cons rfl (hres_nil _))))))) ⟨⟨_, rfl, rfl, (by first | rfl | exact slO_avoid _ _ | exact vaO_avoid _ | exact tab_avoid _ _ rfl rfl | exact wlk_avoid _ _ _ rfl rfl rfl)⟩, ⟨_, rfl, rfl, (by first | rfl | exact slO_avoid _ _ | exact vaO_avoid _ | exact tab_avoid _ _ rfl rfl | exact wlk_avoid _ _ _ rfl rfl rfl)⟩, ⟨_, rfl, rfl, (by first | rfl | exact slO_avoid _ _ | exact vaO_avoid _ | exact tab_avoid _ _ rfl rfl | exact wlk_avoid _ _ _ rfl rfl rfl)⟩, ⟨_, rfl, rfl, (by first | rfl | exact slO_avoid _ _ | exact vaO_avoid _ | exact tab_avoid _ _ rfl rfl | exact wlk_avoid _ _ _ rfl rfl rfl)⟩, ⟨_, rfl, rfl, (by first | rfl | exact slO_avoid _ _ | exact vaO_avoid _ | exact tab_avoid _ _ rfl rfl | exact wlk_avoid _ _ _ rfl rfl rfl)⟩, ⟨_, rfl, rfl, (by first | rfl | exact slO_avoid _ _ | exact vaO_avoid _ | exact tab_avoid _ _ rfl rfl | exact wlk_avoid _ _ _ rfl rfl rfl)⟩, trivial⟩ rfl (happensa_ok first R m w h (by omega) t (rget w.vals t.a) 0)) ?_
      refine DOps.nil (by kernel_rfl) ?_
      refine AGo.region ?_
      refine am 70 ?_
      refine aq 71 (q_nilCheck rfl rfl rfl) ?_
      refine af 72 tok ?_
      refine al 73 tok ?_
      refine aq 74 (q_bin (r := .int .i64 (w.time + 1)) rfl rfl rfl (by exact timeZ (x := w.time) (by omega))) ?_
      refine aq 75 (q_nilCheck rfl rfl rfl) ?_
      refine af 76 tok ?_
      refine AOps.w rfl rfl (o_store tok rfl rfl rfl rfl rfl rfl rfl rfl rfl (by decide) rfl (by first | exact fun _ => rfl | (intro h; cases h))) ?_
      refine AOps.nil ?_
      refine ⟨[], trivial, rfl, ?_⟩
      rw [vstep5 ho]
      exact HSub.put (HSub.put (HSub.put (HSub.put (HSub.put (HSub.put (HSub.none _) rfl) rfl) rfl) rfl) rfl) rfl
     ·
      refine AGo.cond_false false rfl rfl ?_
      refine AGo.seq ?_
      refine AGo.region ?_
      refine aq 78 (q_bin rfl rfl rfl rfl) ?_
      refine aa 77 ?_
      refine AOps.nil ?_
      refine AGo.split 77 rfl (fun hb6 => ?_) (fun hb6 => ?_)
      ·
       refine AGo.cond_true true rfl rfl ?_
       have ho : t.op = 6 := by simpa using hb6
       have hxd := h.at (ht.d (by rw [ho]; rfl))
       have hxa := h.at (ht.a (.inl (by rw [ho]; rfl)))
       
       refine AGo.seq ?_
       refine AGo.draw mix ?_
       refine dm 79 ?_
       refine dl 80 tok ?_
       refine dm 81 ?_
       refine df 82 tok ?_
       refine dl 83 tok ?_
       refine dq 84 (q_indexV tok rfl rfl rfl rfl rfl rfl rfl rfl hxa.1 hxa.2.2.1) ?_
       refine dq 85 (q_load tok rfl rfl rfl (ptsV rfl (valC_get ⟨hxa.1, hxa.2.1⟩)) rfl) ?_
       refine dx 86 (o_call (hc := (hput (hput (hput (hput (hput (hput hNew 3 (.map (kvsA .i64 (vmap first ((w).K))))) 4 (.row false 3 [[.int .i64 first, .map 3, slA 9 (((w).K).map (arrAV .i64))]])) 9 (slO 4 (((w).K).map (arrAV .i64)))) 6 (.row false 4 [[.ptr 4 1 0 0, vaA 5 (valC ((w).vals)), slA 10 (((w).effs).map (arrAV .i64)), .int .i64 ((w).time)]])) 5 (vaO (valC ((w).vals)))) 10 (slO 6 (((w).effs).map (arrAV .i64))))) (hw := (hput (hput (hput (hput (hput (hput hNone 3 (.map (kvsA .i64 (vmap first (((w.hap t (rget w.vals t.a) 0)).K))))) 4 (.row false 3 [[.int .i64 first, .map 3, slA 9 ((((w.hap t (rget w.vals t.a) 0)).K).map (arrAV .i64))]])) 9 (slO 4 ((((w.hap t (rget w.vals t.a) 0)).K).map (arrAV .i64)))) 6 (.row false 4 [[.ptr 4 1 0 0, vaA 5 (valC (((w.hap t (rget w.vals t.a) 0)).vals)), slA 10 ((((w.hap t (rget w.vals t.a) 0)).effs).map (arrAV .i64)), .int .i64 (((w.hap t (rget w.vals t.a) 0)).time)]])) 5 (vaO (valC (((w.hap t (rget w.vals t.a) 0)).vals)))) 10 (slO 6 ((((w.hap t (rget w.vals t.a) 0)).effs).map (arrAV .i64))))) [10, 5, 6, 9, 4, 3] [(3, (.map (kvsA .i64 (vmap first (((w.hap t (rget w.vals t.a) 0)).K))))), (4, (.row false 3 [[.int .i64 first, .map 3, slA 9 ((((w.hap t (rget w.vals t.a) 0)).K).map (arrAV .i64))]])), (9, (slO 4 ((((w.hap t (rget w.vals t.a) 0)).K).map (arrAV .i64)))), (6, (.row false 4 [[.ptr 4 1 0 0, vaA 5 (valC (((w.hap t (rget w.vals t.a) 0)).vals)), slA 10 ((((w.hap t (rget w.vals t.a) 0)).effs).map (arrAV .i64)), .int .i64 (((w.hap t (rget w.vals t.a) 0)).time)]])), (5, (vaO (valC (((w.hap t (rget w.vals t.a) 0)).vals)))), (10, (slO 6 ((((w.hap t (rget w.vals t.a) 0)).effs).map (arrAV .i64))))] rfl Try.func47 (by kernel_rfl) rfl rfl rfl ⟨⟨_, rfl, (by first | rfl | exact slO_avoid _ _ | exact vaO_avoid _ | exact tab_avoid _ _ rfl rfl | exact wlk_avoid _ _ _ rfl rfl rfl)⟩, ⟨_, rfl, (by first | rfl | exact slO_avoid _ _ | exact vaO_avoid _ | exact tab_avoid _ _ rfl rfl | exact wlk_avoid _ _ _ rfl rfl rfl)⟩, ⟨_, rfl, (by first | rfl | exact slO_avoid _ _ | exact vaO_avoid _ | exact tab_avoid _ _ rfl rfl | exact wlk_avoid _ _ _ rfl rfl rfl)⟩, ⟨_, rfl, (by first | rfl | exact slO_avoid _ _ | exact vaO_avoid _ | exact tab_avoid _ _ rfl rfl | exact wlk_avoid _ _ _ rfl rfl rfl)⟩, ⟨_, rfl, (by first | rfl | exact slO_avoid _ _ | exact vaO_avoid _ | exact tab_avoid _ _ rfl rfl | exact wlk_avoid _ _ _ rfl rfl rfl)⟩, ⟨_, rfl, (by first | rfl | exact slO_avoid _ _ | exact vaO_avoid _ | exact tab_avoid _ _ rfl rfl | exact wlk_avoid _ _ _ rfl rfl rfl)⟩, trivial⟩ rfl (hres_cons rfl (hres_cons rfl (hres_cons rfl (hres_cons rfl (hres_cons rfl (hres_cons rfl (hres_nil _))))))) ⟨⟨_, rfl, rfl, (by first | rfl | exact slO_avoid _ _ | exact vaO_avoid _ | exact tab_avoid _ _ rfl rfl | exact wlk_avoid _ _ _ rfl rfl rfl)⟩, ⟨_, rfl, rfl, (by first | rfl | exact slO_avoid _ _ | exact vaO_avoid _ | exact tab_avoid _ _ rfl rfl | exact wlk_avoid _ _ _ rfl rfl rfl)⟩, ⟨_, rfl, rfl, (by first | rfl | exact slO_avoid _ _ | exact vaO_avoid _ | exact tab_avoid _ _ rfl rfl | exact wlk_avoid _ _ _ rfl rfl rfl)⟩, ⟨_, rfl, rfl, (by first | rfl | exact slO_avoid _ _ | exact vaO_avoid _ | exact tab_avoid _ _ rfl rfl | exact wlk_avoid _ _ _ rfl rfl rfl)⟩, ⟨_, rfl, rfl, (by first | rfl | exact slO_avoid _ _ | exact vaO_avoid _ | exact tab_avoid _ _ rfl rfl | exact wlk_avoid _ _ _ rfl rfl rfl)⟩, ⟨_, rfl, rfl, (by first | rfl | exact slO_avoid _ _ | exact vaO_avoid _ | exact tab_avoid _ _ rfl rfl | exact wlk_avoid _ _ _ rfl rfl rfl)⟩, trivial⟩ rfl (happensa_ok first R m w h (by omega) t (rget w.vals t.a) 0)) ?_
       refine DOps.nil (by kernel_rfl) ?_
       refine AGo.draw mix ?_
       refine dm 87 ?_
       refine df 88 tok ?_
       refine dl 89 tok ?_
       refine dm 90 ?_
       refine dx 91 (o_call (hc := (hput (hput (hput (hput (hput (hput hNew 3 (.map (kvsA .i64 (vmap first (((w.hap t (rget w.vals t.a) 0)).K))))) 4 (.row false 3 [[.int .i64 first, .map 3, slA 9 ((((w.hap t (rget w.vals t.a) 0)).K).map (arrAV .i64))]])) 9 (slO 4 ((((w.hap t (rget w.vals t.a) 0)).K).map (arrAV .i64)))) 6 (.row false 4 [[.ptr 4 1 0 0, vaA 5 (valC (((w.hap t (rget w.vals t.a) 0)).vals)), slA 10 ((((w.hap t (rget w.vals t.a) 0)).effs).map (arrAV .i64)), .int .i64 (((w.hap t (rget w.vals t.a) 0)).time)]])) 5 (vaO (valC (((w.hap t (rget w.vals t.a) 0)).vals)))) 10 (slO 6 ((((w.hap t (rget w.vals t.a) 0)).effs).map (arrAV .i64))))) (hw := (hput (hput (hput (hput (hput (hput hNone 3 (.map (kvsA .i64 (vmap first ((vunk first (w.hap t (rget w.vals t.a) 0)).2))))) 4 (.row false 3 [[.int .i64 first, .map 3, slA 9 (((vunk first (w.hap t (rget w.vals t.a) 0)).2).map (arrAV .i64))]])) 9 (slO 4 (((vunk first (w.hap t (rget w.vals t.a) 0)).2).map (arrAV .i64)))) 6 (.row false 4 [[.ptr 4 1 0 0, vaA 5 (valC (((w.hap t (rget w.vals t.a) 0)).vals)), slA 10 ((((w.hap t (rget w.vals t.a) 0)).effs).map (arrAV .i64)), .int .i64 (((w.hap t (rget w.vals t.a) 0)).time)]])) 5 (vaO (valC (((w.hap t (rget w.vals t.a) 0)).vals)))) 10 (slO 6 ((((w.hap t (rget w.vals t.a) 0)).effs).map (arrAV .i64))))) [10, 5, 6, 9, 4, 3] [(3, (.map (kvsA .i64 (vmap first ((vunk first (w.hap t (rget w.vals t.a) 0)).2))))), (4, (.row false 3 [[.int .i64 first, .map 3, slA 9 (((vunk first (w.hap t (rget w.vals t.a) 0)).2).map (arrAV .i64))]])), (9, (slO 4 (((vunk first (w.hap t (rget w.vals t.a) 0)).2).map (arrAV .i64)))), (6, (.row false 4 [[.ptr 4 1 0 0, vaA 5 (valC (((w.hap t (rget w.vals t.a) 0)).vals)), slA 10 ((((w.hap t (rget w.vals t.a) 0)).effs).map (arrAV .i64)), .int .i64 (((w.hap t (rget w.vals t.a) 0)).time)]])), (5, (vaO (valC (((w.hap t (rget w.vals t.a) 0)).vals)))), (10, (slO 6 ((((w.hap t (rget w.vals t.a) 0)).effs).map (arrAV .i64))))] rfl Try.func48 (by kernel_rfl) rfl rfl rfl ⟨⟨_, rfl, (by first | rfl | exact slO_avoid _ _ | exact vaO_avoid _ | exact tab_avoid _ _ rfl rfl | exact wlk_avoid _ _ _ rfl rfl rfl)⟩, ⟨_, rfl, (by first | rfl | exact slO_avoid _ _ | exact vaO_avoid _ | exact tab_avoid _ _ rfl rfl | exact wlk_avoid _ _ _ rfl rfl rfl)⟩, ⟨_, rfl, (by first | rfl | exact slO_avoid _ _ | exact vaO_avoid _ | exact tab_avoid _ _ rfl rfl | exact wlk_avoid _ _ _ rfl rfl rfl)⟩, ⟨_, rfl, (by first | rfl | exact slO_avoid _ _ | exact vaO_avoid _ | exact tab_avoid _ _ rfl rfl | exact wlk_avoid _ _ _ rfl rfl rfl)⟩, ⟨_, rfl, (by first | rfl | exact slO_avoid _ _ | exact vaO_avoid _ | exact tab_avoid _ _ rfl rfl | exact wlk_avoid _ _ _ rfl rfl rfl)⟩, ⟨_, rfl, (by first | rfl | exact slO_avoid _ _ | exact vaO_avoid _ | exact tab_avoid _ _ rfl rfl | exact wlk_avoid _ _ _ rfl rfl rfl)⟩, trivial⟩ rfl (hres_cons rfl (hres_cons rfl (hres_cons rfl (hres_cons rfl (hres_cons rfl (hres_cons rfl (hres_nil _))))))) ⟨⟨_, rfl, rfl, (by first | rfl | exact slO_avoid _ _ | exact vaO_avoid _ | exact tab_avoid _ _ rfl rfl | exact wlk_avoid _ _ _ rfl rfl rfl)⟩, ⟨_, rfl, rfl, (by first | rfl | exact slO_avoid _ _ | exact vaO_avoid _ | exact tab_avoid _ _ rfl rfl | exact wlk_avoid _ _ _ rfl rfl rfl)⟩, ⟨_, rfl, rfl, (by first | rfl | exact slO_avoid _ _ | exact vaO_avoid _ | exact tab_avoid _ _ rfl rfl | exact wlk_avoid _ _ _ rfl rfl rfl)⟩, ⟨_, rfl, rfl, (by first | rfl | exact slO_avoid _ _ | exact vaO_avoid _ | exact tab_avoid _ _ rfl rfl | exact wlk_avoid _ _ _ rfl rfl rfl)⟩, ⟨_, rfl, rfl, (by first | rfl | exact slO_avoid _ _ | exact vaO_avoid _ | exact tab_avoid _ _ rfl rfl | exact wlk_avoid _ _ _ rfl rfl rfl)⟩, ⟨_, rfl, rfl, (by first | rfl | exact slO_avoid _ _ | exact vaO_avoid _ | exact tab_avoid _ _ rfl rfl | exact wlk_avoid _ _ _ rfl rfl rfl)⟩, trivial⟩ rfl (unknowna_ok first R (m + 1) (w.hap t (rget w.vals t.a) 0) (h.eff rfl) (by omega))) ?_
       refine dq 92 (q_indexV tok rfl rfl rfl rfl rfl rfl rfl rfl hxd.1 hxd.2.2.1) ?_
       refine DOps.w rfl rfl (o_storeV tok rfl rfl rfl rfl rfl rfl rfl (by have h1 := hxd.2.2.1; have h0 := hxd.1; omega) (valC_one _) rfl rfl rfl) ?_
       refine DOps.nil (by kernel_rfl) ?_
       refine ⟨[], trivial, rfl, ?_⟩
       rw [vstep6 ho]
       exact HSub.put (HSub.put (HSub.put (HSub.put (HSub.put (HSub.put (HSub.none _) rfl) rfl) rfl) (by show _ = some (AObj.row false 4 [[.ptr 4 1 0 0, vaA 5 (valC (rset w.vals t.d _)), slA 10 ((w.hap t (rget w.vals t.a) 0).effs.map (arrAV .i64)), .int .i64 w.time]]); rw [valC_vaA]; rfl)) (by show _ = some (vaO (valC (rset w.vals t.d _))); rw [valC_set]; rfl)) rfl
      ·
       refine AGo.cond_false false rfl rfl ?_
       refine AGo.seq ?_
       refine AGo.region ?_
       refine aq 94 (q_bin rfl rfl rfl rfl) ?_
       refine aa 93 ?_
       refine AOps.nil ?_
       refine AGo.split 93 rfl (fun hb7 => ?_) (fun hb7 => ?_)
       ·
        refine AGo.cond_true true rfl rfl ?_
        have ho : t.op = 7 := by simpa using hb7
        have hxa := h.at (ht.a (.inr (by rw [ho]; rfl)))
        have hxb := h.at (ht.b (by rw [ho]; rfl))
        
        refine AGo.seq ?_
        refine AGo.draw mix ?_
        refine dm 95 ?_
        refine dl 96 tok ?_
        refine dm 97 ?_
        refine df 98 tok ?_
        refine dl 99 tok ?_
        refine dq 100 (q_indexV tok rfl rfl rfl rfl rfl rfl rfl rfl hxa.1 hxa.2.2.1) ?_
        refine dq 101 (q_load tok rfl rfl rfl (ptsV rfl (valC_get ⟨hxa.1, hxa.2.1⟩)) rfl) ?_
        refine dm 102 ?_
        refine df 103 tok ?_
        refine dl 104 tok ?_
        refine dq 105 (q_indexV tok rfl rfl rfl rfl rfl rfl rfl rfl hxb.1 hxb.2.2.1) ?_
        refine dq 106 (q_load tok rfl rfl rfl (ptsV rfl (valC_get ⟨hxb.1, hxb.2.1⟩)) rfl) ?_
        refine dx 107 (o_call (hc := (hput (hput (hput (hput (hput (hput hNew 3 (.map (kvsA .i64 (vmap first ((w).K))))) 4 (.row false 3 [[.int .i64 first, .map 3, slA 9 (((w).K).map (arrAV .i64))]])) 9 (slO 4 (((w).K).map (arrAV .i64)))) 6 (.row false 4 [[.ptr 4 1 0 0, vaA 5 (valC ((w).vals)), slA 10 (((w).effs).map (arrAV .i64)), .int .i64 ((w).time)]])) 5 (vaO (valC ((w).vals)))) 10 (slO 6 (((w).effs).map (arrAV .i64))))) (hw := (hput (hput (hput (hput (hput (hput hNone 3 (.map (kvsA .i64 (vmap first (((w.hap t (rget w.vals t.a) (rget w.vals t.b))).K))))) 4 (.row false 3 [[.int .i64 first, .map 3, slA 9 ((((w.hap t (rget w.vals t.a) (rget w.vals t.b))).K).map (arrAV .i64))]])) 9 (slO 4 ((((w.hap t (rget w.vals t.a) (rget w.vals t.b))).K).map (arrAV .i64)))) 6 (.row false 4 [[.ptr 4 1 0 0, vaA 5 (valC (((w.hap t (rget w.vals t.a) (rget w.vals t.b))).vals)), slA 10 ((((w.hap t (rget w.vals t.a) (rget w.vals t.b))).effs).map (arrAV .i64)), .int .i64 (((w.hap t (rget w.vals t.a) (rget w.vals t.b))).time)]])) 5 (vaO (valC (((w.hap t (rget w.vals t.a) (rget w.vals t.b))).vals)))) 10 (slO 6 ((((w.hap t (rget w.vals t.a) (rget w.vals t.b))).effs).map (arrAV .i64))))) [10, 5, 6, 9, 4, 3] [(3, (.map (kvsA .i64 (vmap first (((w.hap t (rget w.vals t.a) (rget w.vals t.b))).K))))), (4, (.row false 3 [[.int .i64 first, .map 3, slA 9 ((((w.hap t (rget w.vals t.a) (rget w.vals t.b))).K).map (arrAV .i64))]])), (9, (slO 4 ((((w.hap t (rget w.vals t.a) (rget w.vals t.b))).K).map (arrAV .i64)))), (6, (.row false 4 [[.ptr 4 1 0 0, vaA 5 (valC (((w.hap t (rget w.vals t.a) (rget w.vals t.b))).vals)), slA 10 ((((w.hap t (rget w.vals t.a) (rget w.vals t.b))).effs).map (arrAV .i64)), .int .i64 (((w.hap t (rget w.vals t.a) (rget w.vals t.b))).time)]])), (5, (vaO (valC (((w.hap t (rget w.vals t.a) (rget w.vals t.b))).vals)))), (10, (slO 6 ((((w.hap t (rget w.vals t.a) (rget w.vals t.b))).effs).map (arrAV .i64))))] rfl Try.func47 (by kernel_rfl) rfl rfl rfl ⟨⟨_, rfl, (by first | rfl | exact slO_avoid _ _ | exact vaO_avoid _ | exact tab_avoid _ _ rfl rfl | exact wlk_avoid _ _ _ rfl rfl rfl)⟩, ⟨_, rfl, (by first | rfl | exact slO_avoid _ _ | exact vaO_avoid _ | exact tab_avoid _ _ rfl rfl | exact wlk_avoid _ _ _ rfl rfl rfl)⟩, ⟨_, rfl, (by first | rfl | exact slO_avoid _ _ | exact vaO_avoid _ | exact tab_avoid _ _ rfl rfl | exact wlk_avoid _ _ _ rfl rfl rfl)⟩, ⟨_, rfl, (by first | rfl | exact slO_avoid _ _ | exact vaO_avoid _ | exact tab_avoid _ _ rfl rfl | exact wlk_avoid _ _ _ rfl rfl rfl)⟩, ⟨_, rfl, (by first | rfl | exact slO_avoid _ _ | exact vaO_avoid _ | exact tab_avoid _ _ rfl rfl | exact wlk_avoid _ _ _ rfl rfl rfl)⟩, ⟨_, rfl, (by first | rfl | exact slO_avoid _ _ | exact vaO_avoid _ | exact tab_avoid _ _ rfl rfl | exact wlk_avoid _ _ _ rfl rfl rfl)⟩, trivial⟩ rfl (hres_cons rfl (hres_cons rfl (hres_cons rfl (hres_cons rfl (hres_cons rfl (hres_cons rfl (hres_nil _))))))) ⟨⟨_, rfl, rfl, (by first | rfl | exact slO_avoid _ _ | exact vaO_avoid _ | exact tab_avoid _ _ rfl rfl | exact wlk_avoid _ _ _ rfl rfl rfl)⟩, ⟨_, rfl, rfl, (by first | rfl | exact slO_avoid _ _ | exact vaO_avoid _ | exact tab_avoid _ _ rfl rfl | exact wlk_avoid _ _ _ rfl rfl rfl)⟩, ⟨_, rfl, rfl, (by first | rfl | exact slO_avoid _ _ | exact vaO_avoid _ | exact tab_avoid _ _ rfl rfl | exact wlk_avoid _ _ _ rfl rfl rfl)⟩, ⟨_, rfl, rfl, (by first | rfl | exact slO_avoid _ _ | exact vaO_avoid _ | exact tab_avoid _ _ rfl rfl | exact wlk_avoid _ _ _ rfl rfl rfl)⟩, ⟨_, rfl, rfl, (by first | rfl | exact slO_avoid _ _ | exact vaO_avoid _ | exact tab_avoid _ _ rfl rfl | exact wlk_avoid _ _ _ rfl rfl rfl)⟩, ⟨_, rfl, rfl, (by first | rfl | exact slO_avoid _ _ | exact vaO_avoid _ | exact tab_avoid _ _ rfl rfl | exact wlk_avoid _ _ _ rfl rfl rfl)⟩, trivial⟩ rfl (happensa_ok first R m w h (by omega) t (rget w.vals t.a) (rget w.vals t.b))) ?_
        refine DOps.nil (by kernel_rfl) ?_
        refine AGo.region ?_
        refine am 108 ?_
        refine aq 109 (q_nilCheck rfl rfl rfl) ?_
        refine af 110 tok ?_
        refine al 111 tok ?_
        refine aq 112 (q_bin (r := .int .i64 (w.time + 1)) rfl rfl rfl (by exact timeZ (x := w.time) (by omega))) ?_
        refine aq 113 (q_nilCheck rfl rfl rfl) ?_
        refine af 114 tok ?_
        refine AOps.w rfl rfl (o_store tok rfl rfl rfl rfl rfl rfl rfl rfl rfl (by decide) rfl (by first | exact fun _ => rfl | (intro h; cases h))) ?_
        refine AOps.nil ?_
        refine ⟨[], trivial, rfl, ?_⟩
        rw [vstep7 ho]
        exact HSub.put (HSub.put (HSub.put (HSub.put (HSub.put (HSub.put (HSub.none _) rfl) rfl) rfl) rfl) rfl) rfl
       ·
        refine AGo.cond_false false rfl rfl ?_
        refine AGo.seq ?_
        refine AGo.region ?_
        refine aq 116 (q_bin rfl rfl rfl rfl) ?_
        refine aa 115 ?_
        refine AOps.nil ?_
        refine AGo.split 115 rfl (fun hb8 => ?_) (fun hb8 => ?_)
        ·
         refine AGo.cond_true true rfl rfl ?_
         have ho : t.op = 8 := by simpa using hb8
         have hxd := h.at (ht.d (by rw [ho]; rfl))
         
         refine AGo.seq ?_
         refine AGo.region ?_
         refine am 117 ?_
         refine al 118 tok ?_
         refine ax 119 (o_call (hc := (hput (hput (hput (hput (hput (hput hNew 3 (.map (kvsA .i64 (vmap first ((w).K))))) 4 (.row false 3 [[.int .i64 first, .map 3, slA 9 (((w).K).map (arrAV .i64))]])) 9 (slO 4 (((w).K).map (arrAV .i64)))) 6 (.row false 4 [[.ptr 4 1 0 0, vaA 5 (valC ((w).vals)), slA 10 (((w).effs).map (arrAV .i64)), .int .i64 ((w).time)]])) 5 (vaO (valC ((w).vals)))) 10 (slO 6 (((w).effs).map (arrAV .i64))))) (hw := (hput (hput (hput (hput (hput (hput hNone 3 (.map (kvsA .i64 (vmap first (((w.hap t 0 0)).K))))) 4 (.row false 3 [[.int .i64 first, .map 3, slA 9 ((((w.hap t 0 0)).K).map (arrAV .i64))]])) 9 (slO 4 ((((w.hap t 0 0)).K).map (arrAV .i64)))) 6 (.row false 4 [[.ptr 4 1 0 0, vaA 5 (valC (((w.hap t 0 0)).vals)), slA 10 ((((w.hap t 0 0)).effs).map (arrAV .i64)), .int .i64 (((w.hap t 0 0)).time)]])) 5 (vaO (valC (((w.hap t 0 0)).vals)))) 10 (slO 6 ((((w.hap t 0 0)).effs).map (arrAV .i64))))) [10, 5, 6, 9, 4, 3] [(3, (.map (kvsA .i64 (vmap first (((w.hap t 0 0)).K))))), (4, (.row false 3 [[.int .i64 first, .map 3, slA 9 ((((w.hap t 0 0)).K).map (arrAV .i64))]])), (9, (slO 4 ((((w.hap t 0 0)).K).map (arrAV .i64)))), (6, (.row false 4 [[.ptr 4 1 0 0, vaA 5 (valC (((w.hap t 0 0)).vals)), slA 10 ((((w.hap t 0 0)).effs).map (arrAV .i64)), .int .i64 (((w.hap t 0 0)).time)]])), (5, (vaO (valC (((w.hap t 0 0)).vals)))), (10, (slO 6 ((((w.hap t 0 0)).effs).map (arrAV .i64))))] rfl Try.func47 (by kernel_rfl) rfl rfl rfl ⟨⟨_, rfl, (by first | rfl | exact slO_avoid _ _ | exact vaO_avoid _ | exact tab_avoid _ _ rfl rfl | exact wlk_avoid _ _ _ rfl rfl rfl)⟩, ⟨_, rfl, (by first | rfl | exact slO_avoid _ _ | exact vaO_avoid _ | exact tab_avoid _ _ rfl rfl | exact wlk_avoid _ _ _ rfl rfl rfl)⟩, ⟨_, rfl, (by first | rfl | exact slO_avoid _ _ | exact vaO_avoid _ | exact tab_avoid _ _ rfl rfl | exact wlk_avoid _ _ _ rfl rfl rfl)⟩, ⟨_, rfl, (by first | rfl | exact slO_avoid _ _ | exact vaO_avoid _ | exact tab_avoid _ _ rfl rfl | exact wlk_avoid _ _ _ rfl rfl rfl)⟩, ⟨_, rfl, (by first | rfl | exact slO_avoid _ _ | exact vaO_avoid _ | exact tab_avoid _ _ rfl rfl | exact wlk_avoid _ _ _ rfl rfl rfl)⟩, ⟨_, rfl, (by first | rfl | exact slO_avoid _ _ | exact vaO_avoid _ | exact tab_avoid _ _ rfl rfl | exact wlk_avoid _ _ _ rfl rfl rfl)⟩, trivial⟩ rfl (hres_cons rfl (hres_cons rfl (hres_cons rfl (hres_cons rfl (hres_cons rfl (hres_cons rfl (hres_nil _))))))) ⟨⟨_, rfl, rfl, (by first | rfl | exact slO_avoid _ _ | exact vaO_avoid _ | exact tab_avoid _ _ rfl rfl | exact wlk_avoid _ _ _ rfl rfl rfl)⟩, ⟨_, rfl, rfl, (by first | rfl | exact slO_avoid _ _ | exact vaO_avoid _ | exact tab_avoid _ _ rfl rfl | exact wlk_avoid _ _ _ rfl rfl rfl)⟩, ⟨_, rfl, rfl, (by first | rfl | exact slO_avoid _ _ | exact vaO_avoid _ | exact tab_avoid _ _ rfl rfl | exact wlk_avoid _ _ _ rfl rfl rfl)⟩, ⟨_, rfl, rfl, (by first | rfl | exact slO_avoid _ _ | exact vaO_avoid _ | exact tab_avoid _ _ rfl rfl | exact wlk_avoid _ _ _ rfl rfl rfl)⟩, ⟨_, rfl, rfl, (by first | rfl | exact slO_avoid _ _ | exact vaO_avoid _ | exact tab_avoid _ _ rfl rfl | exact wlk_avoid _ _ _ rfl rfl rfl)⟩, ⟨_, rfl, rfl, (by first | rfl | exact slO_avoid _ _ | exact vaO_avoid _ | exact tab_avoid _ _ rfl rfl | exact wlk_avoid _ _ _ rfl rfl rfl)⟩, trivial⟩ rfl (happensa_ok first R m w h (by omega) t 0 0)) ?_
         refine AOps.nil ?_
         refine AGo.draw mix ?_
         refine dm 120 ?_
         refine df 121 tok ?_
         refine dl 122 tok ?_
         refine dm 123 ?_
         refine dx 124 (o_call (hc := (hput (hput (hput (hput (hput (hput hNew 3 (.map (kvsA .i64 (vmap first (((w.hap t 0 0)).K))))) 4 (.row false 3 [[.int .i64 first, .map 3, slA 9 ((((w.hap t 0 0)).K).map (arrAV .i64))]])) 9 (slO 4 ((((w.hap t 0 0)).K).map (arrAV .i64)))) 6 (.row false 4 [[.ptr 4 1 0 0, vaA 5 (valC (((w.hap t 0 0)).vals)), slA 10 ((((w.hap t 0 0)).effs).map (arrAV .i64)), .int .i64 (((w.hap t 0 0)).time)]])) 5 (vaO (valC (((w.hap t 0 0)).vals)))) 10 (slO 6 ((((w.hap t 0 0)).effs).map (arrAV .i64))))) (hw := (hput (hput (hput (hput (hput (hput hNone 3 (.map (kvsA .i64 (vmap first ((vunk first (w.hap t 0 0)).2))))) 4 (.row false 3 [[.int .i64 first, .map 3, slA 9 (((vunk first (w.hap t 0 0)).2).map (arrAV .i64))]])) 9 (slO 4 (((vunk first (w.hap t 0 0)).2).map (arrAV .i64)))) 6 (.row false 4 [[.ptr 4 1 0 0, vaA 5 (valC (((w.hap t 0 0)).vals)), slA 10 ((((w.hap t 0 0)).effs).map (arrAV .i64)), .int .i64 (((w.hap t 0 0)).time)]])) 5 (vaO (valC (((w.hap t 0 0)).vals)))) 10 (slO 6 ((((w.hap t 0 0)).effs).map (arrAV .i64))))) [10, 5, 6, 9, 4, 3] [(3, (.map (kvsA .i64 (vmap first ((vunk first (w.hap t 0 0)).2))))), (4, (.row false 3 [[.int .i64 first, .map 3, slA 9 (((vunk first (w.hap t 0 0)).2).map (arrAV .i64))]])), (9, (slO 4 (((vunk first (w.hap t 0 0)).2).map (arrAV .i64)))), (6, (.row false 4 [[.ptr 4 1 0 0, vaA 5 (valC (((w.hap t 0 0)).vals)), slA 10 ((((w.hap t 0 0)).effs).map (arrAV .i64)), .int .i64 (((w.hap t 0 0)).time)]])), (5, (vaO (valC (((w.hap t 0 0)).vals)))), (10, (slO 6 ((((w.hap t 0 0)).effs).map (arrAV .i64))))] rfl Try.func48 (by kernel_rfl) rfl rfl rfl ⟨⟨_, rfl, (by first | rfl | exact slO_avoid _ _ | exact vaO_avoid _ | exact tab_avoid _ _ rfl rfl | exact wlk_avoid _ _ _ rfl rfl rfl)⟩, ⟨_, rfl, (by first | rfl | exact slO_avoid _ _ | exact vaO_avoid _ | exact tab_avoid _ _ rfl rfl | exact wlk_avoid _ _ _ rfl rfl rfl)⟩, ⟨_, rfl, (by first | rfl | exact slO_avoid _ _ | exact vaO_avoid _ | exact tab_avoid _ _ rfl rfl | exact wlk_avoid _ _ _ rfl rfl rfl)⟩, ⟨_, rfl, (by first | rfl | exact slO_avoid _ _ | exact vaO_avoid _ | exact tab_avoid _ _ rfl rfl | exact wlk_avoid _ _ _ rfl rfl rfl)⟩, ⟨_, rfl, (by first | rfl | exact slO_avoid _ _ | exact vaO_avoid _ | exact tab_avoid _ _ rfl rfl | exact wlk_avoid _ _ _ rfl rfl rfl)⟩, ⟨_, rfl, (by first | rfl | exact slO_avoid _ _ | exact vaO_avoid _ | exact tab_avoid _ _ rfl rfl | exact wlk_avoid _ _ _ rfl rfl rfl)⟩, trivial⟩ rfl (hres_cons rfl (hres_cons rfl (hres_cons rfl (hres_cons rfl (hres_cons rfl (hres_cons rfl (hres_nil _))))))) ⟨⟨_, rfl, rfl, (by first | rfl | exact slO_avoid _ _ | exact vaO_avoid _ | exact tab_avoid _ _ rfl rfl | exact wlk_avoid _ _ _ rfl rfl rfl)⟩, ⟨_, rfl, rfl, (by first | rfl | exact slO_avoid _ _ | exact vaO_avoid _ | exact tab_avoid _ _ rfl rfl | exact wlk_avoid _ _ _ rfl rfl rfl)⟩, ⟨_, rfl, rfl, (by first | rfl | exact slO_avoid _ _ | exact vaO_avoid _ | exact tab_avoid _ _ rfl rfl | exact wlk_avoid _ _ _ rfl rfl rfl)⟩, ⟨_, rfl, rfl, (by first | rfl | exact slO_avoid _ _ | exact vaO_avoid _ | exact tab_avoid _ _ rfl rfl | exact wlk_avoid _ _ _ rfl rfl rfl)⟩, ⟨_, rfl, rfl, (by first | rfl | exact slO_avoid _ _ | exact vaO_avoid _ | exact tab_avoid _ _ rfl rfl | exact wlk_avoid _ _ _ rfl rfl rfl)⟩, ⟨_, rfl, rfl, (by first | rfl | exact slO_avoid _ _ | exact vaO_avoid _ | exact tab_avoid _ _ rfl rfl | exact wlk_avoid _ _ _ rfl rfl rfl)⟩, trivial⟩ rfl (unknowna_ok first R (m + 1) (w.hap t 0 0) (h.eff rfl) (by omega))) ?_
         refine dq 125 (q_indexV tok rfl rfl rfl rfl rfl rfl rfl rfl hxd.1 hxd.2.2.1) ?_
         refine DOps.w rfl rfl (o_storeV tok rfl rfl rfl rfl rfl rfl rfl (by have h1 := hxd.2.2.1; have h0 := hxd.1; omega) (valC_one _) rfl rfl rfl) ?_
         refine DOps.nil (by kernel_rfl) ?_
         refine ⟨[], trivial, rfl, ?_⟩
         rw [vstep8 ho]
         exact HSub.put (HSub.put (HSub.put (HSub.put (HSub.put (HSub.put (HSub.none _) rfl) rfl) rfl) (by show _ = some (AObj.row false 4 [[.ptr 4 1 0 0, vaA 5 (valC (rset w.vals t.d _)), slA 10 ((w.hap t 0 0).effs.map (arrAV .i64)), .int .i64 w.time]]); rw [valC_vaA]; rfl)) (by show _ = some (vaO (valC (rset w.vals t.d _))); rw [valC_set]; rfl)) rfl
        ·
         refine AGo.cond_false false rfl rfl ?_
         refine AGo.seq ?_
         refine AGo.region ?_
         refine aq 127 (q_bin rfl rfl rfl rfl) ?_
         refine aa 126 ?_
         refine AOps.nil ?_
         refine AGo.split 126 rfl (fun hb9 => ?_) (fun hb9 => ?_)
         ·
          refine AGo.cond_true true rfl rfl ?_
          have ho : t.op = 9 := by simpa using hb9
          have hxa := h.at (ht.a (.inl (by rw [ho]; rfl)))
          
          refine AGo.draw mix ?_
          refine dm 128 ?_
          refine dl 129 tok ?_
          refine dm 130 ?_
          refine df 131 tok ?_
          refine dl 132 tok ?_
          refine dq 133 (q_indexV tok rfl rfl rfl rfl rfl rfl rfl rfl hxa.1 hxa.2.2.1) ?_
          refine dq 134 (q_load tok rfl rfl rfl (ptsV rfl (valC_get ⟨hxa.1, hxa.2.1⟩)) rfl) ?_
          refine dx 135 (o_call (hc := (hput (hput (hput (hput (hput (hput hNew 3 (.map (kvsA .i64 (vmap first ((w).K))))) 4 (.row false 3 [[.int .i64 first, .map 3, slA 9 (((w).K).map (arrAV .i64))]])) 9 (slO 4 (((w).K).map (arrAV .i64)))) 6 (.row false 4 [[.ptr 4 1 0 0, vaA 5 (valC ((w).vals)), slA 10 (((w).effs).map (arrAV .i64)), .int .i64 ((w).time)]])) 5 (vaO (valC ((w).vals)))) 10 (slO 6 (((w).effs).map (arrAV .i64))))) (hw := (hput (hput (hput (hput (hput (hput hNone 3 (.map (kvsA .i64 (vmap first (((w.hap t (rget w.vals t.a) 0)).K))))) 4 (.row false 3 [[.int .i64 first, .map 3, slA 9 ((((w.hap t (rget w.vals t.a) 0)).K).map (arrAV .i64))]])) 9 (slO 4 ((((w.hap t (rget w.vals t.a) 0)).K).map (arrAV .i64)))) 6 (.row false 4 [[.ptr 4 1 0 0, vaA 5 (valC (((w.hap t (rget w.vals t.a) 0)).vals)), slA 10 ((((w.hap t (rget w.vals t.a) 0)).effs).map (arrAV .i64)), .int .i64 (((w.hap t (rget w.vals t.a) 0)).time)]])) 5 (vaO (valC (((w.hap t (rget w.vals t.a) 0)).vals)))) 10 (slO 6 ((((w.hap t (rget w.vals t.a) 0)).effs).map (arrAV .i64))))) [10, 5, 6, 9, 4, 3] [(3, (.map (kvsA .i64 (vmap first (((w.hap t (rget w.vals t.a) 0)).K))))), (4, (.row false 3 [[.int .i64 first, .map 3, slA 9 ((((w.hap t (rget w.vals t.a) 0)).K).map (arrAV .i64))]])), (9, (slO 4 ((((w.hap t (rget w.vals t.a) 0)).K).map (arrAV .i64)))), (6, (.row false 4 [[.ptr 4 1 0 0, vaA 5 (valC (((w.hap t (rget w.vals t.a) 0)).vals)), slA 10 ((((w.hap t (rget w.vals t.a) 0)).effs).map (arrAV .i64)), .int .i64 (((w.hap t (rget w.vals t.a) 0)).time)]])), (5, (vaO (valC (((w.hap t (rget w.vals t.a) 0)).vals)))), (10, (slO 6 ((((w.hap t (rget w.vals t.a) 0)).effs).map (arrAV .i64))))] rfl Try.func47 (by kernel_rfl) rfl rfl rfl ⟨⟨_, rfl, (by first | rfl | exact slO_avoid _ _ | exact vaO_avoid _ | exact tab_avoid _ _ rfl rfl | exact wlk_avoid _ _ _ rfl rfl rfl)⟩, ⟨_, rfl, (by first | rfl | exact slO_avoid _ _ | exact vaO_avoid _ | exact tab_avoid _ _ rfl rfl | exact wlk_avoid _ _ _ rfl rfl rfl)⟩, ⟨_, rfl, (by first | rfl | exact slO_avoid _ _ | exact vaO_avoid _ | exact tab_avoid _ _ rfl rfl | exact wlk_avoid _ _ _ rfl rfl rfl)⟩, ⟨_, rfl, (by first | rfl | exact slO_avoid _ _ | exact vaO_avoid _ | exact tab_avoid _ _ rfl rfl | exact wlk_avoid _ _ _ rfl rfl rfl)⟩, ⟨_, rfl, (by first | rfl | exact slO_avoid _ _ | exact vaO_avoid _ | exact tab_avoid _ _ rfl rfl | exact wlk_avoid _ _ _ rfl rfl rfl)⟩, ⟨_, rfl, (by first | rfl | exact slO_avoid _ _ | exact vaO_avoid _ | exact tab_avoid _ _ rfl rfl | exact wlk_avoid _ _ _ rfl rfl rfl)⟩, trivial⟩ rfl (hres_cons rfl (hres_cons rfl (hres_cons rfl (hres_cons rfl (hres_cons rfl (hres_cons rfl (hres_nil _))))))) ⟨⟨_, rfl, rfl, (by first | rfl | exact slO_avoid _ _ | exact vaO_avoid _ | exact tab_avoid _ _ rfl rfl | exact wlk_avoid _ _ _ rfl rfl rfl)⟩, ⟨_, rfl, rfl, (by first | rfl | exact slO_avoid _ _ | exact vaO_avoid _ | exact tab_avoid _ _ rfl rfl | exact wlk_avoid _ _ _ rfl rfl rfl)⟩, ⟨_, rfl, rfl, (by first | rfl | exact slO_avoid _ _ | exact vaO_avoid _ | exact tab_avoid _ _ rfl rfl | exact wlk_avoid _ _ _ rfl rfl rfl)⟩, ⟨_, rfl, rfl, (by first | rfl | exact slO_avoid _ _ | exact vaO_avoid _ | exact tab_avoid _ _ rfl rfl | exact wlk_avoid _ _ _ rfl rfl rfl)⟩, ⟨_, rfl, rfl, (by first | rfl | exact slO_avoid _ _ | exact vaO_avoid _ | exact tab_avoid _ _ rfl rfl | exact wlk_avoid _ _ _ rfl rfl rfl)⟩, ⟨_, rfl, rfl, (by first | rfl | exact slO_avoid _ _ | exact vaO_avoid _ | exact tab_avoid _ _ rfl rfl | exact wlk_avoid _ _ _ rfl rfl rfl)⟩, trivial⟩ rfl (happensa_ok first R m w h (by omega) t (rget w.vals t.a) 0)) ?_
          refine DOps.nil (by kernel_rfl) ?_
          refine ⟨[], trivial, rfl, ?_⟩
          rw [vstep9 ho]
          exact HSub.put (HSub.put (HSub.put (HSub.put (HSub.put (HSub.put (HSub.none _) rfl) rfl) rfl) rfl) rfl) rfl
         ·
          refine AGo.cond_false false rfl rfl ?_
          refine AGo.seq ?_
          refine AGo.region ?_
          refine aq 137 (q_bin rfl rfl rfl rfl) ?_
          refine aa 136 ?_
          refine AOps.nil ?_
          refine AGo.split 136 rfl (fun hb10 => ?_) (fun hb10 => ?_)
          ·
           refine AGo.cond_true true rfl rfl ?_
           have ho : t.op = 10 := by simpa using hb10
           
           refine AGo.seq ?_
           refine AGo.region ?_
           refine am 138 ?_
           refine al 139 tok ?_
           refine ax 140 (o_call (hc := (hput (hput (hput (hput (hput (hput hNew 3 (.map (kvsA .i64 (vmap first ((w).K))))) 4 (.row false 3 [[.int .i64 first, .map 3, slA 9 (((w).K).map (arrAV .i64))]])) 9 (slO 4 (((w).K).map (arrAV .i64)))) 6 (.row false 4 [[.ptr 4 1 0 0, vaA 5 (valC ((w).vals)), slA 10 (((w).effs).map (arrAV .i64)), .int .i64 ((w).time)]])) 5 (vaO (valC ((w).vals)))) 10 (slO 6 (((w).effs).map (arrAV .i64))))) (hw := (hput (hput (hput (hput (hput (hput hNone 3 (.map (kvsA .i64 (vmap first (((w.hap t 0 0)).K))))) 4 (.row false 3 [[.int .i64 first, .map 3, slA 9 ((((w.hap t 0 0)).K).map (arrAV .i64))]])) 9 (slO 4 ((((w.hap t 0 0)).K).map (arrAV .i64)))) 6 (.row false 4 [[.ptr 4 1 0 0, vaA 5 (valC (((w.hap t 0 0)).vals)), slA 10 ((((w.hap t 0 0)).effs).map (arrAV .i64)), .int .i64 (((w.hap t 0 0)).time)]])) 5 (vaO (valC (((w.hap t 0 0)).vals)))) 10 (slO 6 ((((w.hap t 0 0)).effs).map (arrAV .i64))))) [10, 5, 6, 9, 4, 3] [(3, (.map (kvsA .i64 (vmap first (((w.hap t 0 0)).K))))), (4, (.row false 3 [[.int .i64 first, .map 3, slA 9 ((((w.hap t 0 0)).K).map (arrAV .i64))]])), (9, (slO 4 ((((w.hap t 0 0)).K).map (arrAV .i64)))), (6, (.row false 4 [[.ptr 4 1 0 0, vaA 5 (valC (((w.hap t 0 0)).vals)), slA 10 ((((w.hap t 0 0)).effs).map (arrAV .i64)), .int .i64 (((w.hap t 0 0)).time)]])), (5, (vaO (valC (((w.hap t 0 0)).vals)))), (10, (slO 6 ((((w.hap t 0 0)).effs).map (arrAV .i64))))] rfl Try.func47 (by kernel_rfl) rfl rfl rfl ⟨⟨_, rfl, (by first | rfl | exact slO_avoid _ _ | exact vaO_avoid _ | exact tab_avoid _ _ rfl rfl | exact wlk_avoid _ _ _ rfl rfl rfl)⟩, ⟨_, rfl, (by first | rfl | exact slO_avoid _ _ | exact vaO_avoid _ | exact tab_avoid _ _ rfl rfl | exact wlk_avoid _ _ _ rfl rfl rfl)⟩, ⟨_, rfl, (by first | rfl | exact slO_avoid _ _ | exact vaO_avoid _ | exact tab_avoid _ _ rfl rfl | exact wlk_avoid _ _ _ rfl rfl rfl)⟩, ⟨_, rfl, (by first | rfl | exact slO_avoid _ _ | exact vaO_avoid _ | exact tab_avoid _ _ rfl rfl | exact wlk_avoid _ _ _ rfl rfl rfl)⟩, ⟨_, rfl, (by first | rfl | exact slO_avoid _ _ | exact vaO_avoid _ | exact tab_avoid _ _ rfl rfl | exact wlk_avoid _ _ _ rfl rfl rfl)⟩, ⟨_, rfl, (by first | rfl | exact slO_avoid _ _ | exact vaO_avoid _ | exact tab_avoid _ _ rfl rfl | exact wlk_avoid _ _ _ rfl rfl rfl)⟩, trivial⟩ rfl (hres_cons rfl (hres_cons rfl (hres_cons rfl (hres_cons rfl (hres_cons rfl (hres_cons rfl (hres_nil _))))))) ⟨⟨_, rfl, rfl, (by first | rfl | exact slO_avoid _ _ | exact vaO_avoid _ | exact tab_avoid _ _ rfl rfl | exact wlk_avoid _ _ _ rfl rfl rfl)⟩, ⟨_, rfl, rfl, (by first | rfl | exact slO_avoid _ _ | exact vaO_avoid _ | exact tab_avoid _ _ rfl rfl | exact wlk_avoid _ _ _ rfl rfl rfl)⟩, ⟨_, rfl, rfl, (by first | rfl | exact slO_avoid _ _ | exact vaO_avoid _ | exact tab_avoid _ _ rfl rfl | exact wlk_avoid _ _ _ rfl rfl rfl)⟩, ⟨_, rfl, rfl, (by first | rfl | exact slO_avoid _ _ | exact vaO_avoid _ | exact tab_avoid _ _ rfl rfl | exact wlk_avoid _ _ _ rfl rfl rfl)⟩, ⟨_, rfl, rfl, (by first | rfl | exact slO_avoid _ _ | exact vaO_avoid _ | exact tab_avoid _ _ rfl rfl | exact wlk_avoid _ _ _ rfl rfl rfl)⟩, ⟨_, rfl, rfl, (by first | rfl | exact slO_avoid _ _ | exact vaO_avoid _ | exact tab_avoid _ _ rfl rfl | exact wlk_avoid _ _ _ rfl rfl rfl)⟩, trivial⟩ rfl (happensa_ok first R m w h (by omega) t 0 0)) ?_
           refine AOps.nil ?_
           refine AGo.region ?_
           refine am 141 ?_
           refine aq 142 (q_nilCheck rfl rfl rfl) ?_
           refine af 143 tok ?_
           refine al 144 tok ?_
           refine aq 145 (q_bin (r := .int .i64 (w.time + 1)) rfl rfl rfl (by exact timeZ (x := w.time) (by omega))) ?_
           refine aq 146 (q_nilCheck rfl rfl rfl) ?_
           refine af 147 tok ?_
           refine AOps.w rfl rfl (o_store tok rfl rfl rfl rfl rfl rfl rfl rfl rfl (by decide) rfl (by first | exact fun _ => rfl | (intro h; cases h))) ?_
           refine AOps.nil ?_
           refine ⟨[], trivial, rfl, ?_⟩
           rw [vstep10 ho]
           exact HSub.put (HSub.put (HSub.put (HSub.put (HSub.put (HSub.put (HSub.none _) rfl) rfl) rfl) rfl) rfl) rfl
          ·
           refine AGo.cond_false false rfl rfl ?_
           refine AGo.skip ?_
           refine ⟨[], trivial, rfl, ?_⟩
           rw [vstep0 hb1 hb2 hb3 hb4 hb5 hb6 hb7 hb8 hb9 hb10]
           exact HSub.put (HSub.put (HSub.put (HSub.put (HSub.put (HSub.put (HSub.none _) rfl) rfl) rfl) rfl) rfl) rfl

end Go.Proofs.Ytpijoieooikfgaa.Sv

namespace Go.Proofs.Ytpijoieooikfgaa.Sv
open Go

set_option maxHeartbeats 4000000 in
set_option maxRecDepth 100000 in
theorem vsame_ok (old new : Block) (R : Nat) (c : Cert) (i : Int) (next : List Int) (hR : R ≤ 40000) (hc : ∀ r ∈ c.same, r.length = R) (hi : 0 ≤ i ∧ i < c.same.length) (hnx : ∀ k ∈ next, 0 ≤ k ∧ k < c.same.length) (hv : old.fin = 2 → (0 ≤ old.v ∧ old.v < R) ∧ (0 ≤ new.v ∧ new.v < R)) (ho : ∀ t ∈ old.ins, TacV t R) (hn : ∀ t ∈ new.ins, TacV t R) (hlo : old.ins.length ≤ 10000) (hln : new.ins.length ≤ 10000) (hnl : next.length ≤ 100000) : APure Try.prog 28 [.agg old.cells, .agg new.cells, .int .i64 (R : Int), .agg c.cells, .int .i64 i, intsAV next] (fun r => r = .bool (vsame R old new c i next)) := by
 obtain ⟨row, hrow⟩ := get_of_lt (l := c.same) (k := i.toNat) (by omega)
 have hat : c.at' i = row := by unfold Cert.at'; rw [hrow]; rfl
 have hrl := hc row (List.mem_of_getElem? hrow)
 have hoa0 := vfold_ok (vok_a hR) ho
 have hoa : VOk ((2 * R : Nat) : Int) R (0 + 2 * old.ins.length) (vrunA R old) := hoa0
 have hob : VOk ((2 * R : Nat) : Int) R (0 + 2 * old.ins.length + 2 * new.ins.length) (vrunB R old new (c.at' i)) := vfold_ok (vok_b hoa _) hn
 refine APure.of_body (n := 146) tok Try.func28 rfl rfl ?_
 refine AGo.seq ?_
 refine AGo.region ?_
 refine ax 6 (o_box (sz := 5) 0 rfl rfl rfl rfl (Nat.zero_lt_succ _) rfl) ?_
 refine ax 7 (o_box (sz := 5) 1 rfl rfl rfl rfl (Nat.zero_lt_succ _) rfl) ?_
 refine ax 9 (o_box (sz := 1) 2 rfl rfl rfl rfl (Nat.zero_lt_succ _) rfl) ?_
 refine aa 12 ?_
 refine AOps.nil ?_
 refine AGo.seq ?_
 refine AGo.region ?_
 refine am 25 ?_
 refine aq 26 (q_bin (r := .int .i64 ((2 * R : Nat) : Int)) rfl rfl rfl (mulZ (by omega) (by omega) (by omega))) ?_
 refine ax 27 (o_makeMapA .i64 3 rfl rfl) ?_
 refine aq 28 (q_buildM tok (z0 := .int .i64 0) (z1 := .map none) (x := .int .i64 ((2 * R : Nat) : Int)) (y := .map 3) rfl rfl rfl rfl rfl rfl rfl rfl rfl (by kernel_rfl) rfl rfl) ?_
 refine ax 29 (o_box (sz := 3) 4 rfl rfl rfl rfl (Nat.zero_lt_succ _) rfl) ?_
 refine aa 13 ?_
 refine AOps.nil ?_
 refine AGo.seq ?_
 refine AGo.region ?_
 refine am 30 ?_
 refine am 31 ?_
 refine ax 32 (o_makeSliceV tok (n := R) 5 rfl rfl rfl rfl rfl rfl rfl rfl rfl rfl rfl rfl (by show 8 * R ≤ _; omega) (by simp only [maxLen]; omega)) ?_
 refine aq 33 (q_build tok (ps := [(0, .ptr 4 1 0 0), (1, vaA 5 (List.replicate R [.int .i64 0]))]) (r := [.ptr 4 1 0 0, vaA 5 (List.replicate R [.int .i64 0]), .nil, .int .i64 0]) rfl rfl rfl rfl rfl (by decide) (by simp only [partsFit, vaA_cells]; rfl) rfl (by simp only [partCells, vaA_cells]; rfl)) ?_
 refine ax 14 (o_alloc tok 6 rfl rfl rfl rfl (Nat.zero_lt_succ _) rfl) ?_
 refine AOps.w rfl rfl (o_store tok rfl rfl rfl rfl rfl rfl rfl rfl rfl (by decide) (by simp only [AV.cells, List.all_cons, List.all_nil, vaA_cell1]; rfl) (by intro h; cases h)) ?_
 refine AOps.nil ?_
 refine AGo.seq ?_
 refine AGo.ghost (.weakRowF 4 (es' := [[.int .i64 ((2 * R : Nat) : Int), .map 3, .lst true []]]) rfl rfl weakTab) ?_
 refine AGo.ghost (.weakRowF 6 (es' := [[.ptr 4 1 0 0, vaA 5 (List.replicate R [.int .i64 0]), .lst true [], .int .i64 0]]) rfl rfl weakWlk) ?_
 refine AGo.region ?_
 refine am 34 ?_
 refine am 35 ?_
 refine ax 36 (o_makeSliceV tok (n := R) 7 rfl rfl rfl rfl rfl rfl rfl rfl rfl rfl rfl rfl (by show 8 * R ≤ _; omega) (by simp only [maxLen]; omega)) ?_
 refine aq 37 (q_build tok (ps := [(0, .ptr 4 1 0 0), (1, vaA 7 (List.replicate R [.int .i64 0]))]) (r := [.ptr 4 1 0 0, vaA 7 (List.replicate R [.int .i64 0]), .nil, .int .i64 0]) rfl rfl rfl rfl rfl (by decide) (by simp only [partsFit, vaA_cells]; rfl) rfl (by simp only [partCells, vaA_cells]; rfl)) ?_
 refine ax 15 (o_alloc tok 8 rfl rfl rfl rfl (Nat.zero_lt_succ _) rfl) ?_
 refine AOps.w rfl rfl (o_store tok rfl rfl rfl rfl rfl rfl rfl rfl rfl (by decide) (by simp only [AV.cells, List.all_cons, List.all_nil, vaA_cell1]; rfl) (by intro h; cases h)) ?_
 refine AOps.nil ?_
 refine AGo.seq ?_
 refine AGo.seq ?_
 refine AGo.ghost (.weakRowF 8 (es' := [[.ptr 4 1 0 0, vaA 7 (List.replicate R [.int .i64 0]), .lst true [], .int .i64 0]]) rfl rfl weakWlk) ?_
 refine AGo.region ?_
 refine am 38 ?_
 refine am 39 ?_
 refine AOps.nil ?_
 refine AGo.block ?_
 refine AGo.loopD (γ := Nat) 12 (fun k => ⟨146, (eput (eput (eput (eput (eput (eput (eput (eput (eput (eput eNew 2 (.int .i64 (R : Int))) 4 (.int .i64 i)) 5 (intsAV next)) 6 (.ptr 0 1 0 0)) 7 (.ptr 1 1 0 0)) 9 (.ptr 2 1 0 0)) 14 (.ptr 6 1 0 0)) 15 (.ptr 8 1 0 0)) 38 (.int .i64 (R : Int))) 39 (.int .i64 (k : Int))), (hput (hput (hput (hput (hput (hput (hput (hput (hput (hput (hput (hput (hFrom 12) 0 (.row false 5 [old.cells])) 1 (.row false 5 [new.cells])) 2 (.row false 1 [c.cells])) 3 (.map (kvsA .i64 (vmap ((2 * R : Nat) : Int) ([]))))) 4 (.row false 3 [[.int .i64 ((2 * R : Nat) : Int), .map 3, slA 9 (([]).map (arrAV .i64))]])) 9 (slO 4 (([]).map (arrAV .i64)))) 6 (.row false 4 [[.ptr 4 1 0 0, vaA 5 (valC (fillI R k (fun v : Nat => (v : Int)))), slA 10 (([]).map (arrAV .i64)), .int .i64 (0)]])) 5 (vaO (valC (fillI R k (fun v : Nat => (v : Int)))))) 10 (slO 6 (([]).map (arrAV .i64)))) 8 (.row false 4 [[.ptr 4 1 0 0, vaA 7 (valC (fillI R k (sideB R (c.at' i)))), slA 11 (([]).map (arrAV .i64)), .int .i64 (0)]])) 7 (vaO (valC (fillI R k (sideB R (c.at' i)))))) 11 (slO 6 (([]).map (arrAV .i64))))⟩) (fun k => k ≤ R) (fun k => R - k) 0 (Sub.mk' (by repeat (first | exact ESub.new _ | refine ESub.put ?_ (by rfl))) (by repeat (first | exact HSub.refl _ | exact HSub.none _ | exact HSub.from_new _ | exact HSub.from_from (by first | decide | omega | (dsimp only; omega)) | refine HSub.put ?_ (by first | rfl | exact fill0R _ | exact fill0W _ _ _ _) | refine HSub.from_put ?_ (by first | decide | omega | (dsimp only; omega)) | refine HSub.from_rm ?_ (by decide)))) (Nat.zero_le _) (fun _ => hput_free (hput_free (hput_free (hput_free (hput_free (hput_free (hput_free (hput_free (hput_free (hput_free (hput_free (hput_free (fun b hb => hFrom_free hb) rfl) rfl) rfl) rfl) rfl) rfl) rfl) rfl) rfl) rfl) rfl) rfl) ?_
 intro k hk
 refine AGo.seq ?_
 refine AGo.region ?_
 refine aq 40 (q_bin rfl rfl rfl rfl) ?_
 refine AOps.nil ?_
 refine AGo.seq ?_
 refine AGo.split 40 rfl (fun hb1 => ?_) (fun hb1 => ?_)
 ·
  refine AGo.cond_true true rfl rfl ?_
  have hkl : k < R := by have h := hb1; simp only [decide_eq_true_eq] at h; omega
  obtain ⟨bit, hbit⟩ := get_of_lt (l := row) (k := k) (by omega)
  refine AGo.skip ?_
  refine AGo.seq ?_
  refine AGo.block ?_
  refine AGo.seq ?_
  refine AGo.region ?_
  refine am 41 ?_
  refine aa 16 ?_
  refine AOps.nil ?_
  refine AGo.seq ?_
  refine AGo.region ?_
  refine af 42 tok ?_
  refine al 43 tok ?_
  refine am 44 ?_
  refine af 45 tok ?_
  refine al 46 tok ?_
  refine am 47 ?_
  refine am 48 ?_
  refine am 49 ?_
  refine aq 50 (q_indexV tok rfl rfl rfl rfl rfl rfl rfl rfl (Int.natCast_nonneg _) (by rw [valC_len, (fillI_len (fun v : Nat => (v : Int)) (Nat.le_of_lt hkl))]; omega)) ?_
  refine AOps.w rfl rfl (o_storeV tok rfl rfl rfl rfl rfl rfl rfl (by rw [valC_len, (fillI_len (fun v : Nat => (v : Int)) (Nat.le_of_lt hkl)), Int.toNat_natCast]; exact hkl) (valC_one _) rfl rfl rfl) ?_
  refine aq 51 (q_indexV tok rfl rfl rfl rfl rfl rfl rfl rfl (Int.natCast_nonneg _) (by rw [valC_len, (fillI_len (sideB R (c.at' i)) (Nat.le_of_lt hkl))]; omega)) ?_
  refine AOps.w rfl rfl (o_storeV tok rfl rfl rfl rfl rfl rfl rfl (by rw [valC_len, (fillI_len (sideB R (c.at' i)) (Nat.le_of_lt hkl)), Int.toNat_natCast]; exact hkl) (valC_one _) rfl rfl rfl) ?_
  refine AOps.nil ?_
  refine AGo.seq ?_
  refine AGo.region ?_
  refine af 52 tok ?_
  refine al 53 tok ?_
  refine am 54 ?_
  refine aq 55 (q_index_lst tok rfl rfl rfl rfl rfl rfl hi.1 (by rw [List.getElem?_map, hrow]; rfl) rfl) ?_
  refine al 56 tok ?_
  refine am 57 ?_
  refine aq 58 (q_index_lst tok rfl rfl rfl rfl rfl rfl (Int.natCast_nonneg _) (idx_map hbit) rfl) ?_
  refine al 59 tok ?_
  refine aq 60 (q_not rfl rfl) ?_
  refine AOps.nil ?_
  refine AGo.split 60 rfl (fun hb2 => ?_) (fun hb2 => ?_)
  ·
   refine AGo.cond_true true rfl rfl ?_
   have hbf : bit = false := by simpa using hb2
   subst hbf
   refine AGo.region ?_
   refine af 61 tok ?_
   refine al 62 tok ?_
   refine am 63 ?_
   refine am 64 ?_
   refine am 65 ?_
   refine aq 66 (q_bin (r := .int .i64 ((R + k : Nat) : Int)) rfl rfl rfl (addZ (by omega) (by omega) (by omega))) ?_
   refine aq 67 (q_indexV2 tok rfl rfl rfl rfl rfl rfl rfl rfl (by rw [List.length_set]) (Int.natCast_nonneg _) (by rw [List.length_set, valC_len, (fillI_len (sideB R (c.at' i)) (Nat.le_of_lt hkl))]; omega)) ?_
   refine AOps.w rfl rfl (o_storeV tok rfl rfl rfl rfl rfl rfl rfl (by rw [List.length_set, valC_len, (fillI_len (sideB R (c.at' i)) (Nat.le_of_lt hkl)), Int.toNat_natCast]; exact hkl) (by intro cs hc; rcases List.mem_or_eq_of_mem_set hc with hc | rfl; exact valC_one _ _ hc; rfl) rfl rfl rfl) ?_
   refine AOps.nil ?_
   refine AGo.region ?_
   refine aq 68 (q_inc rfl rfl hkl (show R ≤ maxLen by simp only [maxLen]; omega)) ?_
   refine am 39 ?_
   refine AOps.nil ?_
   exact ⟨k+1, Drop.mk' (by repeat (first | exact EDrop.new _ _ | refine EDrop.put ?_ (by rfl) (by first | rfl | exact slA_avoid _ rfl | exact vaA_avoid _ rfl))) (by repeat (first | exact HDrop.none _ _ | exact HDrop.tail _ _ | refine HDrop.put ?_ (by first | rfl | exact fillRowA hkl | exact fillRowB hkl (hat ▸ hbit) | exact fillRowB2 hkl (hat ▸ hbit) | exact fillWlk _ _ _ _ hkl) rfl (by first | rfl | exact slO_avoid _ _ | exact vaO_avoid _ | exact tab_avoid _ _ rfl rfl | exact wlk_avoid _ _ _ rfl rfl rfl))), hkl, by omega⟩
  ·
   refine AGo.cond_false false rfl rfl ?_
   have hbf : bit = true := by simpa using hb2
   subst hbf
   refine AGo.skip ?_
   refine AGo.region ?_
   refine aq 68 (q_inc rfl rfl hkl (show R ≤ maxLen by simp only [maxLen]; omega)) ?_
   refine am 39 ?_
   refine AOps.nil ?_
   exact ⟨k+1, Drop.mk' (by repeat (first | exact EDrop.new _ _ | refine EDrop.put ?_ (by rfl) (by first | rfl | exact slA_avoid _ rfl | exact vaA_avoid _ rfl))) (by repeat (first | exact HDrop.none _ _ | exact HDrop.tail _ _ | refine HDrop.put ?_ (by first | rfl | exact fillRowA hkl | exact fillRowB hkl (hat ▸ hbit) | exact fillRowB2 hkl (hat ▸ hbit) | exact fillWlk _ _ _ _ hkl) rfl (by first | rfl | exact slO_avoid _ _ | exact vaO_avoid _ | exact tab_avoid _ _ rfl rfl | exact wlk_avoid _ _ _ rfl rfl rfl))), hkl, by omega⟩
 ·
  refine AGo.cond_false false rfl rfl ?_
  obtain rfl : R = k := by have h := hb1; simp only [decide_eq_false_iff_not] at h; omega
  refine AGo.exit ?_
  refine AGo.seq ?_
  refine AGo.seq ?_
  refine AGo.region ?_
  refine af 69 tok ?_
  refine al 70 tok ?_
  refine aq 71 (q_len tok rfl rfl rfl rfl rfl) ?_
  refine am 72 ?_
  refine AOps.nil ?_
  refine AGo.block ?_
  refine AGo.loopD (γ := Nat) 12 (fun k => ⟨146, (eput (eput (eput (eput (eput (eput (eput (eput (eput (eput (eput eNew 2 (.int .i64 (R : Int))) 4 (.int .i64 i)) 5 (intsAV next)) 6 (.ptr 0 1 0 0)) 7 (.ptr 1 1 0 0)) 9 (.ptr 2 1 0 0)) 14 (.ptr 6 1 0 0)) 15 (.ptr 8 1 0 0)) 70 (insAV old.ins)) 71 (.int .i64 (old.ins.length : Int))) 72 (.int .i64 (k : Int))), (hput (hput (hput (hput (hput (hput (hput (hput (hput (hput (hput (hput (hFrom 12) 0 (.row false 5 [old.cells])) 1 (.row false 5 [new.cells])) 2 (.row false 1 [c.cells])) 3 (.map (kvsA .i64 (vmap ((2 * R : Nat) : Int) (((vfold ((2 * R : Nat) : Int) (old.ins.take (k)) ⟨[], idsA R, [], 0⟩)).K))))) 4 (.row false 3 [[.int .i64 ((2 * R : Nat) : Int), .map 3, slA 9 ((((vfold ((2 * R : Nat) : Int) (old.ins.take (k)) ⟨[], idsA R, [], 0⟩)).K).map (arrAV .i64))]])) 9 (slO 4 ((((vfold ((2 * R : Nat) : Int) (old.ins.take (k)) ⟨[], idsA R, [], 0⟩)).K).map (arrAV .i64)))) 6 (.row false 4 [[.ptr 4 1 0 0, vaA 5 (valC ((vfold ((2 * R : Nat) : Int) (old.ins.take (k)) ⟨[], idsA R, [], 0⟩)).vals), slA 10 ((((vfold ((2 * R : Nat) : Int) (old.ins.take (k)) ⟨[], idsA R, [], 0⟩)).effs).map (arrAV .i64)), .int .i64 (((vfold ((2 * R : Nat) : Int) (old.ins.take (k)) ⟨[], idsA R, [], 0⟩)).time)]])) 5 (vaO (valC ((vfold ((2 * R : Nat) : Int) (old.ins.take (k)) ⟨[], idsA R, [], 0⟩)).vals))) 10 (slO 6 ((((vfold ((2 * R : Nat) : Int) (old.ins.take (k)) ⟨[], idsA R, [], 0⟩)).effs).map (arrAV .i64)))) 8 (.row false 4 [[.ptr 4 1 0 0, vaA 7 (valC (idsB R (c.at' i))), slA 11 (([]).map (arrAV .i64)), .int .i64 (0)]])) 7 (vaO (valC (idsB R (c.at' i))))) 11 (slO 6 (([]).map (arrAV .i64))))⟩) (fun k => k ≤ old.ins.length) (fun k => old.ins.length - k) 0 (Sub.mk' (by repeat (first | exact ESub.new _ | refine ESub.put ?_ (by first | rfl | exact congrArg (fun (n : Nat) => some (AV.int .i64 (n : Int))) (by simp)))) (by repeat (first | exact HSub.refl _ | exact HSub.none _ | exact HSub.from_new _ | exact HSub.from_from (by first | decide | omega | (dsimp only; omega)) | refine HSub.put ?_ (by first | rfl | exact initA | exact initB _ | exact initWA _ _ _ | exact initWB _ _ _ _) | refine HSub.from_put ?_ (by first | decide | omega | (dsimp only; omega)) | refine HSub.from_rm ?_ (by decide)))) (Nat.zero_le _) (fun _ => hput_free (hput_free (hput_free (hput_free (hput_free (hput_free (hput_free (hput_free (hput_free (hput_free (hput_free (hput_free (fun b hb => hFrom_free hb) rfl) rfl) rfl) rfl) rfl) rfl) rfl) rfl) rfl) rfl) rfl) rfl) ?_
  intro k hk
  refine AGo.seq ?_
  refine AGo.region ?_
  refine aq 73 (q_bin rfl rfl rfl rfl) ?_
  refine AOps.nil ?_
  refine AGo.seq ?_
  refine AGo.split 73 rfl (fun hb3 => ?_) (fun hb3 => ?_)
  ·
   refine AGo.cond_true true rfl rfl ?_
   have hkl : k < old.ins.length := by have h := hb3; simp only [List.length_map, decide_eq_true_eq] at h; omega
   obtain ⟨t, ht⟩ := get_of_lt hkl
   refine AGo.skip ?_
   refine AGo.seq ?_
   refine AGo.block ?_
   refine AGo.seq ?_
   refine AGo.region ?_
   refine aq 74 (q_index_lst tok rfl rfl rfl rfl rfl rfl (Int.natCast_nonneg _) (idx_map ht) rfl) ?_
   refine al 75 tok ?_
   refine ax 18 (o_alloc tok 12 rfl rfl rfl rfl (Nat.zero_lt_succ _) rfl) ?_
   refine AOps.w rfl rfl (o_store tok rfl rfl rfl rfl rfl rfl rfl rfl rfl (by decide) rfl (by first | exact fun _ => rfl | (intro h; cases h))) ?_
   refine AOps.nil ?_
   refine AGo.region ?_
   refine al 76 tok ?_
   refine ax 77 (o_call (hc := (hput (hput (hput (hput (hput (hput hNew 3 (.map (kvsA .i64 (vmap ((2 * R : Nat) : Int) (((vfold ((2 * R : Nat) : Int) (old.ins.take (k)) ⟨[], idsA R, [], 0⟩)).K))))) 4 (.row false 3 [[.int .i64 ((2 * R : Nat) : Int), .map 3, slA 9 ((((vfold ((2 * R : Nat) : Int) (old.ins.take (k)) ⟨[], idsA R, [], 0⟩)).K).map (arrAV .i64))]])) 9 (slO 4 ((((vfold ((2 * R : Nat) : Int) (old.ins.take (k)) ⟨[], idsA R, [], 0⟩)).K).map (arrAV .i64)))) 6 (.row false 4 [[.ptr 4 1 0 0, vaA 5 (valC ((vfold ((2 * R : Nat) : Int) (old.ins.take (k)) ⟨[], idsA R, [], 0⟩)).vals), slA 10 ((((vfold ((2 * R : Nat) : Int) (old.ins.take (k)) ⟨[], idsA R, [], 0⟩)).effs).map (arrAV .i64)), .int .i64 (((vfold ((2 * R : Nat) : Int) (old.ins.take (k)) ⟨[], idsA R, [], 0⟩)).time)]])) 5 (vaO (valC ((vfold ((2 * R : Nat) : Int) (old.ins.take (k)) ⟨[], idsA R, [], 0⟩)).vals))) 10 (slO 6 ((((vfold ((2 * R : Nat) : Int) (old.ins.take (k)) ⟨[], idsA R, [], 0⟩)).effs).map (arrAV .i64))))) (hw := (hput (hput (hput (hput (hput (hput hNone 3 (.map (kvsA .i64 (vmap ((2 * R : Nat) : Int) (((VW.step ((2 * R : Nat) : Int) (vfold ((2 * R : Nat) : Int) (old.ins.take (k)) ⟨[], idsA R, [], 0⟩) t)).K))))) 4 (.row false 3 [[.int .i64 ((2 * R : Nat) : Int), .map 3, slA 9 ((((VW.step ((2 * R : Nat) : Int) (vfold ((2 * R : Nat) : Int) (old.ins.take (k)) ⟨[], idsA R, [], 0⟩) t)).K).map (arrAV .i64))]])) 9 (slO 4 ((((VW.step ((2 * R : Nat) : Int) (vfold ((2 * R : Nat) : Int) (old.ins.take (k)) ⟨[], idsA R, [], 0⟩) t)).K).map (arrAV .i64)))) 6 (.row false 4 [[.ptr 4 1 0 0, vaA 5 (valC ((VW.step ((2 * R : Nat) : Int) (vfold ((2 * R : Nat) : Int) (old.ins.take (k)) ⟨[], idsA R, [], 0⟩) t)).vals), slA 10 ((((VW.step ((2 * R : Nat) : Int) (vfold ((2 * R : Nat) : Int) (old.ins.take (k)) ⟨[], idsA R, [], 0⟩) t)).effs).map (arrAV .i64)), .int .i64 (((VW.step ((2 * R : Nat) : Int) (vfold ((2 * R : Nat) : Int) (old.ins.take (k)) ⟨[], idsA R, [], 0⟩) t)).time)]])) 5 (vaO (valC ((VW.step ((2 * R : Nat) : Int) (vfold ((2 * R : Nat) : Int) (old.ins.take (k)) ⟨[], idsA R, [], 0⟩) t)).vals))) 10 (slO 6 ((((VW.step ((2 * R : Nat) : Int) (vfold ((2 * R : Nat) : Int) (old.ins.take (k)) ⟨[], idsA R, [], 0⟩) t)).effs).map (arrAV .i64))))) [10, 5, 6, 9, 4, 3] [(3, (.map (kvsA .i64 (vmap ((2 * R : Nat) : Int) (((VW.step ((2 * R : Nat) : Int) (vfold ((2 * R : Nat) : Int) (old.ins.take (k)) ⟨[], idsA R, [], 0⟩) t)).K))))), (4, (.row false 3 [[.int .i64 ((2 * R : Nat) : Int), .map 3, slA 9 ((((VW.step ((2 * R : Nat) : Int) (vfold ((2 * R : Nat) : Int) (old.ins.take (k)) ⟨[], idsA R, [], 0⟩) t)).K).map (arrAV .i64))]])), (9, (slO 4 ((((VW.step ((2 * R : Nat) : Int) (vfold ((2 * R : Nat) : Int) (old.ins.take (k)) ⟨[], idsA R, [], 0⟩) t)).K).map (arrAV .i64)))), (6, (.row false 4 [[.ptr 4 1 0 0, vaA 5 (valC ((VW.step ((2 * R : Nat) : Int) (vfold ((2 * R : Nat) : Int) (old.ins.take (k)) ⟨[], idsA R, [], 0⟩) t)).vals), slA 10 ((((VW.step ((2 * R : Nat) : Int) (vfold ((2 * R : Nat) : Int) (old.ins.take (k)) ⟨[], idsA R, [], 0⟩) t)).effs).map (arrAV .i64)), .int .i64 (((VW.step ((2 * R : Nat) : Int) (vfold ((2 * R : Nat) : Int) (old.ins.take (k)) ⟨[], idsA R, [], 0⟩) t)).time)]])), (5, (vaO (valC ((VW.step ((2 * R : Nat) : Int) (vfold ((2 * R : Nat) : Int) (old.ins.take (k)) ⟨[], idsA R, [], 0⟩) t)).vals))), (10, (slO 6 ((((VW.step ((2 * R : Nat) : Int) (vfold ((2 * R : Nat) : Int) (old.ins.take (k)) ⟨[], idsA R, [], 0⟩) t)).effs).map (arrAV .i64))))] rfl Try.func35 (by kernel_rfl) rfl rfl rfl ⟨⟨_, rfl, (by first | rfl | exact slO_avoid _ _ | exact vaO_avoid _ | exact tab_avoid _ _ rfl rfl | exact wlk_avoid _ _ _ rfl rfl rfl)⟩, ⟨_, rfl, (by first | rfl | exact slO_avoid _ _ | exact vaO_avoid _ | exact tab_avoid _ _ rfl rfl | exact wlk_avoid _ _ _ rfl rfl rfl)⟩, ⟨_, rfl, (by first | rfl | exact slO_avoid _ _ | exact vaO_avoid _ | exact tab_avoid _ _ rfl rfl | exact wlk_avoid _ _ _ rfl rfl rfl)⟩, ⟨_, rfl, (by first | rfl | exact slO_avoid _ _ | exact vaO_avoid _ | exact tab_avoid _ _ rfl rfl | exact wlk_avoid _ _ _ rfl rfl rfl)⟩, ⟨_, rfl, (by first | rfl | exact slO_avoid _ _ | exact vaO_avoid _ | exact tab_avoid _ _ rfl rfl | exact wlk_avoid _ _ _ rfl rfl rfl)⟩, ⟨_, rfl, (by first | rfl | exact slO_avoid _ _ | exact vaO_avoid _ | exact tab_avoid _ _ rfl rfl | exact wlk_avoid _ _ _ rfl rfl rfl)⟩, trivial⟩ rfl (hres_cons rfl (hres_cons rfl (hres_cons rfl (hres_cons rfl (hres_cons rfl (hres_cons rfl (hres_nil _))))))) ⟨⟨_, rfl, rfl, (by first | rfl | exact slO_avoid _ _ | exact vaO_avoid _ | exact tab_avoid _ _ rfl rfl | exact wlk_avoid _ _ _ rfl rfl rfl)⟩, ⟨_, rfl, rfl, (by first | rfl | exact slO_avoid _ _ | exact vaO_avoid _ | exact tab_avoid _ _ rfl rfl | exact wlk_avoid _ _ _ rfl rfl rfl)⟩, ⟨_, rfl, rfl, (by first | rfl | exact slO_avoid _ _ | exact vaO_avoid _ | exact tab_avoid _ _ rfl rfl | exact wlk_avoid _ _ _ rfl rfl rfl)⟩, ⟨_, rfl, rfl, (by first | rfl | exact slO_avoid _ _ | exact vaO_avoid _ | exact tab_avoid _ _ rfl rfl | exact wlk_avoid _ _ _ rfl rfl rfl)⟩, ⟨_, rfl, rfl, (by first | rfl | exact slO_avoid _ _ | exact vaO_avoid _ | exact tab_avoid _ _ rfl rfl | exact wlk_avoid _ _ _ rfl rfl rfl)⟩, ⟨_, rfl, rfl, (by first | rfl | exact slO_avoid _ _ | exact vaO_avoid _ | exact tab_avoid _ _ rfl rfl | exact wlk_avoid _ _ _ rfl rfl rfl)⟩, trivial⟩ rfl (vstepa_ok ((2 * R : Nat) : Int) R _ (vfold ((2 * R : Nat) : Int) (old.ins.take (k)) ⟨[], idsA R, [], 0⟩) (vfold_okk (vok_a hR) ho k) (by omega) t (ho t (List.mem_of_getElem? ht)))) ?_
   refine AOps.nil ?_
   refine AGo.region ?_
   refine aq 78 (q_inc rfl rfl hkl (show old.ins.length ≤ maxLen by simp only [maxLen]; omega)) ?_
   refine am 72 ?_
   refine AOps.nil ?_
   exact ⟨k+1, Drop.mk' (by repeat (first | exact EDrop.new _ _ | refine EDrop.put ?_ (by rfl) (by first | rfl | exact slA_avoid _ rfl | exact vaA_avoid _ rfl))) (by repeat (first | exact HDrop.none _ _ | exact HDrop.tail _ _ | refine HDrop.put ?_ (by first | rfl | (rw [vfold_succ ht]; rfl)) rfl (by first | rfl | exact slO_avoid _ _ | exact vaO_avoid _ | exact tab_avoid _ _ rfl rfl | exact wlk_avoid _ _ _ rfl rfl rfl))), hkl, by omega⟩
  ·
   refine AGo.cond_false false rfl rfl ?_
   have hge : old.ins.length ≤ k := by have h := hb3; simp only [List.length_map, decide_eq_false_iff_not] at h; omega
   refine AGo.exit ?_
   refine AGo.seq ?_
   refine AGo.seq ?_
   refine AGo.region ?_
   refine af 79 tok ?_
   refine al 80 tok ?_
   refine aq 81 (q_len tok rfl rfl rfl rfl rfl) ?_
   refine am 82 ?_
   refine AOps.nil ?_
   refine AGo.block ?_
   refine AGo.loopD (γ := Nat) 12 (fun k => ⟨146, (eput (eput (eput (eput (eput (eput (eput (eput (eput (eput (eput eNew 2 (.int .i64 (R : Int))) 4 (.int .i64 i)) 5 (intsAV next)) 6 (.ptr 0 1 0 0)) 7 (.ptr 1 1 0 0)) 9 (.ptr 2 1 0 0)) 14 (.ptr 6 1 0 0)) 15 (.ptr 8 1 0 0)) 80 (insAV new.ins)) 81 (.int .i64 (new.ins.length : Int))) 82 (.int .i64 (k : Int))), (hput (hput (hput (hput (hput (hput (hput (hput (hput (hput (hput (hput (hFrom 12) 0 (.row false 5 [old.cells])) 1 (.row false 5 [new.cells])) 2 (.row false 1 [c.cells])) 3 (.map (kvsA .i64 (vmap ((2 * R : Nat) : Int) (((vfold ((2 * R : Nat) : Int) (new.ins.take (k)) ⟨(vrunA R old).K, idsB R (c.at' i), [], 0⟩)).K))))) 4 (.row false 3 [[.int .i64 ((2 * R : Nat) : Int), .map 3, slA 9 ((((vfold ((2 * R : Nat) : Int) (new.ins.take (k)) ⟨(vrunA R old).K, idsB R (c.at' i), [], 0⟩)).K).map (arrAV .i64))]])) 9 (slO 4 ((((vfold ((2 * R : Nat) : Int) (new.ins.take (k)) ⟨(vrunA R old).K, idsB R (c.at' i), [], 0⟩)).K).map (arrAV .i64)))) 8 (.row false 4 [[.ptr 4 1 0 0, vaA 7 (valC ((vfold ((2 * R : Nat) : Int) (new.ins.take (k)) ⟨(vrunA R old).K, idsB R (c.at' i), [], 0⟩)).vals), slA 11 ((((vfold ((2 * R : Nat) : Int) (new.ins.take (k)) ⟨(vrunA R old).K, idsB R (c.at' i), [], 0⟩)).effs).map (arrAV .i64)), .int .i64 (((vfold ((2 * R : Nat) : Int) (new.ins.take (k)) ⟨(vrunA R old).K, idsB R (c.at' i), [], 0⟩)).time)]])) 7 (vaO (valC ((vfold ((2 * R : Nat) : Int) (new.ins.take (k)) ⟨(vrunA R old).K, idsB R (c.at' i), [], 0⟩)).vals))) 11 (slO 6 ((((vfold ((2 * R : Nat) : Int) (new.ins.take (k)) ⟨(vrunA R old).K, idsB R (c.at' i), [], 0⟩)).effs).map (arrAV .i64)))) 6 (.row false 4 [[.ptr 4 1 0 0, vaA 5 (valC (vrunA R old).vals), slA 10 (((vrunA R old).effs).map (arrAV .i64)), .int .i64 ((vrunA R old).time)]])) 5 (vaO (valC (vrunA R old).vals))) 10 (slO 6 (((vrunA R old).effs).map (arrAV .i64))))⟩) (fun k => k ≤ new.ins.length) (fun k => new.ins.length - k) 0 (Sub.mk' (by repeat (first | exact ESub.new _ | refine ESub.put ?_ (by first | rfl | exact congrArg (fun (n : Nat) => some (AV.int .i64 (n : Int))) (by simp)))) (by repeat (first | exact HSub.refl _ | exact HSub.none _ | exact HSub.from_new _ | exact HSub.from_from (by first | decide | omega | (dsimp only; omega)) | refine HSub.put ?_ (by first | rfl | (rw [vfold_end hge]; rfl)) | refine HSub.from_put ?_ (by first | decide | omega | (dsimp only; omega)) | refine HSub.from_rm ?_ (by decide)))) (Nat.zero_le _) (fun _ => hput_free (hput_free (hput_free (hput_free (hput_free (hput_free (hput_free (hput_free (hput_free (hput_free (hput_free (hput_free (fun b hb => hFrom_free hb) rfl) rfl) rfl) rfl) rfl) rfl) rfl) rfl) rfl) rfl) rfl) rfl) ?_
   intro k hk
   refine AGo.seq ?_
   refine AGo.region ?_
   refine aq 83 (q_bin rfl rfl rfl rfl) ?_
   refine AOps.nil ?_
   refine AGo.seq ?_
   refine AGo.split 83 rfl (fun hb4 => ?_) (fun hb4 => ?_)
   ·
    refine AGo.cond_true true rfl rfl ?_
    have hkl : k < new.ins.length := by have h := hb4; simp only [List.length_map, decide_eq_true_eq] at h; omega
    obtain ⟨t, ht⟩ := get_of_lt hkl
    refine AGo.skip ?_
    refine AGo.seq ?_
    refine AGo.block ?_
    refine AGo.seq ?_
    refine AGo.region ?_
    refine aq 84 (q_index_lst tok rfl rfl rfl rfl rfl rfl (Int.natCast_nonneg _) (idx_map ht) rfl) ?_
    refine al 85 tok ?_
    refine ax 20 (o_alloc tok 12 rfl rfl rfl rfl (Nat.zero_lt_succ _) rfl) ?_
    refine AOps.w rfl rfl (o_store tok rfl rfl rfl rfl rfl rfl rfl rfl rfl (by decide) rfl (by first | exact fun _ => rfl | (intro h; cases h))) ?_
    refine AOps.nil ?_
    refine AGo.region ?_
    refine al 86 tok ?_
    refine ax 87 (o_call (hc := (hput (hput (hput (hput (hput (hput hNew 3 (.map (kvsA .i64 (vmap ((2 * R : Nat) : Int) (((vfold ((2 * R : Nat) : Int) (new.ins.take (k)) ⟨(vrunA R old).K, idsB R (c.at' i), [], 0⟩)).K))))) 4 (.row false 3 [[.int .i64 ((2 * R : Nat) : Int), .map 3, slA 9 ((((vfold ((2 * R : Nat) : Int) (new.ins.take (k)) ⟨(vrunA R old).K, idsB R (c.at' i), [], 0⟩)).K).map (arrAV .i64))]])) 9 (slO 4 ((((vfold ((2 * R : Nat) : Int) (new.ins.take (k)) ⟨(vrunA R old).K, idsB R (c.at' i), [], 0⟩)).K).map (arrAV .i64)))) 8 (.row false 4 [[.ptr 4 1 0 0, vaA 7 (valC ((vfold ((2 * R : Nat) : Int) (new.ins.take (k)) ⟨(vrunA R old).K, idsB R (c.at' i), [], 0⟩)).vals), slA 11 ((((vfold ((2 * R : Nat) : Int) (new.ins.take (k)) ⟨(vrunA R old).K, idsB R (c.at' i), [], 0⟩)).effs).map (arrAV .i64)), .int .i64 (((vfold ((2 * R : Nat) : Int) (new.ins.take (k)) ⟨(vrunA R old).K, idsB R (c.at' i), [], 0⟩)).time)]])) 7 (vaO (valC ((vfold ((2 * R : Nat) : Int) (new.ins.take (k)) ⟨(vrunA R old).K, idsB R (c.at' i), [], 0⟩)).vals))) 11 (slO 6 ((((vfold ((2 * R : Nat) : Int) (new.ins.take (k)) ⟨(vrunA R old).K, idsB R (c.at' i), [], 0⟩)).effs).map (arrAV .i64))))) (hw := (hput (hput (hput (hput (hput (hput hNone 3 (.map (kvsA .i64 (vmap ((2 * R : Nat) : Int) (((VW.step ((2 * R : Nat) : Int) (vfold ((2 * R : Nat) : Int) (new.ins.take (k)) ⟨(vrunA R old).K, idsB R (c.at' i), [], 0⟩) t)).K))))) 4 (.row false 3 [[.int .i64 ((2 * R : Nat) : Int), .map 3, slA 9 ((((VW.step ((2 * R : Nat) : Int) (vfold ((2 * R : Nat) : Int) (new.ins.take (k)) ⟨(vrunA R old).K, idsB R (c.at' i), [], 0⟩) t)).K).map (arrAV .i64))]])) 9 (slO 4 ((((VW.step ((2 * R : Nat) : Int) (vfold ((2 * R : Nat) : Int) (new.ins.take (k)) ⟨(vrunA R old).K, idsB R (c.at' i), [], 0⟩) t)).K).map (arrAV .i64)))) 8 (.row false 4 [[.ptr 4 1 0 0, vaA 7 (valC ((VW.step ((2 * R : Nat) : Int) (vfold ((2 * R : Nat) : Int) (new.ins.take (k)) ⟨(vrunA R old).K, idsB R (c.at' i), [], 0⟩) t)).vals), slA 11 ((((VW.step ((2 * R : Nat) : Int) (vfold ((2 * R : Nat) : Int) (new.ins.take (k)) ⟨(vrunA R old).K, idsB R (c.at' i), [], 0⟩) t)).effs).map (arrAV .i64)), .int .i64 (((VW.step ((2 * R : Nat) : Int) (vfold ((2 * R : Nat) : Int) (new.ins.take (k)) ⟨(vrunA R old).K, idsB R (c.at' i), [], 0⟩) t)).time)]])) 7 (vaO (valC ((VW.step ((2 * R : Nat) : Int) (vfold ((2 * R : Nat) : Int) (new.ins.take (k)) ⟨(vrunA R old).K, idsB R (c.at' i), [], 0⟩) t)).vals))) 11 (slO 6 ((((VW.step ((2 * R : Nat) : Int) (vfold ((2 * R : Nat) : Int) (new.ins.take (k)) ⟨(vrunA R old).K, idsB R (c.at' i), [], 0⟩) t)).effs).map (arrAV .i64))))) [11, 7, 8, 9, 4, 3] [(3, (.map (kvsA .i64 (vmap ((2 * R : Nat) : Int) (((VW.step ((2 * R : Nat) : Int) (vfold ((2 * R : Nat) : Int) (new.ins.take (k)) ⟨(vrunA R old).K, idsB R (c.at' i), [], 0⟩) t)).K))))), (4, (.row false 3 [[.int .i64 ((2 * R : Nat) : Int), .map 3, slA 9 ((((VW.step ((2 * R : Nat) : Int) (vfold ((2 * R : Nat) : Int) (new.ins.take (k)) ⟨(vrunA R old).K, idsB R (c.at' i), [], 0⟩) t)).K).map (arrAV .i64))]])), (9, (slO 4 ((((VW.step ((2 * R : Nat) : Int) (vfold ((2 * R : Nat) : Int) (new.ins.take (k)) ⟨(vrunA R old).K, idsB R (c.at' i), [], 0⟩) t)).K).map (arrAV .i64)))), (8, (.row false 4 [[.ptr 4 1 0 0, vaA 7 (valC ((VW.step ((2 * R : Nat) : Int) (vfold ((2 * R : Nat) : Int) (new.ins.take (k)) ⟨(vrunA R old).K, idsB R (c.at' i), [], 0⟩) t)).vals), slA 11 ((((VW.step ((2 * R : Nat) : Int) (vfold ((2 * R : Nat) : Int) (new.ins.take (k)) ⟨(vrunA R old).K, idsB R (c.at' i), [], 0⟩) t)).effs).map (arrAV .i64)), .int .i64 (((VW.step ((2 * R : Nat) : Int) (vfold ((2 * R : Nat) : Int) (new.ins.take (k)) ⟨(vrunA R old).K, idsB R (c.at' i), [], 0⟩) t)).time)]])), (7, (vaO (valC ((VW.step ((2 * R : Nat) : Int) (vfold ((2 * R : Nat) : Int) (new.ins.take (k)) ⟨(vrunA R old).K, idsB R (c.at' i), [], 0⟩) t)).vals))), (11, (slO 6 ((((VW.step ((2 * R : Nat) : Int) (vfold ((2 * R : Nat) : Int) (new.ins.take (k)) ⟨(vrunA R old).K, idsB R (c.at' i), [], 0⟩) t)).effs).map (arrAV .i64))))] rfl Try.func35 (by kernel_rfl) rfl rfl rfl ⟨⟨_, rfl, (by first | rfl | exact slO_avoid _ _ | exact vaO_avoid _ | exact tab_avoid _ _ rfl rfl | exact wlk_avoid _ _ _ rfl rfl rfl)⟩, ⟨_, rfl, (by first | rfl | exact slO_avoid _ _ | exact vaO_avoid _ | exact tab_avoid _ _ rfl rfl | exact wlk_avoid _ _ _ rfl rfl rfl)⟩, ⟨_, rfl, (by first | rfl | exact slO_avoid _ _ | exact vaO_avoid _ | exact tab_avoid _ _ rfl rfl | exact wlk_avoid _ _ _ rfl rfl rfl)⟩, ⟨_, rfl, (by first | rfl | exact slO_avoid _ _ | exact vaO_avoid _ | exact tab_avoid _ _ rfl rfl | exact wlk_avoid _ _ _ rfl rfl rfl)⟩, ⟨_, rfl, (by first | rfl | exact slO_avoid _ _ | exact vaO_avoid _ | exact tab_avoid _ _ rfl rfl | exact wlk_avoid _ _ _ rfl rfl rfl)⟩, ⟨_, rfl, (by first | rfl | exact slO_avoid _ _ | exact vaO_avoid _ | exact tab_avoid _ _ rfl rfl | exact wlk_avoid _ _ _ rfl rfl rfl)⟩, trivial⟩ rfl (hres_cons rfl (hres_cons rfl (hres_cons rfl (hres_cons rfl (hres_cons rfl (hres_cons rfl (hres_nil _))))))) ⟨⟨_, rfl, rfl, (by first | rfl | exact slO_avoid _ _ | exact vaO_avoid _ | exact tab_avoid _ _ rfl rfl | exact wlk_avoid _ _ _ rfl rfl rfl)⟩, ⟨_, rfl, rfl, (by first | rfl | exact slO_avoid _ _ | exact vaO_avoid _ | exact tab_avoid _ _ rfl rfl | exact wlk_avoid _ _ _ rfl rfl rfl)⟩, ⟨_, rfl, rfl, (by first | rfl | exact slO_avoid _ _ | exact vaO_avoid _ | exact tab_avoid _ _ rfl rfl | exact wlk_avoid _ _ _ rfl rfl rfl)⟩, ⟨_, rfl, rfl, (by first | rfl | exact slO_avoid _ _ | exact vaO_avoid _ | exact tab_avoid _ _ rfl rfl | exact wlk_avoid _ _ _ rfl rfl rfl)⟩, ⟨_, rfl, rfl, (by first | rfl | exact slO_avoid _ _ | exact vaO_avoid _ | exact tab_avoid _ _ rfl rfl | exact wlk_avoid _ _ _ rfl rfl rfl)⟩, ⟨_, rfl, rfl, (by first | rfl | exact slO_avoid _ _ | exact vaO_avoid _ | exact tab_avoid _ _ rfl rfl | exact wlk_avoid _ _ _ rfl rfl rfl)⟩, trivial⟩ rfl (vstepb_ok ((2 * R : Nat) : Int) R _ (vfold ((2 * R : Nat) : Int) (new.ins.take (k)) ⟨(vrunA R old).K, idsB R (c.at' i), [], 0⟩) (vfold_okk (vok_b hoa _) hn k) (by omega) t (hn t (List.mem_of_getElem? ht)))) ?_
    refine AOps.nil ?_
    refine AGo.region ?_
    refine aq 88 (q_inc rfl rfl hkl (show new.ins.length ≤ maxLen by simp only [maxLen]; omega)) ?_
    refine am 82 ?_
    refine AOps.nil ?_
    exact ⟨k+1, Drop.mk' (by repeat (first | exact EDrop.new _ _ | refine EDrop.put ?_ (by rfl) (by first | rfl | exact slA_avoid _ rfl | exact vaA_avoid _ rfl))) (by repeat (first | exact HDrop.none _ _ | exact HDrop.tail _ _ | refine HDrop.put ?_ (by first | rfl | (rw [vfold_succ ht]; rfl)) rfl (by first | rfl | exact slO_avoid _ _ | exact vaO_avoid _ | exact tab_avoid _ _ rfl rfl | exact wlk_avoid _ _ _ rfl rfl rfl))), hkl, by omega⟩
   ·
    refine AGo.cond_false false rfl rfl ?_
    have hge : new.ins.length ≤ k := by have h := hb4; simp only [List.length_map, decide_eq_false_iff_not] at h; omega
    rw [vfold_end hge]
    refine AGo.exit ?_
    refine AGo.seq ?_
    refine AGo.seq ?_
    refine AGo.region ?_
    refine af 89 tok ?_
    refine al 90 tok ?_
    refine af 91 tok ?_
    refine al 92 tok ?_
    refine ax 93 (o_call (hc := (hput (hput hNew 10 (slO 6 (((vrunA R old).effs).map (arrAV .i64)))) 11 (slO 6 (((vrunB R old new (c.at' i)).effs).map (arrAV .i64))))) (hw := (hput (hput hNone 10 (slO 6 (((vrunA R old).effs).map (arrAV .i64)))) 11 (slO 6 (((vrunB R old new (c.at' i)).effs).map (arrAV .i64))))) [11, 10] [] rfl Try.func36 (by kernel_rfl) rfl rfl (by simp only [List.all_cons, List.all_nil, slA_avoid _ (show mem [11, 10] 10 = true from rfl), slA_avoid _ (show mem [11, 10] 11 = true from rfl)]; rfl) ⟨⟨_, rfl, (by first | rfl | exact slO_avoid _ _ | exact vaO_avoid _ | exact tab_avoid _ _ rfl rfl | exact wlk_avoid _ _ _ rfl rfl rfl)⟩, ⟨_, rfl, (by first | rfl | exact slO_avoid _ _ | exact vaO_avoid _ | exact tab_avoid _ _ rfl rfl | exact wlk_avoid _ _ _ rfl rfl rfl)⟩, trivial⟩ rfl (hres_cons rfl (hres_cons rfl (hres_nil _))) ⟨⟨_, rfl, rfl, (by first | rfl | exact slO_avoid _ _ | exact vaO_avoid _ | exact tab_avoid _ _ rfl rfl | exact wlk_avoid _ _ _ rfl rfl rfl)⟩, ⟨_, rfl, rfl, (by first | rfl | exact slO_avoid _ _ | exact vaO_avoid _ | exact tab_avoid _ _ rfl rfl | exact wlk_avoid _ _ _ rfl rfl rfl)⟩, trivial⟩ rfl (effs_ok (vrunA R old).effs (vrunB R old new (c.at' i)).effs hoa.e6 hob.e6 (by have := hoa.el; omega))) ?_
    refine aq 94 (q_not rfl rfl) ?_
    refine AOps.nil ?_
    refine AGo.split 94 rfl (fun hb5 => ?_) (fun hb5 => ?_)
    ·
     refine AGo.cond_true true rfl rfl ?_
     have hef := hb5
     refine AGo.seq ?_
     refine AGo.region ?_
     refine aa 12 ?_
     refine AOps.nil ?_
     refine AGo.ret ?_
     refine ⟨[_], ⟨rfl, trivial⟩, ?_, rfl⟩
     show AV.bool _ = AV.bool _
     congr 1
     exact (vsame_no1 (ndec_no hef)).symm
    ·
     refine AGo.cond_false false rfl rfl ?_
     have hef := hb5
     refine AGo.skip ?_
     refine AGo.seq ?_
     refine AGo.seq ?_
     refine AGo.draw mix ?_
     refine df 95 tok ?_
     refine dl 96 tok ?_
     refine dq 97 (q_bin rfl rfl rfl rfl) ?_
     refine dm 98 ?_
     refine DOps.split 98 rfl (fun hb6 => ?_) (fun hb6 => ?_)
     ·
      have hf2 : old.fin = 2 := by simpa using hb6
      have hxo := hoa.at (hv hf2).1
      have hxn := hob.at (hv hf2).2
      refine df 99 tok ?_
      refine dl 100 tok ?_
      refine df 101 tok ?_
      refine dl 102 tok ?_
      refine dq 103 (q_indexV tok rfl rfl rfl rfl rfl rfl rfl rfl hxo.1 hxo.2.2.1) ?_
      refine dq 104 (q_load tok rfl rfl rfl (ptsV rfl (valC_get ⟨hxo.1, hxo.2.1⟩)) rfl) ?_
      refine df 105 tok ?_
      refine dl 106 tok ?_
      refine df 107 tok ?_
      refine dl 108 tok ?_
      refine dq 109 (q_indexV tok rfl rfl rfl rfl rfl rfl rfl rfl hxn.1 hxn.2.2.1) ?_
      refine dq 110 (q_load tok rfl rfl rfl (ptsV rfl (valC_get ⟨hxn.1, hxn.2.1⟩)) rfl) ?_
      refine dq 111 (q_bin rfl rfl rfl rfl) ?_
      refine dq 112 (q_pick_true true rfl rfl rfl rfl) ?_
      refine DOps.nil (by kernel_rfl) ?_
      refine AGo.split 112 rfl (fun hb7 => ?_) (fun hb7 => ?_)
      ·
       refine AGo.cond_true true rfl rfl ?_
       have hvf := hb7
       refine AGo.seq ?_
       refine AGo.region ?_
       refine aa 12 ?_
       refine AOps.nil ?_
       refine AGo.ret ?_
       refine ⟨[_], ⟨rfl, trivial⟩, ?_, rfl⟩
       show AV.bool _ = AV.bool _
       congr 1
       exact (vsame_no2 hf2 (bne_ne' hvf)).symm
      ·
       refine AGo.cond_false false rfl rfl ?_
       have hvf := hb7
       refine AGo.skip ?_
       refine AGo.seq ?_
       refine AGo.seq ?_
       refine AGo.region ?_
       refine am 113 ?_
       refine aq 114 (q_len tok rfl rfl rfl rfl rfl) ?_
       refine am 115 ?_
       refine AOps.nil ?_
       refine AGo.block ?_
       refine AGo.loopD (γ := Nat) 12 (fun j => ⟨146, (eput (eput (eput (eput (eput (eput (eput (eput (eput (eput (eput eNew 2 (.int .i64 (R : Int))) 4 (.int .i64 i)) 5 (intsAV next)) 6 (.ptr 0 1 0 0)) 7 (.ptr 1 1 0 0)) 9 (.ptr 2 1 0 0)) 14 (.ptr 6 1 0 0)) 15 (.ptr 8 1 0 0)) 113 (intsAV next)) 114 (.int .i64 (next.length : Int))) 115 (.int .i64 (j : Int))), (hput (hput (hput (hput (hput (hput (hput (hput (hput (hput (hput (hput (hFrom 12) 0 (.row false 5 [old.cells])) 1 (.row false 5 [new.cells])) 2 (.row false 1 [c.cells])) 3 (.map (kvsA .i64 (vmap ((2 * R : Nat) : Int) (((vrunB R old new (c.at' i))).K))))) 4 (.row false 3 [[.int .i64 ((2 * R : Nat) : Int), .map 3, slA 9 ((((vrunB R old new (c.at' i))).K).map (arrAV .i64))]])) 9 (slO 4 ((((vrunB R old new (c.at' i))).K).map (arrAV .i64)))) 8 (.row false 4 [[.ptr 4 1 0 0, vaA 7 (valC ((vrunB R old new (c.at' i))).vals), slA 11 ((((vrunB R old new (c.at' i))).effs).map (arrAV .i64)), .int .i64 (((vrunB R old new (c.at' i))).time)]])) 7 (vaO (valC ((vrunB R old new (c.at' i))).vals))) 11 (slO 6 ((((vrunB R old new (c.at' i))).effs).map (arrAV .i64)))) 6 (.row false 4 [[.ptr 4 1 0 0, vaA 5 (valC (vrunA R old).vals), slA 10 (((vrunA R old).effs).map (arrAV .i64)), .int .i64 ((vrunA R old).time)]])) 5 (vaO (valC (vrunA R old).vals))) 10 (slO 6 (((vrunA R old).effs).map (arrAV .i64))))⟩) (fun j => j ≤ next.length ∧ (next.take j).all (fun k => vagree (vrunA R old) (vrunB R old new (c.at' i)) (c.at' k)) = true) (fun j => next.length - j) 0 (Sub.mk' (by repeat (first | exact ESub.new _ | refine ESub.put ?_ (by first | rfl | exact congrArg (fun (n : Nat) => some (AV.int .i64 (n : Int))) (by simp)))) (by repeat (first | exact HSub.refl _ | exact HSub.none _ | exact HSub.from_new _ | exact HSub.from_from (by first | decide | omega | (dsimp only; omega)) | refine HSub.put ?_ (by first | rfl | (rw [vfold_end hge]; rfl)) | refine HSub.from_put ?_ (by first | decide | omega | (dsimp only; omega)) | refine HSub.from_rm ?_ (by decide)))) ⟨Nat.zero_le _, rfl⟩ (fun _ => hput_free (hput_free (hput_free (hput_free (hput_free (hput_free (hput_free (hput_free (hput_free (hput_free (hput_free (hput_free (fun b hb => hFrom_free hb) rfl) rfl) rfl) rfl) rfl) rfl) rfl) rfl) rfl) rfl) rfl) rfl) ?_
       intro j ⟨hj, hall⟩
       refine AGo.seq ?_
       refine AGo.region ?_
       refine aq 116 (q_bin rfl rfl rfl rfl) ?_
       refine AOps.nil ?_
       refine AGo.seq ?_
       refine AGo.split 116 rfl (fun hb8 => ?_) (fun hb8 => ?_)
       ·
        refine AGo.cond_true true rfl rfl ?_
        have hjl : j < next.length := by have h := hb8; simp only [List.length_map, decide_eq_true_eq] at h; omega
        obtain ⟨nk, hnk⟩ := get_of_lt hjl
        have hkr := hnx nk (List.mem_of_getElem? hnk)
        obtain ⟨row2, hrow2⟩ := get_of_lt (l := c.same) (k := nk.toNat) (by omega)
        have hat2 : c.at' nk = row2 := by unfold Cert.at'; rw [hrow2]; rfl
        have hrl2 := hc row2 (List.mem_of_getElem? hrow2)
        refine AGo.skip ?_
        refine AGo.seq ?_
        refine AGo.block ?_
        refine AGo.seq ?_
        refine AGo.region ?_
        refine aq 117 (q_index_lst tok rfl rfl rfl rfl rfl rfl (Int.natCast_nonneg _) (idx_map hnk) rfl) ?_
        refine al 118 tok ?_
        refine aa 22 ?_
        refine AOps.nil ?_
        refine AGo.seq ?_
        refine AGo.region ?_
        refine af 119 tok ?_
        refine al 120 tok ?_
        refine am 121 ?_
        refine aq 122 (q_index_lst tok rfl rfl rfl rfl rfl rfl hkr.1 (by rw [List.getElem?_map, hrow2]; rfl) rfl) ?_
        refine al 123 tok ?_
        refine aq 124 (q_len tok rfl rfl rfl rfl rfl) ?_
        refine am 125 ?_
        refine AOps.nil ?_
        refine AGo.block ?_
        refine AGo.loopD (γ := Nat) 12 (fun k => ⟨146, (eput (eput (eput (eput (eput (eput (eput (eput (eput (eput (eput (eput (eput (eput eNew 2 (.int .i64 (R : Int))) 4 (.int .i64 i)) 5 (intsAV next)) 6 (.ptr 0 1 0 0)) 7 (.ptr 1 1 0 0)) 9 (.ptr 2 1 0 0)) 14 (.ptr 6 1 0 0)) 15 (.ptr 8 1 0 0)) 113 (intsAV next)) 114 (.int .i64 (next.length : Int))) 115 (.int .i64 (j : Int))) 123 (boolsAV row2)) 124 (.int .i64 (row2.length : Int))) 125 (.int .i64 (k : Int))), (hput (hput (hput (hput (hput (hput (hput (hput (hput (hput (hput (hput (hFrom 12) 0 (.row false 5 [old.cells])) 1 (.row false 5 [new.cells])) 2 (.row false 1 [c.cells])) 3 (.map (kvsA .i64 (vmap ((2 * R : Nat) : Int) (((vrunB R old new (c.at' i))).K))))) 4 (.row false 3 [[.int .i64 ((2 * R : Nat) : Int), .map 3, slA 9 ((((vrunB R old new (c.at' i))).K).map (arrAV .i64))]])) 9 (slO 4 ((((vrunB R old new (c.at' i))).K).map (arrAV .i64)))) 8 (.row false 4 [[.ptr 4 1 0 0, vaA 7 (valC ((vrunB R old new (c.at' i))).vals), slA 11 ((((vrunB R old new (c.at' i))).effs).map (arrAV .i64)), .int .i64 (((vrunB R old new (c.at' i))).time)]])) 7 (vaO (valC ((vrunB R old new (c.at' i))).vals))) 11 (slO 6 ((((vrunB R old new (c.at' i))).effs).map (arrAV .i64)))) 6 (.row false 4 [[.ptr 4 1 0 0, vaA 5 (valC (vrunA R old).vals), slA 10 (((vrunA R old).effs).map (arrAV .i64)), .int .i64 ((vrunA R old).time)]])) 5 (vaO (valC (vrunA R old).vals))) 10 (slO 6 (((vrunA R old).effs).map (arrAV .i64))))⟩) (fun k => k ≤ row2.length ∧ vagreeTo (vrunA R old) (vrunB R old new (c.at' i)) row2 k) (fun k => row2.length - k) 0 (Sub.mk' (by repeat (first | exact ESub.new _ | refine ESub.put ?_ (by first | rfl | exact congrArg (fun (n : Nat) => some (AV.int .i64 (n : Int))) (by simp)))) (by repeat (first | exact HSub.refl _ | exact HSub.none _ | exact HSub.from_new _ | exact HSub.from_from (by first | decide | omega | (dsimp only; omega)) | refine HSub.put ?_ (by rfl) | refine HSub.from_put ?_ (by first | decide | omega | (dsimp only; omega)) | refine HSub.from_rm ?_ (by decide)))) ⟨Nat.zero_le _, vagree_zero⟩ (fun _ => hput_free (hput_free (hput_free (hput_free (hput_free (hput_free (hput_free (hput_free (hput_free (hput_free (hput_free (hput_free (fun b hb => hFrom_free hb) rfl) rfl) rfl) rfl) rfl) rfl) rfl) rfl) rfl) rfl) rfl) rfl) ?_
        intro k ⟨hk, hagr⟩
        refine AGo.seq ?_
        refine AGo.region ?_
        refine aq 126 (q_bin rfl rfl rfl rfl) ?_
        refine AOps.nil ?_
        refine AGo.seq ?_
        refine AGo.split 126 rfl (fun hb9 => ?_) (fun hb9 => ?_)
        ·
         refine AGo.cond_true true rfl rfl ?_
         have hkl : k < row2.length := by have h := hb9; simp only [List.length_map, decide_eq_true_eq] at h; omega
         obtain ⟨must, hmu⟩ := get_of_lt hkl
         refine AGo.skip ?_
         refine AGo.seq ?_
         refine AGo.block ?_
         refine AGo.seq ?_
         refine AGo.region ?_
         refine am 127 ?_
         refine aq 128 (q_index_lst tok rfl rfl rfl rfl rfl rfl (Int.natCast_nonneg _) (idx_map hmu) rfl) ?_
         refine al 129 tok ?_
         refine aa 23 ?_
         refine aa 24 ?_
         refine AOps.nil ?_
         refine AGo.seq ?_
         refine AGo.draw mix ?_
         refine dm 130 ?_
         refine dm 131 ?_
         refine DOps.split 131 rfl (fun hb10 => ?_) (fun hb10 => ?_)
         ·
          have hmt : must = true := by simpa using hb10
          have hxv := hoa.at (z := (k : Int)) (by omega)
          have hyv := hob.at (z := (k : Int)) (by omega)
          refine df 132 tok ?_
          refine dl 133 tok ?_
          refine dm 134 ?_
          refine dq 135 (q_indexV tok rfl rfl rfl rfl rfl rfl rfl rfl hxv.1 hxv.2.2.1) ?_
          refine dq 136 (q_load tok rfl rfl rfl (ptsV rfl (valC_get ⟨hxv.1, hxv.2.1⟩)) rfl) ?_
          refine df 137 tok ?_
          refine dl 138 tok ?_
          refine dm 139 ?_
          refine dq 140 (q_indexV tok rfl rfl rfl rfl rfl rfl rfl rfl hyv.1 hyv.2.2.1) ?_
          refine dq 141 (q_load tok rfl rfl rfl (ptsV rfl (valC_get ⟨hyv.1, hyv.2.1⟩)) rfl) ?_
          refine dq 142 (q_bin rfl rfl rfl rfl) ?_
          refine dq 143 (q_pick_true true rfl rfl rfl rfl) ?_
          refine DOps.nil (by kernel_rfl) ?_
          refine AGo.split 143 rfl (fun hb11 => ?_) (fun hb11 => ?_)
          ·
           refine AGo.cond_true true rfl rfl ?_
           have hag := hb11
           refine AGo.seq ?_
           refine AGo.region ?_
           refine aa 12 ?_
           refine AOps.nil ?_
           refine AGo.ret ?_
           refine ⟨[_], ⟨rfl, trivial⟩, ?_, rfl⟩
           show AV.bool _ = AV.bool _
           congr 1
           exact (vsame_no3 hnk (by rw [hat2]; exact vagree_no hmu hmt (bne_ne' hag))).symm
          ·
           refine AGo.cond_false false rfl rfl ?_
           have hag := hb11
           refine AGo.skip ?_
           refine AGo.region ?_
           refine aq 144 (q_inc rfl rfl hkl (show row2.length ≤ maxLen by simp only [maxLen]; omega)) ?_
           refine am 125 ?_
           refine AOps.nil ?_
           exact ⟨k+1, Drop.mk' (by repeat (first | exact EDrop.new _ _ | refine EDrop.put ?_ (by rfl) (by first | rfl | exact slA_avoid _ rfl | exact vaA_avoid _ rfl))) (by repeat (first | exact HDrop.none _ _ | exact HDrop.tail _ _ | refine HDrop.put ?_ (by rfl) rfl (by first | rfl | exact slO_avoid _ _ | exact vaO_avoid _ | exact tab_avoid _ _ rfl rfl | exact wlk_avoid _ _ _ rfl rfl rfl))), ⟨hkl, vagree_succ hagr hmu (by first | exact fun _ => bne_eq' hag | (exact fun h => by rw [hag] at h; cases h))⟩, by omega⟩
         ·
          refine dk 132 ?_
          refine dk 133 ?_
          refine dk 134 ?_
          refine dk 135 ?_
          refine dk 136 ?_
          refine dk 137 ?_
          refine dk 138 ?_
          refine dk 139 ?_
          refine dk 140 ?_
          refine dk 141 ?_
          refine dk 142 ?_
          refine dq 143 (q_pick_false false rfl rfl rfl rfl) ?_
          refine DOps.nil (by kernel_rfl) ?_
          refine AGo.cond_false false rfl rfl ?_
          have hag := hb10
          refine AGo.skip ?_
          refine AGo.region ?_
          refine aq 144 (q_inc rfl rfl hkl (show row2.length ≤ maxLen by simp only [maxLen]; omega)) ?_
          refine am 125 ?_
          refine AOps.nil ?_
          exact ⟨k+1, Drop.mk' (by repeat (first | exact EDrop.new _ _ | refine EDrop.put ?_ (by rfl) (by first | rfl | exact slA_avoid _ rfl | exact vaA_avoid _ rfl))) (by repeat (first | exact HDrop.none _ _ | exact HDrop.tail _ _ | refine HDrop.put ?_ (by rfl) rfl (by first | rfl | exact slO_avoid _ _ | exact vaO_avoid _ | exact tab_avoid _ _ rfl rfl | exact wlk_avoid _ _ _ rfl rfl rfl))), ⟨hkl, vagree_succ hagr hmu (by first | exact fun _ => bne_eq' hag | (exact fun h => by rw [hag] at h; cases h))⟩, by omega⟩
        ·
         refine AGo.cond_false false rfl rfl ?_
         have hkge : row2.length ≤ k := by have h := hb9; simp only [List.length_map, decide_eq_false_iff_not] at h; omega
         refine AGo.exit ?_
         refine AGo.region ?_
         refine aq 145 (q_inc rfl rfl hjl (show next.length ≤ maxLen by simp only [maxLen]; omega)) ?_
         refine am 115 ?_
         refine AOps.nil ?_
         exact ⟨j+1, Drop.mk' (by repeat (first | exact EDrop.new _ _ | refine EDrop.put ?_ (by rfl) (by first | rfl | exact slA_avoid _ rfl | exact vaA_avoid _ rfl))) (by repeat (first | exact HDrop.none _ _ | exact HDrop.tail _ _ | refine HDrop.put ?_ (by rfl) rfl (by first | rfl | exact slO_avoid _ _ | exact vaO_avoid _ | exact tab_avoid _ _ rfl rfl | exact wlk_avoid _ _ _ rfl rfl rfl))), ⟨hjl, all_succ hnk hall (by rw [hat2]; exact vagree_end hkge hagr)⟩, by omega⟩
       ·
        refine AGo.cond_false false rfl rfl ?_
        have hjge : next.length ≤ j := by have h := hb8; simp only [List.length_map, decide_eq_false_iff_not] at h; omega
        refine AGo.exit ?_
        refine AGo.seq ?_
        refine AGo.region ?_
        refine aa 12 ?_
        refine AOps.nil ?_
        refine AGo.ret ?_
        refine ⟨[_], ⟨rfl, trivial⟩, ?_, rfl⟩
        show AV.bool _ = AV.bool _
        congr 1
        exact (vsame_yes (ndec_yes hef) (by first | exact fun _ => bne_eq' hvf | (exact fun hf => absurd hf (by simpa using hvf))) (all_end hall hjge)).symm
     ·
      refine dk 99 ?_
      refine dk 100 ?_
      refine dk 101 ?_
      refine dk 102 ?_
      refine dk 103 ?_
      refine dk 104 ?_
      refine dk 105 ?_
      refine dk 106 ?_
      refine dk 107 ?_
      refine dk 108 ?_
      refine dk 109 ?_
      refine dk 110 ?_
      refine dk 111 ?_
      refine dq 112 (q_pick_false false rfl rfl rfl rfl) ?_
      refine DOps.nil (by kernel_rfl) ?_
      refine AGo.cond_false false rfl rfl ?_
      have hvf := hb6
      refine AGo.skip ?_
      refine AGo.seq ?_
      refine AGo.seq ?_
      refine AGo.region ?_
      refine am 113 ?_
      refine aq 114 (q_len tok rfl rfl rfl rfl rfl) ?_
      refine am 115 ?_
      refine AOps.nil ?_
      refine AGo.block ?_
      refine AGo.loopD (γ := Nat) 12 (fun j => ⟨146, (eput (eput (eput (eput (eput (eput (eput (eput (eput (eput (eput eNew 2 (.int .i64 (R : Int))) 4 (.int .i64 i)) 5 (intsAV next)) 6 (.ptr 0 1 0 0)) 7 (.ptr 1 1 0 0)) 9 (.ptr 2 1 0 0)) 14 (.ptr 6 1 0 0)) 15 (.ptr 8 1 0 0)) 113 (intsAV next)) 114 (.int .i64 (next.length : Int))) 115 (.int .i64 (j : Int))), (hput (hput (hput (hput (hput (hput (hput (hput (hput (hput (hput (hput (hFrom 12) 0 (.row false 5 [old.cells])) 1 (.row false 5 [new.cells])) 2 (.row false 1 [c.cells])) 3 (.map (kvsA .i64 (vmap ((2 * R : Nat) : Int) (((vrunB R old new (c.at' i))).K))))) 4 (.row false 3 [[.int .i64 ((2 * R : Nat) : Int), .map 3, slA 9 ((((vrunB R old new (c.at' i))).K).map (arrAV .i64))]])) 9 (slO 4 ((((vrunB R old new (c.at' i))).K).map (arrAV .i64)))) 8 (.row false 4 [[.ptr 4 1 0 0, vaA 7 (valC ((vrunB R old new (c.at' i))).vals), slA 11 ((((vrunB R old new (c.at' i))).effs).map (arrAV .i64)), .int .i64 (((vrunB R old new (c.at' i))).time)]])) 7 (vaO (valC ((vrunB R old new (c.at' i))).vals))) 11 (slO 6 ((((vrunB R old new (c.at' i))).effs).map (arrAV .i64)))) 6 (.row false 4 [[.ptr 4 1 0 0, vaA 5 (valC (vrunA R old).vals), slA 10 (((vrunA R old).effs).map (arrAV .i64)), .int .i64 ((vrunA R old).time)]])) 5 (vaO (valC (vrunA R old).vals))) 10 (slO 6 (((vrunA R old).effs).map (arrAV .i64))))⟩) (fun j => j ≤ next.length ∧ (next.take j).all (fun k => vagree (vrunA R old) (vrunB R old new (c.at' i)) (c.at' k)) = true) (fun j => next.length - j) 0 (Sub.mk' (by repeat (first | exact ESub.new _ | refine ESub.put ?_ (by first | rfl | exact congrArg (fun (n : Nat) => some (AV.int .i64 (n : Int))) (by simp)))) (by repeat (first | exact HSub.refl _ | exact HSub.none _ | exact HSub.from_new _ | exact HSub.from_from (by first | decide | omega | (dsimp only; omega)) | refine HSub.put ?_ (by first | rfl | (rw [vfold_end hge]; rfl)) | refine HSub.from_put ?_ (by first | decide | omega | (dsimp only; omega)) | refine HSub.from_rm ?_ (by decide)))) ⟨Nat.zero_le _, rfl⟩ (fun _ => hput_free (hput_free (hput_free (hput_free (hput_free (hput_free (hput_free (hput_free (hput_free (hput_free (hput_free (hput_free (fun b hb => hFrom_free hb) rfl) rfl) rfl) rfl) rfl) rfl) rfl) rfl) rfl) rfl) rfl) rfl) ?_
      intro j ⟨hj, hall⟩
      refine AGo.seq ?_
      refine AGo.region ?_
      refine aq 116 (q_bin rfl rfl rfl rfl) ?_
      refine AOps.nil ?_
      refine AGo.seq ?_
      refine AGo.split 116 rfl (fun hb12 => ?_) (fun hb12 => ?_)
      ·
       refine AGo.cond_true true rfl rfl ?_
       have hjl : j < next.length := by have h := hb12; simp only [List.length_map, decide_eq_true_eq] at h; omega
       obtain ⟨nk, hnk⟩ := get_of_lt hjl
       have hkr := hnx nk (List.mem_of_getElem? hnk)
       obtain ⟨row2, hrow2⟩ := get_of_lt (l := c.same) (k := nk.toNat) (by omega)
       have hat2 : c.at' nk = row2 := by unfold Cert.at'; rw [hrow2]; rfl
       have hrl2 := hc row2 (List.mem_of_getElem? hrow2)
       refine AGo.skip ?_
       refine AGo.seq ?_
       refine AGo.block ?_
       refine AGo.seq ?_
       refine AGo.region ?_
       refine aq 117 (q_index_lst tok rfl rfl rfl rfl rfl rfl (Int.natCast_nonneg _) (idx_map hnk) rfl) ?_
       refine al 118 tok ?_
       refine aa 22 ?_
       refine AOps.nil ?_
       refine AGo.seq ?_
       refine AGo.region ?_
       refine af 119 tok ?_
       refine al 120 tok ?_
       refine am 121 ?_
       refine aq 122 (q_index_lst tok rfl rfl rfl rfl rfl rfl hkr.1 (by rw [List.getElem?_map, hrow2]; rfl) rfl) ?_
       refine al 123 tok ?_
       refine aq 124 (q_len tok rfl rfl rfl rfl rfl) ?_
       refine am 125 ?_
       refine AOps.nil ?_
       refine AGo.block ?_
       refine AGo.loopD (γ := Nat) 12 (fun k => ⟨146, (eput (eput (eput (eput (eput (eput (eput (eput (eput (eput (eput (eput (eput (eput eNew 2 (.int .i64 (R : Int))) 4 (.int .i64 i)) 5 (intsAV next)) 6 (.ptr 0 1 0 0)) 7 (.ptr 1 1 0 0)) 9 (.ptr 2 1 0 0)) 14 (.ptr 6 1 0 0)) 15 (.ptr 8 1 0 0)) 113 (intsAV next)) 114 (.int .i64 (next.length : Int))) 115 (.int .i64 (j : Int))) 123 (boolsAV row2)) 124 (.int .i64 (row2.length : Int))) 125 (.int .i64 (k : Int))), (hput (hput (hput (hput (hput (hput (hput (hput (hput (hput (hput (hput (hFrom 12) 0 (.row false 5 [old.cells])) 1 (.row false 5 [new.cells])) 2 (.row false 1 [c.cells])) 3 (.map (kvsA .i64 (vmap ((2 * R : Nat) : Int) (((vrunB R old new (c.at' i))).K))))) 4 (.row false 3 [[.int .i64 ((2 * R : Nat) : Int), .map 3, slA 9 ((((vrunB R old new (c.at' i))).K).map (arrAV .i64))]])) 9 (slO 4 ((((vrunB R old new (c.at' i))).K).map (arrAV .i64)))) 8 (.row false 4 [[.ptr 4 1 0 0, vaA 7 (valC ((vrunB R old new (c.at' i))).vals), slA 11 ((((vrunB R old new (c.at' i))).effs).map (arrAV .i64)), .int .i64 (((vrunB R old new (c.at' i))).time)]])) 7 (vaO (valC ((vrunB R old new (c.at' i))).vals))) 11 (slO 6 ((((vrunB R old new (c.at' i))).effs).map (arrAV .i64)))) 6 (.row false 4 [[.ptr 4 1 0 0, vaA 5 (valC (vrunA R old).vals), slA 10 (((vrunA R old).effs).map (arrAV .i64)), .int .i64 ((vrunA R old).time)]])) 5 (vaO (valC (vrunA R old).vals))) 10 (slO 6 (((vrunA R old).effs).map (arrAV .i64))))⟩) (fun k => k ≤ row2.length ∧ vagreeTo (vrunA R old) (vrunB R old new (c.at' i)) row2 k) (fun k => row2.length - k) 0 (Sub.mk' (by repeat (first | exact ESub.new _ | refine ESub.put ?_ (by first | rfl | exact congrArg (fun (n : Nat) => some (AV.int .i64 (n : Int))) (by simp)))) (by repeat (first | exact HSub.refl _ | exact HSub.none _ | exact HSub.from_new _ | exact HSub.from_from (by first | decide | omega | (dsimp only; omega)) | refine HSub.put ?_ (by rfl) | refine HSub.from_put ?_ (by first | decide | omega | (dsimp only; omega)) | refine HSub.from_rm ?_ (by decide)))) ⟨Nat.zero_le _, vagree_zero⟩ (fun _ => hput_free (hput_free (hput_free (hput_free (hput_free (hput_free (hput_free (hput_free (hput_free (hput_free (hput_free (hput_free (fun b hb => hFrom_free hb) rfl) rfl) rfl) rfl) rfl) rfl) rfl) rfl) rfl) rfl) rfl) rfl) ?_
       intro k ⟨hk, hagr⟩
       refine AGo.seq ?_
       refine AGo.region ?_
       refine aq 126 (q_bin rfl rfl rfl rfl) ?_
       refine AOps.nil ?_
       refine AGo.seq ?_
       refine AGo.split 126 rfl (fun hb13 => ?_) (fun hb13 => ?_)
       ·
        refine AGo.cond_true true rfl rfl ?_
        have hkl : k < row2.length := by have h := hb13; simp only [List.length_map, decide_eq_true_eq] at h; omega
        obtain ⟨must, hmu⟩ := get_of_lt hkl
        refine AGo.skip ?_
        refine AGo.seq ?_
        refine AGo.block ?_
        refine AGo.seq ?_
        refine AGo.region ?_
        refine am 127 ?_
        refine aq 128 (q_index_lst tok rfl rfl rfl rfl rfl rfl (Int.natCast_nonneg _) (idx_map hmu) rfl) ?_
        refine al 129 tok ?_
        refine aa 23 ?_
        refine aa 24 ?_
        refine AOps.nil ?_
        refine AGo.seq ?_
        refine AGo.draw mix ?_
        refine dm 130 ?_
        refine dm 131 ?_
        refine DOps.split 131 rfl (fun hb14 => ?_) (fun hb14 => ?_)
        ·
         have hmt : must = true := by simpa using hb14
         have hxv := hoa.at (z := (k : Int)) (by omega)
         have hyv := hob.at (z := (k : Int)) (by omega)
         refine df 132 tok ?_
         refine dl 133 tok ?_
         refine dm 134 ?_
         refine dq 135 (q_indexV tok rfl rfl rfl rfl rfl rfl rfl rfl hxv.1 hxv.2.2.1) ?_
         refine dq 136 (q_load tok rfl rfl rfl (ptsV rfl (valC_get ⟨hxv.1, hxv.2.1⟩)) rfl) ?_
         refine df 137 tok ?_
         refine dl 138 tok ?_
         refine dm 139 ?_
         refine dq 140 (q_indexV tok rfl rfl rfl rfl rfl rfl rfl rfl hyv.1 hyv.2.2.1) ?_
         refine dq 141 (q_load tok rfl rfl rfl (ptsV rfl (valC_get ⟨hyv.1, hyv.2.1⟩)) rfl) ?_
         refine dq 142 (q_bin rfl rfl rfl rfl) ?_
         refine dq 143 (q_pick_true true rfl rfl rfl rfl) ?_
         refine DOps.nil (by kernel_rfl) ?_
         refine AGo.split 143 rfl (fun hb15 => ?_) (fun hb15 => ?_)
         ·
          refine AGo.cond_true true rfl rfl ?_
          have hag := hb15
          refine AGo.seq ?_
          refine AGo.region ?_
          refine aa 12 ?_
          refine AOps.nil ?_
          refine AGo.ret ?_
          refine ⟨[_], ⟨rfl, trivial⟩, ?_, rfl⟩
          show AV.bool _ = AV.bool _
          congr 1
          exact (vsame_no3 hnk (by rw [hat2]; exact vagree_no hmu hmt (bne_ne' hag))).symm
         ·
          refine AGo.cond_false false rfl rfl ?_
          have hag := hb15
          refine AGo.skip ?_
          refine AGo.region ?_
          refine aq 144 (q_inc rfl rfl hkl (show row2.length ≤ maxLen by simp only [maxLen]; omega)) ?_
          refine am 125 ?_
          refine AOps.nil ?_
          exact ⟨k+1, Drop.mk' (by repeat (first | exact EDrop.new _ _ | refine EDrop.put ?_ (by rfl) (by first | rfl | exact slA_avoid _ rfl | exact vaA_avoid _ rfl))) (by repeat (first | exact HDrop.none _ _ | exact HDrop.tail _ _ | refine HDrop.put ?_ (by rfl) rfl (by first | rfl | exact slO_avoid _ _ | exact vaO_avoid _ | exact tab_avoid _ _ rfl rfl | exact wlk_avoid _ _ _ rfl rfl rfl))), ⟨hkl, vagree_succ hagr hmu (by first | exact fun _ => bne_eq' hag | (exact fun h => by rw [hag] at h; cases h))⟩, by omega⟩
        ·
         refine dk 132 ?_
         refine dk 133 ?_
         refine dk 134 ?_
         refine dk 135 ?_
         refine dk 136 ?_
         refine dk 137 ?_
         refine dk 138 ?_
         refine dk 139 ?_
         refine dk 140 ?_
         refine dk 141 ?_
         refine dk 142 ?_
         refine dq 143 (q_pick_false false rfl rfl rfl rfl) ?_
         refine DOps.nil (by kernel_rfl) ?_
         refine AGo.cond_false false rfl rfl ?_
         have hag := hb14
         refine AGo.skip ?_
         refine AGo.region ?_
         refine aq 144 (q_inc rfl rfl hkl (show row2.length ≤ maxLen by simp only [maxLen]; omega)) ?_
         refine am 125 ?_
         refine AOps.nil ?_
         exact ⟨k+1, Drop.mk' (by repeat (first | exact EDrop.new _ _ | refine EDrop.put ?_ (by rfl) (by first | rfl | exact slA_avoid _ rfl | exact vaA_avoid _ rfl))) (by repeat (first | exact HDrop.none _ _ | exact HDrop.tail _ _ | refine HDrop.put ?_ (by rfl) rfl (by first | rfl | exact slO_avoid _ _ | exact vaO_avoid _ | exact tab_avoid _ _ rfl rfl | exact wlk_avoid _ _ _ rfl rfl rfl))), ⟨hkl, vagree_succ hagr hmu (by first | exact fun _ => bne_eq' hag | (exact fun h => by rw [hag] at h; cases h))⟩, by omega⟩
       ·
        refine AGo.cond_false false rfl rfl ?_
        have hkge : row2.length ≤ k := by have h := hb13; simp only [List.length_map, decide_eq_false_iff_not] at h; omega
        refine AGo.exit ?_
        refine AGo.region ?_
        refine aq 145 (q_inc rfl rfl hjl (show next.length ≤ maxLen by simp only [maxLen]; omega)) ?_
        refine am 115 ?_
        refine AOps.nil ?_
        exact ⟨j+1, Drop.mk' (by repeat (first | exact EDrop.new _ _ | refine EDrop.put ?_ (by rfl) (by first | rfl | exact slA_avoid _ rfl | exact vaA_avoid _ rfl))) (by repeat (first | exact HDrop.none _ _ | exact HDrop.tail _ _ | refine HDrop.put ?_ (by rfl) rfl (by first | rfl | exact slO_avoid _ _ | exact vaO_avoid _ | exact tab_avoid _ _ rfl rfl | exact wlk_avoid _ _ _ rfl rfl rfl))), ⟨hjl, all_succ hnk hall (by rw [hat2]; exact vagree_end hkge hagr)⟩, by omega⟩
      ·
       refine AGo.cond_false false rfl rfl ?_
       have hjge : next.length ≤ j := by have h := hb12; simp only [List.length_map, decide_eq_false_iff_not] at h; omega
       refine AGo.exit ?_
       refine AGo.seq ?_
       refine AGo.region ?_
       refine aa 12 ?_
       refine AOps.nil ?_
       refine AGo.ret ?_
       refine ⟨[_], ⟨rfl, trivial⟩, ?_, rfl⟩
       show AV.bool _ = AV.bool _
       congr 1
       exact (vsame_yes (ndec_yes hef) (by first | exact fun _ => bne_eq' hvf | (exact fun hf => absurd hf (by simpa using hvf))) (all_end hall hjge)).symm

end Go.Proofs.Ytpijoieooikfgaa.Sv
