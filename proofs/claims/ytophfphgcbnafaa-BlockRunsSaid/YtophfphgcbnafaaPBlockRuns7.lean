/-
  The law BlockRuns of the given program answers true for every input, and leaves its arguments as they were. There is no condition. Own work.
  WALKS: printed by a program of our own from the code's tree.
  WALKS: printed by a program of our own from the code's tree.
  WALKS: printed by a program of our own from the code's tree.
  WALKS: printed by a program of our own from the code's tree.
  How strings read: own work.
-/
import Derived.Test.YtophfphgcbnafaaPBlockRuns2
import Derived.Test.YtophfphgcbnafaaPBlockRuns6
namespace Go.Proofs.Ytophfphgcbnafaa.Sv
open Go
set_option linter.unusedVariables false
set_option linter.unusedSimpArgs false

set_option maxRecDepth 100000 in
theorem step_ok (b : Blocks) (s : ByteArray) (fuel : Int) (m : Mach) (hfu : fuel ≤ 9223372036854775807) : ACall Try.prog 41 [.ptr 0 1 0 0] (mheap hNew b s fuel m) (fun r h' => r = .bool (mstep fuel m).1 ∧ HSub (mheap hNone b s fuel (mstep fuel m).2) h') := by
  refine ACall.of_body (n := 22) tok Try.func41 rfl rfl ?_
  refine AGo.seq ?_
  refine AGo.region ?_
  refine AOps.s 2 rfl rfl rfl (q_move (.inr rfl) rfl) ?_
  refine AOps.nil ?_
  refine AGo.seq ?_
  refine AGo.seq ?_
  refine AGo.draw mix ?_
  refine DOps.s 3 rfl rfl rfl (q_move (.inl rfl) rfl) ?_
  refine DOps.s 4 rfl rfl rfl (q_nilCheck rfl rfl rfl) ?_
  refine DOps.s 5 rfl rfl rfl (q_fieldAddr tok rfl rfl rfl rfl rfl rfl) ?_
  refine DOps.s 6 rfl rfl rfl (q_load tok rfl rfl rfl (by first | exact .loc _ | exact .ptr _ _ _ _ _ _ _ _ rfl rfl rfl) rfl) ?_
  refine DOps.s 7 rfl rfl rfl (q_move (.inl rfl) rfl) ?_
  refine DOps.s 8 rfl rfl rfl (q_nilCheck rfl rfl rfl) ?_
  refine DOps.s 9 rfl rfl rfl (q_fieldAddr tok rfl rfl rfl rfl rfl rfl) ?_
  refine DOps.s 10 rfl rfl rfl (q_load tok rfl rfl rfl (by first | exact .loc _ | exact .ptr _ _ _ _ _ _ _ _ rfl rfl rfl) rfl) ?_
  refine DOps.s 11 rfl rfl rfl (q_bin rfl rfl rfl rfl) ?_
  refine DOps.nil (by kernel_rfl) ?_
  refine AGo.split 11 rfl (fun hb1 => ?_) (fun hb1 => ?_)
  · -- True
    refine AGo.cond_true true rfl rfl ?_
    refine AGo.seq ?_
    refine AGo.region ?_
    refine AOps.s 12 rfl rfl rfl (q_move (.inl rfl) rfl) ?_
    refine AOps.s 13 rfl rfl rfl (q_nilCheck rfl rfl rfl) ?_
    refine AOps.s 14 rfl rfl rfl (q_fieldAddr tok rfl rfl rfl rfl rfl rfl) ?_
    refine AOps.w rfl rfl (o_store tok rfl rfl rfl rfl rfl rfl rfl rfl rfl (by decide) rfl (by first | exact fun _ => rfl | (intro h; cases h))) ?_
    refine AOps.nil ?_
    refine AGo.seq ?_
    refine AGo.region ?_
    refine AOps.s 2 rfl rfl rfl (q_move (.inr rfl) rfl) ?_
    refine AOps.nil ?_
    refine AGo.ret ?_
    rw [mstep_no hb1]
    exact ⟨[_], ⟨rfl, trivial⟩, rfl, HSub.put (HSub.put (HSub.put (HSub.none _) rfl) rfl) rfl⟩
  · -- False
    refine AGo.cond_false false rfl rfl ?_
    refine AGo.skip ?_
    refine AGo.seq ?_
    refine AGo.region ?_
    refine AOps.s 15 rfl rfl rfl (q_move (.inl rfl) rfl) ?_
    refine AOps.s 16 rfl rfl rfl (q_nilCheck rfl rfl rfl) ?_
    refine AOps.s 17 rfl rfl rfl (q_fieldAddr tok rfl rfl rfl rfl rfl rfl) ?_
    refine AOps.s 18 rfl rfl rfl (q_load tok rfl rfl rfl (by first | exact .loc _ | exact .ptr _ _ _ _ _ _ _ _ rfl rfl rfl) rfl) ?_
    refine AOps.s 19 rfl rfl rfl (q_inc rfl rfl (show m.steps < fuel.toNat by have h := hb1; simp at h; omega) (by simp only [maxLen]; omega)) ?_
    refine AOps.s 20 rfl rfl rfl (q_nilCheck rfl rfl rfl) ?_
    refine AOps.s 21 rfl rfl rfl (q_fieldAddr tok rfl rfl rfl rfl rfl rfl) ?_
    refine AOps.w rfl rfl (o_store tok rfl rfl rfl rfl rfl rfl rfl rfl rfl (by decide) rfl (by first | exact fun _ => rfl | (intro h; cases h))) ?_
    refine AOps.nil ?_
    refine AGo.seq ?_
    refine AGo.region ?_
    refine AOps.s 2 rfl rfl rfl (q_move (.inr rfl) rfl) ?_
    refine AOps.nil ?_
    refine AGo.ret ?_
    rw [mstep_yes hb1]
    exact ⟨[_], ⟨rfl, trivial⟩, rfl, HSub.put (HSub.put (HSub.put (HSub.none _) rfl) rfl) rfl⟩

set_option maxRecDepth 100000 in
theorem one_okR (b : Blocks) (s : ByteArray) (fuel : Int) (call : Int → Mach → Mach) (t : Tac) (regs : List Int) (m : Mach) (n R : Nat) (ht : TacIn t n R b.words.toNat) (hr : allR regs) (hlen : regs.length = R) (hm : m.good b.words.toNat) (h0 : m.fin = 0) (hbw : b.words ≤ 1048576) (hs : s.size ≤ 9223372036854775807) (hwn : isW t.n)
    (hcall : ∀ (i : Int), 0 ≤ i → i < n → ACall Try.prog 29 [.ptr 0 1 0 0, .int .i64 i] (mheap hNew b s fuel m) (fun r h' => r = .tup [] ∧ HSub (mheap hNone b s fuel (call i m)) h')) : ACall Try.prog 42 [.ptr 0 1 0 0, .agg t.cells, .ref 4 R 0 R] (hput (mheap hNew b s fuel m) 4 (.row true 1 (regCells regs))) (fun r h' => r = .tup [] ∧ HSub (hput (mheap hNone b s fuel (mone call s t regs m).2) 4 (.row true 1 (regCells (mone call s t regs m).1))) h') := by
  refine ACall.of_body (n := 211) tok Try.func42 rfl rfl ?_
  refine AGo.seq ?_
  refine AGo.region ?_
  refine AOps.x 4 rfl rfl rfl (o_box (sz := 8) 5 rfl rfl rfl rfl (Nat.zero_lt_succ _) rfl) ?_
  refine AOps.nil ?_
  refine AGo.seq ?_
  refine AGo.region ?_
  refine AOps.s 8 rfl rfl rfl (q_fieldAddr tok rfl rfl rfl rfl rfl rfl) ?_
  refine AOps.s 9 rfl rfl rfl (q_load tok rfl rfl rfl (by first | exact .loc _ | exact .ptr _ _ _ _ _ _ _ _ rfl rfl rfl) rfl) ?_
  refine AOps.nil ?_
  refine AGo.block ?_
  refine AGo.seq ?_
  refine AGo.region ?_
  refine AOps.s 11 rfl rfl rfl (q_bin rfl rfl rfl rfl) ?_
  refine AOps.s 10 rfl rfl rfl (q_move (.inr rfl) rfl) ?_
  refine AOps.nil ?_
  refine AGo.split 10 rfl (fun hb1 => ?_) (fun hb1 => ?_)
  · -- True
    refine AGo.cond_true true rfl rfl ?_
    have ho : t.op = 1 := by simpa using hb1
    have hd := ht.d (by simp [setsOp, ho])
    refine AGo.region ?_
    refine AOps.s 12 rfl rfl rfl (q_move (.inl rfl) rfl) ?_
    refine AOps.s 13 rfl rfl rfl (q_fieldAddr tok rfl rfl rfl rfl rfl rfl) ?_
    refine AOps.s 14 rfl rfl rfl (q_load tok rfl rfl rfl (by first | exact .loc _ | exact .ptr _ _ _ _ _ _ _ _ rfl rfl rfl) rfl) ?_
    refine AOps.s 15 rfl rfl rfl (q_fieldAddr tok rfl rfl rfl rfl rfl rfl) ?_
    refine AOps.s 16 rfl rfl rfl (q_load tok rfl rfl rfl (by first | exact .loc _ | exact .ptr _ _ _ _ _ _ _ _ rfl rfl rfl) rfl) ?_
    refine AOps.s 17 rfl rfl rfl (q_index_ref tok rfl rfl rfl rfl rfl rfl rfl (by rw [regCells_len, hlen]) rfl hd.1 (by have := hd.2; omega)) ?_
    refine AOps.w rfl rfl (o_store tok rfl rfl rfl rfl rfl rfl (by rw [regCells_len, hlen]) (rcell (by have := hd; omega)) rfl (by decide) rfl (by first | exact fun _ => rfl | (intro h; cases h))) ?_
    refine AOps.nil ?_
    refine ⟨[], trivial, rfl, ?_⟩
    rw [mone1 ho]
    exact HSub.put (HSub.put (HSub.put (HSub.put (HSub.none _) rfl) rfl) rfl) (by first | rfl | exact congrArg (fun es => some (AObj.row true 1 es)) (rcell_set _ _ _) | exact congrArg (fun es => some (AObj.row true 1 es)) (rcell_set2 _ _ _ _))
  · -- False
    refine AGo.cond_false false rfl rfl ?_
    refine AGo.seq ?_
    refine AGo.region ?_
    refine AOps.s 19 rfl rfl rfl (q_bin rfl rfl rfl rfl) ?_
    refine AOps.s 18 rfl rfl rfl (q_move (.inr rfl) rfl) ?_
    refine AOps.nil ?_
    refine AGo.split 18 rfl (fun hb2 => ?_) (fun hb2 => ?_)
    · -- True
      refine AGo.cond_true true rfl rfl ?_
      have ho : t.op = 2 := by simpa using hb2
      have hd := ht.d (by simp [setsOp, ho])
      have ha := ht.a (by simp [use1, use2, ho])
      refine AGo.draw mix ?_
      refine DOps.s 20 rfl rfl rfl (q_move (.inl rfl) rfl) ?_
      refine DOps.s 21 rfl rfl rfl (q_fieldAddr tok rfl rfl rfl rfl rfl rfl) ?_
      refine DOps.s 22 rfl rfl rfl (q_load tok rfl rfl rfl (by first | exact .loc _ | exact .ptr _ _ _ _ _ _ _ _ rfl rfl rfl) rfl) ?_
      refine DOps.s 23 rfl rfl rfl (q_move (.inl rfl) rfl) ?_
      refine DOps.s 24 rfl rfl rfl (q_fieldAddr tok rfl rfl rfl rfl rfl rfl) ?_
      refine DOps.s 25 rfl rfl rfl (q_load tok rfl rfl rfl (by first | exact .loc _ | exact .ptr _ _ _ _ _ _ _ _ rfl rfl rfl) rfl) ?_
      refine DOps.s 26 rfl rfl rfl (q_index_ref tok rfl rfl rfl rfl rfl rfl rfl (by rw [regCells_len, hlen]) rfl ha.1 (by have := ha.2; omega)) ?_
      refine DOps.s 27 rfl rfl rfl (q_load tok rfl rfl rfl (.ptr _ _ _ _ _ _ _ _ rfl (by rw [regCells_len, hlen]) (rcell (by have := ha; omega))) rfl) ?_
      refine DOps.s 28 rfl rfl rfl (q_index_ref tok rfl rfl rfl rfl rfl rfl rfl (by rw [regCells_len, hlen]) rfl hd.1 (by have := hd.2; omega)) ?_
      refine DOps.w rfl rfl (o_store tok rfl rfl rfl rfl rfl rfl (by rw [regCells_len, hlen]) (rcell (by have := hd; omega)) rfl (by decide) rfl (by first | exact fun _ => rfl | (intro h; cases h))) ?_
      refine DOps.nil (by kernel_rfl) ?_
      refine ⟨[], trivial, rfl, ?_⟩
      rw [mone2 ho]
      exact HSub.put (HSub.put (HSub.put (HSub.put (HSub.none _) rfl) rfl) rfl) (by first | rfl | exact congrArg (fun es => some (AObj.row true 1 es)) (rcell_set _ _ _) | exact congrArg (fun es => some (AObj.row true 1 es)) (rcell_set2 _ _ _ _))
    · -- False
      refine AGo.cond_false false rfl rfl ?_
      refine AGo.seq ?_
      refine AGo.region ?_
      refine AOps.s 30 rfl rfl rfl (q_bin rfl rfl rfl rfl) ?_
      refine AOps.s 29 rfl rfl rfl (q_move (.inr rfl) rfl) ?_
      refine AOps.nil ?_
      refine AGo.split 29 rfl (fun hb3 => ?_) (fun hb3 => ?_)
      · -- True
        refine AGo.cond_true true rfl rfl ?_
        have ho : t.op = 3 := by simpa using hb3
        have hd := ht.d (by simp [setsOp, ho])
        have ha := ht.a (by simp [use1, use2, ho])
        have hb := ht.b (by simp [use2, ho])
        refine AGo.seq ?_
        refine AGo.draw mix ?_
        refine DOps.s 32 rfl rfl rfl (q_fieldAddr tok rfl rfl rfl rfl rfl rfl) ?_
        refine DOps.s 33 rfl rfl rfl (q_load tok rfl rfl rfl (by first | exact .loc _ | exact .ptr _ _ _ _ _ _ _ _ rfl rfl rfl) rfl) ?_
        refine DOps.s 34 rfl rfl rfl (q_move (.inl rfl) rfl) ?_
        refine DOps.s 35 rfl rfl rfl (q_fieldAddr tok rfl rfl rfl rfl rfl rfl) ?_
        refine DOps.s 36 rfl rfl rfl (q_load tok rfl rfl rfl (by first | exact .loc _ | exact .ptr _ _ _ _ _ _ _ _ rfl rfl rfl) rfl) ?_
        refine DOps.s 37 rfl rfl rfl (q_index_ref tok rfl rfl rfl rfl rfl rfl rfl (by rw [regCells_len, hlen]) rfl ha.1 (by have := ha.2; omega)) ?_
        refine DOps.s 38 rfl rfl rfl (q_load tok rfl rfl rfl (.ptr _ _ _ _ _ _ _ _ rfl (by rw [regCells_len, hlen]) (rcell (by have := ha; omega))) rfl) ?_
        refine DOps.s 39 rfl rfl rfl (q_move (.inl rfl) rfl) ?_
        refine DOps.s 40 rfl rfl rfl (q_fieldAddr tok rfl rfl rfl rfl rfl rfl) ?_
        refine DOps.s 41 rfl rfl rfl (q_load tok rfl rfl rfl (by first | exact .loc _ | exact .ptr _ _ _ _ _ _ _ _ rfl rfl rfl) rfl) ?_
        refine DOps.s 42 rfl rfl rfl (q_index_ref tok rfl rfl rfl rfl rfl rfl rfl (by rw [regCells_len, hlen]) rfl hb.1 (by have := hb.2; omega)) ?_
        refine DOps.s 43 rfl rfl rfl (q_load tok rfl rfl rfl (.ptr _ _ _ _ _ _ _ _ rfl (by rw [regCells_len, hlen]) (rcell (by have := hb; omega))) rfl) ?_
        refine DOps.x 44 rfl rfl rfl (o_pure rfl Try.func51 (by kernel_rfl) rfl rfl rfl (rapply_ok t.k (rget regs t.a) (rget regs t.b) (rget_w hr _) (rget_w hr _))) ?_
        refine DOps.s 31 rfl rfl rfl (q_move (.inl rfl) rfl) ?_
        refine DOps.s 45 rfl rfl rfl (q_extract rfl rfl rfl) ?_
        refine DOps.s 46 rfl rfl rfl (q_extract rfl rfl rfl) ?_
        refine DOps.s 6 rfl rfl rfl (q_move (.inr rfl) rfl) ?_
        refine DOps.s 7 rfl rfl rfl (q_move (.inr rfl) rfl) ?_
        refine DOps.nil (by kernel_rfl) ?_
        refine AGo.seq ?_
        refine AGo.seq ?_
        refine AGo.region ?_
        refine AOps.s 47 rfl rfl rfl (q_move (.inl rfl) rfl) ?_
        refine AOps.s 48 rfl rfl rfl (q_bin rfl rfl rfl rfl) ?_
        refine AOps.nil ?_
        refine AGo.split 48 rfl (fun hb4 => ?_) (fun hb4 => ?_)
        · -- True
          refine AGo.cond_true true rfl rfl ?_
          refine AGo.seq ?_
          refine AGo.region ?_
          refine AOps.s 49 rfl rfl rfl (q_move (.inl rfl) rfl) ?_
          refine AOps.s 50 rfl rfl rfl (q_nilCheck rfl rfl rfl) ?_
          refine AOps.s 51 rfl rfl rfl (q_fieldAddr tok rfl rfl rfl rfl rfl rfl) ?_
          refine AOps.w rfl rfl (o_store tok rfl rfl rfl rfl rfl rfl rfl rfl rfl (by decide) rfl (by first | exact fun _ => rfl | (intro h; cases h))) ?_
          refine AOps.nil ?_
          refine AGo.ret ?_
          refine ⟨[], trivial, rfl, ?_⟩
          rw [mone3z ho hb4]
          exact HSub.put (HSub.put (HSub.put (HSub.put (HSub.none _) rfl) rfl) rfl) rfl
        · -- False
          refine AGo.cond_false false rfl rfl ?_
          refine AGo.skip ?_
          refine AGo.region ?_
          refine AOps.s 52 rfl rfl rfl (q_move (.inl rfl) rfl) ?_
          refine AOps.s 53 rfl rfl rfl (q_fieldAddr tok rfl rfl rfl rfl rfl rfl) ?_
          refine AOps.s 54 rfl rfl rfl (q_load tok rfl rfl rfl (by first | exact .loc _ | exact .ptr _ _ _ _ _ _ _ _ rfl rfl rfl) rfl) ?_
          refine AOps.s 55 rfl rfl rfl (q_move (.inl rfl) rfl) ?_
          refine AOps.s 56 rfl rfl rfl (q_index_ref tok rfl rfl rfl rfl rfl rfl rfl (by rw [regCells_len, hlen]) rfl hd.1 (by have := hd.2; omega)) ?_
          refine AOps.w rfl rfl (o_store tok rfl rfl rfl rfl rfl rfl (by rw [regCells_len, hlen]) (rcell (by have := hd; omega)) rfl (by decide) rfl (by first | exact fun _ => rfl | (intro h; cases h))) ?_
          refine AOps.nil ?_
          refine ⟨[], trivial, rfl, ?_⟩
          rw [mone3 ho hb4]
          exact HSub.put (HSub.put (HSub.put (HSub.put (HSub.none _) rfl) rfl) rfl) (by first | rfl | exact congrArg (fun es => some (AObj.row true 1 es)) (rcell_set _ _ _) | exact congrArg (fun es => some (AObj.row true 1 es)) (rcell_set2 _ _ _ _))
      · -- False
        refine AGo.cond_false false rfl rfl ?_
        refine AGo.seq ?_
        refine AGo.region ?_
        refine AOps.s 58 rfl rfl rfl (q_bin rfl rfl rfl rfl) ?_
        refine AOps.s 57 rfl rfl rfl (q_move (.inr rfl) rfl) ?_
        refine AOps.nil ?_
        refine AGo.split 57 rfl (fun hb5 => ?_) (fun hb5 => ?_)
        · -- True
          refine AGo.cond_true true rfl rfl ?_
          have ho : t.op = 4 := by simpa using hb5
          have hd := ht.d (by simp [setsOp, ho])
          have hbs := ht.base (by simp [ho])
          refine AGo.draw mix ?_
          refine DOps.s 59 rfl rfl rfl (q_move (.inl rfl) rfl) ?_
          refine DOps.s 60 rfl rfl rfl (q_fieldAddr tok rfl rfl rfl rfl rfl rfl) ?_
          refine DOps.s 61 rfl rfl rfl (q_load tok rfl rfl rfl (by first | exact .loc _ | exact .ptr _ _ _ _ _ _ _ _ rfl rfl rfl) rfl) ?_
          refine DOps.s 62 rfl rfl rfl (q_move (.inl rfl) rfl) ?_
          refine DOps.s 63 rfl rfl rfl (q_nilCheck rfl rfl rfl) ?_
          refine DOps.s 64 rfl rfl rfl (q_fieldAddr tok rfl rfl rfl rfl rfl rfl) ?_
          refine DOps.s 65 rfl rfl rfl (q_load tok rfl rfl rfl (by first | exact .loc _ | exact .ptr _ _ _ _ _ _ _ _ rfl rfl rfl) rfl) ?_
          refine DOps.s 66 rfl rfl rfl (q_fieldAddr tok rfl rfl rfl rfl rfl rfl) ?_
          refine DOps.s 67 rfl rfl rfl (q_load tok rfl rfl rfl (by first | exact .loc _ | exact .ptr _ _ _ _ _ _ _ _ rfl rfl rfl) rfl) ?_
          refine DOps.s 68 rfl rfl rfl (q_index_ref tok rfl rfl rfl rfl rfl rfl rfl (by rw [regCells_len, hm.len]) rfl hbs.1 (by have := hbs.2; omega)) ?_
          refine DOps.s 69 rfl rfl rfl (q_load tok rfl rfl rfl (.ptr _ _ _ _ _ _ _ _ rfl (by rw [regCells_len, hm.len]) (rcell (by have := hbs; have := hm.len; omega))) rfl) ?_
          refine DOps.s 70 rfl rfl rfl (q_index_ref tok rfl rfl rfl rfl rfl rfl rfl (by rw [regCells_len, hlen]) rfl hd.1 (by have := hd.2; omega)) ?_
          refine DOps.w rfl rfl (o_store tok rfl rfl rfl rfl rfl rfl (by rw [regCells_len, hlen]) (rcell (by have := hd; omega)) rfl (by decide) rfl (by first | exact fun _ => rfl | (intro h; cases h))) ?_
          refine DOps.nil (by kernel_rfl) ?_
          refine ⟨[], trivial, rfl, ?_⟩
          rw [mone4 ho]
          exact HSub.put (HSub.put (HSub.put (HSub.put (HSub.none _) rfl) rfl) rfl) (by first | rfl | exact congrArg (fun es => some (AObj.row true 1 es)) (rcell_set _ _ _) | exact congrArg (fun es => some (AObj.row true 1 es)) (rcell_set2 _ _ _ _))
        · -- False
          refine AGo.cond_false false rfl rfl ?_
          refine AGo.seq ?_
          refine AGo.region ?_
          refine AOps.s 72 rfl rfl rfl (q_bin rfl rfl rfl rfl) ?_
          refine AOps.s 71 rfl rfl rfl (q_move (.inr rfl) rfl) ?_
          refine AOps.nil ?_
          refine AGo.split 71 rfl (fun hb6 => ?_) (fun hb6 => ?_)
          · -- True
            refine AGo.cond_true true rfl rfl ?_
            have ho : t.op = 5 := by simpa using hb6
            have ha := ht.a (by simp [use1, use2, ho])
            have hbs := ht.base (by simp [ho])
            refine AGo.draw mix ?_
            refine DOps.s 73 rfl rfl rfl (q_move (.inl rfl) rfl) ?_
            refine DOps.s 74 rfl rfl rfl (q_nilCheck rfl rfl rfl) ?_
            refine DOps.s 75 rfl rfl rfl (q_fieldAddr tok rfl rfl rfl rfl rfl rfl) ?_
            refine DOps.s 76 rfl rfl rfl (q_load tok rfl rfl rfl (by first | exact .loc _ | exact .ptr _ _ _ _ _ _ _ _ rfl rfl rfl) rfl) ?_
            refine DOps.s 77 rfl rfl rfl (q_fieldAddr tok rfl rfl rfl rfl rfl rfl) ?_
            refine DOps.s 78 rfl rfl rfl (q_load tok rfl rfl rfl (by first | exact .loc _ | exact .ptr _ _ _ _ _ _ _ _ rfl rfl rfl) rfl) ?_
            refine DOps.s 79 rfl rfl rfl (q_move (.inl rfl) rfl) ?_
            refine DOps.s 80 rfl rfl rfl (q_fieldAddr tok rfl rfl rfl rfl rfl rfl) ?_
            refine DOps.s 81 rfl rfl rfl (q_load tok rfl rfl rfl (by first | exact .loc _ | exact .ptr _ _ _ _ _ _ _ _ rfl rfl rfl) rfl) ?_
            refine DOps.s 82 rfl rfl rfl (q_index_ref tok rfl rfl rfl rfl rfl rfl rfl (by rw [regCells_len, hlen]) rfl ha.1 (by have := ha.2; omega)) ?_
            refine DOps.s 83 rfl rfl rfl (q_load tok rfl rfl rfl (.ptr _ _ _ _ _ _ _ _ rfl (by rw [regCells_len, hlen]) (rcell (by have := ha; omega))) rfl) ?_
            refine DOps.s 84 rfl rfl rfl (q_index_ref tok rfl rfl rfl rfl rfl rfl rfl (by rw [regCells_len, hm.len]) rfl hbs.1 (by have := hbs.2; omega)) ?_
            refine DOps.w rfl rfl (o_store tok rfl rfl rfl rfl rfl rfl (by rw [regCells_len, hm.len]) (rcell (by have := hbs; have := hm.len; omega)) rfl (by decide) rfl (by first | exact fun _ => rfl | (intro h; cases h))) ?_
            refine DOps.nil (by kernel_rfl) ?_
            refine ⟨[], trivial, rfl, ?_⟩
            rw [mone5 ho]
            exact HSub.put (HSub.put (HSub.put (HSub.put (HSub.none _) rfl) (by first | rfl | exact congrArg (fun es => some (AObj.row true 1 es)) (rcell_set _ _ _) | exact congrArg (fun es => some (AObj.row true 1 es)) (rcell_set2 _ _ _ _))) rfl) rfl
          · -- False
            refine AGo.cond_false false rfl rfl ?_
            refine AGo.seq ?_
            refine AGo.seq ?_
            refine AGo.region ?_
            refine AOps.s 86 rfl rfl rfl (q_bin rfl rfl rfl rfl) ?_
            refine AOps.s 85 rfl rfl rfl (q_move (.inr rfl) rfl) ?_
            refine AOps.nil ?_
            refine AGo.split 85 rfl (fun hb7 => ?_) (fun hb7 => ?_)
            · -- True
              refine AGo.cond_true true rfl rfl ?_
              refine AGo.skip ?_
              refine AGo.cond_true true rfl rfl ?_
              refine AGo.seq ?_
              refine AGo.seq ?_
              refine AGo.draw mix ?_
              have ho : t.op = 6 ∨ t.op = 7 := by simp_all
              have har := ht.arr ho
              have ha := ht.a (by rcases ho with ho | ho <;> simp [use1, use2, ho])
              have hwa := rget_w hr t.a
              have hwa1 := hwa.1
              have hwa2 := hwa.2
              refine DOps.s 88 rfl rfl rfl (q_move (.inl rfl) rfl) ?_
              refine DOps.s 89 rfl rfl rfl (q_fieldAddr tok rfl rfl rfl rfl rfl rfl) ?_
              refine DOps.s 90 rfl rfl rfl (q_load tok rfl rfl rfl (by first | exact .loc _ | exact .ptr _ _ _ _ _ _ _ _ rfl rfl rfl) rfl) ?_
              refine DOps.s 91 rfl rfl rfl (q_index_ref tok rfl rfl rfl rfl rfl rfl rfl (by rw [regCells_len, hlen]) rfl ha.1 (by have := ha.2; omega)) ?_
              refine DOps.s 92 rfl rfl rfl (q_load tok rfl rfl rfl (.ptr _ _ _ _ _ _ _ _ rfl (by rw [regCells_len, hlen]) (rcell (by have := ha; omega))) rfl) ?_
              refine DOps.s 93 rfl rfl rfl (q_convTo tok rfl rfl rfl rfl rfl (r := rget regs t.a) (by rw [IntKind.wrap_u64]; omega)) ?_
              refine DOps.s 94 rfl rfl rfl (q_fieldAddr tok rfl rfl rfl rfl rfl rfl) ?_
              refine DOps.s 95 rfl rfl rfl (q_load tok rfl rfl rfl (by first | exact .loc _ | exact .ptr _ _ _ _ _ _ _ _ rfl rfl rfl) rfl) ?_
              refine DOps.s 96 rfl rfl rfl (q_convTo tok rfl rfl rfl rfl rfl (r := t.size) (by rw [IntKind.wrap_u64]; omega)) ?_
              refine DOps.s 97 rfl rfl rfl (q_bin rfl rfl rfl rfl) ?_
              refine DOps.nil (by kernel_rfl) ?_
              refine AGo.split 97 rfl (fun hb8 => ?_) (fun hb8 => ?_)
              · -- True
                refine AGo.cond_true true rfl rfl ?_
                have hsz := hb8
                refine AGo.seq ?_
                refine AGo.region ?_
                refine AOps.s 98 rfl rfl rfl (q_move (.inl rfl) rfl) ?_
                refine AOps.s 99 rfl rfl rfl (q_nilCheck rfl rfl rfl) ?_
                refine AOps.s 100 rfl rfl rfl (q_fieldAddr tok rfl rfl rfl rfl rfl rfl) ?_
                refine AOps.w rfl rfl (o_store tok rfl rfl rfl rfl rfl rfl rfl rfl rfl (by decide) rfl (by first | exact fun _ => rfl | (intro h; cases h))) ?_
                refine AOps.nil ?_
                refine AGo.ret ?_
                refine ⟨[], trivial, rfl, ?_⟩
                rw [mone67z ho hsz]
                exact HSub.put (HSub.put (HSub.put (HSub.put (HSub.none _) rfl) rfl) rfl) rfl
              · -- False
                refine AGo.cond_false false rfl rfl ?_
                have hsz := hb8
                have hsz2 : rget regs t.a < t.size := by simpa using hb8
                have hidx : 0 ≤ t.base + rget regs t.a ∧ t.base + rget regs t.a < b.words.toNat := by omega
                refine AGo.skip ?_
                refine AGo.seq ?_
                refine AGo.region ?_
                refine AOps.s 101 rfl rfl rfl (q_fieldAddr tok rfl rfl rfl rfl rfl rfl) ?_
                refine AOps.s 102 rfl rfl rfl (q_load tok rfl rfl rfl (by first | exact .loc _ | exact .ptr _ _ _ _ _ _ _ _ rfl rfl rfl) rfl) ?_
                refine AOps.s 103 rfl rfl rfl (q_bin rfl rfl rfl rfl) ?_
                refine AOps.nil ?_
                refine AGo.split 103 rfl (fun hb9 => ?_) (fun hb9 => ?_)
                · -- True
                  refine AGo.cond_true true rfl rfl ?_
                  have ho6 : t.op = 6 := by simpa using hb9
                  have hd := ht.d (by simp [setsOp, ho6])
                  refine AGo.draw mix ?_
                  refine DOps.s 104 rfl rfl rfl (q_move (.inl rfl) rfl) ?_
                  refine DOps.s 105 rfl rfl rfl (q_fieldAddr tok rfl rfl rfl rfl rfl rfl) ?_
                  refine DOps.s 106 rfl rfl rfl (q_load tok rfl rfl rfl (by first | exact .loc _ | exact .ptr _ _ _ _ _ _ _ _ rfl rfl rfl) rfl) ?_
                  refine DOps.s 107 rfl rfl rfl (q_move (.inl rfl) rfl) ?_
                  refine DOps.s 108 rfl rfl rfl (q_nilCheck rfl rfl rfl) ?_
                  refine DOps.s 109 rfl rfl rfl (q_fieldAddr tok rfl rfl rfl rfl rfl rfl) ?_
                  refine DOps.s 110 rfl rfl rfl (q_load tok rfl rfl rfl (by first | exact .loc _ | exact .ptr _ _ _ _ _ _ _ _ rfl rfl rfl) rfl) ?_
                  refine DOps.s 111 rfl rfl rfl (q_fieldAddr tok rfl rfl rfl rfl rfl rfl) ?_
                  refine DOps.s 112 rfl rfl rfl (q_load tok rfl rfl rfl (by first | exact .loc _ | exact .ptr _ _ _ _ _ _ _ _ rfl rfl rfl) rfl) ?_
                  refine DOps.s 113 rfl rfl rfl (q_move (.inl rfl) rfl) ?_
                  refine DOps.s 114 rfl rfl rfl (q_fieldAddr tok rfl rfl rfl rfl rfl rfl) ?_
                  refine DOps.s 115 rfl rfl rfl (q_load tok rfl rfl rfl (by first | exact .loc _ | exact .ptr _ _ _ _ _ _ _ _ rfl rfl rfl) rfl) ?_
                  refine DOps.s 116 rfl rfl rfl (q_index_ref tok rfl rfl rfl rfl rfl rfl rfl (by rw [regCells_len, hlen]) rfl ha.1 (by have := ha.2; omega)) ?_
                  refine DOps.s 117 rfl rfl rfl (q_load tok rfl rfl rfl (.ptr _ _ _ _ _ _ _ _ rfl (by rw [regCells_len, hlen]) (rcell (by have := ha; omega))) rfl) ?_
                  refine DOps.s 118 rfl rfl rfl (q_convTo tok rfl rfl rfl rfl rfl (r := rget regs t.a) (by exact wrap_i64 (by omega) (by omega))) ?_
                  refine DOps.s 119 rfl rfl rfl (q_bin (r := .int .i64 (t.base + rget regs t.a)) rfl rfl rfl (by simp only [evalBin, evalInt, isShift, cond_false, if_true]; rw [wrap_i64 (by omega) (by omega)])) ?_
                  refine DOps.s 120 rfl rfl rfl (q_index_ref tok rfl rfl rfl rfl rfl rfl rfl (by rw [regCells_len, hm.len]) rfl hidx.1 (by have := hidx.2; omega)) ?_
                  refine DOps.s 121 rfl rfl rfl (q_load tok rfl rfl rfl (.ptr _ _ _ _ _ _ _ _ rfl (by rw [regCells_len, hm.len]) (rcell (by have := hidx; have := hm.len; omega))) rfl) ?_
                  refine DOps.s 122 rfl rfl rfl (q_index_ref tok rfl rfl rfl rfl rfl rfl rfl (by rw [regCells_len, hlen]) rfl hd.1 (by have := hd.2; omega)) ?_
                  refine DOps.w rfl rfl (o_store tok rfl rfl rfl rfl rfl rfl (by rw [regCells_len, hlen]) (rcell (by have := hd; omega)) rfl (by decide) rfl (by first | exact fun _ => rfl | (intro h; cases h))) ?_
                  refine DOps.nil (by kernel_rfl) ?_
                  refine ⟨[], trivial, rfl, ?_⟩
                  rw [mone6 ho6 hsz]
                  exact HSub.put (HSub.put (HSub.put (HSub.put (HSub.none _) rfl) rfl) rfl) (by first | rfl | exact congrArg (fun es => some (AObj.row true 1 es)) (rcell_set _ _ _) | exact congrArg (fun es => some (AObj.row true 1 es)) (rcell_set2 _ _ _ _))
                · -- False
                  refine AGo.cond_false false rfl rfl ?_
                  have ho7 : t.op = 7 := by have h := hb9; simp at h; omega
                  have hb := ht.b (by simp [use2, ho7])
                  refine AGo.draw mix ?_
                  refine DOps.s 123 rfl rfl rfl (q_move (.inl rfl) rfl) ?_
                  refine DOps.s 124 rfl rfl rfl (q_nilCheck rfl rfl rfl) ?_
                  refine DOps.s 125 rfl rfl rfl (q_fieldAddr tok rfl rfl rfl rfl rfl rfl) ?_
                  refine DOps.s 126 rfl rfl rfl (q_load tok rfl rfl rfl (by first | exact .loc _ | exact .ptr _ _ _ _ _ _ _ _ rfl rfl rfl) rfl) ?_
                  refine DOps.s 127 rfl rfl rfl (q_fieldAddr tok rfl rfl rfl rfl rfl rfl) ?_
                  refine DOps.s 128 rfl rfl rfl (q_load tok rfl rfl rfl (by first | exact .loc _ | exact .ptr _ _ _ _ _ _ _ _ rfl rfl rfl) rfl) ?_
                  refine DOps.s 129 rfl rfl rfl (q_move (.inl rfl) rfl) ?_
                  refine DOps.s 130 rfl rfl rfl (q_fieldAddr tok rfl rfl rfl rfl rfl rfl) ?_
                  refine DOps.s 131 rfl rfl rfl (q_load tok rfl rfl rfl (by first | exact .loc _ | exact .ptr _ _ _ _ _ _ _ _ rfl rfl rfl) rfl) ?_
                  refine DOps.s 132 rfl rfl rfl (q_index_ref tok rfl rfl rfl rfl rfl rfl rfl (by rw [regCells_len, hlen]) rfl ha.1 (by have := ha.2; omega)) ?_
                  refine DOps.s 133 rfl rfl rfl (q_load tok rfl rfl rfl (.ptr _ _ _ _ _ _ _ _ rfl (by rw [regCells_len, hlen]) (rcell (by have := ha; omega))) rfl) ?_
                  refine DOps.s 134 rfl rfl rfl (q_convTo tok rfl rfl rfl rfl rfl (r := rget regs t.a) (by exact wrap_i64 (by omega) (by omega))) ?_
                  refine DOps.s 135 rfl rfl rfl (q_bin (r := .int .i64 (t.base + rget regs t.a)) rfl rfl rfl (by simp only [evalBin, evalInt, isShift, cond_false, if_true]; rw [wrap_i64 (by omega) (by omega)])) ?_
                  refine DOps.s 136 rfl rfl rfl (q_move (.inl rfl) rfl) ?_
                  refine DOps.s 137 rfl rfl rfl (q_fieldAddr tok rfl rfl rfl rfl rfl rfl) ?_
                  refine DOps.s 138 rfl rfl rfl (q_load tok rfl rfl rfl (by first | exact .loc _ | exact .ptr _ _ _ _ _ _ _ _ rfl rfl rfl) rfl) ?_
                  refine DOps.s 139 rfl rfl rfl (q_index_ref tok rfl rfl rfl rfl rfl rfl rfl (by rw [regCells_len, hlen]) rfl hb.1 (by have := hb.2; omega)) ?_
                  refine DOps.s 140 rfl rfl rfl (q_load tok rfl rfl rfl (.ptr _ _ _ _ _ _ _ _ rfl (by rw [regCells_len, hlen]) (rcell (by have := hb; omega))) rfl) ?_
                  refine DOps.s 141 rfl rfl rfl (q_index_ref tok rfl rfl rfl rfl rfl rfl rfl (by rw [regCells_len, hm.len]) rfl hidx.1 (by have := hidx.2; omega)) ?_
                  refine DOps.w rfl rfl (o_store tok rfl rfl rfl rfl rfl rfl (by rw [regCells_len, hm.len]) (rcell (by have := hidx; have := hm.len; omega)) rfl (by decide) rfl (by first | exact fun _ => rfl | (intro h; cases h))) ?_
                  refine DOps.nil (by kernel_rfl) ?_
                  refine ⟨[], trivial, rfl, ?_⟩
                  rw [mone7 ho7 hsz]
                  exact HSub.put (HSub.put (HSub.put (HSub.put (HSub.none _) rfl) (by first | rfl | exact congrArg (fun es => some (AObj.row true 1 es)) (rcell_set _ _ _) | exact congrArg (fun es => some (AObj.row true 1 es)) (rcell_set2 _ _ _ _))) rfl) rfl
            · -- False
              refine AGo.cond_false false rfl rfl ?_
              refine AGo.region ?_
              refine AOps.s 87 rfl rfl rfl (q_bin rfl rfl rfl rfl) ?_
              refine AOps.s 85 rfl rfl rfl (q_move (.inr rfl) rfl) ?_
              refine AOps.nil ?_
              refine AGo.split 85 rfl (fun hb10 => ?_) (fun hb10 => ?_)
              · -- True
                refine AGo.cond_true true rfl rfl ?_
                refine AGo.seq ?_
                refine AGo.seq ?_
                refine AGo.draw mix ?_
                have ho : t.op = 6 ∨ t.op = 7 := by simp_all
                have har := ht.arr ho
                have ha := ht.a (by rcases ho with ho | ho <;> simp [use1, use2, ho])
                have hwa := rget_w hr t.a
                have hwa1 := hwa.1
                have hwa2 := hwa.2
                refine DOps.s 88 rfl rfl rfl (q_move (.inl rfl) rfl) ?_
                refine DOps.s 89 rfl rfl rfl (q_fieldAddr tok rfl rfl rfl rfl rfl rfl) ?_
                refine DOps.s 90 rfl rfl rfl (q_load tok rfl rfl rfl (by first | exact .loc _ | exact .ptr _ _ _ _ _ _ _ _ rfl rfl rfl) rfl) ?_
                refine DOps.s 91 rfl rfl rfl (q_index_ref tok rfl rfl rfl rfl rfl rfl rfl (by rw [regCells_len, hlen]) rfl ha.1 (by have := ha.2; omega)) ?_
                refine DOps.s 92 rfl rfl rfl (q_load tok rfl rfl rfl (.ptr _ _ _ _ _ _ _ _ rfl (by rw [regCells_len, hlen]) (rcell (by have := ha; omega))) rfl) ?_
                refine DOps.s 93 rfl rfl rfl (q_convTo tok rfl rfl rfl rfl rfl (r := rget regs t.a) (by rw [IntKind.wrap_u64]; omega)) ?_
                refine DOps.s 94 rfl rfl rfl (q_fieldAddr tok rfl rfl rfl rfl rfl rfl) ?_
                refine DOps.s 95 rfl rfl rfl (q_load tok rfl rfl rfl (by first | exact .loc _ | exact .ptr _ _ _ _ _ _ _ _ rfl rfl rfl) rfl) ?_
                refine DOps.s 96 rfl rfl rfl (q_convTo tok rfl rfl rfl rfl rfl (r := t.size) (by rw [IntKind.wrap_u64]; omega)) ?_
                refine DOps.s 97 rfl rfl rfl (q_bin rfl rfl rfl rfl) ?_
                refine DOps.nil (by kernel_rfl) ?_
                refine AGo.split 97 rfl (fun hb11 => ?_) (fun hb11 => ?_)
                · -- True
                  refine AGo.cond_true true rfl rfl ?_
                  have hsz := hb11
                  refine AGo.seq ?_
                  refine AGo.region ?_
                  refine AOps.s 98 rfl rfl rfl (q_move (.inl rfl) rfl) ?_
                  refine AOps.s 99 rfl rfl rfl (q_nilCheck rfl rfl rfl) ?_
                  refine AOps.s 100 rfl rfl rfl (q_fieldAddr tok rfl rfl rfl rfl rfl rfl) ?_
                  refine AOps.w rfl rfl (o_store tok rfl rfl rfl rfl rfl rfl rfl rfl rfl (by decide) rfl (by first | exact fun _ => rfl | (intro h; cases h))) ?_
                  refine AOps.nil ?_
                  refine AGo.ret ?_
                  refine ⟨[], trivial, rfl, ?_⟩
                  rw [mone67z ho hsz]
                  exact HSub.put (HSub.put (HSub.put (HSub.put (HSub.none _) rfl) rfl) rfl) rfl
                · -- False
                  refine AGo.cond_false false rfl rfl ?_
                  have hsz := hb11
                  have hsz2 : rget regs t.a < t.size := by simpa using hb11
                  have hidx : 0 ≤ t.base + rget regs t.a ∧ t.base + rget regs t.a < b.words.toNat := by omega
                  refine AGo.skip ?_
                  refine AGo.seq ?_
                  refine AGo.region ?_
                  refine AOps.s 101 rfl rfl rfl (q_fieldAddr tok rfl rfl rfl rfl rfl rfl) ?_
                  refine AOps.s 102 rfl rfl rfl (q_load tok rfl rfl rfl (by first | exact .loc _ | exact .ptr _ _ _ _ _ _ _ _ rfl rfl rfl) rfl) ?_
                  refine AOps.s 103 rfl rfl rfl (q_bin rfl rfl rfl rfl) ?_
                  refine AOps.nil ?_
                  refine AGo.split 103 rfl (fun hb12 => ?_) (fun hb12 => ?_)
                  · -- True
                    refine AGo.cond_true true rfl rfl ?_
                    have ho6 : t.op = 6 := by simpa using hb12
                    have hd := ht.d (by simp [setsOp, ho6])
                    refine AGo.draw mix ?_
                    refine DOps.s 104 rfl rfl rfl (q_move (.inl rfl) rfl) ?_
                    refine DOps.s 105 rfl rfl rfl (q_fieldAddr tok rfl rfl rfl rfl rfl rfl) ?_
                    refine DOps.s 106 rfl rfl rfl (q_load tok rfl rfl rfl (by first | exact .loc _ | exact .ptr _ _ _ _ _ _ _ _ rfl rfl rfl) rfl) ?_
                    refine DOps.s 107 rfl rfl rfl (q_move (.inl rfl) rfl) ?_
                    refine DOps.s 108 rfl rfl rfl (q_nilCheck rfl rfl rfl) ?_
                    refine DOps.s 109 rfl rfl rfl (q_fieldAddr tok rfl rfl rfl rfl rfl rfl) ?_
                    refine DOps.s 110 rfl rfl rfl (q_load tok rfl rfl rfl (by first | exact .loc _ | exact .ptr _ _ _ _ _ _ _ _ rfl rfl rfl) rfl) ?_
                    refine DOps.s 111 rfl rfl rfl (q_fieldAddr tok rfl rfl rfl rfl rfl rfl) ?_
                    refine DOps.s 112 rfl rfl rfl (q_load tok rfl rfl rfl (by first | exact .loc _ | exact .ptr _ _ _ _ _ _ _ _ rfl rfl rfl) rfl) ?_
                    refine DOps.s 113 rfl rfl rfl (q_move (.inl rfl) rfl) ?_
                    refine DOps.s 114 rfl rfl rfl (q_fieldAddr tok rfl rfl rfl rfl rfl rfl) ?_
                    refine DOps.s 115 rfl rfl rfl (q_load tok rfl rfl rfl (by first | exact .loc _ | exact .ptr _ _ _ _ _ _ _ _ rfl rfl rfl) rfl) ?_
                    refine DOps.s 116 rfl rfl rfl (q_index_ref tok rfl rfl rfl rfl rfl rfl rfl (by rw [regCells_len, hlen]) rfl ha.1 (by have := ha.2; omega)) ?_
                    refine DOps.s 117 rfl rfl rfl (q_load tok rfl rfl rfl (.ptr _ _ _ _ _ _ _ _ rfl (by rw [regCells_len, hlen]) (rcell (by have := ha; omega))) rfl) ?_
                    refine DOps.s 118 rfl rfl rfl (q_convTo tok rfl rfl rfl rfl rfl (r := rget regs t.a) (by exact wrap_i64 (by omega) (by omega))) ?_
                    refine DOps.s 119 rfl rfl rfl (q_bin (r := .int .i64 (t.base + rget regs t.a)) rfl rfl rfl (by simp only [evalBin, evalInt, isShift, cond_false, if_true]; rw [wrap_i64 (by omega) (by omega)])) ?_
                    refine DOps.s 120 rfl rfl rfl (q_index_ref tok rfl rfl rfl rfl rfl rfl rfl (by rw [regCells_len, hm.len]) rfl hidx.1 (by have := hidx.2; omega)) ?_
                    refine DOps.s 121 rfl rfl rfl (q_load tok rfl rfl rfl (.ptr _ _ _ _ _ _ _ _ rfl (by rw [regCells_len, hm.len]) (rcell (by have := hidx; have := hm.len; omega))) rfl) ?_
                    refine DOps.s 122 rfl rfl rfl (q_index_ref tok rfl rfl rfl rfl rfl rfl rfl (by rw [regCells_len, hlen]) rfl hd.1 (by have := hd.2; omega)) ?_
                    refine DOps.w rfl rfl (o_store tok rfl rfl rfl rfl rfl rfl (by rw [regCells_len, hlen]) (rcell (by have := hd; omega)) rfl (by decide) rfl (by first | exact fun _ => rfl | (intro h; cases h))) ?_
                    refine DOps.nil (by kernel_rfl) ?_
                    refine ⟨[], trivial, rfl, ?_⟩
                    rw [mone6 ho6 hsz]
                    exact HSub.put (HSub.put (HSub.put (HSub.put (HSub.none _) rfl) rfl) rfl) (by first | rfl | exact congrArg (fun es => some (AObj.row true 1 es)) (rcell_set _ _ _) | exact congrArg (fun es => some (AObj.row true 1 es)) (rcell_set2 _ _ _ _))
                  · -- False
                    refine AGo.cond_false false rfl rfl ?_
                    have ho7 : t.op = 7 := by have h := hb12; simp at h; omega
                    have hb := ht.b (by simp [use2, ho7])
                    refine AGo.draw mix ?_
                    refine DOps.s 123 rfl rfl rfl (q_move (.inl rfl) rfl) ?_
                    refine DOps.s 124 rfl rfl rfl (q_nilCheck rfl rfl rfl) ?_
                    refine DOps.s 125 rfl rfl rfl (q_fieldAddr tok rfl rfl rfl rfl rfl rfl) ?_
                    refine DOps.s 126 rfl rfl rfl (q_load tok rfl rfl rfl (by first | exact .loc _ | exact .ptr _ _ _ _ _ _ _ _ rfl rfl rfl) rfl) ?_
                    refine DOps.s 127 rfl rfl rfl (q_fieldAddr tok rfl rfl rfl rfl rfl rfl) ?_
                    refine DOps.s 128 rfl rfl rfl (q_load tok rfl rfl rfl (by first | exact .loc _ | exact .ptr _ _ _ _ _ _ _ _ rfl rfl rfl) rfl) ?_
                    refine DOps.s 129 rfl rfl rfl (q_move (.inl rfl) rfl) ?_
                    refine DOps.s 130 rfl rfl rfl (q_fieldAddr tok rfl rfl rfl rfl rfl rfl) ?_
                    refine DOps.s 131 rfl rfl rfl (q_load tok rfl rfl rfl (by first | exact .loc _ | exact .ptr _ _ _ _ _ _ _ _ rfl rfl rfl) rfl) ?_
                    refine DOps.s 132 rfl rfl rfl (q_index_ref tok rfl rfl rfl rfl rfl rfl rfl (by rw [regCells_len, hlen]) rfl ha.1 (by have := ha.2; omega)) ?_
                    refine DOps.s 133 rfl rfl rfl (q_load tok rfl rfl rfl (.ptr _ _ _ _ _ _ _ _ rfl (by rw [regCells_len, hlen]) (rcell (by have := ha; omega))) rfl) ?_
                    refine DOps.s 134 rfl rfl rfl (q_convTo tok rfl rfl rfl rfl rfl (r := rget regs t.a) (by exact wrap_i64 (by omega) (by omega))) ?_
                    refine DOps.s 135 rfl rfl rfl (q_bin (r := .int .i64 (t.base + rget regs t.a)) rfl rfl rfl (by simp only [evalBin, evalInt, isShift, cond_false, if_true]; rw [wrap_i64 (by omega) (by omega)])) ?_
                    refine DOps.s 136 rfl rfl rfl (q_move (.inl rfl) rfl) ?_
                    refine DOps.s 137 rfl rfl rfl (q_fieldAddr tok rfl rfl rfl rfl rfl rfl) ?_
                    refine DOps.s 138 rfl rfl rfl (q_load tok rfl rfl rfl (by first | exact .loc _ | exact .ptr _ _ _ _ _ _ _ _ rfl rfl rfl) rfl) ?_
                    refine DOps.s 139 rfl rfl rfl (q_index_ref tok rfl rfl rfl rfl rfl rfl rfl (by rw [regCells_len, hlen]) rfl hb.1 (by have := hb.2; omega)) ?_
                    refine DOps.s 140 rfl rfl rfl (q_load tok rfl rfl rfl (.ptr _ _ _ _ _ _ _ _ rfl (by rw [regCells_len, hlen]) (rcell (by have := hb; omega))) rfl) ?_
                    refine DOps.s 141 rfl rfl rfl (q_index_ref tok rfl rfl rfl rfl rfl rfl rfl (by rw [regCells_len, hm.len]) rfl hidx.1 (by have := hidx.2; omega)) ?_
                    refine DOps.w rfl rfl (o_store tok rfl rfl rfl rfl rfl rfl (by rw [regCells_len, hm.len]) (rcell (by have := hidx; have := hm.len; omega)) rfl (by decide) rfl (by first | exact fun _ => rfl | (intro h; cases h))) ?_
                    refine DOps.nil (by kernel_rfl) ?_
                    refine ⟨[], trivial, rfl, ?_⟩
                    rw [mone7 ho7 hsz]
                    exact HSub.put (HSub.put (HSub.put (HSub.put (HSub.none _) rfl) (by first | rfl | exact congrArg (fun es => some (AObj.row true 1 es)) (rcell_set _ _ _) | exact congrArg (fun es => some (AObj.row true 1 es)) (rcell_set2 _ _ _ _))) rfl) rfl
              · -- False
                refine AGo.cond_false false rfl rfl ?_
                refine AGo.seq ?_
                refine AGo.region ?_
                refine AOps.s 143 rfl rfl rfl (q_bin rfl rfl rfl rfl) ?_
                refine AOps.s 142 rfl rfl rfl (q_move (.inr rfl) rfl) ?_
                refine AOps.nil ?_
                refine AGo.split 142 rfl (fun hb13 => ?_) (fun hb13 => ?_)
                · -- True
                  refine AGo.cond_true true rfl rfl ?_
                  have ho : t.op = 8 := by simpa using hb13
                  have hd := ht.d (by simp [setsOp, ho])
                  refine AGo.seq ?_
                  refine AGo.region ?_
                  refine AOps.s 144 rfl rfl rfl (q_move (.inl rfl) rfl) ?_
                  refine AOps.s 145 rfl rfl rfl (q_fieldAddr tok rfl rfl rfl rfl rfl rfl) ?_
                  refine AOps.s 146 rfl rfl rfl (q_load tok rfl rfl rfl (by first | exact .loc _ | exact .ptr _ _ _ _ _ _ _ _ rfl rfl rfl) rfl) ?_
                  refine AOps.s 147 rfl rfl rfl (q_index_ref tok rfl rfl rfl rfl rfl rfl rfl (by rw [regCells_len, hlen]) rfl hd.1 (by have := hd.2; omega)) ?_
                  refine AOps.w rfl rfl (o_store tok rfl rfl rfl rfl rfl rfl (by rw [regCells_len, hlen]) (rcell (by have := hd; omega)) rfl (by decide) rfl (by first | exact fun _ => rfl | (intro h; cases h))) ?_
                  refine AOps.nil ?_
                  refine AGo.seq ?_
                  refine AGo.draw mix ?_
                  refine DOps.s 148 rfl rfl rfl (q_move (.inl rfl) rfl) ?_
                  refine DOps.s 149 rfl rfl rfl (q_nilCheck rfl rfl rfl) ?_
                  refine DOps.s 150 rfl rfl rfl (q_fieldAddr tok rfl rfl rfl rfl rfl rfl) ?_
                  refine DOps.s 151 rfl rfl rfl (q_load tok rfl rfl rfl (by first | exact .loc _ | exact .ptr _ _ _ _ _ _ _ _ rfl rfl rfl) rfl) ?_
                  refine DOps.s 152 rfl rfl rfl (q_move (.inl rfl) rfl) ?_
                  refine DOps.s 153 rfl rfl rfl (q_nilCheck rfl rfl rfl) ?_
                  refine DOps.s 154 rfl rfl rfl (q_fieldAddr tok rfl rfl rfl rfl rfl rfl) ?_
                  refine DOps.s 155 rfl rfl rfl (q_load tok rfl rfl rfl (by first | exact .loc _ | exact .ptr _ _ _ _ _ _ _ _ rfl rfl rfl) rfl) ?_
                  refine DOps.s 156 rfl rfl rfl (q_len tok rfl rfl rfl rfl rfl) ?_
                  refine DOps.s 157 rfl rfl rfl (q_bin rfl rfl rfl rfl) ?_
                  refine DOps.nil (by kernel_rfl) ?_
                  refine AGo.split 157 rfl (fun hb14 => ?_) (fun hb14 => ?_)
                  · -- True
                    refine AGo.cond_true true rfl rfl ?_
                    have hrd : m.read < s.size := by have h := hb14; simp at h; omega
                    refine AGo.seq ?_
                    refine AGo.draw mix ?_
                    refine DOps.s 158 rfl rfl rfl (q_move (.inl rfl) rfl) ?_
                    refine DOps.s 159 rfl rfl rfl (q_fieldAddr tok rfl rfl rfl rfl rfl rfl) ?_
                    refine DOps.s 160 rfl rfl rfl (q_load tok rfl rfl rfl (by first | exact .loc _ | exact .ptr _ _ _ _ _ _ _ _ rfl rfl rfl) rfl) ?_
                    refine DOps.s 161 rfl rfl rfl (q_move (.inl rfl) rfl) ?_
                    refine DOps.s 162 rfl rfl rfl (q_nilCheck rfl rfl rfl) ?_
                    refine DOps.s 163 rfl rfl rfl (q_fieldAddr tok rfl rfl rfl rfl rfl rfl) ?_
                    refine DOps.s 164 rfl rfl rfl (q_load tok rfl rfl rfl (by first | exact .loc _ | exact .ptr _ _ _ _ _ _ _ _ rfl rfl rfl) rfl) ?_
                    refine DOps.s 165 rfl rfl rfl (q_move (.inl rfl) rfl) ?_
                    refine DOps.s 166 rfl rfl rfl (q_nilCheck rfl rfl rfl) ?_
                    refine DOps.s 167 rfl rfl rfl (q_fieldAddr tok rfl rfl rfl rfl rfl rfl) ?_
                    refine DOps.s 168 rfl rfl rfl (q_load tok rfl rfl rfl (by first | exact .loc _ | exact .ptr _ _ _ _ _ _ _ _ rfl rfl rfl) rfl) ?_
                    refine DOps.s 169 rfl rfl rfl (q_index_str (c := inAt s m.read) tok rfl rfl rfl rfl rfl (Int.natCast_nonneg _) (inAt_get hrd)) ?_
                    refine DOps.s 170 rfl rfl rfl (q_convTo tok rfl rfl rfl rfl rfl (r := ((inAt s m.read).toNat : Int)) (by rw [IntKind.wrap_u32]; have := (byte_w (inAt s m.read)).2; omega)) ?_
                    refine DOps.s 171 rfl rfl rfl (q_index_ref tok rfl rfl rfl rfl rfl rfl rfl (by rw [List.length_set, regCells_len, hlen]) rfl hd.1 (by have := hd.2; omega)) ?_
                    refine DOps.w rfl rfl (o_store tok rfl rfl rfl rfl rfl rfl (by rw [List.length_set, regCells_len, hlen]) (get_set_self (rcell (by have := hd; omega))) rfl (by decide) rfl (by first | exact fun _ => rfl | (intro h; cases h))) ?_
                    refine DOps.nil (by kernel_rfl) ?_
                    refine AGo.region ?_
                    refine AOps.s 172 rfl rfl rfl (q_move (.inl rfl) rfl) ?_
                    refine AOps.s 173 rfl rfl rfl (q_nilCheck rfl rfl rfl) ?_
                    refine AOps.s 174 rfl rfl rfl (q_fieldAddr tok rfl rfl rfl rfl rfl rfl) ?_
                    refine AOps.s 175 rfl rfl rfl (q_load tok rfl rfl rfl (by first | exact .loc _ | exact .ptr _ _ _ _ _ _ _ _ rfl rfl rfl) rfl) ?_
                    refine AOps.s 176 rfl rfl rfl (q_inc rfl rfl hrd (by simp only [maxLen]; omega)) ?_
                    refine AOps.s 177 rfl rfl rfl (q_nilCheck rfl rfl rfl) ?_
                    refine AOps.s 178 rfl rfl rfl (q_fieldAddr tok rfl rfl rfl rfl rfl rfl) ?_
                    refine AOps.w rfl rfl (o_store tok rfl rfl rfl rfl rfl rfl rfl rfl rfl (by decide) rfl (by first | exact fun _ => rfl | (intro h; cases h))) ?_
                    refine AOps.nil ?_
                    refine ⟨[], trivial, rfl, ?_⟩
                    rw [mone8 ho hrd]
                    exact HSub.put (HSub.put (HSub.put (HSub.put (HSub.none _) rfl) rfl) rfl) (by first | rfl | exact congrArg (fun es => some (AObj.row true 1 es)) (rcell_set _ _ _) | exact congrArg (fun es => some (AObj.row true 1 es)) (rcell_set2 _ _ _ _))
                  · -- False
                    refine AGo.cond_false false rfl rfl ?_
                    have hrd : ¬ m.read < s.size := by have h := hb14; simp at h; omega
                    refine AGo.skip ?_
                    refine ⟨[], trivial, rfl, ?_⟩
                    rw [mone8z ho hrd]
                    exact HSub.put (HSub.put (HSub.put (HSub.put (HSub.none _) rfl) rfl) rfl) (by first | rfl | exact congrArg (fun es => some (AObj.row true 1 es)) (rcell_set _ _ _) | exact congrArg (fun es => some (AObj.row true 1 es)) (rcell_set2 _ _ _ _))
                · -- False
                  refine AGo.cond_false false rfl rfl ?_
                  refine AGo.seq ?_
                  refine AGo.region ?_
                  refine AOps.s 180 rfl rfl rfl (q_bin rfl rfl rfl rfl) ?_
                  refine AOps.s 179 rfl rfl rfl (q_move (.inr rfl) rfl) ?_
                  refine AOps.nil ?_
                  refine AGo.split 179 rfl (fun hb15 => ?_) (fun hb15 => ?_)
                  · -- True
                    refine AGo.cond_true true rfl rfl ?_
                    have ho : t.op = 9 := by simpa using hb15
                    have ha := ht.a (by simp [use1, use2, ho])
                    have hwa := rget_w hr t.a
                    have hwa1 := hwa.1
                    have hwa2 := hwa.2
                    refine AGo.seq ?_
                    refine AGo.seq ?_
                    refine AGo.region ?_
                    refine AOps.s 181 rfl rfl rfl (q_move (.inl rfl) rfl) ?_
                    refine AOps.s 182 rfl rfl rfl (q_nilCheck rfl rfl rfl) ?_
                    refine AOps.s 183 rfl rfl rfl (q_fieldAddr tok rfl rfl rfl rfl rfl rfl) ?_
                    refine AOps.s 184 rfl rfl rfl (q_load tok rfl rfl rfl (by first | exact .loc _ | exact .ptr _ _ _ _ _ _ _ _ rfl rfl rfl) rfl) ?_
                    refine AOps.s 185 rfl rfl rfl (q_len tok rfl rfl rfl rfl rfl) ?_
                    refine AOps.s 186 rfl rfl rfl (q_bin rfl rfl rfl rfl) ?_
                    refine AOps.nil ?_
                    refine AGo.split 186 rfl (fun hb16 => ?_) (fun hb16 => ?_)
                    · -- True
                      refine AGo.cond_true true rfl rfl ?_
                      have hou : m.out.length ≥ 65536 := by have h := hb16; simp [byteCells] at h; omega
                      refine AGo.seq ?_
                      refine AGo.region ?_
                      refine AOps.s 187 rfl rfl rfl (q_move (.inl rfl) rfl) ?_
                      refine AOps.s 188 rfl rfl rfl (q_nilCheck rfl rfl rfl) ?_
                      refine AOps.s 189 rfl rfl rfl (q_fieldAddr tok rfl rfl rfl rfl rfl rfl) ?_
                      refine AOps.w rfl rfl (o_store tok rfl rfl rfl rfl rfl rfl rfl rfl rfl (by decide) rfl (by first | exact fun _ => rfl | (intro h; cases h))) ?_
                      refine AOps.nil ?_
                      refine AGo.ret ?_
                      refine ⟨[], trivial, rfl, ?_⟩
                      rw [mone9z ho hou]
                      exact HSub.put (HSub.put (HSub.put (HSub.put (HSub.none _) rfl) rfl) rfl) rfl
                    · -- False
                      refine AGo.cond_false false rfl rfl ?_
                      have hou : ¬ m.out.length ≥ 65536 := by have h := hb16; simp [byteCells] at h; omega
                      refine AGo.skip ?_
                      refine AGo.draw mix ?_
                      refine DOps.s 190 rfl rfl rfl (q_move (.inl rfl) rfl) ?_
                      refine DOps.s 191 rfl rfl rfl (q_move (.inl rfl) rfl) ?_
                      refine DOps.s 192 rfl rfl rfl (q_nilCheck rfl rfl rfl) ?_
                      refine DOps.s 193 rfl rfl rfl (q_fieldAddr tok rfl rfl rfl rfl rfl rfl) ?_
                      refine DOps.s 194 rfl rfl rfl (q_load tok rfl rfl rfl (by first | exact .loc _ | exact .ptr _ _ _ _ _ _ _ _ rfl rfl rfl) rfl) ?_
                      refine DOps.s 195 rfl rfl rfl (q_move (.inl rfl) rfl) ?_
                      refine DOps.s 196 rfl rfl rfl (q_fieldAddr tok rfl rfl rfl rfl rfl rfl) ?_
                      refine DOps.s 197 rfl rfl rfl (q_load tok rfl rfl rfl (by first | exact .loc _ | exact .ptr _ _ _ _ _ _ _ _ rfl rfl rfl) rfl) ?_
                      refine DOps.s 198 rfl rfl rfl (q_index_ref tok rfl rfl rfl rfl rfl rfl rfl (by rw [regCells_len, hlen]) rfl ha.1 (by have := ha.2; omega)) ?_
                      refine DOps.s 199 rfl rfl rfl (q_load tok rfl rfl rfl (.ptr _ _ _ _ _ _ _ _ rfl (by rw [regCells_len, hlen]) (rcell (by have := ha; omega))) rfl) ?_
                      refine DOps.s 200 rfl rfl rfl (q_convTo tok rfl rfl rfl rfl rfl (wrap_byte hwa)) ?_
                      refine DOps.x 201 rfl rfl rfl (o_lit' tok rfl rfl rfl rfl rfl rfl (by decide) rfl rfl rfl rfl rfl rfl) ?_
                      refine DOps.x 202 rfl rfl rfl (o_append tok (n := m.out.length) (m := 1) rfl rfl rfl rfl rfl rfl rfl rfl rfl (by simp [byteCells]) rfl rfl (Nat.zero_lt_succ _) (.lst _ _) (by intro cs h; simp [partVals] at h; subst h; rfl) (fun _ cs h => by simp [partVals] at h; subst h; rfl) rfl (by simp [byteCells, partVals]; have := hm.out; omega) (by simp [byteCells, partVals]; simp only [maxLen]; have := hm.out; omega)) ?_
                      refine DOps.s 203 rfl rfl rfl (q_nilCheck rfl rfl rfl) ?_
                      refine DOps.s 204 rfl rfl rfl (q_fieldAddr tok rfl rfl rfl rfl rfl rfl) ?_
                      refine DOps.w rfl rfl (o_store tok rfl rfl rfl rfl rfl rfl rfl rfl rfl (by decide) rfl (by first | exact fun _ => rfl | (intro h; cases h))) ?_
                      refine DOps.nil (by kernel_rfl) ?_
                      refine ⟨[], trivial, rfl, ?_⟩
                      rw [mone9 ho hou]
                      exact HSub.put (HSub.put (HSub.put (HSub.put (HSub.none _) (by first | rfl | exact congrArg (fun n => some (AObj.row false 9 [[.int .i64 b.words, funcsAV b.funcs, .str s, .int .i64 fuel, .ref 1 b.words.toNat 0 b.words.toNat, .ref 2 n 0 n, .int .i64 (m.read : Int), .int .i64 (m.steps : Int), .int .i64 m.fin]])) (by simp))) rfl) (by first | rfl | exact congrArg (fun es => some (AObj.row true 1 es)) (by simp [byteCells, partVals]; rfl))) rfl
                  · -- False
                    refine AGo.cond_false false rfl rfl ?_
                    refine AGo.seq ?_
                    refine AGo.region ?_
                    refine AOps.s 206 rfl rfl rfl (q_bin rfl rfl rfl rfl) ?_
                    refine AOps.s 205 rfl rfl rfl (q_move (.inr rfl) rfl) ?_
                    refine AOps.nil ?_
                    refine AGo.split 205 rfl (fun hb17 => ?_) (fun hb17 => ?_)
                    · -- True
                      refine AGo.cond_true true rfl rfl ?_
                      have ho : t.op = 10 := by simpa using hb17
                      have hcl := ht.call ho
                      refine AGo.region ?_
                      refine AOps.s 207 rfl rfl rfl (q_move (.inl rfl) rfl) ?_
                      refine AOps.s 208 rfl rfl rfl (q_fieldAddr tok rfl rfl rfl rfl rfl rfl) ?_
                      refine AOps.s 209 rfl rfl rfl (q_load tok rfl rfl rfl (by first | exact .loc _ | exact .ptr _ _ _ _ _ _ _ _ rfl rfl rfl) rfl) ?_
                      refine AOps.x 210 rfl rfl rfl (o_call (hc := (mheap hNew b s fuel m)) (hw := (mheap hNone b s fuel (call t.base m))) [2, 1, 0] [(0, (.row false 9 [runCells b s fuel (call t.base m)])), (1, (.row true 1 (regCells ((call t.base m)).words))), (2, (.row true 1 (byteCells ((call t.base m)).out)))] rfl Try.func29 (by kernel_rfl) rfl rfl rfl ⟨⟨_, rfl, rfl⟩, ⟨_, rfl, rfl⟩, ⟨_, rfl, rfl⟩, trivial⟩ rfl (hres_cons rfl (hres_cons rfl (hres_cons rfl (hres_nil _)))) ⟨⟨_, rfl, rfl, rfl⟩, ⟨_, rfl, rfl, rfl⟩, ⟨_, rfl, rfl, rfl⟩, trivial⟩ rfl (hcall t.base hcl.1 hcl.2)) ?_
                      refine AOps.nil ?_
                      refine ⟨[], trivial, rfl, ?_⟩
                      rw [mone10 ho]
                      exact HSub.put (HSub.put (HSub.put (HSub.put (HSub.none _) rfl) rfl) rfl) rfl
                    · -- False
                      refine AGo.cond_false false rfl rfl ?_
                      refine AGo.skip ?_
                      exact absurd ht.op (by simp_all; omega)

end Go.Proofs.Ytophfphgcbnafaa.Sv

namespace Go.Proofs.Ytophfphgcbnafaa.Sv
open Go
set_option linter.unusedVariables false
set_option linter.unusedSimpArgs false

set_option maxRecDepth 100000 in
theorem fun_step (b : Blocks) (s : ByteArray) (fuel : Int) (call : Int → Mach → Mach) (i : Int) (f : BFunc) (m : Mach) (hfu : fuel ≤ 9223372036854775807) (hs : s.size ≤ 9223372036854775807) (hbw : b.words ≤ 1048576) (hf : b.funcs[i.toNat]? = some f) (hi : 0 ≤ i) (hone : f.one i b.words = true)
    (hfw : ∀ x ∈ f.blocks, insW x.ins) (hfl : ∀ x ∈ f.blocks, x.ins.length ≤ maxLen)
    (hcall : ∀ (j : Int) (m : Mach), 0 ≤ j → j < i → m.fin = 0 → m.good b.words.toNat → ACall Try.prog 29 [.ptr 0 1 0 0, .int .i64 j] (mheap hNew b s fuel m) (fun r h' => r = .tup [] ∧ HSub (mheap hNone b s fuel (call j m)) h'))
    (hcg : ∀ i m, m.good b.words.toNat → (call i m).good b.words.toNat) (hcs : ∀ i m, m.steps ≤ (call i m).steps) (hm : m.good b.words.toNat) (h0 : m.fin = 0) : ACall Try.prog 29 [.ptr 0 1 0 0, .int .i64 i] (mheap hNew b s fuel m) (fun r h' => r = .tup [] ∧ HSub (mheap hNone b s fuel (mblk call s fuel f (fuel.toNat + 1) 0 (List.replicate f.regs.toNat 0) m)) h') := by
  have hsp := one_spec hone
  refine ACall.of_body (n := 76) tok Try.func29 rfl rfl ?_
  refine AGo.seq ?_
  refine AGo.region ?_
  refine AOps.s 9 rfl rfl rfl (q_move (.inl rfl) rfl) ?_
  refine AOps.s 10 rfl rfl rfl (q_nilCheck rfl rfl rfl) ?_
  refine AOps.s 11 rfl rfl rfl (q_fieldAddr tok rfl rfl rfl rfl rfl rfl) ?_
  refine AOps.s 12 rfl rfl rfl (q_fieldAddr tok rfl rfl rfl rfl rfl rfl) ?_
  refine AOps.s 13 rfl rfl rfl (q_load tok rfl rfl rfl (by first | exact .loc _ | exact .ptr _ _ _ _ _ _ _ _ rfl rfl rfl) rfl) ?_
  refine AOps.s 14 rfl rfl rfl (q_move (.inl rfl) rfl) ?_
  refine AOps.s 15 rfl rfl rfl (q_index_lst tok rfl rfl rfl rfl rfl rfl hi (idx_map2 hf) rfl) ?_
  refine AOps.s 16 rfl rfl rfl (q_load tok rfl rfl rfl (by first | exact .loc _ | exact .ptr _ _ _ _ _ _ _ _ rfl rfl rfl) rfl) ?_
  refine AOps.x 4 rfl rfl rfl (o_alloc tok 3 rfl rfl rfl rfl (Nat.zero_lt_succ _) rfl) ?_
  refine AOps.w rfl rfl (o_store tok rfl rfl rfl rfl rfl rfl rfl rfl rfl (by decide) rfl (by first | exact fun _ => rfl | (intro h; cases h))) ?_
  refine AOps.nil ?_
  refine AGo.seq ?_
  refine AGo.region ?_
  refine AOps.s 17 rfl rfl rfl (q_fieldAddr tok rfl rfl rfl rfl rfl rfl) ?_
  refine AOps.s 18 rfl rfl rfl (q_load tok rfl rfl rfl (by first | exact .loc _ | exact .ptr _ _ _ _ _ _ _ _ rfl rfl rfl) rfl) ?_
  refine AOps.x 19 rfl rfl rfl (o_makeSlice tok (n := f.regs.toNat) (m := f.regs.toNat) 4 true rfl rfl rfl (by have := hsp.1; omega) (by have := hsp.1; omega) rfl rfl rfl rfl rfl (Nat.zero_lt_succ _) rfl (Nat.le_refl _) (by show 4 * f.regs.toNat ≤ _; have := hsp.2.1; omega) (by simp only [maxLen]; have := hsp.2.1; omega)) ?_
  refine AOps.s 5 rfl rfl rfl (q_move (.inr rfl) rfl) ?_
  refine AOps.nil ?_
  refine AGo.seq ?_
  refine AGo.region ?_
  refine AOps.s 6 rfl rfl rfl (q_move (.inr rfl) rfl) ?_
  refine AOps.nil ?_
  refine AGo.block ?_
  refine AGo.loopD (γ := FG) 5 (fun q => ⟨76, (eput (eput (eput (eput eNew 0 (.ptr 0 1 0 0)) 4 (.ptr 3 1 0 0)) 5 (.ref 4 f.regs.toNat 0 f.regs.toNat)) 6 (.int .i64 q.i)), (hput (hput (hput (hput (hput (hFrom 5) 0 (.row false 9 [runCells b s fuel q.m])) 1 (.row true 1 (regCells (q.m).words))) 2 (.row true 1 (byteCells (q.m).out))) 3 (.row false 2 [f.cells])) 4 (.row true 1 (regCells q.regs)))⟩) (fun q => FInv call s fuel f b.words.toNat f.regs.toNat (mblk call s fuel f (fuel.toNat + 1) 0 (List.replicate f.regs.toNat 0) m) q) (fun q => q.g) ⟨0, List.replicate f.regs.toNat 0, m, fuel.toNat + 1⟩ (Sub.mk' (by repeat (first | exact ESub.new _ | refine ESub.put ?_ (by rfl))) (by repeat (first | exact HSub.none _ | exact HSub.from_new _ | exact HSub.from_from (by decide) | refine HSub.put ?_ (by first | rfl | exact congrArg (fun es => some (AObj.row true 1 es)) (regCells_rep _)) | refine HSub.from_put ?_ (by decide) | refine HSub.from_rm ?_ (by decide)))) (FInv.first hm h0 hsp.2.2.1) (fun _ => hput_free (hput_free (hput_free (hput_free (hput_free (fun b hb => hFrom_free hb) rfl) rfl) rfl) rfl) rfl) ?_
  intro q hF
  refine AGo.seq ?_
  refine AGo.seq ?_
  refine AGo.region ?_
  refine AOps.s 20 rfl rfl rfl (q_move (.inl rfl) rfl) ?_
  refine AOps.s 21 rfl rfl rfl (q_nilCheck rfl rfl rfl) ?_
  refine AOps.s 22 rfl rfl rfl (q_fieldAddr tok rfl rfl rfl rfl rfl rfl) ?_
  refine AOps.s 23 rfl rfl rfl (q_load tok rfl rfl rfl (by first | exact .loc _ | exact .ptr _ _ _ _ _ _ _ _ rfl rfl rfl) rfl) ?_
  refine AOps.s 24 rfl rfl rfl (q_bin rfl rfl rfl rfl) ?_
  refine AOps.nil ?_
  refine AGo.split 24 rfl (fun hb1 => ?_) (fun hb1 => ?_)
  · -- True
    refine AGo.cond_true true rfl rfl ?_
    obtain ⟨k, hk⟩ := get_of_lt (l := f.blocks) (k := q.i.toNat) (by have := hF.i; omega)
    have hkm := List.mem_of_getElem? hk
    have hks := hsp.2.2.2 k hkm
    refine AGo.skip ?_
    refine AGo.block ?_
    refine AGo.seq ?_
    refine AGo.region ?_
    refine AOps.s 25 rfl rfl rfl (q_fieldAddr tok rfl rfl rfl rfl rfl rfl) ?_
    refine AOps.s 26 rfl rfl rfl (q_load tok rfl rfl rfl (by first | exact .loc _ | exact .ptr _ _ _ _ _ _ _ _ rfl rfl rfl) rfl) ?_
    refine AOps.s 27 rfl rfl rfl (q_move (.inl rfl) rfl) ?_
    refine AOps.s 28 rfl rfl rfl (q_index_lst tok rfl rfl rfl rfl rfl rfl hF.i.1 (idx_map2 hk) rfl) ?_
    refine AOps.s 29 rfl rfl rfl (q_load tok rfl rfl rfl (by first | exact .loc _ | exact .ptr _ _ _ _ _ _ _ _ rfl rfl rfl) rfl) ?_
    refine AOps.x 7 rfl rfl rfl (o_alloc tok 5 rfl rfl rfl rfl (Nat.zero_lt_succ _) rfl) ?_
    refine AOps.w rfl rfl (o_store tok rfl rfl rfl rfl rfl rfl rfl rfl rfl (by decide) rfl (by first | exact fun _ => rfl | (intro h; cases h))) ?_
    refine AOps.nil ?_
    refine AGo.seq ?_
    refine AGo.seq ?_
    refine AGo.region ?_
    refine AOps.s 8 rfl rfl rfl (q_move (.inr rfl) rfl) ?_
    refine AOps.nil ?_
    refine AGo.block ?_
    refine AGo.loopD (γ := IG) 6 (fun r => ⟨76, (eput (eput (eput (eput (eput (eput eNew 0 (.ptr 0 1 0 0)) 4 (.ptr 3 1 0 0)) 5 (.ref 4 f.regs.toNat 0 f.regs.toNat)) 6 (.int .i64 q.i)) 7 (.ptr 5 1 0 0)) 8 (.int .i64 (r.j : Int))), (hput (hput (hput (hput (hput (hput (hFrom 6) 0 (.row false 9 [runCells b s fuel r.m])) 1 (.row true 1 (regCells (r.m).words))) 2 (.row true 1 (byteCells (r.m).out))) 3 (.row false 2 [f.cells])) 4 (.row true 1 (regCells r.regs))) 5 (.row false 5 [k.cells]))⟩) (fun r => IInv call s fuel k q b.words.toNat f.regs.toNat r) (fun r => k.ins.length - r.j) ⟨0, q.regs, q.m⟩ (Sub.mk' (by repeat (first | exact ESub.new _ | refine ESub.put ?_ (by rfl))) (by repeat (first | exact HSub.none _ | exact HSub.from_new _ | exact HSub.from_from (by decide) | refine HSub.put ?_ (by rfl) | refine HSub.from_put ?_ (by decide) | refine HSub.from_rm ?_ (by decide)))) hF.start (fun _ => hput_free (hput_free (hput_free (hput_free (hput_free (hput_free (fun b hb => hFrom_free hb) rfl) rfl) rfl) rfl) rfl) rfl) ?_
    intro r hI
    refine AGo.seq ?_
    refine AGo.seq ?_
    refine AGo.region ?_
    refine AOps.s 30 rfl rfl rfl (q_move (.inl rfl) rfl) ?_
    refine AOps.s 31 rfl rfl rfl (q_fieldAddr tok rfl rfl rfl rfl rfl rfl) ?_
    refine AOps.s 32 rfl rfl rfl (q_load tok rfl rfl rfl (by first | exact .loc _ | exact .ptr _ _ _ _ _ _ _ _ rfl rfl rfl) rfl) ?_
    refine AOps.s 33 rfl rfl rfl (q_len tok rfl rfl rfl rfl rfl) ?_
    refine AOps.s 34 rfl rfl rfl (q_bin rfl rfl rfl rfl) ?_
    refine AOps.nil ?_
    refine AGo.split 34 rfl (fun hb2 => ?_) (fun hb2 => ?_)
    · -- True
      refine AGo.cond_true true rfl rfl ?_
      have hjl : r.j < k.ins.length := lt_of_idx hb2
      obtain ⟨u, hu⟩ := get_of_lt hjl
      have hum := List.mem_of_getElem? hu
      have hut := tacIn_of (hks.2 u hum)
      have huw := hfw k hkm u hum
      refine AGo.skip ?_
      refine AGo.seq ?_
      refine AGo.block ?_
      refine AGo.seq ?_
      refine AGo.seq ?_
      refine AGo.region ?_
      refine AOps.s 37 rfl rfl rfl (q_move (.inl rfl) rfl) ?_
      refine AOps.x 38 rfl rfl rfl (o_call (hc := (mheap hNew b s fuel r.m)) (hw := (mheap hNone b s fuel (mstep fuel r.m).2)) [2, 1, 0] [(0, (.row false 9 [runCells b s fuel (mstep fuel r.m).2])), (1, (.row true 1 (regCells ((mstep fuel r.m).2).words))), (2, (.row true 1 (byteCells ((mstep fuel r.m).2).out)))] rfl Try.func41 (by kernel_rfl) rfl rfl rfl ⟨⟨_, rfl, rfl⟩, ⟨_, rfl, rfl⟩, ⟨_, rfl, rfl⟩, trivial⟩ rfl (hres_cons rfl (hres_cons rfl (hres_cons rfl (hres_nil _)))) ⟨⟨_, rfl, rfl, rfl⟩, ⟨_, rfl, rfl, rfl⟩, ⟨_, rfl, rfl, rfl⟩, trivial⟩ rfl (step_ok b s fuel r.m hfu)) ?_
      refine AOps.s 39 rfl rfl rfl (q_not rfl rfl) ?_
      refine AOps.nil ?_
      refine AGo.split 39 rfl (fun hb3 => ?_) (fun hb3 => ?_)
      · -- True
        refine AGo.cond_true true rfl rfl ?_
        have hst : (mstep fuel r.m).1 = false := by simpa using hb3
        refine AGo.ret ?_
        refine ⟨[], trivial, rfl, ?_⟩
        rw [show (mblk call s fuel f (fuel.toNat + 1) 0 (List.replicate f.regs.toNat 0) m) = _ from fin_A hF hk hI hu hst]
        exact HSub.put (HSub.put (HSub.put (HSub.none _) rfl) rfl) rfl
      · -- False
        refine AGo.cond_false false rfl rfl ?_
        have hst : (mstep fuel r.m).1 = true := by simpa using hb3
        have hsf : (mstep fuel r.m).2.fin = 0 := by rw [(mstep_true hst).2]; exact hI.fin
        refine AGo.skip ?_
        refine AGo.seq ?_
        refine AGo.region ?_
        refine AOps.s 40 rfl rfl rfl (q_move (.inl rfl) rfl) ?_
        refine AOps.s 41 rfl rfl rfl (q_fieldAddr tok rfl rfl rfl rfl rfl rfl) ?_
        refine AOps.s 42 rfl rfl rfl (q_load tok rfl rfl rfl (by first | exact .loc _ | exact .ptr _ _ _ _ _ _ _ _ rfl rfl rfl) rfl) ?_
        refine AOps.s 43 rfl rfl rfl (q_move (.inl rfl) rfl) ?_
        refine AOps.s 44 rfl rfl rfl (q_index_lst tok rfl rfl rfl rfl rfl rfl (Int.natCast_nonneg _) (idx_map (by assumption)) rfl) ?_
        refine AOps.s 45 rfl rfl rfl (q_load tok rfl rfl rfl (by first | exact .loc _ | exact .ptr _ _ _ _ _ _ _ _ rfl rfl rfl) rfl) ?_
        refine AOps.s 46 rfl rfl rfl (q_move (.inl rfl) rfl) ?_
        refine AOps.x 47 rfl rfl rfl (o_call (hc := (hput (mheap hNew b s fuel (mstep fuel r.m).2) 4 (.row true 1 (regCells r.regs)))) (hw := (hput (mheap hNone b s fuel (mone call s u r.regs (mstep fuel r.m).2).2) 4 (.row true 1 (regCells (mone call s u r.regs (mstep fuel r.m).2).1)))) [4, 2, 1, 0] [(0, (.row false 9 [runCells b s fuel (mone call s u r.regs (mstep fuel r.m).2).2])), (1, (.row true 1 (regCells ((mone call s u r.regs (mstep fuel r.m).2).2).words))), (2, (.row true 1 (byteCells ((mone call s u r.regs (mstep fuel r.m).2).2).out))), (4, (.row true 1 (regCells (mone call s u r.regs (mstep fuel r.m).2).1)))] rfl Try.func42 (by kernel_rfl) rfl rfl rfl ⟨⟨_, rfl, rfl⟩, ⟨_, rfl, rfl⟩, ⟨_, rfl, rfl⟩, ⟨_, rfl, rfl⟩, trivial⟩ rfl (hres_cons rfl (hres_cons rfl (hres_cons rfl (hres_cons rfl (hres_nil _))))) ⟨⟨_, rfl, rfl, rfl⟩, ⟨_, rfl, rfl, rfl⟩, ⟨_, rfl, rfl, rfl⟩, ⟨_, rfl, rfl, rfl⟩, trivial⟩ rfl (one_okR b s fuel call u r.regs (mstep fuel r.m).2 i.toNat f.regs.toNat hut hI.regs hI.len (mstep_good hI.good) hsf hbw hs huw (fun j h1 h2 => hcall j _ h1 (by omega) hsf (mstep_good hI.good)))) ?_
        refine AOps.nil ?_
        refine AGo.seq ?_
        refine AGo.region ?_
        refine AOps.s 48 rfl rfl rfl (q_move (.inl rfl) rfl) ?_
        refine AOps.s 49 rfl rfl rfl (q_nilCheck rfl rfl rfl) ?_
        refine AOps.s 50 rfl rfl rfl (q_fieldAddr tok rfl rfl rfl rfl rfl rfl) ?_
        refine AOps.s 51 rfl rfl rfl (q_load tok rfl rfl rfl (by first | exact .loc _ | exact .ptr _ _ _ _ _ _ _ _ rfl rfl rfl) rfl) ?_
        refine AOps.s 52 rfl rfl rfl (q_bin rfl rfl rfl rfl) ?_
        refine AOps.nil ?_
        refine AGo.split 52 rfl (fun hb4 => ?_) (fun hb4 => ?_)
        · -- True
          refine AGo.cond_true true rfl rfl ?_
          have hnz := hb4
          refine AGo.ret ?_
          refine ⟨[], trivial, rfl, ?_⟩
          rw [show (mblk call s fuel f (fuel.toNat + 1) 0 (List.replicate f.regs.toNat 0) m) = _ from fin_B hF hk hI hu hst hnz]
          exact HSub.put (HSub.put (HSub.put (HSub.none _) rfl) rfl) rfl
        · -- False
          refine AGo.cond_false false rfl rfl ?_
          have hnz := hb4
          refine AGo.skip ?_
          refine AGo.region ?_
          refine AOps.s 35 rfl rfl rfl (q_move (.inl rfl) rfl) ?_
          refine AOps.s 36 rfl rfl rfl (q_inc rfl rfl hjl (hfl k hkm)) ?_
          refine AOps.s 8 rfl rfl rfl (q_move (.inr rfl) rfl) ?_
          refine AOps.nil ?_
          exact ⟨⟨r.j + 1, (mone call s u r.regs (mstep fuel r.m).2).1, (mone call s u r.regs (mstep fuel r.m).2).2⟩, Drop.mk' (by repeat (first | exact EDrop.new _ _ | refine EDrop.put ?_ (by rfl) rfl)) (by repeat (first | exact HDrop.none _ _ | exact HDrop.tail _ _ | refine HDrop.put ?_ (by rfl) rfl rfl)), (hI.next hcg hcs hu huw hst hnz), (by show k.ins.length - (r.j + 1) < k.ins.length - r.j; omega)⟩
    · -- False
      refine AGo.cond_false false rfl rfl ?_
      have hge := ge_of_idx hb2
      refine AGo.exit ?_
      refine AGo.seq ?_
      refine AGo.seq ?_
      refine AGo.region ?_
      refine AOps.s 53 rfl rfl rfl (q_move (.inl rfl) rfl) ?_
      refine AOps.x 54 rfl rfl rfl (o_call (hc := (mheap hNew b s fuel r.m)) (hw := (mheap hNone b s fuel (mstep fuel r.m).2)) [2, 1, 0] [(0, (.row false 9 [runCells b s fuel (mstep fuel r.m).2])), (1, (.row true 1 (regCells ((mstep fuel r.m).2).words))), (2, (.row true 1 (byteCells ((mstep fuel r.m).2).out)))] rfl Try.func41 (by kernel_rfl) rfl rfl rfl ⟨⟨_, rfl, rfl⟩, ⟨_, rfl, rfl⟩, ⟨_, rfl, rfl⟩, trivial⟩ rfl (hres_cons rfl (hres_cons rfl (hres_cons rfl (hres_nil _)))) ⟨⟨_, rfl, rfl, rfl⟩, ⟨_, rfl, rfl, rfl⟩, ⟨_, rfl, rfl, rfl⟩, trivial⟩ rfl (step_ok b s fuel r.m hfu)) ?_
      refine AOps.s 55 rfl rfl rfl (q_not rfl rfl) ?_
      refine AOps.s 56 rfl rfl rfl (q_move (.inl rfl) rfl) ?_
      refine AOps.split 56 rfl (fun hb5 => ?_) (fun hb5 => ?_)
      · -- True
        refine AOps.k 57 rfl rfl rfl ?_
        refine AOps.k 58 rfl rfl rfl ?_
        refine AOps.k 59 rfl rfl rfl ?_
        refine AOps.s 60 rfl rfl rfl (q_pick_true true rfl rfl rfl rfl) ?_
        refine AOps.nil ?_
        refine AGo.cond_true true rfl rfl ?_
        refine AGo.ret ?_
        refine ⟨[], trivial, rfl, ?_⟩
        rw [show (mblk call s fuel f (fuel.toNat + 1) 0 (List.replicate f.regs.toNat 0) m) = _ from fin_C hF hk hI hge (by first | exact .inl (by simpa using ‹(!(mstep fuel r.m).1) = true›) | exact .inr ‹_›)]
        exact HSub.put (HSub.put (HSub.put (HSub.none _) rfl) rfl) rfl
      · -- False
        have hst : (mstep fuel r.m).1 = true := by simpa using hb5
        refine AOps.s 57 rfl rfl rfl (q_fieldAddr tok rfl rfl rfl rfl rfl rfl) ?_
        refine AOps.s 58 rfl rfl rfl (q_load tok rfl rfl rfl (by first | exact .loc _ | exact .ptr _ _ _ _ _ _ _ _ rfl rfl rfl) rfl) ?_
        refine AOps.s 59 rfl rfl rfl (q_bin rfl rfl rfl rfl) ?_
        refine AOps.s 60 rfl rfl rfl (q_pick_false false rfl rfl rfl rfl) ?_
        refine AOps.nil ?_
        refine AGo.split 60 rfl (fun hb6 => ?_) (fun hb6 => ?_)
        · -- True
          refine AGo.cond_true true rfl rfl ?_
          refine AGo.ret ?_
          refine ⟨[], trivial, rfl, ?_⟩
          rw [show (mblk call s fuel f (fuel.toNat + 1) 0 (List.replicate f.regs.toNat 0) m) = _ from fin_C hF hk hI hge (by first | exact .inl (by simpa using ‹(!(mstep fuel r.m).1) = true›) | exact .inr ‹_›)]
          exact HSub.put (HSub.put (HSub.put (HSub.none _) rfl) rfl) rfl
        · -- False
          refine AGo.cond_false false rfl rfl ?_
          refine AGo.skip ?_
          refine AGo.seq ?_
          refine AGo.region ?_
          refine AOps.s 61 rfl rfl rfl (q_fieldAddr tok rfl rfl rfl rfl rfl rfl) ?_
          refine AOps.s 62 rfl rfl rfl (q_load tok rfl rfl rfl (by first | exact .loc _ | exact .ptr _ _ _ _ _ _ _ _ rfl rfl rfl) rfl) ?_
          refine AOps.s 6 rfl rfl rfl (q_move (.inr rfl) rfl) ?_
          refine AOps.nil ?_
          refine AGo.seq ?_
          refine AGo.region ?_
          refine AOps.s 63 rfl rfl rfl (q_fieldAddr tok rfl rfl rfl rfl rfl rfl) ?_
          refine AOps.s 64 rfl rfl rfl (q_load tok rfl rfl rfl (by first | exact .loc _ | exact .ptr _ _ _ _ _ _ _ _ rfl rfl rfl) rfl) ?_
          refine AOps.s 65 rfl rfl rfl (q_bin rfl rfl rfl rfl) ?_
          refine AOps.s 66 rfl rfl rfl (q_move (.inl rfl) rfl) ?_
          refine AOps.split 66 rfl (fun hb7 => ?_) (fun hb7 => ?_)
          · -- True
            have hv := ends_v hks.1 hb7
            refine AOps.s 67 rfl rfl rfl (q_move (.inl rfl) rfl) ?_
            refine AOps.s 68 rfl rfl rfl (q_fieldAddr tok rfl rfl rfl rfl rfl rfl) ?_
            refine AOps.s 69 rfl rfl rfl (q_load tok rfl rfl rfl (by first | exact .loc _ | exact .ptr _ _ _ _ _ _ _ _ rfl rfl rfl) rfl) ?_
            refine AOps.s 70 rfl rfl rfl (q_index_ref tok rfl rfl rfl rfl rfl rfl rfl (by rw [regCells_len, hI.len]) rfl hv.1 (by have := hv.2; omega)) ?_
            refine AOps.s 71 rfl rfl rfl (q_load tok rfl rfl rfl (.ptr _ _ _ _ _ _ _ _ rfl (by rw [regCells_len, hI.len]) (rcell (by have := hv; have := hI.len; omega))) rfl) ?_
            refine AOps.s 72 rfl rfl rfl (q_bin rfl rfl rfl rfl) ?_
            refine AOps.s 73 rfl rfl rfl (q_pick_true true rfl rfl rfl rfl) ?_
            refine AOps.nil ?_
            refine AGo.split 73 rfl (fun hb8 => ?_) (fun hb8 => ?_)
            · -- True
              refine AGo.cond_true true rfl rfl ?_
              refine AGo.region ?_
              refine AOps.s 74 rfl rfl rfl (q_fieldAddr tok rfl rfl rfl rfl rfl rfl) ?_
              refine AOps.s 75 rfl rfl rfl (q_load tok rfl rfl rfl (by first | exact .loc _ | exact .ptr _ _ _ _ _ _ _ _ rfl rfl rfl) rfl) ?_
              refine AOps.s 6 rfl rfl rfl (q_move (.inr rfl) rfl) ?_
              refine AOps.nil ?_
              have hft : (k.fin == 3) = false := by simp_all
              have hnx := hF.next hk hI hge hst hft (ends_next hks.1 hft r.regs)
              exact ⟨⟨k.next r.regs, r.regs, (mstep fuel r.m).2, q.g - 1⟩, Drop.mk' (by repeat (first | exact EDrop.new _ _ | refine EDrop.put ?_ (by first | rfl | exact congrArg (fun (n : Int) => some (AV.int .i64 n)) (by simp [Block.next, *])) rfl)) (by repeat (first | exact HDrop.none _ _ | exact HDrop.tail _ _ | refine HDrop.put ?_ (by rfl) rfl rfl)), hnx.1, hnx.2⟩
            · -- False
              refine AGo.cond_false false rfl rfl ?_
              refine AGo.skip ?_
              have hft : (k.fin == 3) = false := by simp_all
              have hnx := hF.next hk hI hge hst hft (ends_next hks.1 hft r.regs)
              exact ⟨⟨k.next r.regs, r.regs, (mstep fuel r.m).2, q.g - 1⟩, Drop.mk' (by repeat (first | exact EDrop.new _ _ | refine EDrop.put ?_ (by first | rfl | exact congrArg (fun (n : Int) => some (AV.int .i64 n)) (by simp [Block.next, *])) rfl)) (by repeat (first | exact HDrop.none _ _ | exact HDrop.tail _ _ | refine HDrop.put ?_ (by rfl) rfl rfl)), hnx.1, hnx.2⟩
          · -- False
            refine AOps.k 67 rfl rfl rfl ?_
            refine AOps.k 68 rfl rfl rfl ?_
            refine AOps.k 69 rfl rfl rfl ?_
            refine AOps.k 70 rfl rfl rfl ?_
            refine AOps.k 71 rfl rfl rfl ?_
            refine AOps.k 72 rfl rfl rfl ?_
            refine AOps.s 73 rfl rfl rfl (q_pick_false false rfl rfl rfl rfl) ?_
            refine AOps.nil ?_
            refine AGo.cond_false false rfl rfl ?_
            refine AGo.skip ?_
            have hft : (k.fin == 3) = false := by simp_all
            have hnx := hF.next hk hI hge hst hft (ends_next hks.1 hft r.regs)
            exact ⟨⟨k.next r.regs, r.regs, (mstep fuel r.m).2, q.g - 1⟩, Drop.mk' (by repeat (first | exact EDrop.new _ _ | refine EDrop.put ?_ (by first | rfl | exact congrArg (fun (n : Int) => some (AV.int .i64 n)) (by simp [Block.next, *])) rfl)) (by repeat (first | exact HDrop.none _ _ | exact HDrop.tail _ _ | refine HDrop.put ?_ (by rfl) rfl rfl)), hnx.1, hnx.2⟩
  · -- False
    refine AGo.cond_false false rfl rfl ?_
    have hbad := hb1
    refine AGo.exit ?_
    exact absurd hF.fin (by simpa using hbad)

theorem fun_ok (b : Blocks) (s : ByteArray) (fuel : Int) (hfu : fuel ≤ 9223372036854775807) (hs : s.size ≤ 9223372036854775807) (hb : b.right = true) (hbw : b.insW) (hbl : ∀ f ∈ b.funcs, ∀ x ∈ f.blocks, x.ins.length ≤ maxLen) :
    ∀ (n : Nat) (i : Int) (m : Mach), 0 ≤ i → i < n → i < b.funcs.length → m.fin = 0 → m.good b.words.toNat → ACall Try.prog 29 [.ptr 0 1 0 0, .int .i64 i] (mheap hNew b s fuel m) (fun r h' => r = .tup [] ∧ HSub (mheap hNone b s fuel (mfun b s fuel n i m)) h')
  | 0, i, m, h1, h2, _, _, _ => absurd h2 (by omega)
  | n + 1, i, m, h1, h2, h3, h4, h5 => by
    obtain ⟨f, hf⟩ := get_of_lt (l := b.funcs) (k := i.toNat) (by omega)
    have hr := right_spec hb
    have hfm := List.mem_of_getElem? hf
    have hone : f.one i b.words = true := by
      have := hr.2.2.2 i.toNat f hf
      rwa [Int.toNat_of_nonneg h1] at this
    have key := fun_step b s fuel (mfun b s fuel n) i f m hfu hs hr.2.1 hf h1 hone (hbw f hfm) (hbl f hfm)
      (fun j m' j1 j2 j3 j4 => fun_ok b s fuel hfu hs hb hbw hbl n j m' j1 (by omega) (by omega) j3 j4) (fun j m' hg => mfun_good hbw n j m' hg) (fun j m' => mfun_steps n j m') h5 h4
    have e : mfun b s fuel (n + 1) i m = mblk (mfun b s fuel n) s fuel f (fuel.toNat + 1) 0 (List.replicate f.regs.toNat 0) m := by
      rw [mfun, hf]
    rw [e]; exact key

end Go.Proofs.Ytophfphgcbnafaa.Sv

namespace Go.Proofs.Ytophfphgcbnafaa.Sv
open Go
set_option linter.unusedVariables false
set_option linter.unusedSimpArgs false

set_option maxRecDepth 100000 in
theorem run_ok (b : Blocks) (s : ByteArray) (fuel : Int) (hfu : fuel ≤ 9223372036854775807) (hs : s.size ≤ 9223372036854775807) (hb : b.right = true) (hbw : b.insW) (hbl : ∀ f ∈ b.funcs, ∀ x ∈ f.blocks, x.ins.length ≤ maxLen) : APure Try.prog 13 [.agg b.cells, .str s, .int .i64 fuel] (fun r => r = .agg (resCells (mrun b s fuel))) := by
  have hr := right_spec hb
  have hne : 0 < b.funcs.length := List.length_pos_iff.2 hr.2.2.1
  refine APure.of_body (n := 51) tok Try.func13 rfl rfl ?_
  refine AGo.seq ?_
  refine AGo.slot 0 rfl (fun H ι v => rel_prog) (fun hfit => ?_)
  refine AGo.region ?_
  refine AOps.x 3 rfl rfl rfl (o_box (sz := 2) 3 rfl rfl rfl rfl (Nat.zero_lt_succ _) rfl) ?_
  refine AOps.x 6 rfl rfl rfl (o_alloc tok 4 rfl rfl rfl rfl (Nat.zero_lt_succ _) rfl) ?_
  refine AOps.nil ?_
  refine AGo.seq ?_
  refine AGo.seq ?_
  refine AGo.region ?_
  refine AOps.s 8 rfl rfl rfl (q_fieldAddr tok rfl rfl rfl rfl rfl rfl) ?_
  refine AOps.s 9 rfl rfl rfl (q_load tok rfl rfl rfl (by first | exact .loc _ | exact .ptr _ _ _ _ _ _ _ _ rfl rfl rfl) rfl) ?_
  refine AOps.s 10 rfl rfl rfl (q_len tok rfl rfl rfl rfl rfl) ?_
  refine AOps.s 11 rfl rfl rfl (q_bin rfl rfl rfl rfl) ?_
  refine AOps.nil ?_
  refine AGo.split 11 rfl (fun hb1 => ?_) (fun hb1 => ?_)
  · -- True
    refine AGo.cond_true true rfl rfl ?_
    refine AGo.seq ?_
    refine AGo.region ?_
    refine AOps.s 12 rfl rfl rfl (q_build tok rfl rfl rfl rfl rfl (by decide) rfl rfl rfl) ?_
    refine AOps.w rfl rfl (o_store tok rfl rfl rfl rfl rfl rfl rfl rfl rfl (by decide) rfl (by first | exact fun _ => rfl | (intro h; cases h))) ?_
    refine AOps.nil ?_
    refine AGo.ret ?_
    exact absurd hne (by have h := hb1; simp [funcsAV] at h; simp [h])
  · -- False
    refine AGo.cond_false false rfl rfl ?_
    refine AGo.skip ?_
    refine AGo.seq ?_
    refine AGo.join (γ := Unit) (fun _u => ⟨51, (eput (eput (eput (eput (eput eNew 0 (.agg b.cells)) 1 (.str s)) 3 (.ptr 3 1 0 0)) 6 (.ptr 4 1 0 0)) 2 (.int .i64 (fuel0 fuel))), (hput (hput (hput (hput (hput (hFrom 5) 3 (.row false 2 [b.cells])) 4 (.row false 3 [[.int .i64 0, .str .empty, .int .i64 0]])) 0 .free) 1 .free) 2 .free)⟩) (fun _u => True) ?_ ?_
    · -- to the join
      refine AGo.seq ?_
      refine AGo.region ?_
      refine AOps.s 13 rfl rfl rfl (q_move (.inl rfl) rfl) ?_
      refine AOps.s 14 rfl rfl rfl (q_bin rfl rfl rfl rfl) ?_
      refine AOps.nil ?_
      refine AGo.split 14 rfl (fun hb2 => ?_) (fun hb2 => ?_)
      · -- True
        refine AGo.cond_true true rfl rfl ?_
        refine AGo.region ?_
        refine AOps.s 2 rfl rfl rfl (q_move (.inr rfl) rfl) ?_
        refine AOps.nil ?_
        exact ⟨(), Sub.mk' (by repeat (first | exact ESub.new _ | refine ESub.put ?_ (by first | rfl | exact congrArg (fun (n : Int) => some (AV.int .i64 n)) (by simp [fuel0, *])))) (by repeat (first | exact HSub.none _ | exact HSub.from_new _ | exact HSub.from_from (by decide) | refine HSub.put ?_ (by rfl) | refine HSub.from_put ?_ (by decide) | refine HSub.from_rm ?_ (by decide))), trivial⟩
      · -- False
        refine AGo.cond_false false rfl rfl ?_
        refine AGo.skip ?_
        exact ⟨(), Sub.mk' (by repeat (first | exact ESub.new _ | refine ESub.put ?_ (by first | rfl | exact congrArg (fun (n : Int) => some (AV.int .i64 n)) (by simp [fuel0, *])))) (by repeat (first | exact HSub.none _ | exact HSub.from_new _ | exact HSub.from_from (by decide) | refine HSub.put ?_ (by rfl) | refine HSub.from_put ?_ (by decide) | refine HSub.from_rm ?_ (by decide))), trivial⟩
    intro _u _
    refine AGo.seq ?_
    have hfu0 : fuel0 fuel ≤ 9223372036854775807 := by unfold fuel0; cases decide (fuel < 0) <;> simp <;> omega
    have m0_good : (m0 b).good b.words.toNat := ⟨by simp [m0], allR_rep _, by simp [m0]⟩
    refine AGo.draw mix ?_
    refine DOps.s 15 rfl rfl rfl (q_load tok rfl rfl rfl (by first | exact .loc _ | exact .ptr _ _ _ _ _ _ _ _ rfl rfl rfl) rfl) ?_
    refine DOps.s 16 rfl rfl rfl (q_move (.inl rfl) rfl) ?_
    refine DOps.s 17 rfl rfl rfl (q_move (.inl rfl) rfl) ?_
    refine DOps.s 18 rfl rfl rfl (q_fieldAddr tok rfl rfl rfl rfl rfl rfl) ?_
    refine DOps.s 19 rfl rfl rfl (q_load tok rfl rfl rfl (by first | exact .loc _ | exact .ptr _ _ _ _ _ _ _ _ rfl rfl rfl) rfl) ?_
    refine DOps.x 20 rfl rfl rfl (o_makeSlice tok (n := b.words.toNat) (m := b.words.toNat) 1 true rfl rfl rfl (by have := hr.1; omega) (by have := hr.1; omega) rfl rfl rfl rfl rfl (Nat.zero_lt_succ _) rfl (Nat.le_refl _) (by show 4 * b.words.toNat ≤ _; have := hr.2.1; omega) (by simp only [maxLen]; have := hr.2.1; omega)) ?_
    refine DOps.s 21 rfl rfl rfl (q_build tok rfl rfl rfl rfl rfl (by decide) rfl rfl rfl) ?_
    refine DOps.x 22 rfl rfl rfl (o_box (sz := 9) 0 rfl rfl rfl rfl (Nat.zero_lt_succ _) rfl) ?_
    refine DOps.s 7 rfl rfl rfl (q_move (.inr rfl) rfl) ?_
    refine DOps.nil (by kernel_rfl) ?_
    refine AGo.seq ?_
    refine AGo.ghost (.dryCell 0 0 5 2 1 true rfl rfl rfl rfl rfl (by decide)) ?_
    refine AGo.sub (s' := ⟨51, (eput (eput (eput (eput (eput eNew 0 (.agg b.cells)) 1 (.str s)) 3 (.ptr 3 1 0 0)) 6 (.ptr 4 1 0 0)) 7 (.ptr 0 1 0 0)), (hput (hput (hput (hput (hput hNone 0 (.row false 9 [runCells b s (fuel0 fuel) (m0 b)])) 1 (.row true 1 (regCells ((m0 b)).words))) 2 (.row true 1 (byteCells ((m0 b)).out))) 3 (.row false 2 [b.cells])) 4 (.row false 3 [[.int .i64 0, .str .empty, .int .i64 0]]))⟩) (Sub.mk' (by repeat (first | exact ESub.new _ | refine ESub.put ?_ (by rfl))) (by repeat (first | exact HSub.none _ | exact HSub.from_new _ | exact HSub.from_from (by decide) | refine HSub.put ?_ (by first | rfl | exact congrArg (fun es => some (AObj.row true 1 es)) (regCells_rep _)) | refine HSub.from_put ?_ (by decide) | refine HSub.from_rm ?_ (by decide)))) ?_
    refine AGo.region ?_
    have hmx := hfit.1
    refine AOps.s 23 rfl rfl rfl (q_move (.inl rfl) rfl) ?_
    refine AOps.s 24 rfl rfl rfl (q_fieldAddr tok rfl rfl rfl rfl rfl rfl) ?_
    refine AOps.s 25 rfl rfl rfl (q_load tok rfl rfl rfl (by first | exact .loc _ | exact .ptr _ _ _ _ _ _ _ _ rfl rfl rfl) rfl) ?_
    refine AOps.s 26 rfl rfl rfl (q_len tok rfl rfl rfl rfl rfl) ?_
    refine AOps.s 27 rfl rfl rfl (q_bin (r := .int .i64 ((b.funcs.length : Int) - 1)) rfl rfl rfl (by simp only [evalBin, evalInt, isShift, cond_false, if_true]; rw [List.length_map, wrap_i64 (by omega) (by simp only [maxLen] at hmx; omega)])) ?_
    refine AOps.x 28 rfl rfl rfl (o_call (hc := (mheap hNew b s (fuel0 fuel) (m0 b))) (hw := (mheap hNone b s (fuel0 fuel) (mfun b s (fuel0 fuel) b.funcs.length ((b.funcs.length : Int) - 1) (m0 b)))) [2, 1, 0] [(0, (.row false 9 [runCells b s (fuel0 fuel) (mfun b s (fuel0 fuel) b.funcs.length ((b.funcs.length : Int) - 1) (m0 b))])), (1, (.row true 1 (regCells ((mfun b s (fuel0 fuel) b.funcs.length ((b.funcs.length : Int) - 1) (m0 b))).words))), (2, (.row true 1 (byteCells ((mfun b s (fuel0 fuel) b.funcs.length ((b.funcs.length : Int) - 1) (m0 b))).out)))] rfl Try.func29 (by kernel_rfl) rfl rfl rfl ⟨⟨_, rfl, rfl⟩, ⟨_, rfl, rfl⟩, ⟨_, rfl, rfl⟩, trivial⟩ rfl (hres_cons rfl (hres_cons rfl (hres_cons rfl (hres_nil _)))) ⟨⟨_, rfl, rfl, rfl⟩, ⟨_, rfl, rfl, rfl⟩, ⟨_, rfl, rfl, rfl⟩, trivial⟩ rfl (fun_ok b s (fuel0 fuel) hfu0 hs hb hbw hbl b.funcs.length ((b.funcs.length : Int) - 1) (m0 b) (by omega) (by omega) (by omega) rfl m0_good)) ?_
    refine AOps.nil ?_
    refine AGo.seq ?_
    refine AGo.join (γ := Mach) (fun m => ⟨51, (eput (eput (eput (eput (eput eNew 0 (.agg b.cells)) 1 (.str s)) 3 (.ptr 3 1 0 0)) 6 (.ptr 4 1 0 0)) 7 (.ptr 0 1 0 0)), (hput (hput (hput (hput (hput hNone 0 (.row false 9 [runCells b s (fuel0 fuel) m])) 1 (.row true 1 (regCells (m).words))) 2 (.row true 1 (byteCells (m).out))) 3 (.row false 2 [b.cells])) 4 (.row false 3 [[.int .i64 0, .str .empty, .int .i64 0]]))⟩) (fun m => m = mrun b s fuel) ?_ ?_
    · -- to the join
      refine AGo.seq ?_
      refine AGo.region ?_
      refine AOps.s 29 rfl rfl rfl (q_move (.inl rfl) rfl) ?_
      refine AOps.s 30 rfl rfl rfl (q_nilCheck rfl rfl rfl) ?_
      refine AOps.s 31 rfl rfl rfl (q_fieldAddr tok rfl rfl rfl rfl rfl rfl) ?_
      refine AOps.s 32 rfl rfl rfl (q_load tok rfl rfl rfl (by first | exact .loc _ | exact .ptr _ _ _ _ _ _ _ _ rfl rfl rfl) rfl) ?_
      refine AOps.s 33 rfl rfl rfl (q_bin rfl rfl rfl rfl) ?_
      refine AOps.nil ?_
      refine AGo.split 33 rfl (fun hb3 => ?_) (fun hb3 => ?_)
      · -- True
        refine AGo.cond_true true rfl rfl ?_
        refine AGo.region ?_
        refine AOps.s 34 rfl rfl rfl (q_move (.inl rfl) rfl) ?_
        refine AOps.s 35 rfl rfl rfl (q_nilCheck rfl rfl rfl) ?_
        refine AOps.s 36 rfl rfl rfl (q_fieldAddr tok rfl rfl rfl rfl rfl rfl) ?_
        refine AOps.w rfl rfl (o_store tok rfl rfl rfl rfl rfl rfl rfl rfl rfl (by decide) rfl (by first | exact fun _ => rfl | (intro h; cases h))) ?_
        refine AOps.nil ?_
        exact ⟨{ (mfun b s (fuel0 fuel) b.funcs.length ((b.funcs.length : Int) - 1) (m0 b)) with fin := 1 }, Sub.mk' (by repeat (first | exact ESub.new _ | refine ESub.put ?_ (by rfl))) (by repeat (first | exact HSub.none _ | exact HSub.from_new _ | exact HSub.from_from (by decide) | refine HSub.put ?_ (by rfl) | refine HSub.from_put ?_ (by decide) | refine HSub.from_rm ?_ (by decide))), (by simp [mrun, *])⟩
      · -- False
        refine AGo.cond_false false rfl rfl ?_
        refine AGo.skip ?_
        exact ⟨(mfun b s (fuel0 fuel) b.funcs.length ((b.funcs.length : Int) - 1) (m0 b)), Sub.mk' (by repeat (first | exact ESub.new _ | refine ESub.put ?_ (by rfl))) (by repeat (first | exact HSub.none _ | exact HSub.from_new _ | exact HSub.from_from (by decide) | refine HSub.put ?_ (by rfl) | refine HSub.from_put ?_ (by decide) | refine HSub.from_rm ?_ (by decide))), (by simp [mrun, *])⟩
    intro m hm
    refine AGo.seq ?_
    refine AGo.ghost (.freezeCell 0 0 5 2 rfl rfl rfl rfl (by simp [byteCells]) (by decide)) ?_
    refine AGo.draw mix ?_
    refine DOps.s 37 rfl rfl rfl (q_move (.inl rfl) rfl) ?_
    refine DOps.s 38 rfl rfl rfl (q_nilCheck rfl rfl rfl) ?_
    refine DOps.s 39 rfl rfl rfl (q_fieldAddr tok rfl rfl rfl rfl rfl rfl) ?_
    refine DOps.s 40 rfl rfl rfl (q_load tok rfl rfl rfl (by first | exact .loc _ | exact .ptr _ _ _ _ _ _ _ _ rfl rfl rfl) rfl) ?_
    refine DOps.s 41 rfl rfl rfl (q_move (.inl rfl) rfl) ?_
    refine DOps.s 42 rfl rfl rfl (q_nilCheck rfl rfl rfl) ?_
    refine DOps.s 43 rfl rfl rfl (q_fieldAddr tok rfl rfl rfl rfl rfl rfl) ?_
    refine DOps.s 44 rfl rfl rfl (q_load tok rfl rfl rfl (by first | exact .loc _ | exact .ptr _ _ _ _ _ _ _ _ rfl rfl rfl) rfl) ?_
    refine DOps.s 45 rfl rfl rfl (q_bytesStr (l := m.out) tok rfl (by show some (AV.lst false _) = _; rw [List.drop_zero, List.take_of_length_le (by simp [byteCells])]) rfl rfl rfl rfl rfl rfl) ?_
    refine DOps.s 46 rfl rfl rfl (q_move (.inl rfl) rfl) ?_
    refine DOps.s 47 rfl rfl rfl (q_nilCheck rfl rfl rfl) ?_
    refine DOps.s 48 rfl rfl rfl (q_fieldAddr tok rfl rfl rfl rfl rfl rfl) ?_
    refine DOps.s 49 rfl rfl rfl (q_load tok rfl rfl rfl (by first | exact .loc _ | exact .ptr _ _ _ _ _ _ _ _ rfl rfl rfl) rfl) ?_
    refine DOps.s 50 rfl rfl rfl (q_build tok rfl rfl rfl rfl rfl (by decide) rfl rfl rfl) ?_
    refine DOps.w rfl rfl (o_store tok rfl rfl rfl rfl rfl rfl rfl rfl rfl (by decide) rfl (by first | exact fun _ => rfl | (intro h; cases h))) ?_
    refine DOps.nil (by kernel_rfl) ?_
    refine AGo.ret ?_
    refine ⟨[_], ⟨⟨_, _, _, _, rfl, rfl, .ptr _ _ _ _ _ _ _ _ rfl rfl rfl, rfl⟩, trivial⟩, ?_, rfl⟩
    subst hm
    rfl

end Go.Proofs.Ytophfphgcbnafaa.Sv

namespace Go.Proofs.Ytophfphgcbnafaa.Sv
open Go
set_option linter.unusedVariables false
set_option linter.unusedSimpArgs false

set_option maxRecDepth 100000 in
theorem blockRuns_ok (b : Blocks) (s : ByteArray) (fuel : Int) (hb : b.Ok) (hfi : isI fuel) : APure Try.prog 3 [.agg b.cells, .str s, .int .i64 fuel] (fun r => r = .bool true) := by
  refine APure.of_body (n := 28) tok Try.func3 rfl rfl ?_
  refine AGo.seq ?_
  refine AGo.region ?_
  refine AOps.x 3 rfl rfl rfl (o_box (sz := 2) 0 rfl rfl rfl rfl (Nat.zero_lt_succ _) rfl) ?_
  refine AOps.s 6 rfl rfl rfl (q_move (.inr rfl) rfl) ?_
  refine AOps.nil ?_
  refine AGo.seq ?_
  refine AGo.seq ?_
  refine AGo.region ?_
  refine AOps.s 7 rfl rfl rfl (q_move (.inl rfl) rfl) ?_
  refine AOps.s 8 rfl rfl rfl (q_bin rfl rfl rfl rfl) ?_
  refine AOps.s 9 rfl rfl rfl (q_move (.inl rfl) rfl) ?_
  refine AOps.split 9 rfl (fun hb1 => ?_) (fun hb1 => ?_)
  · -- True
    refine AOps.k 10 rfl rfl rfl ?_
    refine AOps.k 11 rfl rfl rfl ?_
    refine AOps.k 12 rfl rfl rfl ?_
    refine AOps.k 13 rfl rfl rfl ?_
    refine AOps.s 14 rfl rfl rfl (q_pick_true true rfl rfl rfl rfl) ?_
    refine AOps.nil ?_
    refine AGo.cond_true true rfl rfl ?_
    refine AGo.seq ?_
    refine AGo.region ?_
    refine AOps.x 15 rfl rfl rfl (o_pure rfl Try.func11 (by kernel_rfl) rfl rfl rfl (awake_ok)) ?_
    refine AOps.s 6 rfl rfl rfl (q_move (.inr rfl) rfl) ?_
    refine AOps.nil ?_
    refine AGo.ret ?_
    refine ⟨[_], ⟨rfl, trivial⟩, ?_, rfl⟩
    rfl
  · -- False
    refine AOps.s 10 rfl rfl rfl (q_load tok rfl rfl rfl (by first | exact .loc _ | exact .ptr _ _ _ _ _ _ _ _ rfl rfl rfl) rfl) ?_
    refine AOps.s 11 rfl rfl rfl (q_move (.inl rfl) rfl) ?_
    refine AOps.x 12 rfl rfl rfl (o_pure rfl Try.func10 (by kernel_rfl) rfl rfl rfl (smallS_ok _ _ (by assumption))) ?_
    refine AOps.s 13 rfl rfl rfl (q_not rfl rfl) ?_
    refine AOps.s 14 rfl rfl rfl (q_pick_false false rfl rfl rfl rfl) ?_
    refine AOps.nil ?_
    refine AGo.split 14 rfl (fun hb2 => ?_) (fun hb2 => ?_)
    · -- True
      refine AGo.cond_true true rfl rfl ?_
      refine AGo.seq ?_
      refine AGo.region ?_
      refine AOps.x 15 rfl rfl rfl (o_pure rfl Try.func11 (by kernel_rfl) rfl rfl rfl (awake_ok)) ?_
      refine AOps.s 6 rfl rfl rfl (q_move (.inr rfl) rfl) ?_
      refine AOps.nil ?_
      refine AGo.ret ?_
      refine ⟨[_], ⟨rfl, trivial⟩, ?_, rfl⟩
      rfl
    · -- False
      refine AGo.cond_false false rfl rfl ?_
      have hfu : fuel ≤ 400 := by have h := hb1; simp at h; omega
      have hsm := smallS_spec (b := b) (s := s) (by simpa using hb2)
      have hfl := hsm.funcs
      have hsz := hsm.size
      refine AGo.skip ?_
      refine AGo.seq ?_
      refine AGo.draw mix ?_
      refine DOps.x 16 rfl rfl rfl (o_pure rfl Try.func11 (by kernel_rfl) rfl rfl rfl (awake_ok)) ?_
      refine DOps.s 17 rfl rfl rfl (q_move (.inl rfl) rfl) ?_
      refine DOps.s 18 rfl rfl rfl (q_load tok rfl rfl rfl (by first | exact .loc _ | exact .ptr _ _ _ _ _ _ _ _ rfl rfl rfl) rfl) ?_
      refine DOps.s 19 rfl rfl rfl (q_move (.inl rfl) rfl) ?_
      refine DOps.s 20 rfl rfl rfl (q_move (.inl rfl) rfl) ?_
      refine DOps.x 21 rfl rfl rfl (o_pure rfl Try.func12 (by kernel_rfl) rfl rfl rfl (blockRun_ok b s fuel hsm.right (small_insWB hb) hsm.insL (by omega) (by omega) (by omega))) ?_
      refine DOps.s 22 rfl rfl rfl (q_load tok rfl rfl rfl (by first | exact .loc _ | exact .ptr _ _ _ _ _ _ _ _ rfl rfl rfl) rfl) ?_
      refine DOps.s 23 rfl rfl rfl (q_move (.inl rfl) rfl) ?_
      refine DOps.s 24 rfl rfl rfl (q_move (.inl rfl) rfl) ?_
      refine DOps.x 25 rfl rfl rfl (o_pure rfl Try.func13 (by kernel_rfl) rfl rfl rfl (run_ok b s fuel (by omega) (by omega) hsm.right (small_insWB hb) (fun f hf x hx => by have := hsm.insL f hf x hx; simp only [big, maxLen] at *; omega))) ?_
      refine DOps.s 26 rfl rfl rfl (q_eqStruct tok false rfl rfl rfl (by kernel_rfl) rfl rfl rfl rfl (eq_resCellsB _)) ?_
      refine DOps.s 27 rfl rfl rfl (q_pick_true true rfl rfl rfl rfl) ?_
      refine DOps.s 6 rfl rfl rfl (q_move (.inr rfl) rfl) ?_
      refine DOps.nil (by kernel_rfl) ?_
      refine AGo.ret ?_
      refine ⟨[_], ⟨rfl, trivial⟩, ?_, rfl⟩
      rfl

end Go.Proofs.Ytophfphgcbnafaa.Sv

namespace Go.Proofs.Ytophfphgcbnafaa
open Go.ChangeShapes Go.WideShapes Go.ChangeAt Go.RowKit Sv
set_option linter.unusedVariables false
theorem okWide_cellS {P : Program} {W : World} {T : Nat → Option TyI} {t b0 : Nat} {v : Value} {i : TyI} (hT : TOk P T) (hi : T t = some i) (hk : i.k = .string) (h : Value.okWide P W .any b0 t v) : ∀ cs, v ≠ .agg cs := by
  obtain ⟨info, d, e1, e2, e3, e4, e5, e6⟩ := tyOf_spec (hT _ _ hi)
  have hd := tk_string (P := P) (d := d) (e3 ▸ hk)
  subst hd
  obtain ⟨s, rfl⟩ := okWide_string e2 h
  intro cs h
  cases h
section
variable {H : Type} {enc : TypeId × Value → H} {W : World}
theorem decStr : Dec enc Try.prog W 9 (fun s : ByteArray => [.str s]) (fun s => s.size ≤ maxLen ∧ s.size ≤ reachBytes) := Dec.string' tok rfl rfl
end
end Go.Proofs.Ytophfphgcbnafaa

namespace Go.Proofs.Ytophfphgcbnafaa
open Go.ChangeShapes Go.WideShapes Go.ChangeAt Go.RowKit Sv
set_option linter.unusedVariables false

set_option maxRecDepth 100000 in
theorem blockRuns_lifted (os : Os) (started : os.Started) (H : Type) (enc : TypeId × Value → H) :
    ReturnsInHanded {} Try.checked os 3 .any (Rows.blockRunsSpec.pre6 enc Try.prog Try.f3 Rows.blockRunsRow.domain false) (Rows.blockRunsSpec.post enc Try.prog Try.f3 false true false false) := by
  refine returnsInHanded_of_change_sized (C := Try.checked) own' started (by kernel_rfl) Try.func3
    (ChangeSpec.witness6 (enc := enc) (C := Try.checked) false ⟨#[], #[.agg #[.int .i64 0, .slice none 0 0], .string ⟨#[]⟩, .int .i64 0], []⟩ 8 (by kernel_rfl) (by kernel_rfl) (by kernel_rfl) (by kernel_rfl)) ?_
  intro W base args ds gs before hval0 hW hcnd hwt0 hh
  have hval : ∀ (j : Nat) t v, Try.f3.params[j]? = some t → args[j]? = some v → Value.okWide Try.prog W .any base t v := hval0
  have hW' := hW
  obtain ⟨p, q, hA0, hV, rfl, hfz, hnd⟩ := hW
  have hA : DataW.TrodAll enc Try.prog W 0 (fun _ => true) true Try.f3.params.toList args.toList ds p := hA0
  have hwt : (DataW.weightsEach Try.prog (Try.f3.params.toList ++ Rows.blockRunsSpec.plain.varTypes Try.prog) (ds ++ gs)).all (· ≤ reachBytes) = true := hwt0
  rw [Try.params3] at hA hval hwt
  obtain ⟨v0, vs0, d0, ds0, p0, q0, hargs, rfl, rfl, h0, r0⟩ := trodAll_cons hA
  obtain ⟨v1, vs1, d1, ds1, p1, q1, rfl, rfl, rfl, h1, r1⟩ := trodAll_cons r0
  obtain ⟨v2, vs2, d2, ds2, p2, q2, rfl, rfl, rfl, h2, r2⟩ := trodAll_cons r1
  obtain ⟨rfl, rfl, rfl⟩ := trodAll_nil r2
  obtain rfl : args = #[v0, v1, v2] := by cases args; simp_all
  obtain ⟨rfl, rfl⟩ := trodVars_none hV
  obtain ⟨x0, e0, g0⟩ := arg_one h0 (weightsEach_get hwt (i := 0) rfl rfl) decBlocks
  obtain ⟨x1, e1, g1⟩ := arg_one h1 (weightsEach_get hwt (i := 1) rfl rfl) decStr
  obtain ⟨x2, rfl, rfl, rfl, w2⟩ := open_int Try.underlying3 (hval 2 3 v2 rfl rfl) h2
  exact law_calls laidOut' rfl (by kernel_rfl) rfl bool' rfl rfl rfl hW' (.cons (e0.val (okWide_agg tok rfl rfl (hval 0 24 v0 rfl rfl))) (.cons (e1.val1 (okWide_cellS tok rfl rfl (hval 1 9 v1 rfl rfl))) (.cons (.int _ _ _) .nil))) (blockRuns_ok x0 x1 x2 g0 (wf_i64 w2))

theorem blockRuns_holds : Rows.BlockRunsSaid :=
  OpenClaim.holds_of_wide 3 Try.f3 rfl rfl rfl rfl rfl rfl rfl ⟨rfl, rfl, rfl, rfl, rfl⟩ rfl rfl rfl rfl rfl (by kernel_rfl) Try.func3 (by kernel_rfl)
    (of_decide_eq_true (by kernel_rfl)) (by unfold Func.isWrapper; first | (rw [if_pos (by decide +kernel)]; kernel_rfl) | (rw [if_neg (by decide +kernel)]; exact ⟨rfl, rfl⟩))
    (fun os started H enc _ => blockRuns_lifted os started H enc)

end Go.Proofs.Ytophfphgcbnafaa
