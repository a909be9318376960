/-
  WALKS: printed by a program of our own from the code's tree.
-/
import Derived.Test.YtidfabbnobipkaaSp13
import Derived.Test.YtidfabbnobipkaaSw9
import Derived.Test.YtidfabbnobipkaaSw1
namespace Go.Proofs.Ytidfabbnobipkaa.Sv
open Go
set_option linter.unusedVariables false
set_option linter.unusedSimpArgs false

set_option maxRecDepth 100000 in
theorem step_ok (b : Blocks) (s : ByteArray) (fuel : Int) (m : Mach) (hfu : fuel ≤ 9223372036854775807) : ACall Try.prog 49 [.ptr 0 1 0 0] (mheap hNew b s fuel m) (fun r h' => r = .bool (mstep fuel m).1 ∧ HSub (mheap hNone b s fuel (mstep fuel m).2) h') := by
  refine ACall.of_body (n := 22) tok Try.func49 rfl rfl ?_
  refine AGo.seq ?_
  refine AGo.region ?_
  refine AOps.s 2 rfl rfl rfl (q_move (.inr rfl) rfl) ?_
  refine AOps.nil ?_
  refine AGo.seq ?_
  refine AGo.seq ?_
  refine AGo.draw mix ?_
  refine DOps.s 3 rfl rfl rfl (q_move (.inl rfl) rfl) ?_
  refine DOps.s 4 rfl rfl rfl (q_nilCheck rfl rfl rfl) ?_
  refine DOps.s 5 rfl rfl rfl (q_fieldAddr tok rfl rfl rfl rfl rfl rfl) ?_
  refine DOps.s 6 rfl rfl rfl (q_load tok rfl rfl rfl (by first | exact .loc _ | exact .ptr _ _ _ _ _ _ _ _ rfl rfl rfl) rfl) ?_
  refine DOps.s 7 rfl rfl rfl (q_move (.inl rfl) rfl) ?_
  refine DOps.s 8 rfl rfl rfl (q_nilCheck rfl rfl rfl) ?_
  refine DOps.s 9 rfl rfl rfl (q_fieldAddr tok rfl rfl rfl rfl rfl rfl) ?_
  refine DOps.s 10 rfl rfl rfl (q_load tok rfl rfl rfl (by first | exact .loc _ | exact .ptr _ _ _ _ _ _ _ _ rfl rfl rfl) rfl) ?_
  refine DOps.s 11 rfl rfl rfl (q_bin rfl rfl rfl rfl) ?_
  refine DOps.nil (by kernel_rfl) ?_
  refine AGo.split 11 rfl (fun hb1 => ?_) (fun hb1 => ?_)
  · -- True
    refine AGo.cond_true true rfl rfl ?_
    refine AGo.seq ?_
    refine AGo.region ?_
    refine AOps.s 12 rfl rfl rfl (q_move (.inl rfl) rfl) ?_
    refine AOps.s 13 rfl rfl rfl (q_nilCheck rfl rfl rfl) ?_
    refine AOps.s 14 rfl rfl rfl (q_fieldAddr tok rfl rfl rfl rfl rfl rfl) ?_
    refine AOps.w rfl rfl (o_store tok rfl rfl rfl rfl rfl rfl rfl rfl rfl (by decide) rfl (by first | exact fun _ => rfl | (intro h; cases h))) ?_
    refine AOps.nil ?_
    refine AGo.seq ?_
    refine AGo.region ?_
    refine AOps.s 2 rfl rfl rfl (q_move (.inr rfl) rfl) ?_
    refine AOps.nil ?_
    refine AGo.ret ?_
    rw [mstep_no hb1]
    exact ⟨[_], ⟨rfl, trivial⟩, rfl, HSub.put (HSub.put (HSub.put (HSub.none _) rfl) rfl) rfl⟩
  · -- False
    refine AGo.cond_false false rfl rfl ?_
    refine AGo.skip ?_
    refine AGo.seq ?_
    refine AGo.region ?_
    refine AOps.s 15 rfl rfl rfl (q_move (.inl rfl) rfl) ?_
    refine AOps.s 16 rfl rfl rfl (q_nilCheck rfl rfl rfl) ?_
    refine AOps.s 17 rfl rfl rfl (q_fieldAddr tok rfl rfl rfl rfl rfl rfl) ?_
    refine AOps.s 18 rfl rfl rfl (q_load tok rfl rfl rfl (by first | exact .loc _ | exact .ptr _ _ _ _ _ _ _ _ rfl rfl rfl) rfl) ?_
    refine AOps.s 19 rfl rfl rfl (q_inc rfl rfl (show m.steps < fuel.toNat by have h := hb1; simp at h; omega) (by simp only [maxLen]; omega)) ?_
    refine AOps.s 20 rfl rfl rfl (q_nilCheck rfl rfl rfl) ?_
    refine AOps.s 21 rfl rfl rfl (q_fieldAddr tok rfl rfl rfl rfl rfl rfl) ?_
    refine AOps.w rfl rfl (o_store tok rfl rfl rfl rfl rfl rfl rfl rfl rfl (by decide) rfl (by first | exact fun _ => rfl | (intro h; cases h))) ?_
    refine AOps.nil ?_
    refine AGo.seq ?_
    refine AGo.region ?_
    refine AOps.s 2 rfl rfl rfl (q_move (.inr rfl) rfl) ?_
    refine AOps.nil ?_
    refine AGo.ret ?_
    rw [mstep_yes hb1]
    exact ⟨[_], ⟨rfl, trivial⟩, rfl, HSub.put (HSub.put (HSub.put (HSub.none _) rfl) rfl) rfl⟩

set_option maxRecDepth 100000 in
theorem one_okR (b : Blocks) (s : ByteArray) (fuel : Int) (call : Int → Mach → Mach) (t : Tac) (regs : List Int) (m : Mach) (n R : Nat) (ht : TacIn t n R b.words.toNat) (hr : allR regs) (hlen : regs.length = R) (hm : m.good b.words.toNat) (h0 : m.fin = 0) (hbw : b.words ≤ 1048576) (hs : s.size ≤ 9223372036854775807) (hwn : isW t.n)
    (hcall : ∀ (i : Int), 0 ≤ i → i < n → ACall Try.prog 39 [.ptr 0 1 0 0, .int .i64 i] (mheap hNew b s fuel m) (fun r h' => r = .tup [] ∧ HSub (mheap hNone b s fuel (call i m)) h')) : ACall Try.prog 50 [.ptr 0 1 0 0, .agg t.cells, .ref 4 R 0 R] (hput (mheap hNew b s fuel m) 4 (.row true 1 (regCells regs))) (fun r h' => r = .tup [] ∧ HSub (hput (mheap hNone b s fuel (mone call s t regs m).2) 4 (.row true 1 (regCells (mone call s t regs m).1))) h') := by
  refine ACall.of_body (n := 211) tok Try.func50 rfl rfl ?_
  refine AGo.seq ?_
  refine AGo.region ?_
  refine AOps.x 4 rfl rfl rfl (o_box (sz := 8) 5 rfl rfl rfl rfl (Nat.zero_lt_succ _) rfl) ?_
  refine AOps.nil ?_
  refine AGo.seq ?_
  refine AGo.region ?_
  refine AOps.s 8 rfl rfl rfl (q_fieldAddr tok rfl rfl rfl rfl rfl rfl) ?_
  refine AOps.s 9 rfl rfl rfl (q_load tok rfl rfl rfl (by first | exact .loc _ | exact .ptr _ _ _ _ _ _ _ _ rfl rfl rfl) rfl) ?_
  refine AOps.nil ?_
  refine AGo.block ?_
  refine AGo.seq ?_
  refine AGo.region ?_
  refine AOps.s 11 rfl rfl rfl (q_bin rfl rfl rfl rfl) ?_
  refine AOps.s 10 rfl rfl rfl (q_move (.inr rfl) rfl) ?_
  refine AOps.nil ?_
  refine AGo.split 10 rfl (fun hb1 => ?_) (fun hb1 => ?_)
  · -- True
    refine AGo.cond_true true rfl rfl ?_
    have ho : t.op = 1 := by simpa using hb1
    have hd := ht.d (by simp [setsOp, ho])
    refine AGo.region ?_
    refine AOps.s 12 rfl rfl rfl (q_move (.inl rfl) rfl) ?_
    refine AOps.s 13 rfl rfl rfl (q_fieldAddr tok rfl rfl rfl rfl rfl rfl) ?_
    refine AOps.s 14 rfl rfl rfl (q_load tok rfl rfl rfl (by first | exact .loc _ | exact .ptr _ _ _ _ _ _ _ _ rfl rfl rfl) rfl) ?_
    refine AOps.s 15 rfl rfl rfl (q_fieldAddr tok rfl rfl rfl rfl rfl rfl) ?_
    refine AOps.s 16 rfl rfl rfl (q_load tok rfl rfl rfl (by first | exact .loc _ | exact .ptr _ _ _ _ _ _ _ _ rfl rfl rfl) rfl) ?_
    refine AOps.s 17 rfl rfl rfl (q_index_ref tok rfl rfl rfl rfl rfl rfl rfl (by rw [regCells_len, hlen]) rfl hd.1 (by have := hd.2; omega)) ?_
    refine AOps.w rfl rfl (o_store tok rfl rfl rfl rfl rfl rfl (by rw [regCells_len, hlen]) (rcell (by have := hd; omega)) rfl (by decide) rfl (by first | exact fun _ => rfl | (intro h; cases h))) ?_
    refine AOps.nil ?_
    refine ⟨[], trivial, rfl, ?_⟩
    rw [mone1 ho]
    exact HSub.put (HSub.put (HSub.put (HSub.put (HSub.none _) rfl) rfl) rfl) (by first | rfl | exact congrArg (fun es => some (AObj.row true 1 es)) (rcell_set _ _ _) | exact congrArg (fun es => some (AObj.row true 1 es)) (rcell_set2 _ _ _ _))
  · -- False
    refine AGo.cond_false false rfl rfl ?_
    refine AGo.seq ?_
    refine AGo.region ?_
    refine AOps.s 19 rfl rfl rfl (q_bin rfl rfl rfl rfl) ?_
    refine AOps.s 18 rfl rfl rfl (q_move (.inr rfl) rfl) ?_
    refine AOps.nil ?_
    refine AGo.split 18 rfl (fun hb2 => ?_) (fun hb2 => ?_)
    · -- True
      refine AGo.cond_true true rfl rfl ?_
      have ho : t.op = 2 := by simpa using hb2
      have hd := ht.d (by simp [setsOp, ho])
      have ha := ht.a (by simp [use1, use2, ho])
      refine AGo.draw mix ?_
      refine DOps.s 20 rfl rfl rfl (q_move (.inl rfl) rfl) ?_
      refine DOps.s 21 rfl rfl rfl (q_fieldAddr tok rfl rfl rfl rfl rfl rfl) ?_
      refine DOps.s 22 rfl rfl rfl (q_load tok rfl rfl rfl (by first | exact .loc _ | exact .ptr _ _ _ _ _ _ _ _ rfl rfl rfl) rfl) ?_
      refine DOps.s 23 rfl rfl rfl (q_move (.inl rfl) rfl) ?_
      refine DOps.s 24 rfl rfl rfl (q_fieldAddr tok rfl rfl rfl rfl rfl rfl) ?_
      refine DOps.s 25 rfl rfl rfl (q_load tok rfl rfl rfl (by first | exact .loc _ | exact .ptr _ _ _ _ _ _ _ _ rfl rfl rfl) rfl) ?_
      refine DOps.s 26 rfl rfl rfl (q_index_ref tok rfl rfl rfl rfl rfl rfl rfl (by rw [regCells_len, hlen]) rfl ha.1 (by have := ha.2; omega)) ?_
      refine DOps.s 27 rfl rfl rfl (q_load tok rfl rfl rfl (.ptr _ _ _ _ _ _ _ _ rfl (by rw [regCells_len, hlen]) (rcell (by have := ha; omega))) rfl) ?_
      refine DOps.s 28 rfl rfl rfl (q_index_ref tok rfl rfl rfl rfl rfl rfl rfl (by rw [regCells_len, hlen]) rfl hd.1 (by have := hd.2; omega)) ?_
      refine DOps.w rfl rfl (o_store tok rfl rfl rfl rfl rfl rfl (by rw [regCells_len, hlen]) (rcell (by have := hd; omega)) rfl (by decide) rfl (by first | exact fun _ => rfl | (intro h; cases h))) ?_
      refine DOps.nil (by kernel_rfl) ?_
      refine ⟨[], trivial, rfl, ?_⟩
      rw [mone2 ho]
      exact HSub.put (HSub.put (HSub.put (HSub.put (HSub.none _) rfl) rfl) rfl) (by first | rfl | exact congrArg (fun es => some (AObj.row true 1 es)) (rcell_set _ _ _) | exact congrArg (fun es => some (AObj.row true 1 es)) (rcell_set2 _ _ _ _))
    · -- False
      refine AGo.cond_false false rfl rfl ?_
      refine AGo.seq ?_
      refine AGo.region ?_
      refine AOps.s 30 rfl rfl rfl (q_bin rfl rfl rfl rfl) ?_
      refine AOps.s 29 rfl rfl rfl (q_move (.inr rfl) rfl) ?_
      refine AOps.nil ?_
      refine AGo.split 29 rfl (fun hb3 => ?_) (fun hb3 => ?_)
      · -- True
        refine AGo.cond_true true rfl rfl ?_
        have ho : t.op = 3 := by simpa using hb3
        have hd := ht.d (by simp [setsOp, ho])
        have ha := ht.a (by simp [use1, use2, ho])
        have hb := ht.b (by simp [use2, ho])
        refine AGo.seq ?_
        refine AGo.draw mix ?_
        refine DOps.s 32 rfl rfl rfl (q_fieldAddr tok rfl rfl rfl rfl rfl rfl) ?_
        refine DOps.s 33 rfl rfl rfl (q_load tok rfl rfl rfl (by first | exact .loc _ | exact .ptr _ _ _ _ _ _ _ _ rfl rfl rfl) rfl) ?_
        refine DOps.s 34 rfl rfl rfl (q_move (.inl rfl) rfl) ?_
        refine DOps.s 35 rfl rfl rfl (q_fieldAddr tok rfl rfl rfl rfl rfl rfl) ?_
        refine DOps.s 36 rfl rfl rfl (q_load tok rfl rfl rfl (by first | exact .loc _ | exact .ptr _ _ _ _ _ _ _ _ rfl rfl rfl) rfl) ?_
        refine DOps.s 37 rfl rfl rfl (q_index_ref tok rfl rfl rfl rfl rfl rfl rfl (by rw [regCells_len, hlen]) rfl ha.1 (by have := ha.2; omega)) ?_
        refine DOps.s 38 rfl rfl rfl (q_load tok rfl rfl rfl (.ptr _ _ _ _ _ _ _ _ rfl (by rw [regCells_len, hlen]) (rcell (by have := ha; omega))) rfl) ?_
        refine DOps.s 39 rfl rfl rfl (q_move (.inl rfl) rfl) ?_
        refine DOps.s 40 rfl rfl rfl (q_fieldAddr tok rfl rfl rfl rfl rfl rfl) ?_
        refine DOps.s 41 rfl rfl rfl (q_load tok rfl rfl rfl (by first | exact .loc _ | exact .ptr _ _ _ _ _ _ _ _ rfl rfl rfl) rfl) ?_
        refine DOps.s 42 rfl rfl rfl (q_index_ref tok rfl rfl rfl rfl rfl rfl rfl (by rw [regCells_len, hlen]) rfl hb.1 (by have := hb.2; omega)) ?_
        refine DOps.s 43 rfl rfl rfl (q_load tok rfl rfl rfl (.ptr _ _ _ _ _ _ _ _ rfl (by rw [regCells_len, hlen]) (rcell (by have := hb; omega))) rfl) ?_
        refine DOps.x 44 rfl rfl rfl (o_pure rfl Try.func55 (by kernel_rfl) rfl rfl rfl (rapply_ok t.k (rget regs t.a) (rget regs t.b) (rget_w hr _) (rget_w hr _))) ?_
        refine DOps.s 31 rfl rfl rfl (q_move (.inl rfl) rfl) ?_
        refine DOps.s 45 rfl rfl rfl (q_extract rfl rfl rfl) ?_
        refine DOps.s 46 rfl rfl rfl (q_extract rfl rfl rfl) ?_
        refine DOps.s 6 rfl rfl rfl (q_move (.inr rfl) rfl) ?_
        refine DOps.s 7 rfl rfl rfl (q_move (.inr rfl) rfl) ?_
        refine DOps.nil (by kernel_rfl) ?_
        refine AGo.seq ?_
        refine AGo.seq ?_
        refine AGo.region ?_
        refine AOps.s 47 rfl rfl rfl (q_move (.inl rfl) rfl) ?_
        refine AOps.s 48 rfl rfl rfl (q_bin rfl rfl rfl rfl) ?_
        refine AOps.nil ?_
        refine AGo.split 48 rfl (fun hb4 => ?_) (fun hb4 => ?_)
        · -- True
          refine AGo.cond_true true rfl rfl ?_
          refine AGo.seq ?_
          refine AGo.region ?_
          refine AOps.s 49 rfl rfl rfl (q_move (.inl rfl) rfl) ?_
          refine AOps.s 50 rfl rfl rfl (q_nilCheck rfl rfl rfl) ?_
          refine AOps.s 51 rfl rfl rfl (q_fieldAddr tok rfl rfl rfl rfl rfl rfl) ?_
          refine AOps.w rfl rfl (o_store tok rfl rfl rfl rfl rfl rfl rfl rfl rfl (by decide) rfl (by first | exact fun _ => rfl | (intro h; cases h))) ?_
          refine AOps.nil ?_
          refine AGo.ret ?_
          refine ⟨[], trivial, rfl, ?_⟩
          rw [mone3z ho hb4]
          exact HSub.put (HSub.put (HSub.put (HSub.put (HSub.none _) rfl) rfl) rfl) rfl
        · -- False
          refine AGo.cond_false false rfl rfl ?_
          refine AGo.skip ?_
          refine AGo.region ?_
          refine AOps.s 52 rfl rfl rfl (q_move (.inl rfl) rfl) ?_
          refine AOps.s 53 rfl rfl rfl (q_fieldAddr tok rfl rfl rfl rfl rfl rfl) ?_
          refine AOps.s 54 rfl rfl rfl (q_load tok rfl rfl rfl (by first | exact .loc _ | exact .ptr _ _ _ _ _ _ _ _ rfl rfl rfl) rfl) ?_
          refine AOps.s 55 rfl rfl rfl (q_move (.inl rfl) rfl) ?_
          refine AOps.s 56 rfl rfl rfl (q_index_ref tok rfl rfl rfl rfl rfl rfl rfl (by rw [regCells_len, hlen]) rfl hd.1 (by have := hd.2; omega)) ?_
          refine AOps.w rfl rfl (o_store tok rfl rfl rfl rfl rfl rfl (by rw [regCells_len, hlen]) (rcell (by have := hd; omega)) rfl (by decide) rfl (by first | exact fun _ => rfl | (intro h; cases h))) ?_
          refine AOps.nil ?_
          refine ⟨[], trivial, rfl, ?_⟩
          rw [mone3 ho hb4]
          exact HSub.put (HSub.put (HSub.put (HSub.put (HSub.none _) rfl) rfl) rfl) (by first | rfl | exact congrArg (fun es => some (AObj.row true 1 es)) (rcell_set _ _ _) | exact congrArg (fun es => some (AObj.row true 1 es)) (rcell_set2 _ _ _ _))
      · -- False
        refine AGo.cond_false false rfl rfl ?_
        refine AGo.seq ?_
        refine AGo.region ?_
        refine AOps.s 58 rfl rfl rfl (q_bin rfl rfl rfl rfl) ?_
        refine AOps.s 57 rfl rfl rfl (q_move (.inr rfl) rfl) ?_
        refine AOps.nil ?_
        refine AGo.split 57 rfl (fun hb5 => ?_) (fun hb5 => ?_)
        · -- True
          refine AGo.cond_true true rfl rfl ?_
          have ho : t.op = 4 := by simpa using hb5
          have hd := ht.d (by simp [setsOp, ho])
          have hbs := ht.base (by simp [ho])
          refine AGo.draw mix ?_
          refine DOps.s 59 rfl rfl rfl (q_move (.inl rfl) rfl) ?_
          refine DOps.s 60 rfl rfl rfl (q_fieldAddr tok rfl rfl rfl rfl rfl rfl) ?_
          refine DOps.s 61 rfl rfl rfl (q_load tok rfl rfl rfl (by first | exact .loc _ | exact .ptr _ _ _ _ _ _ _ _ rfl rfl rfl) rfl) ?_
          refine DOps.s 62 rfl rfl rfl (q_move (.inl rfl) rfl) ?_
          refine DOps.s 63 rfl rfl rfl (q_nilCheck rfl rfl rfl) ?_
          refine DOps.s 64 rfl rfl rfl (q_fieldAddr tok rfl rfl rfl rfl rfl rfl) ?_
          refine DOps.s 65 rfl rfl rfl (q_load tok rfl rfl rfl (by first | exact .loc _ | exact .ptr _ _ _ _ _ _ _ _ rfl rfl rfl) rfl) ?_
          refine DOps.s 66 rfl rfl rfl (q_fieldAddr tok rfl rfl rfl rfl rfl rfl) ?_
          refine DOps.s 67 rfl rfl rfl (q_load tok rfl rfl rfl (by first | exact .loc _ | exact .ptr _ _ _ _ _ _ _ _ rfl rfl rfl) rfl) ?_
          refine DOps.s 68 rfl rfl rfl (q_index_ref tok rfl rfl rfl rfl rfl rfl rfl (by rw [regCells_len, hm.len]) rfl hbs.1 (by have := hbs.2; omega)) ?_
          refine DOps.s 69 rfl rfl rfl (q_load tok rfl rfl rfl (.ptr _ _ _ _ _ _ _ _ rfl (by rw [regCells_len, hm.len]) (rcell (by have := hbs; have := hm.len; omega))) rfl) ?_
          refine DOps.s 70 rfl rfl rfl (q_index_ref tok rfl rfl rfl rfl rfl rfl rfl (by rw [regCells_len, hlen]) rfl hd.1 (by have := hd.2; omega)) ?_
          refine DOps.w rfl rfl (o_store tok rfl rfl rfl rfl rfl rfl (by rw [regCells_len, hlen]) (rcell (by have := hd; omega)) rfl (by decide) rfl (by first | exact fun _ => rfl | (intro h; cases h))) ?_
          refine DOps.nil (by kernel_rfl) ?_
          refine ⟨[], trivial, rfl, ?_⟩
          rw [mone4 ho]
          exact HSub.put (HSub.put (HSub.put (HSub.put (HSub.none _) rfl) rfl) rfl) (by first | rfl | exact congrArg (fun es => some (AObj.row true 1 es)) (rcell_set _ _ _) | exact congrArg (fun es => some (AObj.row true 1 es)) (rcell_set2 _ _ _ _))
        · -- False
          refine AGo.cond_false false rfl rfl ?_
          refine AGo.seq ?_
          refine AGo.region ?_
          refine AOps.s 72 rfl rfl rfl (q_bin rfl rfl rfl rfl) ?_
          refine AOps.s 71 rfl rfl rfl (q_move (.inr rfl) rfl) ?_
          refine AOps.nil ?_
          refine AGo.split 71 rfl (fun hb6 => ?_) (fun hb6 => ?_)
          · -- True
            refine AGo.cond_true true rfl rfl ?_
            have ho : t.op = 5 := by simpa using hb6
            have ha := ht.a (by simp [use1, use2, ho])
            have hbs := ht.base (by simp [ho])
            refine AGo.draw mix ?_
            refine DOps.s 73 rfl rfl rfl (q_move (.inl rfl) rfl) ?_
            refine DOps.s 74 rfl rfl rfl (q_nilCheck rfl rfl rfl) ?_
            refine DOps.s 75 rfl rfl rfl (q_fieldAddr tok rfl rfl rfl rfl rfl rfl) ?_
            refine DOps.s 76 rfl rfl rfl (q_load tok rfl rfl rfl (by first | exact .loc _ | exact .ptr _ _ _ _ _ _ _ _ rfl rfl rfl) rfl) ?_
            refine DOps.s 77 rfl rfl rfl (q_fieldAddr tok rfl rfl rfl rfl rfl rfl) ?_
            refine DOps.s 78 rfl rfl rfl (q_load tok rfl rfl rfl (by first | exact .loc _ | exact .ptr _ _ _ _ _ _ _ _ rfl rfl rfl) rfl) ?_
            refine DOps.s 79 rfl rfl rfl (q_move (.inl rfl) rfl) ?_
            refine DOps.s 80 rfl rfl rfl (q_fieldAddr tok rfl rfl rfl rfl rfl rfl) ?_
            refine DOps.s 81 rfl rfl rfl (q_load tok rfl rfl rfl (by first | exact .loc _ | exact .ptr _ _ _ _ _ _ _ _ rfl rfl rfl) rfl) ?_
            refine DOps.s 82 rfl rfl rfl (q_index_ref tok rfl rfl rfl rfl rfl rfl rfl (by rw [regCells_len, hlen]) rfl ha.1 (by have := ha.2; omega)) ?_
            refine DOps.s 83 rfl rfl rfl (q_load tok rfl rfl rfl (.ptr _ _ _ _ _ _ _ _ rfl (by rw [regCells_len, hlen]) (rcell (by have := ha; omega))) rfl) ?_
            refine DOps.s 84 rfl rfl rfl (q_index_ref tok rfl rfl rfl rfl rfl rfl rfl (by rw [regCells_len, hm.len]) rfl hbs.1 (by have := hbs.2; omega)) ?_
            refine DOps.w rfl rfl (o_store tok rfl rfl rfl rfl rfl rfl (by rw [regCells_len, hm.len]) (rcell (by have := hbs; have := hm.len; omega)) rfl (by decide) rfl (by first | exact fun _ => rfl | (intro h; cases h))) ?_
            refine DOps.nil (by kernel_rfl) ?_
            refine ⟨[], trivial, rfl, ?_⟩
            rw [mone5 ho]
            exact HSub.put (HSub.put (HSub.put (HSub.put (HSub.none _) rfl) (by first | rfl | exact congrArg (fun es => some (AObj.row true 1 es)) (rcell_set _ _ _) | exact congrArg (fun es => some (AObj.row true 1 es)) (rcell_set2 _ _ _ _))) rfl) rfl
          · -- False
            refine AGo.cond_false false rfl rfl ?_
            refine AGo.seq ?_
            refine AGo.seq ?_
            refine AGo.region ?_
            refine AOps.s 86 rfl rfl rfl (q_bin rfl rfl rfl rfl) ?_
            refine AOps.s 85 rfl rfl rfl (q_move (.inr rfl) rfl) ?_
            refine AOps.nil ?_
            refine AGo.split 85 rfl (fun hb7 => ?_) (fun hb7 => ?_)
            · -- True
              refine AGo.cond_true true rfl rfl ?_
              refine AGo.skip ?_
              refine AGo.cond_true true rfl rfl ?_
              refine AGo.seq ?_
              refine AGo.seq ?_
              refine AGo.draw mix ?_
              have ho : t.op = 6 ∨ t.op = 7 := by simp_all
              have har := ht.arr ho
              have ha := ht.a (by rcases ho with ho | ho <;> simp [use1, use2, ho])
              have hwa := rget_w hr t.a
              have hwa1 := hwa.1
              have hwa2 := hwa.2
              refine DOps.s 88 rfl rfl rfl (q_move (.inl rfl) rfl) ?_
              refine DOps.s 89 rfl rfl rfl (q_fieldAddr tok rfl rfl rfl rfl rfl rfl) ?_
              refine DOps.s 90 rfl rfl rfl (q_load tok rfl rfl rfl (by first | exact .loc _ | exact .ptr _ _ _ _ _ _ _ _ rfl rfl rfl) rfl) ?_
              refine DOps.s 91 rfl rfl rfl (q_index_ref tok rfl rfl rfl rfl rfl rfl rfl (by rw [regCells_len, hlen]) rfl ha.1 (by have := ha.2; omega)) ?_
              refine DOps.s 92 rfl rfl rfl (q_load tok rfl rfl rfl (.ptr _ _ _ _ _ _ _ _ rfl (by rw [regCells_len, hlen]) (rcell (by have := ha; omega))) rfl) ?_
              refine DOps.s 93 rfl rfl rfl (q_convTo tok rfl rfl rfl rfl rfl (r := rget regs t.a) (by rw [IntKind.wrap_u64]; omega)) ?_
              refine DOps.s 94 rfl rfl rfl (q_fieldAddr tok rfl rfl rfl rfl rfl rfl) ?_
              refine DOps.s 95 rfl rfl rfl (q_load tok rfl rfl rfl (by first | exact .loc _ | exact .ptr _ _ _ _ _ _ _ _ rfl rfl rfl) rfl) ?_
              refine DOps.s 96 rfl rfl rfl (q_convTo tok rfl rfl rfl rfl rfl (r := t.size) (by rw [IntKind.wrap_u64]; omega)) ?_
              refine DOps.s 97 rfl rfl rfl (q_bin rfl rfl rfl rfl) ?_
              refine DOps.nil (by kernel_rfl) ?_
              refine AGo.split 97 rfl (fun hb8 => ?_) (fun hb8 => ?_)
              · -- True
                refine AGo.cond_true true rfl rfl ?_
                have hsz := hb8
                refine AGo.seq ?_
                refine AGo.region ?_
                refine AOps.s 98 rfl rfl rfl (q_move (.inl rfl) rfl) ?_
                refine AOps.s 99 rfl rfl rfl (q_nilCheck rfl rfl rfl) ?_
                refine AOps.s 100 rfl rfl rfl (q_fieldAddr tok rfl rfl rfl rfl rfl rfl) ?_
                refine AOps.w rfl rfl (o_store tok rfl rfl rfl rfl rfl rfl rfl rfl rfl (by decide) rfl (by first | exact fun _ => rfl | (intro h; cases h))) ?_
                refine AOps.nil ?_
                refine AGo.ret ?_
                refine ⟨[], trivial, rfl, ?_⟩
                rw [mone67z ho hsz]
                exact HSub.put (HSub.put (HSub.put (HSub.put (HSub.none _) rfl) rfl) rfl) rfl
              · -- False
                refine AGo.cond_false false rfl rfl ?_
                have hsz := hb8
                have hsz2 : rget regs t.a < t.size := by simpa using hb8
                have hidx : 0 ≤ t.base + rget regs t.a ∧ t.base + rget regs t.a < b.words.toNat := by omega
                refine AGo.skip ?_
                refine AGo.seq ?_
                refine AGo.region ?_
                refine AOps.s 101 rfl rfl rfl (q_fieldAddr tok rfl rfl rfl rfl rfl rfl) ?_
                refine AOps.s 102 rfl rfl rfl (q_load tok rfl rfl rfl (by first | exact .loc _ | exact .ptr _ _ _ _ _ _ _ _ rfl rfl rfl) rfl) ?_
                refine AOps.s 103 rfl rfl rfl (q_bin rfl rfl rfl rfl) ?_
                refine AOps.nil ?_
                refine AGo.split 103 rfl (fun hb9 => ?_) (fun hb9 => ?_)
                · -- True
                  refine AGo.cond_true true rfl rfl ?_
                  have ho6 : t.op = 6 := by simpa using hb9
                  have hd := ht.d (by simp [setsOp, ho6])
                  refine AGo.draw mix ?_
                  refine DOps.s 104 rfl rfl rfl (q_move (.inl rfl) rfl) ?_
                  refine DOps.s 105 rfl rfl rfl (q_fieldAddr tok rfl rfl rfl rfl rfl rfl) ?_
                  refine DOps.s 106 rfl rfl rfl (q_load tok rfl rfl rfl (by first | exact .loc _ | exact .ptr _ _ _ _ _ _ _ _ rfl rfl rfl) rfl) ?_
                  refine DOps.s 107 rfl rfl rfl (q_move (.inl rfl) rfl) ?_
                  refine DOps.s 108 rfl rfl rfl (q_nilCheck rfl rfl rfl) ?_
                  refine DOps.s 109 rfl rfl rfl (q_fieldAddr tok rfl rfl rfl rfl rfl rfl) ?_
                  refine DOps.s 110 rfl rfl rfl (q_load tok rfl rfl rfl (by first | exact .loc _ | exact .ptr _ _ _ _ _ _ _ _ rfl rfl rfl) rfl) ?_
                  refine DOps.s 111 rfl rfl rfl (q_fieldAddr tok rfl rfl rfl rfl rfl rfl) ?_
                  refine DOps.s 112 rfl rfl rfl (q_load tok rfl rfl rfl (by first | exact .loc _ | exact .ptr _ _ _ _ _ _ _ _ rfl rfl rfl) rfl) ?_
                  refine DOps.s 113 rfl rfl rfl (q_move (.inl rfl) rfl) ?_
                  refine DOps.s 114 rfl rfl rfl (q_fieldAddr tok rfl rfl rfl rfl rfl rfl) ?_
                  refine DOps.s 115 rfl rfl rfl (q_load tok rfl rfl rfl (by first | exact .loc _ | exact .ptr _ _ _ _ _ _ _ _ rfl rfl rfl) rfl) ?_
                  refine DOps.s 116 rfl rfl rfl (q_index_ref tok rfl rfl rfl rfl rfl rfl rfl (by rw [regCells_len, hlen]) rfl ha.1 (by have := ha.2; omega)) ?_
                  refine DOps.s 117 rfl rfl rfl (q_load tok rfl rfl rfl (.ptr _ _ _ _ _ _ _ _ rfl (by rw [regCells_len, hlen]) (rcell (by have := ha; omega))) rfl) ?_
                  refine DOps.s 118 rfl rfl rfl (q_convTo tok rfl rfl rfl rfl rfl (r := rget regs t.a) (by exact wrap_i64 (by omega) (by omega))) ?_
                  refine DOps.s 119 rfl rfl rfl (q_bin (r := .int .i64 (t.base + rget regs t.a)) rfl rfl rfl (by simp only [evalBin, evalInt, isShift, cond_false, if_true]; rw [wrap_i64 (by omega) (by omega)])) ?_
                  refine DOps.s 120 rfl rfl rfl (q_index_ref tok rfl rfl rfl rfl rfl rfl rfl (by rw [regCells_len, hm.len]) rfl hidx.1 (by have := hidx.2; omega)) ?_
                  refine DOps.s 121 rfl rfl rfl (q_load tok rfl rfl rfl (.ptr _ _ _ _ _ _ _ _ rfl (by rw [regCells_len, hm.len]) (rcell (by have := hidx; have := hm.len; omega))) rfl) ?_
                  refine DOps.s 122 rfl rfl rfl (q_index_ref tok rfl rfl rfl rfl rfl rfl rfl (by rw [regCells_len, hlen]) rfl hd.1 (by have := hd.2; omega)) ?_
                  refine DOps.w rfl rfl (o_store tok rfl rfl rfl rfl rfl rfl (by rw [regCells_len, hlen]) (rcell (by have := hd; omega)) rfl (by decide) rfl (by first | exact fun _ => rfl | (intro h; cases h))) ?_
                  refine DOps.nil (by kernel_rfl) ?_
                  refine ⟨[], trivial, rfl, ?_⟩
                  rw [mone6 ho6 hsz]
                  exact HSub.put (HSub.put (HSub.put (HSub.put (HSub.none _) rfl) rfl) rfl) (by first | rfl | exact congrArg (fun es => some (AObj.row true 1 es)) (rcell_set _ _ _) | exact congrArg (fun es => some (AObj.row true 1 es)) (rcell_set2 _ _ _ _))
                · -- False
                  refine AGo.cond_false false rfl rfl ?_
                  have ho7 : t.op = 7 := by have h := hb9; simp at h; omega
                  have hb := ht.b (by simp [use2, ho7])
                  refine AGo.draw mix ?_
                  refine DOps.s 123 rfl rfl rfl (q_move (.inl rfl) rfl) ?_
                  refine DOps.s 124 rfl rfl rfl (q_nilCheck rfl rfl rfl) ?_
                  refine DOps.s 125 rfl rfl rfl (q_fieldAddr tok rfl rfl rfl rfl rfl rfl) ?_
                  refine DOps.s 126 rfl rfl rfl (q_load tok rfl rfl rfl (by first | exact .loc _ | exact .ptr _ _ _ _ _ _ _ _ rfl rfl rfl) rfl) ?_
                  refine DOps.s 127 rfl rfl rfl (q_fieldAddr tok rfl rfl rfl rfl rfl rfl) ?_
                  refine DOps.s 128 rfl rfl rfl (q_load tok rfl rfl rfl (by first | exact .loc _ | exact .ptr _ _ _ _ _ _ _ _ rfl rfl rfl) rfl) ?_
                  refine DOps.s 129 rfl rfl rfl (q_move (.inl rfl) rfl) ?_
                  refine DOps.s 130 rfl rfl rfl (q_fieldAddr tok rfl rfl rfl rfl rfl rfl) ?_
                  refine DOps.s 131 rfl rfl rfl (q_load tok rfl rfl rfl (by first | exact .loc _ | exact .ptr _ _ _ _ _ _ _ _ rfl rfl rfl) rfl) ?_
                  refine DOps.s 132 rfl rfl rfl (q_index_ref tok rfl rfl rfl rfl rfl rfl rfl (by rw [regCells_len, hlen]) rfl ha.1 (by have := ha.2; omega)) ?_
                  refine DOps.s 133 rfl rfl rfl (q_load tok rfl rfl rfl (.ptr _ _ _ _ _ _ _ _ rfl (by rw [regCells_len, hlen]) (rcell (by have := ha; omega))) rfl) ?_
                  refine DOps.s 134 rfl rfl rfl (q_convTo tok rfl rfl rfl rfl rfl (r := rget regs t.a) (by exact wrap_i64 (by omega) (by omega))) ?_
                  refine DOps.s 135 rfl rfl rfl (q_bin (r := .int .i64 (t.base + rget regs t.a)) rfl rfl rfl (by simp only [evalBin, evalInt, isShift, cond_false, if_true]; rw [wrap_i64 (by omega) (by omega)])) ?_
                  refine DOps.s 136 rfl rfl rfl (q_move (.inl rfl) rfl) ?_
                  refine DOps.s 137 rfl rfl rfl (q_fieldAddr tok rfl rfl rfl rfl rfl rfl) ?_
                  refine DOps.s 138 rfl rfl rfl (q_load tok rfl rfl rfl (by first | exact .loc _ | exact .ptr _ _ _ _ _ _ _ _ rfl rfl rfl) rfl) ?_
                  refine DOps.s 139 rfl rfl rfl (q_index_ref tok rfl rfl rfl rfl rfl rfl rfl (by rw [regCells_len, hlen]) rfl hb.1 (by have := hb.2; omega)) ?_
                  refine DOps.s 140 rfl rfl rfl (q_load tok rfl rfl rfl (.ptr _ _ _ _ _ _ _ _ rfl (by rw [regCells_len, hlen]) (rcell (by have := hb; omega))) rfl) ?_
                  refine DOps.s 141 rfl rfl rfl (q_index_ref tok rfl rfl rfl rfl rfl rfl rfl (by rw [regCells_len, hm.len]) rfl hidx.1 (by have := hidx.2; omega)) ?_
                  refine DOps.w rfl rfl (o_store tok rfl rfl rfl rfl rfl rfl (by rw [regCells_len, hm.len]) (rcell (by have := hidx; have := hm.len; omega)) rfl (by decide) rfl (by first | exact fun _ => rfl | (intro h; cases h))) ?_
                  refine DOps.nil (by kernel_rfl) ?_
                  refine ⟨[], trivial, rfl, ?_⟩
                  rw [mone7 ho7 hsz]
                  exact HSub.put (HSub.put (HSub.put (HSub.put (HSub.none _) rfl) (by first | rfl | exact congrArg (fun es => some (AObj.row true 1 es)) (rcell_set _ _ _) | exact congrArg (fun es => some (AObj.row true 1 es)) (rcell_set2 _ _ _ _))) rfl) rfl
            · -- False
              refine AGo.cond_false false rfl rfl ?_
              refine AGo.region ?_
              refine AOps.s 87 rfl rfl rfl (q_bin rfl rfl rfl rfl) ?_
              refine AOps.s 85 rfl rfl rfl (q_move (.inr rfl) rfl) ?_
              refine AOps.nil ?_
              refine AGo.split 85 rfl (fun hb10 => ?_) (fun hb10 => ?_)
              · -- True
                refine AGo.cond_true true rfl rfl ?_
                refine AGo.seq ?_
                refine AGo.seq ?_
                refine AGo.draw mix ?_
                have ho : t.op = 6 ∨ t.op = 7 := by simp_all
                have har := ht.arr ho
                have ha := ht.a (by rcases ho with ho | ho <;> simp [use1, use2, ho])
                have hwa := rget_w hr t.a
                have hwa1 := hwa.1
                have hwa2 := hwa.2
                refine DOps.s 88 rfl rfl rfl (q_move (.inl rfl) rfl) ?_
                refine DOps.s 89 rfl rfl rfl (q_fieldAddr tok rfl rfl rfl rfl rfl rfl) ?_
                refine DOps.s 90 rfl rfl rfl (q_load tok rfl rfl rfl (by first | exact .loc _ | exact .ptr _ _ _ _ _ _ _ _ rfl rfl rfl) rfl) ?_
                refine DOps.s 91 rfl rfl rfl (q_index_ref tok rfl rfl rfl rfl rfl rfl rfl (by rw [regCells_len, hlen]) rfl ha.1 (by have := ha.2; omega)) ?_
                refine DOps.s 92 rfl rfl rfl (q_load tok rfl rfl rfl (.ptr _ _ _ _ _ _ _ _ rfl (by rw [regCells_len, hlen]) (rcell (by have := ha; omega))) rfl) ?_
                refine DOps.s 93 rfl rfl rfl (q_convTo tok rfl rfl rfl rfl rfl (r := rget regs t.a) (by rw [IntKind.wrap_u64]; omega)) ?_
                refine DOps.s 94 rfl rfl rfl (q_fieldAddr tok rfl rfl rfl rfl rfl rfl) ?_
                refine DOps.s 95 rfl rfl rfl (q_load tok rfl rfl rfl (by first | exact .loc _ | exact .ptr _ _ _ _ _ _ _ _ rfl rfl rfl) rfl) ?_
                refine DOps.s 96 rfl rfl rfl (q_convTo tok rfl rfl rfl rfl rfl (r := t.size) (by rw [IntKind.wrap_u64]; omega)) ?_
                refine DOps.s 97 rfl rfl rfl (q_bin rfl rfl rfl rfl) ?_
                refine DOps.nil (by kernel_rfl) ?_
                refine AGo.split 97 rfl (fun hb11 => ?_) (fun hb11 => ?_)
                · -- True
                  refine AGo.cond_true true rfl rfl ?_
                  have hsz := hb11
                  refine AGo.seq ?_
                  refine AGo.region ?_
                  refine AOps.s 98 rfl rfl rfl (q_move (.inl rfl) rfl) ?_
                  refine AOps.s 99 rfl rfl rfl (q_nilCheck rfl rfl rfl) ?_
                  refine AOps.s 100 rfl rfl rfl (q_fieldAddr tok rfl rfl rfl rfl rfl rfl) ?_
                  refine AOps.w rfl rfl (o_store tok rfl rfl rfl rfl rfl rfl rfl rfl rfl (by decide) rfl (by first | exact fun _ => rfl | (intro h; cases h))) ?_
                  refine AOps.nil ?_
                  refine AGo.ret ?_
                  refine ⟨[], trivial, rfl, ?_⟩
                  rw [mone67z ho hsz]
                  exact HSub.put (HSub.put (HSub.put (HSub.put (HSub.none _) rfl) rfl) rfl) rfl
                · -- False
                  refine AGo.cond_false false rfl rfl ?_
                  have hsz := hb11
                  have hsz2 : rget regs t.a < t.size := by simpa using hb11
                  have hidx : 0 ≤ t.base + rget regs t.a ∧ t.base + rget regs t.a < b.words.toNat := by omega
                  refine AGo.skip ?_
                  refine AGo.seq ?_
                  refine AGo.region ?_
                  refine AOps.s 101 rfl rfl rfl (q_fieldAddr tok rfl rfl rfl rfl rfl rfl) ?_
                  refine AOps.s 102 rfl rfl rfl (q_load tok rfl rfl rfl (by first | exact .loc _ | exact .ptr _ _ _ _ _ _ _ _ rfl rfl rfl) rfl) ?_
                  refine AOps.s 103 rfl rfl rfl (q_bin rfl rfl rfl rfl) ?_
                  refine AOps.nil ?_
                  refine AGo.split 103 rfl (fun hb12 => ?_) (fun hb12 => ?_)
                  · -- True
                    refine AGo.cond_true true rfl rfl ?_
                    have ho6 : t.op = 6 := by simpa using hb12
                    have hd := ht.d (by simp [setsOp, ho6])
                    refine AGo.draw mix ?_
                    refine DOps.s 104 rfl rfl rfl (q_move (.inl rfl) rfl) ?_
                    refine DOps.s 105 rfl rfl rfl (q_fieldAddr tok rfl rfl rfl rfl rfl rfl) ?_
                    refine DOps.s 106 rfl rfl rfl (q_load tok rfl rfl rfl (by first | exact .loc _ | exact .ptr _ _ _ _ _ _ _ _ rfl rfl rfl) rfl) ?_
                    refine DOps.s 107 rfl rfl rfl (q_move (.inl rfl) rfl) ?_
                    refine DOps.s 108 rfl rfl rfl (q_nilCheck rfl rfl rfl) ?_
                    refine DOps.s 109 rfl rfl rfl (q_fieldAddr tok rfl rfl rfl rfl rfl rfl) ?_
                    refine DOps.s 110 rfl rfl rfl (q_load tok rfl rfl rfl (by first | exact .loc _ | exact .ptr _ _ _ _ _ _ _ _ rfl rfl rfl) rfl) ?_
                    refine DOps.s 111 rfl rfl rfl (q_fieldAddr tok rfl rfl rfl rfl rfl rfl) ?_
                    refine DOps.s 112 rfl rfl rfl (q_load tok rfl rfl rfl (by first | exact .loc _ | exact .ptr _ _ _ _ _ _ _ _ rfl rfl rfl) rfl) ?_
                    refine DOps.s 113 rfl rfl rfl (q_move (.inl rfl) rfl) ?_
                    refine DOps.s 114 rfl rfl rfl (q_fieldAddr tok rfl rfl rfl rfl rfl rfl) ?_
                    refine DOps.s 115 rfl rfl rfl (q_load tok rfl rfl rfl (by first | exact .loc _ | exact .ptr _ _ _ _ _ _ _ _ rfl rfl rfl) rfl) ?_
                    refine DOps.s 116 rfl rfl rfl (q_index_ref tok rfl rfl rfl rfl rfl rfl rfl (by rw [regCells_len, hlen]) rfl ha.1 (by have := ha.2; omega)) ?_
                    refine DOps.s 117 rfl rfl rfl (q_load tok rfl rfl rfl (.ptr _ _ _ _ _ _ _ _ rfl (by rw [regCells_len, hlen]) (rcell (by have := ha; omega))) rfl) ?_
                    refine DOps.s 118 rfl rfl rfl (q_convTo tok rfl rfl rfl rfl rfl (r := rget regs t.a) (by exact wrap_i64 (by omega) (by omega))) ?_
                    refine DOps.s 119 rfl rfl rfl (q_bin (r := .int .i64 (t.base + rget regs t.a)) rfl rfl rfl (by simp only [evalBin, evalInt, isShift, cond_false, if_true]; rw [wrap_i64 (by omega) (by omega)])) ?_
                    refine DOps.s 120 rfl rfl rfl (q_index_ref tok rfl rfl rfl rfl rfl rfl rfl (by rw [regCells_len, hm.len]) rfl hidx.1 (by have := hidx.2; omega)) ?_
                    refine DOps.s 121 rfl rfl rfl (q_load tok rfl rfl rfl (.ptr _ _ _ _ _ _ _ _ rfl (by rw [regCells_len, hm.len]) (rcell (by have := hidx; have := hm.len; omega))) rfl) ?_
                    refine DOps.s 122 rfl rfl rfl (q_index_ref tok rfl rfl rfl rfl rfl rfl rfl (by rw [regCells_len, hlen]) rfl hd.1 (by have := hd.2; omega)) ?_
                    refine DOps.w rfl rfl (o_store tok rfl rfl rfl rfl rfl rfl (by rw [regCells_len, hlen]) (rcell (by have := hd; omega)) rfl (by decide) rfl (by first | exact fun _ => rfl | (intro h; cases h))) ?_
                    refine DOps.nil (by kernel_rfl) ?_
                    refine ⟨[], trivial, rfl, ?_⟩
                    rw [mone6 ho6 hsz]
                    exact HSub.put (HSub.put (HSub.put (HSub.put (HSub.none _) rfl) rfl) rfl) (by first | rfl | exact congrArg (fun es => some (AObj.row true 1 es)) (rcell_set _ _ _) | exact congrArg (fun es => some (AObj.row true 1 es)) (rcell_set2 _ _ _ _))
                  · -- False
                    refine AGo.cond_false false rfl rfl ?_
                    have ho7 : t.op = 7 := by have h := hb12; simp at h; omega
                    have hb := ht.b (by simp [use2, ho7])
                    refine AGo.draw mix ?_
                    refine DOps.s 123 rfl rfl rfl (q_move (.inl rfl) rfl) ?_
                    refine DOps.s 124 rfl rfl rfl (q_nilCheck rfl rfl rfl) ?_
                    refine DOps.s 125 rfl rfl rfl (q_fieldAddr tok rfl rfl rfl rfl rfl rfl) ?_
                    refine DOps.s 126 rfl rfl rfl (q_load tok rfl rfl rfl (by first | exact .loc _ | exact .ptr _ _ _ _ _ _ _ _ rfl rfl rfl) rfl) ?_
                    refine DOps.s 127 rfl rfl rfl (q_fieldAddr tok rfl rfl rfl rfl rfl rfl) ?_
                    refine DOps.s 128 rfl rfl rfl (q_load tok rfl rfl rfl (by first | exact .loc _ | exact .ptr _ _ _ _ _ _ _ _ rfl rfl rfl) rfl) ?_
                    refine DOps.s 129 rfl rfl rfl (q_move (.inl rfl) rfl) ?_
                    refine DOps.s 130 rfl rfl rfl (q_fieldAddr tok rfl rfl rfl rfl rfl rfl) ?_
                    refine DOps.s 131 rfl rfl rfl (q_load tok rfl rfl rfl (by first | exact .loc _ | exact .ptr _ _ _ _ _ _ _ _ rfl rfl rfl) rfl) ?_
                    refine DOps.s 132 rfl rfl rfl (q_index_ref tok rfl rfl rfl rfl rfl rfl rfl (by rw [regCells_len, hlen]) rfl ha.1 (by have := ha.2; omega)) ?_
                    refine DOps.s 133 rfl rfl rfl (q_load tok rfl rfl rfl (.ptr _ _ _ _ _ _ _ _ rfl (by rw [regCells_len, hlen]) (rcell (by have := ha; omega))) rfl) ?_
                    refine DOps.s 134 rfl rfl rfl (q_convTo tok rfl rfl rfl rfl rfl (r := rget regs t.a) (by exact wrap_i64 (by omega) (by omega))) ?_
                    refine DOps.s 135 rfl rfl rfl (q_bin (r := .int .i64 (t.base + rget regs t.a)) rfl rfl rfl (by simp only [evalBin, evalInt, isShift, cond_false, if_true]; rw [wrap_i64 (by omega) (by omega)])) ?_
                    refine DOps.s 136 rfl rfl rfl (q_move (.inl rfl) rfl) ?_
                    refine DOps.s 137 rfl rfl rfl (q_fieldAddr tok rfl rfl rfl rfl rfl rfl) ?_
                    refine DOps.s 138 rfl rfl rfl (q_load tok rfl rfl rfl (by first | exact .loc _ | exact .ptr _ _ _ _ _ _ _ _ rfl rfl rfl) rfl) ?_
                    refine DOps.s 139 rfl rfl rfl (q_index_ref tok rfl rfl rfl rfl rfl rfl rfl (by rw [regCells_len, hlen]) rfl hb.1 (by have := hb.2; omega)) ?_
                    refine DOps.s 140 rfl rfl rfl (q_load tok rfl rfl rfl (.ptr _ _ _ _ _ _ _ _ rfl (by rw [regCells_len, hlen]) (rcell (by have := hb; omega))) rfl) ?_
                    refine DOps.s 141 rfl rfl rfl (q_index_ref tok rfl rfl rfl rfl rfl rfl rfl (by rw [regCells_len, hm.len]) rfl hidx.1 (by have := hidx.2; omega)) ?_
                    refine DOps.w rfl rfl (o_store tok rfl rfl rfl rfl rfl rfl (by rw [regCells_len, hm.len]) (rcell (by have := hidx; have := hm.len; omega)) rfl (by decide) rfl (by first | exact fun _ => rfl | (intro h; cases h))) ?_
                    refine DOps.nil (by kernel_rfl) ?_
                    refine ⟨[], trivial, rfl, ?_⟩
                    rw [mone7 ho7 hsz]
                    exact HSub.put (HSub.put (HSub.put (HSub.put (HSub.none _) rfl) (by first | rfl | exact congrArg (fun es => some (AObj.row true 1 es)) (rcell_set _ _ _) | exact congrArg (fun es => some (AObj.row true 1 es)) (rcell_set2 _ _ _ _))) rfl) rfl
              · -- False
                refine AGo.cond_false false rfl rfl ?_
                refine AGo.seq ?_
                refine AGo.region ?_
                refine AOps.s 143 rfl rfl rfl (q_bin rfl rfl rfl rfl) ?_
                refine AOps.s 142 rfl rfl rfl (q_move (.inr rfl) rfl) ?_
                refine AOps.nil ?_
                refine AGo.split 142 rfl (fun hb13 => ?_) (fun hb13 => ?_)
                · -- True
                  refine AGo.cond_true true rfl rfl ?_
                  have ho : t.op = 8 := by simpa using hb13
                  have hd := ht.d (by simp [setsOp, ho])
                  refine AGo.seq ?_
                  refine AGo.region ?_
                  refine AOps.s 144 rfl rfl rfl (q_move (.inl rfl) rfl) ?_
                  refine AOps.s 145 rfl rfl rfl (q_fieldAddr tok rfl rfl rfl rfl rfl rfl) ?_
                  refine AOps.s 146 rfl rfl rfl (q_load tok rfl rfl rfl (by first | exact .loc _ | exact .ptr _ _ _ _ _ _ _ _ rfl rfl rfl) rfl) ?_
                  refine AOps.s 147 rfl rfl rfl (q_index_ref tok rfl rfl rfl rfl rfl rfl rfl (by rw [regCells_len, hlen]) rfl hd.1 (by have := hd.2; omega)) ?_
                  refine AOps.w rfl rfl (o_store tok rfl rfl rfl rfl rfl rfl (by rw [regCells_len, hlen]) (rcell (by have := hd; omega)) rfl (by decide) rfl (by first | exact fun _ => rfl | (intro h; cases h))) ?_
                  refine AOps.nil ?_
                  refine AGo.seq ?_
                  refine AGo.draw mix ?_
                  refine DOps.s 148 rfl rfl rfl (q_move (.inl rfl) rfl) ?_
                  refine DOps.s 149 rfl rfl rfl (q_nilCheck rfl rfl rfl) ?_
                  refine DOps.s 150 rfl rfl rfl (q_fieldAddr tok rfl rfl rfl rfl rfl rfl) ?_
                  refine DOps.s 151 rfl rfl rfl (q_load tok rfl rfl rfl (by first | exact .loc _ | exact .ptr _ _ _ _ _ _ _ _ rfl rfl rfl) rfl) ?_
                  refine DOps.s 152 rfl rfl rfl (q_move (.inl rfl) rfl) ?_
                  refine DOps.s 153 rfl rfl rfl (q_nilCheck rfl rfl rfl) ?_
                  refine DOps.s 154 rfl rfl rfl (q_fieldAddr tok rfl rfl rfl rfl rfl rfl) ?_
                  refine DOps.s 155 rfl rfl rfl (q_load tok rfl rfl rfl (by first | exact .loc _ | exact .ptr _ _ _ _ _ _ _ _ rfl rfl rfl) rfl) ?_
                  refine DOps.s 156 rfl rfl rfl (q_len tok rfl rfl rfl rfl rfl) ?_
                  refine DOps.s 157 rfl rfl rfl (q_bin rfl rfl rfl rfl) ?_
                  refine DOps.nil (by kernel_rfl) ?_
                  refine AGo.split 157 rfl (fun hb14 => ?_) (fun hb14 => ?_)
                  · -- True
                    refine AGo.cond_true true rfl rfl ?_
                    have hrd : m.read < s.size := by have h := hb14; simp at h; omega
                    refine AGo.seq ?_
                    refine AGo.draw mix ?_
                    refine DOps.s 158 rfl rfl rfl (q_move (.inl rfl) rfl) ?_
                    refine DOps.s 159 rfl rfl rfl (q_fieldAddr tok rfl rfl rfl rfl rfl rfl) ?_
                    refine DOps.s 160 rfl rfl rfl (q_load tok rfl rfl rfl (by first | exact .loc _ | exact .ptr _ _ _ _ _ _ _ _ rfl rfl rfl) rfl) ?_
                    refine DOps.s 161 rfl rfl rfl (q_move (.inl rfl) rfl) ?_
                    refine DOps.s 162 rfl rfl rfl (q_nilCheck rfl rfl rfl) ?_
                    refine DOps.s 163 rfl rfl rfl (q_fieldAddr tok rfl rfl rfl rfl rfl rfl) ?_
                    refine DOps.s 164 rfl rfl rfl (q_load tok rfl rfl rfl (by first | exact .loc _ | exact .ptr _ _ _ _ _ _ _ _ rfl rfl rfl) rfl) ?_
                    refine DOps.s 165 rfl rfl rfl (q_move (.inl rfl) rfl) ?_
                    refine DOps.s 166 rfl rfl rfl (q_nilCheck rfl rfl rfl) ?_
                    refine DOps.s 167 rfl rfl rfl (q_fieldAddr tok rfl rfl rfl rfl rfl rfl) ?_
                    refine DOps.s 168 rfl rfl rfl (q_load tok rfl rfl rfl (by first | exact .loc _ | exact .ptr _ _ _ _ _ _ _ _ rfl rfl rfl) rfl) ?_
                    refine DOps.s 169 rfl rfl rfl (q_index_str (c := inAt s m.read) tok rfl rfl rfl rfl rfl (Int.natCast_nonneg _) (inAt_get hrd)) ?_
                    refine DOps.s 170 rfl rfl rfl (q_convTo tok rfl rfl rfl rfl rfl (r := ((inAt s m.read).toNat : Int)) (by rw [IntKind.wrap_u32]; have := (byte_w (inAt s m.read)).2; omega)) ?_
                    refine DOps.s 171 rfl rfl rfl (q_index_ref tok rfl rfl rfl rfl rfl rfl rfl (by rw [List.length_set, regCells_len, hlen]) rfl hd.1 (by have := hd.2; omega)) ?_
                    refine DOps.w rfl rfl (o_store tok rfl rfl rfl rfl rfl rfl (by rw [List.length_set, regCells_len, hlen]) (get_set_self (rcell (by have := hd; omega))) rfl (by decide) rfl (by first | exact fun _ => rfl | (intro h; cases h))) ?_
                    refine DOps.nil (by kernel_rfl) ?_
                    refine AGo.region ?_
                    refine AOps.s 172 rfl rfl rfl (q_move (.inl rfl) rfl) ?_
                    refine AOps.s 173 rfl rfl rfl (q_nilCheck rfl rfl rfl) ?_
                    refine AOps.s 174 rfl rfl rfl (q_fieldAddr tok rfl rfl rfl rfl rfl rfl) ?_
                    refine AOps.s 175 rfl rfl rfl (q_load tok rfl rfl rfl (by first | exact .loc _ | exact .ptr _ _ _ _ _ _ _ _ rfl rfl rfl) rfl) ?_
                    refine AOps.s 176 rfl rfl rfl (q_inc rfl rfl hrd (by simp only [maxLen]; omega)) ?_
                    refine AOps.s 177 rfl rfl rfl (q_nilCheck rfl rfl rfl) ?_
                    refine AOps.s 178 rfl rfl rfl (q_fieldAddr tok rfl rfl rfl rfl rfl rfl) ?_
                    refine AOps.w rfl rfl (o_store tok rfl rfl rfl rfl rfl rfl rfl rfl rfl (by decide) rfl (by first | exact fun _ => rfl | (intro h; cases h))) ?_
                    refine AOps.nil ?_
                    refine ⟨[], trivial, rfl, ?_⟩
                    rw [mone8 ho hrd]
                    exact HSub.put (HSub.put (HSub.put (HSub.put (HSub.none _) rfl) rfl) rfl) (by first | rfl | exact congrArg (fun es => some (AObj.row true 1 es)) (rcell_set _ _ _) | exact congrArg (fun es => some (AObj.row true 1 es)) (rcell_set2 _ _ _ _))
                  · -- False
                    refine AGo.cond_false false rfl rfl ?_
                    have hrd : ¬ m.read < s.size := by have h := hb14; simp at h; omega
                    refine AGo.skip ?_
                    refine ⟨[], trivial, rfl, ?_⟩
                    rw [mone8z ho hrd]
                    exact HSub.put (HSub.put (HSub.put (HSub.put (HSub.none _) rfl) rfl) rfl) (by first | rfl | exact congrArg (fun es => some (AObj.row true 1 es)) (rcell_set _ _ _) | exact congrArg (fun es => some (AObj.row true 1 es)) (rcell_set2 _ _ _ _))
                · -- False
                  refine AGo.cond_false false rfl rfl ?_
                  refine AGo.seq ?_
                  refine AGo.region ?_
                  refine AOps.s 180 rfl rfl rfl (q_bin rfl rfl rfl rfl) ?_
                  refine AOps.s 179 rfl rfl rfl (q_move (.inr rfl) rfl) ?_
                  refine AOps.nil ?_
                  refine AGo.split 179 rfl (fun hb15 => ?_) (fun hb15 => ?_)
                  · -- True
                    refine AGo.cond_true true rfl rfl ?_
                    have ho : t.op = 9 := by simpa using hb15
                    have ha := ht.a (by simp [use1, use2, ho])
                    have hwa := rget_w hr t.a
                    have hwa1 := hwa.1
                    have hwa2 := hwa.2
                    refine AGo.seq ?_
                    refine AGo.seq ?_
                    refine AGo.region ?_
                    refine AOps.s 181 rfl rfl rfl (q_move (.inl rfl) rfl) ?_
                    refine AOps.s 182 rfl rfl rfl (q_nilCheck rfl rfl rfl) ?_
                    refine AOps.s 183 rfl rfl rfl (q_fieldAddr tok rfl rfl rfl rfl rfl rfl) ?_
                    refine AOps.s 184 rfl rfl rfl (q_load tok rfl rfl rfl (by first | exact .loc _ | exact .ptr _ _ _ _ _ _ _ _ rfl rfl rfl) rfl) ?_
                    refine AOps.s 185 rfl rfl rfl (q_len tok rfl rfl rfl rfl rfl) ?_
                    refine AOps.s 186 rfl rfl rfl (q_bin rfl rfl rfl rfl) ?_
                    refine AOps.nil ?_
                    refine AGo.split 186 rfl (fun hb16 => ?_) (fun hb16 => ?_)
                    · -- True
                      refine AGo.cond_true true rfl rfl ?_
                      have hou : m.out.length ≥ 65536 := by have h := hb16; simp [byteCells] at h; omega
                      refine AGo.seq ?_
                      refine AGo.region ?_
                      refine AOps.s 187 rfl rfl rfl (q_move (.inl rfl) rfl) ?_
                      refine AOps.s 188 rfl rfl rfl (q_nilCheck rfl rfl rfl) ?_
                      refine AOps.s 189 rfl rfl rfl (q_fieldAddr tok rfl rfl rfl rfl rfl rfl) ?_
                      refine AOps.w rfl rfl (o_store tok rfl rfl rfl rfl rfl rfl rfl rfl rfl (by decide) rfl (by first | exact fun _ => rfl | (intro h; cases h))) ?_
                      refine AOps.nil ?_
                      refine AGo.ret ?_
                      refine ⟨[], trivial, rfl, ?_⟩
                      rw [mone9z ho hou]
                      exact HSub.put (HSub.put (HSub.put (HSub.put (HSub.none _) rfl) rfl) rfl) rfl
                    · -- False
                      refine AGo.cond_false false rfl rfl ?_
                      have hou : ¬ m.out.length ≥ 65536 := by have h := hb16; simp [byteCells] at h; omega
                      refine AGo.skip ?_
                      refine AGo.draw mix ?_
                      refine DOps.s 190 rfl rfl rfl (q_move (.inl rfl) rfl) ?_
                      refine DOps.s 191 rfl rfl rfl (q_move (.inl rfl) rfl) ?_
                      refine DOps.s 192 rfl rfl rfl (q_nilCheck rfl rfl rfl) ?_
                      refine DOps.s 193 rfl rfl rfl (q_fieldAddr tok rfl rfl rfl rfl rfl rfl) ?_
                      refine DOps.s 194 rfl rfl rfl (q_load tok rfl rfl rfl (by first | exact .loc _ | exact .ptr _ _ _ _ _ _ _ _ rfl rfl rfl) rfl) ?_
                      refine DOps.s 195 rfl rfl rfl (q_move (.inl rfl) rfl) ?_
                      refine DOps.s 196 rfl rfl rfl (q_fieldAddr tok rfl rfl rfl rfl rfl rfl) ?_
                      refine DOps.s 197 rfl rfl rfl (q_load tok rfl rfl rfl (by first | exact .loc _ | exact .ptr _ _ _ _ _ _ _ _ rfl rfl rfl) rfl) ?_
                      refine DOps.s 198 rfl rfl rfl (q_index_ref tok rfl rfl rfl rfl rfl rfl rfl (by rw [regCells_len, hlen]) rfl ha.1 (by have := ha.2; omega)) ?_
                      refine DOps.s 199 rfl rfl rfl (q_load tok rfl rfl rfl (.ptr _ _ _ _ _ _ _ _ rfl (by rw [regCells_len, hlen]) (rcell (by have := ha; omega))) rfl) ?_
                      refine DOps.s 200 rfl rfl rfl (q_convTo tok rfl rfl rfl rfl rfl (wrap_byte hwa)) ?_
                      refine DOps.x 201 rfl rfl rfl (o_lit' tok rfl rfl rfl rfl rfl rfl (by decide) rfl rfl rfl rfl rfl rfl) ?_
                      refine DOps.x 202 rfl rfl rfl (o_append tok (n := m.out.length) (m := 1) rfl rfl rfl rfl rfl rfl rfl rfl rfl (by simp [byteCells]) rfl rfl (Nat.zero_lt_succ _) (.lst _ _) (by intro cs h; simp [partVals] at h; subst h; rfl) (fun _ cs h => by simp [partVals] at h; subst h; rfl) rfl (by simp [byteCells, partVals]; have := hm.out; omega) (by simp [byteCells, partVals]; simp only [maxLen]; have := hm.out; omega)) ?_
                      refine DOps.s 203 rfl rfl rfl (q_nilCheck rfl rfl rfl) ?_
                      refine DOps.s 204 rfl rfl rfl (q_fieldAddr tok rfl rfl rfl rfl rfl rfl) ?_
                      refine DOps.w rfl rfl (o_store tok rfl rfl rfl rfl rfl rfl rfl rfl rfl (by decide) rfl (by first | exact fun _ => rfl | (intro h; cases h))) ?_
                      refine DOps.nil (by kernel_rfl) ?_
                      refine ⟨[], trivial, rfl, ?_⟩
                      rw [mone9 ho hou]
                      exact HSub.put (HSub.put (HSub.put (HSub.put (HSub.none _) (by first | rfl | exact congrArg (fun n => some (AObj.row false 9 [[.int .i64 b.words, funcsAV b.funcs, .str s, .int .i64 fuel, .ref 1 b.words.toNat 0 b.words.toNat, .ref 2 n 0 n, .int .i64 (m.read : Int), .int .i64 (m.steps : Int), .int .i64 m.fin]])) (by simp))) rfl) (by first | rfl | exact congrArg (fun es => some (AObj.row true 1 es)) (by simp [byteCells, partVals]; rfl))) rfl
                  · -- False
                    refine AGo.cond_false false rfl rfl ?_
                    refine AGo.seq ?_
                    refine AGo.region ?_
                    refine AOps.s 206 rfl rfl rfl (q_bin rfl rfl rfl rfl) ?_
                    refine AOps.s 205 rfl rfl rfl (q_move (.inr rfl) rfl) ?_
                    refine AOps.nil ?_
                    refine AGo.split 205 rfl (fun hb17 => ?_) (fun hb17 => ?_)
                    · -- True
                      refine AGo.cond_true true rfl rfl ?_
                      have ho : t.op = 10 := by simpa using hb17
                      have hcl := ht.call ho
                      refine AGo.region ?_
                      refine AOps.s 207 rfl rfl rfl (q_move (.inl rfl) rfl) ?_
                      refine AOps.s 208 rfl rfl rfl (q_fieldAddr tok rfl rfl rfl rfl rfl rfl) ?_
                      refine AOps.s 209 rfl rfl rfl (q_load tok rfl rfl rfl (by first | exact .loc _ | exact .ptr _ _ _ _ _ _ _ _ rfl rfl rfl) rfl) ?_
                      refine AOps.x 210 rfl rfl rfl (o_call (hc := (mheap hNew b s fuel m)) (hw := (mheap hNone b s fuel (call t.base m))) [2, 1, 0] [(0, (.row false 9 [runCells b s fuel (call t.base m)])), (1, (.row true 1 (regCells ((call t.base m)).words))), (2, (.row true 1 (byteCells ((call t.base m)).out)))] rfl Try.func39 (by kernel_rfl) rfl rfl rfl ⟨⟨_, rfl, rfl⟩, ⟨_, rfl, rfl⟩, ⟨_, rfl, rfl⟩, trivial⟩ rfl (hres_cons rfl (hres_cons rfl (hres_cons rfl (hres_nil _)))) ⟨⟨_, rfl, rfl, rfl⟩, ⟨_, rfl, rfl, rfl⟩, ⟨_, rfl, rfl, rfl⟩, trivial⟩ rfl (hcall t.base hcl.1 hcl.2)) ?_
                      refine AOps.nil ?_
                      refine ⟨[], trivial, rfl, ?_⟩
                      rw [mone10 ho]
                      exact HSub.put (HSub.put (HSub.put (HSub.put (HSub.none _) rfl) rfl) rfl) rfl
                    · -- False
                      refine AGo.cond_false false rfl rfl ?_
                      refine AGo.skip ?_
                      exact absurd ht.op (by simp_all; omega)

end Go.Proofs.Ytidfabbnobipkaa.Sv
