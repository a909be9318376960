/-
  WHAT THE DOCUMENT'S TIDYING GOES THROUGH, STEP BY STEP, IN PLAIN LEAN; A CELL OF WHICH LESS IS KNOWN: own work, over no program.
  WALKS: printed by a program of our own from the code's tree.
  WALKS: printed by a program of our own from the code's tree.
  WALKS: printed by a program of our own from the code's tree.
  WALKS: printed by a program of our own from the code's tree.
  WALKS: printed by a program of our own from the code's tree.
  WALKS: printed by a program of our own from the code's tree.
  WALKS: printed by a program of our own from the code's tree.
  WALKS: printed by a program of our own from the code's tree.
  WALKS: printed by a program of our own from the code's tree.
  WALKS: printed by a program of our own from the code's tree.
  WALKS: printed by a program of our own from the code's tree.
  WALKS: printed by a program of our own from the code's tree.
  WALKS: printed by a program of our own from the code's tree.
  WALKS: printed by a program of our own from the code's tree.
-/
import Derived.Test.YtidfabbnobipkaaPTidyChain2
namespace Go.Proofs.Ytidfabbnobipkaa.Sv
open Go
set_option linter.unusedVariables false
set_option linter.unusedSimpArgs false

section
variable {next : List (List Int)} {reach : List Bool} {a : Int} {i k : Nat} {r : Bool} {row : List Int}
end
section
variable {f : BFunc} {k : Nat}
/-- on the way along a path -/
structure FP (tk tgt : List Int) (q : FG2) : Prop where
  on : 0 ≤ q.c → FInv2 tk tgt q
  off : q.c < 0 → q.acc = tgt
def fpmu (q : FG2) : Nat := if 0 ≤ q.c then q.g + 1 else 0
theorem FP.next (hle : f.leads) {tgt : List Int} {q : FG2} (h : FP f.tk tgt q) (hc : 0 ≤ q.c) (hb : 0 ≤ iget f.tk q.c) : FP f.tk tgt ⟨iget f.tk q.c, q.acc ++ [iget f.tk q.c], q.g - 1⟩ ∧ fpmu ⟨iget f.tk q.c, q.acc ++ [iget f.tk q.c], q.g - 1⟩ < fpmu q := by
  have hin := takes_in hle f.reach
  obtain ⟨h1, h2⟩ := (h.on hc).next hin (by rw [bne_iff_ne]; show iget f.tk q.c ≠ -1; omega)
  refine ⟨⟨fun _ => h1, fun hh => absurd hb (by show ¬ _; simp only at hh; omega)⟩, ?_⟩
  unfold fpmu
  simp only [if_pos hc]
  split <;> omega
theorem FP.len {tgt tk : List Int} {q : FG2} (h : FP tk tgt q) (hc : 0 ≤ q.c) : q.acc.length ≤ tk.length + 1 := by
  have := (h.on hc).len; omega
end
def noHead (paths : List (List Int)) (a : Int) (k : Nat) : Prop := ∀ j q, j < k → paths[j]? = some q → (decide (q.length > 0) && headZ q == a) = false
theorem noHead.zero (paths : List (List Int)) (a : Int) : noHead paths a 0 := fun j q h => absurd h (Nat.not_lt_zero _)
theorem noHead.succ {paths : List (List Int)} {a : Int} {k : Nat} (h : noHead paths a k) {p : List Int} (hp : paths[k]? = some p) (hno : (decide (p.length > 0) && headZ p == a) = false) : noHead paths a (k + 1) := fun j q h1 h2 => by
  rcases Nat.lt_or_ge j k with h3 | h3
  · exact h j q h3 h2
  · have : j = k := by omega
    subst this
    rw [hp] at h2; cases h2
    exact hno
theorem noHead.none {paths : List (List Int)} {a : Int} {k : Nat} (h : noHead paths a k) (hk : paths.length ≤ k) : headI paths a = -1 := headI_none fun p hp => by
  obtain ⟨j, hj⟩ := List.getElem?_of_mem hp
  have := (List.getElem?_eq_some_iff.1 hj).1
  exact h j p (by omega) hj
end Go.Proofs.Ytidfabbnobipkaa.Sv

namespace Go.Proofs.Ytidfabbnobipkaa.Sv
open Go
set_option linter.unusedVariables false
set_option linter.unusedSimpArgs false

end Go.Proofs.Ytidfabbnobipkaa.Sv

namespace Go.Proofs.Ytidfabbnobipkaa.Sv
open Go
set_option linter.unusedVariables false
set_option linter.unusedSimpArgs false

set_option maxRecDepth 100000 in
theorem sameFunc_ok (f g : BFunc) : APure Try.prog 15 [.agg f.cells, .agg g.cells] (fun r => r = .bool (decide (f = g))) := by
  refine APure.of_body (n := 93) tok Try.func15 rfl rfl ?_
  refine AGo.seq ?_
  refine AGo.slot 0 rfl (fun H ι v => rel_bfunc) (fun hfit => ?_)
  refine AGo.region ?_
  refine AOps.x 2 rfl rfl rfl (o_box (sz := 2) 0 rfl rfl rfl rfl (Nat.zero_lt_succ _) rfl) ?_
  refine AOps.x 3 rfl rfl rfl (o_box (sz := 2) 1 rfl rfl rfl rfl (Nat.zero_lt_succ _) rfl) ?_
  refine AOps.s 4 rfl rfl rfl (q_move (.inr rfl) rfl) ?_
  refine AOps.nil ?_
  refine AGo.seq ?_
  refine AGo.seq ?_
  refine AGo.region ?_
  refine AOps.s 9 rfl rfl rfl (q_fieldAddr tok rfl rfl rfl rfl rfl rfl) ?_
  refine AOps.s 10 rfl rfl rfl (q_load tok rfl rfl rfl (by first | exact .loc _ | exact .ptr _ _ _ _ _ _ _ _ rfl rfl rfl) rfl) ?_
  refine AOps.s 11 rfl rfl rfl (q_fieldAddr tok rfl rfl rfl rfl rfl rfl) ?_
  refine AOps.s 12 rfl rfl rfl (q_load tok rfl rfl rfl (by first | exact .loc _ | exact .ptr _ _ _ _ _ _ _ _ rfl rfl rfl) rfl) ?_
  refine AOps.s 13 rfl rfl rfl (q_bin rfl rfl rfl rfl) ?_
  refine AOps.s 14 rfl rfl rfl (q_move (.inl rfl) rfl) ?_
  refine AOps.split 14 rfl (fun hb1 => ?_) (fun hb1 => ?_)
  · -- True
    refine AOps.k 15 rfl rfl rfl ?_
    refine AOps.k 16 rfl rfl rfl ?_
    refine AOps.k 17 rfl rfl rfl ?_
    refine AOps.k 18 rfl rfl rfl ?_
    refine AOps.k 19 rfl rfl rfl ?_
    refine AOps.k 20 rfl rfl rfl ?_
    refine AOps.k 21 rfl rfl rfl ?_
    refine AOps.s 22 rfl rfl rfl (q_pick_true true rfl rfl rfl rfl) ?_
    refine AOps.nil ?_
    refine AGo.cond_true true rfl rfl ?_
    refine AGo.seq ?_
    refine AGo.region ?_
    refine AOps.s 4 rfl rfl rfl (q_move (.inr rfl) rfl) ?_
    refine AOps.nil ?_
    refine AGo.ret ?_
    refine ⟨[_], ⟨rfl, trivial⟩, ?_, rfl⟩
    show AV.bool false = _
    rw [decide_eq_false (by rintro rfl; simp_all)]
  · -- False
    refine AOps.s 15 rfl rfl rfl (q_fieldAddr tok rfl rfl rfl rfl rfl rfl) ?_
    refine AOps.s 16 rfl rfl rfl (q_load tok rfl rfl rfl (by first | exact .loc _ | exact .ptr _ _ _ _ _ _ _ _ rfl rfl rfl) rfl) ?_
    refine AOps.s 17 rfl rfl rfl (q_len tok rfl rfl rfl rfl rfl) ?_
    refine AOps.s 18 rfl rfl rfl (q_fieldAddr tok rfl rfl rfl rfl rfl rfl) ?_
    refine AOps.s 19 rfl rfl rfl (q_load tok rfl rfl rfl (by first | exact .loc _ | exact .ptr _ _ _ _ _ _ _ _ rfl rfl rfl) rfl) ?_
    refine AOps.s 20 rfl rfl rfl (q_len tok rfl rfl rfl rfl rfl) ?_
    refine AOps.s 21 rfl rfl rfl (q_bin rfl rfl rfl rfl) ?_
    refine AOps.s 22 rfl rfl rfl (q_pick_false false rfl rfl rfl rfl) ?_
    refine AOps.nil ?_
    refine AGo.split 22 rfl (fun hb2 => ?_) (fun hb2 => ?_)
    · -- True
      refine AGo.cond_true true rfl rfl ?_
      refine AGo.seq ?_
      refine AGo.region ?_
      refine AOps.s 4 rfl rfl rfl (q_move (.inr rfl) rfl) ?_
      refine AOps.nil ?_
      refine AGo.ret ?_
      refine ⟨[_], ⟨rfl, trivial⟩, ?_, rfl⟩
      show AV.bool false = _
      rw [decide_eq_false (by rintro rfl; simp_all)]
    · -- False
      refine AGo.cond_false false rfl rfl ?_
      refine AGo.skip ?_
      refine AGo.seq ?_
      refine AGo.seq ?_
      refine AGo.region ?_
      refine AOps.s 5 rfl rfl rfl (q_move (.inr rfl) rfl) ?_
      refine AOps.nil ?_
      refine AGo.block ?_
      refine AGo.loopD (γ := Nat) 2 (fun k => ⟨93, (eput (eput (eput eNew 2 (.ptr 0 1 0 0)) 3 (.ptr 1 1 0 0)) 5 (.int .i64 (k : Int))), (hput (hput (hFrom 2) 0 (.row false 2 [BFunc.cells f])) 1 (.row false 2 [BFunc.cells g]))⟩) (fun k => k ≤ f.blocks.length ∧ f.regs = g.regs ∧ f.blocks.length = g.blocks.length ∧ f.blocks.take k = g.blocks.take k) (fun k => f.blocks.length - k) 0 (Sub.mk' (by repeat (first | exact ESub.new _ | refine ESub.put ?_ (by rfl))) (by repeat (first | exact HSub.none _ | exact HSub.from_new _ | exact HSub.from_from (by decide) | refine HSub.put ?_ (by rfl) | refine HSub.from_put ?_ (by decide) | refine HSub.from_rm ?_ (by decide)))) ⟨Nat.zero_le _, by simp_all, by simp_all; omega, rfl⟩ (fun _ => hput_free (hput_free (fun b hb => hFrom_free hb) rfl) rfl) ?_
      intro k ⟨hk, hr, hl, ht⟩
      refine AGo.seq ?_
      refine AGo.seq ?_
      refine AGo.region ?_
      refine AOps.s 23 rfl rfl rfl (q_move (.inl rfl) rfl) ?_
      refine AOps.s 24 rfl rfl rfl (q_fieldAddr tok rfl rfl rfl rfl rfl rfl) ?_
      refine AOps.s 25 rfl rfl rfl (q_load tok rfl rfl rfl (by first | exact .loc _ | exact .ptr _ _ _ _ _ _ _ _ rfl rfl rfl) rfl) ?_
      refine AOps.s 26 rfl rfl rfl (q_len tok rfl rfl rfl rfl rfl) ?_
      refine AOps.s 27 rfl rfl rfl (q_bin rfl rfl rfl rfl) ?_
      refine AOps.nil ?_
      refine AGo.split 27 rfl (fun hb3 => ?_) (fun hb3 => ?_)
      · -- True
        refine AGo.cond_true true rfl rfl ?_
        have hkl : k < f.blocks.length := lt_of_idx hb3
        obtain ⟨x, hx⟩ := get_of_lt hkl
        obtain ⟨y, hy⟩ := get_of_lt (l := g.blocks) (k := k) (by omega)
        refine AGo.skip ?_
        refine AGo.seq ?_
        refine AGo.block ?_
        refine AGo.seq ?_
        refine AGo.region ?_
        refine AOps.s 30 rfl rfl rfl (q_fieldAddr tok rfl rfl rfl rfl rfl rfl) ?_
        refine AOps.s 31 rfl rfl rfl (q_load tok rfl rfl rfl (by first | exact .loc _ | exact .ptr _ _ _ _ _ _ _ _ rfl rfl rfl) rfl) ?_
        refine AOps.s 32 rfl rfl rfl (q_move (.inl rfl) rfl) ?_
        refine AOps.s 33 rfl rfl rfl (q_index_lst tok rfl rfl rfl rfl rfl rfl (Int.natCast_nonneg _) (idx_map (by assumption)) rfl) ?_
        refine AOps.s 34 rfl rfl rfl (q_load tok rfl rfl rfl (by first | exact .loc _ | exact .ptr _ _ _ _ _ _ _ _ rfl rfl rfl) rfl) ?_
        refine AOps.x 6 rfl rfl rfl (o_alloc tok 2 rfl rfl rfl rfl (Nat.zero_lt_succ _) rfl) ?_
        refine AOps.w rfl rfl (o_store tok rfl rfl rfl rfl rfl rfl rfl rfl rfl (by decide) rfl (by first | exact fun _ => rfl | (intro h; cases h))) ?_
        refine AOps.nil ?_
        refine AGo.seq ?_
        refine AGo.region ?_
        refine AOps.s 35 rfl rfl rfl (q_fieldAddr tok rfl rfl rfl rfl rfl rfl) ?_
        refine AOps.s 36 rfl rfl rfl (q_load tok rfl rfl rfl (by first | exact .loc _ | exact .ptr _ _ _ _ _ _ _ _ rfl rfl rfl) rfl) ?_
        refine AOps.s 37 rfl rfl rfl (q_move (.inl rfl) rfl) ?_
        refine AOps.s 38 rfl rfl rfl (q_index_lst tok rfl rfl rfl rfl rfl rfl (Int.natCast_nonneg _) (idx_map (by assumption)) rfl) ?_
        refine AOps.s 39 rfl rfl rfl (q_load tok rfl rfl rfl (by first | exact .loc _ | exact .ptr _ _ _ _ _ _ _ _ rfl rfl rfl) rfl) ?_
        refine AOps.x 7 rfl rfl rfl (o_alloc tok 3 rfl rfl rfl rfl (Nat.zero_lt_succ _) rfl) ?_
        refine AOps.w rfl rfl (o_store tok rfl rfl rfl rfl rfl rfl rfl rfl rfl (by decide) rfl (by first | exact fun _ => rfl | (intro h; cases h))) ?_
        refine AOps.nil ?_
        refine AGo.seq ?_
        refine AGo.seq ?_
        refine AGo.region ?_
        refine AOps.s 40 rfl rfl rfl (q_fieldAddr tok rfl rfl rfl rfl rfl rfl) ?_
        refine AOps.s 41 rfl rfl rfl (q_load tok rfl rfl rfl (by first | exact .loc _ | exact .ptr _ _ _ _ _ _ _ _ rfl rfl rfl) rfl) ?_
        refine AOps.s 42 rfl rfl rfl (q_fieldAddr tok rfl rfl rfl rfl rfl rfl) ?_
        refine AOps.s 43 rfl rfl rfl (q_load tok rfl rfl rfl (by first | exact .loc _ | exact .ptr _ _ _ _ _ _ _ _ rfl rfl rfl) rfl) ?_
        refine AOps.s 44 rfl rfl rfl (q_bin rfl rfl rfl rfl) ?_
        refine AOps.s 45 rfl rfl rfl (q_move (.inl rfl) rfl) ?_
        refine AOps.split 45 rfl (fun hb4 => ?_) (fun hb4 => ?_)
        · -- True
          refine AOps.k 46 rfl rfl rfl ?_
          refine AOps.k 47 rfl rfl rfl ?_
          refine AOps.k 48 rfl rfl rfl ?_
          refine AOps.k 49 rfl rfl rfl ?_
          refine AOps.k 50 rfl rfl rfl ?_
          refine AOps.s 51 rfl rfl rfl (q_pick_true true rfl rfl rfl rfl) ?_
          refine AOps.s 52 rfl rfl rfl (q_move (.inl rfl) rfl) ?_
          refine AOps.k 53 rfl rfl rfl ?_
          refine AOps.k 54 rfl rfl rfl ?_
          refine AOps.k 55 rfl rfl rfl ?_
          refine AOps.k 56 rfl rfl rfl ?_
          refine AOps.k 57 rfl rfl rfl ?_
          refine AOps.s 58 rfl rfl rfl (q_pick_true true rfl rfl rfl rfl) ?_
          refine AOps.s 59 rfl rfl rfl (q_move (.inl rfl) rfl) ?_
          refine AOps.k 60 rfl rfl rfl ?_
          refine AOps.k 61 rfl rfl rfl ?_
          refine AOps.k 62 rfl rfl rfl ?_
          refine AOps.k 63 rfl rfl rfl ?_
          refine AOps.k 64 rfl rfl rfl ?_
          refine AOps.s 65 rfl rfl rfl (q_pick_true true rfl rfl rfl rfl) ?_
          refine AOps.s 66 rfl rfl rfl (q_move (.inl rfl) rfl) ?_
          refine AOps.k 67 rfl rfl rfl ?_
          refine AOps.k 68 rfl rfl rfl ?_
          refine AOps.k 69 rfl rfl rfl ?_
          refine AOps.k 70 rfl rfl rfl ?_
          refine AOps.k 71 rfl rfl rfl ?_
          refine AOps.k 72 rfl rfl rfl ?_
          refine AOps.k 73 rfl rfl rfl ?_
          refine AOps.s 74 rfl rfl rfl (q_pick_true true rfl rfl rfl rfl) ?_
          refine AOps.nil ?_
          refine AGo.cond_true true rfl rfl ?_
          refine AGo.seq ?_
          refine AGo.region ?_
          refine AOps.s 4 rfl rfl rfl (q_move (.inr rfl) rfl) ?_
          refine AOps.nil ?_
          refine AGo.ret ?_
          refine ⟨[_], ⟨rfl, trivial⟩, ?_, rfl⟩
          show AV.bool false = _
          rw [decide_eq_false (by rintro rfl; rw [hx] at hy; cases hy; simp_all)]
        · -- False
          refine AOps.s 46 rfl rfl rfl (q_fieldAddr tok rfl rfl rfl rfl rfl rfl) ?_
          refine AOps.s 47 rfl rfl rfl (q_load tok rfl rfl rfl (by first | exact .loc _ | exact .ptr _ _ _ _ _ _ _ _ rfl rfl rfl) rfl) ?_
          refine AOps.s 48 rfl rfl rfl (q_fieldAddr tok rfl rfl rfl rfl rfl rfl) ?_
          refine AOps.s 49 rfl rfl rfl (q_load tok rfl rfl rfl (by first | exact .loc _ | exact .ptr _ _ _ _ _ _ _ _ rfl rfl rfl) rfl) ?_
          refine AOps.s 50 rfl rfl rfl (q_bin rfl rfl rfl rfl) ?_
          refine AOps.s 51 rfl rfl rfl (q_pick_false false rfl rfl rfl rfl) ?_
          refine AOps.s 52 rfl rfl rfl (q_move (.inl rfl) rfl) ?_
          refine AOps.split 52 rfl (fun hb5 => ?_) (fun hb5 => ?_)
          · -- True
            refine AOps.k 53 rfl rfl rfl ?_
            refine AOps.k 54 rfl rfl rfl ?_
            refine AOps.k 55 rfl rfl rfl ?_
            refine AOps.k 56 rfl rfl rfl ?_
            refine AOps.k 57 rfl rfl rfl ?_
            refine AOps.s 58 rfl rfl rfl (q_pick_true true rfl rfl rfl rfl) ?_
            refine AOps.s 59 rfl rfl rfl (q_move (.inl rfl) rfl) ?_
            refine AOps.k 60 rfl rfl rfl ?_
            refine AOps.k 61 rfl rfl rfl ?_
            refine AOps.k 62 rfl rfl rfl ?_
            refine AOps.k 63 rfl rfl rfl ?_
            refine AOps.k 64 rfl rfl rfl ?_
            refine AOps.s 65 rfl rfl rfl (q_pick_true true rfl rfl rfl rfl) ?_
            refine AOps.s 66 rfl rfl rfl (q_move (.inl rfl) rfl) ?_
            refine AOps.k 67 rfl rfl rfl ?_
            refine AOps.k 68 rfl rfl rfl ?_
            refine AOps.k 69 rfl rfl rfl ?_
            refine AOps.k 70 rfl rfl rfl ?_
            refine AOps.k 71 rfl rfl rfl ?_
            refine AOps.k 72 rfl rfl rfl ?_
            refine AOps.k 73 rfl rfl rfl ?_
            refine AOps.s 74 rfl rfl rfl (q_pick_true true rfl rfl rfl rfl) ?_
            refine AOps.nil ?_
            refine AGo.cond_true true rfl rfl ?_
            refine AGo.seq ?_
            refine AGo.region ?_
            refine AOps.s 4 rfl rfl rfl (q_move (.inr rfl) rfl) ?_
            refine AOps.nil ?_
            refine AGo.ret ?_
            refine ⟨[_], ⟨rfl, trivial⟩, ?_, rfl⟩
            show AV.bool false = _
            rw [decide_eq_false (by rintro rfl; rw [hx] at hy; cases hy; simp_all)]
          · -- False
            refine AOps.s 53 rfl rfl rfl (q_fieldAddr tok rfl rfl rfl rfl rfl rfl) ?_
            refine AOps.s 54 rfl rfl rfl (q_load tok rfl rfl rfl (by first | exact .loc _ | exact .ptr _ _ _ _ _ _ _ _ rfl rfl rfl) rfl) ?_
            refine AOps.s 55 rfl rfl rfl (q_fieldAddr tok rfl rfl rfl rfl rfl rfl) ?_
            refine AOps.s 56 rfl rfl rfl (q_load tok rfl rfl rfl (by first | exact .loc _ | exact .ptr _ _ _ _ _ _ _ _ rfl rfl rfl) rfl) ?_
            refine AOps.s 57 rfl rfl rfl (q_bin rfl rfl rfl rfl) ?_
            refine AOps.s 58 rfl rfl rfl (q_pick_false false rfl rfl rfl rfl) ?_
            refine AOps.s 59 rfl rfl rfl (q_move (.inl rfl) rfl) ?_
            refine AOps.split 59 rfl (fun hb6 => ?_) (fun hb6 => ?_)
            · -- True
              refine AOps.k 60 rfl rfl rfl ?_
              refine AOps.k 61 rfl rfl rfl ?_
              refine AOps.k 62 rfl rfl rfl ?_
              refine AOps.k 63 rfl rfl rfl ?_
              refine AOps.k 64 rfl rfl rfl ?_
              refine AOps.s 65 rfl rfl rfl (q_pick_true true rfl rfl rfl rfl) ?_
              refine AOps.s 66 rfl rfl rfl (q_move (.inl rfl) rfl) ?_
              refine AOps.k 67 rfl rfl rfl ?_
              refine AOps.k 68 rfl rfl rfl ?_
              refine AOps.k 69 rfl rfl rfl ?_
              refine AOps.k 70 rfl rfl rfl ?_
              refine AOps.k 71 rfl rfl rfl ?_
              refine AOps.k 72 rfl rfl rfl ?_
              refine AOps.k 73 rfl rfl rfl ?_
              refine AOps.s 74 rfl rfl rfl (q_pick_true true rfl rfl rfl rfl) ?_
              refine AOps.nil ?_
              refine AGo.cond_true true rfl rfl ?_
              refine AGo.seq ?_
              refine AGo.region ?_
              refine AOps.s 4 rfl rfl rfl (q_move (.inr rfl) rfl) ?_
              refine AOps.nil ?_
              refine AGo.ret ?_
              refine ⟨[_], ⟨rfl, trivial⟩, ?_, rfl⟩
              show AV.bool false = _
              rw [decide_eq_false (by rintro rfl; rw [hx] at hy; cases hy; simp_all)]
            · -- False
              refine AOps.s 60 rfl rfl rfl (q_fieldAddr tok rfl rfl rfl rfl rfl rfl) ?_
              refine AOps.s 61 rfl rfl rfl (q_load tok rfl rfl rfl (by first | exact .loc _ | exact .ptr _ _ _ _ _ _ _ _ rfl rfl rfl) rfl) ?_
              refine AOps.s 62 rfl rfl rfl (q_fieldAddr tok rfl rfl rfl rfl rfl rfl) ?_
              refine AOps.s 63 rfl rfl rfl (q_load tok rfl rfl rfl (by first | exact .loc _ | exact .ptr _ _ _ _ _ _ _ _ rfl rfl rfl) rfl) ?_
              refine AOps.s 64 rfl rfl rfl (q_bin rfl rfl rfl rfl) ?_
              refine AOps.s 65 rfl rfl rfl (q_pick_false false rfl rfl rfl rfl) ?_
              refine AOps.s 66 rfl rfl rfl (q_move (.inl rfl) rfl) ?_
              refine AOps.split 66 rfl (fun hb7 => ?_) (fun hb7 => ?_)
              · -- True
                refine AOps.k 67 rfl rfl rfl ?_
                refine AOps.k 68 rfl rfl rfl ?_
                refine AOps.k 69 rfl rfl rfl ?_
                refine AOps.k 70 rfl rfl rfl ?_
                refine AOps.k 71 rfl rfl rfl ?_
                refine AOps.k 72 rfl rfl rfl ?_
                refine AOps.k 73 rfl rfl rfl ?_
                refine AOps.s 74 rfl rfl rfl (q_pick_true true rfl rfl rfl rfl) ?_
                refine AOps.nil ?_
                refine AGo.cond_true true rfl rfl ?_
                refine AGo.seq ?_
                refine AGo.region ?_
                refine AOps.s 4 rfl rfl rfl (q_move (.inr rfl) rfl) ?_
                refine AOps.nil ?_
                refine AGo.ret ?_
                refine ⟨[_], ⟨rfl, trivial⟩, ?_, rfl⟩
                show AV.bool false = _
                rw [decide_eq_false (by rintro rfl; rw [hx] at hy; cases hy; simp_all)]
              · -- False
                refine AOps.s 67 rfl rfl rfl (q_fieldAddr tok rfl rfl rfl rfl rfl rfl) ?_
                refine AOps.s 68 rfl rfl rfl (q_load tok rfl rfl rfl (by first | exact .loc _ | exact .ptr _ _ _ _ _ _ _ _ rfl rfl rfl) rfl) ?_
                refine AOps.s 69 rfl rfl rfl (q_len tok rfl rfl rfl rfl rfl) ?_
                refine AOps.s 70 rfl rfl rfl (q_fieldAddr tok rfl rfl rfl rfl rfl rfl) ?_
                refine AOps.s 71 rfl rfl rfl (q_load tok rfl rfl rfl (by first | exact .loc _ | exact .ptr _ _ _ _ _ _ _ _ rfl rfl rfl) rfl) ?_
                refine AOps.s 72 rfl rfl rfl (q_len tok rfl rfl rfl rfl rfl) ?_
                refine AOps.s 73 rfl rfl rfl (q_bin rfl rfl rfl rfl) ?_
                refine AOps.s 74 rfl rfl rfl (q_pick_false false rfl rfl rfl rfl) ?_
                refine AOps.nil ?_
                refine AGo.split 74 rfl (fun hb8 => ?_) (fun hb8 => ?_)
                · -- True
                  refine AGo.cond_true true rfl rfl ?_
                  refine AGo.seq ?_
                  refine AGo.region ?_
                  refine AOps.s 4 rfl rfl rfl (q_move (.inr rfl) rfl) ?_
                  refine AOps.nil ?_
                  refine AGo.ret ?_
                  refine ⟨[_], ⟨rfl, trivial⟩, ?_, rfl⟩
                  show AV.bool false = _
                  rw [decide_eq_false (by rintro rfl; rw [hx] at hy; cases hy; simp_all)]
                · -- False
                  refine AGo.cond_false false rfl rfl ?_
                  refine AGo.skip ?_
                  refine AGo.seq ?_
                  refine AGo.region ?_
                  refine AOps.s 8 rfl rfl rfl (q_move (.inr rfl) rfl) ?_
                  refine AOps.nil ?_
                  refine AGo.block ?_
                  refine AGo.loopD (γ := Nat) 4 (fun j => ⟨93, (eput (eput (eput (eput (eput (eput eNew 2 (.ptr 0 1 0 0)) 3 (.ptr 1 1 0 0)) 5 (.int .i64 (k : Int))) 6 (.ptr 2 1 0 0)) 7 (.ptr 3 1 0 0)) 8 (.int .i64 (j : Int))), (hput (hput (hput (hput (hFrom 4) 0 (.row false 2 [BFunc.cells f])) 1 (.row false 2 [BFunc.cells g])) 2 (.row false 5 [x.cells])) 3 (.row false 5 [y.cells]))⟩) (fun j => j ≤ x.ins.length ∧ x.ins.length = y.ins.length ∧ x.ins.take j = y.ins.take j) (fun j => x.ins.length - j) 0 (Sub.mk' (by repeat (first | exact ESub.new _ | refine ESub.put ?_ (by rfl))) (by repeat (first | exact HSub.none _ | exact HSub.from_new _ | exact HSub.from_from (by decide) | refine HSub.put ?_ (by rfl) | refine HSub.from_put ?_ (by decide) | refine HSub.from_rm ?_ (by decide)))) ⟨Nat.zero_le _, by have h := hb8; simp at h; omega, rfl⟩ (fun _ => hput_free (hput_free (hput_free (hput_free (fun b hb => hFrom_free hb) rfl) rfl) rfl) rfl) ?_
                  intro j ⟨hj, hjl, hjt⟩
                  refine AGo.seq ?_
                  refine AGo.seq ?_
                  refine AGo.region ?_
                  refine AOps.s 75 rfl rfl rfl (q_move (.inl rfl) rfl) ?_
                  refine AOps.s 76 rfl rfl rfl (q_fieldAddr tok rfl rfl rfl rfl rfl rfl) ?_
                  refine AOps.s 77 rfl rfl rfl (q_load tok rfl rfl rfl (by first | exact .loc _ | exact .ptr _ _ _ _ _ _ _ _ rfl rfl rfl) rfl) ?_
                  refine AOps.s 78 rfl rfl rfl (q_len tok rfl rfl rfl rfl rfl) ?_
                  refine AOps.s 79 rfl rfl rfl (q_bin rfl rfl rfl rfl) ?_
                  refine AOps.nil ?_
                  refine AGo.split 79 rfl (fun hb9 => ?_) (fun hb9 => ?_)
                  · -- True
                    refine AGo.cond_true true rfl rfl ?_
                    have hjk : j < x.ins.length := lt_of_idx hb9
                    obtain ⟨u, hu⟩ := get_of_lt hjk
                    obtain ⟨v, hv⟩ := get_of_lt (l := y.ins) (k := j) (by omega)
                    refine AGo.skip ?_
                    refine AGo.seq ?_
                    refine AGo.block ?_
                    refine AGo.seq ?_
                    refine AGo.draw mix ?_
                    refine DOps.s 82 rfl rfl rfl (q_fieldAddr tok rfl rfl rfl rfl rfl rfl) ?_
                    refine DOps.s 83 rfl rfl rfl (q_load tok rfl rfl rfl (by first | exact .loc _ | exact .ptr _ _ _ _ _ _ _ _ rfl rfl rfl) rfl) ?_
                    refine DOps.s 84 rfl rfl rfl (q_move (.inl rfl) rfl) ?_
                    refine DOps.s 85 rfl rfl rfl (q_index_lst tok rfl rfl rfl rfl rfl rfl (Int.natCast_nonneg _) (idx_map (by assumption)) rfl) ?_
                    refine DOps.s 86 rfl rfl rfl (q_load tok rfl rfl rfl (by first | exact .loc _ | exact .ptr _ _ _ _ _ _ _ _ rfl rfl rfl) rfl) ?_
                    refine DOps.s 87 rfl rfl rfl (q_fieldAddr tok rfl rfl rfl rfl rfl rfl) ?_
                    refine DOps.s 88 rfl rfl rfl (q_load tok rfl rfl rfl (by first | exact .loc _ | exact .ptr _ _ _ _ _ _ _ _ rfl rfl rfl) rfl) ?_
                    refine DOps.s 89 rfl rfl rfl (q_move (.inl rfl) rfl) ?_
                    refine DOps.s 90 rfl rfl rfl (q_index_lst tok rfl rfl rfl rfl rfl rfl (Int.natCast_nonneg _) (idx_map (by assumption)) rfl) ?_
                    refine DOps.s 91 rfl rfl rfl (q_load tok rfl rfl rfl (by first | exact .loc _ | exact .ptr _ _ _ _ _ _ _ _ rfl rfl rfl) rfl) ?_
                    refine DOps.s 92 rfl rfl rfl (q_eqStruct tok true rfl rfl rfl (by kernel_rfl) rfl rfl rfl rfl rfl) ?_
                    refine DOps.nil (by kernel_rfl) ?_
                    refine AGo.split 92 rfl (fun hb10 => ?_) (fun hb10 => ?_)
                    · -- True
                      refine AGo.cond_true true rfl rfl ?_
                      refine AGo.seq ?_
                      refine AGo.region ?_
                      refine AOps.s 4 rfl rfl rfl (q_move (.inr rfl) rfl) ?_
                      refine AOps.nil ?_
                      refine AGo.ret ?_
                      refine ⟨[_], ⟨rfl, trivial⟩, ?_, rfl⟩
                      show AV.bool false = _
                      rw [decide_eq_false (by rintro rfl; rw [hx] at hy; cases hy; rw [hu] at hv; cases hv; simp_all)]
                    · -- False
                      refine AGo.cond_false false rfl rfl ?_
                      have huv : u = v := by cases u; cases v; simpa using hb10
                      refine AGo.skip ?_
                      refine AGo.region ?_
                      refine AOps.s 80 rfl rfl rfl (q_move (.inl rfl) rfl) ?_
                      refine AOps.s 81 rfl rfl rfl (q_inc rfl rfl hjk (hfit.2 x (List.mem_of_getElem? hx))) ?_
                      refine AOps.s 8 rfl rfl rfl (q_move (.inr rfl) rfl) ?_
                      refine AOps.nil ?_
                      exact ⟨j+1, Drop.mk' (by repeat (first | exact EDrop.new _ _ | refine EDrop.put ?_ (by rfl) rfl)) (by repeat (first | exact HDrop.none _ _ | exact HDrop.tail _ _ | refine HDrop.put ?_ (by rfl) rfl rfl)), ⟨hjk, hjl, by rw [take_succ_eq hu, take_succ_eq hv, hjt, huv]⟩, by omega⟩
                  · -- False
                    refine AGo.cond_false false rfl rfl ?_
                    have hge2 := ge_of_idx hb9
                    have hxy : x = y := by
                      have := take_all hjt hge2 (hjl ▸ hge2)
                      cases x; cases y; simp_all
                    refine AGo.exit ?_
                    refine AGo.region ?_
                    refine AOps.s 28 rfl rfl rfl (q_move (.inl rfl) rfl) ?_
                    refine AOps.s 29 rfl rfl rfl (q_inc rfl rfl hkl hfit.1) ?_
                    refine AOps.s 5 rfl rfl rfl (q_move (.inr rfl) rfl) ?_
                    refine AOps.nil ?_
                    exact ⟨k+1, Drop.mk' (by repeat (first | exact EDrop.new _ _ | refine EDrop.put ?_ (by rfl) rfl)) (by repeat (first | exact HDrop.none _ _ | exact HDrop.tail _ _ | refine HDrop.put ?_ (by rfl) rfl rfl)), ⟨hkl, hr, hl, by rw [take_succ_eq hx, take_succ_eq hy, ht, hxy]⟩, by omega⟩
      · -- False
        refine AGo.cond_false false rfl rfl ?_
        have hge := ge_of_idx hb3
        refine AGo.exit ?_
        refine AGo.seq ?_
        refine AGo.region ?_
        refine AOps.s 4 rfl rfl rfl (q_move (.inr rfl) rfl) ?_
        refine AOps.nil ?_
        refine AGo.ret ?_
        refine ⟨[_], ⟨rfl, trivial⟩, ?_, rfl⟩
        show AV.bool true = _
        rw [decide_eq_true (BFunc.ext' hr (take_all ht hge (hl ▸ hge)))]

end Go.Proofs.Ytidfabbnobipkaa.Sv

namespace Go.Proofs.Ytidfabbnobipkaa.Sv
open Go
set_option linter.unusedVariables false
set_option linter.unusedSimpArgs false

set_option maxRecDepth 100000 in
theorem next_ok (f : BFunc) (hn : f.blocks.length ≤ 100000) : APure Try.prog 27 [.agg f.cells] (fun r => r = pathsAV f.nexts) := by
  refine APure.of_body (n := 40) tok Try.func27 rfl rfl ?_
  refine AGo.seq ?_
  refine AGo.region ?_
  refine AOps.x 1 rfl rfl rfl (o_box (sz := 2) 0 rfl rfl rfl rfl (Nat.zero_lt_succ _) rfl) ?_
  refine AOps.s 2 rfl rfl rfl (q_move (.inr rfl) rfl) ?_
  refine AOps.nil ?_
  refine AGo.seq ?_
  refine AGo.region ?_
  refine AOps.s 6 rfl rfl rfl (q_fieldAddr tok rfl rfl rfl rfl rfl rfl) ?_
  refine AOps.s 7 rfl rfl rfl (q_load tok rfl rfl rfl (by first | exact .loc _ | exact .ptr _ _ _ _ _ _ _ _ rfl rfl rfl) rfl) ?_
  refine AOps.s 8 rfl rfl rfl (q_len tok rfl rfl rfl rfl rfl) ?_
  refine AOps.x 9 rfl rfl rfl (o_makeSlice tok (n := f.blocks.length) (m := f.blocks.length) 1 true rfl rfl rfl (by simp) (by simp) rfl rfl rfl rfl rfl (Nat.zero_lt_succ _) rfl (Nat.le_refl _) (by show 24 * f.blocks.length ≤ _; omega) (by simp only [maxLen]; omega)) ?_
  refine AOps.s 3 rfl rfl rfl (q_move (.inr rfl) rfl) ?_
  refine AOps.nil ?_
  refine AGo.seq ?_
  refine AGo.seq ?_
  refine AGo.ghost (Ghost.weakRow 1 (es' := List.replicate f.blocks.length [.lst false []]) rfl (by simp) (weak_nils _)) ?_
  refine AGo.region ?_
  refine AOps.s 10 rfl rfl rfl (q_fieldAddr tok rfl rfl rfl rfl rfl rfl) ?_
  refine AOps.s 11 rfl rfl rfl (q_load tok rfl rfl rfl (by first | exact .loc _ | exact .ptr _ _ _ _ _ _ _ _ rfl rfl rfl) rfl) ?_
  refine AOps.s 12 rfl rfl rfl (q_len tok rfl rfl rfl rfl rfl) ?_
  refine AOps.s 13 rfl rfl rfl (q_move (.inl rfl) rfl) ?_
  refine AOps.nil ?_
  refine AGo.block ?_
  refine AGo.loopD (γ := Nat) 2 (fun k => ⟨40, (eput (eput (eput (eput eNew 3 (.ref 1 f.blocks.length 0 f.blocks.length)) 11 (blocksAV f.blocks)) 12 (.int .i64 (f.blocks.length : Int))) 13 (.int .i64 (k : Int))), (hput (hput (hFrom 2) 0 (.row false 2 [f.cells])) 1 (.row true 1 (((f.nexts.take (k)).map pathCell) ++ List.replicate (f.blocks.length - (k)) [.lst false []])))⟩) (fun k => k ≤ f.blocks.length) (fun k => f.blocks.length - k) 0 (Sub.mk' (by repeat (first | exact ESub.new _ | refine ESub.put ?_ (by first | rfl | exact congrArg (fun (n : Nat) => some (AV.int .i64 (n : Int))) (by simp)))) (by repeat (first | exact HSub.none _ | exact HSub.from_new _ | exact HSub.from_from (by decide) | refine HSub.put ?_ (by rfl) | refine HSub.from_put ?_ (by decide)))) (Nat.zero_le _) (fun _ => hput_free (hput_free (fun b hb => hFrom_free hb) rfl) rfl) ?_
  intro k hk
  refine AGo.seq ?_
  refine AGo.region ?_
  refine AOps.s 14 rfl rfl rfl (q_bin rfl rfl rfl rfl) ?_
  refine AOps.nil ?_
  refine AGo.seq ?_
  refine AGo.split 14 rfl (fun hb1 => ?_) (fun hb1 => ?_)
  · -- True
    refine AGo.cond_true true rfl rfl ?_
    have hkl : k < f.blocks.length := by simpa using hb1
    obtain ⟨x, hx⟩ := get_of_lt hkl
    have hnx := nexts_get hx
    refine AGo.skip ?_
    refine AGo.seq ?_
    refine AGo.block ?_
    refine AGo.seq ?_
    refine AGo.region ?_
    refine AOps.s 15 rfl rfl rfl (q_move (.inl rfl) rfl) ?_
    refine AOps.s 16 rfl rfl rfl (q_index_lst tok rfl rfl rfl rfl rfl rfl (Int.natCast_nonneg _) (idx_map (by assumption)) rfl) ?_
    refine AOps.s 17 rfl rfl rfl (q_load tok rfl rfl rfl (by first | exact .loc _ | exact .ptr _ _ _ _ _ _ _ _ rfl rfl rfl) rfl) ?_
    refine AOps.x 5 rfl rfl rfl (o_alloc tok 2 rfl rfl rfl rfl (Nat.zero_lt_succ _) rfl) ?_
    refine AOps.s 4 rfl rfl rfl (q_move (.inr rfl) rfl) ?_
    refine AOps.w rfl rfl (o_store tok rfl rfl rfl rfl rfl rfl rfl rfl rfl (by decide) rfl (by first | exact fun _ => rfl | (intro h; cases h))) ?_
    refine AOps.nil ?_
    refine AGo.seq ?_
    refine AGo.region ?_
    refine AOps.s 18 rfl rfl rfl (q_fieldAddr tok rfl rfl rfl rfl rfl rfl) ?_
    refine AOps.s 19 rfl rfl rfl (q_load tok rfl rfl rfl (by first | exact .loc _ | exact .ptr _ _ _ _ _ _ _ _ rfl rfl rfl) rfl) ?_
    refine AOps.nil ?_
    refine AGo.block ?_
    refine AGo.seq ?_
    refine AGo.region ?_
    refine AOps.s 21 rfl rfl rfl (q_bin rfl rfl rfl rfl) ?_
    refine AOps.s 20 rfl rfl rfl (q_move (.inr rfl) rfl) ?_
    refine AOps.nil ?_
    refine AGo.split 20 rfl (fun hb2 => ?_) (fun hb2 => ?_)
    · -- True
      refine AGo.cond_true true rfl rfl ?_
      refine AGo.region ?_
      refine AOps.s 22 rfl rfl rfl (q_move (.inl rfl) rfl) ?_
      refine AOps.s 23 rfl rfl rfl (q_move (.inl rfl) rfl) ?_
      refine AOps.s 24 rfl rfl rfl (q_fieldAddr tok rfl rfl rfl rfl rfl rfl) ?_
      refine AOps.s 25 rfl rfl rfl (q_load tok rfl rfl rfl (by first | exact .loc _ | exact .ptr _ _ _ _ _ _ _ _ rfl rfl rfl) rfl) ?_
      refine AOps.x 26 rfl rfl rfl (o_lit' tok rfl rfl rfl rfl rfl rfl (by decide) rfl rfl rfl rfl rfl rfl) ?_
      refine AOps.s 27 rfl rfl rfl (q_index_ref tok rfl rfl rfl rfl rfl rfl rfl (fill_len (nexts_length f) (Nat.le_of_lt hkl)) rfl (Int.natCast_nonneg _) (by omega)) ?_
      refine AOps.w rfl rfl (o_store tok rfl rfl rfl rfl rfl rfl (fill_len (nexts_length f) (Nat.le_of_lt hkl)) (fill_get (nexts_length f) hkl) rfl (by decide) rfl (by first | exact fun _ => rfl | (intro h; cases h))) ?_
      refine AOps.nil ?_
      refine AGo.region ?_
      refine AOps.s 38 rfl rfl rfl (q_inc rfl rfl hkl (show f.blocks.length ≤ maxLen by simp only [maxLen]; omega)) ?_
      refine AOps.s 13 rfl rfl rfl (q_move (.inl rfl) rfl) ?_
      refine AOps.nil ?_
      exact ⟨k+1, Drop.mk' (by repeat (first | exact EDrop.new _ _ | refine EDrop.put ?_ (by rfl) rfl)) (by repeat (first | exact HDrop.none _ _ | exact HDrop.tail _ _ | refine HDrop.put ?_ (by first | rfl | exact congrArg (fun es => some (AObj.row true 1 es)) (fill_put (f := pathCell) (x := [x.to]) (nexts_length f) (by rw [hnx]; simp [Block.nexts, *])) | exact congrArg (fun es => some (AObj.row true 1 es)) (fill_put (f := pathCell) (x := [x.to, x.els]) (nexts_length f) (by rw [hnx]; simp [Block.nexts, *])) | exact congrArg (fun es => some (AObj.row true 1 es)) (fill_skip (f := pathCell) (x := []) (nexts_length f) (by rw [hnx]; simp [Block.nexts, *]) rfl)) rfl rfl)), hkl, by omega⟩
    · -- False
      refine AGo.cond_false false rfl rfl ?_
      refine AGo.seq ?_
      refine AGo.region ?_
      refine AOps.s 29 rfl rfl rfl (q_bin rfl rfl rfl rfl) ?_
      refine AOps.s 28 rfl rfl rfl (q_move (.inr rfl) rfl) ?_
      refine AOps.nil ?_
      refine AGo.split 28 rfl (fun hb3 => ?_) (fun hb3 => ?_)
      · -- True
        refine AGo.cond_true true rfl rfl ?_
        refine AGo.region ?_
        refine AOps.s 30 rfl rfl rfl (q_move (.inl rfl) rfl) ?_
        refine AOps.s 31 rfl rfl rfl (q_move (.inl rfl) rfl) ?_
        refine AOps.s 32 rfl rfl rfl (q_fieldAddr tok rfl rfl rfl rfl rfl rfl) ?_
        refine AOps.s 33 rfl rfl rfl (q_load tok rfl rfl rfl (by first | exact .loc _ | exact .ptr _ _ _ _ _ _ _ _ rfl rfl rfl) rfl) ?_
        refine AOps.s 34 rfl rfl rfl (q_fieldAddr tok rfl rfl rfl rfl rfl rfl) ?_
        refine AOps.s 35 rfl rfl rfl (q_load tok rfl rfl rfl (by first | exact .loc _ | exact .ptr _ _ _ _ _ _ _ _ rfl rfl rfl) rfl) ?_
        refine AOps.x 36 rfl rfl rfl (o_lit' tok rfl rfl rfl rfl rfl rfl (by decide) rfl rfl rfl rfl rfl rfl) ?_
        refine AOps.s 37 rfl rfl rfl (q_index_ref tok rfl rfl rfl rfl rfl rfl rfl (fill_len (nexts_length f) (Nat.le_of_lt hkl)) rfl (Int.natCast_nonneg _) (by omega)) ?_
        refine AOps.w rfl rfl (o_store tok rfl rfl rfl rfl rfl rfl (fill_len (nexts_length f) (Nat.le_of_lt hkl)) (fill_get (nexts_length f) hkl) rfl (by decide) rfl (by first | exact fun _ => rfl | (intro h; cases h))) ?_
        refine AOps.nil ?_
        refine AGo.region ?_
        refine AOps.s 38 rfl rfl rfl (q_inc rfl rfl hkl (show f.blocks.length ≤ maxLen by simp only [maxLen]; omega)) ?_
        refine AOps.s 13 rfl rfl rfl (q_move (.inl rfl) rfl) ?_
        refine AOps.nil ?_
        exact ⟨k+1, Drop.mk' (by repeat (first | exact EDrop.new _ _ | refine EDrop.put ?_ (by rfl) rfl)) (by repeat (first | exact HDrop.none _ _ | exact HDrop.tail _ _ | refine HDrop.put ?_ (by first | rfl | exact congrArg (fun es => some (AObj.row true 1 es)) (fill_put (f := pathCell) (x := [x.to]) (nexts_length f) (by rw [hnx]; simp [Block.nexts, *])) | exact congrArg (fun es => some (AObj.row true 1 es)) (fill_put (f := pathCell) (x := [x.to, x.els]) (nexts_length f) (by rw [hnx]; simp [Block.nexts, *])) | exact congrArg (fun es => some (AObj.row true 1 es)) (fill_skip (f := pathCell) (x := []) (nexts_length f) (by rw [hnx]; simp [Block.nexts, *]) rfl)) rfl rfl)), hkl, by omega⟩
      · -- False
        refine AGo.cond_false false rfl rfl ?_
        refine AGo.skip ?_
        refine AGo.region ?_
        refine AOps.s 38 rfl rfl rfl (q_inc rfl rfl hkl (show f.blocks.length ≤ maxLen by simp only [maxLen]; omega)) ?_
        refine AOps.s 13 rfl rfl rfl (q_move (.inl rfl) rfl) ?_
        refine AOps.nil ?_
        exact ⟨k+1, Drop.mk' (by repeat (first | exact EDrop.new _ _ | refine EDrop.put ?_ (by rfl) rfl)) (by repeat (first | exact HDrop.none _ _ | exact HDrop.tail _ _ | refine HDrop.put ?_ (by first | rfl | exact congrArg (fun es => some (AObj.row true 1 es)) (fill_put (f := pathCell) (x := [x.to]) (nexts_length f) (by rw [hnx]; simp [Block.nexts, *])) | exact congrArg (fun es => some (AObj.row true 1 es)) (fill_put (f := pathCell) (x := [x.to, x.els]) (nexts_length f) (by rw [hnx]; simp [Block.nexts, *])) | exact congrArg (fun es => some (AObj.row true 1 es)) (fill_skip (f := pathCell) (x := []) (nexts_length f) (by rw [hnx]; simp [Block.nexts, *]) rfl)) rfl rfl)), hkl, by omega⟩
  · -- False
    refine AGo.cond_false false rfl rfl ?_
    have hge : f.blocks.length ≤ k := by simpa using hb1
    refine AGo.exit ?_
    refine AGo.seq ?_
    refine AGo.ghost (.freeze 3 1 rfl rfl (fill_len (nexts_length f) hk)) ?_
    refine AGo.region ?_
    refine AOps.s 39 rfl rfl rfl (q_move (.inl rfl) rfl) ?_
    refine AOps.s 2 rfl rfl rfl (q_move (.inr rfl) rfl) ?_
    refine AOps.nil ?_
    refine AGo.ret ?_
    refine ⟨[_], ⟨rfl, trivial⟩, ?_, rfl⟩
    show AV.lst false _ = AV.lst false _
    rw [fill_end (nexts_length f) hge]
    rfl

set_option maxRecDepth 100000 in
theorem into_ok (next : List (List Int)) (hnl : next.length ≤ 100000) (b : Int) (s : DS) (es : List (List AV)) (hl : s.been.length = next.length) (hw : WayIn next.length s es) : ACall Try.prog 51 [.int .i64 b, .ptr 1 1 0 0, .ptr 2 1 0 0, .ptr 3 1 0 0] (hput (hput (hput (hput (hput hNew 0 (.row true 1 ((s).been.map boolCells))) 1 (.row false 1 [[pathsAV next]])) 2 (.row false 1 [[.ref 0 next.length 0 next.length]])) 3 (.row false 1 [[.ref 4 (es).length 0 (s).way.length]])) 4 (.row true 2 (es))) (fun r h' => r = .tup [] ∧ HSub (hput (hput (hput (hput (hput hNone 0 (.row true 1 (((dinto b s)).been.map boolCells))) 1 (.row false 1 [[pathsAV next]])) 2 (.row false 1 [[.ref 0 next.length 0 next.length]])) 3 (.row false 1 [[.ref 4 ((ies b s es)).length 0 ((dinto b s)).way.length]])) 4 (.row true 2 ((ies b s es)))) h') := by
  refine ACall.of_body (n := 28) tok Try.func51 rfl rfl ?_
  refine AGo.seq ?_
  refine AGo.region ?_
  refine AOps.s 5 rfl rfl rfl (q_move (.inl rfl) rfl) ?_
  refine AOps.s 6 rfl rfl rfl (q_bin rfl rfl rfl rfl) ?_
  refine AOps.s 7 rfl rfl rfl (q_move (.inl rfl) rfl) ?_
  refine AOps.split 7 rfl (fun hb1 => ?_) (fun hb1 => ?_)
  · -- True
    refine AOps.s 8 rfl rfl rfl (q_move (.inl rfl) rfl) ?_
    refine AOps.s 9 rfl rfl rfl (q_load tok rfl rfl rfl (by first | exact .loc _ | exact .ptr _ _ _ _ _ _ _ _ rfl rfl rfl) rfl) ?_
    refine AOps.s 10 rfl rfl rfl (q_len tok rfl rfl rfl rfl rfl) ?_
    refine AOps.s 11 rfl rfl rfl (q_bin rfl rfl rfl rfl) ?_
    refine AOps.s 12 rfl rfl rfl (q_pick_true true rfl rfl rfl rfl) ?_
    refine AOps.s 13 rfl rfl rfl (q_move (.inl rfl) rfl) ?_
    refine AOps.split 13 rfl (fun hb2 => ?_) (fun hb2 => ?_)
    · -- True
      have hb0 : 0 ≤ b ∧ b < s.been.length := by simp_all [pathsAV] <;> omega
      obtain ⟨v, hv⟩ := get_of_lt (l := s.been) (k := b.toNat) (by omega)
      refine AOps.s 14 rfl rfl rfl (q_load tok rfl rfl rfl (by first | exact .loc _ | exact .ptr _ _ _ _ _ _ _ _ rfl rfl rfl) rfl) ?_
      refine AOps.s 15 rfl rfl rfl (q_move (.inl rfl) rfl) ?_
      refine AOps.s 16 rfl rfl rfl (q_index_ref tok rfl rfl rfl rfl rfl rfl rfl (by simp [hl]) rfl hb0.1 (by omega)) ?_
      refine AOps.s 17 rfl rfl rfl (q_load tok rfl rfl rfl (.ptr _ _ _ _ _ _ _ _ rfl (by simp [hl]) (show _ = some [AV.bool v] by rw [Nat.zero_add, List.getElem?_map, hv]; rfl)) rfl) ?_
      refine AOps.s 18 rfl rfl rfl (q_not rfl rfl) ?_
      refine AOps.s 19 rfl rfl rfl (q_pick_true true rfl rfl rfl rfl) ?_
      refine AOps.nil ?_
      refine AGo.split 19 rfl (fun hb3 => ?_) (fun hb3 => ?_)
      · -- True
        refine AGo.cond_true true rfl rfl ?_
        have hnb : notBeen s.been b = true := by rw [notBeen, hv]; simp_all
        have hcap := hw.cap
        have hle := hw.le
        refine AGo.seq ?_
        refine AGo.region ?_
        refine AOps.s 20 rfl rfl rfl (q_load tok rfl rfl rfl (by first | exact .loc _ | exact .ptr _ _ _ _ _ _ _ _ rfl rfl rfl) rfl) ?_
        refine AOps.s 21 rfl rfl rfl (q_move (.inl rfl) rfl) ?_
        refine AOps.s 22 rfl rfl rfl (q_index_ref tok rfl rfl rfl rfl rfl rfl rfl (by simp [hl]) rfl hb0.1 (by omega)) ?_
        refine AOps.w rfl rfl (o_store tok rfl rfl rfl rfl rfl rfl (by simp [hl]) (show _ = some [AV.bool v] by rw [Nat.zero_add, List.getElem?_map, hv]; rfl) rfl (by decide) rfl (by first | exact fun _ => rfl | (intro h; cases h))) ?_
        refine AOps.nil ?_
        refine AGo.region ?_
        refine AOps.s 23 rfl rfl rfl (q_load tok rfl rfl rfl (by first | exact .loc _ | exact .ptr _ _ _ _ _ _ _ _ rfl rfl rfl) rfl) ?_
        refine AOps.s 24 rfl rfl rfl (q_move (.inl rfl) rfl) ?_
        refine AOps.s 25 rfl rfl rfl (q_build tok rfl rfl rfl rfl rfl (by decide) rfl rfl rfl) ?_
        refine AOps.x 26 rfl rfl rfl (o_lit' tok rfl rfl rfl rfl rfl rfl (by decide) rfl rfl rfl rfl rfl rfl) ?_
        refine AOps.x 27 rfl rfl rfl (o_push tok (es := es) rfl rfl rfl rfl rfl rfl rfl rfl rfl rfl hw.le rfl rfl (Nat.zero_lt_succ _) (.lst _ _) rfl (fun _ => rfl) (by show _ * 16 ≤ _; omega) (by simp only [maxLen]; omega)) ?_
        refine AOps.w rfl rfl (o_store tok rfl rfl rfl rfl rfl rfl rfl rfl rfl (by decide) rfl (by first | exact fun _ => rfl | (intro h; cases h))) ?_
        refine AOps.nil ?_
        refine ⟨[], trivial, rfl, ?_⟩
        rw [show dinto b s = _ from dinto_eq hnb, show ies b s es = _ from ies_eq hnb]
        exact HSub.put (HSub.put (HSub.put (HSub.put (HSub.put (HSub.none _) (by first | rfl | exact congrArg (fun es => some (AObj.row true 1 es)) (been_set _ _ _))) rfl) rfl) (by first | rfl | exact congrArg (fun m => some (AObj.row false 1 [[AV.ref 4 _ 0 m]])) (by simp))) (by rfl)
      · -- False
        refine AGo.cond_false false rfl rfl ?_
        have hnb : notBeen s.been b = false := by
          rw [Bool.eq_false_iff]
          intro h
          obtain ⟨h1, h2, h3⟩ := notBeen_get h
          first | (simp_all [pathsAV]; done) | (simp_all [pathsAV]; omega)
        refine AGo.skip ?_
        refine ⟨[], trivial, rfl, ?_⟩
        rw [show dinto b s = _ from dinto_eq hnb, show ies b s es = _ from ies_eq hnb]
        exact HSub.put (HSub.put (HSub.put (HSub.put (HSub.put (HSub.none _) (by first | rfl | exact congrArg (fun es => some (AObj.row true 1 es)) (been_set _ _ _))) rfl) rfl) (by first | rfl | exact congrArg (fun m => some (AObj.row false 1 [[AV.ref 4 _ 0 m]])) (by simp))) (by rfl)
    · -- False
      refine AOps.k 14 rfl rfl rfl ?_
      refine AOps.k 15 rfl rfl rfl ?_
      refine AOps.k 16 rfl rfl rfl ?_
      refine AOps.k 17 rfl rfl rfl ?_
      refine AOps.k 18 rfl rfl rfl ?_
      refine AOps.s 19 rfl rfl rfl (q_pick_false false rfl rfl rfl rfl) ?_
      refine AOps.nil ?_
      refine AGo.cond_false false rfl rfl ?_
      have hnb : notBeen s.been b = false := by
        rw [Bool.eq_false_iff]
        intro h
        obtain ⟨h1, h2, h3⟩ := notBeen_get h
        first | (simp_all [pathsAV]; done) | (simp_all [pathsAV]; omega)
      refine AGo.skip ?_
      refine ⟨[], trivial, rfl, ?_⟩
      rw [show dinto b s = _ from dinto_eq hnb, show ies b s es = _ from ies_eq hnb]
      exact HSub.put (HSub.put (HSub.put (HSub.put (HSub.put (HSub.none _) (by first | rfl | exact congrArg (fun es => some (AObj.row true 1 es)) (been_set _ _ _))) rfl) rfl) (by first | rfl | exact congrArg (fun m => some (AObj.row false 1 [[AV.ref 4 _ 0 m]])) (by simp))) (by rfl)
  · -- False
    refine AOps.k 8 rfl rfl rfl ?_
    refine AOps.k 9 rfl rfl rfl ?_
    refine AOps.k 10 rfl rfl rfl ?_
    refine AOps.k 11 rfl rfl rfl ?_
    refine AOps.s 12 rfl rfl rfl (q_pick_false false rfl rfl rfl rfl) ?_
    refine AOps.s 13 rfl rfl rfl (q_move (.inl rfl) rfl) ?_
    refine AOps.k 14 rfl rfl rfl ?_
    refine AOps.k 15 rfl rfl rfl ?_
    refine AOps.k 16 rfl rfl rfl ?_
    refine AOps.k 17 rfl rfl rfl ?_
    refine AOps.k 18 rfl rfl rfl ?_
    refine AOps.s 19 rfl rfl rfl (q_pick_false false rfl rfl rfl rfl) ?_
    refine AOps.nil ?_
    refine AGo.cond_false false rfl rfl ?_
    have hnb : notBeen s.been b = false := by
      rw [Bool.eq_false_iff]
      intro h
      obtain ⟨h1, h2, h3⟩ := notBeen_get h
      first | (simp_all [pathsAV]; done) | (simp_all [pathsAV]; omega)
    refine AGo.skip ?_
    refine ⟨[], trivial, rfl, ?_⟩
    rw [show dinto b s = _ from dinto_eq hnb, show ies b s es = _ from ies_eq hnb]
    exact HSub.put (HSub.put (HSub.put (HSub.put (HSub.put (HSub.none _) (by first | rfl | exact congrArg (fun es => some (AObj.row true 1 es)) (been_set _ _ _))) rfl) rfl) (by first | rfl | exact congrArg (fun m => some (AObj.row false 1 [[AV.ref 4 _ 0 m]])) (by simp))) (by rfl)

set_option maxRecDepth 100000 in
theorem idle_ok (b : Int) : ACall Try.prog 42 [.int .i64 b] hNew (fun r h' => r = .tup [] ∧ HSub hNone h') := by
  refine ACall.of_body (n := 2) tok Try.func42 rfl rfl ?_
  refine AGo.skip ?_
  exact ⟨[], trivial, rfl, HSub.none _⟩

set_option maxRecDepth 100000 in
theorem walk_ok (next : List (List Int)) (hnl : next.length ≤ 100000) (hsm : ∀ l ∈ next, l.length ≤ 100000) (been : List Bool) (hbl : been.length = next.length) : ACall Try.prog 41 [pathsAV next, .ref 0 next.length 0 next.length, .fn (.func 42) [] []] (hput hNew 0 (.row true 1 (been.map boolCells))) (fun r h' => r = .tup [] ∧ HSub (hput hNone 0 (.row true 1 ((dreach next been).map boolCells))) h') := by
  refine ACall.of_body (n := 69) tok Try.func41 rfl rfl ?_
  refine AGo.seq ?_
  refine AGo.region ?_
  refine AOps.x 3 rfl rfl rfl (o_box (sz := 1) 1 rfl rfl rfl rfl (Nat.zero_lt_succ _) rfl) ?_
  refine AOps.x 4 rfl rfl rfl (o_box (sz := 1) 2 rfl rfl rfl rfl (Nat.zero_lt_succ _) rfl) ?_
  refine AOps.nil ?_
  refine AGo.seq ?_
  refine AGo.region ?_
  refine AOps.x 6 rfl rfl rfl (o_alloc tok 3 rfl rfl rfl rfl (Nat.zero_lt_succ _) rfl) ?_
  refine AOps.nil ?_
  refine AGo.seq ?_
  refine AGo.ghost (.dryCell 3 0 0 4 2 true rfl rfl rfl rfl rfl (by decide)) ?_
  refine AGo.region ?_
  refine AOps.s 10 rfl rfl rfl (q_makeFunc rfl rfl rfl) ?_
  refine AOps.s 7 rfl rfl rfl (q_move (.inr rfl) rfl) ?_
  refine AOps.nil ?_
  refine AGo.seq ?_
  refine AGo.region ?_
  refine AOps.s 11 rfl rfl rfl (q_move (.inl rfl) rfl) ?_
  refine AOps.x 12 rfl rfl rfl (o_callF (hc := (hput (hput (hput (hput (hput hNew 0 (.row true 1 (((DS.mk been [])).been.map boolCells))) 1 (.row false 1 [[pathsAV next]])) 2 (.row false 1 [[.ref 0 next.length 0 next.length]])) 3 (.row false 1 [[.ref 4 (([] : List (List AV))).length 0 ((DS.mk been [])).way.length]])) 4 (.row true 2 (([] : List (List AV)))))) (hw := (hput (hput (hput (hput (hput hNone 0 (.row true 1 (((dinto 0 (DS.mk been []))).been.map boolCells))) 1 (.row false 1 [[pathsAV next]])) 2 (.row false 1 [[.ref 0 next.length 0 next.length]])) 3 (.row false 1 [[.ref 4 ((ies 0 (DS.mk been []) ([] : List (List AV)))).length 0 ((dinto 0 (DS.mk been []))).way.length]])) 4 (.row true 2 ((ies 0 (DS.mk been []) ([] : List (List AV))))))) [4, 3, 2, 1, 0] [(0, (.row true 1 (((dinto 0 (DS.mk been []))).been.map boolCells))), (1, (.row false 1 [[pathsAV next]])), (2, (.row false 1 [[.ref 0 next.length 0 next.length]])), (3, (.row false 1 [[.ref 4 ((ies 0 (DS.mk been []) ([] : List (List AV)))).length 0 ((dinto 0 (DS.mk been []))).way.length]])), (4, (.row true 2 ((ies 0 (DS.mk been []) ([] : List (List AV))))))] rfl rfl Try.func51 (by kernel_rfl) rfl rfl rfl ⟨⟨_, rfl, rfl⟩, ⟨_, rfl, rfl⟩, ⟨_, rfl, rfl⟩, ⟨_, rfl, rfl⟩, ⟨_, rfl, rfl⟩, trivial⟩ rfl (hres_cons rfl (hres_cons rfl (hres_cons rfl (hres_cons rfl (hres_cons rfl (hres_nil _)))))) ⟨⟨_, rfl, rfl, rfl⟩, ⟨_, rfl, rfl, rfl⟩, ⟨_, rfl, rfl, rfl⟩, ⟨_, rfl, rfl, rfl⟩, ⟨_, rfl, rfl, rfl⟩, trivial⟩ rfl (into_ok next hnl 0 (DS.mk been []) ([] : List (List AV)) hbl (way_first hbl))) ?_
  refine AOps.nil ?_
  refine AGo.block ?_
  refine AGo.loopD (γ := FW) 5 (fun q => ⟨69, (eput (eput (eput (eput (eput eNew 2 (.fn (.func 42) [] [])) 3 (.ptr 1 1 0 0)) 4 (.ptr 2 1 0 0)) 6 (.ptr 3 1 0 0)) 7 (.fn (.func 51) [] [.ptr 1 1 0 0, .ptr 2 1 0 0, .ptr 3 1 0 0])), (hput (hput (hput (hput (hput (hFrom 5) 0 (.row true 1 ((q.s).been.map boolCells))) 1 (.row false 1 [[pathsAV next]])) 2 (.row false 1 [[.ref 0 next.length 0 next.length]])) 3 (.row false 1 [[.ref 4 (q.es).length 0 (q.s).way.length]])) 4 (.row true 2 (q.es)))⟩) (fun q => FWInv next (drun next (dmu next (dstart been) + 1) (dstart been)) q) (fun q => q.g) ⟨dstart been, ies 0 (DS.mk been []) [], dmu next (dstart been) + 1⟩ (Sub.mk' (by repeat (first | exact ESub.new _ | refine ESub.put ?_ (by rfl))) (by repeat (first | exact HSub.none _ | exact HSub.from_new _ | exact HSub.from_from (by decide) | refine HSub.put ?_ (by rfl) | refine HSub.from_put ?_ (by decide)))) (FWInv.first hbl) (fun _ => hput_free (hput_free (hput_free (hput_free (hput_free (fun b hb => hFrom_free hb) rfl) rfl) rfl) rfl) rfl) ?_
  intro q hF
  refine AGo.seq ?_
  refine AGo.seq ?_
  refine AGo.region ?_
  refine AOps.s 13 rfl rfl rfl (q_load tok rfl rfl rfl (by first | exact .loc _ | exact .ptr _ _ _ _ _ _ _ _ rfl rfl rfl) rfl) ?_
  refine AOps.s 14 rfl rfl rfl (q_len tok rfl rfl rfl rfl rfl) ?_
  refine AOps.s 15 rfl rfl rfl (q_bin rfl rfl rfl rfl) ?_
  refine AOps.nil ?_
  refine AGo.split 15 rfl (fun hb1 => ?_) (fun hb1 => ?_)
  · -- True
    refine AGo.cond_true true rfl rfl ?_
    have hpos : 0 < q.s.way.length := by simpa using hb1
    obtain ⟨⟨b, i⟩, hp⟩ : ∃ p, q.s.way.getLast? = some p := ⟨_, List.getLast?_eq_some_getLast (List.ne_nil_of_length_pos hpos)⟩
    have htop := (hF.way.top hp).1
    have hbi := hF.ok.way (b, i) (by rw [way_last hp]; simp)
    simp only at hbi
    obtain ⟨l, hnx⟩ := get_of_lt (l := next) (k := b.toNat) (by omega)
    have hrl : rowAt next b = l := by simp [rowAt, hnx]
    rw [hrl] at hbi
    refine AGo.skip ?_
    refine AGo.block ?_
    refine AGo.seq ?_
    refine AGo.region ?_
    refine AOps.s 16 rfl rfl rfl (q_load tok rfl rfl rfl (by first | exact .loc _ | exact .ptr _ _ _ _ _ _ _ _ rfl rfl rfl) rfl) ?_
    refine AOps.s 17 rfl rfl rfl (q_load tok rfl rfl rfl (by first | exact .loc _ | exact .ptr _ _ _ _ _ _ _ _ rfl rfl rfl) rfl) ?_
    refine AOps.s 18 rfl rfl rfl (q_len tok rfl rfl rfl rfl rfl) ?_
    refine AOps.s 19 rfl rfl rfl (q_bin (r := .int .i64 ((q.s.way.length - 1 : Nat) : Int)) rfl rfl rfl (len_pred hpos (by have := hF.way.cap; have := hF.way.le; omega))) ?_
    refine AOps.s 20 rfl rfl rfl (q_index_ref tok rfl rfl rfl rfl rfl rfl rfl rfl rfl (Int.natCast_nonneg _) (by have := hF.way.le; omega)) ?_
    refine AOps.s 8 rfl rfl rfl (q_move (.inr rfl) rfl) ?_
    refine AOps.nil ?_
    refine AGo.seq ?_
    refine AGo.seq ?_
    refine AGo.draw mix ?_
    refine DOps.s 21 rfl rfl rfl (q_move (.inl rfl) rfl) ?_
    refine DOps.s 22 rfl rfl rfl (q_nilCheck rfl rfl rfl) ?_
    refine DOps.s 23 rfl rfl rfl (q_fieldAddr tok rfl rfl rfl rfl rfl rfl) ?_
    refine DOps.s 24 rfl rfl rfl (q_load tok rfl rfl rfl (.ptr _ _ _ _ _ _ _ _ rfl rfl (show _ = some (wcell (b, i)) by rw [Nat.zero_add, Int.toNat_natCast]; exact htop)) rfl) ?_
    refine DOps.s 25 rfl rfl rfl (q_load tok rfl rfl rfl (by first | exact .loc _ | exact .ptr _ _ _ _ _ _ _ _ rfl rfl rfl) rfl) ?_
    refine DOps.s 26 rfl rfl rfl (q_move (.inl rfl) rfl) ?_
    refine DOps.s 27 rfl rfl rfl (q_nilCheck rfl rfl rfl) ?_
    refine DOps.s 28 rfl rfl rfl (q_fieldAddr tok rfl rfl rfl rfl rfl rfl) ?_
    refine DOps.s 29 rfl rfl rfl (q_load tok rfl rfl rfl (.ptr _ _ _ _ _ _ _ _ rfl rfl (show _ = some (wcell (b, i)) by rw [Nat.zero_add, Int.toNat_natCast]; exact htop)) rfl) ?_
    refine DOps.s 30 rfl rfl rfl (q_index_lst tok rfl rfl rfl rfl rfl rfl hbi.1 (idx_mapZ hnx) rfl) ?_
    refine DOps.s 31 rfl rfl rfl (q_load tok rfl rfl rfl (by first | exact .loc _ | exact .ptr _ _ _ _ _ _ _ _ rfl rfl rfl) rfl) ?_
    refine DOps.s 32 rfl rfl rfl (q_len tok rfl rfl rfl rfl rfl) ?_
    refine DOps.s 33 rfl rfl rfl (q_bin rfl rfl rfl rfl) ?_
    refine DOps.nil (by kernel_rfl) ?_
    refine AGo.split 33 rfl (fun hb2 => ?_) (fun hb2 => ?_)
    · -- True
      refine AGo.cond_true true rfl rfl ?_
      have hil : i < l.length := by have h := hb2; simp at h; exact h
      obtain ⟨y, hlx⟩ := get_of_lt (l := l) (k := i.toNat) (by omega)
      refine AGo.seq ?_
      refine AGo.region ?_
      refine AOps.s 34 rfl rfl rfl (q_move (.inl rfl) rfl) ?_
      refine AOps.s 35 rfl rfl rfl (q_nilCheck rfl rfl rfl) ?_
      refine AOps.s 36 rfl rfl rfl (q_fieldAddr tok rfl rfl rfl rfl rfl rfl) ?_
      refine AOps.s 37 rfl rfl rfl (q_load tok rfl rfl rfl (.ptr _ _ _ _ _ _ _ _ rfl rfl (show _ = some (wcell (b, i)) by rw [Nat.zero_add, Int.toNat_natCast]; exact htop)) rfl) ?_
      refine AOps.s 38 rfl rfl rfl (q_bin (r := .int .i64 (i + 1)) rfl rfl rfl (by simp only [evalBin, evalInt, isShift, cond_false, if_true]; rw [wrap_i64 (by omega) (by have := hsm _ (List.mem_of_getElem? hnx); omega)])) ?_
      refine AOps.s 39 rfl rfl rfl (q_nilCheck rfl rfl rfl) ?_
      refine AOps.s 40 rfl rfl rfl (q_fieldAddr tok rfl rfl rfl rfl rfl rfl) ?_
      refine AOps.w rfl rfl (o_store tok rfl rfl rfl rfl rfl rfl rfl (show _ = some (wcell (b, i)) by rw [Nat.zero_add, Int.toNat_natCast]; exact htop) rfl (by decide) rfl (by first | exact fun _ => rfl | (intro h; cases h))) ?_
      refine AOps.nil ?_
      refine AGo.seq ?_
      refine AGo.sub (s' := ⟨69, (eput (eput (eput (eput (eput (eput eNew 2 (.fn (.func 42) [] [])) 3 (.ptr 1 1 0 0)) 4 (.ptr 2 1 0 0)) 6 (.ptr 3 1 0 0)) 7 (.fn (.func 51) [] [.ptr 1 1 0 0, .ptr 2 1 0 0, .ptr 3 1 0 0])) 8 (.ptr 4 q.es.length (0 + (((q.s.way.length - 1 : Nat) : Int)).toNat) 0)), (hput (hput (hput (hput (hput hNone 0 (.row true 1 (((DS.mk q.s.been (q.s.way.dropLast ++ [(b, i + 1)]))).been.map boolCells))) 1 (.row false 1 [[pathsAV next]])) 2 (.row false 1 [[.ref 0 next.length 0 next.length]])) 3 (.row false 1 [[.ref 4 ((q.es.set (q.s.way.length - 1) (wcell (b, i + 1)))).length 0 ((DS.mk q.s.been (q.s.way.dropLast ++ [(b, i + 1)]))).way.length]])) 4 (.row true 2 ((q.es.set (q.s.way.length - 1) (wcell (b, i + 1))))))⟩) (Sub.mk' (by repeat (first | exact ESub.new _ | refine ESub.put ?_ (by rfl))) (by repeat (first | exact HSub.none _ | exact HSub.from_new _ | exact HSub.from_from (by decide) | refine HSub.put ?_ (by first | rfl | exact congrArg (fun es => some (AObj.row true 2 es)) (by rw [Nat.zero_add, Int.toNat_natCast]; rfl) | exact congrArg (fun p : Nat × Nat => some (AObj.row false 1 [[AV.ref 4 p.1 0 p.2]])) (way_seen_len hp _ _)) | refine HSub.from_put ?_ (by decide)))) ?_
      refine AGo.draw mix ?_
      refine DOps.s 41 rfl rfl rfl (q_move (.inl rfl) rfl) ?_
      refine DOps.s 42 rfl rfl rfl (q_load tok rfl rfl rfl (by first | exact .loc _ | exact .ptr _ _ _ _ _ _ _ _ rfl rfl rfl) rfl) ?_
      refine DOps.s 43 rfl rfl rfl (q_move (.inl rfl) rfl) ?_
      refine DOps.s 44 rfl rfl rfl (q_nilCheck rfl rfl rfl) ?_
      refine DOps.s 45 rfl rfl rfl (q_fieldAddr tok rfl rfl rfl rfl rfl rfl) ?_
      refine DOps.s 46 rfl rfl rfl (q_load tok rfl rfl rfl (.ptr _ _ _ _ _ _ _ _ rfl (by simp) (show _ = some (wcell (b, i + 1)) by rw [Nat.zero_add, Int.toNat_natCast, List.getElem?_set_self (by have := hF.way.le; omega)])) rfl) ?_
      refine DOps.s 47 rfl rfl rfl (q_index_lst tok rfl rfl rfl rfl rfl rfl hbi.1 (idx_mapZ hnx) rfl) ?_
      refine DOps.s 48 rfl rfl rfl (q_load tok rfl rfl rfl (by first | exact .loc _ | exact .ptr _ _ _ _ _ _ _ _ rfl rfl rfl) rfl) ?_
      refine DOps.s 49 rfl rfl rfl (q_move (.inl rfl) rfl) ?_
      refine DOps.s 50 rfl rfl rfl (q_nilCheck rfl rfl rfl) ?_
      refine DOps.s 51 rfl rfl rfl (q_fieldAddr tok rfl rfl rfl rfl rfl rfl) ?_
      refine DOps.s 52 rfl rfl rfl (q_load tok rfl rfl rfl (.ptr _ _ _ _ _ _ _ _ rfl (by simp) (show _ = some (wcell (b, i + 1)) by rw [Nat.zero_add, Int.toNat_natCast, List.getElem?_set_self (by have := hF.way.le; omega)])) rfl) ?_
      refine DOps.s 53 rfl rfl rfl (q_bin (r := .int .i64 i) rfl rfl rfl (by simp only [evalBin, evalInt, isShift, cond_false, if_true]; rw [show i + 1 - 1 = i by omega, wrap_i64 (by omega) (by have := hsm _ (List.mem_of_getElem? hnx); omega)])) ?_
      refine DOps.s 54 rfl rfl rfl (q_index_lst tok rfl rfl rfl rfl rfl rfl hbi.2.2.1 (cs := [.int .i64 (((rowAt next b)[i.toNat]?).getD 0)]) (by show (List.map (fun b => [AV.int .i64 b]) l)[i.toNat]? = _; rw [List.getElem?_map, hlx, hrl, hlx]; rfl) rfl) ?_
      refine DOps.s 55 rfl rfl rfl (q_load tok rfl rfl rfl (by first | exact .loc _ | exact .ptr _ _ _ _ _ _ _ _ rfl rfl rfl) rfl) ?_
      refine DOps.x 56 rfl rfl rfl (o_callF (hc := (hput (hput (hput (hput (hput hNew 0 (.row true 1 (((DS.mk q.s.been (q.s.way.dropLast ++ [(b, i + 1)]))).been.map boolCells))) 1 (.row false 1 [[pathsAV next]])) 2 (.row false 1 [[.ref 0 next.length 0 next.length]])) 3 (.row false 1 [[.ref 4 ((q.es.set (q.s.way.length - 1) (wcell (b, i + 1)))).length 0 ((DS.mk q.s.been (q.s.way.dropLast ++ [(b, i + 1)]))).way.length]])) 4 (.row true 2 ((q.es.set (q.s.way.length - 1) (wcell (b, i + 1))))))) (hw := (hput (hput (hput (hput (hput hNone 0 (.row true 1 (((dinto (((rowAt next b)[i.toNat]?).getD 0) (DS.mk q.s.been (q.s.way.dropLast ++ [(b, i + 1)])))).been.map boolCells))) 1 (.row false 1 [[pathsAV next]])) 2 (.row false 1 [[.ref 0 next.length 0 next.length]])) 3 (.row false 1 [[.ref 4 ((ies (((rowAt next b)[i.toNat]?).getD 0) (DS.mk q.s.been (q.s.way.dropLast ++ [(b, i + 1)])) (q.es.set (q.s.way.length - 1) (wcell (b, i + 1))))).length 0 ((dinto (((rowAt next b)[i.toNat]?).getD 0) (DS.mk q.s.been (q.s.way.dropLast ++ [(b, i + 1)])))).way.length]])) 4 (.row true 2 ((ies (((rowAt next b)[i.toNat]?).getD 0) (DS.mk q.s.been (q.s.way.dropLast ++ [(b, i + 1)])) (q.es.set (q.s.way.length - 1) (wcell (b, i + 1)))))))) [4, 3, 2, 1, 0] [(0, (.row true 1 (((dinto (((rowAt next b)[i.toNat]?).getD 0) (DS.mk q.s.been (q.s.way.dropLast ++ [(b, i + 1)])))).been.map boolCells))), (1, (.row false 1 [[pathsAV next]])), (2, (.row false 1 [[.ref 0 next.length 0 next.length]])), (3, (.row false 1 [[.ref 4 ((ies (((rowAt next b)[i.toNat]?).getD 0) (DS.mk q.s.been (q.s.way.dropLast ++ [(b, i + 1)])) (q.es.set (q.s.way.length - 1) (wcell (b, i + 1))))).length 0 ((dinto (((rowAt next b)[i.toNat]?).getD 0) (DS.mk q.s.been (q.s.way.dropLast ++ [(b, i + 1)])))).way.length]])), (4, (.row true 2 ((ies (((rowAt next b)[i.toNat]?).getD 0) (DS.mk q.s.been (q.s.way.dropLast ++ [(b, i + 1)])) (q.es.set (q.s.way.length - 1) (wcell (b, i + 1)))))))] rfl rfl Try.func51 (by kernel_rfl) rfl rfl rfl ⟨⟨_, rfl, rfl⟩, ⟨_, rfl, rfl⟩, ⟨_, rfl, rfl⟩, ⟨_, rfl, rfl⟩, ⟨_, rfl, rfl⟩, trivial⟩ rfl (hres_cons rfl (hres_cons rfl (hres_cons rfl (hres_cons rfl (hres_cons rfl (hres_nil _)))))) ⟨⟨_, rfl, rfl, rfl⟩, ⟨_, rfl, rfl, rfl⟩, ⟨_, rfl, rfl, rfl⟩, ⟨_, rfl, rfl, rfl⟩, ⟨_, rfl, rfl, rfl⟩, trivial⟩ rfl (into_ok next hnl (((rowAt next b)[i.toNat]?).getD 0) (DS.mk q.s.been (q.s.way.dropLast ++ [(b, i + 1)])) (q.es.set (q.s.way.length - 1) (wcell (b, i + 1))) hF.ok.len (hF.way.seen hp))) ?_
      refine DOps.nil (by kernel_rfl) ?_
      refine AGo.exit ?_
      first
      | have hnx2 := hF.next (s' := dinto (((rowAt next b)[i.toNat]?).getD 0) (DS.mk q.s.been (q.s.way.dropLast ++ [(b, i + 1)]))) (es' := ies (((rowAt next b)[i.toNat]?).getD 0) (DS.mk q.s.been (q.s.way.dropLast ++ [(b, i + 1)])) (q.es.set (q.s.way.length - 1) (wcell (b, i + 1)))) hp (dstep_in hp (by rw [hrl]; simpa using hil)) (hF.way.seen hp).into
      | have hnx2 := hF.next (s' := ⟨q.s.been, q.s.way.dropLast⟩) (es' := q.es) hp (dstep_out hp (by rw [hrl]; simpa using hil)) (hF.way.pop hp)
      exact ⟨⟨_, _, q.g - 1⟩, Drop.mk' (by repeat (first | exact EDrop.new _ _ | refine EDrop.put ?_ (by rfl) rfl)) (by repeat (first | exact HDrop.none _ _ | exact HDrop.tail _ _ | refine HDrop.put ?_ (by rfl) rfl rfl)), hnx2.1, hnx2.2⟩
    · -- False
      refine AGo.cond_false false rfl rfl ?_
      have hil : ¬ i < l.length := by have h := hb2; simp at h; omega
      refine AGo.skip ?_
      refine AGo.seq ?_
      refine AGo.region ?_
      refine AOps.s 57 rfl rfl rfl (q_move (.inl rfl) rfl) ?_
      refine AOps.s 58 rfl rfl rfl (q_nilCheck rfl rfl rfl) ?_
      refine AOps.s 59 rfl rfl rfl (q_fieldAddr tok rfl rfl rfl rfl rfl rfl) ?_
      refine AOps.s 60 rfl rfl rfl (q_load tok rfl rfl rfl (.ptr _ _ _ _ _ _ _ _ rfl rfl (show _ = some (wcell (b, i)) by rw [Nat.zero_add, Int.toNat_natCast]; exact htop)) rfl) ?_
      refine AOps.s 9 rfl rfl rfl (q_move (.inr rfl) rfl) ?_
      refine AOps.nil ?_
      refine AGo.seq ?_
      refine AGo.region ?_
      refine AOps.s 61 rfl rfl rfl (q_load tok rfl rfl rfl (by first | exact .loc _ | exact .ptr _ _ _ _ _ _ _ _ rfl rfl rfl) rfl) ?_
      refine AOps.s 62 rfl rfl rfl (q_load tok rfl rfl rfl (by first | exact .loc _ | exact .ptr _ _ _ _ _ _ _ _ rfl rfl rfl) rfl) ?_
      refine AOps.s 63 rfl rfl rfl (q_len tok rfl rfl rfl rfl rfl) ?_
      refine AOps.s 64 rfl rfl rfl (q_bin (r := .int .i64 ((q.s.way.length - 1 : Nat) : Int)) rfl rfl rfl (len_pred hpos (by have := hF.way.cap; have := hF.way.le; omega))) ?_
      refine AOps.s 65 rfl rfl rfl (q_slice_ref (m := (DS.mk q.s.been q.s.way.dropLast).way.length) tok rfl rfl rfl rfl rfl rfl rfl rfl (by simp) (by simp)) ?_
      refine AOps.w rfl rfl (o_store tok rfl rfl rfl rfl rfl rfl rfl rfl rfl (by decide) rfl (by first | exact fun _ => rfl | (intro h; cases h))) ?_
      refine AOps.nil ?_
      refine AGo.region ?_
      refine AOps.s 66 rfl rfl rfl (q_move (.inl rfl) rfl) ?_
      refine AOps.s 67 rfl rfl rfl (q_move (.inl rfl) rfl) ?_
      refine AOps.x 68 rfl rfl rfl (o_callF (hc := hNew) (hw := hNone) [] [] rfl rfl Try.func42 (by kernel_rfl) rfl rfl rfl trivial rfl (hres_nil _) trivial rfl (idle_ok b)) ?_
      refine AOps.nil ?_
      first
      | have hnx2 := hF.next (s' := dinto (((rowAt next b)[i.toNat]?).getD 0) (DS.mk q.s.been (q.s.way.dropLast ++ [(b, i + 1)]))) (es' := ies (((rowAt next b)[i.toNat]?).getD 0) (DS.mk q.s.been (q.s.way.dropLast ++ [(b, i + 1)])) (q.es.set (q.s.way.length - 1) (wcell (b, i + 1)))) hp (dstep_in hp (by rw [hrl]; simpa using hil)) (hF.way.seen hp).into
      | have hnx2 := hF.next (s' := ⟨q.s.been, q.s.way.dropLast⟩) (es' := q.es) hp (dstep_out hp (by rw [hrl]; simpa using hil)) (hF.way.pop hp)
      exact ⟨⟨_, _, q.g - 1⟩, Drop.mk' (by repeat (first | exact EDrop.new _ _ | refine EDrop.put ?_ (by rfl) rfl)) (by repeat (first | exact HDrop.none _ _ | exact HDrop.tail _ _ | refine HDrop.put ?_ (by rfl) rfl rfl)), hnx2.1, hnx2.2⟩
  · -- False
    refine AGo.cond_false false rfl rfl ?_
    have hnil : q.s.way = [] := List.length_eq_zero_iff.1 (by have h := hb1; simp at h; simpa using h)
    refine AGo.exit ?_
    refine ⟨[], trivial, rfl, ?_⟩
    rw [show dreach next been = q.s.been from (congrArg DS.been (hF.done hnil)).symm]
    exact HSub.put (HSub.none _) rfl

set_option maxRecDepth 100000 in
theorem reach_ok (next : List (List Int)) (hnl : next.length ≤ 100000) (hsm : ∀ l ∈ next, l.length ≤ 100000) : APure Try.prog 28 [pathsAV next] (fun r => r = boolsAV (dreach next (List.replicate next.length false))) := by
  refine APure.of_body (n := 11) tok Try.func28 rfl rfl ?_
  refine AGo.seq ?_
  refine AGo.region ?_
  refine AOps.s 2 rfl rfl rfl (q_move (.inr rfl) rfl) ?_
  refine AOps.nil ?_
  refine AGo.seq ?_
  refine AGo.region ?_
  refine AOps.s 4 rfl rfl rfl (q_move (.inl rfl) rfl) ?_
  refine AOps.s 5 rfl rfl rfl (q_len tok rfl rfl rfl rfl rfl) ?_
  refine AOps.x 6 rfl rfl rfl (o_makeSlice tok (n := next.length) (m := next.length) 0 true rfl rfl rfl (by simp) (by simp) rfl rfl rfl rfl rfl (Nat.zero_lt_succ _) rfl (Nat.le_refl _) (by show 1 * next.length ≤ _; omega) (by simp only [maxLen]; omega)) ?_
  refine AOps.s 3 rfl rfl rfl (q_move (.inr rfl) rfl) ?_
  refine AOps.nil ?_
  refine AGo.seq ?_
  refine AGo.sub (s' := ⟨11, (eput (eput eNew 0 (pathsAV next)) 3 (.ref 0 next.length 0 next.length)), (hput hNone 0 (.row true 1 (((List.replicate next.length false)).map boolCells)))⟩) (Sub.mk' (by repeat (first | exact ESub.new _ | refine ESub.put ?_ (by rfl))) (by repeat (first | exact HSub.none _ | exact HSub.from_new _ | exact HSub.from_from (by decide) | refine HSub.put ?_ (by first | rfl | exact congrArg (fun es => some (AObj.row true 1 es)) (by rw [List.map_replicate]; rfl)) | refine HSub.from_put ?_ (by decide)))) ?_
  refine AGo.region ?_
  refine AOps.s 7 rfl rfl rfl (q_move (.inl rfl) rfl) ?_
  refine AOps.s 8 rfl rfl rfl (q_move (.inl rfl) rfl) ?_
  refine AOps.x 9 rfl rfl rfl (o_call (hc := hput hNew 0 (.row true 1 (((List.replicate next.length false)).map boolCells))) (hw := hput hNone 0 (.row true 1 ((dreach next (List.replicate next.length false)).map boolCells))) [0] [(0, (.row true 1 ((dreach next (List.replicate next.length false)).map boolCells)))] rfl Try.func41 (by kernel_rfl) rfl rfl rfl ⟨⟨_, rfl, rfl⟩, trivial⟩ rfl (hres_cons rfl (hres_nil _)) ⟨⟨_, rfl, rfl, rfl⟩, trivial⟩ rfl (walk_ok next hnl hsm (List.replicate next.length false) (by simp))) ?_
  refine AOps.nil ?_
  refine AGo.seq ?_
  refine AGo.ghost (.freezeA 3 0 rfl rfl (by simp [dreach_length])) ?_
  refine AGo.region ?_
  refine AOps.s 10 rfl rfl rfl (q_move (.inl rfl) rfl) ?_
  refine AOps.s 2 rfl rfl rfl (q_move (.inr rfl) rfl) ?_
  refine AOps.nil ?_
  refine AGo.ret ?_
  refine ⟨[_], ⟨rfl, trivial⟩, ?_, rfl⟩
  rfl

end Go.Proofs.Ytidfabbnobipkaa.Sv

namespace Go.Proofs.Ytidfabbnobipkaa.Sv
open Go
set_option linter.unusedVariables false
set_option linter.unusedSimpArgs false

set_option maxRecDepth 100000 in
theorem takings_ok (f : BFunc) (reach : List Bool) (hn : f.blocks.length ≤ 1000) (hr : reach.length = f.blocks.length) (hle : f.leads) : APure Try.prog 29 [.agg f.cells, pathsAV f.nexts, boolsAV reach] (fun r => r = .tup [intsAV (f.takes reach), boolsAV (f.takenAt reach f.blocks.length)]) := by
  refine APure.of_body (n := 104) tok Try.func29 rfl rfl ?_
  refine AGo.seq ?_
  refine AGo.region ?_
  refine AOps.x 3 rfl rfl rfl (o_box (sz := 2) 0 rfl rfl rfl rfl (Nat.zero_lt_succ _) rfl) ?_
  refine AOps.s 6 rfl rfl rfl (q_move (.inr rfl) rfl) ?_
  refine AOps.s 7 rfl rfl rfl (q_move (.inr rfl) rfl) ?_
  refine AOps.nil ?_
  refine AGo.seq ?_
  refine AGo.region ?_
  refine AOps.s 15 rfl rfl rfl (q_fieldAddr tok rfl rfl rfl rfl rfl rfl) ?_
  refine AOps.s 16 rfl rfl rfl (q_load tok rfl rfl rfl (by first | exact .loc _ | exact .ptr _ _ _ _ _ _ _ _ rfl rfl rfl) rfl) ?_
  refine AOps.s 17 rfl rfl rfl (q_len tok rfl rfl rfl rfl rfl) ?_
  refine AOps.x 18 rfl rfl rfl (o_makeSlice tok (n := f.blocks.length) (m := f.blocks.length) 1 true rfl rfl rfl (by simp) (by simp) rfl rfl rfl rfl rfl (Nat.zero_lt_succ _) rfl (Nat.le_refl _) (by show 8 * f.blocks.length ≤ _; omega) (by simp only [maxLen]; omega)) ?_
  refine AOps.s 8 rfl rfl rfl (q_move (.inr rfl) rfl) ?_
  refine AOps.nil ?_
  refine AGo.seq ?_
  refine AGo.seq ?_
  refine AGo.region ?_
  refine AOps.s 19 rfl rfl rfl (q_move (.inl rfl) rfl) ?_
  refine AOps.s 20 rfl rfl rfl (q_len tok rfl rfl rfl rfl rfl) ?_
  refine AOps.s 21 rfl rfl rfl (q_move (.inl rfl) rfl) ?_
  refine AOps.nil ?_
  refine AGo.block ?_
  refine AGo.loopD (γ := Nat) 2 (fun k => ⟨104, (eput (eput (eput (eput (eput (eput (eput (eput eNew 0 (.agg f.cells)) 1 (pathsAV f.nexts)) 2 (boolsAV reach)) 3 (.ptr 0 1 0 0)) 8 (.ref 1 f.blocks.length 0 f.blocks.length)) 19 (pathsAV f.nexts)) 20 (.int .i64 (f.blocks.length : Int))) 21 (.int .i64 (k : Int))), (hput (hput (hFrom 2) 0 (.row false 2 [f.cells])) 1 (.row true 1 (intCells (waysAt f.nexts reach k))))⟩) (fun k => k ≤ f.blocks.length) (fun k => f.blocks.length - k) 0 (Sub.mk' (by repeat (first | exact ESub.new _ | refine ESub.put ?_ (by first | rfl | exact congrArg (fun (n : Nat) => some (AV.int .i64 (n : Int))) (by simp [nexts_length])))) (by repeat (first | exact HSub.none _ | exact HSub.from_new _ | exact HSub.from_from (by decide) | refine HSub.put ?_ (by first | rfl | exact congrArg (fun es => some (AObj.row true 1 es)) (by rw [waysAt, nexts_length]; exact intCells_rep _)) | refine HSub.from_put ?_ (by decide)))) (Nat.zero_le _) (fun _ => hput_free (hput_free (fun b hb => hFrom_free hb) rfl) rfl) ?_
  intro k hk
  refine AGo.seq ?_
  refine AGo.region ?_
  refine AOps.s 22 rfl rfl rfl (q_bin rfl rfl rfl rfl) ?_
  refine AOps.nil ?_
  refine AGo.seq ?_
  refine AGo.split 22 rfl (fun hb1 => ?_) (fun hb1 => ?_)
  · -- True
    refine AGo.cond_true true rfl rfl ?_
    have hkl : k < f.blocks.length := by simpa using hb1
    obtain ⟨x, hx⟩ := get_of_lt hkl
    have hnx := nexts_get hx
    obtain ⟨rk, hrk⟩ := get_of_lt (l := reach) (k := k) (by omega)
    refine AGo.skip ?_
    refine AGo.seq ?_
    refine AGo.block ?_
    refine AGo.seq ?_
    refine AGo.region ?_
    refine AOps.s 23 rfl rfl rfl (q_move (.inl rfl) rfl) ?_
    refine AOps.s 24 rfl rfl rfl (q_index_lst tok rfl rfl rfl rfl rfl rfl (Int.natCast_nonneg _) (idx_map (by assumption)) rfl) ?_
    refine AOps.s 25 rfl rfl rfl (q_load tok rfl rfl rfl (by first | exact .loc _ | exact .ptr _ _ _ _ _ _ _ _ rfl rfl rfl) rfl) ?_
    refine AOps.s 9 rfl rfl rfl (q_move (.inr rfl) rfl) ?_
    refine AOps.s 10 rfl rfl rfl (q_move (.inr rfl) rfl) ?_
    refine AOps.nil ?_
    refine AGo.seq ?_
    refine AGo.seq ?_
    refine AGo.region ?_
    refine AOps.s 26 rfl rfl rfl (q_move (.inl rfl) rfl) ?_
    refine AOps.s 27 rfl rfl rfl (q_move (.inl rfl) rfl) ?_
    refine AOps.s 28 rfl rfl rfl (q_index_lst tok rfl rfl rfl rfl rfl rfl (Int.natCast_nonneg _) (idx_map (by assumption)) rfl) ?_
    refine AOps.s 29 rfl rfl rfl (q_load tok rfl rfl rfl (by first | exact .loc _ | exact .ptr _ _ _ _ _ _ _ _ rfl rfl rfl) rfl) ?_
    refine AOps.s 30 rfl rfl rfl (q_not rfl rfl) ?_
    refine AOps.nil ?_
    refine AGo.split 30 rfl (fun hb2 => ?_) (fun hb2 => ?_)
    · -- True
      refine AGo.cond_true true rfl rfl ?_
      have hrf : reach[k]? = some false := by rw [hrk]; simpa using hb2
      refine AGo.exit ?_
      refine AGo.region ?_
      refine AOps.s 44 rfl rfl rfl (q_inc rfl rfl hkl (by simp only [maxLen]; omega)) ?_
      refine AOps.s 21 rfl rfl rfl (q_move (.inl rfl) rfl) ?_
      refine AOps.nil ?_
      exact ⟨k+1, Drop.mk' (by repeat (first | exact EDrop.new _ _ | refine EDrop.put ?_ (by rfl) rfl)) (by repeat (first | exact HDrop.none _ _ | exact HDrop.tail _ _ | refine HDrop.put ?_ (by first | rfl | exact congrArg (fun w => some (AObj.row true 1 (intCells w))) (ways_skip hrf) | exact congrArg (fun w => some (AObj.row true 1 (intCells w))) (ways_do hrt hnx hge2)) rfl rfl)), hkl, by omega⟩
    · -- False
      refine AGo.cond_false false rfl rfl ?_
      have hrt : reach[k]? = some true := by rw [hrk]; simpa using hb2
      have h2 := nexts_two f x.nexts (List.mem_of_getElem? hnx)
      refine AGo.skip ?_
      refine AGo.seq ?_
      refine AGo.region ?_
      refine AOps.s 31 rfl rfl rfl (q_move (.inl rfl) rfl) ?_
      refine AOps.s 32 rfl rfl rfl (q_len tok rfl rfl rfl rfl rfl) ?_
      refine AOps.s 33 rfl rfl rfl (q_move (.inl rfl) rfl) ?_
      refine AOps.nil ?_
      refine AGo.block ?_
      refine AGo.loopD (γ := Nat) 2 (fun j => ⟨104, (eput (eput (eput (eput (eput (eput (eput (eput (eput (eput (eput (eput eNew 0 (.agg f.cells)) 1 (pathsAV f.nexts)) 2 (boolsAV reach)) 3 (.ptr 0 1 0 0)) 8 (.ref 1 f.blocks.length 0 f.blocks.length)) 19 (pathsAV f.nexts)) 20 (.int .i64 (f.blocks.length : Int))) 21 (.int .i64 (k : Int))) 9 (.int .i64 (k : Int))) 31 (intsAV x.nexts)) 32 (.int .i64 (x.nexts.length : Int))) 33 (.int .i64 (j : Int))), (hput (hput (hFrom 2) 0 (.row false 2 [f.cells])) 1 (.row true 1 (intCells ((x.nexts.take j).foldl bump (waysAt f.nexts reach k)))))⟩) (fun j => j ≤ x.nexts.length) (fun j => x.nexts.length - j) 0 (Sub.mk' (by repeat (first | exact ESub.new _ | refine ESub.put ?_ (by first | rfl | exact congrArg (fun (n : Nat) => some (AV.int .i64 (n : Int))) (by simp)))) (by repeat (first | exact HSub.none _ | exact HSub.from_new _ | exact HSub.from_from (by decide) | refine HSub.put ?_ (by rfl) | refine HSub.from_put ?_ (by decide)))) (Nat.zero_le _) (fun _ => hput_free (hput_free (fun b hb => hFrom_free hb) rfl) rfl) ?_
      intro j hj
      refine AGo.seq ?_
      refine AGo.region ?_
      refine AOps.s 34 rfl rfl rfl (q_bin rfl rfl rfl rfl) ?_
      refine AOps.nil ?_
      refine AGo.seq ?_
      refine AGo.split 34 rfl (fun hb3 => ?_) (fun hb3 => ?_)
      · -- True
        refine AGo.cond_true true rfl rfl ?_
        have hjl : j < x.nexts.length := by simpa using hb3
        obtain ⟨y, hy⟩ := get_of_lt hjl
        have hyr := hle x.nexts (List.mem_of_getElem? hnx) y (List.mem_of_getElem? hy)
        have hub := iget_upTo (bumps_upTo (x.nexts.take j) (waysAt_upTo (nexts_two f) reach k)) y
        have hjt : (x.nexts.take j).length = j := by rw [List.length_take]; omega
        rw [hjt] at hub
        refine AGo.skip ?_
        refine AGo.seq ?_
        refine AGo.block ?_
        refine AGo.seq ?_
        refine AGo.region ?_
        refine AOps.s 35 rfl rfl rfl (q_index_lst tok rfl rfl rfl rfl rfl rfl (Int.natCast_nonneg _) (idx_map (by assumption)) rfl) ?_
        refine AOps.s 36 rfl rfl rfl (q_load tok rfl rfl rfl (by first | exact .loc _ | exact .ptr _ _ _ _ _ _ _ _ rfl rfl rfl) rfl) ?_
        refine AOps.s 12 rfl rfl rfl (q_move (.inr rfl) rfl) ?_
        refine AOps.nil ?_
        refine AGo.region ?_
        refine AOps.s 37 rfl rfl rfl (q_move (.inl rfl) rfl) ?_
        refine AOps.s 38 rfl rfl rfl (q_move (.inl rfl) rfl) ?_
        refine AOps.s 39 rfl rfl rfl (q_index_ref tok rfl rfl rfl rfl rfl rfl rfl (by rw [intCells_len, bumps_length, waysAt_length, nexts_length]) rfl hyr.1 (by omega)) ?_
        refine AOps.s 40 rfl rfl rfl (q_load tok rfl rfl rfl (.ptr _ _ _ _ _ _ _ _ rfl (by rw [intCells_len, bumps_length, waysAt_length, nexts_length]) (icell (by rw [bumps_length, waysAt_length, nexts_length]; exact hyr))) rfl) ?_
        refine AOps.s 41 rfl rfl rfl (q_bin (r := .int .i64 (iget ((x.nexts.take j).foldl bump (waysAt f.nexts reach k)) y + 1)) rfl rfl rfl (by simp only [evalBin, evalInt, isShift, cond_false, if_true]; rw [wrap_i64 (by omega) (by omega)])) ?_
        refine AOps.s 42 rfl rfl rfl (q_index_ref tok rfl rfl rfl rfl rfl rfl rfl (by rw [intCells_len, bumps_length, waysAt_length, nexts_length]) rfl hyr.1 (by omega)) ?_
        refine AOps.w rfl rfl (o_store tok rfl rfl rfl rfl rfl rfl (by rw [intCells_len, bumps_length, waysAt_length, nexts_length]) (icell (by rw [bumps_length, waysAt_length, nexts_length]; exact hyr)) rfl (by decide) rfl (by first | exact fun _ => rfl | (intro h; cases h))) ?_
        refine AOps.nil ?_
        refine AGo.region ?_
        refine AOps.s 43 rfl rfl rfl (q_inc rfl rfl hjl (by simp only [maxLen]; omega)) ?_
        refine AOps.s 33 rfl rfl rfl (q_move (.inl rfl) rfl) ?_
        refine AOps.nil ?_
        exact ⟨j+1, Drop.mk' (by repeat (first | exact EDrop.new _ _ | refine EDrop.put ?_ (by rfl) rfl)) (by repeat (first | exact HDrop.none _ _ | exact HDrop.tail _ _ | refine HDrop.put ?_ (by first | rfl | exact congrArg (fun es => some (AObj.row true 1 es)) (by rw [bumps_succ hy]; exact icell_set _ _ _)) rfl rfl)), hjl, by omega⟩
      · -- False
        refine AGo.cond_false false rfl rfl ?_
        have hge2 : x.nexts.length ≤ j := by simpa using hb3
        refine AGo.exit ?_
        refine AGo.region ?_
        refine AOps.s 44 rfl rfl rfl (q_inc rfl rfl hkl (by simp only [maxLen]; omega)) ?_
        refine AOps.s 21 rfl rfl rfl (q_move (.inl rfl) rfl) ?_
        refine AOps.nil ?_
        exact ⟨k+1, Drop.mk' (by repeat (first | exact EDrop.new _ _ | refine EDrop.put ?_ (by rfl) rfl)) (by repeat (first | exact HDrop.none _ _ | exact HDrop.tail _ _ | refine HDrop.put ?_ (by first | rfl | exact congrArg (fun w => some (AObj.row true 1 (intCells w))) (ways_skip hrf) | exact congrArg (fun w => some (AObj.row true 1 (intCells w))) (ways_do hrt hnx hge2)) rfl rfl)), hkl, by omega⟩
  · -- False
    refine AGo.cond_false false rfl rfl ?_
    have hge : f.blocks.length ≤ k := by simpa using hb1
    obtain rfl : k = f.blocks.length := by omega
    refine AGo.exit ?_
    refine AGo.seq ?_
    refine AGo.region ?_
    refine AOps.s 45 rfl rfl rfl (q_fieldAddr tok rfl rfl rfl rfl rfl rfl) ?_
    refine AOps.s 46 rfl rfl rfl (q_load tok rfl rfl rfl (by first | exact .loc _ | exact .ptr _ _ _ _ _ _ _ _ rfl rfl rfl) rfl) ?_
    refine AOps.s 47 rfl rfl rfl (q_len tok rfl rfl rfl rfl rfl) ?_
    refine AOps.x 48 rfl rfl rfl (o_makeSlice tok (n := f.blocks.length) (m := f.blocks.length) 2 true rfl rfl rfl (by simp) (by simp) rfl rfl rfl rfl rfl (Nat.zero_lt_succ _) rfl (Nat.le_refl _) (by show 8 * f.blocks.length ≤ _; omega) (by simp only [maxLen]; omega)) ?_
    refine AOps.s 6 rfl rfl rfl (q_move (.inr rfl) rfl) ?_
    refine AOps.nil ?_
    refine AGo.seq ?_
    refine AGo.region ?_
    refine AOps.s 49 rfl rfl rfl (q_fieldAddr tok rfl rfl rfl rfl rfl rfl) ?_
    refine AOps.s 50 rfl rfl rfl (q_load tok rfl rfl rfl (by first | exact .loc _ | exact .ptr _ _ _ _ _ _ _ _ rfl rfl rfl) rfl) ?_
    refine AOps.s 51 rfl rfl rfl (q_len tok rfl rfl rfl rfl rfl) ?_
    refine AOps.x 52 rfl rfl rfl (o_makeSlice tok (n := f.blocks.length) (m := f.blocks.length) 3 true rfl rfl rfl (by simp) (by simp) rfl rfl rfl rfl rfl (Nat.zero_lt_succ _) rfl (Nat.le_refl _) (by show 1 * f.blocks.length ≤ _; omega) (by simp only [maxLen]; omega)) ?_
    refine AOps.s 7 rfl rfl rfl (q_move (.inr rfl) rfl) ?_
    refine AOps.nil ?_
    refine AGo.seq ?_
    refine AGo.seq ?_
    refine AGo.region ?_
    refine AOps.s 53 rfl rfl rfl (q_fieldAddr tok rfl rfl rfl rfl rfl rfl) ?_
    refine AOps.s 54 rfl rfl rfl (q_load tok rfl rfl rfl (by first | exact .loc _ | exact .ptr _ _ _ _ _ _ _ _ rfl rfl rfl) rfl) ?_
    refine AOps.s 55 rfl rfl rfl (q_len tok rfl rfl rfl rfl rfl) ?_
    refine AOps.s 56 rfl rfl rfl (q_move (.inl rfl) rfl) ?_
    refine AOps.nil ?_
    refine AGo.block ?_
    refine AGo.loopD (γ := Nat) 4 (fun k => ⟨104, (eput (eput (eput (eput (eput (eput (eput (eput (eput (eput eNew 0 (.agg f.cells)) 1 (pathsAV f.nexts)) 2 (boolsAV reach)) 3 (.ptr 0 1 0 0)) 8 (.ref 1 f.blocks.length 0 f.blocks.length)) 6 (.ref 2 f.blocks.length 0 f.blocks.length)) 7 (.ref 3 f.blocks.length 0 f.blocks.length)) 54 (blocksAV f.blocks)) 55 (.int .i64 (f.blocks.length : Int))) 56 (.int .i64 (k : Int))), (hput (hput (hput (hput (hFrom 4) 0 (.row false 2 [f.cells])) 1 (.row true 1 (intCells (waysF f.nexts reach)))) 2 (.row true 1 (((f.takes reach).take k).map icell1 ++ List.replicate (f.blocks.length - k) [.int .i64 0]))) 3 (.row true 1 ((f.takenAt reach k).map boolCells)))⟩) (fun k => k ≤ f.blocks.length) (fun k => f.blocks.length - k) 0 (Sub.mk' (by repeat (first | exact ESub.new _ | refine ESub.put ?_ (by first | rfl | exact congrArg (fun (n : Nat) => some (AV.int .i64 (n : Int))) (by simp)))) (by repeat (first | exact HSub.none _ | exact HSub.from_new _ | exact HSub.from_from (by decide) | refine HSub.put ?_ (by first | rfl | exact congrArg (fun w => some (AObj.row true 1 (intCells w))) (by rw [waysF, nexts_length]) | exact congrArg (fun es => some (AObj.row true 1 es)) (by simp [BFunc.takenAt, boolCells])) | refine HSub.from_put ?_ (by decide)))) (Nat.zero_le _) (fun _ => hput_free (hput_free (hput_free (hput_free (fun b hb => hFrom_free hb) rfl) rfl) rfl) rfl) ?_
    intro k hk
    refine AGo.seq ?_
    refine AGo.region ?_
    refine AOps.s 57 rfl rfl rfl (q_bin rfl rfl rfl rfl) ?_
    refine AOps.nil ?_
    refine AGo.seq ?_
    refine AGo.split 57 rfl (fun hb4 => ?_) (fun hb4 => ?_)
    · -- True
      refine AGo.cond_true true rfl rfl ?_
      have hkl : k < f.blocks.length := by simpa using hb4
      obtain ⟨x, hx⟩ := get_of_lt hkl
      obtain ⟨rk, hrk⟩ := get_of_lt (l := reach) (k := k) (by omega)
      have htk := takes_get (reach := reach) hx
      refine AGo.skip ?_
      refine AGo.seq ?_
      refine AGo.block ?_
      refine AGo.seq ?_
      refine AGo.region ?_
      refine AOps.s 58 rfl rfl rfl (q_move (.inl rfl) rfl) ?_
      refine AOps.s 59 rfl rfl rfl (q_index_lst tok rfl rfl rfl rfl rfl rfl (Int.natCast_nonneg _) (idx_map (by assumption)) rfl) ?_
      refine AOps.s 60 rfl rfl rfl (q_load tok rfl rfl rfl (by first | exact .loc _ | exact .ptr _ _ _ _ _ _ _ _ rfl rfl rfl) rfl) ?_
      refine AOps.x 14 rfl rfl rfl (o_alloc tok 4 rfl rfl rfl rfl (Nat.zero_lt_succ _) rfl) ?_
      refine AOps.s 13 rfl rfl rfl (q_move (.inr rfl) rfl) ?_
      refine AOps.w rfl rfl (o_store tok rfl rfl rfl rfl rfl rfl rfl rfl rfl (by decide) rfl (by first | exact fun _ => rfl | (intro h; cases h))) ?_
      refine AOps.nil ?_
      refine AGo.seq ?_
      refine AGo.region ?_
      refine AOps.s 61 rfl rfl rfl (q_move (.inl rfl) rfl) ?_
      refine AOps.s 62 rfl rfl rfl (q_move (.inl rfl) rfl) ?_
      refine AOps.s 63 rfl rfl rfl (q_index_ref tok rfl rfl rfl rfl rfl rfl rfl (fill_len (takes_length f reach) (Nat.le_of_lt hkl)) rfl (Int.natCast_nonneg _) (by omega)) ?_
      refine AOps.w rfl rfl (o_store tok rfl rfl rfl rfl rfl rfl (fill_len (takes_length f reach) (Nat.le_of_lt hkl)) (fill_get (takes_length f reach) hkl) rfl (by decide) rfl (by first | exact fun _ => rfl | (intro h; cases h))) ?_
      refine AOps.nil ?_
      refine AGo.seq ?_
      refine AGo.region ?_
      refine AOps.s 64 rfl rfl rfl (q_move (.inl rfl) rfl) ?_
      refine AOps.s 65 rfl rfl rfl (q_move (.inl rfl) rfl) ?_
      refine AOps.s 66 rfl rfl rfl (q_index_lst tok rfl rfl rfl rfl rfl rfl (Int.natCast_nonneg _) (idx_map (by assumption)) rfl) ?_
      refine AOps.s 67 rfl rfl rfl (q_load tok rfl rfl rfl (by first | exact .loc _ | exact .ptr _ _ _ _ _ _ _ _ rfl rfl rfl) rfl) ?_
      refine AOps.s 68 rfl rfl rfl (q_move (.inl rfl) rfl) ?_
      refine AOps.split 68 rfl (fun hb5 => ?_) (fun hb5 => ?_)
      · -- True
        refine AOps.s 69 rfl rfl rfl (q_fieldAddr tok rfl rfl rfl rfl rfl rfl) ?_
        refine AOps.s 70 rfl rfl rfl (q_load tok rfl rfl rfl (by first | exact .loc _ | exact .ptr _ _ _ _ _ _ _ _ rfl rfl rfl) rfl) ?_
        refine AOps.s 71 rfl rfl rfl (q_bin rfl rfl rfl rfl) ?_
        refine AOps.s 72 rfl rfl rfl (q_pick_true true rfl rfl rfl rfl) ?_
        refine AOps.s 73 rfl rfl rfl (q_move (.inl rfl) rfl) ?_
        refine AOps.split 73 rfl (fun hb6 => ?_) (fun hb6 => ?_)
        · -- True
          refine AOps.s 74 rfl rfl rfl (q_fieldAddr tok rfl rfl rfl rfl rfl rfl) ?_
          refine AOps.s 75 rfl rfl rfl (q_load tok rfl rfl rfl (by first | exact .loc _ | exact .ptr _ _ _ _ _ _ _ _ rfl rfl rfl) rfl) ?_
          refine AOps.s 76 rfl rfl rfl (q_bin rfl rfl rfl rfl) ?_
          refine AOps.s 77 rfl rfl rfl (q_pick_true true rfl rfl rfl rfl) ?_
          refine AOps.s 78 rfl rfl rfl (q_move (.inl rfl) rfl) ?_
          refine AOps.split 78 rfl (fun hb7 => ?_) (fun hb7 => ?_)
          · -- True
            refine AOps.s 79 rfl rfl rfl (q_fieldAddr tok rfl rfl rfl rfl rfl rfl) ?_
            refine AOps.s 80 rfl rfl rfl (q_load tok rfl rfl rfl (by first | exact .loc _ | exact .ptr _ _ _ _ _ _ _ _ rfl rfl rfl) rfl) ?_
            refine AOps.s 81 rfl rfl rfl (q_move (.inl rfl) rfl) ?_
            refine AOps.s 82 rfl rfl rfl (q_bin rfl rfl rfl rfl) ?_
            refine AOps.s 83 rfl rfl rfl (q_pick_true true rfl rfl rfl rfl) ?_
            refine AOps.s 84 rfl rfl rfl (q_move (.inl rfl) rfl) ?_
            refine AOps.split 84 rfl (fun hb8 => ?_) (fun hb8 => ?_)
            · -- True
              have hto := leads_to hle hx (.inl (by simp_all))
              refine AOps.s 85 rfl rfl rfl (q_move (.inl rfl) rfl) ?_
              refine AOps.s 86 rfl rfl rfl (q_fieldAddr tok rfl rfl rfl rfl rfl rfl) ?_
              refine AOps.s 87 rfl rfl rfl (q_load tok rfl rfl rfl (by first | exact .loc _ | exact .ptr _ _ _ _ _ _ _ _ rfl rfl rfl) rfl) ?_
              refine AOps.s 88 rfl rfl rfl (q_index_ref tok rfl rfl rfl rfl rfl rfl rfl (by rw [intCells_len, waysF, waysAt_length, nexts_length]) rfl hto.1 (by omega)) ?_
              refine AOps.s 89 rfl rfl rfl (q_load tok rfl rfl rfl (.ptr _ _ _ _ _ _ _ _ rfl (by rw [intCells_len, waysF, waysAt_length, nexts_length]) (icell (by rw [waysF, waysAt_length, nexts_length]; exact hto))) rfl) ?_
              refine AOps.s 90 rfl rfl rfl (q_bin rfl rfl rfl rfl) ?_
              refine AOps.s 91 rfl rfl rfl (q_pick_true true rfl rfl rfl rfl) ?_
              refine AOps.nil ?_
              refine AGo.split 91 rfl (fun hb9 => ?_) (fun hb9 => ?_)
              · -- True
                refine AGo.cond_true true rfl rfl ?_
                have hyes : takeOf f.nexts reach k x = x.to := takeOf_yes hrk (by simp_all)
                refine AGo.seq ?_
                refine AGo.region ?_
                refine AOps.s 92 rfl rfl rfl (q_move (.inl rfl) rfl) ?_
                refine AOps.s 93 rfl rfl rfl (q_move (.inl rfl) rfl) ?_
                refine AOps.s 94 rfl rfl rfl (q_fieldAddr tok rfl rfl rfl rfl rfl rfl) ?_
                refine AOps.s 95 rfl rfl rfl (q_load tok rfl rfl rfl (by first | exact .loc _ | exact .ptr _ _ _ _ _ _ _ _ rfl rfl rfl) rfl) ?_
                refine AOps.s 96 rfl rfl rfl (q_index_ref tok rfl rfl rfl rfl rfl rfl rfl (by rw [List.length_set]; exact fill_len (takes_length f reach) (Nat.le_of_lt hkl)) rfl (Int.natCast_nonneg _) (by omega)) ?_
                refine AOps.w rfl rfl (o_store tok rfl rfl rfl rfl rfl rfl (by rw [List.length_set]; exact fill_len (takes_length f reach) (Nat.le_of_lt hkl)) (get_set_selfZ (fill_get (takes_length f reach) hkl)) rfl (by decide) rfl (by first | exact fun _ => rfl | (intro h; cases h))) ?_
                refine AOps.nil ?_
                refine AGo.region ?_
                refine AOps.s 97 rfl rfl rfl (q_move (.inl rfl) rfl) ?_
                refine AOps.s 98 rfl rfl rfl (q_fieldAddr tok rfl rfl rfl rfl rfl rfl) ?_
                refine AOps.s 99 rfl rfl rfl (q_load tok rfl rfl rfl (by first | exact .loc _ | exact .ptr _ _ _ _ _ _ _ _ rfl rfl rfl) rfl) ?_
                refine AOps.s 100 rfl rfl rfl (q_index_ref tok rfl rfl rfl rfl rfl rfl rfl (by rw [List.length_map, takenAt_length]) rfl hto.1 (by omega)) ?_
                refine AOps.w rfl rfl (o_store tok rfl rfl rfl rfl rfl rfl (by rw [List.length_map, takenAt_length]) (cs := [.bool (bget (f.takenAt reach k) x.to)]) (by rw [Nat.zero_add]; exact bcellZ (by rw [takenAt_length]; exact hto)) rfl (by decide) rfl (by first | exact fun _ => rfl | (intro h; cases h))) ?_
                refine AOps.nil ?_
                refine AGo.region ?_
                refine AOps.s 101 rfl rfl rfl (q_inc rfl rfl hkl (by simp only [maxLen]; omega)) ?_
                refine AOps.s 56 rfl rfl rfl (q_move (.inl rfl) rfl) ?_
                refine AOps.nil ?_
                exact ⟨k+1, Drop.mk' (by repeat (first | exact EDrop.new _ _ | refine EDrop.put ?_ (by rfl) rfl)) (by repeat (first | exact HDrop.none _ _ | exact HDrop.tail _ _ | refine HDrop.put ?_ (by first | rfl | exact congrArg (fun es => some (AObj.row true 1 es)) (fill_put (f := icell1) (x := -1) (takes_length f reach) (by rw [htk, hno])) | exact congrArg (fun w => some (AObj.row true 1 (List.map boolCells w))) (taken_no hx hno) | exact congrArg (fun es => some (AObj.row true 1 es)) (by rw [List.set_set]; exact fill_put (f := icell1) (x := x.to) (takes_length f reach) (by rw [htk, hyes])) | exact congrArg (fun es => some (AObj.row true 1 es)) (taken_yes hx hyes hto.1)) rfl rfl)), hkl, by omega⟩
              · -- False
                refine AGo.cond_false false rfl rfl ?_
                have hno : takeOf f.nexts reach k x = -1 := takeOf_no hrk (by simp_all)
                refine AGo.skip ?_
                refine AGo.region ?_
                refine AOps.s 101 rfl rfl rfl (q_inc rfl rfl hkl (by simp only [maxLen]; omega)) ?_
                refine AOps.s 56 rfl rfl rfl (q_move (.inl rfl) rfl) ?_
                refine AOps.nil ?_
                exact ⟨k+1, Drop.mk' (by repeat (first | exact EDrop.new _ _ | refine EDrop.put ?_ (by rfl) rfl)) (by repeat (first | exact HDrop.none _ _ | exact HDrop.tail _ _ | refine HDrop.put ?_ (by first | rfl | exact congrArg (fun es => some (AObj.row true 1 es)) (fill_put (f := icell1) (x := -1) (takes_length f reach) (by rw [htk, hno])) | exact congrArg (fun w => some (AObj.row true 1 (List.map boolCells w))) (taken_no hx hno) | exact congrArg (fun es => some (AObj.row true 1 es)) (by rw [List.set_set]; exact fill_put (f := icell1) (x := x.to) (takes_length f reach) (by rw [htk, hyes])) | exact congrArg (fun es => some (AObj.row true 1 es)) (taken_yes hx hyes hto.1)) rfl rfl)), hkl, by omega⟩
            · -- False
              refine AOps.k 85 rfl rfl rfl ?_
              refine AOps.k 86 rfl rfl rfl ?_
              refine AOps.k 87 rfl rfl rfl ?_
              refine AOps.k 88 rfl rfl rfl ?_
              refine AOps.k 89 rfl rfl rfl ?_
              refine AOps.k 90 rfl rfl rfl ?_
              refine AOps.s 91 rfl rfl rfl (q_pick_false false rfl rfl rfl rfl) ?_
              refine AOps.nil ?_
              refine AGo.cond_false false rfl rfl ?_
              have hno : takeOf f.nexts reach k x = -1 := takeOf_no hrk (by simp_all)
              refine AGo.skip ?_
              refine AGo.region ?_
              refine AOps.s 101 rfl rfl rfl (q_inc rfl rfl hkl (by simp only [maxLen]; omega)) ?_
              refine AOps.s 56 rfl rfl rfl (q_move (.inl rfl) rfl) ?_
              refine AOps.nil ?_
              exact ⟨k+1, Drop.mk' (by repeat (first | exact EDrop.new _ _ | refine EDrop.put ?_ (by rfl) rfl)) (by repeat (first | exact HDrop.none _ _ | exact HDrop.tail _ _ | refine HDrop.put ?_ (by first | rfl | exact congrArg (fun es => some (AObj.row true 1 es)) (fill_put (f := icell1) (x := -1) (takes_length f reach) (by rw [htk, hno])) | exact congrArg (fun w => some (AObj.row true 1 (List.map boolCells w))) (taken_no hx hno) | exact congrArg (fun es => some (AObj.row true 1 es)) (by rw [List.set_set]; exact fill_put (f := icell1) (x := x.to) (takes_length f reach) (by rw [htk, hyes])) | exact congrArg (fun es => some (AObj.row true 1 es)) (taken_yes hx hyes hto.1)) rfl rfl)), hkl, by omega⟩
          · -- False
            refine AOps.k 79 rfl rfl rfl ?_
            refine AOps.k 80 rfl rfl rfl ?_
            refine AOps.k 81 rfl rfl rfl ?_
            refine AOps.k 82 rfl rfl rfl ?_
            refine AOps.s 83 rfl rfl rfl (q_pick_false false rfl rfl rfl rfl) ?_
            refine AOps.s 84 rfl rfl rfl (q_move (.inl rfl) rfl) ?_
            refine AOps.k 85 rfl rfl rfl ?_
            refine AOps.k 86 rfl rfl rfl ?_
            refine AOps.k 87 rfl rfl rfl ?_
            refine AOps.k 88 rfl rfl rfl ?_
            refine AOps.k 89 rfl rfl rfl ?_
            refine AOps.k 90 rfl rfl rfl ?_
            refine AOps.s 91 rfl rfl rfl (q_pick_false false rfl rfl rfl rfl) ?_
            refine AOps.nil ?_
            refine AGo.cond_false false rfl rfl ?_
            have hno : takeOf f.nexts reach k x = -1 := takeOf_no hrk (by simp_all)
            refine AGo.skip ?_
            refine AGo.region ?_
            refine AOps.s 101 rfl rfl rfl (q_inc rfl rfl hkl (by simp only [maxLen]; omega)) ?_
            refine AOps.s 56 rfl rfl rfl (q_move (.inl rfl) rfl) ?_
            refine AOps.nil ?_
            exact ⟨k+1, Drop.mk' (by repeat (first | exact EDrop.new _ _ | refine EDrop.put ?_ (by rfl) rfl)) (by repeat (first | exact HDrop.none _ _ | exact HDrop.tail _ _ | refine HDrop.put ?_ (by first | rfl | exact congrArg (fun es => some (AObj.row true 1 es)) (fill_put (f := icell1) (x := -1) (takes_length f reach) (by rw [htk, hno])) | exact congrArg (fun w => some (AObj.row true 1 (List.map boolCells w))) (taken_no hx hno) | exact congrArg (fun es => some (AObj.row true 1 es)) (by rw [List.set_set]; exact fill_put (f := icell1) (x := x.to) (takes_length f reach) (by rw [htk, hyes])) | exact congrArg (fun es => some (AObj.row true 1 es)) (taken_yes hx hyes hto.1)) rfl rfl)), hkl, by omega⟩
        · -- False
          refine AOps.k 74 rfl rfl rfl ?_
          refine AOps.k 75 rfl rfl rfl ?_
          refine AOps.k 76 rfl rfl rfl ?_
          refine AOps.s 77 rfl rfl rfl (q_pick_false false rfl rfl rfl rfl) ?_
          refine AOps.s 78 rfl rfl rfl (q_move (.inl rfl) rfl) ?_
          refine AOps.k 79 rfl rfl rfl ?_
          refine AOps.k 80 rfl rfl rfl ?_
          refine AOps.k 81 rfl rfl rfl ?_
          refine AOps.k 82 rfl rfl rfl ?_
          refine AOps.s 83 rfl rfl rfl (q_pick_false false rfl rfl rfl rfl) ?_
          refine AOps.s 84 rfl rfl rfl (q_move (.inl rfl) rfl) ?_
          refine AOps.k 85 rfl rfl rfl ?_
          refine AOps.k 86 rfl rfl rfl ?_
          refine AOps.k 87 rfl rfl rfl ?_
          refine AOps.k 88 rfl rfl rfl ?_
          refine AOps.k 89 rfl rfl rfl ?_
          refine AOps.k 90 rfl rfl rfl ?_
          refine AOps.s 91 rfl rfl rfl (q_pick_false false rfl rfl rfl rfl) ?_
          refine AOps.nil ?_
          refine AGo.cond_false false rfl rfl ?_
          have hno : takeOf f.nexts reach k x = -1 := takeOf_no hrk (by simp_all)
          refine AGo.skip ?_
          refine AGo.region ?_
          refine AOps.s 101 rfl rfl rfl (q_inc rfl rfl hkl (by simp only [maxLen]; omega)) ?_
          refine AOps.s 56 rfl rfl rfl (q_move (.inl rfl) rfl) ?_
          refine AOps.nil ?_
          exact ⟨k+1, Drop.mk' (by repeat (first | exact EDrop.new _ _ | refine EDrop.put ?_ (by rfl) rfl)) (by repeat (first | exact HDrop.none _ _ | exact HDrop.tail _ _ | refine HDrop.put ?_ (by first | rfl | exact congrArg (fun es => some (AObj.row true 1 es)) (fill_put (f := icell1) (x := -1) (takes_length f reach) (by rw [htk, hno])) | exact congrArg (fun w => some (AObj.row true 1 (List.map boolCells w))) (taken_no hx hno) | exact congrArg (fun es => some (AObj.row true 1 es)) (by rw [List.set_set]; exact fill_put (f := icell1) (x := x.to) (takes_length f reach) (by rw [htk, hyes])) | exact congrArg (fun es => some (AObj.row true 1 es)) (taken_yes hx hyes hto.1)) rfl rfl)), hkl, by omega⟩
      · -- False
        refine AOps.k 69 rfl rfl rfl ?_
        refine AOps.k 70 rfl rfl rfl ?_
        refine AOps.k 71 rfl rfl rfl ?_
        refine AOps.s 72 rfl rfl rfl (q_pick_false false rfl rfl rfl rfl) ?_
        refine AOps.s 73 rfl rfl rfl (q_move (.inl rfl) rfl) ?_
        refine AOps.k 74 rfl rfl rfl ?_
        refine AOps.k 75 rfl rfl rfl ?_
        refine AOps.k 76 rfl rfl rfl ?_
        refine AOps.s 77 rfl rfl rfl (q_pick_false false rfl rfl rfl rfl) ?_
        refine AOps.s 78 rfl rfl rfl (q_move (.inl rfl) rfl) ?_
        refine AOps.k 79 rfl rfl rfl ?_
        refine AOps.k 80 rfl rfl rfl ?_
        refine AOps.k 81 rfl rfl rfl ?_
        refine AOps.k 82 rfl rfl rfl ?_
        refine AOps.s 83 rfl rfl rfl (q_pick_false false rfl rfl rfl rfl) ?_
        refine AOps.s 84 rfl rfl rfl (q_move (.inl rfl) rfl) ?_
        refine AOps.k 85 rfl rfl rfl ?_
        refine AOps.k 86 rfl rfl rfl ?_
        refine AOps.k 87 rfl rfl rfl ?_
        refine AOps.k 88 rfl rfl rfl ?_
        refine AOps.k 89 rfl rfl rfl ?_
        refine AOps.k 90 rfl rfl rfl ?_
        refine AOps.s 91 rfl rfl rfl (q_pick_false false rfl rfl rfl rfl) ?_
        refine AOps.nil ?_
        refine AGo.cond_false false rfl rfl ?_
        have hno : takeOf f.nexts reach k x = -1 := takeOf_no hrk (by simp_all)
        refine AGo.skip ?_
        refine AGo.region ?_
        refine AOps.s 101 rfl rfl rfl (q_inc rfl rfl hkl (by simp only [maxLen]; omega)) ?_
        refine AOps.s 56 rfl rfl rfl (q_move (.inl rfl) rfl) ?_
        refine AOps.nil ?_
        exact ⟨k+1, Drop.mk' (by repeat (first | exact EDrop.new _ _ | refine EDrop.put ?_ (by rfl) rfl)) (by repeat (first | exact HDrop.none _ _ | exact HDrop.tail _ _ | refine HDrop.put ?_ (by first | rfl | exact congrArg (fun es => some (AObj.row true 1 es)) (fill_put (f := icell1) (x := -1) (takes_length f reach) (by rw [htk, hno])) | exact congrArg (fun w => some (AObj.row true 1 (List.map boolCells w))) (taken_no hx hno) | exact congrArg (fun es => some (AObj.row true 1 es)) (by rw [List.set_set]; exact fill_put (f := icell1) (x := x.to) (takes_length f reach) (by rw [htk, hyes])) | exact congrArg (fun es => some (AObj.row true 1 es)) (taken_yes hx hyes hto.1)) rfl rfl)), hkl, by omega⟩
    · -- False
      refine AGo.cond_false false rfl rfl ?_
      have hge : f.blocks.length ≤ k := by simpa using hb4
      obtain rfl : k = f.blocks.length := by omega
      refine AGo.exit ?_
      refine AGo.seq ?_
      refine AGo.ghost (.freezeA 6 2 rfl rfl (fill_len (takes_length f reach) (Nat.le_refl _))) ?_
      refine AGo.ghost (.freezeA 7 3 rfl rfl (by rw [List.length_map, takenAt_length])) ?_
      refine AGo.region ?_
      refine AOps.s 102 rfl rfl rfl (q_move (.inl rfl) rfl) ?_
      refine AOps.s 103 rfl rfl rfl (q_move (.inl rfl) rfl) ?_
      refine AOps.s 6 rfl rfl rfl (q_move (.inr rfl) rfl) ?_
      refine AOps.s 7 rfl rfl rfl (q_move (.inr rfl) rfl) ?_
      refine AOps.nil ?_
      refine AGo.ret ?_
      refine ⟨[_, _], ⟨rfl, rfl, trivial⟩, ?_, rfl⟩
      have e1 := fill_end (f := icell1) (z := [.int .i64 0]) (takes_length f reach) (Nat.le_refl _)
      rw [List.drop_zero, List.take_of_length_le (Nat.le_of_eq (fill_len (takes_length f reach) (Nat.le_refl _)).symm)] at e1
      show AV.tup [.lst false _, .lst false _] = _
      rw [e1]
      rfl

set_option maxRecDepth 100000 in
theorem follow_ok (takes : List Int) (i : Int) (hn : takes.length ≤ 1000) (hi : 0 ≤ i ∧ i < takes.length) (hin : ∀ v ∈ takes, v = -1 ∨ (0 ≤ v ∧ v < takes.length)) (he : ends takes takes.length i = true) : ACall Try.prog 30 [.int .i64 i, .ptr 2 1 0 0] (hput hNew 2 (.row false 1 [[intsAV takes]])) (fun r h' => r = intsAV (pathOf takes i) ∧ HSub (hput hNone 2 (.row false 1 [[intsAV takes]])) h') := by
  refine ACall.of_body (n := 21) tok Try.func30 rfl rfl ?_
  refine AGo.seq ?_
  refine AGo.region ?_
  refine AOps.s 3 rfl rfl rfl (q_move (.inr rfl) rfl) ?_
  refine AOps.nil ?_
  refine AGo.seq ?_
  refine AGo.region ?_
  refine AOps.s 5 rfl rfl rfl (q_move (.inl rfl) rfl) ?_
  refine AOps.x 6 rfl rfl rfl (o_litRow tok 3 true rfl rfl rfl rfl rfl rfl (by decide) rfl rfl rfl rfl (by first | exact fun _ => rfl | (intro h; cases h)) rfl rfl) ?_
  refine AOps.s 4 rfl rfl rfl (q_move (.inr rfl) rfl) ?_
  refine AOps.nil ?_
  refine AGo.seq ?_
  refine AGo.block ?_
  refine AGo.loopI (γ := FG2) (fun q => ⟨21, (eput (eput (eput eNew 0 (.int .i64 q.c)) 1 (.ptr 2 1 0 0)) 4 (.ref 3 q.acc.length 0 q.acc.length)), (hput (hput hNone 2 (.row false 1 [[intsAV takes]])) 3 (.row true 1 (intCells q.acc)))⟩) (fun q => FInv2 takes (pathOf takes i) q) (fun q => q.g) ⟨i, [i], takes.length⟩ (Sub.mk' (by repeat (first | exact ESub.new _ | refine ESub.put ?_ (by rfl))) (by repeat (first | exact HSub.none _ | exact HSub.from_new _ | exact HSub.from_from (by decide) | refine HSub.put ?_ (by rfl) | refine HSub.from_put ?_ (by decide)))) (FInv2.first hi he) ?_
  intro q hF
  refine AGo.seq ?_
  refine AGo.seq ?_
  refine AGo.region ?_
  refine AOps.s 7 rfl rfl rfl (q_load tok rfl rfl rfl (by first | exact .loc _ | exact .ptr _ _ _ _ _ _ _ _ rfl rfl rfl) rfl) ?_
  refine AOps.s 8 rfl rfl rfl (q_move (.inl rfl) rfl) ?_
  refine AOps.s 9 rfl rfl rfl (q_index_lst tok rfl rfl rfl rfl rfl rfl hF.c.1 (icellZ hF.c) rfl) ?_
  refine AOps.s 10 rfl rfl rfl (q_load tok rfl rfl rfl (by first | exact .loc _ | exact .ptr _ _ _ _ _ _ _ _ rfl rfl rfl) rfl) ?_
  refine AOps.s 11 rfl rfl rfl (q_bin rfl rfl rfl rfl) ?_
  refine AOps.nil ?_
  refine AGo.split 11 rfl (fun hb1 => ?_) (fun hb1 => ?_)
  · -- True
    refine AGo.cond_true true rfl rfl ?_
    have hnx := hF.next hin hb1
    have hlen := hF.len
    have hg0 : 0 < q.g := by omega
    refine AGo.skip ?_
    refine AGo.block ?_
    refine AGo.seq ?_
    refine AGo.region ?_
    refine AOps.s 12 rfl rfl rfl (q_load tok rfl rfl rfl (by first | exact .loc _ | exact .ptr _ _ _ _ _ _ _ _ rfl rfl rfl) rfl) ?_
    refine AOps.s 13 rfl rfl rfl (q_move (.inl rfl) rfl) ?_
    refine AOps.s 14 rfl rfl rfl (q_index_lst tok rfl rfl rfl rfl rfl rfl hF.c.1 (icellZ hF.c) rfl) ?_
    refine AOps.s 15 rfl rfl rfl (q_load tok rfl rfl rfl (by first | exact .loc _ | exact .ptr _ _ _ _ _ _ _ _ rfl rfl rfl) rfl) ?_
    refine AOps.s 0 rfl rfl rfl (q_move (.inr rfl) rfl) ?_
    refine AOps.nil ?_
    refine AGo.region ?_
    refine AOps.s 16 rfl rfl rfl (q_move (.inl rfl) rfl) ?_
    refine AOps.s 17 rfl rfl rfl (q_move (.inl rfl) rfl) ?_
    refine AOps.x 18 rfl rfl rfl (o_lit' tok rfl rfl rfl rfl rfl rfl (by decide) rfl rfl rfl rfl rfl rfl) ?_
    refine AOps.x 19 rfl rfl rfl (o_append tok (n := q.acc.length) (m := 1) rfl rfl rfl rfl rfl rfl rfl rfl rfl (by rw [intCells_len]) rfl rfl (Nat.zero_lt_succ _) (.lst _ _) (by intro cs h; simp [partVals] at h; subst h; rfl) (fun _ cs h => by simp [partVals] at h; subst h; rfl) rfl (by simp [intCells_len, partVals]; show _ * 8 ≤ _; omega) (by simp [intCells_len, partVals]; simp only [maxLen]; omega)) ?_
    refine AOps.s 4 rfl rfl rfl (q_move (.inr rfl) rfl) ?_
    refine AOps.nil ?_
    exact ⟨⟨iget takes q.c, q.acc ++ [iget takes q.c], q.g - 1⟩, Sub.mk' (by repeat (first | exact ESub.new _ | refine ESub.put ?_ (by first | rfl | exact congrArg (fun n => some (AV.ref 3 n 0 n)) (by simp)))) (by repeat (first | exact HSub.none _ | exact HSub.from_new _ | exact HSub.from_from (by decide) | refine HSub.put ?_ (by first | rfl | exact congrArg (fun es => some (AObj.row true 1 es)) (by simp [intCells, partVals]; rfl)) | refine HSub.from_put ?_ (by decide))), hnx.1, hnx.2⟩
  · -- False
    refine AGo.cond_false false rfl rfl ?_
    have hdone := hF.done hb1
    refine AGo.exit ?_
    refine AGo.seq ?_
    refine AGo.ghost (.freezeA 4 3 rfl rfl (by rw [intCells_len])) ?_
    refine AGo.region ?_
    refine AOps.s 20 rfl rfl rfl (q_move (.inl rfl) rfl) ?_
    refine AOps.s 3 rfl rfl rfl (q_move (.inr rfl) rfl) ?_
    refine AOps.nil ?_
    refine AGo.ret ?_
    refine ⟨[_], ⟨rfl, trivial⟩, ?_, HSub.put (HSub.none _) rfl⟩
    rw [← hdone]
    rfl

set_option maxRecDepth 100000 in
theorem joined_ok (f : BFunc) (p : List Int) (hf : ∀ x ∈ f.blocks, x.ins.length ≤ 10000) (hp : inF f.blocks.length p) (hl : p.length ≤ 100000) : APure Try.prog 31 [.agg f.cells, intsAV p] (fun r => r = insAV (f.joined p)) := by
  obtain ⟨hne, hin⟩ := hp
  obtain ⟨i0, rest, rfl⟩ : ∃ i0 rest, p = i0 :: rest := ⟨p.head hne, p.tail, (List.cons_head_tail hne).symm⟩
  have h0 := hin i0 (by simp)
  have hrl : rest.length ≤ 100000 := by simp at hl; omega
  refine APure.of_body (n := 40) tok Try.func31 rfl rfl ?_
  refine AGo.seq ?_
  refine AGo.region ?_
  refine AOps.x 2 rfl rfl rfl (o_box (sz := 2) 0 rfl rfl rfl rfl (Nat.zero_lt_succ _) rfl) ?_
  refine AOps.s 4 rfl rfl rfl (q_move (.inr rfl) rfl) ?_
  refine AOps.nil ?_
  refine AGo.seq ?_
  refine AGo.draw mix ?_
  refine DOps.s 9 rfl rfl rfl (q_fieldAddr tok rfl rfl rfl rfl rfl rfl) ?_
  refine DOps.s 10 rfl rfl rfl (q_load tok rfl rfl rfl (by first | exact .loc _ | exact .ptr _ _ _ _ _ _ _ _ rfl rfl rfl) rfl) ?_
  refine DOps.s 11 rfl rfl rfl (q_move (.inl rfl) rfl) ?_
  refine DOps.s 12 rfl rfl rfl (q_index_lst tok rfl rfl rfl rfl rfl rfl (by decide) (cs := [.int .i64 i0]) rfl rfl) ?_
  refine DOps.s 13 rfl rfl rfl (q_load tok rfl rfl rfl (by first | exact .loc _ | exact .ptr _ _ _ _ _ _ _ _ rfl rfl rfl) rfl) ?_
  refine DOps.s 14 rfl rfl rfl (q_index_lst tok rfl rfl rfl rfl rfl rfl h0.1 (idx_mapZ (blockAt_get h0)) rfl) ?_
  refine DOps.s 15 rfl rfl rfl (q_fieldAddr tok rfl rfl rfl rfl rfl rfl) ?_
  refine DOps.s 16 rfl rfl rfl (q_load tok rfl rfl rfl (by first | exact .loc _ | exact .ptr _ _ _ _ _ _ _ _ rfl rfl rfl) rfl) ?_
  refine DOps.s 5 rfl rfl rfl (q_move (.inr rfl) rfl) ?_
  refine DOps.nil (by kernel_rfl) ?_
  refine AGo.seq ?_
  refine AGo.region ?_
  refine AOps.s 17 rfl rfl rfl (q_move (.inl rfl) rfl) ?_
  refine AOps.s 18 rfl rfl rfl (q_move (.inl rfl) rfl) ?_
  refine AOps.s 19 rfl rfl rfl (q_len tok rfl rfl rfl rfl rfl) ?_
  refine AOps.s 20 rfl rfl rfl (q_move (.inl rfl) rfl) ?_
  refine AOps.s 21 rfl rfl rfl (q_len tok rfl rfl rfl rfl rfl) ?_
  refine AOps.s 22 rfl rfl rfl (q_slice3 tok rfl rfl rfl rfl rfl rfl rfl) ?_
  refine AOps.s 6 rfl rfl rfl (q_move (.inr rfl) rfl) ?_
  refine AOps.nil ?_
  refine AGo.seq ?_
  refine AGo.seq ?_
  refine AGo.region ?_
  refine AOps.s 23 rfl rfl rfl (q_move (.inl rfl) rfl) ?_
  refine AOps.s 24 rfl rfl rfl (q_tail tok (c := [.int .i64 i0]) (es := intCells rest) rfl rfl rfl rfl rfl rfl (by intro cs h; simp [intCells] at h; rcases h with rfl | ⟨n, _, rfl⟩ <;> rfl)) ?_
  refine AOps.s 25 rfl rfl rfl (q_len tok rfl rfl rfl rfl rfl) ?_
  refine AOps.s 26 rfl rfl rfl (q_move (.inl rfl) rfl) ?_
  refine AOps.nil ?_
  refine AGo.block ?_
  refine AGo.loopI (γ := Nat) (fun k => ⟨40, (eput (eput (eput (eput (eput eNew 2 (.ptr 0 1 0 0)) 6 (jAV (jFlag f rest k) 1 (jList f i0 rest k))) 24 (intsAV rest)) 25 (.int .i64 (rest.length : Int))) 26 (.int .i64 (k : Int))), (hput (hput hNone 0 (.row false 2 [f.cells])) 1 (jObj (jFlag f rest k) 8 (jList f i0 rest k)))⟩) (fun k => k ≤ rest.length) (fun k => rest.length - k) 0 (Sub.mk' (by repeat (first | exact ESub.new _ | refine ESub.put ?_ (by first | rfl | exact congrArg (fun es => some (AV.lst true es)) (by simp [jList, BFunc.joined]) | exact congrArg (fun (n : Nat) => some (AV.int .i64 (n : Int))) (by simp [intCells_len])))) (by repeat (first | exact HSub.none _ | exact HSub.from_new _ | exact HSub.from_from (by decide) | refine HSub.put ?_ (by rfl) | refine HSub.from_put ?_ (by decide)))) (Nat.zero_le _) ?_
  intro k hk
  refine AGo.seq ?_
  refine AGo.region ?_
  refine AOps.s 27 rfl rfl rfl (q_bin rfl rfl rfl rfl) ?_
  refine AOps.nil ?_
  refine AGo.seq ?_
  refine AGo.split 27 rfl (fun hb1 => ?_) (fun hb1 => ?_)
  · -- True
    refine AGo.cond_true true rfl rfl ?_
    have hkl : k < rest.length := by simpa [intCells_len] using hb1
    obtain ⟨y, hy⟩ := get_of_lt hkl
    have hyr := hin y (by simp [List.mem_of_getElem? hy])
    have hb1 : (jList f i0 rest k).length + (List.map Tac.cells (f.blockAt y).ins).length ≤ 2000000000 := by
      have h1 := joined_len hf (i0 :: (rest.take k))
      have h2 := joined_len hf [y]
      simp only [BFunc.joined, List.flatMap_cons, List.flatMap_nil, List.append_nil, List.length_append, List.length_cons, List.length_nil, List.length_take] at h1 h2
      simp only [jList, BFunc.joined, List.length_map, List.length_append]
      omega
    refine AGo.skip ?_
    refine AGo.seq ?_
    refine AGo.block ?_
    refine AGo.seq ?_
    refine AGo.region ?_
    refine AOps.s 28 rfl rfl rfl (q_index_lst tok rfl rfl rfl rfl rfl rfl (Int.natCast_nonneg _) (idx_map hy) rfl) ?_
    refine AOps.s 29 rfl rfl rfl (q_load tok rfl rfl rfl (by first | exact .loc _ | exact .ptr _ _ _ _ _ _ _ _ rfl rfl rfl) rfl) ?_
    refine AOps.s 8 rfl rfl rfl (q_move (.inr rfl) rfl) ?_
    refine AOps.nil ?_
    refine AGo.region ?_
    refine AOps.s 30 rfl rfl rfl (q_move (.inl rfl) rfl) ?_
    refine AOps.s 31 rfl rfl rfl (q_fieldAddr tok rfl rfl rfl rfl rfl rfl) ?_
    refine AOps.s 32 rfl rfl rfl (q_load tok rfl rfl rfl (by first | exact .loc _ | exact .ptr _ _ _ _ _ _ _ _ rfl rfl rfl) rfl) ?_
    refine AOps.s 33 rfl rfl rfl (q_move (.inl rfl) rfl) ?_
    refine AOps.s 34 rfl rfl rfl (q_index_lst tok rfl rfl rfl rfl rfl rfl hyr.1 (idx_mapZ (blockAt_get hyr)) rfl) ?_
    refine AOps.s 35 rfl rfl rfl (q_fieldAddr tok rfl rfl rfl rfl rfl rfl) ?_
    refine AOps.s 36 rfl rfl rfl (q_load tok rfl rfl rfl (by first | exact .loc _ | exact .ptr _ _ _ _ _ _ _ _ rfl rfl rfl) rfl) ?_
    refine AOps.x 37 rfl rfl rfl (o_appendJ tok 1 rfl rfl rfl rfl rfl rfl rfl rfl rfl rfl rfl (Nat.zero_lt_succ _) (jList_sizes f i0 rest k).1 (jList_sizes f i0 rest k).2 (ins_sizes _).1 (ins_sizes _).2 (by show _ * 64 ≤ _; omega) (by simp only [maxLen]; omega)) ?_
    refine AOps.s 6 rfl rfl rfl (q_move (.inr rfl) rfl) ?_
    refine AOps.nil ?_
    refine AGo.region ?_
    refine AOps.s 38 rfl rfl rfl (q_inc rfl rfl hkl (by simp only [maxLen]; omega)) ?_
    refine AOps.s 26 rfl rfl rfl (q_move (.inl rfl) rfl) ?_
    refine AOps.nil ?_
    exact ⟨k+1, Sub.mk' (by repeat (first | exact ESub.new _ | refine ESub.put ?_ (by first | rfl | exact congrArg (fun p : Bool × List (List AV) => some (jAV p.1 1 p.2)) (jstep hy)))) (by repeat (first | exact HSub.none _ | exact HSub.from_new _ | exact HSub.from_from (by decide) | refine HSub.put ?_ (by first | rfl | exact congrArg (fun p : Bool × List (List AV) => some (jObj p.1 8 p.2)) (jstep hy)) | refine HSub.from_put ?_ (by decide))), hkl, by omega⟩
  · -- False
    refine AGo.cond_false false rfl rfl ?_
    have hge : rest.length ≤ k := by simpa [intCells_len] using hb1
    obtain rfl : k = rest.length := by omega
    refine AGo.exit ?_
    refine AGo.seq ?_
    refine AGo.ghost (.endJ 6 1 rfl rfl) ?_
    refine AGo.region ?_
    refine AOps.s 39 rfl rfl rfl (q_move (.inl rfl) rfl) ?_
    refine AOps.s 4 rfl rfl rfl (q_move (.inr rfl) rfl) ?_
    refine AOps.nil ?_
    refine AGo.ret ?_
    refine ⟨[_], ⟨rfl, trivial⟩, ?_, rfl⟩
    show AV.lst false _ = AV.lst false _
    rw [jList, List.take_length]
    rfl

end Go.Proofs.Ytidfabbnobipkaa.Sv

namespace Go.Proofs.Ytidfabbnobipkaa.Sv
open Go
set_option linter.unusedVariables false
set_option linter.unusedSimpArgs false

set_option maxRecDepth 100000 in
theorem tidyOf_ok (f : BFunc) (hf : f.tame) : APure Try.prog 13 [.agg f.cells] (fun r => r = .tup [.agg f.tidy.cells, pathsAV f.tpaths]) := by
  have hn := hf.mild
  have hle := hf.leads
  have hnn := nexts_length f
  have hrl := reach_length f
  have hn2 : ∀ l ∈ f.nexts, l.length ≤ 100000 := fun l hl => by have := nexts_two f l hl; omega
  have htl : f.tk.length = f.blocks.length := takes_length f _
  have hti := takes_in hle f.reach
  refine APure.of_body (n := 119) tok Try.func13 rfl rfl ?_
  refine AGo.seq ?_
  refine AGo.region ?_
  refine AOps.x 1 rfl rfl rfl (o_box (sz := 2) 0 rfl rfl rfl rfl (Nat.zero_lt_succ _) rfl) ?_
  refine AOps.x 2 rfl rfl rfl (o_alloc tok 1 rfl rfl rfl rfl (Nat.zero_lt_succ _) rfl) ?_
  refine AOps.s 3 rfl rfl rfl (q_move (.inr rfl) rfl) ?_
  refine AOps.nil ?_
  refine AGo.seq ?_
  refine AGo.region ?_
  refine AOps.s 16 rfl rfl rfl (q_load tok rfl rfl rfl (by first | exact .loc _ | exact .ptr _ _ _ _ _ _ _ _ rfl rfl rfl) rfl) ?_
  refine AOps.x 17 rfl rfl rfl (o_pure rfl Try.func27 (by kernel_rfl) rfl rfl rfl (next_ok f (by omega))) ?_
  refine AOps.s 4 rfl rfl rfl (q_move (.inr rfl) rfl) ?_
  refine AOps.nil ?_
  refine AGo.seq ?_
  refine AGo.region ?_
  refine AOps.s 18 rfl rfl rfl (q_move (.inl rfl) rfl) ?_
  refine AOps.x 19 rfl rfl rfl (o_pure rfl Try.func28 (by kernel_rfl) rfl rfl rfl (reach_ok f.nexts (by omega) hn2)) ?_
  refine AOps.s 5 rfl rfl rfl (q_move (.inr rfl) rfl) ?_
  refine AOps.nil ?_
  refine AGo.seq ?_
  refine AGo.region ?_
  refine AOps.s 21 rfl rfl rfl (q_load tok rfl rfl rfl (by first | exact .loc _ | exact .ptr _ _ _ _ _ _ _ _ rfl rfl rfl) rfl) ?_
  refine AOps.s 22 rfl rfl rfl (q_move (.inl rfl) rfl) ?_
  refine AOps.s 23 rfl rfl rfl (q_move (.inl rfl) rfl) ?_
  refine AOps.x 24 rfl rfl rfl (o_pure rfl Try.func29 (by kernel_rfl) rfl rfl rfl (takings_ok f f.reach hn hrl hle)) ?_
  refine AOps.s 20 rfl rfl rfl (q_move (.inl rfl) rfl) ?_
  refine AOps.s 25 rfl rfl rfl (q_extract rfl rfl rfl) ?_
  refine AOps.s 26 rfl rfl rfl (q_extract rfl rfl rfl) ?_
  refine AOps.x 6 rfl rfl rfl (o_alloc tok 2 rfl rfl rfl rfl (Nat.zero_lt_succ _) rfl) ?_
  refine AOps.w rfl rfl (o_store tok rfl rfl rfl rfl rfl rfl rfl rfl rfl (by decide) rfl (by first | exact fun _ => rfl | (intro h; cases h))) ?_
  refine AOps.s 7 rfl rfl rfl (q_move (.inr rfl) rfl) ?_
  refine AOps.nil ?_
  refine AGo.seq ?_
  refine AGo.region ?_
  refine AOps.s 8 rfl rfl rfl (q_move (.inr rfl) rfl) ?_
  refine AOps.nil ?_
  refine AGo.seq ?_
  refine AGo.ghost (.dry 8 4 1 true rfl rfl rfl (by decide)) ?_
  refine AGo.region ?_
  refine AOps.s 27 rfl rfl rfl (q_fieldAddr tok rfl rfl rfl rfl rfl rfl) ?_
  refine AOps.s 28 rfl rfl rfl (q_load tok rfl rfl rfl (by first | exact .loc _ | exact .ptr _ _ _ _ _ _ _ _ rfl rfl rfl) rfl) ?_
  refine AOps.s 29 rfl rfl rfl (q_len tok rfl rfl rfl rfl rfl) ?_
  refine AOps.x 30 rfl rfl rfl (o_makeSlice tok (n := f.blocks.length) (m := f.blocks.length) 3 true rfl rfl rfl (by simp) (by simp) rfl rfl rfl rfl rfl (Nat.zero_lt_succ _) rfl (Nat.le_refl _) (by show 8 * f.blocks.length ≤ _; omega) (by simp only [maxLen]; omega)) ?_
  refine AOps.s 9 rfl rfl rfl (q_move (.inr rfl) rfl) ?_
  refine AOps.nil ?_
  refine AGo.seq ?_
  refine AGo.region ?_
  refine AOps.s 31 rfl rfl rfl (q_makeFunc rfl rfl rfl) ?_
  refine AOps.s 10 rfl rfl rfl (q_move (.inr rfl) rfl) ?_
  refine AOps.nil ?_
  refine AGo.seq ?_
  refine AGo.seq ?_
  refine AGo.region ?_
  refine AOps.s 32 rfl rfl rfl (q_fieldAddr tok rfl rfl rfl rfl rfl rfl) ?_
  refine AOps.s 33 rfl rfl rfl (q_load tok rfl rfl rfl (by first | exact .loc _ | exact .ptr _ _ _ _ _ _ _ _ rfl rfl rfl) rfl) ?_
  refine AOps.s 34 rfl rfl rfl (q_len tok rfl rfl rfl rfl rfl) ?_
  refine AOps.s 35 rfl rfl rfl (q_move (.inl rfl) rfl) ?_
  refine AOps.nil ?_
  refine AGo.block ?_
  refine AGo.loopD (γ := Nat) 5 (fun k => ⟨119, (eput (eput (eput (eput (eput (eput (eput (eput (eput eNew 1 (.ptr 0 1 0 0)) 2 (.ptr 1 1 0 0)) 9 (.ref 3 f.blocks.length 0 f.blocks.length)) 5 (boolsAV f.reach)) 7 (boolsAV (f.takenAt f.reach f.blocks.length))) 8 (.ref 4 (f.pathsTo k).length 0 (f.pathsTo k).length)) 10 (.fn (.func 30) [] [.ptr 2 1 0 0])) 34 (.int .i64 (f.blocks.length : Int))) 35 (.int .i64 (k : Int))), (hput (hput (hput (hput (hput (hFrom 5) 0 (.row false 2 [f.cells])) 1 (.row false 2 [[.int .i64 0, .nil]])) 2 (.row false 1 [[intsAV f.tk]])) 3 (.row true 1 (intCells (f.numsTo k)))) 4 (.row true 1 ((f.pathsTo k).map pathCell)))⟩) (fun k => k ≤ f.blocks.length) (fun k => f.blocks.length - k) 0 (Sub.mk' (by repeat (first | exact ESub.new _ | refine ESub.put ?_ (by first | rfl | exact congrArg (fun (n : Nat) => some (AV.int .i64 (n : Int))) (by simp)))) (by repeat (first | exact HSub.none _ | exact HSub.from_new _ | exact HSub.from_from (by decide) | refine HSub.put ?_ (by first | rfl | exact congrArg (fun es => some (AObj.row true 1 es)) (intCells_rep _)) | refine HSub.from_put ?_ (by decide) | refine HSub.from_rm ?_ (by decide)))) (Nat.zero_le _) (fun _ => hput_free (hput_free (hput_free (hput_free (hput_free (fun b hb => hFrom_free hb) rfl) rfl) rfl) rfl) rfl) ?_
  intro k hk
  refine AGo.seq ?_
  refine AGo.region ?_
  refine AOps.s 36 rfl rfl rfl (q_bin rfl rfl rfl rfl) ?_
  refine AOps.nil ?_
  refine AGo.seq ?_
  refine AGo.split 36 rfl (fun hb1 => ?_) (fun hb1 => ?_)
  · -- True
    refine AGo.cond_true true rfl rfl ?_
    have hkl : k < f.blocks.length := by simpa using hb1
    obtain ⟨rk, hrk⟩ := get_of_lt (l := f.reach) (k := k) (by omega)
    obtain ⟨tk, htk⟩ := get_of_lt (l := (f.takenAt f.reach f.blocks.length)) (k := k) (by rw [takenAt_length]; omega)
    have hhd := headOf_eq hrk htk
    refine AGo.skip ?_
    refine AGo.seq ?_
    refine AGo.block ?_
    refine AGo.seq ?_
    refine AGo.region ?_
    refine AOps.s 37 rfl rfl rfl (q_move (.inl rfl) rfl) ?_
    refine AOps.s 11 rfl rfl rfl (q_move (.inr rfl) rfl) ?_
    refine AOps.nil ?_
    refine AGo.seq ?_
    refine AGo.region ?_
    refine AOps.s 38 rfl rfl rfl (q_move (.inl rfl) rfl) ?_
    refine AOps.s 39 rfl rfl rfl (q_move (.inl rfl) rfl) ?_
    refine AOps.s 40 rfl rfl rfl (q_index_lst tok rfl rfl rfl rfl rfl rfl (Int.natCast_nonneg _) (idx_map (by assumption)) rfl) ?_
    refine AOps.s 41 rfl rfl rfl (q_load tok rfl rfl rfl (by first | exact .loc _ | exact .ptr _ _ _ _ _ _ _ _ rfl rfl rfl) rfl) ?_
    refine AOps.s 42 rfl rfl rfl (q_move (.inl rfl) rfl) ?_
    refine AOps.split 42 rfl (fun hb2 => ?_) (fun hb2 => ?_)
    · -- True
      refine AOps.s 43 rfl rfl rfl (q_move (.inl rfl) rfl) ?_
      refine AOps.s 44 rfl rfl rfl (q_move (.inl rfl) rfl) ?_
      refine AOps.s 45 rfl rfl rfl (q_index_lst tok rfl rfl rfl rfl rfl rfl (Int.natCast_nonneg _) (idx_map (by assumption)) rfl) ?_
      refine AOps.s 46 rfl rfl rfl (q_load tok rfl rfl rfl (by first | exact .loc _ | exact .ptr _ _ _ _ _ _ _ _ rfl rfl rfl) rfl) ?_
      refine AOps.s 47 rfl rfl rfl (q_not rfl rfl) ?_
      refine AOps.s 48 rfl rfl rfl (q_pick_true true rfl rfl rfl rfl) ?_
      refine AOps.nil ?_
      refine AGo.split 48 rfl (fun hb3 => ?_) (fun hb3 => ?_)
      · -- True
        refine AGo.cond_true true rfl rfl ?_
        have hhead : f.headOf k = true := by rw [hhd]; simp_all
        have hpl := pathsTo_length f k
        refine AGo.seq ?_
        refine AGo.region ?_
        refine AOps.s 49 rfl rfl rfl (q_move (.inl rfl) rfl) ?_
        refine AOps.s 50 rfl rfl rfl (q_move (.inl rfl) rfl) ?_
        refine AOps.s 51 rfl rfl rfl (q_move (.inl rfl) rfl) ?_
        refine AOps.s 52 rfl rfl rfl (q_len tok rfl rfl rfl rfl rfl) ?_
        refine AOps.s 53 rfl rfl rfl (q_index_ref tok rfl rfl rfl rfl rfl rfl rfl (by rw [intCells_len, numsTo_length]) rfl (Int.natCast_nonneg _) (by omega)) ?_
        refine AOps.w rfl rfl (o_store tok rfl rfl rfl rfl rfl rfl (by rw [intCells_len, numsTo_length]) (icell (by rw [numsTo_length]; omega)) rfl (by decide) rfl (by first | exact fun _ => rfl | (intro h; cases h))) ?_
        refine AOps.nil ?_
        refine AGo.region ?_
        refine AOps.s 54 rfl rfl rfl (q_move (.inl rfl) rfl) ?_
        refine AOps.s 55 rfl rfl rfl (q_move (.inl rfl) rfl) ?_
        refine AOps.s 56 rfl rfl rfl (q_move (.inl rfl) rfl) ?_
        refine AOps.x 57 rfl rfl rfl (o_callF (hc := (hput hNew 2 (.row false 1 [[intsAV f.tk]]))) (hw := (hput hNone 2 (.row false 1 [[intsAV f.tk]]))) [2] [(2, (.row false 1 [[intsAV f.tk]]))] rfl rfl Try.func30 (by kernel_rfl) rfl rfl rfl ⟨⟨_, rfl, rfl⟩, trivial⟩ rfl (hres_cons rfl (hres_nil _)) ⟨⟨_, rfl, rfl, rfl⟩, trivial⟩ rfl (follow_ok f.tk k (by omega) (by omega) hti (hf.ends k hhead))) ?_
        refine AOps.x 58 rfl rfl rfl (o_lit' tok rfl rfl rfl rfl rfl rfl (by decide) rfl rfl rfl rfl rfl rfl) ?_
        refine AOps.x 59 rfl rfl rfl (o_append tok (n := (f.pathsTo k).length) (m := 1) rfl rfl rfl rfl rfl rfl rfl rfl rfl (by simp) rfl rfl (Nat.zero_lt_succ _) (.lst _ _) (by intro cs h; simp [partVals] at h; subst h; rfl) (fun _ cs h => by simp [partVals] at h; subst h; rfl) rfl (by simp [partVals]; show _ * 24 ≤ _; omega) (by simp [partVals]; simp only [maxLen]; omega)) ?_
        refine AOps.s 8 rfl rfl rfl (q_move (.inr rfl) rfl) ?_
        refine AOps.nil ?_
        refine AGo.region ?_
        refine AOps.s 60 rfl rfl rfl (q_inc rfl rfl hkl (by simp only [maxLen]; omega)) ?_
        refine AOps.s 35 rfl rfl rfl (q_move (.inl rfl) rfl) ?_
        refine AOps.nil ?_
        exact ⟨k+1, Drop.mk' (by repeat (first | exact EDrop.new _ _ | refine EDrop.put ?_ (by first | rfl | exact congrArg (fun n => some (AV.ref 4 n 0 n)) (by rw [pathsTo_yes hhead]; simp) | exact congrArg (fun n => some (AV.ref 4 n 0 n)) (by rw [pathsTo_no hhead])) rfl)) (by repeat (first | exact HDrop.none _ _ | exact HDrop.tail _ _ | refine HDrop.put ?_ (by first | rfl | exact congrArg (fun es => some (AObj.row true 1 es)) (by rw [numsTo_yes hhead]; exact icell_set _ _ _) | exact congrArg (fun es => some (AObj.row true 1 es)) (by rw [pathsTo_yes hhead, List.map_append]; rfl) | exact congrArg (fun es => some (AObj.row true 1 es)) (by rw [numsTo_no hhead]) | exact congrArg (fun es => some (AObj.row true 1 es)) (by rw [pathsTo_no hhead])) rfl rfl)), hkl, by omega⟩
      · -- False
        refine AGo.cond_false false rfl rfl ?_
        have hhead : f.headOf k = false := by rw [hhd]; simp_all
        refine AGo.skip ?_
        refine AGo.region ?_
        refine AOps.s 60 rfl rfl rfl (q_inc rfl rfl hkl (by simp only [maxLen]; omega)) ?_
        refine AOps.s 35 rfl rfl rfl (q_move (.inl rfl) rfl) ?_
        refine AOps.nil ?_
        exact ⟨k+1, Drop.mk' (by repeat (first | exact EDrop.new _ _ | refine EDrop.put ?_ (by first | rfl | exact congrArg (fun n => some (AV.ref 4 n 0 n)) (by rw [pathsTo_yes hhead]; simp) | exact congrArg (fun n => some (AV.ref 4 n 0 n)) (by rw [pathsTo_no hhead])) rfl)) (by repeat (first | exact HDrop.none _ _ | exact HDrop.tail _ _ | refine HDrop.put ?_ (by first | rfl | exact congrArg (fun es => some (AObj.row true 1 es)) (by rw [numsTo_yes hhead]; exact icell_set _ _ _) | exact congrArg (fun es => some (AObj.row true 1 es)) (by rw [pathsTo_yes hhead, List.map_append]; rfl) | exact congrArg (fun es => some (AObj.row true 1 es)) (by rw [numsTo_no hhead]) | exact congrArg (fun es => some (AObj.row true 1 es)) (by rw [pathsTo_no hhead])) rfl rfl)), hkl, by omega⟩
    · -- False
      refine AOps.k 43 rfl rfl rfl ?_
      refine AOps.k 44 rfl rfl rfl ?_
      refine AOps.k 45 rfl rfl rfl ?_
      refine AOps.k 46 rfl rfl rfl ?_
      refine AOps.k 47 rfl rfl rfl ?_
      refine AOps.s 48 rfl rfl rfl (q_pick_false false rfl rfl rfl rfl) ?_
      refine AOps.nil ?_
      refine AGo.cond_false false rfl rfl ?_
      have hhead : f.headOf k = false := by rw [hhd]; simp_all
      refine AGo.skip ?_
      refine AGo.region ?_
      refine AOps.s 60 rfl rfl rfl (q_inc rfl rfl hkl (by simp only [maxLen]; omega)) ?_
      refine AOps.s 35 rfl rfl rfl (q_move (.inl rfl) rfl) ?_
      refine AOps.nil ?_
      exact ⟨k+1, Drop.mk' (by repeat (first | exact EDrop.new _ _ | refine EDrop.put ?_ (by first | rfl | exact congrArg (fun n => some (AV.ref 4 n 0 n)) (by rw [pathsTo_yes hhead]; simp) | exact congrArg (fun n => some (AV.ref 4 n 0 n)) (by rw [pathsTo_no hhead])) rfl)) (by repeat (first | exact HDrop.none _ _ | exact HDrop.tail _ _ | refine HDrop.put ?_ (by first | rfl | exact congrArg (fun es => some (AObj.row true 1 es)) (by rw [numsTo_yes hhead]; exact icell_set _ _ _) | exact congrArg (fun es => some (AObj.row true 1 es)) (by rw [pathsTo_yes hhead, List.map_append]; rfl) | exact congrArg (fun es => some (AObj.row true 1 es)) (by rw [numsTo_no hhead]) | exact congrArg (fun es => some (AObj.row true 1 es)) (by rw [pathsTo_no hhead])) rfl rfl)), hkl, by omega⟩
  · -- False
    refine AGo.cond_false false rfl rfl ?_
    have hge : f.blocks.length ≤ k := by simpa using hb1
    obtain rfl : k = f.blocks.length := by omega
    refine AGo.exit ?_
    refine AGo.seq ?_
    refine AGo.ghost (.freezeA 8 4 rfl rfl (by simp)) ?_
    have hml : f.tpaths.length ≤ f.blocks.length := pathsTo_length f f.blocks.length
    refine AGo.draw mix ?_
    refine DOps.s 61 rfl rfl rfl (q_fieldAddr tok rfl rfl rfl rfl rfl rfl) ?_
    refine DOps.s 62 rfl rfl rfl (q_load tok rfl rfl rfl (by first | exact .loc _ | exact .ptr _ _ _ _ _ _ _ _ rfl rfl rfl) rfl) ?_
    refine DOps.s 63 rfl rfl rfl (q_move (.inl rfl) rfl) ?_
    refine DOps.s 64 rfl rfl rfl (q_len tok rfl rfl rfl rfl rfl) ?_
    refine DOps.x 65 rfl rfl rfl (o_makeSlice tok (n := f.tpaths.length) (m := f.tpaths.length) 5 true rfl rfl rfl (by simp [BFunc.tpaths]) (by simp [BFunc.tpaths]) rfl rfl rfl rfl rfl (Nat.zero_lt_succ _) rfl (Nat.le_refl _) (by show 56 * f.tpaths.length ≤ _; have := pathsTo_length f f.blocks.length; have : f.tpaths.length ≤ f.blocks.length := this; omega) (by have := pathsTo_length f f.blocks.length; have : f.tpaths.length ≤ f.blocks.length := this; simp only [maxLen]; omega)) ?_
    refine DOps.s 66 rfl rfl rfl (q_build tok rfl rfl rfl rfl rfl (by decide) rfl rfl rfl) ?_
    refine DOps.x 12 rfl rfl rfl (o_alloc tok 6 rfl rfl rfl rfl (Nat.zero_lt_succ _) rfl) ?_
    refine DOps.w rfl rfl (o_store tok rfl rfl rfl rfl rfl rfl rfl rfl rfl (by decide) rfl (by first | exact fun _ => rfl | (intro h; cases h))) ?_
    refine DOps.nil (by kernel_rfl) ?_
    refine AGo.seq ?_
    refine AGo.seq ?_
    refine AGo.region ?_
    refine AOps.s 67 rfl rfl rfl (q_move (.inl rfl) rfl) ?_
    refine AOps.s 68 rfl rfl rfl (q_len tok rfl rfl rfl rfl rfl) ?_
    refine AOps.s 69 rfl rfl rfl (q_move (.inl rfl) rfl) ?_
    refine AOps.nil ?_
    refine AGo.block ?_
    refine AGo.loopD (γ := Nat) 7 (fun k => ⟨119, (eput (eput (eput (eput (eput (eput (eput (eput eNew 1 (.ptr 0 1 0 0)) 2 (.ptr 1 1 0 0)) 9 (.ref 3 f.blocks.length 0 f.blocks.length)) 8 (pathsAV f.tpaths)) 12 (.ptr 6 1 0 0)) 67 (pathsAV f.tpaths)) 68 (.int .i64 (f.tpaths.length : Int))) 69 (.int .i64 (k : Int))), (hput (hput (hput (hput (hput (hFrom 7) 0 (.row false 2 [f.cells])) 1 (.row false 2 [[.int .i64 0, .nil]])) 3 (.row true 1 (intCells f.nums))) 5 (.row true 5 (((f.tpaths.map f.newBlock).take k).map Block.cells ++ List.replicate (f.tpaths.length - k) [.nil, .int .i64 0, .int .i64 0, .int .i64 0, .int .i64 0]))) 6 (.row false 2 [[.int .i64 f.regs, .ref 5 f.tpaths.length 0 f.tpaths.length]]))⟩) (fun k => k ≤ f.tpaths.length) (fun k => f.tpaths.length - k) 0 (Sub.mk' (by repeat (first | exact ESub.new _ | refine ESub.put ?_ (by first | rfl | exact congrArg (fun (n : Nat) => some (AV.int .i64 (n : Int))) (by simp [BFunc.tpaths])))) (by repeat (first | exact HSub.none _ | exact HSub.from_new _ | exact HSub.from_from (by decide) | refine HSub.put ?_ (by rfl) | refine HSub.from_put ?_ (by decide) | refine HSub.from_rm ?_ (by decide)))) (Nat.zero_le _) (fun _ => hput_free (hput_free (hput_free (hput_free (hput_free (fun b hb => hFrom_free hb) rfl) rfl) rfl) rfl) rfl) ?_
    intro k hk
    refine AGo.seq ?_
    refine AGo.region ?_
    refine AOps.s 70 rfl rfl rfl (q_bin rfl rfl rfl rfl) ?_
    refine AOps.nil ?_
    refine AGo.seq ?_
    refine AGo.split 70 rfl (fun hb4 => ?_) (fun hb4 => ?_)
    · -- True
      refine AGo.cond_true true rfl rfl ?_
      have hkl : k < f.tpaths.length := by simpa using hb4
      obtain ⟨p, hp⟩ := get_of_lt hkl
      have hpm := List.mem_of_getElem? hp
      have hpin := paths_in hle _ (Nat.le_refl _) p hpm
      have hplen : 0 < p.length := List.length_pos_iff.2 hpin.1
      have hlast := hpin.2 _ (last_mem hpin.1)
      have hbx := blockAt_get hlast
      have hnb : (f.tpaths.map f.newBlock)[k]? = some (f.newBlock p) := by simp [hp]
      refine AGo.skip ?_
      refine AGo.seq ?_
      refine AGo.block ?_
      refine AGo.seq ?_
      refine AGo.region ?_
      refine AOps.s 71 rfl rfl rfl (q_move (.inl rfl) rfl) ?_
      refine AOps.s 72 rfl rfl rfl (q_index_lst tok rfl rfl rfl rfl rfl rfl (Int.natCast_nonneg _) (idx_map (by assumption)) rfl) ?_
      refine AOps.s 73 rfl rfl rfl (q_load tok rfl rfl rfl (by first | exact .loc _ | exact .ptr _ _ _ _ _ _ _ _ rfl rfl rfl) rfl) ?_
      refine AOps.s 13 rfl rfl rfl (q_move (.inr rfl) rfl) ?_
      refine AOps.s 14 rfl rfl rfl (q_move (.inr rfl) rfl) ?_
      refine AOps.nil ?_
      refine AGo.seq ?_
      refine AGo.draw mix ?_
      refine DOps.s 74 rfl rfl rfl (q_fieldAddr tok rfl rfl rfl rfl rfl rfl) ?_
      refine DOps.s 75 rfl rfl rfl (q_load tok rfl rfl rfl (by first | exact .loc _ | exact .ptr _ _ _ _ _ _ _ _ rfl rfl rfl) rfl) ?_
      refine DOps.s 76 rfl rfl rfl (q_move (.inl rfl) rfl) ?_
      refine DOps.s 77 rfl rfl rfl (q_move (.inl rfl) rfl) ?_
      refine DOps.s 78 rfl rfl rfl (q_len tok rfl rfl rfl rfl rfl) ?_
      refine DOps.s 79 rfl rfl rfl (q_bin (r := .int .i64 ((p.length - 1 : Nat) : Int)) rfl rfl rfl (by rw [List.length_map]; exact len_pred hplen (by have := pathsTo_len _ p hpm; omega))) ?_
      refine DOps.s 80 rfl rfl rfl (q_index_lst tok rfl rfl rfl rfl rfl rfl (Int.natCast_nonneg _) (cs := [.int .i64 (lastOf p)]) (by show (List.map (fun b => [AV.int .i64 b]) p)[_]? = _; rw [Int.toNat_natCast, List.getElem?_map, last_get hpin.1]; rfl) rfl) ?_
      refine DOps.s 81 rfl rfl rfl (q_load tok rfl rfl rfl (by first | exact .loc _ | exact .ptr _ _ _ _ _ _ _ _ rfl rfl rfl) rfl) ?_
      refine DOps.s 82 rfl rfl rfl (q_index_lst tok rfl rfl rfl rfl rfl rfl hlast.1 (idx_mapZ (blockAt_get hlast)) rfl) ?_
      refine DOps.s 83 rfl rfl rfl (q_load tok rfl rfl rfl (by first | exact .loc _ | exact .ptr _ _ _ _ _ _ _ _ rfl rfl rfl) rfl) ?_
      refine DOps.x 15 rfl rfl rfl (o_alloc tok 7 rfl rfl rfl rfl (Nat.zero_lt_succ _) rfl) ?_
      refine DOps.w rfl rfl (o_store tok rfl rfl rfl rfl rfl rfl rfl rfl rfl (by decide) rfl (by first | exact fun _ => rfl | (intro h; cases h))) ?_
      refine DOps.nil (by kernel_rfl) ?_
      refine AGo.seq ?_
      refine AGo.region ?_
      refine AOps.s 84 rfl rfl rfl (q_load tok rfl rfl rfl (by first | exact .loc _ | exact .ptr _ _ _ _ _ _ _ _ rfl rfl rfl) rfl) ?_
      refine AOps.s 85 rfl rfl rfl (q_move (.inl rfl) rfl) ?_
      refine AOps.x 86 rfl rfl rfl (o_pure rfl Try.func31 (by kernel_rfl) rfl rfl rfl (joined_ok f p hf.ins hpin (by have := pathsTo_len _ p hpm; omega))) ?_
      refine AOps.s 87 rfl rfl rfl (q_fieldAddr tok rfl rfl rfl rfl rfl rfl) ?_
      refine AOps.w rfl rfl (o_store tok rfl rfl rfl rfl rfl rfl rfl rfl rfl (by decide) rfl (by first | exact fun _ => rfl | (intro h; cases h))) ?_
      refine AOps.nil ?_
      refine AGo.seq ?_
      refine AGo.seq ?_
      refine AGo.region ?_
      refine AOps.s 88 rfl rfl rfl (q_fieldAddr tok rfl rfl rfl rfl rfl rfl) ?_
      refine AOps.s 89 rfl rfl rfl (q_load tok rfl rfl rfl (by first | exact .loc _ | exact .ptr _ _ _ _ _ _ _ _ rfl rfl rfl) rfl) ?_
      refine AOps.s 90 rfl rfl rfl (q_bin rfl rfl rfl rfl) ?_
      refine AOps.s 91 rfl rfl rfl (q_move (.inl rfl) rfl) ?_
      refine AOps.split 91 rfl (fun hb5 => ?_) (fun hb5 => ?_)
      · -- True
        refine AOps.k 92 rfl rfl rfl ?_
        refine AOps.k 93 rfl rfl rfl ?_
        refine AOps.k 94 rfl rfl rfl ?_
        refine AOps.s 95 rfl rfl rfl (q_pick_true true rfl rfl rfl rfl) ?_
        refine AOps.nil ?_
        refine AGo.cond_true true rfl rfl ?_
        have hto := leads_to hle hbx (by simp_all)
        refine AGo.region ?_
        refine AOps.s 96 rfl rfl rfl (q_move (.inl rfl) rfl) ?_
        refine AOps.s 97 rfl rfl rfl (q_fieldAddr tok rfl rfl rfl rfl rfl rfl) ?_
        refine AOps.s 98 rfl rfl rfl (q_load tok rfl rfl rfl (by first | exact .loc _ | exact .ptr _ _ _ _ _ _ _ _ rfl rfl rfl) rfl) ?_
        refine AOps.s 99 rfl rfl rfl (q_index_ref tok rfl rfl rfl rfl rfl rfl rfl (by rw [intCells_len]; exact (numsTo_length f _).symm) rfl hto.1 (by omega)) ?_
        refine AOps.s 100 rfl rfl rfl (q_load tok rfl rfl rfl (.ptr _ _ _ _ _ _ _ _ rfl (by rw [intCells_len]; exact (numsTo_length f _).symm) (icell (by rw [show f.nums.length = f.blocks.length from numsTo_length f _]; exact hto))) rfl) ?_
        refine AOps.s 101 rfl rfl rfl (q_fieldAddr tok rfl rfl rfl rfl rfl rfl) ?_
        refine AOps.w rfl rfl (o_store tok rfl rfl rfl rfl rfl rfl rfl rfl rfl (by decide) rfl (by first | exact fun _ => rfl | (intro h; cases h))) ?_
        refine AOps.nil ?_
        refine AGo.seq ?_
        refine AGo.seq ?_
        refine AGo.region ?_
        refine AOps.s 102 rfl rfl rfl (q_fieldAddr tok rfl rfl rfl rfl rfl rfl) ?_
        refine AOps.s 103 rfl rfl rfl (q_load tok rfl rfl rfl (by first | exact .loc _ | exact .ptr _ _ _ _ _ _ _ _ rfl rfl rfl) rfl) ?_
        refine AOps.s 104 rfl rfl rfl (q_bin rfl rfl rfl rfl) ?_
        refine AOps.nil ?_
        refine AGo.split 104 rfl (fun hb6 => ?_) (fun hb6 => ?_)
        · -- True
          refine AGo.cond_true true rfl rfl ?_
          have hels := leads_els hle hbx (by simp_all)
          refine AGo.region ?_
          refine AOps.s 105 rfl rfl rfl (q_move (.inl rfl) rfl) ?_
          refine AOps.s 106 rfl rfl rfl (q_fieldAddr tok rfl rfl rfl rfl rfl rfl) ?_
          refine AOps.s 107 rfl rfl rfl (q_load tok rfl rfl rfl (by first | exact .loc _ | exact .ptr _ _ _ _ _ _ _ _ rfl rfl rfl) rfl) ?_
          refine AOps.s 108 rfl rfl rfl (q_index_ref tok rfl rfl rfl rfl rfl rfl rfl (by rw [intCells_len]; exact (numsTo_length f _).symm) rfl hels.1 (by omega)) ?_
          refine AOps.s 109 rfl rfl rfl (q_load tok rfl rfl rfl (.ptr _ _ _ _ _ _ _ _ rfl (by rw [intCells_len]; exact (numsTo_length f _).symm) (icell (by rw [show f.nums.length = f.blocks.length from numsTo_length f _]; exact hels))) rfl) ?_
          refine AOps.s 110 rfl rfl rfl (q_fieldAddr tok rfl rfl rfl rfl rfl rfl) ?_
          refine AOps.w rfl rfl (o_store tok rfl rfl rfl rfl rfl rfl rfl rfl rfl (by decide) rfl (by first | exact fun _ => rfl | (intro h; cases h))) ?_
          refine AOps.nil ?_
          refine AGo.region ?_
          refine AOps.s 111 rfl rfl rfl (q_fieldAddr tok rfl rfl rfl rfl rfl rfl) ?_
          refine AOps.s 112 rfl rfl rfl (q_load tok rfl rfl rfl (by first | exact .loc _ | exact .ptr _ _ _ _ _ _ _ _ rfl rfl rfl) rfl) ?_
          refine AOps.s 113 rfl rfl rfl (q_move (.inl rfl) rfl) ?_
          refine AOps.s 114 rfl rfl rfl (q_load tok rfl rfl rfl (by first | exact .loc _ | exact .ptr _ _ _ _ _ _ _ _ rfl rfl rfl) rfl) ?_
          refine AOps.s 115 rfl rfl rfl (q_index_ref tok rfl rfl rfl rfl rfl rfl rfl (fill_len (by simp : (f.tpaths.map f.newBlock).length = f.tpaths.length) (Nat.le_of_lt hkl)) rfl (Int.natCast_nonneg _) (by omega)) ?_
          refine AOps.w rfl rfl (o_store tok rfl rfl rfl rfl rfl rfl (fill_len (by simp : (f.tpaths.map f.newBlock).length = f.tpaths.length) (Nat.le_of_lt hkl)) (fill_get (by simp : (f.tpaths.map f.newBlock).length = f.tpaths.length) hkl) rfl (by decide) rfl (by first | exact fun _ => rfl | (intro h; cases h))) ?_
          refine AOps.nil ?_
          refine AGo.region ?_
          refine AOps.s 116 rfl rfl rfl (q_inc rfl rfl hkl (by simp only [maxLen]; omega)) ?_
          refine AOps.s 69 rfl rfl rfl (q_move (.inl rfl) rfl) ?_
          refine AOps.nil ?_
          exact ⟨k+1, Drop.mk' (by repeat (first | exact EDrop.new _ _ | refine EDrop.put ?_ (by rfl) rfl)) (by repeat (first | exact HDrop.none _ _ | exact HDrop.tail _ _ | refine HDrop.put ?_ (by first | rfl | exact absurd (show ((f.blockAt (lastOf p)).fin == 2) = true from ‹_›) (by rw [show ((f.blockAt (lastOf p)).fin == 2) = false from ‹_›]; decide) | exact congrArg (fun es => some (AObj.row true 5 es)) (fill_put (f := Block.cells) (x := ⟨f.joined p, (f.blockAt (lastOf p)).fin, (f.blockAt (lastOf p)).v, (f.blockAt (lastOf p)).to, (f.blockAt (lastOf p)).els⟩) (by simp : (f.tpaths.map f.newBlock).length = f.tpaths.length) (by rw [hnb]; simp [BFunc.newBlock, *])) | exact congrArg (fun es => some (AObj.row true 5 es)) (fill_put (f := Block.cells) (x := ⟨f.joined p, (f.blockAt (lastOf p)).fin, (f.blockAt (lastOf p)).v, (f.blockAt (lastOf p)).to, (iget f.nums (f.blockAt (lastOf p)).els)⟩) (by simp : (f.tpaths.map f.newBlock).length = f.tpaths.length) (by rw [hnb]; simp [BFunc.newBlock, *])) | exact congrArg (fun es => some (AObj.row true 5 es)) (fill_put (f := Block.cells) (x := ⟨f.joined p, (f.blockAt (lastOf p)).fin, (f.blockAt (lastOf p)).v, (iget f.nums (f.blockAt (lastOf p)).to), (f.blockAt (lastOf p)).els⟩) (by simp : (f.tpaths.map f.newBlock).length = f.tpaths.length) (by rw [hnb]; simp [BFunc.newBlock, *])) | exact congrArg (fun es => some (AObj.row true 5 es)) (fill_put (f := Block.cells) (x := ⟨f.joined p, (f.blockAt (lastOf p)).fin, (f.blockAt (lastOf p)).v, (iget f.nums (f.blockAt (lastOf p)).to), (iget f.nums (f.blockAt (lastOf p)).els)⟩) (by simp : (f.tpaths.map f.newBlock).length = f.tpaths.length) (by rw [hnb]; simp [BFunc.newBlock, *]))) rfl rfl)), hkl, by omega⟩
        · -- False
          refine AGo.cond_false false rfl rfl ?_
          refine AGo.skip ?_
          refine AGo.region ?_
          refine AOps.s 111 rfl rfl rfl (q_fieldAddr tok rfl rfl rfl rfl rfl rfl) ?_
          refine AOps.s 112 rfl rfl rfl (q_load tok rfl rfl rfl (by first | exact .loc _ | exact .ptr _ _ _ _ _ _ _ _ rfl rfl rfl) rfl) ?_
          refine AOps.s 113 rfl rfl rfl (q_move (.inl rfl) rfl) ?_
          refine AOps.s 114 rfl rfl rfl (q_load tok rfl rfl rfl (by first | exact .loc _ | exact .ptr _ _ _ _ _ _ _ _ rfl rfl rfl) rfl) ?_
          refine AOps.s 115 rfl rfl rfl (q_index_ref tok rfl rfl rfl rfl rfl rfl rfl (fill_len (by simp : (f.tpaths.map f.newBlock).length = f.tpaths.length) (Nat.le_of_lt hkl)) rfl (Int.natCast_nonneg _) (by omega)) ?_
          refine AOps.w rfl rfl (o_store tok rfl rfl rfl rfl rfl rfl (fill_len (by simp : (f.tpaths.map f.newBlock).length = f.tpaths.length) (Nat.le_of_lt hkl)) (fill_get (by simp : (f.tpaths.map f.newBlock).length = f.tpaths.length) hkl) rfl (by decide) rfl (by first | exact fun _ => rfl | (intro h; cases h))) ?_
          refine AOps.nil ?_
          refine AGo.region ?_
          refine AOps.s 116 rfl rfl rfl (q_inc rfl rfl hkl (by simp only [maxLen]; omega)) ?_
          refine AOps.s 69 rfl rfl rfl (q_move (.inl rfl) rfl) ?_
          refine AOps.nil ?_
          exact ⟨k+1, Drop.mk' (by repeat (first | exact EDrop.new _ _ | refine EDrop.put ?_ (by rfl) rfl)) (by repeat (first | exact HDrop.none _ _ | exact HDrop.tail _ _ | refine HDrop.put ?_ (by first | rfl | exact absurd (show ((f.blockAt (lastOf p)).fin == 2) = true from ‹_›) (by rw [show ((f.blockAt (lastOf p)).fin == 2) = false from ‹_›]; decide) | exact congrArg (fun es => some (AObj.row true 5 es)) (fill_put (f := Block.cells) (x := ⟨f.joined p, (f.blockAt (lastOf p)).fin, (f.blockAt (lastOf p)).v, (f.blockAt (lastOf p)).to, (f.blockAt (lastOf p)).els⟩) (by simp : (f.tpaths.map f.newBlock).length = f.tpaths.length) (by rw [hnb]; simp [BFunc.newBlock, *])) | exact congrArg (fun es => some (AObj.row true 5 es)) (fill_put (f := Block.cells) (x := ⟨f.joined p, (f.blockAt (lastOf p)).fin, (f.blockAt (lastOf p)).v, (f.blockAt (lastOf p)).to, (iget f.nums (f.blockAt (lastOf p)).els)⟩) (by simp : (f.tpaths.map f.newBlock).length = f.tpaths.length) (by rw [hnb]; simp [BFunc.newBlock, *])) | exact congrArg (fun es => some (AObj.row true 5 es)) (fill_put (f := Block.cells) (x := ⟨f.joined p, (f.blockAt (lastOf p)).fin, (f.blockAt (lastOf p)).v, (iget f.nums (f.blockAt (lastOf p)).to), (f.blockAt (lastOf p)).els⟩) (by simp : (f.tpaths.map f.newBlock).length = f.tpaths.length) (by rw [hnb]; simp [BFunc.newBlock, *])) | exact congrArg (fun es => some (AObj.row true 5 es)) (fill_put (f := Block.cells) (x := ⟨f.joined p, (f.blockAt (lastOf p)).fin, (f.blockAt (lastOf p)).v, (iget f.nums (f.blockAt (lastOf p)).to), (iget f.nums (f.blockAt (lastOf p)).els)⟩) (by simp : (f.tpaths.map f.newBlock).length = f.tpaths.length) (by rw [hnb]; simp [BFunc.newBlock, *]))) rfl rfl)), hkl, by omega⟩
      · -- False
        refine AOps.s 92 rfl rfl rfl (q_fieldAddr tok rfl rfl rfl rfl rfl rfl) ?_
        refine AOps.s 93 rfl rfl rfl (q_load tok rfl rfl rfl (by first | exact .loc _ | exact .ptr _ _ _ _ _ _ _ _ rfl rfl rfl) rfl) ?_
        refine AOps.s 94 rfl rfl rfl (q_bin rfl rfl rfl rfl) ?_
        refine AOps.s 95 rfl rfl rfl (q_pick_false false rfl rfl rfl rfl) ?_
        refine AOps.nil ?_
        refine AGo.split 95 rfl (fun hb7 => ?_) (fun hb7 => ?_)
        · -- True
          refine AGo.cond_true true rfl rfl ?_
          have hto := leads_to hle hbx (by simp_all)
          refine AGo.region ?_
          refine AOps.s 96 rfl rfl rfl (q_move (.inl rfl) rfl) ?_
          refine AOps.s 97 rfl rfl rfl (q_fieldAddr tok rfl rfl rfl rfl rfl rfl) ?_
          refine AOps.s 98 rfl rfl rfl (q_load tok rfl rfl rfl (by first | exact .loc _ | exact .ptr _ _ _ _ _ _ _ _ rfl rfl rfl) rfl) ?_
          refine AOps.s 99 rfl rfl rfl (q_index_ref tok rfl rfl rfl rfl rfl rfl rfl (by rw [intCells_len]; exact (numsTo_length f _).symm) rfl hto.1 (by omega)) ?_
          refine AOps.s 100 rfl rfl rfl (q_load tok rfl rfl rfl (.ptr _ _ _ _ _ _ _ _ rfl (by rw [intCells_len]; exact (numsTo_length f _).symm) (icell (by rw [show f.nums.length = f.blocks.length from numsTo_length f _]; exact hto))) rfl) ?_
          refine AOps.s 101 rfl rfl rfl (q_fieldAddr tok rfl rfl rfl rfl rfl rfl) ?_
          refine AOps.w rfl rfl (o_store tok rfl rfl rfl rfl rfl rfl rfl rfl rfl (by decide) rfl (by first | exact fun _ => rfl | (intro h; cases h))) ?_
          refine AOps.nil ?_
          refine AGo.seq ?_
          refine AGo.seq ?_
          refine AGo.region ?_
          refine AOps.s 102 rfl rfl rfl (q_fieldAddr tok rfl rfl rfl rfl rfl rfl) ?_
          refine AOps.s 103 rfl rfl rfl (q_load tok rfl rfl rfl (by first | exact .loc _ | exact .ptr _ _ _ _ _ _ _ _ rfl rfl rfl) rfl) ?_
          refine AOps.s 104 rfl rfl rfl (q_bin rfl rfl rfl rfl) ?_
          refine AOps.nil ?_
          refine AGo.split 104 rfl (fun hb8 => ?_) (fun hb8 => ?_)
          · -- True
            refine AGo.cond_true true rfl rfl ?_
            have hels := leads_els hle hbx (by simp_all)
            refine AGo.region ?_
            refine AOps.s 105 rfl rfl rfl (q_move (.inl rfl) rfl) ?_
            refine AOps.s 106 rfl rfl rfl (q_fieldAddr tok rfl rfl rfl rfl rfl rfl) ?_
            refine AOps.s 107 rfl rfl rfl (q_load tok rfl rfl rfl (by first | exact .loc _ | exact .ptr _ _ _ _ _ _ _ _ rfl rfl rfl) rfl) ?_
            refine AOps.s 108 rfl rfl rfl (q_index_ref tok rfl rfl rfl rfl rfl rfl rfl (by rw [intCells_len]; exact (numsTo_length f _).symm) rfl hels.1 (by omega)) ?_
            refine AOps.s 109 rfl rfl rfl (q_load tok rfl rfl rfl (.ptr _ _ _ _ _ _ _ _ rfl (by rw [intCells_len]; exact (numsTo_length f _).symm) (icell (by rw [show f.nums.length = f.blocks.length from numsTo_length f _]; exact hels))) rfl) ?_
            refine AOps.s 110 rfl rfl rfl (q_fieldAddr tok rfl rfl rfl rfl rfl rfl) ?_
            refine AOps.w rfl rfl (o_store tok rfl rfl rfl rfl rfl rfl rfl rfl rfl (by decide) rfl (by first | exact fun _ => rfl | (intro h; cases h))) ?_
            refine AOps.nil ?_
            refine AGo.region ?_
            refine AOps.s 111 rfl rfl rfl (q_fieldAddr tok rfl rfl rfl rfl rfl rfl) ?_
            refine AOps.s 112 rfl rfl rfl (q_load tok rfl rfl rfl (by first | exact .loc _ | exact .ptr _ _ _ _ _ _ _ _ rfl rfl rfl) rfl) ?_
            refine AOps.s 113 rfl rfl rfl (q_move (.inl rfl) rfl) ?_
            refine AOps.s 114 rfl rfl rfl (q_load tok rfl rfl rfl (by first | exact .loc _ | exact .ptr _ _ _ _ _ _ _ _ rfl rfl rfl) rfl) ?_
            refine AOps.s 115 rfl rfl rfl (q_index_ref tok rfl rfl rfl rfl rfl rfl rfl (fill_len (by simp : (f.tpaths.map f.newBlock).length = f.tpaths.length) (Nat.le_of_lt hkl)) rfl (Int.natCast_nonneg _) (by omega)) ?_
            refine AOps.w rfl rfl (o_store tok rfl rfl rfl rfl rfl rfl (fill_len (by simp : (f.tpaths.map f.newBlock).length = f.tpaths.length) (Nat.le_of_lt hkl)) (fill_get (by simp : (f.tpaths.map f.newBlock).length = f.tpaths.length) hkl) rfl (by decide) rfl (by first | exact fun _ => rfl | (intro h; cases h))) ?_
            refine AOps.nil ?_
            refine AGo.region ?_
            refine AOps.s 116 rfl rfl rfl (q_inc rfl rfl hkl (by simp only [maxLen]; omega)) ?_
            refine AOps.s 69 rfl rfl rfl (q_move (.inl rfl) rfl) ?_
            refine AOps.nil ?_
            exact ⟨k+1, Drop.mk' (by repeat (first | exact EDrop.new _ _ | refine EDrop.put ?_ (by rfl) rfl)) (by repeat (first | exact HDrop.none _ _ | exact HDrop.tail _ _ | refine HDrop.put ?_ (by first | rfl | exact absurd (show ((f.blockAt (lastOf p)).fin == 2) = true from ‹_›) (by rw [show ((f.blockAt (lastOf p)).fin == 2) = false from ‹_›]; decide) | exact congrArg (fun es => some (AObj.row true 5 es)) (fill_put (f := Block.cells) (x := ⟨f.joined p, (f.blockAt (lastOf p)).fin, (f.blockAt (lastOf p)).v, (f.blockAt (lastOf p)).to, (f.blockAt (lastOf p)).els⟩) (by simp : (f.tpaths.map f.newBlock).length = f.tpaths.length) (by rw [hnb]; simp [BFunc.newBlock, *])) | exact congrArg (fun es => some (AObj.row true 5 es)) (fill_put (f := Block.cells) (x := ⟨f.joined p, (f.blockAt (lastOf p)).fin, (f.blockAt (lastOf p)).v, (f.blockAt (lastOf p)).to, (iget f.nums (f.blockAt (lastOf p)).els)⟩) (by simp : (f.tpaths.map f.newBlock).length = f.tpaths.length) (by rw [hnb]; simp [BFunc.newBlock, *])) | exact congrArg (fun es => some (AObj.row true 5 es)) (fill_put (f := Block.cells) (x := ⟨f.joined p, (f.blockAt (lastOf p)).fin, (f.blockAt (lastOf p)).v, (iget f.nums (f.blockAt (lastOf p)).to), (f.blockAt (lastOf p)).els⟩) (by simp : (f.tpaths.map f.newBlock).length = f.tpaths.length) (by rw [hnb]; simp [BFunc.newBlock, *])) | exact congrArg (fun es => some (AObj.row true 5 es)) (fill_put (f := Block.cells) (x := ⟨f.joined p, (f.blockAt (lastOf p)).fin, (f.blockAt (lastOf p)).v, (iget f.nums (f.blockAt (lastOf p)).to), (iget f.nums (f.blockAt (lastOf p)).els)⟩) (by simp : (f.tpaths.map f.newBlock).length = f.tpaths.length) (by rw [hnb]; simp [BFunc.newBlock, *]))) rfl rfl)), hkl, by omega⟩
          · -- False
            refine AGo.cond_false false rfl rfl ?_
            refine AGo.skip ?_
            refine AGo.region ?_
            refine AOps.s 111 rfl rfl rfl (q_fieldAddr tok rfl rfl rfl rfl rfl rfl) ?_
            refine AOps.s 112 rfl rfl rfl (q_load tok rfl rfl rfl (by first | exact .loc _ | exact .ptr _ _ _ _ _ _ _ _ rfl rfl rfl) rfl) ?_
            refine AOps.s 113 rfl rfl rfl (q_move (.inl rfl) rfl) ?_
            refine AOps.s 114 rfl rfl rfl (q_load tok rfl rfl rfl (by first | exact .loc _ | exact .ptr _ _ _ _ _ _ _ _ rfl rfl rfl) rfl) ?_
            refine AOps.s 115 rfl rfl rfl (q_index_ref tok rfl rfl rfl rfl rfl rfl rfl (fill_len (by simp : (f.tpaths.map f.newBlock).length = f.tpaths.length) (Nat.le_of_lt hkl)) rfl (Int.natCast_nonneg _) (by omega)) ?_
            refine AOps.w rfl rfl (o_store tok rfl rfl rfl rfl rfl rfl (fill_len (by simp : (f.tpaths.map f.newBlock).length = f.tpaths.length) (Nat.le_of_lt hkl)) (fill_get (by simp : (f.tpaths.map f.newBlock).length = f.tpaths.length) hkl) rfl (by decide) rfl (by first | exact fun _ => rfl | (intro h; cases h))) ?_
            refine AOps.nil ?_
            refine AGo.region ?_
            refine AOps.s 116 rfl rfl rfl (q_inc rfl rfl hkl (by simp only [maxLen]; omega)) ?_
            refine AOps.s 69 rfl rfl rfl (q_move (.inl rfl) rfl) ?_
            refine AOps.nil ?_
            exact ⟨k+1, Drop.mk' (by repeat (first | exact EDrop.new _ _ | refine EDrop.put ?_ (by rfl) rfl)) (by repeat (first | exact HDrop.none _ _ | exact HDrop.tail _ _ | refine HDrop.put ?_ (by first | rfl | exact absurd (show ((f.blockAt (lastOf p)).fin == 2) = true from ‹_›) (by rw [show ((f.blockAt (lastOf p)).fin == 2) = false from ‹_›]; decide) | exact congrArg (fun es => some (AObj.row true 5 es)) (fill_put (f := Block.cells) (x := ⟨f.joined p, (f.blockAt (lastOf p)).fin, (f.blockAt (lastOf p)).v, (f.blockAt (lastOf p)).to, (f.blockAt (lastOf p)).els⟩) (by simp : (f.tpaths.map f.newBlock).length = f.tpaths.length) (by rw [hnb]; simp [BFunc.newBlock, *])) | exact congrArg (fun es => some (AObj.row true 5 es)) (fill_put (f := Block.cells) (x := ⟨f.joined p, (f.blockAt (lastOf p)).fin, (f.blockAt (lastOf p)).v, (f.blockAt (lastOf p)).to, (iget f.nums (f.blockAt (lastOf p)).els)⟩) (by simp : (f.tpaths.map f.newBlock).length = f.tpaths.length) (by rw [hnb]; simp [BFunc.newBlock, *])) | exact congrArg (fun es => some (AObj.row true 5 es)) (fill_put (f := Block.cells) (x := ⟨f.joined p, (f.blockAt (lastOf p)).fin, (f.blockAt (lastOf p)).v, (iget f.nums (f.blockAt (lastOf p)).to), (f.blockAt (lastOf p)).els⟩) (by simp : (f.tpaths.map f.newBlock).length = f.tpaths.length) (by rw [hnb]; simp [BFunc.newBlock, *])) | exact congrArg (fun es => some (AObj.row true 5 es)) (fill_put (f := Block.cells) (x := ⟨f.joined p, (f.blockAt (lastOf p)).fin, (f.blockAt (lastOf p)).v, (iget f.nums (f.blockAt (lastOf p)).to), (iget f.nums (f.blockAt (lastOf p)).els)⟩) (by simp : (f.tpaths.map f.newBlock).length = f.tpaths.length) (by rw [hnb]; simp [BFunc.newBlock, *]))) rfl rfl)), hkl, by omega⟩
        · -- False
          refine AGo.cond_false false rfl rfl ?_
          refine AGo.skip ?_
          refine AGo.seq ?_
          refine AGo.seq ?_
          refine AGo.region ?_
          refine AOps.s 102 rfl rfl rfl (q_fieldAddr tok rfl rfl rfl rfl rfl rfl) ?_
          refine AOps.s 103 rfl rfl rfl (q_load tok rfl rfl rfl (by first | exact .loc _ | exact .ptr _ _ _ _ _ _ _ _ rfl rfl rfl) rfl) ?_
          refine AOps.s 104 rfl rfl rfl (q_bin rfl rfl rfl rfl) ?_
          refine AOps.nil ?_
          refine AGo.split 104 rfl (fun hb9 => ?_) (fun hb9 => ?_)
          · -- True
            refine AGo.cond_true true rfl rfl ?_
            have hels := leads_els hle hbx (by simp_all)
            refine AGo.region ?_
            refine AOps.s 105 rfl rfl rfl (q_move (.inl rfl) rfl) ?_
            refine AOps.s 106 rfl rfl rfl (q_fieldAddr tok rfl rfl rfl rfl rfl rfl) ?_
            refine AOps.s 107 rfl rfl rfl (q_load tok rfl rfl rfl (by first | exact .loc _ | exact .ptr _ _ _ _ _ _ _ _ rfl rfl rfl) rfl) ?_
            refine AOps.s 108 rfl rfl rfl (q_index_ref tok rfl rfl rfl rfl rfl rfl rfl (by rw [intCells_len]; exact (numsTo_length f _).symm) rfl hels.1 (by omega)) ?_
            refine AOps.s 109 rfl rfl rfl (q_load tok rfl rfl rfl (.ptr _ _ _ _ _ _ _ _ rfl (by rw [intCells_len]; exact (numsTo_length f _).symm) (icell (by rw [show f.nums.length = f.blocks.length from numsTo_length f _]; exact hels))) rfl) ?_
            refine AOps.s 110 rfl rfl rfl (q_fieldAddr tok rfl rfl rfl rfl rfl rfl) ?_
            refine AOps.w rfl rfl (o_store tok rfl rfl rfl rfl rfl rfl rfl rfl rfl (by decide) rfl (by first | exact fun _ => rfl | (intro h; cases h))) ?_
            refine AOps.nil ?_
            refine AGo.region ?_
            refine AOps.s 111 rfl rfl rfl (q_fieldAddr tok rfl rfl rfl rfl rfl rfl) ?_
            refine AOps.s 112 rfl rfl rfl (q_load tok rfl rfl rfl (by first | exact .loc _ | exact .ptr _ _ _ _ _ _ _ _ rfl rfl rfl) rfl) ?_
            refine AOps.s 113 rfl rfl rfl (q_move (.inl rfl) rfl) ?_
            refine AOps.s 114 rfl rfl rfl (q_load tok rfl rfl rfl (by first | exact .loc _ | exact .ptr _ _ _ _ _ _ _ _ rfl rfl rfl) rfl) ?_
            refine AOps.s 115 rfl rfl rfl (q_index_ref tok rfl rfl rfl rfl rfl rfl rfl (fill_len (by simp : (f.tpaths.map f.newBlock).length = f.tpaths.length) (Nat.le_of_lt hkl)) rfl (Int.natCast_nonneg _) (by omega)) ?_
            refine AOps.w rfl rfl (o_store tok rfl rfl rfl rfl rfl rfl (fill_len (by simp : (f.tpaths.map f.newBlock).length = f.tpaths.length) (Nat.le_of_lt hkl)) (fill_get (by simp : (f.tpaths.map f.newBlock).length = f.tpaths.length) hkl) rfl (by decide) rfl (by first | exact fun _ => rfl | (intro h; cases h))) ?_
            refine AOps.nil ?_
            refine AGo.region ?_
            refine AOps.s 116 rfl rfl rfl (q_inc rfl rfl hkl (by simp only [maxLen]; omega)) ?_
            refine AOps.s 69 rfl rfl rfl (q_move (.inl rfl) rfl) ?_
            refine AOps.nil ?_
            exact ⟨k+1, Drop.mk' (by repeat (first | exact EDrop.new _ _ | refine EDrop.put ?_ (by rfl) rfl)) (by repeat (first | exact HDrop.none _ _ | exact HDrop.tail _ _ | refine HDrop.put ?_ (by first | rfl | exact absurd (show ((f.blockAt (lastOf p)).fin == 2) = true from ‹_›) (by rw [show ((f.blockAt (lastOf p)).fin == 2) = false from ‹_›]; decide) | exact congrArg (fun es => some (AObj.row true 5 es)) (fill_put (f := Block.cells) (x := ⟨f.joined p, (f.blockAt (lastOf p)).fin, (f.blockAt (lastOf p)).v, (f.blockAt (lastOf p)).to, (f.blockAt (lastOf p)).els⟩) (by simp : (f.tpaths.map f.newBlock).length = f.tpaths.length) (by rw [hnb]; simp [BFunc.newBlock, *])) | exact congrArg (fun es => some (AObj.row true 5 es)) (fill_put (f := Block.cells) (x := ⟨f.joined p, (f.blockAt (lastOf p)).fin, (f.blockAt (lastOf p)).v, (f.blockAt (lastOf p)).to, (iget f.nums (f.blockAt (lastOf p)).els)⟩) (by simp : (f.tpaths.map f.newBlock).length = f.tpaths.length) (by rw [hnb]; simp [BFunc.newBlock, *])) | exact congrArg (fun es => some (AObj.row true 5 es)) (fill_put (f := Block.cells) (x := ⟨f.joined p, (f.blockAt (lastOf p)).fin, (f.blockAt (lastOf p)).v, (iget f.nums (f.blockAt (lastOf p)).to), (f.blockAt (lastOf p)).els⟩) (by simp : (f.tpaths.map f.newBlock).length = f.tpaths.length) (by rw [hnb]; simp [BFunc.newBlock, *])) | exact congrArg (fun es => some (AObj.row true 5 es)) (fill_put (f := Block.cells) (x := ⟨f.joined p, (f.blockAt (lastOf p)).fin, (f.blockAt (lastOf p)).v, (iget f.nums (f.blockAt (lastOf p)).to), (iget f.nums (f.blockAt (lastOf p)).els)⟩) (by simp : (f.tpaths.map f.newBlock).length = f.tpaths.length) (by rw [hnb]; simp [BFunc.newBlock, *]))) rfl rfl)), hkl, by omega⟩
          · -- False
            refine AGo.cond_false false rfl rfl ?_
            refine AGo.skip ?_
            refine AGo.region ?_
            refine AOps.s 111 rfl rfl rfl (q_fieldAddr tok rfl rfl rfl rfl rfl rfl) ?_
            refine AOps.s 112 rfl rfl rfl (q_load tok rfl rfl rfl (by first | exact .loc _ | exact .ptr _ _ _ _ _ _ _ _ rfl rfl rfl) rfl) ?_
            refine AOps.s 113 rfl rfl rfl (q_move (.inl rfl) rfl) ?_
            refine AOps.s 114 rfl rfl rfl (q_load tok rfl rfl rfl (by first | exact .loc _ | exact .ptr _ _ _ _ _ _ _ _ rfl rfl rfl) rfl) ?_
            refine AOps.s 115 rfl rfl rfl (q_index_ref tok rfl rfl rfl rfl rfl rfl rfl (fill_len (by simp : (f.tpaths.map f.newBlock).length = f.tpaths.length) (Nat.le_of_lt hkl)) rfl (Int.natCast_nonneg _) (by omega)) ?_
            refine AOps.w rfl rfl (o_store tok rfl rfl rfl rfl rfl rfl (fill_len (by simp : (f.tpaths.map f.newBlock).length = f.tpaths.length) (Nat.le_of_lt hkl)) (fill_get (by simp : (f.tpaths.map f.newBlock).length = f.tpaths.length) hkl) rfl (by decide) rfl (by first | exact fun _ => rfl | (intro h; cases h))) ?_
            refine AOps.nil ?_
            refine AGo.region ?_
            refine AOps.s 116 rfl rfl rfl (q_inc rfl rfl hkl (by simp only [maxLen]; omega)) ?_
            refine AOps.s 69 rfl rfl rfl (q_move (.inl rfl) rfl) ?_
            refine AOps.nil ?_
            exact ⟨k+1, Drop.mk' (by repeat (first | exact EDrop.new _ _ | refine EDrop.put ?_ (by rfl) rfl)) (by repeat (first | exact HDrop.none _ _ | exact HDrop.tail _ _ | refine HDrop.put ?_ (by first | rfl | exact absurd (show ((f.blockAt (lastOf p)).fin == 2) = true from ‹_›) (by rw [show ((f.blockAt (lastOf p)).fin == 2) = false from ‹_›]; decide) | exact congrArg (fun es => some (AObj.row true 5 es)) (fill_put (f := Block.cells) (x := ⟨f.joined p, (f.blockAt (lastOf p)).fin, (f.blockAt (lastOf p)).v, (f.blockAt (lastOf p)).to, (f.blockAt (lastOf p)).els⟩) (by simp : (f.tpaths.map f.newBlock).length = f.tpaths.length) (by rw [hnb]; simp [BFunc.newBlock, *])) | exact congrArg (fun es => some (AObj.row true 5 es)) (fill_put (f := Block.cells) (x := ⟨f.joined p, (f.blockAt (lastOf p)).fin, (f.blockAt (lastOf p)).v, (f.blockAt (lastOf p)).to, (iget f.nums (f.blockAt (lastOf p)).els)⟩) (by simp : (f.tpaths.map f.newBlock).length = f.tpaths.length) (by rw [hnb]; simp [BFunc.newBlock, *])) | exact congrArg (fun es => some (AObj.row true 5 es)) (fill_put (f := Block.cells) (x := ⟨f.joined p, (f.blockAt (lastOf p)).fin, (f.blockAt (lastOf p)).v, (iget f.nums (f.blockAt (lastOf p)).to), (f.blockAt (lastOf p)).els⟩) (by simp : (f.tpaths.map f.newBlock).length = f.tpaths.length) (by rw [hnb]; simp [BFunc.newBlock, *])) | exact congrArg (fun es => some (AObj.row true 5 es)) (fill_put (f := Block.cells) (x := ⟨f.joined p, (f.blockAt (lastOf p)).fin, (f.blockAt (lastOf p)).v, (iget f.nums (f.blockAt (lastOf p)).to), (iget f.nums (f.blockAt (lastOf p)).els)⟩) (by simp : (f.tpaths.map f.newBlock).length = f.tpaths.length) (by rw [hnb]; simp [BFunc.newBlock, *]))) rfl rfl)), hkl, by omega⟩
    · -- False
      refine AGo.cond_false false rfl rfl ?_
      have hge : f.tpaths.length ≤ k := by simpa using hb4
      refine AGo.exit ?_
      refine AGo.seq ?_
      refine AGo.ghost (.freezeCell 6 0 1 5 rfl rfl rfl rfl (fill_len (by simp : (f.tpaths.map f.newBlock).length = f.tpaths.length) hk) (by decide)) ?_
      refine AGo.region ?_
      refine AOps.s 117 rfl rfl rfl (q_load tok rfl rfl rfl (by first | exact .loc _ | exact .ptr _ _ _ _ _ _ _ _ rfl rfl rfl) rfl) ?_
      refine AOps.s 118 rfl rfl rfl (q_move (.inl rfl) rfl) ?_
      refine AOps.w rfl rfl (o_store tok rfl rfl rfl rfl rfl rfl rfl rfl rfl (by decide) rfl (by first | exact fun _ => rfl | (intro h; cases h))) ?_
      refine AOps.s 3 rfl rfl rfl (q_move (.inr rfl) rfl) ?_
      refine AOps.nil ?_
      refine AGo.ret ?_
      refine ⟨[_, _], ⟨⟨_, _, _, _, rfl, rfl, .ptr _ _ _ _ _ _ _ _ rfl rfl rfl, rfl⟩, rfl, trivial⟩, ?_, rfl⟩
      have e1 := fill_end (f := Block.cells) (z := [.nil, .int .i64 0, .int .i64 0, .int .i64 0, .int .i64 0]) (by simp : (f.tpaths.map f.newBlock).length = f.tpaths.length) hge
      show AV.tup [.agg [_, .lst false _], _] = _
      rw [e1]
      rfl

end Go.Proofs.Ytidfabbnobipkaa.Sv

namespace Go.Proofs.Ytidfabbnobipkaa.Sv
open Go
set_option linter.unusedVariables false
set_option linter.unusedSimpArgs false

set_option maxRecDepth 100000 in
theorem equal_ok (l r : List Tac) (hl : l.length ≤ 1000000000) : APure Try.prog 44 [insAV l, insAV r] (fun q => q = .bool (decide (l = r))) := by
  refine APure.of_body (n := 26) tok Try.func44 rfl rfl ?_
  refine AGo.seq ?_
  refine AGo.region ?_
  refine AOps.s 4 rfl rfl rfl (q_move (.inr rfl) rfl) ?_
  refine AOps.nil ?_
  refine AGo.seq ?_
  refine AGo.seq ?_
  refine AGo.region ?_
  refine AOps.s 6 rfl rfl rfl (q_move (.inl rfl) rfl) ?_
  refine AOps.s 7 rfl rfl rfl (q_len tok rfl rfl rfl rfl rfl) ?_
  refine AOps.s 8 rfl rfl rfl (q_move (.inl rfl) rfl) ?_
  refine AOps.s 9 rfl rfl rfl (q_len tok rfl rfl rfl rfl rfl) ?_
  refine AOps.s 10 rfl rfl rfl (q_bin rfl rfl rfl rfl) ?_
  refine AOps.nil ?_
  refine AGo.split 10 rfl (fun hb1 => ?_) (fun hb1 => ?_)
  · -- True
    refine AGo.cond_true true rfl rfl ?_
    refine AGo.seq ?_
    refine AGo.region ?_
    refine AOps.s 4 rfl rfl rfl (q_move (.inr rfl) rfl) ?_
    refine AOps.nil ?_
    refine AGo.ret ?_
    refine ⟨[_], ⟨rfl, trivial⟩, ?_, rfl⟩
    show AV.bool _ = AV.bool _
    congr 1
    exact (decide_eq_false (by rintro rfl; simp_all)).symm
  · -- False
    refine AGo.cond_false false rfl rfl ?_
    have hlr : l.length = r.length := by have h := hb1; simp at h; omega
    refine AGo.skip ?_
    refine AGo.seq ?_
    refine AGo.seq ?_
    refine AGo.region ?_
    refine AOps.s 11 rfl rfl rfl (q_move (.inl rfl) rfl) ?_
    refine AOps.s 12 rfl rfl rfl (q_len tok rfl rfl rfl rfl rfl) ?_
    refine AOps.s 13 rfl rfl rfl (q_move (.inl rfl) rfl) ?_
    refine AOps.nil ?_
    refine AGo.block ?_
    refine AGo.loopI (γ := Nat) (fun k => ⟨26, (eput (eput (eput (eput (eput eNew 0 (insAV l)) 1 (insAV r)) 11 (insAV l)) 12 (.int .i64 (l.length : Int))) 13 (.int .i64 (k : Int))), hNone⟩) (fun k => l.take k = r.take k) (fun k => l.length - k) 0 (Sub.mk' (by repeat (first | exact ESub.new _ | refine ESub.put ?_ (by first | rfl | exact congrArg (fun (n : Nat) => some (AV.int .i64 (n : Int))) (by simp)))) (by repeat (first | exact HSub.none _ | exact HSub.from_new _ | exact HSub.from_from (by decide) | refine HSub.put ?_ (by rfl) | refine HSub.from_put ?_ (by decide) | refine HSub.from_rm ?_ (by decide)))) rfl ?_
    intro k ht
    refine AGo.seq ?_
    refine AGo.region ?_
    refine AOps.s 14 rfl rfl rfl (q_bin rfl rfl rfl rfl) ?_
    refine AOps.nil ?_
    refine AGo.seq ?_
    refine AGo.split 14 rfl (fun hb2 => ?_) (fun hb2 => ?_)
    · -- True
      refine AGo.cond_true true rfl rfl ?_
      have hkl : k < l.length := by simpa using hb2
      obtain ⟨x, hx⟩ := get_of_lt hkl
      obtain ⟨y, hy⟩ := get_of_lt (l := r) (k := k) (by omega)
      refine AGo.skip ?_
      refine AGo.seq ?_
      refine AGo.block ?_
      refine AGo.seq ?_
      refine AGo.region ?_
      refine AOps.s 15 rfl rfl rfl (q_move (.inl rfl) rfl) ?_
      refine AOps.s 5 rfl rfl rfl (q_move (.inr rfl) rfl) ?_
      refine AOps.nil ?_
      refine AGo.seq ?_
      refine AGo.draw mix ?_
      refine DOps.s 16 rfl rfl rfl (q_move (.inl rfl) rfl) ?_
      refine DOps.s 17 rfl rfl rfl (q_move (.inl rfl) rfl) ?_
      refine DOps.s 18 rfl rfl rfl (q_index_lst tok rfl rfl rfl rfl rfl rfl (Int.natCast_nonneg _) (idx_map (by assumption)) rfl) ?_
      refine DOps.s 19 rfl rfl rfl (q_load tok rfl rfl rfl (by first | exact .loc _ | exact .ptr _ _ _ _ _ _ _ _ rfl rfl rfl) rfl) ?_
      refine DOps.s 20 rfl rfl rfl (q_move (.inl rfl) rfl) ?_
      refine DOps.s 21 rfl rfl rfl (q_move (.inl rfl) rfl) ?_
      refine DOps.s 22 rfl rfl rfl (q_index_lst tok rfl rfl rfl rfl rfl rfl (Int.natCast_nonneg _) (idx_map (by assumption)) rfl) ?_
      refine DOps.s 23 rfl rfl rfl (q_load tok rfl rfl rfl (by first | exact .loc _ | exact .ptr _ _ _ _ _ _ _ _ rfl rfl rfl) rfl) ?_
      refine DOps.s 24 rfl rfl rfl (q_eqStruct tok true rfl rfl rfl (by kernel_rfl) rfl rfl rfl rfl (Tac.eqCells x y)) ?_
      refine DOps.nil (by kernel_rfl) ?_
      refine AGo.split 24 rfl (fun hb3 => ?_) (fun hb3 => ?_)
      · -- True
        refine AGo.cond_true true rfl rfl ?_
        have hxy : x ≠ y := by simpa using hb3
        refine AGo.seq ?_
        refine AGo.region ?_
        refine AOps.s 4 rfl rfl rfl (q_move (.inr rfl) rfl) ?_
        refine AOps.nil ?_
        refine AGo.ret ?_
        refine ⟨[_], ⟨rfl, trivial⟩, ?_, rfl⟩
        show AV.bool _ = AV.bool _
        congr 1
        exact (decide_eq_false (by rintro rfl; rw [hx] at hy; cases hy; exact hxy rfl)).symm
      · -- False
        refine AGo.cond_false false rfl rfl ?_
        have hxy : x = y := by simpa using hb3
        refine AGo.skip ?_
        refine AGo.region ?_
        refine AOps.s 25 rfl rfl rfl (q_inc rfl rfl hkl (by simp only [maxLen]; omega)) ?_
        refine AOps.s 13 rfl rfl rfl (q_move (.inl rfl) rfl) ?_
        refine AOps.nil ?_
        exact ⟨k+1, Sub.mk' (by repeat (first | exact ESub.new _ | refine ESub.put ?_ (by rfl))) (by repeat (first | exact HSub.none _ | exact HSub.from_new _ | exact HSub.from_from (by decide) | refine HSub.put ?_ (by rfl) | refine HSub.from_put ?_ (by decide) | refine HSub.from_rm ?_ (by decide))), (by rw [take_succ_eq hx, take_succ_eq hy, ht, hxy]), by omega⟩
    · -- False
      refine AGo.cond_false false rfl rfl ?_
      have hge : l.length ≤ k := by simpa using hb2
      refine AGo.exit ?_
      refine AGo.seq ?_
      refine AGo.region ?_
      refine AOps.s 4 rfl rfl rfl (q_move (.inr rfl) rfl) ?_
      refine AOps.nil ?_
      refine AGo.ret ?_
      refine ⟨[_], ⟨rfl, trivial⟩, ?_, rfl⟩
      show AV.bool _ = AV.bool _
      congr 1
      exact (decide_eq_true (take_all ht hge (hlr ▸ hge))).symm

set_option maxRecDepth 100000 in
theorem follows_ok (f : BFunc) (p : List Int) (hp : inF f.blocks.length p) (hpl : p.length ≤ 100000) : APure Try.prog 34 [.agg f.cells, intsAV p] (fun r => r = .bool (followsB f p)) := by
  have hpos : 0 < p.length := List.length_pos_iff.2 hp.1
  refine APure.of_body (n := 38) tok Try.func34 rfl rfl ?_
  refine AGo.seq ?_
  refine AGo.region ?_
  refine AOps.x 2 rfl rfl rfl (o_box (sz := 2) 0 rfl rfl rfl rfl (Nat.zero_lt_succ _) rfl) ?_
  refine AOps.s 4 rfl rfl rfl (q_move (.inr rfl) rfl) ?_
  refine AOps.nil ?_
  refine AGo.seq ?_
  refine AGo.seq ?_
  refine AGo.region ?_
  refine AOps.s 8 rfl rfl rfl (q_move (.inl rfl) rfl) ?_
  refine AOps.s 9 rfl rfl rfl (q_move (.inl rfl) rfl) ?_
  refine AOps.s 10 rfl rfl rfl (q_len tok rfl rfl rfl rfl rfl) ?_
  refine AOps.s 11 rfl rfl rfl (q_bin (r := .int .i64 ((p.length - 1 : Nat) : Int)) rfl rfl rfl (by rw [List.length_map]; exact len_pred hpos (by omega))) ?_
  refine AOps.s 12 rfl rfl rfl (q_front (m := p.length - 1) (es := intCells p) tok rfl rfl rfl rfl rfl rfl (by rw [intCells_len]; omega) (by intro cs h; simp [intCells] at h; obtain ⟨n, _, rfl⟩ := h; rfl)) ?_
  refine AOps.s 13 rfl rfl rfl (q_len tok rfl rfl rfl rfl rfl) ?_
  refine AOps.s 14 rfl rfl rfl (q_move (.inl rfl) rfl) ?_
  refine AOps.nil ?_
  refine AGo.block ?_
  refine AGo.loopD (γ := Nat) 1 (fun k => ⟨38, (eput (eput (eput (eput (eput eNew 1 (intsAV p)) 2 (.ptr 0 1 0 0)) 12 (.lst false ((intCells p).take (p.length - 1)))) 13 (.int .i64 ((p.length - 1 : Nat) : Int))) 14 (.int .i64 (k : Int))), (hput (hFrom 1) 0 (.row false 2 [f.cells]))⟩) (fun k => ((List.range (p.length - 1)).take k).all (okAt f p) = true) (fun k => p.length - 1 - k) 0 (Sub.mk' (by repeat (first | exact ESub.new _ | refine ESub.put ?_ (by first | rfl | exact congrArg (fun (n : Nat) => some (AV.int .i64 (n : Int))) (by simp [intCells_len])))) (by repeat (first | exact HSub.none _ | exact HSub.from_new _ | exact HSub.from_from (by decide) | refine HSub.put ?_ (by rfl) | refine HSub.from_put ?_ (by decide) | refine HSub.from_rm ?_ (by decide)))) rfl (fun _ => hput_free (fun b hb => hFrom_free hb) rfl) ?_
  intro k hall
  refine AGo.seq ?_
  refine AGo.region ?_
  refine AOps.s 15 rfl rfl rfl (q_bin rfl rfl rfl rfl) ?_
  refine AOps.nil ?_
  refine AGo.seq ?_
  refine AGo.split 15 rfl (fun hb1 => ?_) (fun hb1 => ?_)
  · -- True
    refine AGo.cond_true true rfl rfl ?_
    have hkl : k < p.length - 1 := by have h := hb1; simp [intCells_len] at h; omega
    obtain ⟨y, hy⟩ := get_of_lt (l := p) (k := k) (by omega)
    obtain ⟨z, hz⟩ := get_of_lt (l := p) (k := k + 1) (by omega)
    have hyr := hp.2 y (List.mem_of_getElem? hy)
    have hat : okAt f p k = ((f.blockAt y).fin == 1 && (f.blockAt y).to == z) := by rw [okAt, iget_get hy, iget_get hz]
    refine AGo.skip ?_
    refine AGo.seq ?_
    refine AGo.block ?_
    refine AGo.seq ?_
    refine AGo.region ?_
    refine AOps.s 16 rfl rfl rfl (q_move (.inl rfl) rfl) ?_
    refine AOps.s 17 rfl rfl rfl (q_index_lst tok rfl rfl rfl rfl rfl rfl (Int.natCast_nonneg _) (cs := [.int .i64 y]) (by rw [Int.toNat_natCast, List.getElem?_take_of_lt hkl, intCells, List.getElem?_map, hy]; rfl) rfl) ?_
    refine AOps.s 18 rfl rfl rfl (q_load tok rfl rfl rfl (by first | exact .loc _ | exact .ptr _ _ _ _ _ _ _ _ rfl rfl rfl) rfl) ?_
    refine AOps.s 5 rfl rfl rfl (q_move (.inr rfl) rfl) ?_
    refine AOps.s 6 rfl rfl rfl (q_move (.inr rfl) rfl) ?_
    refine AOps.nil ?_
    refine AGo.seq ?_
    refine AGo.region ?_
    refine AOps.s 19 rfl rfl rfl (q_fieldAddr tok rfl rfl rfl rfl rfl rfl) ?_
    refine AOps.s 20 rfl rfl rfl (q_load tok rfl rfl rfl (by first | exact .loc _ | exact .ptr _ _ _ _ _ _ _ _ rfl rfl rfl) rfl) ?_
    refine AOps.s 21 rfl rfl rfl (q_move (.inl rfl) rfl) ?_
    refine AOps.s 22 rfl rfl rfl (q_index_lst tok rfl rfl rfl rfl rfl rfl hyr.1 (idx_mapZ (blockAt_get hyr)) rfl) ?_
    refine AOps.s 23 rfl rfl rfl (q_load tok rfl rfl rfl (by first | exact .loc _ | exact .ptr _ _ _ _ _ _ _ _ rfl rfl rfl) rfl) ?_
    refine AOps.x 7 rfl rfl rfl (o_alloc tok 1 rfl rfl rfl rfl (Nat.zero_lt_succ _) rfl) ?_
    refine AOps.w rfl rfl (o_store tok rfl rfl rfl rfl rfl rfl rfl rfl rfl (by decide) rfl (by first | exact fun _ => rfl | (intro h; cases h))) ?_
    refine AOps.nil ?_
    refine AGo.seq ?_
    refine AGo.draw mix ?_
    refine DOps.s 24 rfl rfl rfl (q_fieldAddr tok rfl rfl rfl rfl rfl rfl) ?_
    refine DOps.s 25 rfl rfl rfl (q_load tok rfl rfl rfl (by first | exact .loc _ | exact .ptr _ _ _ _ _ _ _ _ rfl rfl rfl) rfl) ?_
    refine DOps.s 26 rfl rfl rfl (q_bin rfl rfl rfl rfl) ?_
    refine DOps.s 27 rfl rfl rfl (q_move (.inl rfl) rfl) ?_
    refine DOps.split 27 rfl (fun hb2 => ?_) (fun hb2 => ?_)
    · -- True
      refine DOps.k 28 rfl rfl rfl ?_
      refine DOps.k 29 rfl rfl rfl ?_
      refine DOps.k 30 rfl rfl rfl ?_
      refine DOps.k 31 rfl rfl rfl ?_
      refine DOps.k 32 rfl rfl rfl ?_
      refine DOps.k 33 rfl rfl rfl ?_
      refine DOps.k 34 rfl rfl rfl ?_
      refine DOps.k 35 rfl rfl rfl ?_
      refine DOps.s 36 rfl rfl rfl (q_pick_true true rfl rfl rfl rfl) ?_
      refine DOps.nil (by kernel_rfl) ?_
      refine AGo.cond_true true rfl rfl ?_
      refine AGo.seq ?_
      refine AGo.region ?_
      refine AOps.s 4 rfl rfl rfl (q_move (.inr rfl) rfl) ?_
      refine AOps.nil ?_
      refine AGo.ret ?_
      refine ⟨[_], ⟨rfl, trivial⟩, ?_, rfl⟩
      show AV.bool _ = AV.bool _
      congr 1
      exact (all_bad (range_get hkl) (by rw [hat]; simp_all)).symm
    · -- False
      refine DOps.s 28 rfl rfl rfl (q_fieldAddr tok rfl rfl rfl rfl rfl rfl) ?_
      refine DOps.s 29 rfl rfl rfl (q_load tok rfl rfl rfl (by first | exact .loc _ | exact .ptr _ _ _ _ _ _ _ _ rfl rfl rfl) rfl) ?_
      refine DOps.s 30 rfl rfl rfl (q_move (.inl rfl) rfl) ?_
      refine DOps.s 31 rfl rfl rfl (q_move (.inl rfl) rfl) ?_
      refine DOps.s 32 rfl rfl rfl (q_inc rfl rfl hkl (show p.length - 1 ≤ maxLen by simp only [maxLen]; omega)) ?_
      refine DOps.s 33 rfl rfl rfl (q_index_lst tok rfl rfl rfl rfl rfl rfl (Int.natCast_nonneg _) (cs := [.int .i64 z]) (by rw [Int.toNat_natCast]; show (List.map (fun b => [AV.int .i64 b]) p)[k + 1]? = _; rw [List.getElem?_map, hz]; rfl) rfl) ?_
      refine DOps.s 34 rfl rfl rfl (q_load tok rfl rfl rfl (by first | exact .loc _ | exact .ptr _ _ _ _ _ _ _ _ rfl rfl rfl) rfl) ?_
      refine DOps.s 35 rfl rfl rfl (q_bin rfl rfl rfl rfl) ?_
      refine DOps.s 36 rfl rfl rfl (q_pick_false false rfl rfl rfl rfl) ?_
      refine DOps.nil (by kernel_rfl) ?_
      refine AGo.split 36 rfl (fun hb3 => ?_) (fun hb3 => ?_)
      · -- True
        refine AGo.cond_true true rfl rfl ?_
        refine AGo.seq ?_
        refine AGo.region ?_
        refine AOps.s 4 rfl rfl rfl (q_move (.inr rfl) rfl) ?_
        refine AOps.nil ?_
        refine AGo.ret ?_
        refine ⟨[_], ⟨rfl, trivial⟩, ?_, rfl⟩
        show AV.bool _ = AV.bool _
        congr 1
        exact (all_bad (range_get hkl) (by rw [hat]; simp_all)).symm
      · -- False
        refine AGo.cond_false false rfl rfl ?_
        refine AGo.skip ?_
        refine AGo.region ?_
        refine AOps.s 37 rfl rfl rfl (q_inc rfl rfl hkl (show p.length - 1 ≤ maxLen by simp only [maxLen]; omega)) ?_
        refine AOps.s 14 rfl rfl rfl (q_move (.inl rfl) rfl) ?_
        refine AOps.nil ?_
        exact ⟨k+1, Drop.mk' (by repeat (first | exact EDrop.new _ _ | refine EDrop.put ?_ (by rfl) rfl)) (by repeat (first | exact HDrop.none _ _ | exact HDrop.tail _ _ | refine HDrop.put ?_ (by rfl) rfl rfl)), (all_succ (range_get hkl) hall (by rw [hat]; simp_all)), by omega⟩
  · -- False
    refine AGo.cond_false false rfl rfl ?_
    have hge : p.length - 1 ≤ k := by have h := hb1; simp [intCells_len] at h; omega
    refine AGo.exit ?_
    refine AGo.seq ?_
    refine AGo.region ?_
    refine AOps.s 4 rfl rfl rfl (q_move (.inr rfl) rfl) ?_
    refine AOps.nil ?_
    refine AGo.ret ?_
    refine ⟨[_], ⟨rfl, trivial⟩, ?_, rfl⟩
    show AV.bool _ = AV.bool _
    congr 1
    exact (all_end hall (by simpa using hge)).symm

set_option maxRecDepth 100000 in
theorem made_ok (f : BFunc) (b : Block) (p : List Int) (hp : inF f.blocks.length p) (hpl : p.length ≤ 100000) (hbl : b.ins.length ≤ 1000000000) : APure Try.prog 35 [.agg f.cells, .agg b.cells, intsAV p] (fun r => r = .bool (madeR f b.ins p)) := by
  refine APure.of_body (n := 47) tok Try.func35 rfl rfl ?_
  refine AGo.seq ?_
  refine AGo.region ?_
  refine AOps.x 3 rfl rfl rfl (o_box (sz := 2) 0 rfl rfl rfl rfl (Nat.zero_lt_succ _) rfl) ?_
  refine AOps.x 4 rfl rfl rfl (o_box (sz := 5) 1 rfl rfl rfl rfl (Nat.zero_lt_succ _) rfl) ?_
  refine AOps.s 6 rfl rfl rfl (q_move (.inr rfl) rfl) ?_
  refine AOps.nil ?_
  refine AGo.seq ?_
  refine AGo.region ?_
  refine AOps.s 11 rfl rfl rfl (q_fieldAddr tok rfl rfl rfl rfl rfl rfl) ?_
  refine AOps.s 12 rfl rfl rfl (q_load tok rfl rfl rfl (by first | exact .loc _ | exact .ptr _ _ _ _ _ _ _ _ rfl rfl rfl) rfl) ?_
  refine AOps.s 7 rfl rfl rfl (q_move (.inr rfl) rfl) ?_
  refine AOps.nil ?_
  refine AGo.seq ?_
  refine AGo.seq ?_
  refine AGo.region ?_
  refine AOps.s 13 rfl rfl rfl (q_move (.inl rfl) rfl) ?_
  refine AOps.s 14 rfl rfl rfl (q_len tok rfl rfl rfl rfl rfl) ?_
  refine AOps.s 15 rfl rfl rfl (q_move (.inl rfl) rfl) ?_
  refine AOps.nil ?_
  refine AGo.block ?_
  refine AGo.loopD (γ := MG) 2 (fun q => ⟨47, (eput (eput (eput (eput (eput eNew 3 (.ptr 0 1 0 0)) 7 (insAV q.rest)) 13 (intsAV p)) 14 (.int .i64 (p.length : Int))) 15 (.int .i64 (q.k : Int))), (hput (hFrom 2) 0 (.row false 2 [f.cells]))⟩) (fun q => madeR f q.rest (p.drop q.k) = madeR f b.ins p ∧ q.rest.length ≤ 1000000000) (fun q => p.length - q.k) ⟨0, b.ins⟩ (Sub.mk' (by repeat (first | exact ESub.new _ | refine ESub.put ?_ (by first | rfl | exact congrArg (fun (n : Nat) => some (AV.int .i64 (n : Int))) (by simp)))) (by repeat (first | exact HSub.none _ | exact HSub.from_new _ | exact HSub.from_from (by decide) | refine HSub.put ?_ (by rfl) | refine HSub.from_put ?_ (by decide) | refine HSub.from_rm ?_ (by decide)))) ⟨rfl, hbl⟩ (fun _ => hput_free (fun b hb => hFrom_free hb) rfl) ?_
  intro q hF
  refine AGo.seq ?_
  refine AGo.region ?_
  refine AOps.s 16 rfl rfl rfl (q_bin rfl rfl rfl rfl) ?_
  refine AOps.nil ?_
  refine AGo.seq ?_
  refine AGo.split 16 rfl (fun hb1 => ?_) (fun hb1 => ?_)
  · -- True
    refine AGo.cond_true true rfl rfl ?_
    have hkl : q.k < p.length := by have h := hb1; simp at h; omega
    obtain ⟨y, hy⟩ := get_of_lt hkl
    have hyr := hp.2 y (List.mem_of_getElem? hy)
    have hst := madeR_step (f := f) (rest := q.rest) hy
    have heq := hF.1
    have hrl := hF.2
    refine AGo.skip ?_
    refine AGo.seq ?_
    refine AGo.block ?_
    refine AGo.seq ?_
    refine AGo.region ?_
    refine AOps.s 17 rfl rfl rfl (q_index_lst tok rfl rfl rfl rfl rfl rfl (Int.natCast_nonneg _) (idx_map hy) rfl) ?_
    refine AOps.s 18 rfl rfl rfl (q_load tok rfl rfl rfl (by first | exact .loc _ | exact .ptr _ _ _ _ _ _ _ _ rfl rfl rfl) rfl) ?_
    refine AOps.s 9 rfl rfl rfl (q_move (.inr rfl) rfl) ?_
    refine AOps.nil ?_
    refine AGo.seq ?_
    refine AGo.region ?_
    refine AOps.s 19 rfl rfl rfl (q_fieldAddr tok rfl rfl rfl rfl rfl rfl) ?_
    refine AOps.s 20 rfl rfl rfl (q_load tok rfl rfl rfl (by first | exact .loc _ | exact .ptr _ _ _ _ _ _ _ _ rfl rfl rfl) rfl) ?_
    refine AOps.s 21 rfl rfl rfl (q_move (.inl rfl) rfl) ?_
    refine AOps.s 22 rfl rfl rfl (q_index_lst tok rfl rfl rfl rfl rfl rfl hyr.1 (idx_mapZ (blockAt_get hyr)) rfl) ?_
    refine AOps.s 23 rfl rfl rfl (q_fieldAddr tok rfl rfl rfl rfl rfl rfl) ?_
    refine AOps.s 24 rfl rfl rfl (q_load tok rfl rfl rfl (by first | exact .loc _ | exact .ptr _ _ _ _ _ _ _ _ rfl rfl rfl) rfl) ?_
    refine AOps.s 10 rfl rfl rfl (q_move (.inr rfl) rfl) ?_
    refine AOps.nil ?_
    refine AGo.seq ?_
    refine AGo.seq ?_
    refine AGo.region ?_
    refine AOps.s 25 rfl rfl rfl (q_move (.inl rfl) rfl) ?_
    refine AOps.s 26 rfl rfl rfl (q_len tok rfl rfl rfl rfl rfl) ?_
    refine AOps.s 27 rfl rfl rfl (q_move (.inl rfl) rfl) ?_
    refine AOps.s 28 rfl rfl rfl (q_len tok rfl rfl rfl rfl rfl) ?_
    refine AOps.s 29 rfl rfl rfl (q_bin rfl rfl rfl rfl) ?_
    refine AOps.s 30 rfl rfl rfl (q_move (.inl rfl) rfl) ?_
    refine AOps.split 30 rfl (fun hb2 => ?_) (fun hb2 => ?_)
    · -- True
      refine AOps.k 31 rfl rfl rfl ?_
      refine AOps.k 32 rfl rfl rfl ?_
      refine AOps.k 33 rfl rfl rfl ?_
      refine AOps.k 34 rfl rfl rfl ?_
      refine AOps.k 35 rfl rfl rfl ?_
      refine AOps.k 36 rfl rfl rfl ?_
      refine AOps.k 37 rfl rfl rfl ?_
      refine AOps.s 38 rfl rfl rfl (q_pick_true true rfl rfl rfl rfl) ?_
      refine AOps.nil ?_
      refine AGo.cond_true true rfl rfl ?_
      refine AGo.seq ?_
      refine AGo.region ?_
      refine AOps.s 6 rfl rfl rfl (q_move (.inr rfl) rfl) ?_
      refine AOps.nil ?_
      refine AGo.ret ?_
      refine ⟨[_], ⟨rfl, trivial⟩, ?_, rfl⟩
      show AV.bool _ = AV.bool _
      congr 1
      rw [← heq, hst]
      by_cases hcc : (f.blockAt y).ins.length ≤ q.rest.length
      · clear heq hst hF
        first | (have h3 : ¬ q.rest.take (f.blockAt y).ins.length = (f.blockAt y).ins := by simp_all
                 simp [h3]; done) | (exfalso; simp_all; omega)
      · simp [hcc]
    · -- False
      have hlen : (f.blockAt y).ins.length ≤ q.rest.length := by have h := hb2; simp at h; omega
      refine AOps.s 31 rfl rfl rfl (q_move (.inl rfl) rfl) ?_
      refine AOps.s 32 rfl rfl rfl (q_move (.inl rfl) rfl) ?_
      refine AOps.s 33 rfl rfl rfl (q_len tok rfl rfl rfl rfl rfl) ?_
      refine AOps.s 34 rfl rfl rfl (q_front' (l := q.rest) (m := (f.blockAt y).ins.length) tok rfl rfl rfl rfl ⟨rfl, rfl⟩ rfl (by rw [List.length_map]) (by have h := hlen; omega)) ?_
      refine AOps.s 35 rfl rfl rfl (q_move (.inl rfl) rfl) ?_
      refine AOps.x 36 rfl rfl rfl (o_pure rfl Try.func44 (by kernel_rfl) rfl rfl rfl (equal_ok (q.rest.take (f.blockAt y).ins.length) (f.blockAt y).ins (by rw [List.length_take]; omega))) ?_
      refine AOps.s 37 rfl rfl rfl (q_not rfl rfl) ?_
      refine AOps.s 38 rfl rfl rfl (q_pick_false false rfl rfl rfl rfl) ?_
      refine AOps.nil ?_
      refine AGo.split 38 rfl (fun hb3 => ?_) (fun hb3 => ?_)
      · -- True
        refine AGo.cond_true true rfl rfl ?_
        refine AGo.seq ?_
        refine AGo.region ?_
        refine AOps.s 6 rfl rfl rfl (q_move (.inr rfl) rfl) ?_
        refine AOps.nil ?_
        refine AGo.ret ?_
        refine ⟨[_], ⟨rfl, trivial⟩, ?_, rfl⟩
        show AV.bool _ = AV.bool _
        congr 1
        rw [← heq, hst]
        by_cases hcc : (f.blockAt y).ins.length ≤ q.rest.length
        · clear heq hst hF
          first | (have h3 : ¬ q.rest.take (f.blockAt y).ins.length = (f.blockAt y).ins := by simp_all
                   simp [h3]; done) | (exfalso; simp_all; omega)
        · simp [hcc]
      · -- False
        refine AGo.cond_false false rfl rfl ?_
        have hsame : q.rest.take (f.blockAt y).ins.length = (f.blockAt y).ins := by simp_all
        refine AGo.skip ?_
        refine AGo.region ?_
        refine AOps.s 39 rfl rfl rfl (q_move (.inl rfl) rfl) ?_
        refine AOps.s 40 rfl rfl rfl (q_move (.inl rfl) rfl) ?_
        refine AOps.s 41 rfl rfl rfl (q_len tok rfl rfl rfl rfl rfl) ?_
        refine AOps.s 42 rfl rfl rfl (q_back' (l := q.rest) (m := (f.blockAt y).ins.length) tok rfl rfl rfl rfl ⟨rfl, rfl⟩ rfl (by rw [List.length_map]) (by have h := hlen; omega)) ?_
        refine AOps.s 7 rfl rfl rfl (q_move (.inr rfl) rfl) ?_
        refine AOps.nil ?_
        refine AGo.region ?_
        refine AOps.s 43 rfl rfl rfl (q_inc rfl rfl hkl (by simp only [maxLen]; omega)) ?_
        refine AOps.s 15 rfl rfl rfl (q_move (.inl rfl) rfl) ?_
        refine AOps.nil ?_
        exact ⟨⟨q.k + 1, q.rest.drop (f.blockAt y).ins.length⟩, Drop.mk' (by repeat (first | exact EDrop.new _ _ | refine EDrop.put ?_ (by rfl) rfl)) (by repeat (first | exact HDrop.none _ _ | exact HDrop.tail _ _ | refine HDrop.put ?_ (by rfl) rfl rfl)), ⟨by rw [← heq, hst]; simp [hlen, hsame], by show (q.rest.drop _).length ≤ _; rw [List.length_drop]; omega⟩, (by show p.length - (q.k + 1) < p.length - q.k; omega)⟩
  · -- False
    refine AGo.cond_false false rfl rfl ?_
    have hge : p.length ≤ q.k := by have h := hb1; simp at h; omega
    have heq := hF.1
    refine AGo.exit ?_
    refine AGo.seq ?_
    refine AGo.region ?_
    refine AOps.s 44 rfl rfl rfl (q_move (.inl rfl) rfl) ?_
    refine AOps.s 45 rfl rfl rfl (q_len tok rfl rfl rfl rfl rfl) ?_
    refine AOps.s 46 rfl rfl rfl (q_bin rfl rfl rfl rfl) ?_
    refine AOps.s 6 rfl rfl rfl (q_move (.inr rfl) rfl) ?_
    refine AOps.nil ?_
    refine AGo.ret ?_
    refine ⟨[_], ⟨rfl, trivial⟩, ?_, rfl⟩
    show AV.bool _ = AV.bool _
    congr 1
    rw [← heq, List.drop_eq_nil_of_le hge, madeR]
    cases q.rest <;> simp [evalBin] <;> omega

set_option maxRecDepth 100000 in
theorem begins_ok (paths : List (List Int)) (k i : Int) (hpn : ∀ p ∈ paths, p ≠ []) : ACall Try.prog 45 [.int .i64 k, .int .i64 i, .ptr 2 1 0 0] (hput hNew 2 (.row false 1 [[pathsAV paths]])) (fun r h' => r = .bool (beginsB paths k i) ∧ HSub (hput hNone 2 (.row false 1 [[pathsAV paths]])) h') := by
  refine ACall.of_body (n := 24) tok Try.func45 rfl rfl ?_
  refine AGo.seq ?_
  refine AGo.region ?_
  refine AOps.s 5 rfl rfl rfl (q_move (.inr rfl) rfl) ?_
  refine AOps.nil ?_
  refine AGo.seq ?_
  refine AGo.region ?_
  refine AOps.s 6 rfl rfl rfl (q_move (.inl rfl) rfl) ?_
  refine AOps.s 7 rfl rfl rfl (q_bin rfl rfl rfl rfl) ?_
  refine AOps.s 8 rfl rfl rfl (q_move (.inl rfl) rfl) ?_
  refine AOps.split 8 rfl (fun hb1 => ?_) (fun hb1 => ?_)
  · -- True
    refine AOps.s 9 rfl rfl rfl (q_move (.inl rfl) rfl) ?_
    refine AOps.s 10 rfl rfl rfl (q_load tok rfl rfl rfl (by first | exact .loc _ | exact .ptr _ _ _ _ _ _ _ _ rfl rfl rfl) rfl) ?_
    refine AOps.s 11 rfl rfl rfl (q_len tok rfl rfl rfl rfl rfl) ?_
    refine AOps.s 12 rfl rfl rfl (q_bin rfl rfl rfl rfl) ?_
    refine AOps.s 13 rfl rfl rfl (q_pick_true true rfl rfl rfl rfl) ?_
    refine AOps.s 14 rfl rfl rfl (q_move (.inl rfl) rfl) ?_
    refine AOps.split 14 rfl (fun hb2 => ?_) (fun hb2 => ?_)
    · -- True
      have hkr : 0 ≤ k ∧ k < paths.length := by simp_all [pathsAV] <;> omega
      have hpk := pathK_get hkr
      have hp0 := headZ_get (hpn _ (List.mem_of_getElem? hpk))
      refine AOps.s 15 rfl rfl rfl (q_load tok rfl rfl rfl (by first | exact .loc _ | exact .ptr _ _ _ _ _ _ _ _ rfl rfl rfl) rfl) ?_
      refine AOps.s 16 rfl rfl rfl (q_move (.inl rfl) rfl) ?_
      refine AOps.s 17 rfl rfl rfl (q_index_lst tok rfl rfl rfl rfl rfl rfl hkr.1 (idx_mapZ hpk) rfl) ?_
      refine AOps.s 18 rfl rfl rfl (q_load tok rfl rfl rfl (by first | exact .loc _ | exact .ptr _ _ _ _ _ _ _ _ rfl rfl rfl) rfl) ?_
      refine AOps.s 19 rfl rfl rfl (q_index_lst tok rfl rfl rfl rfl rfl rfl (by decide) (cs := [.int .i64 (headZ (pathK paths k))]) (by show (List.map (fun b => [AV.int .i64 b]) (pathK paths k))[0]? = _; rw [List.getElem?_map, hp0]; rfl) rfl) ?_
      refine AOps.s 20 rfl rfl rfl (q_load tok rfl rfl rfl (by first | exact .loc _ | exact .ptr _ _ _ _ _ _ _ _ rfl rfl rfl) rfl) ?_
      refine AOps.s 21 rfl rfl rfl (q_move (.inl rfl) rfl) ?_
      refine AOps.s 22 rfl rfl rfl (q_bin rfl rfl rfl rfl) ?_
      refine AOps.s 23 rfl rfl rfl (q_pick_true true rfl rfl rfl rfl) ?_
      refine AOps.s 5 rfl rfl rfl (q_move (.inr rfl) rfl) ?_
      refine AOps.nil ?_
      refine AGo.ret ?_
      refine ⟨[_], ⟨rfl, trivial⟩, ?_, HSub.put (HSub.none _) rfl⟩
      show AV.bool _ = AV.bool _
      congr 1
      first | (simp_all [beginsB, pathsAV]; done) | (simp_all [beginsB, pathsAV]; omega)
    · -- False
      refine AOps.k 15 rfl rfl rfl ?_
      refine AOps.k 16 rfl rfl rfl ?_
      refine AOps.k 17 rfl rfl rfl ?_
      refine AOps.k 18 rfl rfl rfl ?_
      refine AOps.k 19 rfl rfl rfl ?_
      refine AOps.k 20 rfl rfl rfl ?_
      refine AOps.k 21 rfl rfl rfl ?_
      refine AOps.k 22 rfl rfl rfl ?_
      refine AOps.s 23 rfl rfl rfl (q_pick_false false rfl rfl rfl rfl) ?_
      refine AOps.s 5 rfl rfl rfl (q_move (.inr rfl) rfl) ?_
      refine AOps.nil ?_
      refine AGo.ret ?_
      refine ⟨[_], ⟨rfl, trivial⟩, ?_, HSub.put (HSub.none _) rfl⟩
      show AV.bool _ = AV.bool _
      congr 1
      first | (simp_all [beginsB, pathsAV]; done) | (simp_all [beginsB, pathsAV]; omega)
  · -- False
    refine AOps.k 9 rfl rfl rfl ?_
    refine AOps.k 10 rfl rfl rfl ?_
    refine AOps.k 11 rfl rfl rfl ?_
    refine AOps.k 12 rfl rfl rfl ?_
    refine AOps.s 13 rfl rfl rfl (q_pick_false false rfl rfl rfl rfl) ?_
    refine AOps.s 14 rfl rfl rfl (q_move (.inl rfl) rfl) ?_
    refine AOps.k 15 rfl rfl rfl ?_
    refine AOps.k 16 rfl rfl rfl ?_
    refine AOps.k 17 rfl rfl rfl ?_
    refine AOps.k 18 rfl rfl rfl ?_
    refine AOps.k 19 rfl rfl rfl ?_
    refine AOps.k 20 rfl rfl rfl ?_
    refine AOps.k 21 rfl rfl rfl ?_
    refine AOps.k 22 rfl rfl rfl ?_
    refine AOps.s 23 rfl rfl rfl (q_pick_false false rfl rfl rfl rfl) ?_
    refine AOps.s 5 rfl rfl rfl (q_move (.inr rfl) rfl) ?_
    refine AOps.nil ?_
    refine AGo.ret ?_
    refine ⟨[_], ⟨rfl, trivial⟩, ?_, HSub.put (HSub.none _) rfl⟩
    show AV.bool _ = AV.bool _
    congr 1
    first | (simp_all [beginsB, pathsAV]; done) | (simp_all [beginsB, pathsAV]; omega)

set_option maxRecDepth 100000 in
theorem leads_ok (last b : Block) (paths : List (List Int)) (hpn : ∀ p ∈ paths, p ≠ []) : APure Try.prog 36 [.agg last.cells, .agg b.cells, pathsAV paths] (fun r => r = .bool (leadsB last b paths)) := by
  refine APure.of_body (n := 60) tok Try.func36 rfl rfl ?_
  refine AGo.seq ?_
  refine AGo.region ?_
  refine AOps.x 3 rfl rfl rfl (o_box (sz := 5) 0 rfl rfl rfl rfl (Nat.zero_lt_succ _) rfl) ?_
  refine AOps.x 4 rfl rfl rfl (o_box (sz := 5) 1 rfl rfl rfl rfl (Nat.zero_lt_succ _) rfl) ?_
  refine AOps.x 5 rfl rfl rfl (o_box (sz := 1) 2 rfl rfl rfl rfl (Nat.zero_lt_succ _) rfl) ?_
  refine AOps.s 6 rfl rfl rfl (q_move (.inr rfl) rfl) ?_
  refine AOps.nil ?_
  refine AGo.seq ?_
  refine AGo.seq ?_
  refine AGo.region ?_
  refine AOps.s 10 rfl rfl rfl (q_fieldAddr tok rfl rfl rfl rfl rfl rfl) ?_
  refine AOps.s 11 rfl rfl rfl (q_load tok rfl rfl rfl (by first | exact .loc _ | exact .ptr _ _ _ _ _ _ _ _ rfl rfl rfl) rfl) ?_
  refine AOps.s 12 rfl rfl rfl (q_fieldAddr tok rfl rfl rfl rfl rfl rfl) ?_
  refine AOps.s 13 rfl rfl rfl (q_load tok rfl rfl rfl (by first | exact .loc _ | exact .ptr _ _ _ _ _ _ _ _ rfl rfl rfl) rfl) ?_
  refine AOps.s 14 rfl rfl rfl (q_bin rfl rfl rfl rfl) ?_
  refine AOps.s 15 rfl rfl rfl (q_move (.inl rfl) rfl) ?_
  refine AOps.split 15 rfl (fun hb1 => ?_) (fun hb1 => ?_)
  · -- True
    refine AOps.k 16 rfl rfl rfl ?_
    refine AOps.k 17 rfl rfl rfl ?_
    refine AOps.k 18 rfl rfl rfl ?_
    refine AOps.k 19 rfl rfl rfl ?_
    refine AOps.k 20 rfl rfl rfl ?_
    refine AOps.s 21 rfl rfl rfl (q_pick_true true rfl rfl rfl rfl) ?_
    refine AOps.nil ?_
    refine AGo.cond_true true rfl rfl ?_
    refine AGo.seq ?_
    refine AGo.region ?_
    refine AOps.s 6 rfl rfl rfl (q_move (.inr rfl) rfl) ?_
    refine AOps.nil ?_
    refine AGo.ret ?_
    first
    | exact absurd (show (b.fin == 2) = true from ‹_›) (by rw [show (b.fin == 2) = false from ‹_›]; decide)
    | (refine ⟨[_], ⟨rfl, trivial⟩, ?_, rfl⟩
       show AV.bool _ = AV.bool _
       congr 1
       simp only [leadsB, leadsTo, leadsEl, *, cond_true, cond_false, Bool.not_true, Bool.not_false, Bool.true_and, Bool.false_and, Bool.and_true, Bool.and_false, Bool.true_or, Bool.or_true, Bool.false_or, Bool.or_false])
  · -- False
    refine AOps.s 16 rfl rfl rfl (q_fieldAddr tok rfl rfl rfl rfl rfl rfl) ?_
    refine AOps.s 17 rfl rfl rfl (q_load tok rfl rfl rfl (by first | exact .loc _ | exact .ptr _ _ _ _ _ _ _ _ rfl rfl rfl) rfl) ?_
    refine AOps.s 18 rfl rfl rfl (q_fieldAddr tok rfl rfl rfl rfl rfl rfl) ?_
    refine AOps.s 19 rfl rfl rfl (q_load tok rfl rfl rfl (by first | exact .loc _ | exact .ptr _ _ _ _ _ _ _ _ rfl rfl rfl) rfl) ?_
    refine AOps.s 20 rfl rfl rfl (q_bin rfl rfl rfl rfl) ?_
    refine AOps.s 21 rfl rfl rfl (q_pick_false false rfl rfl rfl rfl) ?_
    refine AOps.nil ?_
    refine AGo.split 21 rfl (fun hb2 => ?_) (fun hb2 => ?_)
    · -- True
      refine AGo.cond_true true rfl rfl ?_
      refine AGo.seq ?_
      refine AGo.region ?_
      refine AOps.s 6 rfl rfl rfl (q_move (.inr rfl) rfl) ?_
      refine AOps.nil ?_
      refine AGo.ret ?_
      first
      | exact absurd (show (b.fin == 2) = true from ‹_›) (by rw [show (b.fin == 2) = false from ‹_›]; decide)
      | (refine ⟨[_], ⟨rfl, trivial⟩, ?_, rfl⟩
         show AV.bool _ = AV.bool _
         congr 1
         simp only [leadsB, leadsTo, leadsEl, *, cond_true, cond_false, Bool.not_true, Bool.not_false, Bool.true_and, Bool.false_and, Bool.and_true, Bool.and_false, Bool.true_or, Bool.or_true, Bool.false_or, Bool.or_false])
    · -- False
      refine AGo.cond_false false rfl rfl ?_
      refine AGo.skip ?_
      refine AGo.seq ?_
      refine AGo.region ?_
      refine AOps.s 22 rfl rfl rfl (q_makeFunc rfl rfl rfl) ?_
      refine AOps.s 7 rfl rfl rfl (q_move (.inr rfl) rfl) ?_
      refine AOps.nil ?_
      refine AGo.seq ?_
      refine AGo.draw mix ?_
      refine DOps.s 23 rfl rfl rfl (q_fieldAddr tok rfl rfl rfl rfl rfl rfl) ?_
      refine DOps.s 24 rfl rfl rfl (q_load tok rfl rfl rfl (by first | exact .loc _ | exact .ptr _ _ _ _ _ _ _ _ rfl rfl rfl) rfl) ?_
      refine DOps.s 25 rfl rfl rfl (q_fieldAddr tok rfl rfl rfl rfl rfl rfl) ?_
      refine DOps.s 26 rfl rfl rfl (q_load tok rfl rfl rfl (by first | exact .loc _ | exact .ptr _ _ _ _ _ _ _ _ rfl rfl rfl) rfl) ?_
      refine DOps.s 27 rfl rfl rfl (q_bin rfl rfl rfl rfl) ?_
      refine DOps.s 28 rfl rfl rfl (q_fieldAddr tok rfl rfl rfl rfl rfl rfl) ?_
      refine DOps.s 29 rfl rfl rfl (q_load tok rfl rfl rfl (by first | exact .loc _ | exact .ptr _ _ _ _ _ _ _ _ rfl rfl rfl) rfl) ?_
      refine DOps.s 30 rfl rfl rfl (q_fieldAddr tok rfl rfl rfl rfl rfl rfl) ?_
      refine DOps.s 31 rfl rfl rfl (q_load tok rfl rfl rfl (by first | exact .loc _ | exact .ptr _ _ _ _ _ _ _ _ rfl rfl rfl) rfl) ?_
      refine DOps.s 32 rfl rfl rfl (q_bin rfl rfl rfl rfl) ?_
      refine DOps.s 8 rfl rfl rfl (q_move (.inr rfl) rfl) ?_
      refine DOps.s 9 rfl rfl rfl (q_move (.inr rfl) rfl) ?_
      refine DOps.nil (by kernel_rfl) ?_
      refine AGo.seq ?_
      refine AGo.seq ?_
      refine AGo.region ?_
      refine AOps.s 33 rfl rfl rfl (q_fieldAddr tok rfl rfl rfl rfl rfl rfl) ?_
      refine AOps.s 34 rfl rfl rfl (q_load tok rfl rfl rfl (by first | exact .loc _ | exact .ptr _ _ _ _ _ _ _ _ rfl rfl rfl) rfl) ?_
      refine AOps.s 35 rfl rfl rfl (q_bin rfl rfl rfl rfl) ?_
      refine AOps.s 36 rfl rfl rfl (q_move (.inl rfl) rfl) ?_
      refine AOps.split 36 rfl (fun hb3 => ?_) (fun hb3 => ?_)
      · -- True
        refine AOps.k 37 rfl rfl rfl ?_
        refine AOps.k 38 rfl rfl rfl ?_
        refine AOps.k 39 rfl rfl rfl ?_
        refine AOps.s 40 rfl rfl rfl (q_pick_true true rfl rfl rfl rfl) ?_
        refine AOps.nil ?_
        refine AGo.cond_true true rfl rfl ?_
        refine AGo.region ?_
        refine AOps.s 41 rfl rfl rfl (q_move (.inl rfl) rfl) ?_
        refine AOps.s 42 rfl rfl rfl (q_fieldAddr tok rfl rfl rfl rfl rfl rfl) ?_
        refine AOps.s 43 rfl rfl rfl (q_load tok rfl rfl rfl (by first | exact .loc _ | exact .ptr _ _ _ _ _ _ _ _ rfl rfl rfl) rfl) ?_
        refine AOps.s 44 rfl rfl rfl (q_fieldAddr tok rfl rfl rfl rfl rfl rfl) ?_
        refine AOps.s 45 rfl rfl rfl (q_load tok rfl rfl rfl (by first | exact .loc _ | exact .ptr _ _ _ _ _ _ _ _ rfl rfl rfl) rfl) ?_
        refine AOps.x 46 rfl rfl rfl (o_callF (hc := (hput hNew 2 (.row false 1 [[pathsAV paths]]))) (hw := (hput hNone 2 (.row false 1 [[pathsAV paths]]))) [2] [(2, (.row false 1 [[pathsAV paths]]))] rfl rfl Try.func45 (by kernel_rfl) rfl rfl rfl ⟨⟨_, rfl, rfl⟩, trivial⟩ rfl (hres_cons rfl (hres_nil _)) ⟨⟨_, rfl, rfl, rfl⟩, trivial⟩ rfl (begins_ok paths b.to last.to hpn)) ?_
        refine AOps.s 8 rfl rfl rfl (q_move (.inr rfl) rfl) ?_
        refine AOps.nil ?_
        refine AGo.seq ?_
        refine AGo.seq ?_
        refine AGo.region ?_
        refine AOps.s 47 rfl rfl rfl (q_fieldAddr tok rfl rfl rfl rfl rfl rfl) ?_
        refine AOps.s 48 rfl rfl rfl (q_load tok rfl rfl rfl (by first | exact .loc _ | exact .ptr _ _ _ _ _ _ _ _ rfl rfl rfl) rfl) ?_
        refine AOps.s 49 rfl rfl rfl (q_bin rfl rfl rfl rfl) ?_
        refine AOps.nil ?_
        refine AGo.split 49 rfl (fun hb4 => ?_) (fun hb4 => ?_)
        · -- True
          refine AGo.cond_true true rfl rfl ?_
          refine AGo.region ?_
          refine AOps.s 50 rfl rfl rfl (q_move (.inl rfl) rfl) ?_
          refine AOps.s 51 rfl rfl rfl (q_fieldAddr tok rfl rfl rfl rfl rfl rfl) ?_
          refine AOps.s 52 rfl rfl rfl (q_load tok rfl rfl rfl (by first | exact .loc _ | exact .ptr _ _ _ _ _ _ _ _ rfl rfl rfl) rfl) ?_
          refine AOps.s 53 rfl rfl rfl (q_fieldAddr tok rfl rfl rfl rfl rfl rfl) ?_
          refine AOps.s 54 rfl rfl rfl (q_load tok rfl rfl rfl (by first | exact .loc _ | exact .ptr _ _ _ _ _ _ _ _ rfl rfl rfl) rfl) ?_
          refine AOps.x 55 rfl rfl rfl (o_callF (hc := (hput hNew 2 (.row false 1 [[pathsAV paths]]))) (hw := (hput hNone 2 (.row false 1 [[pathsAV paths]]))) [2] [(2, (.row false 1 [[pathsAV paths]]))] rfl rfl Try.func45 (by kernel_rfl) rfl rfl rfl ⟨⟨_, rfl, rfl⟩, trivial⟩ rfl (hres_cons rfl (hres_nil _)) ⟨⟨_, rfl, rfl, rfl⟩, trivial⟩ rfl (begins_ok paths b.els last.els hpn)) ?_
          refine AOps.s 9 rfl rfl rfl (q_move (.inr rfl) rfl) ?_
          refine AOps.nil ?_
          refine AGo.seq ?_
          refine AGo.region ?_
          refine AOps.s 56 rfl rfl rfl (q_move (.inl rfl) rfl) ?_
          refine AOps.s 57 rfl rfl rfl (q_move (.inl rfl) rfl) ?_
          refine AOps.split 57 rfl (fun hb5 => ?_) (fun hb5 => ?_)
          · -- True
            refine AOps.s 58 rfl rfl rfl (q_move (.inl rfl) rfl) ?_
            refine AOps.s 59 rfl rfl rfl (q_pick_true true rfl rfl rfl rfl) ?_
            refine AOps.s 6 rfl rfl rfl (q_move (.inr rfl) rfl) ?_
            refine AOps.nil ?_
            refine AGo.ret ?_
            first
            | exact absurd (show (b.fin == 2) = true from ‹_›) (by rw [show (b.fin == 2) = false from ‹_›]; decide)
            | (refine ⟨[_], ⟨rfl, trivial⟩, ?_, rfl⟩
               show AV.bool _ = AV.bool _
               congr 1
               simp only [leadsB, leadsTo, leadsEl, *, cond_true, cond_false, Bool.not_true, Bool.not_false, Bool.true_and, Bool.false_and, Bool.and_true, Bool.and_false, Bool.true_or, Bool.or_true, Bool.false_or, Bool.or_false])
          · -- False
            refine AOps.k 58 rfl rfl rfl ?_
            refine AOps.s 59 rfl rfl rfl (q_pick_false false rfl rfl rfl rfl) ?_
            refine AOps.s 6 rfl rfl rfl (q_move (.inr rfl) rfl) ?_
            refine AOps.nil ?_
            refine AGo.ret ?_
            first
            | exact absurd (show (b.fin == 2) = true from ‹_›) (by rw [show (b.fin == 2) = false from ‹_›]; decide)
            | (refine ⟨[_], ⟨rfl, trivial⟩, ?_, rfl⟩
               show AV.bool _ = AV.bool _
               congr 1
               simp only [leadsB, leadsTo, leadsEl, *, cond_true, cond_false, Bool.not_true, Bool.not_false, Bool.true_and, Bool.false_and, Bool.and_true, Bool.and_false, Bool.true_or, Bool.or_true, Bool.false_or, Bool.or_false])
        · -- False
          refine AGo.cond_false false rfl rfl ?_
          refine AGo.skip ?_
          refine AGo.seq ?_
          refine AGo.region ?_
          refine AOps.s 56 rfl rfl rfl (q_move (.inl rfl) rfl) ?_
          refine AOps.s 57 rfl rfl rfl (q_move (.inl rfl) rfl) ?_
          refine AOps.split 57 rfl (fun hb6 => ?_) (fun hb6 => ?_)
          · -- True
            refine AOps.s 58 rfl rfl rfl (q_move (.inl rfl) rfl) ?_
            refine AOps.s 59 rfl rfl rfl (q_pick_true true rfl rfl rfl rfl) ?_
            refine AOps.s 6 rfl rfl rfl (q_move (.inr rfl) rfl) ?_
            refine AOps.nil ?_
            refine AGo.ret ?_
            first
            | exact absurd (show (b.fin == 2) = true from ‹_›) (by rw [show (b.fin == 2) = false from ‹_›]; decide)
            | (refine ⟨[_], ⟨rfl, trivial⟩, ?_, rfl⟩
               show AV.bool _ = AV.bool _
               congr 1
               simp only [leadsB, leadsTo, leadsEl, *, cond_true, cond_false, Bool.not_true, Bool.not_false, Bool.true_and, Bool.false_and, Bool.and_true, Bool.and_false, Bool.true_or, Bool.or_true, Bool.false_or, Bool.or_false])
          · -- False
            refine AOps.k 58 rfl rfl rfl ?_
            refine AOps.s 59 rfl rfl rfl (q_pick_false false rfl rfl rfl rfl) ?_
            refine AOps.s 6 rfl rfl rfl (q_move (.inr rfl) rfl) ?_
            refine AOps.nil ?_
            refine AGo.ret ?_
            first
            | exact absurd (show (b.fin == 2) = true from ‹_›) (by rw [show (b.fin == 2) = false from ‹_›]; decide)
            | (refine ⟨[_], ⟨rfl, trivial⟩, ?_, rfl⟩
               show AV.bool _ = AV.bool _
               congr 1
               simp only [leadsB, leadsTo, leadsEl, *, cond_true, cond_false, Bool.not_true, Bool.not_false, Bool.true_and, Bool.false_and, Bool.and_true, Bool.and_false, Bool.true_or, Bool.or_true, Bool.false_or, Bool.or_false])
      · -- False
        refine AOps.s 37 rfl rfl rfl (q_fieldAddr tok rfl rfl rfl rfl rfl rfl) ?_
        refine AOps.s 38 rfl rfl rfl (q_load tok rfl rfl rfl (by first | exact .loc _ | exact .ptr _ _ _ _ _ _ _ _ rfl rfl rfl) rfl) ?_
        refine AOps.s 39 rfl rfl rfl (q_bin rfl rfl rfl rfl) ?_
        refine AOps.s 40 rfl rfl rfl (q_pick_false false rfl rfl rfl rfl) ?_
        refine AOps.nil ?_
        refine AGo.split 40 rfl (fun hb7 => ?_) (fun hb7 => ?_)
        · -- True
          refine AGo.cond_true true rfl rfl ?_
          refine AGo.region ?_
          refine AOps.s 41 rfl rfl rfl (q_move (.inl rfl) rfl) ?_
          refine AOps.s 42 rfl rfl rfl (q_fieldAddr tok rfl rfl rfl rfl rfl rfl) ?_
          refine AOps.s 43 rfl rfl rfl (q_load tok rfl rfl rfl (by first | exact .loc _ | exact .ptr _ _ _ _ _ _ _ _ rfl rfl rfl) rfl) ?_
          refine AOps.s 44 rfl rfl rfl (q_fieldAddr tok rfl rfl rfl rfl rfl rfl) ?_
          refine AOps.s 45 rfl rfl rfl (q_load tok rfl rfl rfl (by first | exact .loc _ | exact .ptr _ _ _ _ _ _ _ _ rfl rfl rfl) rfl) ?_
          refine AOps.x 46 rfl rfl rfl (o_callF (hc := (hput hNew 2 (.row false 1 [[pathsAV paths]]))) (hw := (hput hNone 2 (.row false 1 [[pathsAV paths]]))) [2] [(2, (.row false 1 [[pathsAV paths]]))] rfl rfl Try.func45 (by kernel_rfl) rfl rfl rfl ⟨⟨_, rfl, rfl⟩, trivial⟩ rfl (hres_cons rfl (hres_nil _)) ⟨⟨_, rfl, rfl, rfl⟩, trivial⟩ rfl (begins_ok paths b.to last.to hpn)) ?_
          refine AOps.s 8 rfl rfl rfl (q_move (.inr rfl) rfl) ?_
          refine AOps.nil ?_
          refine AGo.seq ?_
          refine AGo.seq ?_
          refine AGo.region ?_
          refine AOps.s 47 rfl rfl rfl (q_fieldAddr tok rfl rfl rfl rfl rfl rfl) ?_
          refine AOps.s 48 rfl rfl rfl (q_load tok rfl rfl rfl (by first | exact .loc _ | exact .ptr _ _ _ _ _ _ _ _ rfl rfl rfl) rfl) ?_
          refine AOps.s 49 rfl rfl rfl (q_bin rfl rfl rfl rfl) ?_
          refine AOps.nil ?_
          refine AGo.split 49 rfl (fun hb8 => ?_) (fun hb8 => ?_)
          · -- True
            refine AGo.cond_true true rfl rfl ?_
            refine AGo.region ?_
            refine AOps.s 50 rfl rfl rfl (q_move (.inl rfl) rfl) ?_
            refine AOps.s 51 rfl rfl rfl (q_fieldAddr tok rfl rfl rfl rfl rfl rfl) ?_
            refine AOps.s 52 rfl rfl rfl (q_load tok rfl rfl rfl (by first | exact .loc _ | exact .ptr _ _ _ _ _ _ _ _ rfl rfl rfl) rfl) ?_
            refine AOps.s 53 rfl rfl rfl (q_fieldAddr tok rfl rfl rfl rfl rfl rfl) ?_
            refine AOps.s 54 rfl rfl rfl (q_load tok rfl rfl rfl (by first | exact .loc _ | exact .ptr _ _ _ _ _ _ _ _ rfl rfl rfl) rfl) ?_
            refine AOps.x 55 rfl rfl rfl (o_callF (hc := (hput hNew 2 (.row false 1 [[pathsAV paths]]))) (hw := (hput hNone 2 (.row false 1 [[pathsAV paths]]))) [2] [(2, (.row false 1 [[pathsAV paths]]))] rfl rfl Try.func45 (by kernel_rfl) rfl rfl rfl ⟨⟨_, rfl, rfl⟩, trivial⟩ rfl (hres_cons rfl (hres_nil _)) ⟨⟨_, rfl, rfl, rfl⟩, trivial⟩ rfl (begins_ok paths b.els last.els hpn)) ?_
            refine AOps.s 9 rfl rfl rfl (q_move (.inr rfl) rfl) ?_
            refine AOps.nil ?_
            refine AGo.seq ?_
            refine AGo.region ?_
            refine AOps.s 56 rfl rfl rfl (q_move (.inl rfl) rfl) ?_
            refine AOps.s 57 rfl rfl rfl (q_move (.inl rfl) rfl) ?_
            refine AOps.split 57 rfl (fun hb9 => ?_) (fun hb9 => ?_)
            · -- True
              refine AOps.s 58 rfl rfl rfl (q_move (.inl rfl) rfl) ?_
              refine AOps.s 59 rfl rfl rfl (q_pick_true true rfl rfl rfl rfl) ?_
              refine AOps.s 6 rfl rfl rfl (q_move (.inr rfl) rfl) ?_
              refine AOps.nil ?_
              refine AGo.ret ?_
              first
              | exact absurd (show (b.fin == 2) = true from ‹_›) (by rw [show (b.fin == 2) = false from ‹_›]; decide)
              | (refine ⟨[_], ⟨rfl, trivial⟩, ?_, rfl⟩
                 show AV.bool _ = AV.bool _
                 congr 1
                 simp only [leadsB, leadsTo, leadsEl, *, cond_true, cond_false, Bool.not_true, Bool.not_false, Bool.true_and, Bool.false_and, Bool.and_true, Bool.and_false, Bool.true_or, Bool.or_true, Bool.false_or, Bool.or_false])
            · -- False
              refine AOps.k 58 rfl rfl rfl ?_
              refine AOps.s 59 rfl rfl rfl (q_pick_false false rfl rfl rfl rfl) ?_
              refine AOps.s 6 rfl rfl rfl (q_move (.inr rfl) rfl) ?_
              refine AOps.nil ?_
              refine AGo.ret ?_
              first
              | exact absurd (show (b.fin == 2) = true from ‹_›) (by rw [show (b.fin == 2) = false from ‹_›]; decide)
              | (refine ⟨[_], ⟨rfl, trivial⟩, ?_, rfl⟩
                 show AV.bool _ = AV.bool _
                 congr 1
                 simp only [leadsB, leadsTo, leadsEl, *, cond_true, cond_false, Bool.not_true, Bool.not_false, Bool.true_and, Bool.false_and, Bool.and_true, Bool.and_false, Bool.true_or, Bool.or_true, Bool.false_or, Bool.or_false])
          · -- False
            refine AGo.cond_false false rfl rfl ?_
            refine AGo.skip ?_
            refine AGo.seq ?_
            refine AGo.region ?_
            refine AOps.s 56 rfl rfl rfl (q_move (.inl rfl) rfl) ?_
            refine AOps.s 57 rfl rfl rfl (q_move (.inl rfl) rfl) ?_
            refine AOps.split 57 rfl (fun hb10 => ?_) (fun hb10 => ?_)
            · -- True
              refine AOps.s 58 rfl rfl rfl (q_move (.inl rfl) rfl) ?_
              refine AOps.s 59 rfl rfl rfl (q_pick_true true rfl rfl rfl rfl) ?_
              refine AOps.s 6 rfl rfl rfl (q_move (.inr rfl) rfl) ?_
              refine AOps.nil ?_
              refine AGo.ret ?_
              first
              | exact absurd (show (b.fin == 2) = true from ‹_›) (by rw [show (b.fin == 2) = false from ‹_›]; decide)
              | (refine ⟨[_], ⟨rfl, trivial⟩, ?_, rfl⟩
                 show AV.bool _ = AV.bool _
                 congr 1
                 simp only [leadsB, leadsTo, leadsEl, *, cond_true, cond_false, Bool.not_true, Bool.not_false, Bool.true_and, Bool.false_and, Bool.and_true, Bool.and_false, Bool.true_or, Bool.or_true, Bool.false_or, Bool.or_false])
            · -- False
              refine AOps.k 58 rfl rfl rfl ?_
              refine AOps.s 59 rfl rfl rfl (q_pick_false false rfl rfl rfl rfl) ?_
              refine AOps.s 6 rfl rfl rfl (q_move (.inr rfl) rfl) ?_
              refine AOps.nil ?_
              refine AGo.ret ?_
              first
              | exact absurd (show (b.fin == 2) = true from ‹_›) (by rw [show (b.fin == 2) = false from ‹_›]; decide)
              | (refine ⟨[_], ⟨rfl, trivial⟩, ?_, rfl⟩
                 show AV.bool _ = AV.bool _
                 congr 1
                 simp only [leadsB, leadsTo, leadsEl, *, cond_true, cond_false, Bool.not_true, Bool.not_false, Bool.true_and, Bool.false_and, Bool.and_true, Bool.and_false, Bool.true_or, Bool.or_true, Bool.false_or, Bool.or_false])
        · -- False
          refine AGo.cond_false false rfl rfl ?_
          refine AGo.skip ?_
          refine AGo.seq ?_
          refine AGo.seq ?_
          refine AGo.region ?_
          refine AOps.s 47 rfl rfl rfl (q_fieldAddr tok rfl rfl rfl rfl rfl rfl) ?_
          refine AOps.s 48 rfl rfl rfl (q_load tok rfl rfl rfl (by first | exact .loc _ | exact .ptr _ _ _ _ _ _ _ _ rfl rfl rfl) rfl) ?_
          refine AOps.s 49 rfl rfl rfl (q_bin rfl rfl rfl rfl) ?_
          refine AOps.nil ?_
          refine AGo.split 49 rfl (fun hb11 => ?_) (fun hb11 => ?_)
          · -- True
            refine AGo.cond_true true rfl rfl ?_
            refine AGo.region ?_
            refine AOps.s 50 rfl rfl rfl (q_move (.inl rfl) rfl) ?_
            refine AOps.s 51 rfl rfl rfl (q_fieldAddr tok rfl rfl rfl rfl rfl rfl) ?_
            refine AOps.s 52 rfl rfl rfl (q_load tok rfl rfl rfl (by first | exact .loc _ | exact .ptr _ _ _ _ _ _ _ _ rfl rfl rfl) rfl) ?_
            refine AOps.s 53 rfl rfl rfl (q_fieldAddr tok rfl rfl rfl rfl rfl rfl) ?_
            refine AOps.s 54 rfl rfl rfl (q_load tok rfl rfl rfl (by first | exact .loc _ | exact .ptr _ _ _ _ _ _ _ _ rfl rfl rfl) rfl) ?_
            refine AOps.x 55 rfl rfl rfl (o_callF (hc := (hput hNew 2 (.row false 1 [[pathsAV paths]]))) (hw := (hput hNone 2 (.row false 1 [[pathsAV paths]]))) [2] [(2, (.row false 1 [[pathsAV paths]]))] rfl rfl Try.func45 (by kernel_rfl) rfl rfl rfl ⟨⟨_, rfl, rfl⟩, trivial⟩ rfl (hres_cons rfl (hres_nil _)) ⟨⟨_, rfl, rfl, rfl⟩, trivial⟩ rfl (begins_ok paths b.els last.els hpn)) ?_
            refine AOps.s 9 rfl rfl rfl (q_move (.inr rfl) rfl) ?_
            refine AOps.nil ?_
            refine AGo.seq ?_
            refine AGo.region ?_
            refine AOps.s 56 rfl rfl rfl (q_move (.inl rfl) rfl) ?_
            refine AOps.s 57 rfl rfl rfl (q_move (.inl rfl) rfl) ?_
            refine AOps.split 57 rfl (fun hb12 => ?_) (fun hb12 => ?_)
            · -- True
              refine AOps.s 58 rfl rfl rfl (q_move (.inl rfl) rfl) ?_
              refine AOps.s 59 rfl rfl rfl (q_pick_true true rfl rfl rfl rfl) ?_
              refine AOps.s 6 rfl rfl rfl (q_move (.inr rfl) rfl) ?_
              refine AOps.nil ?_
              refine AGo.ret ?_
              first
              | exact absurd (show (b.fin == 2) = true from ‹_›) (by rw [show (b.fin == 2) = false from ‹_›]; decide)
              | (refine ⟨[_], ⟨rfl, trivial⟩, ?_, rfl⟩
                 show AV.bool _ = AV.bool _
                 congr 1
                 simp only [leadsB, leadsTo, leadsEl, *, cond_true, cond_false, Bool.not_true, Bool.not_false, Bool.true_and, Bool.false_and, Bool.and_true, Bool.and_false, Bool.true_or, Bool.or_true, Bool.false_or, Bool.or_false])
            · -- False
              refine AOps.k 58 rfl rfl rfl ?_
              refine AOps.s 59 rfl rfl rfl (q_pick_false false rfl rfl rfl rfl) ?_
              refine AOps.s 6 rfl rfl rfl (q_move (.inr rfl) rfl) ?_
              refine AOps.nil ?_
              refine AGo.ret ?_
              first
              | exact absurd (show (b.fin == 2) = true from ‹_›) (by rw [show (b.fin == 2) = false from ‹_›]; decide)
              | (refine ⟨[_], ⟨rfl, trivial⟩, ?_, rfl⟩
                 show AV.bool _ = AV.bool _
                 congr 1
                 simp only [leadsB, leadsTo, leadsEl, *, cond_true, cond_false, Bool.not_true, Bool.not_false, Bool.true_and, Bool.false_and, Bool.and_true, Bool.and_false, Bool.true_or, Bool.or_true, Bool.false_or, Bool.or_false])
          · -- False
            refine AGo.cond_false false rfl rfl ?_
            refine AGo.skip ?_
            refine AGo.seq ?_
            refine AGo.region ?_
            refine AOps.s 56 rfl rfl rfl (q_move (.inl rfl) rfl) ?_
            refine AOps.s 57 rfl rfl rfl (q_move (.inl rfl) rfl) ?_
            refine AOps.split 57 rfl (fun hb13 => ?_) (fun hb13 => ?_)
            · -- True
              refine AOps.s 58 rfl rfl rfl (q_move (.inl rfl) rfl) ?_
              refine AOps.s 59 rfl rfl rfl (q_pick_true true rfl rfl rfl rfl) ?_
              refine AOps.s 6 rfl rfl rfl (q_move (.inr rfl) rfl) ?_
              refine AOps.nil ?_
              refine AGo.ret ?_
              first
              | exact absurd (show (b.fin == 2) = true from ‹_›) (by rw [show (b.fin == 2) = false from ‹_›]; decide)
              | (refine ⟨[_], ⟨rfl, trivial⟩, ?_, rfl⟩
                 show AV.bool _ = AV.bool _
                 congr 1
                 simp only [leadsB, leadsTo, leadsEl, *, cond_true, cond_false, Bool.not_true, Bool.not_false, Bool.true_and, Bool.false_and, Bool.and_true, Bool.and_false, Bool.true_or, Bool.or_true, Bool.false_or, Bool.or_false])
            · -- False
              refine AOps.k 58 rfl rfl rfl ?_
              refine AOps.s 59 rfl rfl rfl (q_pick_false false rfl rfl rfl rfl) ?_
              refine AOps.s 6 rfl rfl rfl (q_move (.inr rfl) rfl) ?_
              refine AOps.nil ?_
              refine AGo.ret ?_
              first
              | exact absurd (show (b.fin == 2) = true from ‹_›) (by rw [show (b.fin == 2) = false from ‹_›]; decide)
              | (refine ⟨[_], ⟨rfl, trivial⟩, ?_, rfl⟩
                 show AV.bool _ = AV.bool _
                 congr 1
                 simp only [leadsB, leadsTo, leadsEl, *, cond_true, cond_false, Bool.not_true, Bool.not_false, Bool.true_and, Bool.false_and, Bool.and_true, Bool.and_false, Bool.true_or, Bool.or_true, Bool.false_or, Bool.or_false])

set_option maxRecDepth 100000 in
theorem check_ok (old new : BFunc) (paths : List (List Int)) (hnl : ∀ x ∈ new.blocks, x.ins.length ≤ 1000000000) (hpl : paths.length ≤ 100000) (hps : ∀ p ∈ paths, p.length ≤ 100000) : APure Try.prog 17 [.agg old.cells, .agg new.cells, pathsAV paths] (fun r => r = .bool (checkB old new paths)) := by
  refine APure.of_body (n := 104) tok Try.func17 rfl rfl ?_
  refine AGo.seq ?_
  refine AGo.region ?_
  refine AOps.x 3 rfl rfl rfl (o_box (sz := 2) 0 rfl rfl rfl rfl (Nat.zero_lt_succ _) rfl) ?_
  refine AOps.x 4 rfl rfl rfl (o_box (sz := 2) 1 rfl rfl rfl rfl (Nat.zero_lt_succ _) rfl) ?_
  refine AOps.s 6 rfl rfl rfl (q_move (.inr rfl) rfl) ?_
  refine AOps.nil ?_
  refine AGo.seq ?_
  refine AGo.seq ?_
  refine AGo.region ?_
  refine AOps.s 13 rfl rfl rfl (q_move (.inl rfl) rfl) ?_
  refine AOps.s 14 rfl rfl rfl (q_len tok rfl rfl rfl rfl rfl) ?_
  refine AOps.s 15 rfl rfl rfl (q_bin rfl rfl rfl rfl) ?_
  refine AOps.s 16 rfl rfl rfl (q_move (.inl rfl) rfl) ?_
  refine AOps.split 16 rfl (fun hb1 => ?_) (fun hb1 => ?_)
  · -- True
    refine AOps.k 17 rfl rfl rfl ?_
    refine AOps.k 18 rfl rfl rfl ?_
    refine AOps.k 19 rfl rfl rfl ?_
    refine AOps.k 20 rfl rfl rfl ?_
    refine AOps.k 21 rfl rfl rfl ?_
    refine AOps.k 22 rfl rfl rfl ?_
    refine AOps.s 23 rfl rfl rfl (q_pick_true true rfl rfl rfl rfl) ?_
    refine AOps.s 24 rfl rfl rfl (q_move (.inl rfl) rfl) ?_
    refine AOps.k 25 rfl rfl rfl ?_
    refine AOps.k 26 rfl rfl rfl ?_
    refine AOps.k 27 rfl rfl rfl ?_
    refine AOps.k 28 rfl rfl rfl ?_
    refine AOps.k 29 rfl rfl rfl ?_
    refine AOps.s 30 rfl rfl rfl (q_pick_true true rfl rfl rfl rfl) ?_
    refine AOps.nil ?_
    refine AGo.cond_true true rfl rfl ?_
    refine AGo.seq ?_
    refine AGo.region ?_
    refine AOps.s 6 rfl rfl rfl (q_move (.inr rfl) rfl) ?_
    refine AOps.nil ?_
    refine AGo.ret ?_
    refine ⟨[_], ⟨rfl, trivial⟩, ?_, rfl⟩
    show AV.bool _ = AV.bool _
    congr 1
    refine (check_bad1 (fun h => ?_)).symm
    obtain ⟨q1, q2, q3⟩ := h
    simp_all [pathsAV, blocksAV]
  · -- False
    refine AOps.s 17 rfl rfl rfl (q_move (.inl rfl) rfl) ?_
    refine AOps.s 18 rfl rfl rfl (q_len tok rfl rfl rfl rfl rfl) ?_
    refine AOps.s 19 rfl rfl rfl (q_fieldAddr tok rfl rfl rfl rfl rfl rfl) ?_
    refine AOps.s 20 rfl rfl rfl (q_load tok rfl rfl rfl (by first | exact .loc _ | exact .ptr _ _ _ _ _ _ _ _ rfl rfl rfl) rfl) ?_
    refine AOps.s 21 rfl rfl rfl (q_len tok rfl rfl rfl rfl rfl) ?_
    refine AOps.s 22 rfl rfl rfl (q_bin rfl rfl rfl rfl) ?_
    refine AOps.s 23 rfl rfl rfl (q_pick_false false rfl rfl rfl rfl) ?_
    refine AOps.s 24 rfl rfl rfl (q_move (.inl rfl) rfl) ?_
    refine AOps.split 24 rfl (fun hb2 => ?_) (fun hb2 => ?_)
    · -- True
      refine AOps.k 25 rfl rfl rfl ?_
      refine AOps.k 26 rfl rfl rfl ?_
      refine AOps.k 27 rfl rfl rfl ?_
      refine AOps.k 28 rfl rfl rfl ?_
      refine AOps.k 29 rfl rfl rfl ?_
      refine AOps.s 30 rfl rfl rfl (q_pick_true true rfl rfl rfl rfl) ?_
      refine AOps.nil ?_
      refine AGo.cond_true true rfl rfl ?_
      refine AGo.seq ?_
      refine AGo.region ?_
      refine AOps.s 6 rfl rfl rfl (q_move (.inr rfl) rfl) ?_
      refine AOps.nil ?_
      refine AGo.ret ?_
      refine ⟨[_], ⟨rfl, trivial⟩, ?_, rfl⟩
      show AV.bool _ = AV.bool _
      congr 1
      refine (check_bad1 (fun h => ?_)).symm
      obtain ⟨q1, q2, q3⟩ := h
      simp_all [pathsAV, blocksAV]
    · -- False
      refine AOps.s 25 rfl rfl rfl (q_fieldAddr tok rfl rfl rfl rfl rfl rfl) ?_
      refine AOps.s 26 rfl rfl rfl (q_load tok rfl rfl rfl (by first | exact .loc _ | exact .ptr _ _ _ _ _ _ _ _ rfl rfl rfl) rfl) ?_
      refine AOps.s 27 rfl rfl rfl (q_fieldAddr tok rfl rfl rfl rfl rfl rfl) ?_
      refine AOps.s 28 rfl rfl rfl (q_load tok rfl rfl rfl (by first | exact .loc _ | exact .ptr _ _ _ _ _ _ _ _ rfl rfl rfl) rfl) ?_
      refine AOps.s 29 rfl rfl rfl (q_bin rfl rfl rfl rfl) ?_
      refine AOps.s 30 rfl rfl rfl (q_pick_false false rfl rfl rfl rfl) ?_
      refine AOps.nil ?_
      refine AGo.split 30 rfl (fun hb3 => ?_) (fun hb3 => ?_)
      · -- True
        refine AGo.cond_true true rfl rfl ?_
        refine AGo.seq ?_
        refine AGo.region ?_
        refine AOps.s 6 rfl rfl rfl (q_move (.inr rfl) rfl) ?_
        refine AOps.nil ?_
        refine AGo.ret ?_
        refine ⟨[_], ⟨rfl, trivial⟩, ?_, rfl⟩
        show AV.bool _ = AV.bool _
        congr 1
        refine (check_bad1 (fun h => ?_)).symm
        obtain ⟨q1, q2, q3⟩ := h
        simp_all [pathsAV, blocksAV]
      · -- False
        refine AGo.cond_false false rfl rfl ?_
        have h0 : paths.length ≠ 0 ∧ paths.length = new.blocks.length ∧ old.regs = new.regs := by simp_all [pathsAV, blocksAV] <;> omega
        refine AGo.skip ?_
        refine AGo.seq ?_
        refine AGo.seq ?_
        refine AGo.region ?_
        refine AOps.s 31 rfl rfl rfl (q_move (.inl rfl) rfl) ?_
        refine AOps.s 32 rfl rfl rfl (q_len tok rfl rfl rfl rfl rfl) ?_
        refine AOps.s 33 rfl rfl rfl (q_move (.inl rfl) rfl) ?_
        refine AOps.nil ?_
        refine AGo.block ?_
        refine AGo.loopD (γ := Nat) 2 (fun k => ⟨104, (eput (eput (eput (eput (eput (eput eNew 2 (pathsAV paths)) 3 (.ptr 0 1 0 0)) 4 (.ptr 1 1 0 0)) 31 (pathsAV paths)) 32 (.int .i64 (paths.length : Int))) 33 (.int .i64 (k : Int))), (hput (hput (hFrom 2) 0 (.row false 2 [old.cells])) 1 (.row false 2 [new.cells]))⟩) (fun k => (paths.take k).all (pathIn old.blocks.length) = true) (fun k => paths.length - k) 0 (Sub.mk' (by repeat (first | exact ESub.new _ | refine ESub.put ?_ (by first | rfl | exact congrArg (fun (n : Nat) => some (AV.int .i64 (n : Int))) (by simp)))) (by repeat (first | exact HSub.none _ | exact HSub.from_new _ | exact HSub.from_from (by decide) | refine HSub.put ?_ (by rfl) | refine HSub.from_put ?_ (by decide) | refine HSub.from_rm ?_ (by decide)))) rfl (fun _ => hput_free (hput_free (fun b hb => hFrom_free hb) rfl) rfl) ?_
        intro k hF
        refine AGo.seq ?_
        refine AGo.region ?_
        refine AOps.s 34 rfl rfl rfl (q_bin rfl rfl rfl rfl) ?_
        refine AOps.nil ?_
        refine AGo.seq ?_
        refine AGo.split 34 rfl (fun hb4 => ?_) (fun hb4 => ?_)
        · -- True
          refine AGo.cond_true true rfl rfl ?_
          have hkl : k < paths.length := by simpa using hb4
          obtain ⟨p, hp⟩ := get_of_lt hkl
          have hpp := hps p (List.mem_of_getElem? hp)
          refine AGo.skip ?_
          refine AGo.seq ?_
          refine AGo.block ?_
          refine AGo.seq ?_
          refine AGo.region ?_
          refine AOps.s 35 rfl rfl rfl (q_index_lst tok rfl rfl rfl rfl rfl rfl (Int.natCast_nonneg _) (idx_map hp) rfl) ?_
          refine AOps.s 36 rfl rfl rfl (q_load tok rfl rfl rfl (by first | exact .loc _ | exact .ptr _ _ _ _ _ _ _ _ rfl rfl rfl) rfl) ?_
          refine AOps.s 8 rfl rfl rfl (q_move (.inr rfl) rfl) ?_
          refine AOps.nil ?_
          refine AGo.seq ?_
          refine AGo.seq ?_
          refine AGo.region ?_
          refine AOps.s 37 rfl rfl rfl (q_move (.inl rfl) rfl) ?_
          refine AOps.s 38 rfl rfl rfl (q_len tok rfl rfl rfl rfl rfl) ?_
          refine AOps.s 39 rfl rfl rfl (q_bin rfl rfl rfl rfl) ?_
          refine AOps.nil ?_
          refine AGo.split 39 rfl (fun hb5 => ?_) (fun hb5 => ?_)
          · -- True
            refine AGo.cond_true true rfl rfl ?_
            have hpe : (p.length == 0) = true := by have h := hb5; simp at h; simp [h]
            refine AGo.seq ?_
            refine AGo.region ?_
            refine AOps.s 6 rfl rfl rfl (q_move (.inr rfl) rfl) ?_
            refine AOps.nil ?_
            refine AGo.ret ?_
            refine ⟨[_], ⟨rfl, trivial⟩, ?_, rfl⟩
            show AV.bool _ = AV.bool _
            congr 1
            exact (check_bad2 (all_bad hp (by simp [pathIn, hpe]))).symm
          · -- False
            refine AGo.cond_false false rfl rfl ?_
            have hpe : (p.length == 0) = false := by have h := hb5; simp at h; simp [h]
            refine AGo.skip ?_
            refine AGo.seq ?_
            refine AGo.region ?_
            refine AOps.s 40 rfl rfl rfl (q_move (.inl rfl) rfl) ?_
            refine AOps.s 41 rfl rfl rfl (q_len tok rfl rfl rfl rfl rfl) ?_
            refine AOps.s 42 rfl rfl rfl (q_move (.inl rfl) rfl) ?_
            refine AOps.nil ?_
            refine AGo.block ?_
            refine AGo.loopD (γ := Nat) 2 (fun j => ⟨104, (eput (eput (eput (eput (eput (eput (eput (eput (eput (eput eNew 2 (pathsAV paths)) 3 (.ptr 0 1 0 0)) 4 (.ptr 1 1 0 0)) 31 (pathsAV paths)) 32 (.int .i64 (paths.length : Int))) 33 (.int .i64 (k : Int))) 8 (intsAV p)) 40 (intsAV p)) 41 (.int .i64 (p.length : Int))) 42 (.int .i64 (j : Int))), (hput (hput (hFrom 2) 0 (.row false 2 [old.cells])) 1 (.row false 2 [new.cells]))⟩) (fun j => (p.take j).all (fun i => !(decide (i < 0)) && !(decide (i ≥ (old.blocks.length : Int)))) = true) (fun j => p.length - j) 0 (Sub.mk' (by repeat (first | exact ESub.new _ | refine ESub.put ?_ (by first | rfl | exact congrArg (fun (n : Nat) => some (AV.int .i64 (n : Int))) (by simp)))) (by repeat (first | exact HSub.none _ | exact HSub.from_new _ | exact HSub.from_from (by decide) | refine HSub.put ?_ (by rfl) | refine HSub.from_put ?_ (by decide) | refine HSub.from_rm ?_ (by decide)))) rfl (fun _ => hput_free (hput_free (fun b hb => hFrom_free hb) rfl) rfl) ?_
            intro j hG
            refine AGo.seq ?_
            refine AGo.region ?_
            refine AOps.s 43 rfl rfl rfl (q_bin rfl rfl rfl rfl) ?_
            refine AOps.nil ?_
            refine AGo.seq ?_
            refine AGo.split 43 rfl (fun hb6 => ?_) (fun hb6 => ?_)
            · -- True
              refine AGo.cond_true true rfl rfl ?_
              have hjl : j < p.length := by simpa using hb6
              obtain ⟨y, hy⟩ := get_of_lt hjl
              refine AGo.skip ?_
              refine AGo.seq ?_
              refine AGo.block ?_
              refine AGo.seq ?_
              refine AGo.region ?_
              refine AOps.s 44 rfl rfl rfl (q_index_lst tok rfl rfl rfl rfl rfl rfl (Int.natCast_nonneg _) (idx_map hy) rfl) ?_
              refine AOps.s 45 rfl rfl rfl (q_load tok rfl rfl rfl (by first | exact .loc _ | exact .ptr _ _ _ _ _ _ _ _ rfl rfl rfl) rfl) ?_
              refine AOps.s 10 rfl rfl rfl (q_move (.inr rfl) rfl) ?_
              refine AOps.nil ?_
              refine AGo.seq ?_
              refine AGo.region ?_
              refine AOps.s 46 rfl rfl rfl (q_move (.inl rfl) rfl) ?_
              refine AOps.s 47 rfl rfl rfl (q_bin rfl rfl rfl rfl) ?_
              refine AOps.s 48 rfl rfl rfl (q_move (.inl rfl) rfl) ?_
              refine AOps.split 48 rfl (fun hb7 => ?_) (fun hb7 => ?_)
              · -- True
                refine AOps.k 49 rfl rfl rfl ?_
                refine AOps.k 50 rfl rfl rfl ?_
                refine AOps.k 51 rfl rfl rfl ?_
                refine AOps.k 52 rfl rfl rfl ?_
                refine AOps.k 53 rfl rfl rfl ?_
                refine AOps.s 54 rfl rfl rfl (q_pick_true true rfl rfl rfl rfl) ?_
                refine AOps.nil ?_
                refine AGo.cond_true true rfl rfl ?_
                refine AGo.seq ?_
                refine AGo.region ?_
                refine AOps.s 6 rfl rfl rfl (q_move (.inr rfl) rfl) ?_
                refine AOps.nil ?_
                refine AGo.ret ?_
                refine ⟨[_], ⟨rfl, trivial⟩, ?_, rfl⟩
                show AV.bool _ = AV.bool _
                congr 1
                exact (check_bad2 (all_bad hp (by simp only [pathIn]; rw [all_bad (p := (fun i => !(decide (i < 0)) && !(decide (i ≥ (old.blocks.length : Int))))) hy (by simp_all [blocksAV])]; simp))).symm
              · -- False
                refine AOps.s 49 rfl rfl rfl (q_move (.inl rfl) rfl) ?_
                refine AOps.s 50 rfl rfl rfl (q_fieldAddr tok rfl rfl rfl rfl rfl rfl) ?_
                refine AOps.s 51 rfl rfl rfl (q_load tok rfl rfl rfl (by first | exact .loc _ | exact .ptr _ _ _ _ _ _ _ _ rfl rfl rfl) rfl) ?_
                refine AOps.s 52 rfl rfl rfl (q_len tok rfl rfl rfl rfl rfl) ?_
                refine AOps.s 53 rfl rfl rfl (q_bin rfl rfl rfl rfl) ?_
                refine AOps.s 54 rfl rfl rfl (q_pick_false false rfl rfl rfl rfl) ?_
                refine AOps.nil ?_
                refine AGo.split 54 rfl (fun hb8 => ?_) (fun hb8 => ?_)
                · -- True
                  refine AGo.cond_true true rfl rfl ?_
                  refine AGo.seq ?_
                  refine AGo.region ?_
                  refine AOps.s 6 rfl rfl rfl (q_move (.inr rfl) rfl) ?_
                  refine AOps.nil ?_
                  refine AGo.ret ?_
                  refine ⟨[_], ⟨rfl, trivial⟩, ?_, rfl⟩
                  show AV.bool _ = AV.bool _
                  congr 1
                  exact (check_bad2 (all_bad hp (by simp only [pathIn]; rw [all_bad (p := (fun i => !(decide (i < 0)) && !(decide (i ≥ (old.blocks.length : Int))))) hy (by simp_all [blocksAV])]; simp))).symm
                · -- False
                  refine AGo.cond_false false rfl rfl ?_
                  refine AGo.skip ?_
                  refine AGo.region ?_
                  refine AOps.s 55 rfl rfl rfl (q_inc rfl rfl hjl (by simp only [maxLen]; omega)) ?_
                  refine AOps.s 42 rfl rfl rfl (q_move (.inl rfl) rfl) ?_
                  refine AOps.nil ?_
                  exact ⟨j+1, Drop.mk' (by repeat (first | exact EDrop.new _ _ | refine EDrop.put ?_ (by rfl) rfl)) (by repeat (first | exact HDrop.none _ _ | exact HDrop.tail _ _ | refine HDrop.put ?_ (by rfl) rfl rfl)), (all_succ hy hG (by simp_all [blocksAV])), by omega⟩
            · -- False
              refine AGo.cond_false false rfl rfl ?_
              have hge2 : p.length ≤ j := by simpa using hb6
              refine AGo.exit ?_
              refine AGo.region ?_
              refine AOps.s 56 rfl rfl rfl (q_inc rfl rfl hkl (by simp only [maxLen]; omega)) ?_
              refine AOps.s 33 rfl rfl rfl (q_move (.inl rfl) rfl) ?_
              refine AOps.nil ?_
              exact ⟨k+1, Drop.mk' (by repeat (first | exact EDrop.new _ _ | refine EDrop.put ?_ (by rfl) rfl)) (by repeat (first | exact HDrop.none _ _ | exact HDrop.tail _ _ | refine HDrop.put ?_ (by rfl) rfl rfl)), (all_succ hp hF (by simp only [pathIn, hpe, Bool.not_false, Bool.true_and]; exact all_end hG hge2)), by omega⟩
        · -- False
          refine AGo.cond_false false rfl rfl ?_
          have hge : paths.length ≤ k := by simpa using hb4
          have hall := all_end hF hge
          have hp00 := pathK_get (paths := paths) (k := 0) (by omega)
          have hp01 := headZ_get (pathIn_inF (List.all_eq_true.1 hall _ (List.mem_of_getElem? hp00))).1
          refine AGo.exit ?_
          refine AGo.seq ?_
          refine AGo.seq ?_
          refine AGo.region ?_
          refine AOps.s 57 rfl rfl rfl (q_move (.inl rfl) rfl) ?_
          refine AOps.s 58 rfl rfl rfl (q_index_lst tok rfl rfl rfl rfl rfl rfl (by decide) (cs := pathCell (pathK paths 0)) (idx_mapZ hp00) rfl) ?_
          refine AOps.s 59 rfl rfl rfl (q_load tok rfl rfl rfl (by first | exact .loc _ | exact .ptr _ _ _ _ _ _ _ _ rfl rfl rfl) rfl) ?_
          refine AOps.s 60 rfl rfl rfl (q_index_lst tok rfl rfl rfl rfl rfl rfl (by decide) (cs := [.int .i64 (headZ (pathK paths 0))]) (by show (List.map (fun b => [AV.int .i64 b]) (pathK paths 0))[0]? = _; rw [List.getElem?_map, hp01]; rfl) rfl) ?_
          refine AOps.s 61 rfl rfl rfl (q_load tok rfl rfl rfl (by first | exact .loc _ | exact .ptr _ _ _ _ _ _ _ _ rfl rfl rfl) rfl) ?_
          refine AOps.s 62 rfl rfl rfl (q_bin rfl rfl rfl rfl) ?_
          refine AOps.nil ?_
          refine AGo.split 62 rfl (fun hb9 => ?_) (fun hb9 => ?_)
          · -- True
            refine AGo.cond_true true rfl rfl ?_
            have hz := hb9
            refine AGo.seq ?_
            refine AGo.region ?_
            refine AOps.s 6 rfl rfl rfl (q_move (.inr rfl) rfl) ?_
            refine AOps.nil ?_
            refine AGo.ret ?_
            refine ⟨[_], ⟨rfl, trivial⟩, ?_, rfl⟩
            show AV.bool _ = AV.bool _
            congr 1
            exact (check_bad3 hz).symm
          · -- False
            refine AGo.cond_false false rfl rfl ?_
            have hz := hb9
            refine AGo.skip ?_
            refine AGo.seq ?_
            refine AGo.seq ?_
            refine AGo.region ?_
            refine AOps.s 63 rfl rfl rfl (q_move (.inl rfl) rfl) ?_
            refine AOps.s 64 rfl rfl rfl (q_len tok rfl rfl rfl rfl rfl) ?_
            refine AOps.s 65 rfl rfl rfl (q_move (.inl rfl) rfl) ?_
            refine AOps.nil ?_
            refine AGo.block ?_
            refine AGo.loopD (γ := Nat) 2 (fun k => ⟨104, (eput (eput (eput (eput (eput (eput eNew 2 (pathsAV paths)) 3 (.ptr 0 1 0 0)) 4 (.ptr 1 1 0 0)) 63 (pathsAV paths)) 64 (.int .i64 (paths.length : Int))) 65 (.int .i64 (k : Int))), (hput (hput (hFrom 2) 0 (.row false 2 [old.cells])) 1 (.row false 2 [new.cells]))⟩) (fun k => (paths.zipIdx.take k).all (stepB old new paths) = true) (fun k => paths.length - k) 0 (Sub.mk' (by repeat (first | exact ESub.new _ | refine ESub.put ?_ (by first | rfl | exact congrArg (fun (n : Nat) => some (AV.int .i64 (n : Int))) (by simp)))) (by repeat (first | exact HSub.none _ | exact HSub.from_new _ | exact HSub.from_from (by decide) | refine HSub.put ?_ (by rfl) | refine HSub.from_put ?_ (by decide) | refine HSub.from_rm ?_ (by decide)))) rfl (fun _ => hput_free (hput_free (fun b hb => hFrom_free hb) rfl) rfl) ?_
            intro k hS
            refine AGo.seq ?_
            refine AGo.region ?_
            refine AOps.s 66 rfl rfl rfl (q_bin rfl rfl rfl rfl) ?_
            refine AOps.nil ?_
            refine AGo.seq ?_
            refine AGo.split 66 rfl (fun hb10 => ?_) (fun hb10 => ?_)
            · -- True
              refine AGo.cond_true true rfl rfl ?_
              have hkl : k < paths.length := by simpa using hb10
              obtain ⟨p, hp⟩ := get_of_lt hkl
              have hpp := hps p (List.mem_of_getElem? hp)
              have hpin := pathIn_inF (List.all_eq_true.1 hall p (List.mem_of_getElem? hp))
              have hnb : new.blocks[((k : Nat) : Int).toNat]? = some (new.blockAt k) := blockAt_get (by omega)
              have hlast := hpin.2 _ (last_mem hpin.1)
              refine AGo.skip ?_
              refine AGo.seq ?_
              refine AGo.block ?_
              refine AGo.seq ?_
              refine AGo.region ?_
              refine AOps.s 67 rfl rfl rfl (q_move (.inl rfl) rfl) ?_
              refine AOps.s 68 rfl rfl rfl (q_index_lst tok rfl rfl rfl rfl rfl rfl (Int.natCast_nonneg _) (idx_map hp) rfl) ?_
              refine AOps.s 69 rfl rfl rfl (q_load tok rfl rfl rfl (by first | exact .loc _ | exact .ptr _ _ _ _ _ _ _ _ rfl rfl rfl) rfl) ?_
              refine AOps.s 11 rfl rfl rfl (q_move (.inr rfl) rfl) ?_
              refine AOps.s 12 rfl rfl rfl (q_move (.inr rfl) rfl) ?_
              refine AOps.nil ?_
              refine AGo.seq ?_
              refine AGo.seq ?_
              refine AGo.draw mix ?_
              refine DOps.s 70 rfl rfl rfl (q_load tok rfl rfl rfl (by first | exact .loc _ | exact .ptr _ _ _ _ _ _ _ _ rfl rfl rfl) rfl) ?_
              refine DOps.s 71 rfl rfl rfl (q_move (.inl rfl) rfl) ?_
              refine DOps.x 72 rfl rfl rfl (o_pure rfl Try.func34 (by kernel_rfl) rfl rfl rfl (follows_ok old p hpin hpp)) ?_
              refine DOps.s 73 rfl rfl rfl (q_not rfl rfl) ?_
              refine DOps.s 74 rfl rfl rfl (q_move (.inl rfl) rfl) ?_
              refine DOps.split 74 rfl (fun hb11 => ?_) (fun hb11 => ?_)
              · -- True
                refine DOps.k 75 rfl rfl rfl ?_
                refine DOps.k 76 rfl rfl rfl ?_
                refine DOps.k 77 rfl rfl rfl ?_
                refine DOps.k 78 rfl rfl rfl ?_
                refine DOps.k 79 rfl rfl rfl ?_
                refine DOps.k 80 rfl rfl rfl ?_
                refine DOps.k 81 rfl rfl rfl ?_
                refine DOps.k 82 rfl rfl rfl ?_
                refine DOps.k 83 rfl rfl rfl ?_
                refine DOps.s 84 rfl rfl rfl (q_pick_true true rfl rfl rfl rfl) ?_
                refine DOps.nil (by kernel_rfl) ?_
                refine AGo.cond_true true rfl rfl ?_
                refine AGo.seq ?_
                refine AGo.region ?_
                refine AOps.s 6 rfl rfl rfl (q_move (.inr rfl) rfl) ?_
                refine AOps.nil ?_
                refine AGo.ret ?_
                refine ⟨[_], ⟨rfl, trivial⟩, ?_, rfl⟩
                show AV.bool _ = AV.bool _
                congr 1
                exact (check_bad4 (all_bad (zipIdx_get hp) (by simp_all [stepB]))).symm
              · -- False
                refine DOps.s 75 rfl rfl rfl (q_load tok rfl rfl rfl (by first | exact .loc _ | exact .ptr _ _ _ _ _ _ _ _ rfl rfl rfl) rfl) ?_
                refine DOps.s 76 rfl rfl rfl (q_fieldAddr tok rfl rfl rfl rfl rfl rfl) ?_
                refine DOps.s 77 rfl rfl rfl (q_load tok rfl rfl rfl (by first | exact .loc _ | exact .ptr _ _ _ _ _ _ _ _ rfl rfl rfl) rfl) ?_
                refine DOps.s 78 rfl rfl rfl (q_move (.inl rfl) rfl) ?_
                refine DOps.s 79 rfl rfl rfl (q_index_lst tok rfl rfl rfl rfl rfl rfl (Int.natCast_nonneg _) (cs := (new.blockAt k).cells) (idx_mapZ hnb) rfl) ?_
                refine DOps.s 80 rfl rfl rfl (q_load tok rfl rfl rfl (by first | exact .loc _ | exact .ptr _ _ _ _ _ _ _ _ rfl rfl rfl) rfl) ?_
                refine DOps.s 81 rfl rfl rfl (q_move (.inl rfl) rfl) ?_
                refine DOps.x 82 rfl rfl rfl (o_pure rfl Try.func35 (by kernel_rfl) rfl rfl rfl (made_ok old (new.blockAt k) p hpin hpp (hnl _ (List.mem_of_getElem? hnb)))) ?_
                refine DOps.s 83 rfl rfl rfl (q_not rfl rfl) ?_
                refine DOps.s 84 rfl rfl rfl (q_pick_false false rfl rfl rfl rfl) ?_
                refine DOps.nil (by kernel_rfl) ?_
                refine AGo.split 84 rfl (fun hb12 => ?_) (fun hb12 => ?_)
                · -- True
                  refine AGo.cond_true true rfl rfl ?_
                  refine AGo.seq ?_
                  refine AGo.region ?_
                  refine AOps.s 6 rfl rfl rfl (q_move (.inr rfl) rfl) ?_
                  refine AOps.nil ?_
                  refine AGo.ret ?_
                  refine ⟨[_], ⟨rfl, trivial⟩, ?_, rfl⟩
                  show AV.bool _ = AV.bool _
                  congr 1
                  exact (check_bad4 (all_bad (zipIdx_get hp) (by simp_all [stepB]))).symm
                · -- False
                  refine AGo.cond_false false rfl rfl ?_
                  refine AGo.skip ?_
                  refine AGo.seq ?_
                  refine AGo.draw mix ?_
                  refine DOps.s 85 rfl rfl rfl (q_fieldAddr tok rfl rfl rfl rfl rfl rfl) ?_
                  refine DOps.s 86 rfl rfl rfl (q_load tok rfl rfl rfl (by first | exact .loc _ | exact .ptr _ _ _ _ _ _ _ _ rfl rfl rfl) rfl) ?_
                  refine DOps.s 87 rfl rfl rfl (q_move (.inl rfl) rfl) ?_
                  refine DOps.s 88 rfl rfl rfl (q_move (.inl rfl) rfl) ?_
                  refine DOps.s 89 rfl rfl rfl (q_len tok rfl rfl rfl rfl rfl) ?_
                  refine DOps.s 90 rfl rfl rfl (q_bin (r := .int .i64 ((p.length - 1 : Nat) : Int)) rfl rfl rfl (by rw [List.length_map]; exact len_pred (List.length_pos_iff.2 hpin.1) (by omega))) ?_
                  refine DOps.s 91 rfl rfl rfl (q_index_lst tok rfl rfl rfl rfl rfl rfl (Int.natCast_nonneg _) (cs := [.int .i64 (lastOf p)]) (by show (List.map (fun b => [AV.int .i64 b]) p)[_]? = _; rw [Int.toNat_natCast, List.getElem?_map, last_get hpin.1]; rfl) rfl) ?_
                  refine DOps.s 92 rfl rfl rfl (q_load tok rfl rfl rfl (by first | exact .loc _ | exact .ptr _ _ _ _ _ _ _ _ rfl rfl rfl) rfl) ?_
                  refine DOps.s 93 rfl rfl rfl (q_index_lst tok rfl rfl rfl rfl rfl rfl hlast.1 (idx_mapZ (blockAt_get hlast)) rfl) ?_
                  refine DOps.s 94 rfl rfl rfl (q_load tok rfl rfl rfl (by first | exact .loc _ | exact .ptr _ _ _ _ _ _ _ _ rfl rfl rfl) rfl) ?_
                  refine DOps.s 95 rfl rfl rfl (q_fieldAddr tok rfl rfl rfl rfl rfl rfl) ?_
                  refine DOps.s 96 rfl rfl rfl (q_load tok rfl rfl rfl (by first | exact .loc _ | exact .ptr _ _ _ _ _ _ _ _ rfl rfl rfl) rfl) ?_
                  refine DOps.s 97 rfl rfl rfl (q_move (.inl rfl) rfl) ?_
                  refine DOps.s 98 rfl rfl rfl (q_index_lst tok rfl rfl rfl rfl rfl rfl (Int.natCast_nonneg _) (cs := (new.blockAt k).cells) (idx_mapZ hnb) rfl) ?_
                  refine DOps.s 99 rfl rfl rfl (q_load tok rfl rfl rfl (by first | exact .loc _ | exact .ptr _ _ _ _ _ _ _ _ rfl rfl rfl) rfl) ?_
                  refine DOps.s 100 rfl rfl rfl (q_move (.inl rfl) rfl) ?_
                  refine DOps.x 101 rfl rfl rfl (o_pure rfl Try.func36 (by kernel_rfl) rfl rfl rfl (leads_ok (old.blockAt (lastOf p)) (new.blockAt k) paths (fun p hp => (pathIn_inF (List.all_eq_true.1 hall p hp)).1))) ?_
                  refine DOps.s 102 rfl rfl rfl (q_not rfl rfl) ?_
                  refine DOps.nil (by kernel_rfl) ?_
                  refine AGo.split 102 rfl (fun hb13 => ?_) (fun hb13 => ?_)
                  · -- True
                    refine AGo.cond_true true rfl rfl ?_
                    refine AGo.seq ?_
                    refine AGo.region ?_
                    refine AOps.s 6 rfl rfl rfl (q_move (.inr rfl) rfl) ?_
                    refine AOps.nil ?_
                    refine AGo.ret ?_
                    refine ⟨[_], ⟨rfl, trivial⟩, ?_, rfl⟩
                    show AV.bool _ = AV.bool _
                    congr 1
                    exact (check_bad4 (all_bad (zipIdx_get hp) (by simp_all [stepB]))).symm
                  · -- False
                    refine AGo.cond_false false rfl rfl ?_
                    refine AGo.skip ?_
                    refine AGo.region ?_
                    refine AOps.s 103 rfl rfl rfl (q_inc rfl rfl hkl (by simp only [maxLen]; omega)) ?_
                    refine AOps.s 65 rfl rfl rfl (q_move (.inl rfl) rfl) ?_
                    refine AOps.nil ?_
                    exact ⟨k+1, Drop.mk' (by repeat (first | exact EDrop.new _ _ | refine EDrop.put ?_ (by rfl) rfl)) (by repeat (first | exact HDrop.none _ _ | exact HDrop.tail _ _ | refine HDrop.put ?_ (by rfl) rfl rfl)), (all_succ (zipIdx_get hp) hS (by simp_all [stepB])), by omega⟩
            · -- False
              refine AGo.cond_false false rfl rfl ?_
              have hge3 : paths.length ≤ k := by simpa using hb10
              refine AGo.exit ?_
              refine AGo.seq ?_
              refine AGo.region ?_
              refine AOps.s 6 rfl rfl rfl (q_move (.inr rfl) rfl) ?_
              refine AOps.nil ?_
              refine AGo.ret ?_
              refine ⟨[_], ⟨rfl, trivial⟩, ?_, rfl⟩
              show AV.bool _ = AV.bool _
              congr 1
              exact (check_good h0.1 h0.2.1 h0.2.2 hall hz (all_end hS (by rw [List.length_zipIdx]; exact hge3))).symm

end Go.Proofs.Ytidfabbnobipkaa.Sv

namespace Go.Proofs.Ytidfabbnobipkaa.Sv
open Go
set_option linter.unusedVariables false
set_option linter.unusedSimpArgs false

set_option maxRecDepth 100000 in
theorem list_ok (l r : List Int) (hl : l.length ≤ 1000000000) : APure Try.prog 26 [intsAV l, intsAV r] (fun q => q = .bool (decide (l = r))) := by
  refine APure.of_body (n := 26) tok Try.func26 rfl rfl ?_
  refine AGo.seq ?_
  refine AGo.region ?_
  refine AOps.s 4 rfl rfl rfl (q_move (.inr rfl) rfl) ?_
  refine AOps.nil ?_
  refine AGo.seq ?_
  refine AGo.seq ?_
  refine AGo.region ?_
  refine AOps.s 6 rfl rfl rfl (q_move (.inl rfl) rfl) ?_
  refine AOps.s 7 rfl rfl rfl (q_len tok rfl rfl rfl rfl rfl) ?_
  refine AOps.s 8 rfl rfl rfl (q_move (.inl rfl) rfl) ?_
  refine AOps.s 9 rfl rfl rfl (q_len tok rfl rfl rfl rfl rfl) ?_
  refine AOps.s 10 rfl rfl rfl (q_bin rfl rfl rfl rfl) ?_
  refine AOps.nil ?_
  refine AGo.split 10 rfl (fun hb1 => ?_) (fun hb1 => ?_)
  · -- True
    refine AGo.cond_true true rfl rfl ?_
    refine AGo.seq ?_
    refine AGo.region ?_
    refine AOps.s 4 rfl rfl rfl (q_move (.inr rfl) rfl) ?_
    refine AOps.nil ?_
    refine AGo.ret ?_
    refine ⟨[_], ⟨rfl, trivial⟩, ?_, rfl⟩
    show AV.bool _ = AV.bool _
    congr 1
    exact (decide_eq_false (by rintro rfl; simp_all)).symm
  · -- False
    refine AGo.cond_false false rfl rfl ?_
    have hlr : l.length = r.length := by have h := hb1; simp at h; omega
    refine AGo.skip ?_
    refine AGo.seq ?_
    refine AGo.seq ?_
    refine AGo.region ?_
    refine AOps.s 5 rfl rfl rfl (q_move (.inr rfl) rfl) ?_
    refine AOps.nil ?_
    refine AGo.block ?_
    refine AGo.loopI (γ := Nat) (fun k => ⟨26, (eput (eput (eput eNew 0 (intsAV l)) 1 (intsAV r)) 5 (.int .i64 (k : Int))), hNone⟩) (fun k => l.take k = r.take k) (fun k => l.length - k) 0 (Sub.mk' (by repeat (first | exact ESub.new _ | refine ESub.put ?_ (by rfl))) (by repeat (first | exact HSub.none _ | exact HSub.from_new _ | exact HSub.from_from (by decide) | refine HSub.put ?_ (by rfl) | refine HSub.from_put ?_ (by decide) | refine HSub.from_rm ?_ (by decide)))) rfl ?_
    intro k ht
    refine AGo.seq ?_
    refine AGo.seq ?_
    refine AGo.region ?_
    refine AOps.s 11 rfl rfl rfl (q_move (.inl rfl) rfl) ?_
    refine AOps.s 12 rfl rfl rfl (q_move (.inl rfl) rfl) ?_
    refine AOps.s 13 rfl rfl rfl (q_len tok rfl rfl rfl rfl rfl) ?_
    refine AOps.s 14 rfl rfl rfl (q_bin rfl rfl rfl rfl) ?_
    refine AOps.nil ?_
    refine AGo.split 14 rfl (fun hb2 => ?_) (fun hb2 => ?_)
    · -- True
      refine AGo.cond_true true rfl rfl ?_
      have hkl : k < l.length := lt_of_idx hb2
      obtain ⟨x, hx⟩ := get_of_lt hkl
      obtain ⟨y, hy⟩ := get_of_lt (l := r) (k := k) (by omega)
      refine AGo.skip ?_
      refine AGo.seq ?_
      refine AGo.block ?_
      refine AGo.seq ?_
      refine AGo.draw mix ?_
      refine DOps.s 17 rfl rfl rfl (q_move (.inl rfl) rfl) ?_
      refine DOps.s 18 rfl rfl rfl (q_move (.inl rfl) rfl) ?_
      refine DOps.s 19 rfl rfl rfl (q_index_lst tok rfl rfl rfl rfl rfl rfl (Int.natCast_nonneg _) (idx_map (by assumption)) rfl) ?_
      refine DOps.s 20 rfl rfl rfl (q_load tok rfl rfl rfl (by first | exact .loc _ | exact .ptr _ _ _ _ _ _ _ _ rfl rfl rfl) rfl) ?_
      refine DOps.s 21 rfl rfl rfl (q_move (.inl rfl) rfl) ?_
      refine DOps.s 22 rfl rfl rfl (q_move (.inl rfl) rfl) ?_
      refine DOps.s 23 rfl rfl rfl (q_index_lst tok rfl rfl rfl rfl rfl rfl (Int.natCast_nonneg _) (idx_map (by assumption)) rfl) ?_
      refine DOps.s 24 rfl rfl rfl (q_load tok rfl rfl rfl (by first | exact .loc _ | exact .ptr _ _ _ _ _ _ _ _ rfl rfl rfl) rfl) ?_
      refine DOps.s 25 rfl rfl rfl (q_bin rfl rfl rfl rfl) ?_
      refine DOps.nil (by kernel_rfl) ?_
      refine AGo.split 25 rfl (fun hb3 => ?_) (fun hb3 => ?_)
      · -- True
        refine AGo.cond_true true rfl rfl ?_
        have hxy : x ≠ y := by simpa using hb3
        refine AGo.seq ?_
        refine AGo.region ?_
        refine AOps.s 4 rfl rfl rfl (q_move (.inr rfl) rfl) ?_
        refine AOps.nil ?_
        refine AGo.ret ?_
        refine ⟨[_], ⟨rfl, trivial⟩, ?_, rfl⟩
        show AV.bool _ = AV.bool _
        congr 1
        exact (decide_eq_false (by rintro rfl; rw [hx] at hy; cases hy; exact hxy rfl)).symm
      · -- False
        refine AGo.cond_false false rfl rfl ?_
        have hxy : x = y := by simpa using hb3
        refine AGo.skip ?_
        refine AGo.region ?_
        refine AOps.s 15 rfl rfl rfl (q_move (.inl rfl) rfl) ?_
        refine AOps.s 16 rfl rfl rfl (q_inc rfl rfl hkl (by simp only [maxLen]; omega)) ?_
        refine AOps.s 5 rfl rfl rfl (q_move (.inr rfl) rfl) ?_
        refine AOps.nil ?_
        exact ⟨k+1, Sub.mk' (by repeat (first | exact ESub.new _ | refine ESub.put ?_ (by rfl))) (by repeat (first | exact HSub.none _ | exact HSub.from_new _ | exact HSub.from_from (by decide) | refine HSub.put ?_ (by rfl) | refine HSub.from_put ?_ (by decide) | refine HSub.from_rm ?_ (by decide))), (by rw [take_succ_eq hx, take_succ_eq hy, ht, hxy]), by omega⟩
    · -- False
      refine AGo.cond_false false rfl rfl ?_
      have hge := ge_of_idx hb2
      refine AGo.exit ?_
      refine AGo.seq ?_
      refine AGo.region ?_
      refine AOps.s 4 rfl rfl rfl (q_move (.inr rfl) rfl) ?_
      refine AOps.nil ?_
      refine AGo.ret ?_
      refine ⟨[_], ⟨rfl, trivial⟩, ?_, rfl⟩
      show AV.bool _ = AV.bool _
      congr 1
      exact (decide_eq_true (take_all ht hge (hlr ▸ hge))).symm

set_option maxRecDepth 100000 in
theorem awake_ok  : APure Try.prog 11 [] (fun r => r = .bool true) := by
  refine APure.of_body (n := 60) tok Try.func11 rfl rfl ?_
  refine AGo.seq ?_
  refine AGo.region ?_
  refine AOps.s 0 rfl rfl rfl (q_move (.inr rfl) rfl) ?_
  refine AOps.nil ?_
  refine AGo.seq ?_
  refine AGo.region ?_
  refine AOps.s 5 rfl rfl rfl (q_build tok rfl rfl rfl rfl rfl (by decide) rfl rfl rfl) ?_
  refine AOps.x 6 rfl rfl rfl (o_lit' tok rfl rfl rfl rfl rfl rfl (by decide) rfl rfl rfl rfl rfl rfl) ?_
  refine AOps.s 7 rfl rfl rfl (q_build tok rfl rfl rfl rfl rfl (by decide) rfl rfl rfl) ?_
  refine AOps.s 8 rfl rfl rfl (QLoc.weak (q_build tok rfl rfl rfl rfl rfl (by decide) rfl rfl rfl) (fun _ _ _ h => agg_nil h)) ?_
  refine AOps.s 9 rfl rfl rfl (q_build tok rfl rfl rfl rfl rfl (by decide) rfl rfl rfl) ?_
  refine AOps.x 10 rfl rfl rfl (o_lit' tok rfl rfl rfl rfl rfl rfl (by decide) rfl rfl rfl rfl rfl rfl) ?_
  refine AOps.s 11 rfl rfl rfl (q_build tok rfl rfl rfl rfl rfl (by decide) rfl rfl rfl) ?_
  refine AOps.x 12 rfl rfl rfl (o_lit' tok rfl rfl rfl rfl rfl rfl (by decide) rfl rfl rfl rfl rfl rfl) ?_
  refine AOps.s 13 rfl rfl rfl (q_build tok rfl rfl rfl rfl rfl (by decide) rfl rfl rfl) ?_
  refine AOps.x 1 rfl rfl rfl (o_alloc tok 0 rfl rfl rfl rfl (Nat.zero_lt_succ _) rfl) ?_
  refine AOps.w rfl rfl (o_store tok rfl rfl rfl rfl rfl rfl rfl rfl rfl (by decide) rfl (by first | exact fun _ => rfl | (intro h; cases h))) ?_
  refine AOps.nil ?_
  refine AGo.seq ?_
  refine AGo.region ?_
  refine AOps.s 14 rfl rfl rfl (q_build tok rfl rfl rfl rfl rfl (by decide) rfl rfl rfl) ?_
  refine AOps.s 15 rfl rfl rfl (q_build tok rfl rfl rfl rfl rfl (by decide) rfl rfl rfl) ?_
  refine AOps.x 16 rfl rfl rfl (o_lit' tok rfl rfl rfl rfl rfl rfl (by decide) rfl rfl rfl rfl rfl rfl) ?_
  refine AOps.s 17 rfl rfl rfl (q_build tok rfl rfl rfl rfl rfl (by decide) rfl rfl rfl) ?_
  refine AOps.x 18 rfl rfl rfl (o_lit' tok rfl rfl rfl rfl rfl rfl (by decide) rfl rfl rfl rfl rfl rfl) ?_
  refine AOps.s 19 rfl rfl rfl (q_build tok rfl rfl rfl rfl rfl (by decide) rfl rfl rfl) ?_
  refine AOps.x 2 rfl rfl rfl (o_alloc tok 1 rfl rfl rfl rfl (Nat.zero_lt_succ _) rfl) ?_
  refine AOps.w rfl rfl (o_store tok rfl rfl rfl rfl rfl rfl rfl rfl rfl (by decide) rfl (by first | exact fun _ => rfl | (intro h; cases h))) ?_
  refine AOps.nil ?_
  refine AGo.seq ?_
  refine AGo.region ?_
  refine AOps.s 21 rfl rfl rfl (q_load tok rfl rfl rfl (by first | exact .loc _ | exact .ptr _ _ _ _ _ _ _ _ rfl rfl rfl) rfl) ?_
  refine AOps.x 22 rfl rfl rfl (o_pure rfl Try.func13 (by kernel_rfl) rfl rfl rfl ((tidyOf_ok awF aw_tame).mono (fun r h => by rw [h, aw_tidy, aw_paths]))) ?_
  refine AOps.s 20 rfl rfl rfl (q_move (.inl rfl) rfl) ?_
  refine AOps.s 23 rfl rfl rfl (q_extract rfl rfl rfl) ?_
  refine AOps.s 24 rfl rfl rfl (q_extract rfl rfl rfl) ?_
  refine AOps.x 3 rfl rfl rfl (o_alloc tok 2 rfl rfl rfl rfl (Nat.zero_lt_succ _) rfl) ?_
  refine AOps.w rfl rfl (o_store tok rfl rfl rfl rfl rfl rfl rfl rfl rfl (by decide) rfl (by first | exact fun _ => rfl | (intro h; cases h))) ?_
  refine AOps.s 4 rfl rfl rfl (q_move (.inr rfl) rfl) ?_
  refine AOps.nil ?_
  refine AGo.seq ?_
  refine AGo.region ?_
  refine AOps.s 25 rfl rfl rfl (q_load tok rfl rfl rfl (by first | exact .loc _ | exact .ptr _ _ _ _ _ _ _ _ rfl rfl rfl) rfl) ?_
  refine AOps.s 26 rfl rfl rfl (q_load tok rfl rfl rfl (by first | exact .loc _ | exact .ptr _ _ _ _ _ _ _ _ rfl rfl rfl) rfl) ?_
  refine AOps.x 27 rfl rfl rfl (o_pure rfl Try.func15 (by kernel_rfl) rfl rfl rfl ((sameFunc_ok awW awW).mono (fun r h => by rw [h, decide_eq_true rfl]))) ?_
  refine AOps.s 28 rfl rfl rfl (q_move (.inl rfl) rfl) ?_
  refine AOps.s 29 rfl rfl rfl (q_move (.inl rfl) rfl) ?_
  refine AOps.s 30 rfl rfl rfl (q_len tok rfl rfl rfl rfl rfl) ?_
  refine AOps.s 31 rfl rfl rfl (q_bin (r := .bool true) rfl rfl rfl (by rfl)) ?_
  refine AOps.s 32 rfl rfl rfl (q_pick_true true rfl rfl rfl rfl) ?_
  refine AOps.s 33 rfl rfl rfl (q_move (.inl rfl) rfl) ?_
  refine AOps.s 34 rfl rfl rfl (q_move (.inl rfl) rfl) ?_
  refine AOps.s 35 rfl rfl rfl (q_index_lst tok rfl rfl rfl rfl rfl rfl (by decide) (cs := pathCell [0, 2]) rfl rfl) ?_
  refine AOps.s 36 rfl rfl rfl (q_load tok rfl rfl rfl (by first | exact .loc _ | exact .ptr _ _ _ _ _ _ _ _ rfl rfl rfl) rfl) ?_
  refine AOps.x 37 rfl rfl rfl (o_lit' tok rfl rfl rfl rfl rfl rfl (by decide) rfl rfl rfl rfl rfl rfl) ?_
  refine AOps.x 38 rfl rfl rfl (o_pure rfl Try.func26 (by kernel_rfl) rfl rfl rfl ((list_ok [0, 2] [0, 2] (by decide)).mono (fun r h => by rw [h, decide_eq_true rfl]))) ?_
  refine AOps.s 39 rfl rfl rfl (q_pick_true true rfl rfl rfl rfl) ?_
  refine AOps.s 40 rfl rfl rfl (q_move (.inl rfl) rfl) ?_
  refine AOps.s 41 rfl rfl rfl (q_load tok rfl rfl rfl (by first | exact .loc _ | exact .ptr _ _ _ _ _ _ _ _ rfl rfl rfl) rfl) ?_
  refine AOps.s 42 rfl rfl rfl (q_load tok rfl rfl rfl (by first | exact .loc _ | exact .ptr _ _ _ _ _ _ _ _ rfl rfl rfl) rfl) ?_
  refine AOps.s 43 rfl rfl rfl (q_move (.inl rfl) rfl) ?_
  refine AOps.x 44 rfl rfl rfl (o_pure rfl Try.func17 (by kernel_rfl) rfl rfl rfl ((check_ok awF awW [[0, 2]] (by decide) (by decide) (by decide)).mono (fun r h => by rw [h, aw_check]))) ?_
  refine AOps.s 45 rfl rfl rfl (q_pick_true true rfl rfl rfl rfl) ?_
  refine AOps.s 46 rfl rfl rfl (q_move (.inl rfl) rfl) ?_
  refine AOps.s 47 rfl rfl rfl (q_load tok rfl rfl rfl (by first | exact .loc _ | exact .ptr _ _ _ _ _ _ _ _ rfl rfl rfl) rfl) ?_
  refine AOps.s 48 rfl rfl rfl (q_load tok rfl rfl rfl (by first | exact .loc _ | exact .ptr _ _ _ _ _ _ _ _ rfl rfl rfl) rfl) ?_
  refine AOps.x 49 rfl rfl rfl (o_lit' tok rfl rfl rfl rfl rfl rfl (by decide) rfl rfl rfl rfl rfl rfl) ?_
  refine AOps.x 50 rfl rfl rfl (o_lit' tok rfl rfl rfl rfl rfl rfl (by decide) rfl rfl rfl rfl rfl rfl) ?_
  refine AOps.x 51 rfl rfl rfl (o_pure rfl Try.func17 (by kernel_rfl) rfl rfl rfl ((check_ok awF awW [[0]] (by decide) (by decide) (by decide)).mono (fun r h => by rw [h, aw_check0]))) ?_
  refine AOps.s 52 rfl rfl rfl (q_not rfl rfl) ?_
  refine AOps.s 53 rfl rfl rfl (q_pick_true true rfl rfl rfl rfl) ?_
  refine AOps.s 54 rfl rfl rfl (q_move (.inl rfl) rfl) ?_
  refine AOps.s 55 rfl rfl rfl (q_load tok rfl rfl rfl (by first | exact .loc _ | exact .ptr _ _ _ _ _ _ _ _ rfl rfl rfl) rfl) ?_
  refine AOps.s 56 rfl rfl rfl (q_load tok rfl rfl rfl (by first | exact .loc _ | exact .ptr _ _ _ _ _ _ _ _ rfl rfl rfl) rfl) ?_
  refine AOps.x 57 rfl rfl rfl (o_pure rfl Try.func17 (by kernel_rfl) rfl rfl rfl (APure.nilThird ((check_ok awF awW [] (by decide) (by decide) (by decide)).mono (fun r h => by rw [h, aw_check1])))) ?_
  refine AOps.s 58 rfl rfl rfl (q_not rfl rfl) ?_
  refine AOps.s 59 rfl rfl rfl (q_pick_true true rfl rfl rfl rfl) ?_
  refine AOps.s 0 rfl rfl rfl (q_move (.inr rfl) rfl) ?_
  refine AOps.nil ?_
  refine AGo.ret ?_
  refine ⟨[_], ⟨rfl, trivial⟩, ?_, rfl⟩
  rfl

end Go.Proofs.Ytidfabbnobipkaa.Sv

namespace Go.Proofs.Ytidfabbnobipkaa.Sv
open Go
set_option linter.unusedVariables false
set_option linter.unusedSimpArgs false

end Go.Proofs.Ytidfabbnobipkaa.Sv

namespace Go.Proofs.Ytidfabbnobipkaa.Sv
open Go
set_option linter.unusedVariables false
set_option linter.unusedSimpArgs false

end Go.Proofs.Ytidfabbnobipkaa.Sv

namespace Go.Proofs.Ytidfabbnobipkaa.Sv
open Go
set_option linter.unusedVariables false
set_option linter.unusedSimpArgs false

end Go.Proofs.Ytidfabbnobipkaa.Sv

namespace Go.Proofs.Ytidfabbnobipkaa.Sv
open Go
set_option linter.unusedVariables false
set_option linter.unusedSimpArgs false

end Go.Proofs.Ytidfabbnobipkaa.Sv

namespace Go.Proofs.Ytidfabbnobipkaa.Sv
open Go
set_option linter.unusedVariables false
set_option linter.unusedSimpArgs false

end Go.Proofs.Ytidfabbnobipkaa.Sv

namespace Go.Proofs.Ytidfabbnobipkaa.Sv
open Go
set_option linter.unusedVariables false
set_option linter.unusedSimpArgs false

end Go.Proofs.Ytidfabbnobipkaa.Sv

namespace Go.Proofs.Ytidfabbnobipkaa.Sv
open Go
set_option linter.unusedVariables false
set_option linter.unusedSimpArgs false

end Go.Proofs.Ytidfabbnobipkaa.Sv
