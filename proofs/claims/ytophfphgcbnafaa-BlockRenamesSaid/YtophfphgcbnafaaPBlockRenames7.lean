/-
  The law BlockRenames of the given program answers true for every input, and leaves its arguments as they were. There is no condition. Own work.
  WALKS: printed by a program of our own from the code's tree.
  How strings read: own work.
-/
import Derived.Test.YtophfphgcbnafaaPBlockRenames6
import Derived.Test.YtophfphgcbnafaaPBlockRenames2
namespace Go.Proofs.Ytophfphgcbnafaa.Sv
open Go
set_option linter.unusedVariables false
set_option linter.unusedSimpArgs false

set_option maxRecDepth 100000 in
theorem blockRenames_ok (b : Blocks) (s : ByteArray) (x : Int) (hb : b.Ok) (hx : 0 ≤ x ∧ x ≤ 255) : APure Try.prog 5 [.agg b.cells, .str s, .int .u8 x] (fun r => r = .bool true) := by
  refine APure.of_body (n := 53) tok Try.func5 rfl rfl ?_
  refine AGo.seq ?_
  refine AGo.region ?_
  refine AOps.x 3 rfl rfl rfl (o_box (sz := 2) 0 rfl rfl rfl rfl (Nat.zero_lt_succ _) rfl) ?_
  refine AOps.s 6 rfl rfl rfl (q_move (.inr rfl) rfl) ?_
  refine AOps.nil ?_
  refine AGo.seq ?_
  refine AGo.seq ?_
  refine AGo.region ?_
  refine AOps.s 9 rfl rfl rfl (q_load tok rfl rfl rfl (by first | exact .loc _ | exact .ptr _ _ _ _ _ _ _ _ rfl rfl rfl) rfl) ?_
  refine AOps.s 10 rfl rfl rfl (q_move (.inl rfl) rfl) ?_
  refine AOps.x 11 rfl rfl rfl (o_pure rfl Try.func10 (by kernel_rfl) rfl rfl rfl (smallS_ok _ _ (by assumption))) ?_
  refine AOps.s 12 rfl rfl rfl (q_not rfl rfl) ?_
  refine AOps.nil ?_
  refine AGo.split 12 rfl (fun hb1 => ?_) (fun hb1 => ?_)
  · -- True
    refine AGo.cond_true true rfl rfl ?_
    refine AGo.seq ?_
    refine AGo.region ?_
    refine AOps.x 13 rfl rfl rfl (o_pure rfl Try.func11 (by kernel_rfl) rfl rfl rfl (awake_ok)) ?_
    refine AOps.s 6 rfl rfl rfl (q_move (.inr rfl) rfl) ?_
    refine AOps.nil ?_
    refine AGo.ret ?_
    refine ⟨[_], ⟨rfl, trivial⟩, ?_, rfl⟩
    rfl
  · -- False
    refine AGo.cond_false false rfl rfl ?_
    have hsm := smallS_spec (b := b) (s := s) (by simpa using hb1)
    have hfl := hsm.funcs
    have hsz := hsm.size
    have hrs := right_spec hsm.right
    have hbw := small_insWB hb
    have htl : b.turn.funcs.length = b.funcs.length := by simp [Blocks.turn]
    have hlock := turn_lock hsm.right hbw s hx.1
    refine AGo.skip ?_
    refine AGo.seq ?_
    refine AGo.region ?_
    refine AOps.s 14 rfl rfl rfl (q_fieldAddr tok rfl rfl rfl rfl rfl rfl) ?_
    refine AOps.s 15 rfl rfl rfl (q_load tok rfl rfl rfl (by first | exact .loc _ | exact .ptr _ _ _ _ _ _ _ _ rfl rfl rfl) rfl) ?_
    refine AOps.s 16 rfl rfl rfl (q_build tok rfl rfl rfl rfl rfl (by decide) rfl rfl rfl) ?_
    refine AOps.x 7 rfl rfl rfl (o_alloc tok 1 rfl rfl rfl rfl (Nat.zero_lt_succ _) rfl) ?_
    refine AOps.w rfl rfl (o_store tok rfl rfl rfl rfl rfl rfl rfl rfl rfl (by decide) rfl (by first | exact fun _ => rfl | (intro h; cases h))) ?_
    refine AOps.nil ?_
    refine AGo.seq ?_
    refine AGo.seq ?_
    refine AGo.ghost (.dryCell 1 0 1 2 2 true rfl rfl rfl rfl rfl (by decide)) ?_
    refine AGo.region ?_
    refine AOps.s 8 rfl rfl rfl (q_move (.inr rfl) rfl) ?_
    refine AOps.nil ?_
    refine AGo.block ?_
    refine AGo.loopD (γ := Nat) 3 (fun k => ⟨53, (eput (eput (eput (eput (eput eNew 1 (.str s)) 2 (.int .u8 x)) 3 (.ptr 0 1 0 0)) 7 (.ptr 1 1 0 0)) 8 (.int .i64 (k : Int))), (hput (hput (hput (hFrom 3) 0 (.row false 2 [b.cells])) 1 (.row false 2 [[.int .i64 b.words, .ref 2 k 0 k]])) 2 (.row true 2 ((b.turn.funcs.take k).map BFunc.cells)))⟩) (fun k => k ≤ b.funcs.length) (fun k => b.funcs.length - k) 0 (Sub.mk' (by repeat (first | exact ESub.new _ | refine ESub.put ?_ (by rfl))) (by repeat (first | exact HSub.refl _ | exact HSub.none _ | exact HSub.from_new _ | exact HSub.from_from (by first | decide | omega | (dsimp only; omega)) | refine HSub.put ?_ (by rfl) | refine HSub.from_put ?_ (by first | decide | omega | (dsimp only; omega)) | refine HSub.from_rm ?_ (by decide)))) (Nat.zero_le _) (fun _ => hput_free (hput_free (hput_free (fun b hb => hFrom_free hb) rfl) rfl) rfl) ?_
    intro k hk
    refine AGo.seq ?_
    refine AGo.seq ?_
    refine AGo.region ?_
    refine AOps.s 17 rfl rfl rfl (q_move (.inl rfl) rfl) ?_
    refine AOps.s 18 rfl rfl rfl (q_fieldAddr tok rfl rfl rfl rfl rfl rfl) ?_
    refine AOps.s 19 rfl rfl rfl (q_load tok rfl rfl rfl (by first | exact .loc _ | exact .ptr _ _ _ _ _ _ _ _ rfl rfl rfl) rfl) ?_
    refine AOps.s 20 rfl rfl rfl (q_len tok rfl rfl rfl rfl rfl) ?_
    refine AOps.s 21 rfl rfl rfl (q_bin rfl rfl rfl rfl) ?_
    refine AOps.nil ?_
    refine AGo.split 21 rfl (fun hb2 => ?_) (fun hb2 => ?_)
    · -- True
      refine AGo.cond_true true rfl rfl ?_
      have hkl : k < b.funcs.length := lt_of_idx hb2
      obtain ⟨f, hf⟩ := get_of_lt hkl
      have hfm := List.mem_of_getElem? hf
      have hfb := hsm.blocks hfm
      have hf2 : b.turn.funcs[k]? = some f.turn := by simp [Blocks.turn, hf]
      refine AGo.skip ?_
      refine AGo.seq ?_
      refine AGo.block ?_
      refine AGo.draw mix ?_
      refine DOps.s 24 rfl rfl rfl (q_fieldAddr tok rfl rfl rfl rfl rfl rfl) ?_
      refine DOps.s 25 rfl rfl rfl (q_load tok rfl rfl rfl (by first | exact .loc _ | exact .ptr _ _ _ _ _ _ _ _ rfl rfl rfl) rfl) ?_
      refine DOps.s 26 rfl rfl rfl (q_fieldAddr tok rfl rfl rfl rfl rfl rfl) ?_
      refine DOps.s 27 rfl rfl rfl (q_load tok rfl rfl rfl (by first | exact .loc _ | exact .ptr _ _ _ _ _ _ _ _ rfl rfl rfl) rfl) ?_
      refine DOps.s 28 rfl rfl rfl (q_move (.inl rfl) rfl) ?_
      refine DOps.s 29 rfl rfl rfl (q_index_lst tok rfl rfl rfl rfl rfl rfl (Int.natCast_nonneg _) (idx_map (by assumption)) rfl) ?_
      refine DOps.s 30 rfl rfl rfl (q_load tok rfl rfl rfl (by first | exact .loc _ | exact .ptr _ _ _ _ _ _ _ _ rfl rfl rfl) rfl) ?_
      refine DOps.x 31 rfl rfl rfl (o_pure rfl Try.func14 (by kernel_rfl) rfl rfl rfl (rename_ok f b.words (k : Int) (hrs.2.2.2 k f hf) (by omega) (fun x hx => by have := hsm.ins hfm hx; omega))) ?_
      refine DOps.x 32 rfl rfl rfl (o_lit' tok rfl rfl rfl rfl rfl rfl (by decide) rfl rfl rfl rfl rfl rfl) ?_
      refine DOps.x 33 rfl rfl rfl (o_append tok (n := k) (m := 1) rfl rfl rfl rfl rfl rfl rfl rfl rfl (by rw [List.length_map, List.length_take]; omega) rfl rfl (Nat.zero_lt_succ _) (.lst _ _) (by intro cs h; simp [partVals] at h; subst h; rfl) (fun _ cs h => by simp [partVals] at h; subst h; rfl) rfl (by simp [partVals]; show _ * 32 ≤ _; omega) (by simp [partVals]; simp only [maxLen]; omega)) ?_
      refine DOps.s 34 rfl rfl rfl (q_fieldAddr tok rfl rfl rfl rfl rfl rfl) ?_
      refine DOps.w rfl rfl (o_store tok rfl rfl rfl rfl rfl rfl rfl rfl rfl (by decide) rfl (by first | exact fun _ => rfl | (intro h; cases h))) ?_
      refine DOps.nil (by kernel_rfl) ?_
      refine AGo.region ?_
      refine AOps.s 22 rfl rfl rfl (q_move (.inl rfl) rfl) ?_
      refine AOps.s 23 rfl rfl rfl (q_inc rfl rfl hkl (by simp only [maxLen]; omega)) ?_
      refine AOps.s 8 rfl rfl rfl (q_move (.inr rfl) rfl) ?_
      refine AOps.nil ?_
      exact ⟨k+1, Drop.mk' (by repeat (first | exact EDrop.new _ _ | refine EDrop.put ?_ (by rfl) rfl)) (by repeat (first | exact HDrop.none _ _ | exact HDrop.tail _ _ | refine HDrop.put ?_ (by first | rfl | exact congrArg (fun es => some (AObj.row true 2 es)) (by rw [take_succ_eq hf2, List.map_append]; rfl)) rfl rfl)), hkl, by omega⟩
    · -- False
      refine AGo.cond_false false rfl rfl ?_
      have hge := ge_of_idx hb2
      obtain rfl : k = b.funcs.length := by omega
      refine AGo.exit ?_
      refine AGo.seq ?_
      refine AGo.ghost (.freezeCell 1 0 1 2 rfl rfl rfl rfl (by rw [List.length_map, List.length_take]; omega) (by decide)) ?_
      refine AGo.sub (s' := ⟨53, (eput (eput (eput (eput eNew 1 (.str s)) 2 (.int .u8 x)) 3 (.ptr 0 1 0 0)) 7 (.ptr 1 1 0 0)), (hput (hput hNone 0 (.row false 2 [b.cells])) 1 (.row false 2 [b.turn.cells]))⟩) (Sub.mk' (by repeat (first | exact ESub.new _ | refine ESub.put ?_ (by rfl))) (by repeat (first | exact HSub.refl _ | exact HSub.none _ | exact HSub.from_new _ | exact HSub.from_from (by first | decide | omega | (dsimp only; omega)) | refine HSub.put ?_ (by first | rfl | exact congrArg (fun es => some (AObj.row false 2 [[.int .i64 b.words, .lst false es]])) (by rw [List.drop_zero, List.take_of_length_le (show b.turn.funcs.length ≤ b.funcs.length by omega), List.take_of_length_le (by rw [List.length_map]; omega)])) | refine HSub.from_put ?_ (by first | decide | omega | (dsimp only; omega)) | refine HSub.from_rm ?_ (by decide)))) ?_
      refine AGo.draw mix ?_
      refine DOps.x 35 rfl rfl rfl (o_pure rfl Try.func11 (by kernel_rfl) rfl rfl rfl (awake_ok)) ?_
      refine DOps.s 36 rfl rfl rfl (q_move (.inl rfl) rfl) ?_
      refine DOps.s 37 rfl rfl rfl (q_load tok rfl rfl rfl (by first | exact .loc _ | exact .ptr _ _ _ _ _ _ _ _ rfl rfl rfl) rfl) ?_
      refine DOps.x 38 rfl rfl rfl (o_pure rfl Try.func15 (by kernel_rfl) rfl rfl rfl ((bright_ok b.turn).mono (fun r h => by rw [h, turn_right hsm.right]))) ?_
      refine DOps.s 39 rfl rfl rfl (q_pick_true true rfl rfl rfl rfl) ?_
      refine DOps.s 40 rfl rfl rfl (q_move (.inl rfl) rfl) ?_
      refine DOps.s 41 rfl rfl rfl (q_load tok rfl rfl rfl (by first | exact .loc _ | exact .ptr _ _ _ _ _ _ _ _ rfl rfl rfl) rfl) ?_
      refine DOps.s 42 rfl rfl rfl (q_move (.inl rfl) rfl) ?_
      refine DOps.s 43 rfl rfl rfl (q_move (.inl rfl) rfl) ?_
      refine DOps.s 44 rfl rfl rfl (q_convTo tok rfl rfl rfl rfl rfl (r := x) (wrap_i64 (by omega) (by omega))) ?_
      refine DOps.x 45 rfl rfl rfl (o_pure rfl Try.func12 (by kernel_rfl) rfl rfl rfl (blockRun_ok b s (x) hsm.right hbw hsm.insL (by first | omega | (simp [Blocks.turn, Blocks.idle, Blocks.cutAt]; omega)) (by omega) (by omega))) ?_
      refine DOps.s 46 rfl rfl rfl (q_load tok rfl rfl rfl (by first | exact .loc _ | exact .ptr _ _ _ _ _ _ _ _ rfl rfl rfl) rfl) ?_
      refine DOps.s 47 rfl rfl rfl (q_move (.inl rfl) rfl) ?_
      refine DOps.s 48 rfl rfl rfl (q_move (.inl rfl) rfl) ?_
      refine DOps.s 49 rfl rfl rfl (q_convTo tok rfl rfl rfl rfl rfl (r := x) (wrap_i64 (by omega) (by omega))) ?_
      refine DOps.x 50 rfl rfl rfl (o_pure rfl Try.func12 (by kernel_rfl) rfl rfl rfl (blockRun_ok b.turn s (x) (turn_right hsm.right) (turn_insW hbw) hsm.turn_ins (by first | omega | (simp [Blocks.turn, Blocks.idle, Blocks.cutAt]; omega)) (by omega) (by omega))) ?_
      refine DOps.s 51 rfl rfl rfl (q_eqStruct tok false rfl rfl rfl (by kernel_rfl) rfl rfl rfl rfl (eq_resCells3 hlock.1 hlock.2.1 hlock.2.2)) ?_
      refine DOps.s 52 rfl rfl rfl (q_pick_true true rfl rfl rfl rfl) ?_
      refine DOps.s 6 rfl rfl rfl (q_move (.inr rfl) rfl) ?_
      refine DOps.nil (by kernel_rfl) ?_
      refine AGo.ret ?_
      refine ⟨[_], ⟨rfl, trivial⟩, ?_, rfl⟩
      rfl

end Go.Proofs.Ytophfphgcbnafaa.Sv

namespace Go.Proofs.Ytophfphgcbnafaa
open Go.ChangeShapes Go.WideShapes Go.ChangeAt Go.RowKit Sv
set_option linter.unusedVariables false
theorem okWide_cellS {P : Program} {W : World} {T : Nat → Option TyI} {t b0 : Nat} {v : Value} {i : TyI} (hT : TOk P T) (hi : T t = some i) (hk : i.k = .string) (h : Value.okWide P W .any b0 t v) : ∀ cs, v ≠ .agg cs := by
  obtain ⟨info, d, e1, e2, e3, e4, e5, e6⟩ := tyOf_spec (hT _ _ hi)
  have hd := tk_string (P := P) (d := d) (e3 ▸ hk)
  subst hd
  obtain ⟨s, rfl⟩ := okWide_string e2 h
  intro cs h
  cases h
section
variable {H : Type} {enc : TypeId × Value → H} {W : World}
theorem decStr : Dec enc Try.prog W 9 (fun s : ByteArray => [.str s]) (fun s => s.size ≤ maxLen ∧ s.size ≤ reachBytes) := Dec.string' tok rfl rfl
end
end Go.Proofs.Ytophfphgcbnafaa

namespace Go.Proofs.Ytophfphgcbnafaa
open Go.ChangeShapes Go.WideShapes Go.ChangeAt Go.RowKit Sv
set_option linter.unusedVariables false

set_option maxRecDepth 100000 in
theorem blockRenames_lifted (os : Os) (started : os.Started) (H : Type) (enc : TypeId × Value → H) :
    ReturnsInHanded {} Try.checked os 5 .any (Rows.blockRenamesSpec.pre6 enc Try.prog Try.f5 Rows.blockRenamesRow.domain false) (Rows.blockRenamesSpec.post enc Try.prog Try.f5 false true false false) := by
  refine returnsInHanded_of_change_sized (C := Try.checked) own' started (by kernel_rfl) Try.func5
    (ChangeSpec.witness6 (enc := enc) (C := Try.checked) false ⟨#[], #[.agg #[.int .i64 0, .slice none 0 0], .string ⟨#[]⟩, .int .u8 0], []⟩ 8 (by kernel_rfl) (by kernel_rfl) (by kernel_rfl) (by kernel_rfl)) ?_
  intro W base args ds gs before hval0 hW hcnd hwt0 hh
  have hval : ∀ (j : Nat) t v, Try.f5.params[j]? = some t → args[j]? = some v → Value.okWide Try.prog W .any base t v := hval0
  have hW' := hW
  obtain ⟨p, q, hA0, hV, rfl, hfz, hnd⟩ := hW
  have hA : DataW.TrodAll enc Try.prog W 0 (fun _ => true) true Try.f5.params.toList args.toList ds p := hA0
  have hwt : (DataW.weightsEach Try.prog (Try.f5.params.toList ++ Rows.blockRenamesSpec.plain.varTypes Try.prog) (ds ++ gs)).all (· ≤ reachBytes) = true := hwt0
  rw [Try.params5] at hA hval hwt
  obtain ⟨v0, vs0, d0, ds0, p0, q0, hargs, rfl, rfl, h0, r0⟩ := trodAll_cons hA
  obtain ⟨v1, vs1, d1, ds1, p1, q1, rfl, rfl, rfl, h1, r1⟩ := trodAll_cons r0
  obtain ⟨v2, vs2, d2, ds2, p2, q2, rfl, rfl, rfl, h2, r2⟩ := trodAll_cons r1
  obtain ⟨rfl, rfl, rfl⟩ := trodAll_nil r2
  obtain rfl : args = #[v0, v1, v2] := by cases args; simp_all
  obtain ⟨rfl, rfl⟩ := trodVars_none hV
  obtain ⟨x0, e0, g0⟩ := arg_one h0 (weightsEach_get hwt (i := 0) rfl rfl) decBlocks
  obtain ⟨x1, e1, g1⟩ := arg_one h1 (weightsEach_get hwt (i := 1) rfl rfl) decStr
  obtain ⟨x2, rfl, rfl, rfl, w2⟩ := open_int Try.underlying5 (hval 2 5 v2 rfl rfl) h2
  exact law_calls laidOut' rfl (by kernel_rfl) rfl bool' rfl rfl rfl hW' (.cons (e0.val (okWide_agg tok rfl rfl (hval 0 24 v0 rfl rfl))) (.cons (e1.val1 (okWide_cellS tok rfl rfl (hval 1 9 v1 rfl rfl))) (.cons (.int _ _ _) .nil))) (blockRenames_ok x0 x1 x2 g0 (wf_u8 w2))

theorem blockRenames_holds : Rows.BlockRenamesSaid :=
  OpenClaim.holds_of_wide 5 Try.f5 rfl rfl rfl rfl rfl rfl rfl ⟨rfl, rfl, rfl, rfl, rfl⟩ rfl rfl rfl rfl rfl (by kernel_rfl) Try.func5 (by kernel_rfl)
    (of_decide_eq_true (by kernel_rfl)) (by unfold Func.isWrapper; first | (rw [if_pos (by decide +kernel)]; kernel_rfl) | (rw [if_neg (by decide +kernel)]; exact ⟨rfl, rfl⟩))
    (fun os started H enc _ => blockRenames_lifted os started H enc)

end Go.Proofs.Ytophfphgcbnafaa
