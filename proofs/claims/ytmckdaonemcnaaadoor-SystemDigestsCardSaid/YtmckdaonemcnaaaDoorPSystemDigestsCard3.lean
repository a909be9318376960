/-
  The law SystemDigests of the given program answers true for every input, and leaves its arguments as they were; the two package variables that it reads are tied to the program's text. There is no condition. Own work.
-/
import Derived.Test.YtmckdaonemcnaaaDoorCards
import Derived.Test.YtmckdaonemcnaaaDoorTie
import Derived.Test.YtmckdaonemcnaaaDoorPSystemDigestsCard1
import Derived.Test.YtmckdaonemcnaaaDoorPSystemDigestsCard2
namespace Go.Proofs.YtmckdaonemcnaaaDoor
open Go.ChangeShapes Go.WideShapes Go.ChangeAt Go.RowKit Sv
set_option linter.unusedVariables false
theorem own' : ownKnob Tryd.prog.godebug = none := by kernel_rfl
theorem laidOut' : laidOutB Tryd.prog = true := by kernel_rfl
theorem bool' : Tryd.prog.underlying 4 = some .bool := by kernel_rfl
theorem okWide_cellS {P : Program} {W : World} {T : Nat → Option TyI} {t b0 : Nat} {v : Value} {i : TyI} (hT : TOk P T) (hi : T t = some i) (hk : i.k = .string) (h : Value.okWide P W .any b0 t v) : ∀ cs, v ≠ .agg cs := by
  obtain ⟨info, d, e1, e2, e3, e4, e5, e6⟩ := tyOf_spec (hT _ _ hi)
  have hd := tk_string (P := P) (d := d) (e3 ▸ hk)
  subst hd
  obtain ⟨s, rfl⟩ := okWide_string e2 h
  intro cs h
  cases h
section
variable {H : Type} {enc : TypeId × Value → H} {W : World}
theorem decStr : Dec enc Tryd.prog W 9 (fun s : ByteArray => [.str s]) (fun s => s.size ≤ maxLen ∧ s.size ≤ reachBytes) := Dec.string' tok rfl rfl
end
def smallTab : List Int := [48, 49, 50, 51, 52, 53, 54, 55, 56, 57, 97, 98, 99, 100, 101, 102]
def placesTab : List Int := [7, 9, 13, 18]
theorem gHex : Tryd.prog.globalNamed "seedcorn/hex.small" = some 0 := by kernel_rfl
theorem gPlaces : Tryd.prog.globalNamed "seedcorn/digest.places" = some 1 := by kernel_rfl
theorem glob_ok {W : World} (h : laidMetH Tryd.prog Rows.systemDigestsRow.laid W) : GlobOk (heapKnow W) := by
  have h' : laidMet Tryd.prog [("seedcorn/hex.small", Lib.tabData .u8 smallTab), ("seedcorn/digest.places", Lib.tabData .i64 placesTab)] W := by
    rw [MakeChecks.laidMetH_plain _ _ _ (by kernel_rfl)] at h
    exact h
  have t1 : Lib.TabIs Tryd.prog W "seedcorn/hex.small" .u8 smallTab := Lib.tabIs_of_head (t := 45) (e := 5) (n := 16) gHex (by kernel_rfl) (by kernel_rfl) (by kernel_rfl) (by kernel_rfl) (by kernel_rfl) h'
  have t2 : Lib.TabIs Tryd.prog W "seedcorn/digest.places" .i64 placesTab := Lib.tabIs_of_head (t := 47) (e := 3) (n := 4) gPlaces (by kernel_rfl) (by kernel_rfl) (by kernel_rfl) (by kernel_rfl) (by kernel_rfl) h'.tail
  intro g l e
  match g, e with
  | 0, e =>
    obtain rfl : smallTab.map (fun z => (IntKind.u8, z)) = l := Option.some.inj e
    exact rel_tab t1 gHex (by decide)
  | 1, e =>
    obtain rfl : placesTab.map (fun z => (IntKind.i64, z)) = l := Option.some.inj e
    exact rel_tab t2 gPlaces (by decide)
def tabLaid (cs : Array Value) : Obj → Obj
  | .cells _ t frozen => .cells cs t frozen
  | o => o
noncomputable def laidWorld (os : Os) : World :=
  { World.holding Tryd.prog os ⟨#[], #[], []⟩ with heap := ((World.holding Tryd.prog os ⟨#[], #[], []⟩).heap.modify 0 (tabLaid #[.int .u8 48, .int .u8 49, .int .u8 50, .int .u8 51, .int .u8 52, .int .u8 53, .int .u8 54, .int .u8 55, .int .u8 56, .int .u8 57, .int .u8 97, .int .u8 98, .int .u8 99, .int .u8 100, .int .u8 101, .int .u8 102])).modify 1 (tabLaid #[.int .i64 7, .int .i64 9, .int .i64 13, .int .i64 18]) }
theorem laid_met (os : Os) : laidMet Tryd.prog Rows.systemDigestsRow.laid ((laidWorld os).forCall (fun _ _ => 0) ⟨#[], #[.string ⟨#[]⟩, .string ⟨#[]⟩], []⟩).memory :=
  laidMet_of_run' 8 (by kernel_rfl) (by kernel_rfl)
theorem reads (os : Os) {H : Type} (enc : TypeId × Value → H) : ∃ places, DataW.whole enc Tryd.prog ((laidWorld os).forCall (fun _ _ => 0) ⟨#[], #[.string ⟨#[]⟩, .string ⟨#[]⟩], []⟩).memory Tryd.f3.params.toList Rows.systemDigestsSpec.vars false #[Value.string ⟨#[]⟩, .string ⟨#[]⟩].toList 8 = some ([.lit (.string []), .lit (.string [])], [], places) :=
  ⟨[], by kernel_rfl⟩
set_option maxRecDepth 100000 in
theorem lifted (os : Os) (started : os.Started) (H : Type) (enc : TypeId × Value → H) (F : Stop.Interp) :
    ReturnsInHanded {} Tryd.checked os 3 .any ((OpenSpec.ofChange Rows.systemDigestsSpec).preRow enc Tryd.prog Tryd.f3 Rows.systemDigestsRow.domain false Rows.systemDigestsRow.laid) (((OpenSpec.ofChange Rows.systemDigestsSpec).at F).post enc Tryd.prog Tryd.f3 false true false false) := by
  obtain ⟨places, hx⟩ := reads os enc
  refine returnsInHanded_of_row (C := Tryd.checked) (s := OpenSpec.ofChange Rows.systemDigestsSpec) own' started (by kernel_rfl) Tryd.func3
    (witness_row_at (enc := enc) (C := Tryd.checked) false (laidWorld os) #[.string ⟨#[]⟩, .string ⟨#[]⟩] rfl (by kernel_rfl) (by kernel_rfl) (by kernel_rfl)
      (OpenSpec.preRow_of_cond 8 hx (by kernel_rfl) (fun k hk => by cases hk) (by kernel_rfl) (laid_met os))) ?_
  intro W base args ds gs before hval0 hW _ _ hwt0 hL _ _
  have hval : ∀ (j : Nat) t v, Tryd.f3.params[j]? = some t → args[j]? = some v → Value.okWide Tryd.prog W .any base t v := hval0
  have hW' := hW
  obtain ⟨p, q, hA0, hV, rfl, hfz, hnd⟩ := hW
  have hA : DataW.TrodAll enc Tryd.prog W 0 (fun _ => true) true Tryd.f3.params.toList args.toList ds p := hA0
  have hwt : (DataW.weightsEach Tryd.prog (Tryd.f3.params.toList ++ Rows.systemDigestsSpec.plain.varTypes Tryd.prog) (ds ++ gs)).all (· ≤ reachBytes) = true := hwt0
  rw [Tryd.params3] at hA hval hwt
  obtain ⟨v0, vs0, d0, ds0, p0, q0, hargs, rfl, rfl, h0, r0⟩ := trodAll_cons hA
  obtain ⟨v1, vs1, d1, ds1, p1, q1, rfl, rfl, rfl, h1, r1⟩ := trodAll_cons r0
  obtain ⟨rfl, rfl, rfl⟩ := trodAll_nil r1
  obtain rfl : args = #[v0, v1] := by cases args; simp_all
  obtain ⟨rfl, rfl⟩ := trodVars_none hV
  obtain ⟨x0, e0, g0⟩ := arg_one h0 (weightsEach_get hwt (i := 0) rfl rfl) decStr
  obtain ⟨x1, e1, g1⟩ := arg_one h1 (weightsEach_get hwt (i := 1) rfl rfl) decStr
  exact law_calls laidOut' rfl (by kernel_rfl) rfl bool' rfl rfl rfl hW' (.cons (e0.val1 (okWide_cellS tok rfl rfl (hval 0 9 v0 rfl rfl))) (.cons (e1.val1 (okWide_cellS tok rfl rfl (hval 1 9 v1 rfl rfl))) .nil)) (law_ok x0 x1) (glob_ok hL)
theorem said : Rows.SystemDigestsSaid :=
  OpenClaim.holds_of_cond 3 Tryd.f3 rfl rfl rfl rfl rfl rfl rfl ⟨rfl, rfl, rfl, rfl, rfl⟩ rfl rfl rfl rfl rfl (by kernel_rfl) Tryd.func3 (by kernel_rfl)
    (of_decide_eq_true (by kernel_rfl)) (by unfold Func.isWrapper; first | (rw [if_pos (by decide +kernel)]; kernel_rfl) | (rw [if_neg (by decide +kernel)]; exact ⟨rfl, rfl⟩))
    (fun os started H enc _ F => by rw [OpenClaim.pre_eq_preRow]; exact lifted os started H enc F)
theorem plain (f : FuncId) (fn : Func) (hf : Tryd.pinned.checked.prog.funcNamed "seedcorn/seedcorntop.SystemDigests" = some f) (hfn : Tryd.pinned.checked.prog.funcs[f]? = some fn) :
    false = Tryd.pinned.checked.prog.looks [] ∧ ∀ (j : Nat) t, fn.params[j]? = some t → Tryd.pinned.checked.prog.wantsStandIn t = false := by
  obtain rfl : f = 3 := Option.some.inj ((show Tryd.prog.funcNamed "seedcorn/seedcorntop.SystemDigests" = some 3 by kernel_rfl).symm.trans hf) |>.symm
  obtain rfl : fn = Tryd.f3 := (Option.some.inj (Tryd.func3.symm.trans hfn)).symm
  refine ⟨by kernel_rfl, fun j t ht => ?_⟩
  rw [Tryd.params3] at ht
  obtain rfl : t = 9 := by simpa using Array.mem_of_getElem? ht
  exact (show Tryd.prog.wantsStandIn 9 = false by kernel_rfl)
theorem systemDigests_card : Rows.SystemDigestsCardSaid :=
  Claim7.holds_tied_plain_at .later [] _ _ _ _ said (fun _ h => by cases h) (by kernel_rfl) (fun _ h => by cases h) systemDigests_row_tie rfl ⟨rfl, rfl⟩ (by kernel_rfl) rfl plain (by kernel_rfl)
end Go.Proofs.YtmckdaonemcnaaaDoor
