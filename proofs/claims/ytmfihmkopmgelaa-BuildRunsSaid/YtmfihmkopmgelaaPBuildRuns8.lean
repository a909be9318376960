/-
  The law BuildRuns of the given program answers true for every input, and leaves its arguments as they were. There is no condition. Own work.
-/
import Derived.Test.YtmfihmkopmgelaaPBuildRuns7
import Derived.Test.YtmfihmkopmgelaaPBuildRuns3
import Derived.Test.YtmfihmkopmgelaaPBuildRuns4
import Derived.Test.YtmfihmkopmgelaaPBuildRuns5
import Derived.Test.YtmfihmkopmgelaaPBuildRuns6
import Derived.Test.YtmfihmkopmgelaaPBuildRuns2
set_option linter.unusedVariables false
set_option linter.unusedSimpArgs false
set_option maxRecDepth 100000
set_option maxHeartbeats 2000000
namespace Go.Proofs.Ytmfihmkopmgelaa.Sv
open Go
section
variable (C : Core) (s : ByteArray) (fuel : Int) (cl : BD)
def cF (x : CE) : Prop := ∀ c, CM.good C.words.toNat c -> c.m.fin = 0 -> c.over = false -> Es Try.prog C s fuel 76 [.loc x.row] c (.int .u32 (x.ev cl s c).1) (x.ev cl s c).2
def fZ (g : Int) (l : List CE) : Prop := ∀ c, CM.good C.words.toNat c -> c.m.fin = 0 -> c.over = false -> Es Try.prog C s fuel 80 [.int .i64 g, (.lst false (l.map CE.cells))] c (.int .u32 (A5 cl s g l [] c).1) (A5 cl s g l [] c).2
def fj (l : List CS) : Prop := ∀ c, CM.good C.words.toNat c -> c.m.fin = 0 -> c.over = false -> Es Try.prog C s fuel 39 [(.lst false (l.map CS.cells))] c (vo (Ao cl s fuel l c)) (Ao cl s fuel l c)
def R3 (n : Nat) : Prop := ∀ (g : Int) (l : List CE), 0 <= g -> g < n -> (∃ fn, C.funcs[g.toNat]? = some fn /\ fn.params = l.length /\ l.length <= 6) -> (∀ x ∈ l, x.Ok) -> (∀ x ∈ l, cF C s fuel cl x) -> fZ C s fuel cl g l
theorem O6 (hs : s.size <= 9223372036854775807) (hr : CoreR C) (n : Nat) (hg : C7 C.words.toNat cl) (hco : Ff cl) (hcall : R3 C s fuel cl n) : ∀ (m : Nat) (e : CE), e.parts <= m -> e.ok C n -> e.Ok -> cF C s fuel cl e
  | 0, e, hm, _, _ => absurd hm (by cases e; rw [CE.parts]; omega)
  | m + 1, e, hm, ho, hk => fun c hc h0 hov => by
    have ih : ∀ x ∈ e.kids, cF C s fuel cl x := fun x hx => O6 hs hr n hg hco hcall m x (by have := AW hx; have := Bf e; omega) (Nt ho hx) (hk.kidsOk.1 x hx)
    refine cvalue_step C s fuel cl n e c hr.w0 (by have := hr.w1; omega) hs ho hk hc h0 hov hg hco (fun x hx => ih x hx) fun h4 => ?_
    obtain ⟨g0, g1, fn, g2, _, g3, g4⟩ := QC ho h4
    exact hcall e.slot e.kids g0 g1 ⟨fn, g2, g3, g4⟩ hk.kidsOk.1 ih c hc h0 hov
theorem Hf (hfu : fuel <= 9223372036854775807) (hs : s.size <= 9223372036854775807) (hr : CoreR C) (n : Nat) (w : Bool) (hg : C7 C.words.toNat cl) (hco : Ff cl) (hup : HW cl) (hcall : R3 C s fuel cl n) : ∀ (m : Nat) (l : List CS), CS.partsL l <= m -> CS.okL C n w l -> (∀ x ∈ l, x.Ok) -> l.length * 96 <= reachBytes -> fj C s fuel cl l
  | 0, l, hm, ho, hk, hl => fun c hc h0 hov => O7 C s fuel cl l c (Is hl) hc h0 hov (fun x hx => absurd (AO hx) (by have := BG x; omega)) fun x hx => absurd (AO hx) (by have := BG x; omega)
  | m + 1, l, hm, ho, hk, hl => fun c hc h0 hov => by
    refine O7 C s fuel cl l c (Is hl) hc h0 hov (fun x hx c hc h0 hov => ?_) fun x hx => GD hg x.parts x (Nat.le_refl _) (hk x hx)
    have hxo := sokL_mem ho hx
    have hxk := hk x hx
    have hp := AO hx
    have hp2 := BG x
    have hE : ∀ y ∈ x.es, cF C s fuel cl y := fun y hy => O6 C s fuel cl hs hr n hg hco hcall y.parts y (Nat.le_refl _) (FY hxo hy) (hxk.esOk.1 y hy)
    have hT : fj C s fuel cl x.thn := Hf hfu hs hr n w hg hco hup hcall m x.thn (by omega) (Ib hxo) hxk.thnOk.1 hxk.thnOk.2
    refine Te C s fuel cl n w x c hfu hr.w0 (by have := hr.w1; omega) hxo hxk hc h0 hov hg hco (fun y hy => hE y hy) (fun h6 => ?_) hT (Hf hfu hs hr n w hg hco hup hcall m x.els (by omega) (Ic hxo) hxk.elsOk.1 hxk.elsOk.2) fun h5 => ?_
    . obtain ⟨g0, g1, fn, g2, _, g3, g4⟩ := XH hxo h6
      exact hcall x.slot x.es g0 g1 ⟨fn, g2, g3, g4⟩ hxk.esOk.1 hE c hc h0 hov
    . have h1 := XI hxo h5
      obtain ⟨y, hy, hym⟩ := Gu (l := x.es) (by omega)
      exact O1 C s fuel cl x y c hfu hy (hxk.esOk.1 y hym) hc h0 hov hg hco hup (fun y hy => hE y hy) hT fun c hc => EM (fun st hst => GD hg st.parts st (Nat.le_refl _) (hxk.thnOk.1 st hst)) hc
theorem Vz (hfu : fuel <= 9223372036854775807) (hs : s.size <= 9223372036854775807) (hr : CoreR C) (hC : C.Ok) (hok : Jt C) : ∀ (n i : Nat) (w : Bool) (l : List CS), i <= n -> CS.okL C i w l -> (∀ x ∈ l, x.Ok) -> l.length * 96 <= reachBytes -> fj C s fuel (BX C s fuel n) l
  | 0, i, w, l, hi, ho, hk, hl => Hf C s fuel _ hfu hs hr i w (Hh hC 0) (Nz 0) (Ny 0) (fun g l g0 g1 => absurd g1 (by omega)) _ l (Nat.le_refl _) ho hk hl
  | n + 1, i, w, l, hi, ho, hk, hl => by
    refine Hf C s fuel _ hfu hs hr i w (Hh hC (n + 1)) (Nz (n + 1)) (Ny (n + 1)) (fun g l g0 g1 hfn hlk hE c hc h0 hov => ?_) _ l (Nat.le_refl _) ho hk hl
    obtain ⟨fn, e1, e2, e3⟩ := hfn
    have hm := List.mem_of_getElem? e1
    obtain ⟨b1, b2, b3, b4, b5⟩ := hr.fn fn hm
    have hbo := (hok.fn g.toNat fn e1).body
    exact QM C s fuel _ n g fn l c rfl hfu hr.w0 (by have := hr.w1; omega) g0 e1 ⟨by omega, b4, b5⟩ e2 (by omega) e3 hlk hc h0 hov (Hh hC (n + 1)) (Nz (n + 1)) (fun x hx => hE x hx)
      (Vz hfu hs hr hC hok n g.toNat fn.word fn.body (by omega) hbo (hC.funcs fn hm).body (hC.funcs fn hm).len)
end
theorem Q7 {P : Program} {n : Nat} {h : Ab} {x : Option AV} {ops : Array Oper} {id : Nat} {Q : Exit -> Al -> Option AV -> Prop} {e : Az} {om : Oper} (m : Nat) (pat : List Bool) (hm : P.follows .mixedOrders = true) (hchk : VB ops m pat = true) (hpm : (pat[m]?).getD false = false) (hom : ops[m]? = some om) (hg : om.guard = none)
    (hx : QX P n h ops.toList pat e fun es => ∃ R W E0, GX P om es h R W E0 /\ ∀ ch e', (∀ t, (ops.toList.all fun o => !(o.dst == some t)) = true -> e' t = e t) -> E0 ch -> Q (.panic ch) ⟨n, e', hputs h W⟩ x) : AGoF P (.region id ops true) ⟨n, e, h⟩ x Q := by
  obtain ⟨es, vs, h1, R, W, E0, h2, h3⟩ := hx
  exact AGoF.drawX (m := m) pat hm hchk hpm h1 hom hg h2 h3
def res0 : AObj := .row false 3 [[.int .i64 0, .str .empty, .int .i64 0]]
abbrev bE (C : Core) (s : ByteArray) (fuel : Int) (c : CM) : Ab := hput (hput (EC (Bl 6) C s fuel c) 4 res0) 5 (.row false 1 [[.ptr 0 1 0 0]])
theorem Xh (h : Ab) : ACallD Try.prog 38 [.ptr 5 1 0 0, .ptr 4 1 0 0] h .returning (fun u' h' => u' = .returning /\ h' = h) := by
 refine Gr (n := 23) Am Try.func38 rfl rfl ?_;refine AGoS.seq ?_;refine AGoS.region ?_;refine Q5 5 ?_;refine AOpsS.nil ?_;refine AGoS.of ?_;refine wk 3 ?_;refine aq 7 (Rt (ms := #[]) (r := true) (by kernel_rfl) (.inl ⟨rfl, rfl⟩)) ?_;refine wk 5 ?_;exact ⟨⟨[], trivial⟩, rfl, rfl⟩
theorem VD (C : Core) (s : ByteArray) (fuel : Int) (c : CM) : ACallD Try.prog 38 [.ptr 5 1 0 0, .ptr 4 1 0 0] (bE C s fuel c) (.panicking (Xd 87 c.m.fin)) (fun u' h' => settle u' = .returning /\ h' 4 = some (.row false 3 [FH c.m])) := by
 refine Gr (n := 23) Am Try.func38 rfl rfl ?_;refine AGoS.seq ?_;refine AGoS.region ?_;refine Pu 5 rfl ?_;refine AOpsS.nil ?_;refine AGoS.of ?_;refine wk 3 ?_;refine aq 7 (Rt (ms := #[]) (r := false) (by kernel_rfl) (.inr ⟨⟨_, _, rfl⟩, rfl⟩)) ?_;refine wk 4 ?_;refine aq 8 (P7 Am) ?_;refine wk 6 ?_;refine ax 3 (KJ Am 6) ?_;refine wk 2 ?_;refine AGo.ghost (.freezeCell 0 0 4 2 rfl rfl rfl rfl (by simp [As]) (by decide)) ?_;refine wk 7 ?_;refine dq 17 (F6 (l := c.m.out) Am rfl Wi rfl rfl rfl rfl rfl rfl) ?_;refine wk 7 ?_;exact ⟨⟨[], trivial⟩, rfl, rfl⟩
theorem W9 (C : Core) (s : ByteArray) (fuel : Int) (hfu : fuel <= 9223372036854775807) (hs : s.size <= 9223372036854775807) (hR : C.right = true) (hC : C.Ok) : APure Try.prog 25 [.agg C.cells, .str s, .int .i64 fuel] (fun r => r = .agg (FH (Fy C s (max fuel 0)))) := by
 have hr := D3 hR
 have hok := core_ok hC hR
 obtain ⟨g, hgl⟩ := At (l := C.funcs) (k := C.funcs.length - 1) (by have := hr.n0; omega)
 have hn0 := hr.n0
 have hn1 := hr.n1
 have hgm := List.mem_of_getElem? hgl
 have hbo : CS.okL C (C.funcs.length - 1) g.word g.body := (hok.fn _ g hgl).body
 have c0_good : (c0 C).good C.words.toNat := ⟨⟨by simp [c0], Ep _, by simp [c0]⟩, isW_zero⟩
 have hdo := Vz C s (max fuel 0) (by omega) hs hr hC hok (C.funcs.length - 1) _ g.word g.body (Nat.le_refl _) hbo (hC.funcs g hgm).body (hC.funcs g hgm).len (c0 C) c0_good rfl rfl
 refine APure.of_bodyF (n := 40) Am Try.func25 rfl rfl ?_;refine AGoF.seq ?_;refine AGoF.of ?_;refine agr ?_;refine ax 3 (F9 2 3) ?_;refine ax 6 (KJ Am 4) ?_;refine an ?_;refine AGoF.seq ?_;refine AGoF.of ?_;refine wk 5 ?_;refine dx 12 (DG Am (n := C.words.toNat) (m := C.words.toNat) 1 true rfl rfl rfl (by have := hr.w0; omega) (by have := hr.w0; omega) rfl rfl rfl rfl rfl (Nat.zero_lt_succ _) rfl (Nat.le_refl _) (by show 4 * C.words.toNat <= _; have := hr.w1; omega) (by simp only [maxLen]; have := hr.w1; omega)) ?_;refine wk 2 ?_;refine dq 15 (XL rfl rfl rfl) ?_;refine wk 1 ?_;refine dx 17 (F9 7 0) ?_;refine dx 7 (KJ Am 5) ?_;refine wk 2 ?_;refine AGoF.seq ?_;refine AGoF.region ?_;refine fq 18 (DB rfl rfl rfl) ?_;refine AOpsF.d rfl rfl rfl rfl ?_;refine AOpsF.nil ?_;refine AGoF.seq ?_;refine AGoF.ghost (.dryCell 0 0 4 2 1 true rfl rfl rfl rfl rfl (by decide)) ?_
 refine AGoF.ghost (.of_sub (s' := ⟨40, (Ad (Ad (Ad (Ad Bt 3 (.ptr 3 1 0 0)) 6 (.ptr 4 1 0 0)) 7 (.ptr 5 1 0 0)) 18 (.fn (.func 38) [] [.ptr 5 1 0 0, .ptr 4 1 0 0])), hput (bE C s (max fuel 0) (c0 C)) 3 (.row false 2 [C.cells])⟩) (Sub.mk' BH cI)) ?_
 rcases Bool.eq_false_or_eq_true ((Ao (BX C s (max fuel 0) (C.funcs.length - 1)) s (max fuel 0) g.body (c0 C)).m.fin == 0) with hf | hf
 .
  refine AGoF.draw mix ?_;refine wk 6 ?_;refine dq 25 (AI (r := .int .i64 ((C.funcs.length : Int) - 1)) rfl rfl rfl Yf) ?_;refine dq 26 (Ae Am rfl rfl rfl rfl rfl rfl (by omega) (Ds (by rw [show ((C.funcs.length : Int) - 1).toNat = C.funcs.length - 1 by omega]; exact hgl)) rfl) ?_
  refine wk 2 ?_;refine dx 29 (DY hdo hf Try.func39) ?_;refine wk 1 ?_;refine AGoF.seq ?_;refine AGoF.ghost (.freezeCell 0 0 4 2 rfl rfl rfl rfl (by simp [As]) (by decide)) ?_;refine AGoF.draw mix ?_;refine wk 4 ?_;refine dq 34 (F6 (l := (Ao (BX C s (max fuel 0) (C.funcs.length - 1)) s (max fuel 0) g.body (c0 C)).m.out) Am rfl Wi rfl rfl rfl rfl rfl rfl) ?_;refine wk 7 ?_;refine AGoF.ret ?_;refine ⟨⟨_, Try.func38, by kernel_rfl, rfl⟩, (· = _), Xh _, fun h' e => ?_⟩
  subst e
  refine ⟨[_], ⟨⟨_, _, _, _, rfl, rfl, .ptr _ _ _ _ _ _ _ _ rfl rfl rfl, rfl⟩, trivial⟩, ?_, rfl⟩
  rw [Vv hgl hf]
  rfl
 refine Q7 10 [true, true, true, true, true, true, true, true, true, true, false] mix (by kernel_rfl) rfl rfl rfl ?_;refine xq 19 (Ar Am rfl rfl rfl (.ptr _ _ _ _ _ _ _ _ rfl rfl rfl) rfl) ?_;refine xq 20 (Ax Am rfl rfl rfl rfl rfl rfl) ?_;refine xq 21 (Ar Am rfl rfl rfl (.ptr _ _ _ _ _ _ _ _ rfl rfl rfl) rfl) ?_;refine xq 22 (Ax Am rfl rfl rfl rfl rfl rfl) ?_;refine xq 23 (Ar Am rfl rfl rfl (.ptr _ _ _ _ _ _ _ _ rfl rfl rfl) rfl) ?_;refine xq 24 (XM Am rfl rfl rfl rfl rfl) ?_;refine xq 25 (AI (r := .int .i64 ((C.funcs.length : Int) - 1)) rfl rfl rfl Yf) ?_;refine xq 26 (Ae Am rfl rfl rfl rfl rfl rfl (by omega) (Ds (by rw [show ((C.funcs.length : Int) - 1).toNat = C.funcs.length - 1 by omega]; exact hgl)) rfl) ?_
 refine xq 27 (Ax Am rfl rfl rfl rfl rfl rfl) ?_;refine xq 28 (Ar Am rfl rfl rfl (.loc _) rfl) ?_;refine xn ?_;refine R7 ⟨_, _, _, B5 hdo hf Try.func39, fun ch e' he hch => ?_⟩
 subst hch
 refine ⟨⟨_, Try.func38, by kernel_rfl, rfl⟩, fun h' => h' 4 = _, .sub (by repeat (first | exact HSub.refl _ | exact HSub.none _ | exact CX _ | exact CC NN | refine HSub.put ?_ (by first | rfl) | refine CW ?_ NN | refine Di ?_ (by decide))) (VD C s (max fuel 0) _), fun h' e => ?_⟩
 refine ⟨[_], ⟨⟨_, _, _, _, he 6 rfl, rfl, .ptr _ _ _ _ _ _ _ _ e rfl rfl, rfl⟩, trivial⟩, ?_, rfl⟩
 rw [Xa hgl hf]
 rfl
theorem NC (C : Core) (s : ByteArray) (hC : C.Ok) : APure Try.prog 11 [.agg C.cells, .str s] (fun r => r = .bool true) := by
 refine APure.of_body (n := 43) Am Try.func11 rfl rfl ?_;refine HV ?_;refine ax 2 (F9 2 0) ?_;refine wk 5 ?_;refine ax 7 (CT Try.func12 (QY)) ?_;refine wk 8 ?_;refine ax 10 (CT Try.func13 (Vf C hC)) ?_;refine wk 2 ?_;refine A7 12 (fun hb1 => ?_) fun hb1 => ?_
 .
  refine wk 10 ?_;exact Pv
 refine wk 5 ?_;refine asp 16 (fun hb2 => ?_) fun hb2 => ?_
 .
  refine wk 5 ?_;exact Pv
 refine BM ?_
 have hL := Qi hC (by simpa using hb1)
 have hB := hL.bld
 have hs60_s : s.size <= 60 := by have h := hb2; simp at h; omega
 have hst := W8 C s 60
 refine wk 5 ?_;refine ax 19 (CT Try.func25 ((W9 C s 60 (by decide) (by omega) hL.r hL.ok).mono (fun r h => by rw [show max (60 : Int) 0 = 60 by decide] at h; exact h))) ?_
 refine ax 5 (KJ Am 1) ?_;refine wk 9 ?_;refine asp 22 (fun hb3 => ?_) fun hb3 => ?_
 .
  refine wk 5 ?_;exact Pv
 refine BM ?_
 have h5 : (Fy C s 60).fin ≠ 5 := by have h := hb3; simpa using h
 have hend := hB.ends h5 (Nat.le_refl _)
 refine wk 4 ?_;refine dx 24 (CT Try.func14 (LA C hB.ok hB.r hB.okL hB.partsL)) ?_;refine wk 4 ?_;refine dx 29 (CT Try.func19 (MB C ((Fy C s 60).steps : Int) hB.ok (by have := hB.parts; omega) hB.r.w0 (by have := hB.r.w1; omega) (by first | decide | omega) (by first | decide | omega))) ?_;refine dx 30 (CT Try.func26 (Pf C.build s (((((Fy C s 60).steps : Nat) : Int) + 1) * (C.k : Int)) hB.right hB.w (fun f hf x hx => Nat.le_trans (hB.ins f hf x hx) (by decide)) (by have := hB.funcs; omega) (by have := hL.kle; rw [Lc]; have h1 : ((Fy C s 60).steps + 1) * C.k <= 61 * 5608 := Nat.mul_le_mul (by omega) this; omega) (by omega))) ?_;refine dx 6 (KJ Am 2) ?_;refine wk 8 ?_;refine aq 35 (AI (r := .bool true) rfl rfl rfl (by simp only [A3, BA, isShift, cond_false, if_true]; rw [hend.1]; simp)) ?_;refine wk 5 ?_;refine aq 41 (AI (r := .bool true) rfl rfl rfl (by rw [hend.2]; simp [A3])) ?_
 refine wk 3 ?_;exact Pv
end Go.Proofs.Ytmfihmkopmgelaa.Sv
namespace Go.Proofs.Ytmfihmkopmgelaa
open Go.ChangeShapes Go.WideShapes Go.ChangeAt Go.RowKit Sv
set_option linter.unusedVariables false

set_option maxRecDepth 100000 in
theorem buildRuns_lifted (os : Os) (started : os.Started) (H : Type) (enc : TypeId × Value -> H) :
    ReturnsInHanded {} Try.checked os 11 .any (Rows.buildRunsSpec.pre6 enc Try.prog Try.f11 Rows.buildRunsRow.domain false) (Rows.buildRunsSpec.post enc Try.prog Try.f11 false true false false) := by
  refine returnsInHanded_of_change_sized (C := Try.checked) own' started (by kernel_rfl) Try.func11
    (ChangeSpec.witness6 (enc := enc) (C := Try.checked) false ⟨#[], #[.agg #[.int .i64 0, .slice none 0 0], .string ⟨#[]⟩], []⟩ 8 (by kernel_rfl) (by kernel_rfl) (by kernel_rfl) (by kernel_rfl)) ?_
  intro W base args ds gs before hval0 hW hcnd hwt0 hh
  have hval : ∀ (j : Nat) t v, Try.f11.params[j]? = some t -> args[j]? = some v -> Value.okWide Try.prog W .any base t v := hval0
  have hW' := hW
  obtain ⟨p, q, hA0, hV, rfl, hfz, hnd⟩ := hW
  have hA : DataW.TrodAll enc Try.prog W 0 (fun _ => true) true Try.f11.params.toList args.toList ds p := hA0
  have hwt : (DataW.weightsEach Try.prog (Try.f11.params.toList ++ Rows.buildRunsSpec.plain.varTypes Try.prog) (ds ++ gs)).all (· <= reachBytes) = true := hwt0
  rw [Try.params11] at hA hval hwt
  obtain ⟨v0, vs0, d0, ds0, p0, q0, hargs, rfl, rfl, h0, r0⟩ := trodAll_cons hA
  obtain ⟨v1, vs1, d1, ds1, p1, q1, rfl, rfl, rfl, h1, r1⟩ := trodAll_cons r0
  obtain ⟨rfl, rfl, rfl⟩ := trodAll_nil r1
  obtain rfl : args = #[v0, v1] := by cases args; simp_all
  obtain ⟨rfl, rfl⟩ := trodVars_none hV
  obtain ⟨x0, e0, g0⟩ := arg_one h0 (weightsEach_get hwt (i := 0) rfl rfl) decCore
  obtain ⟨x1, e1, g1⟩ := arg_one h1 (weightsEach_get hwt (i := 1) rfl rfl) decStr
  exact SS laidOut' rfl (by kernel_rfl) rfl bool' rfl rfl rfl hW' (.cons (e0.val (Qc Am rfl rfl (hval 0 24 v0 rfl rfl))) (.cons (e1.val1 (okWide_cellS Am rfl rfl (hval 1 9 v1 rfl rfl))) .nil)) (NC x0 x1 g0) (fun g l h => by cases h)

theorem buildRuns_holds : Rows.BuildRunsSaid :=
  OpenClaim.holds_of_wide 11 Try.f11 rfl rfl rfl rfl rfl rfl rfl ⟨rfl, rfl, rfl, rfl, rfl⟩ rfl rfl rfl rfl rfl (by kernel_rfl) Try.func11 (by kernel_rfl)
    (of_decide_eq_true (by kernel_rfl)) (by unfold Func.isWrapper; first | (rw [if_pos (by decide +kernel)]; kernel_rfl) | (rw [if_neg (by decide +kernel)]; exact ⟨rfl, rfl⟩))
    (fun os started H enc _ => buildRuns_lifted os started H enc)

end Go.Proofs.Ytmfihmkopmgelaa
