/-
  The law OptimizeChecks of the given program answers true for every input of the bulk that is named, and leaves its arguments as they were. Own work.
-/
import Derived.Test.YtbbfelelocccmaaGreatPOptimizeChecks2
import Derived.Test.YtbbfelelocccmaaGreatPOptimizeChecks3
import Derived.Test.YtbbfelelocccmaaGreatPOptimizeChecks4
import Derived.Deep.CondSized
import Derived.JoinedCond
import Derived.Test.YtbbfelelocccmaaGreatPOptimizeChecks6
set_option linter.unusedVariables false
set_option linter.unusedSimpArgs false
set_option maxRecDepth 100000
set_option maxHeartbeats 2000000
namespace Go.Proofs.YtbbfelelocccmaaGreat
open Go.ChangeShapes Go.WideShapes Go.ChangeAt Go.RowKit Sv
section
variable {H : Type} {enc : TypeId × Value → H} {W : World}
theorem decStr : Dec enc Tryz.prog W 9 (fun s : ByteArray => [.str s]) (fun s => s.size ≤ maxLen ∧ s.size ≤ reachBytes) := Dec.string' tok rfl rfl
end
end Go.Proofs.YtbbfelelocccmaaGreat
namespace Go.Proofs.YtbbfelelocccmaaGreat
open Go Go.ChangeShapes Go.WideShapes Go.ChangeAt Go.RowKit Sv
section
variable {H : Type} {enc : TypeId × Value → H} {W : World}
theorem decIntsR : DecR enc Tryz.prog W 25 (fun l : List Int => [intsAV l]) (fun l n => (∀ x ∈ l, isI x) ∧ l.length + 1 ≤ n) := fun fuel cs x h hw => by
  obtain ⟨l, h1, _, h2⟩ := DecR.slice' (j := ty3) tok rfl rfl rfl (Nat.zero_lt_succ _) (DecR.of (Dec.int' tok rfl rfl)) fuel cs x h hw
  refine ⟨l, h1, fun y hy => ?_, h2.len (fun a m h => h.2)⟩
  obtain ⟨m, hm, _⟩ := h2.all y hy; exact wf_i64 hm.1
theorem decPathsR : DecR enc Tryz.prog W 38 (fun l : List (List Int) => [pathsAV l]) (fun l n => l.length + 1 ≤ n ∧ ∀ r ∈ l, r.length + 1 ≤ n) := fun fuel cs x h hw => by
  obtain ⟨l, h1, _, h2⟩ := DecR.slice' (j := ty25) tok rfl rfl rfl (Nat.zero_lt_succ _) decIntsR fuel cs x h hw
  refine ⟨l, h1, h2.len (fun a m h => by have := h.2; omega), fun y hy => ?_⟩
  obtain ⟨m, hm, h3⟩ := h2.all y hy; have := hm.2; omega
theorem decBools : Dec enc Tryz.prog W 112 (fun l : List Bool => [boolsAV l]) (fun l => l.length * 1 ≤ reachBytes ∧ ∀ n ∈ l, True) := Dec.slice' (j := ty4) tok rfl rfl rfl (Nat.zero_lt_succ _) (Dec.bool' tok rfl rfl)
theorem decRowsR : DecR enc Tryz.prog W 35 (fun l : List (List Bool) => [rowsAV l]) (fun l n => l.length ≤ n) := fun fuel cs x h hw => by
  obtain ⟨l, h1, _, h2⟩ := DecR.slice' (j := ty112) tok rfl rfl rfl (Nat.zero_lt_succ _) (DecR.of decBools) fuel cs x h hw
  exact ⟨l, h1, by have := h2.len (fun a m h => h.2); omega⟩
theorem decCertR : DecR enc Tryz.prog W 37 Cert.cells (fun c n => c.same.length ≤ n) := fun fuel cs x h hw => by
  obtain ⟨hl, hp⟩ := struct_partsR tok (i := ty37) rfl rfl h hw
  have hl' : cs.length = 1 := hl
  obtain ⟨x0, a0, m0, b0, c0⟩ := hp 0 _ _ rfl decRowsR
  have k0 := app1 tok (n := 1) rfl rfl (Reads.nil W cs) a0 (by omega)
  exact ⟨⟨x0⟩, k0.all hl', (by show x0.length ≤ _; omega)⟩
def PassN (p : OPass) (n : Nat) : Prop := p.f.Ok ∧ isI p.kind ∧ p.f.count + 1 ≤ n ∧ p.paths.length ≤ n ∧ (∀ r ∈ p.paths, r.length ≤ n) ∧ p.cert.same.length ≤ n
theorem decPassR : DecR enc Tryz.prog W 43 OPass.cells PassN := fun fuel cs x h hw => by
  obtain ⟨hl, hp⟩ := struct_partsR (i := ty43) tok rfl rfl h hw
  have hl' : cs.length = 5 := hl
  obtain ⟨x0, a0, _, _, b0, _⟩ := hp 0 _ _ rfl (DecR.of (Dec.int' tok rfl rfl))
  obtain ⟨x1, a1, m1, c1, b1⟩ := hp 1 _ _ rfl decCertR
  obtain ⟨x2, a2, m2, c2, d2, e2⟩ := hp 2 _ _ rfl decPathsR
  obtain ⟨x3, a3, m3, c3, d3, e3⟩ := hp 3 _ _ rfl decBFuncR
  have k0 := app1 tok (n := 1) rfl rfl (Reads.nil W cs) a0 (by omega)
  have k1 := app1 tok (n := 1) rfl rfl k0 a1 (by omega)
  have k2 := app1 tok (n := 1) rfl rfl k1 a2 (by omega)
  have k3 := app1 tok (n := 2) rfl rfl k2 a3 (by omega)
  exact ⟨⟨x0, x1, x2, x3⟩, k3.all hl', d3, wf_i64 b0, (by show x3.count + 1 ≤ _; omega), (by show x2.length ≤ _; omega), fun r hr => by have := e2 r hr; omega, (by show x1.same.length ≤ _; omega)⟩
def ListsN (ls : List (List OPass)) (n : Nat) : Prop := ls.length + 1 ≤ n ∧ ∀ ps ∈ ls, ps.length ≤ n ∧ ∀ p ∈ ps, PassN p n
theorem PassN.mono {p : OPass} {m n : Nat} (h : PassN p m) (hm : m ≤ n) : PassN p n := ⟨h.1, h.2.1, Nat.le_trans h.2.2.1 hm, Nat.le_trans h.2.2.2.1 hm, fun r hr => Nat.le_trans (h.2.2.2.2.1 r hr) hm, Nat.le_trans h.2.2.2.2.2 hm⟩
theorem decListsR : DecR enc Tryz.prog W 28 (fun ls : List (List OPass) => [listAV ls]) ListsN := fun fuel cs x h hw => by
  obtain ⟨ls, h1, _, h2⟩ := DecR.slice' (j := ty34) tok rfl rfl rfl (Nat.zero_lt_succ _) (DecR.slice' (j := ty43) tok rfl rfl rfl (Nat.zero_lt_succ _) decPassR) fuel cs x h hw
  have one : ∀ (a : OPass) (m : Nat), PassN a m → 1 ≤ m := fun a m h => by have := h.2.2.1; omega
  refine ⟨ls, h1, h2.len (fun a m h => by have := h.2.len one; omega), fun ps hps => ?_⟩
  obtain ⟨m, ⟨_, hm⟩, h3⟩ := h2.all ps hps
  refine ⟨by have := hm.len one; omega, fun p hp => ?_⟩
  obtain ⟨k, hk, h4⟩ := hm.all p hp
  exact hk.mono (by omega)
theorem lists_row {ls : List (List OPass)} {n : Nat} (h : ListsN ls n) (hn : n ≤ 1048576) : ListLim ls := by
  refine ⟨by have := h.1; omega, fun ps hp => by have := (h.2 ps hp).1; omega, fun ps hp p hpp => ?_⟩
  have q := ((h.2 ps hp).2 p hpp).mono hn
  exact ⟨by have := q.2.2.1; omega, fun x hx => BFunc.Ok.insW q.1 hx, q.2.2.2.1, q.2.2.2.2.1⟩
theorem certs_row {ls : List (List OPass)} {n : Nat} (h : ListsN ls n) (hn : n ≤ 1048576) : ∀ ps ∈ ls, ∀ p ∈ ps, p.cert.same.length ≤ 1048576 := fun ps hp p hpp => (((h.2 ps hp).2 p hpp).mono hn).2.2.2.2.2
theorem words_row {b : Blocks} (h : b.Ok) : ∀ f ∈ b.funcs, f.words := fun f hf x hx => BFunc.Ok.insW (h.funcs f hf) hx
def AskN (z : Ask35) (n : Nat) : Prop := (z.old.Ok ∧ z.old.count + z.old.funcs.length ≤ n) ∧ (z.new.Ok ∧ z.new.count + z.new.funcs.length ≤ n) ∧ ListsN z.l n
theorem decAskR : DecR enc Tryz.prog W 48 Ask35.cells AskN := fun fuel cs x h hw => by
  obtain ⟨hl, hp⟩ := struct_partsR (i := ty48) tok rfl rfl h hw
  have hl' : cs.length = 6 := hl
  obtain ⟨x0, a0, m0, c0, d0, e0⟩ := hp 0 _ _ rfl decBlocksR
  obtain ⟨x1, a1, m1, c1, d1, e1⟩ := hp 1 _ _ rfl decBlocksR
  obtain ⟨x2, a2, m2, c2, d2, e2⟩ := hp 2 _ _ rfl decListsR
  obtain ⟨x3, a3, _, _, b3, _⟩ := hp 3 _ _ rfl (DecR.of decStr)
  have k0 := app1 tok (n := 2) rfl rfl (Reads.nil W cs) a0 (by omega)
  have k1 := app1 tok (n := 2) rfl rfl k0 a1 (by omega)
  have k2 := app1 tok (n := 1) rfl rfl k1 a2 (by omega)
  have k3 := app1 tok (n := 1) rfl rfl k2 a3 (by omega)
  refine ⟨⟨x0, x1, x2, x3⟩, k3.all hl', ⟨d0, (by show x0.count + x0.funcs.length ≤ _; omega)⟩, ⟨d1, (by show x1.count + x1.funcs.length ≤ _; omega)⟩, (by show x2.length + 1 ≤ _; omega), fun ps hps => ?_⟩
  have := e2 ps hps
  exact ⟨by omega, fun p hp => (this.2 p hp).mono (by omega)⟩
theorem ask_row {z : Ask35} {n : Nat} (h : AskN z n) (hn : n ≤ 1048576) : AskLim z := ⟨lim_row h.1 hn, lim_row h.2.1 hn, lists_row h.2.2 hn, words_row h.1.1, words_row h.2.1.1⟩
theorem askc_row {z : Ask35} {n : Nat} (h : AskN z n) (hn : n ≤ 1048576) : AskLim z ∧ ∀ ps ∈ z.l, ∀ p ∈ ps, p.cert.same.length ≤ 1048576 := ⟨ask_row h hn, certs_row h.2.2 hn⟩
end
end Go.Proofs.YtbbfelelocccmaaGreat
namespace Go.Proofs.YtbbfelelocccmaaGreat
open Go.ChangeShapes Go.WideShapes Go.ChangeAt Go.RowKit Sv
set_option linter.unusedVariables false

set_option maxRecDepth 100000 in
theorem optimizeChecks_lifted (os : Os) (started : os.Started) (H : Type) (enc : TypeId × Value → H) (F : Stop.Interp) :
    ReturnsInHanded {} Tryz.checked os 5 .any ((Rows.OpenSpec.upto Rows.optimizeChecksSpec).pre6 enc Tryz.prog Tryz.f5 Rows.optimizeChecksUptoRow.domain false) (((Rows.OpenSpec.upto Rows.optimizeChecksSpec).at F).post enc Tryz.prog Tryz.f5 false true false false) := by
  refine returnsInHanded_of_cond_sized (C := Tryz.checked) (s := Rows.OpenSpec.upto Rows.optimizeChecksSpec) (k := Rows.uptoSmall) rfl own' started (by kernel_rfl) Tryz.func5
    (OpenSpec.witness (enc := enc) (C := Tryz.checked) (s := Rows.OpenSpec.upto Rows.optimizeChecksSpec) (k := Rows.uptoSmall) rfl false ⟨#[], #[.agg #[.int .i64 0, .slice none 0 0, .int .i64 0, .slice none 0 0, .slice none 0 0, .string ⟨#[]⟩]], []⟩ 8 (by kernel_rfl) (by kernel_rfl) (by kernel_rfl) (x := ([.agg [.agg [.lit (.int .i64 0), .nil], .agg [.lit (.int .i64 0), .nil], .nil, .lit (.string [])]], [], [])) (by kernel_rfl) rfl (by kernel_rfl)) ?_
  intro W base args ds gs before hval0 hW hcnd hk hwt0 hh
  have hval : ∀ (j : Nat) t v, Tryz.f5.params[j]? = some t → args[j]? = some v → Value.okWide Tryz.prog W .any base t v := hval0
  have hW' := hW
  obtain ⟨p, q, hA0, hV, rfl, hfz, hnd⟩ := hW
  have hA : DataW.TrodAll enc Tryz.prog W 0 (fun _ => true) true Tryz.f5.params.toList args.toList ds p := hA0
  have hwt : (DataW.weightsEach Tryz.prog (Tryz.f5.params.toList ++ (Rows.OpenSpec.upto Rows.optimizeChecksSpec).bare.plain.varTypes Tryz.prog) (ds ++ gs)).all (· ≤ reachBytes) = true := hwt0
  rw [Tryz.params5] at hA hval hwt
  obtain ⟨v0, vs0, d0, ds0, p0, q0, hargs, rfl, rfl, h0, r0⟩ := trodAll_cons hA
  obtain ⟨rfl, rfl, rfl⟩ := trodAll_nil r0
  obtain rfl : args = #[v0] := by cases args; simp_all
  obtain ⟨rfl, rfl⟩ := trodVars_none hV
  obtain ⟨x0, e0, g0⟩ := arg_oneR h0 (weightsEach_get hwt (i := 0) rfl rfl) decAskR
  have u0 := upto_get hk (i := 0) rfl
  exact law_calls laidOut' rfl (by kernel_rfl) rfl bool' rfl rfl rfl hW' (.cons (e0.val (okWide_agg tok rfl rfl (hval 0 48 v0 rfl rfl))) .nil) (optimizeChecks_ok x0 (askc_row g0 u0)) (fun g l h => by cases h)

theorem optimizeChecks_holds : Rows.OptimizeChecksUptoSaid :=
  OpenClaim.holds_of_cond 5 Tryz.f5 rfl rfl rfl rfl rfl rfl rfl ⟨rfl, rfl, rfl, rfl, rfl⟩ rfl rfl rfl rfl rfl (by kernel_rfl) Tryz.func5 (by kernel_rfl)
    (of_decide_eq_true (by kernel_rfl)) (by unfold Func.isWrapper; first | (rw [if_pos (by decide +kernel)]; kernel_rfl) | (rw [if_neg (by decide +kernel)]; exact ⟨rfl, rfl⟩))
    (fun os started H enc _ F => optimizeChecks_lifted os started H enc F)

end Go.Proofs.YtbbfelelocccmaaGreat
