/-
  SMALL LEMMAS FOR THE WALKS OF FLOW: own work, over no program.
-/
import Derived.Test.YtidfabbnobipkaaSp20
namespace Go.Proofs.Ytidfabbnobipkaa.Sv
open Go
set_option linter.unusedVariables false
set_option linter.unusedSimpArgs false
theorem idx_mapZ {α : Type} {l : List α} {f : α → List AV} {n : Int} {x : α} (h : l[n.toNat]? = some x) : (l.map f)[n.toNat]? = some (f x) := by rw [List.getElem?_map, h]; rfl
theorem weak_nils (n : Nat) : ∀ (i : Nat) (cs cs' : List AV), (List.replicate n [AV.nil])[i]? = some cs → (List.replicate n [AV.lst false []])[i]? = some cs' → cs'.length = cs.length ∧ ∀ (j : Nat) (x y : AV), cs[j]? = some x → cs'[j]? = some y → y.cell1 = true ∧ ∀ H v, Rel H noLay x v → Rel H noLay y v := fun i cs cs' h1 h2 => by
  have e1 := List.eq_of_mem_replicate (List.mem_of_getElem? h1)
  have e2 := List.eq_of_mem_replicate (List.mem_of_getElem? h2)
  subst e1; subst e2
  refine ⟨rfl, fun j x y g1 g2 => ?_⟩
  cases j with
  | zero => simp at g1 g2; subst g1; subst g2; exact ⟨rfl, fun H v h => nil_empty h⟩
  | succ j => simp at g1
theorem dinto_eq {b : Int} {s : DS} {c : Bool} (h : notBeen s.been b = c) : dinto b s = bif c then ⟨s.been.set b.toNat true, s.way ++ [(b, 0)]⟩ else s := by rw [dinto, h]
theorem ies_eq {b : Int} {s : DS} {es : List (List AV)} {c : Bool} (h : notBeen s.been b = c) : ies b s es = bif c then pushE es s.way.length (wcell (b, 0)) else es := by rw [ies, h]
theorem been_set (l : List Bool) (b : Int) (v : Bool) : (l.map boolCells).set (0 + b.toNat) [AV.bool v] = (l.set b.toNat v).map boolCells := by
  rw [Nat.zero_add, List.map_set]; rfl
theorem way_seen_len {w : List (Int × Int)} {p0 : Int × Int} (hp : w.getLast? = some p0) (es : List (List AV)) (c : List AV) {p : Int × Int} {k : Nat} : ((es.length, w.length) : Nat × Nat) = ((es.set k c).length, (w.dropLast ++ [p]).length) := by
  have hpos : 0 < w.length := by rw [way_last hp]; simp
  simp; omega
theorem way_first {next : List (List Int)} {been : List Bool} (h : been.length = next.length) : WayIn next.length (DS.mk been []) ([] : List (List AV)) := by
  refine ⟨Nat.le_refl _, rfl, ?_⟩
  rw [← h]
  show 0 + unb been ≤ been.length
  clear h
  induction been with
  | nil => simp [unb]
  | cons x r ih => simp only [unb, List.map_cons, List.sum_cons, List.length_cons] at ih ⊢; cases x <;> simp <;> omega
theorem len_pred {n : Nat} (h : 0 < n) (h2 : n ≤ 100000000) : evalBin .sub (.int .i64 (n : Int)) (.int .i64 1) = some (.int .i64 ((n - 1 : Nat) : Int)) := by
  simp only [evalBin, evalInt, isShift, cond_false, if_true]
  rw [wrap_i64 (by omega) (by omega)]
  congr 2; omega
structure FW where
  s : DS
  es : List (List AV)
  g : Nat
structure FWInv (next : List (List Int)) (tgt : DS) (q : FW) : Prop where
  ok : q.s.ok next
  way : WayIn next.length q.s q.es
  gas : dmu next q.s < q.g
  tgt : drun next q.g q.s = tgt
theorem FWInv.first {next : List (List Int)} {been : List Bool} (h : been.length = next.length) : FWInv next (drun next (dmu next (dstart been) + 1) (dstart been)) ⟨dstart been, ies 0 (DS.mk been []) [], dmu next (dstart been) + 1⟩ :=
  ⟨dinto_ok ⟨h, fun p hp => by cases hp⟩, (way_first h).into, Nat.lt_succ_self _, rfl⟩
theorem FWInv.next {next : List (List Int)} {tgt : DS} {q : FW} (h : FWInv next tgt q) {s' : DS} {es' : List (List AV)} {p : Int × Int} (hp : q.s.way.getLast? = some p) (he : dstep next q.s = s') (hw : WayIn next.length s' es') : FWInv next tgt ⟨s', es', q.g - 1⟩ ∧ q.g - 1 < q.g := by
  have hne : q.s.way ≠ [] := fun e => by rw [e] at hp; simp at hp
  have h1 := dstep_mu h.ok hne
  have h2 := h.gas
  have h3 := dstep_ok h.ok
  rw [he] at h1 h3
  refine ⟨⟨h3, hw, by show dmu next s' < q.g - 1; omega, ?_⟩, by omega⟩
  obtain ⟨g, hg⟩ : ∃ g, q.g = g + 1 := ⟨q.g - 1, by omega⟩
  have h4 := h.tgt
  rw [hg, drun_step hne, he] at h4
  rw [hg]; exact h4
theorem dstep_in {next : List (List Int)} {s : DS} {b i : Int} (hp : s.way.getLast? = some (b, i)) (h : i < (rowAt next b).length) : dstep next s = dinto (((rowAt next b)[i.toNat]?).getD 0) ⟨s.been, s.way.dropLast ++ [(b, i + 1)]⟩ := by
  have h' : decide (i < ((rowAt next b).length : Int)) = true := by simpa using h
  simp only [dstep, hp, h', cond_true]
theorem dstep_out {next : List (List Int)} {s : DS} {b i : Int} (hp : s.way.getLast? = some (b, i)) (h : ¬ i < (rowAt next b).length) : dstep next s = ⟨s.been, s.way.dropLast⟩ := by
  have h' : decide (i < ((rowAt next b).length : Int)) = false := by simpa using h
  simp only [dstep, hp, h', cond_false]
theorem dinto_len (b : Int) (s : DS) : (dinto b s).been.length = s.been.length := by
  unfold dinto; cases notBeen s.been b <;> simp
theorem dstep_len (next : List (List Int)) (s : DS) : (dstep next s).been.length = s.been.length := by
  unfold dstep
  split
  · rfl
  · rename_i b i e
    cases decide (i < (rowAt next b).length) with
    | true => simp only [cond_true]; rw [dinto_len]
    | false => rfl
theorem drun_len (next : List (List Int)) : ∀ (g : Nat) (s : DS), (drun next g s).been.length = s.been.length
  | 0, s => rfl
  | g + 1, s => by
    unfold drun
    split
    · rfl
    · rw [drun_len next g, dstep_len]
theorem dreach_length (next : List (List Int)) (been : List Bool) : (dreach next been).length = been.length := by
  rw [dreach, drun_len, dstart, dinto_len]
theorem FWInv.done {next : List (List Int)} {tgt : DS} {q : FW} (h : FWInv next tgt q) (hn : q.s.way = []) : q.s = tgt := by
  have := h.tgt
  rwa [drun_end hn] at this
end Go.Proofs.Ytidfabbnobipkaa.Sv
