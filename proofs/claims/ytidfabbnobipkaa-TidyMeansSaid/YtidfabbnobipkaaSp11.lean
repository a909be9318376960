/-
  FOLDING INSTRUCTION BY INSTRUCTION, WITH TWO ROWS IN PLACE OF A MAP, IN PLAIN LEAN: own work, over no program.
-/
import Derived.Test.YtidfabbnobipkaaSp10
import Derived.Test.YtidfabbnobipkaaSp5
namespace Go.Proofs.Ytidfabbnobipkaa.Sv
open Go
set_option linter.unusedVariables false
set_option linter.unusedSimpArgs false

theorem pget_pset (z y v : Int) : ∀ K : WMap, pget y (pset z v K) = bif y == z then some v else pget y K
  | [] => rfl
  | (k, u) :: r => by
    have ih := pget_pset z y v r
    unfold pset
    cases hz : z == k with
    | true =>
      have hz' : z = k := by simpa using hz
      subst hz'
      simp only [cond_true, pget]
      cases y == z <;> rfl
    | false =>
      simp only [cond_false, pget, ih]
      cases hy : y == k with
      | true =>
        have hy' : y = k := by simpa using hy
        subst hy'
        have : (y == z) = false := by simp at hz ⊢; omega
        rw [this]; rfl
      | false => rfl
def ukeys (K : WMap) : Prop := (K.map (·.1)).Nodup
theorem pget_none {z : Int} : ∀ {K : WMap}, z ∉ K.map (·.1) → pget z K = none
  | [], _ => rfl
  | (k, u) :: r, h => by
    simp only [List.map_cons, List.mem_cons, not_or] at h
    unfold pget
    rw [show (z == k) = false by simp; exact h.1]
    exact pget_none h.2
theorem pget_pdel (z y : Int) : ∀ {K : WMap}, ukeys K → pget y (pdel z K) = bif y == z then none else pget y K
  | [], _ => by simp [pdel, pget]
  | (k, u) :: r, h => by
    unfold ukeys at h
    simp only [List.map_cons, List.nodup_cons] at h
    have ih := pget_pdel z y (K := r) h.2
    unfold pdel
    cases hz : z == k with
    | true =>
      have hz' : z = k := by simpa using hz
      subst hz'
      simp only [cond_true, pget]
      cases hy : y == z with
      | true =>
        have hy' : y = z := by simpa using hy
        subst hy'
        simp only [cond_true]
        exact pget_none h.1
      | false => rfl
    | false =>
      simp only [cond_false, pget, ih]
      cases hy : y == k with
      | true =>
        have hy' : y = k := by simpa using hy
        subst hy'
        have : (y == z) = false := by simp at hz ⊢; omega
        rw [this]; rfl
      | false => rfl
theorem pset_keys {z v : Int} {y : Int} : ∀ {K : WMap}, y ∈ (pset z v K).map (·.1) → y = z ∨ y ∈ K.map (·.1)
  | [], h => by simp [pset] at h; exact .inl h
  | (k, u) :: r, h => by
    unfold pset at h
    cases hz : z == k with
    | true => rw [hz] at h; simp only [cond_true, List.map_cons, List.mem_cons] at h ⊢; rcases h with h | h <;> simp [h]
    | false =>
      rw [hz] at h
      simp only [cond_false, List.map_cons, List.mem_cons] at h ⊢
      rcases h with h | h
      · exact .inr (.inl h)
      · rcases pset_keys h with h | h
        · exact .inl h
        · exact .inr (.inr h)
theorem pdel_keys {z : Int} {y : Int} : ∀ {K : WMap}, y ∈ (pdel z K).map (·.1) → y ∈ K.map (·.1)
  | [], h => by simp [pdel] at h
  | (k, u) :: r, h => by
    unfold pdel at h
    cases hz : z == k with
    | true => rw [hz] at h; simp only [cond_true] at h; simp only [List.map_cons, List.mem_cons]; exact .inr h
    | false =>
      rw [hz] at h
      simp only [cond_false, List.map_cons, List.mem_cons] at h ⊢
      rcases h with h | h
      · exact .inl h
      · exact .inr (pdel_keys h)
theorem ukeys_pset {z v : Int} : ∀ {K : WMap}, ukeys K → ukeys (pset z v K)
  | [], _ => by simp [ukeys, pset]
  | (k, u) :: r, h => by
    unfold ukeys at h ⊢
    simp only [List.map_cons, List.nodup_cons] at h
    unfold pset
    cases hz : z == k with
    | true => simp only [cond_true, List.map_cons, List.nodup_cons]; exact h
    | false =>
      simp only [cond_false, List.map_cons, List.nodup_cons]
      refine ⟨fun hm => ?_, ukeys_pset h.2⟩
      rcases pset_keys hm with e | e
      · simp at hz; omega
      · exact h.1 e
theorem ukeys_pdel {z : Int} : ∀ {K : WMap}, ukeys K → ukeys (pdel z K)
  | [], _ => by simp [ukeys, pdel]
  | (k, u) :: r, h => by
    unfold ukeys at h ⊢
    simp only [List.map_cons, List.nodup_cons] at h
    unfold pdel
    cases hz : z == k with
    | true => simp only [cond_true]; exact h.2
    | false =>
      simp only [cond_false, List.map_cons, List.nodup_cons]
      exact ⟨fun hm => h.1 (pdel_keys hm), ukeys_pdel h.2⟩
theorem ukeys_fnext {K : WMap} (h : ukeys K) (t : Tac) : ukeys (fnext K t) := by
  unfold fnext
  cases decide (t.sets < 0) with
  | true => exact h
  | false => cases t.op == 1 with
    | true => exact ukeys_pset h
    | false => exact ukeys_pdel h
theorem ukeys_fknow (l : List Tac) : ∀ k, ukeys (fknow l k)
  | 0 => by simp [fknow, ukeys]
  | k + 1 => by
    cases hx : l[k]? with
    | some x => rw [fknow_succ hx]; exact ukeys_fnext (ukeys_fknow l k) _
    | none =>
      have := List.getElem?_eq_none_iff.1 hx
      have : fknow l (k + 1) = fknow l k := by unfold fknow; rw [List.take_of_length_le (by omega), List.take_of_length_le (by omega)]
      rw [this]; exact ukeys_fknow l k

/-- what is known of each register -/
def kAt (r : Nat) (l : List Tac) (k : Nat) : List Bool := (List.range r).map fun (i : Nat) => (pget (i : Int) (fknow l k)).isSome
def vput (vb : List Int) (u : Tac) : List Int := bif decide (u.sets < 0) then vb else vb.set u.sets.toNat u.n
/-- what was set last -/
def vAt (r : Nat) (l : List Tac) : Nat → List Int
  | 0 => List.replicate r 0
  | k + 1 => match l[k]? with
    | some x => vput (vAt r l k) (fstep (fknow l k) x)
    | none => vAt r l k
theorem vAt_succ {r : Nat} {l : List Tac} {k : Nat} {x : Tac} (hx : l[k]? = some x) : vAt r l (k + 1) = vput (vAt r l k) (fstep (fknow l k) x) := by
  simp only [vAt, hx]
theorem kAt_length (r : Nat) (l : List Tac) (k : Nat) : (kAt r l k).length = r := by simp [kAt]
theorem vput_length (vb : List Int) (u : Tac) : (vput vb u).length = vb.length := by
  unfold vput; cases decide (u.sets < 0) <;> simp
theorem vAt_length (r : Nat) (l : List Tac) : ∀ k, (vAt r l k).length = r
  | 0 => by simp [vAt]
  | k + 1 => by
    unfold vAt
    split
    · rw [vput_length, vAt_length r l k]
    · exact vAt_length r l k
theorem kAt_zero (r : Nat) (l : List Tac) : (kAt r l 0).map boolCells = List.replicate r [AV.bool false] := by
  apply List.ext_getElem?
  intro i
  simp only [kAt, fknow, List.take_zero, List.foldl_nil, pget, List.map_map, List.getElem?_map, List.getElem?_replicate]
  by_cases hi : i < r
  · simp [hi, boolCells]
  · simp [hi]
theorem kAt_get {r : Nat} {l : List Tac} {k : Nat} {z : Int} (h : 0 ≤ z ∧ z < r) : ((kAt r l k).map boolCells)[0 + z.toNat]? = some [AV.bool (pget z (fknow l k)).isSome] := by
  have hz : ((z.toNat : Nat) : Int) = z := Int.toNat_of_nonneg h.1
  have hlt : z.toNat < r := by omega
  rw [Nat.zero_add, kAt, List.map_map, List.getElem?_map, List.getElem?_range hlt]
  simp only [Option.map_some, Function.comp, boolCells, hz]
theorem vAt_get {r : Nat} {l : List Tac} : ∀ {k : Nat} {z v : Int}, 0 ≤ z ∧ z < r → pget z (fknow l k) = some v → (vAt r l k)[z.toNat]? = some v
  | 0, z, v, _, h => by simp [fknow, pget] at h
  | k + 1, z, v, hz, h => by
    have hl := vAt_length r l k
    cases hx : l[k]? with
    | none =>
      have := List.getElem?_eq_none_iff.1 hx
      have e : fknow l (k + 1) = fknow l k := by unfold fknow; rw [List.take_of_length_le (by omega), List.take_of_length_le (by omega)]
      simp only [vAt, hx]
      rw [e] at h
      exact vAt_get hz h
    | some x =>
      rw [vAt_succ hx]
      rw [fknow_succ hx] at h
      revert h
      generalize hu : fstep (fknow l k) x = u
      intro h
      unfold fnext at h
      unfold vput
      cases hs : decide (u.sets < 0) with
      | true =>
        rw [hs] at h
        exact vAt_get hz h
      | false =>
        rw [hs] at h
        have hs' : 0 ≤ u.sets := by simpa using hs
        simp only [cond_false] at h ⊢
        by_cases he : z = u.sets
        · subst he
          cases hop : u.op == 1 with
          | true =>
            rw [hop, cond_true, pget_pset] at h
            simp at h
            subst h
            rw [List.getElem?_set_self (by omega)]
          | false =>
            rw [hop, cond_false, pget_pdel _ _ (ukeys_fknow l k)] at h
            simp at h
        · have hne : (z == u.sets) = false := by simpa using he
          have h2 : pget z (fknow l k) = some v := by
            cases hop : u.op == 1 with
            | true => rw [hop, cond_true, pget_pset, hne] at h; exact h
            | false => rw [hop, cond_false, pget_pdel _ _ (ukeys_fknow l k), hne] at h; exact h
          rw [List.getElem?_set_ne (by omega)]
          exact vAt_get hz h2
theorem vAt_cell {r : Nat} {l : List Tac} {k : Nat} {z v : Int} (hz : 0 ≤ z ∧ z < r) (h : pget z (fknow l k) = some v) : ((vAt r l k).map (fun n => [AV.int .u32 n]))[0 + z.toNat]? = some [AV.int .u32 v] := by
  rw [Nat.zero_add, List.getElem?_map, vAt_get hz h]; rfl
theorem kAt_set {r : Nat} {l : List Tac} {k : Nat} {x u : Tac} (hx : l[k]? = some x) (hu : u = fstep (fknow l k) x) (hs : 0 ≤ u.sets) (hr : u.sets < r) {b : Bool} (hb : b = (u.op == 1)) : ((kAt r l k).map boolCells).set (0 + u.sets.toNat) [AV.bool b] = (kAt r l (k + 1)).map boolCells := by
  apply List.ext_getElem?
  intro i
  have hlen := kAt_length r l k
  rw [Nat.zero_add, List.getElem?_set]
  simp only [List.length_map, hlen]
  simp only [List.getElem?_map, kAt, fknow_succ hx, ← hu, List.length_range]
  by_cases hi : i < r
  · rw [List.getElem?_range hi]
    have hs' : decide (u.sets < 0) = false := by simpa using hs
    simp only [Option.map_some, fnext, hs', cond_false, boolCells]
    by_cases he : u.sets.toNat = i
    · have hz : (i : Int) = u.sets := by omega
      rw [if_pos he, if_pos (by first | omega | (simp; omega)), hz, hb]
      cases hop : u.op == 1 with
      | true => rw [cond_true, pget_pset]; simp
      | false => rw [cond_false, pget_pdel _ _ (ukeys_fknow l k)]; simp
    · have hne : ((i : Int) == u.sets) = false := by simp; omega
      rw [if_neg he]
      cases hop : u.op == 1 with
      | true => rw [cond_true, pget_pset, hne]; rfl
      | false => rw [cond_false, pget_pdel _ _ (ukeys_fknow l k), hne]; rfl
  · rw [List.getElem?_eq_none (by simp; omega)]
    by_cases he : u.sets.toNat = i
    · rw [if_pos he, if_neg (by first | omega | (simp; omega))]; simp
    · rw [if_neg he]; simp
theorem kAt_skip {r : Nat} {l : List Tac} {k : Nat} {x u : Tac} (hx : l[k]? = some x) (hu : u = fstep (fknow l k) x) (hs : u.sets < 0) : kAt r l k = kAt r l (k + 1) := by
  have hs' : decide (u.sets < 0) = true := by simpa using hs
  simp only [kAt, fknow_succ hx, ← hu, fnext, hs', cond_true]
theorem vAt_set {r : Nat} {l : List Tac} {k : Nat} {x u : Tac} (hx : l[k]? = some x) (hu : u = fstep (fknow l k) x) (hs : 0 ≤ u.sets) : ((vAt r l k).map (fun n => [AV.int .u32 n])).set (0 + u.sets.toNat) [AV.int .u32 u.n] = (vAt r l (k + 1)).map (fun n => [AV.int .u32 n]) := by
  have hs' : decide (u.sets < 0) = false := by simpa using hs
  rw [vAt_succ hx, ← hu, vput, hs', Nat.zero_add, cond_false, List.map_set]
theorem vAt_skip {r : Nat} {l : List Tac} {k : Nat} {x u : Tac} (hx : l[k]? = some x) (hu : u = fstep (fknow l k) x) (hs : u.sets < 0) : vAt r l k = vAt r l (k + 1) := by
  have hs' : decide (u.sets < 0) = true := by simpa using hs
  rw [vAt_succ hx, ← hu, vput, hs', cond_true]
/-- copies alone -/
def cstep (K : WMap) (t : Tac) : Tac := bif t.op == 2 && (pget t.a K).isSome then konst t.d ((pget t.a K).getD 0) else t
theorem cstep_op3 {K : WMap} {t u : Tac} (hu : u = cstep K t) (h : u.op = 3) : t = u := by
  subst hu
  unfold cstep at *
  cases e : t.op == 2 && (pget t.a K).isSome with
  | true => rw [e] at h; simp [konst] at h
  | false => rfl
theorem cstep_not2 {K : WMap} {t : Tac} (h : (t.op == 2) = false) : t = cstep K t := by simp [cstep, h]
theorem cstep_unk {K : WMap} {t : Tac} (h : (pget t.a K).isSome = false) : t = cstep K t := by simp [cstep, h]
theorem cstep_not3 {K : WMap} {t u : Tac} (hu : u = cstep K t) (h' : (u.op == 3) = false) : u = fstep K t := by
  have h : ¬ u.op = 3 := by simpa using h'
  subst hu
  unfold cstep at *
  cases e2 : t.op == 2 with
  | true =>
    cases e : (pget t.a K).isSome with
    | true => simp [fstep, fvalue, e2, e]
    | false => simp [fstep, fvalue, e2, e]
  | false =>
    simp only [e2, Bool.false_and, cond_false] at h ⊢
    have h3 : (t.op == 3) = false := by simpa using h
    simp [fstep, fvalue, e2, h3]
theorem cstep_bad {K : WMap} {t : Tac} (h : t.op = 3) (hn : (pget t.a K).isSome = false ∨ (pget t.b K).isSome = false) : t = fstep K t := by
  simp only [fstep, fvalue, h]
  rcases hn with hn | hn <;> simp [hn]
theorem cstep_zero {K : WMap} {t : Tac} {va vb : Int} (h : t.op = 3) (ha : pget t.a K = some va) (hb : pget t.b K = some vb) (hn' : ((wapp t.k va vb).2 == 0) = false) : t = fstep K t := by
  simp [fstep, fvalue, h, ha, hb, hn']
theorem cstep_val {K : WMap} {t : Tac} {va vb : Int} (h : t.op = 3) (ha : pget t.a K = some va) (hb : pget t.b K = some vb) (hn : ((wapp t.k va vb).2 == 0) = true) : konst t.d (wapp t.k va vb).1 = fstep K t := by
  simp [fstep, fvalue, h, ha, hb, hn]
/-- its registers are there -/
def Tac.inR (t : Tac) (regs : Int) : Prop := (setsOp t.op = true → 0 ≤ t.d ∧ t.d < regs) ∧ ∀ u ∈ t.uses, 0 ≤ u ∧ u < regs
theorem fits_inR {t : Tac} {f regs words : Int} (h : t.fits f regs words = true) : t.inR regs := by
  simp only [Tac.fits, Bool.and_eq_true, Bool.or_eq_true, Bool.not_eq_true', List.all_eq_true, within, decide_eq_true_eq] at h
  refine ⟨fun hs => ?_, fun u hu => h.2.2.2.1 u hu⟩
  rcases h.2.2.1 with h | h
  · rw [hs] at h; cases h
  · exact h
theorem fstep_sets {K : WMap} {t : Tac} {regs : Int} (h : t.inR regs) (hs : 0 ≤ (fstep K t).sets) : (fstep K t).sets < regs := by
  unfold fstep at *
  cases hv : (fvalue t K).2 with
  | false =>
    rw [hv] at hs
    simp only [cond_false] at hs ⊢
    unfold Tac.sets at *
    cases e : setsOp t.op with
    | true => exact (h.1 e).2
    | false => rw [e] at hs; simp at hs
  | true =>
    have e : setsOp t.op = true := by
      unfold fvalue at hv
      cases e2 : t.op == 2 with
      | true => simp at e2; simp [setsOp, e2]
      | false =>
        cases e3 : t.op == 3 with
        | true => simp at e3; simp [setsOp, e3]
        | false => rw [e2, e3] at hv; simp at hv
    exact (h.1 e).2
theorem inR_a {t : Tac} {regs : Int} (h : t.inR regs) (ho : t.op = 2 ∨ t.op = 3) : 0 ≤ t.a ∧ t.a < regs := h.2 _ (by rcases ho with ho | ho <;> simp [Tac.uses, use1, use2, ho])
theorem inR_b {t : Tac} {regs : Int} (h : t.inR regs) (ho : t.op = 3) : 0 ≤ t.b ∧ t.b < regs := h.2 _ (by simp [Tac.uses, use1, use2, ho])
theorem pget_isW {K : WMap} (h : allW K) {z v : Int} (hv : pget z K = some v) : isW v := by
  have := pget_w h z
  rw [hv] at this; exact this
theorem small_inR {b : Blocks} {most : Int} (h : b.small most = true) {i : Nat} {f : BFunc} (hf : b.funcs[i]? = some f) : ∀ x ∈ f.blocks, ∀ t ∈ x.ins, t.inR f.regs := fun x hx t ht =>
  fits_inR (((one_spec ((right_spec (small_spec h).2.2.2.2).2.2.2 i f hf)).2.2.2 x hx).2 t ht)
end Go.Proofs.Ytidfabbnobipkaa.Sv
