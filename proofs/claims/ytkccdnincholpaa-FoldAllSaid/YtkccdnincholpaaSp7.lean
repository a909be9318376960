/-
  THE LAW FoldAll, IN PLAIN LEAN: own work, over no program.
-/
import Derived.Test.YtkccdnincholpaaSp6
namespace Go.Proofs.Ytkccdnincholpaa.Sv
open Go
set_option linter.unusedVariables false
set_option linter.unusedSimpArgs false

theorem pget_pset_same (z v : Int) : ∀ K : WMap, pget z (pset z v K) = some v
  | [] => by simp [pset, pget]
  | (k, u) :: r => by
    unfold pset
    cases h : z == k with
    | true => simp only [cond_true, pget, h]
    | false => simp only [cond_false, pget, h]; exact pget_pset_same z v r
theorem pget_pset_ne {z y v : Int} (hne : y ≠ z) : ∀ K : WMap, pget y (pset z v K) = pget y K
  | [] => by
    have : (y == z) = false := by simpa using hne
    simp [pset, pget, this]
  | (k, u) :: r => by
    unfold pset
    cases h : z == k with
    | true =>
      have hk : z = k := by simpa using h
      have : (y == k) = false := by rw [← hk]; simpa using hne
      simp only [cond_true, pget, this, cond_false]
    | false =>
      simp only [cond_false, pget]
      cases y == k with
      | true => rfl
      | false => exact pget_pset_ne hne r

/-- all that is known of the registers -/
def Knows (K : WMap) (vals : List Int) : Prop := ∀ (r : Nat) (v : Int), vals[r]? = some v → pget (r : Int) K = some v
theorem Knows.set {K : WMap} {vals : List Int} (h : Knows K vals) {d : Nat} {v : Int} (hd : d < vals.length) : Knows (pset (d : Int) v K) (vals.set d v) := fun r u hr => by
  by_cases hrd : r = d
  · subst hrd
    rw [List.getElem?_set_self hd] at hr
    cases hr
    exact pget_pset_same _ _ _
  · rw [List.getElem?_set_ne (Ne.symm hrd)] at hr
    rw [pget_pset_ne (by omega)]
    exact h r u hr
theorem Knows.push {K : WMap} {vals : List Int} (h : Knows K vals) (v : Int) : Knows (pset (vals.length : Int) v K) (vals ++ [v]) := fun r u hr => by
  by_cases hrd : r = vals.length
  · subst hrd
    rw [List.getElem?_append_right (by omega)] at hr
    simp at hr
    subst hr
    exact pget_pset_same _ _ _
  · have hlt : r < vals.length := by
      have := (List.getElem?_eq_some_iff.1 hr).1
      simp at this
      omega
    rw [List.getElem?_append_left hlt] at hr
    rw [pget_pset_ne (by omega)]
    exact h r u hr

/-- the first part: registers are set -/
def faFirst (i : Nat) : List Int → List Tac
  | [] => []
  | v :: r => konst (i : Int) v :: faFirst (i + 1) r
/-- a step: op 0: a copy -/
structure FaOp where
  op : Int
  d : Nat
  a : Nat
  b : Nat
def FaOp.tac (o : FaOp) : Tac := bif o.op == 0 then ⟨2, o.d, o.a, 0, 0, 0, 0, 0⟩ else ⟨3, o.d, o.a, o.b, o.op, 0, 0, 0⟩
def FaOp.val (o : FaOp) (vals : List Int) : Int := bif o.op == 0 then (vals[o.a]?).getD 0 else (wapp o.op ((vals[o.a]?).getD 0) ((vals[o.b]?).getD 0)).1
def faVals : List Int → List FaOp → List Int
  | vals, [] => vals
  | vals, o :: r => faVals (vals.set o.d (o.val vals)) r
def faWant : List Int → List FaOp → List Tac
  | _, [] => []
  | vals, o :: r => konst (o.d : Int) (o.val vals) :: faWant (vals.set o.d (o.val vals)) r
/-- it may be: registers that there are, and an operation that never fails -/
def FaOp.fine (o : FaOp) (n : Nat) : Prop := o.d < n ∧ o.a < n ∧ o.b < n ∧ (o.op = 0 ∨ o.op ∈ [4, 5, 6, 9, 10, 11, 12, 13, 14, 15])

theorem wapp_ok {op a b : Int} (h : op ∈ [4, 5, 6, 9, 10, 11, 12, 13, 14, 15]) : (wapp op a b).2 = 0 := by
  simp only [List.mem_cons, List.mem_nil_iff, or_false] at h
  rcases h with rfl | rfl | rfl | rfl | rfl | rfl | rfl | rfl | rfl | rfl <;> simp [wapp]

theorem fa_first : ∀ (first : List Int) (pre : List Int) (K : WMap) (rest : List Tac), Knows K pre → ∃ K', Knows K' (pre ++ first) ∧ foldIns K (faFirst pre.length first ++ rest) = faFirst pre.length first ++ foldIns K' rest
  | [], pre, K, rest, h => ⟨K, by simpa using h, rfl⟩
  | v :: r, pre, K, rest, h => by
    have hn : fnext K (konst (pre.length : Int) v) = pset (pre.length : Int) v K := by
      have : decide ((pre.length : Int) < 0) = false := by simp
      simp [fnext, konst, Tac.sets, setsOp, this]
    obtain ⟨K', k1, k2⟩ := fa_first r (pre ++ [v]) _ rest (h.push v)
    refine ⟨K', by simpa using k1, ?_⟩
    simp only [faFirst, List.cons_append, foldIns, fstep_konst, hn, List.cons.injEq, true_and]
    simpa using k2
theorem fa_step {K : WMap} {vals : List Int} {o : FaOp} (h : Knows K vals) (ho : o.fine vals.length) : fstep K o.tac = konst (o.d : Int) (o.val vals) := by
  obtain ⟨h1, h2, h3, h4⟩ := ho
  have ea : vals[o.a]? = some vals[o.a] := List.getElem?_eq_getElem h2
  have eb : vals[o.b]? = some vals[o.b] := List.getElem?_eq_getElem h3
  have ka := h o.a _ ea
  have kb := h o.b _ eb
  rcases h4 with h4 | h4
  · have ht : o.tac = ⟨2, o.d, o.a, 0, 0, 0, 0, 0⟩ := by simp [FaOp.tac, h4]
    have hv : o.val vals = vals[o.a] := by simp [FaOp.val, h4, ea]
    rw [ht, hv]
    simp [fstep, fvalue, ka]
  · have h0 : (o.op == 0) = false := by
      rw [beq_eq_false_iff_ne]
      intro h; rw [h] at h4; simp at h4
    have ht : o.tac = ⟨3, o.d, o.a, o.b, o.op, 0, 0, 0⟩ := by simp [FaOp.tac, h0]
    have hv : o.val vals = (wapp o.op vals[o.a] vals[o.b]).1 := by simp [FaOp.val, h0, ea, eb]
    rw [ht, hv]
    simp [fstep, fvalue, ka, kb, wapp_ok h4]
theorem fa_rest : ∀ (ops : List FaOp) (vals : List Int) (K : WMap), Knows K vals → (∀ o ∈ ops, o.fine vals.length) → foldIns K (ops.map FaOp.tac) = faWant vals ops
  | [], _, _, _, _ => rfl
  | o :: r, vals, K, h, ho => by
    have h1 := fa_step h (ho o (by simp))
    have hn : fnext K (konst (o.d : Int) (o.val vals)) = pset (o.d : Int) (o.val vals) K := by
      have : decide ((o.d : Int) < 0) = false := by simp
      simp [fnext, konst, Tac.sets, setsOp, this]
    simp only [List.map_cons, foldIns, faWant, h1, hn, List.cons.injEq, true_and]
    exact fa_rest r _ _ (h.set (ho o (by simp)).1) (fun p hp => by rw [List.length_set]; exact ho p (by simp [hp]))
theorem fa_law (first : List Int) (ops : List FaOp) (ho : ∀ o ∈ ops, o.fine first.length) : foldIns [] (faFirst 0 first ++ ops.map FaOp.tac) = faFirst 0 first ++ faWant first ops := by
  obtain ⟨K', k1, k2⟩ := fa_first first [] [] (ops.map FaOp.tac) (fun r v h => by simp at h)
  have := fa_rest ops first K' (by simpa using k1) ho
  rw [← this]
  exact k2

/-! ### as the program has it -/
structure Quad where
  q0 : Int
  q1 : Int
  q2 : Int
  q3 : Int
def Quad.cells (q : Quad) : List AV := [.int .u8 q.q0, .int .u8 q.q1, .int .u8 q.q2, .int .u8 q.q3]
def isB (n : Int) : Prop := 0 ≤ n ∧ n ≤ 255
structure Quad.Ok (q : Quad) : Prop where
  q0 : isB q.q0
  q1 : isB q.q1
  q2 : isB q.q2
  q3 : isB q.q3
def faTab : List Int := [4, 5, 6, 9, 10, 11, 12, 13, 14, 15]
def Quad.op (q : Quad) : Int := bif decide (q.q0.tmod 4 > 0) then (faTab[q.q0.toNat % 10]?).getD 0 else 0
def Quad.fa (n : Nat) (q : Quad) : FaOp := ⟨q.op, q.q1.toNat % n, q.q2.toNat % n, q.q3.toNat % n⟩
theorem faTab_get {i : Nat} (h : i < 10) : ∃ v, faTab[i]? = some v ∧ v ∈ [4, 5, 6, 9, 10, 11, 12, 13, 14, 15] := by
  have hl : i < faTab.length := h
  exact ⟨faTab[i], List.getElem?_eq_getElem hl, List.getElem_mem hl⟩
theorem Quad.fine (q : Quad) {n : Nat} (hn : 0 < n) : (q.fa n).fine n := by
  refine ⟨Nat.mod_lt _ hn, Nat.mod_lt _ hn, Nat.mod_lt _ hn, ?_⟩
  show q.op = 0 ∨ q.op ∈ _
  unfold Quad.op
  cases decide (q.q0.tmod 4 > 0) with
  | false => exact .inl rfl
  | true =>
    obtain ⟨v, h1, h2⟩ := faTab_get (Nat.mod_lt q.q0.toNat (by decide : 0 < 10))
    right
    simp only [cond_true, h1, Option.getD_some]
    exact h2
theorem rem_nat {q : Int} {n : Nat} (hq : isB q) (hn : 0 < n) : evalBin .rem (.int .i64 (IntKind.i64.wrap q)) (.int .i64 (n : Int)) = some (.int .i64 ((q.toNat % n : Nat) : Int)) := by
  obtain ⟨h1, h2⟩ := hq
  rw [wrap_i64 (by omega) (by omega)]
  have h0 : ¬ (n : Int) = 0 := by omega
  simp only [evalBin, evalInt, isShift, cond_false, if_true, if_neg h0]
  rw [Int.tmod_eq_emod_of_nonneg h1, Int.natCast_emod, Int.toNat_of_nonneg h1]
theorem faFirst_app : ∀ (l : List Int) (i : Nat) (v : Int), faFirst i (l ++ [v]) = faFirst i l ++ [konst ((i + l.length : Nat) : Int) v]
  | [], i, v => rfl
  | u :: r, i, v => by
    simp only [List.cons_append, faFirst, List.cons.injEq, true_and, List.length_cons]
    rw [faFirst_app r (i + 1) v]
    congr 4
    omega
theorem faFirst_succ {l : List Int} {k : Nat} {v : Int} (h : l[k]? = some v) : faFirst 0 (l.take (k + 1)) = faFirst 0 (l.take k) ++ [konst (k : Int) v] := by
  have hk : k < l.length := (List.getElem?_eq_some_iff.1 h).1
  rw [take_succ_eq h, faFirst_app, List.length_take, Nat.min_eq_left (by omega), Nat.zero_add]
theorem faFirst_length : ∀ (l : List Int) (i : Nat), (faFirst i l).length = l.length
  | [], _ => rfl
  | v :: r, i => by simp only [faFirst, List.length_cons, faFirst_length r]
theorem faVals_app : ∀ (ops : List FaOp) (vals : List Int) (o : FaOp), faVals vals (ops ++ [o]) = (faVals vals ops).set o.d (o.val (faVals vals ops))
  | [], _, _ => rfl
  | p :: r, vals, o => by simp only [List.cons_append, faVals]; exact faVals_app r _ o
theorem faVals_length : ∀ (ops : List FaOp) (vals : List Int), (faVals vals ops).length = vals.length
  | [], _ => rfl
  | p :: r, vals => by simp only [faVals]; rw [faVals_length r, List.length_set]
theorem faWant_app : ∀ (ops : List FaOp) (vals : List Int) (o : FaOp), faWant vals (ops ++ [o]) = faWant vals ops ++ [konst (o.d : Int) (o.val (faVals vals ops))]
  | [], _, _ => rfl
  | p :: r, vals, o => by
    simp only [List.cons_append, faWant, faVals, List.cons.injEq, true_and]
    exact faWant_app r _ o
theorem faWant_length : ∀ (ops : List FaOp) (vals : List Int), (faWant vals ops).length = ops.length
  | [], _ => rfl
  | p :: r, vals => by simp only [faWant, List.length_cons, faWant_length r]

theorem map_snoc {α β : Type} {f : α → β} {L : List α} {x : α} : (L ++ [x]).map f = L.map f ++ [f x] := by simp
theorem q_bin_op {q : Quad} {tv : Int} (hop : q.q0.tmod 4 > 0) (ht : faTab[q.q0.toNat % 10]? = some tv) : q.op = tv := by
  simp [Quad.op, hop, ht]
theorem q_copy_op {q : Quad} (hop : ¬ q.q0.tmod 4 > 0) : q.op = 0 := by
  simp [Quad.op, hop]
theorem tab_ne {tv : Int} (h : tv ∈ [4, 5, 6, 9, 10, 11, 12, 13, 14, 15]) : (tv == 0) = false := by
  rw [beq_eq_false_iff_ne]
  intro e; rw [e] at h; simp at h
theorem fa_tac_bin {q : Quad} {n : Nat} {tv : Int} (h : q.op = tv) (h0 : (tv == 0) = false) : (q.fa n).tac.cells = [.int .i64 3, .int .i64 ((q.q1.toNat % n : Nat) : Int), .int .i64 ((q.q2.toNat % n : Nat) : Int), .int .i64 ((q.q3.toNat % n : Nat) : Int), .int .i64 tv, .int .i64 0, .int .i64 0, .int .u32 0] := by
  simp [Quad.fa, FaOp.tac, h, h0, Tac.cells]
theorem fa_tac_copy {q : Quad} {n : Nat} (h : q.op = 0) : (q.fa n).tac.cells = [.int .i64 2, .int .i64 ((q.q1.toNat % n : Nat) : Int), .int .i64 ((q.q2.toNat % n : Nat) : Int), .int .i64 0, .int .i64 0, .int .i64 0, .int .i64 0, .int .u32 0] := by
  simp [Quad.fa, FaOp.tac, h, Tac.cells]
theorem fa_val_bin {q : Quad} {n : Nat} {tv va vb : Int} {vals : List Int} (h : q.op = tv) (h0 : (tv == 0) = false) (ha : vals[q.q2.toNat % n]? = some va) (hb : vals[q.q3.toNat % n]? = some vb) : (wapp tv va vb).1 = (q.fa n).val vals := by
  simp [Quad.fa, FaOp.val, h, h0, ha, hb]
theorem fa_val_copy {q : Quad} {n : Nat} {va : Int} {vals : List Int} (h : q.op = 0) (ha : vals[q.q2.toNat % n]? = some va) : va = (q.fa n).val vals := by
  simp [Quad.fa, FaOp.val, h, ha]
theorem fa_L {first : List Int} {qs : List Quad} {j : Nat} {q : Quad} {n : Nat} (h : qs[j]? = some q) : faFirst 0 first ++ ((qs.take (j + 1)).map (Quad.fa n)).map FaOp.tac = (faFirst 0 first ++ ((qs.take j).map (Quad.fa n)).map FaOp.tac) ++ [(q.fa n).tac] := by
  rw [take_succ_eq h]; simp
theorem fa_W {first : List Int} {qs : List Quad} {j : Nat} {q : Quad} {n : Nat} (h : qs[j]? = some q) : faFirst 0 first ++ faWant first ((qs.take (j + 1)).map (Quad.fa n)) = (faFirst 0 first ++ faWant first ((qs.take j).map (Quad.fa n))) ++ [konst ((q.q1.toNat % n : Nat) : Int) ((q.fa n).val (faVals first ((qs.take j).map (Quad.fa n))))] := by
  rw [take_succ_eq h, List.map_append, List.map_cons, List.map_nil, faWant_app, List.append_assoc]; rfl
theorem fa_V {first : List Int} {qs : List Quad} {j : Nat} {q : Quad} {n : Nat} (h : qs[j]? = some q) : faVals first ((qs.take (j + 1)).map (Quad.fa n)) = (faVals first ((qs.take j).map (Quad.fa n))).set (q.q1.toNat % n) ((q.fa n).val (faVals first ((qs.take j).map (Quad.fa n)))) := by
  rw [take_succ_eq h, List.map_append, List.map_cons, List.map_nil, faVals_app]; rfl

theorem getD_w {l : List Int} (h : ∀ v ∈ l, isW v) (k : Nat) : isW ((l[k]?).getD 0) := by
  cases e : l[k]? with
  | none => exact isW_zero
  | some v => exact h v (List.mem_of_getElem? e)
theorem FaOp.val_w {o : FaOp} {vals : List Int} (h : ∀ v ∈ vals, isW v) : isW (o.val vals) := by
  unfold FaOp.val
  cases o.op == 0 with
  | true => exact getD_w h _
  | false => exact wapp_word (getD_w h _) (getD_w h _)
theorem faVals_w : ∀ (ops : List FaOp) (vals : List Int), (∀ v ∈ vals, isW v) → ∀ v ∈ faVals vals ops, isW v
  | [], _, h => h
  | o :: r, vals, h => faVals_w r _ fun v hv => by
    rcases List.mem_or_eq_of_mem_set hv with h1 | h1
    · exact h v h1
    · rw [h1]; exact FaOp.val_w h

def faF (first : List Int) (qs : List Quad) : BFunc := ⟨first.length, [⟨faFirst 0 first ++ (qs.map (Quad.fa first.length)).map FaOp.tac, 3, 0, 0, 0⟩]⟩
def faG (first : List Int) (qs : List Quad) : BFunc := ⟨first.length, [⟨faFirst 0 first ++ faWant first (qs.map (Quad.fa first.length)), 3, 0, 0, 0⟩]⟩
theorem faF_fold (first : List Int) (qs : List Quad) (hn : 0 < first.length) : (faF first qs).fold = faG first qs := by
  have := fa_law first (qs.map (Quad.fa first.length)) (fun o ho => by
    obtain ⟨q, _, rfl⟩ := List.mem_map.1 ho
    exact q.fine hn)
  simp only [faF, faG, BFunc.fold, Block.fold, List.map_cons, List.map_nil, this]
theorem faFirst_w : ∀ (l : List Int) (i : Nat), (∀ v ∈ l, isW v) → ∀ t ∈ faFirst i l, isW t.n
  | [], _, _, t, h => by cases h
  | v :: r, i, hw, t, h => by
    simp only [faFirst, List.mem_cons] at h
    rcases h with rfl | h
    · exact hw v (by simp)
    · exact faFirst_w r (i + 1) (fun u hu => hw u (by simp [hu])) t h
theorem faF_mild {first : List Int} {qs : List Quad} (hf : ∀ v ∈ first, isW v) {m : Nat} (hn : 0 < first.length ∧ first.length ≤ 8 ∧ m ≤ 30) (hl : qs.length ≤ 1000) : (faF first qs).mild := by
  refine ⟨by show (0 : Int) ≤ (first.length : Int); omega, by show (first.length : Int) ≤ 100000; omega, by show (1 : Nat) ≤ 100000; decide, fun x hx => ?_⟩
  simp only [faF, List.mem_singleton] at hx
  subst hx
  refine ⟨by simp [faFirst_length]; omega, fun t ht => ?_⟩
  simp only [List.mem_append, List.mem_map] at ht
  rcases ht with ht | ⟨o, _, rfl⟩
  · exact faFirst_w first 0 hf t ht
  · unfold FaOp.tac
    cases o.op == 0 <;> exact isW_zero

end Go.Proofs.Ytkccdnincholpaa.Sv
