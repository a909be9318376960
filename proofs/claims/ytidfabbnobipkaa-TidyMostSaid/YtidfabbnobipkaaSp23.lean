/-
  SMALL LEMMAS FOR THE WALKS OF TIDY: own work, over no program.
-/
import Derived.Test.YtidfabbnobipkaaSp22
namespace Go.Proofs.Ytidfabbnobipkaa.Sv
open Go
set_option linter.unusedVariables false
set_option linter.unusedSimpArgs false

theorem get_set_selfZ {α : Type} {l : List α} {i : Nat} {x y : α} (h : l[i]? = some x) : (l.set i y)[i]? = some y := by
  have hi := (List.getElem?_eq_some_iff.1 h).1
  simp [hi]
def icell1 (n : Int) : List AV := [.int .i64 n]
section
variable {P : Program} {T : Nat → Option TyI} {o : Oper} {e : AEnv} {h : AHeap}
/-- l[1:] -/
theorem q_tail (hT : TOk P T) {t : TypeId} {x : Operand} {y : Operand} {c : List AV} {es : List (List AV)} {i j : TyI} {u : Nat} (ho : o.op = .slice t x (some y) none none) (hx : look e x = some (.lst false (c :: es))) (ht : T t = some i) (hk : i.k = .slice u) (hj : T u = some j)
    (hy : look e y = some (.int .i64 1)) (hu : ∀ cs ∈ c :: es, cs.length = j.size) : QLoc P o e h [] (.lst false es) := by
  have := q_slice_lst (h := h) hT 1 (c :: es).length ho hx ht hk hj ⟨.i64, hy⟩ rfl (by simp) (Nat.le_refl _) hu
  rw [List.take_of_length_le (Nat.le_refl _)] at this
  exact this
/-- l[:m] -/
theorem q_front (hT : TOk P T) {t : TypeId} {x : Operand} {y : Operand} {k : IntKind} {m : Nat} {es : List (List AV)} {i j : TyI} {u : Nat} (ho : o.op = .slice t x none (some y) none) (hx : look e x = some (.lst false es)) (ht : T t = some i) (hk : i.k = .slice u) (hj : T u = some j)
    (hy : look e y = some (.int k (m : Int))) (hm : m ≤ es.length) (hu : ∀ cs ∈ es, cs.length = j.size) : QLoc P o e h [] (.lst false (es.take m)) := by
  have := q_slice_lst (h := h) hT 0 m ho hx ht hk hj rfl ⟨k, hy⟩ (Nat.zero_le _) hm hu
  rw [List.drop_zero] at this
  exact this
/-- l[m:] -/
theorem q_back (hT : TOk P T) {t : TypeId} {x : Operand} {y : Operand} {k : IntKind} {m : Nat} {es : List (List AV)} {i j : TyI} {u : Nat} (ho : o.op = .slice t x (some y) none none) (hx : look e x = some (.lst false es)) (ht : T t = some i) (hk : i.k = .slice u) (hj : T u = some j)
    (hy : look e y = some (.int k (m : Int))) (hm : m ≤ es.length) (hu : ∀ cs ∈ es, cs.length = j.size) : QLoc P o e h [] (.lst false (es.drop m)) := by
  have := q_slice_lst (h := h) hT m es.length ho hx ht hk hj ⟨k, hy⟩ rfl hm (Nat.le_refl _) hu
  rw [List.take_of_length_le (Nat.le_refl _)] at this
  exact this
end
/-! ### taking in -/
theorem takeOf_no {next : List (List Int)} {reach : List Bool} {i : Nat} {b : Block} {r : Bool} (hr : reach[i]? = some r) (h : (r && (b.fin == 1 && (b.to != 0 && (b.to != (i : Int) && iget (waysF next reach) b.to == 1)))) = false) : takeOf next reach i b = -1 := by
  simp only [takeOf, hr, Option.getD_some, h, cond_false]
theorem takeOf_yes {next : List (List Int)} {reach : List Bool} {i : Nat} {b : Block} {r : Bool} (hr : reach[i]? = some r) (h : (r && (b.fin == 1 && (b.to != 0 && (b.to != (i : Int) && iget (waysF next reach) b.to == 1)))) = true) : takeOf next reach i b = b.to := by
  simp only [takeOf, hr, Option.getD_some, h, cond_true]
theorem taken_no {f : BFunc} {reach : List Bool} {k : Nat} {x : Block} (hx : f.blocks[k]? = some x) (h : takeOf f.nexts reach k x = -1) : f.takenAt reach k = f.takenAt reach (k + 1) := by
  rw [takenAt_succ hx, h]; rfl
theorem taken_yes {f : BFunc} {reach : List Bool} {k : Nat} {x : Block} (hx : f.blocks[k]? = some x) (h : takeOf f.nexts reach k x = x.to) (h0 : 0 ≤ x.to) : ((f.takenAt reach k).map boolCells).set (0 + x.to.toNat) [AV.bool true] = (f.takenAt reach (k + 1)).map boolCells := by
  have hne : (x.to == -1) = false := by simp; omega
  rw [takenAt_succ hx, h, hne, cond_false, Nat.zero_add, List.map_set]; rfl
theorem bumps_succ {l : List Int} {j : Nat} {y : Int} (h : l[j]? = some y) (w : List Int) : (l.take (j + 1)).foldl bump w = bump ((l.take j).foldl bump w) y := by
  rw [take_succ_eq h, List.foldl_append]; rfl
theorem ways_skip {next : List (List Int)} {reach : List Bool} {k : Nat} (h : reach[k]? = some false) : waysAt next reach k = waysAt next reach (k + 1) := by
  simp [waysAt, h]
theorem ways_do {next : List (List Int)} {reach : List Bool} {k j : Nat} {l : List Int} (h : reach[k]? = some true) (hl : next[k]? = some l) (hj : l.length ≤ j) : (l.take j).foldl bump (waysAt next reach k) = waysAt next reach (k + 1) := by
  simp [waysAt, h, hl, List.take_of_length_le hj]
/-! ### joining -/
def jFlag (f : BFunc) (rest : List Int) (k : Nat) : Bool := (f.joined (rest.take k)).isEmpty
def jList (f : BFunc) (i0 : Int) (rest : List Int) (k : Nat) : List (List AV) := ((f.blockAt i0).ins ++ f.joined (rest.take k)).map Tac.cells
theorem joined_succ {f : BFunc} {rest : List Int} {k : Nat} {i : Int} (h : rest[k]? = some i) : f.joined (rest.take (k + 1)) = f.joined (rest.take k) ++ (f.blockAt i).ins := by
  rw [BFunc.joined, take_succ_eq h, List.flatMap_append]; simp [BFunc.joined]
theorem jstep {f : BFunc} {i0 : Int} {rest : List Int} {k : Nat} {i : Int} (h : rest[k]? = some i) : ((jFlag f rest k && ((f.blockAt i).ins.map Tac.cells).isEmpty, jList f i0 rest k ++ (f.blockAt i).ins.map Tac.cells) : Bool × List (List AV)) = (jFlag f rest (k + 1), jList f i0 rest (k + 1)) := by
  simp only [jFlag, jList, joined_succ h, List.map_append, List.append_assoc]
  congr 1
  cases f.joined (rest.take k) <;> cases (f.blockAt i).ins <;> rfl
theorem blockAt_get {f : BFunc} {i : Int} (h : 0 ≤ i ∧ i < f.blocks.length) : f.blocks[i.toNat]? = some (f.blockAt i) := by
  obtain ⟨x, hx⟩ := get_of_lt (l := f.blocks) (k := i.toNat) (by omega)
  rw [BFunc.blockAt, hx]; rfl
theorem joined_len {f : BFunc} (hf : ∀ x ∈ f.blocks, x.ins.length ≤ 1000) : ∀ (p : List Int), (f.joined p).length ≤ p.length * 1000
  | [] => by simp [BFunc.joined]
  | i :: r => by
    have ih := joined_len hf r
    have hi : (f.blockAt i).ins.length ≤ 1000 := by
      unfold BFunc.blockAt
      cases e : f.blocks[i.toNat]? with
      | none => simp
      | some x => exact hf x (List.mem_of_getElem? e)
    simp only [BFunc.joined, List.flatMap_cons, List.length_append, List.length_cons] at ih ⊢
    omega
theorem jList_sizes (f : BFunc) (i0 : Int) (rest : List Int) (k : Nat) : (∀ cs ∈ jList f i0 rest k, cs.length = 8) ∧ ∀ cs ∈ jList f i0 rest k, cs.all AV.isPure1 = true := by
  constructor <;> intro cs h <;> simp only [jList, List.mem_map] at h <;> obtain ⟨t, _, rfl⟩ := h <;> rfl
theorem ins_sizes (l : List Tac) : (∀ cs ∈ l.map Tac.cells, cs.length = 8) ∧ ∀ cs ∈ l.map Tac.cells, cs.all AV.isPure1 = true := by
  constructor <;> intro cs h <;> simp only [List.mem_map] at h <;> obtain ⟨t, _, rfl⟩ := h <;> rfl
theorem last_get {p : List Int} (h : p ≠ []) : p[p.length - 1]? = some (lastOf p) := by
  rw [← List.getLast?_eq_getElem?, lastOf, List.getLast?_eq_some_getLast h]; rfl
theorem last_mem {p : List Int} (h : p ≠ []) : lastOf p ∈ p := List.mem_of_getElem? (last_get h)
theorem chain_length (takes : List Int) : ∀ (g : Nat) (c : Int), (chain takes g c).length ≤ g
  | 0, _ => by simp [chain]
  | g + 1, c => by
    unfold chain
    cases iget takes c == -1 with
    | true => simp
    | false => simp only [cond_false, List.length_cons]; have := chain_length takes g (iget takes c); omega
theorem pathsTo_len {f : BFunc} : ∀ (k : Nat), ∀ p ∈ f.pathsTo k, p.length ≤ f.blocks.length + 1
  | 0 => fun p hp => by cases hp
  | k + 1 => fun p hp => by
    unfold BFunc.pathsTo at hp
    cases e : f.headOf k with
    | false => rw [e] at hp; exact pathsTo_len k p hp
    | true =>
      rw [e] at hp
      simp only [cond_true, List.mem_append, List.mem_singleton] at hp
      rcases hp with hp | rfl
      · exact pathsTo_len k p hp
      · have := chain_length f.tk f.tk.length k
        have hl : f.tk.length = f.blocks.length := takes_length f _
        simp only [pathOf, List.length_cons]; omega
theorem pathsTo_yes {f : BFunc} {k : Nat} (h : f.headOf k = true) : f.pathsTo (k + 1) = f.pathsTo k ++ [pathOf f.tk k] := by simp [BFunc.pathsTo, h]
theorem pathsTo_no {f : BFunc} {k : Nat} (h : f.headOf k = false) : f.pathsTo (k + 1) = f.pathsTo k := by simp [BFunc.pathsTo, h]
theorem numsTo_yes {f : BFunc} {k : Nat} (h : f.headOf k = true) : f.numsTo (k + 1) = iset (f.numsTo k) k (f.pathsTo k).length := by simp [BFunc.numsTo, h]
theorem numsTo_no {f : BFunc} {k : Nat} (h : f.headOf k = false) : f.numsTo (k + 1) = f.numsTo k := by simp [BFunc.numsTo, h]
theorem headOf_eq {f : BFunc} {k : Nat} {r t : Bool} (hr : f.reach[k]? = some r) (ht : (f.takenAt f.reach f.blocks.length)[k]? = some t) : f.headOf k = (r && !t) := by simp [BFunc.headOf, hr, ht]
theorem reach_length (f : BFunc) : f.reach.length = f.blocks.length := by rw [BFunc.reach, dreach_length]; simp [BFunc.nexts]
end Go.Proofs.Ytidfabbnobipkaa.Sv
