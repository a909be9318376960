/-
  TIDYING, AS THE PROGRAM DOES IT, IN PLAIN LEAN: own work, over no program.
-/
import Derived.Test.YtidfabbnobipkaaSp21
namespace Go.Proofs.Ytidfabbnobipkaa.Sv
open Go
set_option linter.unusedVariables false
set_option linter.unusedSimpArgs false

def iget (l : List Int) (z : Int) : Int := (l[z.toNat]?).getD 0
def iset (l : List Int) (z v : Int) : List Int := l.set z.toNat v
def bget (l : List Bool) (z : Int) : Bool := (l[z.toNat]?).getD false
def intCells (l : List Int) : List (List AV) := l.map fun n => [AV.int .i64 n]
theorem intCells_len (l : List Int) : (intCells l).length = l.length := by simp [intCells]
theorem icell {l : List Int} {z : Int} (h : 0 ≤ z ∧ z < l.length) : (intCells l)[0 + z.toNat]? = some [AV.int .i64 (iget l z)] := by
  obtain ⟨v, hv⟩ := get_of_lt (l := l) (k := z.toNat) (by omega)
  rw [Nat.zero_add, intCells, List.getElem?_map, hv, iget, hv]; rfl
theorem icellZ {l : List Int} {z : Int} (h : 0 ≤ z ∧ z < l.length) : (l.map fun n => [AV.int .i64 n])[z.toNat]? = some [AV.int .i64 (iget l z)] := by
  obtain ⟨v, hv⟩ := get_of_lt (l := l) (k := z.toNat) (by omega)
  rw [List.getElem?_map, hv, iget, hv]; rfl
theorem bcellZ {l : List Bool} {z : Int} (h : 0 ≤ z ∧ z < l.length) : (l.map fun n => [AV.bool n])[z.toNat]? = some [AV.bool (bget l z)] := by
  obtain ⟨v, hv⟩ := get_of_lt (l := l) (k := z.toNat) (by omega)
  rw [List.getElem?_map, hv, bget, hv]; rfl
theorem icell_set (l : List Int) (z v : Int) : (intCells l).set (0 + z.toNat) [AV.int .i64 v] = intCells (iset l z v) := by
  rw [Nat.zero_add, intCells, intCells, iset, List.map_set]
theorem intCells_rep (n : Nat) : List.replicate n [AV.int .i64 0] = intCells (List.replicate n 0) := by simp [intCells]
theorem iset_length (l : List Int) (z v : Int) : (iset l z v).length = l.length := by simp [iset]

/-! ### how many ways lead to each -/
def bump (w : List Int) (k : Int) : List Int := iset w k (iget w k + 1)
theorem bump_length (w : List Int) (k : Int) : (bump w k).length = w.length := by simp [bump, iset_length]
theorem bumps_length : ∀ (l : List Int) (w : List Int), (l.foldl bump w).length = w.length
  | [], _ => rfl
  | k :: r, w => by rw [List.foldl_cons, bumps_length r, bump_length]
/-- numbers between 0 and a bound -/
def upTo (m : Nat) (w : List Int) : Prop := ∀ v ∈ w, 0 ≤ v ∧ v ≤ m
theorem iget_upTo {m : Nat} {w : List Int} (h : upTo m w) (k : Int) : 0 ≤ iget w k ∧ iget w k ≤ m := by
  unfold iget
  cases e : w[k.toNat]? with
  | none => simp
  | some v => exact h v (List.mem_of_getElem? e)
theorem bump_upTo {m : Nat} {w : List Int} (h : upTo m w) (k : Int) : upTo (m + 1) (bump w k) := fun v hv => by
  have hk := iget_upTo h k
  rcases List.mem_or_eq_of_mem_set hv with hv | rfl
  · have := h v hv; omega
  · omega
theorem bumps_upTo : ∀ (l : List Int) {m : Nat} {w : List Int}, upTo m w → upTo (m + l.length) (l.foldl bump w)
  | [], _, _, h => h
  | k :: r, m, w, h => by
    have := bumps_upTo r (bump_upTo h k)
    rw [List.foldl_cons, List.length_cons, show m + (r.length + 1) = m + 1 + r.length by omega]; exact this
def waysAt (next : List (List Int)) (reach : List Bool) : Nat → List Int
  | 0 => List.replicate next.length 0
  | k + 1 => bif (reach[k]?).getD false then ((next[k]?).getD []).foldl bump (waysAt next reach k) else waysAt next reach k
theorem waysAt_length (next : List (List Int)) (reach : List Bool) : ∀ k, (waysAt next reach k).length = next.length
  | 0 => by simp [waysAt]
  | k + 1 => by
    unfold waysAt
    cases (reach[k]?).getD false with
    | true => rw [cond_true, bumps_length, waysAt_length next reach k]
    | false => exact waysAt_length next reach k
theorem waysAt_upTo {next : List (List Int)} (h2 : ∀ l ∈ next, l.length ≤ 2) (reach : List Bool) : ∀ k, upTo (2 * k) (waysAt next reach k)
  | 0 => fun v hv => by rw [waysAt] at hv; rw [List.eq_of_mem_replicate hv]; omega
  | k + 1 => by
    have ih := waysAt_upTo h2 reach k
    unfold waysAt
    cases (reach[k]?).getD false with
    | false => exact fun v hv => by have := ih v hv; omega
    | true =>
      have hl : ((next[k]?).getD []).length ≤ 2 := by
        cases e : next[k]? with
        | none => simp
        | some l => exact h2 l (List.mem_of_getElem? e)
      have := bumps_upTo ((next[k]?).getD []) ih
      exact fun v hv => by have := this v hv; omega
def waysF (next : List (List Int)) (reach : List Bool) : List Int := waysAt next reach next.length
/-! ### which one takes which in -/
def takeOf (next : List (List Int)) (reach : List Bool) (i : Nat) (b : Block) : Int :=
  bif (reach[i]?).getD false && (b.fin == 1 && (b.to != 0 && (b.to != (i : Int) && iget (waysF next reach) b.to == 1))) then b.to else -1
def BFunc.takes (f : BFunc) (reach : List Bool) : List Int := f.blocks.zipIdx.map fun p => takeOf f.nexts reach p.2 p.1
def BFunc.takenAt (f : BFunc) (reach : List Bool) : Nat → List Bool
  | 0 => List.replicate f.blocks.length false
  | k + 1 => match f.blocks[k]? with
    | some b => bif takeOf f.nexts reach k b == -1 then f.takenAt reach k else (f.takenAt reach k).set b.to.toNat true
    | none => f.takenAt reach k
theorem takes_length (f : BFunc) (reach : List Bool) : (f.takes reach).length = f.blocks.length := by simp [BFunc.takes]
theorem takes_get {f : BFunc} {reach : List Bool} {k : Nat} {x : Block} (h : f.blocks[k]? = some x) : (f.takes reach)[k]? = some (takeOf f.nexts reach k x) := by
  rw [BFunc.takes, List.getElem?_map, zipIdx_get h]; rfl
theorem takenAt_length (f : BFunc) (reach : List Bool) : ∀ k, (f.takenAt reach k).length = f.blocks.length
  | 0 => by simp [BFunc.takenAt]
  | k + 1 => by
    have ih := takenAt_length f reach k
    unfold BFunc.takenAt
    split
    · rename_i b hb
      cases takeOf f.nexts reach k b == -1 <;> simp [ih]
    · exact ih
theorem takenAt_succ {f : BFunc} {reach : List Bool} {k : Nat} {x : Block} (h : f.blocks[k]? = some x) : f.takenAt reach (k + 1) = bif takeOf f.nexts reach k x == -1 then f.takenAt reach k else (f.takenAt reach k).set x.to.toNat true := by
  rw [BFunc.takenAt, h]
/-- where the ways lead is there -/
def BFunc.leads (f : BFunc) : Prop := ∀ l ∈ f.nexts, ∀ k ∈ l, 0 ≤ k ∧ k < f.blocks.length
theorem nexts_two (f : BFunc) : ∀ l ∈ f.nexts, l.length ≤ 2 := fun l hl => by
  simp only [BFunc.nexts, List.mem_map] at hl
  obtain ⟨b, _, rfl⟩ := hl
  unfold Block.nexts
  cases b.fin == 1 <;> cases b.fin == 2 <;> simp
theorem leads_to {f : BFunc} (h : f.leads) {k : Nat} {x : Block} (hx : f.blocks[k]? = some x) (h1 : x.fin = 1 ∨ x.fin = 2) : 0 ≤ x.to ∧ x.to < f.blocks.length :=
  h x.nexts (List.mem_of_getElem? (nexts_get hx)) x.to (by rcases h1 with h1 | h1 <;> simp [Block.nexts, h1])
theorem leads_els {f : BFunc} (h : f.leads) {k : Nat} {x : Block} (hx : f.blocks[k]? = some x) (h1 : x.fin = 2) : 0 ≤ x.els ∧ x.els < f.blocks.length :=
  h x.nexts (List.mem_of_getElem? (nexts_get hx)) x.els (by simp [Block.nexts, h1])
/-! ### following -/
def chain (takes : List Int) : Nat → Int → List Int
  | 0, _ => []
  | g + 1, c => bif iget takes c == -1 then [] else iget takes c :: chain takes g (iget takes c)
def ends (takes : List Int) : Nat → Int → Bool
  | 0, c => iget takes c == -1
  | g + 1, c => iget takes c == -1 || ends takes g (iget takes c)
def pathOf (takes : List Int) (i : Int) : List Int := i :: chain takes takes.length i
structure FG2 where
  c : Int
  acc : List Int
  g : Nat
structure FInv2 (takes : List Int) (tgt : List Int) (q : FG2) : Prop where
  c : 0 ≤ q.c ∧ q.c < takes.length
  len : q.acc.length + q.g ≤ takes.length + 1
  fin : ends takes q.g q.c = true
  tgt : q.acc ++ chain takes q.g q.c = tgt
theorem FInv2.first {takes : List Int} {i : Int} (hi : 0 ≤ i ∧ i < takes.length) (he : ends takes takes.length i = true) : FInv2 takes (pathOf takes i) ⟨i, [i], takes.length⟩ := ⟨hi, by show 1 + takes.length ≤ _; omega, he, rfl⟩
theorem FInv2.next {takes : List Int} {tgt : List Int} {q : FG2} (hin : ∀ v ∈ takes, v = -1 ∨ (0 ≤ v ∧ v < takes.length)) (h : FInv2 takes tgt q) (hc : (iget takes q.c != -1) = true) :
    FInv2 takes tgt ⟨iget takes q.c, q.acc ++ [iget takes q.c], q.g - 1⟩ ∧ q.g - 1 < q.g := by
  have hne : (iget takes q.c == -1) = false := by simpa [bne] using hc
  obtain ⟨v, hv⟩ := get_of_lt (l := takes) (k := q.c.toNat) (by have := h.c; omega)
  have hi : iget takes q.c = v := by simp [iget, hv]
  have hlen := h.len
  have hfin := h.fin
  have htgt := h.tgt
  obtain ⟨g, hg⟩ : ∃ g, q.g = g + 1 := by
    cases e : q.g with
    | zero => rw [e] at hfin; simp only [ends, hne] at hfin; cases hfin
    | succ g => exact ⟨g, rfl⟩
  rw [hg] at hfin htgt hlen
  simp only [ends, chain, hne, Bool.false_or, cond_false] at hfin htgt
  rw [hg]
  refine ⟨⟨?_, ?_, hfin, ?_⟩, by simp⟩
  · rcases hin v (List.mem_of_getElem? hv) with e | e
    · rw [hi, e] at hne; simp at hne
    · rw [hi]; exact e
  · simp only [List.length_append, List.length_cons, List.length_nil]
    show q.acc.length + 1 + g ≤ _
    omega
  · show (q.acc ++ [iget takes q.c]) ++ chain takes g (iget takes q.c) = tgt
    rw [List.append_assoc]; exact htgt
theorem FInv2.done {takes : List Int} {tgt : List Int} {q : FG2} (h : FInv2 takes tgt q) (hc : (iget takes q.c != -1) = false) : q.acc = tgt := by
  have hne : (iget takes q.c == -1) = true := by simpa [bne] using hc
  have htgt := h.tgt
  cases e : q.g with
  | zero => rw [e] at htgt; simpa [chain] using htgt
  | succ g => rw [e] at htgt; simpa [chain, hne] using htgt
theorem takes_in {f : BFunc} (h : f.leads) (reach : List Bool) : ∀ v ∈ f.takes reach, v = -1 ∨ (0 ≤ v ∧ v < (f.takes reach).length) := fun v hv => by
  obtain ⟨k, hk⟩ := List.getElem?_of_mem hv
  have hlt : k < f.blocks.length := by rw [← takes_length f reach]; exact (List.getElem?_eq_some_iff.1 hk).1
  obtain ⟨x, hx⟩ := get_of_lt hlt
  rw [takes_get hx] at hk
  cases hk
  rw [takes_length]
  unfold takeOf
  cases e : (reach[k]?).getD false && (x.fin == 1 && (x.to != 0 && (x.to != (k : Int) && iget (waysF f.nexts reach) x.to == 1))) with
  | false => exact .inl rfl
  | true =>
    simp only [Bool.and_eq_true, beq_iff_eq] at e
    exact .inr (leads_to h hx (.inl e.2.1))
/-! ### the new function -/
def BFunc.headOf (f : BFunc) (k : Nat) : Bool := (f.reach[k]?).getD false && !((f.takenAt f.reach f.blocks.length)[k]?).getD false
def BFunc.tk (f : BFunc) : List Int := f.takes f.reach
def BFunc.pathsTo (f : BFunc) : Nat → List (List Int)
  | 0 => []
  | k + 1 => bif f.headOf k then f.pathsTo k ++ [pathOf f.tk k] else f.pathsTo k
def BFunc.numsTo (f : BFunc) : Nat → List Int
  | 0 => List.replicate f.blocks.length 0
  | k + 1 => bif f.headOf k then iset (f.numsTo k) k (f.pathsTo k).length else f.numsTo k
def BFunc.tpaths (f : BFunc) : List (List Int) := f.pathsTo f.blocks.length
def BFunc.nums (f : BFunc) : List Int := f.numsTo f.blocks.length
theorem numsTo_length (f : BFunc) : ∀ k, (f.numsTo k).length = f.blocks.length
  | 0 => by simp [BFunc.numsTo]
  | k + 1 => by
    unfold BFunc.numsTo
    cases f.headOf k with
    | true => rw [cond_true, iset_length, numsTo_length f k]
    | false => exact numsTo_length f k
theorem pathsTo_length (f : BFunc) : ∀ k, (f.pathsTo k).length ≤ k
  | 0 => by simp [BFunc.pathsTo]
  | k + 1 => by
    have ih := pathsTo_length f k
    unfold BFunc.pathsTo
    cases f.headOf k with
    | true => simp; omega
    | false => simp; omega
def BFunc.blockAt (f : BFunc) (i : Int) : Block := (f.blocks[i.toNat]?).getD ⟨[], 0, 0, 0, 0⟩
def lastOf (p : List Int) : Int := p.getLast?.getD 0
def BFunc.joined (f : BFunc) (p : List Int) : List Tac := p.flatMap fun i => (f.blockAt i).ins
def BFunc.newBlock (f : BFunc) (p : List Int) : Block where
  ins := f.joined p
  fin := (f.blockAt (lastOf p)).fin
  v := (f.blockAt (lastOf p)).v
  to := bif (f.blockAt (lastOf p)).fin == 1 || (f.blockAt (lastOf p)).fin == 2 then iget f.nums (f.blockAt (lastOf p)).to else (f.blockAt (lastOf p)).to
  els := bif (f.blockAt (lastOf p)).fin == 2 then iget f.nums (f.blockAt (lastOf p)).els else (f.blockAt (lastOf p)).els
def BFunc.tidy (f : BFunc) : BFunc := ⟨f.regs, f.tpaths.map f.newBlock⟩
/-- paths that lie in a function -/
def inF (n : Nat) (p : List Int) : Prop := p ≠ [] ∧ ∀ i ∈ p, 0 ≤ i ∧ i < n
theorem chain_in {takes : List Int} (hin : ∀ v ∈ takes, v = -1 ∨ (0 ≤ v ∧ v < takes.length)) : ∀ (g : Nat) (c : Int), 0 ≤ c ∧ c < takes.length → ∀ i ∈ chain takes g c, 0 ≤ i ∧ i < takes.length
  | 0, _, _ => fun i hi => by cases hi
  | g + 1, c, hc => fun i hi => by
    unfold chain at hi
    cases e : iget takes c == -1 with
    | true => rw [e] at hi; cases hi
    | false =>
      rw [e] at hi
      obtain ⟨v, hv⟩ := get_of_lt (l := takes) (k := c.toNat) (by omega)
      have hv' : iget takes c = v := by simp [iget, hv]
      have hcv : 0 ≤ iget takes c ∧ iget takes c < takes.length := by
        rcases hin v (List.mem_of_getElem? hv) with h | h
        · rw [hv', h] at e; simp at e
        · rw [hv']; exact h
      simp only [cond_false, List.mem_cons] at hi
      rcases hi with rfl | hi
      · exact hcv
      · exact chain_in hin g _ hcv i hi
theorem paths_in {f : BFunc} (h : f.leads) : ∀ k, k ≤ f.blocks.length → ∀ p ∈ f.pathsTo k, inF f.blocks.length p
  | 0, _ => fun p hp => by cases hp
  | k + 1, hk => fun p hp => by
    unfold BFunc.pathsTo at hp
    cases e : f.headOf k with
    | false => rw [e] at hp; exact paths_in h k (by omega) p hp
    | true =>
      rw [e] at hp
      simp only [cond_true, List.mem_append, List.mem_singleton] at hp
      rcases hp with hp | rfl
      · exact paths_in h k (by omega) p hp
      · have hl : f.tk.length = f.blocks.length := takes_length f _
        refine ⟨by simp [pathOf], fun i hi => ?_⟩
        simp only [pathOf, List.mem_cons] at hi
        rcases hi with rfl | hi
        · omega
        · have := chain_in (takes_in h f.reach) f.tk.length k (by show (0 : Int) ≤ k ∧ (k : Int) < f.tk.length; omega) i hi
          have hl' : ((f.takes f.reach).length : Int) = f.blocks.length := by rw [takes_length]
          rw [hl'] at this; exact this
/-- all that Of asks for -/
structure BFunc.tame (f : BFunc) : Prop where
  mild : f.blocks.length ≤ 1000
  ins : ∀ x ∈ f.blocks, x.ins.length ≤ 1000
  leads : f.leads
  ends : ∀ k, f.headOf k = true → ends f.tk f.tk.length k = true
end Go.Proofs.Ytidfabbnobipkaa.Sv
