/-
  THE PROGRAM'S DATA, AS LEAN'S, AND AS ABSTRACT VALUES: own work.
-/
import Derived.Test.YtidfabbnobipkaaSv23
import Derived.Test.YtidfabbnobipkaaSvT
namespace Go.Proofs.Ytidfabbnobipkaa.Sv
open Go
set_option linter.unusedVariables false

structure Tac where
  op : Int
  d : Int
  a : Int
  b : Int
  k : Int
  base : Int
  size : Int
  n : Int
  deriving DecidableEq, Repr
structure Block where
  ins : List Tac
  fin : Int
  v : Int
  to : Int
  els : Int
  deriving DecidableEq, Repr
structure BFunc where
  regs : Int
  blocks : List Block
  deriving DecidableEq, Repr
structure Blocks where
  words : Int
  funcs : List BFunc
  deriving DecidableEq, Repr
structure Cert where
  same : List (List Bool)
  deriving DecidableEq, Repr

def Tac.cells (t : Tac) : List AV := [.int .i64 t.op, .int .i64 t.d, .int .i64 t.a, .int .i64 t.b, .int .i64 t.k, .int .i64 t.base, .int .i64 t.size, .int .u32 t.n]
def insAV (l : List Tac) : AV := .lst false (l.map Tac.cells)
def Block.cells (b : Block) : List AV := [insAV b.ins, .int .i64 b.fin, .int .i64 b.v, .int .i64 b.to, .int .i64 b.els]
def blocksAV (l : List Block) : AV := .lst false (l.map Block.cells)
def BFunc.cells (f : BFunc) : List AV := [.int .i64 f.regs, blocksAV f.blocks]
def funcsAV (l : List BFunc) : AV := .lst false (l.map BFunc.cells)
def Blocks.cells (b : Blocks) : List AV := [.int .i64 b.words, funcsAV b.funcs]
def boolsAV (l : List Bool) : AV := .lst false (l.map fun b => [.bool b])
def intsAV (l : List Int) : AV := .lst false (l.map fun b => [.int .i64 b])
def rowsAV (l : List (List Bool)) : AV := .lst false (l.map fun r => [boolsAV r])
def pathsAV (l : List (List Int)) : AV := .lst false (l.map fun r => [intsAV r])
def Cert.cells (c : Cert) : List AV := [rowsAV c.same]

theorem idx_map {α : Type} {l : List α} {f : α → List AV} {k : Nat} {x : α} (h : l[k]? = some x) : (l.map f)[((k : Nat) : Int).toNat]? = some (f x) := by
  rw [Int.toNat_natCast, List.getElem?_map, h]; rfl

theorem get_of_lt {α : Type} {l : List α} {k : Nat} (h : k < l.length) : ∃ x, l[k]? = some x := ⟨l[k], List.getElem?_eq_getElem h⟩

theorem take_succ_eq {α : Type} {l : List α} {k : Nat} {x : α} (h : l[k]? = some x) : l.take (k + 1) = l.take k ++ [x] := by
  rw [List.take_add_one, h]; rfl

/-! ### how long the parts may be -/
def fitsIns (l : List Tac) : Prop := l.length ≤ maxLen
def Block.fits (x : Block) : Prop := x.ins.length ≤ maxLen
def fitsBlocks (l : List Block) : Prop := l.length ≤ maxLen ∧ ∀ x ∈ l, x.fits
def BFunc.fits (f : BFunc) : Prop := fitsBlocks f.blocks
def fitsFuncs (l : List BFunc) : Prop := l.length ≤ maxLen ∧ ∀ f ∈ l, f.fits
def Blocks.fits (b : Blocks) : Prop := fitsFuncs b.funcs
def fitsRows (l : List (List Bool)) : Prop := l.length ≤ maxLen ∧ ∀ r ∈ l, r.length ≤ maxLen
def fitsPaths (l : List (List Int)) : Prop := l.length ≤ maxLen ∧ ∀ r ∈ l, r.length ≤ maxLen

theorem rel_list {α : Type} {l : List α} {f : α → List AV} {H : Know} {ι : Lay} {ex : Bool} {v : Value} (h : Rel H ι (.lst ex (l.map f)) v) :
    l.length ≤ maxLen ∧ ∀ x ∈ l, ∀ (j : Nat) (y : AV), (f x)[j]? = some y → ∃ u, Rel H noLay y u := by
  refine ⟨by have := lst_max h; simpa using this, fun x hx j y hy => ?_⟩
  obtain ⟨i, hi⟩ := List.mem_iff_getElem?.1 hx
  rcases h.lst_inv with ⟨h0, _⟩ | ⟨_, b, off, cap, sz, c, vals, _, _, _, _, hr, _⟩
  · rw [List.map_eq_nil_iff] at h0; subst h0; simp at hi
  · exact ⟨_, hr i (f x) j y (by rw [List.getElem?_map, hi]; rfl) hy⟩
theorem rel_ins {l : List Tac} {H : Know} {ι : Lay} {v : Value} (h : Rel H ι (insAV l) v) : fitsIns l := (rel_list h).1
theorem rel_blocks {l : List Block} {H : Know} {ι : Lay} {v : Value} (h : Rel H ι (blocksAV l) v) : fitsBlocks l := by
  obtain ⟨h1, h2⟩ := rel_list h
  exact ⟨h1, fun x hx => by obtain ⟨u, hu⟩ := h2 x hx 0 _ rfl; exact rel_ins hu⟩
theorem rel_bools {l : List Bool} {H : Know} {ι : Lay} {v : Value} (h : Rel H ι (boolsAV l) v) : l.length ≤ maxLen := (rel_list h).1
theorem rel_ints {l : List Int} {H : Know} {ι : Lay} {v : Value} (h : Rel H ι (intsAV l) v) : l.length ≤ maxLen := (rel_list h).1
theorem rel_rows {l : List (List Bool)} {H : Know} {ι : Lay} {v : Value} (h : Rel H ι (rowsAV l) v) : fitsRows l := by
  obtain ⟨h1, h2⟩ := rel_list h
  exact ⟨h1, fun x hx => by obtain ⟨u, hu⟩ := h2 x hx 0 _ rfl; exact rel_bools hu⟩
theorem rel_paths {l : List (List Int)} {H : Know} {ι : Lay} {v : Value} (h : Rel H ι (pathsAV l) v) : fitsPaths l := by
  obtain ⟨h1, h2⟩ := rel_list h
  exact ⟨h1, fun x hx => by obtain ⟨u, hu⟩ := h2 x hx 0 _ rfl; exact rel_ints hu⟩
theorem rel_part {cs : List AV} {H : Know} {ι : Lay} {v : Value} (h : Rel H ι (.agg cs) v) {j : Nat} {x : AV} (hj : cs[j]? = some x) : ∃ u, Rel H ι x u := by
  obtain ⟨us, _, hl, hr⟩ := h.agg_inv
  have hlt : j < us.size := by rw [← hl]; exact (List.getElem?_eq_some_iff.1 hj).1
  obtain ⟨u, hu⟩ := getElem?_some_of_lt hlt
  exact ⟨u, hr j x u hj hu⟩
theorem rel_bfunc {f : BFunc} {H : Know} {ι : Lay} {v : Value} (h : Rel H ι (.agg f.cells) v) : f.fits := by
  obtain ⟨u, hu⟩ := rel_part h (j := 1) rfl
  exact rel_blocks hu
theorem rel_block {x : Block} {H : Know} {ι : Lay} {v : Value} (h : Rel H ι (.agg x.cells) v) : x.fits := by
  obtain ⟨u, hu⟩ := rel_part h (j := 0) rfl
  exact rel_ins hu
theorem rel_cert {c : Cert} {H : Know} {ι : Lay} {v : Value} (h : Rel H ι (.agg c.cells) v) : fitsRows c.same := by
  obtain ⟨u, hu⟩ := rel_part h (j := 0) rfl
  exact rel_rows hu
theorem rel_funcs {l : List BFunc} {H : Know} {ι : Lay} {v : Value} (h : Rel H ι (funcsAV l) v) : fitsFuncs l := by
  obtain ⟨h1, h2⟩ := rel_list h
  exact ⟨h1, fun x hx => by obtain ⟨u, hu⟩ := h2 x hx 1 _ rfl; exact rel_blocks hu⟩
theorem rel_prog {b : Blocks} {H : Know} {ι : Lay} {v : Value} (h : Rel H ι (.agg b.cells) v) : b.fits := by
  obtain ⟨u, hu⟩ := rel_part h (j := 1) rfl
  exact rel_funcs hu
/-- of a slot -/
theorem AGo.slot {P : Program} {s : AState} {Q : Exit → AState → Prop} {c : Code} (t : Nat) {x : AV} {φ : Prop} (ht : s.env t = some x) (hf : ∀ H ι v, Rel H ι x v → φ) (h : φ → AGo P c s Q) : AGo P c s Q :=
  AGo.fact (fun H ι a w hs => by obtain ⟨v, _, hv⟩ := hs.env t x ht; exact hf H ι v hv) h

theorem lt_of_idx {α : Type} {β : Type} {l : List α} {f : α → β} {k : Nat} (h : decide ((k : Int) < (((l.map f).length : Nat) : Int)) = true) : k < l.length := by simpa using h
theorem ge_of_idx {α : Type} {β : Type} {l : List α} {f : α → β} {k : Nat} (h : decide ((k : Int) < (((l.map f).length : Nat) : Int)) = false) : l.length ≤ k := by simpa using h

theorem Tac.eqCells (x y : Tac) : Sv.eqCells x.cells y.cells = some (decide (x = y)) := by
  have h : Sv.eqCells x.cells y.cells = some (x.op == y.op && (x.d == y.d && (x.a == y.a && (x.b == y.b && (x.k == y.k && (x.base == y.base && (x.size == y.size && (x.n == y.n && true)))))))) := rfl
  rw [h]
  congr 1
  obtain ⟨a1, a2, a3, a4, a5, a6, a7, a8⟩ := x
  obtain ⟨b1, b2, b3, b4, b5, b6, b7, b8⟩ := y
  rw [Bool.eq_iff_iff]
  simp [Tac.mk.injEq]

end Go.Proofs.Ytidfabbnobipkaa.Sv
