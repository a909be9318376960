/-
  PROGRAMS IN BLOCKS AS ARGUMENTS: own work, over no program.
-/
import Derived.Test.YtidfabbnobipkaaSv24
import Derived.Test.YtidfabbnobipkaaSp3
namespace Go.Proofs.Ytidfabbnobipkaa.Sv
open Go Go.ChangeShapes Go.WideShapes Go.ChangeAt Go.RowKit
set_option linter.unusedVariables false
set_option linter.unusedSimpArgs false

def isI (n : Int) : Prop := -9223372036854775808 ≤ n ∧ n ≤ 9223372036854775807
theorem wf_i64 {n : Int} (h : (Lit.int .i64 n).wf = true) : isI n := by
  simpa [Lit.wf, IntKind.min, IntKind.max, IntKind.signed, IntKind.bits, isI] using h
theorem wf_u32 {n : Int} (h : (Lit.int .u32 n).wf = true) : isW n := by
  simp [Lit.wf, IntKind.min, IntKind.max, IntKind.signed, IntKind.bits] at h
  exact ⟨h.1, by omega⟩
theorem wf_u8 {n : Int} (h : (Lit.int .u8 n).wf = true) : 0 ≤ n ∧ n ≤ 255 := by
  simpa [Lit.wf, IntKind.min, IntKind.max, IntKind.signed, IntKind.bits] using h

structure Tac.Ok (t : Tac) : Prop where
  op : isI t.op
  d : isI t.d
  a : isI t.a
  b : isI t.b
  k : isI t.k
  base : isI t.base
  size : isI t.size
  n : isW t.n
structure Block.Ok (x : Block) : Prop where
  len : x.ins.length * 64 ≤ reachBytes
  ins : ∀ t ∈ x.ins, t.Ok
  fin : isI x.fin
  v : isI x.v
  to : isI x.to
  els : isI x.els
structure BFunc.Ok (f : BFunc) : Prop where
  regs : isI f.regs
  len : f.blocks.length * 56 ≤ reachBytes
  blocks : ∀ x ∈ f.blocks, x.Ok
structure Blocks.Ok (b : Blocks) : Prop where
  words : isI b.words
  len : b.funcs.length * 32 ≤ reachBytes
  funcs : ∀ f ∈ b.funcs, f.Ok

theorem Blocks.Ok.tight {b : Blocks} (h : b.Ok) : b.tight := fun f hf x hx => by
  have := ((h.funcs f hf).blocks x hx).len
  simp only [reachBytes] at this
  show x.ins.length ≤ big
  simp only [big]
  omega
theorem BFunc.Ok.insW {f : BFunc} (h : f.Ok) {x : Block} (hx : x ∈ f.blocks) : insW x.ins := fun t ht => ((h.blocks x hx).ins t ht).n

section
variable {H : Type} {enc : TypeId × Value → H} {P : Program} {W : World} {T : Nat → Option TyI}

theorem app1 {cs : List Value} {off u : Nat} {xs ys : List AV} {j : TyI} (hT : TOk P T) (hj : T u = some j) {n : Nat} (hn : j.size = n) (h1 : Reads W (cs.take off) xs) (h2 : Reads W ((cs.drop off).take (P.cellsOf u)) ys) (ho : off ≤ cs.length) : Reads W (cs.take (off + n)) (xs ++ ys) := by
  rw [cellsOf_of hT hj, hn] at h2
  exact h1.app h2 ho

theorem dec_tac {t p q : Nat} (hT : TOk P T) {i j1 j2 : TyI} (hi : T t = some i) (hk : i.k = .struct [(0, p), (1, p), (2, p), (3, p), (4, p), (5, p), (6, p), (7, q)]) (hs : i.size = 8) (h1 : T p = some j1) (k1 : j1.k = .int .i64) (s1 : j1.size = 1) (h2 : T q = some j2) (k2 : j2.k = .int .u32) (s2 : j2.size = 1) :
    Dec enc P W t Tac.cells Tac.Ok := fun fuel cs x h hw => by
  obtain ⟨hl, hp⟩ := struct_parts hT hi hk h hw
  rw [hs] at hl
  obtain ⟨x0, a0, b0⟩ := hp 0 _ _ rfl (Dec.int' hT h1 k1)
  obtain ⟨x1, a1, b1⟩ := hp 1 _ _ rfl (Dec.int' hT h1 k1)
  obtain ⟨x2, a2, b2⟩ := hp 2 _ _ rfl (Dec.int' hT h1 k1)
  obtain ⟨x3, a3, b3⟩ := hp 3 _ _ rfl (Dec.int' hT h1 k1)
  obtain ⟨x4, a4, b4⟩ := hp 4 _ _ rfl (Dec.int' hT h1 k1)
  obtain ⟨x5, a5, b5⟩ := hp 5 _ _ rfl (Dec.int' hT h1 k1)
  obtain ⟨x6, a6, b6⟩ := hp 6 _ _ rfl (Dec.int' hT h1 k1)
  obtain ⟨x7, a7, b7⟩ := hp 7 _ _ rfl (Dec.int' hT h2 k2)
  have c0 := app1 hT h1 s1 (Reads.nil W cs) a0 (by omega)
  have c1 := app1 hT h1 s1 c0 a1 (by omega)
  have c2 := app1 hT h1 s1 c1 a2 (by omega)
  have c3 := app1 hT h1 s1 c2 a3 (by omega)
  have c4 := app1 hT h1 s1 c3 a4 (by omega)
  have c5 := app1 hT h1 s1 c4 a5 (by omega)
  have c6 := app1 hT h1 s1 c5 a6 (by omega)
  have c7 := app1 hT h2 s2 c6 a7 (by omega)
  exact ⟨⟨x0, x1, x2, x3, x4, x5, x6, x7⟩, c7.all hl, ⟨wf_i64 b0, wf_i64 b1, wf_i64 b2, wf_i64 b3, wf_i64 b4, wf_i64 b5, wf_i64 b6, wf_u32 b7⟩⟩

theorem dec_block {t p s u : Nat} (hT : TOk P T) {i j1 j2 j3 : TyI} (hi : T t = some i) (hk : i.k = .struct [(0, s), (1, p), (2, p), (3, p), (4, p)]) (hs : i.size = 5) (h1 : T p = some j1) (k1 : j1.k = .int .i64) (s1 : j1.size = 1)
    (h2 : T s = some j2) (k2 : j2.k = .slice u) (s2 : j2.size = 1) (h3 : T u = some j3) (s3 : j3.size = 8) (b3 : j3.bytes = 64) (hd : Dec enc P W u Tac.cells Tac.Ok) :
    Dec enc P W t Block.cells Block.Ok := fun fuel cs x h hw => by
  obtain ⟨hl, hp⟩ := struct_parts hT hi hk h hw
  rw [hs] at hl
  obtain ⟨x0, a0, b0⟩ := hp 0 _ _ rfl (Dec.slice' hT h2 k2 h3 (by omega) hd)
  obtain ⟨x1, a1, b1⟩ := hp 1 _ _ rfl (Dec.int' hT h1 k1)
  obtain ⟨x2, a2, b2⟩ := hp 2 _ _ rfl (Dec.int' hT h1 k1)
  obtain ⟨x3, a3, b3'⟩ := hp 3 _ _ rfl (Dec.int' hT h1 k1)
  obtain ⟨x4, a4, b4⟩ := hp 4 _ _ rfl (Dec.int' hT h1 k1)
  have c0 := app1 hT h2 s2 (Reads.nil W cs) a0 (by omega)
  have c1 := app1 hT h1 s1 c0 a1 (by omega)
  have c2 := app1 hT h1 s1 c1 a2 (by omega)
  have c3 := app1 hT h1 s1 c2 a3 (by omega)
  have c4 := app1 hT h1 s1 c3 a4 (by omega)
  rw [b3] at b0
  exact ⟨⟨x0, x1, x2, x3, x4⟩, c4.all hl, ⟨b0.1, b0.2, wf_i64 b1, wf_i64 b2, wf_i64 b3', wf_i64 b4⟩⟩

theorem dec_bfunc {t p s u : Nat} (hT : TOk P T) {i j1 j2 j3 : TyI} (hi : T t = some i) (hk : i.k = .struct [(0, p), (1, s)]) (hs : i.size = 2) (h1 : T p = some j1) (k1 : j1.k = .int .i64) (s1 : j1.size = 1)
    (h2 : T s = some j2) (k2 : j2.k = .slice u) (s2 : j2.size = 1) (h3 : T u = some j3) (s3 : j3.size = 5) (b3 : j3.bytes = 56) (hd : Dec enc P W u Block.cells Block.Ok) :
    Dec enc P W t BFunc.cells BFunc.Ok := fun fuel cs x h hw => by
  obtain ⟨hl, hp⟩ := struct_parts hT hi hk h hw
  rw [hs] at hl
  obtain ⟨x0, a0, b0⟩ := hp 0 _ _ rfl (Dec.int' hT h1 k1)
  obtain ⟨x1, a1, b1⟩ := hp 1 _ _ rfl (Dec.slice' hT h2 k2 h3 (by omega) hd)
  have c0 := app1 hT h1 s1 (Reads.nil W cs) a0 (by omega)
  have c1 := app1 hT h2 s2 c0 a1 (by omega)
  rw [b3] at b1
  exact ⟨⟨x0, x1⟩, c1.all hl, ⟨wf_i64 b0, b1.1, b1.2⟩⟩

theorem dec_blocks {t p s u : Nat} (hT : TOk P T) {i j1 j2 j3 : TyI} (hi : T t = some i) (hk : i.k = .struct [(0, p), (1, s)]) (hs : i.size = 2) (h1 : T p = some j1) (k1 : j1.k = .int .i64) (s1 : j1.size = 1)
    (h2 : T s = some j2) (k2 : j2.k = .slice u) (s2 : j2.size = 1) (h3 : T u = some j3) (s3 : j3.size = 2) (b3 : j3.bytes = 32) (hd : Dec enc P W u BFunc.cells BFunc.Ok) :
    Dec enc P W t Blocks.cells Blocks.Ok := fun fuel cs x h hw => by
  obtain ⟨hl, hp⟩ := struct_parts hT hi hk h hw
  rw [hs] at hl
  obtain ⟨x0, a0, b0⟩ := hp 0 _ _ rfl (Dec.int' hT h1 k1)
  obtain ⟨x1, a1, b1⟩ := hp 1 _ _ rfl (Dec.slice' hT h2 k2 h3 (by omega) hd)
  have c0 := app1 hT h1 s1 (Reads.nil W cs) a0 (by omega)
  have c1 := app1 hT h2 s2 c0 a1 (by omega)
  rw [b3] at b1
  exact ⟨⟨x0, x1⟩, c1.all hl, ⟨wf_i64 b0, b1.1, b1.2⟩⟩
end

/-! ### what the guard gives -/
theorem small_spec {b : Blocks} {most : Int} (h : b.small most = true) : b.words ≤ 500 ∧ b.funcs.length ≤ 10 ∧ (∀ f ∈ b.funcs, f.regs ≤ 60 ∧ f.blocks.length ≤ 40) ∧ (b.count : Int) ≤ most ∧ b.right = true := by
  simp only [Blocks.small, Bool.and_eq_true, decide_eq_true_eq] at h
  refine ⟨h.1, h.2.1, fun f hf => ?_, h.2.2.2.1, h.2.2.2.2⟩
  have := List.all_eq_true.1 h.2.2.1 f hf
  simp only [BFunc.low, Bool.and_eq_true, decide_eq_true_eq] at this
  exact this
theorem right_spec {b : Blocks} (h : b.right = true) : 0 ≤ b.words ∧ b.words ≤ 1048576 ∧ b.funcs ≠ [] ∧ ∀ (i : Nat) (f : BFunc), b.funcs[i]? = some f → f.one (i : Int) b.words = true := by
  simp only [Blocks.right, Bool.and_eq_true, decide_eq_true_eq, Bool.not_eq_true', List.isEmpty_eq_false_iff] at h
  exact ⟨h.1, h.2.1, h.2.2.1, fun i f hf => List.all_eq_true.1 h.2.2.2 (f, i) (List.mem_of_getElem? (zipIdx_get hf))⟩
theorem one_spec {f : BFunc} {i w : Int} (h : f.one i w = true) : 0 ≤ f.regs ∧ f.regs ≤ 4000 ∧ f.blocks ≠ [] ∧ ∀ x ∈ f.blocks, x.ends f.blocks.length f.regs = true ∧ ∀ t ∈ x.ins, t.fits i f.regs w = true := by
  simp only [BFunc.one, Bool.and_eq_true, decide_eq_true_eq, Bool.not_eq_true', List.isEmpty_eq_false_iff] at h
  refine ⟨h.1, h.2.1, h.2.2.1, fun x hx => ?_⟩
  have := List.all_eq_true.1 h.2.2.2 x hx
  simp only [Block.ok, Bool.and_eq_true] at this
  exact ⟨this.1, fun t ht => List.all_eq_true.1 this.2 t ht⟩
theorem le_sum {α : Type} {p : α → Nat} : ∀ {l : List α} {x : α}, x ∈ l → p x ≤ (l.map p).sum
  | y :: l, x, h => by
    rcases List.mem_cons.1 h with rfl | h
    · simp
    · have := le_sum (p := p) h; simp; omega
theorem count_ins {b : Blocks} {f : BFunc} {x : Block} (hf : f ∈ b.funcs) (hx : x ∈ f.blocks) : x.ins.length < b.count := by
  have h1 : f.count ≤ b.count := le_sum hf
  have h2 : x.count ≤ f.count := le_sum hx
  simp only [Block.count] at h2
  omega
/-- A function of a small program is mild. -/
theorem small_mild {b : Blocks} {most : Int} (hm : most ≤ 1000) (ho : b.Ok) (h : b.small most = true) {f : BFunc} (hf : f ∈ b.funcs) : f.mild := by
  obtain ⟨h1, h2, h3, h4, h5⟩ := small_spec h
  obtain ⟨i, hi⟩ := List.mem_iff_getElem?.1 hf
  obtain ⟨g1, g2, g3, g4⟩ := one_spec ((right_spec h5).2.2.2 i f hi)
  refine ⟨g1, by omega, by have := (h3 f hf).2; omega, fun x hx => ⟨?_, (ho.funcs f hf).insW hx⟩⟩
  have := count_ins hf hx
  omega

end Go.Proofs.Ytidfabbnobipkaa.Sv
