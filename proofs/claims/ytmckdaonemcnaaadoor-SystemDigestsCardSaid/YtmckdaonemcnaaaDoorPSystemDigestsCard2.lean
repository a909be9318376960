/-
  THE TYPES OF THE PROGRAM, WRITTEN OUT: printed by a program of our own.
  THE PROGRAM'S DATA, AS LEAN'S, AND AS ABSTRACT VALUES: own work.
  FUNCTION VALUES; SLICES THAT ARE NOT AT THEIR ROW'S END; CHANGES IN THOUGHT OF WHAT ROWS HOLD: own work, over no program.
  QUEUES: x[l:] of a row, and what is put behind it; which place that takes isn't known beforehand: own work, over no program.
  CALLS THAT SEE ALL ROWS BUT SOME; LOOPS THAT FORGET SOME ROWS; SCOPES; SLICES OF NOTHING, NIL AND CLEAR: own work, over no program.
  LOOPS OF A KNOWN NUMBER OF ROUNDS, ONE ROUND BEHIND THE OTHER: own work, over no program.
  THE PARTS OF AN ARRAY THAT IS A VALUE: own work, over no program.
  BYTES TO A STRING: own work, over no program.
  STRINGS: ends, sums, and their bytes in a row of one's own: own work, over no program.
  WHAT THE DOCUMENT'S CHAPTERS SAY OF PROGRAMS IN BLOCKS, IN PLAIN LEAN: own work, over no program.
  WORDS' OPERATIONS, IN PLAIN LEAN: own work, over no program.
  DIGESTS OF BYTES, IN PLAIN LEAN: own work, over no program.
  HEXADECIMAL TEXTS AND DIGESTS' BYTES, IN PLAIN LEAN: own work, over no program.
  SMALL FACTS OF SUMS, FOR THE WALKS OVER DIGESTS: own work.
  A WORD COMES BACK FROM ITS BYTES, IN PLAIN LEAN: own work, over no program.
  SLICES CUT TO WHAT THEY HOLD, AND WHAT IS PUT BEHIND THEM; weaker values in thought: own work, over no program.
  ARRAYS OF NUMBERS: whether two are the same, and maps whose keys they are: own work, over no program.
  A DIGEST OF BYTES, IN PLAIN LEAN: own work, over no program.
  WALKS: printed by a program of our own from the code's tree.
  WALKS: printed by a program of our own from the code's tree.
  WALKS: printed by a program of our own from the code's tree.
  WALKS: printed by a program of our own from the code's tree.
  WALKS: printed by a program of our own from the code's tree.
  WALKS: printed by a program of our own from the code's tree.
  WALKS: printed by a program of our own from the code's tree.
-/
import Derived.Test.YtmckdaonemcnaaaDoorPSystemDigestsCard1
import Derived.Test.YtmckdaonemcnaaaDoorProg
import Derived.KernelRfl
import Derived.Scope
import Derived.Lib.SliceRun
import Derived.Laws.BytesString
import Derived.Lib.ConvBytes
import Derived.WideKeyRuns
namespace Go.Proofs.YtmckdaonemcnaaaDoor.Sv
open Go
abbrev ty0 : TyI := ⟨.other, 1, 0, []⟩
abbrev ty1 : TyI := ⟨.other, 1, 8, []⟩
abbrev ty2 : TyI := ⟨.int .i64, 1, 8, [.int .i64 0]⟩
abbrev ty3 : TyI := ⟨.int .i64, 1, 8, [.int .i64 0]⟩
abbrev ty4 : TyI := ⟨.bool, 1, 1, [.bool false]⟩
abbrev ty5 : TyI := ⟨.int .u8, 1, 1, [.int .u8 0]⟩
abbrev ty6 : TyI := ⟨.int .u8, 1, 1, [.int .u8 0]⟩
abbrev ty7 : TyI := ⟨.struct [(0, 2), (1, 3), (2, 4), (3, 6)], 4, 24, [.int .i64 0, .int .i64 0, .bool false, .int .u8 0]⟩
abbrev ty8 : TyI := ⟨.struct [(0, 2), (1, 3), (2, 4), (3, 6)], 4, 24, [.int .i64 0, .int .i64 0, .bool false, .int .u8 0]⟩
abbrev ty9 : TyI := ⟨.string, 1, 16, [.str ⟨#[]⟩]⟩
abbrev ty10 : TyI := ⟨.string, 1, 16, [.str ⟨#[]⟩]⟩
abbrev ty11 : TyI := ⟨.string, 1, 16, [.str ⟨#[]⟩]⟩
abbrev ty12 : TyI := ⟨.int .u64, 1, 8, [.int .u64 0]⟩
abbrev ty13 : TyI := ⟨.struct [(0, 9), (1, 12)], 2, 24, [.str ⟨#[]⟩, .int .u64 0]⟩
abbrev ty14 : TyI := ⟨.struct [(0, 9), (1, 12)], 2, 24, [.str ⟨#[]⟩, .int .u64 0]⟩
abbrev ty15 : TyI := ⟨.ptr 50, 1, 8, [.nilp]⟩
abbrev ty16 : TyI := ⟨.ptr 53, 1, 8, [.nilp]⟩
abbrev ty17 : TyI := ⟨.ptr 62, 1, 8, [.nilp]⟩
abbrev ty18 : TyI := ⟨.struct [(0, 17)], 1, 8, [.nilp]⟩
abbrev ty19 : TyI := ⟨.struct [(0, 17)], 1, 8, [.nilp]⟩
abbrev ty20 : TyI := ⟨.other, 1, 16, []⟩
abbrev ty21 : TyI := ⟨.int .i32, 1, 4, [.int .i32 0]⟩
abbrev ty22 : TyI := ⟨.int .u32, 1, 4, [.int .u32 0]⟩
abbrev ty23 : TyI := ⟨.array 4 22, 4, 16, [.int .u32 0, .int .u32 0, .int .u32 0, .int .u32 0]⟩
abbrev ty24 : TyI := ⟨.array 4 22, 4, 16, [.int .u32 0, .int .u32 0, .int .u32 0, .int .u32 0]⟩
abbrev ty25 : TyI := ⟨.other, 1, 8, []⟩
abbrev ty26 : TyI := ⟨.int .i64, 1, 8, [.int .i64 0]⟩
abbrev ty27 : TyI := ⟨.other, 1, 0, []⟩
abbrev ty28 : TyI := ⟨.other, 1, 8, []⟩
abbrev ty29 : TyI := ⟨.other, 1, 8, []⟩
abbrev ty30 : TyI := ⟨.other, 1, 8, []⟩
abbrev ty31 : TyI := ⟨.array 8 22, 8, 32, [.int .u32 0, .int .u32 0, .int .u32 0, .int .u32 0, .int .u32 0, .int .u32 0, .int .u32 0, .int .u32 0]⟩
abbrev ty32 : TyI := ⟨.other, 1, 8, []⟩
abbrev ty33 : TyI := ⟨.other, 1, 8, []⟩
abbrev ty34 : TyI := ⟨.slice 5, 1, 24, [.nil]⟩
abbrev ty35 : TyI := ⟨.int .u64, 1, 8, [.int .u64 0]⟩
abbrev ty36 : TyI := ⟨.other, 1, 8, []⟩
abbrev ty37 : TyI := ⟨.int .u64, 1, 8, [.int .u64 0]⟩
abbrev ty38 : TyI := ⟨.slice 22, 1, 24, [.nil]⟩
abbrev ty39 : TyI := ⟨.other, 1, 8, []⟩
abbrev ty40 : TyI := ⟨.other, 1, 0, []⟩
abbrev ty41 : TyI := ⟨.other, 1, 8, []⟩
abbrev ty42 : TyI := ⟨.other, 1, 8, []⟩
abbrev ty43 : TyI := ⟨.other, 1, 8, []⟩
abbrev ty44 : TyI := ⟨.other, 1, 8, []⟩
abbrev ty45 : TyI := ⟨.array 16 5, 16, 16, [.int .u8 0, .int .u8 0, .int .u8 0, .int .u8 0, .int .u8 0, .int .u8 0, .int .u8 0, .int .u8 0, .int .u8 0, .int .u8 0, .int .u8 0, .int .u8 0, .int .u8 0, .int .u8 0, .int .u8 0, .int .u8 0]⟩
abbrev ty46 : TyI := ⟨.other, 1, 8, []⟩
abbrev ty47 : TyI := ⟨.array 4 3, 4, 32, [.int .i64 0, .int .i64 0, .int .i64 0, .int .i64 0]⟩
abbrev ty48 : TyI := ⟨.other, 1, 8, []⟩
abbrev ty49 : TyI := ⟨.struct [(0, 17), (1, 17), (2, 17), (3, 9)], 4, 40, [.nilp, .nilp, .nilp, .str ⟨#[]⟩]⟩
abbrev ty50 : TyI := ⟨.struct [(0, 17), (1, 17), (2, 17), (3, 9)], 4, 40, [.nilp, .nilp, .nilp, .str ⟨#[]⟩]⟩
abbrev ty51 : TyI := ⟨.array 0 16, 0, 0, []⟩
abbrev ty52 : TyI := ⟨.other, 0, 0, []⟩
abbrev ty53 : TyI := ⟨.other, 0, 0, []⟩
abbrev ty54 : TyI := ⟨.other, 1, 8, []⟩
abbrev ty55 : TyI := ⟨.int .u8, 1, 1, [.int .u8 0]⟩
abbrev ty56 : TyI := ⟨.int .u8, 1, 1, [.int .u8 0]⟩
abbrev ty57 : TyI := ⟨.other, 1, 8, []⟩
abbrev ty58 : TyI := ⟨.ptr 5, 1, 8, [.nilp]⟩
abbrev ty59 : TyI := ⟨.int .i32, 1, 4, [.int .i32 0]⟩
abbrev ty60 : TyI := ⟨.int .i32, 1, 4, [.int .i32 0]⟩
abbrev ty61 : TyI := ⟨.struct [(0, 12), (1, 12), (2, 22), (3, 55), (4, 5), (5, 5), (6, 56), (7, 57), (8, 58), (9, 59), (10, 60)], 11, 48, []⟩
abbrev ty62 : TyI := ⟨.struct [(0, 12), (1, 12), (2, 22), (3, 55), (4, 5), (5, 5), (6, 56), (7, 57), (8, 58), (9, 59), (10, 60)], 11, 48, []⟩
abbrev ty63 : TyI := ⟨.other, 1, 8, [.nilp]⟩
def TI (t : Nat) : Option TyI := bif Nat.blt t 64 then (bif Nat.blt t 32 then (bif Nat.blt t 16 then (bif Nat.blt t 8 then (bif Nat.blt t 4 then (bif Nat.blt t 2 then (bif Nat.blt t 1 then some ty0 else some ty1) else (bif Nat.blt t 3 then some ty2 else some ty3)) else (bif Nat.blt t 6 then (bif Nat.blt t 5 then some ty4 else some ty5) else (bif Nat.blt t 7 then some ty6 else some ty7))) else (bif Nat.blt t 12 then (bif Nat.blt t 10 then (bif Nat.blt t 9 then some ty8 else some ty9) else (bif Nat.blt t 11 then some ty10 else some ty11)) else (bif Nat.blt t 14 then (bif Nat.blt t 13 then some ty12 else some ty13) else (bif Nat.blt t 15 then some ty14 else some ty15)))) else (bif Nat.blt t 24 then (bif Nat.blt t 20 then (bif Nat.blt t 18 then (bif Nat.blt t 17 then some ty16 else some ty17) else (bif Nat.blt t 19 then some ty18 else some ty19)) else (bif Nat.blt t 22 then (bif Nat.blt t 21 then some ty20 else some ty21) else (bif Nat.blt t 23 then some ty22 else some ty23))) else (bif Nat.blt t 28 then (bif Nat.blt t 26 then (bif Nat.blt t 25 then some ty24 else some ty25) else (bif Nat.blt t 27 then some ty26 else some ty27)) else (bif Nat.blt t 30 then (bif Nat.blt t 29 then some ty28 else some ty29) else (bif Nat.blt t 31 then some ty30 else some ty31))))) else (bif Nat.blt t 48 then (bif Nat.blt t 40 then (bif Nat.blt t 36 then (bif Nat.blt t 34 then (bif Nat.blt t 33 then some ty32 else some ty33) else (bif Nat.blt t 35 then some ty34 else some ty35)) else (bif Nat.blt t 38 then (bif Nat.blt t 37 then some ty36 else some ty37) else (bif Nat.blt t 39 then some ty38 else some ty39))) else (bif Nat.blt t 44 then (bif Nat.blt t 42 then (bif Nat.blt t 41 then some ty40 else some ty41) else (bif Nat.blt t 43 then some ty42 else some ty43)) else (bif Nat.blt t 46 then (bif Nat.blt t 45 then some ty44 else some ty45) else (bif Nat.blt t 47 then some ty46 else some ty47)))) else (bif Nat.blt t 56 then (bif Nat.blt t 52 then (bif Nat.blt t 50 then (bif Nat.blt t 49 then some ty48 else some ty49) else (bif Nat.blt t 51 then some ty50 else some ty51)) else (bif Nat.blt t 54 then (bif Nat.blt t 53 then some ty52 else some ty53) else (bif Nat.blt t 55 then some ty54 else some ty55))) else (bif Nat.blt t 60 then (bif Nat.blt t 58 then (bif Nat.blt t 57 then some ty56 else some ty57) else (bif Nat.blt t 59 then some ty58 else some ty59)) else (bif Nat.blt t 62 then (bif Nat.blt t 61 then some ty60 else some ty61) else (bif Nat.blt t 63 then some ty62 else some ty63)))))) else none
theorem ti_all : (List.range 64).map TI = (List.range 64).map (tyOf Go.Proofs.Tryd.prog) := by kernel_rfl
theorem tok : TOk Go.Proofs.Tryd.prog TI := by
  intro t i h
  by_cases c : t < 64
  · have h1 : ((List.range 64).map TI)[t]? = ((List.range 64).map (tyOf Go.Proofs.Tryd.prog))[t]? := by rw [ti_all]
    rw [List.getElem?_map, List.getElem?_map, List.getElem?_range c] at h1
    simp only [Option.map_some, Option.some.injEq] at h1
    rw [← h1, h]
  · have h2 : Nat.blt t 64 = false := by
      rw [Bool.eq_false_iff]
      intro hc
      exact c (Nat.blt_eq.mp hc)
    unfold TI at h
    rw [h2] at h
    cases h
theorem mix : Go.Proofs.Tryd.prog.follows .mixedOrders = true := by kernel_rfl
end Go.Proofs.YtmckdaonemcnaaaDoor.Sv

namespace Go.Proofs.YtmckdaonemcnaaaDoor.Sv
open Go
set_option linter.unusedVariables false

structure Tac where
  op : Int
  d : Int
  a : Int
  b : Int
  k : Int
  base : Int
  size : Int
  n : Int
  deriving DecidableEq, Repr
structure Block where
  ins : List Tac
  fin : Int
  v : Int
  to : Int
  els : Int
  deriving DecidableEq, Repr
structure BFunc where
  regs : Int
  blocks : List Block
  deriving DecidableEq, Repr
structure Blocks where
  words : Int
  funcs : List BFunc
  deriving DecidableEq, Repr
structure Cert where
  same : List (List Bool)
  deriving DecidableEq, Repr

def Tac.cells (t : Tac) : List AV := [.int .i64 t.op, .int .i64 t.d, .int .i64 t.a, .int .i64 t.b, .int .i64 t.k, .int .i64 t.base, .int .i64 t.size, .int .u32 t.n]
def insAV (l : List Tac) : AV := .lst false (l.map Tac.cells)
def Block.cells (b : Block) : List AV := [insAV b.ins, .int .i64 b.fin, .int .i64 b.v, .int .i64 b.to, .int .i64 b.els]
def blocksAV (l : List Block) : AV := .lst false (l.map Block.cells)
def BFunc.cells (f : BFunc) : List AV := [.int .i64 f.regs, blocksAV f.blocks]
def funcsAV (l : List BFunc) : AV := .lst false (l.map BFunc.cells)
def Blocks.cells (b : Blocks) : List AV := [.int .i64 b.words, funcsAV b.funcs]
def boolsAV (l : List Bool) : AV := .lst false (l.map fun b => [.bool b])
def rowsAV (l : List (List Bool)) : AV := .lst false (l.map fun r => [boolsAV r])
def Cert.cells (c : Cert) : List AV := [rowsAV c.same]

theorem idx_map {α : Type} {l : List α} {f : α → List AV} {k : Nat} {x : α} (h : l[k]? = some x) : (l.map f)[((k : Nat) : Int).toNat]? = some (f x) := by
  rw [Int.toNat_natCast, List.getElem?_map, h]; rfl

theorem get_of_lt {α : Type} {l : List α} {k : Nat} (h : k < l.length) : ∃ x, l[k]? = some x := ⟨l[k], List.getElem?_eq_getElem h⟩

theorem take_succ_eq {α : Type} {l : List α} {k : Nat} {x : α} (h : l[k]? = some x) : l.take (k + 1) = l.take k ++ [x] := by
  rw [List.take_add_one, h]; rfl

/-! ### how long the parts may be -/
def Block.fits (x : Block) : Prop := x.ins.length ≤ maxLen
def fitsBlocks (l : List Block) : Prop := l.length ≤ maxLen ∧ ∀ x ∈ l, x.fits
def BFunc.fits (f : BFunc) : Prop := fitsBlocks f.blocks
def fitsFuncs (l : List BFunc) : Prop := l.length ≤ maxLen ∧ ∀ f ∈ l, f.fits
def Blocks.fits (b : Blocks) : Prop := fitsFuncs b.funcs
end Go.Proofs.YtmckdaonemcnaaaDoor.Sv

namespace Go.Proofs.YtmckdaonemcnaaaDoor.Sv
open Go
set_option linter.unusedVariables false
set_option linter.unusedSimpArgs false

section
variable {P : Program} {T : Nat → Option TyI} {o : Oper} {e : AEnv} {h : AHeap}

end
end Go.Proofs.YtmckdaonemcnaaaDoor.Sv

namespace Go.Proofs.YtmckdaonemcnaaaDoor.Sv
open Go
set_option linter.unusedVariables false
set_option linter.unusedSimpArgs false

section
variable {P : Program} {T : Nat → Option TyI} {o : Oper} {e : AEnv} {h : AHeap}

/-- One operation of which there are several ways to end. -/
def OLocE (P : Program) (o : Oper) (e : AEnv) (h : AHeap) (R : List Nat) (S : List (Nat × AObj) → AV → Prop) : Prop :=
  ∀ (H : Know) (ι : Lay) (a : Act) (w : World) (s : AState) (Q : Exit → Act → World → Prop), Sim H ι s a w →
    (∀ x ∈ o.op.operands, look s.env x = look e x) → (∀ b ∈ R, s.h b = h b) →
    o.wp P a w (fun a' w' => ∃ W r v H' ι', S W r ∧ a' = a.put o.dst v ∧ Rel H' ι' r v ∧ HeapRel H' ι' (hputs s.h W) w' ∧ Step H ι s.h w H' ι' (hputs s.h W) w') Q

theorem AOps.ex {ops : Array Oper} {rest : List Oper} {n : Nat} {K : AState → Prop} (d : Nat) {R : List Nat} {S : List (Nat × AObj) → AV → Prop} (hd : o.dst = some d) (hb : Nat.blt d n = true) (hg : guardIs ops o e = some true) (ho : OLocE P o e h R S)
    (hr : ∀ W r, S W r → AOps P ops rest ⟨n, eput e d r, hputs h W⟩ K) : AOps P ops (o :: rest) ⟨n, e, h⟩ K := by
  intro H ι a w hs
  unfold wpList
  rw [guard_wanted hs hg]
  simp only [if_true]
  refine .inl (Oper.wp_mono (fun a' w' hx => ?_) (ho H ι a w ⟨n, e, h⟩ _ hs (fun _ _ => rfl) (fun _ _ => rfl)))
  obtain ⟨W, r, v, H', ι', hS, rfl, h1, h2, h3⟩ := hx
  have hs' := hs.put (d := o.dst) (r := some r) h2 h3 (fun x ex => by cases ex; exact h1) (lt_of hd hb)
  rw [hd] at hs' ⊢
  have := hr W r hS H' ι' _ w' hs'
  have key : ∀ (l : List Oper) (a1 : Act) (w1 : World), wpList P ops (Post H' ι' (hputs h W) w' (Then K fun _ _ => False)) l a1 w1 → wpList P ops (Post H ι h w (Then K fun _ _ => False)) l a1 w1 := by
    have hpost : ∀ e a2 w2, Post H' ι' (hputs h W) w' (Then K fun _ _ => False) e a2 w2 → Post H ι h w (Then K fun _ _ => False) e a2 w2 := fun e a2 w2 hp => Post.step hs.heap h2 h3 hp
    intro l
    induction l with
    | nil => exact fun a1 w1 hp => hpost _ _ _ hp
    | cons o' l ih =>
      intro a1 w1 hp
      unfold wpList at hp ⊢
      by_cases hw : Region.wanted o' (yielded ops a1.tmps) = true
      · rw [if_pos hw] at hp ⊢
        rcases hp with hp | ⟨hp1, a2, w2, hp2⟩
        · refine .inl ?_
          have hp' := Oper.wp_mono (fun a2 w2 => ih a2 w2) hp
          clear hp
          unfold Oper.wp at hp' ⊢
          generalize (execOp a1.eval o').run P w1 = res at hp' ⊢
          cases res with
          | ok n w3 =>
            cases n <;> simp only [Oper.upon] at hp' ⊢ <;> first
              | exact hp'
              | exact Calls.mono hp' (fun e w4 he => by cases e <;> first | exact he | exact hpost _ _ _ he | (obtain ⟨a3, w5, hp3⟩ := he; exact ⟨a3, w5, hpost _ _ _ hp3⟩))
          | halt x w3 => cases x <;> simp only [Oper.upon] at hp' ⊢ <;> first | exact hpost _ _ _ hp' | exact hp'
        · exact .inr ⟨hp1, a2, w2, hpost _ _ _ hp2⟩
      · rw [if_neg hw] at hp ⊢
        exact ih _ _ hp
  exact key _ _ _ this

end
end Go.Proofs.YtmckdaonemcnaaaDoor.Sv

namespace Go.Proofs.YtmckdaonemcnaaaDoor.Sv
open Go
set_option linter.unusedVariables false
set_option linter.unusedSimpArgs false

def EDropK (k : Nat → Bool) (e' e : AEnv) : Prop := ∀ t x, e' t = some x → e t = some x ∧ x.avoid k = true
def HDropK (k : Nat → Bool) (h' h : AHeap) : Prop := ∀ b o, h' b = some o → (h b = some o ∧ (o.alive = true → k b = true ∧ o.avoid k = true)) ∨ (o = .free ∧ k b = false)

theorem EDropK.new (k : Nat → Bool) (e : AEnv) : EDropK k eNew e := fun _ _ h => by cases h
theorem EDropK.put {k : Nat → Bool} {e' e : AEnv} {t : Nat} {v : AV} (h : EDropK k e' e) (hv : e t = some v) (ha : v.avoid k = true) : EDropK k (eput e' t v) e := fun u x hx => by
  by_cases hu : u = t
  · subst hu; rw [eput_same] at hx; cases hx; exact ⟨hv, ha⟩
  · rw [eput_ne _ _ hu] at hx; exact h u x hx
theorem HDropK.none (k : Nat → Bool) (h : AHeap) : HDropK k hNone h := fun _ _ h => by cases h
theorem HDropK.put {k : Nat → Bool} {h' h : AHeap} {b : Nat} {o : AObj} (hh : HDropK k h' h) (ho : h b = some o) (hb : k b = true) (ha : o.avoid k = true) : HDropK k (hput h' b o) h := fun c x hx => by
  by_cases hc : c = b
  · subst hc; rw [hput_same] at hx; cases hx; exact .inl ⟨ho, fun _ => ⟨hb, ha⟩⟩
  · rw [hput_ne _ _ hc] at hx; exact hh c x hx
/-- s'' is s' without what lies from k on. -/
structure DropK (k : Nat → Bool) (s'' s' : AState) : Prop where
  n : s''.n = s'.n
  e : EDropK k s''.env s'.env
  h : HDropK k s''.h s'.h
theorem DropK.mk' {k : Nat → Bool} {n : Nat} {e' e : AEnv} {h' h : AHeap} (h1 : EDropK k e' e) (h2 : HDropK k h' h) : DropK k ⟨n, e', h'⟩ ⟨n, e, h⟩ := ⟨rfl, h1, h2⟩

section
variable {P : Program} {s : AState} {Q : Exit → AState → Prop}
end

section
variable {P : Program} {T : Nat → Option TyI} {o : Oper} {e : AEnv} {h : AHeap}
/-- a call that sees the rows of κ -/
def OCall (P : Program) (o : Oper) (e : AEnv) (h hn : AHeap) (r : AV) : Prop :=
  ∀ (H : Know) (ι : Lay) (a : Act) (w : World) (n : Nat) (Q : Exit → Act → World → Prop), Sim H ι ⟨n, e, h⟩ a w →
    o.wp P a w (fun a' w' => ∃ v H' ι', a' = a.put o.dst v ∧ Rel H' ι' r v ∧ HeapRel H' ι' hn w' ∧ Step H ι h w H' ι' hn w') Q
theorem AOps.call {ops : Array Oper} {rest : List Oper} {n : Nat} {K : AState → Prop} (d : Nat) {hn : AHeap} {r : AV} (hd : o.dst = some d) (hb : Nat.blt d n = true) (hg : guardIs ops o e = some true) (ho : OCall P o e h hn r)
    (hr : AOps P ops rest ⟨n, eput e d r, hn⟩ K) : AOps P ops (o :: rest) ⟨n, e, h⟩ K := by
  intro H ι a w hs
  unfold wpList
  rw [guard_wanted hs hg]
  simp only [if_true]
  refine .inl (Oper.wp_mono (fun a' w' hx => ?_) (ho H ι a w n _ hs))
  obtain ⟨v, H', ι', rfl, h1, h2, h3⟩ := hx
  have hs' := hs.put (d := o.dst) (r := some r) h2 h3 (fun x ex => by cases ex; exact h1) (lt_of hd hb)
  rw [hd] at hs' ⊢
  have := hr H' ι' _ w' hs'
  have key : ∀ (l : List Oper) (a1 : Act) (w1 : World), wpList P ops (Post H' ι' hn w' (Then K fun _ _ => False)) l a1 w1 → wpList P ops (Post H ι h w (Then K fun _ _ => False)) l a1 w1 := by
    have hpost : ∀ e a2 w2, Post H' ι' hn w' (Then K fun _ _ => False) e a2 w2 → Post H ι h w (Then K fun _ _ => False) e a2 w2 := fun e a2 w2 hp => Post.step hs.heap h2 h3 hp
    intro l
    induction l with
    | nil => exact fun a1 w1 hp => hpost _ _ _ hp
    | cons o' l ih =>
      intro a1 w1 hp
      unfold wpList at hp ⊢
      by_cases hw : Region.wanted o' (yielded ops a1.tmps) = true
      · rw [if_pos hw] at hp ⊢
        rcases hp with hp | ⟨hp1, a2, w2, hp2⟩
        · refine .inl ?_
          have hp' := Oper.wp_mono (fun a2 w2 => ih a2 w2) hp
          clear hp
          unfold Oper.wp at hp' ⊢
          generalize (execOp a1.eval o').run P w1 = res at hp' ⊢
          cases res with
          | ok n w3 =>
            cases n <;> simp only [Oper.upon] at hp' ⊢ <;> first
              | exact hp'
              | exact Calls.mono hp' (fun e w4 he => by cases e <;> first | exact he | exact hpost _ _ _ he | (obtain ⟨a3, w5, hp3⟩ := he; exact ⟨a3, w5, hpost _ _ _ hp3⟩))
          | halt x w3 => cases x <;> simp only [Oper.upon] at hp' ⊢ <;> first | exact hpost _ _ _ hp' | exact hp'
        · exact .inr ⟨hp1, a2, w2, hpost _ _ _ hp2⟩
      · rw [if_neg hw] at hp ⊢
        exact ih _ _ hp
  exact key _ _ _ this

end
end Go.Proofs.YtmckdaonemcnaaaDoor.Sv

namespace Go.Proofs.YtmckdaonemcnaaaDoor.Sv
open Go
set_option linter.unusedVariables false
section
variable {P : Program} {Q : Exit → AState → Prop} {s : AState} {c : Code}
def Un (P : Program) (c : Code) (Q : Exit → AState → Prop) : Nat → AState → Prop
  | 0, s => AGo P c s (Then (fun _ => False) Q)
  | n + 1, s => AGo P c s (Then (Un P c Q n) Q)
theorem AGo.un_succ {n : Nat} (h : AGo P c s (Then (Un P c Q n) Q)) : Un P c Q (n + 1) s := h
theorem AGo.un_zero (h : AGo P c s (Then (fun _ => False) Q)) : Un P c Q 0 s := h
theorem un_then0 {e : Exit} {s : AState} {K : AState → Prop} (h : Then (fun _ => False) Q e s) : Then K Q e s := by
  cases e with
  | normal => exact False.elim h
  | _ => exact h
theorem un_then {e : Exit} {s : AState} {g : Nat} (h : Then (Un P c Q g) Q e s) : Then (fun s' => ∃ g', Un P c Q g' s' ∧ g' < g + 1) Q e s := by
  cases e with
  | normal => exact ⟨g, h, Nat.lt_succ_self g⟩
  | _ => exact h
theorem AGo.unroll (n : Nat) (h : Un P c Q n s) : AGo P (.loop c) s Q := by
  refine AGo.loop (Un P c Q) (fun g => g) n h fun g s hg => ?_
  cases g with
  | zero => exact AGo.mono (Q := Then (fun _ => False) Q) hg fun e s h => un_then0 h
  | succ g => exact AGo.mono (Q := Then (Un P c Q g) Q) hg fun e s h => un_then h
end
end Go.Proofs.YtmckdaonemcnaaaDoor.Sv

namespace Go.Proofs.YtmckdaonemcnaaaDoor.Sv
open Go
set_option linter.unusedVariables false
section
variable {P : Program} {T : Nat → Option TyI} {o : Oper} {e : AEnv} {h : AHeap}
theorem q_index_val (hT : TOk P T) {t : TypeId} {x y : Operand} {cs : List AV} {r : AV} {k k' : IntKind} {n : Int} {i j : TyI} {len u : Nat} (ho : o.op = .index t x y) (hx : look e x = some (.agg cs)) (hy : look e y = some (.int k n))
    (hi : T t = some i) (hk : i.k = .array len u) (hj : T u = some j) (hk' : j.k = .int k') (hz : j.size = 1) (h0 : 0 ≤ n) (hn : n < len) (hr : cs[n.toNat]? = some r) : QLoc P o e h [] r := by
  intro H ι a w s hs h1 h2
  have hx' : look s.env x = some (.agg cs) := by rw [h1 x (by rw [ho]; simp [Op.operands]), hx]
  have hy' : look s.env y = some (.int k n) := by rw [h1 y (by rw [ho]; simp [Op.operands]), hy]
  obtain ⟨info, d, e1, e2, e3, e4, e5, e6⟩ := tyOf_spec (hT _ _ hi)
  obtain ⟨info', d', e1', e2', e3', e4', e5', e6'⟩ := tyOf_spec (hT _ _ hj)
  have hd := tk_array (P := P) (d := d) (e3 ▸ hk)
  subst hd
  have hd' := tk_int (P := P) (d := d') (e3' ▸ hk')
  subst hd'
  have hvy : a.eval y = .int k n := (look_rel hs hy').int_inv
  obtain ⟨us, hva, hl, hrel⟩ := (look_rel hs hx').agg_inv
  have hlt := (List.getElem?_eq_some_iff.1 hr).1
  obtain ⟨u0, hu0⟩ : ∃ u0, us[n.toNat]? = some u0 := ⟨us[n.toNat]'(by omega), Array.getElem?_eq_getElem (by omega)⟩
  refine ⟨u0, hrel _ _ _ hr hu0, ?_⟩
  have hcond : 0 ≤ n ∧ n < (len : Int) := ⟨h0, hn⟩
  have hsz : info'.size = 1 := by rw [e4', hz]
  have hpart := run_part1 (P := P) (w := w) (off := n.toNat) (cs := us) e2' rfl hu0
  simp only [execOp, ho, hva, hvy, Instr.index, asIntOf, Sem.run_bind, Sem.run_pure, Result.andThen_ok, run_underlying' e2, hcond, and_self, if_true, run_isz e1', hsz, Nat.mul_one, hpart]
theorem q_cvt (hT : TOk P T) {t u : TypeId} {x : Operand} {k k' : IntKind} {n r : Int} {i j : TyI} (ho : o.op = .convert t u x) (hx : look e x = some (.int k' n)) (hi : T t = some i) (hj : T u = some j) (hk : j.k = .int k) (hw : k.wrap n = r) : QLoc P o e h [] (.int k r) := by
  have := q_convInt (h := h) hT ho hx hi hj hk
  rw [hw] at this
  exact this
theorem fill_more {f g : Nat → Option (Nat × Nat)} (hfg : ∀ i p, f i = some p → g i = some p) : ∀ (ps : List (Nat × Value)) (cs r : Array Value), Instr.fill f cs ps = some r → Instr.fill g cs ps = some r
  | [], _, _, h => h
  | (i, v) :: ps, cs, r, h => by
    unfold Instr.fill at h ⊢
    cases e : f i with
    | none => rw [e] at h; cases h
    | some p =>
      rw [e] at h
      rw [hfg i p e]
      obtain ⟨off, sz⟩ := p
      simp only at h ⊢
      split at h
      · cases h
      · rename_i hc
        rw [if_neg hc]
        exact fill_more hfg ps _ _ h
/-- where the parts of an array lie -/
def arrFs (len sz u : Nat) : List (Nat × Nat) := (List.range len).map fun k => (k * sz, u)
theorem q_build_arr (hT : TOk P T) {t : TypeId} {parts : Array (Nat × Operand)} {i j : TyI} {len u : Nat} {ps : List (Nat × AV)} {r : List AV} (ho : o.op = .build t parts) (hx : lookParts e parts.toList = some ps) (hi : T t = some i) (hk : i.k = .array len u) (hj : T u = some j) (hz : i.zero.length = i.size) (hp : 0 < i.size)
    (hfit : partsFit T (arrFs len j.size u) ps = true) (hr : partCells (arrFs len j.size u) ps i.zero = some r) : QLoc P o e h [] (.agg r) := by
  intro H ι a w s hs g1 g2
  have hx' : lookParts s.env parts.toList = some ps := by
    rw [lookParts_agree (e := e) (fun x hx => g1 x (by rw [ho]; simp only [Op.operands, List.mem_toArray]; exact hx))]; exact hx
  obtain ⟨l1, l2⟩ := lookParts_rel hs hx'
  obtain ⟨info, d, e1, e2, e3, e4, e5, e6⟩ := tyOf_spec (hT _ _ hi)
  obtain ⟨info', d', e1', e2', e3', e4', e5', e6'⟩ := tyOf_spec (hT _ _ hj)
  have hd := tk_array (P := P) (d := d) (e3 ▸ hk)
  subst hd
  obtain ⟨z, hz1, hz2⟩ := zero_spec e6 hz hp
  obtain ⟨z1, z2⟩ := allAV_rel (H := H) (ι := ι) hz2
  let places : Array (Nat × Nat) := ((List.range len).map fun k => (k * j.size, j.size)).toArray
  have hpl : ∀ (i off t : Nat), (arrFs len j.size u)[i]? = some (off, t) → ∃ i', T t = some i' ∧ places[i]? = some (off, i'.size) := fun i off t h => by
    simp only [arrFs, List.getElem?_map, Option.map_eq_some_iff, Prod.mk.injEq] at h
    obtain ⟨k, hk, rfl, rfl⟩ := h
    exact ⟨j, hj, by simp [places, hk]⟩
  obtain ⟨vs, f1, f2, f3⟩ := fill_rel (T := T) (s := s) (a := a) (w := w) hpl ps (parts.toList.map fun (i, x) => (i, a.eval x)) i.zero z.cells r (by simp [l1]) (fun k p q k1 k2 => ⟨(l2 k p q k1 k2).1, (l2 k p q k1 k2).2, partsFit_get hfit k p k1⟩) (by simpa using z1) (fun j x v k1 k2 => z2 j x v k1 (by simpa using k2)) hr
  have f1' := fill_more (g := fun i => some (i * j.size, j.size)) (fun i p h => by
    simp only [places, List.getElem?_toArray, List.getElem?_map, Option.map_eq_some_iff] at h
    obtain ⟨k, hk, rfl⟩ := h
    have := (List.getElem?_eq_some_iff.1 hk)
    simp at this
    rw [this.2]) _ _ _ f1
  refine ⟨.agg vs, .agg _ _ _ f2 f3, ?_⟩
  have hparts : (parts.map fun (i, x) => (i, a.eval x)).toList = parts.toList.map fun (i, x) => (i, a.eval x) := by simp
  simp only [execOp, ho, Instr.build, zeroValue, typeInfo, Sem.run_bind, run_program, Result.andThen_ok, e1, hz1, Sem.run_pure, run_underlying' e2, run_isz e1', e4', hparts, f1']
end
end Go.Proofs.YtmckdaonemcnaaaDoor.Sv

namespace Go.Proofs.YtmckdaonemcnaaaDoor.Sv
open Go
set_option linter.unusedVariables false
set_option linter.unusedSimpArgs false

def byteCells (l : List UInt8) : List (List AV) := l.map fun b => [AV.int .u8 b.toNat]
theorem push_bytes : ∀ (l : List UInt8) (s : ByteArray), (l.map (fun b : UInt8 => ((b.toNat : Nat) : Int))).foldl (fun r n => r.push (UInt8.ofNat n.toNat)) s = ⟨s.data ++ l.toArray⟩
  | [], s => by simp
  | b :: r, s => by
    simp only [List.map_cons, List.foldl_cons, Int.toNat_natCast, UInt8.ofNat_toNat]
    rw [push_bytes r]
    show ByteArray.mk (s.data.push b ++ r.toArray) = _
    congr 1
    apply Array.toList_inj.1
    simp
theorem push_all (l : List UInt8) : (l.map (fun b : UInt8 => ((b.toNat : Nat) : Int))).foldl (fun r n => r.push (UInt8.ofNat n.toNat)) ByteArray.empty = ⟨l.toArray⟩ := by
  rw [push_bytes]
  show ByteArray.mk (#[] ++ l.toArray) = _
  simp
section
variable {P : Program} {T : Nat → Option TyI} {o : Oper} {e : AEnv} {h : AHeap}
theorem q_bytesStr (hT : TOk P T) {t u : TypeId} {x : Operand} {l : List UInt8} {ex : Bool} {i j k : TyI} {v : Nat} (ho : o.op = .convert t u x) (hx : look e x = some (.lst ex (byteCells l))) (hi : T t = some i) (hik : i.k = .slice v) (hv : T v = some k) (hk : k.k = .int .u8) (hj : T u = some j) (hjk : j.k = .string) :
    QLoc P o e h [] (.str ⟨l.toArray⟩) := by
  intro H ι a w s hs g1 g2
  have hx' : look s.env x = some (.lst ex (byteCells l)) := by rw [g1 x (by rw [ho]; simp [Op.operands]), hx]
  obtain ⟨info, d, e1, e2, e3, e4, e5, e6⟩ := tyOf_spec (hT _ _ hi)
  obtain ⟨info', d', e1', e2', e3', e4', e5', e6'⟩ := tyOf_spec (hT _ _ hj)
  obtain ⟨info'', d'', e1'', e2'', e3'', e4'', e5'', e6''⟩ := tyOf_spec (hT _ _ hv)
  have hd := tk_slice (P := P) (d := d) (e3 ▸ hik)
  subst hd
  have hd := tk_string (P := P) (d := d') (e3' ▸ hjk)
  subst hd
  have hd := tk_int (P := P) (d := d'') (e3'' ▸ hk)
  subst hd
  have hvx := look_rel hs hx'
  generalize hva : a.eval x = va at hvx
  refine ⟨_, .str _ _, ?_⟩
  simp only [execOp, ho, hva, Sem.run_bind]
  have key : (Go.convert t u va).run P w = .ok (.string ⟨l.toArray⟩) w := by
    rcases hvx.lst_inv with ⟨hl, ad, cap, rfl, h1, h2, h3, h4⟩ | ⟨hne, b, off, cap, sz, c, vals, rfl, hb, hsz', hv', hr, hc1, hex, hcap, hmax⟩
    · have hl0 : l = [] := by simpa [byteCells] using hl
      subst hl0
      cases ad with
      | none => simp [Go.convert, run_underlying' e2, run_underlying' e2', run_underlying' e2'', Conv.bytesToString, Sem.run_pure]; rfl
      | some ad =>
        rw [run_convert_bytes_string w t u v (some ad) 0 cap e2 e2'' e2']
        rw [run_bytesToString w ad 0 cap [] (by simpa using run_loadCells (P := P) (w := w) ad 0 (fun _ => undef) (fun j hj => by omega))]
        rfl
    · rw [run_convert_bytes_string w t u v (some ⟨b, off, none⟩) (byteCells l).length cap e2 e2'' e2']
      obtain ⟨TT, fr, hbw⟩ := hs.heap.know b c hb
      have hlen : (byteCells l).length = l.length := by simp [byteCells]
      rw [run_bytesToString w _ _ cap (l.map (fun b : UInt8 => ((b.toNat : Nat) : Int))) ?_, push_all]
      have hld := run_loadCells_list (P := P) (w := w) ⟨b, off, none⟩ (l.map (fun b : UInt8 => Value.int .u8 b.toNat)) (fun j y hj => by
        rw [List.getElem?_map] at hj
        cases hlj : l[j]? with
        | none => rw [hlj] at hj; cases hj
        | some n =>
          rw [hlj] at hj
          cases hj
          have hbc : (byteCells l)[j]? = some [AV.int .u8 n.toNat] := by simp [byteCells, hlj]
          have hsz : sz = 1 := (hsz' j _ hbc).symm
          subst hsz
          have q1 := hv' j _ 0 _ hbc rfl
          have q2 := (hr j _ 0 _ hbc rfl).int_inv
          rw [add_mk, cell_row hbw]
          rw [q2, Nat.mul_one, Nat.add_zero] at q1
          exact q1)
      rw [hlen]
      simpa [List.map_map, Function.comp_def] using hld
  simp only [key, Result.andThen_ok, Sem.run_pure]
end
end Go.Proofs.YtmckdaonemcnaaaDoor.Sv

namespace Go.Proofs.YtmckdaonemcnaaaDoor.Sv
open Go
set_option linter.unusedVariables false
set_option linter.unusedSimpArgs false
section
variable {P : Program} {T : Nat → Option TyI} {o : Oper} {e : AEnv} {h : AHeap}
theorem q_strFrom (hT : TOk P T) {t : TypeId} {x y : Operand} {z : ByteArray} {k : IntKind} {n : Int} {m : Nat} {i : TyI} (ho : o.op = .slice t x (some y) none none) (hx : look e x = some (.str z)) (hy : look e y = some (.int k n)) (hi : T t = some i) (hk : i.k = .string) (hn : n = (m : Int)) (hm : m ≤ z.size) :
    QLoc P o e h [] (.str (z.extract m z.size)) := by
  intro H ι a w s hs g1 g2
  have hx' : look s.env x = some (.str z) := by rw [g1 x (by rw [ho]; simp [Op.operands]), hx]
  have hy' : look s.env y = some (.int k n) := by rw [g1 y (by rw [ho]; simp [Op.operands]), hy]
  have hvx := (look_rel hs hx').str_inv
  have hvy := (look_rel hs hy').int_inv
  obtain ⟨info, d, e1, e2, e3, e4, e5, e6⟩ := tyOf_spec (hT _ _ hi)
  have hd := tk_string (P := P) (d := d) (e3 ▸ hk)
  subst hd
  subst hn
  refine ⟨_, .str _ _, ?_⟩
  simp only [execOp, ho, hvx, hvy, Instr.sliceAt, Instr.slice, Option.map_none, Option.map_some, Sem.run_bind, run_underlying' e2, Result.andThen_ok, Sem.run_pure]
  simp [Instr.sliceBounds, Instr.sliceBound, asIntOf, hm]
theorem q_strAdd {t t' : TypeId} {x y : Operand} {a b : ByteArray} (ho : o.op = .binOp .add t x y t') (hx : look e x = some (.str a)) (hy : look e y = some (.str b)) (hm : a.size + b.size ≤ 9223372036854775807) : QLoc P o e h [] (.str (a ++ b)) := by
  intro H ι ac w s hs h1 h2
  have hx' : look s.env x = some (.str a) := by rw [h1 x (by rw [ho]; simp [Op.operands]), hx]
  have hy' : look s.env y = some (.str b) := by rw [h1 y (by rw [ho]; simp [Op.operands]), hy]
  have hvx := (look_rel hs hx').str_inv
  have hvy := (look_rel hs hy').str_inv
  refine ⟨_, .str _ _, ?_⟩
  have hmax : ¬ ((a.size + b.size : Nat) : Int) > IntKind.i64.max := by
    have : IntKind.i64.max = 9223372036854775807 := by decide
    rw [this]; omega
  simp only [execOp, ho, hvx, hvy, Sem.run_bind]
  simp [eqGuard, binOp, Op.stringOp, Sem.run_pure]
  omega
theorem o_strBytes (hT : TOk P T) {t u : TypeId} {x : Operand} {z : ByteArray} {i j k : TyI} {v : Nat} (b : Nat) (ho : o.op = .convert t u x) (hx : look e x = some (.str z)) (hi : T t = some i) (hik : i.k = .string) (hj : T u = some j) (hjk : j.k = .slice v) (hv : T v = some k) (hk : k.k = .int .u8) (hb : h b = some .free) (hz : z.size ≤ maxLen) :
    OLoc P o e h [b] [(b, .row true 1 (byteCells z.data.toList))] (some (.ref b z.size 0 z.size)) := by
  intro H ι a w s Q hs g1 g2
  have hx' : look s.env x = some (.str z) := by rw [g1 x (by rw [ho]; simp [Op.operands]), hx]
  have hb' : s.h b = some .free := by rw [g2 b (by simp), hb]
  obtain ⟨info, d, e1, e2, e3, e4, e5, e6⟩ := tyOf_spec (hT _ _ hi)
  obtain ⟨info', d', e1', e2', e3', e4', e5', e6'⟩ := tyOf_spec (hT _ _ hj)
  obtain ⟨info'', d'', e1'', e2'', e3'', e4'', e5'', e6''⟩ := tyOf_spec (hT _ _ hv)
  have hd := tk_slice (P := P) (d := d') (e3' ▸ hjk)
  subst hd
  have hd := tk_int (P := P) (d := d'') (e3'' ▸ hk)
  subst hd
  have hvx := (look_rel hs hx').str_inv
  have hcv := Lib.run_convert_string_bytes (P := P) w t u v z e2 e2' e2''
  have hrun : (execOp a.eval o).run P w = .ok (.value (.slice (some ⟨w.heap.size, 0, none⟩) z.size (grownCap w z.size 0 v))) (Lib.bytesWorld w v z) := by
    simp only [execOp, ho, hvx, Sem.run_bind, hcv, Result.andThen_ok, Sem.run_pure]
  have hge := grownCap_ge w z.size 0 v
  have hcm := grownCap_le_maxLen w z.size 0 v hz
  have hcs : (Lib.bytesCells w v z).size = grownCap w z.size 0 v := by
    have : z.data.size = z.size := rfl
    simp [Lib.bytesCells]; omega
  have hbl : (byteCells z.data.toList).length = z.size := by
    show (List.map _ z.data.toList).length = _
    rw [List.length_map]; exact Array.length_toList
  have hrow : rowCells H noLay 1 (byteCells z.data.toList) (Lib.bytesCells w v z) := by
    refine ⟨fun i cs hi => ?_, fun i cs j x hi hj => ?_⟩
    · simp only [byteCells, List.getElem?_map, Option.map_eq_some_iff] at hi
      obtain ⟨c, _, rfl⟩ := hi; rfl
    · have hi' := hi
      simp only [byteCells, List.getElem?_map, Option.map_eq_some_iff] at hi
      obtain ⟨c, hc, rfl⟩ := hi
      have hlt : i < z.data.toList.length := (List.getElem?_eq_some_iff.1 hc).1
      have hlt' : i < z.data.size := by simpa using hlt
      cases j with
      | succ j => simp at hj
      | zero =>
        simp at hj; subst hj
        refine ⟨.int .u8 c.toNat, ?_, .int _ _ _, rfl⟩
        have hcz : z.data[i]? = some c := by rw [← Array.getElem?_toList]; exact hc
        simp only [Lib.bytesCells, Nat.mul_one, Nat.add_zero]
        rw [Array.getElem?_append_left (by simpa using hlt'), Array.getElem?_map, hcz]; rfl
  have hu := hs.heap.upd (w' := Lib.bytesWorld w v z) (o0 := .free) (o' := .row true 1 (byteCells z.data.toList)) (r' := ⟨w.heap.size, 1, (byteCells z.data.toList).length, (Lib.bytesCells w v z).size⟩) hb' rfl (.inl rfl) (fun _ => .inl (Nat.le_refl _))
    (fun rb hlt _ => Lib.bytesWorld_at_old w v z rb hlt) (by rw [Lib.bytesWorld_size]; omega) (by unfold Lib.bytesWorld World.freeze; rw [if_neg (by decide)]; rfl) (by unfold Lib.bytesWorld World.freeze; rw [if_neg (by decide)]; rfl)
    ⟨rfl, by decide, rfl, by show (byteCells z.data.toList).length * 1 ≤ (Lib.bytesCells w v z).size; rw [hbl, hcs]; omega, hrow.1, fun _ => ⟨_, v, ⟨_, Lib.bytesWorld_at_new w v z, .inr (Nat.le_refl _)⟩, rfl, hrow⟩⟩
  unfold Oper.wp
  rw [hrun]
  refine ⟨_, H, _, rfl, fun y hy => ?_, hu.1, hu.2⟩
  simp only [Option.some.injEq] at hy
  subst hy
  have := Rel.refL (H := H) (lput ι b ⟨w.heap.size, 1, (byteCells z.data.toList).length, (Lib.bytesCells w v z).size⟩) b z.size 0 z.size (grownCap w z.size 0 v) _ (lput_same _ _ _) hbl (by omega) hge (by rw [hcs]; simp) hcm
  simpa using this
end
end Go.Proofs.YtmckdaonemcnaaaDoor.Sv

namespace Go.Proofs.YtmckdaonemcnaaaDoor.Sv
open Go
set_option linter.unusedVariables false

def setsOp (op : Int) : Bool := op == 1 || (op == 2 || (op == 3 || (op == 4 || (op == 6 || op == 8))))
def Tac.sets (t : Tac) : Int := bif setsOp t.op then t.d else -1
def use1 (op : Int) : Bool := op == 2 || (op == 5 || (op == 6 || op == 9))
def use2 (op : Int) : Bool := op == 3 || op == 7
def Tac.uses (t : Tac) : List Int := bif use1 t.op then [t.a] else bif use2 t.op then [t.a, t.b] else []
def within (i n : Int) : Bool := decide (0 ≤ i) && decide (i < n)
def baseOp (op : Int) : Bool := op == 4 || op == 5
def arrOp (op : Int) : Bool := op == 6 || op == 7
def Tac.want (t : Tac) : Tac where
  op := t.op
  d := bif setsOp t.op then t.d else 0
  a := bif use1 t.op || use2 t.op then t.a else 0
  b := bif use2 t.op then t.b else 0
  k := bif t.op == 3 then t.k else 0
  base := bif baseOp t.op || (arrOp t.op || t.op == 10) then t.base else 0
  size := bif arrOp t.op then t.size else 0
  n := bif t.op == 1 then t.n else 0
def Tac.same (x y : Tac) : Bool := x.op == y.op && (x.d == y.d && (x.a == y.a && (x.b == y.b && (x.k == y.k && (x.base == y.base && (x.size == y.size && (x.n == y.n && true)))))))
def Tac.rest (t : Tac) (f words : Int) : Bool :=
  bif t.op == 3 then decide (4 ≤ t.k) && decide (t.k ≤ 15)
  else bif baseOp t.op then within t.base words
  else bif arrOp t.op then decide (1 ≤ t.size) && (decide (t.size ≤ 4096) && (decide (0 ≤ t.base) && decide (t.base ≤ words - t.size)))
  else bif t.op == 10 then within t.base f
  else true
def Tac.fits (t : Tac) (f regs words : Int) : Bool :=
  decide (1 ≤ t.op) && (decide (t.op ≤ 10) && ((!setsOp t.op || within t.d regs) && (t.uses.all (fun r => within r regs) && (t.rest f words && t.same t.want))))
def Block.ends (b : Block) (blocks regs : Int) : Bool :=
  bif b.fin == 1 then within b.to blocks && (b.v == 0 && b.els == 0)
  else bif b.fin == 2 then within b.to blocks && (within b.els blocks && within b.v regs)
  else b.fin == 3 && (b.v == 0 && (b.to == 0 && b.els == 0))
def Block.ok (x : Block) (blocks regs number words : Int) : Bool := x.ends blocks regs && x.ins.all (fun t => t.fits number regs words)
def BFunc.one (f : BFunc) (number words : Int) : Bool :=
  decide (0 ≤ f.regs) && (decide (f.regs ≤ 4000) && (!f.blocks.isEmpty && f.blocks.all (fun x => x.ok f.blocks.length f.regs number words)))
def Blocks.right (b : Blocks) : Bool :=
  decide (0 ≤ b.words) && (decide (b.words ≤ 1048576) && (!b.funcs.isEmpty && b.funcs.zipIdx.all (fun p => p.1.one (p.2 : Int) b.words)))
def Block.count (x : Block) : Nat := 1 + x.ins.length
def BFunc.count (f : BFunc) : Nat := (f.blocks.map Block.count).sum
def Blocks.count (b : Blocks) : Nat := (b.funcs.map BFunc.count).sum
def BFunc.low (f : BFunc) : Bool := decide (f.regs ≤ 60) && decide (f.blocks.length ≤ 40)
def Blocks.small (b : Blocks) (most : Int) : Bool :=
  decide (b.words ≤ 500) && (decide (b.funcs.length ≤ 10) && (b.funcs.all BFunc.low && (decide ((b.count : Int) ≤ most) && b.right)))

/-! ### loops that look at all elements -/
theorem Cert.ext' {c d : Cert} (h : c.same = d.same) : c = d := by cases c; cases d; simp_all
theorem BFunc.ext' {f g : BFunc} (h1 : f.regs = g.regs) (h2 : f.blocks = g.blocks) : f = g := by cases f; cases g; simp_all
end Go.Proofs.YtmckdaonemcnaaaDoor.Sv

namespace Go.Proofs.YtmckdaonemcnaaaDoor.Sv
open Go
set_option linter.unusedVariables false

/-- a word -/
def isW (n : Int) : Prop := 0 ≤ n ∧ n < 4294967296

theorem isW_wrap (n : Int) : isW (IntKind.u32.wrap n) := by
  rw [IntKind.wrap_u32]; constructor <;> omega
end Go.Proofs.YtmckdaonemcnaaaDoor.Sv

namespace Go.Proofs.YtmckdaonemcnaaaDoor.Sv
open Go
set_option linter.unusedVariables false

def addW (a b : Int) : Int := IntKind.u32.wrap (a + b)
def mulW (a b : Int) : Int := IntKind.u32.wrap (a * b)
def xorW (a b : Int) : Int := IntKind.u32.wrap ((BitVec.ofInt IntKind.u32.bits a ^^^ BitVec.ofInt IntKind.u32.bits b).toNat)
def orW (a b : Int) : Int := IntKind.u32.wrap ((BitVec.ofInt IntKind.u32.bits a ||| BitVec.ofInt IntKind.u32.bits b).toNat)
def shlW (a p : Int) : Int := IntKind.u32.wrap (a * 2 ^ (min p.toNat IntKind.u32.bits))
def shrW (a p : Int) : Int := a.fdiv (2 ^ (min p.toNat IntKind.u32.bits))
def rotl (x p : Int) : Int := orW (shlW x p) (shrW x (32 - p))
theorem shlBin {a p : Int} (h : 0 ≤ p) : evalBin .shl (.int .u32 a) (.int .u64 p) = some (.int .u32 (shlW a p)) := by
  show evalInt .shl .u32 a p = _
  simp only [evalInt]
  rw [if_neg (by omega)]; rfl
theorem shrBin {a p : Int} (h : 0 ≤ p) : evalBin .shr (.int .u32 a) (.int .u64 p) = some (.int .u32 (shrW a p)) := by
  show evalInt .shr .u32 a p = _
  simp only [evalInt]
  rw [if_neg (by omega)]; rfl
theorem and31 {p : Int} (h : 0 ≤ p ∧ p < 32) : evalBin .and (.int .u64 p) (.int .u64 31) = some (.int .u64 p) := by
  show evalInt .and .u64 p 31 = _
  simp only [evalInt]
  congr 2
  obtain ⟨n, rfl⟩ := Int.eq_ofNat_of_zero_le h.1
  have key : ∀ n : Fin 32, IntKind.u64.wrap ((BitVec.ofInt IntKind.u64.bits ((n.val : Nat) : Int) &&& BitVec.ofInt IntKind.u64.bits 31).toNat) = ((n.val : Nat) : Int) := by decide
  exact key ⟨n, by omega⟩
theorem rem32 {p : Int} (h : 0 ≤ p ∧ p < 32) : evalBin .rem (.int .i64 p) (.int .i64 32) = some (.int .i64 p) := by
  show evalInt .rem .i64 p 32 = _
  simp only [evalInt]
  rw [if_neg (by omega)]
  congr 2
  exact Int.tmod_eq_of_lt h.1 h.2
theorem lss0 {p : Int} (h : 0 ≤ p) : evalBin .lss (.int .i64 p) (.int .i64 0) = some (.bool false) := by
  show evalInt .lss .i64 p 0 = _
  simp only [evalInt]
  rw [decide_eq_false (by omega)]
theorem sub32 {p : Int} (h : 0 ≤ p ∧ p < 32) : evalBin .sub (.int .u64 32) (.int .u64 p) = some (.int .u64 (32 - p)) := by
  show evalInt .sub .u64 32 p = _
  simp only [evalInt]
  rw [IntKind.wrap_u64]
  congr 2; omega

/-- eight words -/
structure St8 where
  a0 : Int
  a1 : Int
  a2 : Int
  a3 : Int
  a4 : Int
  a5 : Int
  a6 : Int
  a7 : Int
def St8.cells (q : St8) : List AV := [.int .u32 q.a0, .int .u32 q.a1, .int .u32 q.a2, .int .u32 q.a3, .int .u32 q.a4, .int .u32 q.a5, .int .u32 q.a6, .int .u32 q.a7]
structure W4 where
  a0 : Int
  a1 : Int
  a2 : Int
  a3 : Int
deriving DecidableEq
def W4.cells (q : W4) : List AV := [.int .u32 q.a0, .int .u32 q.a1, .int .u32 q.a2, .int .u32 q.a3]
def mixA (r : Nat) (q : St8) : St8 := ⟨addW q.a0 (mulW 2654435769 ((r + 1 : Nat) : Int)), q.a1, q.a2, q.a3, q.a4, q.a5, q.a6, q.a7⟩
def mix0 (q : St8) : St8 := ⟨addW q.a0 q.a4, q.a1, q.a2, q.a3, rotl (xorW q.a4 (addW q.a0 q.a4)) 7, q.a5, q.a6, q.a7⟩
def mix1 (q : St8) : St8 := ⟨q.a0, addW q.a1 q.a5, q.a2, q.a3, q.a4, rotl (xorW q.a5 (addW q.a1 q.a5)) 9, q.a6, q.a7⟩
def mix2 (q : St8) : St8 := ⟨q.a0, q.a1, addW q.a2 q.a6, q.a3, q.a4, q.a5, rotl (xorW q.a6 (addW q.a2 q.a6)) 13, q.a7⟩
def mix3 (q : St8) : St8 := ⟨q.a0, q.a1, q.a2, addW q.a3 q.a7, q.a4, q.a5, q.a6, rotl (xorW q.a7 (addW q.a3 q.a7)) 18⟩
def mixP (q : St8) : St8 := ⟨q.a3, q.a4, q.a5, q.a6, q.a7, q.a0, q.a1, q.a2⟩
def mixRound (r : Nat) (q : St8) : St8 := mixP (mix3 (mix2 (mix1 (mix0 (mixA r q)))))
def mixN : Nat → St8 → St8
  | 0, q => q
  | r + 1, q => mixRound r (mixN r q)
def xorIn (q : St8) (w : W4) : St8 := ⟨xorW q.a0 w.a0, xorW q.a1 w.a1, xorW q.a2 w.a2, xorW q.a3 w.a3, q.a4, q.a5, q.a6, q.a7⟩
def takeB (q : St8) (w : W4) : St8 := mixN 8 (xorIn q w)
def St8.front (q : St8) : W4 := ⟨q.a0, q.a1, q.a2, q.a3⟩
end Go.Proofs.YtmckdaonemcnaaaDoor.Sv

namespace Go.Proofs.YtmckdaonemcnaaaDoor.Sv
open Go
set_option linter.unusedVariables false
set_option linter.unusedSimpArgs false

def byteZ (n : Int) : UInt8 := UInt8.ofNat n.toNat
theorem wrap_byteZ {n : Int} (h : 0 ≤ n) : IntKind.u8.wrap n = (((byteZ n).toNat : Nat) : Int) := by
  obtain ⟨k, rfl⟩ := Int.eq_ofNat_of_zero_le h
  rw [IntKind.wrap_u8, byteZ, Int.toNat_natCast]
  show _ = (((UInt8.ofNat k).toNat : Nat) : Int)
  rw [UInt8.toNat_ofNat']
  omega
def byteC (z : ByteArray) (i : Nat) : UInt8 := (z.data.toList[i]?).getD 0
theorem byteC_get {z : ByteArray} {i : Nat} (h : i < z.size) : z.data.toList[((i : Nat) : Int).toNat]? = some (byteC z i) := by
  rw [Int.toNat_natCast]
  have hl : i < z.data.toList.length := by rw [Array.length_toList]; exact h
  rw [byteC, List.getElem?_eq_getElem hl]; rfl
theorem byte_lt (c : UInt8) : ((c.toNat : Nat) : Int) < 256 := by
  have : c.toNat < 256 := UInt8.toNat_lt c
  omega
/-! ### four bytes, as a word -/
def leW (a b c d : Int) : Int := orW (orW (orW a (shlW b 8)) (shlW c 16)) (shlW d 24)
def fourW (z : ByteArray) (at' i : Nat) : Int := leW (byteC z (at' + 4 * i)).toNat (byteC z (at' + 4 * i + 1)).toNat (byteC z (at' + 4 * i + 2)).toNat (byteC z (at' + 4 * i + 3)).toNat
def four (z : ByteArray) (at' : Nat) : W4 := ⟨fourW z at' 0, fourW z at' 1, fourW z at' 2, fourW z at' 3⟩
/-! ### digits -/
def digs : List Int := [48, 49, 50, 51, 52, 53, 54, 55, 56, 57, 97, 98, 99, 100, 101, 102]
def dig (n : Nat) : Int := (digs[n]?).getD 0
def digU (n : Nat) : UInt8 := byteZ (dig n)
theorem digU_toNat : ∀ n : Nat, n < 16 → (((digU n).toNat : Nat) : Int) = dig n := by
  have key : ∀ n : Fin 16, (((digU n.val).toNat : Nat) : Int) = dig n.val := by decide
  exact fun n h => key ⟨n, h⟩
theorem dig_drop : ∀ n : Nat, n < 16 → (digs.map fun v => AV.int .u8 v).drop n = .int .u8 (dig n) :: (digs.map fun v => AV.int .u8 v).drop (n + 1) := by
  intro n h
  match n, h with
  | 0, _ => rfl
  | 1, _ => rfl
  | 2, _ => rfl
  | 3, _ => rfl
  | 4, _ => rfl
  | 5, _ => rfl
  | 6, _ => rfl
  | 7, _ => rfl
  | 8, _ => rfl
  | 9, _ => rfl
  | 10, _ => rfl
  | 11, _ => rfl
  | 12, _ => rfl
  | 13, _ => rfl
  | 14, _ => rfl
  | 15, _ => rfl
  | n + 16, h => exact absurd h (by omega)
theorem dig_inj {n m : Nat} (hn : n < 16) (hm : m < 16) (h : dig n = dig m) : n = m := by
  have key : ∀ n m : Fin 16, dig n.val = dig m.val → n = m := by decide
  have := key ⟨n, hn⟩ ⟨m, hm⟩ h
  exact congrArg Fin.val this
theorem dig_gap {n : Nat} (hn : n < 16) : (48 ≤ dig n ∧ dig n ≤ 57) ∨ (97 ≤ dig n ∧ dig n ≤ 102) := by
  have key : ∀ n : Fin 16, (48 ≤ dig n.val ∧ dig n.val ≤ 57) ∨ (97 ≤ dig n.val ∧ dig n.val ≤ 102) := by decide
  exact key ⟨n, hn⟩
def hexC (c : UInt8) : List UInt8 := [digU (c.toNat / 16), digU (c.toNat % 16)]
def hexL (l : List UInt8) : List UInt8 := l.flatMap hexC
theorem hexL_len (l : List UInt8) : (hexL l).length = 2 * l.length := by
  induction l with
  | nil => rfl
  | cons c l ih => simp only [hexL, List.flatMap_cons, List.length_append, List.length_cons] at *; rw [ih]; simp [hexC]; omega
theorem hexL_get : ∀ (l : List UInt8) (i : Nat) (c : UInt8), l[i]? = some c → (hexL l)[2 * i]? = some (digU (c.toNat / 16)) ∧ (hexL l)[2 * i + 1]? = some (digU (c.toNat % 16))
  | [], i, c, h => by simp at h
  | a :: l, 0, c, h => by simp at h; subst h; simp [hexL, hexC]
  | a :: l, i + 1, c, h => by
    have ih := hexL_get l i c (by simpa using h)
    have e1 : 2 * (i + 1) = 2 * i + 1 + 1 := by omega
    simp only [hexL, List.flatMap_cons, hexC, List.cons_append, List.nil_append] at ih ⊢
    rw [e1]
    simpa using ih
theorem hexL_succ {l : List UInt8} {k : Nat} {c : UInt8} (h : l[k]? = some c) : hexL (l.take (k + 1)) = hexL (l.take k) ++ hexC c := by
  rw [take_succ_eq h]; simp [hexL]
theorem hex_join {hi lo : Nat} (h1 : hi < 16) (h2 : lo < 16) : IntKind.u8.wrap (IntKind.i64.wrap ((BitVec.ofInt IntKind.i64.bits (IntKind.i64.wrap ((hi : Int) * 2 ^ (min (4 : Int).toNat IntKind.i64.bits))) ||| BitVec.ofInt IntKind.i64.bits (lo : Int)).toNat)) = ((16 * hi + lo : Nat) : Int) := by
  have key : ∀ hi lo : Fin 16, IntKind.u8.wrap (IntKind.i64.wrap ((BitVec.ofInt IntKind.i64.bits (IntKind.i64.wrap ((hi.val : Int) * 2 ^ (min (4 : Int).toNat IntKind.i64.bits))) ||| BitVec.ofInt IntKind.i64.bits (lo.val : Int)).toNat)) = ((16 * hi.val + lo.val : Nat) : Int) := by decide
  exact key ⟨hi, h1⟩ ⟨lo, h2⟩
end Go.Proofs.YtmckdaonemcnaaaDoor.Sv

namespace Go.Proofs.YtmckdaonemcnaaaDoor.Sv
open Go
set_option linter.unusedVariables false
theorem addI {x y z : Int} (h1 : -9223372036854775808 ≤ x + y) (h2 : x + y ≤ 9223372036854775807) (hz : z = x + y) : evalBin .add (.int .i64 x) (.int .i64 y) = some (.int .i64 z) := by
  subst hz
  show evalInt .add .i64 x y = _
  simp only [evalInt]
  rw [wrap_i64 h1 h2]
theorem mulI {x y z : Int} (h1 : -9223372036854775808 ≤ x * y) (h2 : x * y ≤ 9223372036854775807) (hz : z = x * y) : evalBin .mul (.int .i64 x) (.int .i64 y) = some (.int .i64 z) := by
  subst hz
  show evalInt .mul .i64 x y = _
  simp only [evalInt]
  rw [wrap_i64 h1 h2]
theorem shr8Bin {c : UInt8} : evalBin .shr (.int .u8 (c.toNat : Int)) (.int .u64 4) = some (.int .u8 ((c.toNat / 16 : Nat) : Int)) := by
  show evalInt .shr .u8 _ 4 = _
  simp only [evalInt]
  rw [if_neg (by decide)]
  congr 2
  show Int.fdiv _ (2 ^ (min 4 8)) = _
  rw [Int.fdiv_eq_ediv_of_nonneg _ (by decide)]
  norm_cast
set_option maxRecDepth 100000 in
theorem and15Bin : ∀ c : UInt8, evalBin .and (.int .u8 (c.toNat : Int)) (.int .u8 15) = some (.int .u8 ((c.toNat % 16 : Nat) : Int)) := by
  intro c
  have key : ∀ n : Fin 256, IntKind.u8.wrap ((BitVec.ofInt IntKind.u8.bits ((n.val : Nat) : Int) &&& BitVec.ofInt IntKind.u8.bits 15).toNat) = ((n.val % 16 : Nat) : Int) := by decide
  have hc : c.toNat < 256 := UInt8.toNat_lt c
  show evalInt .and .u8 _ 15 = _
  simp only [evalInt]
  exact congrArg (fun v => some (AV.int .u8 v)) (key ⟨c.toNat, hc⟩)
/-- the bytes of a word, the least ones first -/
def leBytes (x : Int) : List UInt8 := [byteZ x, byteZ (shrW x 8), byteZ (shrW x 16), byteZ (shrW x 24)]
def beBytes (x : Int) : List UInt8 := [byteZ (shrW x 24), byteZ (shrW x 16), byteZ (shrW x 8), byteZ x]
theorem shrW_nonneg {x p : Int} (h : 0 ≤ x) : 0 ≤ shrW x p := by
  unfold shrW
  have hp : (0 : Int) < 2 ^ (min p.toNat IntKind.u32.bits) := Int.pow_pos (by omega)
  rw [Int.fdiv_eq_ediv_of_nonneg _ (Int.le_of_lt hp)]
  exact Int.ediv_nonneg h (Int.le_of_lt hp)
theorem leBytes_len (x : Int) : (leBytes x).length = 4 := rfl
theorem flat_succ {α β : Type} {l : List α} {f : α → List β} {k : Nat} {x : α} (h : l[k]? = some x) : (l.take (k + 1)).flatMap f = (l.take k).flatMap f ++ f x := by
  rw [take_succ_eq h]; simp
theorem flat_len {α β : Type} {f : α → List β} {n : Nat} (hf : ∀ x, (f x).length = n) (l : List α) : (l.flatMap f).length = n * l.length := by
  induction l with
  | nil => simp
  | cons x l ih => simp only [List.flatMap_cons, List.length_append, ih, hf, List.length_cons]; rw [Nat.mul_add]; omega
theorem Ghost.freezeW {n : Nat} {e : AEnv} {h : AHeap} (t b : Nat) {m sz : Nat} {es : List (List AV)} (ht : e t = some (.ref b m 0 m)) (hb : h b = some (.row true sz es)) (hm : m = es.length) :
    Ghost ⟨n, e, h⟩ ⟨n, eput e t (.lst false es), hrm h b⟩ := by
  have := Ghost.freeze (n := n) t b ht hb hm
  rwa [List.drop_zero, List.take_of_length_le (Nat.le_of_eq hm.symm)] at this
theorem sizeBA (l : List UInt8) : (⟨l.toArray⟩ : ByteArray).size = l.length := by simp [ByteArray.size]
theorem getBA {l : List UInt8} {k : Nat} {c : UInt8} (h : l[k]? = some c) : (⟨l.toArray⟩ : ByteArray).data.toList[((k : Nat) : Int).toNat]? = some c := by
  rw [Int.toNat_natCast]; simpa using h
theorem byteCells_len (l : List UInt8) : (byteCells l).length = l.length := by simp [byteCells]
theorem dig_load {i : TyI} {n : Nat} (h : n < 16) (h1 : i.k.isAgg = false) (h2 : i.k.isCell = true) : loadAV i ((digs.map fun v => AV.int .u8 v).drop (((n : Nat) : Int).toNat * 1)) = some (.int .u8 (((digU n).toNat : Nat) : Int)) := by
  rw [Int.toNat_natCast, Nat.mul_one, dig_drop n h, digU_toNat n h]
  unfold loadAV
  rw [h1, h2]; rfl
theorem div16 (c : UInt8) : c.toNat / 16 < 16 := by have := UInt8.toNat_lt c; omega
theorem mod16 (c : UInt8) : c.toNat % 16 < 16 := by omega
def wordsAV (l : List Int) : AV := .lst false (l.map fun x => [.int .u32 x])
theorem leqF {x : Int} (h : 70 < x) : evalBin .leq (.int .u8 x) (.int .u8 70) = some (.bool false) := by
  show evalInt .leq .u8 x 70 = _
  simp only [evalInt]
  rw [decide_eq_false (by omega)]
theorem lssN {n : Nat} : evalBin .lss (.int .i64 (n : Int)) (.int .i64 0) = some (.bool false) := by
  show evalInt .lss .i64 _ 0 = _
  simp only [evalInt]
  rw [decide_eq_false (by omega)]
theorem rem2N {n : Nat} : evalBin .rem (.int .i64 (n : Int)) (.int .i64 2) = some (.int .i64 ((n % 2 : Nat) : Int)) := by
  show evalInt .rem .i64 _ 2 = _
  simp only [evalInt]
  rw [if_neg (by decide)]
  rfl
theorem quo2N {n : Nat} (h : n ≤ 1000000) : evalBin .quo (.int .i64 ((2 * n : Nat) : Int)) (.int .i64 2) = some (.int .i64 (n : Int)) := by
  show evalInt .quo .i64 _ 2 = _
  simp only [evalInt]
  rw [if_neg (by decide)]
  have : ((2 * n : Nat) : Int).tdiv 2 = (n : Int) := by
    rw [Int.tdiv_eq_ediv_of_nonneg (Int.natCast_nonneg _)]; omega
  rw [this, wrap_i64 (by omega) (by omega)]
def hv (c : UInt8) (i : Nat) : Nat := if i % 2 = 0 then c.toNat / 16 else c.toNat % 16
theorem hv_lt (c : UInt8) (i : Nat) : hv c i < 16 := by
  unfold hv
  split
  · exact div16 c
  · exact mod16 c
theorem hexL_at {l : List UInt8} {i : Nat} {c : UInt8} (h : l[i / 2]? = some c) : (hexL l)[i]? = some (digU (hv c i)) := by
  obtain ⟨h1, h2⟩ := hexL_get l (i / 2) c h
  unfold hv
  split
  · rename_i e
    have e2 : 2 * (i / 2) = i := by omega
    rw [e2] at h1; exact h1
  · rename_i e
    have e2 : 2 * (i / 2) + 1 = i := by omega
    rw [e2] at h2; exact h2
theorem par_eq (n : Nat) : evalBin .eql (.int .i64 ((n % 2 : Nat) : Int)) (.int .i64 0) = some (.bool (decide (n % 2 = 0))) := by
  show evalInt .eql .i64 _ 0 = _
  simp only [evalInt]
  rcases Nat.mod_two_eq_zero_or_one n with h | h <;> rw [h] <;> rfl
theorem hex_odd {i : Nat} {c : UInt8} {hi : Nat} (ho : i % 2 = 1) (hh : hi = c.toNat / 16) : IntKind.u8.wrap (IntKind.i64.wrap ((BitVec.ofInt IntKind.i64.bits (IntKind.i64.wrap ((hi : Int) * 2 ^ (min (4 : Int).toNat IntKind.i64.bits))) ||| BitVec.ofInt IntKind.i64.bits (hv c i : Int)).toNat)) = ((c.toNat : Nat) : Int) := by
  subst hh
  rw [hex_join (div16 c) (hv_lt c i)]
  have : hv c i = c.toNat % 16 := by unfold hv; rw [if_neg (by omega)]
  rw [this]
  congr 1; omega
theorem hex_nextE {l : List UInt8} {q : Nat × Nat} {c : UInt8} (hk : q.1 < 2 * l.length) (he : q.1 % 2 = 0) (hc : l[q.1 / 2]? = some c) :
    (q.1 + 1, if q.1 % 2 = 0 then hv c q.1 else q.2).1 ≤ 2 * l.length ∧ ((q.1 + 1, if q.1 % 2 = 0 then hv c q.1 else q.2).1 % 2 = 1 → ∀ c', l[(q.1 + 1, if q.1 % 2 = 0 then hv c q.1 else q.2).1 / 2]? = some c' → (q.1 + 1, if q.1 % 2 = 0 then hv c q.1 else q.2).2 = c'.toNat / 16) := by
  refine ⟨hk, fun _ c' h' => ?_⟩
  simp only at h' ⊢
  rw [if_pos he]
  rw [show (q.1 + 1) / 2 = q.1 / 2 by omega, hc] at h'
  cases h'
  unfold hv; rw [if_pos he]
theorem hex_nextO {l : List UInt8} {q : Nat × Nat} {c : UInt8} (hk : q.1 < 2 * l.length) (ho : q.1 % 2 = 1) :
    (q.1 + 1, if q.1 % 2 = 0 then hv c q.1 else q.2).1 ≤ 2 * l.length ∧ ((q.1 + 1, if q.1 % 2 = 0 then hv c q.1 else q.2).1 % 2 = 1 → ∀ c', l[(q.1 + 1, if q.1 % 2 = 0 then hv c q.1 else q.2).1 / 2]? = some c' → (q.1 + 1, if q.1 % 2 = 0 then hv c q.1 else q.2).2 = c'.toNat / 16) :=
  ⟨hk, fun h => by simp only at h; omega⟩
theorem hex_rowE {l : List UInt8} {i : Nat} (h : i % 2 = 0) : byteCells (l.take (i / 2)) = byteCells (l.take ((i + 1) / 2)) := by
  rw [show (i + 1) / 2 = i / 2 by omega]
theorem hex_rowO {l : List UInt8} {i : Nat} {c : UInt8} (h : i % 2 = 1) (hc : l[i / 2]? = some c) : byteCells (l.take (i / 2)) ++ [[AV.int .u8 ((c.toNat : Nat) : Int)]] = byteCells (l.take ((i + 1) / 2)) := by
  rw [show (i + 1) / 2 = i / 2 + 1 by omega, take_succ_eq hc, byteCells, byteCells, List.map_append]; rfl
end Go.Proofs.YtmckdaonemcnaaaDoor.Sv

namespace Go.Proofs.YtmckdaonemcnaaaDoor.Sv
open Go
set_option linter.unusedVariables false
theorem orW_nat {a b : Nat} (ha : a < 4294967296) (hb : b < 4294967296) : orW (a : Int) (b : Int) = ((a ||| b : Nat) : Int) := by
  show IntKind.u32.wrap (((BitVec.ofInt 32 (a : Int) ||| BitVec.ofInt 32 (b : Int)).toNat : Nat) : Int) = _
  have e1 : BitVec.ofInt 32 (a : Int) = BitVec.ofNat 32 a := by simp
  have e2 : BitVec.ofInt 32 (b : Int) = BitVec.ofNat 32 b := by simp
  have h3 : (BitVec.ofNat 32 a ||| BitVec.ofNat 32 b).toNat = a ||| b := by
    rw [BitVec.toNat_or, BitVec.toNat_ofNat, BitVec.toNat_ofNat, Nat.mod_eq_of_lt (by omega), Nat.mod_eq_of_lt (by omega)]
  rw [e1, e2, h3, IntKind.wrap_u32]
  have h4 : a ||| b < 2 ^ 32 := Nat.or_lt_two_pow (by omega) (by omega)
  omega
theorem shlW_nat {a k : Nat} (hk : k ≤ 32) (h : a * 2 ^ k < 4294967296) : shlW (a : Int) (k : Int) = ((a * 2 ^ k : Nat) : Int) := by
  unfold shlW
  rw [IntKind.wrap_u32, show IntKind.u32.bits = 32 from rfl, Int.toNat_natCast, Nat.min_eq_left hk]
  have : ((a : Int) * 2 ^ k) = ((a * 2 ^ k : Nat) : Int) := by push_cast; rfl
  rw [this]; omega
theorem shrW_nat {a k : Nat} (hk : k ≤ 32) : shrW (a : Int) (k : Int) = ((a / 2 ^ k : Nat) : Int) := by
  unfold shrW
  rw [show IntKind.u32.bits = 32 from rfl, Int.toNat_natCast, Nat.min_eq_left hk, Int.fdiv_eq_ediv_of_nonneg _ (Int.le_of_lt (Int.pow_pos (by omega)))]
  push_cast; rfl
theorem byteZ_nat (n : Nat) : (byteZ (n : Int)).toNat = n % 256 := by
  rw [byteZ, Int.toNat_natCast, UInt8.toNat_ofNat']
def beW (x : Int) : Int := orW (orW (orW (shlW (byteZ (shrW x 24)).toNat 24) (shlW (byteZ (shrW x 16)).toNat 16)) (shlW (byteZ (shrW x 8)).toNat 8)) (byteZ x).toNat
theorem be_join {x : Int} (h : isW x) : beW x = x := by
  obtain ⟨n, rfl⟩ := Int.eq_ofNat_of_zero_le h.1
  have hn : n < 4294967296 := by have := h.2; omega
  unfold beW
  have s1 : shrW (n : Int) 24 = ((n / 2 ^ 24 : Nat) : Int) := shrW_nat (k := 24) (by decide)
  have s2 : shrW (n : Int) 16 = ((n / 2 ^ 16 : Nat) : Int) := shrW_nat (k := 16) (by decide)
  have s3 : shrW (n : Int) 8 = ((n / 2 ^ 8 : Nat) : Int) := shrW_nat (k := 8) (by decide)
  rw [s1, s2, s3, byteZ_nat, byteZ_nat, byteZ_nat, byteZ_nat]
  have t1 : shlW ((n / 2 ^ 24 % 256 : Nat) : Int) 24 = ((n / 2 ^ 24 % 256 * 2 ^ 24 : Nat) : Int) := shlW_nat (k := 24) (by decide) (by omega)
  have t2 : shlW ((n / 2 ^ 16 % 256 : Nat) : Int) 16 = ((n / 2 ^ 16 % 256 * 2 ^ 16 : Nat) : Int) := shlW_nat (k := 16) (by decide) (by omega)
  have t3 : shlW ((n / 2 ^ 8 % 256 : Nat) : Int) 8 = ((n / 2 ^ 8 % 256 * 2 ^ 8 : Nat) : Int) := shlW_nat (k := 8) (by decide) (by omega)
  rw [t1, t2, t3]
  generalize hA : n / 2 ^ 24 % 256 = A
  generalize hB : n / 2 ^ 16 % 256 = B
  generalize hC : n / 2 ^ 8 % 256 = C
  generalize hD : n % 256 = D
  have hall : n = 2 ^ 24 * A + 2 ^ 16 * B + 2 ^ 8 * C + D := by omega
  have hA2 : A < 256 := by omega
  have hB2 : B < 256 := by omega
  have hC2 : C < 256 := by omega
  have hD2 : D < 256 := by omega
  clear hA hB hC hD t1 t2 t3 s1 s2 s3 h
  have o1 : A * 2 ^ 24 ||| B * 2 ^ 16 = 2 ^ 16 * (256 * A + B) := by
    rw [Nat.mul_comm A, ← Nat.two_pow_add_eq_or_of_lt (by omega)]; omega
  have o2 : 2 ^ 16 * (256 * A + B) ||| C * 2 ^ 8 = 2 ^ 8 * (65536 * A + 256 * B + C) := by
    rw [← Nat.two_pow_add_eq_or_of_lt (by omega)]; omega
  have o3 : 2 ^ 8 * (65536 * A + 256 * B + C) ||| D = n := by
    rw [← Nat.two_pow_add_eq_or_of_lt (by omega)]; omega
  rw [orW_nat (by omega) (by omega), o1, orW_nat (by omega) (by omega), o2, orW_nat (by omega) (by omega), o3]
def digBytes (x : W4) : List UInt8 := beBytes x.a0 ++ (beBytes x.a1 ++ (beBytes x.a2 ++ beBytes x.a3))
structure W4.Ok (x : W4) : Prop where
  h0 : isW x.a0
  h1 : isW x.a1
  h2 : isW x.a2
  h3 : isW x.a3
end Go.Proofs.YtmckdaonemcnaaaDoor.Sv

namespace Go.Proofs.YtmckdaonemcnaaaDoor.Sv
open Go
set_option linter.unusedVariables false
set_option linter.unusedSimpArgs false

section
variable {P : Program} {T : Nat → Option TyI} {o : Oper} {e : AEnv} {h : AHeap}

end

theorem Ghost.trans {s s' s'' : AState} (g1 : Ghost s s') (g2 : Ghost s' s'') : Ghost s s'' := fun H ι a w hs => by
  obtain ⟨H1, ι1, h1, s1⟩ := g1 H ι a w hs
  obtain ⟨H2, ι2, h2, s2⟩ := g2 H1 ι1 a w h1
  exact ⟨H2, ι2, h2, Step.trans hs.heap s1 h1.heap s2⟩
theorem HSub.from_rm {h : AHeap} {k b : Nat} (hh : HSub (hFrom k) h) (hb : b < k) : HSub (hFrom k) (hrm h b) := fun c x hx => by
  have hne : c ≠ b := fun e => by
    subst e
    have h1 : Nat.blt c k = true := by rw [Nat.blt_eq]; exact hb
    simp only [hFrom, h1, cond_true] at hx
    cases hx
  rw [hrm_ne _ hne]; exact hh c x hx
end Go.Proofs.YtmckdaonemcnaaaDoor.Sv

namespace Go.Proofs.YtmckdaonemcnaaaDoor.Sv
open Go
set_option linter.unusedVariables false
set_option linter.unusedSimpArgs false
def arrAV (K : IntKind) (l : List Int) : List AV := l.map fun n => .int K n
def arrV (K : IntKind) (l : List Int) : Array Value := (l.map fun n => Value.int K n).toArray
theorem ints_vals {H : Know} {ι : Lay} {K : IntKind} {l : List Int} {us : Array Value} (hl : (arrAV K l).length = us.size) (h : ∀ (j : Nat) (x : AV) (v : Value), (arrAV K l)[j]? = some x → us[j]? = some v → Rel H ι x v) : us = arrV K l := by
  apply Array.ext
  · simpa [arrAV, arrV] using hl.symm
  · intro j h1 h2
    have hj : j < l.length := by simpa [arrV] using h2
    have := h j (.int K l[j]) us[j] (by simp [arrAV, hj]) (Array.getElem?_eq_getElem h1)
    rw [this.int_inv]
    simp [arrV]
section
variable {P : Program}
theorem run_partInt {w : World} {t : TypeId} {K : IntKind} {l : List Int} (hu : P.underlying t = some (.int K)) {j : Nat} {n : Int} (h : l[j]? = some n) : (part t (arrV K l) j).run P w = .ok (.int K n) w :=
  run_part1 hu rfl (by simp [arrV, h])
theorem run_eqInts {w : World} {t : TypeId} {K : IntKind} (hu : P.underlying t = some (.int K)) (d : Nat) (l1 l2 : List Int) : ∀ (m k : Nat), l1.length = k + m → l2.length = k + m →
    (Op.eqItems (d + 1) t 1 (arrV K l1) (arrV K l2) (List.range' k m)).run P w = .ok (decide (l1.drop k = l2.drop k)) w
  | 0, k, h1, h2 => by
    rw [List.drop_of_length_le (by omega), List.drop_of_length_le (by omega)]
    simp [Op.eqItems]
  | m + 1, k, h1, h2 => by
    have g1 : k < l1.length := by omega
    have g2 : k < l2.length := by omega
    have ih := run_eqInts (w := w) hu d l1 l2 m (k + 1) (by omega) (by omega)
    rw [List.range'_succ]
    simp only [Op.eqItems, Nat.mul_one, Sem.run_bind, run_partInt hu (List.getElem?_eq_getElem g1), run_partInt hu (List.getElem?_eq_getElem g2), Result.andThen_ok, run_equalIn_int w d t _ _ _ _ hu]
    have hd : (l1.drop k = l2.drop k) ↔ (l1[k] = l2[k] ∧ l1.drop (k + 1) = l2.drop (k + 1)) := by
      rw [List.drop_eq_getElem_cons g1, List.drop_eq_getElem_cons g2, List.cons.injEq]
    by_cases he : l1[k] = l2[k]
    · simp only [he, if_true, Result.andThen_ok]
      simp only [hd, he, true_and]
      simp [ih]
    · simp [hd, he]
theorem run_equalInts {w : World} {t e : TypeId} {n : Nat} {K : IntKind} (hu : P.underlying t = some (.array n e)) (he : P.underlying e = some (.int K)) (hc : P.cellsOf e = 1) (d : Nat) {l1 l2 : List Int} (h1 : l1.length = n) (h2 : l2.length = n) :
    (Op.equalIn (d + 2) t (.agg (arrV K l1)) (.agg (arrV K l2))).run P w = .ok (decide (l1 = l2)) w := by
  obtain ⟨i, hi⟩ := info_of_underlying he
  rw [run_equalIn_array w (d + 1) _ _ hu hi, hc, List.range_eq_range']
  have := run_eqInts (w := w) he d l1 l2 n 0 (by omega) (by omega)
  simpa using this
end
/-! ### maps -/
abbrev AMap := List (List Int × AV)
def kvsA (K : IntKind) (m : AMap) : List (AV × AV) := m.map fun p => (.agg (arrAV K p.1), p.2)
inductive EntRelA (H : Know) (K : IntKind) : AMap → List MapEntry → Prop
  | nil : EntRelA H K [] []
  | cons (z : List Int) (v : AV) (m : AMap) (e : MapEntry) (es : List MapEntry) (hk : e.key = .agg (arrV K z)) (hv : Rel H noLay v e.val) (h : EntRelA H K m es) : EntRelA H K ((z, v) :: m) (e :: es)

theorem intsRel (H : Know) (K : IntKind) (z : List Int) : Rel H noLay (.agg (arrAV K z)) (.agg (arrV K z)) :=
  .agg _ _ _ (by simp [arrAV, arrV]) fun j x u h1 h2 => by
    simp only [arrAV, List.getElem?_map, Option.map_eq_some_iff] at h1
    obtain ⟨n, hn, rfl⟩ := h1
    have : u = .int K n := by simpa [arrV, hn] using h2.symm
    subst this
    exact .int _ _ _
theorem Rel.ints {H : Know} {ι : Lay} {K : IntKind} {z : List Int} {v : Value} (h : Rel H ι (.agg (arrAV K z)) v) : v = .agg (arrV K z) := by
  obtain ⟨us, rfl, h1, h2⟩ := h.agg_inv
  rw [ints_vals h1 h2]
theorem EntRelA.out {H : Know} {K : IntKind} {m : AMap} {es : List MapEntry} (h : EntRelA H K m es) : (kvsA K m).length = es.length ∧ ∀ (j : Nat) (k v : AV), (kvsA K m)[j]? = some (k, v) → ∃ e, es[j]? = some e ∧ Rel H noLay k e.key ∧ Rel H noLay v e.val := by
  induction h with
  | nil => exact ⟨rfl, fun j k v h => by simp [kvsA] at h⟩
  | cons z v m e es hk hv h ih =>
    refine ⟨by simpa [kvsA] using ih.1, fun j k u hj => ?_⟩
    cases j with
    | zero =>
      simp [kvsA] at hj
      obtain ⟨rfl, rfl⟩ := hj
      exact ⟨e, rfl, by rw [hk]; exact intsRel _ _ _, hv⟩
    | succ j =>
      obtain ⟨e', k1, k2⟩ := ih.2 j k u (by simpa [kvsA] using hj)
      exact ⟨e', by simpa using k1, k2⟩
section
variable {P : Program} {T : Nat → Option TyI} {o : Oper} {e : AEnv} {h : AHeap}
/-- two arrays of numbers: the same? -/
theorem q_eqInts (hT : TOk P T) {t t' : TypeId} {x y : Operand} {K : IntKind} {l1 l2 : List Int} {i j : TyI} {n e0 : Nat} (neg : Bool) (ho : o.op = .binOp (bif neg then .neq else .eql) t x y t') (hx : look e x = some (.agg (arrAV K l1))) (hy : look e y = some (.agg (arrAV K l2))) (hp : P.eqGuardType P.depth t = false) (hi : T t = some i) (hk : i.k = .array n e0)
    (hj : T e0 = some j) (hjk : j.k = .int K) (h1 : l1.length = n) (h2 : l2.length = n) (hc : P.cellsOf e0 = 1) : QLoc P o e h [] (.bool (bif neg then !(decide (l1 = l2)) else decide (l1 = l2))) := by
  intro H ι a w s hs g1 g2
  have hx' : look s.env x = some (.agg (arrAV K l1)) := by rw [g1 x (by rw [ho]; simp [Op.operands]), hx]
  have hy' : look s.env y = some (.agg (arrAV K l2)) := by rw [g1 y (by rw [ho]; simp [Op.operands]), hy]
  have hvx := (look_rel hs hx').ints
  have hvy := (look_rel hs hy').ints
  obtain ⟨info, d, e1, e2, e3, e4, e5, e6⟩ := tyOf_spec (hT _ _ hi)
  obtain ⟨info', d', e1', e2', e3', e4', e5', e6'⟩ := tyOf_spec (hT _ _ hj)
  have hd := tk_array (P := P) (d := d) (e3 ▸ hk)
  subst hd
  have hd' := tk_int (P := P) (d := d') (e3' ▸ hjk)
  subst hd'
  have hrun : (Op.equalIn 10000 t (.agg (arrV K l1)) (.agg (arrV K l2))).run P w = .ok (decide (l1 = l2)) w := run_equalInts e2 e2' hc 9998 h1 h2
  refine ⟨_, .bool _ _, ?_⟩
  cases neg with
  | true =>
    simp only [cond_true] at ho ⊢
    simp only [execOp, ho, hvx, hvy, Sem.run_bind, run_eqGuard_agg w .neq t x y _ _ hp, Result.andThen_ok, run_neq_struct, hrun, Sem.run_pure]
  | false =>
    simp only [cond_false] at ho ⊢
    simp only [execOp, ho, hvx, hvy, Sem.run_bind, run_eqGuard_agg w .eql t x y _ _ hp, Result.andThen_ok, run_eql_struct, hrun, Sem.run_pure]
end
end Go.Proofs.YtmckdaonemcnaaaDoor.Sv

namespace Go.Proofs.YtmckdaonemcnaaaDoor.Sv
open Go
set_option linter.unusedVariables false
def absorbN (z : ByteArray) : Nat → St8 → St8
  | 0, q => q
  | k + 1, q => takeB (absorbN z k q) (four z (16 * k))
def st1 : St8 := ⟨1, 0, 0, 0, 0, 0, 0, 0⟩
def padN (n : Nat) : Nat := (39 - n % 16) % 16
def endB (z : ByteArray) : ByteArray := z.extract (z.size / 16 * 16) z.size
def restL (z : ByteArray) (k : Nat) : List UInt8 := (endB z).data.toList ++ (128 :: List.replicate k 0)
def lenW (z : ByteArray) : List Int := [IntKind.u32.wrap (IntKind.u64.wrap (z.size : Int)), IntKind.u32.wrap ((IntKind.u64.wrap (z.size : Int)).fdiv (2 ^ (min (32 : Int).toNat IntKind.u64.bits)))]
def tailB (z : ByteArray) : ByteArray := (⟨(restL z (padN z.size)).toArray⟩ : ByteArray) ++ ⟨((lenW z).flatMap leBytes).toArray⟩
def digW (z : ByteArray) : W4 := (absorbN (tailB z) ((tailB z).size / 16) (absorbN z (z.size / 16) st1)).front
theorem endB_len (z : ByteArray) : (endB z).data.toList.length = z.size % 16 := by
  rw [Array.length_toList]
  show (z.extract (z.size / 16 * 16) z.size).size = _
  rw [ByteArray.size_extract]
  omega
theorem restL_len (z : ByteArray) (k : Nat) : (restL z k).length = z.size % 16 + 1 + k := by
  simp only [restL, List.length_append, endB_len, List.length_cons, List.length_replicate]; omega
theorem lenB_len (z : ByteArray) : ((lenW z).flatMap leBytes).length = 8 := by rw [flat_len leBytes_len]; rfl
theorem tailB_size (z : ByteArray) : (tailB z).size = z.size % 16 + 1 + padN z.size + 8 := by
  rw [tailB, ByteArray.size_append]
  have h1 := sizeBA (restL z (padN z.size))
  have h2 := sizeBA ((lenW z).flatMap leBytes)
  rw [restL_len] at h1
  rw [lenB_len] at h2
  omega
theorem tailB_whole (z : ByteArray) : (tailB z).size % 16 = 0 ∧ 16 ≤ (tailB z).size ∧ (tailB z).size ≤ 100 := by
  rw [tailB_size]; unfold padN; omega
structure St8.Ok (q : St8) : Prop where
  h0 : isW q.a0
  h1 : isW q.a1
  h2 : isW q.a2
  h3 : isW q.a3
  h4 : isW q.a4
  h5 : isW q.a5
  h6 : isW q.a6
  h7 : isW q.a7
theorem mixRound_ok (r : Nat) (q : St8) : (mixRound r q).Ok := ⟨isW_wrap _, isW_wrap _, isW_wrap _, isW_wrap _, isW_wrap _, isW_wrap _, isW_wrap _, isW_wrap _⟩
theorem takeB_ok (q : St8) (w : W4) : (takeB q w).Ok := mixRound_ok _ _
theorem absorb_ok {z : ByteArray} {q : St8} (hq : q.Ok) : ∀ k, (absorbN z k q).Ok
  | 0 => hq
  | _ + 1 => takeB_ok _ _
theorem st1_ok : st1.Ok := ⟨⟨by decide, by decide⟩, ⟨by decide, by decide⟩, ⟨by decide, by decide⟩, ⟨by decide, by decide⟩, ⟨by decide, by decide⟩, ⟨by decide, by decide⟩, ⟨by decide, by decide⟩, ⟨by decide, by decide⟩⟩
theorem digW_ok (z : ByteArray) : (digW z).Ok := by
  have h := absorb_ok (z := tailB z) (absorb_ok (z := z) st1_ok (z.size / 16)) ((tailB z).size / 16)
  exact ⟨h.h0, h.h1, h.h2, h.h3⟩
/-! ### texts are alike just if the digests are -/
theorem hexL_inj : ∀ (l m : List UInt8), hexL l = hexL m → l = m
  | [], [], _ => rfl
  | [], c :: m, h => by simp [hexL, hexC] at h
  | c :: l, [], h => by simp [hexL, hexC] at h
  | c :: l, d :: m, h => by
    simp only [hexL, List.flatMap_cons, hexC, List.cons_append, List.nil_append, List.cons.injEq] at h
    obtain ⟨h1, h2, h3⟩ := h
    have e1 := dig_inj (div16 c) (div16 d) (by rw [← digU_toNat _ (div16 c), ← digU_toNat _ (div16 d), h1])
    have e2 := dig_inj (mod16 c) (mod16 d) (by rw [← digU_toNat _ (mod16 c), ← digU_toNat _ (mod16 d), h2])
    have : c = d := by
      apply UInt8.toNat_inj.1
      omega
    rw [this, hexL_inj l m h3]
theorem beBytes_inj {a b : Int} (ha : isW a) (hb : isW b) (h : beBytes a = beBytes b) : a = b := by
  simp only [beBytes, List.cons.injEq, and_true] at h
  obtain ⟨h1, h2, h3, h4⟩ := h
  rw [← be_join ha, ← be_join hb, beW, beW, h1, h2, h3, h4]
theorem digBytes_inj {x y : W4} (hx : x.Ok) (hy : y.Ok) (h : digBytes x = digBytes y) : x = y := by
  have g : ∀ (a b c d : List UInt8), a.length = c.length → a ++ b = c ++ d → a = c ∧ b = d := fun a b c d hl he => List.append_inj he hl
  obtain ⟨e0, h⟩ := g _ _ _ _ (by rfl) h
  obtain ⟨e1, h⟩ := g _ _ _ _ (by rfl) h
  obtain ⟨e2, e3⟩ := g _ _ _ _ (by rfl) h
  cases x; cases y
  simp only [W4.mk.injEq]
  exact ⟨beBytes_inj hx.h0 hy.h0 e0, beBytes_inj hx.h1 hy.h1 e1, beBytes_inj hx.h2 hy.h2 e2, beBytes_inj hx.h3 hy.h3 e3⟩
theorem tailB_fits (z : ByteArray) : (⟨(restL z (padN z.size)).toArray⟩ : ByteArray).size + (⟨((lenW z).flatMap leBytes).toArray⟩ : ByteArray).size ≤ 9223372036854775807 := by
  have h1 := sizeBA (restL z (padN z.size))
  have h2 := sizeBA ((lenW z).flatMap leBytes)
  rw [restL_len] at h1
  rw [lenB_len] at h2
  have : padN z.size < 16 := by unfold padN; omega
  omega
theorem quo16N {n : Nat} (h : n ≤ 1000000) : evalBin .quo (.int .i64 (n : Int)) (.int .i64 16) = some (.int .i64 ((n / 16 : Nat) : Int)) := by
  show evalInt .quo .i64 _ 16 = _
  simp only [evalInt]
  rw [if_neg (by decide)]
  have : (n : Int).tdiv 16 = ((n / 16 : Nat) : Int) := by
    rw [Int.tdiv_eq_ediv_of_nonneg (Int.natCast_nonneg _)]; omega
  rw [this, wrap_i64 (by omega) (by omega)]
theorem rem16N {n : Nat} : evalBin .rem (.int .i64 (n : Int)) (.int .i64 16) = some (.int .i64 ((n % 16 : Nat) : Int)) := by
  show evalInt .rem .i64 _ 16 = _
  simp only [evalInt]
  rw [if_neg (by decide)]
  rfl
theorem neq8N {n : Nat} : evalBin .neq (.int .i64 (n : Int)) (.int .i64 8) = some (.bool (!decide (n = 8))) := by
  show evalInt .neq .i64 _ 8 = _
  simp only [evalInt]
  by_cases h : n = 8
  · subst h; rfl
  · have : ((n : Int) != 8) = true := by simp; omega
    rw [this]; simp [h]
theorem rest_zero (z : ByteArray) : restL z 0 = (endB z).data.toList ++ [128] := rfl
theorem rest_succ (z : ByteArray) (k : Nat) : restL z (k + 1) = restL z k ++ [0] := by
  simp only [restL, List.replicate_succ', List.append_assoc, List.cons_append]
theorem endB_size (z : ByteArray) : (endB z).size = z.size % 16 := by
  have := endB_len z
  rwa [Array.length_toList] at this
def textOf (x : W4) : ByteArray := ⟨(hexL (digBytes x)).toArray⟩
theorem textOf_inj {x y : W4} (hx : x.Ok) (hy : y.Ok) : textOf x = textOf y ↔ x = y := by
  constructor
  · intro h
    simp only [textOf, ByteArray.mk.injEq] at h
    have := congrArg Array.toList h
    exact digBytes_inj hx hy (hexL_inj _ _ (by simpa using this))
  · intro h; rw [h]
def W4.ints (x : W4) : List Int := [x.a0, x.a1, x.a2, x.a3]
theorem ints_inj (x y : W4) : x.ints = y.ints ↔ x = y := by
  cases x; cases y; simp [W4.ints]
section
variable {P : Program} {T : Nat → Option TyI} {o : Oper} {e : AEnv} {h : AHeap}
/-- are two digests the same? -/
theorem q_eqDig (hT : TOk P T) {t t' : TypeId} {a b : Operand} (x y : W4) {r : Bool} {i j : TyI} {n e0 : Nat} (ho : o.op = .binOp .eql t a b t') (hx : look e a = some (.agg x.cells)) (hy : look e b = some (.agg y.cells)) (hp : P.eqGuardType P.depth t = false) (hi : T t = some i) (hk : i.k = .array n e0)
    (hj : T e0 = some j) (hjk : j.k = .int .u32) (hn : n = 4) (hc : P.cellsOf e0 = 1) (hr : decide (x = y) = r) : QLoc P o e h [] (.bool r) := by
  have := q_eqInts (K := .u32) (l1 := x.ints) (l2 := y.ints) (h := h) hT false ho hx hy hp hi hk hj hjk (by rw [hn]; rfl) (by rw [hn]; rfl) hc
  have e1 : decide (x.ints = y.ints) = decide (x = y) := decide_eq_decide.2 (ints_inj x y)
  rw [e1, hr] at this
  exact this
end
theorem text_eq {x y : W4} (hx : x.Ok) (hy : y.Ok) : ((textOf x).toList == (textOf y).toList) = decide (x = y) := by
  rw [Bool.eq_iff_iff, decide_eq_true_iff, beq_iff_eq, ← textOf_inj hx hy]
  constructor
  · intro h
    have e : ∀ z : List UInt8, (⟨z.toArray⟩ : ByteArray).toList = z := fun z => by rw [ByteArray.toList_eq]
    unfold textOf at h ⊢
    rw [e, e] at h
    rw [h]
  · intro h; rw [h]
theorem top15_end {x y : W4} (hx : x.Ok) (hy : y.Ok) : (((textOf x).toList == (textOf y).toList) == decide (x = y)) = true := by
  rw [text_eq hx hy, beq_self_eq_true]
theorem str_eq {a b : ByteArray} (h : (!(a.toList == b.toList)) = false) : a = b := by
  have h1 : a.toList = b.toList := by simpa using h
  rw [ByteArray.toList_eq, ByteArray.toList_eq] at h1
  cases a; cases b
  simp only [ByteArray.mk.injEq]
  exact Array.toList_inj.1 h1
end Go.Proofs.YtmckdaonemcnaaaDoor.Sv

namespace Go.Proofs.YtmckdaonemcnaaaDoor.Sv
open Go
set_option linter.unusedVariables false
set_option linter.unusedSimpArgs false

set_option maxRecDepth 100000 in
theorem wbytes_ok (l : List Int) (hl : ∀ x ∈ l, isW x) (hn : l.length ≤ 1000) : APure Tryd.prog 9 [wordsAV l] (fun r => r = .str ⟨(l.flatMap leBytes).toArray⟩) := by
  have hfl : ∀ k, ((l.take k).flatMap leBytes).length = 4 * (l.take k).length := fun k => flat_len leBytes_len _
  refine APure.of_body (n := 33) tok Tryd.func9 rfl rfl ?_
  refine AGo.seq ?_
  refine AGo.region ?_
  refine AOps.s 2 rfl rfl rfl (q_move (.inr rfl) rfl) ?_
  refine AOps.nil ?_
  refine AGo.seq ?_
  refine AGo.region ?_
  refine AOps.s 6 rfl rfl rfl (q_move (.inl rfl) rfl) ?_
  refine AOps.s 7 rfl rfl rfl (q_len tok rfl rfl rfl rfl rfl) ?_
  refine AOps.s 8 rfl rfl rfl (q_bin (r := .int .i64 ((4 * l.length : Nat) : Int)) rfl rfl rfl (by rw [List.length_map]; exact mulI (by omega) (by omega) (by omega))) ?_
  refine AOps.x 9 rfl rfl rfl (o_makeSlice tok (n := 0) (m := 4 * l.length) 0 true rfl rfl rfl (rfl) (rfl) rfl rfl rfl rfl rfl (Nat.zero_lt_succ _) rfl (Nat.zero_le _) (by show 1 * (4 * l.length) ≤ _; omega) (by simp only [maxLen]; omega)) ?_
  refine AOps.s 3 rfl rfl rfl (q_move (.inr rfl) rfl) ?_
  refine AOps.nil ?_
  refine AGo.seq ?_
  refine AGo.seq ?_
  refine AGo.region ?_
  refine AOps.s 10 rfl rfl rfl (q_move (.inl rfl) rfl) ?_
  refine AOps.s 11 rfl rfl rfl (q_len tok rfl rfl rfl rfl rfl) ?_
  refine AOps.s 12 rfl rfl rfl (q_move (.inl rfl) rfl) ?_
  refine AOps.nil ?_
  refine AGo.block ?_
  refine AGo.loopD (γ := Nat) 1 (fun k => ⟨33, (eput (eput (eput (eput (eput eNew 0 (wordsAV l)) 3 (.ref 0 (4 * k) 0 (4 * k))) 10 (wordsAV l)) 11 (.int .i64 (l.length : Int))) 12 (.int .i64 (k : Int))), (hput (hFrom 1) 0 (.row true 1 (byteCells ((l.take k).flatMap leBytes))))⟩) (fun k => k ≤ l.length) (fun k => l.length - k) 0 (Sub.mk' (by repeat (first | exact ESub.new _ | refine ESub.put ?_ (by first | rfl | exact congrArg (fun (n : Nat) => some (AV.int .i64 (n : Int))) (by simp)))) (by repeat (first | exact HSub.refl _ | exact HSub.none _ | exact HSub.from_new _ | exact HSub.from_from (by first | decide | omega | (dsimp only; omega)) | refine HSub.put ?_ (by rfl) | refine HSub.from_put ?_ (by first | decide | omega | (dsimp only; omega)) | refine HSub.from_rm ?_ (by decide)))) (Nat.zero_le _) (fun _ => hput_free (fun b hb => hFrom_free hb) rfl) ?_
  intro k hk
  refine AGo.seq ?_
  refine AGo.region ?_
  refine AOps.s 13 rfl rfl rfl (q_bin rfl rfl rfl rfl) ?_
  refine AOps.nil ?_
  refine AGo.seq ?_
  refine AGo.split 13 rfl (fun hb1 => ?_) (fun hb1 => ?_)
  · -- True
    refine AGo.cond_true true rfl rfl ?_
    have hkl : k < l.length := by simpa using hb1
    obtain ⟨x, hx⟩ := get_of_lt hkl
    have hxw := hl x (List.mem_of_getElem? hx)
    refine AGo.skip ?_
    refine AGo.seq ?_
    refine AGo.block ?_
    refine AGo.seq ?_
    refine AGo.region ?_
    refine AOps.s 14 rfl rfl rfl (q_index_lst tok rfl rfl rfl rfl rfl rfl (Int.natCast_nonneg _) (idx_map (by assumption)) rfl) ?_
    refine AOps.s 15 rfl rfl rfl (q_load tok rfl rfl rfl (by first | exact .loc _ | exact .ptr _ _ _ _ _ _ _ _ rfl rfl rfl) rfl) ?_
    refine AOps.s 5 rfl rfl rfl (q_move (.inr rfl) rfl) ?_
    refine AOps.nil ?_
    refine AGo.region ?_
    refine AOps.s 16 rfl rfl rfl (q_move (.inl rfl) rfl) ?_
    refine AOps.s 17 rfl rfl rfl (q_move (.inl rfl) rfl) ?_
    refine AOps.s 18 rfl rfl rfl (q_cvt tok rfl rfl rfl rfl rfl (wrap_byteZ hxw.1)) ?_
    refine AOps.s 19 rfl rfl rfl (q_move (.inl rfl) rfl) ?_
    refine AOps.s 20 rfl rfl rfl (q_bin (r := .int .u32 (shrW x 8)) rfl rfl rfl (shrBin (by decide))) ?_
    refine AOps.s 21 rfl rfl rfl (q_cvt tok rfl rfl rfl rfl rfl (wrap_byteZ (shrW_nonneg hxw.1))) ?_
    refine AOps.s 22 rfl rfl rfl (q_move (.inl rfl) rfl) ?_
    refine AOps.s 23 rfl rfl rfl (q_bin (r := .int .u32 (shrW x 16)) rfl rfl rfl (shrBin (by decide))) ?_
    refine AOps.s 24 rfl rfl rfl (q_cvt tok rfl rfl rfl rfl rfl (wrap_byteZ (shrW_nonneg hxw.1))) ?_
    refine AOps.s 25 rfl rfl rfl (q_move (.inl rfl) rfl) ?_
    refine AOps.s 26 rfl rfl rfl (q_bin (r := .int .u32 (shrW x 24)) rfl rfl rfl (shrBin (by decide))) ?_
    refine AOps.s 27 rfl rfl rfl (q_cvt tok rfl rfl rfl rfl rfl (wrap_byteZ (shrW_nonneg hxw.1))) ?_
    refine AOps.x 28 rfl rfl rfl (o_lit' tok rfl rfl rfl rfl rfl rfl (by decide) rfl rfl rfl rfl rfl rfl) ?_
    refine AOps.x 29 rfl rfl rfl (o_append tok (n := 4 * k) (m := 4) rfl rfl rfl rfl rfl rfl rfl rfl rfl (by rw [byteCells_len, hfl, List.length_take]; omega) rfl rfl (Nat.zero_lt_succ _) (.lst _ _) (by intro cs h; simp [partVals] at h; rcases h with rfl | rfl | rfl | rfl <;> rfl) (fun _ cs h => by simp [partVals] at h; rcases h with rfl | rfl | rfl | rfl <;> rfl) rfl (by simp [partVals, byteCells_len, hfl]; omega) (by simp [partVals, byteCells_len, hfl]; simp only [maxLen]; omega)) ?_
    refine AOps.s 3 rfl rfl rfl (q_move (.inr rfl) rfl) ?_
    refine AOps.nil ?_
    refine AGo.region ?_
    refine AOps.s 30 rfl rfl rfl (q_inc rfl rfl hkl (by simp only [maxLen]; omega)) ?_
    refine AOps.s 12 rfl rfl rfl (q_move (.inl rfl) rfl) ?_
    refine AOps.nil ?_
    exact ⟨k+1, Drop.mk' (by repeat (first | exact EDrop.new _ _ | refine EDrop.put ?_ (by rfl) rfl)) (by repeat (first | exact HDrop.none _ _ | exact HDrop.tail _ _ | refine HDrop.put ?_ (by first | rfl | exact congrArg (fun es => some (AObj.row true 1 es)) (by rw [flat_succ hx, byteCells, byteCells, List.map_append]; rfl)) rfl rfl)), hkl, by omega⟩
  · -- False
    refine AGo.cond_false false rfl rfl ?_
    have hge : l.length ≤ k := by simpa using hb1
    refine AGo.exit ?_
    refine AGo.seq ?_
    refine AGo.ghost (.freezeW 3 0 rfl rfl (by rw [byteCells_len, hfl, List.length_take]; omega)) ?_
    refine AGo.region ?_
    refine AOps.s 31 rfl rfl rfl (q_move (.inl rfl) rfl) ?_
    refine AOps.s 32 rfl rfl rfl (q_bytesStr (l := (l.take k).flatMap leBytes) tok rfl rfl rfl rfl rfl rfl rfl rfl) ?_
    refine AOps.s 2 rfl rfl rfl (q_move (.inr rfl) rfl) ?_
    refine AOps.nil ?_
    refine AGo.ret ?_
    refine ⟨[_], ⟨rfl, trivial⟩, ?_, rfl⟩
    show AV.str _ = AV.str _
    rw [List.take_of_length_le hge]

set_option maxRecDepth 100000 in
theorem hexText_ok (l : List UInt8) (hn : l.length ≤ 1000) : APure Tryd.prog 12 [.str ⟨l.toArray⟩] (fun r => r = .str ⟨(hexL l).toArray⟩) := by
  refine APure.of_body (n := 32) tok Tryd.func12 rfl rfl ?_
  refine AGo.seq ?_
  refine AGo.region ?_
  refine AOps.s 2 rfl rfl rfl (q_move (.inr rfl) rfl) ?_
  refine AOps.nil ?_
  refine AGo.seq ?_
  refine AGo.region ?_
  refine AOps.s 5 rfl rfl rfl (q_move (.inl rfl) rfl) ?_
  refine AOps.s 6 rfl rfl rfl (q_len tok rfl rfl rfl rfl rfl) ?_
  refine AOps.s 7 rfl rfl rfl (q_bin (r := .int .i64 ((2 * l.length : Nat) : Int)) rfl rfl rfl (by rw [sizeBA]; exact mulI (by omega) (by omega) (by omega))) ?_
  refine AOps.x 8 rfl rfl rfl (o_makeSlice tok (n := 0) (m := 2 * l.length) 0 true rfl rfl rfl (rfl) (rfl) rfl rfl rfl rfl rfl (Nat.zero_lt_succ _) rfl (Nat.zero_le _) (by show 1 * (2 * l.length) ≤ _; omega) (by simp only [maxLen]; omega)) ?_
  refine AOps.s 3 rfl rfl rfl (q_move (.inr rfl) rfl) ?_
  refine AOps.nil ?_
  refine AGo.seq ?_
  refine AGo.seq ?_
  refine AGo.region ?_
  refine AOps.s 4 rfl rfl rfl (q_move (.inr rfl) rfl) ?_
  refine AOps.nil ?_
  refine AGo.block ?_
  refine AGo.loopD (γ := Nat) 1 (fun k => ⟨32, (eput (eput (eput eNew 0 (.str ⟨l.toArray⟩)) 3 (.ref 0 (2 * k) 0 (2 * k))) 4 (.int .i64 (k : Int))), (hput (hFrom 1) 0 (.row true 1 (byteCells (hexL (l.take k)))))⟩) (fun k => k ≤ l.length) (fun k => l.length - k) 0 (Sub.mk' (by repeat (first | exact ESub.new _ | refine ESub.put ?_ (by rfl))) (by repeat (first | exact HSub.refl _ | exact HSub.none _ | exact HSub.from_new _ | exact HSub.from_from (by first | decide | omega | (dsimp only; omega)) | refine HSub.put ?_ (by rfl) | refine HSub.from_put ?_ (by first | decide | omega | (dsimp only; omega)) | refine HSub.from_rm ?_ (by decide)))) (Nat.zero_le _) (fun _ => hput_free (fun b hb => hFrom_free hb) rfl) ?_
  intro k hk
  refine AGo.seq ?_
  refine AGo.seq ?_
  refine AGo.region ?_
  refine AOps.s 9 rfl rfl rfl (q_move (.inl rfl) rfl) ?_
  refine AOps.s 10 rfl rfl rfl (q_move (.inl rfl) rfl) ?_
  refine AOps.s 11 rfl rfl rfl (q_len tok rfl rfl rfl rfl rfl) ?_
  refine AOps.s 12 rfl rfl rfl (q_bin rfl rfl rfl rfl) ?_
  refine AOps.nil ?_
  refine AGo.split 12 rfl (fun hb1 => ?_) (fun hb1 => ?_)
  · -- True
    refine AGo.cond_true true rfl rfl ?_
    have hkl : k < l.length := by have h := hb1; rw [sizeBA] at h; simpa using h
    obtain ⟨c, hc⟩ := get_of_lt hkl
    refine AGo.skip ?_
    refine AGo.seq ?_
    refine AGo.block ?_
    refine AGo.draw mix ?_
    refine DOps.s 15 rfl rfl rfl (q_move (.inl rfl) rfl) ?_
    refine DOps.s 16 rfl rfl rfl (q_move (.inl rfl) rfl) ?_
    refine DOps.s 17 rfl rfl rfl (q_move (.inl rfl) rfl) ?_
    refine DOps.s 18 rfl rfl rfl (q_index_str (c := c) tok rfl rfl rfl rfl rfl (Int.natCast_nonneg _) (getBA hc)) ?_
    refine DOps.s 19 rfl rfl rfl (q_bin (r := .int .u8 ((c.toNat / 16 : Nat) : Int)) rfl rfl rfl shr8Bin) ?_
    refine DOps.s 20 rfl rfl rfl (q_index_arr tok rfl rfl rfl rfl rfl rfl (Int.natCast_nonneg _) (by have := div16 c; omega) rfl) ?_
    refine DOps.s 21 rfl rfl rfl (q_load tok rfl rfl rfl (.loc _) (dig_load (div16 c) rfl rfl)) ?_
    refine DOps.s 22 rfl rfl rfl (q_move (.inl rfl) rfl) ?_
    refine DOps.s 23 rfl rfl rfl (q_move (.inl rfl) rfl) ?_
    refine DOps.s 24 rfl rfl rfl (q_index_str (c := c) tok rfl rfl rfl rfl rfl (Int.natCast_nonneg _) (getBA hc)) ?_
    refine DOps.s 25 rfl rfl rfl (q_bin (r := .int .u8 ((c.toNat % 16 : Nat) : Int)) rfl rfl rfl (and15Bin c)) ?_
    refine DOps.s 26 rfl rfl rfl (q_index_arr tok rfl rfl rfl rfl rfl rfl (Int.natCast_nonneg _) (by have := mod16 c; omega) rfl) ?_
    refine DOps.s 27 rfl rfl rfl (q_load tok rfl rfl rfl (.loc _) (dig_load (mod16 c) rfl rfl)) ?_
    refine DOps.x 28 rfl rfl rfl (o_lit' tok rfl rfl rfl rfl rfl rfl (by decide) rfl rfl rfl rfl rfl rfl) ?_
    refine DOps.x 29 rfl rfl rfl (o_append tok (n := 2 * k) (m := 2) rfl rfl rfl rfl rfl rfl rfl rfl rfl (by rw [byteCells_len, hexL_len, List.length_take]; omega) rfl rfl (Nat.zero_lt_succ _) (.lst _ _) (by intro cs h; simp [partVals] at h; rcases h with rfl | rfl <;> rfl) (fun _ cs h => by simp [partVals] at h; rcases h with rfl | rfl <;> rfl) rfl (by simp [partVals, byteCells_len, hexL_len]; omega) (by simp [partVals, byteCells_len, hexL_len]; simp only [maxLen]; omega)) ?_
    refine DOps.s 3 rfl rfl rfl (q_move (.inr rfl) rfl) ?_
    refine DOps.nil (by kernel_rfl) ?_
    refine AGo.region ?_
    refine AOps.s 13 rfl rfl rfl (q_move (.inl rfl) rfl) ?_
    refine AOps.s 14 rfl rfl rfl (q_inc rfl rfl hkl (by simp only [maxLen]; omega)) ?_
    refine AOps.s 4 rfl rfl rfl (q_move (.inr rfl) rfl) ?_
    refine AOps.nil ?_
    exact ⟨k+1, Drop.mk' (by repeat (first | exact EDrop.new _ _ | refine EDrop.put ?_ (by rfl) rfl)) (by repeat (first | exact HDrop.none _ _ | exact HDrop.tail _ _ | refine HDrop.put ?_ (by first | rfl | exact congrArg (fun es => some (AObj.row true 1 es)) (by rw [hexL_succ hc, byteCells, byteCells, List.map_append]; rfl)) rfl rfl)), hkl, by omega⟩
  · -- False
    refine AGo.cond_false false rfl rfl ?_
    have hge : l.length ≤ k := by have h := hb1; rw [sizeBA] at h; simpa using h
    refine AGo.exit ?_
    refine AGo.seq ?_
    refine AGo.ghost (.freezeW 3 0 rfl rfl (by rw [byteCells_len, hexL_len, List.length_take]; omega)) ?_
    refine AGo.region ?_
    refine AOps.s 30 rfl rfl rfl (q_move (.inl rfl) rfl) ?_
    refine AOps.s 31 rfl rfl rfl (q_bytesStr (l := hexL (l.take k)) tok rfl rfl rfl rfl rfl rfl rfl rfl) ?_
    refine AOps.s 2 rfl rfl rfl (q_move (.inr rfl) rfl) ?_
    refine AOps.nil ?_
    refine AGo.ret ?_
    refine ⟨[_], ⟨rfl, trivial⟩, ?_, rfl⟩
    show AV.str _ = AV.str _
    rw [List.take_of_length_le hge]

end Go.Proofs.YtmckdaonemcnaaaDoor.Sv

namespace Go.Proofs.YtmckdaonemcnaaaDoor.Sv
open Go
set_option linter.unusedVariables false
set_option linter.unusedSimpArgs false

set_option maxRecDepth 100000 in
theorem four_ok (z : ByteArray) (at' : Nat) (h16 : at' + 16 ≤ z.size) (hz : z.size ≤ 1000000) : APure Tryd.prog 8 [.str z, .int .i64 (at' : Int)] (fun r => r = .agg (four z at').cells) := by
  refine APure.of_body (n := 44) tok Tryd.func8 rfl rfl ?_
  refine AGo.seq ?_
  refine AGo.region ?_
  refine AOps.x 4 rfl rfl rfl (o_alloc tok 0 rfl rfl rfl rfl (Nat.zero_lt_succ _) rfl) ?_
  refine AOps.nil ?_
  refine AGo.seq ?_
  refine AGo.region ?_
  refine AOps.x 5 rfl rfl rfl (o_alloc tok 1 rfl rfl rfl rfl (Nat.zero_lt_succ _) rfl) ?_
  refine AOps.nil ?_
  refine AGo.seq ?_
  refine AGo.seq ?_
  refine AGo.region ?_
  refine AOps.s 8 rfl rfl rfl (q_move (.inl rfl) rfl) ?_
  refine AOps.nil ?_
  refine AGo.block ?_
  refine AGo.unroll 4 ?_
  refine AGo.un_succ (n := 3) ?_
  refine AGo.sub (s' := ⟨44, (eput (eput (eput (eput (eput eNew 0 (.str z)) 1 (.int .i64 (at' : Int))) 4 (.ptr 0 1 0 0)) 5 (.ptr 1 1 0 0)) 8 (.int .i64 0)), (hput (hput (hFrom 2) 0 (.row false 4 [[.int .u32 0, .int .u32 0, .int .u32 0, .int .u32 0]])) 1 (.row false 4 [[.int .u32 0, .int .u32 0, .int .u32 0, .int .u32 0]]))⟩) (Sub.mk' (by repeat (first | exact ESub.new _ | refine ESub.put ?_ (by rfl))) (by repeat (first | exact HSub.refl _ | exact HSub.none _ | exact HSub.from_new _ | exact HSub.from_from (by first | decide | omega | (dsimp only; omega)) | refine HSub.put ?_ (by rfl) | refine HSub.from_put ?_ (by first | decide | omega | (dsimp only; omega)) | refine HSub.from_rm ?_ (by decide)))) ?_
  refine AGo.seq ?_
  refine AGo.region ?_
  refine AOps.s 9 rfl rfl rfl (q_bin (r := .bool true) rfl rfl rfl (by rfl)) ?_
  refine AOps.nil ?_
  refine AGo.seq ?_
  refine AGo.cond_true true rfl rfl ?_
  refine AGo.skip ?_
  refine AGo.seq ?_
  refine AGo.block ?_
  refine AGo.seq ?_
  refine AGo.region ?_
  refine AOps.s 10 rfl rfl rfl (q_move (.inl rfl) rfl) ?_
  refine AOps.s 6 rfl rfl rfl (q_move (.inr rfl) rfl) ?_
  refine AOps.nil ?_
  refine AGo.seq ?_
  refine AGo.region ?_
  refine AOps.s 11 rfl rfl rfl (q_move (.inl rfl) rfl) ?_
  refine AOps.s 12 rfl rfl rfl (q_move (.inl rfl) rfl) ?_
  refine AOps.s 13 rfl rfl rfl (q_bin (r := .int .i64 0) rfl rfl rfl (by rfl)) ?_
  refine AOps.s 14 rfl rfl rfl (q_bin (r := .int .i64 ((at' + 4 * 0 : Nat) : Int)) rfl rfl rfl (addI (by omega) (by omega) (by omega))) ?_
  refine AOps.s 7 rfl rfl rfl (q_move (.inr rfl) rfl) ?_
  refine AOps.nil ?_
  refine AGo.draw mix ?_
  refine DOps.s 15 rfl rfl rfl (q_move (.inl rfl) rfl) ?_
  refine DOps.s 16 rfl rfl rfl (q_move (.inl rfl) rfl) ?_
  refine DOps.s 17 rfl rfl rfl (q_move (.inl rfl) rfl) ?_
  refine DOps.s 18 rfl rfl rfl (q_index_str (c := byteC z (at' + 4 * 0)) tok rfl rfl rfl rfl rfl (Int.natCast_nonneg _) (byteC_get (by omega))) ?_
  refine DOps.s 19 rfl rfl rfl (q_cvt tok rfl rfl rfl rfl rfl (r := (((byteC z (at' + 4 * 0)).toNat : Nat) : Int)) (by rw [IntKind.wrap_u32]; have := byte_lt (byteC z (at' + 4 * 0)); omega)) ?_
  refine DOps.s 20 rfl rfl rfl (q_move (.inl rfl) rfl) ?_
  refine DOps.s 21 rfl rfl rfl (q_move (.inl rfl) rfl) ?_
  refine DOps.s 22 rfl rfl rfl (q_bin (r := .int .i64 ((at' + 4 * 0 + 1 : Nat) : Int)) rfl rfl rfl (addI (by omega) (by omega) (by omega))) ?_
  refine DOps.s 23 rfl rfl rfl (q_index_str (c := byteC z (at' + 4 * 0 + 1)) tok rfl rfl rfl rfl rfl (Int.natCast_nonneg _) (byteC_get (by omega))) ?_
  refine DOps.s 24 rfl rfl rfl (q_cvt tok rfl rfl rfl rfl rfl (r := (((byteC z (at' + 4 * 0 + 1)).toNat : Nat) : Int)) (by rw [IntKind.wrap_u32]; have := byte_lt (byteC z (at' + 4 * 0 + 1)); omega)) ?_
  refine DOps.s 25 rfl rfl rfl (q_bin (r := .int .u32 (shlW (byteC z (at' + 4 * 0 + 1)).toNat 8)) rfl rfl rfl (shlBin (by decide))) ?_
  refine DOps.s 26 rfl rfl rfl (q_bin rfl rfl rfl rfl) ?_
  refine DOps.s 27 rfl rfl rfl (q_move (.inl rfl) rfl) ?_
  refine DOps.s 28 rfl rfl rfl (q_move (.inl rfl) rfl) ?_
  refine DOps.s 29 rfl rfl rfl (q_bin (r := .int .i64 ((at' + 4 * 0 + 2 : Nat) : Int)) rfl rfl rfl (addI (by omega) (by omega) (by omega))) ?_
  refine DOps.s 30 rfl rfl rfl (q_index_str (c := byteC z (at' + 4 * 0 + 2)) tok rfl rfl rfl rfl rfl (Int.natCast_nonneg _) (byteC_get (by omega))) ?_
  refine DOps.s 31 rfl rfl rfl (q_cvt tok rfl rfl rfl rfl rfl (r := (((byteC z (at' + 4 * 0 + 2)).toNat : Nat) : Int)) (by rw [IntKind.wrap_u32]; have := byte_lt (byteC z (at' + 4 * 0 + 2)); omega)) ?_
  refine DOps.s 32 rfl rfl rfl (q_bin (r := .int .u32 (shlW (byteC z (at' + 4 * 0 + 2)).toNat 16)) rfl rfl rfl (shlBin (by decide))) ?_
  refine DOps.s 33 rfl rfl rfl (q_bin rfl rfl rfl rfl) ?_
  refine DOps.s 34 rfl rfl rfl (q_move (.inl rfl) rfl) ?_
  refine DOps.s 35 rfl rfl rfl (q_move (.inl rfl) rfl) ?_
  refine DOps.s 36 rfl rfl rfl (q_bin (r := .int .i64 ((at' + 4 * 0 + 3 : Nat) : Int)) rfl rfl rfl (addI (by omega) (by omega) (by omega))) ?_
  refine DOps.s 37 rfl rfl rfl (q_index_str (c := byteC z (at' + 4 * 0 + 3)) tok rfl rfl rfl rfl rfl (Int.natCast_nonneg _) (byteC_get (by omega))) ?_
  refine DOps.s 38 rfl rfl rfl (q_cvt tok rfl rfl rfl rfl rfl (r := (((byteC z (at' + 4 * 0 + 3)).toNat : Nat) : Int)) (by rw [IntKind.wrap_u32]; have := byte_lt (byteC z (at' + 4 * 0 + 3)); omega)) ?_
  refine DOps.s 39 rfl rfl rfl (q_bin (r := .int .u32 (shlW (byteC z (at' + 4 * 0 + 3)).toNat 24)) rfl rfl rfl (shlBin (by decide))) ?_
  refine DOps.s 40 rfl rfl rfl (q_bin rfl rfl rfl rfl) ?_
  refine DOps.s 41 rfl rfl rfl (q_index_arr tok rfl rfl rfl rfl rfl rfl (by decide) (by decide) rfl) ?_
  refine DOps.w rfl rfl (o_store tok rfl rfl rfl rfl rfl rfl rfl rfl rfl (by decide) rfl (by first | exact fun _ => rfl | (intro h; cases h))) ?_
  refine DOps.nil (by kernel_rfl) ?_
  refine AGo.region ?_
  refine AOps.s 42 rfl rfl rfl (q_bin (r := .int .i64 1) rfl rfl rfl (by rfl)) ?_
  refine AOps.s 8 rfl rfl rfl (q_move (.inl rfl) rfl) ?_
  refine AOps.nil ?_
  refine AGo.un_succ (n := 2) ?_
  refine AGo.sub (s' := ⟨44, (eput (eput (eput (eput (eput eNew 0 (.str z)) 1 (.int .i64 (at' : Int))) 4 (.ptr 0 1 0 0)) 5 (.ptr 1 1 0 0)) 8 (.int .i64 1)), (hput (hput (hFrom 2) 0 (.row false 4 [[.int .u32 0, .int .u32 0, .int .u32 0, .int .u32 0]])) 1 (.row false 4 [[.int .u32 (fourW z at' 0), .int .u32 0, .int .u32 0, .int .u32 0]]))⟩) (Sub.mk' (by repeat (first | exact ESub.new _ | refine ESub.put ?_ (by rfl))) (by repeat (first | exact HSub.refl _ | exact HSub.none _ | exact HSub.from_new _ | exact HSub.from_from (by first | decide | omega | (dsimp only; omega)) | refine HSub.put ?_ (by rfl) | refine HSub.from_put ?_ (by first | decide | omega | (dsimp only; omega)) | refine HSub.from_rm ?_ (by decide)))) ?_
  refine AGo.seq ?_
  refine AGo.region ?_
  refine AOps.s 9 rfl rfl rfl (q_bin (r := .bool true) rfl rfl rfl (by rfl)) ?_
  refine AOps.nil ?_
  refine AGo.seq ?_
  refine AGo.cond_true true rfl rfl ?_
  refine AGo.skip ?_
  refine AGo.seq ?_
  refine AGo.block ?_
  refine AGo.seq ?_
  refine AGo.region ?_
  refine AOps.s 10 rfl rfl rfl (q_move (.inl rfl) rfl) ?_
  refine AOps.s 6 rfl rfl rfl (q_move (.inr rfl) rfl) ?_
  refine AOps.nil ?_
  refine AGo.seq ?_
  refine AGo.region ?_
  refine AOps.s 11 rfl rfl rfl (q_move (.inl rfl) rfl) ?_
  refine AOps.s 12 rfl rfl rfl (q_move (.inl rfl) rfl) ?_
  refine AOps.s 13 rfl rfl rfl (q_bin (r := .int .i64 4) rfl rfl rfl (by rfl)) ?_
  refine AOps.s 14 rfl rfl rfl (q_bin (r := .int .i64 ((at' + 4 * 1 : Nat) : Int)) rfl rfl rfl (addI (by omega) (by omega) (by omega))) ?_
  refine AOps.s 7 rfl rfl rfl (q_move (.inr rfl) rfl) ?_
  refine AOps.nil ?_
  refine AGo.draw mix ?_
  refine DOps.s 15 rfl rfl rfl (q_move (.inl rfl) rfl) ?_
  refine DOps.s 16 rfl rfl rfl (q_move (.inl rfl) rfl) ?_
  refine DOps.s 17 rfl rfl rfl (q_move (.inl rfl) rfl) ?_
  refine DOps.s 18 rfl rfl rfl (q_index_str (c := byteC z (at' + 4 * 1)) tok rfl rfl rfl rfl rfl (Int.natCast_nonneg _) (byteC_get (by omega))) ?_
  refine DOps.s 19 rfl rfl rfl (q_cvt tok rfl rfl rfl rfl rfl (r := (((byteC z (at' + 4 * 1)).toNat : Nat) : Int)) (by rw [IntKind.wrap_u32]; have := byte_lt (byteC z (at' + 4 * 1)); omega)) ?_
  refine DOps.s 20 rfl rfl rfl (q_move (.inl rfl) rfl) ?_
  refine DOps.s 21 rfl rfl rfl (q_move (.inl rfl) rfl) ?_
  refine DOps.s 22 rfl rfl rfl (q_bin (r := .int .i64 ((at' + 4 * 1 + 1 : Nat) : Int)) rfl rfl rfl (addI (by omega) (by omega) (by omega))) ?_
  refine DOps.s 23 rfl rfl rfl (q_index_str (c := byteC z (at' + 4 * 1 + 1)) tok rfl rfl rfl rfl rfl (Int.natCast_nonneg _) (byteC_get (by omega))) ?_
  refine DOps.s 24 rfl rfl rfl (q_cvt tok rfl rfl rfl rfl rfl (r := (((byteC z (at' + 4 * 1 + 1)).toNat : Nat) : Int)) (by rw [IntKind.wrap_u32]; have := byte_lt (byteC z (at' + 4 * 1 + 1)); omega)) ?_
  refine DOps.s 25 rfl rfl rfl (q_bin (r := .int .u32 (shlW (byteC z (at' + 4 * 1 + 1)).toNat 8)) rfl rfl rfl (shlBin (by decide))) ?_
  refine DOps.s 26 rfl rfl rfl (q_bin rfl rfl rfl rfl) ?_
  refine DOps.s 27 rfl rfl rfl (q_move (.inl rfl) rfl) ?_
  refine DOps.s 28 rfl rfl rfl (q_move (.inl rfl) rfl) ?_
  refine DOps.s 29 rfl rfl rfl (q_bin (r := .int .i64 ((at' + 4 * 1 + 2 : Nat) : Int)) rfl rfl rfl (addI (by omega) (by omega) (by omega))) ?_
  refine DOps.s 30 rfl rfl rfl (q_index_str (c := byteC z (at' + 4 * 1 + 2)) tok rfl rfl rfl rfl rfl (Int.natCast_nonneg _) (byteC_get (by omega))) ?_
  refine DOps.s 31 rfl rfl rfl (q_cvt tok rfl rfl rfl rfl rfl (r := (((byteC z (at' + 4 * 1 + 2)).toNat : Nat) : Int)) (by rw [IntKind.wrap_u32]; have := byte_lt (byteC z (at' + 4 * 1 + 2)); omega)) ?_
  refine DOps.s 32 rfl rfl rfl (q_bin (r := .int .u32 (shlW (byteC z (at' + 4 * 1 + 2)).toNat 16)) rfl rfl rfl (shlBin (by decide))) ?_
  refine DOps.s 33 rfl rfl rfl (q_bin rfl rfl rfl rfl) ?_
  refine DOps.s 34 rfl rfl rfl (q_move (.inl rfl) rfl) ?_
  refine DOps.s 35 rfl rfl rfl (q_move (.inl rfl) rfl) ?_
  refine DOps.s 36 rfl rfl rfl (q_bin (r := .int .i64 ((at' + 4 * 1 + 3 : Nat) : Int)) rfl rfl rfl (addI (by omega) (by omega) (by omega))) ?_
  refine DOps.s 37 rfl rfl rfl (q_index_str (c := byteC z (at' + 4 * 1 + 3)) tok rfl rfl rfl rfl rfl (Int.natCast_nonneg _) (byteC_get (by omega))) ?_
  refine DOps.s 38 rfl rfl rfl (q_cvt tok rfl rfl rfl rfl rfl (r := (((byteC z (at' + 4 * 1 + 3)).toNat : Nat) : Int)) (by rw [IntKind.wrap_u32]; have := byte_lt (byteC z (at' + 4 * 1 + 3)); omega)) ?_
  refine DOps.s 39 rfl rfl rfl (q_bin (r := .int .u32 (shlW (byteC z (at' + 4 * 1 + 3)).toNat 24)) rfl rfl rfl (shlBin (by decide))) ?_
  refine DOps.s 40 rfl rfl rfl (q_bin rfl rfl rfl rfl) ?_
  refine DOps.s 41 rfl rfl rfl (q_index_arr tok rfl rfl rfl rfl rfl rfl (by decide) (by decide) rfl) ?_
  refine DOps.w rfl rfl (o_store tok rfl rfl rfl rfl rfl rfl rfl rfl rfl (by decide) rfl (by first | exact fun _ => rfl | (intro h; cases h))) ?_
  refine DOps.nil (by kernel_rfl) ?_
  refine AGo.region ?_
  refine AOps.s 42 rfl rfl rfl (q_bin (r := .int .i64 2) rfl rfl rfl (by rfl)) ?_
  refine AOps.s 8 rfl rfl rfl (q_move (.inl rfl) rfl) ?_
  refine AOps.nil ?_
  refine AGo.un_succ (n := 1) ?_
  refine AGo.sub (s' := ⟨44, (eput (eput (eput (eput (eput eNew 0 (.str z)) 1 (.int .i64 (at' : Int))) 4 (.ptr 0 1 0 0)) 5 (.ptr 1 1 0 0)) 8 (.int .i64 2)), (hput (hput (hFrom 2) 0 (.row false 4 [[.int .u32 0, .int .u32 0, .int .u32 0, .int .u32 0]])) 1 (.row false 4 [[.int .u32 (fourW z at' 0), .int .u32 (fourW z at' 1), .int .u32 0, .int .u32 0]]))⟩) (Sub.mk' (by repeat (first | exact ESub.new _ | refine ESub.put ?_ (by rfl))) (by repeat (first | exact HSub.refl _ | exact HSub.none _ | exact HSub.from_new _ | exact HSub.from_from (by first | decide | omega | (dsimp only; omega)) | refine HSub.put ?_ (by rfl) | refine HSub.from_put ?_ (by first | decide | omega | (dsimp only; omega)) | refine HSub.from_rm ?_ (by decide)))) ?_
  refine AGo.seq ?_
  refine AGo.region ?_
  refine AOps.s 9 rfl rfl rfl (q_bin (r := .bool true) rfl rfl rfl (by rfl)) ?_
  refine AOps.nil ?_
  refine AGo.seq ?_
  refine AGo.cond_true true rfl rfl ?_
  refine AGo.skip ?_
  refine AGo.seq ?_
  refine AGo.block ?_
  refine AGo.seq ?_
  refine AGo.region ?_
  refine AOps.s 10 rfl rfl rfl (q_move (.inl rfl) rfl) ?_
  refine AOps.s 6 rfl rfl rfl (q_move (.inr rfl) rfl) ?_
  refine AOps.nil ?_
  refine AGo.seq ?_
  refine AGo.region ?_
  refine AOps.s 11 rfl rfl rfl (q_move (.inl rfl) rfl) ?_
  refine AOps.s 12 rfl rfl rfl (q_move (.inl rfl) rfl) ?_
  refine AOps.s 13 rfl rfl rfl (q_bin (r := .int .i64 8) rfl rfl rfl (by rfl)) ?_
  refine AOps.s 14 rfl rfl rfl (q_bin (r := .int .i64 ((at' + 4 * 2 : Nat) : Int)) rfl rfl rfl (addI (by omega) (by omega) (by omega))) ?_
  refine AOps.s 7 rfl rfl rfl (q_move (.inr rfl) rfl) ?_
  refine AOps.nil ?_
  refine AGo.draw mix ?_
  refine DOps.s 15 rfl rfl rfl (q_move (.inl rfl) rfl) ?_
  refine DOps.s 16 rfl rfl rfl (q_move (.inl rfl) rfl) ?_
  refine DOps.s 17 rfl rfl rfl (q_move (.inl rfl) rfl) ?_
  refine DOps.s 18 rfl rfl rfl (q_index_str (c := byteC z (at' + 4 * 2)) tok rfl rfl rfl rfl rfl (Int.natCast_nonneg _) (byteC_get (by omega))) ?_
  refine DOps.s 19 rfl rfl rfl (q_cvt tok rfl rfl rfl rfl rfl (r := (((byteC z (at' + 4 * 2)).toNat : Nat) : Int)) (by rw [IntKind.wrap_u32]; have := byte_lt (byteC z (at' + 4 * 2)); omega)) ?_
  refine DOps.s 20 rfl rfl rfl (q_move (.inl rfl) rfl) ?_
  refine DOps.s 21 rfl rfl rfl (q_move (.inl rfl) rfl) ?_
  refine DOps.s 22 rfl rfl rfl (q_bin (r := .int .i64 ((at' + 4 * 2 + 1 : Nat) : Int)) rfl rfl rfl (addI (by omega) (by omega) (by omega))) ?_
  refine DOps.s 23 rfl rfl rfl (q_index_str (c := byteC z (at' + 4 * 2 + 1)) tok rfl rfl rfl rfl rfl (Int.natCast_nonneg _) (byteC_get (by omega))) ?_
  refine DOps.s 24 rfl rfl rfl (q_cvt tok rfl rfl rfl rfl rfl (r := (((byteC z (at' + 4 * 2 + 1)).toNat : Nat) : Int)) (by rw [IntKind.wrap_u32]; have := byte_lt (byteC z (at' + 4 * 2 + 1)); omega)) ?_
  refine DOps.s 25 rfl rfl rfl (q_bin (r := .int .u32 (shlW (byteC z (at' + 4 * 2 + 1)).toNat 8)) rfl rfl rfl (shlBin (by decide))) ?_
  refine DOps.s 26 rfl rfl rfl (q_bin rfl rfl rfl rfl) ?_
  refine DOps.s 27 rfl rfl rfl (q_move (.inl rfl) rfl) ?_
  refine DOps.s 28 rfl rfl rfl (q_move (.inl rfl) rfl) ?_
  refine DOps.s 29 rfl rfl rfl (q_bin (r := .int .i64 ((at' + 4 * 2 + 2 : Nat) : Int)) rfl rfl rfl (addI (by omega) (by omega) (by omega))) ?_
  refine DOps.s 30 rfl rfl rfl (q_index_str (c := byteC z (at' + 4 * 2 + 2)) tok rfl rfl rfl rfl rfl (Int.natCast_nonneg _) (byteC_get (by omega))) ?_
  refine DOps.s 31 rfl rfl rfl (q_cvt tok rfl rfl rfl rfl rfl (r := (((byteC z (at' + 4 * 2 + 2)).toNat : Nat) : Int)) (by rw [IntKind.wrap_u32]; have := byte_lt (byteC z (at' + 4 * 2 + 2)); omega)) ?_
  refine DOps.s 32 rfl rfl rfl (q_bin (r := .int .u32 (shlW (byteC z (at' + 4 * 2 + 2)).toNat 16)) rfl rfl rfl (shlBin (by decide))) ?_
  refine DOps.s 33 rfl rfl rfl (q_bin rfl rfl rfl rfl) ?_
  refine DOps.s 34 rfl rfl rfl (q_move (.inl rfl) rfl) ?_
  refine DOps.s 35 rfl rfl rfl (q_move (.inl rfl) rfl) ?_
  refine DOps.s 36 rfl rfl rfl (q_bin (r := .int .i64 ((at' + 4 * 2 + 3 : Nat) : Int)) rfl rfl rfl (addI (by omega) (by omega) (by omega))) ?_
  refine DOps.s 37 rfl rfl rfl (q_index_str (c := byteC z (at' + 4 * 2 + 3)) tok rfl rfl rfl rfl rfl (Int.natCast_nonneg _) (byteC_get (by omega))) ?_
  refine DOps.s 38 rfl rfl rfl (q_cvt tok rfl rfl rfl rfl rfl (r := (((byteC z (at' + 4 * 2 + 3)).toNat : Nat) : Int)) (by rw [IntKind.wrap_u32]; have := byte_lt (byteC z (at' + 4 * 2 + 3)); omega)) ?_
  refine DOps.s 39 rfl rfl rfl (q_bin (r := .int .u32 (shlW (byteC z (at' + 4 * 2 + 3)).toNat 24)) rfl rfl rfl (shlBin (by decide))) ?_
  refine DOps.s 40 rfl rfl rfl (q_bin rfl rfl rfl rfl) ?_
  refine DOps.s 41 rfl rfl rfl (q_index_arr tok rfl rfl rfl rfl rfl rfl (by decide) (by decide) rfl) ?_
  refine DOps.w rfl rfl (o_store tok rfl rfl rfl rfl rfl rfl rfl rfl rfl (by decide) rfl (by first | exact fun _ => rfl | (intro h; cases h))) ?_
  refine DOps.nil (by kernel_rfl) ?_
  refine AGo.region ?_
  refine AOps.s 42 rfl rfl rfl (q_bin (r := .int .i64 3) rfl rfl rfl (by rfl)) ?_
  refine AOps.s 8 rfl rfl rfl (q_move (.inl rfl) rfl) ?_
  refine AOps.nil ?_
  refine AGo.un_succ (n := 0) ?_
  refine AGo.sub (s' := ⟨44, (eput (eput (eput (eput (eput eNew 0 (.str z)) 1 (.int .i64 (at' : Int))) 4 (.ptr 0 1 0 0)) 5 (.ptr 1 1 0 0)) 8 (.int .i64 3)), (hput (hput (hFrom 2) 0 (.row false 4 [[.int .u32 0, .int .u32 0, .int .u32 0, .int .u32 0]])) 1 (.row false 4 [[.int .u32 (fourW z at' 0), .int .u32 (fourW z at' 1), .int .u32 (fourW z at' 2), .int .u32 0]]))⟩) (Sub.mk' (by repeat (first | exact ESub.new _ | refine ESub.put ?_ (by rfl))) (by repeat (first | exact HSub.refl _ | exact HSub.none _ | exact HSub.from_new _ | exact HSub.from_from (by first | decide | omega | (dsimp only; omega)) | refine HSub.put ?_ (by rfl) | refine HSub.from_put ?_ (by first | decide | omega | (dsimp only; omega)) | refine HSub.from_rm ?_ (by decide)))) ?_
  refine AGo.seq ?_
  refine AGo.region ?_
  refine AOps.s 9 rfl rfl rfl (q_bin (r := .bool true) rfl rfl rfl (by rfl)) ?_
  refine AOps.nil ?_
  refine AGo.seq ?_
  refine AGo.cond_true true rfl rfl ?_
  refine AGo.skip ?_
  refine AGo.seq ?_
  refine AGo.block ?_
  refine AGo.seq ?_
  refine AGo.region ?_
  refine AOps.s 10 rfl rfl rfl (q_move (.inl rfl) rfl) ?_
  refine AOps.s 6 rfl rfl rfl (q_move (.inr rfl) rfl) ?_
  refine AOps.nil ?_
  refine AGo.seq ?_
  refine AGo.region ?_
  refine AOps.s 11 rfl rfl rfl (q_move (.inl rfl) rfl) ?_
  refine AOps.s 12 rfl rfl rfl (q_move (.inl rfl) rfl) ?_
  refine AOps.s 13 rfl rfl rfl (q_bin (r := .int .i64 12) rfl rfl rfl (by rfl)) ?_
  refine AOps.s 14 rfl rfl rfl (q_bin (r := .int .i64 ((at' + 4 * 3 : Nat) : Int)) rfl rfl rfl (addI (by omega) (by omega) (by omega))) ?_
  refine AOps.s 7 rfl rfl rfl (q_move (.inr rfl) rfl) ?_
  refine AOps.nil ?_
  refine AGo.draw mix ?_
  refine DOps.s 15 rfl rfl rfl (q_move (.inl rfl) rfl) ?_
  refine DOps.s 16 rfl rfl rfl (q_move (.inl rfl) rfl) ?_
  refine DOps.s 17 rfl rfl rfl (q_move (.inl rfl) rfl) ?_
  refine DOps.s 18 rfl rfl rfl (q_index_str (c := byteC z (at' + 4 * 3)) tok rfl rfl rfl rfl rfl (Int.natCast_nonneg _) (byteC_get (by omega))) ?_
  refine DOps.s 19 rfl rfl rfl (q_cvt tok rfl rfl rfl rfl rfl (r := (((byteC z (at' + 4 * 3)).toNat : Nat) : Int)) (by rw [IntKind.wrap_u32]; have := byte_lt (byteC z (at' + 4 * 3)); omega)) ?_
  refine DOps.s 20 rfl rfl rfl (q_move (.inl rfl) rfl) ?_
  refine DOps.s 21 rfl rfl rfl (q_move (.inl rfl) rfl) ?_
  refine DOps.s 22 rfl rfl rfl (q_bin (r := .int .i64 ((at' + 4 * 3 + 1 : Nat) : Int)) rfl rfl rfl (addI (by omega) (by omega) (by omega))) ?_
  refine DOps.s 23 rfl rfl rfl (q_index_str (c := byteC z (at' + 4 * 3 + 1)) tok rfl rfl rfl rfl rfl (Int.natCast_nonneg _) (byteC_get (by omega))) ?_
  refine DOps.s 24 rfl rfl rfl (q_cvt tok rfl rfl rfl rfl rfl (r := (((byteC z (at' + 4 * 3 + 1)).toNat : Nat) : Int)) (by rw [IntKind.wrap_u32]; have := byte_lt (byteC z (at' + 4 * 3 + 1)); omega)) ?_
  refine DOps.s 25 rfl rfl rfl (q_bin (r := .int .u32 (shlW (byteC z (at' + 4 * 3 + 1)).toNat 8)) rfl rfl rfl (shlBin (by decide))) ?_
  refine DOps.s 26 rfl rfl rfl (q_bin rfl rfl rfl rfl) ?_
  refine DOps.s 27 rfl rfl rfl (q_move (.inl rfl) rfl) ?_
  refine DOps.s 28 rfl rfl rfl (q_move (.inl rfl) rfl) ?_
  refine DOps.s 29 rfl rfl rfl (q_bin (r := .int .i64 ((at' + 4 * 3 + 2 : Nat) : Int)) rfl rfl rfl (addI (by omega) (by omega) (by omega))) ?_
  refine DOps.s 30 rfl rfl rfl (q_index_str (c := byteC z (at' + 4 * 3 + 2)) tok rfl rfl rfl rfl rfl (Int.natCast_nonneg _) (byteC_get (by omega))) ?_
  refine DOps.s 31 rfl rfl rfl (q_cvt tok rfl rfl rfl rfl rfl (r := (((byteC z (at' + 4 * 3 + 2)).toNat : Nat) : Int)) (by rw [IntKind.wrap_u32]; have := byte_lt (byteC z (at' + 4 * 3 + 2)); omega)) ?_
  refine DOps.s 32 rfl rfl rfl (q_bin (r := .int .u32 (shlW (byteC z (at' + 4 * 3 + 2)).toNat 16)) rfl rfl rfl (shlBin (by decide))) ?_
  refine DOps.s 33 rfl rfl rfl (q_bin rfl rfl rfl rfl) ?_
  refine DOps.s 34 rfl rfl rfl (q_move (.inl rfl) rfl) ?_
  refine DOps.s 35 rfl rfl rfl (q_move (.inl rfl) rfl) ?_
  refine DOps.s 36 rfl rfl rfl (q_bin (r := .int .i64 ((at' + 4 * 3 + 3 : Nat) : Int)) rfl rfl rfl (addI (by omega) (by omega) (by omega))) ?_
  refine DOps.s 37 rfl rfl rfl (q_index_str (c := byteC z (at' + 4 * 3 + 3)) tok rfl rfl rfl rfl rfl (Int.natCast_nonneg _) (byteC_get (by omega))) ?_
  refine DOps.s 38 rfl rfl rfl (q_cvt tok rfl rfl rfl rfl rfl (r := (((byteC z (at' + 4 * 3 + 3)).toNat : Nat) : Int)) (by rw [IntKind.wrap_u32]; have := byte_lt (byteC z (at' + 4 * 3 + 3)); omega)) ?_
  refine DOps.s 39 rfl rfl rfl (q_bin (r := .int .u32 (shlW (byteC z (at' + 4 * 3 + 3)).toNat 24)) rfl rfl rfl (shlBin (by decide))) ?_
  refine DOps.s 40 rfl rfl rfl (q_bin rfl rfl rfl rfl) ?_
  refine DOps.s 41 rfl rfl rfl (q_index_arr tok rfl rfl rfl rfl rfl rfl (by decide) (by decide) rfl) ?_
  refine DOps.w rfl rfl (o_store tok rfl rfl rfl rfl rfl rfl rfl rfl rfl (by decide) rfl (by first | exact fun _ => rfl | (intro h; cases h))) ?_
  refine DOps.nil (by kernel_rfl) ?_
  refine AGo.region ?_
  refine AOps.s 42 rfl rfl rfl (q_bin (r := .int .i64 4) rfl rfl rfl (by rfl)) ?_
  refine AOps.s 8 rfl rfl rfl (q_move (.inl rfl) rfl) ?_
  refine AOps.nil ?_
  refine AGo.un_zero ?_
  refine AGo.sub (s' := ⟨44, (eput (eput (eput (eput (eput eNew 0 (.str z)) 1 (.int .i64 (at' : Int))) 4 (.ptr 0 1 0 0)) 5 (.ptr 1 1 0 0)) 8 (.int .i64 4)), (hput (hput (hFrom 2) 0 (.row false 4 [[.int .u32 0, .int .u32 0, .int .u32 0, .int .u32 0]])) 1 (.row false 4 [[.int .u32 (fourW z at' 0), .int .u32 (fourW z at' 1), .int .u32 (fourW z at' 2), .int .u32 (fourW z at' 3)]]))⟩) (Sub.mk' (by repeat (first | exact ESub.new _ | refine ESub.put ?_ (by rfl))) (by repeat (first | exact HSub.refl _ | exact HSub.none _ | exact HSub.from_new _ | exact HSub.from_from (by first | decide | omega | (dsimp only; omega)) | refine HSub.put ?_ (by rfl) | refine HSub.from_put ?_ (by first | decide | omega | (dsimp only; omega)) | refine HSub.from_rm ?_ (by decide)))) ?_
  refine AGo.seq ?_
  refine AGo.region ?_
  refine AOps.s 9 rfl rfl rfl (q_bin (r := .bool false) rfl rfl rfl (by rfl)) ?_
  refine AOps.nil ?_
  refine AGo.seq ?_
  refine AGo.cond_false false rfl rfl ?_
  refine AGo.exit ?_
  refine AGo.seq ?_
  refine AGo.region ?_
  refine AOps.s 43 rfl rfl rfl (q_load tok rfl rfl rfl (by first | exact .loc _ | exact .ptr _ _ _ _ _ _ _ _ rfl rfl rfl) rfl) ?_
  refine AOps.w rfl rfl (o_store tok rfl rfl rfl rfl rfl rfl rfl rfl rfl (by decide) rfl (by first | exact fun _ => rfl | (intro h; cases h))) ?_
  refine AOps.nil ?_
  refine AGo.ret ?_
  refine ⟨[_], ⟨⟨_, _, _, _, rfl, rfl, .ptr _ _ _ _ _ _ _ _ rfl rfl rfl, rfl⟩, trivial⟩, ?_, rfl⟩
  rfl

end Go.Proofs.YtmckdaonemcnaaaDoor.Sv

namespace Go.Proofs.YtmckdaonemcnaaaDoor.Sv
open Go
set_option linter.unusedVariables false
set_option linter.unusedSimpArgs false

set_option maxRecDepth 100000 in
theorem rotl_ok (x p : Int) (hp : 0 ≤ p ∧ p < 32) : APure Tryd.prog 16 [.int .u32 x, .int .i64 p] (fun r => r = .int .u32 (rotl x p)) := by
  refine APure.of_body (n := 17) tok Tryd.func16 rfl rfl ?_
  refine AGo.seq ?_
  refine AGo.region ?_
  refine AOps.s 4 rfl rfl rfl (q_move (.inr rfl) rfl) ?_
  refine AOps.nil ?_
  refine AGo.seq ?_
  refine AGo.region ?_
  refine AOps.s 6 rfl rfl rfl (q_move (.inl rfl) rfl) ?_
  refine AOps.s 7 rfl rfl rfl (q_cvt tok rfl rfl rfl rfl rfl (r := p) (by rw [IntKind.wrap_u64]; omega)) ?_
  refine AOps.s 8 rfl rfl rfl (q_bin (r := .int .u64 p) rfl rfl rfl (and31 hp)) ?_
  refine AOps.s 5 rfl rfl rfl (q_move (.inr rfl) rfl) ?_
  refine AOps.nil ?_
  refine AGo.seq ?_
  refine AGo.region ?_
  refine AOps.s 9 rfl rfl rfl (q_move (.inl rfl) rfl) ?_
  refine AOps.s 10 rfl rfl rfl (q_move (.inl rfl) rfl) ?_
  refine AOps.s 11 rfl rfl rfl (q_bin (r := .int .u32 (shlW x p)) rfl rfl rfl (shlBin hp.1)) ?_
  refine AOps.s 12 rfl rfl rfl (q_move (.inl rfl) rfl) ?_
  refine AOps.s 13 rfl rfl rfl (q_move (.inl rfl) rfl) ?_
  refine AOps.s 14 rfl rfl rfl (q_bin (r := .int .u64 (32 - p)) rfl rfl rfl (sub32 hp)) ?_
  refine AOps.s 15 rfl rfl rfl (q_bin (r := .int .u32 (shrW x (32 - p))) rfl rfl rfl (shrBin (by omega))) ?_
  refine AOps.s 16 rfl rfl rfl (q_bin rfl rfl rfl rfl) ?_
  refine AOps.s 4 rfl rfl rfl (q_move (.inr rfl) rfl) ?_
  refine AOps.nil ?_
  refine AGo.ret ?_
  refine ⟨[_], ⟨rfl, trivial⟩, ?_, rfl⟩
  rfl

set_option maxRecDepth 100000 in
theorem turnW_ok (x p : Int) (hp : 0 ≤ p ∧ p < 32) : APure Tryd.prog 15 [.int .u32 x, .int .i64 p] (fun r => r = .int .u32 (rotl x p)) := by
  refine APure.of_body (n := 15) tok Tryd.func15 rfl rfl ?_
  refine AGo.seq ?_
  refine AGo.region ?_
  refine AOps.s 4 rfl rfl rfl (q_move (.inr rfl) rfl) ?_
  refine AOps.nil ?_
  refine AGo.seq ?_
  refine AGo.region ?_
  refine AOps.s 6 rfl rfl rfl (q_move (.inl rfl) rfl) ?_
  refine AOps.s 7 rfl rfl rfl (q_bin (r := .int .i64 p) rfl rfl rfl (rem32 hp)) ?_
  refine AOps.s 5 rfl rfl rfl (q_move (.inr rfl) rfl) ?_
  refine AOps.nil ?_
  refine AGo.seq ?_
  refine AGo.seq ?_
  refine AGo.region ?_
  refine AOps.s 8 rfl rfl rfl (q_move (.inl rfl) rfl) ?_
  refine AOps.s 9 rfl rfl rfl (q_bin (r := .bool false) rfl rfl rfl (lss0 hp.1)) ?_
  refine AOps.nil ?_
  refine AGo.cond_false false rfl rfl ?_
  refine AGo.skip ?_
  refine AGo.seq ?_
  refine AGo.region ?_
  refine AOps.s 12 rfl rfl rfl (q_move (.inl rfl) rfl) ?_
  refine AOps.s 13 rfl rfl rfl (q_move (.inl rfl) rfl) ?_
  refine AOps.x 14 rfl rfl rfl (o_pure rfl Tryd.func16 (by kernel_rfl) rfl rfl rfl (rotl_ok _ _ (by assumption))) ?_
  refine AOps.s 4 rfl rfl rfl (q_move (.inr rfl) rfl) ?_
  refine AOps.nil ?_
  refine AGo.ret ?_
  refine ⟨[_], ⟨rfl, trivial⟩, ?_, rfl⟩
  rfl

set_option maxHeartbeats 1000000 in
set_option maxRecDepth 100000 in
theorem mix_ok (q : St8) : APure Tryd.prog 13 [.agg q.cells] (fun r => r = .agg (mixN 8 q).cells) := by
  refine APure.of_body (n := 59) tok Tryd.func13 rfl rfl ?_
  refine AGo.seq ?_
  refine AGo.region ?_
  refine AOps.x 1 rfl rfl rfl (o_box (sz := 8) 0 rfl rfl rfl rfl (Nat.zero_lt_succ _) rfl) ?_
  refine AOps.x 2 rfl rfl rfl (o_alloc tok 1 rfl rfl rfl rfl (Nat.zero_lt_succ _) rfl) ?_
  refine AOps.nil ?_
  refine AGo.seq ?_
  refine AGo.seq ?_
  refine AGo.region ?_
  refine AOps.s 3 rfl rfl rfl (q_move (.inr rfl) rfl) ?_
  refine AOps.nil ?_
  refine AGo.block ?_
  refine AGo.loopD (γ := Nat) 2 (fun r => ⟨59, (eput (eput (eput eNew 1 (.ptr 0 1 0 0)) 2 (.ptr 1 1 0 0)) 3 (.int .u32 (r : Int))), (hput (hput (hFrom 2) 0 (.row false 8 [(mixN r q).cells])) 1 (.row false 8 [[.int .u32 0, .int .u32 0, .int .u32 0, .int .u32 0, .int .u32 0, .int .u32 0, .int .u32 0, .int .u32 0]]))⟩) (fun r => r ≤ 8) (fun r => 8 - r) 0 (Sub.mk' (by repeat (first | exact ESub.new _ | refine ESub.put ?_ (by rfl))) (by repeat (first | exact HSub.refl _ | exact HSub.none _ | exact HSub.from_new _ | exact HSub.from_from (by first | decide | omega | (dsimp only; omega)) | refine HSub.put ?_ (by rfl) | refine HSub.from_put ?_ (by first | decide | omega | (dsimp only; omega)) | refine HSub.from_rm ?_ (by decide)))) (Nat.zero_le _) (fun _ => hput_free (hput_free (fun b hb => hFrom_free hb) rfl) rfl) ?_
  intro r hr
  obtain ⟨q0, hq0⟩ : ∃ x, x = mixN r q := ⟨_, rfl⟩
  rw [← hq0]
  refine AGo.seq ?_
  refine AGo.seq ?_
  refine AGo.region ?_
  refine AOps.s 7 rfl rfl rfl (q_move (.inl rfl) rfl) ?_
  refine AOps.s 8 rfl rfl rfl (q_bin rfl rfl rfl rfl) ?_
  refine AOps.nil ?_
  refine AGo.split 8 rfl (fun hb1 => ?_) (fun hb1 => ?_)
  · -- True
    refine AGo.cond_true true rfl rfl ?_
    have hrl : r < 8 := by have h := hb1; simp at h; omega
    refine AGo.skip ?_
    refine AGo.seq ?_
    refine AGo.block ?_
    refine AGo.seq ?_
    refine AGo.region ?_
    refine AOps.s 11 rfl rfl rfl (q_index_arr tok rfl rfl rfl rfl rfl rfl (by decide) (by decide) rfl) ?_
    refine AOps.s 12 rfl rfl rfl (q_load tok rfl rfl rfl (by first | exact .loc _ | exact .ptr _ _ _ _ _ _ _ _ rfl rfl rfl) rfl) ?_
    refine AOps.s 13 rfl rfl rfl (q_move (.inl rfl) rfl) ?_
    refine AOps.s 14 rfl rfl rfl (q_bin (r := .int .u32 ((r + 1 : Nat) : Int)) rfl rfl rfl (by show some (AV.int .u32 (IntKind.u32.wrap _)) = _; rw [IntKind.wrap_u32]; congr 2; omega)) ?_
    refine AOps.s 15 rfl rfl rfl (q_bin rfl rfl rfl rfl) ?_
    refine AOps.s 16 rfl rfl rfl (q_bin rfl rfl rfl rfl) ?_
    refine AOps.s 17 rfl rfl rfl (q_index_arr tok rfl rfl rfl rfl rfl rfl (by decide) (by decide) rfl) ?_
    refine AOps.w rfl rfl (o_store tok rfl rfl rfl rfl rfl rfl rfl rfl rfl (by decide) rfl (by first | exact fun _ => rfl | (intro h; cases h))) ?_
    refine AOps.nil ?_
    refine AGo.seq ?_
    refine AGo.seq ?_
    refine AGo.region ?_
    refine AOps.s 4 rfl rfl rfl (q_move (.inr rfl) rfl) ?_
    refine AOps.nil ?_
    refine AGo.block ?_
    refine AGo.unroll 4 ?_
    refine AGo.un_succ (n := 3) ?_
    refine AGo.sub (s' := ⟨59, (eput (eput (eput (eput eNew 1 (.ptr 0 1 0 0)) 2 (.ptr 1 1 0 0)) 3 (.int .u32 (r : Int))) 4 (.int .i64 0)), (hput (hput (hFrom 2) 0 (.row false 8 [(mixA r q0).cells])) 1 (.row false 8 [[.int .u32 0, .int .u32 0, .int .u32 0, .int .u32 0, .int .u32 0, .int .u32 0, .int .u32 0, .int .u32 0]]))⟩) (Sub.mk' (by repeat (first | exact ESub.new _ | refine ESub.put ?_ (by rfl))) (by repeat (first | exact HSub.refl _ | exact HSub.none _ | exact HSub.from_new _ | exact HSub.from_from (by first | decide | omega | (dsimp only; omega)) | refine HSub.put ?_ (by rfl) | refine HSub.from_put ?_ (by first | decide | omega | (dsimp only; omega)) | refine HSub.from_rm ?_ (by decide)))) ?_
    obtain ⟨q1, hq1⟩ : ∃ x, x = mixA r q0 := ⟨_, rfl⟩
    rw [← hq1]
    refine AGo.seq ?_
    refine AGo.seq ?_
    refine AGo.region ?_
    refine AOps.s 18 rfl rfl rfl (q_move (.inl rfl) rfl) ?_
    refine AOps.s 19 rfl rfl rfl (q_bin (r := .bool true) rfl rfl rfl (by rfl)) ?_
    refine AOps.nil ?_
    refine AGo.cond_true true rfl rfl ?_
    refine AGo.skip ?_
    refine AGo.seq ?_
    refine AGo.block ?_
    refine AGo.seq ?_
    refine AGo.draw mix ?_
    refine DOps.s 22 rfl rfl rfl (q_move (.inl rfl) rfl) ?_
    refine DOps.s 23 rfl rfl rfl (q_index_arr tok rfl rfl rfl rfl rfl rfl (by decide) (by decide) rfl) ?_
    refine DOps.s 24 rfl rfl rfl (q_load tok rfl rfl rfl (by first | exact .loc _ | exact .ptr _ _ _ _ _ _ _ _ rfl rfl rfl) rfl) ?_
    refine DOps.s 25 rfl rfl rfl (q_move (.inl rfl) rfl) ?_
    refine DOps.s 26 rfl rfl rfl (q_bin (r := .int .i64 4) rfl rfl rfl (by rfl)) ?_
    refine DOps.s 27 rfl rfl rfl (q_index_arr tok rfl rfl rfl rfl rfl rfl (by decide) (by decide) rfl) ?_
    refine DOps.s 28 rfl rfl rfl (q_load tok rfl rfl rfl (by first | exact .loc _ | exact .ptr _ _ _ _ _ _ _ _ rfl rfl rfl) rfl) ?_
    refine DOps.s 29 rfl rfl rfl (q_bin rfl rfl rfl rfl) ?_
    refine DOps.s 30 rfl rfl rfl (q_index_arr tok rfl rfl rfl rfl rfl rfl (by decide) (by decide) rfl) ?_
    refine DOps.w rfl rfl (o_store tok rfl rfl rfl rfl rfl rfl rfl rfl rfl (by decide) rfl (by first | exact fun _ => rfl | (intro h; cases h))) ?_
    refine DOps.nil (by kernel_rfl) ?_
    refine AGo.draw mix ?_
    refine DOps.s 31 rfl rfl rfl (q_move (.inl rfl) rfl) ?_
    refine DOps.s 32 rfl rfl rfl (q_bin (r := .int .i64 4) rfl rfl rfl (by rfl)) ?_
    refine DOps.s 33 rfl rfl rfl (q_move (.inl rfl) rfl) ?_
    refine DOps.s 34 rfl rfl rfl (q_bin (r := .int .i64 4) rfl rfl rfl (by rfl)) ?_
    refine DOps.s 35 rfl rfl rfl (q_index_arr tok rfl rfl rfl rfl rfl rfl (by decide) (by decide) rfl) ?_
    refine DOps.s 36 rfl rfl rfl (q_load tok rfl rfl rfl (by first | exact .loc _ | exact .ptr _ _ _ _ _ _ _ _ rfl rfl rfl) rfl) ?_
    refine DOps.s 37 rfl rfl rfl (q_move (.inl rfl) rfl) ?_
    refine DOps.s 38 rfl rfl rfl (q_index_arr tok rfl rfl rfl rfl rfl rfl (by decide) (by decide) rfl) ?_
    refine DOps.s 39 rfl rfl rfl (q_load tok rfl rfl rfl (by first | exact .loc _ | exact .ptr _ _ _ _ _ _ _ _ rfl rfl rfl) rfl) ?_
    refine DOps.s 40 rfl rfl rfl (q_bin rfl rfl rfl rfl) ?_
    refine DOps.s 41 rfl rfl rfl (q_move (.inl rfl) rfl) ?_
    refine DOps.s 42 rfl rfl rfl (q_index_arr tok rfl rfl rfl rfl rfl rfl (by decide) (by decide) rfl) ?_
    refine DOps.s 43 rfl rfl rfl (q_load tok rfl rfl rfl (by first | exact .loc _ | exact .ptr _ _ _ _ _ _ _ _ rfl rfl rfl) rfl) ?_
    refine DOps.x 44 rfl rfl rfl (o_pure rfl Tryd.func15 (by kernel_rfl) rfl rfl rfl (turnW_ok _ 7 (by decide))) ?_
    refine DOps.s 45 rfl rfl rfl (q_index_arr tok rfl rfl rfl rfl rfl rfl (by decide) (by decide) rfl) ?_
    refine DOps.w rfl rfl (o_store tok rfl rfl rfl rfl rfl rfl rfl rfl rfl (by decide) rfl (by first | exact fun _ => rfl | (intro h; cases h))) ?_
    refine DOps.nil (by kernel_rfl) ?_
    refine AGo.region ?_
    refine AOps.s 20 rfl rfl rfl (q_move (.inl rfl) rfl) ?_
    refine AOps.s 21 rfl rfl rfl (q_bin (r := .int .i64 1) rfl rfl rfl (by rfl)) ?_
    refine AOps.s 4 rfl rfl rfl (q_move (.inr rfl) rfl) ?_
    refine AOps.nil ?_
    refine AGo.un_succ (n := 2) ?_
    refine AGo.sub (s' := ⟨59, (eput (eput (eput (eput eNew 1 (.ptr 0 1 0 0)) 2 (.ptr 1 1 0 0)) 3 (.int .u32 (r : Int))) 4 (.int .i64 1)), (hput (hput (hFrom 2) 0 (.row false 8 [(mix0 q1).cells])) 1 (.row false 8 [[.int .u32 0, .int .u32 0, .int .u32 0, .int .u32 0, .int .u32 0, .int .u32 0, .int .u32 0, .int .u32 0]]))⟩) (Sub.mk' (by repeat (first | exact ESub.new _ | refine ESub.put ?_ (by rfl))) (by repeat (first | exact HSub.refl _ | exact HSub.none _ | exact HSub.from_new _ | exact HSub.from_from (by first | decide | omega | (dsimp only; omega)) | refine HSub.put ?_ (by rfl) | refine HSub.from_put ?_ (by first | decide | omega | (dsimp only; omega)) | refine HSub.from_rm ?_ (by decide)))) ?_
    obtain ⟨q2, hq2⟩ : ∃ x, x = mix0 q1 := ⟨_, rfl⟩
    rw [← hq2]
    refine AGo.seq ?_
    refine AGo.seq ?_
    refine AGo.region ?_
    refine AOps.s 18 rfl rfl rfl (q_move (.inl rfl) rfl) ?_
    refine AOps.s 19 rfl rfl rfl (q_bin (r := .bool true) rfl rfl rfl (by rfl)) ?_
    refine AOps.nil ?_
    refine AGo.cond_true true rfl rfl ?_
    refine AGo.skip ?_
    refine AGo.seq ?_
    refine AGo.block ?_
    refine AGo.seq ?_
    refine AGo.draw mix ?_
    refine DOps.s 22 rfl rfl rfl (q_move (.inl rfl) rfl) ?_
    refine DOps.s 23 rfl rfl rfl (q_index_arr tok rfl rfl rfl rfl rfl rfl (by decide) (by decide) rfl) ?_
    refine DOps.s 24 rfl rfl rfl (q_load tok rfl rfl rfl (by first | exact .loc _ | exact .ptr _ _ _ _ _ _ _ _ rfl rfl rfl) rfl) ?_
    refine DOps.s 25 rfl rfl rfl (q_move (.inl rfl) rfl) ?_
    refine DOps.s 26 rfl rfl rfl (q_bin (r := .int .i64 5) rfl rfl rfl (by rfl)) ?_
    refine DOps.s 27 rfl rfl rfl (q_index_arr tok rfl rfl rfl rfl rfl rfl (by decide) (by decide) rfl) ?_
    refine DOps.s 28 rfl rfl rfl (q_load tok rfl rfl rfl (by first | exact .loc _ | exact .ptr _ _ _ _ _ _ _ _ rfl rfl rfl) rfl) ?_
    refine DOps.s 29 rfl rfl rfl (q_bin rfl rfl rfl rfl) ?_
    refine DOps.s 30 rfl rfl rfl (q_index_arr tok rfl rfl rfl rfl rfl rfl (by decide) (by decide) rfl) ?_
    refine DOps.w rfl rfl (o_store tok rfl rfl rfl rfl rfl rfl rfl rfl rfl (by decide) rfl (by first | exact fun _ => rfl | (intro h; cases h))) ?_
    refine DOps.nil (by kernel_rfl) ?_
    refine AGo.draw mix ?_
    refine DOps.s 31 rfl rfl rfl (q_move (.inl rfl) rfl) ?_
    refine DOps.s 32 rfl rfl rfl (q_bin (r := .int .i64 5) rfl rfl rfl (by rfl)) ?_
    refine DOps.s 33 rfl rfl rfl (q_move (.inl rfl) rfl) ?_
    refine DOps.s 34 rfl rfl rfl (q_bin (r := .int .i64 5) rfl rfl rfl (by rfl)) ?_
    refine DOps.s 35 rfl rfl rfl (q_index_arr tok rfl rfl rfl rfl rfl rfl (by decide) (by decide) rfl) ?_
    refine DOps.s 36 rfl rfl rfl (q_load tok rfl rfl rfl (by first | exact .loc _ | exact .ptr _ _ _ _ _ _ _ _ rfl rfl rfl) rfl) ?_
    refine DOps.s 37 rfl rfl rfl (q_move (.inl rfl) rfl) ?_
    refine DOps.s 38 rfl rfl rfl (q_index_arr tok rfl rfl rfl rfl rfl rfl (by decide) (by decide) rfl) ?_
    refine DOps.s 39 rfl rfl rfl (q_load tok rfl rfl rfl (by first | exact .loc _ | exact .ptr _ _ _ _ _ _ _ _ rfl rfl rfl) rfl) ?_
    refine DOps.s 40 rfl rfl rfl (q_bin rfl rfl rfl rfl) ?_
    refine DOps.s 41 rfl rfl rfl (q_move (.inl rfl) rfl) ?_
    refine DOps.s 42 rfl rfl rfl (q_index_arr tok rfl rfl rfl rfl rfl rfl (by decide) (by decide) rfl) ?_
    refine DOps.s 43 rfl rfl rfl (q_load tok rfl rfl rfl (by first | exact .loc _ | exact .ptr _ _ _ _ _ _ _ _ rfl rfl rfl) rfl) ?_
    refine DOps.x 44 rfl rfl rfl (o_pure rfl Tryd.func15 (by kernel_rfl) rfl rfl rfl (turnW_ok _ 9 (by decide))) ?_
    refine DOps.s 45 rfl rfl rfl (q_index_arr tok rfl rfl rfl rfl rfl rfl (by decide) (by decide) rfl) ?_
    refine DOps.w rfl rfl (o_store tok rfl rfl rfl rfl rfl rfl rfl rfl rfl (by decide) rfl (by first | exact fun _ => rfl | (intro h; cases h))) ?_
    refine DOps.nil (by kernel_rfl) ?_
    refine AGo.region ?_
    refine AOps.s 20 rfl rfl rfl (q_move (.inl rfl) rfl) ?_
    refine AOps.s 21 rfl rfl rfl (q_bin (r := .int .i64 2) rfl rfl rfl (by rfl)) ?_
    refine AOps.s 4 rfl rfl rfl (q_move (.inr rfl) rfl) ?_
    refine AOps.nil ?_
    refine AGo.un_succ (n := 1) ?_
    refine AGo.sub (s' := ⟨59, (eput (eput (eput (eput eNew 1 (.ptr 0 1 0 0)) 2 (.ptr 1 1 0 0)) 3 (.int .u32 (r : Int))) 4 (.int .i64 2)), (hput (hput (hFrom 2) 0 (.row false 8 [(mix1 q2).cells])) 1 (.row false 8 [[.int .u32 0, .int .u32 0, .int .u32 0, .int .u32 0, .int .u32 0, .int .u32 0, .int .u32 0, .int .u32 0]]))⟩) (Sub.mk' (by repeat (first | exact ESub.new _ | refine ESub.put ?_ (by rfl))) (by repeat (first | exact HSub.refl _ | exact HSub.none _ | exact HSub.from_new _ | exact HSub.from_from (by first | decide | omega | (dsimp only; omega)) | refine HSub.put ?_ (by rfl) | refine HSub.from_put ?_ (by first | decide | omega | (dsimp only; omega)) | refine HSub.from_rm ?_ (by decide)))) ?_
    obtain ⟨q3, hq3⟩ : ∃ x, x = mix1 q2 := ⟨_, rfl⟩
    rw [← hq3]
    refine AGo.seq ?_
    refine AGo.seq ?_
    refine AGo.region ?_
    refine AOps.s 18 rfl rfl rfl (q_move (.inl rfl) rfl) ?_
    refine AOps.s 19 rfl rfl rfl (q_bin (r := .bool true) rfl rfl rfl (by rfl)) ?_
    refine AOps.nil ?_
    refine AGo.cond_true true rfl rfl ?_
    refine AGo.skip ?_
    refine AGo.seq ?_
    refine AGo.block ?_
    refine AGo.seq ?_
    refine AGo.draw mix ?_
    refine DOps.s 22 rfl rfl rfl (q_move (.inl rfl) rfl) ?_
    refine DOps.s 23 rfl rfl rfl (q_index_arr tok rfl rfl rfl rfl rfl rfl (by decide) (by decide) rfl) ?_
    refine DOps.s 24 rfl rfl rfl (q_load tok rfl rfl rfl (by first | exact .loc _ | exact .ptr _ _ _ _ _ _ _ _ rfl rfl rfl) rfl) ?_
    refine DOps.s 25 rfl rfl rfl (q_move (.inl rfl) rfl) ?_
    refine DOps.s 26 rfl rfl rfl (q_bin (r := .int .i64 6) rfl rfl rfl (by rfl)) ?_
    refine DOps.s 27 rfl rfl rfl (q_index_arr tok rfl rfl rfl rfl rfl rfl (by decide) (by decide) rfl) ?_
    refine DOps.s 28 rfl rfl rfl (q_load tok rfl rfl rfl (by first | exact .loc _ | exact .ptr _ _ _ _ _ _ _ _ rfl rfl rfl) rfl) ?_
    refine DOps.s 29 rfl rfl rfl (q_bin rfl rfl rfl rfl) ?_
    refine DOps.s 30 rfl rfl rfl (q_index_arr tok rfl rfl rfl rfl rfl rfl (by decide) (by decide) rfl) ?_
    refine DOps.w rfl rfl (o_store tok rfl rfl rfl rfl rfl rfl rfl rfl rfl (by decide) rfl (by first | exact fun _ => rfl | (intro h; cases h))) ?_
    refine DOps.nil (by kernel_rfl) ?_
    refine AGo.draw mix ?_
    refine DOps.s 31 rfl rfl rfl (q_move (.inl rfl) rfl) ?_
    refine DOps.s 32 rfl rfl rfl (q_bin (r := .int .i64 6) rfl rfl rfl (by rfl)) ?_
    refine DOps.s 33 rfl rfl rfl (q_move (.inl rfl) rfl) ?_
    refine DOps.s 34 rfl rfl rfl (q_bin (r := .int .i64 6) rfl rfl rfl (by rfl)) ?_
    refine DOps.s 35 rfl rfl rfl (q_index_arr tok rfl rfl rfl rfl rfl rfl (by decide) (by decide) rfl) ?_
    refine DOps.s 36 rfl rfl rfl (q_load tok rfl rfl rfl (by first | exact .loc _ | exact .ptr _ _ _ _ _ _ _ _ rfl rfl rfl) rfl) ?_
    refine DOps.s 37 rfl rfl rfl (q_move (.inl rfl) rfl) ?_
    refine DOps.s 38 rfl rfl rfl (q_index_arr tok rfl rfl rfl rfl rfl rfl (by decide) (by decide) rfl) ?_
    refine DOps.s 39 rfl rfl rfl (q_load tok rfl rfl rfl (by first | exact .loc _ | exact .ptr _ _ _ _ _ _ _ _ rfl rfl rfl) rfl) ?_
    refine DOps.s 40 rfl rfl rfl (q_bin rfl rfl rfl rfl) ?_
    refine DOps.s 41 rfl rfl rfl (q_move (.inl rfl) rfl) ?_
    refine DOps.s 42 rfl rfl rfl (q_index_arr tok rfl rfl rfl rfl rfl rfl (by decide) (by decide) rfl) ?_
    refine DOps.s 43 rfl rfl rfl (q_load tok rfl rfl rfl (by first | exact .loc _ | exact .ptr _ _ _ _ _ _ _ _ rfl rfl rfl) rfl) ?_
    refine DOps.x 44 rfl rfl rfl (o_pure rfl Tryd.func15 (by kernel_rfl) rfl rfl rfl (turnW_ok _ 13 (by decide))) ?_
    refine DOps.s 45 rfl rfl rfl (q_index_arr tok rfl rfl rfl rfl rfl rfl (by decide) (by decide) rfl) ?_
    refine DOps.w rfl rfl (o_store tok rfl rfl rfl rfl rfl rfl rfl rfl rfl (by decide) rfl (by first | exact fun _ => rfl | (intro h; cases h))) ?_
    refine DOps.nil (by kernel_rfl) ?_
    refine AGo.region ?_
    refine AOps.s 20 rfl rfl rfl (q_move (.inl rfl) rfl) ?_
    refine AOps.s 21 rfl rfl rfl (q_bin (r := .int .i64 3) rfl rfl rfl (by rfl)) ?_
    refine AOps.s 4 rfl rfl rfl (q_move (.inr rfl) rfl) ?_
    refine AOps.nil ?_
    refine AGo.un_succ (n := 0) ?_
    refine AGo.sub (s' := ⟨59, (eput (eput (eput (eput eNew 1 (.ptr 0 1 0 0)) 2 (.ptr 1 1 0 0)) 3 (.int .u32 (r : Int))) 4 (.int .i64 3)), (hput (hput (hFrom 2) 0 (.row false 8 [(mix2 q3).cells])) 1 (.row false 8 [[.int .u32 0, .int .u32 0, .int .u32 0, .int .u32 0, .int .u32 0, .int .u32 0, .int .u32 0, .int .u32 0]]))⟩) (Sub.mk' (by repeat (first | exact ESub.new _ | refine ESub.put ?_ (by rfl))) (by repeat (first | exact HSub.refl _ | exact HSub.none _ | exact HSub.from_new _ | exact HSub.from_from (by first | decide | omega | (dsimp only; omega)) | refine HSub.put ?_ (by rfl) | refine HSub.from_put ?_ (by first | decide | omega | (dsimp only; omega)) | refine HSub.from_rm ?_ (by decide)))) ?_
    obtain ⟨q4, hq4⟩ : ∃ x, x = mix2 q3 := ⟨_, rfl⟩
    rw [← hq4]
    refine AGo.seq ?_
    refine AGo.seq ?_
    refine AGo.region ?_
    refine AOps.s 18 rfl rfl rfl (q_move (.inl rfl) rfl) ?_
    refine AOps.s 19 rfl rfl rfl (q_bin (r := .bool true) rfl rfl rfl (by rfl)) ?_
    refine AOps.nil ?_
    refine AGo.cond_true true rfl rfl ?_
    refine AGo.skip ?_
    refine AGo.seq ?_
    refine AGo.block ?_
    refine AGo.seq ?_
    refine AGo.draw mix ?_
    refine DOps.s 22 rfl rfl rfl (q_move (.inl rfl) rfl) ?_
    refine DOps.s 23 rfl rfl rfl (q_index_arr tok rfl rfl rfl rfl rfl rfl (by decide) (by decide) rfl) ?_
    refine DOps.s 24 rfl rfl rfl (q_load tok rfl rfl rfl (by first | exact .loc _ | exact .ptr _ _ _ _ _ _ _ _ rfl rfl rfl) rfl) ?_
    refine DOps.s 25 rfl rfl rfl (q_move (.inl rfl) rfl) ?_
    refine DOps.s 26 rfl rfl rfl (q_bin (r := .int .i64 7) rfl rfl rfl (by rfl)) ?_
    refine DOps.s 27 rfl rfl rfl (q_index_arr tok rfl rfl rfl rfl rfl rfl (by decide) (by decide) rfl) ?_
    refine DOps.s 28 rfl rfl rfl (q_load tok rfl rfl rfl (by first | exact .loc _ | exact .ptr _ _ _ _ _ _ _ _ rfl rfl rfl) rfl) ?_
    refine DOps.s 29 rfl rfl rfl (q_bin rfl rfl rfl rfl) ?_
    refine DOps.s 30 rfl rfl rfl (q_index_arr tok rfl rfl rfl rfl rfl rfl (by decide) (by decide) rfl) ?_
    refine DOps.w rfl rfl (o_store tok rfl rfl rfl rfl rfl rfl rfl rfl rfl (by decide) rfl (by first | exact fun _ => rfl | (intro h; cases h))) ?_
    refine DOps.nil (by kernel_rfl) ?_
    refine AGo.draw mix ?_
    refine DOps.s 31 rfl rfl rfl (q_move (.inl rfl) rfl) ?_
    refine DOps.s 32 rfl rfl rfl (q_bin (r := .int .i64 7) rfl rfl rfl (by rfl)) ?_
    refine DOps.s 33 rfl rfl rfl (q_move (.inl rfl) rfl) ?_
    refine DOps.s 34 rfl rfl rfl (q_bin (r := .int .i64 7) rfl rfl rfl (by rfl)) ?_
    refine DOps.s 35 rfl rfl rfl (q_index_arr tok rfl rfl rfl rfl rfl rfl (by decide) (by decide) rfl) ?_
    refine DOps.s 36 rfl rfl rfl (q_load tok rfl rfl rfl (by first | exact .loc _ | exact .ptr _ _ _ _ _ _ _ _ rfl rfl rfl) rfl) ?_
    refine DOps.s 37 rfl rfl rfl (q_move (.inl rfl) rfl) ?_
    refine DOps.s 38 rfl rfl rfl (q_index_arr tok rfl rfl rfl rfl rfl rfl (by decide) (by decide) rfl) ?_
    refine DOps.s 39 rfl rfl rfl (q_load tok rfl rfl rfl (by first | exact .loc _ | exact .ptr _ _ _ _ _ _ _ _ rfl rfl rfl) rfl) ?_
    refine DOps.s 40 rfl rfl rfl (q_bin rfl rfl rfl rfl) ?_
    refine DOps.s 41 rfl rfl rfl (q_move (.inl rfl) rfl) ?_
    refine DOps.s 42 rfl rfl rfl (q_index_arr tok rfl rfl rfl rfl rfl rfl (by decide) (by decide) rfl) ?_
    refine DOps.s 43 rfl rfl rfl (q_load tok rfl rfl rfl (by first | exact .loc _ | exact .ptr _ _ _ _ _ _ _ _ rfl rfl rfl) rfl) ?_
    refine DOps.x 44 rfl rfl rfl (o_pure rfl Tryd.func15 (by kernel_rfl) rfl rfl rfl (turnW_ok _ 18 (by decide))) ?_
    refine DOps.s 45 rfl rfl rfl (q_index_arr tok rfl rfl rfl rfl rfl rfl (by decide) (by decide) rfl) ?_
    refine DOps.w rfl rfl (o_store tok rfl rfl rfl rfl rfl rfl rfl rfl rfl (by decide) rfl (by first | exact fun _ => rfl | (intro h; cases h))) ?_
    refine DOps.nil (by kernel_rfl) ?_
    refine AGo.region ?_
    refine AOps.s 20 rfl rfl rfl (q_move (.inl rfl) rfl) ?_
    refine AOps.s 21 rfl rfl rfl (q_bin (r := .int .i64 4) rfl rfl rfl (by rfl)) ?_
    refine AOps.s 4 rfl rfl rfl (q_move (.inr rfl) rfl) ?_
    refine AOps.nil ?_
    refine AGo.un_zero ?_
    refine AGo.sub (s' := ⟨59, (eput (eput (eput (eput eNew 1 (.ptr 0 1 0 0)) 2 (.ptr 1 1 0 0)) 3 (.int .u32 (r : Int))) 4 (.int .i64 4)), (hput (hput (hFrom 2) 0 (.row false 8 [(mix3 q4).cells])) 1 (.row false 8 [[.int .u32 0, .int .u32 0, .int .u32 0, .int .u32 0, .int .u32 0, .int .u32 0, .int .u32 0, .int .u32 0]]))⟩) (Sub.mk' (by repeat (first | exact ESub.new _ | refine ESub.put ?_ (by rfl))) (by repeat (first | exact HSub.refl _ | exact HSub.none _ | exact HSub.from_new _ | exact HSub.from_from (by first | decide | omega | (dsimp only; omega)) | refine HSub.put ?_ (by rfl) | refine HSub.from_put ?_ (by first | decide | omega | (dsimp only; omega)) | refine HSub.from_rm ?_ (by decide)))) ?_
    obtain ⟨q5, hq5⟩ : ∃ x, x = mix3 q4 := ⟨_, rfl⟩
    rw [← hq5]
    refine AGo.seq ?_
    refine AGo.seq ?_
    refine AGo.region ?_
    refine AOps.s 18 rfl rfl rfl (q_move (.inl rfl) rfl) ?_
    refine AOps.s 19 rfl rfl rfl (q_bin (r := .bool false) rfl rfl rfl (by rfl)) ?_
    refine AOps.nil ?_
    refine AGo.cond_false false rfl rfl ?_
    refine AGo.exit ?_
    refine AGo.seq ?_
    refine AGo.region ?_
    refine AOps.s 46 rfl rfl rfl (q_load tok rfl rfl rfl (by first | exact .loc _ | exact .ptr _ _ _ _ _ _ _ _ rfl rfl rfl) rfl) ?_
    refine AOps.x 5 rfl rfl rfl (o_alloc tok 2 rfl rfl rfl rfl (Nat.zero_lt_succ _) rfl) ?_
    refine AOps.w rfl rfl (o_store tok rfl rfl rfl rfl rfl rfl rfl rfl rfl (by decide) rfl (by first | exact fun _ => rfl | (intro h; cases h))) ?_
    refine AOps.nil ?_
    refine AGo.seq ?_
    refine AGo.region ?_
    refine AOps.s 47 rfl rfl rfl (q_move (.inl rfl) rfl) ?_
    refine AOps.nil ?_
    refine AGo.block ?_
    refine AGo.unroll 8 ?_
    refine AGo.un_succ (n := 7) ?_
    refine AGo.sub (s' := ⟨59, (eput (eput (eput (eput (eput eNew 1 (.ptr 0 1 0 0)) 2 (.ptr 1 1 0 0)) 3 (.int .u32 (r : Int))) 5 (.ptr 2 1 0 0)) 47 (.int .i64 0)), (hput (hput (hput (hFrom 3) 0 (.row false 8 [[.int .u32 q5.a0, .int .u32 q5.a1, .int .u32 q5.a2, .int .u32 q5.a3, .int .u32 q5.a4, .int .u32 q5.a5, .int .u32 q5.a6, .int .u32 q5.a7]])) 1 (.row false 8 [[.int .u32 0, .int .u32 0, .int .u32 0, .int .u32 0, .int .u32 0, .int .u32 0, .int .u32 0, .int .u32 0]])) 2 (.row false 8 [q5.cells]))⟩) (Sub.mk' (by repeat (first | exact ESub.new _ | refine ESub.put ?_ (by rfl))) (by repeat (first | exact HSub.refl _ | exact HSub.none _ | exact HSub.from_new _ | exact HSub.from_from (by first | decide | omega | (dsimp only; omega)) | refine HSub.put ?_ (by rfl) | refine HSub.from_put ?_ (by first | decide | omega | (dsimp only; omega)) | refine HSub.from_rm ?_ (by decide)))) ?_
    refine AGo.seq ?_
    refine AGo.region ?_
    refine AOps.s 48 rfl rfl rfl (q_bin (r := .bool true) rfl rfl rfl (by rfl)) ?_
    refine AOps.nil ?_
    refine AGo.seq ?_
    refine AGo.cond_true true rfl rfl ?_
    refine AGo.skip ?_
    refine AGo.seq ?_
    refine AGo.block ?_
    refine AGo.seq ?_
    refine AGo.region ?_
    refine AOps.s 49 rfl rfl rfl (q_move (.inl rfl) rfl) ?_
    refine AOps.s 6 rfl rfl rfl (q_move (.inr rfl) rfl) ?_
    refine AOps.nil ?_
    refine AGo.region ?_
    refine AOps.s 50 rfl rfl rfl (q_move (.inl rfl) rfl) ?_
    refine AOps.s 51 rfl rfl rfl (q_move (.inl rfl) rfl) ?_
    refine AOps.s 52 rfl rfl rfl (q_bin (r := .int .i64 3) rfl rfl rfl (by rfl)) ?_
    refine AOps.s 53 rfl rfl rfl (q_bin (r := .int .i64 3) rfl rfl rfl (by rfl)) ?_
    refine AOps.s 54 rfl rfl rfl (q_index_arr tok rfl rfl rfl rfl rfl rfl (by decide) (by decide) rfl) ?_
    refine AOps.s 55 rfl rfl rfl (q_load tok rfl rfl rfl (by first | exact .loc _ | exact .ptr _ _ _ _ _ _ _ _ rfl rfl rfl) rfl) ?_
    refine AOps.s 56 rfl rfl rfl (q_index_arr tok rfl rfl rfl rfl rfl rfl (by decide) (by decide) rfl) ?_
    refine AOps.w rfl rfl (o_store tok rfl rfl rfl rfl rfl rfl rfl rfl rfl (by decide) rfl (by first | exact fun _ => rfl | (intro h; cases h))) ?_
    refine AOps.nil ?_
    refine AGo.region ?_
    refine AOps.s 57 rfl rfl rfl (q_bin (r := .int .i64 1) rfl rfl rfl (by rfl)) ?_
    refine AOps.s 47 rfl rfl rfl (q_move (.inl rfl) rfl) ?_
    refine AOps.nil ?_
    refine AGo.un_succ (n := 6) ?_
    refine AGo.sub (s' := ⟨59, (eput (eput (eput (eput (eput eNew 1 (.ptr 0 1 0 0)) 2 (.ptr 1 1 0 0)) 3 (.int .u32 (r : Int))) 5 (.ptr 2 1 0 0)) 47 (.int .i64 1)), (hput (hput (hput (hFrom 3) 0 (.row false 8 [[.int .u32 q5.a3, .int .u32 q5.a1, .int .u32 q5.a2, .int .u32 q5.a3, .int .u32 q5.a4, .int .u32 q5.a5, .int .u32 q5.a6, .int .u32 q5.a7]])) 1 (.row false 8 [[.int .u32 0, .int .u32 0, .int .u32 0, .int .u32 0, .int .u32 0, .int .u32 0, .int .u32 0, .int .u32 0]])) 2 (.row false 8 [q5.cells]))⟩) (Sub.mk' (by repeat (first | exact ESub.new _ | refine ESub.put ?_ (by rfl))) (by repeat (first | exact HSub.refl _ | exact HSub.none _ | exact HSub.from_new _ | exact HSub.from_from (by first | decide | omega | (dsimp only; omega)) | refine HSub.put ?_ (by rfl) | refine HSub.from_put ?_ (by first | decide | omega | (dsimp only; omega)) | refine HSub.from_rm ?_ (by decide)))) ?_
    refine AGo.seq ?_
    refine AGo.region ?_
    refine AOps.s 48 rfl rfl rfl (q_bin (r := .bool true) rfl rfl rfl (by rfl)) ?_
    refine AOps.nil ?_
    refine AGo.seq ?_
    refine AGo.cond_true true rfl rfl ?_
    refine AGo.skip ?_
    refine AGo.seq ?_
    refine AGo.block ?_
    refine AGo.seq ?_
    refine AGo.region ?_
    refine AOps.s 49 rfl rfl rfl (q_move (.inl rfl) rfl) ?_
    refine AOps.s 6 rfl rfl rfl (q_move (.inr rfl) rfl) ?_
    refine AOps.nil ?_
    refine AGo.region ?_
    refine AOps.s 50 rfl rfl rfl (q_move (.inl rfl) rfl) ?_
    refine AOps.s 51 rfl rfl rfl (q_move (.inl rfl) rfl) ?_
    refine AOps.s 52 rfl rfl rfl (q_bin (r := .int .i64 4) rfl rfl rfl (by rfl)) ?_
    refine AOps.s 53 rfl rfl rfl (q_bin (r := .int .i64 4) rfl rfl rfl (by rfl)) ?_
    refine AOps.s 54 rfl rfl rfl (q_index_arr tok rfl rfl rfl rfl rfl rfl (by decide) (by decide) rfl) ?_
    refine AOps.s 55 rfl rfl rfl (q_load tok rfl rfl rfl (by first | exact .loc _ | exact .ptr _ _ _ _ _ _ _ _ rfl rfl rfl) rfl) ?_
    refine AOps.s 56 rfl rfl rfl (q_index_arr tok rfl rfl rfl rfl rfl rfl (by decide) (by decide) rfl) ?_
    refine AOps.w rfl rfl (o_store tok rfl rfl rfl rfl rfl rfl rfl rfl rfl (by decide) rfl (by first | exact fun _ => rfl | (intro h; cases h))) ?_
    refine AOps.nil ?_
    refine AGo.region ?_
    refine AOps.s 57 rfl rfl rfl (q_bin (r := .int .i64 2) rfl rfl rfl (by rfl)) ?_
    refine AOps.s 47 rfl rfl rfl (q_move (.inl rfl) rfl) ?_
    refine AOps.nil ?_
    refine AGo.un_succ (n := 5) ?_
    refine AGo.sub (s' := ⟨59, (eput (eput (eput (eput (eput eNew 1 (.ptr 0 1 0 0)) 2 (.ptr 1 1 0 0)) 3 (.int .u32 (r : Int))) 5 (.ptr 2 1 0 0)) 47 (.int .i64 2)), (hput (hput (hput (hFrom 3) 0 (.row false 8 [[.int .u32 q5.a3, .int .u32 q5.a4, .int .u32 q5.a2, .int .u32 q5.a3, .int .u32 q5.a4, .int .u32 q5.a5, .int .u32 q5.a6, .int .u32 q5.a7]])) 1 (.row false 8 [[.int .u32 0, .int .u32 0, .int .u32 0, .int .u32 0, .int .u32 0, .int .u32 0, .int .u32 0, .int .u32 0]])) 2 (.row false 8 [q5.cells]))⟩) (Sub.mk' (by repeat (first | exact ESub.new _ | refine ESub.put ?_ (by rfl))) (by repeat (first | exact HSub.refl _ | exact HSub.none _ | exact HSub.from_new _ | exact HSub.from_from (by first | decide | omega | (dsimp only; omega)) | refine HSub.put ?_ (by rfl) | refine HSub.from_put ?_ (by first | decide | omega | (dsimp only; omega)) | refine HSub.from_rm ?_ (by decide)))) ?_
    refine AGo.seq ?_
    refine AGo.region ?_
    refine AOps.s 48 rfl rfl rfl (q_bin (r := .bool true) rfl rfl rfl (by rfl)) ?_
    refine AOps.nil ?_
    refine AGo.seq ?_
    refine AGo.cond_true true rfl rfl ?_
    refine AGo.skip ?_
    refine AGo.seq ?_
    refine AGo.block ?_
    refine AGo.seq ?_
    refine AGo.region ?_
    refine AOps.s 49 rfl rfl rfl (q_move (.inl rfl) rfl) ?_
    refine AOps.s 6 rfl rfl rfl (q_move (.inr rfl) rfl) ?_
    refine AOps.nil ?_
    refine AGo.region ?_
    refine AOps.s 50 rfl rfl rfl (q_move (.inl rfl) rfl) ?_
    refine AOps.s 51 rfl rfl rfl (q_move (.inl rfl) rfl) ?_
    refine AOps.s 52 rfl rfl rfl (q_bin (r := .int .i64 5) rfl rfl rfl (by rfl)) ?_
    refine AOps.s 53 rfl rfl rfl (q_bin (r := .int .i64 5) rfl rfl rfl (by rfl)) ?_
    refine AOps.s 54 rfl rfl rfl (q_index_arr tok rfl rfl rfl rfl rfl rfl (by decide) (by decide) rfl) ?_
    refine AOps.s 55 rfl rfl rfl (q_load tok rfl rfl rfl (by first | exact .loc _ | exact .ptr _ _ _ _ _ _ _ _ rfl rfl rfl) rfl) ?_
    refine AOps.s 56 rfl rfl rfl (q_index_arr tok rfl rfl rfl rfl rfl rfl (by decide) (by decide) rfl) ?_
    refine AOps.w rfl rfl (o_store tok rfl rfl rfl rfl rfl rfl rfl rfl rfl (by decide) rfl (by first | exact fun _ => rfl | (intro h; cases h))) ?_
    refine AOps.nil ?_
    refine AGo.region ?_
    refine AOps.s 57 rfl rfl rfl (q_bin (r := .int .i64 3) rfl rfl rfl (by rfl)) ?_
    refine AOps.s 47 rfl rfl rfl (q_move (.inl rfl) rfl) ?_
    refine AOps.nil ?_
    refine AGo.un_succ (n := 4) ?_
    refine AGo.sub (s' := ⟨59, (eput (eput (eput (eput (eput eNew 1 (.ptr 0 1 0 0)) 2 (.ptr 1 1 0 0)) 3 (.int .u32 (r : Int))) 5 (.ptr 2 1 0 0)) 47 (.int .i64 3)), (hput (hput (hput (hFrom 3) 0 (.row false 8 [[.int .u32 q5.a3, .int .u32 q5.a4, .int .u32 q5.a5, .int .u32 q5.a3, .int .u32 q5.a4, .int .u32 q5.a5, .int .u32 q5.a6, .int .u32 q5.a7]])) 1 (.row false 8 [[.int .u32 0, .int .u32 0, .int .u32 0, .int .u32 0, .int .u32 0, .int .u32 0, .int .u32 0, .int .u32 0]])) 2 (.row false 8 [q5.cells]))⟩) (Sub.mk' (by repeat (first | exact ESub.new _ | refine ESub.put ?_ (by rfl))) (by repeat (first | exact HSub.refl _ | exact HSub.none _ | exact HSub.from_new _ | exact HSub.from_from (by first | decide | omega | (dsimp only; omega)) | refine HSub.put ?_ (by rfl) | refine HSub.from_put ?_ (by first | decide | omega | (dsimp only; omega)) | refine HSub.from_rm ?_ (by decide)))) ?_
    refine AGo.seq ?_
    refine AGo.region ?_
    refine AOps.s 48 rfl rfl rfl (q_bin (r := .bool true) rfl rfl rfl (by rfl)) ?_
    refine AOps.nil ?_
    refine AGo.seq ?_
    refine AGo.cond_true true rfl rfl ?_
    refine AGo.skip ?_
    refine AGo.seq ?_
    refine AGo.block ?_
    refine AGo.seq ?_
    refine AGo.region ?_
    refine AOps.s 49 rfl rfl rfl (q_move (.inl rfl) rfl) ?_
    refine AOps.s 6 rfl rfl rfl (q_move (.inr rfl) rfl) ?_
    refine AOps.nil ?_
    refine AGo.region ?_
    refine AOps.s 50 rfl rfl rfl (q_move (.inl rfl) rfl) ?_
    refine AOps.s 51 rfl rfl rfl (q_move (.inl rfl) rfl) ?_
    refine AOps.s 52 rfl rfl rfl (q_bin (r := .int .i64 6) rfl rfl rfl (by rfl)) ?_
    refine AOps.s 53 rfl rfl rfl (q_bin (r := .int .i64 6) rfl rfl rfl (by rfl)) ?_
    refine AOps.s 54 rfl rfl rfl (q_index_arr tok rfl rfl rfl rfl rfl rfl (by decide) (by decide) rfl) ?_
    refine AOps.s 55 rfl rfl rfl (q_load tok rfl rfl rfl (by first | exact .loc _ | exact .ptr _ _ _ _ _ _ _ _ rfl rfl rfl) rfl) ?_
    refine AOps.s 56 rfl rfl rfl (q_index_arr tok rfl rfl rfl rfl rfl rfl (by decide) (by decide) rfl) ?_
    refine AOps.w rfl rfl (o_store tok rfl rfl rfl rfl rfl rfl rfl rfl rfl (by decide) rfl (by first | exact fun _ => rfl | (intro h; cases h))) ?_
    refine AOps.nil ?_
    refine AGo.region ?_
    refine AOps.s 57 rfl rfl rfl (q_bin (r := .int .i64 4) rfl rfl rfl (by rfl)) ?_
    refine AOps.s 47 rfl rfl rfl (q_move (.inl rfl) rfl) ?_
    refine AOps.nil ?_
    refine AGo.un_succ (n := 3) ?_
    refine AGo.sub (s' := ⟨59, (eput (eput (eput (eput (eput eNew 1 (.ptr 0 1 0 0)) 2 (.ptr 1 1 0 0)) 3 (.int .u32 (r : Int))) 5 (.ptr 2 1 0 0)) 47 (.int .i64 4)), (hput (hput (hput (hFrom 3) 0 (.row false 8 [[.int .u32 q5.a3, .int .u32 q5.a4, .int .u32 q5.a5, .int .u32 q5.a6, .int .u32 q5.a4, .int .u32 q5.a5, .int .u32 q5.a6, .int .u32 q5.a7]])) 1 (.row false 8 [[.int .u32 0, .int .u32 0, .int .u32 0, .int .u32 0, .int .u32 0, .int .u32 0, .int .u32 0, .int .u32 0]])) 2 (.row false 8 [q5.cells]))⟩) (Sub.mk' (by repeat (first | exact ESub.new _ | refine ESub.put ?_ (by rfl))) (by repeat (first | exact HSub.refl _ | exact HSub.none _ | exact HSub.from_new _ | exact HSub.from_from (by first | decide | omega | (dsimp only; omega)) | refine HSub.put ?_ (by rfl) | refine HSub.from_put ?_ (by first | decide | omega | (dsimp only; omega)) | refine HSub.from_rm ?_ (by decide)))) ?_
    refine AGo.seq ?_
    refine AGo.region ?_
    refine AOps.s 48 rfl rfl rfl (q_bin (r := .bool true) rfl rfl rfl (by rfl)) ?_
    refine AOps.nil ?_
    refine AGo.seq ?_
    refine AGo.cond_true true rfl rfl ?_
    refine AGo.skip ?_
    refine AGo.seq ?_
    refine AGo.block ?_
    refine AGo.seq ?_
    refine AGo.region ?_
    refine AOps.s 49 rfl rfl rfl (q_move (.inl rfl) rfl) ?_
    refine AOps.s 6 rfl rfl rfl (q_move (.inr rfl) rfl) ?_
    refine AOps.nil ?_
    refine AGo.region ?_
    refine AOps.s 50 rfl rfl rfl (q_move (.inl rfl) rfl) ?_
    refine AOps.s 51 rfl rfl rfl (q_move (.inl rfl) rfl) ?_
    refine AOps.s 52 rfl rfl rfl (q_bin (r := .int .i64 7) rfl rfl rfl (by rfl)) ?_
    refine AOps.s 53 rfl rfl rfl (q_bin (r := .int .i64 7) rfl rfl rfl (by rfl)) ?_
    refine AOps.s 54 rfl rfl rfl (q_index_arr tok rfl rfl rfl rfl rfl rfl (by decide) (by decide) rfl) ?_
    refine AOps.s 55 rfl rfl rfl (q_load tok rfl rfl rfl (by first | exact .loc _ | exact .ptr _ _ _ _ _ _ _ _ rfl rfl rfl) rfl) ?_
    refine AOps.s 56 rfl rfl rfl (q_index_arr tok rfl rfl rfl rfl rfl rfl (by decide) (by decide) rfl) ?_
    refine AOps.w rfl rfl (o_store tok rfl rfl rfl rfl rfl rfl rfl rfl rfl (by decide) rfl (by first | exact fun _ => rfl | (intro h; cases h))) ?_
    refine AOps.nil ?_
    refine AGo.region ?_
    refine AOps.s 57 rfl rfl rfl (q_bin (r := .int .i64 5) rfl rfl rfl (by rfl)) ?_
    refine AOps.s 47 rfl rfl rfl (q_move (.inl rfl) rfl) ?_
    refine AOps.nil ?_
    refine AGo.un_succ (n := 2) ?_
    refine AGo.sub (s' := ⟨59, (eput (eput (eput (eput (eput eNew 1 (.ptr 0 1 0 0)) 2 (.ptr 1 1 0 0)) 3 (.int .u32 (r : Int))) 5 (.ptr 2 1 0 0)) 47 (.int .i64 5)), (hput (hput (hput (hFrom 3) 0 (.row false 8 [[.int .u32 q5.a3, .int .u32 q5.a4, .int .u32 q5.a5, .int .u32 q5.a6, .int .u32 q5.a7, .int .u32 q5.a5, .int .u32 q5.a6, .int .u32 q5.a7]])) 1 (.row false 8 [[.int .u32 0, .int .u32 0, .int .u32 0, .int .u32 0, .int .u32 0, .int .u32 0, .int .u32 0, .int .u32 0]])) 2 (.row false 8 [q5.cells]))⟩) (Sub.mk' (by repeat (first | exact ESub.new _ | refine ESub.put ?_ (by rfl))) (by repeat (first | exact HSub.refl _ | exact HSub.none _ | exact HSub.from_new _ | exact HSub.from_from (by first | decide | omega | (dsimp only; omega)) | refine HSub.put ?_ (by rfl) | refine HSub.from_put ?_ (by first | decide | omega | (dsimp only; omega)) | refine HSub.from_rm ?_ (by decide)))) ?_
    refine AGo.seq ?_
    refine AGo.region ?_
    refine AOps.s 48 rfl rfl rfl (q_bin (r := .bool true) rfl rfl rfl (by rfl)) ?_
    refine AOps.nil ?_
    refine AGo.seq ?_
    refine AGo.cond_true true rfl rfl ?_
    refine AGo.skip ?_
    refine AGo.seq ?_
    refine AGo.block ?_
    refine AGo.seq ?_
    refine AGo.region ?_
    refine AOps.s 49 rfl rfl rfl (q_move (.inl rfl) rfl) ?_
    refine AOps.s 6 rfl rfl rfl (q_move (.inr rfl) rfl) ?_
    refine AOps.nil ?_
    refine AGo.region ?_
    refine AOps.s 50 rfl rfl rfl (q_move (.inl rfl) rfl) ?_
    refine AOps.s 51 rfl rfl rfl (q_move (.inl rfl) rfl) ?_
    refine AOps.s 52 rfl rfl rfl (q_bin (r := .int .i64 8) rfl rfl rfl (by rfl)) ?_
    refine AOps.s 53 rfl rfl rfl (q_bin (r := .int .i64 0) rfl rfl rfl (by rfl)) ?_
    refine AOps.s 54 rfl rfl rfl (q_index_arr tok rfl rfl rfl rfl rfl rfl (by decide) (by decide) rfl) ?_
    refine AOps.s 55 rfl rfl rfl (q_load tok rfl rfl rfl (by first | exact .loc _ | exact .ptr _ _ _ _ _ _ _ _ rfl rfl rfl) rfl) ?_
    refine AOps.s 56 rfl rfl rfl (q_index_arr tok rfl rfl rfl rfl rfl rfl (by decide) (by decide) rfl) ?_
    refine AOps.w rfl rfl (o_store tok rfl rfl rfl rfl rfl rfl rfl rfl rfl (by decide) rfl (by first | exact fun _ => rfl | (intro h; cases h))) ?_
    refine AOps.nil ?_
    refine AGo.region ?_
    refine AOps.s 57 rfl rfl rfl (q_bin (r := .int .i64 6) rfl rfl rfl (by rfl)) ?_
    refine AOps.s 47 rfl rfl rfl (q_move (.inl rfl) rfl) ?_
    refine AOps.nil ?_
    refine AGo.un_succ (n := 1) ?_
    refine AGo.sub (s' := ⟨59, (eput (eput (eput (eput (eput eNew 1 (.ptr 0 1 0 0)) 2 (.ptr 1 1 0 0)) 3 (.int .u32 (r : Int))) 5 (.ptr 2 1 0 0)) 47 (.int .i64 6)), (hput (hput (hput (hFrom 3) 0 (.row false 8 [[.int .u32 q5.a3, .int .u32 q5.a4, .int .u32 q5.a5, .int .u32 q5.a6, .int .u32 q5.a7, .int .u32 q5.a0, .int .u32 q5.a6, .int .u32 q5.a7]])) 1 (.row false 8 [[.int .u32 0, .int .u32 0, .int .u32 0, .int .u32 0, .int .u32 0, .int .u32 0, .int .u32 0, .int .u32 0]])) 2 (.row false 8 [q5.cells]))⟩) (Sub.mk' (by repeat (first | exact ESub.new _ | refine ESub.put ?_ (by rfl))) (by repeat (first | exact HSub.refl _ | exact HSub.none _ | exact HSub.from_new _ | exact HSub.from_from (by first | decide | omega | (dsimp only; omega)) | refine HSub.put ?_ (by rfl) | refine HSub.from_put ?_ (by first | decide | omega | (dsimp only; omega)) | refine HSub.from_rm ?_ (by decide)))) ?_
    refine AGo.seq ?_
    refine AGo.region ?_
    refine AOps.s 48 rfl rfl rfl (q_bin (r := .bool true) rfl rfl rfl (by rfl)) ?_
    refine AOps.nil ?_
    refine AGo.seq ?_
    refine AGo.cond_true true rfl rfl ?_
    refine AGo.skip ?_
    refine AGo.seq ?_
    refine AGo.block ?_
    refine AGo.seq ?_
    refine AGo.region ?_
    refine AOps.s 49 rfl rfl rfl (q_move (.inl rfl) rfl) ?_
    refine AOps.s 6 rfl rfl rfl (q_move (.inr rfl) rfl) ?_
    refine AOps.nil ?_
    refine AGo.region ?_
    refine AOps.s 50 rfl rfl rfl (q_move (.inl rfl) rfl) ?_
    refine AOps.s 51 rfl rfl rfl (q_move (.inl rfl) rfl) ?_
    refine AOps.s 52 rfl rfl rfl (q_bin (r := .int .i64 9) rfl rfl rfl (by rfl)) ?_
    refine AOps.s 53 rfl rfl rfl (q_bin (r := .int .i64 1) rfl rfl rfl (by rfl)) ?_
    refine AOps.s 54 rfl rfl rfl (q_index_arr tok rfl rfl rfl rfl rfl rfl (by decide) (by decide) rfl) ?_
    refine AOps.s 55 rfl rfl rfl (q_load tok rfl rfl rfl (by first | exact .loc _ | exact .ptr _ _ _ _ _ _ _ _ rfl rfl rfl) rfl) ?_
    refine AOps.s 56 rfl rfl rfl (q_index_arr tok rfl rfl rfl rfl rfl rfl (by decide) (by decide) rfl) ?_
    refine AOps.w rfl rfl (o_store tok rfl rfl rfl rfl rfl rfl rfl rfl rfl (by decide) rfl (by first | exact fun _ => rfl | (intro h; cases h))) ?_
    refine AOps.nil ?_
    refine AGo.region ?_
    refine AOps.s 57 rfl rfl rfl (q_bin (r := .int .i64 7) rfl rfl rfl (by rfl)) ?_
    refine AOps.s 47 rfl rfl rfl (q_move (.inl rfl) rfl) ?_
    refine AOps.nil ?_
    refine AGo.un_succ (n := 0) ?_
    refine AGo.sub (s' := ⟨59, (eput (eput (eput (eput (eput eNew 1 (.ptr 0 1 0 0)) 2 (.ptr 1 1 0 0)) 3 (.int .u32 (r : Int))) 5 (.ptr 2 1 0 0)) 47 (.int .i64 7)), (hput (hput (hput (hFrom 3) 0 (.row false 8 [[.int .u32 q5.a3, .int .u32 q5.a4, .int .u32 q5.a5, .int .u32 q5.a6, .int .u32 q5.a7, .int .u32 q5.a0, .int .u32 q5.a1, .int .u32 q5.a7]])) 1 (.row false 8 [[.int .u32 0, .int .u32 0, .int .u32 0, .int .u32 0, .int .u32 0, .int .u32 0, .int .u32 0, .int .u32 0]])) 2 (.row false 8 [q5.cells]))⟩) (Sub.mk' (by repeat (first | exact ESub.new _ | refine ESub.put ?_ (by rfl))) (by repeat (first | exact HSub.refl _ | exact HSub.none _ | exact HSub.from_new _ | exact HSub.from_from (by first | decide | omega | (dsimp only; omega)) | refine HSub.put ?_ (by rfl) | refine HSub.from_put ?_ (by first | decide | omega | (dsimp only; omega)) | refine HSub.from_rm ?_ (by decide)))) ?_
    refine AGo.seq ?_
    refine AGo.region ?_
    refine AOps.s 48 rfl rfl rfl (q_bin (r := .bool true) rfl rfl rfl (by rfl)) ?_
    refine AOps.nil ?_
    refine AGo.seq ?_
    refine AGo.cond_true true rfl rfl ?_
    refine AGo.skip ?_
    refine AGo.seq ?_
    refine AGo.block ?_
    refine AGo.seq ?_
    refine AGo.region ?_
    refine AOps.s 49 rfl rfl rfl (q_move (.inl rfl) rfl) ?_
    refine AOps.s 6 rfl rfl rfl (q_move (.inr rfl) rfl) ?_
    refine AOps.nil ?_
    refine AGo.region ?_
    refine AOps.s 50 rfl rfl rfl (q_move (.inl rfl) rfl) ?_
    refine AOps.s 51 rfl rfl rfl (q_move (.inl rfl) rfl) ?_
    refine AOps.s 52 rfl rfl rfl (q_bin (r := .int .i64 10) rfl rfl rfl (by rfl)) ?_
    refine AOps.s 53 rfl rfl rfl (q_bin (r := .int .i64 2) rfl rfl rfl (by rfl)) ?_
    refine AOps.s 54 rfl rfl rfl (q_index_arr tok rfl rfl rfl rfl rfl rfl (by decide) (by decide) rfl) ?_
    refine AOps.s 55 rfl rfl rfl (q_load tok rfl rfl rfl (by first | exact .loc _ | exact .ptr _ _ _ _ _ _ _ _ rfl rfl rfl) rfl) ?_
    refine AOps.s 56 rfl rfl rfl (q_index_arr tok rfl rfl rfl rfl rfl rfl (by decide) (by decide) rfl) ?_
    refine AOps.w rfl rfl (o_store tok rfl rfl rfl rfl rfl rfl rfl rfl rfl (by decide) rfl (by first | exact fun _ => rfl | (intro h; cases h))) ?_
    refine AOps.nil ?_
    refine AGo.region ?_
    refine AOps.s 57 rfl rfl rfl (q_bin (r := .int .i64 8) rfl rfl rfl (by rfl)) ?_
    refine AOps.s 47 rfl rfl rfl (q_move (.inl rfl) rfl) ?_
    refine AOps.nil ?_
    refine AGo.un_zero ?_
    refine AGo.sub (s' := ⟨59, (eput (eput (eput (eput (eput eNew 1 (.ptr 0 1 0 0)) 2 (.ptr 1 1 0 0)) 3 (.int .u32 (r : Int))) 5 (.ptr 2 1 0 0)) 47 (.int .i64 8)), (hput (hput (hput (hFrom 3) 0 (.row false 8 [[.int .u32 q5.a3, .int .u32 q5.a4, .int .u32 q5.a5, .int .u32 q5.a6, .int .u32 q5.a7, .int .u32 q5.a0, .int .u32 q5.a1, .int .u32 q5.a2]])) 1 (.row false 8 [[.int .u32 0, .int .u32 0, .int .u32 0, .int .u32 0, .int .u32 0, .int .u32 0, .int .u32 0, .int .u32 0]])) 2 (.row false 8 [q5.cells]))⟩) (Sub.mk' (by repeat (first | exact ESub.new _ | refine ESub.put ?_ (by rfl))) (by repeat (first | exact HSub.refl _ | exact HSub.none _ | exact HSub.from_new _ | exact HSub.from_from (by first | decide | omega | (dsimp only; omega)) | refine HSub.put ?_ (by rfl) | refine HSub.from_put ?_ (by first | decide | omega | (dsimp only; omega)) | refine HSub.from_rm ?_ (by decide)))) ?_
    refine AGo.seq ?_
    refine AGo.region ?_
    refine AOps.s 48 rfl rfl rfl (q_bin (r := .bool false) rfl rfl rfl (by rfl)) ?_
    refine AOps.nil ?_
    refine AGo.seq ?_
    refine AGo.cond_false false rfl rfl ?_
    refine AGo.exit ?_
    refine AGo.region ?_
    refine AOps.s 9 rfl rfl rfl (q_move (.inl rfl) rfl) ?_
    refine AOps.s 10 rfl rfl rfl (q_bin (r := .int .u32 ((r + 1 : Nat) : Int)) rfl rfl rfl (by show some (AV.int .u32 (IntKind.u32.wrap _)) = _; rw [IntKind.wrap_u32]; congr 2; omega)) ?_
    refine AOps.s 3 rfl rfl rfl (q_move (.inr rfl) rfl) ?_
    refine AOps.nil ?_
    exact ⟨r+1, Drop.mk' (by repeat (first | exact EDrop.new _ _ | refine EDrop.put ?_ (by rfl) rfl)) (by repeat (first | exact HDrop.none _ _ | exact HDrop.tail _ _ | refine HDrop.put ?_ (by first | rfl | (subst hq5 hq4 hq3 hq2 hq1 hq0; rfl)) rfl rfl)), hrl, by omega⟩
  · -- False
    refine AGo.cond_false false rfl rfl ?_
    obtain rfl : r = 8 := by have h := hb1; simp at h; omega
    refine AGo.exit ?_
    refine AGo.seq ?_
    refine AGo.region ?_
    refine AOps.s 58 rfl rfl rfl (q_load tok rfl rfl rfl (by first | exact .loc _ | exact .ptr _ _ _ _ _ _ _ _ rfl rfl rfl) rfl) ?_
    refine AOps.w rfl rfl (o_store tok rfl rfl rfl rfl rfl rfl rfl rfl rfl (by decide) rfl (by first | exact fun _ => rfl | (intro h; cases h))) ?_
    refine AOps.nil ?_
    refine AGo.ret ?_
    refine ⟨[_], ⟨⟨_, _, _, _, rfl, rfl, .ptr _ _ _ _ _ _ _ _ rfl rfl rfl, rfl⟩, trivial⟩, ?_, rfl⟩
    subst hq0
    rfl

set_option maxRecDepth 100000 in
theorem front_ok (q : St8) : APure Tryd.prog 10 [.agg q.cells] (fun r => r = .agg q.front.cells) := by
  refine APure.of_body (n := 12) tok Tryd.func10 rfl rfl ?_
  refine AGo.seq ?_
  refine AGo.region ?_
  refine AOps.x 1 rfl rfl rfl (o_box (sz := 8) 0 rfl rfl rfl rfl (Nat.zero_lt_succ _) rfl) ?_
  refine AOps.x 2 rfl rfl rfl (o_alloc tok 1 rfl rfl rfl rfl (Nat.zero_lt_succ _) rfl) ?_
  refine AOps.nil ?_
  refine AGo.seq ?_
  refine AGo.region ?_
  refine AOps.s 3 rfl rfl rfl (q_index_arr tok rfl rfl rfl rfl rfl rfl (by decide) (by decide) rfl) ?_
  refine AOps.s 4 rfl rfl rfl (q_load tok rfl rfl rfl (by first | exact .loc _ | exact .ptr _ _ _ _ _ _ _ _ rfl rfl rfl) rfl) ?_
  refine AOps.s 5 rfl rfl rfl (q_index_arr tok rfl rfl rfl rfl rfl rfl (by decide) (by decide) rfl) ?_
  refine AOps.s 6 rfl rfl rfl (q_load tok rfl rfl rfl (by first | exact .loc _ | exact .ptr _ _ _ _ _ _ _ _ rfl rfl rfl) rfl) ?_
  refine AOps.s 7 rfl rfl rfl (q_index_arr tok rfl rfl rfl rfl rfl rfl (by decide) (by decide) rfl) ?_
  refine AOps.s 8 rfl rfl rfl (q_load tok rfl rfl rfl (by first | exact .loc _ | exact .ptr _ _ _ _ _ _ _ _ rfl rfl rfl) rfl) ?_
  refine AOps.s 9 rfl rfl rfl (q_index_arr tok rfl rfl rfl rfl rfl rfl (by decide) (by decide) rfl) ?_
  refine AOps.s 10 rfl rfl rfl (q_load tok rfl rfl rfl (by first | exact .loc _ | exact .ptr _ _ _ _ _ _ _ _ rfl rfl rfl) rfl) ?_
  refine AOps.s 11 rfl rfl rfl (q_build_arr tok rfl rfl rfl rfl rfl rfl (by decide) rfl rfl) ?_
  refine AOps.w rfl rfl (o_store tok rfl rfl rfl rfl rfl rfl rfl rfl rfl (by decide) rfl (by first | exact fun _ => rfl | (intro h; cases h))) ?_
  refine AOps.nil ?_
  refine AGo.ret ?_
  refine ⟨[_], ⟨⟨_, _, _, _, rfl, rfl, .ptr _ _ _ _ _ _ _ _ rfl rfl rfl, rfl⟩, trivial⟩, ?_, rfl⟩
  rfl

set_option maxRecDepth 100000 in
theorem take_ok (q : St8) (w : W4) : APure Tryd.prog 7 [.agg q.cells, .agg w.cells] (fun r => r = .agg (takeB q w).cells) := by
  refine APure.of_body (n := 21) tok Tryd.func7 rfl rfl ?_
  refine AGo.seq ?_
  refine AGo.region ?_
  refine AOps.x 2 rfl rfl rfl (o_box (sz := 8) 0 rfl rfl rfl rfl (Nat.zero_lt_succ _) rfl) ?_
  refine AOps.x 3 rfl rfl rfl (o_box (sz := 4) 1 rfl rfl rfl rfl (Nat.zero_lt_succ _) rfl) ?_
  refine AOps.x 4 rfl rfl rfl (o_alloc tok 2 rfl rfl rfl rfl (Nat.zero_lt_succ _) rfl) ?_
  refine AOps.nil ?_
  refine AGo.seq ?_
  refine AGo.seq ?_
  refine AGo.region ?_
  refine AOps.s 7 rfl rfl rfl (q_load tok rfl rfl rfl (by first | exact .loc _ | exact .ptr _ _ _ _ _ _ _ _ rfl rfl rfl) rfl) ?_
  refine AOps.s 8 rfl rfl rfl (q_move (.inl rfl) rfl) ?_
  refine AOps.nil ?_
  refine AGo.block ?_
  refine AGo.unroll 4 ?_
  refine AGo.un_succ (n := 3) ?_
  refine AGo.seq ?_
  refine AGo.region ?_
  refine AOps.s 9 rfl rfl rfl (q_bin (r := .bool true) rfl rfl rfl (by rfl)) ?_
  refine AOps.nil ?_
  refine AGo.seq ?_
  refine AGo.cond_true true rfl rfl ?_
  refine AGo.skip ?_
  refine AGo.seq ?_
  refine AGo.block ?_
  refine AGo.seq ?_
  refine AGo.region ?_
  refine AOps.s 10 rfl rfl rfl (q_move (.inl rfl) rfl) ?_
  refine AOps.s 11 rfl rfl rfl (q_index_val tok rfl rfl rfl rfl rfl rfl rfl rfl (by decide) (by decide) rfl) ?_
  refine AOps.s 5 rfl rfl rfl (q_move (.inr rfl) rfl) ?_
  refine AOps.s 6 rfl rfl rfl (q_move (.inr rfl) rfl) ?_
  refine AOps.nil ?_
  refine AGo.region ?_
  refine AOps.s 12 rfl rfl rfl (q_move (.inl rfl) rfl) ?_
  refine AOps.s 13 rfl rfl rfl (q_index_arr tok rfl rfl rfl rfl rfl rfl (by decide) (by decide) rfl) ?_
  refine AOps.s 14 rfl rfl rfl (q_load tok rfl rfl rfl (by first | exact .loc _ | exact .ptr _ _ _ _ _ _ _ _ rfl rfl rfl) rfl) ?_
  refine AOps.s 15 rfl rfl rfl (q_move (.inl rfl) rfl) ?_
  refine AOps.s 16 rfl rfl rfl (q_bin rfl rfl rfl rfl) ?_
  refine AOps.s 17 rfl rfl rfl (q_index_arr tok rfl rfl rfl rfl rfl rfl (by decide) (by decide) rfl) ?_
  refine AOps.w rfl rfl (o_store tok rfl rfl rfl rfl rfl rfl rfl rfl rfl (by decide) rfl (by first | exact fun _ => rfl | (intro h; cases h))) ?_
  refine AOps.nil ?_
  refine AGo.region ?_
  refine AOps.s 18 rfl rfl rfl (q_bin (r := .int .i64 1) rfl rfl rfl (by rfl)) ?_
  refine AOps.s 8 rfl rfl rfl (q_move (.inl rfl) rfl) ?_
  refine AOps.nil ?_
  refine AGo.un_succ (n := 2) ?_
  refine AGo.seq ?_
  refine AGo.region ?_
  refine AOps.s 9 rfl rfl rfl (q_bin (r := .bool true) rfl rfl rfl (by rfl)) ?_
  refine AOps.nil ?_
  refine AGo.seq ?_
  refine AGo.cond_true true rfl rfl ?_
  refine AGo.skip ?_
  refine AGo.seq ?_
  refine AGo.block ?_
  refine AGo.seq ?_
  refine AGo.region ?_
  refine AOps.s 10 rfl rfl rfl (q_move (.inl rfl) rfl) ?_
  refine AOps.s 11 rfl rfl rfl (q_index_val tok rfl rfl rfl rfl rfl rfl rfl rfl (by decide) (by decide) rfl) ?_
  refine AOps.s 5 rfl rfl rfl (q_move (.inr rfl) rfl) ?_
  refine AOps.s 6 rfl rfl rfl (q_move (.inr rfl) rfl) ?_
  refine AOps.nil ?_
  refine AGo.region ?_
  refine AOps.s 12 rfl rfl rfl (q_move (.inl rfl) rfl) ?_
  refine AOps.s 13 rfl rfl rfl (q_index_arr tok rfl rfl rfl rfl rfl rfl (by decide) (by decide) rfl) ?_
  refine AOps.s 14 rfl rfl rfl (q_load tok rfl rfl rfl (by first | exact .loc _ | exact .ptr _ _ _ _ _ _ _ _ rfl rfl rfl) rfl) ?_
  refine AOps.s 15 rfl rfl rfl (q_move (.inl rfl) rfl) ?_
  refine AOps.s 16 rfl rfl rfl (q_bin rfl rfl rfl rfl) ?_
  refine AOps.s 17 rfl rfl rfl (q_index_arr tok rfl rfl rfl rfl rfl rfl (by decide) (by decide) rfl) ?_
  refine AOps.w rfl rfl (o_store tok rfl rfl rfl rfl rfl rfl rfl rfl rfl (by decide) rfl (by first | exact fun _ => rfl | (intro h; cases h))) ?_
  refine AOps.nil ?_
  refine AGo.region ?_
  refine AOps.s 18 rfl rfl rfl (q_bin (r := .int .i64 2) rfl rfl rfl (by rfl)) ?_
  refine AOps.s 8 rfl rfl rfl (q_move (.inl rfl) rfl) ?_
  refine AOps.nil ?_
  refine AGo.un_succ (n := 1) ?_
  refine AGo.seq ?_
  refine AGo.region ?_
  refine AOps.s 9 rfl rfl rfl (q_bin (r := .bool true) rfl rfl rfl (by rfl)) ?_
  refine AOps.nil ?_
  refine AGo.seq ?_
  refine AGo.cond_true true rfl rfl ?_
  refine AGo.skip ?_
  refine AGo.seq ?_
  refine AGo.block ?_
  refine AGo.seq ?_
  refine AGo.region ?_
  refine AOps.s 10 rfl rfl rfl (q_move (.inl rfl) rfl) ?_
  refine AOps.s 11 rfl rfl rfl (q_index_val tok rfl rfl rfl rfl rfl rfl rfl rfl (by decide) (by decide) rfl) ?_
  refine AOps.s 5 rfl rfl rfl (q_move (.inr rfl) rfl) ?_
  refine AOps.s 6 rfl rfl rfl (q_move (.inr rfl) rfl) ?_
  refine AOps.nil ?_
  refine AGo.region ?_
  refine AOps.s 12 rfl rfl rfl (q_move (.inl rfl) rfl) ?_
  refine AOps.s 13 rfl rfl rfl (q_index_arr tok rfl rfl rfl rfl rfl rfl (by decide) (by decide) rfl) ?_
  refine AOps.s 14 rfl rfl rfl (q_load tok rfl rfl rfl (by first | exact .loc _ | exact .ptr _ _ _ _ _ _ _ _ rfl rfl rfl) rfl) ?_
  refine AOps.s 15 rfl rfl rfl (q_move (.inl rfl) rfl) ?_
  refine AOps.s 16 rfl rfl rfl (q_bin rfl rfl rfl rfl) ?_
  refine AOps.s 17 rfl rfl rfl (q_index_arr tok rfl rfl rfl rfl rfl rfl (by decide) (by decide) rfl) ?_
  refine AOps.w rfl rfl (o_store tok rfl rfl rfl rfl rfl rfl rfl rfl rfl (by decide) rfl (by first | exact fun _ => rfl | (intro h; cases h))) ?_
  refine AOps.nil ?_
  refine AGo.region ?_
  refine AOps.s 18 rfl rfl rfl (q_bin (r := .int .i64 3) rfl rfl rfl (by rfl)) ?_
  refine AOps.s 8 rfl rfl rfl (q_move (.inl rfl) rfl) ?_
  refine AOps.nil ?_
  refine AGo.un_succ (n := 0) ?_
  refine AGo.seq ?_
  refine AGo.region ?_
  refine AOps.s 9 rfl rfl rfl (q_bin (r := .bool true) rfl rfl rfl (by rfl)) ?_
  refine AOps.nil ?_
  refine AGo.seq ?_
  refine AGo.cond_true true rfl rfl ?_
  refine AGo.skip ?_
  refine AGo.seq ?_
  refine AGo.block ?_
  refine AGo.seq ?_
  refine AGo.region ?_
  refine AOps.s 10 rfl rfl rfl (q_move (.inl rfl) rfl) ?_
  refine AOps.s 11 rfl rfl rfl (q_index_val tok rfl rfl rfl rfl rfl rfl rfl rfl (by decide) (by decide) rfl) ?_
  refine AOps.s 5 rfl rfl rfl (q_move (.inr rfl) rfl) ?_
  refine AOps.s 6 rfl rfl rfl (q_move (.inr rfl) rfl) ?_
  refine AOps.nil ?_
  refine AGo.region ?_
  refine AOps.s 12 rfl rfl rfl (q_move (.inl rfl) rfl) ?_
  refine AOps.s 13 rfl rfl rfl (q_index_arr tok rfl rfl rfl rfl rfl rfl (by decide) (by decide) rfl) ?_
  refine AOps.s 14 rfl rfl rfl (q_load tok rfl rfl rfl (by first | exact .loc _ | exact .ptr _ _ _ _ _ _ _ _ rfl rfl rfl) rfl) ?_
  refine AOps.s 15 rfl rfl rfl (q_move (.inl rfl) rfl) ?_
  refine AOps.s 16 rfl rfl rfl (q_bin rfl rfl rfl rfl) ?_
  refine AOps.s 17 rfl rfl rfl (q_index_arr tok rfl rfl rfl rfl rfl rfl (by decide) (by decide) rfl) ?_
  refine AOps.w rfl rfl (o_store tok rfl rfl rfl rfl rfl rfl rfl rfl rfl (by decide) rfl (by first | exact fun _ => rfl | (intro h; cases h))) ?_
  refine AOps.nil ?_
  refine AGo.region ?_
  refine AOps.s 18 rfl rfl rfl (q_bin (r := .int .i64 4) rfl rfl rfl (by rfl)) ?_
  refine AOps.s 8 rfl rfl rfl (q_move (.inl rfl) rfl) ?_
  refine AOps.nil ?_
  refine AGo.un_zero ?_
  refine AGo.seq ?_
  refine AGo.region ?_
  refine AOps.s 9 rfl rfl rfl (q_bin (r := .bool false) rfl rfl rfl (by rfl)) ?_
  refine AOps.nil ?_
  refine AGo.seq ?_
  refine AGo.cond_false false rfl rfl ?_
  refine AGo.exit ?_
  refine AGo.seq ?_
  refine AGo.region ?_
  refine AOps.s 19 rfl rfl rfl (q_load tok rfl rfl rfl (by first | exact .loc _ | exact .ptr _ _ _ _ _ _ _ _ rfl rfl rfl) rfl) ?_
  refine AOps.x 20 rfl rfl rfl (o_pure rfl Tryd.func13 (by kernel_rfl) rfl rfl rfl (mix_ok (xorIn q w))) ?_
  refine AOps.w rfl rfl (o_store tok rfl rfl rfl rfl rfl rfl rfl rfl rfl (by decide) rfl (by first | exact fun _ => rfl | (intro h; cases h))) ?_
  refine AOps.nil ?_
  refine AGo.ret ?_
  refine ⟨[_], ⟨⟨_, _, _, _, rfl, rfl, .ptr _ _ _ _ _ _ _ _ rfl rfl rfl, rfl⟩, trivial⟩, ?_, rfl⟩
  rfl

end Go.Proofs.YtmckdaonemcnaaaDoor.Sv

namespace Go.Proofs.YtmckdaonemcnaaaDoor.Sv
open Go
set_option linter.unusedVariables false
set_option linter.unusedSimpArgs false

set_option maxRecDepth 100000 in
theorem digOf_ok (z : ByteArray) (hz : z.size ≤ 1000) : APure Tryd.prog 4 [.str z] (fun r => r = .agg (digW z).cells) := by
  have hes := endB_size z
  obtain ⟨htw1, htw2, htw3⟩ := tailB_whole z
  refine APure.of_body (n := 64) tok Tryd.func4 rfl rfl ?_
  refine AGo.seq ?_
  refine AGo.region ?_
  refine AOps.x 2 rfl rfl rfl (o_alloc tok 0 rfl rfl rfl rfl (Nat.zero_lt_succ _) rfl) ?_
  refine AOps.nil ?_
  refine AGo.seq ?_
  refine AGo.region ?_
  refine AOps.s 10 rfl rfl rfl (q_build_arr tok rfl rfl rfl rfl rfl rfl (by decide) rfl rfl) ?_
  refine AOps.x 3 rfl rfl rfl (o_alloc tok 1 rfl rfl rfl rfl (Nat.zero_lt_succ _) rfl) ?_
  refine AOps.w rfl rfl (o_store tok rfl rfl rfl rfl rfl rfl rfl rfl rfl (by decide) rfl (by first | exact fun _ => rfl | (intro h; cases h))) ?_
  refine AOps.nil ?_
  refine AGo.seq ?_
  refine AGo.region ?_
  refine AOps.s 11 rfl rfl rfl (q_move (.inl rfl) rfl) ?_
  refine AOps.s 12 rfl rfl rfl (q_len tok rfl rfl rfl rfl rfl) ?_
  refine AOps.s 13 rfl rfl rfl (q_bin (r := .int .i64 ((z.size / 16 : Nat) : Int)) rfl rfl rfl (quo16N (by omega))) ?_
  refine AOps.s 14 rfl rfl rfl (q_bin (r := .int .i64 ((z.size / 16 * 16 : Nat) : Int)) rfl rfl rfl (mulI (by omega) (by omega) (by omega))) ?_
  refine AOps.s 4 rfl rfl rfl (q_move (.inr rfl) rfl) ?_
  refine AOps.nil ?_
  refine AGo.seq ?_
  refine AGo.seq ?_
  refine AGo.region ?_
  refine AOps.s 5 rfl rfl rfl (q_move (.inr rfl) rfl) ?_
  refine AOps.nil ?_
  refine AGo.block ?_
  refine AGo.loopD (γ := Nat) 2 (fun k => ⟨64, (eput (eput (eput (eput (eput eNew 0 (.str z)) 2 (.ptr 0 1 0 0)) 3 (.ptr 1 1 0 0)) 4 (.int .i64 ((z.size / 16 * 16 : Nat) : Int))) 5 (.int .i64 ((16 * k : Nat) : Int))), (hput (hput (hFrom 2) 0 (.row false 4 [[.int .u32 0, .int .u32 0, .int .u32 0, .int .u32 0]])) 1 (.row false 8 [(absorbN z k st1).cells]))⟩) (fun k => k ≤ z.size / 16) (fun k => z.size / 16 - k) 0 (Sub.mk' (by repeat (first | exact ESub.new _ | refine ESub.put ?_ (by rfl))) (by repeat (first | exact HSub.refl _ | exact HSub.none _ | exact HSub.from_new _ | exact HSub.from_from (by first | decide | omega | (dsimp only; omega)) | refine HSub.put ?_ (by rfl) | refine HSub.from_put ?_ (by first | decide | omega | (dsimp only; omega)) | refine HSub.from_rm ?_ (by decide)))) (Nat.zero_le _) (fun _ => hput_free (hput_free (fun b hb => hFrom_free hb) rfl) rfl) ?_
  intro k hk
  refine AGo.seq ?_
  refine AGo.seq ?_
  refine AGo.region ?_
  refine AOps.s 15 rfl rfl rfl (q_move (.inl rfl) rfl) ?_
  refine AOps.s 16 rfl rfl rfl (q_move (.inl rfl) rfl) ?_
  refine AOps.s 17 rfl rfl rfl (q_bin rfl rfl rfl rfl) ?_
  refine AOps.nil ?_
  refine AGo.split 17 rfl (fun hb1 => ?_) (fun hb1 => ?_)
  · -- True
    refine AGo.cond_true true rfl rfl ?_
    have hk2 : k < z.size / 16 := by have h := hb1; simp only [decide_eq_true_eq] at h; omega
    refine AGo.skip ?_
    refine AGo.seq ?_
    refine AGo.block ?_
    refine AGo.draw mix ?_
    refine DOps.s 20 rfl rfl rfl (q_load tok rfl rfl rfl (by first | exact .loc _ | exact .ptr _ _ _ _ _ _ _ _ rfl rfl rfl) rfl) ?_
    refine DOps.s 21 rfl rfl rfl (q_move (.inl rfl) rfl) ?_
    refine DOps.s 22 rfl rfl rfl (q_move (.inl rfl) rfl) ?_
    refine DOps.x 23 rfl rfl rfl (o_pure rfl Tryd.func8 (by kernel_rfl) rfl rfl rfl (four_ok z (16 * k) (by omega) (by omega))) ?_
    refine DOps.x 24 rfl rfl rfl (o_pure rfl Tryd.func7 (by kernel_rfl) rfl rfl rfl (take_ok (absorbN z k st1) (four z (16 * k)))) ?_
    refine DOps.w rfl rfl (o_store tok rfl rfl rfl rfl rfl rfl rfl rfl rfl (by decide) rfl (by first | exact fun _ => rfl | (intro h; cases h))) ?_
    refine DOps.nil (by kernel_rfl) ?_
    refine AGo.region ?_
    refine AOps.s 18 rfl rfl rfl (q_move (.inl rfl) rfl) ?_
    refine AOps.s 19 rfl rfl rfl (q_bin (r := .int .i64 ((16 * (k + 1) : Nat) : Int)) rfl rfl rfl (addI (by omega) (by omega) (by omega))) ?_
    refine AOps.s 5 rfl rfl rfl (q_move (.inr rfl) rfl) ?_
    refine AOps.nil ?_
    exact ⟨k+1, Drop.mk' (by repeat (first | exact EDrop.new _ _ | refine EDrop.put ?_ (by rfl) rfl)) (by repeat (first | exact HDrop.none _ _ | exact HDrop.tail _ _ | refine HDrop.put ?_ (by rfl) rfl rfl)), hk2, by omega⟩
  · -- False
    refine AGo.cond_false false rfl rfl ?_
    obtain rfl : k = z.size / 16 := by have h := hb1; simp only [decide_eq_false_iff_not] at h; omega
    refine AGo.exit ?_
    refine AGo.seq ?_
    refine AGo.region ?_
    refine AOps.s 25 rfl rfl rfl (q_move (.inl rfl) rfl) ?_
    refine AOps.s 26 rfl rfl rfl (q_move (.inl rfl) rfl) ?_
    refine AOps.s 27 rfl rfl rfl (q_strFrom tok rfl rfl rfl rfl rfl rfl (by omega)) ?_
    refine AOps.x 28 rfl rfl rfl (o_strBytes (z := endB z) tok 2 rfl rfl rfl rfl rfl rfl rfl rfl rfl (by rw [hes]; simp only [maxLen]; omega)) ?_
    refine AOps.x 29 rfl rfl rfl (o_lit' tok rfl rfl rfl rfl rfl rfl (by decide) rfl rfl rfl rfl rfl rfl) ?_
    refine AOps.x 30 rfl rfl rfl (o_append tok (n := (endB z).size) (m := 1) rfl rfl rfl rfl rfl rfl rfl rfl rfl (by rw [byteCells_len, Array.length_toList]; rfl) rfl rfl (Nat.zero_lt_succ _) (.lst _ _) (by intro cs h; simp [partVals] at h; subst h; rfl) (fun _ cs h => by simp [partVals] at h; subst h; rfl) rfl (by simp [partVals, byteCells_len]; omega) (by simp [partVals, byteCells_len]; simp only [maxLen]; omega)) ?_
    refine AOps.s 6 rfl rfl rfl (q_move (.inr rfl) rfl) ?_
    refine AOps.nil ?_
    refine AGo.seq ?_
    refine AGo.block ?_
    refine AGo.loopD (γ := Nat) 3 (fun k => ⟨64, (eput (eput (eput (eput eNew 0 (.str z)) 2 (.ptr 0 1 0 0)) 3 (.ptr 1 1 0 0)) 6 (.ref 2 ((endB z).size + 1 + k) 0 ((endB z).size + 1 + k))), (hput (hput (hput (hFrom 3) 0 (.row false 4 [[.int .u32 0, .int .u32 0, .int .u32 0, .int .u32 0]])) 1 (.row false 8 [(absorbN z (z.size / 16) st1).cells])) 2 (.row true 1 (byteCells (restL z k))))⟩) (fun k => k ≤ padN z.size) (fun k => padN z.size - k) 0 (Sub.mk' (by repeat (first | exact ESub.new _ | refine ESub.put ?_ (by rfl))) (by repeat (first | exact HSub.refl _ | exact HSub.none _ | exact HSub.from_new _ | exact HSub.from_from (by first | decide | omega | (dsimp only; omega)) | refine HSub.put ?_ (by first | rfl | exact congrArg (fun es => some (AObj.row true 1 es)) (by rw [rest_zero, byteCells, byteCells, List.map_append]; rfl)) | refine HSub.from_put ?_ (by first | decide | omega | (dsimp only; omega)) | refine HSub.from_rm ?_ (by decide)))) (Nat.zero_le _) (fun _ => hput_free (hput_free (hput_free (fun b hb => hFrom_free hb) rfl) rfl) rfl) ?_
    intro k hk
    refine AGo.seq ?_
    refine AGo.seq ?_
    refine AGo.region ?_
    refine AOps.s 31 rfl rfl rfl (q_move (.inl rfl) rfl) ?_
    refine AOps.s 32 rfl rfl rfl (q_len tok rfl rfl rfl rfl rfl) ?_
    refine AOps.s 33 rfl rfl rfl (q_bin (r := .int .i64 ((((endB z).size + 1 + k) % 16 : Nat) : Int)) rfl rfl rfl rem16N) ?_
    refine AOps.s 34 rfl rfl rfl (q_bin (r := .bool (!decide (((endB z).size + 1 + k) % 16 = 8))) rfl rfl rfl neq8N) ?_
    refine AOps.nil ?_
    refine AGo.split 34 rfl (fun hb2 => ?_) (fun hb2 => ?_)
    · -- True
      refine AGo.cond_true true rfl rfl ?_
      have hk2 : k < padN z.size := by have h := hb2; simp only [Bool.not_eq_true', decide_eq_false_iff_not] at h; rw [hes] at h; unfold padN at *; omega
      refine AGo.skip ?_
      refine AGo.block ?_
      refine AGo.region ?_
      refine AOps.s 35 rfl rfl rfl (q_move (.inl rfl) rfl) ?_
      refine AOps.x 36 rfl rfl rfl (o_lit' tok rfl rfl rfl rfl rfl rfl (by decide) rfl rfl rfl rfl rfl rfl) ?_
      refine AOps.x 37 rfl rfl rfl (o_append tok (n := (endB z).size + 1 + k) (m := 1) rfl rfl rfl rfl rfl rfl rfl rfl rfl (by rw [byteCells_len, restL_len, hes]) rfl rfl (Nat.zero_lt_succ _) (.lst _ _) (by intro cs h; simp [partVals] at h; subst h; rfl) (fun _ cs h => by simp [partVals] at h; subst h; rfl) rfl (by simp [partVals, byteCells_len, restL_len]; unfold padN at *; omega) (by simp [partVals, byteCells_len, restL_len]; simp only [maxLen]; unfold padN at *; omega)) ?_
      refine AOps.s 6 rfl rfl rfl (q_move (.inr rfl) rfl) ?_
      refine AOps.nil ?_
      exact ⟨k+1, Drop.mk' (by repeat (first | exact EDrop.new _ _ | refine EDrop.put ?_ (by rfl) rfl)) (by repeat (first | exact HDrop.none _ _ | exact HDrop.tail _ _ | refine HDrop.put ?_ (by first | rfl | exact congrArg (fun es => some (AObj.row true 1 es)) (by rw [rest_succ, byteCells, byteCells, List.map_append]; rfl)) rfl rfl)), hk2, by omega⟩
    · -- False
      refine AGo.cond_false false rfl rfl ?_
      obtain rfl : k = padN z.size := by have h := hb2; simp only [Bool.not_eq_false', decide_eq_true_eq] at h; rw [hes] at h; unfold padN at *; omega
      refine AGo.exit ?_
      refine AGo.seq ?_
      refine AGo.region ?_
      refine AOps.s 38 rfl rfl rfl (q_move (.inl rfl) rfl) ?_
      refine AOps.s 39 rfl rfl rfl (q_len tok rfl rfl rfl rfl rfl) ?_
      refine AOps.s 40 rfl rfl rfl (q_convInt tok rfl rfl rfl rfl rfl) ?_
      refine AOps.s 7 rfl rfl rfl (q_move (.inr rfl) rfl) ?_
      refine AOps.nil ?_
      refine AGo.seq ?_
      refine AGo.ghost (.freezeW 6 2 rfl rfl (by rw [byteCells_len, restL_len, hes])) ?_
      refine AGo.draw mix ?_
      refine DOps.s 41 rfl rfl rfl (q_move (.inl rfl) rfl) ?_
      refine DOps.s 42 rfl rfl rfl (q_bytesStr (l := restL z (padN z.size)) tok rfl rfl rfl rfl rfl rfl rfl rfl) ?_
      refine DOps.s 43 rfl rfl rfl (q_move (.inl rfl) rfl) ?_
      refine DOps.s 44 rfl rfl rfl (q_convInt tok rfl rfl rfl rfl rfl) ?_
      refine DOps.s 45 rfl rfl rfl (q_move (.inl rfl) rfl) ?_
      refine DOps.s 46 rfl rfl rfl (q_bin rfl rfl rfl rfl) ?_
      refine DOps.s 47 rfl rfl rfl (q_convInt tok rfl rfl rfl rfl rfl) ?_
      refine DOps.x 48 rfl rfl rfl (o_lit' tok rfl rfl rfl rfl rfl rfl (by decide) rfl rfl rfl rfl rfl rfl) ?_
      refine DOps.x 49 rfl rfl rfl (o_pure rfl Tryd.func9 (by kernel_rfl) rfl rfl rfl (wbytes_ok (lenW z) (fun x hx => by simp only [lenW, List.mem_cons, List.not_mem_nil, or_false] at hx; rcases hx with rfl | rfl <;> exact isW_wrap _) (by show 2 ≤ 1000; decide))) ?_
      refine DOps.s 50 rfl rfl rfl (q_strAdd (a := ⟨(restL z (padN z.size)).toArray⟩) (b := ⟨((lenW z).flatMap leBytes).toArray⟩) rfl rfl rfl (tailB_fits z)) ?_
      refine DOps.s 8 rfl rfl rfl (q_move (.inr rfl) rfl) ?_
      refine DOps.nil (by kernel_rfl) ?_
      refine AGo.seq ?_
      refine AGo.seq ?_
      refine AGo.region ?_
      refine AOps.s 9 rfl rfl rfl (q_move (.inr rfl) rfl) ?_
      refine AOps.nil ?_
      refine AGo.block ?_
      refine AGo.loopD (γ := Nat) 3 (fun k => ⟨64, (eput (eput (eput (eput eNew 2 (.ptr 0 1 0 0)) 3 (.ptr 1 1 0 0)) 8 (.str (tailB z))) 9 (.int .i64 ((16 * k : Nat) : Int))), (hput (hput (hFrom 3) 0 (.row false 4 [[.int .u32 0, .int .u32 0, .int .u32 0, .int .u32 0]])) 1 (.row false 8 [(absorbN (tailB z) k (absorbN z (z.size / 16) st1)).cells]))⟩) (fun k => k ≤ (tailB z).size / 16) (fun k => (tailB z).size / 16 - k) 0 (Sub.mk' (by repeat (first | exact ESub.new _ | refine ESub.put ?_ (by rfl))) (by repeat (first | exact HSub.refl _ | exact HSub.none _ | exact HSub.from_new _ | exact HSub.from_from (by first | decide | omega | (dsimp only; omega)) | refine HSub.put ?_ (by rfl) | refine HSub.from_put ?_ (by first | decide | omega | (dsimp only; omega)) | refine HSub.from_rm ?_ (by decide)))) (Nat.zero_le _) (fun _ => hput_free (hput_free (fun b hb => hFrom_free hb) rfl) rfl) ?_
      intro k hk
      refine AGo.seq ?_
      refine AGo.seq ?_
      refine AGo.region ?_
      refine AOps.s 51 rfl rfl rfl (q_move (.inl rfl) rfl) ?_
      refine AOps.s 52 rfl rfl rfl (q_move (.inl rfl) rfl) ?_
      refine AOps.s 53 rfl rfl rfl (q_len tok rfl rfl rfl rfl rfl) ?_
      refine AOps.s 54 rfl rfl rfl (q_bin rfl rfl rfl rfl) ?_
      refine AOps.nil ?_
      refine AGo.split 54 rfl (fun hb3 => ?_) (fun hb3 => ?_)
      · -- True
        refine AGo.cond_true true rfl rfl ?_
        have hk2 : k < (tailB z).size / 16 := by have h := hb3; simp only [decide_eq_true_eq] at h; omega
        refine AGo.skip ?_
        refine AGo.seq ?_
        refine AGo.block ?_
        refine AGo.draw mix ?_
        refine DOps.s 57 rfl rfl rfl (q_load tok rfl rfl rfl (by first | exact .loc _ | exact .ptr _ _ _ _ _ _ _ _ rfl rfl rfl) rfl) ?_
        refine DOps.s 58 rfl rfl rfl (q_move (.inl rfl) rfl) ?_
        refine DOps.s 59 rfl rfl rfl (q_move (.inl rfl) rfl) ?_
        refine DOps.x 60 rfl rfl rfl (o_pure rfl Tryd.func8 (by kernel_rfl) rfl rfl rfl (four_ok (tailB z) (16 * k) (by omega) (by omega))) ?_
        refine DOps.x 61 rfl rfl rfl (o_pure rfl Tryd.func7 (by kernel_rfl) rfl rfl rfl (take_ok (absorbN (tailB z) k (absorbN z (z.size / 16) st1)) (four (tailB z) (16 * k)))) ?_
        refine DOps.w rfl rfl (o_store tok rfl rfl rfl rfl rfl rfl rfl rfl rfl (by decide) rfl (by first | exact fun _ => rfl | (intro h; cases h))) ?_
        refine DOps.nil (by kernel_rfl) ?_
        refine AGo.region ?_
        refine AOps.s 55 rfl rfl rfl (q_move (.inl rfl) rfl) ?_
        refine AOps.s 56 rfl rfl rfl (q_bin (r := .int .i64 ((16 * (k + 1) : Nat) : Int)) rfl rfl rfl (addI (by omega) (by omega) (by omega))) ?_
        refine AOps.s 9 rfl rfl rfl (q_move (.inr rfl) rfl) ?_
        refine AOps.nil ?_
        exact ⟨k+1, Drop.mk' (by repeat (first | exact EDrop.new _ _ | refine EDrop.put ?_ (by rfl) rfl)) (by repeat (first | exact HDrop.none _ _ | exact HDrop.tail _ _ | refine HDrop.put ?_ (by rfl) rfl rfl)), hk2, by omega⟩
      · -- False
        refine AGo.cond_false false rfl rfl ?_
        obtain rfl : k = (tailB z).size / 16 := by have h := hb3; simp only [decide_eq_false_iff_not] at h; omega
        refine AGo.exit ?_
        refine AGo.seq ?_
        refine AGo.region ?_
        refine AOps.s 62 rfl rfl rfl (q_load tok rfl rfl rfl (by first | exact .loc _ | exact .ptr _ _ _ _ _ _ _ _ rfl rfl rfl) rfl) ?_
        refine AOps.x 63 rfl rfl rfl (o_pure rfl Tryd.func10 (by kernel_rfl) rfl rfl rfl (front_ok (absorbN (tailB z) ((tailB z).size / 16) (absorbN z (z.size / 16) st1)))) ?_
        refine AOps.w rfl rfl (o_store tok rfl rfl rfl rfl rfl rfl rfl rfl rfl (by decide) rfl (by first | exact fun _ => rfl | (intro h; cases h))) ?_
        refine AOps.nil ?_
        refine AGo.ret ?_
        refine ⟨[_], ⟨⟨_, _, _, _, rfl, rfl, .ptr _ _ _ _ _ _ _ _ rfl rfl rfl, rfl⟩, trivial⟩, ?_, rfl⟩
        rfl

end Go.Proofs.YtmckdaonemcnaaaDoor.Sv

namespace Go.Proofs.YtmckdaonemcnaaaDoor.Sv
open Go
set_option linter.unusedVariables false
set_option linter.unusedSimpArgs false

set_option maxRecDepth 100000 in
theorem value_ok (d : Nat) (hd : d < 16) : APure Tryd.prog 14 [.int .u8 (((digU d).toNat : Nat) : Int)] (fun r => r = .int .i64 (d : Int)) := by
  have hgap := dig_gap hd
  rw [← digU_toNat d hd] at hgap
  refine APure.of_body (n := 22) tok Tryd.func14 rfl rfl ?_
  refine AGo.seq ?_
  refine AGo.region ?_
  refine AOps.s 2 rfl rfl rfl (q_move (.inr rfl) rfl) ?_
  refine AOps.nil ?_
  refine AGo.seq ?_
  refine AGo.seq ?_
  refine AGo.region ?_
  refine AOps.s 4 rfl rfl rfl (q_move (.inl rfl) rfl) ?_
  refine AOps.s 5 rfl rfl rfl (q_bin rfl rfl rfl rfl) ?_
  refine AOps.s 6 rfl rfl rfl (q_move (.inl rfl) rfl) ?_
  refine AOps.split 6 rfl (fun hb1 => ?_) (fun hb1 => ?_)
  · -- True
    have h97 : 70 < (((digU d).toNat : Nat) : Int) := by have h := hb1; simp only [decide_eq_true_eq] at h; omega
    refine AOps.s 7 rfl rfl rfl (q_move (.inl rfl) rfl) ?_
    refine AOps.s 8 rfl rfl rfl (q_bin (r := .bool false) rfl rfl rfl (leqF h97)) ?_
    refine AOps.s 9 rfl rfl rfl (q_pick_true true rfl rfl rfl rfl) ?_
    refine AOps.nil ?_
    refine AGo.cond_false false rfl rfl ?_
    refine AGo.skip ?_
    refine AGo.seq ?_
    refine AGo.seq ?_
    refine AGo.region ?_
    refine AOps.s 12 rfl rfl rfl (q_move (.inl rfl) rfl) ?_
    refine AOps.nil ?_
    refine AGo.block ?_
    refine AGo.loopI (γ := Nat) (fun k => ⟨22, (eput (eput eNew 0 (.int .u8 (((digU d).toNat : Nat) : Int))) 12 (.int .i64 (k : Int))), hNone⟩) (fun k => k ≤ d) (fun k => d + 1 - k) 0 (Sub.mk' (by repeat (first | exact ESub.new _ | refine ESub.put ?_ (by rfl))) (by repeat (first | exact HSub.refl _ | exact HSub.none _ | exact HSub.from_new _ | exact HSub.from_from (by first | decide | omega | (dsimp only; omega)) | refine HSub.put ?_ (by rfl) | refine HSub.from_put ?_ (by first | decide | omega | (dsimp only; omega)) | refine HSub.from_rm ?_ (by decide)))) (Nat.zero_le _) ?_
    intro k hk
    refine AGo.seq ?_
    refine AGo.region ?_
    refine AOps.s 13 rfl rfl rfl (q_bin rfl rfl rfl rfl) ?_
    refine AOps.nil ?_
    refine AGo.seq ?_
    refine AGo.split 13 rfl (fun hb2 => ?_) (fun hb2 => ?_)
    · -- True
      refine AGo.cond_true true rfl rfl ?_
      have hk16 : k < 16 := by have h := hb2; simp only [decide_eq_true_eq] at h; omega
      refine AGo.skip ?_
      refine AGo.seq ?_
      refine AGo.block ?_
      refine AGo.seq ?_
      refine AGo.region ?_
      refine AOps.s 14 rfl rfl rfl (q_move (.inl rfl) rfl) ?_
      refine AOps.s 3 rfl rfl rfl (q_move (.inr rfl) rfl) ?_
      refine AOps.nil ?_
      refine AGo.seq ?_
      refine AGo.region ?_
      refine AOps.s 15 rfl rfl rfl (q_move (.inl rfl) rfl) ?_
      refine AOps.s 16 rfl rfl rfl (q_index_arr tok rfl rfl rfl rfl rfl rfl (Int.natCast_nonneg _) (by omega) rfl) ?_
      refine AOps.s 17 rfl rfl rfl (q_load tok rfl rfl rfl (.loc _) (dig_load hk16 rfl rfl)) ?_
      refine AOps.s 18 rfl rfl rfl (q_move (.inl rfl) rfl) ?_
      refine AOps.s 19 rfl rfl rfl (q_bin rfl rfl rfl rfl) ?_
      refine AOps.nil ?_
      refine AGo.split 19 rfl (fun hb3 => ?_) (fun hb3 => ?_)
      · -- True
        refine AGo.cond_true true rfl rfl ?_
        have hkd : k = d := dig_inj hk16 hd (by rw [← digU_toNat k hk16, ← digU_toNat d hd]; simpa using hb3)
        refine AGo.seq ?_
        refine AGo.region ?_
        refine AOps.s 20 rfl rfl rfl (q_move (.inl rfl) rfl) ?_
        refine AOps.s 2 rfl rfl rfl (q_move (.inr rfl) rfl) ?_
        refine AOps.nil ?_
        refine AGo.ret ?_
        refine ⟨[_], ⟨rfl, trivial⟩, ?_, rfl⟩
        show AV.int .i64 _ = _
        rw [hkd]
      · -- False
        refine AGo.cond_false false rfl rfl ?_
        have hkd : k ≠ d := fun e => by subst e; simp at hb3
        refine AGo.skip ?_
        refine AGo.region ?_
        refine AOps.s 21 rfl rfl rfl (q_inc rfl rfl hk16 (by decide)) ?_
        refine AOps.s 12 rfl rfl rfl (q_move (.inl rfl) rfl) ?_
        refine AOps.nil ?_
        exact ⟨k+1, Sub.mk' (by repeat (first | exact ESub.new _ | refine ESub.put ?_ (by rfl))) (by repeat (first | exact HSub.refl _ | exact HSub.none _ | exact HSub.from_new _ | exact HSub.from_from (by first | decide | omega | (dsimp only; omega)) | refine HSub.put ?_ (by rfl) | refine HSub.from_put ?_ (by first | decide | omega | (dsimp only; omega)) | refine HSub.from_rm ?_ (by decide))), (by omega), by omega⟩
    · -- False
      refine AGo.cond_false false rfl rfl ?_
      have h16 : ¬ (k : Int) < 16 := by have h := hb2; simp only [decide_eq_false_iff_not] at h; exact h
      refine AGo.exit ?_
      refine AGo.seq ?_
      refine AGo.region ?_
      refine AOps.s 2 rfl rfl rfl (q_move (.inr rfl) rfl) ?_
      refine AOps.nil ?_
      refine AGo.ret ?_
      exfalso
      omega
  · -- False
    refine AOps.k 7 rfl rfl rfl ?_
    refine AOps.k 8 rfl rfl rfl ?_
    refine AOps.s 9 rfl rfl rfl (q_pick_false false rfl rfl rfl rfl) ?_
    refine AOps.nil ?_
    refine AGo.cond_false false rfl rfl ?_
    refine AGo.skip ?_
    refine AGo.seq ?_
    refine AGo.seq ?_
    refine AGo.region ?_
    refine AOps.s 12 rfl rfl rfl (q_move (.inl rfl) rfl) ?_
    refine AOps.nil ?_
    refine AGo.block ?_
    refine AGo.loopI (γ := Nat) (fun k => ⟨22, (eput (eput eNew 0 (.int .u8 (((digU d).toNat : Nat) : Int))) 12 (.int .i64 (k : Int))), hNone⟩) (fun k => k ≤ d) (fun k => d + 1 - k) 0 (Sub.mk' (by repeat (first | exact ESub.new _ | refine ESub.put ?_ (by rfl))) (by repeat (first | exact HSub.refl _ | exact HSub.none _ | exact HSub.from_new _ | exact HSub.from_from (by first | decide | omega | (dsimp only; omega)) | refine HSub.put ?_ (by rfl) | refine HSub.from_put ?_ (by first | decide | omega | (dsimp only; omega)) | refine HSub.from_rm ?_ (by decide)))) (Nat.zero_le _) ?_
    intro k hk
    refine AGo.seq ?_
    refine AGo.region ?_
    refine AOps.s 13 rfl rfl rfl (q_bin rfl rfl rfl rfl) ?_
    refine AOps.nil ?_
    refine AGo.seq ?_
    refine AGo.split 13 rfl (fun hb4 => ?_) (fun hb4 => ?_)
    · -- True
      refine AGo.cond_true true rfl rfl ?_
      have hk16 : k < 16 := by have h := hb4; simp only [decide_eq_true_eq] at h; omega
      refine AGo.skip ?_
      refine AGo.seq ?_
      refine AGo.block ?_
      refine AGo.seq ?_
      refine AGo.region ?_
      refine AOps.s 14 rfl rfl rfl (q_move (.inl rfl) rfl) ?_
      refine AOps.s 3 rfl rfl rfl (q_move (.inr rfl) rfl) ?_
      refine AOps.nil ?_
      refine AGo.seq ?_
      refine AGo.region ?_
      refine AOps.s 15 rfl rfl rfl (q_move (.inl rfl) rfl) ?_
      refine AOps.s 16 rfl rfl rfl (q_index_arr tok rfl rfl rfl rfl rfl rfl (Int.natCast_nonneg _) (by omega) rfl) ?_
      refine AOps.s 17 rfl rfl rfl (q_load tok rfl rfl rfl (.loc _) (dig_load hk16 rfl rfl)) ?_
      refine AOps.s 18 rfl rfl rfl (q_move (.inl rfl) rfl) ?_
      refine AOps.s 19 rfl rfl rfl (q_bin rfl rfl rfl rfl) ?_
      refine AOps.nil ?_
      refine AGo.split 19 rfl (fun hb5 => ?_) (fun hb5 => ?_)
      · -- True
        refine AGo.cond_true true rfl rfl ?_
        have hkd : k = d := dig_inj hk16 hd (by rw [← digU_toNat k hk16, ← digU_toNat d hd]; simpa using hb5)
        refine AGo.seq ?_
        refine AGo.region ?_
        refine AOps.s 20 rfl rfl rfl (q_move (.inl rfl) rfl) ?_
        refine AOps.s 2 rfl rfl rfl (q_move (.inr rfl) rfl) ?_
        refine AOps.nil ?_
        refine AGo.ret ?_
        refine ⟨[_], ⟨rfl, trivial⟩, ?_, rfl⟩
        show AV.int .i64 _ = _
        rw [hkd]
      · -- False
        refine AGo.cond_false false rfl rfl ?_
        have hkd : k ≠ d := fun e => by subst e; simp at hb5
        refine AGo.skip ?_
        refine AGo.region ?_
        refine AOps.s 21 rfl rfl rfl (q_inc rfl rfl hk16 (by decide)) ?_
        refine AOps.s 12 rfl rfl rfl (q_move (.inl rfl) rfl) ?_
        refine AOps.nil ?_
        exact ⟨k+1, Sub.mk' (by repeat (first | exact ESub.new _ | refine ESub.put ?_ (by rfl))) (by repeat (first | exact HSub.refl _ | exact HSub.none _ | exact HSub.from_new _ | exact HSub.from_from (by first | decide | omega | (dsimp only; omega)) | refine HSub.put ?_ (by rfl) | refine HSub.from_put ?_ (by first | decide | omega | (dsimp only; omega)) | refine HSub.from_rm ?_ (by decide))), (by omega), by omega⟩
    · -- False
      refine AGo.cond_false false rfl rfl ?_
      have h16 : ¬ (k : Int) < 16 := by have h := hb4; simp only [decide_eq_false_iff_not] at h; exact h
      refine AGo.exit ?_
      refine AGo.seq ?_
      refine AGo.region ?_
      refine AOps.s 2 rfl rfl rfl (q_move (.inr rfl) rfl) ?_
      refine AOps.nil ?_
      refine AGo.ret ?_
      exfalso
      omega

set_option maxRecDepth 100000 in
theorem hexParse_ok (l : List UInt8) (hn : l.length ≤ 1000) : APure Tryd.prog 11 [.str ⟨(hexL l).toArray⟩] (fun r => r = .tup [.str ⟨l.toArray⟩, .int .i64 0, .int .i64 0]) := by
  have hsz : (⟨(hexL l).toArray⟩ : ByteArray).size = 2 * l.length := by rw [sizeBA, hexL_len]
  refine APure.of_body (n := 46) tok Tryd.func11 rfl rfl ?_
  refine AGo.seq ?_
  refine AGo.region ?_
  refine AOps.s 2 rfl rfl rfl (q_move (.inr rfl) rfl) ?_
  refine AOps.s 3 rfl rfl rfl (q_move (.inr rfl) rfl) ?_
  refine AOps.s 4 rfl rfl rfl (q_move (.inr rfl) rfl) ?_
  refine AOps.nil ?_
  refine AGo.seq ?_
  refine AGo.region ?_
  refine AOps.s 9 rfl rfl rfl (q_move (.inl rfl) rfl) ?_
  refine AOps.s 10 rfl rfl rfl (q_len tok rfl rfl rfl rfl rfl) ?_
  refine AOps.s 11 rfl rfl rfl (q_bin (r := .int .i64 (l.length : Int)) rfl rfl rfl (by rw [hsz]; exact quo2N (by omega))) ?_
  refine AOps.x 12 rfl rfl rfl (o_makeSlice tok (n := 0) (m := l.length) 0 true rfl rfl rfl (rfl) (rfl) rfl rfl rfl rfl rfl (Nat.zero_lt_succ _) rfl (Nat.zero_le _) (by show 1 * l.length ≤ _; omega) (by simp only [maxLen]; omega)) ?_
  refine AOps.s 5 rfl rfl rfl (q_move (.inr rfl) rfl) ?_
  refine AOps.nil ?_
  refine AGo.seq ?_
  refine AGo.region ?_
  refine AOps.s 6 rfl rfl rfl (q_move (.inr rfl) rfl) ?_
  refine AOps.nil ?_
  refine AGo.seq ?_
  refine AGo.seq ?_
  refine AGo.region ?_
  refine AOps.s 7 rfl rfl rfl (q_move (.inr rfl) rfl) ?_
  refine AOps.nil ?_
  refine AGo.block ?_
  refine AGo.loopD (γ := Nat × Nat) 1 (fun q => ⟨46, (eput (eput (eput (eput eNew 0 (.str ⟨(hexL l).toArray⟩)) 5 (.ref 0 (q.1 / 2) 0 (q.1 / 2))) 6 (.int .i64 (q.2 : Int))) 7 (.int .i64 (q.1 : Int))), (hput (hFrom 1) 0 (.row true 1 (byteCells (l.take (q.1 / 2)))))⟩) (fun q => q.1 ≤ 2 * l.length ∧ (q.1 % 2 = 1 → ∀ c, l[q.1 / 2]? = some c → q.2 = c.toNat / 16)) (fun q => 2 * l.length - q.1) (0, 0) (Sub.mk' (by repeat (first | exact ESub.new _ | refine ESub.put ?_ (by rfl))) (by repeat (first | exact HSub.refl _ | exact HSub.none _ | exact HSub.from_new _ | exact HSub.from_from (by first | decide | omega | (dsimp only; omega)) | refine HSub.put ?_ (by rfl) | refine HSub.from_put ?_ (by first | decide | omega | (dsimp only; omega)) | refine HSub.from_rm ?_ (by decide)))) ⟨Nat.zero_le _, fun h => by cases h⟩ (fun _ => hput_free (fun b hb => hFrom_free hb) rfl) ?_
  intro q hF
  refine AGo.seq ?_
  refine AGo.seq ?_
  refine AGo.region ?_
  refine AOps.s 13 rfl rfl rfl (q_move (.inl rfl) rfl) ?_
  refine AOps.s 14 rfl rfl rfl (q_move (.inl rfl) rfl) ?_
  refine AOps.s 15 rfl rfl rfl (q_len tok rfl rfl rfl rfl rfl) ?_
  refine AOps.s 16 rfl rfl rfl (q_bin rfl rfl rfl rfl) ?_
  refine AOps.nil ?_
  refine AGo.split 16 rfl (fun hb1 => ?_) (fun hb1 => ?_)
  · -- True
    refine AGo.cond_true true rfl rfl ?_
    have hkl : q.1 < 2 * l.length := by have h := hb1; rw [hsz] at h; simp only [decide_eq_true_eq] at h; omega
    obtain ⟨c, hc⟩ := get_of_lt (l := l) (k := q.1 / 2) (by omega)
    refine AGo.skip ?_
    refine AGo.seq ?_
    refine AGo.block ?_
    refine AGo.seq ?_
    refine AGo.region ?_
    refine AOps.s 19 rfl rfl rfl (q_move (.inl rfl) rfl) ?_
    refine AOps.s 20 rfl rfl rfl (q_move (.inl rfl) rfl) ?_
    refine AOps.s 21 rfl rfl rfl (q_index_str (c := digU (hv c q.1)) tok rfl rfl rfl rfl rfl (Int.natCast_nonneg _) (getBA (hexL_at hc))) ?_
    refine AOps.x 22 rfl rfl rfl (o_pure rfl Tryd.func14 (by kernel_rfl) rfl rfl rfl (value_ok (hv c q.1) (hv_lt c q.1))) ?_
    refine AOps.s 8 rfl rfl rfl (q_move (.inr rfl) rfl) ?_
    refine AOps.nil ?_
    refine AGo.seq ?_
    refine AGo.seq ?_
    refine AGo.region ?_
    refine AOps.s 23 rfl rfl rfl (q_move (.inl rfl) rfl) ?_
    refine AOps.s 24 rfl rfl rfl (q_bin (r := .bool false) rfl rfl rfl lssN) ?_
    refine AOps.nil ?_
    refine AGo.cond_false false rfl rfl ?_
    refine AGo.skip ?_
    refine AGo.seq ?_
    refine AGo.seq ?_
    refine AGo.region ?_
    refine AOps.s 26 rfl rfl rfl (q_move (.inl rfl) rfl) ?_
    refine AOps.s 27 rfl rfl rfl (q_bin (r := .int .i64 ((q.1 % 2 : Nat) : Int)) rfl rfl rfl rem2N) ?_
    refine AOps.s 28 rfl rfl rfl (q_bin (r := .bool (decide (q.1 % 2 = 0))) rfl rfl rfl (par_eq _)) ?_
    refine AOps.nil ?_
    refine AGo.split 28 rfl (fun hb2 => ?_) (fun hb2 => ?_)
    · -- True
      refine AGo.cond_true true rfl rfl ?_
      have hev : q.1 % 2 = 0 := of_decide_eq_true hb2
      refine AGo.seq ?_
      refine AGo.region ?_
      refine AOps.s 29 rfl rfl rfl (q_move (.inl rfl) rfl) ?_
      refine AOps.s 6 rfl rfl rfl (q_move (.inr rfl) rfl) ?_
      refine AOps.nil ?_
      refine AGo.exit ?_
      refine AGo.region ?_
      refine AOps.s 17 rfl rfl rfl (q_move (.inl rfl) rfl) ?_
      refine AOps.s 18 rfl rfl rfl (q_inc rfl rfl hkl (by simp only [maxLen]; omega)) ?_
      refine AOps.s 7 rfl rfl rfl (q_move (.inr rfl) rfl) ?_
      refine AOps.nil ?_
      exact ⟨(q.1 + 1, if q.1 % 2 = 0 then hv c q.1 else q.2), Drop.mk' (by repeat (first | exact EDrop.new _ _ | refine EDrop.put ?_ (by first | rfl | exact congrArg (fun n : Nat => some (AV.ref 0 n 0 n)) (by show _ = (q.1 + 1) / 2; omega) | exact congrArg (fun n : Nat => some (AV.ref 0 n 0 n)) (by show (q.1 + 1) / 2 = _; omega) | exact congrArg (fun n : Nat => some (AV.int .i64 (n : Int))) (by simp [*])) rfl)) (by repeat (first | exact HDrop.none _ _ | exact HDrop.tail _ _ | refine HDrop.put ?_ (by first | rfl | exact congrArg (fun es => some (AObj.row true 1 es)) (hex_rowE hev) | exact congrArg (fun es => some (AObj.row true 1 es)) (hex_rowE hev).symm | exact congrArg (fun es => some (AObj.row true 1 es)) (hex_rowO hod hc) | exact congrArg (fun es => some (AObj.row true 1 es)) (hex_rowO hod hc).symm) rfl rfl)), (by first | exact hex_nextE hkl hev hc | exact hex_nextO hkl hod), (by show 2 * l.length - (q.1 + 1) < 2 * l.length - q.1; omega)⟩
    · -- False
      refine AGo.cond_false false rfl rfl ?_
      have hod : q.1 % 2 = 1 := by have h := of_decide_eq_false hb2; omega
      have hjoin := hex_odd hod (hF.2 hod c hc)
      refine AGo.skip ?_
      refine AGo.region ?_
      refine AOps.s 30 rfl rfl rfl (q_move (.inl rfl) rfl) ?_
      refine AOps.s 31 rfl rfl rfl (q_move (.inl rfl) rfl) ?_
      refine AOps.s 32 rfl rfl rfl (q_bin rfl rfl rfl rfl) ?_
      refine AOps.s 33 rfl rfl rfl (q_move (.inl rfl) rfl) ?_
      refine AOps.s 34 rfl rfl rfl (q_bin rfl rfl rfl rfl) ?_
      refine AOps.s 35 rfl rfl rfl (q_cvt tok rfl rfl rfl rfl rfl (r := ((c.toNat : Nat) : Int)) hjoin) ?_
      refine AOps.x 36 rfl rfl rfl (o_lit' tok rfl rfl rfl rfl rfl rfl (by decide) rfl rfl rfl rfl rfl rfl) ?_
      refine AOps.x 37 rfl rfl rfl (o_append tok (n := q.1 / 2) (m := 1) rfl rfl rfl rfl rfl rfl rfl rfl rfl (by rw [byteCells_len, List.length_take]; omega) rfl rfl (Nat.zero_lt_succ _) (.lst _ _) (by intro cs h; simp [partVals] at h; subst h; rfl) (fun _ cs h => by simp [partVals] at h; subst h; rfl) rfl (by simp [partVals, byteCells_len]; omega) (by simp [partVals, byteCells_len]; simp only [maxLen]; omega)) ?_
      refine AOps.s 5 rfl rfl rfl (q_move (.inr rfl) rfl) ?_
      refine AOps.nil ?_
      refine AGo.region ?_
      refine AOps.s 17 rfl rfl rfl (q_move (.inl rfl) rfl) ?_
      refine AOps.s 18 rfl rfl rfl (q_inc rfl rfl hkl (by simp only [maxLen]; omega)) ?_
      refine AOps.s 7 rfl rfl rfl (q_move (.inr rfl) rfl) ?_
      refine AOps.nil ?_
      exact ⟨(q.1 + 1, if q.1 % 2 = 0 then hv c q.1 else q.2), Drop.mk' (by repeat (first | exact EDrop.new _ _ | refine EDrop.put ?_ (by first | rfl | exact congrArg (fun n : Nat => some (AV.ref 0 n 0 n)) (by show _ = (q.1 + 1) / 2; omega) | exact congrArg (fun n : Nat => some (AV.ref 0 n 0 n)) (by show (q.1 + 1) / 2 = _; omega) | exact congrArg (fun n : Nat => some (AV.int .i64 (n : Int))) (by simp [*])) rfl)) (by repeat (first | exact HDrop.none _ _ | exact HDrop.tail _ _ | refine HDrop.put ?_ (by first | rfl | exact congrArg (fun es => some (AObj.row true 1 es)) (hex_rowE hev) | exact congrArg (fun es => some (AObj.row true 1 es)) (hex_rowE hev).symm | exact congrArg (fun es => some (AObj.row true 1 es)) (hex_rowO hod hc) | exact congrArg (fun es => some (AObj.row true 1 es)) (hex_rowO hod hc).symm) rfl rfl)), (by first | exact hex_nextE hkl hev hc | exact hex_nextO hkl hod), (by show 2 * l.length - (q.1 + 1) < 2 * l.length - q.1; omega)⟩
  · -- False
    refine AGo.cond_false false rfl rfl ?_
    have hge : 2 * l.length ≤ q.1 := by have h := hb1; rw [hsz] at h; simp only [decide_eq_false_iff_not] at h; omega
    refine AGo.exit ?_
    refine AGo.seq ?_
    refine AGo.seq ?_
    refine AGo.region ?_
    refine AOps.s 38 rfl rfl rfl (q_move (.inl rfl) rfl) ?_
    refine AOps.s 39 rfl rfl rfl (q_len tok rfl rfl rfl rfl rfl) ?_
    refine AOps.s 40 rfl rfl rfl (q_bin (r := .int .i64 0) rfl rfl rfl (by rw [hsz]; exact rem2N.trans (by rw [show 2 * l.length % 2 = 0 by omega]; rfl))) ?_
    refine AOps.s 41 rfl rfl rfl (q_bin (r := .bool false) rfl rfl rfl (by rfl)) ?_
    refine AOps.nil ?_
    refine AGo.cond_false false rfl rfl ?_
    refine AGo.skip ?_
    refine AGo.seq ?_
    refine AGo.ghost (.freezeW 5 0 rfl rfl (by rw [byteCells_len, List.length_take]; omega)) ?_
    refine AGo.region ?_
    refine AOps.s 44 rfl rfl rfl (q_move (.inl rfl) rfl) ?_
    refine AOps.s 45 rfl rfl rfl (q_bytesStr (l := l.take (q.1 / 2)) tok rfl rfl rfl rfl rfl rfl rfl rfl) ?_
    refine AOps.s 2 rfl rfl rfl (q_move (.inr rfl) rfl) ?_
    refine AOps.s 3 rfl rfl rfl (q_move (.inr rfl) rfl) ?_
    refine AOps.s 4 rfl rfl rfl (q_move (.inr rfl) rfl) ?_
    refine AOps.nil ?_
    refine AGo.ret ?_
    refine ⟨[_, _, _], ⟨rfl, rfl, rfl, trivial⟩, ?_, rfl⟩
    show AV.tup [.str _, _, _] = _
    rw [List.take_of_length_le (by omega)]

end Go.Proofs.YtmckdaonemcnaaaDoor.Sv

namespace Go.Proofs.YtmckdaonemcnaaaDoor.Sv
open Go
set_option linter.unusedVariables false
set_option linter.unusedSimpArgs false

set_option maxRecDepth 100000 in
theorem digText_ok (x : W4) (hx : x.Ok) : APure Tryd.prog 6 [.agg x.cells] (fun r => r = .str ⟨(hexL (digBytes x)).toArray⟩) := by
  refine APure.of_body (n := 29) tok Tryd.func6 rfl rfl ?_
  refine AGo.seq ?_
  refine AGo.region ?_
  refine AOps.x 1 rfl rfl rfl (o_box (sz := 4) 0 rfl rfl rfl rfl (Nat.zero_lt_succ _) rfl) ?_
  refine AOps.s 2 rfl rfl rfl (q_move (.inr rfl) rfl) ?_
  refine AOps.nil ?_
  refine AGo.seq ?_
  refine AGo.region ?_
  refine AOps.x 6 rfl rfl rfl (o_makeSlice tok (n := 0) (m := 16) 1 true rfl rfl rfl (rfl) (rfl) rfl rfl rfl rfl rfl (Nat.zero_lt_succ _) rfl (by decide) (by decide) (by decide)) ?_
  refine AOps.s 3 rfl rfl rfl (q_move (.inr rfl) rfl) ?_
  refine AOps.nil ?_
  refine AGo.seq ?_
  refine AGo.seq ?_
  refine AGo.region ?_
  refine AOps.s 7 rfl rfl rfl (q_load tok rfl rfl rfl (by first | exact .loc _ | exact .ptr _ _ _ _ _ _ _ _ rfl rfl rfl) rfl) ?_
  refine AOps.s 8 rfl rfl rfl (q_move (.inl rfl) rfl) ?_
  refine AOps.nil ?_
  refine AGo.block ?_
  refine AGo.unroll 4 ?_
  refine AGo.un_succ (n := 3) ?_
  refine AGo.sub (s' := ⟨29, (eput (eput (eput (eput eNew 1 (.ptr 0 1 0 0)) 3 (.ref 1 0 0 0)) 7 (.agg x.cells)) 8 (.int .i64 0)), (hput (hput (hFrom 2) 0 (.row false 4 [x.cells])) 1 (.row true 1 (byteCells ([]))))⟩) (Sub.mk' (by repeat (first | exact ESub.new _ | refine ESub.put ?_ (by rfl))) (by repeat (first | exact HSub.refl _ | exact HSub.none _ | exact HSub.from_new _ | exact HSub.from_from (by first | decide | omega | (dsimp only; omega)) | refine HSub.put ?_ (by rfl) | refine HSub.from_put ?_ (by first | decide | omega | (dsimp only; omega)) | refine HSub.from_rm ?_ (by decide)))) ?_
  refine AGo.seq ?_
  refine AGo.region ?_
  refine AOps.s 9 rfl rfl rfl (q_bin (r := .bool true) rfl rfl rfl (by rfl)) ?_
  refine AOps.nil ?_
  refine AGo.seq ?_
  refine AGo.cond_true true rfl rfl ?_
  refine AGo.skip ?_
  refine AGo.seq ?_
  refine AGo.block ?_
  refine AGo.seq ?_
  refine AGo.region ?_
  refine AOps.s 10 rfl rfl rfl (q_index_val tok rfl rfl rfl rfl rfl rfl rfl rfl (by decide) (by decide) rfl) ?_
  refine AOps.s 5 rfl rfl rfl (q_move (.inr rfl) rfl) ?_
  refine AOps.nil ?_
  refine AGo.region ?_
  refine AOps.s 11 rfl rfl rfl (q_move (.inl rfl) rfl) ?_
  refine AOps.s 12 rfl rfl rfl (q_move (.inl rfl) rfl) ?_
  refine AOps.s 13 rfl rfl rfl (q_bin (r := .int .u32 (shrW x.a0 24)) rfl rfl rfl (shrBin (by decide))) ?_
  refine AOps.s 14 rfl rfl rfl (q_cvt tok rfl rfl rfl rfl rfl (wrap_byteZ (shrW_nonneg hx.h0.1))) ?_
  refine AOps.s 15 rfl rfl rfl (q_move (.inl rfl) rfl) ?_
  refine AOps.s 16 rfl rfl rfl (q_bin (r := .int .u32 (shrW x.a0 16)) rfl rfl rfl (shrBin (by decide))) ?_
  refine AOps.s 17 rfl rfl rfl (q_cvt tok rfl rfl rfl rfl rfl (wrap_byteZ (shrW_nonneg hx.h0.1))) ?_
  refine AOps.s 18 rfl rfl rfl (q_move (.inl rfl) rfl) ?_
  refine AOps.s 19 rfl rfl rfl (q_bin (r := .int .u32 (shrW x.a0 8)) rfl rfl rfl (shrBin (by decide))) ?_
  refine AOps.s 20 rfl rfl rfl (q_cvt tok rfl rfl rfl rfl rfl (wrap_byteZ (shrW_nonneg hx.h0.1))) ?_
  refine AOps.s 21 rfl rfl rfl (q_move (.inl rfl) rfl) ?_
  refine AOps.s 22 rfl rfl rfl (q_cvt tok rfl rfl rfl rfl rfl (wrap_byteZ hx.h0.1)) ?_
  refine AOps.x 23 rfl rfl rfl (o_lit' tok rfl rfl rfl rfl rfl rfl (by decide) rfl rfl rfl rfl rfl rfl) ?_
  refine AOps.x 24 rfl rfl rfl (o_append tok (n := 0) (m := 4) rfl rfl rfl rfl rfl rfl rfl rfl rfl rfl rfl rfl (Nat.zero_lt_succ _) (.lst _ _) (by intro cs h; simp [partVals] at h; rcases h with rfl | rfl | rfl | rfl <;> rfl) (fun _ cs h => by simp [partVals] at h; rcases h with rfl | rfl | rfl | rfl <;> rfl) rfl (by simp [partVals, byteCells, beBytes]) (by simp [partVals, byteCells, beBytes]; try simp only [maxLen]; try omega)) ?_
  refine AOps.s 3 rfl rfl rfl (q_move (.inr rfl) rfl) ?_
  refine AOps.nil ?_
  refine AGo.region ?_
  refine AOps.s 25 rfl rfl rfl (q_bin (r := .int .i64 1) rfl rfl rfl (by rfl)) ?_
  refine AOps.s 8 rfl rfl rfl (q_move (.inl rfl) rfl) ?_
  refine AOps.nil ?_
  refine AGo.un_succ (n := 2) ?_
  refine AGo.sub (s' := ⟨29, (eput (eput (eput (eput eNew 1 (.ptr 0 1 0 0)) 3 (.ref 1 4 0 4)) 7 (.agg x.cells)) 8 (.int .i64 1)), (hput (hput (hFrom 2) 0 (.row false 4 [x.cells])) 1 (.row true 1 (byteCells (beBytes x.a0))))⟩) (Sub.mk' (by repeat (first | exact ESub.new _ | refine ESub.put ?_ (by rfl))) (by repeat (first | exact HSub.refl _ | exact HSub.none _ | exact HSub.from_new _ | exact HSub.from_from (by first | decide | omega | (dsimp only; omega)) | refine HSub.put ?_ (by rfl) | refine HSub.from_put ?_ (by first | decide | omega | (dsimp only; omega)) | refine HSub.from_rm ?_ (by decide)))) ?_
  refine AGo.seq ?_
  refine AGo.region ?_
  refine AOps.s 9 rfl rfl rfl (q_bin (r := .bool true) rfl rfl rfl (by rfl)) ?_
  refine AOps.nil ?_
  refine AGo.seq ?_
  refine AGo.cond_true true rfl rfl ?_
  refine AGo.skip ?_
  refine AGo.seq ?_
  refine AGo.block ?_
  refine AGo.seq ?_
  refine AGo.region ?_
  refine AOps.s 10 rfl rfl rfl (q_index_val tok rfl rfl rfl rfl rfl rfl rfl rfl (by decide) (by decide) rfl) ?_
  refine AOps.s 5 rfl rfl rfl (q_move (.inr rfl) rfl) ?_
  refine AOps.nil ?_
  refine AGo.region ?_
  refine AOps.s 11 rfl rfl rfl (q_move (.inl rfl) rfl) ?_
  refine AOps.s 12 rfl rfl rfl (q_move (.inl rfl) rfl) ?_
  refine AOps.s 13 rfl rfl rfl (q_bin (r := .int .u32 (shrW x.a1 24)) rfl rfl rfl (shrBin (by decide))) ?_
  refine AOps.s 14 rfl rfl rfl (q_cvt tok rfl rfl rfl rfl rfl (wrap_byteZ (shrW_nonneg hx.h1.1))) ?_
  refine AOps.s 15 rfl rfl rfl (q_move (.inl rfl) rfl) ?_
  refine AOps.s 16 rfl rfl rfl (q_bin (r := .int .u32 (shrW x.a1 16)) rfl rfl rfl (shrBin (by decide))) ?_
  refine AOps.s 17 rfl rfl rfl (q_cvt tok rfl rfl rfl rfl rfl (wrap_byteZ (shrW_nonneg hx.h1.1))) ?_
  refine AOps.s 18 rfl rfl rfl (q_move (.inl rfl) rfl) ?_
  refine AOps.s 19 rfl rfl rfl (q_bin (r := .int .u32 (shrW x.a1 8)) rfl rfl rfl (shrBin (by decide))) ?_
  refine AOps.s 20 rfl rfl rfl (q_cvt tok rfl rfl rfl rfl rfl (wrap_byteZ (shrW_nonneg hx.h1.1))) ?_
  refine AOps.s 21 rfl rfl rfl (q_move (.inl rfl) rfl) ?_
  refine AOps.s 22 rfl rfl rfl (q_cvt tok rfl rfl rfl rfl rfl (wrap_byteZ hx.h1.1)) ?_
  refine AOps.x 23 rfl rfl rfl (o_lit' tok rfl rfl rfl rfl rfl rfl (by decide) rfl rfl rfl rfl rfl rfl) ?_
  refine AOps.x 24 rfl rfl rfl (o_append tok (n := 4) (m := 4) rfl rfl rfl rfl rfl rfl rfl rfl rfl rfl rfl rfl (Nat.zero_lt_succ _) (.lst _ _) (by intro cs h; simp [partVals] at h; rcases h with rfl | rfl | rfl | rfl <;> rfl) (fun _ cs h => by simp [partVals] at h; rcases h with rfl | rfl | rfl | rfl <;> rfl) rfl (by simp [partVals, byteCells, beBytes]) (by simp [partVals, byteCells, beBytes]; try simp only [maxLen]; try omega)) ?_
  refine AOps.s 3 rfl rfl rfl (q_move (.inr rfl) rfl) ?_
  refine AOps.nil ?_
  refine AGo.region ?_
  refine AOps.s 25 rfl rfl rfl (q_bin (r := .int .i64 2) rfl rfl rfl (by rfl)) ?_
  refine AOps.s 8 rfl rfl rfl (q_move (.inl rfl) rfl) ?_
  refine AOps.nil ?_
  refine AGo.un_succ (n := 1) ?_
  refine AGo.sub (s' := ⟨29, (eput (eput (eput (eput eNew 1 (.ptr 0 1 0 0)) 3 (.ref 1 8 0 8)) 7 (.agg x.cells)) 8 (.int .i64 2)), (hput (hput (hFrom 2) 0 (.row false 4 [x.cells])) 1 (.row true 1 (byteCells (beBytes x.a0 ++ beBytes x.a1))))⟩) (Sub.mk' (by repeat (first | exact ESub.new _ | refine ESub.put ?_ (by rfl))) (by repeat (first | exact HSub.refl _ | exact HSub.none _ | exact HSub.from_new _ | exact HSub.from_from (by first | decide | omega | (dsimp only; omega)) | refine HSub.put ?_ (by rfl) | refine HSub.from_put ?_ (by first | decide | omega | (dsimp only; omega)) | refine HSub.from_rm ?_ (by decide)))) ?_
  refine AGo.seq ?_
  refine AGo.region ?_
  refine AOps.s 9 rfl rfl rfl (q_bin (r := .bool true) rfl rfl rfl (by rfl)) ?_
  refine AOps.nil ?_
  refine AGo.seq ?_
  refine AGo.cond_true true rfl rfl ?_
  refine AGo.skip ?_
  refine AGo.seq ?_
  refine AGo.block ?_
  refine AGo.seq ?_
  refine AGo.region ?_
  refine AOps.s 10 rfl rfl rfl (q_index_val tok rfl rfl rfl rfl rfl rfl rfl rfl (by decide) (by decide) rfl) ?_
  refine AOps.s 5 rfl rfl rfl (q_move (.inr rfl) rfl) ?_
  refine AOps.nil ?_
  refine AGo.region ?_
  refine AOps.s 11 rfl rfl rfl (q_move (.inl rfl) rfl) ?_
  refine AOps.s 12 rfl rfl rfl (q_move (.inl rfl) rfl) ?_
  refine AOps.s 13 rfl rfl rfl (q_bin (r := .int .u32 (shrW x.a2 24)) rfl rfl rfl (shrBin (by decide))) ?_
  refine AOps.s 14 rfl rfl rfl (q_cvt tok rfl rfl rfl rfl rfl (wrap_byteZ (shrW_nonneg hx.h2.1))) ?_
  refine AOps.s 15 rfl rfl rfl (q_move (.inl rfl) rfl) ?_
  refine AOps.s 16 rfl rfl rfl (q_bin (r := .int .u32 (shrW x.a2 16)) rfl rfl rfl (shrBin (by decide))) ?_
  refine AOps.s 17 rfl rfl rfl (q_cvt tok rfl rfl rfl rfl rfl (wrap_byteZ (shrW_nonneg hx.h2.1))) ?_
  refine AOps.s 18 rfl rfl rfl (q_move (.inl rfl) rfl) ?_
  refine AOps.s 19 rfl rfl rfl (q_bin (r := .int .u32 (shrW x.a2 8)) rfl rfl rfl (shrBin (by decide))) ?_
  refine AOps.s 20 rfl rfl rfl (q_cvt tok rfl rfl rfl rfl rfl (wrap_byteZ (shrW_nonneg hx.h2.1))) ?_
  refine AOps.s 21 rfl rfl rfl (q_move (.inl rfl) rfl) ?_
  refine AOps.s 22 rfl rfl rfl (q_cvt tok rfl rfl rfl rfl rfl (wrap_byteZ hx.h2.1)) ?_
  refine AOps.x 23 rfl rfl rfl (o_lit' tok rfl rfl rfl rfl rfl rfl (by decide) rfl rfl rfl rfl rfl rfl) ?_
  refine AOps.x 24 rfl rfl rfl (o_append tok (n := 8) (m := 4) rfl rfl rfl rfl rfl rfl rfl rfl rfl rfl rfl rfl (Nat.zero_lt_succ _) (.lst _ _) (by intro cs h; simp [partVals] at h; rcases h with rfl | rfl | rfl | rfl <;> rfl) (fun _ cs h => by simp [partVals] at h; rcases h with rfl | rfl | rfl | rfl <;> rfl) rfl (by simp [partVals, byteCells, beBytes]) (by simp [partVals, byteCells, beBytes]; try simp only [maxLen]; try omega)) ?_
  refine AOps.s 3 rfl rfl rfl (q_move (.inr rfl) rfl) ?_
  refine AOps.nil ?_
  refine AGo.region ?_
  refine AOps.s 25 rfl rfl rfl (q_bin (r := .int .i64 3) rfl rfl rfl (by rfl)) ?_
  refine AOps.s 8 rfl rfl rfl (q_move (.inl rfl) rfl) ?_
  refine AOps.nil ?_
  refine AGo.un_succ (n := 0) ?_
  refine AGo.sub (s' := ⟨29, (eput (eput (eput (eput eNew 1 (.ptr 0 1 0 0)) 3 (.ref 1 12 0 12)) 7 (.agg x.cells)) 8 (.int .i64 3)), (hput (hput (hFrom 2) 0 (.row false 4 [x.cells])) 1 (.row true 1 (byteCells (beBytes x.a0 ++ beBytes x.a1 ++ beBytes x.a2))))⟩) (Sub.mk' (by repeat (first | exact ESub.new _ | refine ESub.put ?_ (by rfl))) (by repeat (first | exact HSub.refl _ | exact HSub.none _ | exact HSub.from_new _ | exact HSub.from_from (by first | decide | omega | (dsimp only; omega)) | refine HSub.put ?_ (by rfl) | refine HSub.from_put ?_ (by first | decide | omega | (dsimp only; omega)) | refine HSub.from_rm ?_ (by decide)))) ?_
  refine AGo.seq ?_
  refine AGo.region ?_
  refine AOps.s 9 rfl rfl rfl (q_bin (r := .bool true) rfl rfl rfl (by rfl)) ?_
  refine AOps.nil ?_
  refine AGo.seq ?_
  refine AGo.cond_true true rfl rfl ?_
  refine AGo.skip ?_
  refine AGo.seq ?_
  refine AGo.block ?_
  refine AGo.seq ?_
  refine AGo.region ?_
  refine AOps.s 10 rfl rfl rfl (q_index_val tok rfl rfl rfl rfl rfl rfl rfl rfl (by decide) (by decide) rfl) ?_
  refine AOps.s 5 rfl rfl rfl (q_move (.inr rfl) rfl) ?_
  refine AOps.nil ?_
  refine AGo.region ?_
  refine AOps.s 11 rfl rfl rfl (q_move (.inl rfl) rfl) ?_
  refine AOps.s 12 rfl rfl rfl (q_move (.inl rfl) rfl) ?_
  refine AOps.s 13 rfl rfl rfl (q_bin (r := .int .u32 (shrW x.a3 24)) rfl rfl rfl (shrBin (by decide))) ?_
  refine AOps.s 14 rfl rfl rfl (q_cvt tok rfl rfl rfl rfl rfl (wrap_byteZ (shrW_nonneg hx.h3.1))) ?_
  refine AOps.s 15 rfl rfl rfl (q_move (.inl rfl) rfl) ?_
  refine AOps.s 16 rfl rfl rfl (q_bin (r := .int .u32 (shrW x.a3 16)) rfl rfl rfl (shrBin (by decide))) ?_
  refine AOps.s 17 rfl rfl rfl (q_cvt tok rfl rfl rfl rfl rfl (wrap_byteZ (shrW_nonneg hx.h3.1))) ?_
  refine AOps.s 18 rfl rfl rfl (q_move (.inl rfl) rfl) ?_
  refine AOps.s 19 rfl rfl rfl (q_bin (r := .int .u32 (shrW x.a3 8)) rfl rfl rfl (shrBin (by decide))) ?_
  refine AOps.s 20 rfl rfl rfl (q_cvt tok rfl rfl rfl rfl rfl (wrap_byteZ (shrW_nonneg hx.h3.1))) ?_
  refine AOps.s 21 rfl rfl rfl (q_move (.inl rfl) rfl) ?_
  refine AOps.s 22 rfl rfl rfl (q_cvt tok rfl rfl rfl rfl rfl (wrap_byteZ hx.h3.1)) ?_
  refine AOps.x 23 rfl rfl rfl (o_lit' tok rfl rfl rfl rfl rfl rfl (by decide) rfl rfl rfl rfl rfl rfl) ?_
  refine AOps.x 24 rfl rfl rfl (o_append tok (n := 12) (m := 4) rfl rfl rfl rfl rfl rfl rfl rfl rfl rfl rfl rfl (Nat.zero_lt_succ _) (.lst _ _) (by intro cs h; simp [partVals] at h; rcases h with rfl | rfl | rfl | rfl <;> rfl) (fun _ cs h => by simp [partVals] at h; rcases h with rfl | rfl | rfl | rfl <;> rfl) rfl (by simp [partVals, byteCells, beBytes]) (by simp [partVals, byteCells, beBytes]; try simp only [maxLen]; try omega)) ?_
  refine AOps.s 3 rfl rfl rfl (q_move (.inr rfl) rfl) ?_
  refine AOps.nil ?_
  refine AGo.region ?_
  refine AOps.s 25 rfl rfl rfl (q_bin (r := .int .i64 4) rfl rfl rfl (by rfl)) ?_
  refine AOps.s 8 rfl rfl rfl (q_move (.inl rfl) rfl) ?_
  refine AOps.nil ?_
  refine AGo.un_zero ?_
  refine AGo.sub (s' := ⟨29, (eput (eput (eput (eput eNew 1 (.ptr 0 1 0 0)) 3 (.ref 1 16 0 16)) 7 (.agg x.cells)) 8 (.int .i64 4)), (hput (hput (hFrom 2) 0 (.row false 4 [x.cells])) 1 (.row true 1 (byteCells (beBytes x.a0 ++ beBytes x.a1 ++ beBytes x.a2 ++ beBytes x.a3))))⟩) (Sub.mk' (by repeat (first | exact ESub.new _ | refine ESub.put ?_ (by rfl))) (by repeat (first | exact HSub.refl _ | exact HSub.none _ | exact HSub.from_new _ | exact HSub.from_from (by first | decide | omega | (dsimp only; omega)) | refine HSub.put ?_ (by rfl) | refine HSub.from_put ?_ (by first | decide | omega | (dsimp only; omega)) | refine HSub.from_rm ?_ (by decide)))) ?_
  refine AGo.seq ?_
  refine AGo.region ?_
  refine AOps.s 9 rfl rfl rfl (q_bin (r := .bool false) rfl rfl rfl (by rfl)) ?_
  refine AOps.nil ?_
  refine AGo.seq ?_
  refine AGo.cond_false false rfl rfl ?_
  refine AGo.exit ?_
  refine AGo.seq ?_
  refine AGo.ghost (.freezeW 3 1 rfl rfl (rfl)) ?_
  refine AGo.region ?_
  refine AOps.s 26 rfl rfl rfl (q_move (.inl rfl) rfl) ?_
  refine AOps.s 27 rfl rfl rfl (q_bytesStr (l := beBytes x.a0 ++ beBytes x.a1 ++ beBytes x.a2 ++ beBytes x.a3) tok rfl rfl rfl rfl rfl rfl rfl rfl) ?_
  refine AOps.x 28 rfl rfl rfl (o_pure rfl Tryd.func12 (by kernel_rfl) rfl rfl rfl (hexText_ok (beBytes x.a0 ++ beBytes x.a1 ++ beBytes x.a2 ++ beBytes x.a3) (by show 16 ≤ 1000; decide))) ?_
  refine AOps.s 2 rfl rfl rfl (q_move (.inr rfl) rfl) ?_
  refine AOps.nil ?_
  refine AGo.ret ?_
  refine ⟨[_], ⟨rfl, trivial⟩, ?_, rfl⟩
  rfl

set_option maxRecDepth 100000 in
theorem digParse_ok (x : W4) (hx : x.Ok) : APure Tryd.prog 5 [.str ⟨(hexL (digBytes x)).toArray⟩] (fun r => r = .tup [.agg x.cells, .int .i64 0]) := by
  refine APure.of_body (n := 58) tok Tryd.func5 rfl rfl ?_
  refine AGo.seq ?_
  refine AGo.region ?_
  refine AOps.x 2 rfl rfl rfl (o_alloc tok 0 rfl rfl rfl rfl (Nat.zero_lt_succ _) rfl) ?_
  refine AOps.s 3 rfl rfl rfl (q_move (.inr rfl) rfl) ?_
  refine AOps.nil ?_
  refine AGo.seq ?_
  refine AGo.seq ?_
  refine AGo.region ?_
  refine AOps.s 9 rfl rfl rfl (q_move (.inl rfl) rfl) ?_
  refine AOps.s 10 rfl rfl rfl (q_len tok rfl rfl rfl rfl rfl) ?_
  refine AOps.s 11 rfl rfl rfl (q_bin (r := .bool false) rfl rfl rfl (by rw [sizeBA, hexL_len]; rfl)) ?_
  refine AOps.nil ?_
  refine AGo.cond_false false rfl rfl ?_
  refine AGo.skip ?_
  refine AGo.seq ?_
  refine AGo.region ?_
  refine AOps.s 14 rfl rfl rfl (q_move (.inl rfl) rfl) ?_
  refine AOps.x 15 rfl rfl rfl (o_pure rfl Tryd.func11 (by kernel_rfl) rfl rfl rfl (hexParse_ok (digBytes x) (by show 16 ≤ 1000; decide))) ?_
  refine AOps.s 13 rfl rfl rfl (q_move (.inl rfl) rfl) ?_
  refine AOps.s 16 rfl rfl rfl (q_extract rfl rfl rfl) ?_
  refine AOps.s 17 rfl rfl rfl (q_extract rfl rfl rfl) ?_
  refine AOps.s 18 rfl rfl rfl (q_extract rfl rfl rfl) ?_
  refine AOps.s 4 rfl rfl rfl (q_move (.inr rfl) rfl) ?_
  refine AOps.s 5 rfl rfl rfl (q_move (.inr rfl) rfl) ?_
  refine AOps.s 6 rfl rfl rfl (q_move (.inr rfl) rfl) ?_
  refine AOps.nil ?_
  refine AGo.seq ?_
  refine AGo.seq ?_
  refine AGo.region ?_
  refine AOps.s 19 rfl rfl rfl (q_move (.inl rfl) rfl) ?_
  refine AOps.s 20 rfl rfl rfl (q_bin (r := .bool false) rfl rfl rfl (by rfl)) ?_
  refine AOps.nil ?_
  refine AGo.cond_false false rfl rfl ?_
  refine AGo.skip ?_
  refine AGo.seq ?_
  refine AGo.region ?_
  refine AOps.x 7 rfl rfl rfl (o_alloc tok 1 rfl rfl rfl rfl (Nat.zero_lt_succ _) rfl) ?_
  refine AOps.nil ?_
  refine AGo.seq ?_
  refine AGo.seq ?_
  refine AGo.region ?_
  refine AOps.s 22 rfl rfl rfl (q_move (.inl rfl) rfl) ?_
  refine AOps.nil ?_
  refine AGo.block ?_
  refine AGo.unroll 4 ?_
  refine AGo.un_succ (n := 3) ?_
  refine AGo.sub (s' := ⟨58, (eput (eput (eput (eput eNew 2 (.ptr 0 1 0 0)) 4 (.str ⟨(digBytes x).toArray⟩)) 7 (.ptr 1 1 0 0)) 22 (.int .i64 0)), (hput (hput (hFrom 2) 0 (.row false 4 [[.int .u32 0, .int .u32 0, .int .u32 0, .int .u32 0]])) 1 (.row false 4 [[.int .u32 0, .int .u32 0, .int .u32 0, .int .u32 0]]))⟩) (Sub.mk' (by repeat (first | exact ESub.new _ | refine ESub.put ?_ (by rfl))) (by repeat (first | exact HSub.refl _ | exact HSub.none _ | exact HSub.from_new _ | exact HSub.from_from (by first | decide | omega | (dsimp only; omega)) | refine HSub.put ?_ (by rfl) | refine HSub.from_put ?_ (by first | decide | omega | (dsimp only; omega)) | refine HSub.from_rm ?_ (by decide)))) ?_
  refine AGo.seq ?_
  refine AGo.region ?_
  refine AOps.s 23 rfl rfl rfl (q_bin (r := .bool true) rfl rfl rfl (by rfl)) ?_
  refine AOps.nil ?_
  refine AGo.seq ?_
  refine AGo.cond_true true rfl rfl ?_
  refine AGo.skip ?_
  refine AGo.seq ?_
  refine AGo.block ?_
  refine AGo.seq ?_
  refine AGo.region ?_
  refine AOps.s 24 rfl rfl rfl (q_move (.inl rfl) rfl) ?_
  refine AOps.s 8 rfl rfl rfl (q_move (.inr rfl) rfl) ?_
  refine AOps.nil ?_
  refine AGo.draw mix ?_
  refine DOps.s 25 rfl rfl rfl (q_move (.inl rfl) rfl) ?_
  refine DOps.s 26 rfl rfl rfl (q_move (.inl rfl) rfl) ?_
  refine DOps.s 27 rfl rfl rfl (q_move (.inl rfl) rfl) ?_
  refine DOps.s 28 rfl rfl rfl (q_bin (r := .int .i64 0) rfl rfl rfl (by rfl)) ?_
  refine DOps.s 29 rfl rfl rfl (q_index_str (c := byteZ (shrW x.a0 24)) tok rfl rfl rfl rfl rfl (by decide) (by rfl)) ?_
  refine DOps.s 30 rfl rfl rfl (q_cvt tok rfl rfl rfl rfl rfl (r := (((byteZ (shrW x.a0 24)).toNat : Nat) : Int)) (by rw [IntKind.wrap_u32]; have := byte_lt (byteZ (shrW x.a0 24)); omega)) ?_
  refine DOps.s 31 rfl rfl rfl (q_bin (r := .int .u32 (shlW (byteZ (shrW x.a0 24)).toNat 24)) rfl rfl rfl (shlBin (by decide))) ?_
  refine DOps.s 32 rfl rfl rfl (q_move (.inl rfl) rfl) ?_
  refine DOps.s 33 rfl rfl rfl (q_move (.inl rfl) rfl) ?_
  refine DOps.s 34 rfl rfl rfl (q_bin (r := .int .i64 0) rfl rfl rfl (by rfl)) ?_
  refine DOps.s 35 rfl rfl rfl (q_bin (r := .int .i64 1) rfl rfl rfl (by rfl)) ?_
  refine DOps.s 36 rfl rfl rfl (q_index_str (c := byteZ (shrW x.a0 16)) tok rfl rfl rfl rfl rfl (by decide) (by rfl)) ?_
  refine DOps.s 37 rfl rfl rfl (q_cvt tok rfl rfl rfl rfl rfl (r := (((byteZ (shrW x.a0 16)).toNat : Nat) : Int)) (by rw [IntKind.wrap_u32]; have := byte_lt (byteZ (shrW x.a0 16)); omega)) ?_
  refine DOps.s 38 rfl rfl rfl (q_bin (r := .int .u32 (shlW (byteZ (shrW x.a0 16)).toNat 16)) rfl rfl rfl (shlBin (by decide))) ?_
  refine DOps.s 39 rfl rfl rfl (q_bin rfl rfl rfl rfl) ?_
  refine DOps.s 40 rfl rfl rfl (q_move (.inl rfl) rfl) ?_
  refine DOps.s 41 rfl rfl rfl (q_move (.inl rfl) rfl) ?_
  refine DOps.s 42 rfl rfl rfl (q_bin (r := .int .i64 0) rfl rfl rfl (by rfl)) ?_
  refine DOps.s 43 rfl rfl rfl (q_bin (r := .int .i64 2) rfl rfl rfl (by rfl)) ?_
  refine DOps.s 44 rfl rfl rfl (q_index_str (c := byteZ (shrW x.a0 8)) tok rfl rfl rfl rfl rfl (by decide) (by rfl)) ?_
  refine DOps.s 45 rfl rfl rfl (q_cvt tok rfl rfl rfl rfl rfl (r := (((byteZ (shrW x.a0 8)).toNat : Nat) : Int)) (by rw [IntKind.wrap_u32]; have := byte_lt (byteZ (shrW x.a0 8)); omega)) ?_
  refine DOps.s 46 rfl rfl rfl (q_bin (r := .int .u32 (shlW (byteZ (shrW x.a0 8)).toNat 8)) rfl rfl rfl (shlBin (by decide))) ?_
  refine DOps.s 47 rfl rfl rfl (q_bin rfl rfl rfl rfl) ?_
  refine DOps.s 48 rfl rfl rfl (q_move (.inl rfl) rfl) ?_
  refine DOps.s 49 rfl rfl rfl (q_move (.inl rfl) rfl) ?_
  refine DOps.s 50 rfl rfl rfl (q_bin (r := .int .i64 0) rfl rfl rfl (by rfl)) ?_
  refine DOps.s 51 rfl rfl rfl (q_bin (r := .int .i64 3) rfl rfl rfl (by rfl)) ?_
  refine DOps.s 52 rfl rfl rfl (q_index_str (c := byteZ x.a0) tok rfl rfl rfl rfl rfl (by decide) (by rfl)) ?_
  refine DOps.s 53 rfl rfl rfl (q_cvt tok rfl rfl rfl rfl rfl (r := (((byteZ x.a0).toNat : Nat) : Int)) (by rw [IntKind.wrap_u32]; have := byte_lt (byteZ x.a0); omega)) ?_
  refine DOps.s 54 rfl rfl rfl (q_bin rfl rfl rfl rfl) ?_
  refine DOps.s 55 rfl rfl rfl (q_index_arr tok rfl rfl rfl rfl rfl rfl (by decide) (by decide) rfl) ?_
  refine DOps.w rfl rfl (o_store tok rfl rfl rfl rfl rfl rfl rfl rfl rfl (by decide) rfl (by first | exact fun _ => rfl | (intro h; cases h))) ?_
  refine DOps.nil (by kernel_rfl) ?_
  refine AGo.region ?_
  refine AOps.s 56 rfl rfl rfl (q_bin (r := .int .i64 1) rfl rfl rfl (by rfl)) ?_
  refine AOps.s 22 rfl rfl rfl (q_move (.inl rfl) rfl) ?_
  refine AOps.nil ?_
  refine AGo.un_succ (n := 2) ?_
  refine AGo.sub (s' := ⟨58, (eput (eput (eput (eput eNew 2 (.ptr 0 1 0 0)) 4 (.str ⟨(digBytes x).toArray⟩)) 7 (.ptr 1 1 0 0)) 22 (.int .i64 1)), (hput (hput (hFrom 2) 0 (.row false 4 [[.int .u32 0, .int .u32 0, .int .u32 0, .int .u32 0]])) 1 (.row false 4 [[.int .u32 x.a0, .int .u32 0, .int .u32 0, .int .u32 0]]))⟩) (Sub.mk' (by repeat (first | exact ESub.new _ | refine ESub.put ?_ (by rfl))) (by repeat (first | exact HSub.refl _ | exact HSub.none _ | exact HSub.from_new _ | exact HSub.from_from (by first | decide | omega | (dsimp only; omega)) | refine HSub.put ?_ (by first | rfl | exact congrArg (fun v : Int => some (AObj.row false 4 [[.int .u32 v, .int .u32 0, .int .u32 0, .int .u32 0]])) (be_join hx.h0) | exact congrArg (fun v : Int => some (AObj.row false 4 [[.int .u32 v, .int .u32 0, .int .u32 0, .int .u32 0]])) (be_join hx.h0).symm) | refine HSub.from_put ?_ (by first | decide | omega | (dsimp only; omega)) | refine HSub.from_rm ?_ (by decide)))) ?_
  refine AGo.seq ?_
  refine AGo.region ?_
  refine AOps.s 23 rfl rfl rfl (q_bin (r := .bool true) rfl rfl rfl (by rfl)) ?_
  refine AOps.nil ?_
  refine AGo.seq ?_
  refine AGo.cond_true true rfl rfl ?_
  refine AGo.skip ?_
  refine AGo.seq ?_
  refine AGo.block ?_
  refine AGo.seq ?_
  refine AGo.region ?_
  refine AOps.s 24 rfl rfl rfl (q_move (.inl rfl) rfl) ?_
  refine AOps.s 8 rfl rfl rfl (q_move (.inr rfl) rfl) ?_
  refine AOps.nil ?_
  refine AGo.draw mix ?_
  refine DOps.s 25 rfl rfl rfl (q_move (.inl rfl) rfl) ?_
  refine DOps.s 26 rfl rfl rfl (q_move (.inl rfl) rfl) ?_
  refine DOps.s 27 rfl rfl rfl (q_move (.inl rfl) rfl) ?_
  refine DOps.s 28 rfl rfl rfl (q_bin (r := .int .i64 4) rfl rfl rfl (by rfl)) ?_
  refine DOps.s 29 rfl rfl rfl (q_index_str (c := byteZ (shrW x.a1 24)) tok rfl rfl rfl rfl rfl (by decide) (by rfl)) ?_
  refine DOps.s 30 rfl rfl rfl (q_cvt tok rfl rfl rfl rfl rfl (r := (((byteZ (shrW x.a1 24)).toNat : Nat) : Int)) (by rw [IntKind.wrap_u32]; have := byte_lt (byteZ (shrW x.a1 24)); omega)) ?_
  refine DOps.s 31 rfl rfl rfl (q_bin (r := .int .u32 (shlW (byteZ (shrW x.a1 24)).toNat 24)) rfl rfl rfl (shlBin (by decide))) ?_
  refine DOps.s 32 rfl rfl rfl (q_move (.inl rfl) rfl) ?_
  refine DOps.s 33 rfl rfl rfl (q_move (.inl rfl) rfl) ?_
  refine DOps.s 34 rfl rfl rfl (q_bin (r := .int .i64 4) rfl rfl rfl (by rfl)) ?_
  refine DOps.s 35 rfl rfl rfl (q_bin (r := .int .i64 5) rfl rfl rfl (by rfl)) ?_
  refine DOps.s 36 rfl rfl rfl (q_index_str (c := byteZ (shrW x.a1 16)) tok rfl rfl rfl rfl rfl (by decide) (by rfl)) ?_
  refine DOps.s 37 rfl rfl rfl (q_cvt tok rfl rfl rfl rfl rfl (r := (((byteZ (shrW x.a1 16)).toNat : Nat) : Int)) (by rw [IntKind.wrap_u32]; have := byte_lt (byteZ (shrW x.a1 16)); omega)) ?_
  refine DOps.s 38 rfl rfl rfl (q_bin (r := .int .u32 (shlW (byteZ (shrW x.a1 16)).toNat 16)) rfl rfl rfl (shlBin (by decide))) ?_
  refine DOps.s 39 rfl rfl rfl (q_bin rfl rfl rfl rfl) ?_
  refine DOps.s 40 rfl rfl rfl (q_move (.inl rfl) rfl) ?_
  refine DOps.s 41 rfl rfl rfl (q_move (.inl rfl) rfl) ?_
  refine DOps.s 42 rfl rfl rfl (q_bin (r := .int .i64 4) rfl rfl rfl (by rfl)) ?_
  refine DOps.s 43 rfl rfl rfl (q_bin (r := .int .i64 6) rfl rfl rfl (by rfl)) ?_
  refine DOps.s 44 rfl rfl rfl (q_index_str (c := byteZ (shrW x.a1 8)) tok rfl rfl rfl rfl rfl (by decide) (by rfl)) ?_
  refine DOps.s 45 rfl rfl rfl (q_cvt tok rfl rfl rfl rfl rfl (r := (((byteZ (shrW x.a1 8)).toNat : Nat) : Int)) (by rw [IntKind.wrap_u32]; have := byte_lt (byteZ (shrW x.a1 8)); omega)) ?_
  refine DOps.s 46 rfl rfl rfl (q_bin (r := .int .u32 (shlW (byteZ (shrW x.a1 8)).toNat 8)) rfl rfl rfl (shlBin (by decide))) ?_
  refine DOps.s 47 rfl rfl rfl (q_bin rfl rfl rfl rfl) ?_
  refine DOps.s 48 rfl rfl rfl (q_move (.inl rfl) rfl) ?_
  refine DOps.s 49 rfl rfl rfl (q_move (.inl rfl) rfl) ?_
  refine DOps.s 50 rfl rfl rfl (q_bin (r := .int .i64 4) rfl rfl rfl (by rfl)) ?_
  refine DOps.s 51 rfl rfl rfl (q_bin (r := .int .i64 7) rfl rfl rfl (by rfl)) ?_
  refine DOps.s 52 rfl rfl rfl (q_index_str (c := byteZ x.a1) tok rfl rfl rfl rfl rfl (by decide) (by rfl)) ?_
  refine DOps.s 53 rfl rfl rfl (q_cvt tok rfl rfl rfl rfl rfl (r := (((byteZ x.a1).toNat : Nat) : Int)) (by rw [IntKind.wrap_u32]; have := byte_lt (byteZ x.a1); omega)) ?_
  refine DOps.s 54 rfl rfl rfl (q_bin rfl rfl rfl rfl) ?_
  refine DOps.s 55 rfl rfl rfl (q_index_arr tok rfl rfl rfl rfl rfl rfl (by decide) (by decide) rfl) ?_
  refine DOps.w rfl rfl (o_store tok rfl rfl rfl rfl rfl rfl rfl rfl rfl (by decide) rfl (by first | exact fun _ => rfl | (intro h; cases h))) ?_
  refine DOps.nil (by kernel_rfl) ?_
  refine AGo.region ?_
  refine AOps.s 56 rfl rfl rfl (q_bin (r := .int .i64 2) rfl rfl rfl (by rfl)) ?_
  refine AOps.s 22 rfl rfl rfl (q_move (.inl rfl) rfl) ?_
  refine AOps.nil ?_
  refine AGo.un_succ (n := 1) ?_
  refine AGo.sub (s' := ⟨58, (eput (eput (eput (eput eNew 2 (.ptr 0 1 0 0)) 4 (.str ⟨(digBytes x).toArray⟩)) 7 (.ptr 1 1 0 0)) 22 (.int .i64 2)), (hput (hput (hFrom 2) 0 (.row false 4 [[.int .u32 0, .int .u32 0, .int .u32 0, .int .u32 0]])) 1 (.row false 4 [[.int .u32 x.a0, .int .u32 x.a1, .int .u32 0, .int .u32 0]]))⟩) (Sub.mk' (by repeat (first | exact ESub.new _ | refine ESub.put ?_ (by rfl))) (by repeat (first | exact HSub.refl _ | exact HSub.none _ | exact HSub.from_new _ | exact HSub.from_from (by first | decide | omega | (dsimp only; omega)) | refine HSub.put ?_ (by first | rfl | exact congrArg (fun v : Int => some (AObj.row false 4 [[.int .u32 x.a0, .int .u32 v, .int .u32 0, .int .u32 0]])) (be_join hx.h1) | exact congrArg (fun v : Int => some (AObj.row false 4 [[.int .u32 x.a0, .int .u32 v, .int .u32 0, .int .u32 0]])) (be_join hx.h1).symm) | refine HSub.from_put ?_ (by first | decide | omega | (dsimp only; omega)) | refine HSub.from_rm ?_ (by decide)))) ?_
  refine AGo.seq ?_
  refine AGo.region ?_
  refine AOps.s 23 rfl rfl rfl (q_bin (r := .bool true) rfl rfl rfl (by rfl)) ?_
  refine AOps.nil ?_
  refine AGo.seq ?_
  refine AGo.cond_true true rfl rfl ?_
  refine AGo.skip ?_
  refine AGo.seq ?_
  refine AGo.block ?_
  refine AGo.seq ?_
  refine AGo.region ?_
  refine AOps.s 24 rfl rfl rfl (q_move (.inl rfl) rfl) ?_
  refine AOps.s 8 rfl rfl rfl (q_move (.inr rfl) rfl) ?_
  refine AOps.nil ?_
  refine AGo.draw mix ?_
  refine DOps.s 25 rfl rfl rfl (q_move (.inl rfl) rfl) ?_
  refine DOps.s 26 rfl rfl rfl (q_move (.inl rfl) rfl) ?_
  refine DOps.s 27 rfl rfl rfl (q_move (.inl rfl) rfl) ?_
  refine DOps.s 28 rfl rfl rfl (q_bin (r := .int .i64 8) rfl rfl rfl (by rfl)) ?_
  refine DOps.s 29 rfl rfl rfl (q_index_str (c := byteZ (shrW x.a2 24)) tok rfl rfl rfl rfl rfl (by decide) (by rfl)) ?_
  refine DOps.s 30 rfl rfl rfl (q_cvt tok rfl rfl rfl rfl rfl (r := (((byteZ (shrW x.a2 24)).toNat : Nat) : Int)) (by rw [IntKind.wrap_u32]; have := byte_lt (byteZ (shrW x.a2 24)); omega)) ?_
  refine DOps.s 31 rfl rfl rfl (q_bin (r := .int .u32 (shlW (byteZ (shrW x.a2 24)).toNat 24)) rfl rfl rfl (shlBin (by decide))) ?_
  refine DOps.s 32 rfl rfl rfl (q_move (.inl rfl) rfl) ?_
  refine DOps.s 33 rfl rfl rfl (q_move (.inl rfl) rfl) ?_
  refine DOps.s 34 rfl rfl rfl (q_bin (r := .int .i64 8) rfl rfl rfl (by rfl)) ?_
  refine DOps.s 35 rfl rfl rfl (q_bin (r := .int .i64 9) rfl rfl rfl (by rfl)) ?_
  refine DOps.s 36 rfl rfl rfl (q_index_str (c := byteZ (shrW x.a2 16)) tok rfl rfl rfl rfl rfl (by decide) (by rfl)) ?_
  refine DOps.s 37 rfl rfl rfl (q_cvt tok rfl rfl rfl rfl rfl (r := (((byteZ (shrW x.a2 16)).toNat : Nat) : Int)) (by rw [IntKind.wrap_u32]; have := byte_lt (byteZ (shrW x.a2 16)); omega)) ?_
  refine DOps.s 38 rfl rfl rfl (q_bin (r := .int .u32 (shlW (byteZ (shrW x.a2 16)).toNat 16)) rfl rfl rfl (shlBin (by decide))) ?_
  refine DOps.s 39 rfl rfl rfl (q_bin rfl rfl rfl rfl) ?_
  refine DOps.s 40 rfl rfl rfl (q_move (.inl rfl) rfl) ?_
  refine DOps.s 41 rfl rfl rfl (q_move (.inl rfl) rfl) ?_
  refine DOps.s 42 rfl rfl rfl (q_bin (r := .int .i64 8) rfl rfl rfl (by rfl)) ?_
  refine DOps.s 43 rfl rfl rfl (q_bin (r := .int .i64 10) rfl rfl rfl (by rfl)) ?_
  refine DOps.s 44 rfl rfl rfl (q_index_str (c := byteZ (shrW x.a2 8)) tok rfl rfl rfl rfl rfl (by decide) (by rfl)) ?_
  refine DOps.s 45 rfl rfl rfl (q_cvt tok rfl rfl rfl rfl rfl (r := (((byteZ (shrW x.a2 8)).toNat : Nat) : Int)) (by rw [IntKind.wrap_u32]; have := byte_lt (byteZ (shrW x.a2 8)); omega)) ?_
  refine DOps.s 46 rfl rfl rfl (q_bin (r := .int .u32 (shlW (byteZ (shrW x.a2 8)).toNat 8)) rfl rfl rfl (shlBin (by decide))) ?_
  refine DOps.s 47 rfl rfl rfl (q_bin rfl rfl rfl rfl) ?_
  refine DOps.s 48 rfl rfl rfl (q_move (.inl rfl) rfl) ?_
  refine DOps.s 49 rfl rfl rfl (q_move (.inl rfl) rfl) ?_
  refine DOps.s 50 rfl rfl rfl (q_bin (r := .int .i64 8) rfl rfl rfl (by rfl)) ?_
  refine DOps.s 51 rfl rfl rfl (q_bin (r := .int .i64 11) rfl rfl rfl (by rfl)) ?_
  refine DOps.s 52 rfl rfl rfl (q_index_str (c := byteZ x.a2) tok rfl rfl rfl rfl rfl (by decide) (by rfl)) ?_
  refine DOps.s 53 rfl rfl rfl (q_cvt tok rfl rfl rfl rfl rfl (r := (((byteZ x.a2).toNat : Nat) : Int)) (by rw [IntKind.wrap_u32]; have := byte_lt (byteZ x.a2); omega)) ?_
  refine DOps.s 54 rfl rfl rfl (q_bin rfl rfl rfl rfl) ?_
  refine DOps.s 55 rfl rfl rfl (q_index_arr tok rfl rfl rfl rfl rfl rfl (by decide) (by decide) rfl) ?_
  refine DOps.w rfl rfl (o_store tok rfl rfl rfl rfl rfl rfl rfl rfl rfl (by decide) rfl (by first | exact fun _ => rfl | (intro h; cases h))) ?_
  refine DOps.nil (by kernel_rfl) ?_
  refine AGo.region ?_
  refine AOps.s 56 rfl rfl rfl (q_bin (r := .int .i64 3) rfl rfl rfl (by rfl)) ?_
  refine AOps.s 22 rfl rfl rfl (q_move (.inl rfl) rfl) ?_
  refine AOps.nil ?_
  refine AGo.un_succ (n := 0) ?_
  refine AGo.sub (s' := ⟨58, (eput (eput (eput (eput eNew 2 (.ptr 0 1 0 0)) 4 (.str ⟨(digBytes x).toArray⟩)) 7 (.ptr 1 1 0 0)) 22 (.int .i64 3)), (hput (hput (hFrom 2) 0 (.row false 4 [[.int .u32 0, .int .u32 0, .int .u32 0, .int .u32 0]])) 1 (.row false 4 [[.int .u32 x.a0, .int .u32 x.a1, .int .u32 x.a2, .int .u32 0]]))⟩) (Sub.mk' (by repeat (first | exact ESub.new _ | refine ESub.put ?_ (by rfl))) (by repeat (first | exact HSub.refl _ | exact HSub.none _ | exact HSub.from_new _ | exact HSub.from_from (by first | decide | omega | (dsimp only; omega)) | refine HSub.put ?_ (by first | rfl | exact congrArg (fun v : Int => some (AObj.row false 4 [[.int .u32 x.a0, .int .u32 x.a1, .int .u32 v, .int .u32 0]])) (be_join hx.h2) | exact congrArg (fun v : Int => some (AObj.row false 4 [[.int .u32 x.a0, .int .u32 x.a1, .int .u32 v, .int .u32 0]])) (be_join hx.h2).symm) | refine HSub.from_put ?_ (by first | decide | omega | (dsimp only; omega)) | refine HSub.from_rm ?_ (by decide)))) ?_
  refine AGo.seq ?_
  refine AGo.region ?_
  refine AOps.s 23 rfl rfl rfl (q_bin (r := .bool true) rfl rfl rfl (by rfl)) ?_
  refine AOps.nil ?_
  refine AGo.seq ?_
  refine AGo.cond_true true rfl rfl ?_
  refine AGo.skip ?_
  refine AGo.seq ?_
  refine AGo.block ?_
  refine AGo.seq ?_
  refine AGo.region ?_
  refine AOps.s 24 rfl rfl rfl (q_move (.inl rfl) rfl) ?_
  refine AOps.s 8 rfl rfl rfl (q_move (.inr rfl) rfl) ?_
  refine AOps.nil ?_
  refine AGo.draw mix ?_
  refine DOps.s 25 rfl rfl rfl (q_move (.inl rfl) rfl) ?_
  refine DOps.s 26 rfl rfl rfl (q_move (.inl rfl) rfl) ?_
  refine DOps.s 27 rfl rfl rfl (q_move (.inl rfl) rfl) ?_
  refine DOps.s 28 rfl rfl rfl (q_bin (r := .int .i64 12) rfl rfl rfl (by rfl)) ?_
  refine DOps.s 29 rfl rfl rfl (q_index_str (c := byteZ (shrW x.a3 24)) tok rfl rfl rfl rfl rfl (by decide) (by rfl)) ?_
  refine DOps.s 30 rfl rfl rfl (q_cvt tok rfl rfl rfl rfl rfl (r := (((byteZ (shrW x.a3 24)).toNat : Nat) : Int)) (by rw [IntKind.wrap_u32]; have := byte_lt (byteZ (shrW x.a3 24)); omega)) ?_
  refine DOps.s 31 rfl rfl rfl (q_bin (r := .int .u32 (shlW (byteZ (shrW x.a3 24)).toNat 24)) rfl rfl rfl (shlBin (by decide))) ?_
  refine DOps.s 32 rfl rfl rfl (q_move (.inl rfl) rfl) ?_
  refine DOps.s 33 rfl rfl rfl (q_move (.inl rfl) rfl) ?_
  refine DOps.s 34 rfl rfl rfl (q_bin (r := .int .i64 12) rfl rfl rfl (by rfl)) ?_
  refine DOps.s 35 rfl rfl rfl (q_bin (r := .int .i64 13) rfl rfl rfl (by rfl)) ?_
  refine DOps.s 36 rfl rfl rfl (q_index_str (c := byteZ (shrW x.a3 16)) tok rfl rfl rfl rfl rfl (by decide) (by rfl)) ?_
  refine DOps.s 37 rfl rfl rfl (q_cvt tok rfl rfl rfl rfl rfl (r := (((byteZ (shrW x.a3 16)).toNat : Nat) : Int)) (by rw [IntKind.wrap_u32]; have := byte_lt (byteZ (shrW x.a3 16)); omega)) ?_
  refine DOps.s 38 rfl rfl rfl (q_bin (r := .int .u32 (shlW (byteZ (shrW x.a3 16)).toNat 16)) rfl rfl rfl (shlBin (by decide))) ?_
  refine DOps.s 39 rfl rfl rfl (q_bin rfl rfl rfl rfl) ?_
  refine DOps.s 40 rfl rfl rfl (q_move (.inl rfl) rfl) ?_
  refine DOps.s 41 rfl rfl rfl (q_move (.inl rfl) rfl) ?_
  refine DOps.s 42 rfl rfl rfl (q_bin (r := .int .i64 12) rfl rfl rfl (by rfl)) ?_
  refine DOps.s 43 rfl rfl rfl (q_bin (r := .int .i64 14) rfl rfl rfl (by rfl)) ?_
  refine DOps.s 44 rfl rfl rfl (q_index_str (c := byteZ (shrW x.a3 8)) tok rfl rfl rfl rfl rfl (by decide) (by rfl)) ?_
  refine DOps.s 45 rfl rfl rfl (q_cvt tok rfl rfl rfl rfl rfl (r := (((byteZ (shrW x.a3 8)).toNat : Nat) : Int)) (by rw [IntKind.wrap_u32]; have := byte_lt (byteZ (shrW x.a3 8)); omega)) ?_
  refine DOps.s 46 rfl rfl rfl (q_bin (r := .int .u32 (shlW (byteZ (shrW x.a3 8)).toNat 8)) rfl rfl rfl (shlBin (by decide))) ?_
  refine DOps.s 47 rfl rfl rfl (q_bin rfl rfl rfl rfl) ?_
  refine DOps.s 48 rfl rfl rfl (q_move (.inl rfl) rfl) ?_
  refine DOps.s 49 rfl rfl rfl (q_move (.inl rfl) rfl) ?_
  refine DOps.s 50 rfl rfl rfl (q_bin (r := .int .i64 12) rfl rfl rfl (by rfl)) ?_
  refine DOps.s 51 rfl rfl rfl (q_bin (r := .int .i64 15) rfl rfl rfl (by rfl)) ?_
  refine DOps.s 52 rfl rfl rfl (q_index_str (c := byteZ x.a3) tok rfl rfl rfl rfl rfl (by decide) (by rfl)) ?_
  refine DOps.s 53 rfl rfl rfl (q_cvt tok rfl rfl rfl rfl rfl (r := (((byteZ x.a3).toNat : Nat) : Int)) (by rw [IntKind.wrap_u32]; have := byte_lt (byteZ x.a3); omega)) ?_
  refine DOps.s 54 rfl rfl rfl (q_bin rfl rfl rfl rfl) ?_
  refine DOps.s 55 rfl rfl rfl (q_index_arr tok rfl rfl rfl rfl rfl rfl (by decide) (by decide) rfl) ?_
  refine DOps.w rfl rfl (o_store tok rfl rfl rfl rfl rfl rfl rfl rfl rfl (by decide) rfl (by first | exact fun _ => rfl | (intro h; cases h))) ?_
  refine DOps.nil (by kernel_rfl) ?_
  refine AGo.region ?_
  refine AOps.s 56 rfl rfl rfl (q_bin (r := .int .i64 4) rfl rfl rfl (by rfl)) ?_
  refine AOps.s 22 rfl rfl rfl (q_move (.inl rfl) rfl) ?_
  refine AOps.nil ?_
  refine AGo.un_zero ?_
  refine AGo.sub (s' := ⟨58, (eput (eput (eput (eput eNew 2 (.ptr 0 1 0 0)) 4 (.str ⟨(digBytes x).toArray⟩)) 7 (.ptr 1 1 0 0)) 22 (.int .i64 4)), (hput (hput (hFrom 2) 0 (.row false 4 [[.int .u32 0, .int .u32 0, .int .u32 0, .int .u32 0]])) 1 (.row false 4 [[.int .u32 x.a0, .int .u32 x.a1, .int .u32 x.a2, .int .u32 x.a3]]))⟩) (Sub.mk' (by repeat (first | exact ESub.new _ | refine ESub.put ?_ (by rfl))) (by repeat (first | exact HSub.refl _ | exact HSub.none _ | exact HSub.from_new _ | exact HSub.from_from (by first | decide | omega | (dsimp only; omega)) | refine HSub.put ?_ (by first | rfl | exact congrArg (fun v : Int => some (AObj.row false 4 [[.int .u32 x.a0, .int .u32 x.a1, .int .u32 x.a2, .int .u32 v]])) (be_join hx.h3) | exact congrArg (fun v : Int => some (AObj.row false 4 [[.int .u32 x.a0, .int .u32 x.a1, .int .u32 x.a2, .int .u32 v]])) (be_join hx.h3).symm) | refine HSub.from_put ?_ (by first | decide | omega | (dsimp only; omega)) | refine HSub.from_rm ?_ (by decide)))) ?_
  refine AGo.seq ?_
  refine AGo.region ?_
  refine AOps.s 23 rfl rfl rfl (q_bin (r := .bool false) rfl rfl rfl (by rfl)) ?_
  refine AOps.nil ?_
  refine AGo.seq ?_
  refine AGo.cond_false false rfl rfl ?_
  refine AGo.exit ?_
  refine AGo.seq ?_
  refine AGo.region ?_
  refine AOps.s 57 rfl rfl rfl (q_load tok rfl rfl rfl (by first | exact .loc _ | exact .ptr _ _ _ _ _ _ _ _ rfl rfl rfl) rfl) ?_
  refine AOps.w rfl rfl (o_store tok rfl rfl rfl rfl rfl rfl rfl rfl rfl (by decide) rfl (by first | exact fun _ => rfl | (intro h; cases h))) ?_
  refine AOps.s 3 rfl rfl rfl (q_move (.inr rfl) rfl) ?_
  refine AOps.nil ?_
  refine AGo.ret ?_
  refine ⟨[_, _], ⟨⟨_, _, _, _, rfl, rfl, .ptr _ _ _ _ _ _ _ _ rfl rfl rfl, rfl⟩, rfl, trivial⟩, ?_, rfl⟩
  rfl

end Go.Proofs.YtmckdaonemcnaaaDoor.Sv

namespace Go.Proofs.YtmckdaonemcnaaaDoor.Sv
open Go
set_option linter.unusedVariables false
set_option linter.unusedSimpArgs false

set_option maxRecDepth 100000 in
theorem law_ok (a b : ByteArray) : APure Tryd.prog 3 [.str a, .str b] (fun r => r = .bool true) := by
  refine APure.of_body (n := 55) tok Tryd.func3 rfl rfl ?_
  refine AGo.seq ?_
  refine AGo.region ?_
  refine AOps.s 4 rfl rfl rfl (q_move (.inr rfl) rfl) ?_
  refine AOps.nil ?_
  refine AGo.seq ?_
  refine AGo.seq ?_
  refine AGo.region ?_
  refine AOps.s 9 rfl rfl rfl (q_move (.inl rfl) rfl) ?_
  refine AOps.s 10 rfl rfl rfl (q_len tok rfl rfl rfl rfl rfl) ?_
  refine AOps.s 11 rfl rfl rfl (q_bin rfl rfl rfl rfl) ?_
  refine AOps.s 12 rfl rfl rfl (q_move (.inl rfl) rfl) ?_
  refine AOps.split 12 rfl (fun hb1 => ?_) (fun hb1 => ?_)
  · -- True
    refine AOps.k 13 rfl rfl rfl ?_
    refine AOps.k 14 rfl rfl rfl ?_
    refine AOps.k 15 rfl rfl rfl ?_
    refine AOps.s 16 rfl rfl rfl (q_pick_true true rfl rfl rfl rfl) ?_
    refine AOps.nil ?_
    refine AGo.cond_true true rfl rfl ?_
    refine AGo.seq ?_
    refine AGo.region ?_
    refine AOps.s 4 rfl rfl rfl (q_move (.inr rfl) rfl) ?_
    refine AOps.nil ?_
    refine AGo.ret ?_
    refine ⟨[_], ⟨rfl, trivial⟩, ?_, rfl⟩
    first | rfl | exact congrArg AV.bool (top15_end (digW_ok a) (digW_ok b))
  · -- False
    have ha : a.size ≤ 200 := by have h := hb1; simp only [decide_eq_false_iff_not] at h; omega
    refine AOps.s 13 rfl rfl rfl (q_move (.inl rfl) rfl) ?_
    refine AOps.s 14 rfl rfl rfl (q_len tok rfl rfl rfl rfl rfl) ?_
    refine AOps.s 15 rfl rfl rfl (q_bin rfl rfl rfl rfl) ?_
    refine AOps.s 16 rfl rfl rfl (q_pick_false false rfl rfl rfl rfl) ?_
    refine AOps.nil ?_
    refine AGo.split 16 rfl (fun hb2 => ?_) (fun hb2 => ?_)
    · -- True
      refine AGo.cond_true true rfl rfl ?_
      refine AGo.seq ?_
      refine AGo.region ?_
      refine AOps.s 4 rfl rfl rfl (q_move (.inr rfl) rfl) ?_
      refine AOps.nil ?_
      refine AGo.ret ?_
      refine ⟨[_], ⟨rfl, trivial⟩, ?_, rfl⟩
      first | rfl | exact congrArg AV.bool (top15_end (digW_ok a) (digW_ok b))
    · -- False
      refine AGo.cond_false false rfl rfl ?_
      have hb : b.size ≤ 200 := by have h := hb2; simp only [decide_eq_false_iff_not] at h; omega
      refine AGo.skip ?_
      refine AGo.seq ?_
      refine AGo.region ?_
      refine AOps.s 17 rfl rfl rfl (q_move (.inl rfl) rfl) ?_
      refine AOps.x 18 rfl rfl rfl (o_pure rfl Tryd.func4 (by kernel_rfl) rfl rfl rfl (digOf_ok a (by omega))) ?_
      refine AOps.s 19 rfl rfl rfl (q_move (.inl rfl) rfl) ?_
      refine AOps.x 20 rfl rfl rfl (o_pure rfl Tryd.func4 (by kernel_rfl) rfl rfl rfl (digOf_ok b (by omega))) ?_
      refine AOps.x 5 rfl rfl rfl (o_alloc tok 0 rfl rfl rfl rfl (Nat.zero_lt_succ _) rfl) ?_
      refine AOps.x 6 rfl rfl rfl (o_alloc tok 1 rfl rfl rfl rfl (Nat.zero_lt_succ _) rfl) ?_
      refine AOps.w rfl rfl (o_store tok rfl rfl rfl rfl rfl rfl rfl rfl rfl (by decide) rfl (by first | exact fun _ => rfl | (intro h; cases h))) ?_
      refine AOps.w rfl rfl (o_store tok rfl rfl rfl rfl rfl rfl rfl rfl rfl (by decide) rfl (by first | exact fun _ => rfl | (intro h; cases h))) ?_
      refine AOps.nil ?_
      refine AGo.seq ?_
      refine AGo.region ?_
      refine AOps.s 22 rfl rfl rfl (q_load tok rfl rfl rfl (by first | exact .loc _ | exact .ptr _ _ _ _ _ _ _ _ rfl rfl rfl) rfl) ?_
      refine AOps.x 23 rfl rfl rfl (o_pure rfl Tryd.func6 (by kernel_rfl) rfl rfl rfl (digText_ok (digW a) (digW_ok a))) ?_
      refine AOps.x 24 rfl rfl rfl (o_pure rfl Tryd.func5 (by kernel_rfl) rfl rfl rfl (digParse_ok (digW a) (digW_ok a))) ?_
      refine AOps.s 21 rfl rfl rfl (q_move (.inl rfl) rfl) ?_
      refine AOps.s 25 rfl rfl rfl (q_extract rfl rfl rfl) ?_
      refine AOps.s 26 rfl rfl rfl (q_extract rfl rfl rfl) ?_
      refine AOps.x 7 rfl rfl rfl (o_alloc tok 2 rfl rfl rfl rfl (Nat.zero_lt_succ _) rfl) ?_
      refine AOps.w rfl rfl (o_store tok rfl rfl rfl rfl rfl rfl rfl rfl rfl (by decide) rfl (by first | exact fun _ => rfl | (intro h; cases h))) ?_
      refine AOps.s 8 rfl rfl rfl (q_move (.inr rfl) rfl) ?_
      refine AOps.nil ?_
      refine AGo.seq ?_
      refine AGo.draw mix ?_
      refine DOps.s 27 rfl rfl rfl (q_move (.inl rfl) rfl) ?_
      refine DOps.s 28 rfl rfl rfl (q_bin rfl rfl rfl rfl) ?_
      refine DOps.s 29 rfl rfl rfl (q_move (.inl rfl) rfl) ?_
      refine DOps.s 30 rfl rfl rfl (q_load tok rfl rfl rfl (by first | exact .loc _ | exact .ptr _ _ _ _ _ _ _ _ rfl rfl rfl) rfl) ?_
      refine DOps.s 31 rfl rfl rfl (q_load tok rfl rfl rfl (by first | exact .loc _ | exact .ptr _ _ _ _ _ _ _ _ rfl rfl rfl) rfl) ?_
      refine DOps.s 32 rfl rfl rfl (q_eqDig tok (digW a) (digW a) (r := true) rfl rfl rfl (by kernel_rfl) rfl rfl rfl rfl rfl (by kernel_rfl) (by simp)) ?_
      refine DOps.s 33 rfl rfl rfl (q_pick_true true rfl rfl rfl rfl) ?_
      refine DOps.s 34 rfl rfl rfl (q_move (.inl rfl) rfl) ?_
      refine DOps.s 35 rfl rfl rfl (q_move (.inl rfl) rfl) ?_
      refine DOps.s 36 rfl rfl rfl (q_move (.inl rfl) rfl) ?_
      refine DOps.s 37 rfl rfl rfl (q_bin rfl rfl rfl rfl) ?_
      refine DOps.s 38 rfl rfl rfl (q_move (.inl rfl) rfl) ?_
      refine DOps.split 38 rfl (fun hb3 => ?_) (fun hb3 => ?_)
      · -- True
        refine DOps.u 39 rfl rfl rfl ?_
        refine DOps.u 40 rfl rfl rfl ?_
        refine DOps.u 41 rfl rfl rfl ?_
        refine DOps.s 42 rfl rfl rfl (q_pick_true true rfl rfl rfl rfl) ?_
        refine DOps.s 43 rfl rfl rfl (q_pick_true true rfl rfl rfl rfl) ?_
        refine DOps.s 44 rfl rfl rfl (q_move (.inl rfl) rfl) ?_
        refine DOps.s 45 rfl rfl rfl (q_load tok rfl rfl rfl (by first | exact .loc _ | exact .ptr _ _ _ _ _ _ _ _ rfl rfl rfl) rfl) ?_
        refine DOps.x 46 rfl rfl rfl (o_pure rfl Tryd.func6 (by kernel_rfl) rfl rfl rfl (digText_ok (digW a) (digW_ok a))) ?_
        refine DOps.s 47 rfl rfl rfl (q_load tok rfl rfl rfl (by first | exact .loc _ | exact .ptr _ _ _ _ _ _ _ _ rfl rfl rfl) rfl) ?_
        refine DOps.x 48 rfl rfl rfl (o_pure rfl Tryd.func6 (by kernel_rfl) rfl rfl rfl (digText_ok (digW b) (digW_ok b))) ?_
        refine DOps.s 49 rfl rfl rfl (q_bin rfl rfl rfl rfl) ?_
        refine DOps.s 50 rfl rfl rfl (q_load tok rfl rfl rfl (by first | exact .loc _ | exact .ptr _ _ _ _ _ _ _ _ rfl rfl rfl) rfl) ?_
        refine DOps.s 51 rfl rfl rfl (q_load tok rfl rfl rfl (by first | exact .loc _ | exact .ptr _ _ _ _ _ _ _ _ rfl rfl rfl) rfl) ?_
        refine DOps.s 52 rfl rfl rfl (q_eqDig tok (digW a) (digW b) (r := decide (digW a = digW b)) rfl rfl rfl (by kernel_rfl) rfl rfl rfl rfl rfl (by kernel_rfl) rfl) ?_
        refine DOps.s 53 rfl rfl rfl (q_boolEq tok false rfl rfl rfl rfl rfl) ?_
        refine DOps.s 54 rfl rfl rfl (q_pick_true true rfl rfl rfl rfl) ?_
        refine DOps.s 4 rfl rfl rfl (q_move (.inr rfl) rfl) ?_
        refine DOps.nil (by kernel_rfl) ?_
        refine AGo.ret ?_
        refine ⟨[_], ⟨rfl, trivial⟩, ?_, rfl⟩
        first | rfl | exact congrArg AV.bool (top15_end (digW_ok a) (digW_ok b))
      · -- False
        have hab : a = b := str_eq hb3
        refine DOps.s 39 rfl rfl rfl (q_load tok rfl rfl rfl (by first | exact .loc _ | exact .ptr _ _ _ _ _ _ _ _ rfl rfl rfl) rfl) ?_
        refine DOps.s 40 rfl rfl rfl (q_load tok rfl rfl rfl (by first | exact .loc _ | exact .ptr _ _ _ _ _ _ _ _ rfl rfl rfl) rfl) ?_
        refine DOps.s 41 rfl rfl rfl (q_eqDig tok (digW a) (digW b) (r := true) rfl rfl rfl (by kernel_rfl) rfl rfl rfl rfl rfl (by kernel_rfl) (by have h := hab; subst h; simp)) ?_
        refine DOps.s 42 rfl rfl rfl (q_pick_false false rfl rfl rfl rfl) ?_
        refine DOps.s 43 rfl rfl rfl (q_pick_true true rfl rfl rfl rfl) ?_
        refine DOps.s 44 rfl rfl rfl (q_move (.inl rfl) rfl) ?_
        refine DOps.s 45 rfl rfl rfl (q_load tok rfl rfl rfl (by first | exact .loc _ | exact .ptr _ _ _ _ _ _ _ _ rfl rfl rfl) rfl) ?_
        refine DOps.x 46 rfl rfl rfl (o_pure rfl Tryd.func6 (by kernel_rfl) rfl rfl rfl (digText_ok (digW a) (digW_ok a))) ?_
        refine DOps.s 47 rfl rfl rfl (q_load tok rfl rfl rfl (by first | exact .loc _ | exact .ptr _ _ _ _ _ _ _ _ rfl rfl rfl) rfl) ?_
        refine DOps.x 48 rfl rfl rfl (o_pure rfl Tryd.func6 (by kernel_rfl) rfl rfl rfl (digText_ok (digW b) (digW_ok b))) ?_
        refine DOps.s 49 rfl rfl rfl (q_bin rfl rfl rfl rfl) ?_
        refine DOps.s 50 rfl rfl rfl (q_load tok rfl rfl rfl (by first | exact .loc _ | exact .ptr _ _ _ _ _ _ _ _ rfl rfl rfl) rfl) ?_
        refine DOps.s 51 rfl rfl rfl (q_load tok rfl rfl rfl (by first | exact .loc _ | exact .ptr _ _ _ _ _ _ _ _ rfl rfl rfl) rfl) ?_
        refine DOps.s 52 rfl rfl rfl (q_eqDig tok (digW a) (digW b) (r := decide (digW a = digW b)) rfl rfl rfl (by kernel_rfl) rfl rfl rfl rfl rfl (by kernel_rfl) rfl) ?_
        refine DOps.s 53 rfl rfl rfl (q_boolEq tok false rfl rfl rfl rfl rfl) ?_
        refine DOps.s 54 rfl rfl rfl (q_pick_true true rfl rfl rfl rfl) ?_
        refine DOps.s 4 rfl rfl rfl (q_move (.inr rfl) rfl) ?_
        refine DOps.nil (by kernel_rfl) ?_
        refine AGo.ret ?_
        refine ⟨[_], ⟨rfl, trivial⟩, ?_, rfl⟩
        first | rfl | exact congrArg AV.bool (top15_end (digW_ok a) (digW_ok b))

end Go.Proofs.YtmckdaonemcnaaaDoor.Sv
