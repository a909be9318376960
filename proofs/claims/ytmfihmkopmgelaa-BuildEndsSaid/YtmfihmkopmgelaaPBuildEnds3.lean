/-
  WORDS BECOME 0, a few one by one, many in rounds: own work.
  FUNCTIONS, AND WHOLE PROGRAMS, END AS THEIR BLOCKS DO: own work.
  WHAT IS BUILT IS THE CODE: how a function that is being built grows. Own work.
  WHAT IS BUILT IS THE CODE OF EXPRESSIONS: own work.
  WHAT IS BUILT IS THE CODE OF STATEMENTS, AND OF PROGRAMS: own work.
  WHAT IS BUILT IS THE CODE, STATEMENT BY STATEMENT, FUNCTION BY FUNCTION: own work.
  WHAT IS BUILT MAY BE: own work.
  WHAT IS BUILT MAY BE, AND ENDS AS THE PROGRAM DOES: own work.
  PROGRAMS WITHOUT NAMES AS ARGUMENTS: own work, over no program.
  How cores read: own work.
  QUEUES: x[l:] of a row, and what is put behind it; which place that takes isn't known beforehand: own work, over no program.
  CALLS THAT SEE ALL ROWS BUT SOME; LOOPS THAT FORGET SOME ROWS; SCOPES; SLICES OF NOTHING, NIL AND CLEAR: own work, over no program.
  CALLS THAT SEE ROWS AND LEAVE THEM AS THEY ARE: own work, over no program.
  THE GREATER ONE OF TWO NUMBERS: own work, over no program.
  LOOPS OF A KNOWN NUMBER OF ROUNDS, ONE ROUND BEHIND THE OTHER: own work, over no program.
  THE PARTS OF AN ARRAY THAT IS A VALUE: own work, over no program.
  STRINGS: ends, sums, and their bytes in a row of one's own: own work, over no program.
  ARRAYS OF NUMBERS: whether two are the same, and maps whose keys they are: own work, over no program.
  SLICES THAT BEGIN WITH NOTHING AND GROW, AND ROWS THAT MAY BE EMPTY, IN THE CELLS OF OTHER ROWS: own work, over no program.
  A slice that is copied behind nothing: own work.
  What is put behind nothing, or behind a list, may hold slices: own work.
  FAMILIES OF ROWS, whose numbers are told by a function; DRAWN REGIONS IN WHICH CALLS MAKE FAMILIES: own work, over no program.
  WHICH PROGRAMS WITHOUT NAMES MAY BE, AND HOW GREAT THEY ARE, in plain Lean: own work.
  WHAT MAY BE IS BUILT WELL: own work.
  WHAT A RUN OF A PROGRAM WITHOUT NAMES LEAVES AS IT IS: own work.
  PROGRAMS WITHOUT LOOPS AND CALLS, in plain Lean: own work.
  A STATEMENT THAT DOES NOTHING AHEAD OF EACH FUNCTION'S, in plain Lean: own work.
  THREE PROGRAMS OF THE LAWS, in plain Lean: own work.
  TWO MORE PROGRAMS OF THE LAWS, in plain Lean: own work.
-/
import Derived.Test.YtmfihmkopmgelaaPBuildEnds2
import Derived.Scope
import Derived.Lib.SliceRun
import Derived.Lib.ConvBytes
import Derived.WideKeyRuns
namespace Go.Proofs.Ytmfihmkopmgelaa.Sv
open Go
def Bd.zeros (b : Bd) (a : Int) : Nat → Bd
  | 0 => b
  | n + 1 => (b.zeros a n).put (iStore (a + n) 0)
def Bd.astores (b : Bd) (a : Int) (z : Int) : Nat → Bd
  | 0 => b
  | n + 1 => (b.astores a z n).put (iAStore 1 0 (a + n) z)
def Bd.chunk1 (b : Bd) (n : Nat) : Bd := ((b.put (iNum 1 0)).put (iNum 2 8)).put (iNum 3 n)
def Bd.chunk2 (b : Bd) : Bd := (b.opened.jump b.blocks.length).go b.blocks.length
def Bd.chunk3 (b : Bd) (l : Nat) : Bd := (b.opened.fork 4 l b.blocks.length).go b.blocks.length
def Bd.chunk (b : Bd) (a : Int) (n : Nat) : Bd := ((((b.chunk1 n).chunk2.astores a (n - 7) 8).put (iBin 4 1 1 2)).put (iBin 14 4 1 3)).chunk3 (b.chunk1 n).blocks.length
def chunkN (n : Nat) : Nat := min n 4096 / 8 * 8
def Bd.noughtG : Nat → Bd → Int → Nat → Bd
  | 0, b, _, _ => b
  | g + 1, b, a, n => if 64 < n then Bd.noughtG g (b.chunk a (chunkN n)) (a + chunkN n) (n - chunkN n) else b.zeros a n
def Bd.nought (b : Bd) (a : Int) (n : Nat) : Bd := if n = 0 then b else Bd.noughtG n (b.put (iNum 0 0)) a n
def ZerosAt (G : List Block) (a : Pos) (first : Int) (n : Nat) (b : Pos) : Prop := (∀ i, i < n → InsAt G (a.1, a.2 + i) (iStore (first + i) 0)) ∧ b = (a.1, a.2 + n)
def ChunkAt (G : List Block) (a : Pos) (first : Int) (n : Nat) (b : Pos) : Prop := InsAt G a (iNum 1 0) ∧ InsAt G (nx a) (iNum 2 8) ∧ InsAt G (nx (nx a)) (iNum 3 n) ∧ ∃ l h : Nat, EndAt G (nx (nx (nx a))) 1 0 l 0 ∧
  (∀ k, k < 8 → InsAt G (l, k) (iAStore 1 0 (first + k) (n - 7))) ∧ InsAt G (l, 8) (iBin 4 1 1 2) ∧ InsAt G (l, 9) (iBin 14 4 1 3) ∧ EndAt G (l, 10) 2 ((4 : Nat) : Int) l h ∧ b = (h, 0)
def NoughtG (G : List Block) : Nat → Pos → Int → Nat → Pos → Prop
  | 0, a, _, _, b => b = a
  | g + 1, a, first, n, b => if 64 < n then ∃ a1, ChunkAt G a first (chunkN n) a1 ∧ NoughtG G g a1 (first + chunkN n) (n - chunkN n) b else ZerosAt G a first n b
def NoughtAt (G : List Block) (a : Pos) (first : Int) (n : Nat) (b : Pos) : Prop := if n = 0 then b = a else InsAt G a (iNum 0 0) ∧ NoughtG G n (nx a) first n b
theorem zeroW_len (w : List Int) (a : Int) : ∀ n, (zeroW w a n).length = w.length
  | 0 => rfl
  | n + 1 => by rw [zeroW]; unfold rset; rw [List.length_set, zeroW_len w a n]
theorem zeroW_get {w : List Int} {a : Int} (ha : 0 ≤ a) (j : Nat) : ∀ n : Nat, (zeroW w a n)[j]? = if a ≤ j ∧ (j : Int) < a + n ∧ j < w.length then some 0 else w[j]?
  | 0 => by rw [zeroW, if_neg (by omega)]
  | n + 1 => by
    rw [zeroW]
    unfold rset
    rw [List.getElem?_set, zeroW_len, zeroW_get ha j n]
    by_cases h : (a + n).toNat = j
    · rw [if_pos h]
      by_cases h2 : j < w.length
      · rw [if_pos (by omega), if_pos (by omega)]
      · rw [if_neg (by omega), if_neg (by omega), List.getElem?_eq_none (by omega)]
    · rw [if_neg h]
      by_cases h2 : a ≤ j ∧ (j : Int) < a + n ∧ j < w.length
      · rw [if_pos h2, if_pos (by omega)]
      · rw [if_neg h2, if_neg (by omega)]
theorem zeroW_app {w : List Int} {a : Int} (n : Nat) : ∀ k : Nat, zeroW (zeroW w a n) (a + n) k = zeroW w a (n + k)
  | 0 => rfl
  | k + 1 => by
    rw [zeroW, zeroW_app n k]
    show _ = rset (zeroW w a (n + k)) (a + ((n + k : Nat) : Int)) 0
    congr 1
    omega
theorem argsW_len (w : List Int) (a : Int) (l : List Int) : ∀ n, (argsW w a l n).length = w.length
  | 0 => rfl
  | n + 1 => by rw [argsW]; unfold rset; rw [List.length_set, argsW_len w a l n]
theorem argsW_get {w : List Int} {a : Int} {l : List Int} (ha : 0 ≤ a) (j : Nat) : ∀ n : Nat, (argsW w a l n)[j]? = if a ≤ j ∧ (j : Int) < a + n ∧ j < w.length then some (rget l (j - a)) else w[j]?
  | 0 => by rw [argsW, if_neg (by omega)]
  | n + 1 => by
    rw [argsW]
    unfold rset
    rw [List.getElem?_set, argsW_len, argsW_get ha j n]
    by_cases h : (a + n).toNat = j
    · rw [if_pos h]
      by_cases h2 : j < w.length
      · rw [if_pos (by omega), if_pos (by omega)]
        congr 2
        omega
      · rw [if_neg (by omega), if_neg (by omega), List.getElem?_eq_none (by omega)]
    · rw [if_neg h]
      by_cases h2 : a ≤ j ∧ (j : Int) < a + n ∧ j < w.length
      · rw [if_pos h2, if_pos (by omega)]
      · rw [if_neg h2, if_neg (by omega)]
section
variable {X : Cx}
theorem zeros_go {a : Pos} {first : Int} {regs : List Int} {m : Mach} (h0 : m.fin = 0) (hz : rget regs ((0 : Nat) : Int) = 0) : ∀ (n : Nat), (∀ i, i < n → InsAt X.F.blocks (a.1, a.2 + i) (iStore (first + i) 0)) →
    Goes X.cl X.s X.F a regs m (a.1, a.2 + n) regs { m with words := zeroW m.words first n, steps := m.steps + n }
  | 0, _ => Goes.refl _ _ _
  | n + 1, h1 => by
    have ih := zeros_go h0 hz n (fun i hi => h1 i (by omega))
    refine ih.trans (goes_ins (h1 n (by omega)) (fun call => ?_) h0 rfl)
    rw [mone_store, hz]; rfl
theorem astores_go {l r n : Nat} {first : Int} {regs : List Int} {m : Mach} (h0 : m.fin = 0) (hz : rget regs ((0 : Nat) : Int) = 0) (h1 : rget regs ((1 : Nat) : Int) = ((8 * r : Nat) : Int)) (hr : 8 * r + 8 ≤ n) (w0 : List Int) (hw : m.words = zeroW w0 first (8 * r)) : ∀ (k : Nat), k ≤ 8 → (∀ i, i < 8 → InsAt X.F.blocks (l, i) (iAStore 1 0 (first + i) (n - 7))) →
    Goes X.cl X.s X.F (l, 0) regs m (l, k) regs { m with words := zeroW w0 first (8 * r + k), steps := m.steps + k }
  | 0, _, _ => by
    have := Goes.refl (C := X.cl) (s := X.s) (f := X.F) (l, 0) regs m
    rw [Nat.add_zero, ← hw]; exact this
  | k + 1, hk, hi => by
    have ih := astores_go h0 hz h1 hr w0 hw k (by omega) hi
    refine ih.trans (goes_ins (hi k (by omega)) (fun call => ?_) h0 rfl)
    rw [mone_astore, h1, hz, decide_eq_false (by omega), cond_false]
    show (regs, _) = (regs, _)
    congr 1
    show Mach.mk _ _ _ _ _ = Mach.mk _ _ _ _ _
    congr 1
    show rset (zeroW w0 first (8 * r + k)) _ 0 = rset (zeroW w0 first (8 * r + k)) (first + ((8 * r + k : Nat) : Int)) 0
    congr 1
    omega
theorem add_small {x y : Nat} (h : x + y < 4294967296) : wapp 4 (x : Int) (y : Int) = (((x + y : Nat) : Int), 0) := by
  unfold wapp
  simp only [show ((4 : Int) == 4) = true from rfl, cond_true]
  rw [IntKind.wrap_u32]
  congr 1
  omega
theorem lt_small (x y : Int) : wapp 14 x y = (zf (decide (x < y)), 0) := by
  unfold wapp
  simp only [show ((14 : Int) == 4) = false from rfl, show ((14 : Int) == 5) = false from rfl, show ((14 : Int) == 6) = false from rfl, show ((14 : Int) == 7) = false from rfl, show ((14 : Int) == 8) = false from rfl, show ((14 : Int) == 9) = false from rfl, show ((14 : Int) == 10) = false from rfl, show ((14 : Int) == 11) = false from rfl, show ((14 : Int) == 12) = false from rfl, show ((14 : Int) == 13) = false from rfl, show ((14 : Int) == 14) = true from rfl, Bool.false_or, Bool.true_or, Bool.or_false, cond_true, cond_false]
  unfold wcompare zf
  simp only [show ((14 : Int) == 14) = true from rfl, show ((14 : Int) == 15) = false from rfl, Bool.false_and, Bool.true_and, Bool.or_false]
theorem rounds_go (hX : CxOk X) {l h n q : Nat} {first : Int} (hn : n = 8 * q) (hn2 : n ≤ 4096) (h1 : ∀ i, i < 8 → InsAt X.F.blocks (l, i) (iAStore 1 0 (first + i) (n - 7))) (h2 : InsAt X.F.blocks (l, 8) (iBin 4 1 1 2)) (h3 : InsAt X.F.blocks (l, 9) (iBin 14 4 1 3)) (h4 : EndAt X.F.blocks (l, 10) 2 ((4 : Nat) : Int) l h) (w0 : List Int) :
    ∀ (g r : Nat) (regs : List Int) (m : Mach), r + g = q → 0 < g → (regs.length : Int) = X.F.regs → m.fin = 0 → rget regs ((0 : Nat) : Int) = 0 → rget regs ((1 : Nat) : Int) = ((8 * r : Nat) : Int) → rget regs ((2 : Nat) : Int) = ((8 : Nat) : Int) → rget regs ((3 : Nat) : Int) = (n : Int) → m.words = zeroW w0 first (8 * r) →
    ∃ regs', Goes X.cl X.s X.F (l, 0) regs m (h, 0) regs' { m with words := zeroW w0 first n, steps := m.steps + 11 * g } ∧ regs'.length = regs.length ∧ rget regs' ((0 : Nat) : Int) = 0
  | 0, _, _, _, _, h, _, _, _, _, _, _, _ => absurd h (by omega)
  | g + 1, r, regs, m, hq, _, hl, h0, z0, z1, z2, z3, hw => by
    have hreg := (h3.reg hX rfl).2
    have hl4 : 4 < regs.length := by have : ((4 : Nat) : Int) < X.F.regs := hreg; omega
    have g1 := astores_go (X := X) h0 z0 z1 (by omega) w0 hw 8 (Nat.le_refl _) h1
    have e1 : 8 * r + 8 = 8 * (r + 1) := by omega
    rw [e1] at g1
    have hm2 : ∀ call, mone call X.s (iBin 4 1 1 2) regs { m with words := zeroW w0 first (8 * (r + 1)), steps := m.steps + 9 } = (rset regs ((1 : Nat) : Int) ((8 * (r + 1) : Nat) : Int), { m with words := zeroW w0 first (8 * (r + 1)), steps := m.steps + 9 }) := fun _ => by
      rw [mone_bin, z1, z2, add_small (by omega)]
      rw [show 8 * r + 8 = 8 * (r + 1) by omega]; rfl
    have g2 := goes_ins (C := X.cl) (s := X.s) (f := X.F) (m := { m with words := zeroW w0 first (8 * (r + 1)), steps := m.steps + 8 }) h2 hm2 h0 rfl
    have y1 : rget (rset regs ((1 : Nat) : Int) ((8 * (r + 1) : Nat) : Int)) ((1 : Nat) : Int) = ((8 * (r + 1) : Nat) : Int) := rget_same (by omega)
    have y3 : rget (rset regs ((1 : Nat) : Int) ((8 * (r + 1) : Nat) : Int)) ((3 : Nat) : Int) = (n : Int) := (rget_other (by omega)).trans z3
    have hm3 : ∀ call, mone call X.s (iBin 14 4 1 3) (rset regs ((1 : Nat) : Int) ((8 * (r + 1) : Nat) : Int)) { m with words := zeroW w0 first (8 * (r + 1)), steps := m.steps + 10 } = (rset (rset regs ((1 : Nat) : Int) ((8 * (r + 1) : Nat) : Int)) ((4 : Nat) : Int) (zf (decide (((8 * (r + 1) : Nat) : Int) < (n : Int)))), { m with words := zeroW w0 first (8 * (r + 1)), steps := m.steps + 10 }) := fun _ => by
      rw [mone_bin, y1, y3, lt_small]; rfl
    have g3 := goes_ins (C := X.cl) (s := X.s) (f := X.F) (m := { m with words := zeroW w0 first (8 * (r + 1)), steps := m.steps + 9 }) h3 hm3 h0 rfl
    have g4 := goes_fork (C := X.cl) (s := X.s) (f := X.F) (regs := rset (rset regs ((1 : Nat) : Int) ((8 * (r + 1) : Nat) : Int)) ((4 : Nat) : Int) (zf (decide (((8 * (r + 1) : Nat) : Int) < (n : Int))))) (m := { m with words := zeroW w0 first (8 * (r + 1)), steps := m.steps + 10 }) h4
    have y4 : rget (rset (rset regs ((1 : Nat) : Int) ((8 * (r + 1) : Nat) : Int)) ((4 : Nat) : Int) (zf (decide (((8 * (r + 1) : Nat) : Int) < (n : Int))))) ((4 : Nat) : Int) = zf (decide (((8 * (r + 1) : Nat) : Int) < (n : Int))) := rget_same (by unfold rset; rw [List.length_set]; omega)
    rw [y4] at g4
    have g5 := ((g1.trans g2).trans g3).trans g4
    have hlen : (rset (rset regs ((1 : Nat) : Int) ((8 * (r + 1) : Nat) : Int)) ((4 : Nat) : Int) (zf (decide (((8 * (r + 1) : Nat) : Int) < (n : Int))))).length = regs.length := by unfold rset; rw [List.length_set, List.length_set]
    by_cases hg : g = 0
    · subst hg
      have hd : decide (((8 * (r + 1) : Nat) : Int) < (n : Int)) = false := decide_eq_false (by omega)
      have en : n = 8 * (r + 1) := by omega
      rw [hd, show zf false = 0 from rfl, if_pos rfl] at g5
      rw [hd, show zf false = 0 from rfl] at hlen
      refine ⟨_, ?_, hlen, ?_⟩
      · rw [en]; exact g5
      · rw [rget_other (by omega), rget_other (by omega)]; exact z0
    · have hd : decide (((8 * (r + 1) : Nat) : Int) < (n : Int)) = true := decide_eq_true (by omega)
      rw [hd, show zf true = 1 from rfl, if_neg (by decide)] at g5
      rw [hd, show zf true = 1 from rfl] at hlen
      obtain ⟨r2, k1, k2, k3⟩ := rounds_go hX hn hn2 h1 h2 h3 h4 w0 g (r + 1) (rset (rset regs ((1 : Nat) : Int) ((8 * (r + 1) : Nat) : Int)) ((4 : Nat) : Int) 1) { m with words := zeroW w0 first (8 * (r + 1)), steps := m.steps + 11 } (by omega) (by omega) (by rw [hlen]; exact hl) h0
        ((rget_other (by omega)).trans ((rget_other (by omega)).trans z0)) ((rget_other (by omega)).trans y1) ((rget_other (by omega)).trans ((rget_other (by omega)).trans z2)) ((rget_other (by omega)).trans y3) rfl
      refine ⟨r2, ?_, k2.trans hlen, k3⟩
      have k4 := g5.trans k1
      rw [show m.steps + 11 * (g + 1) = m.steps + 11 + 11 * g by omega]
      exact k4
theorem chunk_go (hX : CxOk X) {a b : Pos} {n : Nat} {first : Int} {regs : List Int} {m : Mach} (h : ChunkAt X.F.blocks a first n b) (h8 : n % 8 = 0) (hn0 : 0 < n) (hn : n ≤ 4096) (hl : (regs.length : Int) = X.F.regs) (h0 : m.fin = 0) (hz : rget regs ((0 : Nat) : Int) = 0) :
    ∃ regs', Goes X.cl X.s X.F a regs m b regs' { m with words := zeroW m.words first n, steps := m.steps + (4 + 11 * (n / 8)) } ∧ regs'.length = regs.length ∧ rget regs' ((0 : Nat) : Int) = 0 := by
  obtain ⟨i1, i2, i3, l, h, e1, i4, i5, i6, e2, rfl⟩ := h
  have hreg := (i6.reg hX rfl).2
  have hl4 : 4 < regs.length := by have : ((4 : Nat) : Int) < X.F.regs := hreg; omega
  have g1 := goes_ins (C := X.cl) (s := X.s) (f := X.F) (regs := regs) (r' := rset regs ((1 : Nat) : Int) 0) (m := m) (m' := { m with steps := m.steps + 1 }) i1 (fun _ => rfl) h0 rfl
  have g2 := goes_ins (C := X.cl) (s := X.s) (f := X.F) (regs := rset regs ((1 : Nat) : Int) 0) (r' := rset (rset regs ((1 : Nat) : Int) 0) ((2 : Nat) : Int) 8) (m := { m with steps := m.steps + 1 }) (m' := { m with steps := m.steps + 2 }) i2 (fun _ => rfl) h0 rfl
  have g3 := goes_ins (C := X.cl) (s := X.s) (f := X.F) (regs := rset (rset regs ((1 : Nat) : Int) 0) ((2 : Nat) : Int) 8) (r' := rset (rset (rset regs ((1 : Nat) : Int) 0) ((2 : Nat) : Int) 8) ((3 : Nat) : Int) (n : Int)) (m := { m with steps := m.steps + 2 }) (m' := { m with steps := m.steps + 3 }) i3 (fun _ => rfl) h0 rfl
  have g4 := goes_jump (C := X.cl) (s := X.s) (f := X.F) (regs := rset (rset (rset regs ((1 : Nat) : Int) 0) ((2 : Nat) : Int) 8) ((3 : Nat) : Int) (n : Int)) (m := { m with steps := m.steps + 3 }) e1
  have hlen : ∀ x y z : Int, (rset (rset (rset regs ((1 : Nat) : Int) x) ((2 : Nat) : Int) y) ((3 : Nat) : Int) z).length = regs.length := fun x y z => by unfold rset; rw [List.length_set, List.length_set, List.length_set]
  have l1 : ∀ x : Int, (rset regs ((1 : Nat) : Int) x).length = regs.length := fun x => by unfold rset; rw [List.length_set]
  have l2 : ∀ x y : Int, (rset (rset regs ((1 : Nat) : Int) x) ((2 : Nat) : Int) y).length = regs.length := fun x y => by unfold rset; rw [List.length_set, List.length_set]
  obtain ⟨r2, k1, k2, k3⟩ := rounds_go hX (q := n / 8) (by omega) hn i4 i5 i6 e2 m.words (n / 8) 0 (rset (rset (rset regs ((1 : Nat) : Int) 0) ((2 : Nat) : Int) 8) ((3 : Nat) : Int) (n : Int)) { m with steps := m.steps + 4 } (by omega) (by omega) (by rw [hlen]; exact hl) h0
    ((rget_other (by omega)).trans ((rget_other (by omega)).trans ((rget_other (by omega)).trans hz))) ((rget_other (by omega)).trans ((rget_other (by omega)).trans (rget_same (by omega)))) ((rget_other (by omega)).trans (rget_same (by rw [l1]; omega))) (rget_same (by rw [l2]; omega)) rfl
  refine ⟨r2, ?_, k2.trans (hlen _ _ _), k3⟩
  have k4 := (((g1.trans g2).trans g3).trans g4).trans k1
  rw [show m.steps + (4 + 11 * (n / 8)) = m.steps + 4 + 11 * (n / 8) by omega]
  exact k4
theorem chunkN_ok {n : Nat} (h : 64 < n) : chunkN n % 8 = 0 ∧ 64 ≤ chunkN n ∧ chunkN n ≤ 4096 ∧ chunkN n ≤ n := by
  unfold chunkN
  omega
theorem noughtG_go (hX : CxOk X) : ∀ (g : Nat) (a b : Pos) (first : Int) (n : Nat) (regs : List Int) (m : Mach), n ≤ g → NoughtG X.F.blocks g a first n b → (regs.length : Int) = X.F.regs → m.fin = 0 → rget regs ((0 : Nat) : Int) = 0 →
    ∃ regs' k, k ≤ 2 * n ∧ Goes X.cl X.s X.F a regs m b regs' { m with words := zeroW m.words first n, steps := m.steps + k } ∧ regs'.length = regs.length
  | 0, a, b, first, n, regs, m, hg, h, hl, h0, hz => by
    rw [NoughtG] at h
    subst h
    obtain rfl : n = 0 := by omega
    exact ⟨regs, 0, by omega, Goes.refl _ _ _, rfl⟩
  | g + 1, a, b, first, n, regs, m, hg, h, hl, h0, hz => by
    rw [NoughtG] at h
    by_cases hn : 64 < n
    · rw [if_pos hn] at h
      obtain ⟨a1, h1, h2⟩ := h
      obtain ⟨c1, c2, c3, c4⟩ := chunkN_ok hn
      obtain ⟨r1, k1, k2, k3⟩ := chunk_go hX h1 c1 (by omega) c3 hl h0 hz
      obtain ⟨r2, k, j1, j2, j3⟩ := noughtG_go hX g a1 b (first + chunkN n) (n - chunkN n) r1 { m with words := zeroW m.words first (chunkN n), steps := m.steps + (4 + 11 * (chunkN n / 8)) } (by omega) h2 (by rw [k2]; exact hl) h0 k3
      refine ⟨r2, 4 + 11 * (chunkN n / 8) + k, by omega, ?_, j3.trans k2⟩
      have := k1.trans j2
      dsimp only at this
      rw [zeroW_app, show chunkN n + (n - chunkN n) = n by omega] at this
      rw [← Nat.add_assoc m.steps]
      exact this
    · rw [if_neg hn] at h
      obtain ⟨h1, rfl⟩ := h
      exact ⟨regs, n, by omega, zeros_go h0 hz n h1, rfl⟩
theorem nought_go (hX : CxOk X) {a b : Pos} {first : Int} {n : Nat} {regs : List Int} {m : Mach} (h : NoughtAt X.F.blocks a first n b) (hl : (regs.length : Int) = X.F.regs) (h0 : m.fin = 0) :
    ∃ regs' k, k ≤ 2 * n + 1 ∧ Goes X.cl X.s X.F a regs m b regs' { m with words := zeroW m.words first n, steps := m.steps + k } ∧ regs'.length = regs.length := by
  unfold NoughtAt at h
  by_cases hn : n = 0
  · rw [if_pos hn] at h
    subst h; subst hn
    exact ⟨regs, 0, by omega, Goes.refl _ _ _, rfl⟩
  · rw [if_neg hn] at h
    obtain ⟨h1, h2⟩ := h
    have hreg := (h1.reg hX rfl).2
    have hl0 : 0 < regs.length := by have : ((0 : Nat) : Int) < X.F.regs := hreg; omega
    have g1 := goes_ins (C := X.cl) (s := X.s) (f := X.F) (regs := regs) (r' := rset regs ((0 : Nat) : Int) 0) (m := m) (m' := { m with steps := m.steps + 1 }) h1 (fun _ => rfl) h0 rfl
    have l1 : (rset regs ((0 : Nat) : Int) 0).length = regs.length := by unfold rset; rw [List.length_set]
    obtain ⟨r2, k, j1, j2, j3⟩ := noughtG_go hX n (nx a) b first n (rset regs ((0 : Nat) : Int) 0) { m with steps := m.steps + 1 } (Nat.le_refl _) h2 (by rw [l1]; exact hl) h0 (rget_same hl0)
    refine ⟨r2, 1 + k, by omega, ?_, j3.trans l1⟩
    rw [← Nat.add_assoc m.steps]
    exact g1.trans j2
end
def FnAt (C : Core) (G : List Block) (fn : CFn) (last : Bool) : Prop := ∃ a1 a2 : Pos, (if last = true then a1 = (0, 0) else NoughtAt G (0, 0) (fn.first + fn.params) (fn.slots - fn.params).toNat a1) ∧ CS.codeL C fn.word G fn.body a1 a2 ∧ LeaveAt C fn.word G a2
structure FnOk (C : Core) (i : Nat) (fn : CFn) : Prop where
  p0 : 0 ≤ fn.params
  p6 : fn.params ≤ 6
  ps : fn.params ≤ fn.slots
  f0 : 0 ≤ fn.first
  f1 : fn.first + fn.slots ≤ C.words
  body : CS.okL C i fn.word fn.body
structure CoreOk (C : Core) : Prop where
  w0 : 0 ≤ C.words
  ne : C.funcs ≠ []
  fn : ∀ (i : Nat) (fn : CFn), C.funcs[i]? = some fn → FnOk C i fn
  last : ∀ fn, C.funcs[C.funcs.length - 1]? = some fn → fn.word = false ∧ fn.params = 0
structure Built (C : Core) (B : Blocks) (M : Nat) : Prop where
  words : B.words = (M : Int)
  wm : C.words ≤ M
  told : ∀ fn ∈ C.funcs, fn.word = true → C.words < M
  len : B.funcs.length = C.funcs.length
  fn : ∀ (i : Nat) (fn : CFn), C.funcs[i]? = some fn → ∃ F, B.funcs[i]? = some F ∧ FnAt C F.blocks fn (i + 1 == C.funcs.length) ∧ 0 ≤ F.regs ∧ ∀ x ∈ F.blocks, ∀ t ∈ x.ins, setsOp t.op = true → 0 ≤ t.d ∧ t.d < F.regs
theorem zeroW_w {w : List Int} (h : allR w) (a : Int) : ∀ n, allR (zeroW w a n)
  | 0 => h
  | n + 1 => rset_w (zeroW_w h a n) _ ⟨by decide, by decide⟩
theorem argsW_w {w : List Int} (h : allR w) (a : Int) {l : List Int} (hl : allR l) : ∀ n, allR (argsW w a l n)
  | 0 => h
  | n + 1 => rset_w (argsW_w h a hl n) _ (rget_w hl _)
theorem parts_fn {l : List CFn} {fn : CFn} (h : fn ∈ l) : CS.partsL fn.body ≤ (l.map fun f => CS.partsL f.body).sum := by
  induction l with
  | nil => cases h
  | cons a l ih =>
    rw [List.map_cons, List.sum_cons]
    rcases List.mem_cons.1 h with rfl | h
    · omega
    · have := ih h; omega
def Core.k (C : Core) : Nat := 8 * (C.parts + C.words.toNat + 1)
def mkX (C : Core) (B : Blocks) (s : ByteArray) (fuel : Int) (M n g : Nat) (F : BFunc) : Cx := ⟨C, s, F, ⟨fun fu => mfun B s fu n, fun fu i m => mfun_steps n i m⟩, cfun C s fuel n, g, C.words.toNat, M, C.k⟩
section
variable {C : Core} {B : Blocks} {s : ByteArray} {fuel : Int} {M : Nat}
theorem call_words {W : Nat} {cw w0 : List Int} {first params slots : Int} {args : List Int} (hc : cw.length = W) (hw : ∀ j : Nat, j < W → w0[j]? = cw[j]?) (hm : W ≤ w0.length) (f0 : 0 ≤ first) (p0 : 0 ≤ params) (ps : params ≤ slots) (f1 : first + slots ≤ (W : Int)) (hn : (args.length : Int) = params) :
    ∀ j : Nat, j < W → (zeroW (argsW w0 first args args.length) (first + params) (slots - params).toNat)[j]? = (argsW (zeroW cw first slots.toNat) first args args.length)[j]? := fun j hj => by
  rw [zeroW_get (by omega), argsW_get f0, argsW_get f0, zeroW_get f0, argsW_len, zeroW_len]
  have := hw j hj
  by_cases h1 : first ≤ j ∧ (j : Int) < first + args.length
  · rw [if_neg (by omega), if_pos ⟨h1.1, h1.2, by omega⟩, if_pos ⟨h1.1, h1.2, by omega⟩]
  · by_cases h2 : first + params ≤ j ∧ (j : Int) < first + slots
    · rw [if_pos (by omega), if_neg (by omega), if_pos (by omega)]
    · rw [if_neg (by omega), if_neg (by omega), if_neg (by omega), if_neg (by omega)]
      exact this
theorem body_end {X : Cx} {w : Bool} (hX : CxOk X) (hM : w = true → X.W < X.M) {k : Nat} {a a2 : Pos} {regs : List Int} {c p : CM} {m : Mach} (h : StOk X w k a a2 regs c m p) (hl : (regs.length : Int) = X.F.regs) (hlv : LeaveAt X.C w X.F.blocks a2) :
    (p.fin = 0 → ∃ m', Stops X.cl X.s X.F a regs m m' ∧ RelM X.W X.M p.m m' ∧ (w = true → rget m'.words X.C.words = if p.over = true then p.val else 0) ∧ (p.over = true → isW p.val) ∧ m'.steps + X.K * c.m.steps ≤ m.steps + k + 3 + X.K * p.m.steps) ∧
    (p.fin ≠ 0 → p.fin ≠ 5 → ∃ m', Stops X.cl X.s X.F a regs m m' ∧ m'.fin = p.fin ∧ m'.out = p.m.out ∧ m'.steps + X.K * c.m.steps ≤ m.steps + k + 3 + X.K * p.m.steps) := by
  refine ⟨fun h0 => ?_, fun h0 h5 => ?_⟩
  · cases ho : p.over with
    | false =>
      obtain ⟨r1, m1, g1, g2, g3, g4⟩ := h.go h0 ho
      obtain ⟨m2, j1, j2, j3, j4⟩ := leave_stops hX hlv (by rw [g3]; exact hl) g2 hM
      exact ⟨m2, g1.stops j1, j2, fun e => by rw [if_neg (by decide)]; exact j3 e, fun e => (by cases e), by omega⟩
    | true =>
      obtain ⟨v, m2, j1, j2, j3, j4⟩ := h.ret h0 ho
      exact ⟨m2, j1, j2, fun e => by rw [if_pos rfl]; exact j3 e, fun _ => v, by omega⟩
  · obtain ⟨m2, j1, j2, j3, j4⟩ := h.stop h0 h5
    exact ⟨m2, j1, j2, j3, by omega⟩
theorem simF (hC : CoreOk C) (hB : Built C B M) : ∀ (n : Nat), n + 1 ≤ C.funcs.length → ∀ (g : Nat) (fn : CFn) (args : List Int) (c : CM) (m0 m : Mach) (F0 : BFunc), g < n → C.funcs[g]? = some fn → (args.length : Int) = fn.params → (∀ x ∈ args, isW x) → c.over = false → RelM C.words.toNat M c.m m0 →
    m.words = argsW m0.words fn.first args args.length → m.out = m0.out → m.read = m0.read → m.fin = 0 → CallOut (mkX C B s fuel M n 0 F0) g fn c m (cfun C s fuel n g args c)
  | 0, _, g, _, _, _, _, _, _, h, _, _, _, _, _, _, _, _, _ => absurd h (by omega)
  | n + 1, hn, g, fn, args, c, m0, m, F0, hg, hfn, hlen, hwa, ho, hr, hw, hout, hread, hfin => by
    obtain ⟨F, hF, hat, hr0, hregs⟩ := hB.fn g fn hfn
    have hfo := hC.fn g fn hfn
    have hnl : (g + 1 == C.funcs.length) = false := by rw [beq_eq_false_iff_ne]; omega
    rw [hnl] at hat
    obtain ⟨a1, a2, h1, h2, h3⟩ := hat
    rw [if_neg (by decide)] at h1
    have hX : CxOk (mkX C B s fuel M n g F) := ⟨by show C.words = ((C.words.toNat : Nat) : Int); have := hC.w0; omega, by show C.words.toNat ≤ M; have := hB.wm; omega, fun fn hfn hw => by show C.words.toNat < M; have := hB.told fn hfn hw; have := hC.w0; omega, hregs,
      fun g' fn' args' c' m0' m' hg' hfn' hl' hw' ho' hr' hm' e1 e2 e3 => have h := simF hC hB n (by omega) g' fn' args' c' m0' m' F (by have : g' < g := hg'; omega) hfn' hl' hw' ho' hr' hm' e1 e2 e3; ⟨h.le, h.go, h.stop⟩⟩
    have hM : fn.word = true → C.words.toNat < M := fun e => by have := hB.told fn (List.mem_of_getElem? hfn) e; have := hC.w0; omega
    have hmf : ∀ fu : Nat, mfun B s fu (n + 1) g m = xAt (fun i m => mfun B s fu n i m) s fu F (0, 0) (List.replicate F.regs.toNat 0) m := fun fu => by
      show (match B.funcs[((g : Nat) : Int).toNat]? with
        | none => m
        | some f => mblk (mfun B s fu n) s fu f (((fu : Nat) : Int).toNat + 1) 0 (List.replicate f.regs.toNat 0) m) = _
      rw [Int.toNat_natCast, hF]
      exact mblk_x (i := 0) (fun i m => mfun_steps n i m)
    have hrl : (((List.replicate F.regs.toNat (0 : Int)).length : Nat) : Int) = F.regs := by rw [List.length_replicate]; omega
    have hpt := parts_fn (List.mem_of_getElem? hfn)
    have hKk : C.k = 8 * (C.parts + C.words.toNat + 1) := rfl
    have hCp : C.parts = (C.funcs.map fun f => CS.partsL f.body).sum := rfl
    have f1 := hfo.f1
    have hw0 := hC.w0
    have p0 := hfo.p0
    have ps := hfo.ps
    have f0 := hfo.f0
    show CallOut _ g fn c m (bif (tickC fuel c).1 then _ else _)
    unfold tickC mstep
    cases ht : decide ((c.m.steps : Int) ≥ fuel) with
    | true =>
      simp only [cond_true, cond_false]
      exact ⟨Nat.le_refl _, fun h => (by cases h), fun _ h => absurd rfl h⟩
    | false =>
      simp only [cond_true, cond_false]
      rw [Int.toNat_natCast, hfn]
      dsimp only
      obtain ⟨r1, k, hk, g1, g2⟩ := nought_go (regs := List.replicate F.regs.toNat 0) (m := m) hX h1 hrl hfin
      generalize hce : (c.put { c.m with steps := c.m.steps + 1 }).put { (c.put { c.m with steps := c.m.steps + 1 }).m with words := argsW (zeroW c.m.words fn.first fn.slots.toNat) fn.first args args.length } = c1
      have hcs : c1.m.steps = c.m.steps + 1 := by rw [← hce]; rfl
      have hm0 := hr.len
      have hWM : C.words.toNat ≤ M := by have := hB.wm; omega
      have hr1 : RelM C.words.toNat M c1.m { m with words := zeroW m.words (fn.first + fn.params) (fn.slots - fn.params).toNat, steps := m.steps + k } := by
        rw [← hce]
        refine ⟨?_, ?_, fun j hj => ?_, argsW_w (zeroW_w hr.ok _ _) _ hwa _, hout.trans hr.out, hread.trans hr.read, hfin, hr.cfin⟩
        · show (argsW (zeroW c.m.words fn.first fn.slots.toNat) fn.first args args.length).length = _
          rw [argsW_len, zeroW_len]; exact hr.clen
        · show (zeroW m.words (fn.first + fn.params) (fn.slots - fn.params).toNat).length = _
          rw [zeroW_len, hw, argsW_len]; exact hm0
        · show (zeroW m.words (fn.first + fn.params) (fn.slots - fn.params).toNat)[j]? = _
          rw [hw]
          exact call_words hr.clen hr.w (by omega) f0 p0 ps (by omega) hlen j hj
      have ho1 : c1.over = false := by rw [← hce]; exact ho
      have k1 := simSL (w := fn.word) (fuel := fuel) fn.body (fun st _ => simS hX hM st.parts st (Nat.le_refl _)) a1 a2 r1 c1 { m with words := zeroW m.words (fn.first + fn.params) (fn.slots - fn.params).toNat, steps := m.steps + k } h2 hfo.body (by show _ ≤ C.k; omega) (by rw [g2]; exact hrl) ho1 hr1
      have le1 := k1.le
      obtain ⟨b1, b2⟩ := body_end hX hM k1 (by rw [g2]; exact hrl) h3
      generalize hpe : CS.runL (mkX C B s fuel M n g F).call (mkX C B s fuel M n g F).s fuel fn.body c1 = p at le1 b1 b2
      have hpe2 : CS.runL (cfun C s fuel n) s fuel fn.body c1 = p := hpe
      rw [hpe2]
      have hmul : C.k * (c.m.steps + 1) = C.k * c.m.steps + C.k := Nat.mul_succ _ _
      rw [← hcs] at hmul
      have hq : ∀ (q : Int × CM), q = (bif p.over then (p.val, { p with over := false }) else (0, p)) → q.2.m = p.m ∧ q.2.over = false ∧ q.1 = if p.over = true then p.val else 0 := fun q hq => by
        subst hq
        cases hov : p.over with
        | true => exact ⟨rfl, rfl, rfl⟩
        | false => exact ⟨rfl, hov, rfl⟩
      obtain ⟨q1, q2, q3⟩ := hq _ rfl
      generalize (bif p.over then (p.val, { p with over := false }) else (0, p)) = q at q1 q2 q3
      have qf : q.2.fin = p.fin := congrArg Mach.fin q1
      refine ⟨by rw [q1]; omega, fun h => ?_, fun h h5 => ?_⟩
      · obtain ⟨m', s1, s2, s3, s4, s5⟩ := b1 (by rw [← qf]; exact h)
        dsimp only at s5
        refine ⟨q2, ?_, m', fun fu hfu => (hmf fu).trans ((g1.stops s1).eq fu hfu), (g1.stops s1).le, by rw [q1]; exact s2, fun e => by rw [q3]; exact s3 e, ?_⟩
        · rw [q3]
          cases hov : p.over with
          | true => rw [if_pos rfl]; exact s4 hov
          | false => rw [if_neg (by decide)]; exact ⟨by decide, by decide⟩
        · rw [q1]
          show m'.steps + C.k * c.m.steps ≤ m.steps + C.k * p.m.steps
          have s5' : m'.steps + C.k * c1.m.steps ≤ m.steps + k + 8 * CS.partsL fn.body + 3 + C.k * p.m.steps := s5
          clear b1 b2 k1 s5 s3 s4 s2 s1
          omega
      · obtain ⟨m', s1, s2, s3, s4⟩ := b2 (by rw [← qf]; exact h) (by rw [← qf]; exact h5)
        dsimp only at s4
        refine ⟨m', fun fu hfu => (hmf fu).trans ((g1.stops s1).eq fu hfu), (g1.stops s1).le, by rw [qf]; exact s2, by rw [q1]; exact s3, ?_⟩
        rw [q1]
        show m'.steps + C.k * c.m.steps ≤ m.steps + C.k * p.m.steps
        have s5' : m'.steps + C.k * c1.m.steps ≤ m.steps + k + 8 * CS.partsL fn.body + 3 + C.k * p.m.steps := s4
        clear b1 b2 k1 s4 s3 s2 s1
        omega
theorem built_run (hC : CoreOk C) (hB : Built C B M) {r : Mach} (hr : crun C s fuel = r) (h5 : r.fin ≠ 5) (fu : Nat) (hfu : (r.steps + 1) * C.k ≤ fu) : (mrun B s fu).fin = r.fin ∧ (mrun B s fu).out = r.out := by
  have hne : 0 < C.funcs.length := List.length_pos_iff.2 hC.ne
  obtain ⟨fn, hfn⟩ := get_of_lt (l := C.funcs) (k := C.funcs.length - 1) (by omega)
  obtain ⟨F, hF, hat, hr0, hregs⟩ := hB.fn _ fn hfn
  have hfo := hC.fn _ fn hfn
  obtain ⟨hwd, hpar⟩ := hC.last fn hfn
  have hnl : (C.funcs.length - 1 + 1 == C.funcs.length) = true := by rw [beq_iff_eq]; omega
  rw [hnl] at hat
  obtain ⟨a1, a2, h1, h2, h3⟩ := hat
  rw [if_pos rfl] at h1
  subst h1
  have hX : CxOk (mkX C B s fuel M (C.funcs.length - 1) (C.funcs.length - 1) F) := ⟨by show C.words = ((C.words.toNat : Nat) : Int); have := hC.w0; omega, by show C.words.toNat ≤ M; have := hB.wm; omega, fun fn hfn hw => by show C.words.toNat < M; have := hB.told fn hfn hw; have := hC.w0; omega, hregs,
    fun g' fn' args' c' m0' m' hg' hfn' hl' hw' ho' hr' hm' e1 e2 e3 => have h := simF hC hB (C.funcs.length - 1) (by omega) g' fn' args' c' m0' m' F hg' hfn' hl' hw' ho' hr' hm' e1 e2 e3; ⟨h.le, h.go, h.stop⟩⟩
  have hrl : (((List.replicate F.regs.toNat (0 : Int)).length : Nat) : Int) = F.regs := by rw [List.length_replicate]; omega
  have hpt := parts_fn (List.mem_of_getElem? hfn)
  have hKk : C.k = 8 * (C.parts + C.words.toNat + 1) := rfl
  have hCp : C.parts = (C.funcs.map fun f => CS.partsL f.body).sum := rfl
  have hw0 := hC.w0
  have hBw := hB.words
  have hWM : C.words.toNat ≤ M := by have := hB.wm; omega
  have hrel : RelM C.words.toNat M (c0 C).m (m0 B) := by
    refine ⟨by show (List.replicate C.words.toNat (0 : Int)).length = _; rw [List.length_replicate], by show (List.replicate B.words.toNat (0 : Int)).length = _; rw [List.length_replicate]; omega, fun j hj => ?_, allR_rep _, rfl, rfl, rfl, rfl⟩
    show (List.replicate B.words.toNat (0 : Int))[j]? = (List.replicate C.words.toNat (0 : Int))[j]?
    rw [List.getElem?_replicate, List.getElem?_replicate, if_pos (by omega), if_pos (by omega)]
  have hM : fn.word = true → C.words.toNat < M := fun e => by rw [hwd] at e; cases e
  have k1 := simSL (w := fn.word) (fuel := fuel) fn.body (fun st _ => simS hX hM st.parts st (Nat.le_refl _)) (0, 0) a2 (List.replicate F.regs.toNat 0) (c0 C) (m0 B) h2 hfo.body (by show _ ≤ C.k; omega) hrl rfl hrel
  obtain ⟨b1, b2⟩ := body_end hX hM k1 hrl h3
  unfold crun at hr
  rw [hfn] at hr
  dsimp only at hr
  generalize hpe : CS.runL (mkX C B s fuel M (C.funcs.length - 1) (C.funcs.length - 1) F).call (mkX C B s fuel M (C.funcs.length - 1) (C.funcs.length - 1) F).s fuel fn.body (c0 C) = p at b1 b2
  have hpe2 : CS.runL (cfun C s fuel (C.funcs.length - 1)) s fuel fn.body (c0 C) = p := hpe
  rw [hpe2] at hr
  have hst : r.steps = p.m.steps ∧ r.out = p.m.out := by
    rw [← hr]
    cases p.m.fin == 0 <;> exact ⟨rfl, rfl⟩
  have hmul : (r.steps + 1) * C.k = C.k * p.m.steps + C.k := by rw [hst.1, Nat.add_mul, Nat.one_mul, Nat.mul_comm]
  have hmr : mrun B s fu = (bif (xAt (fun i m => mfun B s fu (C.funcs.length - 1) i m) s fu F (0, 0) (List.replicate F.regs.toNat 0) (m0 B)).fin == 0 then { xAt (fun i m => mfun B s fu (C.funcs.length - 1) i m) s fu F (0, 0) (List.replicate F.regs.toNat 0) (m0 B) with fin := 1 } else xAt (fun i m => mfun B s fu (C.funcs.length - 1) i m) s fu F (0, 0) (List.replicate F.regs.toNat 0) (m0 B)) := by
    have e : mfun B s fu B.funcs.length ((B.funcs.length : Int) - 1) (m0 B) = xAt (fun i m => mfun B s fu (C.funcs.length - 1) i m) s fu F (0, 0) (List.replicate F.regs.toNat 0) (m0 B) := by
      obtain ⟨n, hn⟩ : ∃ n, C.funcs.length = n + 1 := ⟨C.funcs.length - 1, by omega⟩
      rw [hB.len, hn]
      rw [hn] at hF
      show (match B.funcs[(((n + 1 : Nat) : Int) - 1).toNat]? with
        | none => m0 B
        | some f => mblk (mfun B s fu n) s fu f (((fu : Nat) : Int).toNat + 1) 0 (List.replicate f.regs.toNat 0) (m0 B)) = _
      rw [show (((n + 1 : Nat) : Int) - 1).toNat = n + 1 - 1 by omega, hF]
      exact mblk_x (i := 0) (fun i m => mfun_steps n i m)
    unfold mrun
    have hf0 : fuel0 (fu : Int) = (fu : Int) := by unfold fuel0; rw [decide_eq_false (by omega)]; rfl
    rw [hf0, e]
  have hz : (m0 B).steps = 0 := rfl
  have hc0 : (c0 C).m.steps = 0 := rfl
  by_cases hp : p.fin = 0
  · obtain ⟨m', s1, s2, s3, s4, s5⟩ := b1 hp
    have s5' : m'.steps + C.k * (c0 C).m.steps ≤ (m0 B).steps + 8 * CS.partsL fn.body + 3 + C.k * p.m.steps := s5
    rw [hc0, hz, Nat.mul_zero] at s5'
    have hle : m'.steps ≤ fu := by
      clear b1 b2 k1 s5 s4 s3 s2 s1 hmr
      omega
    have := s1.eq fu hle
    have e2 : xAt (fun i m => mfun B s fu (C.funcs.length - 1) i m) s fu F (0, 0) (List.replicate F.regs.toNat 0) (m0 B) = m' := this
    have hrf : r.fin = 1 := by
      have hp' : p.m.fin = 0 := hp
      rw [← hr, hp']; rfl
    rw [hmr, e2, s2.fin, hst.2, hrf]
    exact ⟨rfl, s2.out⟩
  · have hrp : r = p.m := by
      have hp' : p.m.fin ≠ 0 := hp
      rw [← hr, show (p.m.fin == 0) = false by simpa using hp']; rfl
    have h5' : p.fin ≠ 5 := by show p.m.fin ≠ 5; rw [← hrp]; exact h5
    obtain ⟨m', s1, s2, s3, s4⟩ := b2 hp h5'
    have s5' : m'.steps + C.k * (c0 C).m.steps ≤ (m0 B).steps + 8 * CS.partsL fn.body + 3 + C.k * p.m.steps := s4
    rw [hc0, hz, Nat.mul_zero] at s5'
    have hle : m'.steps ≤ fu := by
      clear b1 b2 k1 s4 s3 s2 s1 hmr
      omega
    have e2 : xAt (fun i m => mfun B s fu (C.funcs.length - 1) i m) s fu F (0, 0) (List.replicate F.regs.toNat 0) (m0 B) = m' := s1.eq fu hle
    rw [hmr, e2, show (m'.fin == 0) = false by rw [s2]; simpa using hp, hrp]
    exact ⟨s2, s3⟩
end
def Bd.at_ (b : Bd) : Option Block := b.blocks[b.now]?
def Bd.il (b : Bd) : Nat := ((b.blocks[b.now]?).map fun x => x.ins.length).getD 0
abbrev Bd.pos (b : Bd) : Pos := (b.now, b.il)
def Pl (b : Bd) : Prop := ∃ x, b.blocks[b.now]? = some x ∧ x.fin = 3 ∧ x.v = 0 ∧ x.to = 0 ∧ x.els = 0
structure Fr (b b' : Bd) : Prop where
  len : b.blocks.length ≤ b'.blocks.length
  now : b'.now = b.now ∨ b.blocks.length ≤ b'.now
  old : ∀ j x, j ≠ b.now → b.blocks[j]? = some x → b'.blocks[j]? = some x
  cur : ∀ x, b.blocks[b.now]? = some x → ∃ y, b'.blocks[b.now]? = some y ∧ x.ins <+: y.ins
def Fit (b : Bd) (G : List Block) (P : Nat → Prop) : Prop := ∀ j x, b.blocks[j]? = some x → ∃ y, G[j]? = some y ∧ x.ins <+: y.ins ∧ (¬ P j → y = x)
structure Op (P : Nat → Prop) (b b' : Bd) : Prop where
  now : P b'.now
  new : ∀ j, b.blocks.length ≤ j → j < b'.blocks.length → j ≠ b'.now → ¬ P j
  cur : b'.now ≠ b.now → ¬ P b.now
structure Codes (R : List Block → Pos → Pos → Prop) (b b' : Bd) : Prop where
  fr : Fr b b'
  pl : Pl b'
  code : ∀ G P, Fit b' G P → Op P b b' → R G b.pos b'.pos
theorem Pl.lt {b : Bd} (h : Pl b) : b.now < b.blocks.length := by
  obtain ⟨x, h, _⟩ := h
  exact (List.getElem?_eq_some_iff.1 h).1
theorem Fr.refl (b : Bd) : Fr b b := ⟨Nat.le_refl _, .inl rfl, fun _ _ _ h => h, fun x h => ⟨x, h, List.prefix_refl _⟩⟩
theorem Fr.trans {b b1 b2 : Bd} (h1 : Fr b b1) (h2 : Fr b1 b2) (hb : b.now < b.blocks.length) : Fr b b2 := by
  refine ⟨Nat.le_trans h1.len h2.len, ?_, fun j x hj hx => ?_, fun x hx => ?_⟩
  · rcases h2.now with e | e
    · rw [e]; exact h1.now
    · exact .inr (Nat.le_trans h1.len e)
  · have hjl := (List.getElem?_eq_some_iff.1 hx).1
    refine h2.old j x (fun e => ?_) (h1.old j x hj hx)
    rcases h1.now with e2 | e2
    · exact hj (e.trans e2)
    · omega
  · obtain ⟨y, hy, hp⟩ := h1.cur x hx
    by_cases e : b.now = b1.now
    · obtain ⟨z, hz, hq⟩ := h2.cur y (by rw [← e]; exact hy)
      exact ⟨z, by rw [e]; exact hz, hp.trans hq⟩
    · exact ⟨y, h2.old _ y e hy, hp⟩
theorem Fit.back {b1 b2 : Bd} {G : List Block} {P : Nat → Prop} (h : Fit b2 G P) (hf : Fr b1 b2) : Fit b1 G (fun j => j = b1.now ∨ P j) := fun j x hx => by
  by_cases e : j = b1.now
  · subst e
    obtain ⟨y, hy, hp⟩ := hf.cur x hx
    obtain ⟨z, hz, hq, _⟩ := h _ y hy
    exact ⟨z, hz, hp.trans hq, fun hn => absurd (.inl rfl) hn⟩
  · obtain ⟨z, hz, hq, hr⟩ := h j x (hf.old j x e hx)
    exact ⟨z, hz, hq, fun hn => hr fun hp => hn (.inr hp)⟩
theorem Codes.seq {R1 R2 : List Block → Pos → Pos → Prop} {b b1 b2 : Bd} (hb : b.now < b.blocks.length) (h1 : Codes R1 b b1) (h2 : Codes R2 b1 b2) : Codes (fun G a c => ∃ m, R1 G a m ∧ R2 G m c) b b2 := by
  refine ⟨h1.fr.trans h2.fr hb, h2.pl, fun G P hF hO => ?_⟩
  have l1 := h1.pl.lt
  have n1 := h1.fr.now
  have n2 := h2.fr.now
  have k1 := h1.fr.len
  have k2 := h2.fr.len
  refine ⟨b1.pos, h1.code G _ (hF.back h2.fr) ⟨.inl rfl, fun j h1 h2 h3 hn => ?_, fun hne hn => ?_⟩, h2.code G P hF ⟨hO.now, fun j h1 h2 h3 => hO.new j (by omega) h2 h3, fun hne => ?_⟩⟩
  · rcases hn with hn | hn
    · exact h3 hn
    · exact hO.new j h1 (by omega) (fun e => by omega) hn
  · rcases hn with hn | hn
    · exact hne hn.symm
    · exact hO.cur (fun e => by omega) hn
  · rcases n1 with e | e
    · rw [e]; exact hO.cur (by omega)
    · exact hO.new _ e (by omega) (Ne.symm hne)
theorem Codes.mono {R R' : List Block → Pos → Pos → Prop} {b b' : Bd} (h : Codes R b b') (hR : ∀ G a c, R G a c → R' G a c) : Codes R' b b' := ⟨h.fr, h.pl, fun G P hF hO => hR G _ _ (h.code G P hF hO)⟩
theorem Codes.refl {b : Bd} (h : Pl b) : Codes (fun _ a c => c = a) b b := ⟨Fr.refl b, h, fun _ _ _ _ => rfl⟩
theorem upd_at {b : Bd} {g : Block → Block} {x : Block} (h : b.blocks[b.now]? = some x) : (b.upd g).blocks[b.now]? = some (g x) := by
  show (b.blocks.modify b.now g)[b.now]? = _
  rw [List.getElem?_modify, h]; simp
theorem upd_ne {b : Bd} {g : Block → Block} {j : Nat} (h : j ≠ b.now) : (b.upd g).blocks[j]? = b.blocks[j]? := by
  show (b.blocks.modify b.now g)[j]? = _
  rw [List.getElem?_modify]
  cases b.blocks[j]? with
  | none => rfl
  | some x => simp [Ne.symm h]
theorem upd_len (b : Bd) (g : Block → Block) : (b.upd g).blocks.length = b.blocks.length := List.length_modify ..
theorem il_of {b : Bd} {x : Block} (h : b.blocks[b.now]? = some x) : b.il = x.ins.length := by unfold Bd.il; rw [h]; rfl
theorem put_at {b : Bd} {x : Block} {t : Tac} (h : b.blocks[b.now]? = some x) : (b.put t).blocks[b.now]? = some (x.mid (x.ins ++ [t])) := upd_at h
theorem codes_put {b : Bd} (h : Pl b) (t : Tac) : Codes (fun G a c => InsAt G a t ∧ c = nx a) b (b.put t) := by
  obtain ⟨x, hx, h1⟩ := h
  refine ⟨⟨Nat.le_of_eq (upd_len b _).symm, .inl rfl, fun j y hj hy => (upd_ne hj).trans hy, fun y hy => ?_⟩, ⟨_, put_at hx, h1⟩, fun G P hF hO => ?_⟩
  · rw [hx] at hy; cases hy
    exact ⟨_, put_at hx, List.prefix_append _ _⟩
  · obtain ⟨y, hy, hp, _⟩ := hF _ _ (put_at hx)
    refine ⟨⟨y, hy, ?_⟩, ?_⟩
    · show y.ins[b.il]? = _
      rw [il_of hx]
      obtain ⟨l, hl⟩ := hp
      rw [← hl]
      show (x.ins ++ [t] ++ l)[x.ins.length]? = _
      rw [List.append_assoc, List.getElem?_append_right (Nat.le_refl _), Nat.sub_self]; rfl
    · show ((b.put t).now, (b.put t).il) = _
      rw [il_of (put_at hx)]
      show (b.now, (x.ins ++ [t]).length) = (b.now, b.il + 1)
      rw [il_of hx, List.length_append]; rfl
theorem opened_len (b : Bd) : b.opened.blocks.length = b.blocks.length + 1 := by simp [Bd.opened]
theorem opened_at (b : Bd) : b.opened.blocks[b.blocks.length]? = some blk0 := by
  show (b.blocks ++ [blk0])[_]? = _
  rw [List.getElem?_append_right (Nat.le_refl _), Nat.sub_self]; rfl
theorem opened_old {b : Bd} {j : Nat} (h : j < b.blocks.length) : b.opened.blocks[j]? = b.blocks[j]? := List.getElem?_append_left h
structure InsideOk (R : List Block → Pos → Pos → Prop) (b b' : Bd) (i to : Nat) : Prop where
  now : b'.now = b.now
  len : b.blocks.length ≤ b'.blocks.length
  old : ∀ j, j ≠ i → j < b.blocks.length → b'.blocks[j]? = b.blocks[j]?
  code : ∀ G P, Fit b' G P → ¬ P i → (∀ j, b.blocks.length ≤ j → j < b'.blocks.length → ¬ P j) → ∃ a, R G (i, 0) a ∧ EndAt G a 1 0 to 0
theorem inside_ok {R : List Block → Pos → Pos → Prop} {b : Bd} {i to : Nat} {f : Bd → Bd} (hi : b.blocks[i]? = some blk0) (hf : Codes R (b.go i) (f (b.go i))) : InsideOk R b (b.inside i to f) i to := by
  unfold Bd.inside
  generalize hbi : f (b.go i) = bi at hf
  obtain ⟨x, hx, e3, ev, et, ee⟩ := hf.pl
  have hlen : b.blocks.length ≤ bi.blocks.length := hf.fr.len
  have hnow : bi.now = i ∨ b.blocks.length ≤ bi.now := hf.fr.now
  have hblk : ((bi.jump to).go b.now).blocks = (bi.jump to).blocks := rfl
  have hjl : (bi.jump to).blocks.length = bi.blocks.length := upd_len bi _
  have hjat : (bi.jump to).blocks[bi.now]? = some { x with fin := 1, to := (to : Int) } := upd_at hx
  refine ⟨rfl, by rw [hblk, hjl]; exact hlen, fun j hj hjl2 => ?_, fun G P hF hP hN => ?_⟩
  · rw [hblk]
    refine (upd_ne (by omega)).trans ?_
    obtain ⟨y, hy⟩ := get_of_lt hjl2
    rw [hy]
    exact hf.fr.old j y hj hy
  · have hF' : Fit (bi.jump to) G P := hF
    have hnP : ¬ P bi.now := by
      rcases hnow with e | e
      · rw [e]; exact hP
      · exact hN _ e (by rw [hblk, hjl]; exact hf.pl.lt)
    have hil : (b.go i).il = 0 := by unfold Bd.il; rw [show (b.go i).blocks[(b.go i).now]? = some blk0 from hi]; rfl
    have hc := hf.code G (fun j => j = bi.now ∨ P j) (fun j y hy => ?_) ⟨.inl rfl, fun j h1 h2 h3 hn => ?_, fun hne hn => ?_⟩
    · refine ⟨bi.pos, ?_, ?_⟩
      · have e : (b.go i).pos = (i, 0) := by show (i, (b.go i).il) = _; rw [hil]
        rw [← e]; exact hc
      · obtain ⟨z, hz, _, hq⟩ := hF' _ _ hjat
        have hz2 := hq hnP
        subst hz2
        exact ⟨_, hz, (il_of hx).symm, rfl, ev, rfl, ee⟩
    · by_cases e : j = bi.now
      · subst e
        rw [hx] at hy; cases hy
        obtain ⟨z, hz, hp, _⟩ := hF' _ _ hjat
        exact ⟨z, hz, hp, fun hn => absurd (.inl rfl) hn⟩
      · obtain ⟨z, hz, hp, hq⟩ := hF' j y ((upd_ne e).trans hy)
        exact ⟨z, hz, hp, fun hn => hq fun h => hn (.inr h)⟩
    · rcases hn with hn | hn
      · exact h3 hn
      · exact hN j h1 (by rw [hblk, hjl]; exact h2) hn
    · rcases hn with hn | hn
      · exact hne hn.symm
      · exact hP hn
theorem fork_at {b : Bd} {v to els : Nat} {x : Block} (h : b.blocks[b.now]? = some x) : (b.fork v to els).blocks[b.now]? = some { x with fin := 2, v := (v : Int), to := (to : Int), els := (els : Int) } := upd_at h
theorem jump_at {b : Bd} {to : Nat} {x : Block} (h : b.blocks[b.now]? = some x) : (b.jump to).blocks[b.now]? = some { x with fin := 1, to := (to : Int) } := upd_at h
theorem codes_not {b : Bd} (h : Pl b) (d : Nat) : Codes (fun G a c => NotAt G a d c) b (b.not d) := by
  have h1 := codes_put h (iNum (d + 1) 0)
  have h2 := codes_put h1.pl (iBin 15 d d (d + 1))
  refine (h1.seq h.lt h2).mono fun G a c hm => ?_
  obtain ⟨m, ⟨i1, rfl⟩, i2, rfl⟩ := hm
  exact ⟨i1, i2, rfl⟩
theorem codes_truth {b : Bd} (h : Pl b) (e : CE) (d : Nat) : Codes (fun G a c => TruthAt G e a d c) b (b.truth e d) := by
  unfold Bd.truth
  cases he : e.flagged with
  | true =>
    simp only [cond_true]
    refine (Codes.refl h).mono fun G a c hm => ?_
    unfold TruthAt
    rw [he, if_pos rfl]; exact hm
  | false =>
    simp only [cond_false]
    have h1 := codes_not h d
    have h2 := codes_put h1.pl (iBin 15 d d (d + 1))
    refine (h1.seq h.lt h2).mono fun G a c hm => ?_
    obtain ⟨m, i1, i2, rfl⟩ := hm
    unfold TruthAt
    rw [he, if_neg (by decide)]
    exact ⟨m, i1, i2, rfl⟩
theorem codes_args {b : Bd} (h : Pl b) (first : Int) (d : Nat) : ∀ n : Nat, Codes (fun G a c => (∀ i, i < n → InsAt G (a.1, a.2 + i) (iStore (first + i) (d + i))) ∧ c = (a.1, a.2 + n)) b (b.args first d n)
  | 0 => (Codes.refl h).mono fun G a c hm => ⟨fun i hi => absurd hi (by omega), hm⟩
  | n + 1 => by
    have ih := codes_args h first d n
    have h2 := codes_put ih.pl (iStore (first + n) (d + n))
    refine (ih.seq h.lt h2).mono fun G a c hm => ?_
    obtain ⟨m, ⟨i1, rfl⟩, i2, rfl⟩ := hm
    refine ⟨fun i hi => ?_, rfl⟩
    by_cases e : i = n
    · subst e; exact i2
    · exact i1 i (by omega)
theorem codes_called {b : Bd} (h : Pl b) (C : Core) (g : Int) (n d : Nat) : Codes (fun G a c => CalledAt G a (C.first g) g n d c) b (b.called C g n d) := by
  have h1 := codes_args h (C.first g) d n
  have h2 := codes_put h1.pl (iCall g)
  refine (h1.seq h.lt h2).mono fun G a c hm => ?_
  obtain ⟨m, ⟨i1, rfl⟩, i2, rfl⟩ := hm
  exact ⟨i1, i2, rfl⟩
theorem codes_right {b : Bd} (h : Pl b) {k : Int} {d : Nat} {R : List Block → Pos → Pos → Prop} {f : Bd → Bd} (hf : ∀ b0, Pl b0 → Codes R b0 (f b0)) :
    Codes (fun G a c => ∃ (r h : Nat) (a2 : Pos), (if k = 8 then EndAt G a 2 d r h else EndAt G a 2 d h r) ∧ R G (r, 0) a2 ∧ EndAt G a2 1 0 h 0 ∧ c = (h, 0)) b (((b.either0 k d).inside b.blocks.length (b.blocks.length + 1) f).go (b.blocks.length + 1)) := by
  obtain ⟨x, hx, e3, ev, et, ee⟩ := h
  have hlt := (List.getElem?_eq_some_iff.1 hx).1
  generalize hb1 : b.either0 k d = b1
  have hnow : b1.now = b.now := by rw [← hb1]; unfold Bd.either0; cases k == 8 <;> rfl
  have hlen : b1.blocks.length = b.blocks.length + 2 := by
    rw [← hb1]; unfold Bd.either0
    cases k == 8
    · show (Bd.upd b.opened.opened _).blocks.length = _
      rw [upd_len, opened_len, opened_len]
    · show (Bd.upd b.opened.opened _).blocks.length = _
      rw [upd_len, opened_len, opened_len]
  have hne : ∀ j, j ≠ b.now → b1.blocks[j]? = b.opened.opened.blocks[j]? := fun j hj => by
    rw [← hb1]; unfold Bd.either0
    cases k == 8
    · exact upd_ne hj
    · exact upd_ne hj
  have hx2 : b.opened.opened.blocks[b.now]? = some x := by
    rw [opened_old (by rw [opened_len]; omega), opened_old hlt]; exact hx
  have hn : b1.blocks[b.blocks.length]? = some blk0 := by
    rw [hne _ (by omega), opened_old (by rw [opened_len]; omega)]
    exact opened_at b
  have hn1 : b1.blocks[b.blocks.length + 1]? = some blk0 := by
    rw [hne _ (by omega)]
    have := opened_at b.opened
    rwa [opened_len] at this
  have hcur : ∃ y : Block, b1.blocks[b.now]? = some y ∧ y.ins = x.ins ∧ (if k = 8 then (y.fin = 2 ∧ y.v = (d : Int) ∧ y.to = (b.blocks.length : Int) ∧ y.els = ((b.blocks.length + 1 : Nat) : Int)) else (y.fin = 2 ∧ y.v = (d : Int) ∧ y.to = ((b.blocks.length + 1 : Nat) : Int) ∧ y.els = (b.blocks.length : Int))) := by
    rw [← hb1]; unfold Bd.either0
    by_cases hk : k = 8
    · rw [show (k == 8) = true by simpa using hk]
      refine ⟨_, fork_at (b := b.opened.opened) hx2, rfl, ?_⟩
      rw [if_pos hk]
      exact ⟨rfl, rfl, rfl, rfl⟩
    · rw [show (k == 8) = false by simpa using hk]
      refine ⟨_, fork_at (b := b.opened.opened) hx2, rfl, ?_⟩
      rw [if_neg hk]
      exact ⟨rfl, rfl, rfl, rfl⟩
  obtain ⟨y, hy, hyi, hye⟩ := hcur
  have hin := inside_ok (to := b.blocks.length + 1) hn (hf (b1.go b.blocks.length) ⟨blk0, hn, rfl, rfl, rfl, rfl⟩)
  generalize b1.inside b.blocks.length (b.blocks.length + 1) f = b2 at hin ⊢
  have hl2 := hin.len
  have hgo : (b2.go (b.blocks.length + 1)).blocks = b2.blocks := rfl
  refine ⟨⟨by rw [hgo]; omega, .inr (by show b.blocks.length ≤ b.blocks.length + 1; omega), fun j z hj hz => ?_, fun z hz => ?_⟩, ⟨blk0, ?_, rfl, rfl, rfl, rfl⟩, fun G P hF hO => ?_⟩
  · have hjl := (List.getElem?_eq_some_iff.1 hz).1
    rw [hgo, hin.old j (by omega) (by omega), hne j hj, opened_old (by rw [opened_len]; omega), opened_old hjl]
    exact hz
  · rw [hx] at hz; cases hz
    refine ⟨y, ?_, by rw [hyi]; exact List.prefix_refl _⟩
    rw [hgo, hin.old _ (by omega) (by omega)]; exact hy
  · show b2.blocks[b.blocks.length + 1]? = _
    rw [hin.old _ (by omega) (by omega)]; exact hn1
  · have hF2 : Fit b2 G P := hF
    have hnew := hO.new
    have hnow2 : (b2.go (b.blocks.length + 1)).now = b.blocks.length + 1 := rfl
    rw [hnow2, hgo] at hnew
    obtain ⟨a2, k1, k2⟩ := hin.code G P hF2 (hnew _ (Nat.le_refl _) (by omega) (by omega)) (fun j h1 h2 => hnew j (by omega) h2 (by omega))
    have hPn : ¬ P b.now := hO.cur (by rw [hnow2]; omega)
    obtain ⟨z, hz, _, hq⟩ := hF2 b.now y (by rw [hin.old _ (by omega) (by omega)]; exact hy)
    have hzy := hq hPn
    subst hzy
    refine ⟨b.blocks.length, b.blocks.length + 1, a2, ?_, k1, k2, ?_⟩
    · have hil : z.ins.length = b.il := by rw [hyi, il_of hx]
      by_cases hk : k = 8
      · rw [if_pos hk] at hye ⊢
        exact ⟨z, hz, hil, hye⟩
      · rw [if_neg hk] at hye ⊢
        exact ⟨z, hz, hil, hye⟩
    · show (b.blocks.length + 1, Bd.il _) = (b.blocks.length + 1, 0)
      rw [il_of (b := b2.go (b.blocks.length + 1)) (x := blk0) (by show b2.blocks[b.blocks.length + 1]? = _; rw [hin.old _ (by omega) (by omega)]; exact hn1)]
      rfl
section
variable {C : Core} {n : Nat}
def CodesE (C : Core) (n : Nat) (e : CE) : Prop := e.ok C n → ∀ (d : Nat) (b : Bd), Pl b → Codes (fun G a c => e.code C G d a c) b (e.build C d b)
theorem codes_list : ∀ (l : List CE), (∀ e ∈ l, CodesE C n e) → CE.okL C n l → ∀ (d : Nat) (b : Bd), Pl b → Codes (fun G a c => CE.codeL C G l d a c) b (CE.buildL C l d b)
  | [], _, _, d, b, hb => by
    rw [CE.buildL]
    exact (Codes.refl hb).mono fun G a c h => by rw [CE.codeL]; exact h
  | e :: l, hI, hok, d, b, hb => by
    rw [CE.buildL]
    rw [CE.okL] at hok
    have h1 := hI e (List.mem_cons.2 (.inl rfl)) hok.1 d b hb
    have h2 := codes_list l (fun e he => hI e (List.mem_cons.2 (.inr he))) hok.2 (d + 1) (e.build C d b) h1.pl
    refine (h1.seq hb.lt h2).mono fun G a c h => ?_
    rw [CE.codeL]
    exact h
theorem codes_expr : ∀ (m : Nat) (e : CE), e.parts ≤ m → CodesE C n e
  | 0, e, h => by cases e; rw [CE.parts] at h; omega
  | m + 1, e, hm => by
    cases e with
    | mk k o num sl z kids =>
    rw [CE.parts] at hm
    have hI : ∀ e ∈ kids, CodesE C n e := fun e he => codes_expr m e (by have := parts_mem he; omega)
    intro hok d b hb
    rw [CE.ok] at hok
    obtain ⟨hkids, hk⟩ := hok
    have hL := codes_list kids hI hkids d b hb
    rcases hk with ⟨rfl, hw⟩ | ⟨rfl, h0, h1⟩ | ⟨rfl, h1, z1, z2, s0, s1⟩ | ⟨rfl, s0, s1, fn, hfn, hwd, hpar, h6⟩ | rfl | ⟨rfl, h2, o1, o2⟩ | ⟨rfl, h1⟩ | ⟨rfl, h2⟩ | ⟨rfl, h2⟩
    · rw [CE.build, if_pos rfl]
      exact (codes_put hb _).mono fun G a c h => by rw [CE.code, if_pos rfl]; exact h
    · rw [CE.build, if_neg (by decide), if_pos rfl]
      exact (codes_put hb _).mono fun G a c h => by rw [CE.code, if_neg (by decide), if_pos rfl]; exact h
    · rw [CE.build, if_neg (by decide), if_neg (by decide), if_pos rfl]
      exact (hL.seq hb.lt (codes_put hL.pl _)).mono fun G a c h => by rw [CE.code, if_neg (by decide), if_neg (by decide), if_pos rfl]; exact h
    · rw [CE.build, if_neg (by decide), if_neg (by decide), if_neg (by decide), if_pos rfl]
      have h2 := codes_called hL.pl C sl kids.length d
      refine (hL.seq hb.lt (h2.seq hL.pl.lt (codes_put h2.pl _))).mono fun G a c h => ?_
      rw [CE.code, if_neg (by decide), if_neg (by decide), if_neg (by decide), if_pos rfl]
      obtain ⟨a1, i1, a2, i2, i3⟩ := h
      exact ⟨a1, a2, i1, i2, i3⟩
    · rw [CE.build, if_neg (by decide), if_neg (by decide), if_neg (by decide), if_neg (by decide), if_pos rfl]
      exact (codes_put hb _).mono fun G a c h => by rw [CE.code, if_neg (by decide), if_neg (by decide), if_neg (by decide), if_neg (by decide), if_pos rfl]; exact h
    · rw [CE.build, if_neg (by decide), if_neg (by decide), if_neg (by decide), if_neg (by decide), if_neg (by decide), if_pos rfl]
      exact (hL.seq hb.lt (codes_put hL.pl _)).mono fun G a c h => by rw [CE.code, if_neg (by decide), if_neg (by decide), if_neg (by decide), if_neg (by decide), if_neg (by decide), if_pos rfl]; exact h
    · rw [CE.build, if_neg (by decide), if_neg (by decide), if_neg (by decide), if_neg (by decide), if_neg (by decide), if_neg (by decide), if_pos rfl]
      exact (hL.seq hb.lt (codes_not hL.pl _)).mono fun G a c h => by rw [CE.code, if_neg (by decide), if_neg (by decide), if_neg (by decide), if_neg (by decide), if_neg (by decide), if_neg (by decide), if_pos rfl]; exact h
    all_goals
      obtain ⟨e1, e2, rfl⟩ := len_two h2
      rw [CE.build, if_neg (by decide), if_neg (by decide), if_neg (by decide), if_neg (by decide), if_neg (by decide), if_neg (by decide), if_neg (by decide), if_pos (by decide), CE.buildE, CE.buildR]
      rw [CE.okL, CE.okL] at hkids
      have h1 := hI e1 (by simp) hkids.1 d b hb
      have h3 := codes_truth h1.pl e1 d
      have h4 := h1.seq hb.lt h3
      have h5 := codes_right (k := 8) (d := d) h4.pl (fun b0 hb0 => (hI e2 (by simp) hkids.2.1 d b0 hb0).seq hb0.lt (codes_truth (hI e2 (by simp) hkids.2.1 d b0 hb0).pl e2 d))
      have h6 := codes_right (k := 9) (d := d) h4.pl (fun b0 hb0 => (hI e2 (by simp) hkids.2.1 d b0 hb0).seq hb0.lt (codes_truth (hI e2 (by simp) hkids.2.1 d b0 hb0).pl e2 d))
      first
      | refine (h4.seq hb.lt h5).mono fun G a c h => ?_
      | refine (h4.seq hb.lt h6).mono fun G a c h => ?_
      rw [CE.code, if_neg (by decide), if_neg (by decide), if_neg (by decide), if_neg (by decide), if_neg (by decide), if_neg (by decide), if_neg (by decide), if_pos (by decide), CE.codeX]
      obtain ⟨m2, ⟨m1, i1, i2⟩, r, h, a4, i3, ⟨a3, i4, i5⟩, i6, i7⟩ := h
      refine ⟨m1, m2, i1, i2, ?_⟩
      rw [CE.codeY]
      exact ⟨r, h, a3, a4, i3, i4, i5, i6, i7⟩
end
theorem codes_fresh {b : Bd} (h : Pl b) {g : Block → Block} {fin v to els : Int} (hg : ∀ x : Block, x.fin = 3 → x.v = 0 → x.to = 0 → x.els = 0 → (g x).ins = x.ins ∧ (g x).fin = fin ∧ (g x).v = v ∧ (g x).to = to ∧ (g x).els = els) :
    Codes (fun G a c => EndAt G a fin v to els ∧ c = (b.blocks.length, 0)) b ((b.opened.upd g).go b.blocks.length) := by
  obtain ⟨x, hx, e3, ev, et, ee⟩ := h
  have hlt := (List.getElem?_eq_some_iff.1 hx).1
  obtain ⟨g1, g2⟩ := hg x e3 ev et ee
  have hx1 : b.opened.blocks[b.opened.now]? = some x := (opened_old hlt).trans hx
  have hcur : (b.opened.upd g).blocks[b.now]? = some (g x) := upd_at (b := b.opened) hx1
  have hnew : (b.opened.upd g).blocks[b.blocks.length]? = some blk0 := (upd_ne (b := b.opened) z45q).trans (opened_at b)
  have hl : (b.opened.upd g).blocks.length = b.blocks.length + 1 := (upd_len b.opened g).trans (opened_len b)
  refine ⟨⟨by show _ ≤ (b.opened.upd g).blocks.length; omega, .inr (Nat.le_refl _), fun j y hj hy => ?_, fun y hy => ?_⟩, ⟨blk0, hnew, rfl, rfl, rfl, rfl⟩, fun G P hF hO => ?_⟩
  · have hjl := (List.getElem?_eq_some_iff.1 hy).1
    exact ((upd_ne (b := b.opened) hj).trans (opened_old hjl)).trans hy
  · rw [hx] at hy; cases hy
    exact ⟨g x, hcur, by rw [g1]; exact List.prefix_refl _⟩
  · have hPn : ¬ P b.now := hO.cur z45q
    obtain ⟨z, hz, _, hq⟩ := hF b.now (g x) hcur
    have := hq hPn
    subst this
    refine ⟨⟨_, hz, by rw [g1]; exact (il_of hx).symm, g2⟩, ?_⟩
    show (b.blocks.length, Bd.il _) = (b.blocks.length, 0)
    rw [il_of (b := (b.opened.upd g).go b.blocks.length) (x := blk0) hnew]
    rfl
theorem modify_self {α : Type} {l : List α} {i : Nat} {x : α} {g : α → α} (h : l[i]? = some x) (hg : g x = x) : l.modify i g = l := by
  refine List.ext_getElem? fun j => ?_
  rw [List.getElem?_modify]
  by_cases e : i = j
  · subst e
    rw [h]; simp [hg]
  · cases l[j]? <;> simp [e]
theorem ret_self {b : Bd} (h : Pl b) : b.ret = b := by
  obtain ⟨x, hx, e3, _⟩ := h
  unfold Bd.ret Bd.upd
  rw [modify_self hx (by rw [← e3])]
theorem codes_next {b : Bd} (h : Pl b) : Codes (fun G a c => EndAt G a 3 0 0 0) b b.next := by
  have := codes_fresh h (g := fun x => x) (fin := 3) (v := 0) (to := 0) (els := 0) (fun x h1 h2 h3 h4 => ⟨rfl, h1, h2, h3, h4⟩)
  have e : (b.opened.upd fun x => x).go b.blocks.length = b.next := by
    obtain ⟨x, hx, _⟩ := h
    have hlt := (List.getElem?_eq_some_iff.1 hx).1
    have hm : b.opened.blocks.modify b.opened.now (fun x => x) = b.opened.blocks := modify_self (x := x) ((opened_old hlt).trans hx) rfl
    unfold Bd.next Bd.upd
    rw [hm]
  rw [e] at this
  exact this.mono fun G a c h => h.1
theorem codes_leave {b : Bd} (h : Pl b) (C : Core) (w : Bool) : Codes (fun G a c => if w = true then InsAt G a (iNum 0 0) ∧ InsAt G (nx a) (iStore C.words 0) ∧ c = nx (nx a) else c = a) b (b.leave C w) := by
  unfold Bd.leave
  cases w with
  | false =>
    simp only [cond_false]
    rw [ret_self h]
    exact (Codes.refl h).mono fun G a c e => by rw [if_neg (by decide)]; exact e
  | true =>
    simp only [cond_true]
    have h1 := codes_put h (iNum 0 0)
    have h2 := codes_put h1.pl (iStore C.words 0)
    rw [ret_self h2.pl]
    refine (h1.seq h.lt h2).mono fun G a c hm => ?_
    obtain ⟨m, ⟨i1, rfl⟩, i2, rfl⟩ := hm
    rw [if_pos trivial]
    exact ⟨i1, i2, rfl⟩
theorem leave_of {C : Core} {w : Bool} {G : List Block} {a c : Pos} (h : if w = true then InsAt G a (iNum 0 0) ∧ InsAt G (nx a) (iStore C.words 0) ∧ c = nx (nx a) else c = a) (he : EndAt G c 3 0 0 0) : LeaveAt C w G a := by
  unfold LeaveAt
  cases w with
  | false => rw [if_neg (by decide)] at h ⊢; subst h; exact he
  | true => rw [if_pos rfl] at h ⊢; obtain ⟨h1, h2, rfl⟩ := h; exact ⟨h1, h2, he⟩
theorem codes_choice {b : Bd} (h : Pl b) {RT RE : List Block → Pos → Pos → Prop} {fT fE : Bd → Bd} (hT : ∀ b0, Pl b0 → Codes RT b0 (fT b0)) (hE : ∀ b0, Pl b0 → Codes RE b0 (fE b0)) :
    Codes (fun G a c => ∃ (t h o : Nat) (a2 a3 : Pos), EndAt G a 2 0 t o ∧ RT G (t, 0) a2 ∧ EndAt G a2 1 0 h 0 ∧ (RE G (o, 0) a3 ∧ EndAt G a3 1 0 h 0) ∧ c = (h, 0)) b
      (((((b.opened.opened.opened).inside (b.blocks.length + 2) (b.blocks.length + 1) fE).fork 0 b.blocks.length (b.blocks.length + 2)).inside b.blocks.length (b.blocks.length + 1) fT).go (b.blocks.length + 1)) := by
  obtain ⟨x, hx, e3, ev, et, ee⟩ := h
  have hlt := (List.getElem?_eq_some_iff.1 hx).1
  have l3 : b.opened.opened.opened.blocks.length = b.blocks.length + 3 := by rw [opened_len, opened_len, opened_len]
  have o3 : ∀ j, j < b.blocks.length → b.opened.opened.opened.blocks[j]? = b.blocks[j]? := fun j hj => by
    rw [opened_old (by rw [opened_len, opened_len]; omega), opened_old (by rw [opened_len]; omega), opened_old hj]
  have n0 : b.opened.opened.opened.blocks[b.blocks.length]? = some blk0 := by
    rw [opened_old (by rw [opened_len, opened_len]; omega), opened_old (by rw [opened_len]; omega)]; exact opened_at b
  have n1 : b.opened.opened.opened.blocks[b.blocks.length + 1]? = some blk0 := by
    rw [opened_old (by rw [opened_len, opened_len]; omega)]
    have := opened_at b.opened
    rwa [opened_len] at this
  have n2 : b.opened.opened.opened.blocks[b.blocks.length + 2]? = some blk0 := by
    have := opened_at b.opened.opened
    rwa [opened_len, opened_len] at this
  have hnow3 : b.opened.opened.opened.now = b.now := rfl
  generalize b.opened.opened.opened = b3 at l3 o3 n0 n1 n2 hnow3 ⊢
  have iE := inside_ok (to := b.blocks.length + 1) n2 (hE (b3.go (b.blocks.length + 2)) ⟨blk0, n2, rfl, rfl, rfl, rfl⟩)
  generalize b3.inside (b.blocks.length + 2) (b.blocks.length + 1) fE = b4 at iE ⊢
  have hl4 := iE.len
  have hnow4 : b4.now = b.now := iE.now.trans hnow3
  have x4 : b4.blocks[b.now]? = some x := by rw [iE.old _ (by omega) (by omega), o3 _ hlt]; exact hx
  have x5 : (b4.fork 0 b.blocks.length (b.blocks.length + 2)).blocks[b.now]? = some { x with fin := 2, v := 0, to := (b.blocks.length : Int), els := ((b.blocks.length + 2 : Nat) : Int) } := by
    have := fork_at (b := b4) (v := 0) (to := b.blocks.length) (els := b.blocks.length + 2) (x := x) (by rw [hnow4]; exact x4)
    rw [hnow4] at this; exact this
  have o5 : ∀ j, j ≠ b.now → (b4.fork 0 b.blocks.length (b.blocks.length + 2)).blocks[j]? = b4.blocks[j]? := fun j hj => upd_ne (by rw [hnow4]; exact hj)
  have l5 : (b4.fork 0 b.blocks.length (b.blocks.length + 2)).blocks.length = b4.blocks.length := upd_len b4 _
  have hnow5 : (b4.fork 0 b.blocks.length (b.blocks.length + 2)).now = b.now := hnow4
  generalize b4.fork 0 b.blocks.length (b.blocks.length + 2) = b5 at x5 o5 l5 hnow5 ⊢
  have n5 : b5.blocks[b.blocks.length]? = some blk0 := by rw [o5 _ (by omega), iE.old _ (by omega) (by omega)]; exact n0
  have iT := inside_ok (to := b.blocks.length + 1) n5 (hT (b5.go b.blocks.length) ⟨blk0, n5, rfl, rfl, rfl, rfl⟩)
  generalize b5.inside b.blocks.length (b.blocks.length + 1) fT = b6 at iT ⊢
  have hl6 := iT.len
  have hgo : (b6.go (b.blocks.length + 1)).blocks = b6.blocks := rfl
  have n6 : b6.blocks[b.blocks.length + 1]? = some blk0 := by rw [iT.old _ (by omega) (by omega), o5 _ (by omega), iE.old _ (by omega) (by omega)]; exact n1
  refine ⟨⟨by rw [hgo]; omega, .inr (by show b.blocks.length ≤ b.blocks.length + 1; omega), fun j z hj hz => ?_, fun z hz => ?_⟩, ⟨blk0, n6, rfl, rfl, rfl, rfl⟩, fun G P hF hO => ?_⟩
  · have hjl := (List.getElem?_eq_some_iff.1 hz).1
    rw [hgo, iT.old j (by omega) (by omega), o5 j hj, iE.old j (by omega) (by omega), o3 j hjl]
    exact hz
  · rw [hx] at hz; cases hz
    have h6 := iT.old b.now (by omega) (by omega)
    rw [x5] at h6
    exact ⟨_, h6, List.prefix_refl _⟩
  · have hF6 : Fit b6 G P := hF
    have hnew := hO.new
    have hnow2 : (b6.go (b.blocks.length + 1)).now = b.blocks.length + 1 := rfl
    rw [hnow2, hgo] at hnew
    have hPn : ¬ P b.now := hO.cur (by rw [hnow2]; omega)
    obtain ⟨a2, k1, k2⟩ := iT.code G P hF6 (hnew _ (Nat.le_refl _) (by omega) (by omega)) (fun j h1 h2 => hnew j (by omega) h2 (by omega))
    have hF4 : Fit b4 G (fun j => j = b.now ∨ (j = b.blocks.length ∨ P j)) := fun j y hy => by
      have hjl := (List.getElem?_eq_some_iff.1 hy).1
      by_cases e1 : j = b.now
      · subst e1
        rw [x4] at hy; cases hy
        obtain ⟨z, hz, hp, _⟩ := hF6 b.now _ (by rw [iT.old _ (by omega) (by omega)]; exact x5)
        exact ⟨z, hz, hp, fun hn => absurd (.inl rfl) hn⟩
      · by_cases e2 : j = b.blocks.length
        · subst e2
          have : y = blk0 := by
            rw [iE.old _ (by omega) (by omega), n0] at hy
            exact (Option.some.inj hy).symm
          subst this
          obtain ⟨u, hu⟩ := get_of_lt (l := b6.blocks) (k := b.blocks.length) (by omega)
          obtain ⟨z, hz, _⟩ := hF6 _ u hu
          exact ⟨z, hz, List.nil_prefix, fun hn => absurd (.inr (.inl rfl)) hn⟩
        · obtain ⟨z, hz, hp, hq⟩ := hF6 j y (by rw [iT.old _ e2 (by omega), o5 _ e1]; exact hy)
          exact ⟨z, hz, hp, fun hn => hq fun h => hn (.inr (.inr h))⟩
    obtain ⟨a3, j1, j2⟩ := iE.code G _ hF4 (fun hn => by
      rcases hn with hn | hn | hn
      · omega
      · omega
      · exact hnew _ (by omega) (by omega) (by omega) hn) (fun j h1 h2 hn => by
      rcases hn with hn | hn | hn
      · omega
      · omega
      · exact hnew j (by omega) (by omega) (by omega) hn)
    obtain ⟨z, hz, _, hq⟩ := hF6 b.now _ (by rw [iT.old _ (by omega) (by omega)]; exact x5)
    have := hq hPn
    subst this
    refine ⟨b.blocks.length, b.blocks.length + 1, b.blocks.length + 2, a2, a3, ⟨_, hz, (il_of hx).symm, rfl, rfl, rfl, rfl⟩, k1, k2, ⟨j1, j2⟩, ?_⟩
    show (b.blocks.length + 1, Bd.il _) = (b.blocks.length + 1, 0)
    rw [il_of (b := b6.go (b.blocks.length + 1)) (x := blk0) n6]
    rfl
theorem codes_loop {b : Bd} (h : Pl b) {RC RT : List Block → Pos → Pos → Prop} {fC fT : Bd → Bd} (hC : ∀ b0, Pl b0 → Codes RC b0 (fC b0)) (hT : ∀ b0, Pl b0 → Codes RT b0 (fT b0)) :
    Codes (fun G a c => ∃ (g t h : Nat) (a1 a2 : Pos), EndAt G a 1 0 g 0 ∧ RC G (g, 0) a1 ∧ EndAt G a1 2 0 t h ∧ RT G (t, 0) a2 ∧ EndAt G a2 1 0 g 0 ∧ c = (h, 0)) b
      ((((fC (((b.opened.opened.opened).inside b.now b.blocks.length fun x => x).go b.blocks.length)).fork 0 (b.blocks.length + 1) (b.blocks.length + 2)).inside (b.blocks.length + 1) b.blocks.length fT).go (b.blocks.length + 2)) := by
  obtain ⟨x, hx, e3, ev, et, ee⟩ := h
  have hlt := (List.getElem?_eq_some_iff.1 hx).1
  have l3 : b.opened.opened.opened.blocks.length = b.blocks.length + 3 := by rw [opened_len, opened_len, opened_len]
  have o3 : ∀ j, j < b.blocks.length → b.opened.opened.opened.blocks[j]? = b.blocks[j]? := fun j hj => by
    rw [opened_old (by rw [opened_len, opened_len]; omega), opened_old (by rw [opened_len]; omega), opened_old hj]
  have n0 : b.opened.opened.opened.blocks[b.blocks.length]? = some blk0 := by
    rw [opened_old (by rw [opened_len, opened_len]; omega), opened_old (by rw [opened_len]; omega)]; exact opened_at b
  have n1 : b.opened.opened.opened.blocks[b.blocks.length + 1]? = some blk0 := by
    rw [opened_old (by rw [opened_len, opened_len]; omega)]
    have := opened_at b.opened
    rwa [opened_len] at this
  have n2 : b.opened.opened.opened.blocks[b.blocks.length + 2]? = some blk0 := by
    have := opened_at b.opened.opened
    rwa [opened_len, opened_len] at this
  have eB : ((b.opened.opened.opened).inside b.now b.blocks.length fun x => x).go b.blocks.length = (b.opened.opened.opened.jump b.blocks.length).go b.blocks.length := rfl
  rw [eB]
  have hnow3 : b.opened.opened.opened.now = b.now := rfl
  have xj : (b.opened.opened.opened.jump b.blocks.length).blocks[b.now]? = some { x with fin := 1, to := (b.blocks.length : Int) } := jump_at (b := b.opened.opened.opened) ((o3 _ hlt).trans hx)
  have oj : ∀ j, j ≠ b.now → (b.opened.opened.opened.jump b.blocks.length).blocks[j]? = b.opened.opened.opened.blocks[j]? := fun j hj => upd_ne hj
  have lj : (b.opened.opened.opened.jump b.blocks.length).blocks.length = b.blocks.length + 3 := (upd_len _ _).trans l3
  generalize b.opened.opened.opened.jump b.blocks.length = bj at xj oj lj ⊢
  have j0 : bj.blocks[b.blocks.length]? = some blk0 := by rw [oj _ (by omega)]; exact n0
  have j1 : bj.blocks[b.blocks.length + 1]? = some blk0 := by rw [oj _ (by omega)]; exact n1
  have j2 : bj.blocks[b.blocks.length + 2]? = some blk0 := by rw [oj _ (by omega)]; exact n2
  have oj2 : ∀ j, j ≠ b.now → j < b.blocks.length → bj.blocks[j]? = b.blocks[j]? := fun j h1 h2 => by rw [oj j h1, o3 j h2]
  have cC := hC (bj.go b.blocks.length) ⟨blk0, j0, rfl, rfl, rfl, rfl⟩
  generalize fC (bj.go b.blocks.length) = bc at cC ⊢
  obtain ⟨y, hy, y3, yv, yt, ye⟩ := cC.pl
  have lc : b.blocks.length + 3 ≤ bc.blocks.length := by have := cC.fr.len; have e : (bj.go b.blocks.length).blocks.length = bj.blocks.length := rfl; omega
  have hcn : bc.now = b.blocks.length ∨ b.blocks.length + 3 ≤ bc.now := by
    have := cC.fr.now
    have e : (bj.go b.blocks.length).blocks.length = bj.blocks.length := rfl
    rw [e, lj] at this; exact this
  have hcl := (List.getElem?_eq_some_iff.1 hy).1
  have oc : ∀ j, j ≠ b.blocks.length → j < b.blocks.length + 3 → bc.blocks[j]? = bj.blocks[j]? := fun j h1 h2 => by
    obtain ⟨z, hz⟩ := get_of_lt (l := bj.blocks) (k := j) (by omega)
    rw [hz]; exact cC.fr.old j z h1 hz
  have yf : (bc.fork 0 (b.blocks.length + 1) (b.blocks.length + 2)).blocks[bc.now]? = some { y with fin := 2, v := 0, to := ((b.blocks.length + 1 : Nat) : Int), els := ((b.blocks.length + 2 : Nat) : Int) } := fork_at hy
  have of_ : ∀ j, j ≠ bc.now → (bc.fork 0 (b.blocks.length + 1) (b.blocks.length + 2)).blocks[j]? = bc.blocks[j]? := fun j hj => upd_ne hj
  have lf : (bc.fork 0 (b.blocks.length + 1) (b.blocks.length + 2)).blocks.length = bc.blocks.length := upd_len bc _
  generalize bc.fork 0 (b.blocks.length + 1) (b.blocks.length + 2) = bf at yf of_ lf ⊢
  have f1 : bf.blocks[b.blocks.length + 1]? = some blk0 := by rw [of_ _ (by omega), oc _ (by omega) (by omega)]; exact j1
  have f2 : bf.blocks[b.blocks.length + 2]? = some blk0 := by rw [of_ _ (by omega), oc _ (by omega) (by omega)]; exact j2
  have iT := inside_ok (to := b.blocks.length) f1 (hT (bf.go (b.blocks.length + 1)) ⟨blk0, f1, rfl, rfl, rfl, rfl⟩)
  generalize bf.inside (b.blocks.length + 1) b.blocks.length fT = b6 at iT ⊢
  have hl6 := iT.len
  have hgo : (b6.go (b.blocks.length + 2)).blocks = b6.blocks := rfl
  have n6 : b6.blocks[b.blocks.length + 2]? = some blk0 := by rw [iT.old _ (by omega) (by omega)]; exact f2
  have x6 : b6.blocks[b.now]? = some { x with fin := 1, to := (b.blocks.length : Int) } := by rw [iT.old _ (by omega) (by omega), of_ _ (by omega), oc _ (by omega) (by omega)]; exact xj
  refine ⟨⟨by rw [hgo]; omega, .inr (by show b.blocks.length ≤ b.blocks.length + 2; omega), fun j z hj hz => ?_, fun z hz => ?_⟩, ⟨blk0, n6, rfl, rfl, rfl, rfl⟩, fun G P hF hO => ?_⟩
  · have hjl := (List.getElem?_eq_some_iff.1 hz).1
    rw [hgo, iT.old j (by omega) (by omega), of_ j (by omega), oc j (by omega) (by omega), oj2 j hj hjl]
    exact hz
  · rw [hx] at hz; cases hz
    exact ⟨_, x6, List.prefix_refl _⟩
  · have hF6 : Fit b6 G P := hF
    have hnew := hO.new
    have hnow2 : (b6.go (b.blocks.length + 2)).now = b.blocks.length + 2 := rfl
    rw [hnow2, hgo] at hnew
    have hPn : ¬ P b.now := hO.cur (by rw [hnow2]; omega)
    obtain ⟨a2, k1, k2⟩ := iT.code G P hF6 (hnew _ (by omega) (by omega) (by omega)) (fun j h1 h2 => hnew j (by omega) h2 (by omega))
    have hPc : ¬ P bc.now := hnew _ (by omega) (by omega) (by omega)
    have y6 : b6.blocks[bc.now]? = some { y with fin := 2, v := 0, to := ((b.blocks.length + 1 : Nat) : Int), els := ((b.blocks.length + 2 : Nat) : Int) } := by rw [iT.old _ (by omega) (by omega)]; exact yf
    have hFc : Fit bc G (fun j => j = bc.now ∨ (j = b.blocks.length + 1 ∨ P j)) := fun j u hu => by
      have hjl := (List.getElem?_eq_some_iff.1 hu).1
      by_cases e1 : j = bc.now
      · subst e1
        rw [hy] at hu; cases hu
        obtain ⟨z, hz, hp, _⟩ := hF6 bc.now _ y6
        exact ⟨z, hz, hp, fun hn => absurd (.inl rfl) hn⟩
      · by_cases e2 : j = b.blocks.length + 1
        · subst e2
          have : u = blk0 := by
            rw [oc _ (by omega) (by omega), j1] at hu
            exact (Option.some.inj hu).symm
          subst this
          obtain ⟨u, hu⟩ := get_of_lt (l := b6.blocks) (k := b.blocks.length + 1) (by omega)
          obtain ⟨z, hz, _⟩ := hF6 _ u hu
          exact ⟨z, hz, List.nil_prefix, fun hn => absurd (.inr (.inl rfl)) hn⟩
        · obtain ⟨z, hz, hp, hq⟩ := hF6 j u (by rw [iT.old _ e2 (by omega), of_ _ e1]; exact hu)
          exact ⟨z, hz, hp, fun hn => hq fun h => hn (.inr (.inr h))⟩
    have lgo : (bj.go b.blocks.length).blocks.length = b.blocks.length + 3 := lj
    have kc := cC.code G _ hFc ⟨.inl rfl, fun j h1 h2 h3 hn => by
      rw [lgo] at h1
      rcases hn with hn | hn | hn
      · exact h3 hn
      · omega
      · exact hnew j (by omega) (by omega) (by omega) hn, fun hne hn => by
      have hne2 : bc.now ≠ b.blocks.length := hne
      have hn2 : b.blocks.length = bc.now ∨ (b.blocks.length = b.blocks.length + 1 ∨ P b.blocks.length) := hn
      rcases hn2 with hn | hn | hn
      · omega
      · omega
      · exact hnew _ (Nat.le_refl _) (by omega) (by omega) hn⟩
    have ilj : (bj.go b.blocks.length).il = 0 := (il_of (b := bj.go b.blocks.length) (x := blk0) j0).trans rfl
    have epos : (bj.go b.blocks.length).pos = (b.blocks.length, 0) := by show (b.blocks.length, Bd.il _) = _; rw [ilj]
    rw [epos] at kc
    obtain ⟨z, hz, _, hq⟩ := hF6 b.now _ x6
    have := hq hPn
    subst this
    obtain ⟨z2, hz2, _, hq2⟩ := hF6 bc.now _ y6
    have := hq2 hPc
    subst this
    refine ⟨b.blocks.length, b.blocks.length + 1, b.blocks.length + 2, bc.pos, a2, ⟨_, hz, (il_of hx).symm, rfl, ev, rfl, ee⟩, kc, ⟨_, hz2, (il_of hy).symm, rfl, rfl, rfl, rfl⟩, k1, k2, ?_⟩
    show (b.blocks.length + 2, Bd.il _) = (b.blocks.length + 2, 0)
    rw [il_of (b := b6.go (b.blocks.length + 2)) (x := blk0) n6]
    rfl
section
variable {C : Core} {n : Nat} {w : Bool}
def CodesS (C : Core) (n : Nat) (w : Bool) (st : CS) : Prop := st.ok C n w → ∀ (b : Bd), Pl b → Codes (fun G a c => st.code C w G a c) b (st.build C w b)
theorem codes_stmts : ∀ (l : List CS), (∀ st ∈ l, CodesS C n w st) → CS.okL C n w l → ∀ (b : Bd), Pl b → Codes (fun G a c => CS.codeL C w G l a c) b (CS.buildL C w l b)
  | [], _, _, b, hb => by
    rw [CS.buildL]
    exact (Codes.refl hb).mono fun G a c h => by rw [CS.codeL]; exact h
  | st :: l, hI, hok, b, hb => by
    rw [CS.buildL]
    rw [CS.okL] at hok
    have h1 := hI st (List.mem_cons.2 (.inl rfl)) hok.1 b hb
    have h2 := codes_stmts l (fun st he => hI st (List.mem_cons.2 (.inr he))) hok.2 (st.build C w b) h1.pl
    refine (h1.seq hb.lt h2).mono fun G a c h => ?_
    rw [CS.codeL]
    exact h
theorem codes_exprs {l : List CE} (hok : CE.okL C n l) (d : Nat) (b : Bd) (hb : Pl b) : Codes (fun G a c => CE.codeL C G l d a c) b (CE.buildL C l d b) :=
  codes_list l (fun e _ => codes_expr e.parts e (Nat.le_refl _)) hok d b hb
theorem codes_stmt : ∀ (m : Nat) (st : CS), st.parts ≤ m → CodesS C n w st
  | 0, st, h => by cases st; rw [CS.parts] at h; omega
  | m + 1, st, hm => by
    cases st with
    | mk k s z es thn els =>
    rw [CS.parts] at hm
    have hT : ∀ st ∈ thn, CodesS C n w st := fun st hs => codes_stmt m st (by have := sparts_mem hs; omega)
    have hL : ∀ st ∈ els, CodesS C n w st := fun st hs => codes_stmt m st (by have := sparts_mem hs; omega)
    intro hok b hb
    rw [CS.ok] at hok
    obtain ⟨hes, hthn, hels, hk⟩ := hok
    have hE := codes_exprs hes 0 b hb
    rcases hk with ⟨rfl, h1, s0, s1⟩ | ⟨rfl, h2, z1, z2, s0, s1⟩ | ⟨rfl, h1⟩ | ⟨rfl, h1⟩ | ⟨rfl, h1⟩ | ⟨rfl, s0, s1, fn, hfn, hwd, hpar, h6⟩ | ⟨rfl, h1⟩
    · rw [CS.build, if_pos rfl]
      exact (hE.seq hb.lt (codes_put hE.pl _)).mono fun G a c h => by rw [CS.code, if_pos rfl]; exact h
    · rw [CS.build, if_neg (by decide), if_pos rfl]
      exact (hE.seq hb.lt (codes_put hE.pl _)).mono fun G a c h => by rw [CS.code, if_neg (by decide), if_pos rfl]; exact h
    · rw [CS.build, if_neg (by decide), if_neg (by decide), if_pos rfl]
      exact (hE.seq hb.lt (codes_put hE.pl _)).mono fun G a c h => by rw [CS.code, if_neg (by decide), if_neg (by decide), if_pos rfl]; exact h
    · rw [CS.build, if_neg (by decide), if_neg (by decide), if_neg (by decide), if_neg (by decide), if_neg (by decide), if_pos rfl]
      dsimp only
      have fT : ∀ b0, Pl b0 → Codes (fun G a c => CS.codeL C w G thn a c) b0 (CS.buildL C w thn b0) := fun b0 h0 => codes_stmts thn hT hthn b0 h0
      have fE : ∀ b0, Pl b0 → Codes (fun G a c => CS.codeL C w G els a c) b0 (CS.buildL C w els b0) := fun b0 h0 => codes_stmts els hL hels b0 h0
      by_cases he : els = []
      · rw [if_pos he]
        have h2 := codes_right (k := 8) (d := 0) hE.pl fT
        refine (hE.seq hb.lt h2).mono fun G a c h => ?_
        rw [CS.code, if_neg (by decide), if_neg (by decide), if_neg (by decide), if_neg (by decide), if_neg (by decide), if_pos rfl]
        obtain ⟨a1, i1, r, h, a2, i2, i3, i4, i5⟩ := h
        rw [if_pos rfl] at i2
        exact ⟨a1, r, h, h, a2, a2, i1, i2, i3, i4, by rw [if_pos he], i5⟩
      · rw [if_neg he]
        have h2 := codes_choice hE.pl fT fE
        refine (hE.seq hb.lt h2).mono fun G a c h => ?_
        rw [CS.code, if_neg (by decide), if_neg (by decide), if_neg (by decide), if_neg (by decide), if_neg (by decide), if_pos rfl]
        obtain ⟨a1, i1, t, h, o, a2, a3, i2, i3, i4, i5, i6⟩ := h
        exact ⟨a1, t, h, o, a2, a3, i1, i2, i3, i4, by rw [if_neg he]; exact i5, i6⟩
    · rw [CS.build, if_neg (by decide), if_neg (by decide), if_neg (by decide), if_neg (by decide), if_neg (by decide), if_neg (by decide), if_pos rfl]
      dsimp only
      have h2 := codes_loop hb (fun b0 h0 => codes_exprs hes 0 b0 h0) (fun b0 h0 => codes_stmts thn hT hthn b0 h0)
      refine h2.mono fun G a c h => ?_
      rw [CS.code, if_neg (by decide), if_neg (by decide), if_neg (by decide), if_neg (by decide), if_neg (by decide), if_neg (by decide), if_pos rfl]
      exact h
    · rw [CS.build, if_neg (by decide), if_neg (by decide), if_neg (by decide), if_pos rfl]
      refine (hE.seq hb.lt (codes_called hE.pl C s es.length 0)).mono fun G a c h => ?_
      rw [CS.code, if_neg (by decide), if_neg (by decide), if_neg (by decide), if_pos rfl]; exact h
    · rw [CS.build, if_neg (by decide), if_neg (by decide), if_neg (by decide), if_neg (by decide), if_pos rfl]
      by_cases he : es = []
      · rw [if_pos he]
        have h2 := codes_leave hb C w
        refine (h2.seq hb.lt (codes_next h2.pl)).mono fun G a c h => ?_
        rw [CS.code, if_neg (by decide), if_neg (by decide), if_neg (by decide), if_neg (by decide), if_pos rfl, if_pos he]
        obtain ⟨m, i1, i2⟩ := h
        exact leave_of i1 i2
      · rw [if_neg he]
        have h2 := codes_put hE.pl (iStore C.words 0)
        refine (hE.seq hb.lt (h2.seq hE.pl.lt (codes_next h2.pl))).mono fun G a c h => ?_
        rw [CS.code, if_neg (by decide), if_neg (by decide), if_neg (by decide), if_neg (by decide), if_pos rfl, if_neg he]
        obtain ⟨a1, i1, a2, ⟨i2, rfl⟩, i3⟩ := h
        exact ⟨a1, i1, i2, i3⟩
theorem codes_zeros {b : Bd} (h : Pl b) (first : Int) : ∀ n : Nat, Codes (fun G a c => ZerosAt G a first n c) b (b.zeros first n)
  | 0 => (Codes.refl h).mono fun G a c hm => ⟨fun i hi => absurd hi (by omega), hm⟩
  | n + 1 => by
    have ih := codes_zeros h first n
    have h2 := codes_put ih.pl (iStore (first + n) 0)
    refine (ih.seq h.lt h2).mono fun G a c hm => ?_
    obtain ⟨m, ⟨i1, rfl⟩, i2, rfl⟩ := hm
    refine ⟨fun i hi => ?_, rfl⟩
    by_cases e : i = n
    · subst e; exact i2
    · exact i1 i (by omega)
theorem codes_astores {b : Bd} (h : Pl b) (first z : Int) : ∀ n : Nat, Codes (fun G a c => (∀ i, i < n → InsAt G (a.1, a.2 + i) (iAStore 1 0 (first + i) z)) ∧ c = (a.1, a.2 + n)) b (b.astores first z n)
  | 0 => (Codes.refl h).mono fun G a c hm => ⟨fun i hi => absurd hi (by omega), hm⟩
  | n + 1 => by
    have ih := codes_astores h first z n
    have h2 := codes_put ih.pl (iAStore 1 0 (first + n) z)
    refine (ih.seq h.lt h2).mono fun G a c hm => ?_
    obtain ⟨m, ⟨i1, rfl⟩, i2, rfl⟩ := hm
    refine ⟨fun i hi => ?_, rfl⟩
    by_cases e : i = n
    · subst e; exact i2
    · exact i1 i (by omega)
theorem codes_chunk {b : Bd} (h : Pl b) (first : Int) (n : Nat) : Codes (fun G a c => ChunkAt G a first n c) b (b.chunk first n) := by
  have p1 := codes_put h (iNum 1 0)
  have p2 := codes_put p1.pl (iNum 2 8)
  have p3 := codes_put p2.pl (iNum 3 n)
  have p4 := codes_fresh p3.pl (g := fun x => { x with fin := 1, to := ((b.chunk1 n).blocks.length : Int) }) (fin := 1) (v := 0) (to := ((b.chunk1 n).blocks.length : Int)) (els := 0) (fun x h1 h2 h3 h4 => ⟨rfl, rfl, h2, rfl, h4⟩)
  have p5 := codes_astores p4.pl first (n - 7) 8
  have p6 := codes_put p5.pl (iBin 4 1 1 2)
  have p7 := codes_put p6.pl (iBin 14 4 1 3)
  have p8 := codes_fresh p7.pl (g := fun x => { x with fin := 2, v := ((4 : Nat) : Int), to := ((b.chunk1 n).blocks.length : Int), els := ((((((b.chunk1 n).chunk2.astores first (n - 7) 8).put (iBin 4 1 1 2)).put (iBin 14 4 1 3)).blocks.length : Nat) : Int) }) (fin := 2) (v := ((4 : Nat) : Int)) (to := ((b.chunk1 n).blocks.length : Int)) (els := ((((((b.chunk1 n).chunk2.astores first (n - 7) 8).put (iBin 4 1 1 2)).put (iBin 14 4 1 3)).blocks.length : Nat) : Int)) (fun x h1 h2 h3 h4 => ⟨rfl, rfl, rfl, rfl, rfl⟩)
  have q := p1.seq h.lt (p2.seq p1.pl.lt (p3.seq p2.pl.lt (p4.seq p3.pl.lt (p5.seq p4.pl.lt (p6.seq p5.pl.lt (p7.seq p6.pl.lt p8))))))
  refine Codes.mono (b := b) (b' := b.chunk first n) q fun G a c hm => ?_
  obtain ⟨m1, ⟨i1, rfl⟩, m2, ⟨i2, rfl⟩, m3, ⟨i3, rfl⟩, m4, ⟨i4, rfl⟩, m5, ⟨i5, rfl⟩, m6, ⟨i6, rfl⟩, m7, ⟨i7, rfl⟩, i8, rfl⟩ := hm
  exact ⟨i1, i2, i3, _, _, i4, fun k hk => by have := i5 k hk; rw [Nat.zero_add] at this; exact this, i6, i7, i8, rfl⟩
theorem codes_noughtG : ∀ (g : Nat) {b : Bd} (h : Pl b) (first : Int) (n : Nat), Codes (fun G a c => NoughtG G g a first n c) b (Bd.noughtG g b first n)
  | 0, b, h, first, n => by
    rw [Bd.noughtG]
    exact (Codes.refl h).mono fun G a c e => by rw [NoughtG]; exact e
  | g + 1, b, h, first, n => by
    rw [Bd.noughtG]
    by_cases hn : 64 < n
    · rw [if_pos hn]
      have h1 := codes_chunk h first (chunkN n)
      exact (h1.seq h.lt (codes_noughtG g h1.pl _ _)).mono fun G a c e => by rw [NoughtG, if_pos hn]; exact e
    · rw [if_neg hn]
      exact (codes_zeros h first n).mono fun G a c e => by rw [NoughtG, if_neg hn]; exact e
theorem codes_nought {b : Bd} (h : Pl b) (first : Int) (n : Nat) : Codes (fun G a c => NoughtAt G a first n c) b (b.nought first n) := by
  unfold Bd.nought
  by_cases hn : n = 0
  · rw [if_pos hn]
    exact (Codes.refl h).mono fun G a c e => by unfold NoughtAt; rw [if_pos hn]; exact e
  · rw [if_neg hn]
    have h1 := codes_put h (iNum 0 0)
    refine (h1.seq h.lt (codes_noughtG n h1.pl first n)).mono fun G a c e => ?_
    unfold NoughtAt
    rw [if_neg hn]
    obtain ⟨m, ⟨i1, rfl⟩, i2⟩ := e
    exact ⟨i1, i2⟩
end
def bd0 : Bd := ⟨0, [blk0], 0⟩
def fnBd (C : Core) (fn : CFn) (last : Bool) : Bd := (CS.buildL C fn.word fn.body (bif last then bd0 else bd0.nought (fn.first + fn.params) (fn.slots - fn.params).toNat)).leave C fn.word
def fnBuild (C : Core) (fn : CFn) (last : Bool) : BFunc := ⟨(fnBd C fn last).regs, (fnBd C fn last).blocks⟩
def Core.m (C : Core) : Int := if C.funcs.any CFn.word then C.words + 1 else C.words
def Core.build (C : Core) : Blocks := ⟨C.m, C.funcs.zipIdx.map fun p => fnBuild C p.1 (p.2 + 1 == C.funcs.length)⟩
theorem pl0 : Pl bd0 := ⟨blk0, rfl, rfl, rfl, rfl, rfl⟩
theorem codes_fn {C : Core} {n : Nat} {fn : CFn} (hok : CS.okL C n fn.word fn.body) (last : Bool) : Pl (fnBd C fn last) ∧ FnAt C (fnBd C fn last).blocks fn last := by
  have h1 : Codes (fun G a c => if last = true then c = a else NoughtAt G a (fn.first + fn.params) (fn.slots - fn.params).toNat c) bd0 (bif last then bd0 else bd0.nought (fn.first + fn.params) (fn.slots - fn.params).toNat) := by
    cases last with
    | true => exact (Codes.refl pl0).mono fun G a c e => by rw [if_pos rfl]; exact e
    | false => exact (codes_nought pl0 _ _).mono fun G a c e => by rw [if_neg (by decide)]; exact e
  have h2 := codes_stmts (C := C) (n := n) (w := fn.word) fn.body (fun st _ => codes_stmt st.parts st (Nat.le_refl _)) hok _ h1.pl
  have h3 := codes_leave h2.pl C fn.word
  have q := h1.seq pl0.lt (h2.seq h1.pl.lt h3)
  refine ⟨h3.pl, ?_⟩
  have hpl : Pl (fnBd C fn last) := h3.pl
  obtain ⟨x, hx, e3, ev, et, ee⟩ := hpl
  have hc := q.code (fnBd C fn last).blocks (fun j => j = (fnBd C fn last).now) (fun j y hy => ⟨y, hy, List.prefix_refl _, fun _ => rfl⟩) ⟨rfl, fun j _ _ h => h, fun h e => h e.symm⟩
  obtain ⟨a1, i1, a2, i2, i3⟩ := hc
  have hp : bd0.pos = (0, 0) := rfl
  rw [hp] at i1
  refine ⟨a1, a2, ?_, i2, leave_of i3 ⟨x, hx, (il_of hx).symm, e3, ev, et, ee⟩⟩
  cases last with
  | true => rw [if_pos rfl] at i1 ⊢; exact i1
  | false => rw [if_neg (by decide)] at i1 ⊢; exact i1
theorem fits_of {t : Tac} {i regs M : Int} (ho : (decide (1 ≤ t.op) && decide (t.op ≤ 10)) = true) (hd : setsOp t.op = true → 0 ≤ t.d ∧ t.d < regs) (hu : ∀ u ∈ t.uses, 0 ≤ u ∧ u < regs) (hr : t.rest i M = true) (hs : t = t.want) : t.fits i regs M = true := by
  unfold Tac.fits
  rw [Bool.and_eq_true] at ho
  rw [ho.1, ho.2, hr, (Tac.same_iff t t.want).2 hs]
  have h1 : (!setsOp t.op || within t.d regs) = true := by
    cases e : setsOp t.op with
    | false => rfl
    | true =>
      have := hd e
      simp [within, this.1, this.2]
  have h2 : (t.uses.all fun r => within r regs) = true := List.all_eq_true.2 fun u hu' => by
    have := hu u hu'
    simp [within, this.1, this.2]
  rw [h1, h2]; rfl
theorem fits_mono {t : Tac} {i regs regs' M : Int} (h : t.fits i regs M = true) (hr : regs ≤ regs') : t.fits i regs' M = true := by
  simp only [Tac.fits, Bool.and_eq_true, Bool.or_eq_true, Bool.not_eq_true', List.all_eq_true, within, decide_eq_true_eq] at h ⊢
  obtain ⟨h1, h2, h3, h4, h5⟩ := h
  refine ⟨h1, h2, h3.imp id fun h => ⟨h.1, by omega⟩, fun u hu => ⟨(h4 u hu).1, by have := (h4 u hu).2; omega⟩, h5⟩
theorem ends_mono {x : Block} {n n' r r' : Int} (h : x.ends n r = true) (hn : n ≤ n') (hr : r ≤ r') : x.ends n' r' = true := by
  unfold Block.ends at h ⊢
  cases e1 : x.fin == 1 with
  | true =>
    rw [e1] at h
    simp only [cond_true, Bool.and_eq_true, within, decide_eq_true_eq] at h ⊢
    exact ⟨⟨h.1.1, by omega⟩, h.2⟩
  | false =>
    cases e2 : x.fin == 2 with
    | true =>
      rw [e1, e2] at h
      simp only [cond_true, cond_false, Bool.and_eq_true, within, decide_eq_true_eq] at h ⊢
      exact ⟨⟨h.1.1, by omega⟩, ⟨h.2.1.1, by omega⟩, h.2.2.1, by omega⟩
    | false =>
      rw [e1, e2] at h
      simpa using h
structure Inv (i M : Int) (b : Bd) : Prop where
  r0 : 0 ≤ b.regs
  ins : ∀ x ∈ b.blocks, ∀ t ∈ x.ins, t.fits i b.regs M = true
  ends : ∀ x ∈ b.blocks, x.ends b.blocks.length b.regs = true
structure Res (i M lo hi : Int) (b b' : Bd) : Prop where
  inv : Inv i M b'
  regs : b.regs ≤ b'.regs
  lo : lo ≤ b'.regs
  hi : b'.regs ≤ max b.regs hi
  len : b.blocks.length ≤ b'.blocks.length
section
variable {i M : Int} {C : Core} {n : Nat}
theorem mem_modify {b : Bd} {g : Block → Block} {y : Block} (h : y ∈ (b.upd g).blocks) : (∃ x, b.blocks[b.now]? = some x ∧ y = g x) ∨ y ∈ b.blocks := by
  obtain ⟨j, hj⟩ := List.mem_iff_getElem?.1 h
  by_cases e : j = b.now
  · subst e
    have hl := (List.getElem?_eq_some_iff.1 hj).1
    rw [upd_len] at hl
    obtain ⟨x, hx⟩ := get_of_lt hl
    rw [upd_at hx] at hj
    exact .inl ⟨x, hx, (Option.some.inj hj).symm⟩
  · rw [upd_ne e] at hj
    exact .inr (List.mem_of_getElem? hj)
theorem inv_put {b : Bd} {t : Tac} (h : Inv i M b) (hd : 0 ≤ t.d) (ht : t.fits i (max b.regs (t.d + 1)) M = true) : Res i M (t.d + 1) (t.d + 1) b (b.put t) := by
  have hr : (b.put t).regs = max b.regs (t.d + 1) := rfl
  have hl : (b.put t).blocks.length = b.blocks.length := upd_len b _
  have hb := h.r0
  refine ⟨⟨by rw [hr]; omega, fun y hy u hu => ?_, fun y hy => ?_⟩, by rw [hr]; omega, by rw [hr]; omega, by rw [hr]; omega, by rw [hl]; exact Nat.le_refl _⟩
  · rw [hr]
    rcases mem_modify (b := b) hy with ⟨x, hx, rfl⟩ | hy
    · rcases List.mem_append.1 (show u ∈ x.ins ++ [t] from hu) with hu | hu
      · exact fits_mono (h.ins x (List.mem_of_getElem? hx) u hu) (by omega)
      · rw [List.mem_singleton.1 hu]; exact ht
    · exact fits_mono (h.ins y hy u hu) (by omega)
  · rw [hr, hl]
    rcases mem_modify (b := b) hy with ⟨x, hx, rfl⟩ | hy
    · exact ends_mono (x := x) (h.ends x (List.mem_of_getElem? hx)) (by omega) (by omega)
    · exact ends_mono (h.ends y hy) (by omega) (by omega)
theorem inv_opened {b : Bd} (h : Inv i M b) : Inv i M b.opened := by
  refine ⟨h.r0, fun y hy u hu => ?_, fun y hy => ?_⟩
  · rcases List.mem_append.1 (show y ∈ b.blocks ++ [blk0] from hy) with hy | hy
    · exact h.ins y hy u hu
    · rw [List.mem_singleton.1 hy] at hu; cases hu
  · rw [opened_len]
    rcases List.mem_append.1 (show y ∈ b.blocks ++ [blk0] from hy) with hy | hy
    · exact ends_mono (h.ends y hy) (by omega) (Int.le_refl _)
    · rw [List.mem_singleton.1 hy]; rfl
theorem inv_upd {b : Bd} {g : Block → Block} (h : Inv i M b) (hi : ∀ x, b.blocks[b.now]? = some x → (g x).ins = x.ins) (he : ∀ x, b.blocks[b.now]? = some x → (g x).ends b.blocks.length b.regs = true) : Inv i M (b.upd g) := by
  refine ⟨h.r0, fun y hy u hu => ?_, fun y hy => ?_⟩
  · rcases mem_modify hy with ⟨x, hx, rfl⟩ | hy
    · rw [hi x hx] at hu
      exact h.ins x (List.mem_of_getElem? hx) u hu
    · exact h.ins y hy u hu
  · rw [upd_len]
    rcases mem_modify hy with ⟨x, hx, rfl⟩ | hy
    · exact he x hx
    · exact h.ends y hy
theorem inv_jump {b : Bd} (h : Inv i M b) (hp : Pl b) {to : Nat} (ht : to < b.blocks.length) : Inv i M (b.jump to) := by
  obtain ⟨x0, hx0, e3, ev, et, ee⟩ := hp
  refine inv_upd h (fun x hx => rfl) fun x hx => ?_
  rw [hx0] at hx; cases hx
  unfold Block.ends
  simp only [show ((1 : Int) == 1) = true from rfl, cond_true, ev, ee, within]
  simp; omega
theorem inv_fork {b : Bd} (h : Inv i M b) {v to els : Nat} (hv : (v : Int) < b.regs) (ht : to < b.blocks.length) (he : els < b.blocks.length) : Inv i M (b.fork v to els) := by
  refine inv_upd h (fun x hx => rfl) fun x hx => ?_
  unfold Block.ends
  simp only [show ((2 : Int) == 1) = false from rfl, show ((2 : Int) == 2) = true from rfl, cond_true, cond_false, within]
  simp; omega
theorem inv_go {b : Bd} (h : Inv i M b) (k : Nat) : Inv i M (b.go k) := ⟨h.r0, h.ins, h.ends⟩
theorem Res.refl {b : Bd} (h : Inv i M b) {lo hi : Int} (hl : lo ≤ b.regs) : Res i M lo hi b b := ⟨h, Int.le_refl _, hl, by omega, Nat.le_refl _⟩
theorem Res.trans {lo1 hi1 lo2 hi2 lo hi : Int} {b b1 b2 : Bd} (h1 : Res i M lo1 hi1 b b1) (h2 : Res i M lo2 hi2 b1 b2) (hl : lo ≤ b2.regs) (h : hi1 ≤ hi) (h' : hi2 ≤ hi) : Res i M lo hi b b2 := by
  have a1 := h1.regs
  have a2 := h2.regs
  have a3 := h1.hi
  have a4 := h2.hi
  exact ⟨h2.inv, by omega, hl, by omega, Nat.le_trans h1.len h2.len⟩
theorem res_not {b : Bd} (h : Inv i M b) (d : Nat) (hd : (d : Int) < b.regs) : Res i M (d + 1) (d + 2) b (b.not d) := by
  have r1 := inv_put (t := iNum (d + 1) 0) h (by show (0 : Int) ≤ ((d + 1 : Nat) : Int); omega) (fits_of rfl (fun _ => by show (0 : Int) ≤ ((d + 1 : Nat) : Int) ∧ ((d + 1 : Nat) : Int) < max b.regs (((d + 1 : Nat) : Int) + 1); omega) (fun u hu => by cases hu) rfl rfl)
  have l1 := r1.lo
  have l1' : ((d + 1 : Nat) : Int) + 1 ≤ (b.put (iNum (d + 1) 0)).regs := l1
  have r2 := inv_put (t := iBin 15 d d (d + 1)) r1.inv (by show (0 : Int) ≤ (d : Int); omega) (fits_of rfl (fun _ => by show (0 : Int) ≤ (d : Int) ∧ (d : Int) < max _ ((d : Int) + 1); omega) (fun u hu => by
    have hu2 : u = (d : Int) ∨ u = ((d + 1 : Nat) : Int) := by
      have : u ∈ [(d : Int), ((d + 1 : Nat) : Int)] := hu
      simpa using this
    show 0 ≤ u ∧ u < max _ ((d : Int) + 1)
    omega) rfl rfl)
  have l2 := r2.lo
  exact r1.trans r2 (by have : (d : Int) + 1 ≤ _ := l2; exact this) (by show ((d + 1 : Nat) : Int) + 1 ≤ (d : Int) + 2; omega) (by show (d : Int) + 1 ≤ (d : Int) + 2; omega)
theorem res_bin {b : Bd} (h : Inv i M b) {op : Int} (d : Nat) (ho : 4 ≤ op ∧ op ≤ 15) (hd : (d : Int) + 1 < b.regs) : Res i M (d + 1) (d + 1) b (b.put (iBin op d d (d + 1))) :=
  inv_put (t := iBin op d d (d + 1)) h (by show (0 : Int) ≤ (d : Int); omega) (fits_of rfl (fun _ => by show (0 : Int) ≤ (d : Int) ∧ (d : Int) < max _ ((d : Int) + 1); omega) (fun u hu => by
    have hu2 : u = (d : Int) ∨ u = ((d + 1 : Nat) : Int) := by
      have : u ∈ [(d : Int), ((d + 1 : Nat) : Int)] := hu
      simpa using this
    show 0 ≤ u ∧ u < max _ ((d : Int) + 1)
    omega) (by
    show (decide (4 ≤ op) && decide (op ≤ 15)) = true
    rw [decide_eq_true ho.1, decide_eq_true ho.2]; rfl) rfl)
theorem not_regs {b : Bd} (d : Nat) (h : (d : Int) < b.regs) : (d : Int) + 1 < (b.not d).regs := by
  show (d : Int) + 1 < max (max b.regs (((d + 1 : Nat) : Int) + 1)) ((d : Int) + 1)
  omega
theorem res_truth {b : Bd} (h : Inv i M b) (e : CE) (d : Nat) (hd : (d : Int) < b.regs) : Res i M (d + 1) (d + 2) b (b.truth e d) := by
  unfold Bd.truth
  cases e.flagged with
  | true => simp only [cond_true]; exact Res.refl h (by omega)
  | false =>
    simp only [cond_false]
    have r1 := res_not h d hd
    have r2 := res_bin (op := 15) r1.inv d ⟨by decide, by decide⟩ (not_regs d hd)
    exact r1.trans r2 r2.lo (Int.le_refl _) (by omega)
theorem res_store {b : Bd} (h : Inv i M b) {w : Int} {a : Nat} (hw : 0 ≤ w ∧ w < M) (ha : (a : Int) < b.regs) : Res i M 0 1 b (b.put (iStore w a)) := by
  have := inv_put (t := iStore w a) h (by show (0 : Int) ≤ 0; omega) (fits_of rfl (fun e => by cases e) (fun u hu => by
    have hu2 : u = (a : Int) := by
      have : u ∈ [(a : Int)] := hu
      simpa using this
    show 0 ≤ u ∧ u < max _ ((0 : Int) + 1)
    omega) (by
    show within w M = true
    simp [within, hw.1, hw.2]) rfl)
  exact ⟨this.inv, this.regs, by have := this.inv.r0; exact this, this.hi, this.len⟩
theorem res_args {b : Bd} (h : Inv i M b) {first : Int} (d : Nat) : ∀ (n : Nat), 0 ≤ first → first + n ≤ M → (d + n : Nat) ≤ b.regs → Res i M 0 1 b (b.args first d n)
  | 0, _, _, _ => Res.refl h h.r0
  | n + 1, h0, h1, h2 => by
    have ih := res_args h d n h0 (by omega) (by omega)
    have hr := ih.regs
    have r2 := res_store (w := first + n) (a := d + n) ih.inv ⟨by omega, by omega⟩ (by omega)
    exact ih.trans r2 r2.lo (Int.le_refl _) (Int.le_refl _)
theorem res_called {b : Bd} (h : Inv i M b) {g : Int} {k d : Nat} (hg : 0 ≤ g ∧ g < i) (h0 : 0 ≤ C.first g) (h1 : C.first g + k ≤ M) (h2 : (d + k : Nat) ≤ b.regs) : Res i M 0 1 b (b.called C g k d) := by
  have r1 := res_args h d k h0 h1 h2
  have r2 := inv_put (t := iCall g) r1.inv (by show (0 : Int) ≤ 0; omega) (fits_of rfl (fun e => by cases e) (fun u hu => by cases hu) (by
    show within g i = true
    simp [within, hg.1, hg.2]) rfl)
  exact r1.trans r2 r2.inv.r0 (Int.le_refl _) (by show (0 : Int) + 1 ≤ 1; omega)
theorem res_inside {b : Bd} {k to : Nat} {f : Bd → Bd} {hi : Int} (hb : Inv i M b) (hf : Res i M 0 hi (b.go k) (f (b.go k))) (hp : Pl (f (b.go k))) (ht : to < b.blocks.length) : Res i M 0 hi b (b.inside k to f) := by
  have hl := hf.len
  have hr := hf.regs
  have h2 := hf.hi
  have hgl : (b.go k).blocks.length = b.blocks.length := rfl
  have hgr : (b.go k).regs = b.regs := rfl
  have := inv_jump hf.inv hp (to := to) (by omega)
  have hll : ((f (b.go k)).jump to).blocks.length = (f (b.go k)).blocks.length := upd_len _ _
  exact ⟨inv_go this _, hr, hf.inv.r0, h2, by show _ ≤ ((f (b.go k)).jump to).blocks.length; omega⟩
structure NeedE (C : Core) (n : Nat) (M : Int) : Prop where
  w0 : 0 ≤ C.words
  wm : C.words ≤ M
  told : ∀ fn ∈ C.funcs, fn.word = true → C.words < M
  fn : ∀ (g : Nat) (fn : CFn), C.funcs[g]? = some fn → 0 ≤ fn.first ∧ fn.first + fn.params ≤ C.words
theorem res_right {b : Bd} (h : Inv i M b) (hp : Pl b) {k : Int} {d : Nat} {hi : Int} (hd : (d : Int) < b.regs) (hhi : (d : Int) + 1 ≤ hi) {f : Bd → Bd} (hf : ∀ b0, Pl b0 → Inv i M b0 → b.regs ≤ b0.regs → Res i M 0 hi b0 (f b0) ∧ Pl (f b0)) :
    Res i M (d + 1) hi b (((b.either0 k d).inside b.blocks.length (b.blocks.length + 1) f).go (b.blocks.length + 1)) := by
  have i2 := inv_opened (inv_opened h)
  have l2 : b.opened.opened.blocks.length = b.blocks.length + 2 := by rw [opened_len, opened_len]
  have hb1 : Inv i M (b.either0 k d) := by
    unfold Bd.either0
    cases k == 8
    · exact inv_fork i2 (v := d) hd (by omega) (by omega)
    · exact inv_fork i2 (v := d) hd (by omega) (by omega)
  have l1 : (b.either0 k d).blocks.length = b.blocks.length + 2 := by
    unfold Bd.either0
    cases k == 8
    · exact (upd_len b.opened.opened _).trans l2
    · exact (upd_len b.opened.opened _).trans l2
  have hr1 : (b.either0 k d).regs = b.regs := by unfold Bd.either0; cases k == 8 <;> rfl
  have hlt := hp.lt
  have n1 : (b.either0 k d).blocks[b.blocks.length]? = some blk0 := by
    have e : b.opened.opened.blocks[b.blocks.length]? = some blk0 := (opened_old (by rw [opened_len]; omega)).trans (opened_at b)
    unfold Bd.either0
    cases k == 8
    · exact (upd_ne (b := b.opened.opened) z45q).trans e
    · exact (upd_ne (b := b.opened.opened) z45q).trans e
  obtain ⟨f1, f2⟩ := hf ((b.either0 k d).go b.blocks.length) ⟨blk0, n1, rfl, rfl, rfl, rfl⟩ (inv_go hb1 _) (by show b.regs ≤ (b.either0 k d).regs; omega)
  have r := res_inside hb1 f1 f2 (to := b.blocks.length + 1) (by omega)
  have a1 := r.regs
  have a2 := r.hi
  have a3 := r.len
  exact ⟨inv_go r.inv _, by show b.regs ≤ _; have : b.regs ≤ ((b.either0 k d).inside b.blocks.length (b.blocks.length + 1) f).regs := by omega
                            exact this, by show (d : Int) + 1 ≤ ((b.either0 k d).inside b.blocks.length (b.blocks.length + 1) f).regs; omega, by show ((b.either0 k d).inside b.blocks.length (b.blocks.length + 1) f).regs ≤ _; omega, by show b.blocks.length ≤ ((b.either0 k d).inside b.blocks.length (b.blocks.length + 1) f).blocks.length; omega⟩
def ResE (C : Core) (n : Nat) (M : Int) (e : CE) : Prop := e.ok C n → ∀ (d : Nat) (b : Bd), Pl b → Inv n M b → Res n M (d + 1) (d + e.parts + 1) b (e.build C d b)
theorem res_list : ∀ (l : List CE), (∀ e ∈ l, ResE C n M e) → CE.okL C n l → ∀ (d : Nat) (b : Bd), Pl b → Inv n M b → Res n M (if l = [] then 0 else d + l.length) (d + CE.partsL l + 1) b (CE.buildL C l d b)
  | [], _, _, d, b, hp, hb => by
    rw [CE.buildL, if_pos rfl]
    exact Res.refl hb hb.r0
  | e :: l, hI, hok, d, b, hp, hb => by
    rw [CE.buildL, if_neg (by simp)]
    rw [CE.okL] at hok
    rw [CE.partsL]
    have r1 := hI e (List.mem_cons.2 (.inl rfl)) hok.1 d b hp hb
    have p1 := (codes_expr e.parts e (Nat.le_refl _) hok.1 d b hp).pl
    have r2 := res_list l (fun e he => hI e (List.mem_cons.2 (.inr he))) hok.2 (d + 1) (e.build C d b) p1 r1.inv
    have a1 := r1.lo
    have a2 := r2.regs
    have a3 := r2.lo
    refine r1.trans r2 ?_ (by omega) ?_
    · rw [List.length_cons]
      by_cases hl : l = []
      · subst hl; simp at a2 ⊢; omega
      · rw [if_neg hl] at a3; omega
    · have : ∀ e : CE, 1 ≤ e.parts := fun e => by cases e; rw [CE.parts]; omega
      have := this e
      omega
theorem res_expr (hN : NeedE C n M) : ∀ (m : Nat) (e : CE), e.parts ≤ m → ResE C n M e
  | 0, e, h => by cases e; rw [CE.parts] at h; omega
  | m + 1, e, hm => by
    cases e with
    | mk k o num sl z kids =>
    rw [CE.parts] at hm
    have hI : ∀ e ∈ kids, ResE C n M e := fun e he => res_expr hN m e (by have := parts_mem he; omega)
    intro hok d b hp hb
    rw [CE.ok] at hok
    rw [CE.parts]
    obtain ⟨hkids, hk⟩ := hok
    have w0 := hN.w0
    have wm := hN.wm
    have hL := res_list kids hI hkids d b hp hb
    have pL := (codes_exprs hkids d b hp).pl
    have hone : ∀ (b : Bd) (t : Tac), Inv n M b → t.d = (d : Int) → t.fits n (max b.regs (t.d + 1)) M = true → Res n M (d + 1) (d + 1) b (b.put t) := fun b t h1 h2 h3 => by
      have := inv_put h1 (by omega) h3
      rw [h2] at this; exact this
    rcases hk with ⟨rfl, hw⟩ | ⟨rfl, h0, h1⟩ | ⟨rfl, h1, z1, z2, s0, s1⟩ | ⟨rfl, s0, s1, fn, hfn, hwd, hpar, h6⟩ | rfl | ⟨rfl, h2, o1, o2⟩ | ⟨rfl, h1⟩ | ⟨rfl, h2⟩ | ⟨rfl, h2⟩
    · rw [CE.build, if_pos rfl]
      have r := hone b (iNum d num) hb rfl (fits_of rfl (fun _ => by show (0 : Int) ≤ (d : Int) ∧ (d : Int) < max _ ((d : Int) + 1); omega) (fun u hu => by cases hu) rfl rfl)
      exact (Res.refl hb hb.r0 (hi := 0)).trans r r.lo (by omega) (by omega)
    · rw [CE.build, if_neg (by decide), if_pos rfl]
      have r := hone b (iLoad d sl) hb rfl (fits_of rfl (fun _ => by show (0 : Int) ≤ (d : Int) ∧ (d : Int) < max _ ((d : Int) + 1); omega) (fun u hu => by cases hu) (by show within sl M = true; simp [within, h0]; omega) rfl)
      exact (Res.refl hb hb.r0 (hi := 0)).trans r r.lo (by omega) (by omega)
    · rw [CE.build, if_neg (by decide), if_neg (by decide), if_pos rfl]
      obtain ⟨e, rfl⟩ := len_one h1
      have a1 := hL.lo
      rw [if_neg (by simp)] at a1
      have r := hone _ (iALoad d d sl z) hL.inv rfl (fits_of rfl (fun _ => by show (0 : Int) ≤ (d : Int) ∧ (d : Int) < max _ ((d : Int) + 1); omega) (fun u hu => by
        have hu2 : u = (d : Int) := by
          have : u ∈ [(d : Int)] := hu
          simpa using this
        show 0 ≤ u ∧ u < max _ ((d : Int) + 1)
        omega) (by
        show (decide (1 ≤ z) && (decide (z ≤ 4096) && (decide (0 ≤ sl) && decide (sl ≤ M - z)))) = true
        rw [decide_eq_true z1, decide_eq_true z2, decide_eq_true s0, decide_eq_true (by omega)]; rfl) rfl)
      exact hL.trans r r.lo (by omega) (by omega)
    · rw [CE.build, if_neg (by decide), if_neg (by decide), if_neg (by decide), if_pos rfl]
      have a1 := hL.lo
      have f1 := hN.fn sl.toNat fn hfn
      have ef : C.first sl = fn.first := fn_first hfn
      have htold := hN.told fn (List.mem_of_getElem? hfn) hwd
      have hlen : (d + kids.length : Nat) ≤ (CE.buildL C kids d b).regs ∨ kids.length = 0 := by
        by_cases hkn : kids = []
        · subst hkn; exact .inr rfl
        · rw [if_neg hkn] at a1; left; omega
      have hb0 := hL.inv.r0
      by_cases hz : kids.length = 0
      · have hk0 : kids = [] := List.length_eq_zero_iff.1 hz
        subst hk0
        have r2 : Res n M 0 1 (CE.buildL C [] d b) ((CE.buildL C [] d b).called C sl 0 d) := by
          have r3 := inv_put (t := iCall sl) hL.inv (by show (0 : Int) ≤ 0; omega) (fits_of rfl (fun e => by cases e) (fun u hu => by cases hu) (by
            show within sl n = true
            simp [within, s0, s1]) rfl)
          exact ⟨r3.inv, r3.regs, r3.inv.r0, by have := r3.hi; exact this, r3.len⟩
        have r := hone _ (iLoad d C.words) r2.inv rfl (fits_of rfl (fun _ => by show (0 : Int) ≤ (d : Int) ∧ (d : Int) < max _ ((d : Int) + 1); omega) (fun u hu => by cases hu) (by show within C.words M = true; simp [within, w0, htold]) rfl)
        exact (hL.trans r2 r2.lo (hi := d + 1 + 1) (by rw [CE.partsL]; omega) (by omega)).trans r r.lo (by rw [CE.partsL]; omega) (by omega)
      · have h3 := hlen.resolve_right hz
        have r2 := res_called (C := C) (g := sl) (k := kids.length) (d := d) hL.inv ⟨s0, s1⟩ (by rw [ef]; exact f1.1) (by rw [ef]; omega) h3
        have r := hone _ (iLoad d C.words) r2.inv rfl (fits_of rfl (fun _ => by show (0 : Int) ≤ (d : Int) ∧ (d : Int) < max _ ((d : Int) + 1); omega) (fun u hu => by cases hu) (by show within C.words M = true; simp [within, w0, htold]) rfl)
        exact (hL.trans r2 r2.lo (hi := d + CE.partsL kids + 1) (by omega) (by omega)).trans r r.lo (by omega) (by omega)
    · rw [CE.build, if_neg (by decide), if_neg (by decide), if_neg (by decide), if_neg (by decide), if_pos rfl]
      have r := hone b (iGet d) hb rfl (fits_of rfl (fun _ => by show (0 : Int) ≤ (d : Int) ∧ (d : Int) < max _ ((d : Int) + 1); omega) (fun u hu => by cases hu) rfl rfl)
      exact (Res.refl hb hb.r0 (hi := 0)).trans r r.lo (by omega) (by omega)
    · rw [CE.build, if_neg (by decide), if_neg (by decide), if_neg (by decide), if_neg (by decide), if_neg (by decide), if_pos rfl]
      obtain ⟨e1, e2, rfl⟩ := len_two h2
      have a1 := hL.lo
      rw [if_neg (by simp)] at a1
      have a2 : (d : Int) + 2 ≤ (CE.buildL C [e1, e2] d b).regs := a1
      have r := res_bin (op := o) hL.inv d ⟨o1, o2⟩ (by omega)
      exact hL.trans r r.lo (by omega) (by omega)
    · rw [CE.build, if_neg (by decide), if_neg (by decide), if_neg (by decide), if_neg (by decide), if_neg (by decide), if_neg (by decide), if_pos rfl]
      obtain ⟨e, rfl⟩ := len_one h1
      have a1 := hL.lo
      rw [if_neg (by simp)] at a1
      have a2 : (d : Int) + 1 ≤ (CE.buildL C [e] d b).regs := a1
      have he : 1 ≤ CE.partsL [e] := by rw [CE.partsL]; cases e; rw [CE.parts]; omega
      have r := res_not hL.inv d (by omega)
      exact hL.trans r r.lo (by omega) (by omega)
    all_goals
      obtain ⟨e1, e2, rfl⟩ := len_two h2
      rw [CE.build, if_neg (by decide), if_neg (by decide), if_neg (by decide), if_neg (by decide), if_neg (by decide), if_neg (by decide), if_neg (by decide), if_pos (by decide), CE.buildE, CE.buildR]
      rw [CE.okL, CE.okL] at hkids
      have q1 : 1 ≤ e1.parts := by cases e1; rw [CE.parts]; omega
      have q2 : 1 ≤ e2.parts := by cases e2; rw [CE.parts]; omega
      have r1 := hI e1 (by simp) hkids.1 d b hp hb
      have p1 := (codes_expr e1.parts e1 (Nat.le_refl _) hkids.1 d b hp).pl
      have lo1 := r1.lo
      have r2 := res_truth r1.inv e1 d (by omega)
      have p2 := (codes_truth p1 e1 d).pl
      have lo2 := r2.lo
      have hR : ∀ b0, Pl b0 → Inv n M b0 → _ → Res n M 0 (d + e2.parts + 2) b0 ((e2.build C d b0).truth e2 d) ∧ Pl ((e2.build C d b0).truth e2 d) := fun b0 hp0 hb0 (_ : True) => by
        have s1 := hI e2 (by simp) hkids.2.1 d b0 hp0 hb0
        have lo3 := s1.lo
        have s2 := res_truth s1.inv e2 d (by omega)
        have pl2 := (codes_expr e2.parts e2 (Nat.le_refl _) hkids.2.1 d b0 hp0).pl
        exact ⟨s1.trans s2 s2.inv.r0 (by omega) (by omega), (codes_truth pl2 e2 d).pl⟩
      simp only [CE.partsL]
      first
      | (have r3 := res_right (k := 8) (d := d) (hi := d + e2.parts + 2) r2.inv p2 (by omega) (by omega) (f := fun x => (e2.build C d x).truth e2 d) (fun b0 h1 h2 _ => hR b0 h1 h2 trivial); exact (r1.trans r2 lo2 (hi := d + e1.parts + 2) (by omega) (by omega)).trans r3 r3.lo (by omega) (by omega))
      | (have r3 := res_right (k := 9) (d := d) (hi := d + e2.parts + 2) r2.inv p2 (by omega) (by omega) (f := fun x => (e2.build C d x).truth e2 d) (fun b0 h1 h2 _ => hR b0 h1 h2 trivial); exact (r1.trans r2 lo2 (hi := d + e1.parts + 2) (by omega) (by omega)).trans r3 r3.lo (by omega) (by omega))
end
section
variable {M : Int} {C : Core} {n : Nat} {w : Bool}
theorem res_exprs (hN : NeedE C n M) {l : List CE} (hok : CE.okL C n l) (d : Nat) (b : Bd) (hp : Pl b) (hb : Inv n M b) : Res n M (if l = [] then 0 else d + l.length) (d + CE.partsL l + 1) b (CE.buildL C l d b) :=
  res_list l (fun e _ => res_expr hN e.parts e (Nat.le_refl _)) hok d b hp hb
theorem parts_pos (st : CS) : 1 ≤ st.parts := by cases st; rw [CS.parts]; omega
theorem res_leave {b : Bd} (hN : NeedE C n M) (hw : w = true → C.words < M) (hp : Pl b) (hb : Inv n M b) : Res n M 0 1 b (b.leave C w) := by
  unfold Bd.leave
  cases w with
  | false =>
    simp only [cond_false]
    rw [ret_self hp]
    exact Res.refl hb hb.r0
  | true =>
    simp only [cond_true]
    have h1 := codes_put hp (iNum 0 0)
    have h2 := codes_put h1.pl (iStore C.words 0)
    rw [ret_self h2.pl]
    have r1 := inv_put (t := iNum 0 0) hb (by show (0 : Int) ≤ 0; omega) (fits_of rfl (fun _ => by show (0 : Int) ≤ 0 ∧ (0 : Int) < max _ ((0 : Int) + 1); omega) (fun u hu => by cases hu) rfl rfl)
    have l1 : (0 : Int) + 1 ≤ (b.put (iNum 0 0)).regs := r1.lo
    have r2 := res_store (w := C.words) (a := 0) r1.inv ⟨hN.w0, hw rfl⟩ (by show (0 : Int) < _; omega)
    exact r1.trans r2 r2.lo (by show (0 : Int) + 1 ≤ 1; omega) (Int.le_refl _)
theorem res_next {b : Bd} (hb : Inv n M b) : Res n M 0 0 b b.next := ⟨inv_go (inv_opened hb) _, Int.le_refl _, hb.r0, by show b.regs ≤ _; omega, by show _ ≤ b.opened.blocks.length; rw [opened_len]; omega⟩
theorem right_of' {b : Blocks} (h1 : 0 ≤ b.words) (h2 : b.words ≤ 1048576) (h3 : b.funcs ≠ []) (h4 : ∀ (i : Nat) (f : BFunc), b.funcs[i]? = some f → f.one (i : Int) b.words = true) : b.right = true := by
  unfold Blocks.right
  rw [decide_eq_true h1, decide_eq_true h2]
  have : b.funcs.isEmpty = false := by simpa using h3
  rw [this]
  simp only [Bool.not_false, Bool.true_and]
  refine List.all_eq_true.2 fun p hp => ?_
  obtain ⟨i, hi⟩ := List.mem_iff_getElem?.1 hp
  rw [List.getElem?_zipIdx] at hi
  cases e : b.funcs[i]? with
  | none => rw [e] at hi; simp at hi
  | some f =>
    rw [e] at hi
    simp at hi
    subst hi
    exact h4 i f e
def ResS (C : Core) (n : Nat) (M : Int) (w : Bool) (st : CS) : Prop := st.ok C n w → ∀ (b : Bd), Pl b → Inv n M b → Res n M 0 (st.parts + 1) b (st.build C w b)
theorem res_stmts (B : Int) : ∀ (l : List CS), (∀ st ∈ l, ResS C n M w st) → (∀ st ∈ l, (st.parts : Int) + 1 ≤ B) → CS.okL C n w l → ∀ (b : Bd), Pl b → Inv n M b → Res n M 0 B b (CS.buildL C w l b)
  | [], _, _, _, b, hp, hb => by
    rw [CS.buildL]
    exact Res.refl hb hb.r0
  | st :: l, hI, hB, hok, b, hp, hb => by
    rw [CS.buildL]
    rw [CS.okL] at hok
    have r1 := hI st (List.mem_cons.2 (.inl rfl)) hok.1 b hp hb
    have p1 := (codes_stmt st.parts st (Nat.le_refl _) hok.1 b hp).pl
    have r2 := res_stmts B l (fun st he => hI st (List.mem_cons.2 (.inr he))) (fun st he => hB st (List.mem_cons.2 (.inr he))) hok.2 (st.build C w b) p1 r1.inv
    exact r1.trans r2 r2.lo (hB st (List.mem_cons.2 (.inl rfl))) (Int.le_refl _)
theorem res_choice {b : Bd} (hb : Inv n M b) (hp : Pl b) {hi : Int} (h0 : 0 < b.regs) {RT RE : List Block → Pos → Pos → Prop} {fT fE : Bd → Bd} (hT : ∀ b0, Pl b0 → Codes RT b0 (fT b0)) (hE : ∀ b0, Pl b0 → Codes RE b0 (fE b0)) (rT : ∀ b0, Pl b0 → Inv n M b0 → Res n M 0 hi b0 (fT b0)) (rE : ∀ b0, Pl b0 → Inv n M b0 → Res n M 0 hi b0 (fE b0)) :
    Res n M 0 hi b (((((b.opened.opened.opened).inside (b.blocks.length + 2) (b.blocks.length + 1) fE).fork 0 b.blocks.length (b.blocks.length + 2)).inside b.blocks.length (b.blocks.length + 1) fT).go (b.blocks.length + 1)) := by
  have hlt := hp.lt
  have i3 := inv_opened (inv_opened (inv_opened hb))
  have l3 : b.opened.opened.opened.blocks.length = b.blocks.length + 3 := by rw [opened_len, opened_len, opened_len]
  have n0 : b.opened.opened.opened.blocks[b.blocks.length]? = some blk0 := by
    rw [opened_old (by rw [opened_len, opened_len]; omega), opened_old (by rw [opened_len]; omega)]; exact opened_at b
  have n2 : b.opened.opened.opened.blocks[b.blocks.length + 2]? = some blk0 := by
    have := opened_at b.opened.opened
    rwa [opened_len, opened_len] at this
  have hr3 : b.opened.opened.opened.regs = b.regs := rfl
  have hn3 : b.opened.opened.opened.now = b.now := rfl
  generalize b.opened.opened.opened = b3 at i3 l3 n0 n2 hr3 hn3 ⊢
  have pl2 : Pl (b3.go (b.blocks.length + 2)) := ⟨blk0, n2, rfl, rfl, rfl, rfl⟩
  have cE := hE _ pl2
  have r4 := res_inside i3 (rE _ pl2 (inv_go i3 _)) cE.pl (to := b.blocks.length + 1) (by omega)
  have iE := inside_ok (to := b.blocks.length + 1) n2 cE
  generalize b3.inside (b.blocks.length + 2) (b.blocks.length + 1) fE = b4 at r4 iE ⊢
  have l4 := r4.len
  have g4 := r4.regs
  have k4 := r4.hi
  have hn4 : b4.now = b.now := iE.now.trans hn3
  have i5 := inv_fork r4.inv (v := 0) (to := b.blocks.length) (els := b.blocks.length + 2) (by show (0 : Int) < _; omega) (by omega) (by omega)
  have n5 : (b4.fork 0 b.blocks.length (b.blocks.length + 2)).blocks[b.blocks.length]? = some blk0 := (upd_ne (b := b4) (by rw [hn4]; omega)).trans ((iE.old _ (by omega) (by omega)).trans n0)
  have l5 : (b4.fork 0 b.blocks.length (b.blocks.length + 2)).blocks.length = b4.blocks.length := upd_len b4 _
  have g5 : (b4.fork 0 b.blocks.length (b.blocks.length + 2)).regs = b4.regs := rfl
  generalize b4.fork 0 b.blocks.length (b.blocks.length + 2) = b5 at i5 n5 l5 g5 ⊢
  have pl5 : Pl (b5.go b.blocks.length) := ⟨blk0, n5, rfl, rfl, rfl, rfl⟩
  have cT := hT _ pl5
  have r6 := res_inside i5 (rT _ pl5 (inv_go i5 _)) cT.pl (to := b.blocks.length + 1) (by omega)
  generalize b5.inside b.blocks.length (b.blocks.length + 1) fT = b6 at r6 ⊢
  have l6 := r6.len
  have g6 := r6.regs
  have k6 := r6.hi
  exact ⟨inv_go r6.inv _, by show b.regs ≤ b6.regs; omega, r6.inv.r0, by show b6.regs ≤ _; omega, by show _ ≤ b6.blocks.length; omega⟩
theorem res_loop {b : Bd} (hb : Inv n M b) (hp : Pl b) {hi : Int} {RC RT : List Block → Pos → Pos → Prop} {fC fT : Bd → Bd} (hC : ∀ b0, Pl b0 → Codes RC b0 (fC b0)) (hT : ∀ b0, Pl b0 → Codes RT b0 (fT b0)) (rC : ∀ b0, Pl b0 → Inv n M b0 → Res n M 1 hi b0 (fC b0)) (rT : ∀ b0, Pl b0 → Inv n M b0 → Res n M 0 hi b0 (fT b0)) :
    Res n M 0 hi b ((((fC (((b.opened.opened.opened).inside b.now b.blocks.length fun x => x).go b.blocks.length)).fork 0 (b.blocks.length + 1) (b.blocks.length + 2)).inside (b.blocks.length + 1) b.blocks.length fT).go (b.blocks.length + 2)) := by
  obtain ⟨x, hx, e3, ev, et, ee⟩ := hp
  have hlt := (List.getElem?_eq_some_iff.1 hx).1
  have i3 := inv_opened (inv_opened (inv_opened hb))
  have l3 : b.opened.opened.opened.blocks.length = b.blocks.length + 3 := by rw [opened_len, opened_len, opened_len]
  have n0 : b.opened.opened.opened.blocks[b.blocks.length]? = some blk0 := by
    rw [opened_old (by rw [opened_len, opened_len]; omega), opened_old (by rw [opened_len]; omega)]; exact opened_at b
  have n1 : b.opened.opened.opened.blocks[b.blocks.length + 1]? = some blk0 := by
    rw [opened_old (by rw [opened_len, opened_len]; omega)]
    have := opened_at b.opened
    rwa [opened_len] at this
  have x3 : b.opened.opened.opened.blocks[b.now]? = some x := by
    rw [opened_old (by rw [opened_len, opened_len]; omega), opened_old (by rw [opened_len]; omega), opened_old hlt]; exact hx
  have eB : ((b.opened.opened.opened).inside b.now b.blocks.length fun x => x).go b.blocks.length = (b.opened.opened.opened.jump b.blocks.length).go b.blocks.length := rfl
  rw [eB]
  have ij := inv_jump i3 ⟨x, x3, e3, ev, et, ee⟩ (to := b.blocks.length) (by omega)
  have j0 : (b.opened.opened.opened.jump b.blocks.length).blocks[b.blocks.length]? = some blk0 := (upd_ne (b := b.opened.opened.opened) z45q).trans n0
  have j1 : (b.opened.opened.opened.jump b.blocks.length).blocks[b.blocks.length + 1]? = some blk0 := (upd_ne (b := b.opened.opened.opened) (by show b.blocks.length + 1 ≠ b.now; omega)).trans n1
  have lj : (b.opened.opened.opened.jump b.blocks.length).blocks.length = b.blocks.length + 3 := (upd_len _ _).trans l3
  have gj : (b.opened.opened.opened.jump b.blocks.length).regs = b.regs := rfl
  generalize b.opened.opened.opened.jump b.blocks.length = bj at ij j0 j1 lj gj ⊢
  have plj : Pl (bj.go b.blocks.length) := ⟨blk0, j0, rfl, rfl, rfl, rfl⟩
  have cC := hC _ plj
  have rc := rC _ plj (inv_go ij _)
  have lgo : (bj.go b.blocks.length).blocks.length = b.blocks.length + 3 := lj
  have ggo : (bj.go b.blocks.length).regs = b.regs := gj
  generalize fC (bj.go b.blocks.length) = bc at cC rc ⊢
  have c1 := rc.len
  have c2 := rc.regs
  have c3 := rc.hi
  have c4 := rc.lo
  have hcn : bc.now = b.blocks.length ∨ b.blocks.length + 3 ≤ bc.now := by
    have := cC.fr.now
    rw [lgo] at this; exact this
  have ic := inv_fork rc.inv (v := 0) (to := b.blocks.length + 1) (els := b.blocks.length + 2) (by show (0 : Int) < _; omega) (by omega) (by omega)
  have f1 : (bc.fork 0 (b.blocks.length + 1) (b.blocks.length + 2)).blocks[b.blocks.length + 1]? = some blk0 := (upd_ne (b := bc) (by omega)).trans (cC.fr.old _ _ (by show b.blocks.length + 1 ≠ b.blocks.length; omega) j1)
  have lf : (bc.fork 0 (b.blocks.length + 1) (b.blocks.length + 2)).blocks.length = bc.blocks.length := upd_len bc _
  have gf : (bc.fork 0 (b.blocks.length + 1) (b.blocks.length + 2)).regs = bc.regs := rfl
  generalize bc.fork 0 (b.blocks.length + 1) (b.blocks.length + 2) = bf at ic f1 lf gf ⊢
  have plf : Pl (bf.go (b.blocks.length + 1)) := ⟨blk0, f1, rfl, rfl, rfl, rfl⟩
  have cT := hT _ plf
  have r6 := res_inside ic (rT _ plf (inv_go ic _)) cT.pl (to := b.blocks.length) (by omega)
  generalize bf.inside (b.blocks.length + 1) b.blocks.length fT = b6 at r6 ⊢
  have l6 := r6.len
  have g6 := r6.regs
  have k6 := r6.hi
  exact ⟨inv_go r6.inv _, by show b.regs ≤ b6.regs; omega, r6.inv.r0, by show b6.regs ≤ _; omega, by show _ ≤ b6.blocks.length; omega⟩
theorem res_stmt (hN : NeedE C n M) (hw : w = true → C.words < M) : ∀ (m : Nat) (st : CS), st.parts ≤ m → ResS C n M w st
  | 0, st, h => by have := parts_pos st; omega
  | m + 1, st, hm => by
    cases st with
    | mk k s z es thn els =>
    rw [CS.parts] at hm
    have hT : ∀ st ∈ thn, ResS C n M w st := fun st hs => res_stmt hN hw m st (by have := sparts_mem hs; omega)
    have hL : ∀ st ∈ els, ResS C n M w st := fun st hs => res_stmt hN hw m st (by have := sparts_mem hs; omega)
    intro hok b hp hb
    rw [CS.ok] at hok
    rw [CS.parts]
    obtain ⟨hes, hthn, hels, hk⟩ := hok
    have hE := res_exprs hN hes 0 b hp hb
    have pE := (codes_exprs hes 0 b hp).pl
    have w0 := hN.w0
    have wm := hN.wm
    have lo1 := hE.lo
    have hput : ∀ (b : Bd) (t : Tac), Inv n M b → t.d = 0 → t.fits n (max b.regs (t.d + 1)) M = true → Res n M 0 1 b (b.put t) := fun b t h1 h2 h3 => by
      have := inv_put h1 (by omega) h3
      exact ⟨this.inv, this.regs, this.inv.r0, by have h4 := this.hi; rw [h2] at h4; exact h4, this.len⟩
    rcases hk with ⟨rfl, h1, s0, s1⟩ | ⟨rfl, h2, z1, z2, s0, s1⟩ | ⟨rfl, h1⟩ | ⟨rfl, h1⟩ | ⟨rfl, h1⟩ | ⟨rfl, s0, s1, fn, hfn, hwd, hpar, h6⟩ | ⟨rfl, h1⟩
    · rw [CS.build, if_pos rfl]
      obtain ⟨e, rfl⟩ := len_one h1
      rw [if_neg (by simp)] at lo1
      have lo2 : (1 : Int) ≤ (CE.buildL C [e] 0 b).regs := lo1
      have r2 := res_store (w := s) (a := 0) hE.inv ⟨s0, by omega⟩ (by show (0 : Int) < _; omega)
      exact hE.trans r2 r2.lo (by omega) (by omega)
    · rw [CS.build, if_neg (by decide), if_pos rfl]
      obtain ⟨e1, e2, rfl⟩ := len_two h2
      rw [if_neg (by simp)] at lo1
      have lo2 : (2 : Int) ≤ (CE.buildL C [e1, e2] 0 b).regs := lo1
      have r2 := hput _ (iAStore 0 1 s z) hE.inv rfl (fits_of rfl (fun e => by cases e) (fun u hu => by
        have hu2 : u = 0 ∨ u = 1 := by
          have : u ∈ [(0 : Int), 1] := hu
          simpa using this
        show 0 ≤ u ∧ u < max _ ((0 : Int) + 1)
        omega) (by
        show (decide (1 ≤ z) && (decide (z ≤ 4096) && (decide (0 ≤ s) && decide (s ≤ M - z)))) = true
        rw [decide_eq_true z1, decide_eq_true z2, decide_eq_true s0, decide_eq_true (by omega)]; rfl) rfl)
      exact hE.trans r2 r2.lo (by omega) (by omega)
    · rw [CS.build, if_neg (by decide), if_neg (by decide), if_pos rfl]
      obtain ⟨e, rfl⟩ := len_one h1
      rw [if_neg (by simp)] at lo1
      have lo2 : (1 : Int) ≤ (CE.buildL C [e] 0 b).regs := lo1
      have r2 := hput _ (iPut 0) hE.inv rfl (fits_of rfl (fun e => by cases e) (fun u hu => by
        have hu2 : u = 0 := by
          have : u ∈ [(0 : Int)] := hu
          simpa using this
        show 0 ≤ u ∧ u < max _ ((0 : Int) + 1)
        omega) rfl rfl)
      exact hE.trans r2 r2.lo (by omega) (by omega)
    · rw [CS.build, if_neg (by decide), if_neg (by decide), if_neg (by decide), if_neg (by decide), if_neg (by decide), if_pos rfl]
      dsimp only
      obtain ⟨e, rfl⟩ := len_one h1
      rw [if_neg (by simp)] at lo1
      have lo2 : (1 : Int) ≤ (CE.buildL C [e] 0 b).regs := lo1
      have fT : ∀ b0, Pl b0 → Codes (fun G a c => CS.codeL C w G thn a c) b0 (CS.buildL C w thn b0) := fun b0 h0 => codes_stmts thn (fun st _ => codes_stmt st.parts st (Nat.le_refl _)) hthn b0 h0
      have fE : ∀ b0, Pl b0 → Codes (fun G a c => CS.codeL C w G els a c) b0 (CS.buildL C w els b0) := fun b0 h0 => codes_stmts els (fun st _ => codes_stmt st.parts st (Nat.le_refl _)) hels b0 h0
      have rT : ∀ b0, Pl b0 → Inv n M b0 → Res n M 0 ((1 + CE.partsL [e] + CS.partsL thn + CS.partsL els : Nat) + 1) b0 (CS.buildL C w thn b0) := fun b0 h0 h1 => res_stmts _ thn hT (fun st hs => by have := sparts_mem hs; omega) hthn b0 h0 h1
      have rE : ∀ b0, Pl b0 → Inv n M b0 → Res n M 0 ((1 + CE.partsL [e] + CS.partsL thn + CS.partsL els : Nat) + 1) b0 (CS.buildL C w els b0) := fun b0 h0 h1 => res_stmts _ els hL (fun st hs => by have := sparts_mem hs; omega) hels b0 h0 h1
      by_cases he : els = []
      · rw [if_pos he]
        have r2 := res_right (k := 8) (d := 0) (hi := ((1 + CE.partsL [e] + CS.partsL thn + CS.partsL els : Nat) + 1)) hE.inv pE (by show (0 : Int) < _; omega) (by omega) (f := fun x => CS.buildL C w thn x) (fun b0 h0 h1 _ => ⟨rT b0 h0 h1, (fT b0 h0).pl⟩)
        exact hE.trans r2 r2.inv.r0 (by omega) (Int.le_refl _)
      · rw [if_neg he]
        have r2 := res_choice hE.inv pE (by omega) fT fE rT rE
        exact hE.trans r2 r2.lo (by omega) (Int.le_refl _)
    · rw [CS.build, if_neg (by decide), if_neg (by decide), if_neg (by decide), if_neg (by decide), if_neg (by decide), if_neg (by decide), if_pos rfl]
      dsimp only
      obtain ⟨e, rfl⟩ := len_one h1
      have rT : ∀ b0, Pl b0 → Inv n M b0 → Res n M 0 ((1 + CE.partsL [e] + CS.partsL thn + CS.partsL els : Nat) + 1) b0 (CS.buildL C w thn b0) := fun b0 h0 h1 => res_stmts _ thn hT (fun st hs => by have := sparts_mem hs; omega) hthn b0 h0 h1
      have rC : ∀ b0, Pl b0 → Inv n M b0 → Res n M 1 ((1 + CE.partsL [e] + CS.partsL thn + CS.partsL els : Nat) + 1) b0 (CE.buildL C [e] 0 b0) := fun b0 h0 h1 => by
        have r := res_exprs hN hes 0 b0 h0 h1
        have l1 := r.lo
        rw [if_neg (by simp)] at l1
        have l2 : (1 : Int) ≤ (CE.buildL C [e] 0 b0).regs := l1
        have l3 := r.hi
        exact ⟨r.inv, r.regs, l2, by omega, r.len⟩
      exact res_loop hb hp (fun b0 h0 => codes_exprs hes 0 b0 h0) (fun b0 h0 => codes_stmts thn (fun st _ => codes_stmt st.parts st (Nat.le_refl _)) hthn b0 h0) rC rT
    · rw [CS.build, if_neg (by decide), if_neg (by decide), if_neg (by decide), if_pos rfl]
      have f1 := hN.fn s.toNat fn hfn
      have ef : C.first s = fn.first := fn_first hfn
      have hb0 := hE.inv.r0
      have h3 : (0 + es.length : Nat) ≤ (CE.buildL C es 0 b).regs := by
        by_cases hkn : es = []
        · subst hkn; show ((0 : Nat) : Int) ≤ _; omega
        · rw [if_neg hkn] at lo1; omega
      have r2 := res_called (C := C) (g := s) (k := es.length) (d := 0) hE.inv ⟨s0, s1⟩ (by rw [ef]; exact f1.1) (by rw [ef]; omega) h3
      exact hE.trans r2 r2.lo (by omega) (by omega)
    · rw [CS.build, if_neg (by decide), if_neg (by decide), if_neg (by decide), if_neg (by decide), if_pos rfl]
      by_cases he : es = []
      · rw [if_pos he]
        have r1 := res_leave hN hw hp hb
        have r2 := res_next r1.inv
        exact r1.trans r2 r2.lo (by omega) (by omega)
      · rw [if_neg he]
        obtain ⟨h1, hwt⟩ := h1.resolve_left he
        rw [if_neg he] at lo1
        have r2 := res_store (w := C.words) (a := 0) hE.inv ⟨w0, hw hwt⟩ (by show (0 : Int) < _; omega)
        have r3 := res_next r2.inv
        exact (hE.trans r2 r2.lo (hi := ((0 : Nat) : Int) + CE.partsL es + 1) (Int.le_refl _) (by omega)).trans r3 r3.lo (by omega) (by omega)
theorem res_zeros {b : Bd} (h : Inv n M b) {first : Int} (h0 : 0 ≤ first) (hr : 0 < b.regs) : ∀ (k : Nat), first + k ≤ M → Res n M 0 1 b (b.zeros first k)
  | 0, _ => Res.refl h h.r0
  | k + 1, h1 => by
    have ih := res_zeros h h0 hr k (by omega)
    have hg := ih.regs
    have r2 := res_store (w := first + k) (a := 0) ih.inv ⟨by omega, by omega⟩ (by show (0 : Int) < _; omega)
    exact ih.trans r2 r2.lo (Int.le_refl _) (Int.le_refl _)
theorem res_astores {b : Bd} (h : Inv n M b) {first z : Int} (h0 : 0 ≤ first) (z1 : 1 ≤ z ∧ z ≤ 4096) (hr : 1 < b.regs) : ∀ (k : Nat), first + k + z ≤ M + 1 → Res n M 0 1 b (b.astores first z k)
  | 0, _ => Res.refl h h.r0
  | k + 1, h1 => by
    have ih := res_astores h h0 z1 hr k (by omega)
    have hg := ih.regs
    have r2 := inv_put (t := iAStore 1 0 (first + k) z) ih.inv (by show (0 : Int) ≤ 0; omega) (fits_of rfl (fun e => by cases e) (fun u hu => by
        have hu2 : u = 1 ∨ u = 0 := by
          have : u ∈ [(1 : Int), 0] := hu
          simpa using this
        show 0 ≤ u ∧ u < max _ ((0 : Int) + 1)
        omega) (by
        show (decide (1 ≤ z) && (decide (z ≤ 4096) && (decide (0 ≤ first + k) && decide (first + k ≤ M - z)))) = true
        rw [decide_eq_true z1.1, decide_eq_true z1.2, decide_eq_true (by omega), decide_eq_true (by omega)]; rfl) rfl)
    exact ih.trans r2 r2.inv.r0 (Int.le_refl _) (by show (0 : Int) + 1 ≤ 1; omega)
theorem res_num {b : Bd} (h : Inv n M b) (d : Nat) (v : Int) : Res n M (d + 1) (d + 1) b (b.put (iNum d v)) :=
  inv_put (t := iNum d v) h (by show (0 : Int) ≤ (d : Int); omega) (fits_of rfl (fun _ => by show (0 : Int) ≤ (d : Int) ∧ (d : Int) < max _ ((d : Int) + 1); omega) (fun u hu => by cases hu) rfl rfl)
theorem res_bin3 {b : Bd} (h : Inv n M b) {op : Int} (d x y : Nat) (ho : 4 ≤ op ∧ op ≤ 15) (hx : (x : Int) < b.regs) (hy : (y : Int) < b.regs) : Res n M (d + 1) (d + 1) b (b.put (iBin op d x y)) :=
  inv_put (t := iBin op d x y) h (by show (0 : Int) ≤ (d : Int); omega) (fits_of rfl (fun _ => by show (0 : Int) ≤ (d : Int) ∧ (d : Int) < max _ ((d : Int) + 1); omega) (fun u hu => by
    have hu2 : u = (x : Int) ∨ u = (y : Int) := by
      have : u ∈ [(x : Int), (y : Int)] := hu
      simpa using this
    show 0 ≤ u ∧ u < max _ ((d : Int) + 1)
    omega) (by
    show (decide (4 ≤ op) && decide (op ≤ 15)) = true
    rw [decide_eq_true ho.1, decide_eq_true ho.2]; rfl) rfl)
theorem res_chunk {b : Bd} (h : Inv n M b) (hp : Pl b) (hr : 0 < b.regs) {first : Int} {k : Nat} (h0 : 0 ≤ first) (hk : 8 ≤ k ∧ k ≤ 4096) (h1 : first + k ≤ M) : Res n M 0 5 b (b.chunk first k) := by
  have r1 := res_num h 1 0
  have r2 := res_num r1.inv 2 8
  have r3 := res_num r2.inv 3 k
  have p3 : Pl (b.chunk1 k) := (codes_put (codes_put (codes_put hp _).pl _).pl _).pl
  have r3' : Res n M 4 4 b (b.chunk1 k) := (r1.trans r2 r2.lo (hi := 3) (by omega) (by omega)).trans r3 (by have : ((3 : Nat) : Int) + 1 ≤ _ := r3.lo; exact this) (by omega) (by omega)
  unfold Bd.chunk
  generalize b.chunk1 k = b1 at r3' p3 ⊢
  have g1 := r3'.lo
  have x1 := p3.lt
  have i4 : Inv n M b1.chunk2 := by
    obtain ⟨x, hx, e3, ev, et, ee⟩ := p3
    exact inv_go (inv_jump (inv_opened r3'.inv) ⟨x, (opened_old x1).trans hx, e3, ev, et, ee⟩ (by rw [opened_len]; omega)) _
  have l4 : b1.chunk2.blocks.length = b1.blocks.length + 1 := (upd_len b1.opened _).trans (opened_len b1)
  have g4 : b1.chunk2.regs = b1.regs := rfl
  have r5 := res_astores i4 (first := first) (z := k - 7) h0 (by omega) (by omega) 8 (by omega)
  have a5 := r5.regs
  have r6 := res_bin3 r5.inv (op := 4) 1 1 2 ⟨by decide, by decide⟩ (by show (1 : Int) < _; omega) (by show (2 : Int) < _; omega)
  have a6 := r6.regs
  have r7 := res_bin3 r6.inv (op := 14) 4 1 3 ⟨by decide, by decide⟩ (by show (1 : Int) < _; omega) (by show (3 : Int) < _; omega)
  have a7 : ((4 : Nat) : Int) + 1 ≤ _ := r7.lo
  have b5 := r5.hi
  have b6 := r6.hi
  have b7 := r7.hi
  have c5 := r5.len
  have c6 := r6.len
  have c7 := r7.len
  have d7 := r7.regs
  generalize ((b1.chunk2.astores first (k - 7) 8).put (iBin 4 1 1 2)).put (iBin 14 4 1 3) = b7' at r7 a7 b7 c7 d7 ⊢
  have i8 := inv_fork (inv_opened r7.inv) (v := 4) (to := b1.blocks.length) (els := b7'.blocks.length) (by show ((4 : Nat) : Int) < b7'.regs; omega) (by rw [opened_len]; omega) (by rw [opened_len]; omega)
  have l8 : (b7'.opened.fork 4 b1.blocks.length b7'.blocks.length).blocks.length = b7'.blocks.length + 1 := (upd_len b7'.opened _).trans (opened_len b7')
  have h3 := r3'.hi
  have h3r := r3'.regs
  have h3l := r3'.len
  exact ⟨inv_go i8 _, by show b.regs ≤ b7'.regs; omega, i8.r0, by show b7'.regs ≤ _; omega, by show _ ≤ (b7'.opened.fork 4 b1.blocks.length b7'.blocks.length).blocks.length; omega⟩
theorem res_noughtG : ∀ (g : Nat) {b : Bd} (h : Inv n M b) (hp : Pl b) (hr : 0 < b.regs) {first : Int} (k : Nat), 0 ≤ first → first + k ≤ M → Res n M 0 5 b (Bd.noughtG g b first k)
  | 0, b, h, hp, hr, first, k, _, _ => by rw [Bd.noughtG]; exact Res.refl h h.r0
  | g + 1, b, h, hp, hr, first, k, h0, h1 => by
    rw [Bd.noughtG]
    by_cases hk : 64 < k
    · rw [if_pos hk]
      obtain ⟨c1, c2, c3, c4⟩ := chunkN_ok hk
      have r1 := res_chunk h hp hr h0 (k := chunkN k) ⟨by omega, c3⟩ (by omega)
      have g1 := r1.regs
      have r2 := res_noughtG g r1.inv (codes_chunk hp _ _).pl (by omega) (first := first + chunkN k) (k - chunkN k) (by omega) (by omega)
      exact r1.trans r2 r2.lo (Int.le_refl _) (Int.le_refl _)
    · rw [if_neg hk]
      have r := res_zeros h h0 hr k h1
      have h4 := r.hi
      exact ⟨r.inv, r.regs, r.lo, by omega, r.len⟩
theorem res_nought {b : Bd} (h : Inv n M b) (hp : Pl b) {first : Int} {k : Nat} (h0 : 0 ≤ first) (h1 : first + k ≤ M) : Res n M 0 5 b (b.nought first k) := by
  unfold Bd.nought
  by_cases hk : k = 0
  · rw [if_pos hk]; exact Res.refl h h.r0
  · rw [if_neg hk]
    have r1 := res_num h 0 0
    have l1 : ((0 : Nat) : Int) + 1 ≤ _ := r1.lo
    have r2 := res_noughtG k r1.inv (codes_put hp _).pl (by omega) k h0 h1
    exact r1.trans r2 r2.lo (by show ((0 : Nat) : Int) + 1 ≤ 5; omega) (Int.le_refl _)
end
structure CoreFit (C : Core) : Prop where
  ok : CoreOk C
  words : C.words ≤ 1000000
  parts : ∀ fn ∈ C.funcs, ∀ st ∈ fn.body, st.parts ≤ 3000
theorem inv0 {i M : Int} : Inv i M bd0 := by
  have key : ∀ x ∈ bd0.blocks, x = blk0 := fun x hx => by simpa [bd0] using hx
  refine ⟨Int.le_refl _, fun x hx t ht => ?_, fun x hx => ?_⟩
  · rw [key x hx] at ht; cases ht
  · rw [key x hx]; rfl
theorem core_m {C : Core} (h : 0 ≤ C.words) : C.words ≤ C.m ∧ C.m ≤ C.words + 1 ∧ ∀ fn ∈ C.funcs, fn.word = true → C.words < C.m := by
  unfold Core.m
  refine ⟨by split <;> omega, by split <;> omega, fun fn hfn hw => ?_⟩
  rw [if_pos (List.any_eq_true.2 ⟨fn, hfn, hw⟩)]; omega
theorem need_of {C : Core} (h : CoreOk C) (n : Nat) : NeedE C n C.m := by
  obtain ⟨h1, h2, h3⟩ := core_m h.w0
  exact ⟨h.w0, h1, h3, fun g fn hfn => ⟨(h.fn g fn hfn).f0, by have := (h.fn g fn hfn).f1; have := (h.fn g fn hfn).ps; omega⟩⟩
theorem res_fn {C : Core} (h : CoreFit C) {g : Nat} {fn : CFn} (hfn : C.funcs[g]? = some fn) (last : Bool) : Inv g C.m (fnBd C fn last) ∧ (fnBd C fn last).regs ≤ 4000 := by
  have hN := need_of h.ok g
  have hfo := h.ok.fn g fn hfn
  have hw : fn.word = true → C.words < C.m := hN.told fn (List.mem_of_getElem? hfn)
  have f0 := hfo.f0
  have f1 := hfo.f1
  have ps := hfo.ps
  have p0 := hfo.p0
  have wm := hN.wm
  have r1 : Res g C.m 0 5 bd0 (bif last then bd0 else bd0.nought (fn.first + fn.params) (fn.slots - fn.params).toNat) := by
    cases last with
    | true => exact Res.refl inv0 (Int.le_refl _)
    | false => exact res_nought inv0 pl0 (by omega) (by omega)
  have p1 : Pl (bif last then bd0 else bd0.nought (fn.first + fn.params) (fn.slots - fn.params).toNat) := by
    cases last with
    | true => exact pl0
    | false => exact (codes_nought pl0 _ _).pl
  have r2 := res_stmts (w := fn.word) 3001 fn.body (fun st _ => res_stmt hN hw st.parts st (Nat.le_refl _)) (fun st hs => by have := h.parts fn (List.mem_of_getElem? hfn) st hs; omega) hfo.body _ p1 r1.inv
  have p2 := (codes_stmts (C := C) (n := g) (w := fn.word) fn.body (fun st _ => codes_stmt st.parts st (Nat.le_refl _)) hfo.body _ p1).pl
  have r3 := res_leave hN hw p2 r2.inv
  have a1 := r1.hi
  have a2 := r2.hi
  have a3 := r3.hi
  have e0 : bd0.regs = 0 := rfl
  refine ⟨r3.inv, ?_⟩
  show (Bd.leave _ C fn.word).regs ≤ 4000
  omega
theorem build_get {C : Core} {g : Nat} {fn : CFn} (h : C.funcs[g]? = some fn) : C.build.funcs[g]? = some (fnBuild C fn (g + 1 == C.funcs.length)) := by
  show (C.funcs.zipIdx.map _)[g]? = _
  rw [List.getElem?_map, zipIdx_get h]; rfl
theorem build_of {C : Core} {g : Nat} {F : BFunc} (h : C.build.funcs[g]? = some F) : ∃ fn, C.funcs[g]? = some fn ∧ F = fnBuild C fn (g + 1 == C.funcs.length) := by
  have hl := (List.getElem?_eq_some_iff.1 h).1
  have hl2 : g < C.funcs.length := by
    have e : C.build.funcs.length = C.funcs.length := by show (C.funcs.zipIdx.map _).length = _; simp
    omega
  obtain ⟨fn, hfn⟩ := get_of_lt hl2
  rw [build_get hfn] at h
  exact ⟨fn, hfn, (Option.some.inj h).symm⟩
theorem build_right {C : Core} (h : CoreFit C) : C.build.right = true := by
  obtain ⟨h1, h2, h3⟩ := core_m h.ok.w0
  have w0 := h.ok.w0
  have w1 := h.words
  refine right_of' (show 0 ≤ C.m by omega) (show C.m ≤ 1048576 by omega) ?_ fun g F hF => ?_
  · intro e
    have : C.funcs.length = 0 := by
      have := congrArg List.length e
      have e2 : C.build.funcs.length = C.funcs.length := by show (C.funcs.zipIdx.map _).length = _; simp
      rw [e2] at this; exact this
    exact h.ok.ne (List.length_eq_zero_iff.1 this)
  · obtain ⟨fn, hfn, rfl⟩ := build_of hF
    obtain ⟨i1, i2⟩ := res_fn h hfn (g + 1 == C.funcs.length)
    have hpl := (codes_fn (h.ok.fn g fn hfn).body (g + 1 == C.funcs.length)).1
    unfold BFunc.one
    rw [decide_eq_true (show 0 ≤ (fnBuild C fn (g + 1 == C.funcs.length)).regs from i1.r0), decide_eq_true (show (fnBuild C fn (g + 1 == C.funcs.length)).regs ≤ 4000 from i2)]
    have hne : (fnBuild C fn (g + 1 == C.funcs.length)).blocks ≠ [] := fun e => by
      have := hpl.lt
      have e2 : (fnBd C fn (g + 1 == C.funcs.length)).blocks = [] := e
      rw [e2] at this; simp at this
    have hall : ((fnBuild C fn (g + 1 == C.funcs.length)).blocks.all fun x => x.ok (fnBuild C fn (g + 1 == C.funcs.length)).blocks.length (fnBuild C fn (g + 1 == C.funcs.length)).regs g C.m) = true := List.all_eq_true.2 fun x hx => by
      unfold Block.ok
      rw [Bool.and_eq_true]
      exact ⟨i1.ends x hx, List.all_eq_true.2 fun t ht => i1.ins x hx t ht⟩
    show (true && (true && (!List.isEmpty (fnBuild C fn (g + 1 == C.funcs.length)).blocks && ((fnBuild C fn (g + 1 == C.funcs.length)).blocks.all fun x => x.ok (fnBuild C fn (g + 1 == C.funcs.length)).blocks.length (fnBuild C fn (g + 1 == C.funcs.length)).regs g C.m)))) = true
    rw [hall]
    cases hb : (fnBuild C fn (g + 1 == C.funcs.length)).blocks with
    | nil => exact absurd hb hne
    | cons x l => rfl
theorem build_built {C : Core} (h : CoreFit C) : Built C C.build C.m.toNat := by
  obtain ⟨h1, h2, h3⟩ := core_m h.ok.w0
  have w0 := h.ok.w0
  refine ⟨by show C.m = _; omega, by omega, fun fn hfn hw => by have := h3 fn hfn hw; omega, by show (C.funcs.zipIdx.map _).length = _; simp, fun g fn hfn => ⟨_, build_get hfn, (codes_fn (h.ok.fn g fn hfn).body _).2, (res_fn h hfn _).1.r0, fun x hx t ht hs => ?_⟩⟩
  have := (res_fn h hfn (g + 1 == C.funcs.length)).1.ins x hx t ht
  have ht2 := (fits_inR this).1 hs
  exact ht2
theorem build_run {C : Core} (h : CoreFit C) {s : ByteArray} {fuel : Int} {r : Mach} (hr : crun C s fuel = r) (h5 : r.fin ≠ 5) (fu : Nat) (hfu : (r.steps + 1) * C.k ≤ fu) : (mrun C.build s fu).fin = r.fin ∧ (mrun C.build s fu).out = r.out :=
  built_run h.ok (build_built h) hr h5 fu hfu
end Go.Proofs.Ytmfihmkopmgelaa.Sv

namespace Go.Proofs.Ytmfihmkopmgelaa.Sv
open Go Go.ChangeShapes Go.WideShapes Go.ChangeAt Go.RowKit
mutual
def CE.cells : CE → List AV
  | .mk k o n s z kids => [.int .i64 k, .int .i64 o, .int .u32 n, .int .i64 s, .int .i64 z, .lst false (CE.cellsL kids)]
def CE.cellsL : List CE → List (List AV)
  | [] => []
  | e :: l => e.cells :: CE.cellsL l
end
mutual
def CS.cells : CS → List AV
  | .mk k s z es thn els => [.int .i64 k, .int .i64 s, .int .i64 z, .lst false (es.map CE.cells), .lst false (CS.cellsL thn), .lst false (CS.cellsL els)]
def CS.cellsL : List CS → List (List AV)
  | [] => []
  | e :: l => e.cells :: CS.cellsL l
end
def CFn.cells (f : CFn) : List AV := [.int .i64 f.params, .int .i64 f.slots, .int .i64 f.first, .bool f.word, .lst false (f.body.map CS.cells)]
def Core.cells (c : Core) : List AV := [.int .i64 c.words, .lst false (c.funcs.map CFn.cells)]
theorem CE.cellsL_map : ∀ l : List CE, CE.cellsL l = l.map CE.cells
  | [] => by rw [CE.cellsL]; rfl
  | e :: l => by rw [CE.cellsL, CE.cellsL_map l]; rfl
theorem CS.cellsL_map : ∀ l : List CS, CS.cellsL l = l.map CS.cells
  | [] => by rw [CS.cellsL]; rfl
  | e :: l => by rw [CS.cellsL, CS.cellsL_map l]; rfl
theorem CE.cells_eq (e : CE) : e.cells = [.int .i64 e.kind, .int .i64 e.op, .int .u32 e.num, .int .i64 e.slot, .int .i64 e.size, .lst false (e.kids.map CE.cells)] := by
  cases e; rw [CE.cells, CE.cellsL_map]; rfl
theorem CS.cells_eq (e : CS) : e.cells = [.int .i64 e.kind, .int .i64 e.slot, .int .i64 e.size, .lst false (e.es.map CE.cells), .lst false (e.thn.map CS.cells), .lst false (e.els.map CS.cells)] := by
  cases e; rw [CS.cells, CS.cellsL_map, CS.cellsL_map]; rfl
inductive CE.Ok : CE → Prop
  | mk {k o n s z : Int} {kids : List CE} : isI k → isI o → isW n → isI s → isI z → kids.length * 64 ≤ reachBytes → (∀ e ∈ kids, CE.Ok e) → CE.Ok (.mk k o n s z kids)
inductive CS.Ok : CS → Prop
  | mk {k s z : Int} {es : List CE} {thn els : List CS} : isI k → isI s → isI z → es.length * 64 ≤ reachBytes → (∀ e ∈ es, CE.Ok e) → thn.length * 96 ≤ reachBytes → (∀ e ∈ thn, CS.Ok e) → els.length * 96 ≤ reachBytes → (∀ e ∈ els, CS.Ok e) → CS.Ok (.mk k s z es thn els)
structure CFn.Ok (f : CFn) : Prop where
  params : isI f.params
  slots : isI f.slots
  first : isI f.first
  len : f.body.length * 96 ≤ reachBytes
  body : ∀ s ∈ f.body, s.Ok
structure Core.Ok (c : Core) : Prop where
  words : isI c.words
  len : c.funcs.length * 56 ≤ reachBytes
  funcs : ∀ f ∈ c.funcs, f.Ok
section
variable {H : Type} {enc : TypeId × Value → H} {P : Program} {W : World} {T : Nat → Option TyI}
theorem dec_exprB {t s p q : Nat} (hT : TOk P T) {i j0 j1 j2 : TyI} (hi : T t = some i) (hk : i.k = .struct [(0, p), (1, p), (2, q), (3, p), (4, p), (5, s)]) (hs : i.size = 6) (hb : i.bytes = 64) (h0 : T s = some j0) (k0 : j0.k = .slice t) (s0 : j0.size = 1)
    (h1 : T p = some j1) (k1 : j1.k = .int .i64) (s1 : j1.size = 1) (h2 : T q = some j2) (k2 : j2.k = .int .u32) (s2 : j2.size = 1) : ∀ m, DecB m enc P W t CE.cells CE.Ok
  | 0 => fun fuel hm cs x h hw => by
    have : fuel = 0 := by omega
    subst this; simp [DataW.trod] at h
  | m + 1 => fun fuel hm cs x h hw => by
    obtain ⟨hl, hp⟩ := struct_partsB hT hi hk hm h hw
    rw [hs] at hl
    have ih := (dec_exprB hT hi hk hs hb h0 k0 s0 h1 k1 s1 h2 k2 s2 m).less (Nat.sub_le m 1)
    have hs5 : DecB m enc P W s (fun l : List CE => [.lst false (l.map CE.cells)]) (fun l => l.length * i.bytes ≤ reachBytes ∧ ∀ a ∈ l, CE.Ok a) := (DecB.slice' hT h0 k0 hi (by omega) ih).less (by omega)
    obtain ⟨x0, a0, b0⟩ := hp 0 _ _ rfl ((Dec.int' hT h1 k1).bound _)
    obtain ⟨x1, a1, b1⟩ := hp 1 _ _ rfl ((Dec.int' hT h1 k1).bound _)
    obtain ⟨x2, a2, b2⟩ := hp 2 _ _ rfl ((Dec.int' hT h2 k2).bound _)
    obtain ⟨x3, a3, b3⟩ := hp 3 _ _ rfl ((Dec.int' hT h1 k1).bound _)
    obtain ⟨x4, a4, b4⟩ := hp 4 _ _ rfl ((Dec.int' hT h1 k1).bound _)
    obtain ⟨x5, a5, b5⟩ := hp 5 _ _ rfl hs5
    have c0 := app1 hT h1 s1 (Reads.nil W cs) a0 (by omega)
    have c1 := app1 hT h1 s1 c0 a1 (by omega)
    have c2 := app1 hT h2 s2 c1 a2 (by omega)
    have c3 := app1 hT h1 s1 c2 a3 (by omega)
    have c4 := app1 hT h1 s1 c3 a4 (by omega)
    have c5 := app1 hT h0 s0 c4 a5 (by omega)
    rw [hb] at b5
    refine ⟨.mk x0 x1 x2 x3 x4 x5, ?_, .mk (wf_i64 b0) (wf_i64 b1) (wf_u32 b2) (wf_i64 b3) (wf_i64 b4) b5.1 b5.2⟩
    rw [CE.cells_eq]
    exact c5.all hl
theorem dec_stmtB {t s s2 u p : Nat} (hT : TOk P T) {i j0 j1 j2 j3 : TyI} (hi : T t = some i) (hk : i.k = .struct [(0, p), (1, p), (2, p), (3, u), (4, s), (5, s)]) (hs : i.size = 6) (hb : i.bytes = 96) (h0 : T s = some j0) (k0 : j0.k = .slice t) (s0 : j0.size = 1)
    (h1 : T p = some j1) (k1 : j1.k = .int .i64) (s1 : j1.size = 1) (h2 : T u = some j2) (k2 : j2.k = .slice s2) (z2 : j2.size = 1) (h3 : T s2 = some j3) (z3 : j3.size = 6) (b3 : j3.bytes = 64) (hE : ∀ m, DecB m enc P W s2 CE.cells CE.Ok) : ∀ m, DecB m enc P W t CS.cells CS.Ok
  | 0 => fun fuel hm cs x h hw => by
    have : fuel = 0 := by omega
    subst this; simp [DataW.trod] at h
  | m + 1 => fun fuel hm cs x h hw => by
    obtain ⟨hl, hp⟩ := struct_partsB hT hi hk hm h hw
    rw [hs] at hl
    have ih := (dec_stmtB hT hi hk hs hb h0 k0 s0 h1 k1 s1 h2 k2 z2 h3 z3 b3 hE m).less (Nat.sub_le m 1)
    have hsS : DecB m enc P W s (fun l : List CS => [.lst false (l.map CS.cells)]) (fun l => l.length * i.bytes ≤ reachBytes ∧ ∀ a ∈ l, CS.Ok a) := (DecB.slice' hT h0 k0 hi (by omega) ih).less (by omega)
    have hsE : DecB m enc P W u (fun l : List CE => [.lst false (l.map CE.cells)]) (fun l => l.length * j3.bytes ≤ reachBytes ∧ ∀ a ∈ l, CE.Ok a) := (DecB.slice' hT h2 k2 h3 (by omega) (hE m)).less (by omega)
    obtain ⟨x0, a0, b0⟩ := hp 0 _ _ rfl ((Dec.int' hT h1 k1).bound _)
    obtain ⟨x1, a1, b1⟩ := hp 1 _ _ rfl ((Dec.int' hT h1 k1).bound _)
    obtain ⟨x2, a2, b2⟩ := hp 2 _ _ rfl ((Dec.int' hT h1 k1).bound _)
    obtain ⟨x3, a3, b3'⟩ := hp 3 _ _ rfl hsE
    obtain ⟨x4, a4, b4⟩ := hp 4 _ _ rfl hsS
    obtain ⟨x5, a5, b5⟩ := hp 5 _ _ rfl hsS
    have c0 := app1 hT h1 s1 (Reads.nil W cs) a0 (by omega)
    have c1 := app1 hT h1 s1 c0 a1 (by omega)
    have c2 := app1 hT h1 s1 c1 a2 (by omega)
    have c3 := app1 hT h2 z2 c2 a3 (by omega)
    have c4 := app1 hT h0 s0 c3 a4 (by omega)
    have c5 := app1 hT h0 s0 c4 a5 (by omega)
    rw [hb] at b4 b5
    rw [b3] at b3'
    refine ⟨.mk x0 x1 x2 x3 x4 x5, ?_, .mk (wf_i64 b0) (wf_i64 b1) (wf_i64 b2) b3'.1 b3'.2 b4.1 b4.2 b5.1 b5.2⟩
    rw [CS.cells_eq]
    exact c5.all hl
theorem dec_cfn {t p q s u : Nat} (hT : TOk P T) {i j1 j2 j3 j4 : TyI} (hi : T t = some i) (hk : i.k = .struct [(0, p), (1, p), (2, p), (3, q), (4, s)]) (hs : i.size = 5) (h1 : T p = some j1) (k1 : j1.k = .int .i64) (s1 : j1.size = 1)
    (h4 : T q = some j4) (k4 : j4.k = .bool) (s4 : j4.size = 1) (h2 : T s = some j2) (k2 : j2.k = .slice u) (s2 : j2.size = 1) (h3 : T u = some j3) (s3 : j3.size = 6) (b3 : j3.bytes = 96) (hd : Dec enc P W u CS.cells CS.Ok) :
    Dec enc P W t CFn.cells CFn.Ok := fun fuel cs x h hw => by
  obtain ⟨hl, hp⟩ := struct_parts hT hi hk h hw
  rw [hs] at hl
  obtain ⟨x0, a0, b0⟩ := hp 0 _ _ rfl (Dec.int' hT h1 k1)
  obtain ⟨x1, a1, b1⟩ := hp 1 _ _ rfl (Dec.int' hT h1 k1)
  obtain ⟨x2, a2, b2⟩ := hp 2 _ _ rfl (Dec.int' hT h1 k1)
  obtain ⟨x3, a3, b3'⟩ := hp 3 _ _ rfl (Dec.bool' hT h4 k4)
  obtain ⟨x4, a4, b4⟩ := hp 4 _ _ rfl (Dec.slice' hT h2 k2 h3 (by omega) hd)
  have c0 := app1 hT h1 s1 (Reads.nil W cs) a0 (by omega)
  have c1 := app1 hT h1 s1 c0 a1 (by omega)
  have c2 := app1 hT h1 s1 c1 a2 (by omega)
  have c3 := app1 hT h4 s4 c2 a3 (by omega)
  have c4 := app1 hT h2 s2 c3 a4 (by omega)
  rw [b3] at b4
  exact ⟨⟨x0, x1, x2, x3, x4⟩, c4.all hl, ⟨wf_i64 b0, wf_i64 b1, wf_i64 b2, b4.1, b4.2⟩⟩
theorem dec_core {t p s u : Nat} (hT : TOk P T) {i j1 j2 j3 : TyI} (hi : T t = some i) (hk : i.k = .struct [(0, p), (1, s)]) (hs : i.size = 2) (h1 : T p = some j1) (k1 : j1.k = .int .i64) (s1 : j1.size = 1)
    (h2 : T s = some j2) (k2 : j2.k = .slice u) (s2 : j2.size = 1) (h3 : T u = some j3) (s3 : j3.size = 5) (b3 : j3.bytes = 56) (hd : Dec enc P W u CFn.cells CFn.Ok) :
    Dec enc P W t Core.cells Core.Ok := fun fuel cs x h hw => by
  obtain ⟨hl, hp⟩ := struct_parts hT hi hk h hw
  rw [hs] at hl
  obtain ⟨x0, a0, b0⟩ := hp 0 _ _ rfl (Dec.int' hT h1 k1)
  obtain ⟨x1, a1, b1⟩ := hp 1 _ _ rfl (Dec.slice' hT h2 k2 h3 (by omega) hd)
  have c0 := app1 hT h1 s1 (Reads.nil W cs) a0 (by omega)
  have c1 := app1 hT h2 s2 c0 a1 (by omega)
  rw [b3] at b1
  exact ⟨⟨x0, x1⟩, c1.all hl, ⟨wf_i64 b0, b1.1, b1.2⟩⟩
end
end Go.Proofs.Ytmfihmkopmgelaa.Sv

namespace Go.Proofs.Ytmfihmkopmgelaa
open Go.ChangeShapes Go.WideShapes Go.ChangeAt Go.RowKit Sv
section
variable {H : Type} {enc : TypeId × Value → H} {W : World}
theorem decExprB (m : Nat) : DecB m enc Try.prog W 43 CE.cells CE.Ok := dec_exprB (s := 41) (p := 3) (q := 40) tok rfl rfl rfl rfl rfl rfl rfl rfl rfl rfl rfl rfl rfl m
theorem decStmtB (m : Nat) : DecB m enc Try.prog W 47 CS.cells CS.Ok := dec_stmtB (s := 45) (s2 := 43) (u := 41) (p := 3) tok rfl rfl rfl rfl rfl rfl rfl rfl rfl rfl rfl rfl rfl rfl rfl rfl decExprB m
theorem decCFn : Dec enc Try.prog W 50 CFn.cells CFn.Ok := dec_cfn (p := 3) (q := 4) (s := 45) (u := 47) tok rfl rfl rfl rfl rfl rfl rfl rfl rfl rfl rfl rfl rfl rfl rfl (DecB.dec decStmtB)
theorem decCore : Dec enc Try.prog W 24 Core.cells Core.Ok := dec_core (p := 3) (s := 22) (u := 50) tok rfl rfl rfl rfl rfl rfl rfl rfl rfl rfl rfl rfl decCFn
end
end Go.Proofs.Ytmfihmkopmgelaa

namespace Go.Proofs.Ytmfihmkopmgelaa.Sv
open Go
theorem hput_skip {h : AHeap} {b x : Nat} {o : AObj} {r : Option AObj} (hb : Nat.beq x b = false) (hr : h x = r) : hput h b o x = r := by simp only [hput, hb, cond_false, hr]
section
variable {P : Program} {T : Nat → Option TyI} {o : Oper} {e : AEnv} {h : AHeap}
end
def hresK (h : AHeap) (κ : Nat → Bool) : AHeap := fun b => bif κ b then h b else some .free
def lmixK (ι ι' : Lay) (κ : Nat → Bool) : Lay := fun b => bif κ b then ι' b else ι b
theorem call_mixK {H : Know} {ι : Lay} {h : AHeap} {w : World} {κ : Nat → Bool} {hn : AHeap} {H' : Know} {ι' : Lay} {h' : AHeap} {w' : World} (hr : HeapRel H ι h w)
    (hL : ∀ b, κ b = true → ∃ o, h b = some o ∧ o.avoid κ = true) (hW : ∀ b, κ b = false → hn b = h b)
    (hk : ∀ b, κ b = true → ∃ o, h' b = some o ∧ hn b = some o ∧ o.avoid κ = true)
    (hr' : HeapRel H' ι' h' w') (hst : Step H (lcut ι κ) (hresK h κ) w H' ι' h' w') :
    HeapRel H' (lmixK ι ι' κ) (hn) w' ∧ Step H ι h w H' (lmixK ι ι' κ) (hn) w' := by
  have mT : ∀ b, κ b = true → lmixK ι ι' κ b = ι' b := fun b hb => by simp only [lmixK, hb, cond_true]
  have mF : ∀ b, ¬ κ b = true → lmixK ι ι' κ b = ι b := fun b hb => by
    have : κ b = false := by cases e : κ b with | false => rfl | true => exact absurd e hb
    simp only [lmixK, this, cond_false]
  have cT : ∀ b, κ b = true → lcut ι κ b = ι b := fun b hb => lcut_lt hb
  have rT : ∀ b, κ b = true → hresK h κ b = h b := fun b hb => by simp only [hresK, hb, cond_true]
  have rF : ∀ b, ¬ κ b = true → hresK h κ b = some .free := fun b hb => by
    have : κ b = false := by cases e : κ b with | false => rfl | true => exact absurd e hb
    simp only [hresK, this, cond_false]
  have wF : ∀ b, ¬ κ b = true → hn b = h b := fun b hb => hW b (by cases e : κ b with | false => rfl | true => exact absurd e hb)
  have own : ∀ rb, Owned (hresK h κ) (lcut ι κ) rb → Owned h ι rb := by
    rintro rb ⟨b, o, r, h1, h2, h3, h4, h5⟩
    by_cases hb : κ b = true
    · exact ⟨b, o, r, by rw [← rT b hb]; exact h1, h2, lcut_some h3, h4, h5⟩
    · rw [rF b hb] at h1; cases h1; cases h2
  -- rows that the call didn't see are none of its
  have apart : ∀ b o r, ¬ κ b = true → h b = some o → o.alive = true → ι b = some r → r.solid → ¬ Owned (hresK h κ) (lcut ι κ) r.rb := by
    rintro b o r hb h1 h2 h3 h4 ⟨b', o', r', g1, g2, g3, g4, g5⟩
    by_cases hb' : κ b' = true
    · exact hr.inj b b' o o' r r' h1 h2 (by rw [← rT b' hb']; exact g1) g2 h3 (lcut_some g3) h4 g4 (fun e => hb (e ▸ hb')) g5.symm
    · rw [rF b' hb'] at g1; cases g1; cases g2
  have lle : LLe ι (lmixK ι ι' κ) := fun b r e => by
    by_cases hb : κ b = true
    · rw [mT b hb]; exact hst.lle b r (by rw [cT b hb]; exact e)
    · rw [mF b hb]; exact ⟨r, e, .inl rfl⟩
  have lle' : LLe (lcut ι' κ) (lmixK ι ι' κ) := fun b r e => by
    by_cases hb : κ b = true
    · rw [mT b hb]; exact ⟨r, lcut_some e, .inl rfl⟩
    · have : κ b = false := by cases e : κ b with | false => rfl | true => exact absurd e hb
      simp only [lcut, this, cond_false] at e; cases e
  have blk : ∀ b o r, ¬ κ b = true → h b = some o → o.alive = true → ι b = some r → r.solid → w'.heap[r.rb]? = w.heap[r.rb]? := fun b o r hb h1 h2 h3 h4 =>
    hst.keep r.rb (hr.lt ⟨b, o, r, h1, h2, h3, h4, rfl⟩) (apart b o r hb h1 h2 h3 h4)
  have noK : ∀ b o r, ¬ κ b = true → h b = some o → o.alive = true → ι b = some r → r.solid → H r.rb = none → H' r.rb = none := fun b o r hb h1 h2 h3 h4 h5 => by
    cases e : H' r.rb with
    | none => rfl
    | some c =>
      rcases hst.knew r.rb (by rw [e]; simp) with g | g | g
      · exact absurd h5 g
      · have := hr.lt ⟨b, o, r, h1, h2, h3, h4, rfl⟩; omega
      · exact absurd g (apart b o r hb h1 h2 h3 h4)
  -- a row of the call's, afterwards: not one of those that it didn't see
  have apart' : ∀ b b' o r r', ¬ κ b = true → κ b' = true → h b = some o → o.alive = true → ι b = some r → r.solid → ι' b' = some r' → r'.solid → r.rb ≠ r'.rb := fun b b' o r r' hb hb' h1 h2 h3 h4 g1 g2 e => by
    have alive' : ∀ r0, ι b' = some r0 → r0.solid → r0.rb = r'.rb → False := fun r0 e0 es e1 => by
      obtain ⟨o0, k1, _⟩ := hL b' hb'
      have ka : o0.alive = true := by
        cases o0 with
        | free => rw [hr.free b' k1] at e0; cases e0
        | _ => rfl
      exact hr.inj b b' o o0 r r0 h1 h2 k1 ka h3 e0 h4 es (fun e => hb (e ▸ hb')) (e.trans e1.symm)
    rcases hst.newrb b' r' g1 g2 with k | k | ⟨r0, k1, k2, k3⟩
    · exact alive' r' (lcut_some k) g2 rfl
    · have := hr.lt ⟨b, o, r, h1, h2, h3, h4, rfl⟩; omega
    · exact alive' r0 (lcut_some k1) k2 k3
  refine ⟨⟨hr'.know, fun b hb => ?_, fun b o h1 h2 => ?_, fun b b' o o' r r' h1 h2 h3 h4 h5 h6 s1 s2 hne => ?_, hr'.glob⟩, ⟨hst.size, hst.os, hst.out, fun rb hlt hno => hst.keep rb hlt (fun h => hno (own rb h)), hst.kle, fun b hb => ?_, lle, fun b e => ?_, fun b r' e es => ?_, fun b e => ?_⟩⟩
  · by_cases hbL : κ b = true
    · obtain ⟨o, k1, k2, _⟩ := hk b hbL
      rw [k2] at hb; cases hb
      rw [mT b hbL]; exact hr'.free b k1
    · rw [wF b hbL] at hb; rw [mF b hbL]; exact hr.free b hb
  · by_cases hbL : κ b = true
    · obtain ⟨o', k1, k2, k3⟩ := hk b hbL
      rw [k2] at h1; cases h1
      obtain ⟨r, r1, r2, r3⟩ := hr'.obj b o k1 h2
      exact ⟨r, by rw [mT b hbL]; exact r1, (objOk_cut r2 k3).mono (KLe.refl _) lle' (fun _ => rfl), r3⟩
    · rw [wF b hbL] at h1
      obtain ⟨r, r1, r2, r3⟩ := hr.obj b o h1 h2
      exact ⟨r, by rw [mF b hbL]; exact r1, r2.mono hst.kle lle (fun hs => blk b o r hbL h1 h2 r1 hs), fun hs => noK b o r hbL h1 h2 r1 hs (r3 hs)⟩
  · by_cases hb : κ b = true <;> by_cases hb' : κ b' = true
    · obtain ⟨q, k1, k2, _⟩ := hk b hb
      obtain ⟨q', k1', k2', _⟩ := hk b' hb'
      rw [k2] at h1; cases h1
      rw [k2'] at h3; cases h3
      rw [mT b hb] at h5; rw [mT b' hb'] at h6
      exact hr'.inj b b' _ _ r r' k1 h2 k1' h4 h5 h6 s1 s2 hne
    · rw [wF b' hb'] at h3; rw [mF b' hb'] at h6; rw [mT b hb] at h5
      exact fun e => apart' b' b o' r' r hb' hb h3 h4 h6 s2 h5 s1 e.symm
    · rw [wF b hb] at h1; rw [mF b hb] at h5; rw [mT b' hb'] at h6
      exact apart' b b' o r r' hb hb' h1 h2 h5 s1 h6 s2
    · rw [wF b hb] at h1; rw [mF b hb] at h5; rw [wF b' hb'] at h3; rw [mF b' hb'] at h6
      exact hr.inj b b' o o' r r' h1 h2 h3 h4 h5 h6 s1 s2 hne
  · rcases hst.knew b hb with g | g | g
    · exact .inl g
    · exact .inr (.inl g)
    · exact .inr (.inr (own b g))
  · by_cases hb : κ b = true
    · obtain ⟨o, k1, _⟩ := hL b hb; rw [k1] at e; cases e
    · exact mF b hb
  · by_cases hb : κ b = true
    · rw [mT b hb] at e
      rcases hst.newrb b r' e es with k | k | ⟨r0, k1, k2, k3⟩
      · exact .inl (lcut_some k)
      · exact .inr (.inl k)
      · exact .inr (.inr ⟨r0, lcut_some k1, k2, k3⟩)
    · rw [mF b hb] at e; exact .inl e
  · by_cases hb : κ b = true
    · obtain ⟨o, k1, _⟩ := hL b hb; rw [k1] at e; cases e
    · rw [wF b hb]; exact e
def EDropK (k : Nat → Bool) (e' e : AEnv) : Prop := ∀ t x, e' t = some x → e t = some x ∧ x.avoid k = true
def HDropK (k : Nat → Bool) (h' h : AHeap) : Prop := ∀ b o, h' b = some o → (h b = some o ∧ (o.alive = true → k b = true ∧ o.avoid k = true)) ∨ (o = .free ∧ k b = false)
theorem EDropK.new (k : Nat → Bool) (e : AEnv) : EDropK k eNew e := fun _ _ h => by cases h
theorem EDropK.put {k : Nat → Bool} {e' e : AEnv} {t : Nat} {v : AV} (h : EDropK k e' e) (hv : e t = some v) (ha : v.avoid k = true) : EDropK k (eput e' t v) e := fun u x hx => by
  by_cases hu : u = t
  · subst hu; rw [eput_same] at hx; cases hx; exact ⟨hv, ha⟩
  · rw [eput_ne _ _ hu] at hx; exact h u x hx
theorem HDropK.none (k : Nat → Bool) (h : AHeap) : HDropK k hNone h := fun _ _ h => by cases h
theorem HDropK.put {k : Nat → Bool} {h' h : AHeap} {b : Nat} {o : AObj} (hh : HDropK k h' h) (ho : h b = some o) (hb : k b = true) (ha : o.avoid k = true) : HDropK k (hput h' b o) h := fun c x hx => by
  by_cases hc : c = b
  · subst hc; rw [hput_same] at hx; cases hx; exact .inl ⟨ho, fun _ => ⟨hb, ha⟩⟩
  · rw [hput_ne _ _ hc] at hx; exact hh c x hx
structure DropK (k : Nat → Bool) (s'' s' : AState) : Prop where
  n : s''.n = s'.n
  e : EDropK k s''.env s'.env
  h : HDropK k s''.h s'.h
theorem DropK.mk' {k : Nat → Bool} {n : Nat} {e' e : AEnv} {h' h : AHeap} (h1 : EDropK k e' e) (h2 : HDropK k h' h) : DropK k ⟨n, e', h'⟩ ⟨n, e, h⟩ := ⟨rfl, h1, h2⟩
theorem Sim.cutK {H : Know} {ι : Lay} {s s' : AState} {a : Act} {w : World} {k : Nat → Bool} (hs : Sim H ι s a w) (hd : DropK k s' s) : Sim H (lcut ι k) s' a w := by
  have hal : ∀ b o, s'.h b = some o → o.alive = true → s.h b = some o ∧ k b = true ∧ o.avoid k = true := fun b o h1 h2 => by
    rcases hd.h b o h1 with ⟨g1, g2⟩ | ⟨g1, _⟩
    · exact ⟨g1, g2 h2⟩
    · subst g1; cases h2
  refine ⟨hs.n.trans hd.n.symm, hs.d, fun t x hx => ?_, ⟨hs.heap.know, fun b hb => ?_, fun b o h1 h2 => ?_, fun b b' o o' r r' h1 h2 h3 h4 h5 h6 => ?_, hs.heap.glob⟩⟩
  · obtain ⟨g1, g2⟩ := hd.e t x hx
    obtain ⟨v, v1, v2⟩ := hs.env t x g1
    exact ⟨v, v1, avoid_rel v2 g2⟩
  · rcases hd.h b _ hb with ⟨g1, _⟩ | ⟨_, g2⟩
    · have := hs.heap.free b g1
      unfold lcut; rw [this]; cases k b <;> rfl
    · unfold lcut; rw [show k b = false from g2]; rfl
  · obtain ⟨g1, g2, g3⟩ := hal b o h1 h2
    obtain ⟨r, r1, r2, r3⟩ := hs.heap.obj b o g1 h2
    exact ⟨r, by rw [lcut_lt (k := k) g2]; exact r1, objOk_cut r2 g3, r3⟩
  · exact hs.heap.inj b b' o o' r r' (hal b o h1 h2).1 h2 (hal b' o' h3 h4).1 h4 (lcut_some h5) (lcut_some h6)
theorem Step.cutK {H : Know} {ι : Lay} {h h1 h' : AHeap} {w : World} {H' : Know} {ι' : Lay} {w' : World} {k : Nat → Bool} (hr : HeapRel H ι h w) (hf : ∀ b, k b = false → h b = some .free)
    (st : Step H ι h w H' ι' h1 w') (hd : HDropK k h' h1) : Step H ι h w H' (lcut ι' k) h' w' where
  size := st.size
  os := st.os
  out := st.out
  keep := st.keep
  kle := st.kle
  knew := st.knew
  lle := fun b r e => by
    cases hb : k b with
    | false => rw [hr.free b (hf b hb)] at e; cases e
    | true => rw [lcut_lt (k := k) hb]; exact st.lle b r e
  lframe := fun b e => by
    cases hb : k b with
    | false => rw [hf b hb] at e; cases e
    | true => rw [lcut_lt (k := k) hb]; exact st.lframe b e
  newrb := fun b r' e => st.newrb b r' (lcut_some e)
  dom := fun b e => by
    have e1 := st.dom b e
    cases e2 : h' b with
    | none => rfl
    | some o =>
      rcases hd b o e2 with ⟨g, _⟩ | ⟨_, g⟩
      · rw [g] at e1; cases e1
      · rw [hf b g] at e; cases e
section
variable {P : Program} {s : AState} {Q : Exit → AState → Prop}
theorem AGo.cutK {c : Code} {K : AState → Prop} (k : Nat → Bool) (hf : ∀ b, k b = false → s.h b = some .free) (h : AGo P c s (Then (fun s1 => ∃ s2, DropK k s2 s1 ∧ K s2) Q)) : AGo P c s (Then K Q) := fun H ι a w hs =>
  wp_mono (h H ι a w hs) fun e a' w' hp => by
    obtain ⟨s', H', ι', q, r, t⟩ := hp
    cases e with
    | normal =>
      obtain ⟨s2, d, k2⟩ := q
      exact ⟨s2, H', _, k2, r.cutK d, t.cutK hs.heap hf d.h⟩
    | _ => exact ⟨s', H', ι', q, r, t⟩
theorem AGo.loopK {γ : Type} {c : Code} (k : Nat → Bool) (inv : γ → AState) (F : γ → Prop) (μ : γ → Nat) (g0 : γ) (h0 : Sub (inv g0) s) (hF : F g0) (hf : ∀ g b, k b = false → (inv g).h b = some .free)
    (round : ∀ g, F g → AGo P c (inv g) (Then (fun s' => ∃ g', DropK k (inv g') s' ∧ F g' ∧ μ g' < μ g) Q)) : AGo P (.loop c) s Q :=
  AGo.loopI inv F μ g0 h0 hF fun g hg => AGo.cutK k (hf g) ((round g hg).mono fun e s'' hq => by
    cases e with
    | normal => obtain ⟨g', h1, h2, h3⟩ := hq; exact ⟨inv g', h1, g', Sub.refl _, h2, h3⟩
    | _ => exact hq)
end
section
variable {P : Program} {T : Nat → Option TyI} {o : Oper} {e : AEnv} {h : AHeap}
def OCall (P : Program) (o : Oper) (e : AEnv) (h hn : AHeap) (r : AV) : Prop :=
  ∀ (H : Know) (ι : Lay) (a : Act) (w : World) (n : Nat) (Q : Exit → Act → World → Prop), Sim H ι ⟨n, e, h⟩ a w →
    o.wp P a w (fun a' w' => ∃ v H' ι', a' = a.put o.dst v ∧ Rel H' ι' r v ∧ HeapRel H' ι' hn w' ∧ Step H ι h w H' ι' hn w') Q
theorem o_callK {f : FuncId} {fn : Func} {args : Array Operand} {tys : Array TypeId} {xs : List AV} {r : AV} {hc hw hn : AHeap} (κ : Nat → Bool) (ho : o.op = .call { callee := .value (.func f), args := args, argTypes := tys }) (hf : P.funcs[f]? = some fn) (hnm : (fn.name == "runtime.NumGoroutine") = false) (hb : fn.body.isSome = true)
    (hx : lookAll e args.toList = some xs) (hxa : xs.all (AV.avoid κ) = true) (hL : ∀ b, κ b = true → ∃ q, h b = some q ∧ q.avoid κ = true) (hres' : hresK h κ = hc) (hW : ∀ b, κ b = false → hn b = h b)
    (hk : ∀ b, κ b = true → ∃ q, hw b = some q ∧ hn b = some q ∧ q.avoid κ = true) (hra : r.avoid κ = true)
    (hcall : ACall P f xs hc (fun r' h' => r' = r ∧ HSub hw h')) : OCall P o e h hn r := by
  intro H ι a w n Q hs
  have hraa := relAll_map hs hx
  have hra' : RelAll H (lcut ι κ) xs (args.map a.eval) := ⟨hraa.1, fun j x v h1 h2 => avoid_rel (hraa.2 j x v h1 h2) (all_get hxa h1)⟩
  have hrc : HeapRel H (lcut ι κ) (hresK h κ) w := by
    have key : ∀ b o, hresK h κ b = some o → o.alive = true → κ b = true ∧ h b = some o := fun b o h1 h2 => by
      unfold hresK at h1
      cases e : κ b with
      | true => rw [e] at h1; exact ⟨rfl, h1⟩
      | false => rw [e] at h1; cases h1; cases h2
    refine ⟨hs.heap.know, fun b hb => ?_, fun b o h1 h2 => ?_, fun b b' o o' r r' h1 h2 h3 h4 h5 h6 => ?_, hs.heap.glob⟩
    · unfold hresK at hb
      unfold lcut
      cases e : κ b with
      | true => rw [e] at hb; exact hs.heap.free b hb
      | false => rfl
    · obtain ⟨k1, k2⟩ := key b o h1 h2
      obtain ⟨r, r1, r2, r3⟩ := hs.heap.obj b o k2 h2
      obtain ⟨q, q1, q2⟩ := hL b k1
      rw [k2] at q1; cases q1
      exact ⟨r, by rw [lcut_lt k1]; exact r1, objOk_cut r2 q2, r3⟩
    · exact hs.heap.inj b b' o o' r r' (key b o h1 h2).2 h2 (key b' o' h3 h4).2 h4 (lcut_some h5) (lcut_some h6)
  have hcalls := hcall H (lcut ι κ) w _ hra' (hres' ▸ hrc)
  have hexec : (execOp a.eval o).run P w = .ok (.enter f (args.map a.eval)) w := by
    simp [execOp, ho, resolve, Act.eval, Deferred.ofValue, invoke, run_callFunc hf hnm hb]
  unfold Oper.wp
  rw [hexec]
  refine hcalls.mono fun en w' hh => ?_
  obtain ⟨v, r', h', H', ι', rfl, ⟨rfl, hsub⟩, k1, k2, k3⟩ := hh
  have hk' : ∀ b, κ b = true → ∃ q, h' b = some q ∧ hn b = some q ∧ q.avoid κ = true := fun b hb => by
    obtain ⟨q, q1, q2, q3⟩ := hk b hb
    exact ⟨q, hsub b q q1, q2, q3⟩
  obtain ⟨u1, u2⟩ := call_mixK hs.heap hL hW hk' k2 (hres'.symm ▸ k3)
  refine ⟨v, H', _, rfl, ?_, u1, u2⟩
  refine (avoid_rel k1 hra).mono (KLe.refl _) fun b r e => ?_
  cases hb : κ b with
  | true => exact ⟨r, by simp only [lmixK, hb, cond_true]; exact lcut_some e, .inl rfl⟩
  | false => simp only [lcut, hb, cond_false] at e; cases e
theorem AOps.call {ops : Array Oper} {rest : List Oper} {n : Nat} {K : AState → Prop} (d : Nat) {hn : AHeap} {r : AV} (hd : o.dst = some d) (hb : Nat.blt d n = true) (hg : guardIs ops o e = some true) (ho : OCall P o e h hn r)
    (hr : AOps P ops rest ⟨n, eput e d r, hn⟩ K) : AOps P ops (o :: rest) ⟨n, e, h⟩ K := by
  intro H ι a w hs
  unfold wpList
  rw [guard_wanted hs hg]
  simp only [if_true]
  refine .inl (Oper.wp_mono (fun a' w' hx => ?_) (ho H ι a w n _ hs))
  obtain ⟨v, H', ι', rfl, h1, h2, h3⟩ := hx
  have hs' := hs.put (d := o.dst) (r := some r) h2 h3 (fun x ex => by cases ex; exact h1) (lt_of hd hb)
  rw [hd] at hs' ⊢
  have := hr H' ι' _ w' hs'
  have key : ∀ (l : List Oper) (a1 : Act) (w1 : World), wpList P ops (Post H' ι' hn w' (Then K fun _ _ => False)) l a1 w1 → wpList P ops (Post H ι h w (Then K fun _ _ => False)) l a1 w1 := by
    have hpost : ∀ e a2 w2, Post H' ι' hn w' (Then K fun _ _ => False) e a2 w2 → Post H ι h w (Then K fun _ _ => False) e a2 w2 := fun e a2 w2 hp => Post.step hs.heap h2 h3 hp
    intro l
    induction l with
    | nil => exact fun a1 w1 hp => hpost _ _ _ hp
    | cons o' l ih =>
      intro a1 w1 hp
      unfold wpList at hp ⊢
      by_cases hw : Region.wanted o' (yielded ops a1.tmps) = true
      · rw [if_pos hw] at hp ⊢
        rcases hp with hp | ⟨hp1, a2, w2, hp2⟩
        · refine .inl ?_
          have hp' := Oper.wp_mono (fun a2 w2 => ih a2 w2) hp
          clear hp
          unfold Oper.wp at hp' ⊢
          generalize (execOp a1.eval o').run P w1 = res at hp' ⊢
          cases res with
          | ok n w3 =>
            cases n <;> simp only [Oper.upon] at hp' ⊢ <;> first
              | exact hp'
              | exact Calls.mono hp' (fun e w4 he => by cases e <;> first | exact he | exact hpost _ _ _ he | (obtain ⟨a3, w5, hp3⟩ := he; exact ⟨a3, w5, hpost _ _ _ hp3⟩))
          | halt x w3 => cases x <;> simp only [Oper.upon] at hp' ⊢ <;> first | exact hpost _ _ _ hp' | exact hp'
        · exact .inr ⟨hp1, a2, w2, hpost _ _ _ hp2⟩
      · rw [if_neg hw] at hp ⊢
        exact ih _ _ hp
  exact key _ _ _ this
end
section
variable {P : Program} {o : Oper} {e : AEnv} {h : AHeap}
theorem o_callFK {f : FuncId} {fn : Func} {x : Operand} {args : Array Operand} {tys : Array TypeId} {fs xs cs : List AV} {r : AV} {hc hw hn : AHeap} (κ : Nat → Bool) (ho : o.op = .call { callee := .value x, args := args, argTypes := tys }) (hfn : look e x = some (.fn (.func f) fs cs)) (hf : P.funcs[f]? = some fn) (hnm : (fn.name == "runtime.NumGoroutine") = false) (hb : fn.body.isSome = true)
    (hx : lookAll e args.toList = some xs) (hxa : (fs ++ xs ++ cs).all (AV.avoid κ) = true) (hL : ∀ b, κ b = true → ∃ q, h b = some q ∧ q.avoid κ = true) (hres' : hresK h κ = hc) (hW : ∀ b, κ b = false → hn b = h b)
    (hk : ∀ b, κ b = true → ∃ q, hw b = some q ∧ hn b = some q ∧ q.avoid κ = true) (hra : r.avoid κ = true)
    (hcall : ACall P f (fs ++ xs ++ cs) hc (fun r' h' => r' = r ∧ HSub hw h')) : OCall P o e h hn r := by
  intro H ι a w n Q hs
  have hvf := look_rel hs hfn
  obtain ⟨us, vs, hve, k1, k2, k3, k4⟩ := hvf.fn_inv
  have hraa := relAll_append (relAll_append ⟨k1, k3⟩ (relAll_map hs hx)) ⟨k2, k4⟩
  have hra' : RelAll H (lcut ι κ) (fs ++ xs ++ cs) (us ++ args.map a.eval ++ vs) := ⟨hraa.1, fun j x v h1 h2 => avoid_rel (hraa.2 j x v h1 h2) (all_get hxa h1)⟩
  have hrc : HeapRel H (lcut ι κ) (hresK h κ) w := by
    have key : ∀ b o, hresK h κ b = some o → o.alive = true → κ b = true ∧ h b = some o := fun b o h1 h2 => by
      unfold hresK at h1
      cases e : κ b with
      | true => rw [e] at h1; exact ⟨rfl, h1⟩
      | false => rw [e] at h1; cases h1; cases h2
    refine ⟨hs.heap.know, fun b hb => ?_, fun b o h1 h2 => ?_, fun b b' o o' r r' h1 h2 h3 h4 h5 h6 => ?_, hs.heap.glob⟩
    · unfold hresK at hb
      unfold lcut
      cases e : κ b with
      | true => rw [e] at hb; exact hs.heap.free b hb
      | false => rfl
    · obtain ⟨k1, k2⟩ := key b o h1 h2
      obtain ⟨r, r1, r2, r3⟩ := hs.heap.obj b o k2 h2
      obtain ⟨q, q1, q2⟩ := hL b k1
      rw [k2] at q1; cases q1
      exact ⟨r, by rw [lcut_lt k1]; exact r1, objOk_cut r2 q2, r3⟩
    · exact hs.heap.inj b b' o o' r r' (key b o h1 h2).2 h2 (key b' o' h3 h4).2 h4 (lcut_some h5) (lcut_some h6)
  have hcalls := hcall H (lcut ι κ) w _ hra' (hres' ▸ hrc)
  have hexec : (execOp a.eval o).run P w = .ok (.enter f (us ++ args.map a.eval ++ vs)) w := by
    simp only [execOp, ho, resolve, hve, Deferred.ofValue, invoke, Sem.run_bind, Sem.run_pure, Result.andThen_ok, run_callFunc hf hnm hb]
  unfold Oper.wp
  rw [hexec]
  refine hcalls.mono fun en w' hh => ?_
  obtain ⟨v, r', h', H', ι', rfl, ⟨rfl, hsub⟩, k1, k2, k3⟩ := hh
  have hk' : ∀ b, κ b = true → ∃ q, h' b = some q ∧ hn b = some q ∧ q.avoid κ = true := fun b hb => by
    obtain ⟨q, q1, q2, q3⟩ := hk b hb
    exact ⟨q, hsub b q q1, q2, q3⟩
  obtain ⟨u1, u2⟩ := call_mixK hs.heap hL hW hk' k2 (hres'.symm ▸ k3)
  refine ⟨v, H', _, rfl, ?_, u1, u2⟩
  refine (avoid_rel k1 hra).mono (KLe.refl _) fun b r e => ?_
  cases hb : κ b with
  | true => exact ⟨r, by simp only [lmixK, hb, cond_true]; exact lcut_some e, .inl rfl⟩
  | false => simp only [lcut, hb, cond_false] at e; cases e
end
section
variable {P : Program} {T : Nat → Option TyI} {o : Oper} {e : AEnv} {h : AHeap}
theorem q_max {t t' : TypeId} {x y : Operand} {k k' : IntKind} {m n : Int} (ho : o.op = .call { callee := .builtin .max, args := #[x, y], argTypes := #[t, t'] }) (hx : look e x = some (.int k m)) (hy : look e y = some (.int k' n)) : QLoc P o e h [] (.int k (max m n)) := by
  intro H ι a w s hs h1 h2
  have hx' : look s.env x = some (.int k m) := by rw [h1 x z43q, hx]
  have hy' : look s.env y = some (.int k' n) := by rw [h1 y z43q, hy]
  have hvx := (look_rel hs hx').int_inv
  have hvy := (look_rel hs hy').int_inv
  refine ⟨.int k (max m n), .int _ _ _, ?_⟩
  have e1 : (if n > m then n else m) = max m n := by
    rw [Int.max_def]
    split <;> split <;> omega
  have key : (Builtin.max_ #[t, t'] o.type #[.int k m, .int k' n]).run P w = .ok (.int k (max m n)) w := by
    show (List.foldlM Builtin.max2 (Value.int k m) [Value.int k' n]).run P w = _
    simp only [List.foldlM, Builtin.max2, Sem.run_bind, Sem.run_pure, Result.andThen_ok, e1]
  simp only [execOp, ho, resolve, invoke, builtin, Sem.run_bind, Sem.run_pure, Result.andThen_ok, List.map_toArray, List.map_cons, List.map_nil, hvx, hvy, key]
end
section
variable {P : Program}
theorem AOps.blank {ops : Array Oper} {o : Oper} {rest : List Oper} {n : Nat} {e : AEnv} {h : AHeap} {K : AState → Prop} (d : Nat) {v : Value} (hd : o.dst = some d) (ho : o.op = .assign (.const v)) (hg : o.guard = none) (he : e d = none) (hr : AOps P ops rest ⟨n, e, h⟩ K) : AOps P ops (o :: rest) ⟨n, e, h⟩ K := by
  intro H ι a w hs
  unfold wpList
  rw [if_pos (by simp [Region.wanted, hg])]
  refine .inl ?_
  unfold Oper.wp
  simp only [execOp, ho, Sem.run_pure]
  refine hr H ι _ w ?_
  rw [hd]
  refine ⟨by simp [Act.put, hs.n], hs.d, fun t x hx => ?_, hs.heap⟩
  have hne : d ≠ t := fun e2 => by subst e2; rw [show e d = some x from hx] at he; cases he
  obtain ⟨v', e1, e2⟩ := hs.env t x hx
  exact ⟨v', by simp only [Act.put]; rw [Array.getElem?_setIfInBounds_ne hne]; exact e1, e2⟩
end
section
variable {P : Program} {Q : Exit → AState → Prop} {s : AState} {c : Code}
end
section
variable {P : Program} {T : Nat → Option TyI} {o : Oper} {e : AEnv} {h : AHeap}
end
section
variable {P : Program} {T : Nat → Option TyI} {o : Oper} {e : AEnv} {h : AHeap}
end
def arrAV (K : IntKind) (l : List Int) : List AV := l.map fun n => .int K n
def arrV (K : IntKind) (l : List Int) : Array Value := (l.map fun n => Value.int K n).toArray
section
variable {P : Program}
end
abbrev AMap := List (List Int × AV)
def kvsA (K : IntKind) (m : AMap) : List (AV × AV) := m.map fun p => (.agg (arrAV K p.1), p.2)
inductive EntRelA (H : Know) (K : IntKind) : AMap → List MapEntry → Prop
  | nil : EntRelA H K [] []
  | cons (z : List Int) (v : AV) (m : AMap) (e : MapEntry) (es : List MapEntry) (hk : e.key = .agg (arrV K z)) (hv : Rel H noLay v e.val) (h : EntRelA H K m es) : EntRelA H K ((z, v) :: m) (e :: es)
theorem intsRel (H : Know) (K : IntKind) (z : List Int) : Rel H noLay (.agg (arrAV K z)) (.agg (arrV K z)) :=
  .agg _ _ _ (by simp [arrAV, arrV]) fun j x u h1 h2 => by
    simp only [arrAV, List.getElem?_map, Option.map_eq_some_iff] at h1
    obtain ⟨n, hn, rfl⟩ := h1
    have : u = .int K n := by simpa [arrV, hn] using h2.symm
    subst this
    exact .int _ _ _
theorem EntRelA.out {H : Know} {K : IntKind} {m : AMap} {es : List MapEntry} (h : EntRelA H K m es) : (kvsA K m).length = es.length ∧ ∀ (j : Nat) (k v : AV), (kvsA K m)[j]? = some (k, v) → ∃ e, es[j]? = some e ∧ Rel H noLay k e.key ∧ Rel H noLay v e.val := by
  induction h with
  | nil => exact ⟨rfl, fun j k v h => by simp [kvsA] at h⟩
  | cons z v m e es hk hv h ih =>
    refine ⟨by simpa [kvsA] using ih.1, fun j k u hj => ?_⟩
    cases j with
    | zero =>
      simp [kvsA] at hj
      obtain ⟨rfl, rfl⟩ := hj
      exact ⟨e, rfl, by rw [hk]; exact intsRel _ _ _, hv⟩
    | succ j =>
      obtain ⟨e', k1, k2⟩ := ih.2 j k u (by simpa [kvsA] using hj)
      exact ⟨e', by simpa using k1, k2⟩
section
variable {P : Program} {T : Nat → Option TyI} {o : Oper} {e : AEnv} {h : AHeap}
end
def slA (b : Nat) (es : List (List AV)) : AV := jAV es.isEmpty b es
def slO (sz : Nat) (es : List (List AV)) : AObj := jObj es.isEmpty sz es
def vaA (b : Nat) (es : List (List AV)) : AV := bif es.isEmpty then .lst false [] else .ref b es.length 0 es.length
def vaO (es : List (List AV)) : AObj := bif es.isEmpty then .free else .row true 1 es
theorem snoc_ne {α : Type} (l : List α) (x : α) : (l ++ [x]).isEmpty = false := by cases l <;> rfl
theorem slA_snoc (b : Nat) (es : List (List AV)) (x : List AV) : slA b (es ++ [x]) = .ref b (es.length + 1) 0 (es.length + 1) := by
  simp [slA, snoc_ne, jAV]
theorem slO_snoc (sz : Nat) (es : List (List AV)) (x : List AV) : slO sz (es ++ [x]) = .row true sz (es ++ [x]) := by
  simp [slO, snoc_ne, jObj]
theorem jAV_cells (f : Bool) (b : Nat) (es : List (List AV)) : (jAV f b es).cells = [jAV f b es] := by cases f <;> rfl
theorem slA_cells (b : Nat) (es : List (List AV)) : (slA b es).cells = [slA b es] := jAV_cells _ _ _
theorem slA_cell1 (b : Nat) (es : List (List AV)) : (slA b es).cell1 = true := by unfold slA jAV; cases es.isEmpty <;> rfl
theorem slA_avoid {k : Nat → Bool} {b : Nat} (es : List (List AV)) (h : k b = true) : (slA b es).avoid k = true := by unfold slA jAV; cases es.isEmpty <;> simp [AV.avoid, AV.flat, h]
theorem vaA_avoid {k : Nat → Bool} {b : Nat} (es : List (List AV)) (h : k b = true) : (vaA b es).avoid k = true := by unfold vaA; cases es.isEmpty <;> simp [AV.avoid, AV.flat, h]
theorem slO_avoid {k : Nat → Bool} (sz : Nat) (es : List (List AV)) : (slO sz es).avoid k = true := by unfold slO jObj; cases es.isEmpty <;> rfl
theorem vaO_avoid {k : Nat → Bool} (es : List (List AV)) : (vaO es).avoid k = true := by unfold vaO; cases es.isEmpty <;> rfl
section
variable {P : Program} {T : Nat → Option TyI} {o : Oper} {e : AEnv} {h : AHeap}
theorem o_store1 (hT : TOk P T) {t : TypeId} {x y : Operand} {b m k off : Nat} {p : Bool} {sz : Nat} {es : List (List AV)} {cs : List AV} {q : AV} {i : TyI} (ho : o.op = .store t x y) (hd : o.dst = none) (hx : look e x = some (.ptr b m k off)) (hy : look e y = some q) (hi : T t = some i) (his : i.size = 1)
    (hb : h b = some (.row p sz es)) (hm : m = es.length) (hk : es[k]? = some cs) (hq : q.cells = [q]) (hfit : off + 1 ≤ sz) (h1 : q.cell1 = true) (hp : p = true → q.isPure1 = true) :
    OLoc P o e h [b] [(b, .row p sz (es.set k (splice cs off [q])))] none := by
  have := o_store hT ho hd hx hy hi hb hm hk (by rw [hq, his]; rfl) (by rw [his]; exact hfit) (by rw [hq]; simp [h1]) (fun h => by rw [hq]; simp [hp h])
  rwa [hq] at this
theorem o_append1J (hT : TOk P T) {t t' : TypeId} {x y : Operand} {i i' j : TyI} {u u' : Nat} {ex2 : Bool} {sz : Nat} {es : List (List AV)} {x0 : List AV} {b : Nat}
    (ho : o.op = .call { callee := .builtin .append, args := #[x, y], argTypes := #[t, t'] }) (hx : look e x = some (slA b es)) (hy : look e y = some (.lst ex2 [x0])) (hi : T t = some i) (hk : i.k = .slice u) (hj : T u = some j) (hi' : T t' = some i') (hk' : i'.k = .slice u')
    (hb : h b = some (slO sz es)) (hsz : sz = j.size) (hz : j.zero.length = j.size) (hp : 0 < j.size)
    (hu : ∀ cs ∈ es, cs.length = sz) (hpu : ∀ cs ∈ es, cs.all AV.isPure1 = true) (hu2 : x0.length = sz) (hpure : x0.all AV.isPure1 = true)
    (hby : (es.length + 1) * j.bytes ≤ 140737488355328) (hml : es.length + 1 ≤ maxLen) :
    OLoc P o e h [b] [(b, slO sz (es ++ [x0]))] (some (slA b (es ++ [x0]))) := by
  have := o_appendJ (f := es.isEmpty) hT b ho hx hy hi hk hj hi' hk' hb hsz hz hp hu hpu (by simpa using hu2) (by simpa using hpure) hby hml
  have e1 : (es.isEmpty && [x0].isEmpty) = (es ++ [x0]).isEmpty := by rw [snoc_ne]; simp
  rw [e1] at this
  exact this
end
theorem Ghost.weakRowF {n : Nat} {e : AEnv} {h : AHeap} (b : Nat) {sz : Nat} {es es' : List (List AV)} (hb : h b = some (.row false sz es)) (hl : es'.length = es.length)
    (hw : ∀ (i : Nat) (cs cs' : List AV), es[i]? = some cs → es'[i]? = some cs' → cs'.length = cs.length ∧ ∀ (j : Nat) (x y : AV), cs[j]? = some x → cs'[j]? = some y → (x.cell1 = true → y.cell1 = true) ∧ ∀ H ι v, Rel H ι x v → Rel H ι y v) : Ghost ⟨n, e, h⟩ ⟨n, e, hput h b (.row false sz es')⟩ := fun H ι a w hs => by
  obtain ⟨r, hr, ⟨r1, r2, r3, r4, r5, r6⟩, r7⟩ := hs.heap.obj b _ hb rfl
  have hlput : lput ι b r = ι := by
    funext c
    by_cases hc : c = b
    · subst hc; rw [lput_same, hr]
    · rw [lput_ne _ _ hc]
  have hget : ∀ (i : Nat) (cs' : List AV), es'[i]? = some cs' → ∃ cs, es[i]? = some cs := fun i cs' hi => by
    have : i < es'.length := (List.getElem?_eq_some_iff.1 hi).1
    exact ⟨es[i]'(by omega), List.getElem?_eq_getElem (by omega)⟩
  have := hs.heap.upd (o' := .row false sz es') (r' := r) (w' := w) hb rfl (.inr ⟨r, hr, rfl, .inl rfl⟩) (fun hsol => .inr ⟨r, hr, rfl, hsol, rfl⟩) (fun _ _ _ => rfl) (Nat.le_refl _) rfl rfl
    ⟨r1, r2, by rw [hl]; exact r3, by rw [hl]; exact r4, fun i cs' hi => by
      obtain ⟨cs, hc⟩ := hget i cs' hi
      rw [(hw i cs cs' hc hi).1]; exact r5 i cs hc, fun hsol => by
      obtain ⟨c, T, c1, c2, c3, c4⟩ := r6 hsol
      refine ⟨c, T, c1, c2, fun i cs' hi => ?_, ?_⟩
      · obtain ⟨cs, hc⟩ := hget i cs' hi
        rw [(hw i cs cs' hc hi).1]; exact r5 i cs hc
      rw [hlput]
      intro i cs' j y hi hj
      obtain ⟨cs, hc⟩ := hget i cs' hi
      obtain ⟨w1, w2⟩ := hw i cs cs' hc hi
      have hjlt : j < cs'.length := (List.getElem?_eq_some_iff.1 hj).1
      have hx : cs[j]? = some (cs[j]'(by omega)) := List.getElem?_eq_getElem (by omega)
      obtain ⟨v, v1, v2, v3⟩ := c4 i cs j _ hc hx
      obtain ⟨g1, g2⟩ := w2 j _ y hx hj
      exact ⟨v, v1, g2 _ _ _ v2, g1 v3⟩⟩
  rw [hlput] at this
  exact ⟨H, ι, ⟨hs.n, hs.d, hs.env, this.1⟩, this.2⟩
section
variable {P : Program} {T : Nat → Option TyI} {o : Oper} {e : AEnv} {h : AHeap}
end
section
variable {P : Program} {T : Nat → Option TyI} {o : Oper} {e : AEnv} {h : AHeap}
theorem o_append1R (hT : TOk P T) {t t' : TypeId} {x y : Operand} {i i' j : TyI} {u u' : Nat} {ex2 : Bool} {sz : Nat} {es : List (List AV)} {x0 : List AV} {b : Nat}
    (ho : o.op = .call { callee := .builtin .append, args := #[x, y], argTypes := #[t, t'] }) (hx : look e x = some (slA b es)) (hy : look e y = some (.lst ex2 [x0])) (hi : T t = some i) (hk : i.k = .slice u) (hj : T u = some j) (hi' : T t' = some i') (hk' : i'.k = .slice u')
    (hb : h b = some (slO sz es)) (hsz : sz = j.size) (hz : j.zero.length = j.size) (hp : 0 < j.size)
    (hu : ∀ cs ∈ es, cs.length = sz) (hpu : ∀ cs ∈ es, cs.all AV.isPure1 = true) (hu2 : x0.length = sz) (hpure : x0.all AV.isPure1 = true)
    (hby : (es.length + 1) * j.bytes ≤ 140737488355328) (hml : es.length + 1 ≤ maxLen) :
    OLoc P o e h [b] [(b, .row true sz (es ++ [x0]))] (some (.ref b (es.length + 1) 0 (es.length + 1))) := by
  have := o_append1J hT ho hx hy hi hk hj hi' hk' hb hsz hz hp hu hpu hu2 hpure hby hml
  rwa [slA_snoc, slO_snoc] at this
end
def fam (base : AHeap) (F : Nat → AObj) : AHeap := fun c => bif Nat.ble 16 c then some (F (c - 16)) else base c
theorem fam_hi (base : AHeap) (F : Nat → AObj) (x : Nat) : fam base F (x + 16) = some (F x) := by
  have : Nat.ble 16 (x + 16) = true := by rw [Nat.ble_eq]; omega
  simp only [fam, this, cond_true, Nat.add_sub_cancel]
theorem fam_lo (base : AHeap) (F : Nat → AObj) {c : Nat} (h : c < 16) : fam base F c = base c := by
  have : Nat.ble 16 c = false := by rw [← Bool.not_eq_true, Nat.ble_eq]; omega
  simp only [fam, this, cond_false]
def nth : List AObj → Nat → AObj
  | [], _ => .free
  | o :: _, 0 => o
  | _ :: L, n + 1 => nth L n
def nb (L : List AObj) : AHeap := fun c => some (nth L c)
def kf (k0 : Nat) : Nat → Bool := fun c => Nat.blt c k0 || Nat.ble 16 c
theorem kf_hi (k0 x : Nat) : kf k0 (x + 16) = true := by
  have : Nat.ble 16 (x + 16) = true := by rw [Nat.ble_eq]; omega
  simp [kf, this]
theorem kf_false {k0 c : Nat} (h : kf k0 c = false) : k0 ≤ c ∧ c < 16 := by
  simp only [kf, Bool.or_eq_false_iff] at h
  obtain ⟨h1, h2⟩ := h
  rw [← Bool.not_eq_true, Nat.blt_eq] at h1
  rw [← Bool.not_eq_true, Nat.ble_eq] at h2
  omega
theorem nth_out : ∀ {L : List AObj} {c : Nat}, L.length ≤ c → nth L c = .free
  | [], _, _ => rfl
  | _ :: L, 0, h => absurd h (by simp)
  | _ :: L, c + 1, h => nth_out (L := L) (by simpa using h)
def LowAt (h : AHeap) (k : Nat → Bool) : Nat → List AObj → Prop
  | _, [] => True
  | i, o :: L => (h i = some o ∧ o.avoid k = true) ∧ LowAt h k (i + 1) L
theorem LowAt.get {h : AHeap} {k : Nat → Bool} : ∀ {L : List AObj} {i c : Nat}, LowAt h k i L → c < L.length → h (i + c) = some (nth L c) ∧ (nth L c).avoid k = true
  | [], _, _, _, hc => absurd hc (by simp)
  | o :: L, i, 0, hl, _ => hl.1
  | o :: L, i, c + 1, hl, hc => by
    have := LowAt.get (L := L) (i := i + 1) (c := c) hl.2 (by simpa using hc)
    rw [show i + (c + 1) = i + 1 + c by omega]
    exact this
theorem famFree {L : List AObj} {F : Nat → AObj} {k0 : Nat} (hk : L.length = k0) {c : Nat} (h : kf k0 c = false) : fam (nb L) F c = some .free := by
  obtain ⟨h1, h2⟩ := kf_false h
  rw [fam_lo _ _ h2]
  show some (nth L c) = _
  rw [nth_out (by omega)]
theorem famDrop {L : List AObj} {F : Nat → AObj} {k0 : Nat} {h : AHeap} (hk : L.length = k0) (h1 : LowAt h (kf k0) 0 L) (h2 : ∀ x, h (x + 16) = some (F x)) (h3 : ∀ x, (F x).avoid (kf k0) = true) : HDropK (kf k0) (fam (nb L) F) h := by
  intro c o ho
  cases hc : kf k0 c with
  | false =>
    rw [famFree hk hc] at ho
    cases ho
    exact .inr ⟨rfl, rfl⟩
  | true =>
    by_cases h16 : 16 ≤ c
    · obtain ⟨x, rfl⟩ : ∃ x, c = x + 16 := ⟨c - 16, by omega⟩
      rw [fam_hi] at ho; cases ho
      exact .inl ⟨h2 x, fun _ => ⟨rfl, h3 x⟩⟩
    · have hlt : c < k0 := by
        simp only [kf, Bool.or_eq_true, Nat.blt_eq, Nat.ble_eq] at hc
        omega
      rw [fam_lo _ _ (by omega)] at ho
      have ho' : some (nth L c) = some o := ho
      cases ho'
      have := h1.get (c := c) (by omega)
      rw [Nat.zero_add] at this
      exact .inl ⟨this.1, fun _ => ⟨rfl, this.2⟩⟩
theorem famSub {L : List AObj} {F : Nat → AObj} {k0 : Nat} {h : AHeap} (hk : L.length = k0) (h1 : LowAt h (kf k0) 0 L) (h2 : ∀ x, h (x + 16) = some (F x)) (h3 : ∀ c, k0 ≤ c → c < 16 → h c = some .free) : HSub (fam (nb L) F) h := by
  intro c o ho
  by_cases h16 : 16 ≤ c
  · obtain ⟨x, rfl⟩ : ∃ x, c = x + 16 := ⟨c - 16, by omega⟩
    rw [fam_hi] at ho; cases ho
    exact h2 x
  · rw [fam_lo _ _ (by omega)] at ho
    have ho' : some (nth L c) = some o := ho
    cases ho'
    by_cases hlt : c < k0
    · have := h1.get (c := c) (by omega)
      rw [Nat.zero_add] at this
      exact this.1
    · rw [nth_out (by omega)]
      exact h3 c (by omega) (by omega)
theorem hput_hi {h : AHeap} {F : Nat → AObj} (hh : ∀ x, h (x + 16) = some (F x)) (z : Nat) (o : AObj) : ∀ x, hput h (z + 16) o (x + 16) = some (if x = z then o else F x) := fun x => by
  by_cases hx : x = z
  · subst hx; rw [hput_same, if_pos rfl]
  · rw [hput_ne _ _ (by omega), if_neg hx]; exact hh x
def clsIn (φ : Nat → Nat) (l : List Nat) (m : List Nat) : Prop := ∀ b ∈ l, φ b ∈ m
def setsIn (φ : Nat → Nat) : List (List Nat × List Nat) → List (List Nat × List Nat) → Prop
  | [], [] => True
  | s :: S, m :: M => clsIn φ s.1 m.1 ∧ clsIn φ s.2 m.2 ∧ setsIn φ S M
  | _, _ => False
theorem setsIn_get {φ : Nat → Nat} : ∀ {S M : List (List Nat × List Nat)} {i : Nat} {s : List Nat × List Nat}, setsIn φ S M → S[i]? = some s → ∃ m, M[i]? = some m ∧ clsIn φ s.1 m.1 ∧ clsIn φ s.2 m.2
  | [], _, _, _, _, h => by simp at h
  | _ :: _, [], _, _, hs, _ => hs.elim
  | s :: S, m :: M, 0, _, hs, h => by simp at h; subst h; exact ⟨m, rfl, hs.1, hs.2.1⟩
  | s :: S, m :: M, i + 1, t, hs, h => by
    simp only [List.getElem?_cons_succ] at h ⊢
    exact setsIn_get hs.2.2 h
theorem setsIn_none {φ : Nat → Nat} : ∀ {S M : List (List Nat × List Nat)} {i : Nat}, setsIn φ S M → S[i]? = none → M[i]? = none
  | [], [], _, _, _ => by simp
  | [], _ :: _, _, hs, _ => hs.elim
  | _ :: _, [], _, hs, _ => hs.elim
  | s :: S, m :: M, 0, _, h => by simp at h
  | s :: S, m :: M, i + 1, hs, h => by
    simp only [List.getElem?_cons_succ] at h ⊢
    exact setsIn_none hs.2.2 h
theorem apart_cls {φ : Nat → Nat} {x y x' y' : List Nat × List Nat} (hx1 : clsIn φ x.1 x'.1) (hx2 : clsIn φ x.2 x'.2) (hy1 : clsIn φ y.1 y'.1) (hy2 : clsIn φ y.2 y'.2) (h : slotsApart x' y' = true) : slotsApart x y = true := by
  simp only [slotsApart, Bool.and_eq_true, List.all_eq_true, Bool.not_eq_true', List.contains_eq_mem, decide_eq_false_iff_not] at h ⊢
  exact ⟨fun b hb => ⟨fun hc => (h.1 (φ b) (hx2 b hb)).1 (hy1 b hc), fun hc => (h.1 (φ b) (hx2 b hb)).2 (hy2 b hc)⟩, fun b hb hc => h.2 (φ b) (hy2 b hb) (hx1 b hc)⟩
theorem chk_cls {ops : Array Oper} (φ : Nat → Nat) {S M : List (List Nat × List Nat)} (hs : setsIn φ S M) (h : chk ops M = true) : chk ops S = true := by
  unfold chk at h ⊢
  rw [List.all_eq_true] at h ⊢
  intro j hj
  have hjj := h j hj
  cases ho : ops[j]? with
  | none => rw [ho] at hjj; cases hjj
  | some oj =>
    rw [ho] at hjj
    cases hsj : S[j]? with
    | none => rw [setsIn_none hs hsj] at hjj; cases hjj
    | some sj =>
      obtain ⟨mj, hmj, c1, c2⟩ := setsIn_get hs hsj
      rw [hmj] at hjj
      simp only [Bool.and_eq_true] at hjj ⊢
      refine ⟨hjj.1, ?_⟩
      rw [List.all_eq_true]
      intro i hi
      have hii := List.all_eq_true.1 hjj.2 i hi
      cases hoi : ops[i]? with
      | none => rw [hoi] at hii; cases hii
      | some oi =>
        rw [hoi] at hii
        cases hsi : S[i]? with
        | none => rw [setsIn_none hs hsi] at hii; cases hii
        | some si =>
          obtain ⟨mi, hmi, d1, d2⟩ := setsIn_get hs hsi
          rw [hmi] at hii
          simp only [Bool.or_eq_true, Bool.and_eq_true] at hii ⊢
          rcases hii with hii | hii
          · exact .inl hii
          · exact .inr ⟨hii.1, apart_cls d1 d2 c1 c2 hii.2⟩
theorem DOps.nilC {P : Program} {ops : Array Oper} {n : Nat} {e : AEnv} {h : AHeap} {acc : List (List Nat × List Nat)} {K : AState → Prop} (φ : Nat → Nat) (M : List (List Nat × List Nat)) (hs : setsIn φ acc M) (hc : chk ops M = true) (hk : K ⟨n, e, h⟩) : DOps P ops n [] e h acc K := DOps.nil (chk_cls φ hs hc) hk
theorem AllL.of {p : Nat → Prop} : ∀ {L : List Nat}, (∀ b ∈ L, p b) → AllL L p
  | [], _ => trivial
  | b :: L, h => ⟨h b (by simp), AllL.of fun c hc => h c (by simp [hc])⟩
def famW (f : Nat → Nat) (o : Nat → AObj) (n : Nat) : List (Nat × AObj) := (List.range n).map fun i => (f i, o i)
def famL (f : Nat → Nat) (n : Nat) : List Nat := (List.range n).map f
theorem famL_mem {f : Nat → Nat} {n b : Nat} : b ∈ famL f n ↔ ∃ i, i < n ∧ b = f i := by
  unfold famL
  simp only [List.mem_map, List.mem_range]
  exact ⟨fun ⟨i, h1, h2⟩ => ⟨i, h1, h2.symm⟩, fun ⟨i, h1, h2⟩ => ⟨i, h1, h2.symm⟩⟩
theorem famW_out {f : Nat → Nat} {o : Nat → AObj} {n b : Nat} (h : AHeap) (hb : ∀ i, i < n → b ≠ f i) : hputs h (famW f o n) b = h b := by
  refine hputs_not fun p hp => ?_
  unfold famW at hp
  simp only [List.mem_map, List.mem_range] at hp
  obtain ⟨i, hi, rfl⟩ := hp
  exact fun e => hb i hi e.symm
theorem famW_succ (f : Nat → Nat) (o : Nat → AObj) (n : Nat) : famW f o (n + 1) = famW f o n ++ [(f n, o n)] := by
  unfold famW; rw [List.range_succ, List.map_append]; rfl
theorem hputs_snoc : ∀ (h : AHeap) (W : List (Nat × AObj)) (b : Nat) (o : AObj), hputs h (W ++ [(b, o)]) = hput (hputs h W) b o
  | h, [], b, o => rfl
  | h, (c, q) :: W, b, o => by
    rw [List.cons_append]
    exact hputs_snoc (hput h c q) W b o
theorem famW_in {f : Nat → Nat} {o : Nat → AObj} (hf : ∀ i j, f i = f j → i = j) : ∀ {n : Nat} (h : AHeap) {i : Nat}, i < n → hputs h (famW f o n) (f i) = some (o i)
  | 0, _, _, hi => absurd hi (by omega)
  | n + 1, h, i, hi => by
    rw [famW_succ, hputs_snoc]
    by_cases e : i = n
    · subst e; exact hput_same _ _ _
    · rw [hput_ne _ _ (fun x => e (hf _ _ x))]
      exact famW_in hf h (by omega)
theorem famW_all (f : Nat → Nat) (o : Nat → AObj) (n : Nat) (p : Nat × AObj → Bool) (h : ∀ i, i < n → p (f i, o i) = true) : (famW f o n).all p = true := by
  rw [List.all_eq_true]
  intro x hx
  unfold famW at hx
  simp only [List.mem_map, List.mem_range] at hx
  obtain ⟨i, hi, rfl⟩ := hx
  exact h i hi
mutual
def CE.left : CE → Int → Int → Int
  | .mk _ _ _ _ _ kids, left, deep => bif decide (deep - 1 < 0) then -1 else CE.leftL kids (left - 1) (deep - 1)
def CE.leftL : List CE → Int → Int → Int
  | [], left, _ => left
  | e :: l, left, deep => bif decide (left ≥ 0) then CE.leftL l (e.left left deep) deep else left
end
def leftE (l : List CE) (left deep : Int) : Int := bif decide (deep < 0) then -1 else CE.leftL l left deep
mutual
def CS.left : CS → Int → Int → Int
  | .mk _ _ _ es thn els, left, deep => bif decide (deep - 1 < 0) then -1 else CS.leftL els (CS.leftL thn (CE.leftL es (left - 1) (deep - 1)) (deep - 1)) (deep - 1)
def CS.leftL : List CS → Int → Int → Int
  | [], left, _ => left
  | e :: l, left, deep => bif decide (left ≥ 0) then CS.leftL l (e.left left deep) deep else left
end
def leftS (l : List CS) (left deep : Int) : Int := bif decide (deep < 0) then -1 else CS.leftL l left deep
theorem CE.left_eq (e : CE) (left deep : Int) : e.left left deep = leftE e.kids (left - 1) (deep - 1) := by cases e; rw [CE.left]; rfl
theorem CS.left_eq (e : CS) (left deep : Int) : e.left left deep = leftS e.els (leftS e.thn (leftE e.es (left - 1) (deep - 1)) (deep - 1)) (deep - 1) := by
  cases e; rw [CS.left]; unfold leftS leftE
  cases decide (deep - 1 < 0) <;> rfl
def In1 (left r : Int) : Prop := -1 ≤ r ∧ r ≤ left
theorem leftL_in1 {l : List CE} (hI : ∀ e ∈ l, ∀ left deep, 0 ≤ left → In1 left (e.left left deep)) : ∀ (left deep : Int), -1 ≤ left → In1 left (CE.leftL l left deep) := by
  induction l with
  | nil => intro left deep h; rw [CE.leftL]; exact ⟨h, Int.le_refl _⟩
  | cons e l ih =>
    intro left deep h
    rw [CE.leftL]
    by_cases h0 : left ≥ 0
    · rw [decide_eq_true h0]
      have h1 := hI e (List.mem_cons.2 (.inl rfl)) left deep h0
      have h2 := ih (fun e he => hI e (List.mem_cons.2 (.inr he))) (e.left left deep) deep h1.1
      exact ⟨h2.1, Int.le_trans h2.2 h1.2⟩
    · rw [decide_eq_false h0]; exact ⟨h, Int.le_refl _⟩
theorem left_in1 : ∀ (m : Nat) (e : CE), e.parts ≤ m → ∀ left deep, 0 ≤ left → In1 left (e.left left deep)
  | 0, e, h => by cases e; rw [CE.parts] at h; omega
  | m + 1, .mk k o n s z kids, h => by
    intro left deep h0
    rw [CE.parts] at h
    rw [CE.left]
    by_cases hd : deep - 1 < 0
    · rw [decide_eq_true hd]; exact ⟨Int.le_refl _, by show (-1 : Int) ≤ left; omega⟩
    · rw [decide_eq_false hd]
      have := leftL_in1 (l := kids) (fun e he => left_in1 m e (by have := parts_mem he; omega)) (left - 1) (deep - 1) (by omega)
      exact ⟨this.1, by have := this.2; show CE.leftL _ _ _ ≤ left; omega⟩
theorem leftE_in1 (l : List CE) {left deep : Int} (h : -1 ≤ left) : In1 left (leftE l left deep) := by
  unfold leftE
  cases decide (deep < 0) with
  | true => exact ⟨Int.le_refl _, h⟩
  | false => exact leftL_in1 (fun e _ => left_in1 _ e (Nat.le_refl _)) left deep h
theorem leftSL_in1 {l : List CS} (hI : ∀ e ∈ l, ∀ left deep, 0 ≤ left → In1 left (e.left left deep)) : ∀ (left deep : Int), -1 ≤ left → In1 left (CS.leftL l left deep) := by
  induction l with
  | nil => intro left deep h; rw [CS.leftL]; exact ⟨h, Int.le_refl _⟩
  | cons e l ih =>
    intro left deep h
    rw [CS.leftL]
    by_cases h0 : left ≥ 0
    · rw [decide_eq_true h0]
      have h1 := hI e (List.mem_cons.2 (.inl rfl)) left deep h0
      have h2 := ih (fun e he => hI e (List.mem_cons.2 (.inr he))) (e.left left deep) deep h1.1
      exact ⟨h2.1, Int.le_trans h2.2 h1.2⟩
    · rw [decide_eq_false h0]; exact ⟨h, Int.le_refl _⟩
theorem sleft_in1 : ∀ (m : Nat) (e : CS), e.parts ≤ m → ∀ left deep, 0 ≤ left → In1 left (e.left left deep)
  | 0, e, h => by cases e; rw [CS.parts] at h; omega
  | m + 1, .mk k s z es thn els, h => by
    intro left deep h0
    rw [CS.parts] at h
    rw [CS.left]
    by_cases hd : deep - 1 < 0
    · rw [decide_eq_true hd]; exact ⟨Int.le_refl _, by show (-1 : Int) ≤ left; omega⟩
    · rw [decide_eq_false hd]
      have h1 := leftL_in1 (l := es) (fun e _ => left_in1 _ e (Nat.le_refl _)) (left - 1) (deep - 1) (by omega)
      have h2 := leftSL_in1 (l := thn) (fun e he => sleft_in1 m e (by have := sparts_mem he; omega)) _ (deep - 1) h1.1
      have h3 := leftSL_in1 (l := els) (fun e he => sleft_in1 m e (by have := sparts_mem he; omega)) _ (deep - 1) h2.1
      exact ⟨h3.1, by have a1 := h1.2; have a2 := h2.2; have a3 := h3.2; show CS.leftL _ _ _ ≤ left; omega⟩
theorem leftS_in1 (l : List CS) {left deep : Int} (h : -1 ≤ left) : In1 left (leftS l left deep) := by
  unfold leftS
  cases decide (deep < 0) with
  | true => exact ⟨Int.le_refl _, h⟩
  | false => exact leftSL_in1 (fun e _ => sleft_in1 _ e (Nat.le_refl _)) left deep h
theorem leftL_parts {l : List CE} (hI : ∀ e ∈ l, ∀ left deep, 0 ≤ left → 0 ≤ e.left left deep → (e.parts : Int) + e.left left deep ≤ left) : ∀ (left deep : Int), 0 ≤ CE.leftL l left deep → (CE.partsL l : Int) + CE.leftL l left deep ≤ left := by
  induction l with
  | nil => intro left deep h; rw [CE.leftL, CE.partsL]; omega
  | cons e l ih =>
    intro left deep h
    rw [CE.leftL] at h ⊢
    rw [CE.partsL]
    by_cases h0 : left ≥ 0
    · rw [decide_eq_true h0] at h ⊢
      simp only [cond_true] at h ⊢
      have h2 := ih (fun e he => hI e (List.mem_cons.2 (.inr he))) _ _ h
      have h1 := hI e (List.mem_cons.2 (.inl rfl)) left deep h0 (by omega)
      omega
    · rw [decide_eq_false h0] at h
      exact absurd h h0
theorem left_parts : ∀ (m : Nat) (e : CE), e.parts ≤ m → ∀ left deep, 0 ≤ left → 0 ≤ e.left left deep → (e.parts : Int) + e.left left deep ≤ left
  | 0, e, h => by cases e; rw [CE.parts] at h; omega
  | m + 1, .mk k o n s z kids, h => by
    intro left deep h0 h1
    rw [CE.parts] at h ⊢
    rw [CE.left] at h1 ⊢
    by_cases hd : deep - 1 < 0
    · rw [decide_eq_true hd, cond_true] at h1; omega
    · rw [decide_eq_false hd] at h1 ⊢
      simp only [cond_false] at h1 ⊢
      have := leftL_parts (l := kids) (fun e he => left_parts m e (by have := parts_mem he; omega)) (left - 1) (deep - 1) h1
      omega
theorem leftSL_parts {l : List CS} (hI : ∀ e ∈ l, ∀ left deep, 0 ≤ left → 0 ≤ e.left left deep → (e.parts : Int) + e.left left deep ≤ left) : ∀ (left deep : Int), 0 ≤ CS.leftL l left deep → (CS.partsL l : Int) + CS.leftL l left deep ≤ left := by
  induction l with
  | nil => intro left deep h; rw [CS.leftL, CS.partsL]; omega
  | cons e l ih =>
    intro left deep h
    rw [CS.leftL] at h ⊢
    rw [CS.partsL]
    by_cases h0 : left ≥ 0
    · rw [decide_eq_true h0] at h ⊢
      simp only [cond_true] at h ⊢
      have h2 := ih (fun e he => hI e (List.mem_cons.2 (.inr he))) _ _ h
      have h1 := hI e (List.mem_cons.2 (.inl rfl)) left deep h0 (by omega)
      omega
    · rw [decide_eq_false h0] at h
      exact absurd h h0
theorem sleft_parts : ∀ (m : Nat) (e : CS), e.parts ≤ m → ∀ left deep, 0 ≤ left → 0 ≤ e.left left deep → (e.parts : Int) + e.left left deep ≤ left
  | 0, e, h => by cases e; rw [CS.parts] at h; omega
  | m + 1, .mk k s z es thn els, h => by
    intro left deep h0 h1
    rw [CS.parts] at h ⊢
    rw [CS.left] at h1 ⊢
    by_cases hd : deep - 1 < 0
    · rw [decide_eq_true hd, cond_true] at h1; omega
    · rw [decide_eq_false hd] at h1 ⊢
      simp only [cond_false] at h1 ⊢
      have h3 := leftSL_parts (l := els) (fun e he => sleft_parts m e (by have := sparts_mem he; omega)) _ _ h1
      have h2 := leftSL_parts (l := thn) (fun e he => sleft_parts m e (by have := sparts_mem he; omega)) _ _ (show 0 ≤ CS.leftL thn (CE.leftL es (left - 1) (deep - 1)) (deep - 1) by omega)
      have h4 := leftL_parts (l := es) (fun e _ => left_parts _ e (Nat.le_refl _)) _ _ (show 0 ≤ CE.leftL es (left - 1) (deep - 1) by omega)
      omega
theorem leftS_parts {l : List CS} {left deep : Int} (h : 0 ≤ leftS l left deep) : (CS.partsL l : Int) + leftS l left deep ≤ left := by
  unfold leftS at h ⊢
  by_cases hd : deep < 0
  · rw [decide_eq_true hd, cond_true] at h; omega
  · rw [decide_eq_false hd] at h ⊢
    exact leftSL_parts (fun e _ => sleft_parts _ e (Nat.le_refl _)) _ _ h
def leftF (l : List CFn) (left : Int) : Int := l.foldl (fun a f => leftS f.body a 40) left
theorem leftF_snoc (l : List CFn) (f : CFn) (left : Int) : leftF (l ++ [f]) left = leftS f.body (leftF l left) 40 := by unfold leftF; rw [List.foldl_append]; rfl
theorem leftF_in1 : ∀ (l : List CFn) {left : Int}, -1 ≤ left → In1 left (leftF l left)
  | [], left, h => ⟨h, Int.le_refl _⟩
  | f :: l, left, h => by
    have h1 := leftS_in1 f.body (deep := 40) h
    have h2 := leftF_in1 l h1.1
    exact ⟨h2.1, Int.le_trans h2.2 h1.2⟩
theorem leftF_parts : ∀ (l : List CFn) {left : Int}, -1 ≤ left → 0 ≤ leftF l left → ((l.map fun f => CS.partsL f.body).sum : Int) + leftF l left ≤ left
  | [], left, h, h0 => by show (0 : Int) + left ≤ left; omega
  | f :: l, left, h, h0 => by
    have i1 := leftS_in1 f.body (deep := 40) h
    have h2 := leftF_parts l i1.1 h0
    have i2 := leftF_in1 l i1.1
    have h1 := leftS_parts (l := f.body) (left := left) (deep := 40) (by have := i2.2; have h0' : 0 ≤ leftF l (leftS f.body left 40) := h0; omega)
    have e : leftF (f :: l) left = leftF l (leftS f.body left 40) := rfl
    rw [e, List.map_cons, List.sum_cons]
    omega
def Core.few (C : Core) (most : Int) : Bool := decide (C.funcs.length ≤ 100) && decide (0 ≤ leftF C.funcs most)
def winC (C : Core) (a n : Int) : Bool := decide (0 ≤ a) && (decide (0 ≤ n) && (decide (a ≤ C.words) && decide (n ≤ C.words - a)))
def calleeC (C : Core) (f g args : Int) (word : Bool) : Bool := decide (0 ≤ g) && (decide (g < f) && (match C.funcs[g.toNat]? with
  | some h => h.word == word && h.params == args
  | none => false))
def CE.bare (e : CE) : Bool := (e.kind == 1 || e.num == 0) && ((e.kind == 6 || e.op == 0) && ((e.kind == 3 || e.size == 0) && (e.kind == 2 || (e.kind == 3 || (e.kind == 4 || e.slot == 0)))))
def CE.sort (C : Core) (f : Int) (e : CE) : Bool :=
  bif e.kind == 1 || e.kind == 5 then (e.kids.length : Int) == 0
  else bif e.kind == 2 then winC C e.slot 1 && (e.kids.length : Int) == 0
  else bif e.kind == 3 then decide (1 ≤ e.size) && (decide (e.size ≤ 4096) && (winC C e.slot e.size && (e.kids.length : Int) == 1))
  else bif e.kind == 4 then calleeC C f e.slot e.kids.length true
  else bif e.kind == 6 then decide (4 ≤ e.op) && (decide (e.op ≤ 15) && (e.kids.length : Int) == 2)
  else bif e.kind == 7 then (e.kids.length : Int) == 1
  else bif e.kind == 8 || e.kind == 9 then (e.kids.length : Int) == 2
  else false
mutual
def CE.right (C : Core) (f : Int) : CE → Int → Bool
  | .mk k o n s z kids, level => decide (level ≤ 24) && (CE.bare (.mk k o n s z kids) && (CE.sort C f (.mk k o n s z kids) && CE.rightL C f kids (level + 1)))
def CE.rightL (C : Core) (f : Int) : List CE → Int → Bool
  | [], _ => true
  | e :: l, level => e.right C f level && CE.rightL C f l level
end
def CS.bare (s : CS) : Bool := (s.kind == 2 || s.size == 0) && ((s.kind == 1 || (s.kind == 2 || (s.kind == 6 || s.slot == 0))) && ((s.kind == 4 || (s.els.length : Int) == 0) && (s.kind == 4 || (s.kind == 5 || (s.thn.length : Int) == 0))))
def CS.sort (C : Core) (f : Int) (w : Bool) (s : CS) : Bool :=
  bif s.kind == 1 then winC C s.slot 1 && (s.es.length : Int) == 1
  else bif s.kind == 2 then decide (1 ≤ s.size) && (decide (s.size ≤ 4096) && (winC C s.slot s.size && (s.es.length : Int) == 2))
  else bif s.kind == 3 || (s.kind == 4 || s.kind == 5) then (s.es.length : Int) == 1
  else bif s.kind == 6 then calleeC C f s.slot s.es.length false
  else bif s.kind == 7 then (s.es.length : Int) == 0 || ((s.es.length : Int) == 1 && w)
  else false
mutual
def CS.right (C : Core) (f : Int) (w : Bool) : CS → Int → Bool
  | .mk k s z es thn els, level => decide (level ≤ 24) && (CS.bare (.mk k s z es thn els) && (CS.sort C f w (.mk k s z es thn els) && (CE.rightL C f es (level + 1) && (CS.rightL C f w thn (level + 1) && CS.rightL C f w els (level + 1)))))
def CS.rightL (C : Core) (f : Int) (w : Bool) : List CS → Int → Bool
  | [], _ => true
  | e :: l, level => e.right C f w level && CS.rightL C f w l level
end
def CFn.fits (C : Core) (g : CFn) : Bool := decide (0 ≤ g.params) && (decide (g.params ≤ 6) && (decide (g.params ≤ g.slots) && winC C g.first g.slots))
def Core.right (C : Core) : Bool :=
  decide (0 ≤ C.words) && (decide (C.words ≤ 32768) && (decide (1 ≤ C.funcs.length) && (decide (C.funcs.length ≤ 64) && (C.funcs.all (fun g => g.fits C) && ((C.funcs.zipIdx.all fun p => CS.rightL C (p.2 : Int) p.1.word p.1.body 1) && (match C.funcs[C.funcs.length - 1]? with
    | some g => g.params == 0 && !g.word
    | none => false))))))
def Core.fair (C : Core) (most : Int) : Bool := C.few most && (decide (C.words ≤ 9000) && C.right)
def Core.little (C : Core) : Bool := C.fair 300 && decide (C.words ≤ 400)
theorem CE.right_eq (C : Core) (f : Int) (e : CE) (level : Int) : e.right C f level = (decide (level ≤ 24) && (e.bare && (e.sort C f && CE.rightL C f e.kids (level + 1)))) := by cases e; rw [CE.right]; rfl
theorem CS.right_eq (C : Core) (f : Int) (w : Bool) (e : CS) (level : Int) : e.right C f w level = (decide (level ≤ 24) && (e.bare && (e.sort C f w && (CE.rightL C f e.es (level + 1) && (CS.rightL C f w e.thn (level + 1) && CS.rightL C f w e.els (level + 1)))))) := by cases e; rw [CS.right]; rfl
theorem CE.rightL_all (C : Core) (f : Int) (level : Int) : ∀ l : List CE, CE.rightL C f l level = l.all fun e => e.right C f level
  | [] => by rw [CE.rightL]; rfl
  | e :: l => by rw [CE.rightL, CE.rightL_all C f level l]; rfl
theorem CS.rightL_all (C : Core) (f : Int) (w : Bool) (level : Int) : ∀ l : List CS, CS.rightL C f w l level = l.all fun e => e.right C f w level
  | [] => by rw [CS.rightL]; rfl
  | e :: l => by rw [CS.rightL, CS.rightL_all C f w level l]; rfl
section
variable {C : Core} {n : Nat}
theorem winC_iff {a z : Int} (h : winC C a z = true) : 0 ≤ a ∧ 0 ≤ z ∧ a + z ≤ C.words := by
  simp only [winC, Bool.and_eq_true, decide_eq_true_eq] at h
  omega
theorem calleeC_iff {f g args : Int} {w : Bool} (h : calleeC C f g args w = true) : 0 ≤ g ∧ g < f ∧ ∃ fn, C.funcs[g.toNat]? = some fn ∧ fn.word = w ∧ fn.params = args := by
  simp only [calleeC, Bool.and_eq_true, decide_eq_true_eq] at h
  obtain ⟨h1, h2, h3⟩ := h
  refine ⟨h1, h2, ?_⟩
  cases e : C.funcs[g.toNat]? with
  | none => rw [e] at h3; cases h3
  | some fn =>
    rw [e] at h3
    simp only [Bool.and_eq_true, beq_iff_eq] at h3
    exact ⟨fn, rfl, h3.1, h3.2⟩
theorem ok_list {P : CE → Prop} (hp : ∀ e, P e → e.ok C n) : ∀ {l : List CE}, (∀ e ∈ l, P e) → CE.okL C n l
  | [], _ => trivial
  | e :: l, h => ⟨hp e (h e (List.mem_cons.2 (.inl rfl))), ok_list hp fun e he => h e (List.mem_cons.2 (.inr he))⟩
theorem ok_listS {w : Bool} {P : CS → Prop} (hp : ∀ e, P e → e.ok C n w) : ∀ {l : List CS}, (∀ e ∈ l, P e) → CS.okL C n w l
  | [], _ => trivial
  | e :: l, h => ⟨hp e (h e (List.mem_cons.2 (.inl rfl))), ok_listS hp fun e he => h e (List.mem_cons.2 (.inr he))⟩
theorem right_ok_e (h6 : ∀ fn ∈ C.funcs, fn.params ≤ 6) : ∀ (m : Nat) (e : CE), e.parts ≤ m → e.Ok → ∀ level, e.right C n level = true → e.ok C n
  | 0, e, hm, _, _, _ => by cases e; rw [CE.parts] at hm; omega
  | m + 1, .mk k o num s z kids, hm, hok, level, h => by
    rw [CE.parts] at hm
    rw [CE.right_eq] at h
    simp only [Bool.and_eq_true, CE.rightL_all, List.all_eq_true] at h
    obtain ⟨_, hb, hs, hk⟩ := h
    cases hok with
    | mk i1 i2 i3 i4 i5 i6 i7 =>
    rw [CE.ok]
    refine ⟨ok_list (fun e he => he) fun e he => right_ok_e h6 m e (by have := parts_mem he; omega) (i7 e he) _ (hk e he), ?_⟩
    simp only [CE.sort, CE.kind, CE.op, CE.slot, CE.size, CE.kids] at hs
    by_cases k15 : k = 1 ∨ k = 5
    · rcases k15 with rfl | rfl
      · exact .inl ⟨rfl, i3⟩
      · exact .inr (.inr (.inr (.inr (.inl rfl))))
    have k1 : k ≠ 1 := fun e => k15 (.inl e)
    have k5 : k ≠ 5 := fun e => k15 (.inr e)
    by_cases k2 : k = 2
    · subst k2
      simp only [Bool.and_eq_true, cond_true, cond_false, beq_iff_eq, show ((2 : Int) == 1 || (2 : Int) == 5) = false from rfl, show ((2 : Int) == 2) = true from rfl] at hs
      have := winC_iff hs.1
      exact .inr (.inl ⟨rfl, this.1, by omega⟩)
    by_cases k3 : k = 3
    · subst k3
      simp only [Bool.and_eq_true, cond_true, cond_false, beq_iff_eq, decide_eq_true_eq, show ((3 : Int) == 1 || (3 : Int) == 5) = false from rfl, show ((3 : Int) == 2) = false from rfl, show ((3 : Int) == 3) = true from rfl] at hs
      have := winC_iff hs.2.2.1
      exact .inr (.inr (.inl ⟨rfl, by omega, of_decide_eq_true hs.1, of_decide_eq_true hs.2.1, this.1, this.2.2⟩))
    by_cases k4 : k = 4
    · subst k4
      simp only [cond_true, cond_false, show ((4 : Int) == 1 || (4 : Int) == 5) = false from rfl, show ((4 : Int) == 2) = false from rfl, show ((4 : Int) == 3) = false from rfl, show ((4 : Int) == 4) = true from rfl] at hs
      obtain ⟨a1, a2, fn, a3, a4, a5⟩ := calleeC_iff hs
      have := h6 fn (List.mem_of_getElem? a3)
      exact .inr (.inr (.inr (.inl ⟨rfl, a1, a2, fn, a3, a4, a5, by omega⟩)))
    by_cases k6 : k = 6
    · subst k6
      simp only [Bool.and_eq_true, cond_true, cond_false, beq_iff_eq, decide_eq_true_eq, show ((6 : Int) == 1 || (6 : Int) == 5) = false from rfl, show ((6 : Int) == 2) = false from rfl, show ((6 : Int) == 3) = false from rfl, show ((6 : Int) == 4) = false from rfl, show ((6 : Int) == 6) = true from rfl] at hs
      exact .inr (.inr (.inr (.inr (.inr (.inl ⟨rfl, by omega, of_decide_eq_true hs.1, of_decide_eq_true hs.2.1⟩)))))
    by_cases k7 : k = 7
    · subst k7
      simp only [cond_true, cond_false, beq_iff_eq, show ((7 : Int) == 1 || (7 : Int) == 5) = false from rfl, show ((7 : Int) == 2) = false from rfl, show ((7 : Int) == 3) = false from rfl, show ((7 : Int) == 4) = false from rfl, show ((7 : Int) == 6) = false from rfl, show ((7 : Int) == 7) = true from rfl] at hs
      exact .inr (.inr (.inr (.inr (.inr (.inr (.inl ⟨rfl, by omega⟩))))))
    by_cases k89 : k = 8 ∨ k = 9
    · rcases k89 with rfl | rfl
      · simp only [cond_true, cond_false, beq_iff_eq, show ((8 : Int) == 1 || (8 : Int) == 5) = false from rfl, show ((8 : Int) == 2) = false from rfl, show ((8 : Int) == 3) = false from rfl, show ((8 : Int) == 4) = false from rfl, show ((8 : Int) == 6) = false from rfl, show ((8 : Int) == 7) = false from rfl, show ((8 : Int) == 8 || (8 : Int) == 9) = true from rfl] at hs
        exact .inr (.inr (.inr (.inr (.inr (.inr (.inr (.inl ⟨rfl, by omega⟩)))))))
      · simp only [cond_true, cond_false, beq_iff_eq, show ((9 : Int) == 1 || (9 : Int) == 5) = false from rfl, show ((9 : Int) == 2) = false from rfl, show ((9 : Int) == 3) = false from rfl, show ((9 : Int) == 4) = false from rfl, show ((9 : Int) == 6) = false from rfl, show ((9 : Int) == 7) = false from rfl, show ((9 : Int) == 8 || (9 : Int) == 9) = true from rfl] at hs
        exact .inr (.inr (.inr (.inr (.inr (.inr (.inr (.inr ⟨rfl, by omega⟩)))))))
    · exfalso
      have k8 : k ≠ 8 := fun e => k89 (.inl e)
      have k9 : k ≠ 9 := fun e => k89 (.inr e)
      simp [k1, k2, k3, k4, k5, k6, k7, k8, k9] at hs
theorem right_okL (h6 : ∀ fn ∈ C.funcs, fn.params ≤ 6) {l : List CE} (hl : ∀ e ∈ l, e.Ok) {level : Int} (h : CE.rightL C n l level = true) : CE.okL C n l := by
  rw [CE.rightL_all, List.all_eq_true] at h
  exact ok_list (fun e he => he) fun e he => right_ok_e h6 _ e (Nat.le_refl _) (hl e he) level (h e he)
theorem right_ok_s (h6 : ∀ fn ∈ C.funcs, fn.params ≤ 6) {w : Bool} : ∀ (m : Nat) (e : CS), e.parts ≤ m → e.Ok → ∀ level, e.right C n w level = true → e.ok C n w
  | 0, e, hm, _, _, _ => by cases e; rw [CS.parts] at hm; omega
  | m + 1, .mk k s z es thn els, hm, hok, level, h => by
    rw [CS.parts] at hm
    rw [CS.right_eq] at h
    simp only [Bool.and_eq_true] at h
    obtain ⟨_, hb, hs, hE, hT, hL⟩ := h
    rw [CS.rightL_all, List.all_eq_true] at hT hL
    cases hok with
    | mk i1 i2 i3 i4 i5 i6 i7 i8 i9 =>
    rw [CS.ok]
    refine ⟨right_okL h6 i5 hE, ok_listS (fun e he => he) fun e he => right_ok_s h6 m e (by have h2 := sparts_mem he; have h3 : CS.partsL thn + 1 ≤ m + 1 := (by omega); omega) (i7 e he) _ (hT e he), ok_listS (fun e he => he) fun e he => right_ok_s h6 m e (by have h2 := sparts_mem he; have h3 : CS.partsL els + 1 ≤ m + 1 := (by omega); omega) (i9 e he) _ (hL e he), ?_⟩
    simp only [CS.sort, CS.kind, CS.slot, CS.size, CS.es] at hs
    by_cases k1 : k = 1
    · subst k1
      simp only [Bool.and_eq_true, cond_true, beq_iff_eq, show ((1 : Int) == 1) = true from rfl] at hs
      have := winC_iff hs.1
      exact .inl ⟨rfl, by omega, this.1, by omega⟩
    by_cases k2 : k = 2
    · subst k2
      simp only [Bool.and_eq_true, cond_true, cond_false, beq_iff_eq, decide_eq_true_eq, show ((2 : Int) == 1) = false from rfl, show ((2 : Int) == 2) = true from rfl] at hs
      have := winC_iff hs.2.2.1
      exact .inr (.inl ⟨rfl, by omega, of_decide_eq_true hs.1, of_decide_eq_true hs.2.1, this.1, this.2.2⟩)
    by_cases k3 : k = 3
    · subst k3
      simp only [cond_true, cond_false, beq_iff_eq, show ((3 : Int) == 1) = false from rfl, show ((3 : Int) == 2) = false from rfl, show ((3 : Int) == 3 || ((3 : Int) == 4 || (3 : Int) == 5)) = true from rfl] at hs
      exact .inr (.inr (.inl ⟨rfl, by omega⟩))
    by_cases k4 : k = 4
    · subst k4
      simp only [cond_true, cond_false, beq_iff_eq, show ((4 : Int) == 1) = false from rfl, show ((4 : Int) == 2) = false from rfl, show ((4 : Int) == 3 || ((4 : Int) == 4 || (4 : Int) == 5)) = true from rfl] at hs
      exact .inr (.inr (.inr (.inl ⟨rfl, by omega⟩)))
    by_cases k5 : k = 5
    · subst k5
      simp only [cond_true, cond_false, beq_iff_eq, show ((5 : Int) == 1) = false from rfl, show ((5 : Int) == 2) = false from rfl, show ((5 : Int) == 3 || ((5 : Int) == 4 || (5 : Int) == 5)) = true from rfl] at hs
      exact .inr (.inr (.inr (.inr (.inl ⟨rfl, by omega⟩))))
    by_cases k6 : k = 6
    · subst k6
      simp only [cond_true, cond_false, show ((6 : Int) == 1) = false from rfl, show ((6 : Int) == 2) = false from rfl, show ((6 : Int) == 3 || ((6 : Int) == 4 || (6 : Int) == 5)) = false from rfl, show ((6 : Int) == 6) = true from rfl] at hs
      obtain ⟨a1, a2, fn, a3, a4, a5⟩ := calleeC_iff hs
      have := h6 fn (List.mem_of_getElem? a3)
      exact .inr (.inr (.inr (.inr (.inr (.inl ⟨rfl, a1, a2, fn, a3, a4, a5, by omega⟩)))))
    by_cases k7 : k = 7
    · subst k7
      simp only [Bool.and_eq_true, Bool.or_eq_true, cond_true, cond_false, beq_iff_eq, show ((7 : Int) == 1) = false from rfl, show ((7 : Int) == 2) = false from rfl, show ((7 : Int) == 3 || ((7 : Int) == 4 || (7 : Int) == 5)) = false from rfl, show ((7 : Int) == 6) = false from rfl, show ((7 : Int) == 7) = true from rfl] at hs
      refine .inr (.inr (.inr (.inr (.inr (.inr ⟨rfl, ?_⟩)))))
      rcases hs with e | ⟨e, hw⟩
      · exact .inl (List.length_eq_zero_iff.1 (by omega))
      · exact .inr ⟨by omega, hw⟩
    · exfalso
      simp [k1, k2, k3, k4, k5, k6, k7] at hs
theorem right_okSL (h6 : ∀ fn ∈ C.funcs, fn.params ≤ 6) {w : Bool} {l : List CS} (hl : ∀ e ∈ l, e.Ok) {level : Int} (h : CS.rightL C n w l level = true) : CS.okL C n w l := by
  rw [CS.rightL_all, List.all_eq_true] at h
  exact ok_listS (fun e he => he) fun e he => right_ok_s h6 _ e (Nat.le_refl _) (hl e he) level (h e he)
end
structure CoreR (C : Core) : Prop where
  w0 : 0 ≤ C.words
  w1 : C.words ≤ 32768
  n0 : 1 ≤ C.funcs.length
  n1 : C.funcs.length ≤ 64
  fn : ∀ g ∈ C.funcs, 0 ≤ g.params ∧ g.params ≤ 6 ∧ g.params ≤ g.slots ∧ 0 ≤ g.first ∧ g.first + g.slots ≤ C.words
  body : ∀ (i : Nat) g, C.funcs[i]? = some g → CS.rightL C (i : Int) g.word g.body 1 = true
  last : ∀ g, C.funcs[C.funcs.length - 1]? = some g → g.params = 0 ∧ g.word = false
theorem right_core {C : Core} (h : C.right = true) : CoreR C := by
  simp only [Core.right, Bool.and_eq_true, decide_eq_true_eq, List.all_eq_true] at h
  obtain ⟨h1, h2, h3, h4, h5, h6, h7⟩ := h
  refine ⟨h1, h2, h3, h4, fun g hg => ?_, fun i g hg => h6 (g, i) (List.mem_of_getElem? (zipIdx_get hg)), fun g hg => ?_⟩
  · have := h5 g hg
    simp only [CFn.fits, Bool.and_eq_true, decide_eq_true_eq] at this
    obtain ⟨a1, a2, a3, a4⟩ := this
    have := winC_iff a4
    exact ⟨a1, a2, a3, this.1, this.2.2⟩
  · rw [hg] at h7
    simp only [Bool.and_eq_true, beq_iff_eq, Bool.not_eq_true'] at h7
    exact h7
theorem core_ok {C : Core} (hC : C.Ok) (h : C.right = true) : CoreOk C := by
  have hr := right_core h
  have h6 : ∀ fn ∈ C.funcs, fn.params ≤ 6 := fun fn hfn => (hr.fn fn hfn).2.1
  refine ⟨hr.w0, fun e => ?_, fun i fn hfn => ?_, fun fn hfn => ⟨(hr.last fn hfn).2, (hr.last fn hfn).1⟩⟩
  · have := hr.n0; rw [e] at this; simp at this
  · have hm := List.mem_of_getElem? hfn
    obtain ⟨a1, a2, a3, a4, a5⟩ := hr.fn fn hm
    exact ⟨a1, a2, a3, a4, a5, right_okSL h6 (hC.funcs fn hm).body (hr.body i fn hfn)⟩
theorem few_parts {C : Core} {most : Int} (h0 : -1 ≤ most) (h : C.few most = true) : (C.parts : Int) ≤ most := by
  simp only [Core.few, Bool.and_eq_true, decide_eq_true_eq] at h
  have := leftF_parts C.funcs h0 h.2
  unfold Core.parts
  omega
theorem parts_body {C : Core} {fn : CFn} (h : fn ∈ C.funcs) : CS.partsL fn.body ≤ C.parts := le_sum (p := fun f : CFn => CS.partsL f.body) h
theorem fair_fit {C : Core} (hC : C.Ok) {most : Int} (h0 : -1 ≤ most) (h1 : most ≤ 3000) (h : C.fair most = true) : CoreFit C := by
  simp only [Core.fair, Bool.and_eq_true, decide_eq_true_eq] at h
  refine ⟨core_ok hC h.2.2, by have := h.2.1; omega, fun fn hfn st hst => ?_⟩
  have a1 := few_parts h0 h.1
  have a2 := parts_body hfn
  have a3 := sparts_mem hst
  omega
structure CM.good (W : Nat) (c : CM) : Prop where
  m : c.m.good W
  val : isW c.val
def CallGood (W : Nat) (call : CallC) : Prop := ∀ f args c, CM.good W c → allR args → (call f args c).2.good W ∧ isW (call f args c).1
theorem CM.good.fin {W : Nat} {c : CM} (h : c.good W) (n : Int) : (c.put { c.m with fin := n }).good W := ⟨⟨h.m.len, h.m.words, h.m.out⟩, h.val⟩
theorem CM.good.set {W : Nat} {c : CM} (h : c.good W) (z : Int) {v : Int} (hv : isW v) : (c.put { c.m with words := rset c.m.words z v }).good W := ⟨⟨by show (rset c.m.words z v).length = W; rw [rset_length]; exact h.m.len, rset_w h.m.words z hv, h.m.out⟩, h.val⟩
theorem isW_one : isW 1 := ⟨by decide, by decide⟩
theorem zf_w (b : Bool) : isW (zf b) := by cases b; exact isW_zero; exact isW_one
section
variable {W : Nat} {call : CallC} {s : ByteArray}
def EvGood (W : Nat) (call : CallC) (s : ByteArray) (e : CE) : Prop := ∀ c, CM.good W c → (e.ev call s c).2.good W ∧ isW (e.ev call s c).1
theorem evI_good {sl z : Int} {l : List CE} (hI : ∀ e ∈ l, EvGood W call s e) {c : CM} (hc : c.good W) : (CE.evI call s sl z l c).2.good W ∧ isW (CE.evI call s sl z l c).1 := by
  cases l with
  | nil => rw [CE.evI]; exact ⟨hc, isW_zero⟩
  | cons e l =>
    rw [CE.evI]
    have h := hI e (List.mem_cons.2 (.inl rfl)) c hc
    generalize e.ev call s c = p at h ⊢
    obtain ⟨i, c1⟩ := p
    dsimp only at h ⊢
    cases c1.fin == 0 with
    | false => exact ⟨h.1, isW_zero⟩
    | true =>
      cases decide (i ≥ z) with
      | true => exact ⟨h.1.fin 3, isW_zero⟩
      | false => exact ⟨h.1, rget_w h.1.m.words _⟩
theorem evC_good (hcall : CallGood W call) {f : Int} : ∀ {l : List CE}, (∀ e ∈ l, EvGood W call s e) → ∀ (args : List Int) {c : CM}, allR args → c.good W → (CE.evC call s f l args c).2.good W ∧ isW (CE.evC call s f l args c).1
  | [], _, args, c, ha, hc => by rw [CE.evC]; exact hcall _ _ _ hc ha
  | e :: l, hI, args, c, ha, hc => by
    rw [CE.evC]
    have h := hI e (List.mem_cons.2 (.inl rfl)) c hc
    generalize e.ev call s c = p at h ⊢
    obtain ⟨x, c1⟩ := p
    dsimp only at h ⊢
    cases c1.fin == 0 with
    | false => exact ⟨h.1, isW_zero⟩
    | true => exact evC_good hcall (fun e he => hI e (List.mem_cons.2 (.inr he))) _ (fun v hv => by
        rcases List.mem_append.1 hv with hv | hv
        · exact ha v hv
        · rw [List.mem_singleton.1 hv]; exact h.2) h.1
theorem evR_good {k o : Int} {l : List CE} (hI : ∀ e ∈ l, EvGood W call s e) {x : Int} (hx : isW x) {c : CM} (hc : c.good W) : (CE.evR call s k o l x c).2.good W ∧ isW (CE.evR call s k o l x c).1 := by
  cases l with
  | nil => rw [CE.evR]; exact ⟨hc, isW_zero⟩
  | cons e l =>
    rw [CE.evR]
    have h := hI e (List.mem_cons.2 (.inl rfl)) c hc
    generalize e.ev call s c = p at h ⊢
    obtain ⟨y, c1⟩ := p
    dsimp only at h ⊢
    cases (k == 8 || k == 9) with
    | true => exact ⟨h.1, zf_w _⟩
    | false =>
      cases c1.fin == 0 with
      | false => exact ⟨h.1, isW_zero⟩
      | true =>
        cases (wapp o x y).2 == 0 with
        | true => exact ⟨h.1, wapp_word hx h.2⟩
        | false => exact ⟨h.1.fin 2, wapp_word hx h.2⟩
theorem evK_good {k o : Int} {l : List CE} (hI : ∀ e ∈ l, EvGood W call s e) {c : CM} (hc : c.good W) : (CE.evK call s k o l c).2.good W ∧ isW (CE.evK call s k o l c).1 := by
  cases l with
  | nil => rw [CE.evK]; exact ⟨hc, isW_zero⟩
  | cons e l =>
    rw [CE.evK]
    have h := hI e (List.mem_cons.2 (.inl rfl)) c hc
    generalize e.ev call s c = p at h ⊢
    obtain ⟨x, c1⟩ := p
    dsimp only at h ⊢
    cases c1.fin == 0 with
    | false => exact ⟨h.1, isW_zero⟩
    | true =>
      cases k == 7 with
      | true => exact ⟨h.1, zf_w _⟩
      | false =>
        cases (k == 8 && x == 0) with
        | true => exact ⟨h.1, isW_zero⟩
        | false =>
          cases (k == 9 && !(x == 0)) with
          | true => exact ⟨h.1, isW_one⟩
          | false => exact evR_good (fun e he => hI e (List.mem_cons.2 (.inr he))) h.2 h.1
theorem ev_good (hcall : CallGood W call) : ∀ (m : Nat) (e : CE), e.parts ≤ m → e.Ok → EvGood W call s e
  | 0, e, hm, _ => by cases e; rw [CE.parts] at hm; omega
  | m + 1, .mk k o n sl z kids, hm, hok => by
    rw [CE.parts] at hm
    cases hok with
    | mk i1 i2 i3 i4 i5 i6 i7 =>
    have hI : ∀ e ∈ kids, EvGood W call s e := fun e he => ev_good hcall m e (by have := parts_mem he; omega) (i7 e he)
    intro c hc
    rw [CE.ev]
    by_cases k1 : k = 1
    · rw [if_pos k1]; exact ⟨hc, i3⟩
    rw [if_neg k1]
    by_cases k2 : k = 2
    · rw [if_pos k2]; exact ⟨hc, rget_w hc.m.words _⟩
    rw [if_neg k2]
    by_cases k3 : k = 3
    · rw [if_pos k3]; exact evI_good hI hc
    rw [if_neg k3]
    by_cases k4 : k = 4
    · rw [if_pos k4]; exact evC_good hcall hI [] (fun v hv => by cases hv) hc
    rw [if_neg k4]
    by_cases k5 : k = 5
    · rw [if_pos k5]
      cases decide (c.m.read < s.size) with
      | true => exact ⟨⟨⟨hc.m.len, hc.m.words, hc.m.out⟩, hc.val⟩, byte_w _⟩
      | false => exact ⟨hc, show isW 256 from ⟨by decide, by decide⟩⟩
    rw [if_neg k5]
    exact evK_good hI hc
theorem evH_good (hcall : CallGood W call) {l : List CE} (hl : ∀ e ∈ l, e.Ok) {c : CM} (hc : c.good W) : (CE.evH call s l c).2.good W ∧ isW (CE.evH call s l c).1 := by
  cases l with
  | nil => exact ⟨hc, isW_zero⟩
  | cons e l => exact ev_good hcall e.parts e (Nat.le_refl _) (hl e (List.mem_cons.2 (.inl rfl))) c hc
theorem tickC_good {fuel : Int} {c : CM} (hc : c.good W) : (tickC fuel c).2.good W := ⟨mstep_good hc.m, hc.val⟩
theorem whileC_good {fuel : Int} {cond : CM → Int × CM} {body : CM → CM} (h1 : ∀ c, CM.good W c → (cond c).2.good W) (h2 : ∀ c, CM.good W c → (body c).good W) : ∀ (g : Nat) {c : CM}, c.good W → (whileC fuel cond body g c).good W
  | 0, c, hc => hc.fin 5
  | g + 1, c, hc => by
    rw [whileC]
    cases (c.fin == 0 && !c.over) with
    | false => exact hc
    | true =>
      cases (tickC fuel c).1 with
      | false => exact tickC_good hc
      | true =>
        have h := h1 _ (tickC_good (fuel := fuel) hc)
        simp only [cond_true]
        generalize cond (tickC fuel c).2 = p at h ⊢
        obtain ⟨x, c1⟩ := p
        dsimp only at h ⊢
        cases (c1.fin == 0 && !(x == 0)) with
        | false => exact h
        | true => exact whileC_good h1 h2 g (h2 _ h)
def RunGood (W : Nat) (call : CallC) (s : ByteArray) (fuel : Int) (st : CS) : Prop := ∀ c, CM.good W c → (st.run call s fuel c).good W
theorem runL_good {fuel : Int} : ∀ {l : List CS}, (∀ st ∈ l, RunGood W call s fuel st) → ∀ {c : CM}, c.good W → (CS.runL call s fuel l c).good W
  | [], _, c, hc => by rw [CS.runL]; exact hc
  | st :: l, hI, c, hc => by
    rw [CS.runL]
    cases (c.fin == 0 && !c.over) with
    | false => exact hc
    | true => exact runL_good (fun e he => hI e (List.mem_cons.2 (.inr he))) (hI st (List.mem_cons.2 (.inl rfl)) c hc)
theorem run_good (hcall : CallGood W call) {fuel : Int} : ∀ (m : Nat) (st : CS), st.parts ≤ m → st.Ok → RunGood W call s fuel st
  | 0, st, hm, _ => by cases st; rw [CS.parts] at hm; omega
  | m + 1, .mk k sl z es thn els, hm, hok => by
    rw [CS.parts] at hm
    cases hok with
    | mk i1 i2 i3 i4 i5 i6 i7 i8 i9 =>
    have hT : ∀ e ∈ thn, RunGood W call s fuel e := fun e he => run_good hcall m e z32q (i7 e he)
    have hL : ∀ e ∈ els, RunGood W call s fuel e := fun e he => run_good hcall m e z33q (i9 e he)
    intro c hc
    rw [CS.run]
    by_cases k6 : k = 6
    · rw [if_pos k6]; exact (evC_good hcall (fun e he => ev_good hcall e.parts e (Nat.le_refl _) (i5 e he)) [] (fun v hv => by cases hv) hc).1
    rw [if_neg k6]
    by_cases k5 : k = 5
    · rw [if_pos k5]; exact whileC_good (fun c hc => (evH_good hcall i5 hc).1) (fun c hc => runL_good hT hc) _ hc
    rw [if_neg k5]
    have h := evH_good (s := s) hcall i5 hc
    generalize CE.evH call s es c = p at h ⊢
    obtain ⟨x, c1⟩ := p
    dsimp only at h ⊢
    cases c1.fin == 0 with
    | false => exact h.1
    | true =>
      simp only [cond_true]
      by_cases k7 : k = 7
      · rw [if_pos k7]; exact ⟨h.1.m, h.2⟩
      rw [if_neg k7]
      by_cases k1 : k = 1
      · rw [if_pos k1]; exact h.1.set _ h.2
      rw [if_neg k1]
      by_cases k2 : k = 2
      · rw [if_pos k2]
        have h3 := evH_good (s := s) hcall (l := es.drop 1) (fun e he => i5 e (List.mem_of_mem_drop he)) h.1
        generalize CE.evH call s (es.drop 1) c1 = q at h3 ⊢
        obtain ⟨y, c2⟩ := q
        dsimp only at h3 ⊢
        cases c2.fin == 0 with
        | false => exact h3.1
        | true =>
          cases decide (x ≥ z) with
          | true => exact h3.1.fin 3
          | false => exact h3.1.set _ h3.2
      rw [if_neg k2]
      by_cases k3 : k = 3
      · rw [if_pos k3]
        by_cases ho : c1.m.out.length ≥ 65536
        · rw [decide_eq_true ho]; exact h.1.fin 4
        · rw [decide_eq_false ho]
          exact ⟨⟨h.1.m.len, h.1.m.words, by show (c1.m.out ++ [byteOf x]).length ≤ 65536; rw [List.length_append]; simp; omega⟩, h.1.val⟩
      rw [if_neg k3]
      cases x == 0 with
      | true => exact runL_good hL h.1
      | false => exact runL_good hT h.1
end
theorem cfun_good {C : Core} (hC : C.Ok) {s : ByteArray} {fuel : Int} {W : Nat} : ∀ n, CallGood W (cfun C s fuel n)
  | 0 => fun f args c hc ha => by rw [cfun]; exact ⟨hc, isW_zero⟩
  | n + 1 => fun f args c hc ha => by
    rw [cfun]
    cases (tickC fuel c).1 with
    | false => exact ⟨tickC_good hc, isW_zero⟩
    | true =>
      simp only [cond_true]
      cases e : C.funcs[f.toNat]? with
      | none => exact ⟨hc, isW_zero⟩
      | some g =>
        have hg := hC.funcs g (List.mem_of_getElem? e)
        have ht := tickC_good (fuel := fuel) hc
        dsimp only
        have h := runL_good (W := W) (call := cfun C s fuel n) (s := s) (fuel := fuel) (l := g.body) (fun st hs => run_good (cfun_good hC n) st.parts st (Nat.le_refl _) (hg.body st hs)) (c := (tickC fuel c).2.put { (tickC fuel c).2.m with words := argsW (zeroW c.m.words g.first g.slots.toNat) g.first args args.length })
          ⟨⟨by show (argsW (zeroW c.m.words g.first g.slots.toNat) g.first args args.length).length = W; rw [argsW_len, zeroW_len]; exact hc.m.len, argsW_w (zeroW_w hc.m.words _ _) _ ha _, ht.m.out⟩, ht.val⟩
        generalize CS.runL (cfun C s fuel n) s fuel g.body _ = c1 at h ⊢
        cases c1.over with
        | true => exact ⟨⟨h.m, h.val⟩, h.val⟩
        | false => exact ⟨h, isW_zero⟩
mutual
def CE.loops : CE → Nat
  | .mk k _ _ _ _ kids => (if k = 4 then 1 else 0) + CE.loopsL kids
def CE.loopsL : List CE → Nat
  | [] => 0
  | e :: l => e.loops + CE.loopsL l
end
mutual
def CE.gets : CE → Nat
  | .mk k _ _ _ _ kids => (if k = 5 then 1 else 0) + CE.getsL kids
def CE.getsL : List CE → Nat
  | [] => 0
  | e :: l => e.gets + CE.getsL l
end
mutual
def CS.loops : CS → Nat
  | .mk k _ _ es thn els => (if k = 5 ∨ k = 6 then 1 else 0) + CE.loopsL es + CS.loopsL thn + CS.loopsL els
def CS.loopsL : List CS → Nat
  | [] => 0
  | e :: l => e.loops + CS.loopsL l
end
mutual
def CS.gets : CS → Nat
  | .mk k _ _ es thn els => CE.getsL es + CS.getsL thn + CS.getsL els
def CS.getsL : List CS → Nat
  | [] => 0
  | e :: l => e.gets + CS.getsL l
end
def Agree (s s' : ByteArray) (p : Nat) : Prop := ∀ i, i < p → decide (i < s.size) = decide (i < s'.size) ∧ inAt s i = inAt s' i
structure Quiet (g p : Nat) (c c1 : CM) : Prop where
  steps : c1.m.steps = c.m.steps
  fin : c.fin ≠ 5 → c1.fin ≠ 5
  le : c.m.read ≤ c1.m.read
  read : c1.m.read ≤ c.m.read + g
theorem Quiet.refl (g p : Nat) (c : CM) : Quiet g p c c := ⟨rfl, id, Nat.le_refl _, Nat.le_add_right _ _⟩
theorem Quiet.trans {g1 g2 g p : Nat} {c c1 c2 : CM} (h1 : Quiet g1 p c c1) (h2 : Quiet g2 p c1 c2) (h : g1 + g2 ≤ g) : Quiet g p c c2 := ⟨h2.steps.trans h1.steps, fun h => h2.fin (h1.fin h), Nat.le_trans h1.le h2.le, by have := h1.read; have := h2.read; omega⟩
theorem Quiet.more {g g' p : Nat} {c c1 : CM} (h : Quiet g p c c1) (hg : g ≤ g') : Quiet g' p c c1 := ⟨h.steps, h.fin, h.le, by have := h.read; omega⟩
theorem Quiet.put {g p : Nat} {c c1 : CM} (h : Quiet g p c c1) {m : Mach} (h1 : m.steps = c1.m.steps) (h2 : m.read = c1.m.read) (h3 : c1.fin ≠ 5 → m.fin ≠ 5) : Quiet g p c (c1.put m) := ⟨h1.trans h.steps, fun h0 => h3 (h.fin h0), by show c.m.read ≤ m.read; rw [h2]; exact h.le, by show m.read ≤ _; rw [h2]; exact h.read⟩
section
variable {call call' : CallC} {s s' : ByteArray} {p : Nat}
def QE (call call' : CallC) (s s' : ByteArray) (p : Nat) (e : CE) : Prop := ∀ c, c.m.read + e.gets ≤ p → e.ev call' s' c = e.ev call s c ∧ Quiet e.gets p c (e.ev call s c).2
theorem qI {sl z : Int} {l : List CE} (hI : ∀ e ∈ l, QE call call' s s' p e) {c : CM} (hc : c.m.read + CE.getsL l ≤ p) : CE.evI call' s' sl z l c = CE.evI call s sl z l c ∧ Quiet (CE.getsL l) p c (CE.evI call s sl z l c).2 := by
  cases l with
  | nil => rw [CE.evI, CE.evI]; exact ⟨rfl, Quiet.refl _ _ _⟩
  | cons e l =>
    rw [CE.getsL] at hc ⊢
    have h := hI e (List.mem_cons.2 (.inl rfl)) c (by omega)
    rw [CE.evI, CE.evI, h.1]
    refine ⟨rfl, ?_⟩
    have h2 := h.2.more (Nat.le_add_right e.gets (CE.getsL l))
    generalize e.ev call s c = q at h2 ⊢
    obtain ⟨i, c1⟩ := q
    dsimp only at h2 ⊢
    cases c1.fin == 0 with
    | false => exact h2
    | true =>
      cases decide (i ≥ z) with
      | true => exact h2.put rfl rfl fun _ => (by decide : (3 : Int) ≠ 5)
      | false => exact h2
theorem qR {k o x : Int} {l : List CE} (hI : ∀ e ∈ l, QE call call' s s' p e) {c : CM} (hc : c.m.read + CE.getsL l ≤ p) : CE.evR call' s' k o l x c = CE.evR call s k o l x c ∧ Quiet (CE.getsL l) p c (CE.evR call s k o l x c).2 := by
  cases l with
  | nil => rw [CE.evR, CE.evR]; exact ⟨rfl, Quiet.refl _ _ _⟩
  | cons e l =>
    rw [CE.getsL] at hc ⊢
    have h := hI e (List.mem_cons.2 (.inl rfl)) c (by omega)
    rw [CE.evR, CE.evR, h.1]
    refine ⟨rfl, ?_⟩
    have h2 := h.2.more (Nat.le_add_right e.gets (CE.getsL l))
    generalize e.ev call s c = q at h2 ⊢
    obtain ⟨y, c1⟩ := q
    dsimp only at h2 ⊢
    cases (k == 8 || k == 9) with
    | true => exact h2
    | false =>
      cases c1.fin == 0 with
      | false => exact h2
      | true =>
        cases (wapp o x y).2 == 0 with
        | true => exact h2
        | false => exact h2.put rfl rfl fun _ => (by decide : (2 : Int) ≠ 5)
theorem qK {k o : Int} {l : List CE} (hI : ∀ e ∈ l, QE call call' s s' p e) {c : CM} (hc : c.m.read + CE.getsL l ≤ p) : CE.evK call' s' k o l c = CE.evK call s k o l c ∧ Quiet (CE.getsL l) p c (CE.evK call s k o l c).2 := by
  cases l with
  | nil => rw [CE.evK, CE.evK]; exact ⟨rfl, Quiet.refl _ _ _⟩
  | cons e l =>
    rw [CE.getsL] at hc ⊢
    have h := hI e (List.mem_cons.2 (.inl rfl)) c (by omega)
    rw [CE.evK, CE.evK, h.1]
    have h2 := h.2
    have h3 := h2.more (Nat.le_add_right e.gets (CE.getsL l))
    generalize e.ev call s c = q at h2 h3 ⊢
    obtain ⟨x, c1⟩ := q
    dsimp only at h2 h3 ⊢
    have hR := qR (k := k) (o := o) (x := x) (c := c1) (fun e he => hI e (List.mem_cons.2 (.inr he))) (by have := h2.read; omega)
    rw [hR.1]
    refine ⟨rfl, ?_⟩
    cases c1.fin == 0 with
    | false => exact h3
    | true =>
      cases k == 7 with
      | true => exact h3
      | false =>
        cases (k == 8 && x == 0) with
        | true => exact h3
        | false =>
          cases (k == 9 && !(x == 0)) with
          | true => exact h3
          | false => exact h2.trans hR.2 (Nat.le_refl _)
theorem gets_mem {e : CE} : ∀ {l : List CE}, e ∈ l → e.loops ≤ CE.loopsL l
  | x :: l, h => by
    rw [CE.loopsL]
    rcases List.mem_cons.1 h with rfl | h
    · omega
    · have := gets_mem h; omega
theorem sloops_mem {e : CS} : ∀ {l : List CS}, e ∈ l → e.loops ≤ CS.loopsL l
  | x :: l, h => by
    rw [CS.loopsL]
    rcases List.mem_cons.1 h with rfl | h
    · omega
    · have := sloops_mem h; omega
theorem qE (hA : Agree s s' p) : ∀ (m : Nat) (e : CE), e.parts ≤ m → e.loops = 0 → QE call call' s s' p e
  | 0, e, hm, _ => by cases e; rw [CE.parts] at hm; omega
  | m + 1, .mk k o n sl z kids, hm, h0 => by
    rw [CE.parts] at hm
    rw [CE.loops] at h0
    have hI : ∀ e ∈ kids, QE call call' s s' p e := fun e he => qE hA m e (by have := parts_mem he; omega) (by have := gets_mem he; omega)
    intro c hc
    rw [CE.gets] at hc ⊢
    rw [CE.ev, CE.ev]
    by_cases k1 : k = 1
    · rw [if_pos k1, if_pos k1]; exact ⟨rfl, Quiet.refl _ _ _⟩
    rw [if_neg k1, if_neg k1]
    by_cases k2 : k = 2
    · rw [if_pos k2, if_pos k2]; exact ⟨rfl, Quiet.refl _ _ _⟩
    rw [if_neg k2, if_neg k2]
    by_cases k3 : k = 3
    · rw [if_pos k3, if_pos k3]
      have h := qI (sl := sl) (z := z) hI (c := c) (by omega)
      exact ⟨h.1, h.2.more (Nat.le_add_left _ _)⟩
    rw [if_neg k3, if_neg k3]
    by_cases k4 : k = 4
    · rw [if_pos k4] at h0; omega
    rw [if_neg k4, if_neg k4]
    by_cases k5 : k = 5
    · rw [if_pos k5] at hc
      rw [if_pos k5, if_pos k5, if_pos k5]
      have ha := hA c.m.read (by omega)
      rw [← ha.1, ← ha.2]
      refine ⟨rfl, ?_⟩
      cases decide (c.m.read < s.size) with
      | false => exact Quiet.refl _ _ _
      | true => exact ⟨rfl, id, by show c.m.read ≤ c.m.read + 1; omega, by show c.m.read + 1 ≤ _; omega⟩
    rw [if_neg k5, if_neg k5]
    have h := qK (k := k) (o := o) hI (c := c) (by omega)
    exact ⟨h.1, h.2.more (Nat.le_add_left _ _)⟩
theorem qH (hA : Agree s s' p) {l : List CE} (h0 : CE.loopsL l = 0) {c : CM} (hc : c.m.read + CE.getsL l ≤ p) : CE.evH call' s' l c = CE.evH call s l c ∧ Quiet (CE.getsL l) p c (CE.evH call s l c).2 := by
  cases l with
  | nil => exact ⟨rfl, Quiet.refl _ _ _⟩
  | cons e l =>
    rw [CE.loopsL] at h0
    rw [CE.getsL] at hc ⊢
    have h := qE (call := call) (call' := call') hA e.parts e (Nat.le_refl _) (by omega) c (by omega)
    exact ⟨h.1, h.2.more (Nat.le_add_right _ _)⟩
theorem qH2 (hA : Agree s s' p) {l : List CE} (h0 : CE.loopsL l = 0) {c : CM} (hc : c.m.read + CE.getsL l ≤ p) : CE.evH call' s' (l.drop 1) (CE.evH call s l c).2 = CE.evH call s (l.drop 1) (CE.evH call s l c).2 ∧ Quiet (CE.getsL l) p c (CE.evH call s (l.drop 1) (CE.evH call s l c).2).2 := by
  cases l with
  | nil => exact ⟨rfl, Quiet.refl _ _ _⟩
  | cons e l =>
    rw [CE.loopsL] at h0
    rw [CE.getsL] at hc ⊢
    have h := qE (call := call) (call' := call') hA e.parts e (Nat.le_refl _) (by omega) c (by omega)
    have h2 := qH (call := call) (call' := call') hA (l := l) (by omega) (c := (e.ev call s c).2) (by have := h.2.read; omega)
    exact ⟨h2.1, h.2.trans h2.2 (Nat.le_refl _)⟩
variable {fuel : Int}
def QS (call call' : CallC) (s s' : ByteArray) (p : Nat) (fuel : Int) (st : CS) : Prop := ∀ c, c.m.read + st.gets ≤ p → st.run call' s' fuel c = st.run call s fuel c ∧ Quiet st.gets p c (st.run call s fuel c)
theorem qSL : ∀ {l : List CS}, (∀ e ∈ l, QS call call' s s' p fuel e) → ∀ {c : CM}, c.m.read + CS.getsL l ≤ p → CS.runL call' s' fuel l c = CS.runL call s fuel l c ∧ Quiet (CS.getsL l) p c (CS.runL call s fuel l c)
  | [], _, c, _ => by rw [CS.runL, CS.runL]; exact ⟨rfl, Quiet.refl _ _ _⟩
  | st :: l, hI, c, hc => by
    rw [CS.getsL] at hc ⊢
    have h := hI st (List.mem_cons.2 (.inl rfl)) c (by omega)
    have h2 := qSL (l := l) (fun e he => hI e (List.mem_cons.2 (.inr he))) (c := st.run call s fuel c) (by have := h.2.read; omega)
    rw [CS.runL, CS.runL, h.1, h2.1]
    refine ⟨rfl, ?_⟩
    cases (c.fin == 0 && !c.over) with
    | false => exact Quiet.refl _ _ _
    | true => exact h.2.trans h2.2 (Nat.le_refl _)
theorem qS (hA : Agree s s' p) : ∀ (m : Nat) (st : CS), st.parts ≤ m → st.loops = 0 → QS call call' s s' p fuel st
  | 0, st, hm, _ => by cases st; rw [CS.parts] at hm; omega
  | m + 1, .mk k sl z es thn els, hm, h0 => by
    rw [CS.parts] at hm
    rw [CS.loops] at h0
    have hT : ∀ e ∈ thn, QS call call' s s' p fuel e := fun e he => qS hA m e z32q (by have := sloops_mem he; omega)
    have hL : ∀ e ∈ els, QS call call' s s' p fuel e := fun e he => qS hA m e z33q (by have := sloops_mem he; omega)
    intro c hc
    rw [CS.gets] at hc ⊢
    rw [CS.run, CS.run]
    by_cases k6 : k = 6
    · rw [if_pos (.inr k6)] at h0; omega
    rw [if_neg k6, if_neg k6]
    by_cases k5 : k = 5
    · rw [if_pos (.inl k5)] at h0; omega
    rw [if_neg k5, if_neg k5]
    have h := qH (call := call) (call' := call') hA (l := es) (by omega) (c := c) (by omega)
    have h2 := qH2 (call := call) (call' := call') hA (l := es) (by omega) (c := c) (by omega)
    rw [h.1]
    have hr := h.2.read
    have h3 := h.2.more (show CE.getsL es ≤ CE.getsL es + CS.getsL thn + CS.getsL els by omega)
    have h4 := h2.2.more (show CE.getsL es ≤ CE.getsL es + CS.getsL thn + CS.getsL els by omega)
    have h5 := h2.1
    have hq := h.2
    clear h h2
    generalize CE.evH call s es c = q at h3 h4 h5 hr hq ⊢
    obtain ⟨x, c1⟩ := q
    dsimp only at h3 h4 h5 hr hq ⊢
    rw [h5]
    have hT2 := qSL hT (c := c1) (by omega)
    have hL2 := qSL hL (c := c1) (by omega)
    rw [hT2.1, hL2.1]
    refine ⟨rfl, ?_⟩
    cases c1.fin == 0 with
    | false => exact h3
    | true =>
      simp only [cond_true]
      by_cases k7 : k = 7
      · rw [if_pos k7]; exact ⟨h3.steps, h3.fin, h3.le, h3.read⟩
      rw [if_neg k7]
      by_cases k1 : k = 1
      · rw [if_pos k1]; exact h3.put rfl rfl id
      rw [if_neg k1]
      by_cases k2 : k = 2
      · rw [if_pos k2]
        generalize CE.evH call s (es.drop 1) c1 = q at h4 ⊢
        obtain ⟨y, c2⟩ := q
        dsimp only at h4 ⊢
        cases c2.fin == 0 with
        | false => exact h4
        | true =>
          cases decide (x ≥ z) with
          | true => exact h4.put rfl rfl fun _ => (by decide : (3 : Int) ≠ 5)
          | false => exact h4.put rfl rfl id
      rw [if_neg k2]
      by_cases k3 : k = 3
      · rw [if_pos k3]
        cases decide (c1.m.out.length ≥ 65536) with
        | true => exact h3.put rfl rfl fun _ => (by decide : (4 : Int) ≠ 5)
        | false => exact h3.put rfl rfl id
      rw [if_neg k3]
      cases x == 0 with
      | true => exact (hq.trans hL2.2 (by omega))
      | false => exact (hq.trans hT2.2 (by omega))
end
theorem crun_quiet {C : Core} {g : CFn} (hg : C.funcs[C.funcs.length - 1]? = some g) (h0 : CS.loopsL g.body = 0) {s s' : ByteArray} (hA : Agree s s' (CS.getsL g.body)) (fuel : Int) : crun C s' fuel = crun C s fuel ∧ (crun C s fuel).fin ≠ 5 ∧ (crun C s fuel).steps = 0 := by
  have h := qSL (call := cfun C s fuel (C.funcs.length - 1)) (call' := cfun C s' fuel (C.funcs.length - 1)) (s := s) (s' := s') (p := CS.getsL g.body) (fuel := fuel) (l := g.body)
    (fun e he => qS hA e.parts e (Nat.le_refl _) (by have := sloops_mem he; omega)) (c := c0 C) (by show 0 + _ ≤ _; omega)
  unfold crun
  rw [hg]
  dsimp only
  rw [h.1]
  have h2 := h.2
  generalize CS.runL (cfun C s fuel (C.funcs.length - 1)) s fuel g.body (c0 C) = r at h2 ⊢
  refine ⟨rfl, ?_, ?_⟩
  · have h5 : r.m.fin ≠ 5 := h2.fin (show (0 : Int) ≠ 5 by decide)
    cases e : r.m.fin == 0 with
    | true => exact (show (1 : Int) ≠ 5 by decide)
    | false => exact h5
  · have h5 : r.m.steps = 0 := h2.steps
    cases e : r.m.fin == 0 with
    | true => exact h5
    | false => exact h5
abbrev eNum (n : Int) : CE := .mk 1 0 n 0 0 []
abbrev sPut (e : CE) : CS := .mk 3 0 0 [e] [] []
theorem eNum_ok {C : Core} {k : Nat} {n : Int} (hn : isW n) : (eNum n).ok C k := by rw [CE.ok]; exact ⟨trivial, .inl ⟨rfl, hn⟩⟩
theorem sPut_ok {C : Core} {k : Nat} {w : Bool} {e : CE} (he : e.ok C k) : (sPut e).ok C k w := by
  rw [CS.ok]; exact ⟨⟨he, trivial⟩, trivial, trivial, .inr (.inr (.inl ⟨rfl, rfl⟩))⟩
section
variable {call : CallC} {s : ByteArray} {fuel : Int}
end
def oneC (w : Int) (body : List CS) : Core := ⟨w, [⟨0, 0, 0, false, body⟩]⟩
theorem okSL_all {C : Core} {k : Nat} {w : Bool} : ∀ {l : List CS}, (∀ st ∈ l, st.ok C k w) → CS.okL C k w l
  | [], _ => trivial
  | st :: l, h => ⟨h st (List.mem_cons.2 (.inl rfl)), okSL_all fun e he => h e (List.mem_cons.2 (.inr he))⟩
theorem one_fit {w : Int} (h0 : 0 ≤ w) (h1 : w ≤ 1000000) {body : List CS} (hb : ∀ st ∈ body, st.ok (oneC w body) 0 false) (hp : ∀ st ∈ body, st.parts ≤ 3000) : CoreFit (oneC w body) := by
  have hg : ∀ (i : Nat) fn, (oneC w body).funcs[i]? = some fn → i = 0 ∧ fn = ⟨0, 0, 0, false, body⟩ := fun i fn h => by
    cases i with
    | zero => exact ⟨rfl, (Option.some.inj h).symm⟩
    | succ i => simp [oneC] at h
  refine ⟨⟨h0, fun e => by simp [oneC] at e, fun i fn h => ?_, fun fn h => ?_⟩, h1, fun fn h st hs => ?_⟩
  · obtain ⟨rfl, rfl⟩ := hg i fn h
    exact ⟨Int.le_refl _, (show (0 : Int) ≤ 6 by decide), Int.le_refl _, Int.le_refl _, h0, okSL_all hb⟩
  · rw [(hg _ fn h).2]; exact ⟨rfl, rfl⟩
  · obtain ⟨i, hi⟩ := List.mem_iff_getElem?.1 h
    rw [(hg i fn hi).2] at hs
    exact hp st hs
structure LocI (n : Int) (j : Nat) (c : CM) : Prop where
  fin : c.fin = 0
  over : c.over = false
  len : c.m.words.length = n.toNat
  out : c.m.out = List.replicate j 0
  steps : c.m.steps = j
  last : 0 < j → rget c.m.words (n - 1) = 7
def inCall (g : CFn) (args : List Int) (w : List Int) (c : CM) : CM := c.put { c.m with words := argsW (zeroW w g.first g.slots.toNat) g.first args args.length }
theorem cfun_go {C : Core} {s : ByteArray} {fuel : Int} {k : Nat} {f : Int} {args : List Int} {c c' : CM} {g : CFn} (ht : tickC fuel c = (true, c')) (hg : C.funcs[f.toNat]? = some g) :
    cfun C s fuel (k + 1) f args c = bif (CS.runL (cfun C s fuel k) s fuel g.body (inCall g args c.m.words c')).over then ((CS.runL (cfun C s fuel k) s fuel g.body (inCall g args c.m.words c')).val, { CS.runL (cfun C s fuel k) s fuel g.body (inCall g args c.m.words c') with over := false }) else (0, CS.runL (cfun C s fuel k) s fuel g.body (inCall g args c.m.words c')) := by
  rw [cfun, ht, hg]; rfl
end Go.Proofs.Ytmfihmkopmgelaa.Sv
