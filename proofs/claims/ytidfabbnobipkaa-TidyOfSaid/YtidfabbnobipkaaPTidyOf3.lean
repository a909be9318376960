/-
  THE MACHINE'S LOOPS: what holds at each round, in plain Lean: own work, over no program.
  RUNS THAT HAVE DONE FEWER STEPS END ALIKE, IN PLAIN LEAN: own work, over no program.
  WHATEVER HOLDS MEANS THE SAME, IN PLAIN LEAN: own work, over no program.
  WHAT THE WALK OF TidyTrue ASKS, IN PLAIN LEAN: own work, over no program.
  WHAT THE WALK OF TidyMeans ASKS, IN PLAIN LEAN: own work, over no program.
  WHAT IS REACHED, BREADTH FIRST, IN PLAIN LEAN: own work, over no program.
  THE DOCUMENT'S TIDYING COMES TO THE SAME, IN PLAIN LEAN: own work, over no program.
  BLOCKS THAT JUMP FROM ONE TO THE NEXT ARE ONE BLOCK, IN PLAIN LEAN: own work, over no program.
  QUEUES: x[l:] of a row, and what is put behind it; which place that takes isn't known beforehand: own work, over no program.
  THE QUEUE AS IT LIES IN MEMORY, IN PLAIN LEAN: own work, over no program.
  WHAT THE LAWS ON TIDIED FUNCTIONS ASK FOR, IN PLAIN LEAN: own work, over no program.
  WHAT THE DOCUMENT'S TIDYING GOES THROUGH, STEP BY STEP, IN PLAIN LEAN; A CELL OF WHICH LESS IS KNOWN: own work, over no program.
  WALKS: printed by a program of our own from the code's tree.
  WALKS: printed by a program of our own from the code's tree.
-/
import Derived.Test.YtidfabbnobipkaaPTidyOf2
namespace Go.Proofs.Ytidfabbnobipkaa.Sv
open Go
set_option linter.unusedVariables false
set_option linter.unusedSimpArgs false

section
variable {P : Program} {T : Nat → Option TyI} {o : Oper} {e : AEnv} {h : AHeap}
end
/-! ### instructions one by one -/
section
variable {call : Int → Mach → Mach} {s : ByteArray} {t : Tac} {regs : List Int} {m : Mach}
end
/-- what the ranges of an instruction say -/
structure TacIn (t : Tac) (number R : Nat) (words : Nat) : Prop where
  op : 1 ≤ t.op ∧ t.op ≤ 10
  d : setsOp t.op = true → 0 ≤ t.d ∧ t.d < R
  a : use1 t.op = true ∨ use2 t.op = true → 0 ≤ t.a ∧ t.a < R
  b : use2 t.op = true → 0 ≤ t.b ∧ t.b < R
  base : t.op = 4 ∨ t.op = 5 → 0 ≤ t.base ∧ t.base < words
  arr : t.op = 6 ∨ t.op = 7 → 1 ≤ t.size ∧ t.size ≤ 4096 ∧ 0 ≤ t.base ∧ t.base + t.size ≤ words
  call : t.op = 10 → 0 ≤ t.base ∧ t.base < number
/-! ### the rounds -/
structure FG where
  i : Int
  regs : List Int
  m : Mach
  g : Nat
structure IG where
  j : Nat
  regs : List Int
  m : Mach
section
variable {call : Int → Mach → Mach} {s : ByteArray} {fuel : Int} {f : BFunc} {W R : Nat} {tgt : Mach} {q : FG} {k : Block} {r : IG}
structure FInv (call : Int → Mach → Mach) (s : ByteArray) (fuel : Int) (f : BFunc) (W R : Nat) (tgt : Mach) (q : FG) : Prop where
  good : q.m.good W
  fin : q.m.fin = 0
  regs : allR q.regs
  len : q.regs.length = R
  i : 0 ≤ q.i ∧ q.i < f.blocks.length
  g : 0 < q.g
  gas : fuel.toNat < q.m.steps + q.g
  tgt : mblk call s fuel f q.g q.i q.regs q.m = tgt
structure IInv (call : Int → Mach → Mach) (s : ByteArray) (fuel : Int) (k : Block) (q : FG) (W R : Nat) (r : IG) : Prop where
  good : r.m.good W
  fin : r.m.fin = 0
  regs : allR r.regs
  len : r.regs.length = R
  j : r.j ≤ k.ins.length
  steps : q.m.steps ≤ r.m.steps
  eq : mins call s fuel (k.ins.drop r.j) r.regs r.m = mins call s fuel k.ins q.regs q.m
theorem FInv.unfold (h : FInv call s fuel f W R tgt q) (hk : f.blocks[q.i.toNat]? = some k) : tgt =
    (bif (mins call s fuel k.ins q.regs q.m).1 then
        (bif (mstep fuel (mins call s fuel k.ins q.regs q.m).2.2).1 && !(k.fin == 3) then mblk call s fuel f (q.g - 1) (k.next (mins call s fuel k.ins q.regs q.m).2.1) (mins call s fuel k.ins q.regs q.m).2.1 (mstep fuel (mins call s fuel k.ins q.regs q.m).2.2).2 else (mstep fuel (mins call s fuel k.ins q.regs q.m).2.2).2)
      else (mins call s fuel k.ins q.regs q.m).2.2) := by
  have h1 := h.tgt
  obtain ⟨g, hg⟩ : ∃ g, q.g = g + 1 := ⟨q.g - 1, by have := h.g; omega⟩
  rw [hg] at h1 ⊢
  rw [← h1, mblk, hk]; rfl
theorem IInv.head (hi : IInv call s fuel k q W R r) {u : Tac} (hu : k.ins[r.j]? = some u) : mins call s fuel k.ins q.regs q.m = mins call s fuel (u :: k.ins.drop (r.j + 1)) r.regs r.m := by
  rw [← hi.eq]
  have hl := (List.getElem?_eq_some_iff.1 hu)
  obtain ⟨h1, h2⟩ := hl
  rw [List.drop_eq_getElem_cons h1, h2]
theorem IInv.next (hi : IInv call s fuel k q W R r) (hcg : ∀ i m, m.good W → (call i m).good W) (hcs : ∀ i m, m.steps ≤ (call i m).steps) {u : Tac} (hu : k.ins[r.j]? = some u) (hw : isW u.n) (hs : (mstep fuel r.m).1 = true) (hz : ((mone call s u r.regs (mstep fuel r.m).2).2.fin != 0) = false) :
    IInv call s fuel k q W R ⟨r.j + 1, (mone call s u r.regs (mstep fuel r.m).2).1, (mone call s u r.regs (mstep fuel r.m).2).2⟩ := by
  have hz' : ((mone call s u r.regs (mstep fuel r.m).2).2.fin) = 0 := by simpa using hz
  have hg := mone_good (s := s) hcg u hw hi.regs (mstep_good (fuel := fuel) hi.good)
  refine ⟨hg.2.2, hz', hg.1, hg.2.1.trans hi.len, (List.getElem?_eq_some_iff.1 hu).1, ?_, ?_⟩
  · exact Nat.le_trans hi.steps (Nat.le_trans (mstep_steps fuel r.m) (mone_steps hcs u r.regs _))
  · rw [hi.head hu]
    dsimp only
    conv => rhs; rw [mins]
    rw [hs, hz']; rfl
theorem IInv.done (hi : IInv call s fuel k q W R r) (hj : k.ins.length ≤ r.j) : mins call s fuel k.ins q.regs q.m = (true, r.regs, r.m) := by
  rw [← hi.eq, List.drop_eq_nil_of_le hj]; rfl
theorem mstep_true {m : Mach} (hs : (mstep fuel m).1 = true) : (m.steps : Int) < fuel ∧ (mstep fuel m).2 = { m with steps := m.steps + 1 } := by
  unfold mstep at *
  cases e : decide ((m.steps : Int) ≥ fuel) with
  | true => rw [e] at hs; cases hs
  | false => simp at e; exact ⟨e, rfl⟩
theorem FInv.next (h : FInv call s fuel f W R tgt q) (hk : f.blocks[q.i.toNat]? = some k) (hi : IInv call s fuel k q W R r) (hj : k.ins.length ≤ r.j) (hs : (mstep fuel r.m).1 = true) (hf : (k.fin == 3) = false) (hn : 0 ≤ k.next r.regs ∧ k.next r.regs < f.blocks.length) :
    FInv call s fuel f W R tgt ⟨k.next r.regs, r.regs, (mstep fuel r.m).2, q.g - 1⟩ ∧ q.g - 1 < q.g := by
  obtain ⟨h1, h2⟩ := mstep_true hs
  have hg := h.g
  have hgas := h.gas
  have hst := hi.steps
  refine ⟨⟨mstep_good hi.good, by rw [h2]; exact hi.fin, hi.regs, hi.len, hn, ?_, ?_, ?_⟩, by omega⟩
  · rw [show (FG.mk (k.next r.regs) r.regs (mstep fuel r.m).2 (q.g - 1)).g = q.g - 1 from rfl]; omega
  · rw [h2]; dsimp only; omega
  · rw [h.unfold hk, hi.done hj]
    simp only [hs, hf, Bool.not_false, Bool.and_true, cond_true]
end
theorem FInv.first {call : Int → Mach → Mach} {s : ByteArray} {fuel : Int} {f : BFunc} {W : Nat} {m : Mach} (hm : m.good W) (h0 : m.fin = 0) (hf : f.blocks ≠ []) :
    FInv call s fuel f W f.regs.toNat (mblk call s fuel f (fuel.toNat + 1) 0 (List.replicate f.regs.toNat 0) m) ⟨0, List.replicate f.regs.toNat 0, m, fuel.toNat + 1⟩ :=
  ⟨hm, h0, allR_rep _, by simp, ⟨by show (0 : Int) ≤ 0; omega, by show (0 : Int) < _; have := List.length_pos_iff.2 hf; omega⟩, Nat.succ_pos _, by show fuel.toNat < m.steps + (fuel.toNat + 1); omega, rfl⟩
end Go.Proofs.Ytidfabbnobipkaa.Sv

namespace Go.Proofs.Ytidfabbnobipkaa.Sv
open Go
set_option linter.unusedVariables false
set_option linter.unusedSimpArgs false

/-- alike, with no more steps -/
structure Mach.Le (m m' : Mach) : Prop where
  words : m'.words = m.words
  out : m'.out = m.out
  read : m'.read = m.read
  fin : m'.fin = m.fin
  steps : m'.steps ≤ m.steps
/-- the first one had no fuel, or both are alike -/
def Mach.Sim (x y : Mach) : Prop := x.fin = 5 ∨ x.Le y
theorem Mach.Le.refl (m : Mach) : m.Le m := ⟨rfl, rfl, rfl, rfl, Nat.le_refl _⟩
theorem Mach.Le.put {m m' : Mach} (h : m.Le m') (w : List Int) (o : List UInt8) (r : Nat) (f : Int) : Mach.Le ⟨w, o, r, m.steps, f⟩ ⟨w, o, r, m'.steps, f⟩ := ⟨rfl, rfl, rfl, rfl, h.steps⟩
section
variable {call call' : Int → Mach → Mach} {s : ByteArray} {fuel : Int}
end
end Go.Proofs.Ytidfabbnobipkaa.Sv

namespace Go.Proofs.Ytidfabbnobipkaa.Sv
open Go
set_option linter.unusedVariables false
set_option linter.unusedSimpArgs false

section
variable {call call' : Int → Mach → Mach} {s : ByteArray} {fuel : Int}
variable {ok : Int → Prop} {old new : BFunc}
end
def Blocks.put (b : Blocks) (f : BFunc) : Blocks := ⟨b.words, b.funcs.set (b.funcs.length - 1) f⟩
/-! ### it may be -/
end Go.Proofs.Ytidfabbnobipkaa.Sv

namespace Go.Proofs.Ytidfabbnobipkaa.Sv
open Go
set_option linter.unusedVariables false
set_option linter.unusedSimpArgs false
end Go.Proofs.Ytidfabbnobipkaa.Sv

namespace Go.Proofs.Ytidfabbnobipkaa.Sv
open Go
set_option linter.unusedVariables false
set_option linter.unusedSimpArgs false
theorem tidy_mem {f : BFunc} (h : f.tame) {x : Block} (hx : x ∈ f.tidy.blocks) : ∃ p, inF f.blocks.length p ∧ p.length ≤ f.blocks.length + 1 ∧ x.ins = f.joined p := by
  simp only [BFunc.tidy, List.mem_map] at hx
  obtain ⟨p, hp, rfl⟩ := hx
  exact ⟨p, paths_in h.leads _ (Nat.le_refl _) p hp, pathsTo_len _ p hp, rfl⟩
theorem tidy_lens {f : BFunc} (h : f.tame) : ∀ x ∈ f.tidy.blocks, x.ins.length ≤ 1000000000 := fun x hx => by
  obtain ⟨p, h1, h2, h3⟩ := tidy_mem h hx
  rw [h3]
  have := joined_len h.ins p
  have := h.mild
  omega
end Go.Proofs.Ytidfabbnobipkaa.Sv

namespace Go.Proofs.Ytidfabbnobipkaa.Sv
open Go
set_option linter.unusedVariables false
set_option linter.unusedSimpArgs false

structure BS where
  been : List Bool
  q : List Int
def binto (s : BS) (k : Int) : BS := bif notBeen s.been k then ⟨s.been.set k.toNat true, s.q ++ [k]⟩ else s
def bround (next : List (List Int)) (s : BS) : BS :=
  match s.q with
  | [] => s
  | at' :: r => (rowAt next at').foldl binto ⟨s.been, r⟩
def brun (next : List (List Int)) : Nat → BS → BS
  | 0, s => s
  | g + 1, s => if s.q.isEmpty then s else brun next g (bround next s)
def bstart (n : Nat) : BS := ⟨(List.replicate n false).set 0 true, [0]⟩
def breach (next : List (List Int)) : List Bool := (brun next (next.length + 1) (bstart next.length)).been
def bmu (s : BS) : Nat := unb s.been + s.q.length

theorem binto_eq {b : Int} {s : BS} {c : Bool} (h : notBeen s.been b = c) : binto s b = bif c then ⟨s.been.set b.toNat true, s.q ++ [b]⟩ else s := by unfold binto; rw [h]
theorem binto_len (s : BS) (k : Int) : (binto s k).been.length = s.been.length := by
  unfold binto; cases notBeen s.been k <;> simp
theorem bintos_len : ∀ (l : List Int) (s : BS), (l.foldl binto s).been.length = s.been.length
  | [], _ => rfl
  | k :: r, s => by rw [List.foldl_cons, bintos_len r, binto_len]
theorem binto_mu (s : BS) (k : Int) : bmu (binto s k) = bmu s := by
  unfold binto bmu
  cases e : notBeen s.been k with
  | false => rfl
  | true =>
    obtain ⟨h1, h2, h3⟩ := notBeen_get e
    have := unb_set h3
    simp only [cond_true, List.length_append, List.length_singleton]
    omega
theorem bintos_mu : ∀ (l : List Int) (s : BS), bmu (l.foldl binto s) = bmu s
  | [], _ => rfl
  | k :: r, s => by rw [List.foldl_cons, bintos_mu r, binto_mu]
theorem bround_mu {next : List (List Int)} {s : BS} (h : s.q ≠ []) : bmu (bround next s) + 1 = bmu s := by
  unfold bround
  split
  · rename_i e; exact absurd e h
  · rename_i at' r e
    rw [bintos_mu]
    simp only [bmu, e, List.length_cons]
    omega
theorem unb_start (n : Nat) (h : 0 < n) : unb ((List.replicate n false).set 0 true) + 1 = n := by
  have h1 : (List.replicate n false)[0]? = some false := by rw [List.getElem?_replicate, if_pos h]
  have h2 := unb_set h1
  rw [unb_rep] at h2
  exact h2
theorem brun_step {next : List (List Int)} {g : Nat} {s : BS} (h : s.q ≠ []) : brun next (g + 1) s = brun next g (bround next s) := by
  show (if s.q.isEmpty then s else _) = _
  rw [if_neg (by simpa using h)]
theorem brun_end {next : List (List Int)} {g : Nat} {s : BS} (h : s.q = []) : brun next g s = s := by
  cases g with
  | zero => rfl
  | succ g => show (if s.q.isEmpty then s else _) = _; rw [if_pos (by simp [h])]
theorem brun_len (next : List (List Int)) : ∀ (g : Nat) (s : BS), (brun next g s).been.length = s.been.length
  | 0, _ => rfl
  | g + 1, s => by
    unfold brun
    split
    · rfl
    · rw [brun_len next g]
      unfold bround
      split
      · rfl
      · rw [bintos_len]
theorem breach_length (next : List (List Int)) : (breach next).length = next.length := by
  unfold breach; rw [brun_len]; simp [bstart]
theorem notBeen_false {been : List Bool} {k : Int} (h : notBeen been k = false) (hk : 0 ≤ k ∧ k < been.length) : isBeen been k := by
  obtain ⟨x, hx⟩ := get_of_lt (l := been) (k := k.toNat) (by omega)
  refine ⟨hk.1, ?_⟩
  rw [hx]
  simp only [notBeen, hx, Option.getD_some, hk.1, hk.2, ge_iff_le, decide_true, Bool.true_and, Bool.not_eq_false'] at h
  rw [h]
theorem set_been {l : List Bool} {i : Nat} {k : Int} (h : isBeen l k) : isBeen (l.set i true) k := by
  obtain ⟨h1, h2⟩ := h
  refine ⟨h1, ?_⟩
  rw [List.getElem?_set]
  have hlt := (List.getElem?_eq_some_iff.1 h2).1
  split
  · rename_i he
    rw [he, if_pos hlt]
  · exact h2
/-- what holds of a state in the midst -/
structure BInv (next : List (List Int)) (s : BS) : Prop where
  len : s.been.length = next.length
  q : ∀ k ∈ s.q, 0 ≤ k ∧ k < next.length
  qb : ∀ k ∈ s.q, isBeen s.been k
  zero : isBeen s.been 0
  only : ∀ k, isBeen s.been k → Reaches next k
theorem binto_been {s : BS} {b k : Int} (h : isBeen s.been k) : isBeen (binto s b).been k := by
  unfold binto
  cases notBeen s.been b with
  | false => exact h
  | true => exact set_been h
theorem bintos_been : ∀ (l : List Int) (s : BS) {k : Int}, isBeen s.been k → isBeen (l.foldl binto s).been k
  | [], _, _, h => h
  | b :: r, s, k, h => bintos_been r _ (binto_been h)
theorem binto_inv {next : List (List Int)} {s : BS} {b : Int} (h : BInv next s) (hb : Reaches next b) : BInv next (binto s b) := by
  unfold binto
  cases e : notBeen s.been b with
  | false => exact h
  | true =>
    obtain ⟨h1, h2, h3⟩ := notBeen_get e
    have hself : isBeen (s.been.set b.toNat true) b := ⟨h1, by rw [List.getElem?_set_self (by omega)]⟩
    refine ⟨by simp [h.len], fun k hk => ?_, fun k hk => ?_, set_been h.zero, fun k hk => ?_⟩
    · simp only [cond_true, List.mem_append, List.mem_singleton] at hk
      rcases hk with hk | rfl
      · exact h.q k hk
      · rw [← h.len]; exact ⟨h1, h2⟩
    · simp only [cond_true, List.mem_append, List.mem_singleton] at hk
      rcases hk with hk | rfl
      · exact set_been (h.qb k hk)
      · exact hself
    · obtain ⟨k1, k2⟩ := hk
      simp only [cond_true] at k2
      rw [List.getElem?_set] at k2
      by_cases hh : b.toNat = k.toNat
      · have : k = b := by omega
        rw [this]; exact hb
      · rw [if_neg hh] at k2
        exact h.only k ⟨k1, k2⟩
theorem bintos_inv {next : List (List Int)} : ∀ (l : List Int) (s : BS), BInv next s → (∀ t ∈ l, Reaches next t) → BInv next (l.foldl binto s)
  | [], _, h, _ => h
  | b :: r, s, h, hl => bintos_inv r _ (binto_inv h (hl b (by simp))) (fun t ht => hl t (by simp [ht]))
theorem binto_q {s : BS} {b k : Int} (h : k ∈ s.q) : k ∈ (binto s b).q := by
  unfold binto
  cases notBeen s.been b <;> simp [h]
theorem bintos_q : ∀ (l : List Int) (s : BS) {k : Int}, k ∈ s.q → k ∈ (l.foldl binto s).q
  | [], _, _, h => h
  | b :: r, s, k, h => bintos_q r _ (binto_q h)
/-- whoever is marked on the way stands in the queue, or was marked before -/
theorem binto_new {s : BS} {b k : Int} (h : isBeen (binto s b).been k) : isBeen s.been k ∨ k ∈ (binto s b).q := by
  unfold binto at *
  cases e : notBeen s.been b with
  | false => rw [e] at h; exact .inl h
  | true =>
    rw [e] at h
    simp only [cond_true] at h ⊢
    obtain ⟨k1, k2⟩ := h
    obtain ⟨h1, h2, h3⟩ := notBeen_get e
    rw [List.getElem?_set] at k2
    by_cases hh : b.toNat = k.toNat
    · have : k = b := by omega
      subst this
      exact .inr (by simp)
    · rw [if_neg hh] at k2
      exact .inl ⟨k1, k2⟩
theorem bintos_new : ∀ (l : List Int) (s : BS) {k : Int}, isBeen (l.foldl binto s).been k → isBeen s.been k ∨ k ∈ (l.foldl binto s).q
  | [], _, _, h => .inl h
  | b :: r, s, k, h => by
    rcases bintos_new r _ h with h | h
    · rcases binto_new h with h | h
      · exact .inl h
      · exact .inr (bintos_q r _ h)
    · exact .inr h
theorem bintos_all {n : Nat} : ∀ (l : List Int) (s : BS), s.been.length = n → (∀ t ∈ l, 0 ≤ t ∧ t < n) → ∀ t ∈ l, isBeen (l.foldl binto s).been t
  | [], _, _, _, t, ht => absurd ht (by simp)
  | b :: r, s, hn, hl, t, ht => by
    rw [List.foldl_cons]
    have hb := hl b (by simp)
    rcases List.mem_cons.1 ht with rfl | ht
    · refine bintos_been r _ ?_
      cases e : notBeen s.been t with
      | false => rw [binto_eq e]; exact notBeen_false e (hn ▸ hb)
      | true =>
        rw [binto_eq e]
        exact ⟨hb.1, by show (s.been.set t.toNat true)[t.toNat]? = _; rw [List.getElem?_set_self (by omega)]⟩
    · exact bintos_all r _ (by rw [binto_len, hn]) (fun t ht => hl t (by simp [ht])) t ht
/-- all that follows who was looked at is marked -/
def BDone (next : List (List Int)) (s : BS) : Prop := ∀ k, isBeen s.been k → k ∈ s.q ∨ ∀ t ∈ rowAt next k, isBeen s.been t
theorem bround_ok {next : List (List Int)} {s : BS} (h : BInv next s) : BInv next (bround next s) := by
  unfold bround
  split
  · exact h
  · rename_i at' r e
    have hat : at' ∈ s.q := by rw [e]; simp
    have h0 : BInv next ⟨s.been, r⟩ := ⟨h.len, fun k hk => h.q k (by rw [e]; simp [hk]), fun k hk => h.qb k (by rw [e]; simp [hk]), h.zero, h.only⟩
    exact bintos_inv _ _ h0 (fun t ht => .step at' t (h.only at' (h.qb at' hat)) ht)
theorem bround_inv {next : List (List Int)} (hlead : ∀ l ∈ next, ∀ t ∈ l, 0 ≤ t ∧ t < next.length) {s : BS} (h : BInv next s) (hd : BDone next s) : BInv next (bround next s) ∧ BDone next (bround next s) := by
  unfold bround
  split
  · exact ⟨h, hd⟩
  · rename_i at' r e
    have hat : at' ∈ s.q := by rw [e]; simp
    have hrow : ∀ t ∈ rowAt next at', 0 ≤ t ∧ t < next.length := fun t ht => by
      unfold rowAt at ht
      cases e2 : next[at'.toNat]? with
      | none => rw [e2] at ht; simp at ht
      | some l => rw [e2] at ht; exact hlead l (List.mem_of_getElem? e2) t ht
    have h0 : BInv next ⟨s.been, r⟩ := ⟨h.len, fun k hk => h.q k (by rw [e]; simp [hk]), fun k hk => h.qb k (by rw [e]; simp [hk]), h.zero, h.only⟩
    have hra := h.only at' (h.qb at' hat)
    refine ⟨bintos_inv _ _ h0 (fun t ht => .step at' t hra ht), fun k hk => ?_⟩
    rcases bintos_new _ _ hk with h1 | h1
    · rcases hd k h1 with h2 | h2
      · rw [e] at h2
        rcases List.mem_cons.1 h2 with rfl | h2
        · exact .inr fun t ht => bintos_all _ ⟨s.been, r⟩ h.len hrow t ht
        · exact .inl (bintos_q _ _ h2)
      · exact .inr fun t ht => bintos_been _ _ (h2 t ht)
    · exact .inl h1
theorem brun_inv {next : List (List Int)} (hlead : ∀ l ∈ next, ∀ t ∈ l, 0 ≤ t ∧ t < next.length) : ∀ (g : Nat) (s : BS), BInv next s → BDone next s → bmu s < g → BInv next (brun next g s) ∧ BDone next (brun next g s) ∧ (brun next g s).q = []
  | 0, s, _, _, h => absurd h (by omega)
  | g + 1, s, h, hd, hm => by
    unfold brun
    split
    · rename_i hq; exact ⟨h, hd, by simpa using hq⟩
    · rename_i hq
      have hq' : s.q ≠ [] := by simpa using hq
      obtain ⟨h1, h2⟩ := bround_inv hlead h hd
      have := bround_mu (next := next) hq'
      exact brun_inv hlead g _ h1 h2 (by omega)
theorem bstart_inv {next : List (List Int)} (hn : next ≠ []) : BInv next (bstart next.length) ∧ BDone next (bstart next.length) ∧ bmu (bstart next.length) < next.length + 1 := by
  have hpos := List.length_pos_iff.2 hn
  have h0 : isBeen ((List.replicate next.length false).set 0 true) 0 := ⟨by omega, by show (List.set _ 0 true)[0]? = _; rw [List.getElem?_set_self (by simpa using hpos)]⟩
  have honly : ∀ k, isBeen ((List.replicate next.length false).set 0 true) k → k = 0 := fun k hk => by
    obtain ⟨k1, k2⟩ := hk
    rw [List.getElem?_set] at k2
    by_cases hh : 0 = k.toNat
    · omega
    · rw [if_neg hh] at k2
      have := List.eq_of_mem_replicate (List.mem_of_getElem? k2)
      cases this
  refine ⟨⟨by simp [bstart], fun k hk => ?_, fun k hk => ?_, h0, fun k hk => by rw [honly k hk]; exact .zero⟩, fun k hk => .inl (by rw [honly k hk]; simp [bstart]), ?_⟩
  · simp only [bstart, List.mem_singleton] at hk; subst hk; omega
  · simp only [bstart, List.mem_singleton] at hk; subst hk; exact h0
  · have := unb_start next.length hpos
    simp only [bmu, bstart, List.length_singleton]
    omega
/-- breadth first and depth first reach the same -/
theorem breach_eq {next : List (List Int)} (hn : next ≠ []) (hlead : ∀ l ∈ next, ∀ t ∈ l, 0 ≤ t ∧ t < next.length) : breach next = dreach next (List.replicate next.length false) := by
  refine marks_ext (by rw [breach_length, dreach_length]; simp) (fun k => ?_)
  rw [reach_iff hn hlead]
  obtain ⟨i1, i2, i3⟩ := bstart_inv hn
  obtain ⟨j1, j2, j3⟩ := brun_inv hlead _ _ i1 i2 i3
  constructor
  · exact j1.only k
  · intro hk
    induction hk with
    | zero => exact j1.zero
    | step k t _ ht ih =>
      rcases j2 k ih with h | h
      · rw [j3] at h; cases h
      · exact h t ht
end Go.Proofs.Ytidfabbnobipkaa.Sv

namespace Go.Proofs.Ytidfabbnobipkaa.Sv
open Go
set_option linter.unusedVariables false
set_option linter.unusedSimpArgs false

/-- the last one, of those that are reached, that leads to k; -1: there is none -/
def fromTo (next : List (List Int)) (reach : List Bool) (k : Int) : Nat → Int
  | 0 => -1
  | m + 1 => bif (reach[m]?).getD false && (rowN next m).contains k then (m : Int) else fromTo next reach k m
theorem from_ge {next : List (List Int)} {reach : List Bool} {k : Int} : ∀ (m : Nat), 0 < cntTo next reach k m → ∃ i : Nat, i < m ∧ fromTo next reach k m = (i : Int) ∧ reach[i]? = some true ∧ k ∈ rowN next i
  | 0, h => by simp [cntTo] at h
  | m + 1, h => by
    unfold cntTo at h
    unfold fromTo
    cases hr : (reach[m]?).getD false with
    | false =>
      rw [hr] at h
      simp only [cond_false, Nat.add_zero] at h
      obtain ⟨i, i1, i2, i3⟩ := from_ge m h
      exact ⟨i, by omega, by simpa using i2, i3⟩
    | true =>
      have hrt : reach[m]? = some true := by
        cases e : reach[m]? with
        | none => rw [e] at hr; cases hr
        | some v => rw [e] at hr; simp at hr; rw [hr]
      cases hc : (rowN next m).contains k with
      | true => exact ⟨m, by omega, by simp, hrt, by simpa using hc⟩
      | false =>
        have hz : (rowN next m).count k = 0 := List.count_eq_zero.2 (by simpa using hc)
        rw [hr, hz] at h
        simp only [cond_true, Nat.add_zero] at h
        obtain ⟨i, i1, i2, i3⟩ := from_ge m h
        exact ⟨i, by omega, by simpa using i2, i3⟩
section
variable {f : BFunc}
def BFunc.inN (f : BFunc) (k : Int) : Nat := cntTo f.nexts f.reach k f.nexts.length
def BFunc.inFrom (f : BFunc) (k : Int) : Int := fromTo f.nexts f.reach k f.nexts.length
/-- who takes a block in -/
def BFunc.byOf (f : BFunc) (k : Nat) : Int :=
  bif decide (0 < k) && ((f.reach[k]?).getD false && (f.inN k == 1 && (f.inFrom k != (k : Int) && (f.blockAt (f.inFrom k)).fin == 1))) then f.inFrom k else -1
def BFunc.bys (f : BFunc) : List Int := (List.range f.blocks.length).map f.byOf
theorem bys_length : f.bys.length = f.blocks.length := by simp [BFunc.bys]
theorem bys_get {k : Nat} (h : k < f.blocks.length) : f.bys[k]? = some (f.byOf k) := by simp [BFunc.bys, h]
theorem bys_iget {k : Nat} (h : k < f.blocks.length) : iget f.bys k = f.byOf k := by simp [iget, bys_get h]
theorem ways_inN (hle : f.leads) {k : Int} (hk : 0 ≤ k) : iget (waysF f.nexts f.reach) k = (f.inN k : Int) := ways_cnt (leadN hle) hk _ (Nat.le_refl _)
theorem rowN_block (hle : f.leads) {i : Nat} (hi : i < f.blocks.length) : rowN f.nexts i = (f.blockAt i).nexts := by
  have h := blockAt_get (f := f) (i := (i : Int)) (by omega)
  rw [Int.toNat_natCast] at h
  rw [rowN, nexts_get h]; rfl
theorem byOf_range (k : Nat) : f.byOf k = -1 ∨ (0 ≤ f.byOf k ∧ f.byOf k < f.blocks.length ∧ f.byOf k = f.inFrom k) := by
  unfold BFunc.byOf
  cases e : decide (0 < k) && ((f.reach[k]?).getD false && (f.inN k == 1 && (f.inFrom k != (k : Int) && (f.blockAt (f.inFrom k)).fin == 1))) with
  | false => exact .inl rfl
  | true =>
    simp only [Bool.and_eq_true, beq_iff_eq] at e
    obtain ⟨_, _, e3, _⟩ := e
    obtain ⟨i, i1, i2, i3⟩ := from_ge f.nexts.length (show 0 < f.inN k by omega)
    rw [nexts_length] at i1
    refine .inr ⟨?_, ?_, rfl⟩ <;> simp only [cond_true, BFunc.inFrom, i2] <;> omega
theorem by_iff (hle : f.leads) (hn : f.blocks ≠ []) {i : Int} {k : Nat} (hi : 0 ≤ i ∧ i < f.blocks.length) (hk : k < f.blocks.length) : f.byOf k = i ↔ iget f.tk i = (k : Int) := by
  have hnl := nexts_length f
  constructor
  · intro h
    unfold BFunc.byOf at h
    cases e : decide (0 < k) && ((f.reach[k]?).getD false && (f.inN k == 1 && (f.inFrom k != (k : Int) && (f.blockAt (f.inFrom k)).fin == 1))) with
    | false => rw [e] at h; simp only [cond_false] at h; omega
    | true =>
      rw [e] at h
      simp only [cond_true] at h
      simp only [Bool.and_eq_true, beq_iff_eq, bne_iff_ne, ne_eq, decide_eq_true_eq] at e
      obtain ⟨e1, e2, e3, e4, e5⟩ := e
      rw [h] at e4 e5
      obtain ⟨j, j1, j2, j3, j4⟩ := from_ge f.nexts.length (show 0 < f.inN k by omega)
      have hj : (j : Int) = i := by rw [← h]; exact j2.symm
      rw [rowN_block hle (by omega), hj] at j4
      have hto : (f.blockAt i).to = (k : Int) := by
        simp [Block.nexts, e5] at j4
        exact j4.symm
      have hri : f.reach[i.toNat]? = some true := by rw [← hj, Int.toNat_natCast]; exact j3
      rw [tk_at hle hi, takeOf, hri]
      have hw := ways_inN hle (k := (k : Int)) (by omega)
      rw [hto, hw, e3, e5]
      have c1 : ((k : Int) != 0) = true := by rw [bne_iff_ne]; omega
      have c2 : ((k : Int) != ((i.toNat : Nat) : Int)) = true := by rw [bne_iff_ne]; omega
      rw [c1, c2]; rfl
  · intro h
    have hne : iget f.tk i ≠ -1 := by rw [h]; omega
    have h2 := h
    rw [tk_at hle hi] at h2
    obtain ⟨a1, a2, a3, a4, a5, a6, a7⟩ := tk_spec hle hi hne
    rw [h] at a1
    have hc2 : (f.blockAt i).to ≠ ((i.toNat : Nat) : Int) := fun hh => by
      rw [takeOf, hh] at h2
      simp at h2
    rw [← a1, ways_inN hle (k := (k : Int)) (by omega)] at a5
    have hN : f.inN k = 1 := by omega
    obtain ⟨j, j1, j2, j3, j4⟩ := from_ge f.nexts.length (show 0 < f.inN k by omega)
    rw [rowN_block hle (by omega)] at j4
    have hj := tk_only hle hi h (by omega) (l := (j : Int)) ⟨by omega, by rw [Int.toNat_natCast]; exact j3⟩ j4
    have hfr : f.inFrom k = i := by rw [← hj]; exact j2
    have hrk : isBeen f.reach (k : Int) := (reach_cl hle hn).2 i a2 k (by rw [row_at hle hi]; simp [Block.nexts, a3, a1])
    have hrk2 : f.reach[k]? = some true := by simpa using hrk.2
    unfold BFunc.byOf
    have c1 : decide (0 < k) = true := decide_eq_true (by omega)
    have c2 : (i != (k : Int)) = true := by rw [bne_iff_ne]; exact fun hh => hc2 (by rw [← a1]; omega)
    rw [hfr, hN, hrk2, a3, c1, c2]; rfl
/-- the last one that is taken in by a block -/
def lastBy (by' : List Int) (a : Int) : Nat → Int
  | 0 => -1
  | m + 1 => bif iget by' m == a then (m : Int) else lastBy by' a m
theorem lastBy_none {by' : List Int} {a : Int} : ∀ (m : Nat), (∀ k : Nat, k < m → iget by' k ≠ a) → lastBy by' a m = -1
  | 0, _ => rfl
  | m + 1, h => by
    unfold lastBy
    have e : (iget by' (m : Int) == a) = false := by rw [beq_eq_false_iff_ne]; exact h m (by omega)
    rw [e]
    exact lastBy_none m fun k hk => h k (by omega)
theorem lastBy_only {by' : List Int} {a : Int} {j : Nat} : ∀ (m : Nat), j < m → iget by' j = a → (∀ k : Nat, k < m → iget by' k = a → k = j) → lastBy by' a m = (j : Int)
  | 0, h, _, _ => absurd h (by omega)
  | m + 1, h, hj, ho => by
    unfold lastBy
    cases e : iget by' (m : Int) == a with
    | true => have := ho m (by omega) (by simpa using e); simp [this]
    | false =>
      have hne : j ≠ m := fun hh => by subst hh; rw [hj] at e; simp at e
      exact lastBy_only m (by omega) hj (fun k hk hh => ho k (by omega) hh)
theorem lastBy_tk (hle : f.leads) (hn : f.blocks ≠ []) {a : Int} (ha : 0 ≤ a ∧ a < f.blocks.length) : lastBy f.bys a f.blocks.length = iget f.tk a := by
  by_cases h : iget f.tk a = -1
  · rw [h]
    refine lastBy_none _ fun k hk he => ?_
    rw [bys_iget hk] at he
    have := (by_iff hle hn ha hk).1 he
    omega
  · obtain ⟨a1, a2, a3, a4, a5, a6, a7⟩ := tk_spec hle ha h
    have hk : (iget f.tk a).toNat < f.blocks.length := by omega
    have hc : (((iget f.tk a).toNat : Nat) : Int) = iget f.tk a := by omega
    have := lastBy_only (by' := f.bys) (a := a) (j := (iget f.tk a).toNat) f.blocks.length hk (by rw [bys_iget hk]; exact (by_iff hle hn ha hk).2 hc.symm)
      (fun k hk' he => by
        rw [bys_iget hk'] at he
        have := (by_iff hle hn ha hk').1 he
        omega)
    rw [this, hc]
theorem head_by (hle : f.leads) (hn : f.blocks ≠ []) {k : Nat} (hk : k < f.blocks.length) : f.headOf k = ((f.reach[k]?).getD false && !decide (f.byOf k ≥ 0)) := by
  obtain ⟨r, hr⟩ := get_of_lt (l := f.reach) (k := k) (by rw [reach_length]; exact hk)
  rw [hr, Option.getD_some]
  cases r with
  | false => simp [BFunc.headOf, hr]
  | true =>
    cases e : decide (f.byOf k ≥ 0) with
    | true =>
      have e' : f.byOf k ≥ 0 := by simpa using e
      rcases byOf_range (f := f) k with h | ⟨h1, h2, h3⟩
      · omega
      · have := (by_iff hle hn ⟨h1, h2⟩ hk).1 rfl
        cases eh : f.headOf k with
        | false => rfl
        | true => exact absurd this ((head_free hle eh).2 _ ⟨h1, h2⟩)
    | false =>
      have e' : ¬ f.byOf k ≥ 0 := by simpa using e
      have := head_of hle (t := (k : Int)) ⟨by omega, by simpa using hr⟩ (fun i hi he => by
        have := (by_iff hle hn hi hk).2 he
        omega)
      rw [Int.toNat_natCast] at this
      rw [this]; rfl
/-- the number of the first path that begins with a block -/
def headI (paths : List (List Int)) (a : Int) : Int :=
  match paths.findIdx? (fun p => decide (p.length > 0) && headZ p == a) with
  | some i => (i : Int)
  | none => -1
theorem headI_at {paths : List (List Int)} {a : Int} {k : Nat} {p : List Int} (hp : paths[k]? = some p) (h : (decide (p.length > 0) && headZ p == a) = true) (hno : ∀ j q, j < k → paths[j]? = some q → (decide (q.length > 0) && headZ q == a) = false) : headI paths a = (k : Int) := by
  unfold headI
  have hk := (List.getElem?_eq_some_iff.1 hp).1
  have : paths.findIdx? (fun p => decide (p.length > 0) && headZ p == a) = some k := by
    rw [List.findIdx?_eq_some_iff_getElem]
    refine ⟨hk, ?_, fun j hj => ?_⟩
    · rw [(List.getElem?_eq_some_iff.1 hp).2]; exact h
    · have hjl : j < paths.length := by omega
      have := hno j paths[j] hj (List.getElem?_eq_getElem hjl)
      simp only [this]
      decide
  rw [this]
theorem headI_none {paths : List (List Int)} {a : Int} (hno : ∀ p ∈ paths, (decide (p.length > 0) && headZ p == a) = false) : headI paths a = -1 := by
  unfold headI
  rw [List.findIdx?_eq_none_iff.2 (fun p hp => by rw [hno p hp])]
theorem headI_num (hle : f.leads) (hn : f.blocks ≠ []) {c : Nat} (h : f.headOf c = true) : headI f.tpaths c = iget f.nums c := by
  obtain ⟨i, i1, i2⟩ := path_of hle h
  rw [i1]
  refine headI_at i2 (by simp [pathOf, headZ]) (fun j q hj hq => ?_)
  cases e : decide (q.length > 0) && headZ q == (c : Int) with
  | false => rfl
  | true =>
    simp only [Bool.and_eq_true, beq_iff_eq] at e
    have := head_index hq i2 (by rw [e.2]; simp [pathOf, headZ])
    omega
/-- a new block, as the document has it -/
def BFunc.refBlock (f : BFunc) (paths : List (List Int)) (p : List Int) : Block where
  ins := f.joined p
  fin := (f.blockAt (lastOf p)).fin
  v := (f.blockAt (lastOf p)).v
  to := bif (f.blockAt (lastOf p)).fin == 1 || (f.blockAt (lastOf p)).fin == 2 then headI paths (f.blockAt (lastOf p)).to else (f.blockAt (lastOf p)).to
  els := bif (f.blockAt (lastOf p)).fin == 2 then headI paths (f.blockAt (lastOf p)).els else (f.blockAt (lastOf p)).els
theorem refBlock_eq (hle : f.leads) (hn : f.blocks ≠ []) {p : List Int} (hp : p ∈ f.tpaths) : f.refBlock f.tpaths p = f.newBlock p := by
  obtain ⟨k, hk⟩ := List.getElem?_of_mem hp
  obtain ⟨l1, l2, l3⟩ := last_been hle hn hk
  have hR := (reach_cl hle hn).2
  have key : ∀ t ∈ (f.blockAt (lastOf p)).nexts, headI f.tpaths t = iget f.nums t := fun t ht => by
    obtain ⟨h1, h2⟩ := last_head hle hR l1 l2 ht
    rw [← h2]
    exact headI_num hle hn h1
  unfold BFunc.refBlock BFunc.newBlock
  cases e1 : (f.blockAt (lastOf p)).fin == 1 with
  | true =>
    have e2 : ((f.blockAt (lastOf p)).fin == 2) = false := by rw [show (f.blockAt (lastOf p)).fin = 1 by simpa using e1]; rfl
    have := key (f.blockAt (lastOf p)).to (by simp [Block.nexts, e1])
    simp only [e2, Bool.true_or, cond_true, cond_false, this]
  | false =>
    cases e2 : (f.blockAt (lastOf p)).fin == 2 with
    | true =>
      have k1 := key (f.blockAt (lastOf p)).to (by simp [Block.nexts, e1, e2])
      have k2 := key (f.blockAt (lastOf p)).els (by simp [Block.nexts, e1, e2])
      simp only [Bool.or_true, cond_true, k1, k2]
    | false => simp only [Bool.or_false, cond_false]
theorem ref_tidy (hle : f.leads) (hn : f.blocks ≠ []) : f.tpaths.map (f.refBlock f.tpaths) = f.tidy.blocks :=
  List.map_congr_left fun p hp => refBlock_eq hle hn hp
end
end Go.Proofs.Ytidfabbnobipkaa.Sv

namespace Go.Proofs.Ytidfabbnobipkaa.Sv
open Go
set_option linter.unusedVariables false
set_option linter.unusedSimpArgs false

/-- blocks in a row -/
structure Chainy (f : BFunc) (p : List Int) : Prop where
  nd : p.Nodup
  mem : ∀ x, x ∈ p ↔ 0 ≤ x ∧ x < f.blocks.length
  zero : p[0]? = some 0
  next : ∀ (j : Nat) (x y : Int), p[j]? = some x → p[j + 1]? = some y → (f.blockAt x).fin = 1 ∧ (f.blockAt x).to = y
  last : ∀ (j : Nat) (x : Int), p[j]? = some x → p[j + 1]? = none → (f.blockAt x).fin = 3
section
variable {f : BFunc} {p : List Int}
theorem Chainy.get_inj (h : Chainy f p) {i j : Nat} {x : Int} (hi : p[i]? = some x) (hj : p[j]? = some x) : i = j := by
  obtain ⟨a, b⟩ := List.getElem?_eq_some_iff.1 hi
  obtain ⟨c, d⟩ := List.getElem?_eq_some_iff.1 hj
  exact (List.getElem_inj h.nd).1 (b.trans d.symm)
theorem Chainy.nexts (h : Chainy f p) {j : Nat} {x : Int} (hx : p[j]? = some x) : (f.blockAt x).nexts = match p[j + 1]? with | some y => [y] | none => [] := by
  cases e : p[j + 1]? with
  | some y => obtain ⟨h1, h2⟩ := h.next j x y hx e; simp [Block.nexts, h1, h2]
  | none => have h1 := h.last j x hx e; simp [Block.nexts, h1]
theorem Chainy.leads (h : Chainy f p) : f.leads := fun l hl t ht => by
  simp only [BFunc.nexts, List.mem_map] at hl
  obtain ⟨b, hb, rfl⟩ := hl
  obtain ⟨k, hk⟩ := List.getElem?_of_mem hb
  have hkl := (List.getElem?_eq_some_iff.1 hk).1
  have hin : (k : Int) ∈ p := (h.mem k).2 (by omega)
  obtain ⟨j, hj⟩ := List.getElem?_of_mem hin
  have hbk : f.blockAt (k : Int) = b := by simp [BFunc.blockAt, hk]
  have := h.nexts hj
  rw [hbk] at this
  rw [this] at ht
  cases e : p[j + 1]? with
  | none => rw [e] at ht; simp at ht
  | some y =>
    rw [e] at ht
    simp at ht
    subst ht
    exact (h.mem t).1 (List.mem_of_getElem? e)
theorem Chainy.ne (h : Chainy f p) : f.blocks ≠ [] := fun e => by
  have := (h.mem 0).1 (List.mem_of_getElem? h.zero)
  rw [e] at this; simp at this
theorem Chainy.reaches (h : Chainy f p) : ∀ (j : Nat) (x : Int), p[j]? = some x → Reaches f.nexts x
  | 0, x, hx => by rw [h.zero] at hx; cases hx; exact .zero
  | j + 1, x, hx => by
    have hjl := (List.getElem?_eq_some_iff.1 hx).1
    obtain ⟨w, hw⟩ := get_of_lt (l := p) (k := j) (by omega)
    have hwr := (h.mem w).1 (List.mem_of_getElem? hw)
    refine .step w x (h.reaches j w hw) ?_
    rw [row_at h.leads hwr, h.nexts hw, hx]
    simp
theorem Chainy.been (h : Chainy f p) {x : Int} (hx : x ∈ p) : isBeen f.reach x := by
  obtain ⟨j, hj⟩ := List.getElem?_of_mem hx
  exact (reach_is h.leads h.ne x).2 (h.reaches j x hj)
/-- who leads to y stands just ahead of it -/
theorem Chainy.pred (h : Chainy f p) {j : Nat} {x y : Int} (hx : p[j]? = some x) (hy : p[j + 1]? = some y) {i : Nat} (hi : i < f.blocks.length) (hm : y ∈ rowN f.nexts i) : (i : Int) = x ∧ (rowN f.nexts i).count y = 1 := by
  rw [rowN_block h.leads hi] at hm ⊢
  obtain ⟨k, hk⟩ := List.getElem?_of_mem ((h.mem i).2 (by omega))
  rw [h.nexts hk] at hm ⊢
  cases e : p[k + 1]? with
  | none => rw [e] at hm; simp at hm
  | some z =>
    rw [e] at hm
    simp at hm
    subst hm
    have := h.get_inj hy e
    have hkj : k = j := by omega
    subst hkj
    rw [hx] at hk; cases hk
    simp
theorem Chainy.inN (h : Chainy f p) {j : Nat} {x y : Int} (hx : p[j]? = some x) (hy : p[j + 1]? = some y) : f.inN y = 1 := by
  have hxr := (h.mem x).1 (List.mem_of_getElem? hx)
  have hnl := nexts_length f
  have hlt : x.toNat < f.nexts.length := by omega
  have hge : 1 ≤ f.inN y := by
    have h1 := cnt_le (next := f.nexts) (reach := f.reach) (k := y) hlt (h.been (List.mem_of_getElem? hx)).2
    have h2 : 0 < (rowN f.nexts x.toNat).count y := by
      refine List.count_pos_iff.2 ?_
      rw [rowN_block h.leads (by omega), show ((x.toNat : Nat) : Int) = x by omega, h.nexts hx, hy]
      simp
    unfold BFunc.inN
    omega
  have hle : ¬ 2 ≤ f.inN y := fun h2 => by
    rcases cnt_two h2 with ⟨i, k, a, b, c, d, e, g⟩ | ⟨i, a, b, c⟩
    · have h3 := (h.pred hx hy (i := i) (by omega) e).1
      have h4 := (h.pred hx hy (i := k) (by omega) g).1
      omega
    · have hm : y ∈ rowN f.nexts i := List.count_pos_iff.1 (by omega)
      have := (h.pred hx hy (i := i) (by omega) hm).2
      omega
  omega
theorem Chainy.tk (h : Chainy f p) {j : Nat} {x y : Int} (hx : p[j]? = some x) (hy : p[j + 1]? = some y) : iget f.tk x = y := by
  have hxr := (h.mem x).1 (List.mem_of_getElem? hx)
  have hyr := (h.mem y).1 (List.mem_of_getElem? hy)
  obtain ⟨h1, h2⟩ := h.next j x y hx hy
  have hb := (h.been (List.mem_of_getElem? hx)).2
  have hN := h.inN hx hy
  have hw := ways_inN h.leads (k := y) hyr.1
  have hy0 : y ≠ 0 := fun e => by rw [e] at hy; have := h.get_inj hy h.zero; omega
  have hyx : y ≠ x := fun e => by rw [e] at hy; have := h.get_inj hy hx; omega
  have c1 : (y != 0) = true := by rw [bne_iff_ne]; exact hy0
  have c2 : (y != ((x.toNat : Nat) : Int)) = true := by rw [bne_iff_ne]; omega
  rw [tk_at h.leads hxr, takeOf, hb, h1, h2, hw, hN, c1, c2]; rfl
theorem Chainy.tk_last (h : Chainy f p) {j : Nat} {x : Int} (hx : p[j]? = some x) (hy : p[j + 1]? = none) : iget f.tk x = -1 := by
  have hxr := (h.mem x).1 (List.mem_of_getElem? hx)
  rw [tk_at h.leads hxr, takeOf, h.last j x hx hy]
  simp
theorem Chainy.chain (h : Chainy f p) : ∀ (g j : Nat) (x : Int), p[j]? = some x → p.length ≤ j + 1 + g → Sv.chain f.tk g x = p.drop (j + 1)
  | 0, j, x, hx, hl => by rw [List.drop_eq_nil_of_le (by omega)]; rfl
  | g + 1, j, x, hx, hl => by
    unfold Sv.chain
    cases e : p[j + 1]? with
    | none =>
      rw [h.tk_last hx e]
      have : p.length ≤ j + 1 := List.getElem?_eq_none_iff.1 e
      rw [List.drop_eq_nil_of_le this]
      rfl
    | some y =>
      have hyr := (h.mem y).1 (List.mem_of_getElem? e)
      have hne : (iget f.tk x == -1) = false := by rw [h.tk hx e, beq_eq_false_iff_ne]; omega
      rw [hne, cond_false, h.tk hx e, h.chain g (j + 1) y e (by omega)]
      obtain ⟨a, b⟩ := List.getElem?_eq_some_iff.1 e
      rw [List.drop_eq_getElem_cons (i := j + 1) a, b]
theorem Chainy.path (h : Chainy f p) (hl : p.length ≤ f.blocks.length + 1) : pathOf f.tk 0 = p := by
  have htl : f.tk.length = f.blocks.length := takes_length f f.reach
  rw [pathOf, h.chain f.tk.length 0 0 h.zero (by omega)]
  obtain ⟨a, b⟩ := List.getElem?_eq_some_iff.1 h.zero
  have := List.drop_eq_getElem_cons (i := 0) a
  rw [List.drop_zero, b] at this
  exact this.symm
theorem Chainy.head (h : Chainy f p) {k : Nat} (hk : 0 < k) (hkl : k < f.blocks.length) : f.headOf k = false := by
  cases e : f.headOf k with
  | false => rfl
  | true =>
    obtain ⟨j, hj⟩ := List.getElem?_of_mem ((h.mem k).2 (by omega))
    cases j with
    | zero =>
      rw [h.zero] at hj
      have := Option.some.inj hj
      omega
    | succ j =>
      have hjl := (List.getElem?_eq_some_iff.1 hj).1
      obtain ⟨w, hw⟩ := get_of_lt (l := p) (k := j) (by omega)
      have hwr := (h.mem w).1 (List.mem_of_getElem? hw)
      exact absurd (h.tk hw hj) ((head_free h.leads e).2 w hwr)
theorem Chainy.paths (h : Chainy f p) (hl : p.length ≤ f.blocks.length + 1) : f.tpaths = [p] := by
  have hpos : 0 < f.blocks.length := List.length_pos_iff.2 h.ne
  have key : ∀ m, 0 < m → m ≤ f.blocks.length → f.pathsTo m = [p] := fun m => by
    induction m with
    | zero => intro h0; omega
    | succ m ih =>
      intro _ hm
      by_cases h0 : m = 0
      · subst h0
        rw [pathsTo_yes (head_zero h.leads h.ne)]
        show [] ++ [pathOf f.tk ((0 : Nat) : Int)] = [p]
        rw [show ((0 : Nat) : Int) = 0 from rfl, h.path hl]
        rfl
      · rw [pathsTo_no (h.head (k := m) (by omega) (by omega)), ih (by omega) (by omega)]
  exact key _ hpos (Nat.le_refl _)
end

/-! ### the order, by keys -/
/-! ### the blocks -/
end Go.Proofs.Ytidfabbnobipkaa.Sv

namespace Go.Proofs.Ytidfabbnobipkaa.Sv
open Go
set_option linter.unusedVariables false
set_option linter.unusedSimpArgs false

theorem hput_skip {h : AHeap} {b x : Nat} {o : AObj} {r : Option AObj} (hb : Nat.beq x b = false) (hr : h x = r) : hput h b o x = r := by simp only [hput, hb, cond_false, hr]
theorem hFrom_at {k b : Nat} (h : k ≤ b) : hFrom k b = some .free := by
  unfold hFrom
  have : Nat.blt b k = false := by
    cases e : Nat.blt b k with
    | false => rfl
    | true => exact absurd (Nat.blt_eq.mp e) (by omega)
  rw [this]; rfl

section
variable {P : Program} {T : Nat → Option TyI} {o : Oper} {e : AEnv} {h : AHeap}

/-- One operation of which there are several ways to end. -/
def OLocE (P : Program) (o : Oper) (e : AEnv) (h : AHeap) (R : List Nat) (S : List (Nat × AObj) → AV → Prop) : Prop :=
  ∀ (H : Know) (ι : Lay) (a : Act) (w : World) (s : AState) (Q : Exit → Act → World → Prop), Sim H ι s a w →
    (∀ x ∈ o.op.operands, look s.env x = look e x) → (∀ b ∈ R, s.h b = h b) →
    o.wp P a w (fun a' w' => ∃ W r v H' ι', S W r ∧ a' = a.put o.dst v ∧ Rel H' ι' r v ∧ HeapRel H' ι' (hputs s.h W) w' ∧ Step H ι s.h w H' ι' (hputs s.h W) w') Q

theorem AOps.ex {ops : Array Oper} {rest : List Oper} {n : Nat} {K : AState → Prop} (d : Nat) {R : List Nat} {S : List (Nat × AObj) → AV → Prop} (hd : o.dst = some d) (hb : Nat.blt d n = true) (hg : guardIs ops o e = some true) (ho : OLocE P o e h R S)
    (hr : ∀ W r, S W r → AOps P ops rest ⟨n, eput e d r, hputs h W⟩ K) : AOps P ops (o :: rest) ⟨n, e, h⟩ K := by
  intro H ι a w hs
  unfold wpList
  rw [guard_wanted hs hg]
  simp only [if_true]
  refine .inl (Oper.wp_mono (fun a' w' hx => ?_) (ho H ι a w ⟨n, e, h⟩ _ hs (fun _ _ => rfl) (fun _ _ => rfl)))
  obtain ⟨W, r, v, H', ι', hS, rfl, h1, h2, h3⟩ := hx
  have hs' := hs.put (d := o.dst) (r := some r) h2 h3 (fun x ex => by cases ex; exact h1) (lt_of hd hb)
  rw [hd] at hs' ⊢
  have := hr W r hS H' ι' _ w' hs'
  have key : ∀ (l : List Oper) (a1 : Act) (w1 : World), wpList P ops (Post H' ι' (hputs h W) w' (Then K fun _ _ => False)) l a1 w1 → wpList P ops (Post H ι h w (Then K fun _ _ => False)) l a1 w1 := by
    have hpost : ∀ e a2 w2, Post H' ι' (hputs h W) w' (Then K fun _ _ => False) e a2 w2 → Post H ι h w (Then K fun _ _ => False) e a2 w2 := fun e a2 w2 hp => Post.step hs.heap h2 h3 hp
    intro l
    induction l with
    | nil => exact fun a1 w1 hp => hpost _ _ _ hp
    | cons o' l ih =>
      intro a1 w1 hp
      unfold wpList at hp ⊢
      by_cases hw : Region.wanted o' (yielded ops a1.tmps) = true
      · rw [if_pos hw] at hp ⊢
        rcases hp with hp | ⟨hp1, a2, w2, hp2⟩
        · refine .inl ?_
          have hp' := Oper.wp_mono (fun a2 w2 => ih a2 w2) hp
          clear hp
          unfold Oper.wp at hp' ⊢
          generalize (execOp a1.eval o').run P w1 = res at hp' ⊢
          cases res with
          | ok n w3 =>
            cases n <;> simp only [Oper.upon] at hp' ⊢ <;> first
              | exact hp'
              | exact Calls.mono hp' (fun e w4 he => by cases e <;> first | exact he | exact hpost _ _ _ he | (obtain ⟨a3, w5, hp3⟩ := he; exact ⟨a3, w5, hpost _ _ _ hp3⟩))
          | halt x w3 => cases x <;> simp only [Oper.upon] at hp' ⊢ <;> first | exact hpost _ _ _ hp' | exact hp'
        · exact .inr ⟨hp1, a2, w2, hpost _ _ _ hp2⟩
      · rw [if_neg hw] at hp ⊢
        exact ih _ _ hp
  exact key _ _ _ this

theorem run_append_room_at {w : World} (t tx ty u : TypeId) (i : TypeInfo) (ht : P.underlying t = some (.slice u)) (hi : P.info? u = some i) (g b0 sLen sCap : Nat) (cur : Array Value) (TT : TypeId) (hg : w.heap[g]? = some (.cells cur TT)) (x : Value) (n : Nat) (news : List Value)
    (hs : Src P i.size tx x n news w) (hroom : sLen + n ≤ sCap) (hfit : b0 + sLen * i.size + news.length ≤ cur.size) :
    (Builtin.append_ #[t, tx] ty #[.slice (some ⟨g, b0, none⟩) sLen sCap, x]).run P w = .ok (.slice (some ⟨g, b0, none⟩) (sLen + n) sCap)
      (w.setRow g (cur.toList.take (b0 + sLen * i.size) ++ news ++ cur.toList.drop (b0 + sLen * i.size + news.length)).toArray) := by
  have hst := run_storeCells_at P g (b0 + sLen * i.size) TT news 0 cur w hg (by simpa using hfit) hs.one
  simp only [Nat.add_zero] at hst
  rcases hs.kind with ⟨e', hk⟩ | hk <;> simp [Builtin.append_, run_underlying ht, run_underlying hk, sizeOf, typeInfo, hi, hs.len, hroom, hs.cells, Addr.add_lit, hst]

/-- put behind a slice that is its row's end, wherever it begins -/
theorem o_appendQ (hT : TOk P T) {t t' : TypeId} {x y : Operand} {i i' j : TyI} {u u' : Nat} {b n off len : Nat} {sz : Nat} {es : List (List AV)} {cs2 : List AV} {q : AV} {R : List Nat} (b' : Nat)
    (ho : o.op = .call { callee := .builtin .append, args := #[x, y], argTypes := #[t, t'] }) (hx : look e x = some (.ref b n off len)) (hy : look e y = some q) (hi : T t = some i) (hk : i.k = .slice u) (hj : T u = some j) (hi' : T t' = some i') (hk' : i'.k = .slice u')
    (hb : h b = some (.row true sz es)) (hb0 : h b' = some .free) (hn : n = es.length) (hoff : off + len = n) (hsz : sz = j.size) (hz : j.zero.length = j.size) (hp : 0 < j.size)
    (hsrc : SrcOf h q R [cs2]) (hu2 : cs2.length = sz) (hpure : cs2.all AV.isPure1 = true) (hby : (len + 1) * j.bytes ≤ 140737488355328) (hml : len + 1 ≤ maxLen) :
    OLocE P o e h (b :: b' :: R) (fun W r => (W = [(b, .row true sz (es ++ [cs2]))] ∧ r = .ref b (n + 1) off (len + 1)) ∨ (W = [(b', .row true sz (es.drop off ++ [cs2]))] ∧ r = .ref b' (len + 1) 0 (len + 1))) := by
  intro H ι a w s Q hs g1 g2
  have hx' : look s.env x = some (.ref b n off len) := by rw [g1 x (by rw [ho]; simp [Op.operands, Call.operands]), hx]
  have hy' : look s.env y = some q := by rw [g1 y (by rw [ho]; simp [Op.operands, Call.operands]), hy]
  have hb1 : s.h b = some (.row true sz es) := by rw [g2 b (by simp), hb]
  have hb2 : s.h b' = some .free := by rw [g2 b' (by simp), hb0]
  have hsrc' := hsrc.agree (h' := s.h) (fun c hc => g2 c (by simp [hc]))
  obtain ⟨info, d, e1, e2, e3, e4, e5, e6⟩ := tyOf_spec (hT _ _ hi)
  obtain ⟨infou, du, f1, f2, f3, f4, f5, f6⟩ := tyOf_spec (hT _ _ hj)
  obtain ⟨info', d', e1', e2', e3', e4', e5', e6'⟩ := tyOf_spec (hT _ _ hi')
  have hd := tk_slice (P := P) (d := d) (e3 ▸ hk)
  subst hd
  have hd' := tk_slice (P := P) (d := d') (e3' ▸ hk')
  subst hd'
  subst hsz; subst hn
  obtain ⟨z, hz1, hz2⟩ := zero_spec f6 hz hp
  have hzl : z.cells.size = j.size := by rw [← hz]; simpa using (allAV_rel (H := H) (ι := noLay) hz2).1.symm
  obtain ⟨r, hl, ⟨r1, r2, r3, r4, r5, r6⟩, r7⟩ := hs.heap.obj b _ hb1 rfl
  have hvx := look_rel hs hx'
  have hvy := look_rel hs hy'
  generalize hva : a.eval x = va at hvx
  generalize hvb : a.eval y = vb at hvy
  have hexec : ∀ (v : Value) (w' : World), (Builtin.append_ #[t, t'] o.type #[va, vb]).run P w = .ok v w' → (execOp a.eval o).run P w = .ok (.value v) w' := fun v w' hrun => by
    simp only [execOp, ho, resolve, invoke, builtin, Sem.run_bind, Sem.run_pure, Result.andThen_ok, List.map_toArray, List.map_cons, List.map_nil, hva, hvb, hrun]
  obtain ⟨news, hsrcw, hnews⟩ := src_of hs.heap hsrc' hvy e2' hp (by intro cs h; simp at h; subst h; exact hu2) w rfl
  rw [← f4] at hsrcw
  have hnl : news.length = j.size := by rw [hsrcw.newsLen, f4]; simp
  have hnewsp : ∀ (i : Nat) (cs : List AV) (k : Nat) (y : AV), [cs2][i]? = some cs → cs[k]? = some y → ∃ v, news[i * j.size + k]? = some v ∧ Rel H noLay y v ∧ y.cell1 = true := fun i cs k y h1 h2 => by
    obtain ⟨v, k1, k2, k3⟩ := hnews i cs k y h1 h2
    have : cs = cs2 := by have := List.mem_of_getElem? h1; simpa using this
    subst this
    exact ⟨v, k1, pure1_rel (List.all_eq_true.1 hpure y (List.mem_of_getElem? h2)) k2, k3⟩
  have h63 : ((len + 1 : Nat) : Int) ≤ 9223372036854775807 := by
    have := hml; simp only [maxLen] at this; omega
  -- a new place
  have hgrow : ∀ (base : Option Addr) (cap : Nat) (olds : List Value), va = .slice base len cap → (Builtin.firstCells infou.size len (.slice base len cap)).run P w.drew = .ok olds.toArray w.drew → olds.length = len * j.size →
      (∀ (i : Nat) (cs : List AV) (k : Nat) (x : AV), (es.drop off)[i]? = some cs → cs[k]? = some x → ∃ v, olds[i * j.size + k]? = some v ∧ Rel H noLay x v ∧ x.cell1 = true) → cap < len + 1 →
      o.wp P a w (fun a' w' => ∃ W r v H' ι', ((W = [(b, .row true j.size (es ++ [cs2]))] ∧ r = AV.ref b (es.length + 1) off (len + 1)) ∨ (W = [(b', .row true j.size (es.drop off ++ [cs2]))] ∧ r = AV.ref b' (len + 1) 0 (len + 1))) ∧ a' = a.put o.dst v ∧ Rel H' ι' r v ∧ HeapRel H' ι' (hputs s.h W) w' ∧ Step H ι s.h w H' ι' (hputs s.h W) w') Q := by
    intro base cap olds hv hold hol holdr hlt
    have hfit : Builtin.nextslicecap (len + 1) cap * infou.bytes ≤ 281474976710656 := growslice_fits hlt (by rw [f5]; exact hby)
    have hrun := run_append_grow_src (P := P) w t t' o.type u infou z e2 f1 hz1 base len cap olds hold vb 1 news hsrcw hlt h63 hfit
    have hge := grownCap_ge w (len + 1) cap u
    have hcm : grownCap w (len + 1) cap u ≤ maxLen := grownCap_le_maxLen w _ cap u hml
    generalize hcc : grownCap w (len + 1) cap u = nc at *
    generalize hC : (olds ++ news).toArray ++ Builtin.zeroCells z.cells (nc - (len + 1)) = C at *
    have hCs : C.size = nc * j.size := by
      rw [← hC, Array.size_append, size_zeroCells, hzl]
      simp only [List.size_toArray, List.length_append, hol, hnl]
      rw [show len * j.size + j.size = (len + 1) * j.size by rw [Nat.add_mul, Nat.one_mul], ← Nat.add_mul]
      congr 1; omega
    have hCg : ∀ k, k < olds.length + news.length → C[k]? = (olds ++ news)[k]? := fun k hk => by
      rw [← hC, Array.getElem?_append_left (by simp; omega)]
      simp
    have hdl : (es.drop off).length = len := by rw [List.length_drop]; omega
    have hrow : rowCells H noLay j.size (es.drop off ++ [cs2]) C :=
      rowCells_append (by rw [hdl]; exact hol) (by simpa using hnl) (by intro cs h; simp at h; subst h; exact hu2) (fun i cs h => r5 (off + i) cs (by rw [List.getElem?_drop] at h; exact h)) holdr hnewsp hCg
    have hlen2 : (es.drop off ++ [cs2]).length = len + 1 := by rw [List.length_append, hdl]; rfl
    obtain ⟨u1, u2⟩ := new_row hs.heap (w0 := w.drew) rfl rfl rfl hb2 true (sz := j.size) (es := es.drop off ++ [cs2]) (c := C) u hp (by rw [hlen2, hCs]; exact Nat.mul_le_mul_right _ hge) hrow
    have hex := hexec _ _ (hv ▸ hrun)
    unfold Oper.wp
    rw [hex]
    refine ⟨[(b', .row true j.size (es.drop off ++ [cs2]))], .ref b' (len + 1) 0 (len + 1), _, H, _, .inr ⟨rfl, rfl⟩, rfl, ?_, u1, u2⟩
    have := Rel.refL (H := H) (lput ι b' ⟨w.heap.size, j.size, (es.drop off ++ [cs2]).length, C.size⟩) b' (len + 1) 0 (len + 1) nc _ (lput_same _ _ _) hlen2 (by omega) hge (by simp [hCs]) hcm
    simpa using this
  by_cases hsol : r.csz = 0
  · obtain ⟨hl0, ad, rfl, hsp⟩ := hvx.ref_dry hl (by omega) hsol (by omega)
    refine hgrow ad 0 [] (by rw [hl0]) ?_ (by simp [hl0]) (fun i cs k x h1 => ?_) (by omega)
    · rw [hl0]
      cases ad <;> simp [Builtin.firstCells, loadCells, loadCellsFrom]
    · rw [List.getElem?_eq_none (by rw [List.length_drop]; omega)] at h1; cases h1
  · obtain ⟨hlen, cap, hvv, hlc, hcap, hmax⟩ := hvx.ref_live hl (by omega) hsol
    obtain ⟨c, TT, w1, w2, w3⟩ := r6 hsol
    have hcs : c.size = (off + cap) * j.size := by rw [w2, ← hcap, r1]
    rw [r1] at hvv
    have hmul : (off + len) * j.size = off * j.size + len * j.size := Nat.add_mul _ _ _
    by_cases hroom : len + 1 ≤ cap
    · -- in place
      have hfit : off * j.size + len * infou.size + news.length ≤ c.size := by
        rw [hnl, f4, hcs, ← hmul]
        have : (off + len + 1) * j.size ≤ (off + cap) * j.size := Nat.mul_le_mul_right _ (by omega)
        rw [Nat.add_mul (off + len), Nat.one_mul] at this
        exact this
      have hrun := run_append_room_at (P := P) (w := w) t t' o.type u infou e2 f1 r.rb (off * j.size) len cap c TT w1 vb 1 news hsrcw hroom hfit
      rw [f4] at hrun hfit
      have hstart : off * j.size + len * j.size = es.length * j.size := by rw [← hmul, hoff]
      rw [hstart] at hrun hfit
      generalize hC : (c.toList.take (es.length * j.size) ++ news ++ c.toList.drop (es.length * j.size + news.length)).toArray = C at *
      have hCs : C.size = c.size := by rw [← hC]; simp; omega
      have holdl : (c.toList.take (es.length * j.size)).length = es.length * j.size := by simp; omega
      have hCg : ∀ k, k < (c.toList.take (es.length * j.size)).length + news.length → C[k]? = (c.toList.take (es.length * j.size) ++ news)[k]? := fun k hk => by
        rw [← hC]
        simp only [List.getElem?_toArray]
        rw [List.getElem?_append_left (by rw [List.length_append]; exact hk)]
      have hll : LLe ι (lput ι b ⟨r.rb, j.size, es.length + 1, r.csz⟩) := LLe.put fun r' hr' => by
        rw [hl] at hr'; cases hr'
        exact .inr ⟨by show r.n < es.length + 1; omega, by omega, r1.symm⟩
      have hrow : rowCells H noLay j.size (es ++ [cs2]) C := by
        refine rowCells_append holdl (by simpa using hnl) (by intro cs h; simp at h; subst h; exact hu2) r5 (fun i cs k x h1 h2 => ?_) hnewsp hCg
        obtain ⟨v, k1, k2, k3⟩ := w3.2 i cs k x h1 h2
        have hi : i < es.length := (List.getElem?_eq_some_iff.1 h1).1
        have hkk : k < j.size := by rw [← r5 i cs h1]; exact (List.getElem?_eq_some_iff.1 h2).1
        refine ⟨v, by rw [List.getElem?_take_of_lt (mul_add_lt_mul hi hkk), Array.getElem?_toList]; exact k1, k2, k3⟩
      obtain ⟨u1, u2⟩ := hs.heap.upd (w' := w.setRow r.rb C) (o0 := .row true j.size es) (o' := .row true j.size (es ++ [cs2])) (r' := ⟨r.rb, j.size, es.length + 1, r.csz⟩) hb1 rfl
        (.inr ⟨r, hl, rfl, .inr ⟨by show r.n < es.length + 1; omega, by omega, r1.symm⟩⟩) (fun _ => .inr ⟨r, hl, rfl, hsol, rfl⟩)
        (fun rb hlt' hne => setRow_other w r.rb rb _ (hne r hl rfl hsol)) (by simp) (setRow_os _ _ _) (setRow_out _ _ _)
        ⟨rfl, hp, by simp, by rw [List.length_append]; show (es.length + 1) * j.size ≤ r.csz; rw [← w2, Nat.add_mul, Nat.one_mul]; omega, hrow.1, fun _ => ⟨C, TT, setRow_heap w r.rb c C TT _ w1, hCs.trans w2, hrow⟩⟩
      have hex := hexec _ _ (hvv ▸ hrun)
      unfold Oper.wp
      rw [hex]
      refine ⟨[(b, .row true j.size (es ++ [cs2]))], .ref b (es.length + 1) off (len + 1), _, H, _, .inl ⟨rfl, rfl⟩, rfl, ?_, u1, u2⟩
      have := Rel.refL (H := H) (lput ι b ⟨r.rb, j.size, es.length + 1, r.csz⟩) b (es.length + 1) off (len + 1) cap _ (lput_same _ _ _) rfl (by omega) hroom (by show (off + cap) * j.size = r.csz; rw [← hcap, r1]) hmax
      exact this
    · have hle : off * j.size + len * j.size ≤ c.size := by rw [← hmul, hcs]; exact Nat.mul_le_mul_right _ (by omega)
      have hol : ((c.toList.drop (off * j.size)).take (len * j.size)).length = len * j.size := by simp; omega
      have hold : ∀ k, k < len * j.size → ((c.toList.drop (off * j.size)).take (len * j.size))[k]? = c[off * j.size + k]? := fun k hk => by
        rw [List.getElem?_take_of_lt hk, List.getElem?_drop, Array.getElem?_toList]
      refine hgrow (some ⟨r.rb, off * j.size, none⟩) cap ((c.toList.drop (off * j.size)).take (len * j.size)) hvv ?_ hol (fun i cs k x h1 h2 => ?_) (by omega)
      · rw [f4]
        refine run_firstCells_some (P := P) w.drew j.size len ⟨r.rb, off * j.size, none⟩ len cap _ hol (fun k v hk => ?_)
        have hkl : k < len * j.size := by
          have := (List.getElem?_eq_some_iff.1 hk).1
          omega
        rw [hold k hkl] at hk
        rw [add_mk, World.cell?_drew, cell_row w1]
        exact hk
      · rw [List.getElem?_drop] at h1
        obtain ⟨v, k1, k2, k3⟩ := w3.2 (off + i) cs k x h1 h2
        have hi : off + i < es.length := (List.getElem?_eq_some_iff.1 h1).1
        have hkk : k < j.size := by rw [← r5 (off + i) cs h1]; exact (List.getElem?_eq_some_iff.1 h2).1
        refine ⟨v, ?_, k2, k3⟩
        rw [hold _ (mul_add_lt_mul (by omega) hkk), ← Nat.add_assoc, ← Nat.add_mul]
        exact k1

/-- x[l:] of a slice -/
theorem o_sliceQ (hT : TOk P T) {t : TypeId} {x y : Operand} {b n off len : Nat} {sz : Nat} {es : List (List AV)} {i j : TyI} {u : Nat} {k : IntKind} {z : Int} (b' l : Nat) (ho : o.op = .slice t x (some y) none none) (hx : look e x = some (.ref b n off len)) (hy : look e y = some (.int k z)) (ht : T t = some i) (hk : i.k = .slice u) (hj : T u = some j)
    (hb : h b = some (.row true sz es)) (hb0 : h b' = some .free) (hn : n = es.length) (hz : z = (l : Int)) (hl : l ≤ len) (hsz : sz = j.size) (hp : 0 < j.size) :
    OLocE P o e h [b, b'] (fun W r => (W = [] ∧ r = .ref b n (off + l) (len - l)) ∨ (l = len ∧ W = [(b', .row true sz [])] ∧ r = .ref b' 0 0 0)) := by
  intro H ι a w s Q hs g1 g2
  have hx' : look s.env x = some (.ref b n off len) := by rw [g1 x (by rw [ho]; simp [Op.operands]), hx]
  have hy' : look s.env y = some (.int k z) := by rw [g1 y (by rw [ho]; simp [Op.operands]), hy]
  have hb1 : s.h b = some (.row true sz es) := by rw [g2 b (by simp), hb]
  have hb2 : s.h b' = some .free := by rw [g2 b' (by simp), hb0]
  subst hz
  obtain ⟨info, d, e1, e2, e3, e4, e5, e6⟩ := tyOf_spec (hT _ _ ht)
  obtain ⟨info', d', e1', e2', e3', e4', e5', e6'⟩ := tyOf_spec (hT _ _ hj)
  have hd := tk_slice (P := P) (d := d) (e3 ▸ hk)
  subst hd
  have hvx := look_rel hs hx'
  have hvy := (look_rel hs hy').int_inv
  generalize hva : a.eval x = va at hvx
  obtain ⟨r, hlay, ⟨r1, r2, r3, r4, r5, r6⟩, r7⟩ := hs.heap.obj b _ hb1 rfl
  have hrun : ∀ (ad : Option Addr) (cap : Nat), len ≤ cap → va = .slice ad len cap → (execOp a.eval o).run P w = .ok (.value (.slice (if cap = l then ad else ad.map (·.add (l * j.size))) (len - l) (cap - l))) w := fun ad cap hcap hv => by
    simp only [execOp, ho, hva, hv, hvy, Instr.sliceAt, Instr.slice, Option.map_none, Option.map_some, Sem.run_bind, run_underlying' e2, Result.andThen_ok, run_isz e1', e4', Sem.run_pure]
    simp [Instr.sliceBounds, Instr.sliceBound, asIntOf, hcap, hl]
  -- nothing is left, and no room
  have hdry : ∀ (ad : Option Addr) (cap : Nat), va = .slice ad len cap → cap = len → l = len → o.wp P a w (fun a' w' => ∃ W r v H' ι', ((W = [] ∧ r = AV.ref b n (off + l) (len - l)) ∨ (l = len ∧ W = [(b', .row true sz [])] ∧ r = AV.ref b' 0 0 0)) ∧ a' = a.put o.dst v ∧ Rel H' ι' r v ∧ HeapRel H' ι' (hputs s.h W) w' ∧ Step H ι s.h w H' ι' (hputs s.h W) w') Q := by
    intro ad cap hv hc hll
    have hr := hrun ad cap (by omega) hv
    obtain ⟨u1, u2⟩ := hs.heap.dry hb2 true (sz := sz) (by omega)
    unfold Oper.wp
    rw [hr]
    refine ⟨[(b', .row true sz [])], .ref b' 0 0 0, _, H, _, .inr ⟨hll, rfl, rfl⟩, rfl, ?_, u1, u2⟩
    rw [show len - l = 0 by omega, show cap - l = 0 by omega, if_pos (by omega)]
    exact .ref0 _ b' _ ad (lput_same _ _ _) rfl rfl trivial
  by_cases hsol : r.csz = 0
  · obtain ⟨hl0, ad, rfl, hsp⟩ := hvx.ref_dry hlay (by omega) hsol (by omega)
    exact hdry ad 0 (by rw [hl0]) hl0.symm (by omega)
  · obtain ⟨hlen, cap, hvv, hlc, hcap, hmax⟩ := hvx.ref_live hlay (by omega) hsol
    by_cases hc : cap - l = 0
    · exact hdry _ cap hvv (by omega) (by omega)
    · have hr := hrun _ cap (by omega) hvv
      rw [if_neg (by omega)] at hr
      unfold Oper.wp
      rw [hr]
      refine ⟨[], .ref b n (off + l) (len - l), _, H, ι, .inl ⟨rfl, rfl⟩, rfl, ?_, hs.heap, Step.refl _ _ _ _⟩
      have := Rel.refL (H := H) ι b n (off + l) (len - l) (cap - l) r hlay (by omega) (by omega) (by omega) (by rw [show off + l + (cap - l) = off + cap by omega]; exact hcap) (by omega)
      rw [Nat.add_mul, r1, hsz] at this
      simp only [Option.map_some, add_mk]
      rw [r1, hsz]
      exact this

end
end Go.Proofs.Ytidfabbnobipkaa.Sv

namespace Go.Proofs.Ytidfabbnobipkaa.Sv
open Go
set_option linter.unusedVariables false
set_option linter.unusedSimpArgs false

structure QG where
  s : BS
  es : List Int
  off : Nat
  g : Nat
  gas : Nat
structure QInv (next : List (List Int)) (q : QG) : Prop where
  inv : BInv next q.s
  qe : q.s.q = q.es.drop q.off
  off : q.off ≤ q.es.length
  mu : bmu q.s < q.gas
  le : q.gas ≤ next.length + 1
  tgt : (brun next q.gas q.s).been = breach next
structure QI where
  j : Nat
  es : List Int
  off : Nat
  g : Nat
structure QIInv (been : List Bool) (tl : List Int) (row : List Int) (i : QI) : Prop where
  off : i.off ≤ i.es.length
  q : i.es.drop i.off = ((row.take i.j).foldl binto ⟨been, tl⟩).q
theorem bintosSucc {row : List Int} {j : Nat} {y : Int} (h : row[j]? = some y) (s : BS) : (row.take (j + 1)).foldl binto s = binto ((row.take j).foldl binto s) y := by
  rw [take_succ_eq h, List.foldl_append]; rfl
theorem QInv.first {next : List (List Int)} (hn : next ≠ []) : QInv next ⟨bstart next.length, [0], 0, 0, next.length + 1⟩ := by
  obtain ⟨i1, _, i3⟩ := bstart_inv hn
  exact ⟨i1, rfl, Nat.zero_le _, i3, Nat.le_refl _, rfl⟩
theorem QInv.len {next : List (List Int)} {q : QG} (h : QInv next q) (hq : q.s.q ≠ []) {row : List Int} {i : QI} (hi : QIInv q.s.been q.s.q.tail row i) : i.es.length - i.off ≤ next.length := by
  have h1 : i.es.length - i.off = ((row.take i.j).foldl binto ⟨q.s.been, q.s.q.tail⟩).q.length := by rw [← hi.q, List.length_drop]
  have h2 := bintos_mu (row.take i.j) ⟨q.s.been, q.s.q.tail⟩
  have h3 := h.mu
  have h4 := h.le
  have h5 : bmu ⟨q.s.been, q.s.q.tail⟩ ≤ bmu q.s := by simp [bmu]
  have h6 : ((row.take i.j).foldl binto ⟨q.s.been, q.s.q.tail⟩).q.length ≤ bmu ((row.take i.j).foldl binto ⟨q.s.been, q.s.q.tail⟩) := Nat.le_add_left _ _
  omega
theorem QInv.next {next : List (List Int)} {q : QG} (h : QInv next q) (hq : q.s.q ≠ []) {a : Int} (ha : q.s.q = a :: q.s.q.tail) {row : List Int} (hr : rowAt next a = row) {i : QI} (hi : QIInv q.s.been q.s.q.tail row i) (hj : row.length ≤ i.j) :
    QInv next ⟨bround next q.s, i.es, i.off, i.g, q.gas - 1⟩ ∧ q.gas - 1 < q.gas ∧ (row.take i.j).foldl binto ⟨q.s.been, q.s.q.tail⟩ = bround next q.s := by
  have hb : (row.take i.j).foldl binto ⟨q.s.been, q.s.q.tail⟩ = bround next q.s := by
    rw [List.take_of_length_le hj]
    unfold bround
    rw [ha]
    simp only [List.tail_cons, hr]
  have hm := bround_mu (next := next) hq
  have hmu := h.mu
  have hle := h.le
  refine ⟨⟨bround_ok h.inv, by rw [← hb]; exact hi.q.symm, hi.off, by show bmu (bround next q.s) < q.gas - 1; omega, by show q.gas - 1 ≤ _; omega, ?_⟩, by omega, hb⟩
  rw [← h.tgt]
  show _ = (brun next q.gas q.s).been
  rw [show q.gas = (q.gas - 1) + 1 by omega, brun_step hq, Nat.add_sub_cancel]
theorem QInv.done {next : List (List Int)} {q : QG} (h : QInv next q) (hl : q.es.length - q.off = 0) : q.s.been = breach next := by
  have : q.s.q = [] := by rw [h.qe]; exact List.drop_eq_nil_of_le (by omega)
  rw [← h.tgt, brun_end this]
theorem nb1 {been : List Bool} {b : Int} (h : decide (b ≥ 0) = false) : notBeen been b = false := by simp only [notBeen, h, Bool.false_and]
theorem nb2 {been : List Bool} {b n : Int} (h : decide (b < n) = false) (hn : n = been.length) : notBeen been b = false := by
  subst hn; simp only [notBeen, h, Bool.false_and, Bool.and_false]
theorem nb3 {been : List Bool} {b : Int} (h : (!bget been b) = false) : notBeen been b = false := by
  unfold bget at h
  unfold notBeen
  cases e : been[b.toNat]? with
  | none => rw [e] at h; simp at h
  | some v => rw [e] at h; simp at h; subst h; simp
theorem nbT {been : List Bool} {b : Int} (h0 : 0 ≤ b) (h1 : b < been.length) (h : (!bget been b) = true) : notBeen been b = true := by
  obtain ⟨v, hv⟩ := get_of_lt (l := been) (k := b.toNat) (by omega)
  unfold bget at h
  unfold notBeen
  rw [hv] at h ⊢
  simp only [Option.getD_some] at h ⊢
  simp [h0, h1]
  simpa using h
theorem refQ1 {g : Nat} {es : List Int} {off : Nat} (y : Int) (h : off ≤ es.length) : some (AV.ref (g + 1) (es.length + 1) off (es.length - off + 1)) = some (AV.ref (g + 1) (es ++ [y]).length off ((es ++ [y]).length - off)) := by
  have h1 : (es ++ [y]).length = es.length + 1 := by simp
  rw [h1, show es.length + 1 - off = es.length - off + 1 by omega]
theorem refQ2 {g : Nat} {es : List Int} {off : Nat} (y : Int) : some (AV.ref (g + 2) (es.length - off + 1) 0 (es.length - off + 1)) = some (AV.ref (g + 1 + 1) (es.drop off ++ [y]).length 0 ((es.drop off ++ [y]).length - 0)) := by
  have h1 : (es.drop off ++ [y]).length = es.length - off + 1 := by simp
  rw [h1]; rfl
theorem rowQ2 {es : List Int} {off : Nat} {y : Int} : (intCells es).drop off ++ [[AV.int .i64 y]] = intCells (es.drop off ++ [y]) := by simp [intCells]
theorem rowQ1 {es : List Int} {y : Int} : intCells es ++ [[AV.int .i64 y]] = intCells (es ++ [y]) := by simp [intCells]
end Go.Proofs.Ytidfabbnobipkaa.Sv

namespace Go.Proofs.Ytidfabbnobipkaa.Sv
open Go
set_option linter.unusedVariables false
set_option linter.unusedSimpArgs false

theorem joined_le {f : BFunc} {m : Nat} (hf : ∀ x ∈ f.blocks, x.ins.length ≤ m) : ∀ (p : List Int), (f.joined p).length ≤ p.length * m
  | [] => by simp [BFunc.joined]
  | i :: r => by
    have ih := joined_le hf r
    have hi : (f.blockAt i).ins.length ≤ m := by
      unfold BFunc.blockAt
      cases e : f.blocks[i.toNat]? with
      | none => simp
      | some x => exact hf x (List.mem_of_getElem? e)
    simp only [BFunc.joined, List.flatMap_cons, List.length_append, List.length_cons] at ih ⊢
    rw [Nat.add_mul, Nat.one_mul]
    omega
end Go.Proofs.Ytidfabbnobipkaa.Sv

namespace Go.Proofs.Ytidfabbnobipkaa.Sv
open Go
set_option linter.unusedVariables false
set_option linter.unusedSimpArgs false

/-- less is known of a cell -/
theorem Ghost.weakCell {n : Nat} {e : AEnv} {h : AHeap} (b0 i j : Nat) {p : Bool} {sz0 : Nat} {es : List (List AV)} {cs : List AV} {x : AV} (y : AV) (hb0 : h b0 = some (.row p sz0 es)) (hi : es[i]? = some cs) (hj : cs[j]? = some x) (hxy : ∀ H ι v, Rel H ι x v → Rel H ι y v) (h1 : y.cell1 = true) :
    Ghost ⟨n, e, h⟩ ⟨n, e, hput h b0 (.row p sz0 (es.set i (cs.set j y)))⟩ := fun H ι a w hs => by
  obtain ⟨u1, u2⟩ := hs.heap.recell hb0 hi hj (y := y) (fun v hv => hxy _ _ v hv) h1
  exact ⟨H, ι, ⟨hs.n, hs.d, hs.env, u1⟩, u2⟩

section
variable {next : List (List Int)} {reach : List Bool} {a : Int} {i k : Nat} {r : Bool} {row : List Int}
theorem cnt_row (hr : reach[i]? = some r) (hrow : next[i]? = some row) (h1 : k = 0 ∨ r = true) (h2 : row.length ≤ k ∨ r = false) : cntTo next reach a i + (row.take k).count a = cntTo next reach a (i + 1) := by
  show _ = cntTo next reach a i + (bif (reach[i]?).getD false then (rowN next i).count a else 0)
  rw [hr, Option.getD_some]
  cases r with
  | false =>
    have : k = 0 := by simpa using h1
    subst this; simp
  | true =>
    have : row.length ≤ k := by simpa using h2
    rw [List.take_of_length_le this]
    simp [rowN, hrow]
def frA (i : Nat) (fr : Int) (row : List Int) (a : Int) : Int := bif row.contains a then (i : Int) else fr
theorem from_row (hr : reach[i]? = some r) (hrow : next[i]? = some row) (h1 : k = 0 ∨ r = true) (h2 : row.length ≤ k ∨ r = false) : frA i (fromTo next reach a i) (row.take k) a = fromTo next reach a (i + 1) := by
  show _ = bif (reach[i]?).getD false && (rowN next i).contains a then (i : Int) else fromTo next reach a i
  rw [hr, Option.getD_some]
  cases r with
  | false =>
    have : k = 0 := by simpa using h1
    subst this; simp [frA]
  | true =>
    have : row.length ≤ k := by simpa using h2
    rw [List.take_of_length_le this]
    simp [rowN, hrow, frA]
theorem frA_hit {y fr : Int} (hy : row[k]? = some y) (h : (y == a) = true) : (i : Int) = frA i fr (row.take (k + 1)) a := by
  rw [take_succ_eq hy, frA]
  have : y = a := by simpa using h
  subst this
  simp
theorem frA_miss {y fr : Int} (hy : row[k]? = some y) (h : (y == a) = false) : frA i fr (row.take k) a = frA i fr (row.take (k + 1)) a := by
  rw [take_succ_eq hy, frA, frA]
  have : ((row.take k ++ [y]).contains a) = (row.take k).contains a := by
    rw [List.contains_append]
    have h2 : ([y].contains a) = false := by
      have : y ≠ a := by simpa using h
      simp; exact fun e => this e.symm
    rw [h2, Bool.or_false]
  rw [this]
end
section
variable {f : BFunc} {k : Nat}
theorem inFrom_range (h : (((f.inN (k : Int) : Nat) : Int) == 1) = true) : 0 ≤ f.inFrom (k : Int) ∧ f.inFrom (k : Int) < f.blocks.length := by
  have h1 : f.inN (k : Int) = 1 := by
    have : ((f.inN (k : Int) : Nat) : Int) = 1 := by simpa using h
    omega
  obtain ⟨i, i1, i2, i3⟩ := from_ge f.nexts.length (show 0 < f.inN (k : Int) by omega)
  have := nexts_length f
  unfold BFunc.inFrom
  rw [i2]
  omega
theorem by_no1 (h : decide ((k : Int) > 0) = false) : f.byOf k = -1 := by
  have : decide (0 < k) = false := by
    have : ¬ (k : Int) > 0 := by simpa using h
    exact decide_eq_false (by omega)
  unfold BFunc.byOf; rw [this]; rfl
theorem by_no2 {r : Bool} (hr : f.reach[k]? = some r) (h : r = false) : f.byOf k = -1 := by
  unfold BFunc.byOf; rw [hr, h]; simp
theorem by_no3 (h : (((f.inN (k : Int) : Nat) : Int) == 1) = false) : f.byOf k = -1 := by
  have : (f.inN (k : Int) == 1) = false := by
    have h1 : ¬ ((f.inN (k : Int) : Nat) : Int) = 1 := by simpa using h
    rw [beq_eq_false_iff_ne]; omega
  unfold BFunc.byOf; rw [this]; simp
theorem by_no4 (h : (f.inFrom (k : Int) != (k : Int)) = false) : f.byOf k = -1 := by
  unfold BFunc.byOf; rw [h]; simp
theorem by_no5 (h : ((f.blockAt (f.inFrom (k : Int))).fin == 1) = false) : f.byOf k = -1 := by
  unfold BFunc.byOf; rw [h]; simp
theorem by_yes {r : Bool} (h1 : decide ((k : Int) > 0) = true) (hr : f.reach[k]? = some r) (h2 : r = true) (h3 : (((f.inN (k : Int) : Nat) : Int) == 1) = true) (h4 : (f.inFrom (k : Int) != (k : Int)) = true) (h5 : ((f.blockAt (f.inFrom (k : Int))).fin == 1) = true) : f.byOf k = f.inFrom (k : Int) := by
  have e1 : decide (0 < k) = true := by
    have : (k : Int) > 0 := by simpa using h1
    exact decide_eq_true (by omega)
  have e3 : (f.inN (k : Int) == 1) = true := by
    have : ((f.inN (k : Int) : Nat) : Int) = 1 := by simpa using h3
    rw [beq_iff_eq]; omega
  unfold BFunc.byOf
  rw [hr, h2, e1, e3, h4, h5]; rfl
theorem hd_no1 (hle : f.leads) (hn : f.blocks ≠ []) (hk : k < f.blocks.length) {r : Bool} (hr : f.reach[k]? = some r) (h : (!r) = true) : f.headOf k = false := by
  rw [head_by hle hn hk, hr, Option.getD_some]
  cases r with
  | false => rfl
  | true => cases h
theorem hd_no2 (hle : f.leads) (hn : f.blocks ≠ []) (hk : k < f.blocks.length) (h : decide (f.byOf k ≥ 0) = true) : f.headOf k = false := by
  rw [head_by hle hn hk, h]; simp
theorem hd_yes (hle : f.leads) (hn : f.blocks ≠ []) (hk : k < f.blocks.length) {r : Bool} (hr : f.reach[k]? = some r) (h0 : (!r) = false) (h : decide (f.byOf k ≥ 0) = false) : f.headOf k = true := by
  rw [head_by hle hn hk, h, hr, Option.getD_some]
  cases r with
  | false => cases h0
  | true => rfl
/-- on the way along a path -/
structure FP (tk tgt : List Int) (q : FG2) : Prop where
  on : 0 ≤ q.c → FInv2 tk tgt q
  off : q.c < 0 → q.acc = tgt
def fpmu (q : FG2) : Nat := if 0 ≤ q.c then q.g + 1 else 0
theorem FP.next (hle : f.leads) {tgt : List Int} {q : FG2} (h : FP f.tk tgt q) (hc : 0 ≤ q.c) (hb : 0 ≤ iget f.tk q.c) : FP f.tk tgt ⟨iget f.tk q.c, q.acc ++ [iget f.tk q.c], q.g - 1⟩ ∧ fpmu ⟨iget f.tk q.c, q.acc ++ [iget f.tk q.c], q.g - 1⟩ < fpmu q := by
  have hin := takes_in hle f.reach
  obtain ⟨h1, h2⟩ := (h.on hc).next hin (by rw [bne_iff_ne]; show iget f.tk q.c ≠ -1; omega)
  refine ⟨⟨fun _ => h1, fun hh => absurd hb (by show ¬ _; simp only at hh; omega)⟩, ?_⟩
  unfold fpmu
  simp only [if_pos hc]
  split <;> omega
theorem FP.stop (hle : f.leads) {tgt : List Int} {q : FG2} (h : FP f.tk tgt q) (hc : 0 ≤ q.c) (hb : ¬ 0 ≤ iget f.tk q.c) : FP f.tk tgt ⟨iget f.tk q.c, q.acc, 0⟩ ∧ fpmu ⟨iget f.tk q.c, q.acc, 0⟩ < fpmu q := by
  have hq := h.on hc
  have hv : iget f.tk q.c = -1 := by
    obtain ⟨x, hx⟩ := get_of_lt (l := f.tk) (k := q.c.toNat) (by have := hq.c; omega)
    have hxe : iget f.tk q.c = x := by simp [iget, hx]
    rcases takes_in hle f.reach x (List.mem_of_getElem? hx) with h1 | h1
    · rw [hxe, h1]
    · rw [hxe] at hb; omega
  refine ⟨⟨fun hh => absurd hh (by simp only; omega), fun _ => hq.done (by rw [hv]; rfl)⟩, ?_⟩
  unfold fpmu
  simp only [if_pos hc]
  split <;> omega
theorem FP.len {tgt tk : List Int} {q : FG2} (h : FP tk tgt q) (hc : 0 ≤ q.c) : q.acc.length ≤ tk.length + 1 := by
  have := (h.on hc).len; omega
theorem lastBy_succ {l : List Int} {a : Int} {j : Nat} {c : Bool} (h : (iget l j == a) = c) : lastBy l a (j + 1) = bif c then (j : Int) else lastBy l a j := by
  show (bif iget l (j : Int) == a then _ else _) = _
  rw [h]
end
/-- the block that is being put together -/
def curB (f : BFunc) (p : List Int) (j : Nat) : Block :=
  match j with
  | 0 => ⟨[], 0, 0, 0, 0⟩
  | j + 1 => { f.blockAt (iget p j) with ins := f.joined (p.take (j + 1)) }
theorem curB_ins (f : BFunc) (p : List Int) (j : Nat) : (curB f p j).ins = f.joined (p.take j) := by
  cases j with
  | zero => simp [curB, BFunc.joined]
  | succ j => rfl
theorem curB_succ {f : BFunc} {p : List Int} {j : Nat} {y : Int} (h : p[j]? = some y) : curB f p (j + 1) = ⟨f.joined (p.take j) ++ (f.blockAt y).ins, (f.blockAt y).fin, (f.blockAt y).v, (f.blockAt y).to, (f.blockAt y).els⟩ := by
  have : iget p j = y := by simp [iget, h]
  show ({ f.blockAt (iget p j) with ins := f.joined (p.take (j + 1)) } : Block) = _
  rw [this, joined_succ h]
theorem curB_end {f : BFunc} {p : List Int} {j : Nat} (hp : p ≠ []) (hj : p.length ≤ j) (hj2 : j ≤ p.length) : curB f p j = ⟨f.joined p, (f.blockAt (lastOf p)).fin, (f.blockAt (lastOf p)).v, (f.blockAt (lastOf p)).to, (f.blockAt (lastOf p)).els⟩ := by
  have hpos := List.length_pos_iff.2 hp
  obtain ⟨m, rfl⟩ : ∃ m, j = m + 1 := ⟨j - 1, by omega⟩
  have hl := last_get hp
  rw [show p.length - 1 = m by omega] at hl
  rw [curB_succ hl, ← joined_succ hl, List.take_of_length_le hj]
def noHead (paths : List (List Int)) (a : Int) (k : Nat) : Prop := ∀ j q, j < k → paths[j]? = some q → (decide (q.length > 0) && headZ q == a) = false
theorem noHead.zero (paths : List (List Int)) (a : Int) : noHead paths a 0 := fun j q h => absurd h (Nat.not_lt_zero _)
theorem noHead.succ {paths : List (List Int)} {a : Int} {k : Nat} (h : noHead paths a k) {p : List Int} (hp : paths[k]? = some p) (hno : (decide (p.length > 0) && headZ p == a) = false) : noHead paths a (k + 1) := fun j q h1 h2 => by
  rcases Nat.lt_or_ge j k with h3 | h3
  · exact h j q h3 h2
  · have : j = k := by omega
    subst this
    rw [hp] at h2; cases h2
    exact hno
theorem noHead.none {paths : List (List Int)} {a : Int} {k : Nat} (h : noHead paths a k) (hk : paths.length ≤ k) : headI paths a = -1 := headI_none fun p hp => by
  obtain ⟨j, hj⟩ := List.getElem?_of_mem hp
  have := (List.getElem?_eq_some_iff.1 hj).1
  exact h j p (by omega) hj
end Go.Proofs.Ytidfabbnobipkaa.Sv

namespace Go.Proofs.Ytidfabbnobipkaa.Sv
open Go
set_option linter.unusedVariables false
set_option linter.unusedSimpArgs false

set_option maxRecDepth 100000 in
theorem sets_ok (t : Tac) : APure Try.prog 53 [.agg t.cells] (fun r => r = .int .i64 t.sets) := by
  refine APure.of_body (n := 14) tok Try.func53 rfl rfl ?_
  refine AGo.seq ?_
  refine AGo.region ?_
  refine AOps.x 1 rfl rfl rfl (o_box (sz := 8) 0 rfl rfl rfl rfl (Nat.zero_lt_succ _) rfl) ?_
  refine AOps.s 2 rfl rfl rfl (q_move (.inr rfl) rfl) ?_
  refine AOps.nil ?_
  refine AGo.seq ?_
  refine AGo.seq ?_
  refine AGo.region ?_
  refine AOps.s 3 rfl rfl rfl (q_fieldAddr tok rfl rfl rfl rfl rfl rfl) ?_
  refine AOps.s 4 rfl rfl rfl (q_load tok rfl rfl rfl (by first | exact .loc _ | exact .ptr _ _ _ _ _ _ _ _ rfl rfl rfl) rfl) ?_
  refine AOps.nil ?_
  refine AGo.block ?_
  refine AGo.seq ?_
  refine AGo.seq ?_
  refine AGo.region ?_
  refine AOps.s 6 rfl rfl rfl (q_bin rfl rfl rfl rfl) ?_
  refine AOps.s 5 rfl rfl rfl (q_move (.inr rfl) rfl) ?_
  refine AOps.nil ?_
  refine AGo.split 5 rfl (fun hb1 => ?_) (fun hb1 => ?_)
  · -- True
    refine AGo.cond_true true rfl rfl ?_
    refine AGo.skip ?_
    refine AGo.cond_true true rfl rfl ?_
    refine AGo.seq ?_
    refine AGo.region ?_
    refine AOps.s 12 rfl rfl rfl (q_fieldAddr tok rfl rfl rfl rfl rfl rfl) ?_
    refine AOps.s 13 rfl rfl rfl (q_load tok rfl rfl rfl (by first | exact .loc _ | exact .ptr _ _ _ _ _ _ _ _ rfl rfl rfl) rfl) ?_
    refine AOps.s 2 rfl rfl rfl (q_move (.inr rfl) rfl) ?_
    refine AOps.nil ?_
    refine AGo.ret ?_
    refine ⟨[_], ⟨rfl, trivial⟩, ?_, rfl⟩
    show AV.int .i64 _ = AV.int .i64 _
    congr 1
    simp [Tac.sets, setsOp, *]
  · -- False
    refine AGo.cond_false false rfl rfl ?_
    refine AGo.seq ?_
    refine AGo.region ?_
    refine AOps.s 7 rfl rfl rfl (q_bin rfl rfl rfl rfl) ?_
    refine AOps.s 5 rfl rfl rfl (q_move (.inr rfl) rfl) ?_
    refine AOps.nil ?_
    refine AGo.split 5 rfl (fun hb2 => ?_) (fun hb2 => ?_)
    · -- True
      refine AGo.cond_true true rfl rfl ?_
      refine AGo.skip ?_
      refine AGo.cond_true true rfl rfl ?_
      refine AGo.seq ?_
      refine AGo.region ?_
      refine AOps.s 12 rfl rfl rfl (q_fieldAddr tok rfl rfl rfl rfl rfl rfl) ?_
      refine AOps.s 13 rfl rfl rfl (q_load tok rfl rfl rfl (by first | exact .loc _ | exact .ptr _ _ _ _ _ _ _ _ rfl rfl rfl) rfl) ?_
      refine AOps.s 2 rfl rfl rfl (q_move (.inr rfl) rfl) ?_
      refine AOps.nil ?_
      refine AGo.ret ?_
      refine ⟨[_], ⟨rfl, trivial⟩, ?_, rfl⟩
      show AV.int .i64 _ = AV.int .i64 _
      congr 1
      simp [Tac.sets, setsOp, *]
    · -- False
      refine AGo.cond_false false rfl rfl ?_
      refine AGo.seq ?_
      refine AGo.region ?_
      refine AOps.s 8 rfl rfl rfl (q_bin rfl rfl rfl rfl) ?_
      refine AOps.s 5 rfl rfl rfl (q_move (.inr rfl) rfl) ?_
      refine AOps.nil ?_
      refine AGo.split 5 rfl (fun hb3 => ?_) (fun hb3 => ?_)
      · -- True
        refine AGo.cond_true true rfl rfl ?_
        refine AGo.skip ?_
        refine AGo.cond_true true rfl rfl ?_
        refine AGo.seq ?_
        refine AGo.region ?_
        refine AOps.s 12 rfl rfl rfl (q_fieldAddr tok rfl rfl rfl rfl rfl rfl) ?_
        refine AOps.s 13 rfl rfl rfl (q_load tok rfl rfl rfl (by first | exact .loc _ | exact .ptr _ _ _ _ _ _ _ _ rfl rfl rfl) rfl) ?_
        refine AOps.s 2 rfl rfl rfl (q_move (.inr rfl) rfl) ?_
        refine AOps.nil ?_
        refine AGo.ret ?_
        refine ⟨[_], ⟨rfl, trivial⟩, ?_, rfl⟩
        show AV.int .i64 _ = AV.int .i64 _
        congr 1
        simp [Tac.sets, setsOp, *]
      · -- False
        refine AGo.cond_false false rfl rfl ?_
        refine AGo.seq ?_
        refine AGo.region ?_
        refine AOps.s 9 rfl rfl rfl (q_bin rfl rfl rfl rfl) ?_
        refine AOps.s 5 rfl rfl rfl (q_move (.inr rfl) rfl) ?_
        refine AOps.nil ?_
        refine AGo.split 5 rfl (fun hb4 => ?_) (fun hb4 => ?_)
        · -- True
          refine AGo.cond_true true rfl rfl ?_
          refine AGo.skip ?_
          refine AGo.cond_true true rfl rfl ?_
          refine AGo.seq ?_
          refine AGo.region ?_
          refine AOps.s 12 rfl rfl rfl (q_fieldAddr tok rfl rfl rfl rfl rfl rfl) ?_
          refine AOps.s 13 rfl rfl rfl (q_load tok rfl rfl rfl (by first | exact .loc _ | exact .ptr _ _ _ _ _ _ _ _ rfl rfl rfl) rfl) ?_
          refine AOps.s 2 rfl rfl rfl (q_move (.inr rfl) rfl) ?_
          refine AOps.nil ?_
          refine AGo.ret ?_
          refine ⟨[_], ⟨rfl, trivial⟩, ?_, rfl⟩
          show AV.int .i64 _ = AV.int .i64 _
          congr 1
          simp [Tac.sets, setsOp, *]
        · -- False
          refine AGo.cond_false false rfl rfl ?_
          refine AGo.seq ?_
          refine AGo.region ?_
          refine AOps.s 10 rfl rfl rfl (q_bin rfl rfl rfl rfl) ?_
          refine AOps.s 5 rfl rfl rfl (q_move (.inr rfl) rfl) ?_
          refine AOps.nil ?_
          refine AGo.split 5 rfl (fun hb5 => ?_) (fun hb5 => ?_)
          · -- True
            refine AGo.cond_true true rfl rfl ?_
            refine AGo.skip ?_
            refine AGo.cond_true true rfl rfl ?_
            refine AGo.seq ?_
            refine AGo.region ?_
            refine AOps.s 12 rfl rfl rfl (q_fieldAddr tok rfl rfl rfl rfl rfl rfl) ?_
            refine AOps.s 13 rfl rfl rfl (q_load tok rfl rfl rfl (by first | exact .loc _ | exact .ptr _ _ _ _ _ _ _ _ rfl rfl rfl) rfl) ?_
            refine AOps.s 2 rfl rfl rfl (q_move (.inr rfl) rfl) ?_
            refine AOps.nil ?_
            refine AGo.ret ?_
            refine ⟨[_], ⟨rfl, trivial⟩, ?_, rfl⟩
            show AV.int .i64 _ = AV.int .i64 _
            congr 1
            simp [Tac.sets, setsOp, *]
          · -- False
            refine AGo.cond_false false rfl rfl ?_
            refine AGo.region ?_
            refine AOps.s 11 rfl rfl rfl (q_bin rfl rfl rfl rfl) ?_
            refine AOps.s 5 rfl rfl rfl (q_move (.inr rfl) rfl) ?_
            refine AOps.nil ?_
            refine AGo.split 5 rfl (fun hb6 => ?_) (fun hb6 => ?_)
            · -- True
              refine AGo.cond_true true rfl rfl ?_
              refine AGo.seq ?_
              refine AGo.region ?_
              refine AOps.s 12 rfl rfl rfl (q_fieldAddr tok rfl rfl rfl rfl rfl rfl) ?_
              refine AOps.s 13 rfl rfl rfl (q_load tok rfl rfl rfl (by first | exact .loc _ | exact .ptr _ _ _ _ _ _ _ _ rfl rfl rfl) rfl) ?_
              refine AOps.s 2 rfl rfl rfl (q_move (.inr rfl) rfl) ?_
              refine AOps.nil ?_
              refine AGo.ret ?_
              refine ⟨[_], ⟨rfl, trivial⟩, ?_, rfl⟩
              show AV.int .i64 _ = AV.int .i64 _
              congr 1
              simp [Tac.sets, setsOp, *]
            · -- False
              refine AGo.cond_false false rfl rfl ?_
              refine AGo.skip ?_
              refine AGo.seq ?_
              refine AGo.region ?_
              refine AOps.s 2 rfl rfl rfl (q_move (.inr rfl) rfl) ?_
              refine AOps.nil ?_
              refine AGo.ret ?_
              refine ⟨[_], ⟨rfl, trivial⟩, ?_, rfl⟩
              show AV.int .i64 _ = AV.int .i64 _
              congr 1
              simp [Tac.sets, setsOp, *]

set_option maxRecDepth 100000 in
theorem uses_ok (t : Tac) : APure Try.prog 54 [.agg t.cells] (fun r => r = intsAV t.uses) := by
  refine APure.of_body (n := 21) tok Try.func54 rfl rfl ?_
  refine AGo.seq ?_
  refine AGo.region ?_
  refine AOps.x 1 rfl rfl rfl (o_box (sz := 8) 0 rfl rfl rfl rfl (Nat.zero_lt_succ _) rfl) ?_
  refine AOps.s 2 rfl rfl rfl (q_move (.inr rfl) rfl) ?_
  refine AOps.nil ?_
  refine AGo.seq ?_
  refine AGo.seq ?_
  refine AGo.region ?_
  refine AOps.s 3 rfl rfl rfl (q_fieldAddr tok rfl rfl rfl rfl rfl rfl) ?_
  refine AOps.s 4 rfl rfl rfl (q_load tok rfl rfl rfl (by first | exact .loc _ | exact .ptr _ _ _ _ _ _ _ _ rfl rfl rfl) rfl) ?_
  refine AOps.nil ?_
  refine AGo.block ?_
  refine AGo.seq ?_
  refine AGo.seq ?_
  refine AGo.region ?_
  refine AOps.s 6 rfl rfl rfl (q_bin rfl rfl rfl rfl) ?_
  refine AOps.s 5 rfl rfl rfl (q_move (.inr rfl) rfl) ?_
  refine AOps.nil ?_
  refine AGo.split 5 rfl (fun hb1 => ?_) (fun hb1 => ?_)
  · -- True
    refine AGo.cond_true true rfl rfl ?_
    refine AGo.skip ?_
    refine AGo.cond_true true rfl rfl ?_
    refine AGo.seq ?_
    refine AGo.region ?_
    refine AOps.s 10 rfl rfl rfl (q_fieldAddr tok rfl rfl rfl rfl rfl rfl) ?_
    refine AOps.s 11 rfl rfl rfl (q_load tok rfl rfl rfl (by first | exact .loc _ | exact .ptr _ _ _ _ _ _ _ _ rfl rfl rfl) rfl) ?_
    refine AOps.x 12 rfl rfl rfl (o_lit' tok rfl rfl rfl rfl rfl rfl (by decide) rfl rfl rfl rfl rfl rfl) ?_
    refine AOps.s 2 rfl rfl rfl (q_move (.inr rfl) rfl) ?_
    refine AOps.nil ?_
    refine AGo.ret ?_
    refine ⟨[_], ⟨rfl, trivial⟩, ?_, rfl⟩
    show AV.lst false _ = _
    simp [Tac.uses, use1, use2, intsAV, partVals, AV.cells, *]
  · -- False
    refine AGo.cond_false false rfl rfl ?_
    refine AGo.seq ?_
    refine AGo.region ?_
    refine AOps.s 7 rfl rfl rfl (q_bin rfl rfl rfl rfl) ?_
    refine AOps.s 5 rfl rfl rfl (q_move (.inr rfl) rfl) ?_
    refine AOps.nil ?_
    refine AGo.split 5 rfl (fun hb2 => ?_) (fun hb2 => ?_)
    · -- True
      refine AGo.cond_true true rfl rfl ?_
      refine AGo.skip ?_
      refine AGo.cond_true true rfl rfl ?_
      refine AGo.seq ?_
      refine AGo.region ?_
      refine AOps.s 10 rfl rfl rfl (q_fieldAddr tok rfl rfl rfl rfl rfl rfl) ?_
      refine AOps.s 11 rfl rfl rfl (q_load tok rfl rfl rfl (by first | exact .loc _ | exact .ptr _ _ _ _ _ _ _ _ rfl rfl rfl) rfl) ?_
      refine AOps.x 12 rfl rfl rfl (o_lit' tok rfl rfl rfl rfl rfl rfl (by decide) rfl rfl rfl rfl rfl rfl) ?_
      refine AOps.s 2 rfl rfl rfl (q_move (.inr rfl) rfl) ?_
      refine AOps.nil ?_
      refine AGo.ret ?_
      refine ⟨[_], ⟨rfl, trivial⟩, ?_, rfl⟩
      show AV.lst false _ = _
      simp [Tac.uses, use1, use2, intsAV, partVals, AV.cells, *]
    · -- False
      refine AGo.cond_false false rfl rfl ?_
      refine AGo.seq ?_
      refine AGo.region ?_
      refine AOps.s 8 rfl rfl rfl (q_bin rfl rfl rfl rfl) ?_
      refine AOps.s 5 rfl rfl rfl (q_move (.inr rfl) rfl) ?_
      refine AOps.nil ?_
      refine AGo.split 5 rfl (fun hb3 => ?_) (fun hb3 => ?_)
      · -- True
        refine AGo.cond_true true rfl rfl ?_
        refine AGo.skip ?_
        refine AGo.cond_true true rfl rfl ?_
        refine AGo.seq ?_
        refine AGo.region ?_
        refine AOps.s 10 rfl rfl rfl (q_fieldAddr tok rfl rfl rfl rfl rfl rfl) ?_
        refine AOps.s 11 rfl rfl rfl (q_load tok rfl rfl rfl (by first | exact .loc _ | exact .ptr _ _ _ _ _ _ _ _ rfl rfl rfl) rfl) ?_
        refine AOps.x 12 rfl rfl rfl (o_lit' tok rfl rfl rfl rfl rfl rfl (by decide) rfl rfl rfl rfl rfl rfl) ?_
        refine AOps.s 2 rfl rfl rfl (q_move (.inr rfl) rfl) ?_
        refine AOps.nil ?_
        refine AGo.ret ?_
        refine ⟨[_], ⟨rfl, trivial⟩, ?_, rfl⟩
        show AV.lst false _ = _
        simp [Tac.uses, use1, use2, intsAV, partVals, AV.cells, *]
      · -- False
        refine AGo.cond_false false rfl rfl ?_
        refine AGo.region ?_
        refine AOps.s 9 rfl rfl rfl (q_bin rfl rfl rfl rfl) ?_
        refine AOps.s 5 rfl rfl rfl (q_move (.inr rfl) rfl) ?_
        refine AOps.nil ?_
        refine AGo.split 5 rfl (fun hb4 => ?_) (fun hb4 => ?_)
        · -- True
          refine AGo.cond_true true rfl rfl ?_
          refine AGo.seq ?_
          refine AGo.region ?_
          refine AOps.s 10 rfl rfl rfl (q_fieldAddr tok rfl rfl rfl rfl rfl rfl) ?_
          refine AOps.s 11 rfl rfl rfl (q_load tok rfl rfl rfl (by first | exact .loc _ | exact .ptr _ _ _ _ _ _ _ _ rfl rfl rfl) rfl) ?_
          refine AOps.x 12 rfl rfl rfl (o_lit' tok rfl rfl rfl rfl rfl rfl (by decide) rfl rfl rfl rfl rfl rfl) ?_
          refine AOps.s 2 rfl rfl rfl (q_move (.inr rfl) rfl) ?_
          refine AOps.nil ?_
          refine AGo.ret ?_
          refine ⟨[_], ⟨rfl, trivial⟩, ?_, rfl⟩
          show AV.lst false _ = _
          simp [Tac.uses, use1, use2, intsAV, partVals, AV.cells, *]
        · -- False
          refine AGo.cond_false false rfl rfl ?_
          refine AGo.seq ?_
          refine AGo.seq ?_
          refine AGo.region ?_
          refine AOps.s 14 rfl rfl rfl (q_bin rfl rfl rfl rfl) ?_
          refine AOps.s 13 rfl rfl rfl (q_move (.inr rfl) rfl) ?_
          refine AOps.nil ?_
          refine AGo.split 13 rfl (fun hb5 => ?_) (fun hb5 => ?_)
          · -- True
            refine AGo.cond_true true rfl rfl ?_
            refine AGo.skip ?_
            refine AGo.cond_true true rfl rfl ?_
            refine AGo.seq ?_
            refine AGo.region ?_
            refine AOps.s 16 rfl rfl rfl (q_fieldAddr tok rfl rfl rfl rfl rfl rfl) ?_
            refine AOps.s 17 rfl rfl rfl (q_load tok rfl rfl rfl (by first | exact .loc _ | exact .ptr _ _ _ _ _ _ _ _ rfl rfl rfl) rfl) ?_
            refine AOps.s 18 rfl rfl rfl (q_fieldAddr tok rfl rfl rfl rfl rfl rfl) ?_
            refine AOps.s 19 rfl rfl rfl (q_load tok rfl rfl rfl (by first | exact .loc _ | exact .ptr _ _ _ _ _ _ _ _ rfl rfl rfl) rfl) ?_
            refine AOps.x 20 rfl rfl rfl (o_lit' tok rfl rfl rfl rfl rfl rfl (by decide) rfl rfl rfl rfl rfl rfl) ?_
            refine AOps.s 2 rfl rfl rfl (q_move (.inr rfl) rfl) ?_
            refine AOps.nil ?_
            refine AGo.ret ?_
            refine ⟨[_], ⟨rfl, trivial⟩, ?_, rfl⟩
            show AV.lst false _ = _
            simp [Tac.uses, use1, use2, intsAV, partVals, AV.cells, *]
          · -- False
            refine AGo.cond_false false rfl rfl ?_
            refine AGo.region ?_
            refine AOps.s 15 rfl rfl rfl (q_bin rfl rfl rfl rfl) ?_
            refine AOps.s 13 rfl rfl rfl (q_move (.inr rfl) rfl) ?_
            refine AOps.nil ?_
            refine AGo.split 13 rfl (fun hb6 => ?_) (fun hb6 => ?_)
            · -- True
              refine AGo.cond_true true rfl rfl ?_
              refine AGo.seq ?_
              refine AGo.region ?_
              refine AOps.s 16 rfl rfl rfl (q_fieldAddr tok rfl rfl rfl rfl rfl rfl) ?_
              refine AOps.s 17 rfl rfl rfl (q_load tok rfl rfl rfl (by first | exact .loc _ | exact .ptr _ _ _ _ _ _ _ _ rfl rfl rfl) rfl) ?_
              refine AOps.s 18 rfl rfl rfl (q_fieldAddr tok rfl rfl rfl rfl rfl rfl) ?_
              refine AOps.s 19 rfl rfl rfl (q_load tok rfl rfl rfl (by first | exact .loc _ | exact .ptr _ _ _ _ _ _ _ _ rfl rfl rfl) rfl) ?_
              refine AOps.x 20 rfl rfl rfl (o_lit' tok rfl rfl rfl rfl rfl rfl (by decide) rfl rfl rfl rfl rfl rfl) ?_
              refine AOps.s 2 rfl rfl rfl (q_move (.inr rfl) rfl) ?_
              refine AOps.nil ?_
              refine AGo.ret ?_
              refine ⟨[_], ⟨rfl, trivial⟩, ?_, rfl⟩
              show AV.lst false _ = _
              simp [Tac.uses, use1, use2, intsAV, partVals, AV.cells, *]
            · -- False
              refine AGo.cond_false false rfl rfl ?_
              refine AGo.skip ?_
              refine AGo.seq ?_
              refine AGo.region ?_
              refine AOps.s 2 rfl rfl rfl (q_move (.inr rfl) rfl) ?_
              refine AOps.nil ?_
              refine AGo.ghost (.empty 2 rfl) ?_
              refine AGo.ret ?_
              refine ⟨[_], ⟨rfl, trivial⟩, ?_, rfl⟩
              show AV.lst false _ = _
              simp [Tac.uses, use1, use2, intsAV, partVals, AV.cells, *]

set_option maxRecDepth 100000 in
theorem within_ok (i j : Int) : APure Try.prog 52 [.int .i64 i, .int .i64 j] (fun r => r = .bool (within i j)) := by
  refine APure.of_body (n := 12) tok Try.func52 rfl rfl ?_
  refine AGo.seq ?_
  refine AGo.region ?_
  refine AOps.s 4 rfl rfl rfl (q_move (.inr rfl) rfl) ?_
  refine AOps.nil ?_
  refine AGo.seq ?_
  refine AGo.region ?_
  refine AOps.s 5 rfl rfl rfl (q_move (.inl rfl) rfl) ?_
  refine AOps.s 6 rfl rfl rfl (q_bin rfl rfl rfl rfl) ?_
  refine AOps.s 7 rfl rfl rfl (q_move (.inl rfl) rfl) ?_
  refine AOps.split 7 rfl (fun hb1 => ?_) (fun hb1 => ?_)
  · -- True
    refine AOps.s 8 rfl rfl rfl (q_move (.inl rfl) rfl) ?_
    refine AOps.s 9 rfl rfl rfl (q_move (.inl rfl) rfl) ?_
    refine AOps.s 10 rfl rfl rfl (q_bin rfl rfl rfl rfl) ?_
    refine AOps.s 11 rfl rfl rfl (q_pick_true true rfl rfl rfl rfl) ?_
    refine AOps.s 4 rfl rfl rfl (q_move (.inr rfl) rfl) ?_
    refine AOps.nil ?_
    refine AGo.ret ?_
    refine ⟨[_], ⟨rfl, trivial⟩, ?_, rfl⟩
    show AV.bool _ = AV.bool _
    congr 1
    simp_all [within] <;> omega
  · -- False
    refine AOps.k 8 rfl rfl rfl ?_
    refine AOps.k 9 rfl rfl rfl ?_
    refine AOps.k 10 rfl rfl rfl ?_
    refine AOps.s 11 rfl rfl rfl (q_pick_false false rfl rfl rfl rfl) ?_
    refine AOps.s 4 rfl rfl rfl (q_move (.inr rfl) rfl) ?_
    refine AOps.nil ?_
    refine AGo.ret ?_
    refine ⟨[_], ⟨rfl, trivial⟩, ?_, rfl⟩
    show AV.bool _ = AV.bool _
    congr 1
    simp_all [within] <;> omega

set_option maxRecDepth 100000 in
theorem ends_ok (b : Block) (blocks regs : Int) : APure Try.prog 47 [.agg b.cells, .int .i64 blocks, .int .i64 regs] (fun r => r = .bool (b.ends blocks regs)) := by
  refine APure.of_body (n := 61) tok Try.func47 rfl rfl ?_
  refine AGo.seq ?_
  refine AGo.region ?_
  refine AOps.x 3 rfl rfl rfl (o_box (sz := 5) 0 rfl rfl rfl rfl (Nat.zero_lt_succ _) rfl) ?_
  refine AOps.s 6 rfl rfl rfl (q_move (.inr rfl) rfl) ?_
  refine AOps.nil ?_
  refine AGo.seq ?_
  refine AGo.seq ?_
  refine AGo.region ?_
  refine AOps.s 7 rfl rfl rfl (q_fieldAddr tok rfl rfl rfl rfl rfl rfl) ?_
  refine AOps.s 8 rfl rfl rfl (q_load tok rfl rfl rfl (by first | exact .loc _ | exact .ptr _ _ _ _ _ _ _ _ rfl rfl rfl) rfl) ?_
  refine AOps.nil ?_
  refine AGo.block ?_
  refine AGo.seq ?_
  refine AGo.region ?_
  refine AOps.s 10 rfl rfl rfl (q_bin rfl rfl rfl rfl) ?_
  refine AOps.s 9 rfl rfl rfl (q_move (.inr rfl) rfl) ?_
  refine AOps.nil ?_
  refine AGo.split 9 rfl (fun hb1 => ?_) (fun hb1 => ?_)
  · -- True
    refine AGo.cond_true true rfl rfl ?_
    refine AGo.seq ?_
    refine AGo.region ?_
    refine AOps.s 11 rfl rfl rfl (q_fieldAddr tok rfl rfl rfl rfl rfl rfl) ?_
    refine AOps.s 12 rfl rfl rfl (q_load tok rfl rfl rfl (by first | exact .loc _ | exact .ptr _ _ _ _ _ _ _ _ rfl rfl rfl) rfl) ?_
    refine AOps.s 13 rfl rfl rfl (q_move (.inl rfl) rfl) ?_
    refine AOps.x 14 rfl rfl rfl (o_pure rfl Try.func52 (by kernel_rfl) rfl rfl rfl (within_ok _ _)) ?_
    refine AOps.s 15 rfl rfl rfl (q_move (.inl rfl) rfl) ?_
    refine AOps.split 15 rfl (fun hb2 => ?_) (fun hb2 => ?_)
    · -- True
      refine AOps.s 16 rfl rfl rfl (q_fieldAddr tok rfl rfl rfl rfl rfl rfl) ?_
      refine AOps.s 17 rfl rfl rfl (q_load tok rfl rfl rfl (by first | exact .loc _ | exact .ptr _ _ _ _ _ _ _ _ rfl rfl rfl) rfl) ?_
      refine AOps.s 18 rfl rfl rfl (q_bin rfl rfl rfl rfl) ?_
      refine AOps.s 19 rfl rfl rfl (q_pick_true true rfl rfl rfl rfl) ?_
      refine AOps.s 20 rfl rfl rfl (q_move (.inl rfl) rfl) ?_
      refine AOps.split 20 rfl (fun hb3 => ?_) (fun hb3 => ?_)
      · -- True
        refine AOps.s 21 rfl rfl rfl (q_fieldAddr tok rfl rfl rfl rfl rfl rfl) ?_
        refine AOps.s 22 rfl rfl rfl (q_load tok rfl rfl rfl (by first | exact .loc _ | exact .ptr _ _ _ _ _ _ _ _ rfl rfl rfl) rfl) ?_
        refine AOps.s 23 rfl rfl rfl (q_bin rfl rfl rfl rfl) ?_
        refine AOps.s 24 rfl rfl rfl (q_pick_true true rfl rfl rfl rfl) ?_
        refine AOps.s 6 rfl rfl rfl (q_move (.inr rfl) rfl) ?_
        refine AOps.nil ?_
        refine AGo.ret ?_
        refine ⟨[_], ⟨rfl, trivial⟩, ?_, rfl⟩
        show AV.bool _ = AV.bool _
        congr 1
        simp_all [Block.ends]
      · -- False
        refine AOps.k 21 rfl rfl rfl ?_
        refine AOps.k 22 rfl rfl rfl ?_
        refine AOps.k 23 rfl rfl rfl ?_
        refine AOps.s 24 rfl rfl rfl (q_pick_false false rfl rfl rfl rfl) ?_
        refine AOps.s 6 rfl rfl rfl (q_move (.inr rfl) rfl) ?_
        refine AOps.nil ?_
        refine AGo.ret ?_
        refine ⟨[_], ⟨rfl, trivial⟩, ?_, rfl⟩
        show AV.bool _ = AV.bool _
        congr 1
        simp_all [Block.ends]
    · -- False
      refine AOps.k 16 rfl rfl rfl ?_
      refine AOps.k 17 rfl rfl rfl ?_
      refine AOps.k 18 rfl rfl rfl ?_
      refine AOps.s 19 rfl rfl rfl (q_pick_false false rfl rfl rfl rfl) ?_
      refine AOps.s 20 rfl rfl rfl (q_move (.inl rfl) rfl) ?_
      refine AOps.k 21 rfl rfl rfl ?_
      refine AOps.k 22 rfl rfl rfl ?_
      refine AOps.k 23 rfl rfl rfl ?_
      refine AOps.s 24 rfl rfl rfl (q_pick_false false rfl rfl rfl rfl) ?_
      refine AOps.s 6 rfl rfl rfl (q_move (.inr rfl) rfl) ?_
      refine AOps.nil ?_
      refine AGo.ret ?_
      refine ⟨[_], ⟨rfl, trivial⟩, ?_, rfl⟩
      show AV.bool _ = AV.bool _
      congr 1
      simp_all [Block.ends]
  · -- False
    refine AGo.cond_false false rfl rfl ?_
    refine AGo.seq ?_
    refine AGo.region ?_
    refine AOps.s 26 rfl rfl rfl (q_bin rfl rfl rfl rfl) ?_
    refine AOps.s 25 rfl rfl rfl (q_move (.inr rfl) rfl) ?_
    refine AOps.nil ?_
    refine AGo.split 25 rfl (fun hb4 => ?_) (fun hb4 => ?_)
    · -- True
      refine AGo.cond_true true rfl rfl ?_
      refine AGo.seq ?_
      refine AGo.region ?_
      refine AOps.s 27 rfl rfl rfl (q_fieldAddr tok rfl rfl rfl rfl rfl rfl) ?_
      refine AOps.s 28 rfl rfl rfl (q_load tok rfl rfl rfl (by first | exact .loc _ | exact .ptr _ _ _ _ _ _ _ _ rfl rfl rfl) rfl) ?_
      refine AOps.s 29 rfl rfl rfl (q_move (.inl rfl) rfl) ?_
      refine AOps.x 30 rfl rfl rfl (o_pure rfl Try.func52 (by kernel_rfl) rfl rfl rfl (within_ok _ _)) ?_
      refine AOps.s 31 rfl rfl rfl (q_move (.inl rfl) rfl) ?_
      refine AOps.split 31 rfl (fun hb5 => ?_) (fun hb5 => ?_)
      · -- True
        refine AOps.s 32 rfl rfl rfl (q_fieldAddr tok rfl rfl rfl rfl rfl rfl) ?_
        refine AOps.s 33 rfl rfl rfl (q_load tok rfl rfl rfl (by first | exact .loc _ | exact .ptr _ _ _ _ _ _ _ _ rfl rfl rfl) rfl) ?_
        refine AOps.s 34 rfl rfl rfl (q_move (.inl rfl) rfl) ?_
        refine AOps.x 35 rfl rfl rfl (o_pure rfl Try.func52 (by kernel_rfl) rfl rfl rfl (within_ok _ _)) ?_
        refine AOps.s 36 rfl rfl rfl (q_pick_true true rfl rfl rfl rfl) ?_
        refine AOps.s 37 rfl rfl rfl (q_move (.inl rfl) rfl) ?_
        refine AOps.split 37 rfl (fun hb6 => ?_) (fun hb6 => ?_)
        · -- True
          refine AOps.s 38 rfl rfl rfl (q_fieldAddr tok rfl rfl rfl rfl rfl rfl) ?_
          refine AOps.s 39 rfl rfl rfl (q_load tok rfl rfl rfl (by first | exact .loc _ | exact .ptr _ _ _ _ _ _ _ _ rfl rfl rfl) rfl) ?_
          refine AOps.s 40 rfl rfl rfl (q_move (.inl rfl) rfl) ?_
          refine AOps.x 41 rfl rfl rfl (o_pure rfl Try.func52 (by kernel_rfl) rfl rfl rfl (within_ok _ _)) ?_
          refine AOps.s 42 rfl rfl rfl (q_pick_true true rfl rfl rfl rfl) ?_
          refine AOps.s 6 rfl rfl rfl (q_move (.inr rfl) rfl) ?_
          refine AOps.nil ?_
          refine AGo.ret ?_
          refine ⟨[_], ⟨rfl, trivial⟩, ?_, rfl⟩
          show AV.bool _ = AV.bool _
          congr 1
          simp_all [Block.ends]
        · -- False
          refine AOps.k 38 rfl rfl rfl ?_
          refine AOps.k 39 rfl rfl rfl ?_
          refine AOps.k 40 rfl rfl rfl ?_
          refine AOps.k 41 rfl rfl rfl ?_
          refine AOps.s 42 rfl rfl rfl (q_pick_false false rfl rfl rfl rfl) ?_
          refine AOps.s 6 rfl rfl rfl (q_move (.inr rfl) rfl) ?_
          refine AOps.nil ?_
          refine AGo.ret ?_
          refine ⟨[_], ⟨rfl, trivial⟩, ?_, rfl⟩
          show AV.bool _ = AV.bool _
          congr 1
          simp_all [Block.ends]
      · -- False
        refine AOps.k 32 rfl rfl rfl ?_
        refine AOps.k 33 rfl rfl rfl ?_
        refine AOps.k 34 rfl rfl rfl ?_
        refine AOps.k 35 rfl rfl rfl ?_
        refine AOps.s 36 rfl rfl rfl (q_pick_false false rfl rfl rfl rfl) ?_
        refine AOps.s 37 rfl rfl rfl (q_move (.inl rfl) rfl) ?_
        refine AOps.k 38 rfl rfl rfl ?_
        refine AOps.k 39 rfl rfl rfl ?_
        refine AOps.k 40 rfl rfl rfl ?_
        refine AOps.k 41 rfl rfl rfl ?_
        refine AOps.s 42 rfl rfl rfl (q_pick_false false rfl rfl rfl rfl) ?_
        refine AOps.s 6 rfl rfl rfl (q_move (.inr rfl) rfl) ?_
        refine AOps.nil ?_
        refine AGo.ret ?_
        refine ⟨[_], ⟨rfl, trivial⟩, ?_, rfl⟩
        show AV.bool _ = AV.bool _
        congr 1
        simp_all [Block.ends]
    · -- False
      refine AGo.cond_false false rfl rfl ?_
      refine AGo.skip ?_
      refine AGo.seq ?_
      refine AGo.region ?_
      refine AOps.s 43 rfl rfl rfl (q_fieldAddr tok rfl rfl rfl rfl rfl rfl) ?_
      refine AOps.s 44 rfl rfl rfl (q_load tok rfl rfl rfl (by first | exact .loc _ | exact .ptr _ _ _ _ _ _ _ _ rfl rfl rfl) rfl) ?_
      refine AOps.s 45 rfl rfl rfl (q_bin rfl rfl rfl rfl) ?_
      refine AOps.s 46 rfl rfl rfl (q_move (.inl rfl) rfl) ?_
      refine AOps.split 46 rfl (fun hb7 => ?_) (fun hb7 => ?_)
      · -- True
        refine AOps.s 47 rfl rfl rfl (q_fieldAddr tok rfl rfl rfl rfl rfl rfl) ?_
        refine AOps.s 48 rfl rfl rfl (q_load tok rfl rfl rfl (by first | exact .loc _ | exact .ptr _ _ _ _ _ _ _ _ rfl rfl rfl) rfl) ?_
        refine AOps.s 49 rfl rfl rfl (q_bin rfl rfl rfl rfl) ?_
        refine AOps.s 50 rfl rfl rfl (q_pick_true true rfl rfl rfl rfl) ?_
        refine AOps.s 51 rfl rfl rfl (q_move (.inl rfl) rfl) ?_
        refine AOps.split 51 rfl (fun hb8 => ?_) (fun hb8 => ?_)
        · -- True
          refine AOps.s 52 rfl rfl rfl (q_fieldAddr tok rfl rfl rfl rfl rfl rfl) ?_
          refine AOps.s 53 rfl rfl rfl (q_load tok rfl rfl rfl (by first | exact .loc _ | exact .ptr _ _ _ _ _ _ _ _ rfl rfl rfl) rfl) ?_
          refine AOps.s 54 rfl rfl rfl (q_bin rfl rfl rfl rfl) ?_
          refine AOps.s 55 rfl rfl rfl (q_pick_true true rfl rfl rfl rfl) ?_
          refine AOps.s 56 rfl rfl rfl (q_move (.inl rfl) rfl) ?_
          refine AOps.split 56 rfl (fun hb9 => ?_) (fun hb9 => ?_)
          · -- True
            refine AOps.s 57 rfl rfl rfl (q_fieldAddr tok rfl rfl rfl rfl rfl rfl) ?_
            refine AOps.s 58 rfl rfl rfl (q_load tok rfl rfl rfl (by first | exact .loc _ | exact .ptr _ _ _ _ _ _ _ _ rfl rfl rfl) rfl) ?_
            refine AOps.s 59 rfl rfl rfl (q_bin rfl rfl rfl rfl) ?_
            refine AOps.s 60 rfl rfl rfl (q_pick_true true rfl rfl rfl rfl) ?_
            refine AOps.s 6 rfl rfl rfl (q_move (.inr rfl) rfl) ?_
            refine AOps.nil ?_
            refine AGo.ret ?_
            refine ⟨[_], ⟨rfl, trivial⟩, ?_, rfl⟩
            show AV.bool _ = AV.bool _
            congr 1
            simp_all [Block.ends]
          · -- False
            refine AOps.k 57 rfl rfl rfl ?_
            refine AOps.k 58 rfl rfl rfl ?_
            refine AOps.k 59 rfl rfl rfl ?_
            refine AOps.s 60 rfl rfl rfl (q_pick_false false rfl rfl rfl rfl) ?_
            refine AOps.s 6 rfl rfl rfl (q_move (.inr rfl) rfl) ?_
            refine AOps.nil ?_
            refine AGo.ret ?_
            refine ⟨[_], ⟨rfl, trivial⟩, ?_, rfl⟩
            show AV.bool _ = AV.bool _
            congr 1
            simp_all [Block.ends]
        · -- False
          refine AOps.k 52 rfl rfl rfl ?_
          refine AOps.k 53 rfl rfl rfl ?_
          refine AOps.k 54 rfl rfl rfl ?_
          refine AOps.s 55 rfl rfl rfl (q_pick_false false rfl rfl rfl rfl) ?_
          refine AOps.s 56 rfl rfl rfl (q_move (.inl rfl) rfl) ?_
          refine AOps.k 57 rfl rfl rfl ?_
          refine AOps.k 58 rfl rfl rfl ?_
          refine AOps.k 59 rfl rfl rfl ?_
          refine AOps.s 60 rfl rfl rfl (q_pick_false false rfl rfl rfl rfl) ?_
          refine AOps.s 6 rfl rfl rfl (q_move (.inr rfl) rfl) ?_
          refine AOps.nil ?_
          refine AGo.ret ?_
          refine ⟨[_], ⟨rfl, trivial⟩, ?_, rfl⟩
          show AV.bool _ = AV.bool _
          congr 1
          simp_all [Block.ends]
      · -- False
        refine AOps.k 47 rfl rfl rfl ?_
        refine AOps.k 48 rfl rfl rfl ?_
        refine AOps.k 49 rfl rfl rfl ?_
        refine AOps.s 50 rfl rfl rfl (q_pick_false false rfl rfl rfl rfl) ?_
        refine AOps.s 51 rfl rfl rfl (q_move (.inl rfl) rfl) ?_
        refine AOps.k 52 rfl rfl rfl ?_
        refine AOps.k 53 rfl rfl rfl ?_
        refine AOps.k 54 rfl rfl rfl ?_
        refine AOps.s 55 rfl rfl rfl (q_pick_false false rfl rfl rfl rfl) ?_
        refine AOps.s 56 rfl rfl rfl (q_move (.inl rfl) rfl) ?_
        refine AOps.k 57 rfl rfl rfl ?_
        refine AOps.k 58 rfl rfl rfl ?_
        refine AOps.k 59 rfl rfl rfl ?_
        refine AOps.s 60 rfl rfl rfl (q_pick_false false rfl rfl rfl rfl) ?_
        refine AOps.s 6 rfl rfl rfl (q_move (.inr rfl) rfl) ?_
        refine AOps.nil ?_
        refine AGo.ret ?_
        refine ⟨[_], ⟨rfl, trivial⟩, ?_, rfl⟩
        show AV.bool _ = AV.bool _
        congr 1
        simp_all [Block.ends]

set_option maxRecDepth 100000 in
theorem fits_ok (t : Tac) (f regs words : Int) (hw : 0 ≤ words) (hw2 : words ≤ 1048576) : APure Try.prog 48 [.agg t.cells, .int .i64 f, .int .i64 regs, .int .i64 words] (fun r => r = .bool (t.fits f regs words)) := by
  refine APure.of_body (n := 166) tok Try.func48 rfl rfl ?_
  refine AGo.seq ?_
  refine AGo.region ?_
  refine AOps.x 4 rfl rfl rfl (o_box (sz := 8) 0 rfl rfl rfl rfl (Nat.zero_lt_succ _) rfl) ?_
  refine AOps.s 8 rfl rfl rfl (q_move (.inr rfl) rfl) ?_
  refine AOps.nil ?_
  refine AGo.seq ?_
  refine AGo.seq ?_
  refine AGo.region ?_
  refine AOps.s 12 rfl rfl rfl (q_fieldAddr tok rfl rfl rfl rfl rfl rfl) ?_
  refine AOps.s 13 rfl rfl rfl (q_load tok rfl rfl rfl (by first | exact .loc _ | exact .ptr _ _ _ _ _ _ _ _ rfl rfl rfl) rfl) ?_
  refine AOps.s 14 rfl rfl rfl (q_bin rfl rfl rfl rfl) ?_
  refine AOps.s 15 rfl rfl rfl (q_move (.inl rfl) rfl) ?_
  refine AOps.split 15 rfl (fun hb1 => ?_) (fun hb1 => ?_)
  · -- True
    refine AOps.k 16 rfl rfl rfl ?_
    refine AOps.k 17 rfl rfl rfl ?_
    refine AOps.k 18 rfl rfl rfl ?_
    refine AOps.s 19 rfl rfl rfl (q_pick_true true rfl rfl rfl rfl) ?_
    refine AOps.nil ?_
    refine AGo.cond_true true rfl rfl ?_
    refine AGo.seq ?_
    refine AGo.region ?_
    refine AOps.s 8 rfl rfl rfl (q_move (.inr rfl) rfl) ?_
    refine AOps.nil ?_
    refine AGo.ret ?_
    refine ⟨[_], ⟨rfl, trivial⟩, ?_, rfl⟩
    show AV.bool _ = AV.bool _
    congr 1
    exact (fits_op (by simp_all <;> omega)).symm
  · -- False
    refine AOps.s 16 rfl rfl rfl (q_fieldAddr tok rfl rfl rfl rfl rfl rfl) ?_
    refine AOps.s 17 rfl rfl rfl (q_load tok rfl rfl rfl (by first | exact .loc _ | exact .ptr _ _ _ _ _ _ _ _ rfl rfl rfl) rfl) ?_
    refine AOps.s 18 rfl rfl rfl (q_bin rfl rfl rfl rfl) ?_
    refine AOps.s 19 rfl rfl rfl (q_pick_false false rfl rfl rfl rfl) ?_
    refine AOps.nil ?_
    refine AGo.split 19 rfl (fun hb2 => ?_) (fun hb2 => ?_)
    · -- True
      refine AGo.cond_true true rfl rfl ?_
      refine AGo.seq ?_
      refine AGo.region ?_
      refine AOps.s 8 rfl rfl rfl (q_move (.inr rfl) rfl) ?_
      refine AOps.nil ?_
      refine AGo.ret ?_
      refine ⟨[_], ⟨rfl, trivial⟩, ?_, rfl⟩
      show AV.bool _ = AV.bool _
      congr 1
      exact (fits_op (by simp_all <;> omega)).symm
    · -- False
      refine AGo.cond_false false rfl rfl ?_
      refine AGo.skip ?_
      refine AGo.seq ?_
      refine AGo.region ?_
      refine AOps.s 20 rfl rfl rfl (q_fieldAddr tok rfl rfl rfl rfl rfl rfl) ?_
      refine AOps.s 21 rfl rfl rfl (q_load tok rfl rfl rfl (by first | exact .loc _ | exact .ptr _ _ _ _ _ _ _ _ rfl rfl rfl) rfl) ?_
      refine AOps.s 22 rfl rfl rfl (q_build tok rfl rfl rfl rfl rfl (by decide) rfl rfl rfl) ?_
      refine AOps.x 9 rfl rfl rfl (o_alloc tok 1 rfl rfl rfl rfl (Nat.zero_lt_succ _) rfl) ?_
      refine AOps.w rfl rfl (o_store tok rfl rfl rfl rfl rfl rfl rfl rfl rfl (by decide) rfl (by first | exact fun _ => rfl | (intro h; cases h))) ?_
      refine AOps.nil ?_
      refine AGo.seq ?_
      refine AGo.join (γ := Int) (fun d => ⟨166, (eput (eput (eput (eput (eput eNew 1 (.int .i64 f)) 2 (.int .i64 regs)) 3 (.int .i64 words)) 4 (.ptr 0 1 0 0)) 9 (.ptr 1 1 0 0)), (hput (hput (hFrom 2) 0 (.row false 8 [t.cells])) 1 (.row false 8 [[.int .i64 t.op, .int .i64 d, .int .i64 0, .int .i64 0, .int .i64 0, .int .i64 0, .int .i64 0, .int .u32 0]]))⟩) (fun d => (!setsOp t.op || within t.d regs) = true ∧ d = bif setsOp t.op then t.d else 0) ?_ ?_
      · -- to the join
        refine AGo.seq ?_
        refine AGo.region ?_
        refine AOps.s 23 rfl rfl rfl (q_load tok rfl rfl rfl (by first | exact .loc _ | exact .ptr _ _ _ _ _ _ _ _ rfl rfl rfl) rfl) ?_
        refine AOps.x 24 rfl rfl rfl (o_pure rfl Try.func53 (by kernel_rfl) rfl rfl rfl (sets_ok _)) ?_
        refine AOps.s 25 rfl rfl rfl (q_bin rfl rfl rfl rfl) ?_
        refine AOps.s 26 rfl rfl rfl (q_move (.inl rfl) rfl) ?_
        refine AOps.split 26 rfl (fun hb3 => ?_) (fun hb3 => ?_)
        · -- True
          refine AOps.k 27 rfl rfl rfl ?_
          refine AOps.k 28 rfl rfl rfl ?_
          refine AOps.k 29 rfl rfl rfl ?_
          refine AOps.s 30 rfl rfl rfl (q_pick_true true rfl rfl rfl rfl) ?_
          refine AOps.s 31 rfl rfl rfl (q_move (.inl rfl) rfl) ?_
          refine AOps.k 32 rfl rfl rfl ?_
          refine AOps.k 33 rfl rfl rfl ?_
          refine AOps.k 34 rfl rfl rfl ?_
          refine AOps.s 35 rfl rfl rfl (q_pick_true true rfl rfl rfl rfl) ?_
          refine AOps.s 36 rfl rfl rfl (q_move (.inl rfl) rfl) ?_
          refine AOps.k 37 rfl rfl rfl ?_
          refine AOps.k 38 rfl rfl rfl ?_
          refine AOps.k 39 rfl rfl rfl ?_
          refine AOps.s 40 rfl rfl rfl (q_pick_true true rfl rfl rfl rfl) ?_
          refine AOps.s 41 rfl rfl rfl (q_move (.inl rfl) rfl) ?_
          refine AOps.k 42 rfl rfl rfl ?_
          refine AOps.k 43 rfl rfl rfl ?_
          refine AOps.k 44 rfl rfl rfl ?_
          refine AOps.s 45 rfl rfl rfl (q_pick_true true rfl rfl rfl rfl) ?_
          refine AOps.s 46 rfl rfl rfl (q_move (.inl rfl) rfl) ?_
          refine AOps.k 47 rfl rfl rfl ?_
          refine AOps.k 48 rfl rfl rfl ?_
          refine AOps.k 49 rfl rfl rfl ?_
          refine AOps.s 50 rfl rfl rfl (q_pick_true true rfl rfl rfl rfl) ?_
          refine AOps.s 51 rfl rfl rfl (q_move (.inl rfl) rfl) ?_
          refine AOps.k 52 rfl rfl rfl ?_
          refine AOps.k 53 rfl rfl rfl ?_
          refine AOps.k 54 rfl rfl rfl ?_
          refine AOps.s 55 rfl rfl rfl (q_pick_true true rfl rfl rfl rfl) ?_
          refine AOps.nil ?_
          refine AGo.cond_true true rfl rfl ?_
          refine AGo.seq ?_
          refine AGo.region ?_
          refine AOps.s 56 rfl rfl rfl (q_fieldAddr tok rfl rfl rfl rfl rfl rfl) ?_
          refine AOps.s 57 rfl rfl rfl (q_load tok rfl rfl rfl (by first | exact .loc _ | exact .ptr _ _ _ _ _ _ _ _ rfl rfl rfl) rfl) ?_
          refine AOps.s 58 rfl rfl rfl (q_fieldAddr tok rfl rfl rfl rfl rfl rfl) ?_
          refine AOps.w rfl rfl (o_store tok rfl rfl rfl rfl rfl rfl rfl rfl rfl (by decide) rfl (by first | exact fun _ => rfl | (intro h; cases h))) ?_
          refine AOps.nil ?_
          refine AGo.seq ?_
          refine AGo.region ?_
          refine AOps.s 59 rfl rfl rfl (q_fieldAddr tok rfl rfl rfl rfl rfl rfl) ?_
          refine AOps.s 60 rfl rfl rfl (q_load tok rfl rfl rfl (by first | exact .loc _ | exact .ptr _ _ _ _ _ _ _ _ rfl rfl rfl) rfl) ?_
          refine AOps.s 61 rfl rfl rfl (q_move (.inl rfl) rfl) ?_
          refine AOps.x 62 rfl rfl rfl (o_pure rfl Try.func52 (by kernel_rfl) rfl rfl rfl (within_ok _ _)) ?_
          refine AOps.s 63 rfl rfl rfl (q_not rfl rfl) ?_
          refine AOps.nil ?_
          refine AGo.split 63 rfl (fun hb4 => ?_) (fun hb4 => ?_)
          · -- True
            refine AGo.cond_true true rfl rfl ?_
            refine AGo.seq ?_
            refine AGo.region ?_
            refine AOps.s 8 rfl rfl rfl (q_move (.inr rfl) rfl) ?_
            refine AOps.nil ?_
            refine AGo.ret ?_
            refine ⟨[_], ⟨rfl, trivial⟩, ?_, rfl⟩
            show AV.bool _ = AV.bool _
            congr 1
            exact (fits_d (by first | (simp [setsOp, *]; done) | exact sets_pos ‹_›) (by simpa using ‹(!within t.d regs) = true›)).symm
          · -- False
            refine AGo.cond_false false rfl rfl ?_
            refine AGo.skip ?_
            exact ⟨t.d, Sub.mk' (by repeat (first | exact ESub.new _ | refine ESub.put ?_ (by rfl))) (by repeat (first | exact HSub.none _ | exact HSub.from_new _ | exact HSub.from_from (by decide) | refine HSub.put ?_ (by rfl) | refine HSub.from_put ?_ (by decide) | refine HSub.from_rm ?_ (by decide))), ⟨by have h := ‹(!within t.d regs) = false›; simp at h; simp [h], by first | (simp [setsOp, *]; done) | simp [sets_pos ‹_›]⟩⟩
        · -- False
          refine AOps.s 27 rfl rfl rfl (q_fieldAddr tok rfl rfl rfl rfl rfl rfl) ?_
          refine AOps.s 28 rfl rfl rfl (q_load tok rfl rfl rfl (by first | exact .loc _ | exact .ptr _ _ _ _ _ _ _ _ rfl rfl rfl) rfl) ?_
          refine AOps.s 29 rfl rfl rfl (q_bin rfl rfl rfl rfl) ?_
          refine AOps.s 30 rfl rfl rfl (q_pick_false false rfl rfl rfl rfl) ?_
          refine AOps.s 31 rfl rfl rfl (q_move (.inl rfl) rfl) ?_
          refine AOps.split 31 rfl (fun hb5 => ?_) (fun hb5 => ?_)
          · -- True
            refine AOps.k 32 rfl rfl rfl ?_
            refine AOps.k 33 rfl rfl rfl ?_
            refine AOps.k 34 rfl rfl rfl ?_
            refine AOps.s 35 rfl rfl rfl (q_pick_true true rfl rfl rfl rfl) ?_
            refine AOps.s 36 rfl rfl rfl (q_move (.inl rfl) rfl) ?_
            refine AOps.k 37 rfl rfl rfl ?_
            refine AOps.k 38 rfl rfl rfl ?_
            refine AOps.k 39 rfl rfl rfl ?_
            refine AOps.s 40 rfl rfl rfl (q_pick_true true rfl rfl rfl rfl) ?_
            refine AOps.s 41 rfl rfl rfl (q_move (.inl rfl) rfl) ?_
            refine AOps.k 42 rfl rfl rfl ?_
            refine AOps.k 43 rfl rfl rfl ?_
            refine AOps.k 44 rfl rfl rfl ?_
            refine AOps.s 45 rfl rfl rfl (q_pick_true true rfl rfl rfl rfl) ?_
            refine AOps.s 46 rfl rfl rfl (q_move (.inl rfl) rfl) ?_
            refine AOps.k 47 rfl rfl rfl ?_
            refine AOps.k 48 rfl rfl rfl ?_
            refine AOps.k 49 rfl rfl rfl ?_
            refine AOps.s 50 rfl rfl rfl (q_pick_true true rfl rfl rfl rfl) ?_
            refine AOps.s 51 rfl rfl rfl (q_move (.inl rfl) rfl) ?_
            refine AOps.k 52 rfl rfl rfl ?_
            refine AOps.k 53 rfl rfl rfl ?_
            refine AOps.k 54 rfl rfl rfl ?_
            refine AOps.s 55 rfl rfl rfl (q_pick_true true rfl rfl rfl rfl) ?_
            refine AOps.nil ?_
            refine AGo.cond_true true rfl rfl ?_
            refine AGo.seq ?_
            refine AGo.region ?_
            refine AOps.s 56 rfl rfl rfl (q_fieldAddr tok rfl rfl rfl rfl rfl rfl) ?_
            refine AOps.s 57 rfl rfl rfl (q_load tok rfl rfl rfl (by first | exact .loc _ | exact .ptr _ _ _ _ _ _ _ _ rfl rfl rfl) rfl) ?_
            refine AOps.s 58 rfl rfl rfl (q_fieldAddr tok rfl rfl rfl rfl rfl rfl) ?_
            refine AOps.w rfl rfl (o_store tok rfl rfl rfl rfl rfl rfl rfl rfl rfl (by decide) rfl (by first | exact fun _ => rfl | (intro h; cases h))) ?_
            refine AOps.nil ?_
            refine AGo.seq ?_
            refine AGo.region ?_
            refine AOps.s 59 rfl rfl rfl (q_fieldAddr tok rfl rfl rfl rfl rfl rfl) ?_
            refine AOps.s 60 rfl rfl rfl (q_load tok rfl rfl rfl (by first | exact .loc _ | exact .ptr _ _ _ _ _ _ _ _ rfl rfl rfl) rfl) ?_
            refine AOps.s 61 rfl rfl rfl (q_move (.inl rfl) rfl) ?_
            refine AOps.x 62 rfl rfl rfl (o_pure rfl Try.func52 (by kernel_rfl) rfl rfl rfl (within_ok _ _)) ?_
            refine AOps.s 63 rfl rfl rfl (q_not rfl rfl) ?_
            refine AOps.nil ?_
            refine AGo.split 63 rfl (fun hb6 => ?_) (fun hb6 => ?_)
            · -- True
              refine AGo.cond_true true rfl rfl ?_
              refine AGo.seq ?_
              refine AGo.region ?_
              refine AOps.s 8 rfl rfl rfl (q_move (.inr rfl) rfl) ?_
              refine AOps.nil ?_
              refine AGo.ret ?_
              refine ⟨[_], ⟨rfl, trivial⟩, ?_, rfl⟩
              show AV.bool _ = AV.bool _
              congr 1
              exact (fits_d (by first | (simp [setsOp, *]; done) | exact sets_pos ‹_›) (by simpa using ‹(!within t.d regs) = true›)).symm
            · -- False
              refine AGo.cond_false false rfl rfl ?_
              refine AGo.skip ?_
              exact ⟨t.d, Sub.mk' (by repeat (first | exact ESub.new _ | refine ESub.put ?_ (by rfl))) (by repeat (first | exact HSub.none _ | exact HSub.from_new _ | exact HSub.from_from (by decide) | refine HSub.put ?_ (by rfl) | refine HSub.from_put ?_ (by decide) | refine HSub.from_rm ?_ (by decide))), ⟨by have h := ‹(!within t.d regs) = false›; simp at h; simp [h], by first | (simp [setsOp, *]; done) | simp [sets_pos ‹_›]⟩⟩
          · -- False
            refine AOps.s 32 rfl rfl rfl (q_fieldAddr tok rfl rfl rfl rfl rfl rfl) ?_
            refine AOps.s 33 rfl rfl rfl (q_load tok rfl rfl rfl (by first | exact .loc _ | exact .ptr _ _ _ _ _ _ _ _ rfl rfl rfl) rfl) ?_
            refine AOps.s 34 rfl rfl rfl (q_bin rfl rfl rfl rfl) ?_
            refine AOps.s 35 rfl rfl rfl (q_pick_false false rfl rfl rfl rfl) ?_
            refine AOps.s 36 rfl rfl rfl (q_move (.inl rfl) rfl) ?_
            refine AOps.split 36 rfl (fun hb7 => ?_) (fun hb7 => ?_)
            · -- True
              refine AOps.k 37 rfl rfl rfl ?_
              refine AOps.k 38 rfl rfl rfl ?_
              refine AOps.k 39 rfl rfl rfl ?_
              refine AOps.s 40 rfl rfl rfl (q_pick_true true rfl rfl rfl rfl) ?_
              refine AOps.s 41 rfl rfl rfl (q_move (.inl rfl) rfl) ?_
              refine AOps.k 42 rfl rfl rfl ?_
              refine AOps.k 43 rfl rfl rfl ?_
              refine AOps.k 44 rfl rfl rfl ?_
              refine AOps.s 45 rfl rfl rfl (q_pick_true true rfl rfl rfl rfl) ?_
              refine AOps.s 46 rfl rfl rfl (q_move (.inl rfl) rfl) ?_
              refine AOps.k 47 rfl rfl rfl ?_
              refine AOps.k 48 rfl rfl rfl ?_
              refine AOps.k 49 rfl rfl rfl ?_
              refine AOps.s 50 rfl rfl rfl (q_pick_true true rfl rfl rfl rfl) ?_
              refine AOps.s 51 rfl rfl rfl (q_move (.inl rfl) rfl) ?_
              refine AOps.k 52 rfl rfl rfl ?_
              refine AOps.k 53 rfl rfl rfl ?_
              refine AOps.k 54 rfl rfl rfl ?_
              refine AOps.s 55 rfl rfl rfl (q_pick_true true rfl rfl rfl rfl) ?_
              refine AOps.nil ?_
              refine AGo.cond_true true rfl rfl ?_
              refine AGo.seq ?_
              refine AGo.region ?_
              refine AOps.s 56 rfl rfl rfl (q_fieldAddr tok rfl rfl rfl rfl rfl rfl) ?_
              refine AOps.s 57 rfl rfl rfl (q_load tok rfl rfl rfl (by first | exact .loc _ | exact .ptr _ _ _ _ _ _ _ _ rfl rfl rfl) rfl) ?_
              refine AOps.s 58 rfl rfl rfl (q_fieldAddr tok rfl rfl rfl rfl rfl rfl) ?_
              refine AOps.w rfl rfl (o_store tok rfl rfl rfl rfl rfl rfl rfl rfl rfl (by decide) rfl (by first | exact fun _ => rfl | (intro h; cases h))) ?_
              refine AOps.nil ?_
              refine AGo.seq ?_
              refine AGo.region ?_
              refine AOps.s 59 rfl rfl rfl (q_fieldAddr tok rfl rfl rfl rfl rfl rfl) ?_
              refine AOps.s 60 rfl rfl rfl (q_load tok rfl rfl rfl (by first | exact .loc _ | exact .ptr _ _ _ _ _ _ _ _ rfl rfl rfl) rfl) ?_
              refine AOps.s 61 rfl rfl rfl (q_move (.inl rfl) rfl) ?_
              refine AOps.x 62 rfl rfl rfl (o_pure rfl Try.func52 (by kernel_rfl) rfl rfl rfl (within_ok _ _)) ?_
              refine AOps.s 63 rfl rfl rfl (q_not rfl rfl) ?_
              refine AOps.nil ?_
              refine AGo.split 63 rfl (fun hb8 => ?_) (fun hb8 => ?_)
              · -- True
                refine AGo.cond_true true rfl rfl ?_
                refine AGo.seq ?_
                refine AGo.region ?_
                refine AOps.s 8 rfl rfl rfl (q_move (.inr rfl) rfl) ?_
                refine AOps.nil ?_
                refine AGo.ret ?_
                refine ⟨[_], ⟨rfl, trivial⟩, ?_, rfl⟩
                show AV.bool _ = AV.bool _
                congr 1
                exact (fits_d (by first | (simp [setsOp, *]; done) | exact sets_pos ‹_›) (by simpa using ‹(!within t.d regs) = true›)).symm
              · -- False
                refine AGo.cond_false false rfl rfl ?_
                refine AGo.skip ?_
                exact ⟨t.d, Sub.mk' (by repeat (first | exact ESub.new _ | refine ESub.put ?_ (by rfl))) (by repeat (first | exact HSub.none _ | exact HSub.from_new _ | exact HSub.from_from (by decide) | refine HSub.put ?_ (by rfl) | refine HSub.from_put ?_ (by decide) | refine HSub.from_rm ?_ (by decide))), ⟨by have h := ‹(!within t.d regs) = false›; simp at h; simp [h], by first | (simp [setsOp, *]; done) | simp [sets_pos ‹_›]⟩⟩
            · -- False
              refine AOps.s 37 rfl rfl rfl (q_fieldAddr tok rfl rfl rfl rfl rfl rfl) ?_
              refine AOps.s 38 rfl rfl rfl (q_load tok rfl rfl rfl (by first | exact .loc _ | exact .ptr _ _ _ _ _ _ _ _ rfl rfl rfl) rfl) ?_
              refine AOps.s 39 rfl rfl rfl (q_bin rfl rfl rfl rfl) ?_
              refine AOps.s 40 rfl rfl rfl (q_pick_false false rfl rfl rfl rfl) ?_
              refine AOps.s 41 rfl rfl rfl (q_move (.inl rfl) rfl) ?_
              refine AOps.split 41 rfl (fun hb9 => ?_) (fun hb9 => ?_)
              · -- True
                refine AOps.k 42 rfl rfl rfl ?_
                refine AOps.k 43 rfl rfl rfl ?_
                refine AOps.k 44 rfl rfl rfl ?_
                refine AOps.s 45 rfl rfl rfl (q_pick_true true rfl rfl rfl rfl) ?_
                refine AOps.s 46 rfl rfl rfl (q_move (.inl rfl) rfl) ?_
                refine AOps.k 47 rfl rfl rfl ?_
                refine AOps.k 48 rfl rfl rfl ?_
                refine AOps.k 49 rfl rfl rfl ?_
                refine AOps.s 50 rfl rfl rfl (q_pick_true true rfl rfl rfl rfl) ?_
                refine AOps.s 51 rfl rfl rfl (q_move (.inl rfl) rfl) ?_
                refine AOps.k 52 rfl rfl rfl ?_
                refine AOps.k 53 rfl rfl rfl ?_
                refine AOps.k 54 rfl rfl rfl ?_
                refine AOps.s 55 rfl rfl rfl (q_pick_true true rfl rfl rfl rfl) ?_
                refine AOps.nil ?_
                refine AGo.cond_true true rfl rfl ?_
                refine AGo.seq ?_
                refine AGo.region ?_
                refine AOps.s 56 rfl rfl rfl (q_fieldAddr tok rfl rfl rfl rfl rfl rfl) ?_
                refine AOps.s 57 rfl rfl rfl (q_load tok rfl rfl rfl (by first | exact .loc _ | exact .ptr _ _ _ _ _ _ _ _ rfl rfl rfl) rfl) ?_
                refine AOps.s 58 rfl rfl rfl (q_fieldAddr tok rfl rfl rfl rfl rfl rfl) ?_
                refine AOps.w rfl rfl (o_store tok rfl rfl rfl rfl rfl rfl rfl rfl rfl (by decide) rfl (by first | exact fun _ => rfl | (intro h; cases h))) ?_
                refine AOps.nil ?_
                refine AGo.seq ?_
                refine AGo.region ?_
                refine AOps.s 59 rfl rfl rfl (q_fieldAddr tok rfl rfl rfl rfl rfl rfl) ?_
                refine AOps.s 60 rfl rfl rfl (q_load tok rfl rfl rfl (by first | exact .loc _ | exact .ptr _ _ _ _ _ _ _ _ rfl rfl rfl) rfl) ?_
                refine AOps.s 61 rfl rfl rfl (q_move (.inl rfl) rfl) ?_
                refine AOps.x 62 rfl rfl rfl (o_pure rfl Try.func52 (by kernel_rfl) rfl rfl rfl (within_ok _ _)) ?_
                refine AOps.s 63 rfl rfl rfl (q_not rfl rfl) ?_
                refine AOps.nil ?_
                refine AGo.split 63 rfl (fun hb10 => ?_) (fun hb10 => ?_)
                · -- True
                  refine AGo.cond_true true rfl rfl ?_
                  refine AGo.seq ?_
                  refine AGo.region ?_
                  refine AOps.s 8 rfl rfl rfl (q_move (.inr rfl) rfl) ?_
                  refine AOps.nil ?_
                  refine AGo.ret ?_
                  refine ⟨[_], ⟨rfl, trivial⟩, ?_, rfl⟩
                  show AV.bool _ = AV.bool _
                  congr 1
                  exact (fits_d (by first | (simp [setsOp, *]; done) | exact sets_pos ‹_›) (by simpa using ‹(!within t.d regs) = true›)).symm
                · -- False
                  refine AGo.cond_false false rfl rfl ?_
                  refine AGo.skip ?_
                  exact ⟨t.d, Sub.mk' (by repeat (first | exact ESub.new _ | refine ESub.put ?_ (by rfl))) (by repeat (first | exact HSub.none _ | exact HSub.from_new _ | exact HSub.from_from (by decide) | refine HSub.put ?_ (by rfl) | refine HSub.from_put ?_ (by decide) | refine HSub.from_rm ?_ (by decide))), ⟨by have h := ‹(!within t.d regs) = false›; simp at h; simp [h], by first | (simp [setsOp, *]; done) | simp [sets_pos ‹_›]⟩⟩
              · -- False
                refine AOps.s 42 rfl rfl rfl (q_fieldAddr tok rfl rfl rfl rfl rfl rfl) ?_
                refine AOps.s 43 rfl rfl rfl (q_load tok rfl rfl rfl (by first | exact .loc _ | exact .ptr _ _ _ _ _ _ _ _ rfl rfl rfl) rfl) ?_
                refine AOps.s 44 rfl rfl rfl (q_bin rfl rfl rfl rfl) ?_
                refine AOps.s 45 rfl rfl rfl (q_pick_false false rfl rfl rfl rfl) ?_
                refine AOps.s 46 rfl rfl rfl (q_move (.inl rfl) rfl) ?_
                refine AOps.split 46 rfl (fun hb11 => ?_) (fun hb11 => ?_)
                · -- True
                  refine AOps.k 47 rfl rfl rfl ?_
                  refine AOps.k 48 rfl rfl rfl ?_
                  refine AOps.k 49 rfl rfl rfl ?_
                  refine AOps.s 50 rfl rfl rfl (q_pick_true true rfl rfl rfl rfl) ?_
                  refine AOps.s 51 rfl rfl rfl (q_move (.inl rfl) rfl) ?_
                  refine AOps.k 52 rfl rfl rfl ?_
                  refine AOps.k 53 rfl rfl rfl ?_
                  refine AOps.k 54 rfl rfl rfl ?_
                  refine AOps.s 55 rfl rfl rfl (q_pick_true true rfl rfl rfl rfl) ?_
                  refine AOps.nil ?_
                  refine AGo.cond_true true rfl rfl ?_
                  refine AGo.seq ?_
                  refine AGo.region ?_
                  refine AOps.s 56 rfl rfl rfl (q_fieldAddr tok rfl rfl rfl rfl rfl rfl) ?_
                  refine AOps.s 57 rfl rfl rfl (q_load tok rfl rfl rfl (by first | exact .loc _ | exact .ptr _ _ _ _ _ _ _ _ rfl rfl rfl) rfl) ?_
                  refine AOps.s 58 rfl rfl rfl (q_fieldAddr tok rfl rfl rfl rfl rfl rfl) ?_
                  refine AOps.w rfl rfl (o_store tok rfl rfl rfl rfl rfl rfl rfl rfl rfl (by decide) rfl (by first | exact fun _ => rfl | (intro h; cases h))) ?_
                  refine AOps.nil ?_
                  refine AGo.seq ?_
                  refine AGo.region ?_
                  refine AOps.s 59 rfl rfl rfl (q_fieldAddr tok rfl rfl rfl rfl rfl rfl) ?_
                  refine AOps.s 60 rfl rfl rfl (q_load tok rfl rfl rfl (by first | exact .loc _ | exact .ptr _ _ _ _ _ _ _ _ rfl rfl rfl) rfl) ?_
                  refine AOps.s 61 rfl rfl rfl (q_move (.inl rfl) rfl) ?_
                  refine AOps.x 62 rfl rfl rfl (o_pure rfl Try.func52 (by kernel_rfl) rfl rfl rfl (within_ok _ _)) ?_
                  refine AOps.s 63 rfl rfl rfl (q_not rfl rfl) ?_
                  refine AOps.nil ?_
                  refine AGo.split 63 rfl (fun hb12 => ?_) (fun hb12 => ?_)
                  · -- True
                    refine AGo.cond_true true rfl rfl ?_
                    refine AGo.seq ?_
                    refine AGo.region ?_
                    refine AOps.s 8 rfl rfl rfl (q_move (.inr rfl) rfl) ?_
                    refine AOps.nil ?_
                    refine AGo.ret ?_
                    refine ⟨[_], ⟨rfl, trivial⟩, ?_, rfl⟩
                    show AV.bool _ = AV.bool _
                    congr 1
                    exact (fits_d (by first | (simp [setsOp, *]; done) | exact sets_pos ‹_›) (by simpa using ‹(!within t.d regs) = true›)).symm
                  · -- False
                    refine AGo.cond_false false rfl rfl ?_
                    refine AGo.skip ?_
                    exact ⟨t.d, Sub.mk' (by repeat (first | exact ESub.new _ | refine ESub.put ?_ (by rfl))) (by repeat (first | exact HSub.none _ | exact HSub.from_new _ | exact HSub.from_from (by decide) | refine HSub.put ?_ (by rfl) | refine HSub.from_put ?_ (by decide) | refine HSub.from_rm ?_ (by decide))), ⟨by have h := ‹(!within t.d regs) = false›; simp at h; simp [h], by first | (simp [setsOp, *]; done) | simp [sets_pos ‹_›]⟩⟩
                · -- False
                  refine AOps.s 47 rfl rfl rfl (q_fieldAddr tok rfl rfl rfl rfl rfl rfl) ?_
                  refine AOps.s 48 rfl rfl rfl (q_load tok rfl rfl rfl (by first | exact .loc _ | exact .ptr _ _ _ _ _ _ _ _ rfl rfl rfl) rfl) ?_
                  refine AOps.s 49 rfl rfl rfl (q_bin rfl rfl rfl rfl) ?_
                  refine AOps.s 50 rfl rfl rfl (q_pick_false false rfl rfl rfl rfl) ?_
                  refine AOps.s 51 rfl rfl rfl (q_move (.inl rfl) rfl) ?_
                  refine AOps.split 51 rfl (fun hb13 => ?_) (fun hb13 => ?_)
                  · -- True
                    refine AOps.k 52 rfl rfl rfl ?_
                    refine AOps.k 53 rfl rfl rfl ?_
                    refine AOps.k 54 rfl rfl rfl ?_
                    refine AOps.s 55 rfl rfl rfl (q_pick_true true rfl rfl rfl rfl) ?_
                    refine AOps.nil ?_
                    refine AGo.cond_true true rfl rfl ?_
                    refine AGo.seq ?_
                    refine AGo.region ?_
                    refine AOps.s 56 rfl rfl rfl (q_fieldAddr tok rfl rfl rfl rfl rfl rfl) ?_
                    refine AOps.s 57 rfl rfl rfl (q_load tok rfl rfl rfl (by first | exact .loc _ | exact .ptr _ _ _ _ _ _ _ _ rfl rfl rfl) rfl) ?_
                    refine AOps.s 58 rfl rfl rfl (q_fieldAddr tok rfl rfl rfl rfl rfl rfl) ?_
                    refine AOps.w rfl rfl (o_store tok rfl rfl rfl rfl rfl rfl rfl rfl rfl (by decide) rfl (by first | exact fun _ => rfl | (intro h; cases h))) ?_
                    refine AOps.nil ?_
                    refine AGo.seq ?_
                    refine AGo.region ?_
                    refine AOps.s 59 rfl rfl rfl (q_fieldAddr tok rfl rfl rfl rfl rfl rfl) ?_
                    refine AOps.s 60 rfl rfl rfl (q_load tok rfl rfl rfl (by first | exact .loc _ | exact .ptr _ _ _ _ _ _ _ _ rfl rfl rfl) rfl) ?_
                    refine AOps.s 61 rfl rfl rfl (q_move (.inl rfl) rfl) ?_
                    refine AOps.x 62 rfl rfl rfl (o_pure rfl Try.func52 (by kernel_rfl) rfl rfl rfl (within_ok _ _)) ?_
                    refine AOps.s 63 rfl rfl rfl (q_not rfl rfl) ?_
                    refine AOps.nil ?_
                    refine AGo.split 63 rfl (fun hb14 => ?_) (fun hb14 => ?_)
                    · -- True
                      refine AGo.cond_true true rfl rfl ?_
                      refine AGo.seq ?_
                      refine AGo.region ?_
                      refine AOps.s 8 rfl rfl rfl (q_move (.inr rfl) rfl) ?_
                      refine AOps.nil ?_
                      refine AGo.ret ?_
                      refine ⟨[_], ⟨rfl, trivial⟩, ?_, rfl⟩
                      show AV.bool _ = AV.bool _
                      congr 1
                      exact (fits_d (by first | (simp [setsOp, *]; done) | exact sets_pos ‹_›) (by simpa using ‹(!within t.d regs) = true›)).symm
                    · -- False
                      refine AGo.cond_false false rfl rfl ?_
                      refine AGo.skip ?_
                      exact ⟨t.d, Sub.mk' (by repeat (first | exact ESub.new _ | refine ESub.put ?_ (by rfl))) (by repeat (first | exact HSub.none _ | exact HSub.from_new _ | exact HSub.from_from (by decide) | refine HSub.put ?_ (by rfl) | refine HSub.from_put ?_ (by decide) | refine HSub.from_rm ?_ (by decide))), ⟨by have h := ‹(!within t.d regs) = false›; simp at h; simp [h], by first | (simp [setsOp, *]; done) | simp [sets_pos ‹_›]⟩⟩
                  · -- False
                    refine AOps.s 52 rfl rfl rfl (q_fieldAddr tok rfl rfl rfl rfl rfl rfl) ?_
                    refine AOps.s 53 rfl rfl rfl (q_load tok rfl rfl rfl (by first | exact .loc _ | exact .ptr _ _ _ _ _ _ _ _ rfl rfl rfl) rfl) ?_
                    refine AOps.s 54 rfl rfl rfl (q_bin rfl rfl rfl rfl) ?_
                    refine AOps.s 55 rfl rfl rfl (q_pick_false false rfl rfl rfl rfl) ?_
                    refine AOps.nil ?_
                    refine AGo.split 55 rfl (fun hb15 => ?_) (fun hb15 => ?_)
                    · -- True
                      refine AGo.cond_true true rfl rfl ?_
                      refine AGo.seq ?_
                      refine AGo.region ?_
                      refine AOps.s 56 rfl rfl rfl (q_fieldAddr tok rfl rfl rfl rfl rfl rfl) ?_
                      refine AOps.s 57 rfl rfl rfl (q_load tok rfl rfl rfl (by first | exact .loc _ | exact .ptr _ _ _ _ _ _ _ _ rfl rfl rfl) rfl) ?_
                      refine AOps.s 58 rfl rfl rfl (q_fieldAddr tok rfl rfl rfl rfl rfl rfl) ?_
                      refine AOps.w rfl rfl (o_store tok rfl rfl rfl rfl rfl rfl rfl rfl rfl (by decide) rfl (by first | exact fun _ => rfl | (intro h; cases h))) ?_
                      refine AOps.nil ?_
                      refine AGo.seq ?_
                      refine AGo.region ?_
                      refine AOps.s 59 rfl rfl rfl (q_fieldAddr tok rfl rfl rfl rfl rfl rfl) ?_
                      refine AOps.s 60 rfl rfl rfl (q_load tok rfl rfl rfl (by first | exact .loc _ | exact .ptr _ _ _ _ _ _ _ _ rfl rfl rfl) rfl) ?_
                      refine AOps.s 61 rfl rfl rfl (q_move (.inl rfl) rfl) ?_
                      refine AOps.x 62 rfl rfl rfl (o_pure rfl Try.func52 (by kernel_rfl) rfl rfl rfl (within_ok _ _)) ?_
                      refine AOps.s 63 rfl rfl rfl (q_not rfl rfl) ?_
                      refine AOps.nil ?_
                      refine AGo.split 63 rfl (fun hb16 => ?_) (fun hb16 => ?_)
                      · -- True
                        refine AGo.cond_true true rfl rfl ?_
                        refine AGo.seq ?_
                        refine AGo.region ?_
                        refine AOps.s 8 rfl rfl rfl (q_move (.inr rfl) rfl) ?_
                        refine AOps.nil ?_
                        refine AGo.ret ?_
                        refine ⟨[_], ⟨rfl, trivial⟩, ?_, rfl⟩
                        show AV.bool _ = AV.bool _
                        congr 1
                        exact (fits_d (by first | (simp [setsOp, *]; done) | exact sets_pos ‹_›) (by simpa using ‹(!within t.d regs) = true›)).symm
                      · -- False
                        refine AGo.cond_false false rfl rfl ?_
                        refine AGo.skip ?_
                        exact ⟨t.d, Sub.mk' (by repeat (first | exact ESub.new _ | refine ESub.put ?_ (by rfl))) (by repeat (first | exact HSub.none _ | exact HSub.from_new _ | exact HSub.from_from (by decide) | refine HSub.put ?_ (by rfl) | refine HSub.from_put ?_ (by decide) | refine HSub.from_rm ?_ (by decide))), ⟨by have h := ‹(!within t.d regs) = false›; simp at h; simp [h], by first | (simp [setsOp, *]; done) | simp [sets_pos ‹_›]⟩⟩
                    · -- False
                      refine AGo.cond_false false rfl rfl ?_
                      refine AGo.skip ?_
                      exact ⟨0, Sub.mk' (by repeat (first | exact ESub.new _ | refine ESub.put ?_ (by rfl))) (by repeat (first | exact HSub.none _ | exact HSub.from_new _ | exact HSub.from_from (by decide) | refine HSub.put ?_ (by rfl) | refine HSub.from_put ?_ (by decide) | refine HSub.from_rm ?_ (by decide))), ⟨by simp [setsOp, *], by simp [setsOp, *]⟩⟩
      intro d ⟨hd, hdd⟩
      refine AGo.seq ?_
      refine AGo.region ?_
      refine AOps.s 64 rfl rfl rfl (q_load tok rfl rfl rfl (by first | exact .loc _ | exact .ptr _ _ _ _ _ _ _ _ rfl rfl rfl) rfl) ?_
      refine AOps.x 65 rfl rfl rfl (o_pure rfl Try.func54 (by kernel_rfl) rfl rfl rfl (uses_ok _)) ?_
      refine AOps.s 10 rfl rfl rfl (q_move (.inr rfl) rfl) ?_
      refine AOps.nil ?_
      refine AGo.seq ?_
      refine AGo.seq ?_
      refine AGo.region ?_
      refine AOps.s 11 rfl rfl rfl (q_move (.inr rfl) rfl) ?_
      refine AOps.nil ?_
      refine AGo.block ?_
      refine AGo.loopD (γ := Nat) 2 (fun j => ⟨166, (eput (eput (eput (eput (eput (eput (eput eNew 1 (.int .i64 f)) 2 (.int .i64 regs)) 3 (.int .i64 words)) 4 (.ptr 0 1 0 0)) 9 (.ptr 1 1 0 0)) 10 (intsAV t.uses)) 11 (.int .i64 (j : Int))), (hput (hput (hFrom 2) 0 (.row false 8 [t.cells])) 1 (.row false 8 [[.int .i64 t.op, .int .i64 d, .int .i64 0, .int .i64 0, .int .i64 0, .int .i64 0, .int .i64 0, .int .u32 0]]))⟩) (fun j => (t.uses.take j).all (fun r => within r regs) = true) (fun j => t.uses.length - j) 0 (Sub.mk' (by repeat (first | exact ESub.new _ | refine ESub.put ?_ (by rfl))) (by repeat (first | exact HSub.none _ | exact HSub.from_new _ | exact HSub.from_from (by decide) | refine HSub.put ?_ (by rfl) | refine HSub.from_put ?_ (by decide) | refine HSub.from_rm ?_ (by decide)))) rfl (fun _ => hput_free (hput_free (fun b hb => hFrom_free hb) rfl) rfl) ?_
      intro j hj
      refine AGo.seq ?_
      refine AGo.seq ?_
      refine AGo.region ?_
      refine AOps.s 66 rfl rfl rfl (q_move (.inl rfl) rfl) ?_
      refine AOps.s 67 rfl rfl rfl (q_move (.inl rfl) rfl) ?_
      refine AOps.s 68 rfl rfl rfl (q_len tok rfl rfl rfl rfl rfl) ?_
      refine AOps.s 69 rfl rfl rfl (q_bin rfl rfl rfl rfl) ?_
      refine AOps.nil ?_
      refine AGo.split 69 rfl (fun hb17 => ?_) (fun hb17 => ?_)
      · -- True
        refine AGo.cond_true true rfl rfl ?_
        have hjl : j < t.uses.length := lt_of_idx hb17
        obtain ⟨u, hu⟩ := get_of_lt hjl
        refine AGo.skip ?_
        refine AGo.seq ?_
        refine AGo.block ?_
        refine AGo.seq ?_
        refine AGo.region ?_
        refine AOps.s 72 rfl rfl rfl (q_move (.inl rfl) rfl) ?_
        refine AOps.s 73 rfl rfl rfl (q_move (.inl rfl) rfl) ?_
        refine AOps.s 74 rfl rfl rfl (q_index_lst tok rfl rfl rfl rfl rfl rfl (Int.natCast_nonneg _) (idx_map (by assumption)) rfl) ?_
        refine AOps.s 75 rfl rfl rfl (q_load tok rfl rfl rfl (by first | exact .loc _ | exact .ptr _ _ _ _ _ _ _ _ rfl rfl rfl) rfl) ?_
        refine AOps.s 76 rfl rfl rfl (q_move (.inl rfl) rfl) ?_
        refine AOps.x 77 rfl rfl rfl (o_pure rfl Try.func52 (by kernel_rfl) rfl rfl rfl (within_ok _ _)) ?_
        refine AOps.s 78 rfl rfl rfl (q_not rfl rfl) ?_
        refine AOps.nil ?_
        refine AGo.split 78 rfl (fun hb18 => ?_) (fun hb18 => ?_)
        · -- True
          refine AGo.cond_true true rfl rfl ?_
          have hbw := hb18
          refine AGo.seq ?_
          refine AGo.region ?_
          refine AOps.s 8 rfl rfl rfl (q_move (.inr rfl) rfl) ?_
          refine AOps.nil ?_
          refine AGo.ret ?_
          refine ⟨[_], ⟨rfl, trivial⟩, ?_, rfl⟩
          show AV.bool _ = AV.bool _
          congr 1
          exact (fits_use (all_bad hu (by simpa using hbw))).symm
        · -- False
          refine AGo.cond_false false rfl rfl ?_
          have hbw := hb18
          refine AGo.skip ?_
          refine AGo.region ?_
          refine AOps.s 70 rfl rfl rfl (q_move (.inl rfl) rfl) ?_
          refine AOps.s 71 rfl rfl rfl (q_inc rfl rfl hjl (Nat.le_trans (uses_len t) (by decide))) ?_
          refine AOps.s 11 rfl rfl rfl (q_move (.inr rfl) rfl) ?_
          refine AOps.nil ?_
          exact ⟨j+1, Drop.mk' (by repeat (first | exact EDrop.new _ _ | refine EDrop.put ?_ (by rfl) rfl)) (by repeat (first | exact HDrop.none _ _ | exact HDrop.tail _ _ | refine HDrop.put ?_ (by rfl) rfl rfl)), all_succ hu hj (by simpa using hbw), by omega⟩
      · -- False
        refine AGo.cond_false false rfl rfl ?_
        have hall := all_end hj (ge_of_idx hb17)
        refine AGo.exit ?_
        refine AGo.seq ?_
        refine AGo.join (γ := Int) (fun a => ⟨166, (eput (eput (eput (eput (eput (eput eNew 1 (.int .i64 f)) 2 (.int .i64 regs)) 3 (.int .i64 words)) 4 (.ptr 0 1 0 0)) 9 (.ptr 1 1 0 0)) 10 (intsAV t.uses)), (hput (hput (hFrom 2) 0 (.row false 8 [t.cells])) 1 (.row false 8 [[.int .i64 t.op, .int .i64 d, .int .i64 a, .int .i64 0, .int .i64 0, .int .i64 0, .int .i64 0, .int .u32 0]]))⟩) (fun a => a = bif use1 t.op || use2 t.op then t.a else 0) ?_ ?_
        · -- to the join
          refine AGo.seq ?_
          refine AGo.region ?_
          refine AOps.s 79 rfl rfl rfl (q_move (.inl rfl) rfl) ?_
          refine AOps.s 80 rfl rfl rfl (q_len tok rfl rfl rfl rfl rfl) ?_
          refine AOps.s 81 rfl rfl rfl (q_bin rfl rfl rfl rfl) ?_
          refine AOps.nil ?_
          refine AGo.split 81 rfl (fun hb19 => ?_) (fun hb19 => ?_)
          · -- True
            refine AGo.cond_true true rfl rfl ?_
            refine AGo.region ?_
            refine AOps.s 82 rfl rfl rfl (q_fieldAddr tok rfl rfl rfl rfl rfl rfl) ?_
            refine AOps.s 83 rfl rfl rfl (q_load tok rfl rfl rfl (by first | exact .loc _ | exact .ptr _ _ _ _ _ _ _ _ rfl rfl rfl) rfl) ?_
            refine AOps.s 84 rfl rfl rfl (q_fieldAddr tok rfl rfl rfl rfl rfl rfl) ?_
            refine AOps.w rfl rfl (o_store tok rfl rfl rfl rfl rfl rfl rfl rfl rfl (by decide) rfl (by first | exact fun _ => rfl | (intro h; cases h))) ?_
            refine AOps.nil ?_
            exact ⟨t.a, Sub.mk' (by repeat (first | exact ESub.new _ | refine ESub.put ?_ (by rfl))) (by repeat (first | exact HSub.none _ | exact HSub.from_new _ | exact HSub.from_from (by decide) | refine HSub.put ?_ (by rfl) | refine HSub.from_put ?_ (by decide) | refine HSub.from_rm ?_ (by decide))), by have h3 := use12 t.op; cases h1 : use1 t.op <;> cases h2 : use2 t.op <;> simp_all [Tac.uses]⟩
          · -- False
            refine AGo.cond_false false rfl rfl ?_
            refine AGo.skip ?_
            exact ⟨0, Sub.mk' (by repeat (first | exact ESub.new _ | refine ESub.put ?_ (by rfl))) (by repeat (first | exact HSub.none _ | exact HSub.from_new _ | exact HSub.from_from (by decide) | refine HSub.put ?_ (by rfl) | refine HSub.from_put ?_ (by decide) | refine HSub.from_rm ?_ (by decide))), by have h3 := use12 t.op; cases h1 : use1 t.op <;> cases h2 : use2 t.op <;> simp_all [Tac.uses]⟩
        intro a haa
        refine AGo.seq ?_
        refine AGo.join (γ := Int) (fun b => ⟨166, (eput (eput (eput (eput (eput eNew 1 (.int .i64 f)) 2 (.int .i64 regs)) 3 (.int .i64 words)) 4 (.ptr 0 1 0 0)) 9 (.ptr 1 1 0 0)), (hput (hput (hFrom 2) 0 (.row false 8 [t.cells])) 1 (.row false 8 [[.int .i64 t.op, .int .i64 d, .int .i64 a, .int .i64 b, .int .i64 0, .int .i64 0, .int .i64 0, .int .u32 0]]))⟩) (fun b => b = bif use2 t.op then t.b else 0) ?_ ?_
        · -- to the join
          refine AGo.seq ?_
          refine AGo.region ?_
          refine AOps.s 85 rfl rfl rfl (q_move (.inl rfl) rfl) ?_
          refine AOps.s 86 rfl rfl rfl (q_len tok rfl rfl rfl rfl rfl) ?_
          refine AOps.s 87 rfl rfl rfl (q_bin rfl rfl rfl rfl) ?_
          refine AOps.nil ?_
          refine AGo.split 87 rfl (fun hb20 => ?_) (fun hb20 => ?_)
          · -- True
            refine AGo.cond_true true rfl rfl ?_
            refine AGo.region ?_
            refine AOps.s 88 rfl rfl rfl (q_fieldAddr tok rfl rfl rfl rfl rfl rfl) ?_
            refine AOps.s 89 rfl rfl rfl (q_load tok rfl rfl rfl (by first | exact .loc _ | exact .ptr _ _ _ _ _ _ _ _ rfl rfl rfl) rfl) ?_
            refine AOps.s 90 rfl rfl rfl (q_fieldAddr tok rfl rfl rfl rfl rfl rfl) ?_
            refine AOps.w rfl rfl (o_store tok rfl rfl rfl rfl rfl rfl rfl rfl rfl (by decide) rfl (by first | exact fun _ => rfl | (intro h; cases h))) ?_
            refine AOps.nil ?_
            exact ⟨t.b, Sub.mk' (by repeat (first | exact ESub.new _ | refine ESub.put ?_ (by rfl))) (by repeat (first | exact HSub.none _ | exact HSub.from_new _ | exact HSub.from_from (by decide) | refine HSub.put ?_ (by rfl) | refine HSub.from_put ?_ (by decide) | refine HSub.from_rm ?_ (by decide))), by have h3 := use12 t.op; cases h1 : use1 t.op <;> cases h2 : use2 t.op <;> simp_all [Tac.uses]⟩
          · -- False
            refine AGo.cond_false false rfl rfl ?_
            refine AGo.skip ?_
            exact ⟨0, Sub.mk' (by repeat (first | exact ESub.new _ | refine ESub.put ?_ (by rfl))) (by repeat (first | exact HSub.none _ | exact HSub.from_new _ | exact HSub.from_from (by decide) | refine HSub.put ?_ (by rfl) | refine HSub.from_put ?_ (by decide) | refine HSub.from_rm ?_ (by decide))), by have h3 := use12 t.op; cases h1 : use1 t.op <;> cases h2 : use2 t.op <;> simp_all [Tac.uses]⟩
        intro b hbb
        refine AGo.seq ?_
        refine AGo.seq ?_
        refine AGo.region ?_
        refine AOps.s 91 rfl rfl rfl (q_fieldAddr tok rfl rfl rfl rfl rfl rfl) ?_
        refine AOps.s 92 rfl rfl rfl (q_load tok rfl rfl rfl (by first | exact .loc _ | exact .ptr _ _ _ _ _ _ _ _ rfl rfl rfl) rfl) ?_
        refine AOps.nil ?_
        refine AGo.block ?_
        refine AGo.seq ?_
        refine AGo.region ?_
        refine AOps.s 94 rfl rfl rfl (q_bin rfl rfl rfl rfl) ?_
        refine AOps.s 93 rfl rfl rfl (q_move (.inr rfl) rfl) ?_
        refine AOps.nil ?_
        refine AGo.split 93 rfl (fun hb21 => ?_) (fun hb21 => ?_)
        · -- True
          refine AGo.cond_true true rfl rfl ?_
          refine AGo.region ?_
          refine AOps.s 95 rfl rfl rfl (q_fieldAddr tok rfl rfl rfl rfl rfl rfl) ?_
          refine AOps.s 96 rfl rfl rfl (q_load tok rfl rfl rfl (by first | exact .loc _ | exact .ptr _ _ _ _ _ _ _ _ rfl rfl rfl) rfl) ?_
          refine AOps.s 97 rfl rfl rfl (q_fieldAddr tok rfl rfl rfl rfl rfl rfl) ?_
          refine AOps.w rfl rfl (o_store tok rfl rfl rfl rfl rfl rfl rfl rfl rfl (by decide) rfl (by first | exact fun _ => rfl | (intro h; cases h))) ?_
          refine AOps.nil ?_
          refine AGo.seq ?_
          refine AGo.region ?_
          refine AOps.s 163 rfl rfl rfl (q_load tok rfl rfl rfl (by first | exact .loc _ | exact .ptr _ _ _ _ _ _ _ _ rfl rfl rfl) rfl) ?_
          refine AOps.s 164 rfl rfl rfl (q_load tok rfl rfl rfl (by first | exact .loc _ | exact .ptr _ _ _ _ _ _ _ _ rfl rfl rfl) rfl) ?_
          refine AOps.s 165 rfl rfl rfl (q_eqStruct tok false rfl rfl rfl (by kernel_rfl) rfl rfl rfl rfl rfl) ?_
          refine AOps.s 8 rfl rfl rfl (q_move (.inr rfl) rfl) ?_
          refine AOps.nil ?_
          refine AGo.ret ?_
          refine ⟨[_], ⟨rfl, trivial⟩, ?_, rfl⟩
          show AV.bool _ = AV.bool _
          congr 1
          have hwr : 1 ≤ t.size → t.size ≤ 4096 → IntKind.i64.wrap (words - t.size) = words - t.size := fun h1 h2 => wrap_i64 (by omega) (by omega)
          rw [fits_same hb1 hb2 hd hall (by simp_all [Tac.rest, baseOp, arrOp] <;> omega)]
          subst hdd haa hbb
          clear hd hj hall hwr hw hw2 hb1 hb2
          first | (simp_all [Tac.same, Tac.want, baseOp, arrOp, setsOp, use1, use2]; done) | simp [Tac.same, Tac.want, baseOp, arrOp, *]
        · -- False
          refine AGo.cond_false false rfl rfl ?_
          refine AGo.seq ?_
          refine AGo.region ?_
          refine AOps.s 99 rfl rfl rfl (q_bin rfl rfl rfl rfl) ?_
          refine AOps.s 98 rfl rfl rfl (q_move (.inr rfl) rfl) ?_
          refine AOps.nil ?_
          refine AGo.split 98 rfl (fun hb22 => ?_) (fun hb22 => ?_)
          · -- True
            refine AGo.cond_true true rfl rfl ?_
            refine AGo.seq ?_
            refine AGo.region ?_
            refine AOps.s 100 rfl rfl rfl (q_fieldAddr tok rfl rfl rfl rfl rfl rfl) ?_
            refine AOps.s 101 rfl rfl rfl (q_load tok rfl rfl rfl (by first | exact .loc _ | exact .ptr _ _ _ _ _ _ _ _ rfl rfl rfl) rfl) ?_
            refine AOps.s 102 rfl rfl rfl (q_fieldAddr tok rfl rfl rfl rfl rfl rfl) ?_
            refine AOps.w rfl rfl (o_store tok rfl rfl rfl rfl rfl rfl rfl rfl rfl (by decide) rfl (by first | exact fun _ => rfl | (intro h; cases h))) ?_
            refine AOps.nil ?_
            refine AGo.seq ?_
            refine AGo.region ?_
            refine AOps.s 103 rfl rfl rfl (q_fieldAddr tok rfl rfl rfl rfl rfl rfl) ?_
            refine AOps.s 104 rfl rfl rfl (q_load tok rfl rfl rfl (by first | exact .loc _ | exact .ptr _ _ _ _ _ _ _ _ rfl rfl rfl) rfl) ?_
            refine AOps.s 105 rfl rfl rfl (q_bin rfl rfl rfl rfl) ?_
            refine AOps.s 106 rfl rfl rfl (q_move (.inl rfl) rfl) ?_
            refine AOps.split 106 rfl (fun hb23 => ?_) (fun hb23 => ?_)
            · -- True
              refine AOps.k 107 rfl rfl rfl ?_
              refine AOps.k 108 rfl rfl rfl ?_
              refine AOps.k 109 rfl rfl rfl ?_
              refine AOps.s 110 rfl rfl rfl (q_pick_true true rfl rfl rfl rfl) ?_
              refine AOps.nil ?_
              refine AGo.cond_true true rfl rfl ?_
              refine AGo.seq ?_
              refine AGo.region ?_
              refine AOps.s 8 rfl rfl rfl (q_move (.inr rfl) rfl) ?_
              refine AOps.nil ?_
              refine AGo.ret ?_
              refine ⟨[_], ⟨rfl, trivial⟩, ?_, rfl⟩
              show AV.bool _ = AV.bool _
              congr 1
              exact (fits_rest (by simp_all [Tac.rest, baseOp, arrOp] <;> omega)).symm
            · -- False
              refine AOps.s 107 rfl rfl rfl (q_fieldAddr tok rfl rfl rfl rfl rfl rfl) ?_
              refine AOps.s 108 rfl rfl rfl (q_load tok rfl rfl rfl (by first | exact .loc _ | exact .ptr _ _ _ _ _ _ _ _ rfl rfl rfl) rfl) ?_
              refine AOps.s 109 rfl rfl rfl (q_bin rfl rfl rfl rfl) ?_
              refine AOps.s 110 rfl rfl rfl (q_pick_false false rfl rfl rfl rfl) ?_
              refine AOps.nil ?_
              refine AGo.split 110 rfl (fun hb24 => ?_) (fun hb24 => ?_)
              · -- True
                refine AGo.cond_true true rfl rfl ?_
                refine AGo.seq ?_
                refine AGo.region ?_
                refine AOps.s 8 rfl rfl rfl (q_move (.inr rfl) rfl) ?_
                refine AOps.nil ?_
                refine AGo.ret ?_
                refine ⟨[_], ⟨rfl, trivial⟩, ?_, rfl⟩
                show AV.bool _ = AV.bool _
                congr 1
                exact (fits_rest (by simp_all [Tac.rest, baseOp, arrOp] <;> omega)).symm
              · -- False
                refine AGo.cond_false false rfl rfl ?_
                refine AGo.skip ?_
                refine AGo.seq ?_
                refine AGo.region ?_
                refine AOps.s 163 rfl rfl rfl (q_load tok rfl rfl rfl (by first | exact .loc _ | exact .ptr _ _ _ _ _ _ _ _ rfl rfl rfl) rfl) ?_
                refine AOps.s 164 rfl rfl rfl (q_load tok rfl rfl rfl (by first | exact .loc _ | exact .ptr _ _ _ _ _ _ _ _ rfl rfl rfl) rfl) ?_
                refine AOps.s 165 rfl rfl rfl (q_eqStruct tok false rfl rfl rfl (by kernel_rfl) rfl rfl rfl rfl rfl) ?_
                refine AOps.s 8 rfl rfl rfl (q_move (.inr rfl) rfl) ?_
                refine AOps.nil ?_
                refine AGo.ret ?_
                refine ⟨[_], ⟨rfl, trivial⟩, ?_, rfl⟩
                show AV.bool _ = AV.bool _
                congr 1
                have hwr : 1 ≤ t.size → t.size ≤ 4096 → IntKind.i64.wrap (words - t.size) = words - t.size := fun h1 h2 => wrap_i64 (by omega) (by omega)
                rw [fits_same hb1 hb2 hd hall (by simp_all [Tac.rest, baseOp, arrOp] <;> omega)]
                subst hdd haa hbb
                clear hd hj hall hwr hw hw2 hb1 hb2
                first | (simp_all [Tac.same, Tac.want, baseOp, arrOp, setsOp, use1, use2]; done) | simp [Tac.same, Tac.want, baseOp, arrOp, *]
          · -- False
            refine AGo.cond_false false rfl rfl ?_
            refine AGo.seq ?_
            refine AGo.seq ?_
            refine AGo.region ?_
            refine AOps.s 112 rfl rfl rfl (q_bin rfl rfl rfl rfl) ?_
            refine AOps.s 111 rfl rfl rfl (q_move (.inr rfl) rfl) ?_
            refine AOps.nil ?_
            refine AGo.split 111 rfl (fun hb25 => ?_) (fun hb25 => ?_)
            · -- True
              refine AGo.cond_true true rfl rfl ?_
              refine AGo.skip ?_
              refine AGo.cond_true true rfl rfl ?_
              refine AGo.seq ?_
              refine AGo.region ?_
              refine AOps.s 114 rfl rfl rfl (q_fieldAddr tok rfl rfl rfl rfl rfl rfl) ?_
              refine AOps.s 115 rfl rfl rfl (q_load tok rfl rfl rfl (by first | exact .loc _ | exact .ptr _ _ _ _ _ _ _ _ rfl rfl rfl) rfl) ?_
              refine AOps.s 116 rfl rfl rfl (q_fieldAddr tok rfl rfl rfl rfl rfl rfl) ?_
              refine AOps.w rfl rfl (o_store tok rfl rfl rfl rfl rfl rfl rfl rfl rfl (by decide) rfl (by first | exact fun _ => rfl | (intro h; cases h))) ?_
              refine AOps.nil ?_
              refine AGo.seq ?_
              refine AGo.region ?_
              refine AOps.s 117 rfl rfl rfl (q_fieldAddr tok rfl rfl rfl rfl rfl rfl) ?_
              refine AOps.s 118 rfl rfl rfl (q_load tok rfl rfl rfl (by first | exact .loc _ | exact .ptr _ _ _ _ _ _ _ _ rfl rfl rfl) rfl) ?_
              refine AOps.s 119 rfl rfl rfl (q_move (.inl rfl) rfl) ?_
              refine AOps.x 120 rfl rfl rfl (o_pure rfl Try.func52 (by kernel_rfl) rfl rfl rfl (within_ok _ _)) ?_
              refine AOps.s 121 rfl rfl rfl (q_not rfl rfl) ?_
              refine AOps.nil ?_
              refine AGo.split 121 rfl (fun hb26 => ?_) (fun hb26 => ?_)
              · -- True
                refine AGo.cond_true true rfl rfl ?_
                refine AGo.seq ?_
                refine AGo.region ?_
                refine AOps.s 8 rfl rfl rfl (q_move (.inr rfl) rfl) ?_
                refine AOps.nil ?_
                refine AGo.ret ?_
                refine ⟨[_], ⟨rfl, trivial⟩, ?_, rfl⟩
                show AV.bool _ = AV.bool _
                congr 1
                exact (fits_rest (by simp_all [Tac.rest, baseOp, arrOp] <;> omega)).symm
              · -- False
                refine AGo.cond_false false rfl rfl ?_
                refine AGo.skip ?_
                refine AGo.seq ?_
                refine AGo.region ?_
                refine AOps.s 163 rfl rfl rfl (q_load tok rfl rfl rfl (by first | exact .loc _ | exact .ptr _ _ _ _ _ _ _ _ rfl rfl rfl) rfl) ?_
                refine AOps.s 164 rfl rfl rfl (q_load tok rfl rfl rfl (by first | exact .loc _ | exact .ptr _ _ _ _ _ _ _ _ rfl rfl rfl) rfl) ?_
                refine AOps.s 165 rfl rfl rfl (q_eqStruct tok false rfl rfl rfl (by kernel_rfl) rfl rfl rfl rfl rfl) ?_
                refine AOps.s 8 rfl rfl rfl (q_move (.inr rfl) rfl) ?_
                refine AOps.nil ?_
                refine AGo.ret ?_
                refine ⟨[_], ⟨rfl, trivial⟩, ?_, rfl⟩
                show AV.bool _ = AV.bool _
                congr 1
                have hwr : 1 ≤ t.size → t.size ≤ 4096 → IntKind.i64.wrap (words - t.size) = words - t.size := fun h1 h2 => wrap_i64 (by omega) (by omega)
                rw [fits_same hb1 hb2 hd hall (by simp_all [Tac.rest, baseOp, arrOp] <;> omega)]
                subst hdd haa hbb
                clear hd hj hall hwr hw hw2 hb1 hb2
                first | (simp_all [Tac.same, Tac.want, baseOp, arrOp, setsOp, use1, use2]; done) | simp [Tac.same, Tac.want, baseOp, arrOp, *]
            · -- False
              refine AGo.cond_false false rfl rfl ?_
              refine AGo.region ?_
              refine AOps.s 113 rfl rfl rfl (q_bin rfl rfl rfl rfl) ?_
              refine AOps.s 111 rfl rfl rfl (q_move (.inr rfl) rfl) ?_
              refine AOps.nil ?_
              refine AGo.split 111 rfl (fun hb27 => ?_) (fun hb27 => ?_)
              · -- True
                refine AGo.cond_true true rfl rfl ?_
                refine AGo.seq ?_
                refine AGo.region ?_
                refine AOps.s 114 rfl rfl rfl (q_fieldAddr tok rfl rfl rfl rfl rfl rfl) ?_
                refine AOps.s 115 rfl rfl rfl (q_load tok rfl rfl rfl (by first | exact .loc _ | exact .ptr _ _ _ _ _ _ _ _ rfl rfl rfl) rfl) ?_
                refine AOps.s 116 rfl rfl rfl (q_fieldAddr tok rfl rfl rfl rfl rfl rfl) ?_
                refine AOps.w rfl rfl (o_store tok rfl rfl rfl rfl rfl rfl rfl rfl rfl (by decide) rfl (by first | exact fun _ => rfl | (intro h; cases h))) ?_
                refine AOps.nil ?_
                refine AGo.seq ?_
                refine AGo.region ?_
                refine AOps.s 117 rfl rfl rfl (q_fieldAddr tok rfl rfl rfl rfl rfl rfl) ?_
                refine AOps.s 118 rfl rfl rfl (q_load tok rfl rfl rfl (by first | exact .loc _ | exact .ptr _ _ _ _ _ _ _ _ rfl rfl rfl) rfl) ?_
                refine AOps.s 119 rfl rfl rfl (q_move (.inl rfl) rfl) ?_
                refine AOps.x 120 rfl rfl rfl (o_pure rfl Try.func52 (by kernel_rfl) rfl rfl rfl (within_ok _ _)) ?_
                refine AOps.s 121 rfl rfl rfl (q_not rfl rfl) ?_
                refine AOps.nil ?_
                refine AGo.split 121 rfl (fun hb28 => ?_) (fun hb28 => ?_)
                · -- True
                  refine AGo.cond_true true rfl rfl ?_
                  refine AGo.seq ?_
                  refine AGo.region ?_
                  refine AOps.s 8 rfl rfl rfl (q_move (.inr rfl) rfl) ?_
                  refine AOps.nil ?_
                  refine AGo.ret ?_
                  refine ⟨[_], ⟨rfl, trivial⟩, ?_, rfl⟩
                  show AV.bool _ = AV.bool _
                  congr 1
                  exact (fits_rest (by simp_all [Tac.rest, baseOp, arrOp] <;> omega)).symm
                · -- False
                  refine AGo.cond_false false rfl rfl ?_
                  refine AGo.skip ?_
                  refine AGo.seq ?_
                  refine AGo.region ?_
                  refine AOps.s 163 rfl rfl rfl (q_load tok rfl rfl rfl (by first | exact .loc _ | exact .ptr _ _ _ _ _ _ _ _ rfl rfl rfl) rfl) ?_
                  refine AOps.s 164 rfl rfl rfl (q_load tok rfl rfl rfl (by first | exact .loc _ | exact .ptr _ _ _ _ _ _ _ _ rfl rfl rfl) rfl) ?_
                  refine AOps.s 165 rfl rfl rfl (q_eqStruct tok false rfl rfl rfl (by kernel_rfl) rfl rfl rfl rfl rfl) ?_
                  refine AOps.s 8 rfl rfl rfl (q_move (.inr rfl) rfl) ?_
                  refine AOps.nil ?_
                  refine AGo.ret ?_
                  refine ⟨[_], ⟨rfl, trivial⟩, ?_, rfl⟩
                  show AV.bool _ = AV.bool _
                  congr 1
                  have hwr : 1 ≤ t.size → t.size ≤ 4096 → IntKind.i64.wrap (words - t.size) = words - t.size := fun h1 h2 => wrap_i64 (by omega) (by omega)
                  rw [fits_same hb1 hb2 hd hall (by simp_all [Tac.rest, baseOp, arrOp] <;> omega)]
                  subst hdd haa hbb
                  clear hd hj hall hwr hw hw2 hb1 hb2
                  first | (simp_all [Tac.same, Tac.want, baseOp, arrOp, setsOp, use1, use2]; done) | simp [Tac.same, Tac.want, baseOp, arrOp, *]
              · -- False
                refine AGo.cond_false false rfl rfl ?_
                refine AGo.seq ?_
                refine AGo.seq ?_
                refine AGo.region ?_
                refine AOps.s 123 rfl rfl rfl (q_bin rfl rfl rfl rfl) ?_
                refine AOps.s 122 rfl rfl rfl (q_move (.inr rfl) rfl) ?_
                refine AOps.nil ?_
                refine AGo.split 122 rfl (fun hb29 => ?_) (fun hb29 => ?_)
                · -- True
                  refine AGo.cond_true true rfl rfl ?_
                  refine AGo.skip ?_
                  refine AGo.cond_true true rfl rfl ?_
                  refine AGo.seq ?_
                  refine AGo.draw mix ?_
                  refine DOps.s 125 rfl rfl rfl (q_fieldAddr tok rfl rfl rfl rfl rfl rfl) ?_
                  refine DOps.s 126 rfl rfl rfl (q_load tok rfl rfl rfl (by first | exact .loc _ | exact .ptr _ _ _ _ _ _ _ _ rfl rfl rfl) rfl) ?_
                  refine DOps.s 127 rfl rfl rfl (q_fieldAddr tok rfl rfl rfl rfl rfl rfl) ?_
                  refine DOps.s 128 rfl rfl rfl (q_load tok rfl rfl rfl (by first | exact .loc _ | exact .ptr _ _ _ _ _ _ _ _ rfl rfl rfl) rfl) ?_
                  refine DOps.s 129 rfl rfl rfl (q_fieldAddr tok rfl rfl rfl rfl rfl rfl) ?_
                  refine DOps.w rfl rfl (o_store tok rfl rfl rfl rfl rfl rfl rfl rfl rfl (by decide) rfl (by first | exact fun _ => rfl | (intro h; cases h))) ?_
                  refine DOps.s 130 rfl rfl rfl (q_fieldAddr tok rfl rfl rfl rfl rfl rfl) ?_
                  refine DOps.w rfl rfl (o_store tok rfl rfl rfl rfl rfl rfl rfl rfl rfl (by decide) rfl (by first | exact fun _ => rfl | (intro h; cases h))) ?_
                  refine DOps.nil (by kernel_rfl) ?_
                  refine AGo.seq ?_
                  refine AGo.region ?_
                  refine AOps.s 131 rfl rfl rfl (q_fieldAddr tok rfl rfl rfl rfl rfl rfl) ?_
                  refine AOps.s 132 rfl rfl rfl (q_load tok rfl rfl rfl (by first | exact .loc _ | exact .ptr _ _ _ _ _ _ _ _ rfl rfl rfl) rfl) ?_
                  refine AOps.s 133 rfl rfl rfl (q_bin rfl rfl rfl rfl) ?_
                  refine AOps.s 134 rfl rfl rfl (q_move (.inl rfl) rfl) ?_
                  refine AOps.split 134 rfl (fun hb30 => ?_) (fun hb30 => ?_)
                  · -- True
                    refine AOps.k 135 rfl rfl rfl ?_
                    refine AOps.k 136 rfl rfl rfl ?_
                    refine AOps.k 137 rfl rfl rfl ?_
                    refine AOps.s 138 rfl rfl rfl (q_pick_true true rfl rfl rfl rfl) ?_
                    refine AOps.s 139 rfl rfl rfl (q_move (.inl rfl) rfl) ?_
                    refine AOps.k 140 rfl rfl rfl ?_
                    refine AOps.k 141 rfl rfl rfl ?_
                    refine AOps.k 142 rfl rfl rfl ?_
                    refine AOps.s 143 rfl rfl rfl (q_pick_true true rfl rfl rfl rfl) ?_
                    refine AOps.s 144 rfl rfl rfl (q_move (.inl rfl) rfl) ?_
                    refine AOps.k 145 rfl rfl rfl ?_
                    refine AOps.k 146 rfl rfl rfl ?_
                    refine AOps.k 147 rfl rfl rfl ?_
                    refine AOps.k 148 rfl rfl rfl ?_
                    refine AOps.k 149 rfl rfl rfl ?_
                    refine AOps.k 150 rfl rfl rfl ?_
                    refine AOps.k 151 rfl rfl rfl ?_
                    refine AOps.s 152 rfl rfl rfl (q_pick_true true rfl rfl rfl rfl) ?_
                    refine AOps.nil ?_
                    refine AGo.cond_true true rfl rfl ?_
                    refine AGo.seq ?_
                    refine AGo.region ?_
                    refine AOps.s 8 rfl rfl rfl (q_move (.inr rfl) rfl) ?_
                    refine AOps.nil ?_
                    refine AGo.ret ?_
                    refine ⟨[_], ⟨rfl, trivial⟩, ?_, rfl⟩
                    show AV.bool _ = AV.bool _
                    congr 1
                    have hwr : 1 ≤ t.size → t.size ≤ 4096 → IntKind.i64.wrap (words - t.size) = words - t.size := fun h1 h2 => wrap_i64 (by omega) (by omega)
                    exact (fits_rest (by simp_all [Tac.rest, baseOp, arrOp] <;> omega)).symm
                  · -- False
                    refine AOps.s 135 rfl rfl rfl (q_fieldAddr tok rfl rfl rfl rfl rfl rfl) ?_
                    refine AOps.s 136 rfl rfl rfl (q_load tok rfl rfl rfl (by first | exact .loc _ | exact .ptr _ _ _ _ _ _ _ _ rfl rfl rfl) rfl) ?_
                    refine AOps.s 137 rfl rfl rfl (q_bin rfl rfl rfl rfl) ?_
                    refine AOps.s 138 rfl rfl rfl (q_pick_false false rfl rfl rfl rfl) ?_
                    refine AOps.s 139 rfl rfl rfl (q_move (.inl rfl) rfl) ?_
                    refine AOps.split 139 rfl (fun hb31 => ?_) (fun hb31 => ?_)
                    · -- True
                      refine AOps.k 140 rfl rfl rfl ?_
                      refine AOps.k 141 rfl rfl rfl ?_
                      refine AOps.k 142 rfl rfl rfl ?_
                      refine AOps.s 143 rfl rfl rfl (q_pick_true true rfl rfl rfl rfl) ?_
                      refine AOps.s 144 rfl rfl rfl (q_move (.inl rfl) rfl) ?_
                      refine AOps.k 145 rfl rfl rfl ?_
                      refine AOps.k 146 rfl rfl rfl ?_
                      refine AOps.k 147 rfl rfl rfl ?_
                      refine AOps.k 148 rfl rfl rfl ?_
                      refine AOps.k 149 rfl rfl rfl ?_
                      refine AOps.k 150 rfl rfl rfl ?_
                      refine AOps.k 151 rfl rfl rfl ?_
                      refine AOps.s 152 rfl rfl rfl (q_pick_true true rfl rfl rfl rfl) ?_
                      refine AOps.nil ?_
                      refine AGo.cond_true true rfl rfl ?_
                      refine AGo.seq ?_
                      refine AGo.region ?_
                      refine AOps.s 8 rfl rfl rfl (q_move (.inr rfl) rfl) ?_
                      refine AOps.nil ?_
                      refine AGo.ret ?_
                      refine ⟨[_], ⟨rfl, trivial⟩, ?_, rfl⟩
                      show AV.bool _ = AV.bool _
                      congr 1
                      have hwr : 1 ≤ t.size → t.size ≤ 4096 → IntKind.i64.wrap (words - t.size) = words - t.size := fun h1 h2 => wrap_i64 (by omega) (by omega)
                      exact (fits_rest (by simp_all [Tac.rest, baseOp, arrOp] <;> omega)).symm
                    · -- False
                      refine AOps.s 140 rfl rfl rfl (q_fieldAddr tok rfl rfl rfl rfl rfl rfl) ?_
                      refine AOps.s 141 rfl rfl rfl (q_load tok rfl rfl rfl (by first | exact .loc _ | exact .ptr _ _ _ _ _ _ _ _ rfl rfl rfl) rfl) ?_
                      refine AOps.s 142 rfl rfl rfl (q_bin rfl rfl rfl rfl) ?_
                      refine AOps.s 143 rfl rfl rfl (q_pick_false false rfl rfl rfl rfl) ?_
                      refine AOps.s 144 rfl rfl rfl (q_move (.inl rfl) rfl) ?_
                      refine AOps.split 144 rfl (fun hb32 => ?_) (fun hb32 => ?_)
                      · -- True
                        refine AOps.k 145 rfl rfl rfl ?_
                        refine AOps.k 146 rfl rfl rfl ?_
                        refine AOps.k 147 rfl rfl rfl ?_
                        refine AOps.k 148 rfl rfl rfl ?_
                        refine AOps.k 149 rfl rfl rfl ?_
                        refine AOps.k 150 rfl rfl rfl ?_
                        refine AOps.k 151 rfl rfl rfl ?_
                        refine AOps.s 152 rfl rfl rfl (q_pick_true true rfl rfl rfl rfl) ?_
                        refine AOps.nil ?_
                        refine AGo.cond_true true rfl rfl ?_
                        refine AGo.seq ?_
                        refine AGo.region ?_
                        refine AOps.s 8 rfl rfl rfl (q_move (.inr rfl) rfl) ?_
                        refine AOps.nil ?_
                        refine AGo.ret ?_
                        refine ⟨[_], ⟨rfl, trivial⟩, ?_, rfl⟩
                        show AV.bool _ = AV.bool _
                        congr 1
                        have hwr : 1 ≤ t.size → t.size ≤ 4096 → IntKind.i64.wrap (words - t.size) = words - t.size := fun h1 h2 => wrap_i64 (by omega) (by omega)
                        exact (fits_rest (by simp_all [Tac.rest, baseOp, arrOp] <;> omega)).symm
                      · -- False
                        refine AOps.s 145 rfl rfl rfl (q_fieldAddr tok rfl rfl rfl rfl rfl rfl) ?_
                        refine AOps.s 146 rfl rfl rfl (q_load tok rfl rfl rfl (by first | exact .loc _ | exact .ptr _ _ _ _ _ _ _ _ rfl rfl rfl) rfl) ?_
                        refine AOps.s 147 rfl rfl rfl (q_move (.inl rfl) rfl) ?_
                        refine AOps.s 148 rfl rfl rfl (q_fieldAddr tok rfl rfl rfl rfl rfl rfl) ?_
                        refine AOps.s 149 rfl rfl rfl (q_load tok rfl rfl rfl (by first | exact .loc _ | exact .ptr _ _ _ _ _ _ _ _ rfl rfl rfl) rfl) ?_
                        refine AOps.s 150 rfl rfl rfl (q_bin rfl rfl rfl rfl) ?_
                        refine AOps.s 151 rfl rfl rfl (q_bin rfl rfl rfl rfl) ?_
                        refine AOps.s 152 rfl rfl rfl (q_pick_false false rfl rfl rfl rfl) ?_
                        refine AOps.nil ?_
                        refine AGo.split 152 rfl (fun hb33 => ?_) (fun hb33 => ?_)
                        · -- True
                          refine AGo.cond_true true rfl rfl ?_
                          refine AGo.seq ?_
                          refine AGo.region ?_
                          refine AOps.s 8 rfl rfl rfl (q_move (.inr rfl) rfl) ?_
                          refine AOps.nil ?_
                          refine AGo.ret ?_
                          refine ⟨[_], ⟨rfl, trivial⟩, ?_, rfl⟩
                          show AV.bool _ = AV.bool _
                          congr 1
                          have hwr : 1 ≤ t.size → t.size ≤ 4096 → IntKind.i64.wrap (words - t.size) = words - t.size := fun h1 h2 => wrap_i64 (by omega) (by omega)
                          exact (fits_rest (by simp_all [Tac.rest, baseOp, arrOp] <;> omega)).symm
                        · -- False
                          refine AGo.cond_false false rfl rfl ?_
                          refine AGo.skip ?_
                          refine AGo.seq ?_
                          refine AGo.region ?_
                          refine AOps.s 163 rfl rfl rfl (q_load tok rfl rfl rfl (by first | exact .loc _ | exact .ptr _ _ _ _ _ _ _ _ rfl rfl rfl) rfl) ?_
                          refine AOps.s 164 rfl rfl rfl (q_load tok rfl rfl rfl (by first | exact .loc _ | exact .ptr _ _ _ _ _ _ _ _ rfl rfl rfl) rfl) ?_
                          refine AOps.s 165 rfl rfl rfl (q_eqStruct tok false rfl rfl rfl (by kernel_rfl) rfl rfl rfl rfl rfl) ?_
                          refine AOps.s 8 rfl rfl rfl (q_move (.inr rfl) rfl) ?_
                          refine AOps.nil ?_
                          refine AGo.ret ?_
                          refine ⟨[_], ⟨rfl, trivial⟩, ?_, rfl⟩
                          show AV.bool _ = AV.bool _
                          congr 1
                          have hwr : 1 ≤ t.size → t.size ≤ 4096 → IntKind.i64.wrap (words - t.size) = words - t.size := fun h1 h2 => wrap_i64 (by omega) (by omega)
                          rw [fits_same hb1 hb2 hd hall (by simp_all [Tac.rest, baseOp, arrOp] <;> omega)]
                          subst hdd haa hbb
                          clear hd hj hall hwr hw hw2 hb1 hb2
                          first | (simp_all [Tac.same, Tac.want, baseOp, arrOp, setsOp, use1, use2]; done) | simp [Tac.same, Tac.want, baseOp, arrOp, *]
                · -- False
                  refine AGo.cond_false false rfl rfl ?_
                  refine AGo.region ?_
                  refine AOps.s 124 rfl rfl rfl (q_bin rfl rfl rfl rfl) ?_
                  refine AOps.s 122 rfl rfl rfl (q_move (.inr rfl) rfl) ?_
                  refine AOps.nil ?_
                  refine AGo.split 122 rfl (fun hb34 => ?_) (fun hb34 => ?_)
                  · -- True
                    refine AGo.cond_true true rfl rfl ?_
                    refine AGo.seq ?_
                    refine AGo.draw mix ?_
                    refine DOps.s 125 rfl rfl rfl (q_fieldAddr tok rfl rfl rfl rfl rfl rfl) ?_
                    refine DOps.s 126 rfl rfl rfl (q_load tok rfl rfl rfl (by first | exact .loc _ | exact .ptr _ _ _ _ _ _ _ _ rfl rfl rfl) rfl) ?_
                    refine DOps.s 127 rfl rfl rfl (q_fieldAddr tok rfl rfl rfl rfl rfl rfl) ?_
                    refine DOps.s 128 rfl rfl rfl (q_load tok rfl rfl rfl (by first | exact .loc _ | exact .ptr _ _ _ _ _ _ _ _ rfl rfl rfl) rfl) ?_
                    refine DOps.s 129 rfl rfl rfl (q_fieldAddr tok rfl rfl rfl rfl rfl rfl) ?_
                    refine DOps.w rfl rfl (o_store tok rfl rfl rfl rfl rfl rfl rfl rfl rfl (by decide) rfl (by first | exact fun _ => rfl | (intro h; cases h))) ?_
                    refine DOps.s 130 rfl rfl rfl (q_fieldAddr tok rfl rfl rfl rfl rfl rfl) ?_
                    refine DOps.w rfl rfl (o_store tok rfl rfl rfl rfl rfl rfl rfl rfl rfl (by decide) rfl (by first | exact fun _ => rfl | (intro h; cases h))) ?_
                    refine DOps.nil (by kernel_rfl) ?_
                    refine AGo.seq ?_
                    refine AGo.region ?_
                    refine AOps.s 131 rfl rfl rfl (q_fieldAddr tok rfl rfl rfl rfl rfl rfl) ?_
                    refine AOps.s 132 rfl rfl rfl (q_load tok rfl rfl rfl (by first | exact .loc _ | exact .ptr _ _ _ _ _ _ _ _ rfl rfl rfl) rfl) ?_
                    refine AOps.s 133 rfl rfl rfl (q_bin rfl rfl rfl rfl) ?_
                    refine AOps.s 134 rfl rfl rfl (q_move (.inl rfl) rfl) ?_
                    refine AOps.split 134 rfl (fun hb35 => ?_) (fun hb35 => ?_)
                    · -- True
                      refine AOps.k 135 rfl rfl rfl ?_
                      refine AOps.k 136 rfl rfl rfl ?_
                      refine AOps.k 137 rfl rfl rfl ?_
                      refine AOps.s 138 rfl rfl rfl (q_pick_true true rfl rfl rfl rfl) ?_
                      refine AOps.s 139 rfl rfl rfl (q_move (.inl rfl) rfl) ?_
                      refine AOps.k 140 rfl rfl rfl ?_
                      refine AOps.k 141 rfl rfl rfl ?_
                      refine AOps.k 142 rfl rfl rfl ?_
                      refine AOps.s 143 rfl rfl rfl (q_pick_true true rfl rfl rfl rfl) ?_
                      refine AOps.s 144 rfl rfl rfl (q_move (.inl rfl) rfl) ?_
                      refine AOps.k 145 rfl rfl rfl ?_
                      refine AOps.k 146 rfl rfl rfl ?_
                      refine AOps.k 147 rfl rfl rfl ?_
                      refine AOps.k 148 rfl rfl rfl ?_
                      refine AOps.k 149 rfl rfl rfl ?_
                      refine AOps.k 150 rfl rfl rfl ?_
                      refine AOps.k 151 rfl rfl rfl ?_
                      refine AOps.s 152 rfl rfl rfl (q_pick_true true rfl rfl rfl rfl) ?_
                      refine AOps.nil ?_
                      refine AGo.cond_true true rfl rfl ?_
                      refine AGo.seq ?_
                      refine AGo.region ?_
                      refine AOps.s 8 rfl rfl rfl (q_move (.inr rfl) rfl) ?_
                      refine AOps.nil ?_
                      refine AGo.ret ?_
                      refine ⟨[_], ⟨rfl, trivial⟩, ?_, rfl⟩
                      show AV.bool _ = AV.bool _
                      congr 1
                      have hwr : 1 ≤ t.size → t.size ≤ 4096 → IntKind.i64.wrap (words - t.size) = words - t.size := fun h1 h2 => wrap_i64 (by omega) (by omega)
                      exact (fits_rest (by simp_all [Tac.rest, baseOp, arrOp] <;> omega)).symm
                    · -- False
                      refine AOps.s 135 rfl rfl rfl (q_fieldAddr tok rfl rfl rfl rfl rfl rfl) ?_
                      refine AOps.s 136 rfl rfl rfl (q_load tok rfl rfl rfl (by first | exact .loc _ | exact .ptr _ _ _ _ _ _ _ _ rfl rfl rfl) rfl) ?_
                      refine AOps.s 137 rfl rfl rfl (q_bin rfl rfl rfl rfl) ?_
                      refine AOps.s 138 rfl rfl rfl (q_pick_false false rfl rfl rfl rfl) ?_
                      refine AOps.s 139 rfl rfl rfl (q_move (.inl rfl) rfl) ?_
                      refine AOps.split 139 rfl (fun hb36 => ?_) (fun hb36 => ?_)
                      · -- True
                        refine AOps.k 140 rfl rfl rfl ?_
                        refine AOps.k 141 rfl rfl rfl ?_
                        refine AOps.k 142 rfl rfl rfl ?_
                        refine AOps.s 143 rfl rfl rfl (q_pick_true true rfl rfl rfl rfl) ?_
                        refine AOps.s 144 rfl rfl rfl (q_move (.inl rfl) rfl) ?_
                        refine AOps.k 145 rfl rfl rfl ?_
                        refine AOps.k 146 rfl rfl rfl ?_
                        refine AOps.k 147 rfl rfl rfl ?_
                        refine AOps.k 148 rfl rfl rfl ?_
                        refine AOps.k 149 rfl rfl rfl ?_
                        refine AOps.k 150 rfl rfl rfl ?_
                        refine AOps.k 151 rfl rfl rfl ?_
                        refine AOps.s 152 rfl rfl rfl (q_pick_true true rfl rfl rfl rfl) ?_
                        refine AOps.nil ?_
                        refine AGo.cond_true true rfl rfl ?_
                        refine AGo.seq ?_
                        refine AGo.region ?_
                        refine AOps.s 8 rfl rfl rfl (q_move (.inr rfl) rfl) ?_
                        refine AOps.nil ?_
                        refine AGo.ret ?_
                        refine ⟨[_], ⟨rfl, trivial⟩, ?_, rfl⟩
                        show AV.bool _ = AV.bool _
                        congr 1
                        have hwr : 1 ≤ t.size → t.size ≤ 4096 → IntKind.i64.wrap (words - t.size) = words - t.size := fun h1 h2 => wrap_i64 (by omega) (by omega)
                        exact (fits_rest (by simp_all [Tac.rest, baseOp, arrOp] <;> omega)).symm
                      · -- False
                        refine AOps.s 140 rfl rfl rfl (q_fieldAddr tok rfl rfl rfl rfl rfl rfl) ?_
                        refine AOps.s 141 rfl rfl rfl (q_load tok rfl rfl rfl (by first | exact .loc _ | exact .ptr _ _ _ _ _ _ _ _ rfl rfl rfl) rfl) ?_
                        refine AOps.s 142 rfl rfl rfl (q_bin rfl rfl rfl rfl) ?_
                        refine AOps.s 143 rfl rfl rfl (q_pick_false false rfl rfl rfl rfl) ?_
                        refine AOps.s 144 rfl rfl rfl (q_move (.inl rfl) rfl) ?_
                        refine AOps.split 144 rfl (fun hb37 => ?_) (fun hb37 => ?_)
                        · -- True
                          refine AOps.k 145 rfl rfl rfl ?_
                          refine AOps.k 146 rfl rfl rfl ?_
                          refine AOps.k 147 rfl rfl rfl ?_
                          refine AOps.k 148 rfl rfl rfl ?_
                          refine AOps.k 149 rfl rfl rfl ?_
                          refine AOps.k 150 rfl rfl rfl ?_
                          refine AOps.k 151 rfl rfl rfl ?_
                          refine AOps.s 152 rfl rfl rfl (q_pick_true true rfl rfl rfl rfl) ?_
                          refine AOps.nil ?_
                          refine AGo.cond_true true rfl rfl ?_
                          refine AGo.seq ?_
                          refine AGo.region ?_
                          refine AOps.s 8 rfl rfl rfl (q_move (.inr rfl) rfl) ?_
                          refine AOps.nil ?_
                          refine AGo.ret ?_
                          refine ⟨[_], ⟨rfl, trivial⟩, ?_, rfl⟩
                          show AV.bool _ = AV.bool _
                          congr 1
                          have hwr : 1 ≤ t.size → t.size ≤ 4096 → IntKind.i64.wrap (words - t.size) = words - t.size := fun h1 h2 => wrap_i64 (by omega) (by omega)
                          exact (fits_rest (by simp_all [Tac.rest, baseOp, arrOp] <;> omega)).symm
                        · -- False
                          refine AOps.s 145 rfl rfl rfl (q_fieldAddr tok rfl rfl rfl rfl rfl rfl) ?_
                          refine AOps.s 146 rfl rfl rfl (q_load tok rfl rfl rfl (by first | exact .loc _ | exact .ptr _ _ _ _ _ _ _ _ rfl rfl rfl) rfl) ?_
                          refine AOps.s 147 rfl rfl rfl (q_move (.inl rfl) rfl) ?_
                          refine AOps.s 148 rfl rfl rfl (q_fieldAddr tok rfl rfl rfl rfl rfl rfl) ?_
                          refine AOps.s 149 rfl rfl rfl (q_load tok rfl rfl rfl (by first | exact .loc _ | exact .ptr _ _ _ _ _ _ _ _ rfl rfl rfl) rfl) ?_
                          refine AOps.s 150 rfl rfl rfl (q_bin rfl rfl rfl rfl) ?_
                          refine AOps.s 151 rfl rfl rfl (q_bin rfl rfl rfl rfl) ?_
                          refine AOps.s 152 rfl rfl rfl (q_pick_false false rfl rfl rfl rfl) ?_
                          refine AOps.nil ?_
                          refine AGo.split 152 rfl (fun hb38 => ?_) (fun hb38 => ?_)
                          · -- True
                            refine AGo.cond_true true rfl rfl ?_
                            refine AGo.seq ?_
                            refine AGo.region ?_
                            refine AOps.s 8 rfl rfl rfl (q_move (.inr rfl) rfl) ?_
                            refine AOps.nil ?_
                            refine AGo.ret ?_
                            refine ⟨[_], ⟨rfl, trivial⟩, ?_, rfl⟩
                            show AV.bool _ = AV.bool _
                            congr 1
                            have hwr : 1 ≤ t.size → t.size ≤ 4096 → IntKind.i64.wrap (words - t.size) = words - t.size := fun h1 h2 => wrap_i64 (by omega) (by omega)
                            exact (fits_rest (by simp_all [Tac.rest, baseOp, arrOp] <;> omega)).symm
                          · -- False
                            refine AGo.cond_false false rfl rfl ?_
                            refine AGo.skip ?_
                            refine AGo.seq ?_
                            refine AGo.region ?_
                            refine AOps.s 163 rfl rfl rfl (q_load tok rfl rfl rfl (by first | exact .loc _ | exact .ptr _ _ _ _ _ _ _ _ rfl rfl rfl) rfl) ?_
                            refine AOps.s 164 rfl rfl rfl (q_load tok rfl rfl rfl (by first | exact .loc _ | exact .ptr _ _ _ _ _ _ _ _ rfl rfl rfl) rfl) ?_
                            refine AOps.s 165 rfl rfl rfl (q_eqStruct tok false rfl rfl rfl (by kernel_rfl) rfl rfl rfl rfl rfl) ?_
                            refine AOps.s 8 rfl rfl rfl (q_move (.inr rfl) rfl) ?_
                            refine AOps.nil ?_
                            refine AGo.ret ?_
                            refine ⟨[_], ⟨rfl, trivial⟩, ?_, rfl⟩
                            show AV.bool _ = AV.bool _
                            congr 1
                            have hwr : 1 ≤ t.size → t.size ≤ 4096 → IntKind.i64.wrap (words - t.size) = words - t.size := fun h1 h2 => wrap_i64 (by omega) (by omega)
                            rw [fits_same hb1 hb2 hd hall (by simp_all [Tac.rest, baseOp, arrOp] <;> omega)]
                            subst hdd haa hbb
                            clear hd hj hall hwr hw hw2 hb1 hb2
                            first | (simp_all [Tac.same, Tac.want, baseOp, arrOp, setsOp, use1, use2]; done) | simp [Tac.same, Tac.want, baseOp, arrOp, *]
                  · -- False
                    refine AGo.cond_false false rfl rfl ?_
                    refine AGo.seq ?_
                    refine AGo.region ?_
                    refine AOps.s 154 rfl rfl rfl (q_bin rfl rfl rfl rfl) ?_
                    refine AOps.s 153 rfl rfl rfl (q_move (.inr rfl) rfl) ?_
                    refine AOps.nil ?_
                    refine AGo.split 153 rfl (fun hb39 => ?_) (fun hb39 => ?_)
                    · -- True
                      refine AGo.cond_true true rfl rfl ?_
                      refine AGo.seq ?_
                      refine AGo.region ?_
                      refine AOps.s 155 rfl rfl rfl (q_fieldAddr tok rfl rfl rfl rfl rfl rfl) ?_
                      refine AOps.s 156 rfl rfl rfl (q_load tok rfl rfl rfl (by first | exact .loc _ | exact .ptr _ _ _ _ _ _ _ _ rfl rfl rfl) rfl) ?_
                      refine AOps.s 157 rfl rfl rfl (q_fieldAddr tok rfl rfl rfl rfl rfl rfl) ?_
                      refine AOps.w rfl rfl (o_store tok rfl rfl rfl rfl rfl rfl rfl rfl rfl (by decide) rfl (by first | exact fun _ => rfl | (intro h; cases h))) ?_
                      refine AOps.nil ?_
                      refine AGo.seq ?_
                      refine AGo.region ?_
                      refine AOps.s 158 rfl rfl rfl (q_fieldAddr tok rfl rfl rfl rfl rfl rfl) ?_
                      refine AOps.s 159 rfl rfl rfl (q_load tok rfl rfl rfl (by first | exact .loc _ | exact .ptr _ _ _ _ _ _ _ _ rfl rfl rfl) rfl) ?_
                      refine AOps.s 160 rfl rfl rfl (q_move (.inl rfl) rfl) ?_
                      refine AOps.x 161 rfl rfl rfl (o_pure rfl Try.func52 (by kernel_rfl) rfl rfl rfl (within_ok _ _)) ?_
                      refine AOps.s 162 rfl rfl rfl (q_not rfl rfl) ?_
                      refine AOps.nil ?_
                      refine AGo.split 162 rfl (fun hb40 => ?_) (fun hb40 => ?_)
                      · -- True
                        refine AGo.cond_true true rfl rfl ?_
                        refine AGo.seq ?_
                        refine AGo.region ?_
                        refine AOps.s 8 rfl rfl rfl (q_move (.inr rfl) rfl) ?_
                        refine AOps.nil ?_
                        refine AGo.ret ?_
                        refine ⟨[_], ⟨rfl, trivial⟩, ?_, rfl⟩
                        show AV.bool _ = AV.bool _
                        congr 1
                        exact (fits_rest (by simp_all [Tac.rest, baseOp, arrOp] <;> omega)).symm
                      · -- False
                        refine AGo.cond_false false rfl rfl ?_
                        refine AGo.skip ?_
                        refine AGo.seq ?_
                        refine AGo.region ?_
                        refine AOps.s 163 rfl rfl rfl (q_load tok rfl rfl rfl (by first | exact .loc _ | exact .ptr _ _ _ _ _ _ _ _ rfl rfl rfl) rfl) ?_
                        refine AOps.s 164 rfl rfl rfl (q_load tok rfl rfl rfl (by first | exact .loc _ | exact .ptr _ _ _ _ _ _ _ _ rfl rfl rfl) rfl) ?_
                        refine AOps.s 165 rfl rfl rfl (q_eqStruct tok false rfl rfl rfl (by kernel_rfl) rfl rfl rfl rfl rfl) ?_
                        refine AOps.s 8 rfl rfl rfl (q_move (.inr rfl) rfl) ?_
                        refine AOps.nil ?_
                        refine AGo.ret ?_
                        refine ⟨[_], ⟨rfl, trivial⟩, ?_, rfl⟩
                        show AV.bool _ = AV.bool _
                        congr 1
                        have hwr : 1 ≤ t.size → t.size ≤ 4096 → IntKind.i64.wrap (words - t.size) = words - t.size := fun h1 h2 => wrap_i64 (by omega) (by omega)
                        rw [fits_same hb1 hb2 hd hall (by simp_all [Tac.rest, baseOp, arrOp] <;> omega)]
                        subst hdd haa hbb
                        clear hd hj hall hwr hw hw2 hb1 hb2
                        first | (simp_all [Tac.same, Tac.want, baseOp, arrOp, setsOp, use1, use2]; done) | simp [Tac.same, Tac.want, baseOp, arrOp, *]
                    · -- False
                      refine AGo.cond_false false rfl rfl ?_
                      refine AGo.skip ?_
                      refine AGo.seq ?_
                      refine AGo.region ?_
                      refine AOps.s 163 rfl rfl rfl (q_load tok rfl rfl rfl (by first | exact .loc _ | exact .ptr _ _ _ _ _ _ _ _ rfl rfl rfl) rfl) ?_
                      refine AOps.s 164 rfl rfl rfl (q_load tok rfl rfl rfl (by first | exact .loc _ | exact .ptr _ _ _ _ _ _ _ _ rfl rfl rfl) rfl) ?_
                      refine AOps.s 165 rfl rfl rfl (q_eqStruct tok false rfl rfl rfl (by kernel_rfl) rfl rfl rfl rfl rfl) ?_
                      refine AOps.s 8 rfl rfl rfl (q_move (.inr rfl) rfl) ?_
                      refine AOps.nil ?_
                      refine AGo.ret ?_
                      refine ⟨[_], ⟨rfl, trivial⟩, ?_, rfl⟩
                      show AV.bool _ = AV.bool _
                      congr 1
                      have hwr : 1 ≤ t.size → t.size ≤ 4096 → IntKind.i64.wrap (words - t.size) = words - t.size := fun h1 h2 => wrap_i64 (by omega) (by omega)
                      rw [fits_same hb1 hb2 hd hall (by simp_all [Tac.rest, baseOp, arrOp] <;> omega)]
                      subst hdd haa hbb
                      clear hd hj hall hwr hw hw2 hb1 hb2
                      first | (simp_all [Tac.same, Tac.want, baseOp, arrOp, setsOp, use1, use2]; done) | simp [Tac.same, Tac.want, baseOp, arrOp, *]

set_option maxRecDepth 100000 in
theorem one_ok (f : BFunc) (number words : Int) (hw : 0 ≤ words) (hw2 : words ≤ 1048576) : APure Try.prog 38 [.agg f.cells, .int .i64 number, .int .i64 words] (fun r => r = .bool (f.one number words)) := by
  refine APure.of_body (n := 68) tok Try.func38 rfl rfl ?_
  refine AGo.seq ?_
  refine AGo.slot 0 rfl (fun H ι v => rel_bfunc) (fun hfit => ?_)
  refine AGo.region ?_
  refine AOps.x 3 rfl rfl rfl (o_box (sz := 2) 0 rfl rfl rfl rfl (Nat.zero_lt_succ _) rfl) ?_
  refine AOps.s 6 rfl rfl rfl (q_move (.inr rfl) rfl) ?_
  refine AOps.nil ?_
  refine AGo.seq ?_
  refine AGo.seq ?_
  refine AGo.region ?_
  refine AOps.s 9 rfl rfl rfl (q_fieldAddr tok rfl rfl rfl rfl rfl rfl) ?_
  refine AOps.s 10 rfl rfl rfl (q_load tok rfl rfl rfl (by first | exact .loc _ | exact .ptr _ _ _ _ _ _ _ _ rfl rfl rfl) rfl) ?_
  refine AOps.s 11 rfl rfl rfl (q_bin rfl rfl rfl rfl) ?_
  refine AOps.s 12 rfl rfl rfl (q_move (.inl rfl) rfl) ?_
  refine AOps.split 12 rfl (fun hb1 => ?_) (fun hb1 => ?_)
  · -- True
    refine AOps.k 13 rfl rfl rfl ?_
    refine AOps.k 14 rfl rfl rfl ?_
    refine AOps.k 15 rfl rfl rfl ?_
    refine AOps.s 16 rfl rfl rfl (q_pick_true true rfl rfl rfl rfl) ?_
    refine AOps.s 17 rfl rfl rfl (q_move (.inl rfl) rfl) ?_
    refine AOps.k 18 rfl rfl rfl ?_
    refine AOps.k 19 rfl rfl rfl ?_
    refine AOps.k 20 rfl rfl rfl ?_
    refine AOps.k 21 rfl rfl rfl ?_
    refine AOps.s 22 rfl rfl rfl (q_pick_true true rfl rfl rfl rfl) ?_
    refine AOps.nil ?_
    refine AGo.cond_true true rfl rfl ?_
    refine AGo.seq ?_
    refine AGo.region ?_
    refine AOps.s 6 rfl rfl rfl (q_move (.inr rfl) rfl) ?_
    refine AOps.nil ?_
    refine AGo.ret ?_
    refine ⟨[_], ⟨rfl, trivial⟩, ?_, rfl⟩
    show AV.bool _ = AV.bool _
    congr 1
    exact (one_bad (by simp_all <;> omega)).symm
  · -- False
    refine AOps.s 13 rfl rfl rfl (q_fieldAddr tok rfl rfl rfl rfl rfl rfl) ?_
    refine AOps.s 14 rfl rfl rfl (q_load tok rfl rfl rfl (by first | exact .loc _ | exact .ptr _ _ _ _ _ _ _ _ rfl rfl rfl) rfl) ?_
    refine AOps.s 15 rfl rfl rfl (q_bin rfl rfl rfl rfl) ?_
    refine AOps.s 16 rfl rfl rfl (q_pick_false false rfl rfl rfl rfl) ?_
    refine AOps.s 17 rfl rfl rfl (q_move (.inl rfl) rfl) ?_
    refine AOps.split 17 rfl (fun hb2 => ?_) (fun hb2 => ?_)
    · -- True
      refine AOps.k 18 rfl rfl rfl ?_
      refine AOps.k 19 rfl rfl rfl ?_
      refine AOps.k 20 rfl rfl rfl ?_
      refine AOps.k 21 rfl rfl rfl ?_
      refine AOps.s 22 rfl rfl rfl (q_pick_true true rfl rfl rfl rfl) ?_
      refine AOps.nil ?_
      refine AGo.cond_true true rfl rfl ?_
      refine AGo.seq ?_
      refine AGo.region ?_
      refine AOps.s 6 rfl rfl rfl (q_move (.inr rfl) rfl) ?_
      refine AOps.nil ?_
      refine AGo.ret ?_
      refine ⟨[_], ⟨rfl, trivial⟩, ?_, rfl⟩
      show AV.bool _ = AV.bool _
      congr 1
      exact (one_bad (by simp_all <;> omega)).symm
    · -- False
      refine AOps.s 18 rfl rfl rfl (q_fieldAddr tok rfl rfl rfl rfl rfl rfl) ?_
      refine AOps.s 19 rfl rfl rfl (q_load tok rfl rfl rfl (by first | exact .loc _ | exact .ptr _ _ _ _ _ _ _ _ rfl rfl rfl) rfl) ?_
      refine AOps.s 20 rfl rfl rfl (q_len tok rfl rfl rfl rfl rfl) ?_
      refine AOps.s 21 rfl rfl rfl (q_bin rfl rfl rfl rfl) ?_
      refine AOps.s 22 rfl rfl rfl (q_pick_false false rfl rfl rfl rfl) ?_
      refine AOps.nil ?_
      refine AGo.split 22 rfl (fun hb3 => ?_) (fun hb3 => ?_)
      · -- True
        refine AGo.cond_true true rfl rfl ?_
        refine AGo.seq ?_
        refine AGo.region ?_
        refine AOps.s 6 rfl rfl rfl (q_move (.inr rfl) rfl) ?_
        refine AOps.nil ?_
        refine AGo.ret ?_
        refine ⟨[_], ⟨rfl, trivial⟩, ?_, rfl⟩
        show AV.bool _ = AV.bool _
        congr 1
        exact (one_bad (by simp_all <;> omega)).symm
      · -- False
        refine AGo.cond_false false rfl rfl ?_
        have h0 : 0 ≤ f.regs ∧ f.regs ≤ 4000 ∧ f.blocks.length ≠ 0 := by simp_all <;> omega
        refine AGo.skip ?_
        refine AGo.seq ?_
        refine AGo.seq ?_
        refine AGo.region ?_
        refine AOps.s 7 rfl rfl rfl (q_move (.inr rfl) rfl) ?_
        refine AOps.nil ?_
        refine AGo.block ?_
        refine AGo.loopD (γ := Nat) 1 (fun k => ⟨68, (eput (eput (eput (eput eNew 1 (.int .i64 number)) 2 (.int .i64 words)) 3 (.ptr 0 1 0 0)) 7 (.int .i64 (k : Int))), (hput (hFrom 1) 0 (.row false 2 [f.cells]))⟩) (fun k => (f.blocks.take k).all (fun x => x.ok f.blocks.length f.regs number words) = true) (fun k => f.blocks.length - k) 0 (Sub.mk' (by repeat (first | exact ESub.new _ | refine ESub.put ?_ (by rfl))) (by repeat (first | exact HSub.none _ | exact HSub.from_new _ | exact HSub.from_from (by decide) | refine HSub.put ?_ (by rfl) | refine HSub.from_put ?_ (by decide) | refine HSub.from_rm ?_ (by decide)))) rfl (fun _ => hput_free (fun b hb => hFrom_free hb) rfl) ?_
        intro k hk
        refine AGo.seq ?_
        refine AGo.seq ?_
        refine AGo.region ?_
        refine AOps.s 23 rfl rfl rfl (q_move (.inl rfl) rfl) ?_
        refine AOps.s 24 rfl rfl rfl (q_fieldAddr tok rfl rfl rfl rfl rfl rfl) ?_
        refine AOps.s 25 rfl rfl rfl (q_load tok rfl rfl rfl (by first | exact .loc _ | exact .ptr _ _ _ _ _ _ _ _ rfl rfl rfl) rfl) ?_
        refine AOps.s 26 rfl rfl rfl (q_len tok rfl rfl rfl rfl rfl) ?_
        refine AOps.s 27 rfl rfl rfl (q_bin rfl rfl rfl rfl) ?_
        refine AOps.nil ?_
        refine AGo.split 27 rfl (fun hb4 => ?_) (fun hb4 => ?_)
        · -- True
          refine AGo.cond_true true rfl rfl ?_
          have hkl : k < f.blocks.length := lt_of_idx hb4
          obtain ⟨x, hx⟩ := get_of_lt hkl
          refine AGo.skip ?_
          refine AGo.seq ?_
          refine AGo.block ?_
          refine AGo.seq ?_
          refine AGo.seq ?_
          refine AGo.draw mix ?_
          refine DOps.s 30 rfl rfl rfl (q_fieldAddr tok rfl rfl rfl rfl rfl rfl) ?_
          refine DOps.s 31 rfl rfl rfl (q_load tok rfl rfl rfl (by first | exact .loc _ | exact .ptr _ _ _ _ _ _ _ _ rfl rfl rfl) rfl) ?_
          refine DOps.s 32 rfl rfl rfl (q_move (.inl rfl) rfl) ?_
          refine DOps.s 33 rfl rfl rfl (q_index_lst tok rfl rfl rfl rfl rfl rfl (Int.natCast_nonneg _) (idx_map (by assumption)) rfl) ?_
          refine DOps.s 34 rfl rfl rfl (q_load tok rfl rfl rfl (by first | exact .loc _ | exact .ptr _ _ _ _ _ _ _ _ rfl rfl rfl) rfl) ?_
          refine DOps.s 35 rfl rfl rfl (q_fieldAddr tok rfl rfl rfl rfl rfl rfl) ?_
          refine DOps.s 36 rfl rfl rfl (q_load tok rfl rfl rfl (by first | exact .loc _ | exact .ptr _ _ _ _ _ _ _ _ rfl rfl rfl) rfl) ?_
          refine DOps.s 37 rfl rfl rfl (q_len tok rfl rfl rfl rfl rfl) ?_
          refine DOps.s 38 rfl rfl rfl (q_fieldAddr tok rfl rfl rfl rfl rfl rfl) ?_
          refine DOps.s 39 rfl rfl rfl (q_load tok rfl rfl rfl (by first | exact .loc _ | exact .ptr _ _ _ _ _ _ _ _ rfl rfl rfl) rfl) ?_
          refine DOps.x 40 rfl rfl rfl (o_pure rfl Try.func47 (by kernel_rfl) rfl rfl rfl (ends_ok x _ _)) ?_
          refine DOps.s 41 rfl rfl rfl (q_not rfl rfl) ?_
          refine DOps.nil (by kernel_rfl) ?_
          refine AGo.split 41 rfl (fun hb5 => ?_) (fun hb5 => ?_)
          · -- True
            refine AGo.cond_true true rfl rfl ?_
            have hends : x.ends f.blocks.length f.regs = false := by simpa using hb5
            refine AGo.seq ?_
            refine AGo.region ?_
            refine AOps.s 6 rfl rfl rfl (q_move (.inr rfl) rfl) ?_
            refine AOps.nil ?_
            refine AGo.ret ?_
            refine ⟨[_], ⟨rfl, trivial⟩, ?_, rfl⟩
            show AV.bool _ = AV.bool _
            congr 1
            rw [one_all h0.1 h0.2.1 h0.2.2, all_bad hx (by simp [Block.ok, hends])]
          · -- False
            refine AGo.cond_false false rfl rfl ?_
            have hends : x.ends f.blocks.length f.regs = true := by simpa using hb5
            refine AGo.skip ?_
            refine AGo.seq ?_
            refine AGo.region ?_
            refine AOps.s 8 rfl rfl rfl (q_move (.inr rfl) rfl) ?_
            refine AOps.nil ?_
            refine AGo.block ?_
            refine AGo.loopD (γ := Nat) 1 (fun j => ⟨68, (eput (eput (eput (eput (eput eNew 1 (.int .i64 number)) 2 (.int .i64 words)) 3 (.ptr 0 1 0 0)) 7 (.int .i64 (k : Int))) 8 (.int .i64 (j : Int))), (hput (hFrom 1) 0 (.row false 2 [f.cells]))⟩) (fun j => (x.ins.take j).all (fun t => t.fits number f.regs words) = true) (fun j => x.ins.length - j) 0 (Sub.mk' (by repeat (first | exact ESub.new _ | refine ESub.put ?_ (by rfl))) (by repeat (first | exact HSub.none _ | exact HSub.from_new _ | exact HSub.from_from (by decide) | refine HSub.put ?_ (by rfl) | refine HSub.from_put ?_ (by decide) | refine HSub.from_rm ?_ (by decide)))) rfl (fun _ => hput_free (fun b hb => hFrom_free hb) rfl) ?_
            intro j hj
            refine AGo.seq ?_
            refine AGo.seq ?_
            refine AGo.region ?_
            refine AOps.s 42 rfl rfl rfl (q_move (.inl rfl) rfl) ?_
            refine AOps.s 43 rfl rfl rfl (q_fieldAddr tok rfl rfl rfl rfl rfl rfl) ?_
            refine AOps.s 44 rfl rfl rfl (q_load tok rfl rfl rfl (by first | exact .loc _ | exact .ptr _ _ _ _ _ _ _ _ rfl rfl rfl) rfl) ?_
            refine AOps.s 45 rfl rfl rfl (q_move (.inl rfl) rfl) ?_
            refine AOps.s 46 rfl rfl rfl (q_index_lst tok rfl rfl rfl rfl rfl rfl (Int.natCast_nonneg _) (idx_map (by assumption)) rfl) ?_
            refine AOps.s 47 rfl rfl rfl (q_fieldAddr tok rfl rfl rfl rfl rfl rfl) ?_
            refine AOps.s 48 rfl rfl rfl (q_load tok rfl rfl rfl (by first | exact .loc _ | exact .ptr _ _ _ _ _ _ _ _ rfl rfl rfl) rfl) ?_
            refine AOps.s 49 rfl rfl rfl (q_len tok rfl rfl rfl rfl rfl) ?_
            refine AOps.s 50 rfl rfl rfl (q_bin rfl rfl rfl rfl) ?_
            refine AOps.nil ?_
            refine AGo.split 50 rfl (fun hb6 => ?_) (fun hb6 => ?_)
            · -- True
              refine AGo.cond_true true rfl rfl ?_
              have hjl : j < x.ins.length := lt_of_idx hb6
              obtain ⟨u, hu⟩ := get_of_lt hjl
              refine AGo.skip ?_
              refine AGo.seq ?_
              refine AGo.block ?_
              refine AGo.seq ?_
              refine AGo.draw mix ?_
              refine DOps.s 53 rfl rfl rfl (q_fieldAddr tok rfl rfl rfl rfl rfl rfl) ?_
              refine DOps.s 54 rfl rfl rfl (q_load tok rfl rfl rfl (by first | exact .loc _ | exact .ptr _ _ _ _ _ _ _ _ rfl rfl rfl) rfl) ?_
              refine DOps.s 55 rfl rfl rfl (q_move (.inl rfl) rfl) ?_
              refine DOps.s 56 rfl rfl rfl (q_index_lst tok rfl rfl rfl rfl rfl rfl (Int.natCast_nonneg _) (idx_map (by assumption)) rfl) ?_
              refine DOps.s 57 rfl rfl rfl (q_fieldAddr tok rfl rfl rfl rfl rfl rfl) ?_
              refine DOps.s 58 rfl rfl rfl (q_load tok rfl rfl rfl (by first | exact .loc _ | exact .ptr _ _ _ _ _ _ _ _ rfl rfl rfl) rfl) ?_
              refine DOps.s 59 rfl rfl rfl (q_move (.inl rfl) rfl) ?_
              refine DOps.s 60 rfl rfl rfl (q_index_lst tok rfl rfl rfl rfl rfl rfl (Int.natCast_nonneg _) (idx_map (by assumption)) rfl) ?_
              refine DOps.s 61 rfl rfl rfl (q_load tok rfl rfl rfl (by first | exact .loc _ | exact .ptr _ _ _ _ _ _ _ _ rfl rfl rfl) rfl) ?_
              refine DOps.s 62 rfl rfl rfl (q_move (.inl rfl) rfl) ?_
              refine DOps.s 63 rfl rfl rfl (q_fieldAddr tok rfl rfl rfl rfl rfl rfl) ?_
              refine DOps.s 64 rfl rfl rfl (q_load tok rfl rfl rfl (by first | exact .loc _ | exact .ptr _ _ _ _ _ _ _ _ rfl rfl rfl) rfl) ?_
              refine DOps.s 65 rfl rfl rfl (q_move (.inl rfl) rfl) ?_
              refine DOps.x 66 rfl rfl rfl (o_pure rfl Try.func48 (by kernel_rfl) rfl rfl rfl (fits_ok u _ _ _ hw hw2)) ?_
              refine DOps.s 67 rfl rfl rfl (q_not rfl rfl) ?_
              refine DOps.nil (by kernel_rfl) ?_
              refine AGo.split 67 rfl (fun hb7 => ?_) (fun hb7 => ?_)
              · -- True
                refine AGo.cond_true true rfl rfl ?_
                have hbw := hb7
                refine AGo.seq ?_
                refine AGo.region ?_
                refine AOps.s 6 rfl rfl rfl (q_move (.inr rfl) rfl) ?_
                refine AOps.nil ?_
                refine AGo.ret ?_
                refine ⟨[_], ⟨rfl, trivial⟩, ?_, rfl⟩
                show AV.bool _ = AV.bool _
                congr 1
                rw [one_all h0.1 h0.2.1 h0.2.2, all_bad hx (by simp only [Block.ok, all_bad (p := fun t => Tac.fits t number f.regs words) hu (by simpa using hbw), Bool.and_false])]
              · -- False
                refine AGo.cond_false false rfl rfl ?_
                have hbw := hb7
                refine AGo.skip ?_
                refine AGo.region ?_
                refine AOps.s 51 rfl rfl rfl (q_move (.inl rfl) rfl) ?_
                refine AOps.s 52 rfl rfl rfl (q_inc rfl rfl hjl (hfit.2 x (List.mem_of_getElem? hx))) ?_
                refine AOps.s 8 rfl rfl rfl (q_move (.inr rfl) rfl) ?_
                refine AOps.nil ?_
                exact ⟨j+1, Drop.mk' (by repeat (first | exact EDrop.new _ _ | refine EDrop.put ?_ (by rfl) rfl)) (by repeat (first | exact HDrop.none _ _ | exact HDrop.tail _ _ | refine HDrop.put ?_ (by rfl) rfl rfl)), all_succ hu hj (by simpa using hbw), by omega⟩
            · -- False
              refine AGo.cond_false false rfl rfl ?_
              have hins := all_end hj (ge_of_idx hb6)
              refine AGo.exit ?_
              refine AGo.region ?_
              refine AOps.s 28 rfl rfl rfl (q_move (.inl rfl) rfl) ?_
              refine AOps.s 29 rfl rfl rfl (q_inc rfl rfl hkl hfit.1) ?_
              refine AOps.s 7 rfl rfl rfl (q_move (.inr rfl) rfl) ?_
              refine AOps.nil ?_
              exact ⟨k+1, Drop.mk' (by repeat (first | exact EDrop.new _ _ | refine EDrop.put ?_ (by rfl) rfl)) (by repeat (first | exact HDrop.none _ _ | exact HDrop.tail _ _ | refine HDrop.put ?_ (by rfl) rfl rfl)), all_succ hx hk (by simp [Block.ok, hends, hins]), by omega⟩
        · -- False
          refine AGo.cond_false false rfl rfl ?_
          have hall := all_end hk (ge_of_idx hb4)
          refine AGo.exit ?_
          refine AGo.seq ?_
          refine AGo.region ?_
          refine AOps.s 6 rfl rfl rfl (q_move (.inr rfl) rfl) ?_
          refine AOps.nil ?_
          refine AGo.ret ?_
          refine ⟨[_], ⟨rfl, trivial⟩, ?_, rfl⟩
          show AV.bool _ = AV.bool _
          congr 1
          rw [one_all h0.1 h0.2.1 h0.2.2, hall]

set_option maxRecDepth 100000 in
theorem right_ok (b : Blocks) : APure Try.prog 22 [.agg b.cells] (fun r => r = .bool b.right) := by
  refine APure.of_body (n := 35) tok Try.func22 rfl rfl ?_
  refine AGo.seq ?_
  refine AGo.slot 0 rfl (fun H ι v => rel_prog) (fun hfit => ?_)
  refine AGo.region ?_
  refine AOps.x 1 rfl rfl rfl (o_box (sz := 2) 0 rfl rfl rfl rfl (Nat.zero_lt_succ _) rfl) ?_
  refine AOps.s 2 rfl rfl rfl (q_move (.inr rfl) rfl) ?_
  refine AOps.nil ?_
  refine AGo.seq ?_
  refine AGo.seq ?_
  refine AGo.region ?_
  refine AOps.s 4 rfl rfl rfl (q_fieldAddr tok rfl rfl rfl rfl rfl rfl) ?_
  refine AOps.s 5 rfl rfl rfl (q_load tok rfl rfl rfl (by first | exact .loc _ | exact .ptr _ _ _ _ _ _ _ _ rfl rfl rfl) rfl) ?_
  refine AOps.s 6 rfl rfl rfl (q_bin rfl rfl rfl rfl) ?_
  refine AOps.s 7 rfl rfl rfl (q_move (.inl rfl) rfl) ?_
  refine AOps.split 7 rfl (fun hb1 => ?_) (fun hb1 => ?_)
  · -- True
    refine AOps.k 8 rfl rfl rfl ?_
    refine AOps.k 9 rfl rfl rfl ?_
    refine AOps.k 10 rfl rfl rfl ?_
    refine AOps.s 11 rfl rfl rfl (q_pick_true true rfl rfl rfl rfl) ?_
    refine AOps.s 12 rfl rfl rfl (q_move (.inl rfl) rfl) ?_
    refine AOps.k 13 rfl rfl rfl ?_
    refine AOps.k 14 rfl rfl rfl ?_
    refine AOps.k 15 rfl rfl rfl ?_
    refine AOps.k 16 rfl rfl rfl ?_
    refine AOps.s 17 rfl rfl rfl (q_pick_true true rfl rfl rfl rfl) ?_
    refine AOps.nil ?_
    refine AGo.cond_true true rfl rfl ?_
    refine AGo.seq ?_
    refine AGo.region ?_
    refine AOps.s 2 rfl rfl rfl (q_move (.inr rfl) rfl) ?_
    refine AOps.nil ?_
    refine AGo.ret ?_
    refine ⟨[_], ⟨rfl, trivial⟩, ?_, rfl⟩
    show AV.bool _ = AV.bool _
    congr 1
    exact (right_bad (by simp_all <;> omega)).symm
  · -- False
    refine AOps.s 8 rfl rfl rfl (q_fieldAddr tok rfl rfl rfl rfl rfl rfl) ?_
    refine AOps.s 9 rfl rfl rfl (q_load tok rfl rfl rfl (by first | exact .loc _ | exact .ptr _ _ _ _ _ _ _ _ rfl rfl rfl) rfl) ?_
    refine AOps.s 10 rfl rfl rfl (q_bin rfl rfl rfl rfl) ?_
    refine AOps.s 11 rfl rfl rfl (q_pick_false false rfl rfl rfl rfl) ?_
    refine AOps.s 12 rfl rfl rfl (q_move (.inl rfl) rfl) ?_
    refine AOps.split 12 rfl (fun hb2 => ?_) (fun hb2 => ?_)
    · -- True
      refine AOps.k 13 rfl rfl rfl ?_
      refine AOps.k 14 rfl rfl rfl ?_
      refine AOps.k 15 rfl rfl rfl ?_
      refine AOps.k 16 rfl rfl rfl ?_
      refine AOps.s 17 rfl rfl rfl (q_pick_true true rfl rfl rfl rfl) ?_
      refine AOps.nil ?_
      refine AGo.cond_true true rfl rfl ?_
      refine AGo.seq ?_
      refine AGo.region ?_
      refine AOps.s 2 rfl rfl rfl (q_move (.inr rfl) rfl) ?_
      refine AOps.nil ?_
      refine AGo.ret ?_
      refine ⟨[_], ⟨rfl, trivial⟩, ?_, rfl⟩
      show AV.bool _ = AV.bool _
      congr 1
      exact (right_bad (by simp_all <;> omega)).symm
    · -- False
      refine AOps.s 13 rfl rfl rfl (q_fieldAddr tok rfl rfl rfl rfl rfl rfl) ?_
      refine AOps.s 14 rfl rfl rfl (q_load tok rfl rfl rfl (by first | exact .loc _ | exact .ptr _ _ _ _ _ _ _ _ rfl rfl rfl) rfl) ?_
      refine AOps.s 15 rfl rfl rfl (q_len tok rfl rfl rfl rfl rfl) ?_
      refine AOps.s 16 rfl rfl rfl (q_bin rfl rfl rfl rfl) ?_
      refine AOps.s 17 rfl rfl rfl (q_pick_false false rfl rfl rfl rfl) ?_
      refine AOps.nil ?_
      refine AGo.split 17 rfl (fun hb3 => ?_) (fun hb3 => ?_)
      · -- True
        refine AGo.cond_true true rfl rfl ?_
        refine AGo.seq ?_
        refine AGo.region ?_
        refine AOps.s 2 rfl rfl rfl (q_move (.inr rfl) rfl) ?_
        refine AOps.nil ?_
        refine AGo.ret ?_
        refine ⟨[_], ⟨rfl, trivial⟩, ?_, rfl⟩
        show AV.bool _ = AV.bool _
        congr 1
        exact (right_bad (by simp_all <;> omega)).symm
      · -- False
        refine AGo.cond_false false rfl rfl ?_
        have h0 : 0 ≤ b.words ∧ b.words ≤ 1048576 ∧ b.funcs.length ≠ 0 := by simp_all <;> omega
        refine AGo.skip ?_
        refine AGo.seq ?_
        refine AGo.seq ?_
        refine AGo.region ?_
        refine AOps.s 3 rfl rfl rfl (q_move (.inr rfl) rfl) ?_
        refine AOps.nil ?_
        refine AGo.block ?_
        refine AGo.loopD (γ := Nat) 1 (fun k => ⟨35, (eput (eput eNew 1 (.ptr 0 1 0 0)) 3 (.int .i64 (k : Int))), (hput (hFrom 1) 0 (.row false 2 [b.cells]))⟩) (fun k => (b.funcs.zipIdx.take k).all (fun p => p.1.one (p.2 : Int) b.words) = true) (fun k => b.funcs.length - k) 0 (Sub.mk' (by repeat (first | exact ESub.new _ | refine ESub.put ?_ (by rfl))) (by repeat (first | exact HSub.none _ | exact HSub.from_new _ | exact HSub.from_from (by decide) | refine HSub.put ?_ (by rfl) | refine HSub.from_put ?_ (by decide) | refine HSub.from_rm ?_ (by decide)))) rfl (fun _ => hput_free (fun b hb => hFrom_free hb) rfl) ?_
        intro k hk
        refine AGo.seq ?_
        refine AGo.seq ?_
        refine AGo.region ?_
        refine AOps.s 18 rfl rfl rfl (q_move (.inl rfl) rfl) ?_
        refine AOps.s 19 rfl rfl rfl (q_fieldAddr tok rfl rfl rfl rfl rfl rfl) ?_
        refine AOps.s 20 rfl rfl rfl (q_load tok rfl rfl rfl (by first | exact .loc _ | exact .ptr _ _ _ _ _ _ _ _ rfl rfl rfl) rfl) ?_
        refine AOps.s 21 rfl rfl rfl (q_len tok rfl rfl rfl rfl rfl) ?_
        refine AOps.s 22 rfl rfl rfl (q_bin rfl rfl rfl rfl) ?_
        refine AOps.nil ?_
        refine AGo.split 22 rfl (fun hb4 => ?_) (fun hb4 => ?_)
        · -- True
          refine AGo.cond_true true rfl rfl ?_
          have hkl : k < b.funcs.length := lt_of_idx hb4
          obtain ⟨x, hx⟩ := get_of_lt hkl
          refine AGo.skip ?_
          refine AGo.seq ?_
          refine AGo.block ?_
          refine AGo.seq ?_
          refine AGo.draw mix ?_
          refine DOps.s 25 rfl rfl rfl (q_fieldAddr tok rfl rfl rfl rfl rfl rfl) ?_
          refine DOps.s 26 rfl rfl rfl (q_load tok rfl rfl rfl (by first | exact .loc _ | exact .ptr _ _ _ _ _ _ _ _ rfl rfl rfl) rfl) ?_
          refine DOps.s 27 rfl rfl rfl (q_move (.inl rfl) rfl) ?_
          refine DOps.s 28 rfl rfl rfl (q_index_lst tok rfl rfl rfl rfl rfl rfl (Int.natCast_nonneg _) (idx_map (by assumption)) rfl) ?_
          refine DOps.s 29 rfl rfl rfl (q_load tok rfl rfl rfl (by first | exact .loc _ | exact .ptr _ _ _ _ _ _ _ _ rfl rfl rfl) rfl) ?_
          refine DOps.s 30 rfl rfl rfl (q_move (.inl rfl) rfl) ?_
          refine DOps.s 31 rfl rfl rfl (q_fieldAddr tok rfl rfl rfl rfl rfl rfl) ?_
          refine DOps.s 32 rfl rfl rfl (q_load tok rfl rfl rfl (by first | exact .loc _ | exact .ptr _ _ _ _ _ _ _ _ rfl rfl rfl) rfl) ?_
          refine DOps.x 33 rfl rfl rfl (o_pure rfl Try.func38 (by kernel_rfl) rfl rfl rfl (one_ok x _ _ h0.1 h0.2.1)) ?_
          refine DOps.s 34 rfl rfl rfl (q_not rfl rfl) ?_
          refine DOps.nil (by kernel_rfl) ?_
          refine AGo.split 34 rfl (fun hb5 => ?_) (fun hb5 => ?_)
          · -- True
            refine AGo.cond_true true rfl rfl ?_
            have hone := hb5
            refine AGo.seq ?_
            refine AGo.region ?_
            refine AOps.s 2 rfl rfl rfl (q_move (.inr rfl) rfl) ?_
            refine AOps.nil ?_
            refine AGo.ret ?_
            refine ⟨[_], ⟨rfl, trivial⟩, ?_, rfl⟩
            show AV.bool _ = AV.bool _
            congr 1
            rw [right_all h0.1 h0.2.1 h0.2.2, all_bad (zipIdx_get hx) (by simpa using hone)]
          · -- False
            refine AGo.cond_false false rfl rfl ?_
            have hone := hb5
            refine AGo.skip ?_
            refine AGo.region ?_
            refine AOps.s 23 rfl rfl rfl (q_move (.inl rfl) rfl) ?_
            refine AOps.s 24 rfl rfl rfl (q_inc rfl rfl hkl hfit.1) ?_
            refine AOps.s 3 rfl rfl rfl (q_move (.inr rfl) rfl) ?_
            refine AOps.nil ?_
            exact ⟨k+1, Drop.mk' (by repeat (first | exact EDrop.new _ _ | refine EDrop.put ?_ (by rfl) rfl)) (by repeat (first | exact HDrop.none _ _ | exact HDrop.tail _ _ | refine HDrop.put ?_ (by rfl) rfl rfl)), all_succ (zipIdx_get hx) hk (by simpa using hone), by omega⟩
        · -- False
          refine AGo.cond_false false rfl rfl ?_
          have hall := all_end hk (by rw [List.length_zipIdx]; exact ge_of_idx hb4)
          refine AGo.exit ?_
          refine AGo.seq ?_
          refine AGo.region ?_
          refine AOps.s 2 rfl rfl rfl (q_move (.inr rfl) rfl) ?_
          refine AOps.nil ?_
          refine AGo.ret ?_
          refine ⟨[_], ⟨rfl, trivial⟩, ?_, rfl⟩
          show AV.bool _ = AV.bool _
          congr 1
          rw [right_all h0.1 h0.2.1 h0.2.2, hall]

end Go.Proofs.Ytidfabbnobipkaa.Sv

namespace Go.Proofs.Ytidfabbnobipkaa.Sv
open Go
set_option linter.unusedVariables false
set_option linter.unusedSimpArgs false

set_option maxRecDepth 100000 in
theorem sameFunc_ok (f g : BFunc) : APure Try.prog 15 [.agg f.cells, .agg g.cells] (fun r => r = .bool (decide (f = g))) := by
  refine APure.of_body (n := 93) tok Try.func15 rfl rfl ?_
  refine AGo.seq ?_
  refine AGo.slot 0 rfl (fun H ι v => rel_bfunc) (fun hfit => ?_)
  refine AGo.region ?_
  refine AOps.x 2 rfl rfl rfl (o_box (sz := 2) 0 rfl rfl rfl rfl (Nat.zero_lt_succ _) rfl) ?_
  refine AOps.x 3 rfl rfl rfl (o_box (sz := 2) 1 rfl rfl rfl rfl (Nat.zero_lt_succ _) rfl) ?_
  refine AOps.s 4 rfl rfl rfl (q_move (.inr rfl) rfl) ?_
  refine AOps.nil ?_
  refine AGo.seq ?_
  refine AGo.seq ?_
  refine AGo.region ?_
  refine AOps.s 9 rfl rfl rfl (q_fieldAddr tok rfl rfl rfl rfl rfl rfl) ?_
  refine AOps.s 10 rfl rfl rfl (q_load tok rfl rfl rfl (by first | exact .loc _ | exact .ptr _ _ _ _ _ _ _ _ rfl rfl rfl) rfl) ?_
  refine AOps.s 11 rfl rfl rfl (q_fieldAddr tok rfl rfl rfl rfl rfl rfl) ?_
  refine AOps.s 12 rfl rfl rfl (q_load tok rfl rfl rfl (by first | exact .loc _ | exact .ptr _ _ _ _ _ _ _ _ rfl rfl rfl) rfl) ?_
  refine AOps.s 13 rfl rfl rfl (q_bin rfl rfl rfl rfl) ?_
  refine AOps.s 14 rfl rfl rfl (q_move (.inl rfl) rfl) ?_
  refine AOps.split 14 rfl (fun hb1 => ?_) (fun hb1 => ?_)
  · -- True
    refine AOps.k 15 rfl rfl rfl ?_
    refine AOps.k 16 rfl rfl rfl ?_
    refine AOps.k 17 rfl rfl rfl ?_
    refine AOps.k 18 rfl rfl rfl ?_
    refine AOps.k 19 rfl rfl rfl ?_
    refine AOps.k 20 rfl rfl rfl ?_
    refine AOps.k 21 rfl rfl rfl ?_
    refine AOps.s 22 rfl rfl rfl (q_pick_true true rfl rfl rfl rfl) ?_
    refine AOps.nil ?_
    refine AGo.cond_true true rfl rfl ?_
    refine AGo.seq ?_
    refine AGo.region ?_
    refine AOps.s 4 rfl rfl rfl (q_move (.inr rfl) rfl) ?_
    refine AOps.nil ?_
    refine AGo.ret ?_
    refine ⟨[_], ⟨rfl, trivial⟩, ?_, rfl⟩
    show AV.bool false = _
    rw [decide_eq_false (by rintro rfl; simp_all)]
  · -- False
    refine AOps.s 15 rfl rfl rfl (q_fieldAddr tok rfl rfl rfl rfl rfl rfl) ?_
    refine AOps.s 16 rfl rfl rfl (q_load tok rfl rfl rfl (by first | exact .loc _ | exact .ptr _ _ _ _ _ _ _ _ rfl rfl rfl) rfl) ?_
    refine AOps.s 17 rfl rfl rfl (q_len tok rfl rfl rfl rfl rfl) ?_
    refine AOps.s 18 rfl rfl rfl (q_fieldAddr tok rfl rfl rfl rfl rfl rfl) ?_
    refine AOps.s 19 rfl rfl rfl (q_load tok rfl rfl rfl (by first | exact .loc _ | exact .ptr _ _ _ _ _ _ _ _ rfl rfl rfl) rfl) ?_
    refine AOps.s 20 rfl rfl rfl (q_len tok rfl rfl rfl rfl rfl) ?_
    refine AOps.s 21 rfl rfl rfl (q_bin rfl rfl rfl rfl) ?_
    refine AOps.s 22 rfl rfl rfl (q_pick_false false rfl rfl rfl rfl) ?_
    refine AOps.nil ?_
    refine AGo.split 22 rfl (fun hb2 => ?_) (fun hb2 => ?_)
    · -- True
      refine AGo.cond_true true rfl rfl ?_
      refine AGo.seq ?_
      refine AGo.region ?_
      refine AOps.s 4 rfl rfl rfl (q_move (.inr rfl) rfl) ?_
      refine AOps.nil ?_
      refine AGo.ret ?_
      refine ⟨[_], ⟨rfl, trivial⟩, ?_, rfl⟩
      show AV.bool false = _
      rw [decide_eq_false (by rintro rfl; simp_all)]
    · -- False
      refine AGo.cond_false false rfl rfl ?_
      refine AGo.skip ?_
      refine AGo.seq ?_
      refine AGo.seq ?_
      refine AGo.region ?_
      refine AOps.s 5 rfl rfl rfl (q_move (.inr rfl) rfl) ?_
      refine AOps.nil ?_
      refine AGo.block ?_
      refine AGo.loopD (γ := Nat) 2 (fun k => ⟨93, (eput (eput (eput eNew 2 (.ptr 0 1 0 0)) 3 (.ptr 1 1 0 0)) 5 (.int .i64 (k : Int))), (hput (hput (hFrom 2) 0 (.row false 2 [BFunc.cells f])) 1 (.row false 2 [BFunc.cells g]))⟩) (fun k => k ≤ f.blocks.length ∧ f.regs = g.regs ∧ f.blocks.length = g.blocks.length ∧ f.blocks.take k = g.blocks.take k) (fun k => f.blocks.length - k) 0 (Sub.mk' (by repeat (first | exact ESub.new _ | refine ESub.put ?_ (by rfl))) (by repeat (first | exact HSub.none _ | exact HSub.from_new _ | exact HSub.from_from (by decide) | refine HSub.put ?_ (by rfl) | refine HSub.from_put ?_ (by decide) | refine HSub.from_rm ?_ (by decide)))) ⟨Nat.zero_le _, by simp_all, by simp_all; omega, rfl⟩ (fun _ => hput_free (hput_free (fun b hb => hFrom_free hb) rfl) rfl) ?_
      intro k ⟨hk, hr, hl, ht⟩
      refine AGo.seq ?_
      refine AGo.seq ?_
      refine AGo.region ?_
      refine AOps.s 23 rfl rfl rfl (q_move (.inl rfl) rfl) ?_
      refine AOps.s 24 rfl rfl rfl (q_fieldAddr tok rfl rfl rfl rfl rfl rfl) ?_
      refine AOps.s 25 rfl rfl rfl (q_load tok rfl rfl rfl (by first | exact .loc _ | exact .ptr _ _ _ _ _ _ _ _ rfl rfl rfl) rfl) ?_
      refine AOps.s 26 rfl rfl rfl (q_len tok rfl rfl rfl rfl rfl) ?_
      refine AOps.s 27 rfl rfl rfl (q_bin rfl rfl rfl rfl) ?_
      refine AOps.nil ?_
      refine AGo.split 27 rfl (fun hb3 => ?_) (fun hb3 => ?_)
      · -- True
        refine AGo.cond_true true rfl rfl ?_
        have hkl : k < f.blocks.length := lt_of_idx hb3
        obtain ⟨x, hx⟩ := get_of_lt hkl
        obtain ⟨y, hy⟩ := get_of_lt (l := g.blocks) (k := k) (by omega)
        refine AGo.skip ?_
        refine AGo.seq ?_
        refine AGo.block ?_
        refine AGo.seq ?_
        refine AGo.region ?_
        refine AOps.s 30 rfl rfl rfl (q_fieldAddr tok rfl rfl rfl rfl rfl rfl) ?_
        refine AOps.s 31 rfl rfl rfl (q_load tok rfl rfl rfl (by first | exact .loc _ | exact .ptr _ _ _ _ _ _ _ _ rfl rfl rfl) rfl) ?_
        refine AOps.s 32 rfl rfl rfl (q_move (.inl rfl) rfl) ?_
        refine AOps.s 33 rfl rfl rfl (q_index_lst tok rfl rfl rfl rfl rfl rfl (Int.natCast_nonneg _) (idx_map (by assumption)) rfl) ?_
        refine AOps.s 34 rfl rfl rfl (q_load tok rfl rfl rfl (by first | exact .loc _ | exact .ptr _ _ _ _ _ _ _ _ rfl rfl rfl) rfl) ?_
        refine AOps.x 6 rfl rfl rfl (o_alloc tok 2 rfl rfl rfl rfl (Nat.zero_lt_succ _) rfl) ?_
        refine AOps.w rfl rfl (o_store tok rfl rfl rfl rfl rfl rfl rfl rfl rfl (by decide) rfl (by first | exact fun _ => rfl | (intro h; cases h))) ?_
        refine AOps.nil ?_
        refine AGo.seq ?_
        refine AGo.region ?_
        refine AOps.s 35 rfl rfl rfl (q_fieldAddr tok rfl rfl rfl rfl rfl rfl) ?_
        refine AOps.s 36 rfl rfl rfl (q_load tok rfl rfl rfl (by first | exact .loc _ | exact .ptr _ _ _ _ _ _ _ _ rfl rfl rfl) rfl) ?_
        refine AOps.s 37 rfl rfl rfl (q_move (.inl rfl) rfl) ?_
        refine AOps.s 38 rfl rfl rfl (q_index_lst tok rfl rfl rfl rfl rfl rfl (Int.natCast_nonneg _) (idx_map (by assumption)) rfl) ?_
        refine AOps.s 39 rfl rfl rfl (q_load tok rfl rfl rfl (by first | exact .loc _ | exact .ptr _ _ _ _ _ _ _ _ rfl rfl rfl) rfl) ?_
        refine AOps.x 7 rfl rfl rfl (o_alloc tok 3 rfl rfl rfl rfl (Nat.zero_lt_succ _) rfl) ?_
        refine AOps.w rfl rfl (o_store tok rfl rfl rfl rfl rfl rfl rfl rfl rfl (by decide) rfl (by first | exact fun _ => rfl | (intro h; cases h))) ?_
        refine AOps.nil ?_
        refine AGo.seq ?_
        refine AGo.seq ?_
        refine AGo.region ?_
        refine AOps.s 40 rfl rfl rfl (q_fieldAddr tok rfl rfl rfl rfl rfl rfl) ?_
        refine AOps.s 41 rfl rfl rfl (q_load tok rfl rfl rfl (by first | exact .loc _ | exact .ptr _ _ _ _ _ _ _ _ rfl rfl rfl) rfl) ?_
        refine AOps.s 42 rfl rfl rfl (q_fieldAddr tok rfl rfl rfl rfl rfl rfl) ?_
        refine AOps.s 43 rfl rfl rfl (q_load tok rfl rfl rfl (by first | exact .loc _ | exact .ptr _ _ _ _ _ _ _ _ rfl rfl rfl) rfl) ?_
        refine AOps.s 44 rfl rfl rfl (q_bin rfl rfl rfl rfl) ?_
        refine AOps.s 45 rfl rfl rfl (q_move (.inl rfl) rfl) ?_
        refine AOps.split 45 rfl (fun hb4 => ?_) (fun hb4 => ?_)
        · -- True
          refine AOps.k 46 rfl rfl rfl ?_
          refine AOps.k 47 rfl rfl rfl ?_
          refine AOps.k 48 rfl rfl rfl ?_
          refine AOps.k 49 rfl rfl rfl ?_
          refine AOps.k 50 rfl rfl rfl ?_
          refine AOps.s 51 rfl rfl rfl (q_pick_true true rfl rfl rfl rfl) ?_
          refine AOps.s 52 rfl rfl rfl (q_move (.inl rfl) rfl) ?_
          refine AOps.k 53 rfl rfl rfl ?_
          refine AOps.k 54 rfl rfl rfl ?_
          refine AOps.k 55 rfl rfl rfl ?_
          refine AOps.k 56 rfl rfl rfl ?_
          refine AOps.k 57 rfl rfl rfl ?_
          refine AOps.s 58 rfl rfl rfl (q_pick_true true rfl rfl rfl rfl) ?_
          refine AOps.s 59 rfl rfl rfl (q_move (.inl rfl) rfl) ?_
          refine AOps.k 60 rfl rfl rfl ?_
          refine AOps.k 61 rfl rfl rfl ?_
          refine AOps.k 62 rfl rfl rfl ?_
          refine AOps.k 63 rfl rfl rfl ?_
          refine AOps.k 64 rfl rfl rfl ?_
          refine AOps.s 65 rfl rfl rfl (q_pick_true true rfl rfl rfl rfl) ?_
          refine AOps.s 66 rfl rfl rfl (q_move (.inl rfl) rfl) ?_
          refine AOps.k 67 rfl rfl rfl ?_
          refine AOps.k 68 rfl rfl rfl ?_
          refine AOps.k 69 rfl rfl rfl ?_
          refine AOps.k 70 rfl rfl rfl ?_
          refine AOps.k 71 rfl rfl rfl ?_
          refine AOps.k 72 rfl rfl rfl ?_
          refine AOps.k 73 rfl rfl rfl ?_
          refine AOps.s 74 rfl rfl rfl (q_pick_true true rfl rfl rfl rfl) ?_
          refine AOps.nil ?_
          refine AGo.cond_true true rfl rfl ?_
          refine AGo.seq ?_
          refine AGo.region ?_
          refine AOps.s 4 rfl rfl rfl (q_move (.inr rfl) rfl) ?_
          refine AOps.nil ?_
          refine AGo.ret ?_
          refine ⟨[_], ⟨rfl, trivial⟩, ?_, rfl⟩
          show AV.bool false = _
          rw [decide_eq_false (by rintro rfl; rw [hx] at hy; cases hy; simp_all)]
        · -- False
          refine AOps.s 46 rfl rfl rfl (q_fieldAddr tok rfl rfl rfl rfl rfl rfl) ?_
          refine AOps.s 47 rfl rfl rfl (q_load tok rfl rfl rfl (by first | exact .loc _ | exact .ptr _ _ _ _ _ _ _ _ rfl rfl rfl) rfl) ?_
          refine AOps.s 48 rfl rfl rfl (q_fieldAddr tok rfl rfl rfl rfl rfl rfl) ?_
          refine AOps.s 49 rfl rfl rfl (q_load tok rfl rfl rfl (by first | exact .loc _ | exact .ptr _ _ _ _ _ _ _ _ rfl rfl rfl) rfl) ?_
          refine AOps.s 50 rfl rfl rfl (q_bin rfl rfl rfl rfl) ?_
          refine AOps.s 51 rfl rfl rfl (q_pick_false false rfl rfl rfl rfl) ?_
          refine AOps.s 52 rfl rfl rfl (q_move (.inl rfl) rfl) ?_
          refine AOps.split 52 rfl (fun hb5 => ?_) (fun hb5 => ?_)
          · -- True
            refine AOps.k 53 rfl rfl rfl ?_
            refine AOps.k 54 rfl rfl rfl ?_
            refine AOps.k 55 rfl rfl rfl ?_
            refine AOps.k 56 rfl rfl rfl ?_
            refine AOps.k 57 rfl rfl rfl ?_
            refine AOps.s 58 rfl rfl rfl (q_pick_true true rfl rfl rfl rfl) ?_
            refine AOps.s 59 rfl rfl rfl (q_move (.inl rfl) rfl) ?_
            refine AOps.k 60 rfl rfl rfl ?_
            refine AOps.k 61 rfl rfl rfl ?_
            refine AOps.k 62 rfl rfl rfl ?_
            refine AOps.k 63 rfl rfl rfl ?_
            refine AOps.k 64 rfl rfl rfl ?_
            refine AOps.s 65 rfl rfl rfl (q_pick_true true rfl rfl rfl rfl) ?_
            refine AOps.s 66 rfl rfl rfl (q_move (.inl rfl) rfl) ?_
            refine AOps.k 67 rfl rfl rfl ?_
            refine AOps.k 68 rfl rfl rfl ?_
            refine AOps.k 69 rfl rfl rfl ?_
            refine AOps.k 70 rfl rfl rfl ?_
            refine AOps.k 71 rfl rfl rfl ?_
            refine AOps.k 72 rfl rfl rfl ?_
            refine AOps.k 73 rfl rfl rfl ?_
            refine AOps.s 74 rfl rfl rfl (q_pick_true true rfl rfl rfl rfl) ?_
            refine AOps.nil ?_
            refine AGo.cond_true true rfl rfl ?_
            refine AGo.seq ?_
            refine AGo.region ?_
            refine AOps.s 4 rfl rfl rfl (q_move (.inr rfl) rfl) ?_
            refine AOps.nil ?_
            refine AGo.ret ?_
            refine ⟨[_], ⟨rfl, trivial⟩, ?_, rfl⟩
            show AV.bool false = _
            rw [decide_eq_false (by rintro rfl; rw [hx] at hy; cases hy; simp_all)]
          · -- False
            refine AOps.s 53 rfl rfl rfl (q_fieldAddr tok rfl rfl rfl rfl rfl rfl) ?_
            refine AOps.s 54 rfl rfl rfl (q_load tok rfl rfl rfl (by first | exact .loc _ | exact .ptr _ _ _ _ _ _ _ _ rfl rfl rfl) rfl) ?_
            refine AOps.s 55 rfl rfl rfl (q_fieldAddr tok rfl rfl rfl rfl rfl rfl) ?_
            refine AOps.s 56 rfl rfl rfl (q_load tok rfl rfl rfl (by first | exact .loc _ | exact .ptr _ _ _ _ _ _ _ _ rfl rfl rfl) rfl) ?_
            refine AOps.s 57 rfl rfl rfl (q_bin rfl rfl rfl rfl) ?_
            refine AOps.s 58 rfl rfl rfl (q_pick_false false rfl rfl rfl rfl) ?_
            refine AOps.s 59 rfl rfl rfl (q_move (.inl rfl) rfl) ?_
            refine AOps.split 59 rfl (fun hb6 => ?_) (fun hb6 => ?_)
            · -- True
              refine AOps.k 60 rfl rfl rfl ?_
              refine AOps.k 61 rfl rfl rfl ?_
              refine AOps.k 62 rfl rfl rfl ?_
              refine AOps.k 63 rfl rfl rfl ?_
              refine AOps.k 64 rfl rfl rfl ?_
              refine AOps.s 65 rfl rfl rfl (q_pick_true true rfl rfl rfl rfl) ?_
              refine AOps.s 66 rfl rfl rfl (q_move (.inl rfl) rfl) ?_
              refine AOps.k 67 rfl rfl rfl ?_
              refine AOps.k 68 rfl rfl rfl ?_
              refine AOps.k 69 rfl rfl rfl ?_
              refine AOps.k 70 rfl rfl rfl ?_
              refine AOps.k 71 rfl rfl rfl ?_
              refine AOps.k 72 rfl rfl rfl ?_
              refine AOps.k 73 rfl rfl rfl ?_
              refine AOps.s 74 rfl rfl rfl (q_pick_true true rfl rfl rfl rfl) ?_
              refine AOps.nil ?_
              refine AGo.cond_true true rfl rfl ?_
              refine AGo.seq ?_
              refine AGo.region ?_
              refine AOps.s 4 rfl rfl rfl (q_move (.inr rfl) rfl) ?_
              refine AOps.nil ?_
              refine AGo.ret ?_
              refine ⟨[_], ⟨rfl, trivial⟩, ?_, rfl⟩
              show AV.bool false = _
              rw [decide_eq_false (by rintro rfl; rw [hx] at hy; cases hy; simp_all)]
            · -- False
              refine AOps.s 60 rfl rfl rfl (q_fieldAddr tok rfl rfl rfl rfl rfl rfl) ?_
              refine AOps.s 61 rfl rfl rfl (q_load tok rfl rfl rfl (by first | exact .loc _ | exact .ptr _ _ _ _ _ _ _ _ rfl rfl rfl) rfl) ?_
              refine AOps.s 62 rfl rfl rfl (q_fieldAddr tok rfl rfl rfl rfl rfl rfl) ?_
              refine AOps.s 63 rfl rfl rfl (q_load tok rfl rfl rfl (by first | exact .loc _ | exact .ptr _ _ _ _ _ _ _ _ rfl rfl rfl) rfl) ?_
              refine AOps.s 64 rfl rfl rfl (q_bin rfl rfl rfl rfl) ?_
              refine AOps.s 65 rfl rfl rfl (q_pick_false false rfl rfl rfl rfl) ?_
              refine AOps.s 66 rfl rfl rfl (q_move (.inl rfl) rfl) ?_
              refine AOps.split 66 rfl (fun hb7 => ?_) (fun hb7 => ?_)
              · -- True
                refine AOps.k 67 rfl rfl rfl ?_
                refine AOps.k 68 rfl rfl rfl ?_
                refine AOps.k 69 rfl rfl rfl ?_
                refine AOps.k 70 rfl rfl rfl ?_
                refine AOps.k 71 rfl rfl rfl ?_
                refine AOps.k 72 rfl rfl rfl ?_
                refine AOps.k 73 rfl rfl rfl ?_
                refine AOps.s 74 rfl rfl rfl (q_pick_true true rfl rfl rfl rfl) ?_
                refine AOps.nil ?_
                refine AGo.cond_true true rfl rfl ?_
                refine AGo.seq ?_
                refine AGo.region ?_
                refine AOps.s 4 rfl rfl rfl (q_move (.inr rfl) rfl) ?_
                refine AOps.nil ?_
                refine AGo.ret ?_
                refine ⟨[_], ⟨rfl, trivial⟩, ?_, rfl⟩
                show AV.bool false = _
                rw [decide_eq_false (by rintro rfl; rw [hx] at hy; cases hy; simp_all)]
              · -- False
                refine AOps.s 67 rfl rfl rfl (q_fieldAddr tok rfl rfl rfl rfl rfl rfl) ?_
                refine AOps.s 68 rfl rfl rfl (q_load tok rfl rfl rfl (by first | exact .loc _ | exact .ptr _ _ _ _ _ _ _ _ rfl rfl rfl) rfl) ?_
                refine AOps.s 69 rfl rfl rfl (q_len tok rfl rfl rfl rfl rfl) ?_
                refine AOps.s 70 rfl rfl rfl (q_fieldAddr tok rfl rfl rfl rfl rfl rfl) ?_
                refine AOps.s 71 rfl rfl rfl (q_load tok rfl rfl rfl (by first | exact .loc _ | exact .ptr _ _ _ _ _ _ _ _ rfl rfl rfl) rfl) ?_
                refine AOps.s 72 rfl rfl rfl (q_len tok rfl rfl rfl rfl rfl) ?_
                refine AOps.s 73 rfl rfl rfl (q_bin rfl rfl rfl rfl) ?_
                refine AOps.s 74 rfl rfl rfl (q_pick_false false rfl rfl rfl rfl) ?_
                refine AOps.nil ?_
                refine AGo.split 74 rfl (fun hb8 => ?_) (fun hb8 => ?_)
                · -- True
                  refine AGo.cond_true true rfl rfl ?_
                  refine AGo.seq ?_
                  refine AGo.region ?_
                  refine AOps.s 4 rfl rfl rfl (q_move (.inr rfl) rfl) ?_
                  refine AOps.nil ?_
                  refine AGo.ret ?_
                  refine ⟨[_], ⟨rfl, trivial⟩, ?_, rfl⟩
                  show AV.bool false = _
                  rw [decide_eq_false (by rintro rfl; rw [hx] at hy; cases hy; simp_all)]
                · -- False
                  refine AGo.cond_false false rfl rfl ?_
                  refine AGo.skip ?_
                  refine AGo.seq ?_
                  refine AGo.region ?_
                  refine AOps.s 8 rfl rfl rfl (q_move (.inr rfl) rfl) ?_
                  refine AOps.nil ?_
                  refine AGo.block ?_
                  refine AGo.loopD (γ := Nat) 4 (fun j => ⟨93, (eput (eput (eput (eput (eput (eput eNew 2 (.ptr 0 1 0 0)) 3 (.ptr 1 1 0 0)) 5 (.int .i64 (k : Int))) 6 (.ptr 2 1 0 0)) 7 (.ptr 3 1 0 0)) 8 (.int .i64 (j : Int))), (hput (hput (hput (hput (hFrom 4) 0 (.row false 2 [BFunc.cells f])) 1 (.row false 2 [BFunc.cells g])) 2 (.row false 5 [x.cells])) 3 (.row false 5 [y.cells]))⟩) (fun j => j ≤ x.ins.length ∧ x.ins.length = y.ins.length ∧ x.ins.take j = y.ins.take j) (fun j => x.ins.length - j) 0 (Sub.mk' (by repeat (first | exact ESub.new _ | refine ESub.put ?_ (by rfl))) (by repeat (first | exact HSub.none _ | exact HSub.from_new _ | exact HSub.from_from (by decide) | refine HSub.put ?_ (by rfl) | refine HSub.from_put ?_ (by decide) | refine HSub.from_rm ?_ (by decide)))) ⟨Nat.zero_le _, by have h := hb8; simp at h; omega, rfl⟩ (fun _ => hput_free (hput_free (hput_free (hput_free (fun b hb => hFrom_free hb) rfl) rfl) rfl) rfl) ?_
                  intro j ⟨hj, hjl, hjt⟩
                  refine AGo.seq ?_
                  refine AGo.seq ?_
                  refine AGo.region ?_
                  refine AOps.s 75 rfl rfl rfl (q_move (.inl rfl) rfl) ?_
                  refine AOps.s 76 rfl rfl rfl (q_fieldAddr tok rfl rfl rfl rfl rfl rfl) ?_
                  refine AOps.s 77 rfl rfl rfl (q_load tok rfl rfl rfl (by first | exact .loc _ | exact .ptr _ _ _ _ _ _ _ _ rfl rfl rfl) rfl) ?_
                  refine AOps.s 78 rfl rfl rfl (q_len tok rfl rfl rfl rfl rfl) ?_
                  refine AOps.s 79 rfl rfl rfl (q_bin rfl rfl rfl rfl) ?_
                  refine AOps.nil ?_
                  refine AGo.split 79 rfl (fun hb9 => ?_) (fun hb9 => ?_)
                  · -- True
                    refine AGo.cond_true true rfl rfl ?_
                    have hjk : j < x.ins.length := lt_of_idx hb9
                    obtain ⟨u, hu⟩ := get_of_lt hjk
                    obtain ⟨v, hv⟩ := get_of_lt (l := y.ins) (k := j) (by omega)
                    refine AGo.skip ?_
                    refine AGo.seq ?_
                    refine AGo.block ?_
                    refine AGo.seq ?_
                    refine AGo.draw mix ?_
                    refine DOps.s 82 rfl rfl rfl (q_fieldAddr tok rfl rfl rfl rfl rfl rfl) ?_
                    refine DOps.s 83 rfl rfl rfl (q_load tok rfl rfl rfl (by first | exact .loc _ | exact .ptr _ _ _ _ _ _ _ _ rfl rfl rfl) rfl) ?_
                    refine DOps.s 84 rfl rfl rfl (q_move (.inl rfl) rfl) ?_
                    refine DOps.s 85 rfl rfl rfl (q_index_lst tok rfl rfl rfl rfl rfl rfl (Int.natCast_nonneg _) (idx_map (by assumption)) rfl) ?_
                    refine DOps.s 86 rfl rfl rfl (q_load tok rfl rfl rfl (by first | exact .loc _ | exact .ptr _ _ _ _ _ _ _ _ rfl rfl rfl) rfl) ?_
                    refine DOps.s 87 rfl rfl rfl (q_fieldAddr tok rfl rfl rfl rfl rfl rfl) ?_
                    refine DOps.s 88 rfl rfl rfl (q_load tok rfl rfl rfl (by first | exact .loc _ | exact .ptr _ _ _ _ _ _ _ _ rfl rfl rfl) rfl) ?_
                    refine DOps.s 89 rfl rfl rfl (q_move (.inl rfl) rfl) ?_
                    refine DOps.s 90 rfl rfl rfl (q_index_lst tok rfl rfl rfl rfl rfl rfl (Int.natCast_nonneg _) (idx_map (by assumption)) rfl) ?_
                    refine DOps.s 91 rfl rfl rfl (q_load tok rfl rfl rfl (by first | exact .loc _ | exact .ptr _ _ _ _ _ _ _ _ rfl rfl rfl) rfl) ?_
                    refine DOps.s 92 rfl rfl rfl (q_eqStruct tok true rfl rfl rfl (by kernel_rfl) rfl rfl rfl rfl rfl) ?_
                    refine DOps.nil (by kernel_rfl) ?_
                    refine AGo.split 92 rfl (fun hb10 => ?_) (fun hb10 => ?_)
                    · -- True
                      refine AGo.cond_true true rfl rfl ?_
                      refine AGo.seq ?_
                      refine AGo.region ?_
                      refine AOps.s 4 rfl rfl rfl (q_move (.inr rfl) rfl) ?_
                      refine AOps.nil ?_
                      refine AGo.ret ?_
                      refine ⟨[_], ⟨rfl, trivial⟩, ?_, rfl⟩
                      show AV.bool false = _
                      rw [decide_eq_false (by rintro rfl; rw [hx] at hy; cases hy; rw [hu] at hv; cases hv; simp_all)]
                    · -- False
                      refine AGo.cond_false false rfl rfl ?_
                      have huv : u = v := by cases u; cases v; simpa using hb10
                      refine AGo.skip ?_
                      refine AGo.region ?_
                      refine AOps.s 80 rfl rfl rfl (q_move (.inl rfl) rfl) ?_
                      refine AOps.s 81 rfl rfl rfl (q_inc rfl rfl hjk (hfit.2 x (List.mem_of_getElem? hx))) ?_
                      refine AOps.s 8 rfl rfl rfl (q_move (.inr rfl) rfl) ?_
                      refine AOps.nil ?_
                      exact ⟨j+1, Drop.mk' (by repeat (first | exact EDrop.new _ _ | refine EDrop.put ?_ (by rfl) rfl)) (by repeat (first | exact HDrop.none _ _ | exact HDrop.tail _ _ | refine HDrop.put ?_ (by rfl) rfl rfl)), ⟨hjk, hjl, by rw [take_succ_eq hu, take_succ_eq hv, hjt, huv]⟩, by omega⟩
                  · -- False
                    refine AGo.cond_false false rfl rfl ?_
                    have hge2 := ge_of_idx hb9
                    have hxy : x = y := by
                      have := take_all hjt hge2 (hjl ▸ hge2)
                      cases x; cases y; simp_all
                    refine AGo.exit ?_
                    refine AGo.region ?_
                    refine AOps.s 28 rfl rfl rfl (q_move (.inl rfl) rfl) ?_
                    refine AOps.s 29 rfl rfl rfl (q_inc rfl rfl hkl hfit.1) ?_
                    refine AOps.s 5 rfl rfl rfl (q_move (.inr rfl) rfl) ?_
                    refine AOps.nil ?_
                    exact ⟨k+1, Drop.mk' (by repeat (first | exact EDrop.new _ _ | refine EDrop.put ?_ (by rfl) rfl)) (by repeat (first | exact HDrop.none _ _ | exact HDrop.tail _ _ | refine HDrop.put ?_ (by rfl) rfl rfl)), ⟨hkl, hr, hl, by rw [take_succ_eq hx, take_succ_eq hy, ht, hxy]⟩, by omega⟩
      · -- False
        refine AGo.cond_false false rfl rfl ?_
        have hge := ge_of_idx hb3
        refine AGo.exit ?_
        refine AGo.seq ?_
        refine AGo.region ?_
        refine AOps.s 4 rfl rfl rfl (q_move (.inr rfl) rfl) ?_
        refine AOps.nil ?_
        refine AGo.ret ?_
        refine ⟨[_], ⟨rfl, trivial⟩, ?_, rfl⟩
        show AV.bool true = _
        rw [decide_eq_true (BFunc.ext' hr (take_all ht hge (hl ▸ hge)))]

set_option maxRecDepth 100000 in
theorem small_ok (b : Blocks) (most : Int) (htight : b.tight) : APure Try.prog 12 [.agg b.cells, .int .i64 most] (fun r => r = .bool (b.small most)) := by
  refine APure.of_body (n := 73) tok Try.func12 rfl rfl ?_
  refine AGo.seq ?_
  refine AGo.slot 0 rfl (fun H ι v => rel_prog) (fun hfit => ?_)
  refine AGo.region ?_
  refine AOps.x 2 rfl rfl rfl (o_box (sz := 2) 0 rfl rfl rfl rfl (Nat.zero_lt_succ _) rfl) ?_
  refine AOps.s 4 rfl rfl rfl (q_move (.inr rfl) rfl) ?_
  refine AOps.nil ?_
  refine AGo.seq ?_
  refine AGo.region ?_
  refine AOps.s 5 rfl rfl rfl (q_move (.inr rfl) rfl) ?_
  refine AOps.nil ?_
  refine AGo.seq ?_
  refine AGo.seq ?_
  refine AGo.region ?_
  refine AOps.s 8 rfl rfl rfl (q_fieldAddr tok rfl rfl rfl rfl rfl rfl) ?_
  refine AOps.s 9 rfl rfl rfl (q_load tok rfl rfl rfl (by first | exact .loc _ | exact .ptr _ _ _ _ _ _ _ _ rfl rfl rfl) rfl) ?_
  refine AOps.s 10 rfl rfl rfl (q_bin rfl rfl rfl rfl) ?_
  refine AOps.s 11 rfl rfl rfl (q_move (.inl rfl) rfl) ?_
  refine AOps.split 11 rfl (fun hb1 => ?_) (fun hb1 => ?_)
  · -- True
    refine AOps.k 12 rfl rfl rfl ?_
    refine AOps.k 13 rfl rfl rfl ?_
    refine AOps.k 14 rfl rfl rfl ?_
    refine AOps.k 15 rfl rfl rfl ?_
    refine AOps.s 16 rfl rfl rfl (q_pick_true true rfl rfl rfl rfl) ?_
    refine AOps.nil ?_
    refine AGo.cond_true true rfl rfl ?_
    refine AGo.seq ?_
    refine AGo.region ?_
    refine AOps.s 4 rfl rfl rfl (q_move (.inr rfl) rfl) ?_
    refine AOps.nil ?_
    refine AGo.ret ?_
    refine ⟨[_], ⟨rfl, trivial⟩, ?_, rfl⟩
    show AV.bool _ = AV.bool _
    congr 1
    exact (small_bad1 (by simp_all <;> omega)).symm
  · -- False
    refine AOps.s 12 rfl rfl rfl (q_fieldAddr tok rfl rfl rfl rfl rfl rfl) ?_
    refine AOps.s 13 rfl rfl rfl (q_load tok rfl rfl rfl (by first | exact .loc _ | exact .ptr _ _ _ _ _ _ _ _ rfl rfl rfl) rfl) ?_
    refine AOps.s 14 rfl rfl rfl (q_len tok rfl rfl rfl rfl rfl) ?_
    refine AOps.s 15 rfl rfl rfl (q_bin rfl rfl rfl rfl) ?_
    refine AOps.s 16 rfl rfl rfl (q_pick_false false rfl rfl rfl rfl) ?_
    refine AOps.nil ?_
    refine AGo.split 16 rfl (fun hb2 => ?_) (fun hb2 => ?_)
    · -- True
      refine AGo.cond_true true rfl rfl ?_
      refine AGo.seq ?_
      refine AGo.region ?_
      refine AOps.s 4 rfl rfl rfl (q_move (.inr rfl) rfl) ?_
      refine AOps.nil ?_
      refine AGo.ret ?_
      refine ⟨[_], ⟨rfl, trivial⟩, ?_, rfl⟩
      show AV.bool _ = AV.bool _
      congr 1
      exact (small_bad1 (by simp_all <;> omega)).symm
    · -- False
      refine AGo.cond_false false rfl rfl ?_
      have h0 : b.words ≤ 500 ∧ b.funcs.length ≤ 10 := by simp_all <;> omega
      refine AGo.skip ?_
      refine AGo.seq ?_
      refine AGo.seq ?_
      refine AGo.region ?_
      refine AOps.s 6 rfl rfl rfl (q_move (.inr rfl) rfl) ?_
      refine AOps.nil ?_
      refine AGo.block ?_
      refine AGo.loopD (γ := Nat) 1 (fun k => ⟨73, (eput (eput (eput (eput eNew 1 (.int .i64 most)) 2 (.ptr 0 1 0 0)) 5 (.int .i64 ((((b.funcs.take k).map BFunc.count).sum : Nat) : Int))) 6 (.int .i64 (k : Int))), (hput (hFrom 1) 0 (.row false 2 [b.cells]))⟩) (fun k => (b.funcs.take k).all BFunc.low = true) (fun k => b.funcs.length - k) 0 (Sub.mk' (by repeat (first | exact ESub.new _ | refine ESub.put ?_ (by rfl))) (by repeat (first | exact HSub.none _ | exact HSub.from_new _ | exact HSub.from_from (by decide) | refine HSub.put ?_ (by rfl) | refine HSub.from_put ?_ (by decide) | refine HSub.from_rm ?_ (by decide)))) rfl (fun _ => hput_free (fun b hb => hFrom_free hb) rfl) ?_
      intro k hk
      refine AGo.seq ?_
      refine AGo.seq ?_
      refine AGo.region ?_
      refine AOps.s 17 rfl rfl rfl (q_move (.inl rfl) rfl) ?_
      refine AOps.s 18 rfl rfl rfl (q_fieldAddr tok rfl rfl rfl rfl rfl rfl) ?_
      refine AOps.s 19 rfl rfl rfl (q_load tok rfl rfl rfl (by first | exact .loc _ | exact .ptr _ _ _ _ _ _ _ _ rfl rfl rfl) rfl) ?_
      refine AOps.s 20 rfl rfl rfl (q_len tok rfl rfl rfl rfl rfl) ?_
      refine AOps.s 21 rfl rfl rfl (q_bin rfl rfl rfl rfl) ?_
      refine AOps.nil ?_
      refine AGo.split 21 rfl (fun hb3 => ?_) (fun hb3 => ?_)
      · -- True
        refine AGo.cond_true true rfl rfl ?_
        have hkl : k < b.funcs.length := lt_of_idx hb3
        obtain ⟨f, hx⟩ := get_of_lt hkl
        refine AGo.skip ?_
        refine AGo.seq ?_
        refine AGo.block ?_
        refine AGo.seq ?_
        refine AGo.seq ?_
        refine AGo.region ?_
        refine AOps.s 24 rfl rfl rfl (q_fieldAddr tok rfl rfl rfl rfl rfl rfl) ?_
        refine AOps.s 25 rfl rfl rfl (q_load tok rfl rfl rfl (by first | exact .loc _ | exact .ptr _ _ _ _ _ _ _ _ rfl rfl rfl) rfl) ?_
        refine AOps.s 26 rfl rfl rfl (q_move (.inl rfl) rfl) ?_
        refine AOps.s 27 rfl rfl rfl (q_index_lst tok rfl rfl rfl rfl rfl rfl (Int.natCast_nonneg _) (idx_map (by assumption)) rfl) ?_
        refine AOps.s 28 rfl rfl rfl (q_fieldAddr tok rfl rfl rfl rfl rfl rfl) ?_
        refine AOps.s 29 rfl rfl rfl (q_load tok rfl rfl rfl (by first | exact .loc _ | exact .ptr _ _ _ _ _ _ _ _ rfl rfl rfl) rfl) ?_
        refine AOps.s 30 rfl rfl rfl (q_bin rfl rfl rfl rfl) ?_
        refine AOps.s 31 rfl rfl rfl (q_move (.inl rfl) rfl) ?_
        refine AOps.split 31 rfl (fun hb4 => ?_) (fun hb4 => ?_)
        · -- True
          refine AOps.k 32 rfl rfl rfl ?_
          refine AOps.k 33 rfl rfl rfl ?_
          refine AOps.k 34 rfl rfl rfl ?_
          refine AOps.k 35 rfl rfl rfl ?_
          refine AOps.k 36 rfl rfl rfl ?_
          refine AOps.k 37 rfl rfl rfl ?_
          refine AOps.k 38 rfl rfl rfl ?_
          refine AOps.k 39 rfl rfl rfl ?_
          refine AOps.s 40 rfl rfl rfl (q_pick_true true rfl rfl rfl rfl) ?_
          refine AOps.nil ?_
          refine AGo.cond_true true rfl rfl ?_
          refine AGo.seq ?_
          refine AGo.region ?_
          refine AOps.s 4 rfl rfl rfl (q_move (.inr rfl) rfl) ?_
          refine AOps.nil ?_
          refine AGo.ret ?_
          refine ⟨[_], ⟨rfl, trivial⟩, ?_, rfl⟩
          show AV.bool _ = AV.bool _
          congr 1
          exact (small_bad2 (all_bad hx (by simp [BFunc.low] at *; omega))).symm
        · -- False
          refine AOps.s 32 rfl rfl rfl (q_fieldAddr tok rfl rfl rfl rfl rfl rfl) ?_
          refine AOps.s 33 rfl rfl rfl (q_load tok rfl rfl rfl (by first | exact .loc _ | exact .ptr _ _ _ _ _ _ _ _ rfl rfl rfl) rfl) ?_
          refine AOps.s 34 rfl rfl rfl (q_move (.inl rfl) rfl) ?_
          refine AOps.s 35 rfl rfl rfl (q_index_lst tok rfl rfl rfl rfl rfl rfl (Int.natCast_nonneg _) (idx_map (by assumption)) rfl) ?_
          refine AOps.s 36 rfl rfl rfl (q_fieldAddr tok rfl rfl rfl rfl rfl rfl) ?_
          refine AOps.s 37 rfl rfl rfl (q_load tok rfl rfl rfl (by first | exact .loc _ | exact .ptr _ _ _ _ _ _ _ _ rfl rfl rfl) rfl) ?_
          refine AOps.s 38 rfl rfl rfl (q_len tok rfl rfl rfl rfl rfl) ?_
          refine AOps.s 39 rfl rfl rfl (q_bin rfl rfl rfl rfl) ?_
          refine AOps.s 40 rfl rfl rfl (q_pick_false false rfl rfl rfl rfl) ?_
          refine AOps.nil ?_
          refine AGo.split 40 rfl (fun hb5 => ?_) (fun hb5 => ?_)
          · -- True
            refine AGo.cond_true true rfl rfl ?_
            refine AGo.seq ?_
            refine AGo.region ?_
            refine AOps.s 4 rfl rfl rfl (q_move (.inr rfl) rfl) ?_
            refine AOps.nil ?_
            refine AGo.ret ?_
            refine ⟨[_], ⟨rfl, trivial⟩, ?_, rfl⟩
            show AV.bool _ = AV.bool _
            congr 1
            exact (small_bad2 (all_bad hx (by simp [BFunc.low] at *; omega))).symm
          · -- False
            refine AGo.cond_false false rfl rfl ?_
            have hlow : BFunc.low f = true := by simp [BFunc.low] at *; omega
            have hlow2 : f.blocks.length ≤ 40 := by simp [BFunc.low] at hlow; omega
            have hn1 := counts_le (l := b.funcs.take k) (m := 10) (fun x hx => htight x (List.mem_of_mem_take hx)) hk (by rw [List.length_take]; omega)
            refine AGo.skip ?_
            refine AGo.seq ?_
            refine AGo.region ?_
            refine AOps.s 7 rfl rfl rfl (q_move (.inr rfl) rfl) ?_
            refine AOps.nil ?_
            refine AGo.block ?_
            refine AGo.loopD (γ := Nat) 1 (fun j => ⟨73, (eput (eput (eput (eput (eput eNew 1 (.int .i64 most)) 2 (.ptr 0 1 0 0)) 5 (.int .i64 ((((b.funcs.take k).map BFunc.count).sum + ((f.blocks.take j).map Block.count).sum : Nat) : Int))) 6 (.int .i64 (k : Int))) 7 (.int .i64 (j : Int))), (hput (hFrom 1) 0 (.row false 2 [b.cells]))⟩) (fun j => True) (fun j => f.blocks.length - j) 0 (Sub.mk' (by repeat (first | exact ESub.new _ | refine ESub.put ?_ (by rfl))) (by repeat (first | exact HSub.none _ | exact HSub.from_new _ | exact HSub.from_from (by decide) | refine HSub.put ?_ (by rfl) | refine HSub.from_put ?_ (by decide) | refine HSub.from_rm ?_ (by decide)))) trivial (fun _ => hput_free (fun b hb => hFrom_free hb) rfl) ?_
            intro j _
            refine AGo.seq ?_
            refine AGo.seq ?_
            refine AGo.region ?_
            refine AOps.s 41 rfl rfl rfl (q_move (.inl rfl) rfl) ?_
            refine AOps.s 42 rfl rfl rfl (q_fieldAddr tok rfl rfl rfl rfl rfl rfl) ?_
            refine AOps.s 43 rfl rfl rfl (q_load tok rfl rfl rfl (by first | exact .loc _ | exact .ptr _ _ _ _ _ _ _ _ rfl rfl rfl) rfl) ?_
            refine AOps.s 44 rfl rfl rfl (q_move (.inl rfl) rfl) ?_
            refine AOps.s 45 rfl rfl rfl (q_index_lst tok rfl rfl rfl rfl rfl rfl (Int.natCast_nonneg _) (idx_map (by assumption)) rfl) ?_
            refine AOps.s 46 rfl rfl rfl (q_fieldAddr tok rfl rfl rfl rfl rfl rfl) ?_
            refine AOps.s 47 rfl rfl rfl (q_load tok rfl rfl rfl (by first | exact .loc _ | exact .ptr _ _ _ _ _ _ _ _ rfl rfl rfl) rfl) ?_
            refine AOps.s 48 rfl rfl rfl (q_len tok rfl rfl rfl rfl rfl) ?_
            refine AOps.s 49 rfl rfl rfl (q_bin rfl rfl rfl rfl) ?_
            refine AOps.nil ?_
            refine AGo.split 49 rfl (fun hb6 => ?_) (fun hb6 => ?_)
            · -- True
              refine AGo.cond_true true rfl rfl ?_
              have hjk : j < f.blocks.length := lt_of_idx hb6
              obtain ⟨x, hj⟩ := get_of_lt hjk
              have hn2 := count_le (l := f.blocks.take j) (m := 40) (fun y hy => htight f (List.mem_of_getElem? hx) y (List.mem_of_mem_take hy)) (by rw [List.length_take]; omega)
              refine AGo.skip ?_
              refine AGo.seq ?_
              refine AGo.block ?_
              refine AGo.region ?_
              refine AOps.s 52 rfl rfl rfl (q_move (.inl rfl) rfl) ?_
              refine AOps.s 53 rfl rfl rfl (q_bin rfl rfl rfl rfl) ?_
              refine AOps.s 54 rfl rfl rfl (q_fieldAddr tok rfl rfl rfl rfl rfl rfl) ?_
              refine AOps.s 55 rfl rfl rfl (q_load tok rfl rfl rfl (by first | exact .loc _ | exact .ptr _ _ _ _ _ _ _ _ rfl rfl rfl) rfl) ?_
              refine AOps.s 56 rfl rfl rfl (q_move (.inl rfl) rfl) ?_
              refine AOps.s 57 rfl rfl rfl (q_index_lst tok rfl rfl rfl rfl rfl rfl (Int.natCast_nonneg _) (idx_map (by assumption)) rfl) ?_
              refine AOps.s 58 rfl rfl rfl (q_fieldAddr tok rfl rfl rfl rfl rfl rfl) ?_
              refine AOps.s 59 rfl rfl rfl (q_load tok rfl rfl rfl (by first | exact .loc _ | exact .ptr _ _ _ _ _ _ _ _ rfl rfl rfl) rfl) ?_
              refine AOps.s 60 rfl rfl rfl (q_move (.inl rfl) rfl) ?_
              refine AOps.s 61 rfl rfl rfl (q_index_lst tok rfl rfl rfl rfl rfl rfl (Int.natCast_nonneg _) (idx_map (by assumption)) rfl) ?_
              refine AOps.s 62 rfl rfl rfl (q_fieldAddr tok rfl rfl rfl rfl rfl rfl) ?_
              refine AOps.s 63 rfl rfl rfl (q_load tok rfl rfl rfl (by first | exact .loc _ | exact .ptr _ _ _ _ _ _ _ _ rfl rfl rfl) rfl) ?_
              refine AOps.s 64 rfl rfl rfl (q_len tok rfl rfl rfl rfl rfl) ?_
              refine AOps.s 65 rfl rfl rfl (q_bin (r := .int .i64 ((((b.funcs.take k).map BFunc.count).sum + ((f.blocks.take (j + 1)).map Block.count).sum : Nat) : Int)) rfl rfl rfl (by rw [sum_succ hj, show x.count = 1 + (List.map Tac.cells x.ins).length by rw [List.length_map]; rfl]; exact count_step hn1 hn2 (show List.length (List.map Tac.cells x.ins) ≤ big by rw [List.length_map]; exact htight f (List.mem_of_getElem? hx) x (List.mem_of_getElem? hj)))) ?_
              refine AOps.s 5 rfl rfl rfl (q_move (.inr rfl) rfl) ?_
              refine AOps.nil ?_
              refine AGo.region ?_
              refine AOps.s 50 rfl rfl rfl (q_move (.inl rfl) rfl) ?_
              refine AOps.s 51 rfl rfl rfl (q_inc rfl rfl hjk (hfit.2 f (List.mem_of_getElem? hx)).1) ?_
              refine AOps.s 7 rfl rfl rfl (q_move (.inr rfl) rfl) ?_
              refine AOps.nil ?_
              exact ⟨j+1, Drop.mk' (by repeat (first | exact EDrop.new _ _ | refine EDrop.put ?_ (by rfl) rfl)) (by repeat (first | exact HDrop.none _ _ | exact HDrop.tail _ _ | refine HDrop.put ?_ (by rfl) rfl rfl)), trivial, by omega⟩
            · -- False
              refine AGo.cond_false false rfl rfl ?_
              have hge2 := ge_of_idx hb6
              refine AGo.exit ?_
              refine AGo.region ?_
              refine AOps.s 22 rfl rfl rfl (q_move (.inl rfl) rfl) ?_
              refine AOps.s 23 rfl rfl rfl (q_inc rfl rfl hkl hfit.1) ?_
              refine AOps.s 6 rfl rfl rfl (q_move (.inr rfl) rfl) ?_
              refine AOps.nil ?_
              exact ⟨k+1, Drop.mk' (by repeat (first | exact EDrop.new _ _ | refine EDrop.put ?_ (by first | rfl | exact congrArg (fun (z : Nat) => some (AV.int .i64 (z : Int))) (by rw [sum_succ hx, BFunc.count, sum_end (p := Block.count) hge2])) rfl)) (by repeat (first | exact HDrop.none _ _ | exact HDrop.tail _ _ | refine HDrop.put ?_ (by rfl) rfl rfl)), all_succ hx hk hlow, by omega⟩
      · -- False
        refine AGo.cond_false false rfl rfl ?_
        have hge := ge_of_idx hb3
        have hall := all_end hk hge
        refine AGo.exit ?_
        refine AGo.seq ?_
        rw [show ((b.funcs.take k).map BFunc.count).sum = b.count from sum_end hge]
        refine AGo.region ?_
        refine AOps.s 66 rfl rfl rfl (q_move (.inl rfl) rfl) ?_
        refine AOps.s 67 rfl rfl rfl (q_move (.inl rfl) rfl) ?_
        refine AOps.s 68 rfl rfl rfl (q_bin rfl rfl rfl rfl) ?_
        refine AOps.s 69 rfl rfl rfl (q_move (.inl rfl) rfl) ?_
        refine AOps.split 69 rfl (fun hb7 => ?_) (fun hb7 => ?_)
        · -- True
          refine AOps.s 70 rfl rfl rfl (q_load tok rfl rfl rfl (by first | exact .loc _ | exact .ptr _ _ _ _ _ _ _ _ rfl rfl rfl) rfl) ?_
          refine AOps.x 71 rfl rfl rfl (o_pure rfl Try.func22 (by kernel_rfl) rfl rfl rfl (right_ok _)) ?_
          refine AOps.s 72 rfl rfl rfl (q_pick_true true rfl rfl rfl rfl) ?_
          refine AOps.s 4 rfl rfl rfl (q_move (.inr rfl) rfl) ?_
          refine AOps.nil ?_
          refine AGo.ret ?_
          refine ⟨[_], ⟨rfl, trivial⟩, ?_, rfl⟩
          show AV.bool _ = AV.bool _
          congr 1
          rw [small_all h0.1 h0.2 hall]
          first | (simp_all; done) | (simp_all; omega)
        · -- False
          refine AOps.k 70 rfl rfl rfl ?_
          refine AOps.k 71 rfl rfl rfl ?_
          refine AOps.s 72 rfl rfl rfl (q_pick_false false rfl rfl rfl rfl) ?_
          refine AOps.s 4 rfl rfl rfl (q_move (.inr rfl) rfl) ?_
          refine AOps.nil ?_
          refine AGo.ret ?_
          refine ⟨[_], ⟨rfl, trivial⟩, ?_, rfl⟩
          show AV.bool _ = AV.bool _
          congr 1
          rw [small_all h0.1 h0.2 hall]
          first | (simp_all; done) | (simp_all; omega)

end Go.Proofs.Ytidfabbnobipkaa.Sv
