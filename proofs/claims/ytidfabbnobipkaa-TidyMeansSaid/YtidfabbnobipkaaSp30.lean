/-
  RUNS THAT HAVE DONE FEWER STEPS END ALIKE, IN PLAIN LEAN: own work, over no program.
-/
import Derived.Test.YtidfabbnobipkaaSp13
namespace Go.Proofs.Ytidfabbnobipkaa.Sv
open Go
set_option linter.unusedVariables false
set_option linter.unusedSimpArgs false

/-- alike, with no more steps -/
structure Mach.Le (m m' : Mach) : Prop where
  words : m'.words = m.words
  out : m'.out = m.out
  read : m'.read = m.read
  fin : m'.fin = m.fin
  steps : m'.steps ≤ m.steps
/-- the first one had no fuel, or both are alike -/
def Mach.Sim (x y : Mach) : Prop := x.fin = 5 ∨ x.Le y
theorem Mach.Le.refl (m : Mach) : m.Le m := ⟨rfl, rfl, rfl, rfl, Nat.le_refl _⟩
theorem Mach.Le.put {m m' : Mach} (h : m.Le m') (w : List Int) (o : List UInt8) (r : Nat) (f : Int) : Mach.Le ⟨w, o, r, m.steps, f⟩ ⟨w, o, r, m'.steps, f⟩ := ⟨rfl, rfl, rfl, rfl, h.steps⟩
section
variable {call call' : Int → Mach → Mach} {s : ByteArray} {fuel : Int}
theorem mstep_false {m : Mach} (h : (mstep fuel m).1 = false) : (mstep fuel m).2.fin = 5 := by
  unfold mstep at *
  cases e : decide ((m.steps : Int) ≥ fuel) with
  | true => rfl
  | false => rw [e] at h; cases h
theorem mstep_le {m m' : Mach} (h : m.Le m') (h1 : (mstep fuel m).1 = true) : (mstep fuel m').1 = true ∧ (mstep fuel m).2.Le (mstep fuel m').2 := by
  obtain ⟨a1, a2⟩ := mstep_true h1
  have h2 : decide ((m'.steps : Int) ≥ fuel) = false := by have := h.steps; simp; omega
  have e : mstep fuel m' = (true, { m' with steps := m'.steps + 1 }) := mstep_yes h2
  rw [a2, e]
  exact ⟨rfl, ⟨h.words, h.out, h.read, h.fin, Nat.succ_le_succ h.steps⟩⟩
/-- the calls of a list of instructions do alike -/
def callsSim (call call' : Int → Mach → Mach) (ok : Int → Prop) : Prop := ∀ i m m', ok i → m.fin = 0 → m.Le m' → (call i m).Sim (call' i m')
theorem mone_sim {ok : Int → Prop} (hc : callsSim call call' ok) (t : Tac) (ht : t.op = 10 → ok t.base) (regs : List Int) {m m' : Mach} (h0 : m.fin = 0) (h : m.Le m') :
    (mone call s t regs m).1 = (mone call' s t regs m').1 ∧ (mone call s t regs m).2.Sim (mone call' s t regs m').2 := by
  obtain ⟨w, o, r, st, f⟩ := m
  obtain ⟨w', o', r', st', f'⟩ := m'
  obtain ⟨h1, h2, h3, h4, h5⟩ := h
  simp only at h1 h2 h3 h4 h5
  subst h1; subst h2; subst h3; subst h4
  have hle : ∀ (a : List Int) (b : List UInt8) (c : Nat) (d : Int), Mach.Le ⟨a, b, c, st, d⟩ ⟨a, b, c, st', d⟩ := fun a b c d => ⟨rfl, rfl, rfl, rfl, h5⟩
  unfold mone
  cases t.op == 1 with
  | true => exact ⟨rfl, .inr (hle _ _ _ _)⟩
  | false =>
  cases t.op == 2 with
  | true => exact ⟨rfl, .inr (hle _ _ _ _)⟩
  | false =>
  cases t.op == 3 with
  | true =>
    simp only [cond_true, cond_false]
    cases (wapp t.k (rget regs t.a) (rget regs t.b)).2 == 0 <;> exact ⟨rfl, .inr (hle _ _ _ _)⟩
  | false =>
  cases t.op == 4 with
  | true => exact ⟨rfl, .inr (hle _ _ _ _)⟩
  | false =>
  cases t.op == 5 with
  | true => exact ⟨rfl, .inr (hle _ _ _ _)⟩
  | false =>
  cases t.op == 6 with
  | true =>
    simp only [cond_true, cond_false]
    cases decide (rget regs t.a ≥ t.size) <;> exact ⟨rfl, .inr (hle _ _ _ _)⟩
  | false =>
  cases t.op == 7 with
  | true =>
    simp only [cond_true, cond_false]
    cases decide (rget regs t.a ≥ t.size) <;> exact ⟨rfl, .inr (hle _ _ _ _)⟩
  | false =>
  cases t.op == 8 with
  | true =>
    simp only [cond_true, cond_false]
    cases decide (r' < s.size) <;> exact ⟨rfl, .inr (hle _ _ _ _)⟩
  | false =>
  cases t.op == 9 with
  | true =>
    simp only [cond_true, cond_false]
    cases decide (o'.length ≥ 65536) <;> exact ⟨rfl, .inr (hle _ _ _ _)⟩
  | false =>
  cases h10 : t.op == 10 with
  | true => exact ⟨rfl, hc _ _ _ (ht (by simpa using h10)) h0 (hle _ _ _ _)⟩
  | false => exact ⟨rfl, .inr (hle _ _ _ _)⟩
/-- how the two ends of a list of instructions stand -/
def insSim (X Y : Bool × List Int × Mach) : Prop := X.1 = false ∧ X.2.2.fin = 5 ∨ X.1 = Y.1 ∧ X.2.1 = Y.2.1 ∧ X.2.2.Le Y.2.2 ∧ (X.1 = true → X.2.2.fin = 0) ∧ (X.1 = false → X.2.2.fin ≠ 0)
theorem mins_sim {ok : Int → Prop} (hc : callsSim call call' ok) : ∀ (l : List Tac), (∀ t ∈ l, t.op = 10 → ok t.base) → ∀ (regs : List Int) {m m' : Mach}, m.fin = 0 → m.Le m' → insSim (mins call s fuel l regs m) (mins call' s fuel l regs m')
  | [], _, regs, m, m', h0, h => .inr ⟨rfl, rfl, h, fun _ => h0, fun e => by cases e⟩
  | t :: r, hl, regs, m, m', h0, h => by
    unfold mins
    cases h1 : (mstep fuel m).1 with
    | false => exact .inl ⟨rfl, mstep_false h1⟩
    | true =>
      obtain ⟨a1, a2⟩ := mstep_le h h1
      have hz : (mstep fuel m).2.fin = 0 := by rw [(mstep_true h1).2]; exact h0
      obtain ⟨b1, b2⟩ := mone_sim (s := s) hc t (hl t (by simp)) regs hz a2
      rw [a1]
      simp only [cond_true]
      rcases b2 with b2 | b2
      · rw [show ((mone call s t regs (mstep fuel m).2).2.fin == 0) = false by rw [b2]; rfl]
        exact .inl ⟨rfl, b2⟩
      · rw [b2.fin, ← b1]
        cases hf : (mone call s t regs (mstep fuel m).2).2.fin == 0 with
        | false =>
          simp only [cond_false]
          exact .inr ⟨rfl, b1, b2, (fun e => by cases e), fun _ => by simpa using hf⟩
        | true =>
          simp only [cond_true]
          exact mins_sim hc r (fun u hu => hl u (by simp [hu])) _ (by simpa using hf) b2
/-- there is gas enough -/
def gasOk (fuel : Int) (g : Nat) (m : Mach) : Prop := fuel.toNat < m.steps + g
theorem mblk_sim {ok : Int → Prop} (hc : callsSim call call' ok) {f : BFunc} (hf : ∀ x ∈ f.blocks, ∀ t ∈ x.ins, t.op = 10 → ok t.base) (hcs : ∀ i m, m.steps ≤ (call i m).steps) (hcs' : ∀ i m, m.steps ≤ (call' i m).steps) :
    ∀ (g : Nat) (g' : Nat) (i : Int) (regs : List Int) (m m' : Mach), m.fin = 0 → m.Le m' → 0 < g → 0 < g' → gasOk fuel g m → gasOk fuel g' m' → (mblk call s fuel f g i regs m).Sim (mblk call' s fuel f g' i regs m')
  | 0, _, _, _, _, _, _, _, h, _, _, _ => absurd h (by omega)
  | _ + 1, 0, _, _, _, _, _, _, _, h, _, _ => absurd h (by omega)
  | g + 1, g' + 1, i, regs, m, m', h0, h, _, _, hg, hg' => by
    unfold mblk
    cases hk : f.blocks[i.toNat]? with
    | none => exact .inr h
    | some k =>
      have hs := mins_sim (s := s) (fuel := fuel) hc k.ins (hf k (List.mem_of_getElem? hk)) regs h0 h
      have hst := mins_steps (s := s) (fuel := fuel) hcs k.ins regs m
      have hst' := mins_steps (s := s) (fuel := fuel) hcs' k.ins regs m'
      dsimp only
      generalize mins call s fuel k.ins regs m = X at hs hst ⊢
      generalize mins call' s fuel k.ins regs m' = Y at hs hst' ⊢
      obtain ⟨X1, X2, X3⟩ := X
      obtain ⟨Y1, Y2, Y3⟩ := Y
      rcases hs with ⟨h1, h2⟩ | ⟨h1, h2, h3, h4, h5⟩
      · simp only at h1 h2; subst h1; exact .inl h2
      · simp only at h1 h2 h3 h4 h5 hst hst'
        subst h1; subst h2
        cases X1 with
        | false => exact .inr h3
        | true =>
          simp only [cond_true]
          cases hm : (mstep fuel X3).1 with
          | false => simp only [Bool.false_and, cond_false]; exact .inl (mstep_false hm)
          | true =>
            obtain ⟨a1, a2⟩ := mstep_le h3 hm
            obtain ⟨e1, e2⟩ := mstep_true hm
            obtain ⟨e1', e2'⟩ := mstep_true a1
            rw [a1]
            cases hfin : k.fin == 3 with
            | true => exact .inr a2
            | false =>
              simp only [Bool.not_false, Bool.and_self, cond_true]
              refine mblk_sim hc hf hcs hcs' g g' _ _ _ _ (by rw [e2]; exact h4 rfl) a2 ?_ ?_ ?_ ?_
              · unfold gasOk at hg; omega
              · unfold gasOk at hg'; omega
              · unfold gasOk at hg ⊢; rw [e2]; dsimp only; omega
              · unfold gasOk at hg' ⊢; rw [e2']; dsimp only; omega
end
/-- the same functions, from no more steps -/
theorem mfun_sim {b : Blocks} (hb : b.right = true) {s : ByteArray} {fuel : Int} : ∀ (n : Nat) (i : Int) (m m' : Mach), 0 ≤ i → i < b.funcs.length → m.fin = 0 → m.Le m' → (mfun b s fuel n i m).Sim (mfun b s fuel n i m')
  | 0, _, _, _, _, _, _, h => .inr h
  | n + 1, i, m, m', h1, h2, h0, h => by
    unfold mfun
    cases hf : b.funcs[i.toNat]? with
    | none => exact .inr h
    | some f =>
      have hone := (right_spec hb).2.2.2 i.toNat f hf
      refine mblk_sim (ok := fun j => 0 ≤ j ∧ j < b.funcs.length) (fun j m m' hj hz hl => mfun_sim hb n j m m' hj.1 hj.2 hz hl) (fun x hx t ht ho => ?_) (fun j m => mfun_steps n j m) (fun j m => mfun_steps n j m) _ _ _ _ _ _ h0 h (Nat.succ_pos _) (Nat.succ_pos _) ?_ ?_
      · have := (tacIn_of (((one_spec hone).2.2.2 x hx).2 t ht)).call ho
        omega
      · unfold gasOk; omega
      · unfold gasOk; omega
end Go.Proofs.Ytidfabbnobipkaa.Sv
