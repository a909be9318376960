/-
  THE JUDGEMENT ON CODE, AND ITS RULES FOR THE STRUCTURE OF CODE: own work, over no program.
-/
import Derived.Test.YtidfabbnobipkaaSv2
namespace Go.Proofs.Ytidfabbnobipkaa.Sv
open Go
set_option linter.unusedVariables false
set_option linter.unusedSimpArgs false

structure Sim (H : Know) (ι : Lay) (s : AState) (a : Act) (w : World) : Prop where
  n : a.tmps.size = s.n
  d : a.defers = []
  env : ∀ t x, s.env t = some x → ∃ v, a.tmps[t]? = some v ∧ Rel H ι x v
  heap : HeapRel H ι s.h w

/-- What stands behind. -/
def Post (H : Know) (ι : Lay) (h : AHeap) (w : World) (Q : Exit → AState → Prop) : Exit → Act → World → Prop := fun e a' w' =>
  ∃ s' H' ι', Q e s' ∧ Sim H' ι' s' a' w' ∧ Step H ι h w H' ι' s'.h w'

def AGo (P : Program) (c : Code) (s : AState) (Q : Exit → AState → Prop) : Prop :=
  ∀ H ι a w, Sim H ι s a w → c.wp P (Post H ι s.h w Q) a w

section
variable {P : Program} {Q : Exit → AState → Prop} {s : AState}

theorem Post.mono {H : Know} {ι : Lay} {h : AHeap} {w : World} {Q Q' : Exit → AState → Prop} {e : Exit} {a : Act} {w' : World} (hp : Post H ι h w Q e a w') (hq : ∀ s, Q e s → Q' e s) : Post H ι h w Q' e a w' := by
  obtain ⟨s', H', ι', q, r⟩ := hp
  exact ⟨s', H', ι', hq _ q, r⟩

theorem Post.step {H : Know} {ι : Lay} {h : AHeap} {w : World} {H' : Know} {ι' : Lay} {h' : AHeap} {w' : World} (hr : HeapRel H ι h w) (hr' : HeapRel H' ι' h' w') (st : Step H ι h w H' ι' h' w')
    {Q : Exit → AState → Prop} {e : Exit} {a : Act} {w'' : World} (hp : Post H' ι' h' w' Q e a w'') : Post H ι h w Q e a w'' := by
  obtain ⟨s', H'', ι'', q, r, t⟩ := hp
  exact ⟨s', H'', ι'', q, r, st.trans hr hr' t⟩

theorem AGo.mono {c : Code} {Q' : Exit → AState → Prop} (h : AGo P c s Q) (hq : ∀ e s, Q e s → Q' e s) : AGo P c s Q' :=
  fun H ι a w hs => wp_mono (h H ι a w hs) fun e a' w' hp => hp.mono (hq e)

theorem AGo.skip (h : Q .normal s) : AGo P .skip s Q := fun H ι a w hs => wp_skip ⟨s, H, ι, h, hs, Step.refl _ _ _ _⟩
theorem AGo.exit {id : Nat} (h : Q (.exit id) s) : AGo P (.exit id) s Q := fun H ι a w hs => wp_exit ⟨s, H, ι, h, hs, Step.refl _ _ _ _⟩
theorem AGo.ret (h : Q .ret s) : AGo P .ret s Q := fun H ι a w hs => wp_ret ⟨s, H, ι, h, hs, Step.refl _ _ _ _⟩
theorem AGo.label {l : Nat} (h : Q .normal s) : AGo P (.label l) s Q := fun H ι a w hs => wp_label ⟨s, H, ι, h, hs, Step.refl _ _ _ _⟩

/-- normal goes on, all else leaves. -/
def Then (K : AState → Prop) (Q : Exit → AState → Prop) : Exit → AState → Prop
  | .normal, s => K s
  | e, s => Q e s

theorem AGo.seq {x y : Code} (h : AGo P x s (Then (fun s' => AGo P y s' Q) Q)) : AGo P (.seq x y) s Q := by
  intro H ι a w hs
  refine wp_seq (wp_mono (h H ι a w hs) fun e a' w' hp => ?_)
  cases e with
  | normal =>
    obtain ⟨s', H', ι', q, r, t⟩ := hp
    exact wp_mono (q H' ι' a' w' r) fun e a'' w'' hp' => Post.step hs.heap r.heap t hp'
  | _ => exact hp

theorem AGo.cond {c : Operand} {x y : Code} {t : Nat} {b : Bool} (hc : c = .tmp t) (he : s.env t = some (.bool b)) (h1 : b = true → AGo P x s Q) (h2 : b = false → AGo P y s Q) : AGo P (.cond c x y) s Q := by
  intro H ι a w hs
  subst hc
  obtain ⟨v, hv, hr⟩ := hs.env t _ he
  cases hr
  have hev : a.eval (.tmp t) = .bool b := by simp [Act.eval, hv]
  exact wp_cond_split hev (fun e => h1 e H ι a w hs) (fun e => h2 e H ι a w hs)

theorem AGo.cond_true {t : Nat} {x y : Code} (b : Bool) (he : s.env t = some (.bool b)) (hb : b = true) (h : AGo P x s Q) : AGo P (.cond (.tmp t) x y) s Q :=
  AGo.cond rfl he (fun _ => h) (fun h2 => by rw [hb] at h2; cases h2)
theorem AGo.cond_false {t : Nat} {x y : Code} (b : Bool) (he : s.env t = some (.bool b)) (hb : b = false) (h : AGo P y s Q) : AGo P (.cond (.tmp t) x y) s Q :=
  AGo.cond rfl he (fun h2 => by rw [hb] at h2; cases h2) (fun _ => h)

def InBlock (id : Nat) (Q : Exit → AState → Prop) : Exit → AState → Prop
  | .exit id', s => bif Nat.beq id' id then Q .normal s else Q (.exit id') s
  | e, s => Q e s

theorem AGo.block {id : Nat} {c : Code} (h : AGo P c s (InBlock id Q)) : AGo P (.block id c) s Q := by
  intro H ι a w hs
  refine wp_block (wp_mono (h H ι a w hs) fun e a' w' hp => ?_)
  cases e with
  | exit id' =>
    obtain ⟨s', H', ι', q, r⟩ := hp
    simp only [Exit.inBlock]
    simp only [InBlock] at q
    by_cases hid : id' = id
    · subst hid
      simp only [Nat.beq_refl, cond_true] at q
      rw [if_pos rfl]
      exact ⟨s', H', ι', q, r⟩
    · rw [if_neg hid]
      rw [beq_false_of_ne hid] at q
      exact ⟨s', H', ι', q, r⟩
  | _ => exact hp

theorem AGo.loop {γ : Type} {c : Code} (I : γ → AState → Prop) (μ : γ → Nat) (g0 : γ) (h0 : I g0 s)
    (round : ∀ g s, I g s → AGo P c s (Then (fun s' => ∃ g', I g' s' ∧ μ g' < μ g) Q)) : AGo P (.loop c) s Q := by
  intro H ι a w hs b k cs
  have key : ∀ n g s1 H1 ι1 a1 w1, μ g = n → I g s1 → Sim H1 ι1 s1 a1 w1 → Step H ι s.h w H1 ι1 s1.h w1 →
      ∃ e a' w', Post H ι s.h w Q e a' w' ∧ Arrives P (lone (b.at a1 (.code c :: .inLoop c :: k)) cs w1) b k cs e a' w' := by
    intro n
    induction n using Nat.strongRecOn with
    | _ n ih =>
      intro g s1 H1 ι1 a1 w1 hn hI hs1 hst
      obtain ⟨e, a₂, w₂, hq, harr⟩ := round g s1 hI H1 ι1 a1 w1 hs1 b (.inLoop c :: k) cs
      obtain ⟨s2, H2, ι2, q, r, t⟩ := hq
      have t' := hst.trans hs.heap hs1.heap t
      cases e with
      | normal =>
        obtain ⟨g', hI', hlt⟩ := q
        obtain ⟨e₂, a₃, w₃, hq₂, harr₂⟩ := ih (μ g') (hn ▸ hlt) g' s2 H2 ι2 a₂ w₂ rfl hI' r t'
        exact ⟨e₂, a₃, w₃, hq₂, .of_steps (Steps.trans harr (.one step_inLoop)) harr₂⟩
      | exit id => exact ⟨_, a₂, w₂, ⟨s2, H2, ι2, q, r, t'⟩, .pass (x := .inLoop c) rfl (fun _ _ => .inl (by simp)) harr⟩
      | goto l => exact ⟨_, a₂, w₂, ⟨s2, H2, ι2, q, r, t'⟩, .pass (x := .inLoop c) rfl (fun _ _ => .inl (by simp)) harr⟩
      | ret => exact ⟨_, a₂, w₂, ⟨s2, H2, ι2, q, r, t'⟩, .pass (x := .inLoop c) rfl (fun _ _ => .inl (by simp)) harr⟩
      | panic ch => exact ⟨_, a₂, w₂, ⟨s2, H2, ι2, q, r, t'⟩, .pass (x := .inLoop c) rfl (fun _ _ => .inl (by simp)) harr⟩
      | outgrown => exact ⟨_, a₂, w₂, ⟨s2, H2, ι2, q, r, t'⟩, .pass (x := .inLoop c) rfl (fun _ _ => .inl (by simp)) harr⟩
  obtain ⟨e, a', w', hq, harr⟩ := key _ g0 s H ι a w rfl h0 hs (Step.refl _ _ _ _)
  exact ⟨e, a', w', hq, .of_steps (.one step_loop) harr⟩

/-- Less known, less owned: serves as well. -/
def Sub (s s' : AState) : Prop := s.n = s'.n ∧ (∀ t x, s.env t = some x → s'.env t = some x) ∧ (∀ b o, s.h b = some o → s'.h b = some o)

theorem HeapRel.sub {H : Know} {ι : Lay} {h h' : AHeap} {w : World} (hr : HeapRel H ι h' w) (hs : ∀ b o, h b = some o → h' b = some o) : HeapRel H ι h w where
  know := hr.know
  free := fun b e => hr.free b (hs _ _ e)
  obj := fun b o e ea => hr.obj b o (hs _ _ e) ea
  inj := fun b b' o o' r r' h1 h2 h3 h4 => hr.inj b b' o o' r r' (hs _ _ h1) h2 (hs _ _ h3) h4

theorem Sim.sub {H : Know} {ι : Lay} {s s' : AState} {a : Act} {w : World} (h : Sim H ι s' a w) (hs : Sub s s') : Sim H ι s a w where
  n := h.n.trans hs.1.symm
  d := h.d
  env := fun t x e => h.env t x (hs.2.1 t x e)
  heap := h.heap.sub hs.2.2

end
end Go.Proofs.Ytidfabbnobipkaa.Sv
