/-
  REGIONS: operations one behind the other; and operations whose order is drawn: own work, over no program.
-/
import Derived.Test.YtidfabbnobipkaaSv10
import Derived.Tactics
namespace Go.Proofs.Ytidfabbnobipkaa.Sv
open Go
set_option linter.unusedVariables false
set_option linter.unusedSimpArgs false

def eupd (e : AEnv) (d : Option Tmp) (r : Option AV) : AEnv :=
  match d, r with
  | some t, some x => eput e t x
  | some t, none => edel e t
  | none, _ => e

theorem Sim.put {H : Know} {ι : Lay} {s : AState} {a : Act} {w : World} (hs : Sim H ι s a w) {H' : Know} {ι' : Lay} {h' : AHeap} {w' : World} (hr : HeapRel H' ι' h' w') (hst : Step H ι s.h w H' ι' h' w') {d : Option Tmp} {r : Option AV} {v : Value} (hv : ∀ x, r = some x → Rel H' ι' x v)
    (hd : ∀ t, d = some t → t < s.n) : Sim H' ι' ⟨s.n, eupd s.env d r, h'⟩ (a.put d v) w' where
  n := by cases d <;> simp [Act.put, hs.n]
  d := by cases d <;> exact hs.d
  env := fun t x hx => by
    have hold : ∀ {y}, s.env t = some y → ∃ v, a.tmps[t]? = some v ∧ Rel H' ι' y v := fun hy => by
      obtain ⟨v, h1, h2⟩ := hs.env t _ hy
      exact ⟨v, h1, h2.mono hst.kle hst.lle⟩
    cases d with
    | none => exact hold hx
    | some u =>
      by_cases htu : t = u
      · subst htu
        cases r with
        | none => simp only [eupd, edel_same] at hx; cases hx
        | some y =>
          simp only [eupd, eput_same] at hx
          cases hx
          exact ⟨v, by simp [Act.put, hs.n, hd t rfl], hv _ rfl⟩
      · have h1 : (a.put (some u) v).tmps[t]? = a.tmps[t]? := by simp [Act.put, Array.getElem?_setIfInBounds_ne (Ne.symm htu)]
        rw [h1]
        cases r with
        | none => simp only [eupd, edel_ne _ htu] at hx; exact hold hx
        | some y => simp only [eupd, eput_ne _ _ htu] at hx; exact hold hx
  heap := hr

theorem Sim.del {H : Know} {ι : Lay} {s : AState} {a : Act} {w : World} (hs : Sim H ι s a w) {d : Option Tmp} (hd : ∀ t, d = some t → t < s.n) : Sim H ι ⟨s.n, eupd s.env d none, s.h⟩ (a.put d undef) w :=
  hs.put hs.heap (Step.refl _ _ _ _) (fun x e => by cases e) hd

/-! ### in order -/
def AOps (P : Program) (ops : Array Oper) (l : List Oper) (s : AState) (K : AState → Prop) : Prop :=
  ∀ H ι a w, Sim H ι s a w → wpList P ops (Post H ι s.h w (Then K fun _ _ => False)) l a w

/-- The guard, as the state has it. -/
def guardIs (ops : Array Oper) (o : Oper) (e : AEnv) : Option Bool :=
  match o.guard with
  | none => some true
  | some (j, want) => match (ops[j]?).bind (·.dst) with
    | some d => match e d with
      | some (.bool b) => some (b == want)
      | some (.tup []) => some false
      | _ => none
    | none => none

theorem guard_wanted {ops : Array Oper} {o : Oper} {H : Know} {ι : Lay} {s : AState} {a : Act} {w : World} (hs : Sim H ι s a w) {b : Bool} (hg : guardIs ops o s.env = some b) : Region.wanted o (yielded ops a.tmps) = b := by
  unfold guardIs at hg
  unfold Region.wanted
  cases e : o.guard with
  | none => rw [e] at hg; simp at hg; simp [hg]
  | some jw =>
    obtain ⟨j, want⟩ := jw
    rw [e] at hg
    simp only at hg ⊢
    unfold yielded
    cases ed : (ops[j]?).bind (·.dst) with
    | none => rw [ed] at hg; cases hg
    | some d =>
      rw [ed] at hg
      simp only at hg
      simp only [Option.bind_some]
      cases ee : s.env d with
      | none => rw [ee] at hg; cases hg
      | some x =>
        obtain ⟨v, h1, h2⟩ := hs.env d x ee
        rw [ee] at hg
        cases x with
        | bool c =>
          simp only [Option.some.injEq] at hg
          rw [h1, h2.bool_inv]
          subst hg
          cases c <;> cases want <;> rfl
        | tup vs =>
          cases vs with
          | nil =>
            simp only [Option.some.injEq] at hg
            obtain ⟨us, hus, hl, _⟩ := h2.tup_inv
            rw [h1, hus]
            subst hg
            cases want <;> rfl
          | cons => cases hg
        | _ => cases hg

section
variable {P : Program} {ops : Array Oper} {s : AState} {K : AState → Prop} {o : Oper} {rest : List Oper}

theorem AOps.nil (h : K s) : AOps P ops [] s K := fun H ι a w hs => ⟨s, H, ι, h, hs, Step.refl _ _ _ _⟩

theorem AOps.step' {R : List Nat} {W : List (Nat × AObj)} {r : Option AV} (hg : guardIs ops o s.env = some true) (ho : OLoc P o s.env s.h R W r) (hd : ∀ t, o.dst = some t → t < s.n) (h : AOps P ops rest ⟨s.n, eupd s.env o.dst r, hputs s.h W⟩ K) :
    AOps P ops (o :: rest) s K := by
  intro H ι a w hs
  unfold wpList
  rw [guard_wanted hs hg]
  simp only [if_true]
  refine .inl (Oper.wp_mono (fun a' w' hx => ?_) (ho H ι a w s _ hs (fun _ _ => rfl) (fun _ _ => rfl)))
  obtain ⟨v, H', ι', rfl, h1, h2, h3⟩ := hx
  have hs' := hs.put h2 h3 h1 hd
  have := h H' ι' _ w' hs'
  -- the post, from the earlier world on
  have key : ∀ (l : List Oper) (a1 : Act) (w1 : World), wpList P ops (Post H' ι' (hputs s.h W) w' (Then K fun _ _ => False)) l a1 w1 → wpList P ops (Post H ι s.h w (Then K fun _ _ => False)) l a1 w1 := by
    have hpost : ∀ e a2 w2, Post H' ι' (hputs s.h W) w' (Then K fun _ _ => False) e a2 w2 → Post H ι s.h w (Then K fun _ _ => False) e a2 w2 := fun e a2 w2 hp => Post.step hs.heap h2 h3 hp
    intro l
    induction l with
    | nil => exact fun a1 w1 hp => hpost _ _ _ hp
    | cons o' l ih =>
      intro a1 w1 hp
      unfold wpList at hp ⊢
      by_cases hw : Region.wanted o' (yielded ops a1.tmps) = true
      · rw [if_pos hw] at hp ⊢
        rcases hp with hp | ⟨hp1, a2, w2, hp2⟩
        · refine .inl ?_
          have hp' := Oper.wp_mono (fun a2 w2 => ih a2 w2) hp
          clear hp
          unfold Oper.wp at hp' ⊢
          generalize (execOp a1.eval o').run P w1 = res at hp' ⊢
          cases res with
          | ok n w3 =>
            cases n <;> simp only [Oper.upon] at hp' ⊢ <;> first
              | exact hp'
              | exact Calls.mono hp' (fun e w4 he => by cases e <;> first | exact he | exact hpost _ _ _ he | (obtain ⟨a3, w5, hp3⟩ := he; exact ⟨a3, w5, hpost _ _ _ hp3⟩))
          | halt x w3 => cases x <;> simp only [Oper.upon] at hp' ⊢ <;> first | exact hpost _ _ _ hp' | exact hp'
        · exact .inr ⟨hp1, a2, w2, hpost _ _ _ hp2⟩
      · rw [if_neg hw] at hp ⊢
        exact ih _ _ hp
  exact key _ _ _ this

theorem AOps.skip (hg : guardIs ops o s.env = some false) (hd : ∀ t, o.dst = some t → t < s.n) (h : AOps P ops rest ⟨s.n, eupd s.env o.dst none, s.h⟩ K) : AOps P ops (o :: rest) s K := by
  intro H ι a w hs
  unfold wpList
  rw [guard_wanted hs hg]
  simp only [Bool.false_eq_true, if_false]
  exact h H ι _ w (hs.del hd)

theorem AOps.skip2 (hg : guardIs ops o s.env = some false) (hd : ∀ t, o.dst = some t → t < s.n) (h : AOps P ops rest ⟨s.n, eupd s.env o.dst (some (.tup [])), s.h⟩ K) : AOps P ops (o :: rest) s K := by
  intro H ι a w hs
  unfold wpList
  rw [guard_wanted hs hg]
  simp only [Bool.false_eq_true, if_false]
  exact h H ι _ w (hs.put hs.heap (Step.refl _ _ _ _) (fun x e => by cases e; exact .tup _ _ _ rfl (fun j x v h => by simp at h)) hd)

theorem AGo.region {id : Nat} {ops : Array Oper} {Q : Exit → AState → Prop} (h : AOps P ops ops.toList s (fun s' => Q .normal s')) : AGo P (.region id ops false) s Q := fun H ι a w hs =>
  wp_region_list (by
    have := h H ι a w hs
    have hpost : ∀ e a2 w2, Post H ι s.h w (Then (fun s' => Q .normal s') fun _ _ => False) e a2 w2 → Post H ι s.h w Q e a2 w2 := fun e a2 w2 hp => by
      obtain ⟨s', H', ι', q, r⟩ := hp
      cases e <;> first | exact ⟨s', H', ι', q, r⟩ | exact q.elim
    revert this
    generalize ops.toList = l
    generalize a = a1
    suffices hh : ∀ (l : List Oper) (a1 : Act) (w1 : World), wpList P ops (Post H ι s.h w (Then (fun s' => Q .normal s') fun _ _ => False)) l a1 w1 → wpList P ops (Post H ι s.h w Q) l a1 w1 from hh l a1 w
    intro l
    induction l with
    | nil => exact fun a1 w1 hp => hpost _ _ _ hp
    | cons o' l ih =>
      intro a1 w1 hp
      unfold wpList at hp ⊢
      by_cases hw : Region.wanted o' (yielded ops a1.tmps) = true
      · rw [if_pos hw] at hp ⊢
        rcases hp with hp | ⟨hp1, a2, w2, hp2⟩
        · refine .inl ?_
          have hp' := Oper.wp_mono (fun a2 w2 => ih a2 w2) hp
          clear hp
          unfold Oper.wp at hp' ⊢
          generalize (execOp a1.eval o').run P w1 = res at hp' ⊢
          cases res with
          | ok n w3 =>
            cases n <;> simp only [Oper.upon] at hp' ⊢ <;> first
              | exact hp'
              | exact Calls.mono hp' (fun e w4 he => by cases e <;> first | exact he | exact hpost _ _ _ he | (obtain ⟨a3, w5, hp3⟩ := he; exact ⟨a3, w5, hpost _ _ _ hp3⟩))
          | halt x w3 => cases x <;> simp only [Oper.upon] at hp' ⊢ <;> first | exact hpost _ _ _ hp' | exact hp'
        · exact .inr ⟨hp1, a2, w2, hpost _ _ _ hp2⟩
      · rw [if_neg hw] at hp ⊢
        exact ih _ _ hp)

end
end Go.Proofs.Ytidfabbnobipkaa.Sv
