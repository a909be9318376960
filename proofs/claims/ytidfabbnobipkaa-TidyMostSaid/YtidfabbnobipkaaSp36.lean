/-
  WHAT IS REACHED IS JUST WHAT CAN BE REACHED, IN PLAIN LEAN: own work, over no program.
-/
import Derived.Test.YtidfabbnobipkaaSp34
namespace Go.Proofs.Ytidfabbnobipkaa.Sv
open Go
set_option linter.unusedVariables false
set_option linter.unusedSimpArgs false

inductive Reaches (next : List (List Int)) : Int → Prop
  | zero : Reaches next 0
  | step (k t : Int) : Reaches next k → t ∈ rowAt next k → Reaches next t
/-- nothing else is marked -/
structure DOnly (next : List (List Int)) (s : DS) : Prop where
  been : ∀ k, isBeen s.been k → Reaches next k
  way : ∀ p ∈ s.way, Reaches next p.1
theorem dinto_only {next : List (List Int)} {b : Int} {s : DS} (hb : Reaches next b) (h : DOnly next s) : DOnly next (dinto b s) := by
  unfold dinto
  cases e : notBeen s.been b with
  | false => exact h
  | true =>
    obtain ⟨h1, h2, h3⟩ := notBeen_get e
    simp only [cond_true]
    refine ⟨fun k hk => ?_, fun p hp => ?_⟩
    · obtain ⟨k1, k2⟩ := hk
      rw [List.getElem?_set] at k2
      by_cases hh : b.toNat = k.toNat
      · have : k = b := by omega
        rw [this]; exact hb
      · rw [if_neg hh] at k2
        exact h.been k ⟨k1, k2⟩
    · simp only [List.mem_append, List.mem_singleton] at hp
      rcases hp with hp | rfl
      · exact h.way p hp
      · exact hb
theorem dstep_only {next : List (List Int)} {s : DS} (hok : s.ok next) (h : DOnly next s) : DOnly next (dstep next s) := by
  unfold dstep
  split
  · exact h
  · rename_i b i e
    have hw := way_last e
    have hmem : (b, i) ∈ s.way := by rw [hw]; simp
    have hb := hok.way (b, i) hmem
    simp only at hb
    cases hi : decide (i < (rowAt next b).length) with
    | false => exact ⟨h.been, fun p hp => h.way p (List.dropLast_subset _ hp)⟩
    | true =>
      have hi' : i < (rowAt next b).length := by simpa using hi
      obtain ⟨t0, ht0⟩ := get_of_lt (l := rowAt next b) (k := i.toNat) (by omega)
      simp only [cond_true, ht0, Option.getD_some]
      refine dinto_only (.step b t0 (h.way _ hmem) (List.mem_of_getElem? ht0)) ⟨h.been, fun p hp => ?_⟩
      simp only [List.mem_append, List.mem_singleton] at hp
      rcases hp with hp | rfl
      · exact h.way p (List.dropLast_subset _ hp)
      · exact h.way (b, i) hmem
theorem drun_only {next : List (List Int)} : ∀ (g : Nat) (s : DS), s.ok next → DOnly next s → DOnly next (drun next g s)
  | 0, _, _, h => h
  | g + 1, s, hok, h => by
    unfold drun
    split
    · exact h
    · exact drun_only g _ (dstep_ok hok) (dstep_only hok h)
theorem reach_iff {next : List (List Int)} (hn : next ≠ []) (hlead : ∀ l ∈ next, ∀ t ∈ l, 0 ≤ t ∧ t < next.length) (k : Int) : isBeen (dreach next (List.replicate next.length false)) k ↔ Reaches next k := by
  obtain ⟨r0, rc⟩ := reach_closed hn hlead
  constructor
  · intro hk
    have hok0 : (DS.mk (List.replicate next.length false) []).ok next := ⟨by simp, fun p hp => by cases hp⟩
    have h0 : DOnly next (DS.mk (List.replicate next.length false) []) := ⟨fun k hk => (by
      have h2 : (List.replicate next.length false)[k.toNat]? = some true := hk.2
      have := List.eq_of_mem_replicate (List.mem_of_getElem? h2)
      cases this), fun p hp => (by cases hp)⟩
    exact (drun_only _ _ (dinto_ok hok0) (dinto_only .zero h0)).been k hk
  · intro hk
    induction hk with
    | zero => exact r0
    | step k t _ ht ih => exact rc k ih t ht
/-- two markings that mark the same are the same -/
theorem marks_ext {a b : List Bool} (hl : a.length = b.length) (h : ∀ k : Int, isBeen a k ↔ isBeen b k) : a = b := by
  apply List.ext_getElem?
  intro i
  by_cases hi : i < a.length
  · obtain ⟨x, hx⟩ := get_of_lt hi
    obtain ⟨y, hy⟩ := get_of_lt (l := b) (k := i) (by omega)
    have := h (i : Int)
    simp only [isBeen, Int.toNat_natCast, hx, hy] at this
    rw [hx, hy]
    have h0 : (0 : Int) ≤ (i : Int) := by omega
    cases x <;> cases y <;> simp_all
  · rw [List.getElem?_eq_none (by omega), List.getElem?_eq_none (by omega)]
/-- whoever is reached is the first one, or follows one that is reached -/
theorem reaches_pred {next : List (List Int)} {k : Int} (h : Reaches next k) : k = 0 ∨ ∃ l, Reaches next l ∧ k ∈ rowAt next l := by
  cases h with
  | zero => exact .inl rfl
  | step l _ h1 h2 => exact .inr ⟨l, h1, h2⟩
end Go.Proofs.Ytidfabbnobipkaa.Sv
