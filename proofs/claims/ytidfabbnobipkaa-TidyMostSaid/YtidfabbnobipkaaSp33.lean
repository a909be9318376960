/-
  WHAT IS TIDIED HOLDS, IN PLAIN LEAN (1): what is reached is closed; ways are counted: own work, over no program.
-/
import Derived.Test.YtidfabbnobipkaaSp29
namespace Go.Proofs.Ytidfabbnobipkaa.Sv
open Go
set_option linter.unusedVariables false
set_option linter.unusedSimpArgs false

/-! ### what is reached -/
def isBeen (l : List Bool) (k : Int) : Prop := 0 ≤ k ∧ l[k.toNat]? = some true
structure DInv (next : List (List Int)) (s : DS) : Prop where
  seen : ∀ p ∈ s.way, ∀ (j : Nat) (t : Int), (j : Int) < p.2 → (rowAt next p.1)[j]? = some t → isBeen s.been t
  all : ∀ k, isBeen s.been k → (∀ t ∈ rowAt next k, isBeen s.been t) ∨ ∃ i, (k, i) ∈ s.way
theorem dinto_been {b : Int} {s : DS} {k : Int} (h : isBeen s.been k) : isBeen (dinto b s).been k := by
  unfold dinto
  cases e : notBeen s.been b with
  | false => exact h
  | true =>
    obtain ⟨h1, h2, h3⟩ := notBeen_get e
    refine ⟨h.1, ?_⟩
    simp only [cond_true]
    rw [List.getElem?_set]
    split
    · rename_i hh
      rw [if_pos (by omega)]
    · exact h.2
theorem dinto_self {b : Int} {s : DS} (h : 0 ≤ b ∧ b < s.been.length) : isBeen (dinto b s).been b := by
  unfold dinto
  cases e : notBeen s.been b with
  | true =>
    refine ⟨h.1, ?_⟩
    simp only [cond_true]
    rw [List.getElem?_set_self (by omega)]
  | false =>
    obtain ⟨v, hv⟩ := get_of_lt (l := s.been) (k := b.toNat) (by omega)
    refine ⟨h.1, ?_⟩
    simp only [cond_false]
    simp only [notBeen, hv, decide_eq_true h.1, decide_eq_true h.2, Option.getD_some] at e
    rw [hv]
    have : (decide (b ≥ 0)) = true := decide_eq_true h.1
    simp [this] at e
    rw [e]
theorem dinto_inv {next : List (List Int)} {b : Int} {s : DS} (h : DInv next s) : DInv next (dinto b s) := by
  refine ⟨fun p hp j t hj ht => ?_, fun k hk => ?_⟩
  · have hp' : p ∈ s.way ∨ p = (b, 0) := by
      unfold dinto at hp
      cases e : notBeen s.been b with
      | false => rw [e] at hp; exact .inl hp
      | true =>
        rw [e] at hp
        simp only [cond_true, List.mem_append, List.mem_singleton] at hp
        exact hp
    rcases hp' with hp' | rfl
    · exact dinto_been (h.seen p hp' j t hj ht)
    · simp only at hj; omega
  · by_cases hold : isBeen s.been k
    · rcases h.all k hold with h1 | ⟨i, h1⟩
      · exact .inl fun t ht => dinto_been (h1 t ht)
      · refine .inr ⟨i, ?_⟩
        unfold dinto
        cases notBeen s.been b with
        | false => exact h1
        | true => simp only [cond_true]; exact List.mem_append_left _ h1
    · right
      unfold dinto at hk ⊢
      cases e : notBeen s.been b with
      | false => rw [e] at hk; exact absurd hk hold
      | true =>
        rw [e] at hk
        simp only [cond_true] at hk ⊢
        obtain ⟨k1, k2⟩ := hk
        obtain ⟨h1, h2, h3⟩ := notBeen_get e
        rw [List.getElem?_set] at k2
        by_cases hh : b.toNat = k.toNat
        · have : k = b := by omega
          subst this
          exact ⟨0, by simp⟩
        · rw [if_neg hh] at k2
          exact absurd ⟨k1, k2⟩ hold
theorem dstep_inv {next : List (List Int)} {s : DS} (hok : s.ok next) (hlead : ∀ l ∈ next, ∀ t ∈ l, 0 ≤ t ∧ t < next.length) (h : DInv next s) : DInv next (dstep next s) := by
  unfold dstep
  split
  · exact h
  · rename_i b i e
    have hw := way_last e
    have hmem : (b, i) ∈ s.way := by rw [hw]; simp
    have hb := hok.way (b, i) hmem
    simp only at hb
    cases hi : decide (i < (rowAt next b).length) with
    | false =>
      have hi' : ¬ i < (rowAt next b).length := by simpa using hi
      simp only [cond_false]
      refine ⟨fun p hp => h.seen p (List.dropLast_subset _ hp), fun k hk => ?_⟩
      rcases h.all k hk with h1 | ⟨j, h1⟩
      · exact .inl h1
      · rw [hw] at h1
        rcases List.mem_append.1 h1 with h1 | h1
        · exact .inr ⟨j, h1⟩
        · simp only [List.mem_singleton, Prod.mk.injEq] at h1
          obtain ⟨rfl, rfl⟩ := h1
          left
          intro t ht
          obtain ⟨x, hx⟩ := List.getElem?_of_mem ht
          have hxl := (List.getElem?_eq_some_iff.1 hx).1
          exact h.seen (k, j) hmem x t (by simp only; omega) hx
    | true =>
      have hi' : i < (rowAt next b).length := by simpa using hi
      obtain ⟨t0, ht0⟩ := get_of_lt (l := rowAt next b) (k := i.toNat) (by omega)
      have hrow : rowAt next b ∈ next := by
        obtain ⟨l, hl⟩ := get_of_lt (l := next) (k := b.toNat) (by omega)
        rw [rowAt, hl]; exact List.mem_of_getElem? hl
      have ht0r := hlead _ hrow t0 (List.mem_of_getElem? ht0)
      simp only [cond_true, ht0, Option.getD_some]
      -- the way with one more looked at, where that one is been already
      have key : DInv next ⟨(dinto t0 ⟨s.been, s.way.dropLast ++ [(b, i + 1)]⟩).been, (dinto t0 ⟨s.been, s.way.dropLast ++ [(b, i + 1)]⟩).way⟩ := by
        have hself : isBeen (dinto t0 ⟨s.been, s.way.dropLast ++ [(b, i + 1)]⟩).been t0 := dinto_self (by show 0 ≤ t0 ∧ t0 < s.been.length; rw [hok.len]; exact ht0r)
        have hbeen : ∀ {k}, isBeen s.been k → isBeen (dinto t0 ⟨s.been, s.way.dropLast ++ [(b, i + 1)]⟩).been k := fun hk => dinto_been (s := ⟨s.been, s.way.dropLast ++ [(b, i + 1)]⟩) hk
        have hway : ∀ p ∈ (dinto t0 ⟨s.been, s.way.dropLast ++ [(b, i + 1)]⟩).way, p ∈ s.way.dropLast ∨ p = (b, i + 1) ∨ p = (t0, 0) := fun p hp => by
          unfold dinto at hp
          cases e2 : notBeen s.been t0 with
          | false => rw [e2] at hp; simp only [cond_false, List.mem_append, List.mem_singleton] at hp; rcases hp with hp | hp <;> simp [hp]
          | true => rw [e2] at hp; simp only [cond_true, List.mem_append, List.mem_singleton] at hp; rcases hp with (hp | hp) | hp <;> simp [hp]
        have hway2 : ∀ p, p ∈ s.way.dropLast ∨ p = (b, i + 1) → p ∈ (dinto t0 ⟨s.been, s.way.dropLast ++ [(b, i + 1)]⟩).way := fun p hp => by
          unfold dinto
          cases notBeen s.been t0 <;> simp only [cond_true, cond_false, List.mem_append, List.mem_singleton] <;> rcases hp with hp | hp <;> simp [hp]
        refine ⟨fun p hp j t hj ht => ?_, fun k hk => ?_⟩
        · rcases hway p hp with hp | rfl | rfl
          · exact hbeen (h.seen p (List.dropLast_subset _ hp) j t hj ht)
          · simp only at hj ht
            by_cases hji : (j : Int) < i
            · exact hbeen (h.seen (b, i) hmem j t hji ht)
            · have : j = i.toNat := by omega
              subst this
              rw [ht0] at ht
              cases ht
              exact hself
          · simp only at hj; omega
        · by_cases hold : isBeen s.been k
          · rcases h.all k hold with h1 | ⟨j, h1⟩
            · exact .inl fun t ht => hbeen (h1 t ht)
            · right
              rw [hw] at h1
              rcases List.mem_append.1 h1 with h1 | h1
              · exact ⟨j, hway2 _ (.inl h1)⟩
              · simp only [List.mem_singleton, Prod.mk.injEq] at h1
                obtain ⟨rfl, rfl⟩ := h1
                exact ⟨_, hway2 _ (.inr rfl)⟩
          · right
            unfold dinto at hk ⊢
            cases e2 : notBeen s.been t0 with
            | false => rw [e2] at hk; exact absurd hk hold
            | true =>
              rw [e2] at hk
              simp only [cond_true] at hk ⊢
              obtain ⟨k1, k2⟩ := hk
              rw [List.getElem?_set] at k2
              by_cases hh : t0.toNat = k.toNat
              · have : k = t0 := by omega
                subst this
                exact ⟨0, by simp⟩
              · rw [if_neg hh] at k2
                exact absurd ⟨k1, k2⟩ hold
      exact key
theorem drun_inv {next : List (List Int)} (hlead : ∀ l ∈ next, ∀ t ∈ l, 0 ≤ t ∧ t < next.length) : ∀ (g : Nat) (s : DS), s.ok next → DInv next s → dmu next s < g → DInv next (drun next g s) ∧ (drun next g s).way = []
  | 0, _, _, _, h => absurd h (by omega)
  | g + 1, s, hok, h, hg => by
    by_cases hne : s.way = []
    · rw [drun_end hne]; exact ⟨h, hne⟩
    · rw [drun_step hne]
      have := dstep_mu hok hne
      exact drun_inv hlead g _ (dstep_ok hok) (dstep_inv hok hlead h) (by omega)
theorem drun_been {next : List (List Int)} {k : Int} : ∀ (g : Nat) (s : DS), isBeen s.been k → isBeen (drun next g s).been k
  | 0, _, h => h
  | g + 1, s, h => by
    unfold drun
    split
    · exact h
    · refine drun_been g _ ?_
      unfold dstep
      split
      · exact h
      · rename_i b i e
        cases decide (i < ((rowAt next b).length : Int)) with
        | true => exact dinto_been (s := ⟨s.been, s.way.dropLast ++ [(b, i + 1)]⟩) h
        | false => exact h
/-- what is reached: the first one, and what follows -/
theorem reach_closed {next : List (List Int)} (hn : next ≠ []) (hlead : ∀ l ∈ next, ∀ t ∈ l, 0 ≤ t ∧ t < next.length) :
    isBeen (dreach next (List.replicate next.length false)) 0 ∧ ∀ k, isBeen (dreach next (List.replicate next.length false)) k → ∀ t ∈ rowAt next k, isBeen (dreach next (List.replicate next.length false)) t := by
  have hpos := List.length_pos_iff.2 hn
  have hok0 : (DS.mk (List.replicate next.length false) []).ok next := ⟨by simp, fun p hp => by cases hp⟩
  have h0 : DInv next (DS.mk (List.replicate next.length false) []) := ⟨fun p hp => (by cases hp), fun k hk => by
    have h2 : (List.replicate next.length false)[k.toNat]? = some true := hk.2
    have h3 : (true : Bool) ∈ List.replicate next.length false := List.mem_of_getElem? h2
    have := List.eq_of_mem_replicate h3
    cases this⟩
  have key := drun_inv hlead (dmu next (dstart (List.replicate next.length false)) + 1) (dstart (List.replicate next.length false)) (dinto_ok hok0) (dinto_inv h0) (Nat.lt_succ_self _)
  refine ⟨drun_been _ _ (dinto_self (by show (0 : Int) ≤ 0 ∧ (0 : Int) < ((List.replicate next.length false).length : Int); simp; omega)), fun k hk t ht => ?_⟩
  rcases key.1.all k hk with h1 | ⟨i, h1⟩
  · exact h1 t ht
  · rw [key.2] at h1; cases h1
/-! ### ways are counted -/
theorem iget_iset {l : List Int} {z y v : Int} (hz : 0 ≤ z ∧ z < l.length) (hy : 0 ≤ y) : iget (iset l z v) y = bif y == z then v else iget l y := by
  unfold iget iset
  rw [List.getElem?_set]
  by_cases h : y = z
  · subst h
    have : y.toNat < l.length := by omega
    simp [this]
  · have h1 : ¬ z.toNat = y.toNat := by omega
    have h2 : (y == z) = false := by simpa using h
    rw [if_neg h1, h2]; rfl
theorem bumps_count : ∀ (l : List Int) (w : List Int) (k : Int), (∀ t ∈ l, 0 ≤ t ∧ t < w.length) → 0 ≤ k → iget (l.foldl bump w) k = iget w k + (l.count k : Int)
  | [], w, k, _, _ => by simp
  | t :: r, w, k, h, hk => by
    rw [List.foldl_cons, bumps_count r (bump w t) k (fun x hx => by rw [bump_length]; exact h x (by simp [hx])) hk, bump, iget_iset (h t (by simp)) hk, List.count_cons]
    by_cases e : k = t
    · subst e; simp; omega
    · have h1 : (k == t) = false := by simpa using e
      have h2 : (t == k) = false := by simp; exact fun h => e h.symm
      rw [h1, h2]; simp
theorem ways_ge {next : List (List Int)} {reach : List Bool} (hlead : ∀ l ∈ next, ∀ t ∈ l, 0 ≤ t ∧ t < next.length) {k : Int} (hk : 0 ≤ k) : ∀ (m : Nat), m ≤ next.length →
    0 ≤ iget (waysAt next reach m) k ∧ (∀ i, i < m → reach[i]? = some true → k ∈ (next[i]?).getD [] → 1 ≤ iget (waysAt next reach m) k) ∧
    (∀ i j, i < j → j < m → reach[i]? = some true → reach[j]? = some true → k ∈ (next[i]?).getD [] → k ∈ (next[j]?).getD [] → 2 ≤ iget (waysAt next reach m) k)
  | 0, _ => by
    refine ⟨?_, fun i hi => absurd hi (by omega), fun i j hi hj => absurd hj (by omega)⟩
    unfold waysAt iget
    rw [List.getElem?_replicate]
    split <;> simp
  | m + 1, hm => by
    obtain ⟨h0, h1, h2⟩ := ways_ge (reach := reach) hlead hk m (by omega)
    obtain ⟨l, hl⟩ := get_of_lt (l := next) (k := m) (by omega)
    have hlen := waysAt_length next reach m
    have hcount := bumps_count l (waysAt next reach m) k (fun t ht => by rw [hlen]; exact hlead l (List.mem_of_getElem? hl) t ht) hk
    have e : waysAt next reach (m + 1) = bif (reach[m]?).getD false then l.foldl bump (waysAt next reach m) else waysAt next reach m := by
      rw [waysAt, hl]; rfl
    have hge : iget (waysAt next reach m) k ≤ iget (waysAt next reach (m + 1)) k := by
      rw [e]
      cases (reach[m]?).getD false with
      | true => rw [cond_true, hcount]; omega
      | false => exact Int.le_refl _
    have hmk : reach[m]? = some true → k ∈ l → iget (waysAt next reach (m + 1)) k = iget (waysAt next reach m) k + (l.count k : Int) ∧ 1 ≤ l.count k := fun hr hkl => by
      rw [e, hr]
      exact ⟨hcount, List.count_pos_iff.2 hkl⟩
    refine ⟨by omega, fun i hi hr hki => ?_, fun i j hij hj hri hrj hki hkj => ?_⟩
    · by_cases him : i = m
      · subst him
        rw [hl] at hki
        obtain ⟨a, b⟩ := hmk hr hki
        omega
      · have := h1 i (by omega) hr hki
        omega
    · by_cases hjm : j = m
      · subst hjm
        rw [hl] at hkj
        obtain ⟨a, b⟩ := hmk hrj hkj
        have := h1 i (by omega) hri hki
        omega
      · have := h2 i j hij (by omega) hri hrj hki hkj
        omega
end Go.Proofs.Ytidfabbnobipkaa.Sv
