/-
  WHAT TIDYING LEAVES, IN PLAIN LEAN: own work, over no program.
-/
import Derived.Test.YtidfabbnobipkaaSp36
namespace Go.Proofs.Ytidfabbnobipkaa.Sv
open Go
set_option linter.unusedVariables false
set_option linter.unusedSimpArgs false

/-! ### how many ways lead to one -/
def rowN (next : List (List Int)) (m : Nat) : List Int := (next[m]?).getD []
def cntTo (next : List (List Int)) (reach : List Bool) (k : Int) : Nat → Nat
  | 0 => 0
  | m + 1 => cntTo next reach k m + (bif (reach[m]?).getD false then (rowN next m).count k else 0)
theorem ways_cnt {next : List (List Int)} {reach : List Bool} (hlead : ∀ l ∈ next, ∀ t ∈ l, 0 ≤ t ∧ t < next.length) {k : Int} (hk : 0 ≤ k) : ∀ m, m ≤ next.length → iget (waysAt next reach m) k = (cntTo next reach k m : Int)
  | 0, _ => by
    unfold waysAt iget cntTo
    rw [List.getElem?_replicate]
    split <;> simp
  | m + 1, hm => by
    have ih := ways_cnt (reach := reach) hlead hk m (by omega)
    obtain ⟨l, hl⟩ := get_of_lt (l := next) (k := m) (by omega)
    have hlen := waysAt_length next reach m
    have e : waysAt next reach (m + 1) = bif (reach[m]?).getD false then l.foldl bump (waysAt next reach m) else waysAt next reach m := by
      rw [waysAt, hl]; rfl
    have e2 : rowN next m = l := by rw [rowN, hl]; rfl
    rw [e, cntTo, e2]
    cases (reach[m]?).getD false with
    | true => rw [cond_true, cond_true, bumps_count l _ k (fun t ht => by rw [hlen]; exact hlead l (List.mem_of_getElem? hl) t ht) hk, ih]; omega
    | false => rw [cond_false, cond_false, ih]; omega
theorem cnt_le {next : List (List Int)} {reach : List Bool} {k : Int} : ∀ {m i : Nat}, i < m → reach[i]? = some true → (rowN next i).count k ≤ cntTo next reach k m
  | 0, i, h, _ => absurd h (by omega)
  | m + 1, i, h, hr => by
    unfold cntTo
    by_cases him : i = m
    · subst him
      rw [hr]
      simp only [Option.getD_some, cond_true]; omega
    · have := cnt_le (next := next) (k := k) (m := m) (by omega) hr
      omega
theorem cnt_le2 {next : List (List Int)} {reach : List Bool} {k : Int} : ∀ {m i j : Nat}, i < j → j < m → reach[i]? = some true → reach[j]? = some true → (rowN next i).count k + (rowN next j).count k ≤ cntTo next reach k m
  | 0, i, j, _, h, _, _ => absurd h (by omega)
  | m + 1, i, j, hij, h, hri, hrj => by
    unfold cntTo
    by_cases hjm : j = m
    · subst hjm
      have := cnt_le (next := next) (k := k) (m := j) hij hri
      rw [hrj]
      simp only [Option.getD_some, cond_true]; omega
    · have := cnt_le2 (next := next) (k := k) (m := m) hij (by omega) hri hrj
      omega
theorem cnt_pos {next : List (List Int)} {reach : List Bool} {k : Int} : ∀ {m : Nat}, 1 ≤ cntTo next reach k m → ∃ i, i < m ∧ reach[i]? = some true ∧ k ∈ rowN next i
  | 0, h => by simp [cntTo] at h
  | m + 1, h => by
    unfold cntTo at h
    by_cases h1 : 1 ≤ cntTo next reach k m
    · obtain ⟨i, i1, i2, i3⟩ := cnt_pos h1
      exact ⟨i, by omega, i2, i3⟩
    · cases e : reach[m]? with
      | none => rw [e] at h; simp at h; omega
      | some v =>
        cases v with
        | false => rw [e] at h; simp at h; omega
        | true =>
          rw [e] at h
          simp only [Option.getD_some, cond_true] at h
          exact ⟨m, by omega, e, List.count_pos_iff.1 (by omega)⟩
theorem cnt_two {next : List (List Int)} {reach : List Bool} {k : Int} : ∀ {m : Nat}, 2 ≤ cntTo next reach k m →
    (∃ i j, i < j ∧ j < m ∧ reach[i]? = some true ∧ reach[j]? = some true ∧ k ∈ rowN next i ∧ k ∈ rowN next j) ∨ (∃ i, i < m ∧ reach[i]? = some true ∧ 2 ≤ (rowN next i).count k)
  | 0, h => by simp [cntTo] at h
  | m + 1, h => by
    unfold cntTo at h
    by_cases h2 : 2 ≤ cntTo next reach k m
    · rcases cnt_two h2 with ⟨i, j, a, b, c⟩ | ⟨i, a, b⟩
      · exact .inl ⟨i, j, a, by omega, c⟩
      · exact .inr ⟨i, by omega, b⟩
    · have e : reach[m]? = some true := by
        cases e : reach[m]? with
        | none => rw [e] at h; simp at h; omega
        | some v =>
          cases v with
          | false => rw [e] at h; simp at h; omega
          | true => rfl
      rw [e] at h
      simp only [Option.getD_some, cond_true] at h
      by_cases h1 : 1 ≤ cntTo next reach k m
      · obtain ⟨i, i1, i2, i3⟩ := cnt_pos h1
        exact .inl ⟨i, m, i1, by omega, i2, e, i3, List.count_pos_iff.1 (by omega)⟩
      · exact .inr ⟨m, by omega, e, by omega⟩
/-! ### chains -/
theorem lastOf_cons {x y : Int} {r : List Int} : lastOf (x :: y :: r) = lastOf (y :: r) := by simp [lastOf]
theorem chain_stop {tk : List Int} : ∀ (g : Nat) (c x : Int), x ∈ c :: chain tk g c → iget tk x = -1 → x = lastOf (c :: chain tk g c)
  | 0, c, x, hx, _ => by simpa [chain, lastOf] using hx
  | g + 1, c, x, hx, h => by
    unfold chain at hx ⊢
    cases e : iget tk c == -1 with
    | true => rw [e] at hx; simpa [lastOf] using hx
    | false =>
      rw [e] at hx
      simp only [cond_false] at hx ⊢
      rw [lastOf_cons]
      rcases List.mem_cons.1 hx with rfl | hx
      · rw [h] at e; simp at e
      · exact chain_stop g _ x hx h
theorem chain_next {tk : List Int} : ∀ (g : Nat) (c x : Int), ends tk g c = true → x ∈ c :: chain tk g c → iget tk x ≠ -1 → iget tk x ∈ c :: chain tk g c
  | 0, c, x, he, hx, h => by
    simp [chain] at hx
    subst hx
    simp [ends] at he
    exact absurd he h
  | g + 1, c, x, he, hx, h => by
    unfold ends at he
    unfold chain at hx ⊢
    cases e : iget tk c == -1 with
    | true =>
      rw [e] at hx
      simp at hx
      subst hx
      simp at e
      exact absurd e h
    | false =>
      rw [e] at hx he
      simp only [cond_false, Bool.false_or] at hx he ⊢
      rcases List.mem_cons.1 hx with rfl | hx
      · simp
      · exact List.mem_cons_of_mem _ (chain_next g _ x he hx h)
theorem chain_taken {tk : List Int} : ∀ (g : Nat) (c x : Int), x ∈ chain tk g c → ∃ u, u ∈ c :: chain tk g c ∧ iget tk u = x ∧ x ≠ -1
  | 0, c, x, hx => by cases hx
  | g + 1, c, x, hx => by
    unfold chain at hx ⊢
    cases e : iget tk c == -1 with
    | true => rw [e] at hx; cases hx
    | false =>
      rw [e] at hx
      simp only [cond_false] at hx ⊢
      rcases List.mem_cons.1 hx with rfl | hx
      · exact ⟨c, by simp, rfl, by simpa using e⟩
      · obtain ⟨u, u1, u2⟩ := chain_taken g _ x hx
        exact ⟨u, List.mem_cons_of_mem _ u1, u2⟩
section
variable {f : BFunc}
theorem paths_sorted (f : BFunc) : ∀ m, List.Pairwise (fun p q => headZ p < headZ q) (f.pathsTo m) ∧ ∀ p ∈ f.pathsTo m, headZ p < m
  | 0 => ⟨List.Pairwise.nil, fun p hp => by cases hp⟩
  | m + 1 => by
    obtain ⟨h1, h2⟩ := paths_sorted f m
    cases e : f.headOf m with
    | false => rw [pathsTo_no e]; exact ⟨h1, fun p hp => by have := h2 p hp; omega⟩
    | true =>
      rw [pathsTo_yes e]
      refine ⟨List.pairwise_append.2 ⟨h1, List.pairwise_singleton _ _, fun a ha b hb => ?_⟩, fun p hp => ?_⟩
      · simp only [List.mem_singleton] at hb
        subst hb
        exact h2 a ha
      · simp only [List.mem_append, List.mem_singleton] at hp
        rcases hp with hp | rfl
        · have := h2 p hp; omega
        · show (m : Int) < ((m + 1 : Nat) : Int); omega
theorem head_index {i j : Nat} {p q : List Int} (hi : f.tpaths[i]? = some p) (hj : f.tpaths[j]? = some q) (h : headZ p = headZ q) : i = j := by
  have hs : List.Pairwise (fun p q => headZ p < headZ q) f.tpaths := (paths_sorted f f.blocks.length).1
  obtain ⟨i1, i2⟩ := List.getElem?_eq_some_iff.1 hi
  obtain ⟨j1, j2⟩ := List.getElem?_eq_some_iff.1 hj
  rcases Nat.lt_trichotomy i j with hlt | rfl | hlt
  · have := List.pairwise_iff_getElem.1 hs i j i1 j1 hlt
    rw [i2, j2] at this
    omega
  · rfl
  · have := List.pairwise_iff_getElem.1 hs j i j1 i1 hlt
    rw [i2, j2] at this
    omega
theorem path_at (hle : f.leads) {k : Nat} {p : List Int} (h : f.tpaths[k]? = some p) : ∃ c : Nat, f.headOf c = true ∧ p = pathOf f.tk c := by
  obtain ⟨c, _, c2, c3⟩ := paths_mem hle _ (List.mem_of_getElem? h)
  exact ⟨c, c2, c3⟩
theorem path_of (hle : f.leads) {c : Nat} (h : f.headOf c = true) : ∃ i : Nat, iget f.nums c = i ∧ f.tpaths[i]? = some (pathOf f.tk c) := by
  have := been_in hle (head_free hle h).1
  exact nums_spec hle f.blocks.length (Nat.le_refl _) c (by omega) h
/-- what a last one leads to is a head -/
theorem last_head (hle : f.leads) (hR : ∀ k, isBeen f.reach k → ∀ t ∈ rowAt f.nexts k, isBeen f.reach t) {l t : Int} (hl : isBeen f.reach l) (hlast : iget f.tk l = -1) (ht : t ∈ (f.blockAt l).nexts) : f.headOf t.toNat = true ∧ ((t.toNat : Nat) : Int) = t := by
  have hlr := been_in hle hl
  have htb : isBeen f.reach t := hR l hl t (by rw [row_at hle hlr]; exact ht)
  have htr := been_in hle htb
  refine ⟨head_of hle htb (fun i hi e => ?_), Int.toNat_of_nonneg htr.1⟩
  have hne : t ≠ -1 := by omega
  have := tk_only hle hi e hne hl ht
  subst this
  rw [hlast] at e
  omega
theorem newBlock_nexts (p : List Int) : (f.newBlock p).nexts = ((f.blockAt (lastOf p)).nexts).map (iget f.nums) := by
  simp only [Block.nexts, BFunc.newBlock]
  cases e1 : (f.blockAt (lastOf p)).fin == 1 with
  | true => simp
  | false =>
    cases e2 : (f.blockAt (lastOf p)).fin == 2 with
    | true => simp
    | false => simp
theorem tidy_row {k : Nat} {p : List Int} (h : f.tpaths[k]? = some p) : f.tidy.nexts[k]? = some (((f.blockAt (lastOf p)).nexts).map (iget f.nums)) := by
  have : f.tidy.blocks[k]? = some (f.newBlock p) := by simp [BFunc.tidy, h]
  rw [nexts_get this, newBlock_nexts]
theorem tidy_rowAt {k : Nat} {p : List Int} (h : f.tpaths[k]? = some p) : rowAt f.tidy.nexts k = ((f.blockAt (lastOf p)).nexts).map (iget f.nums) := by
  rw [rowAt, Int.toNat_natCast, tidy_row h]; rfl
theorem reach_cl (hle : f.leads) (hn : f.blocks ≠ []) : isBeen f.reach 0 ∧ ∀ k, isBeen f.reach k → ∀ t ∈ rowAt f.nexts k, isBeen f.reach t := by
  have hnn : f.nexts ≠ [] := by simpa [BFunc.nexts] using hn
  exact reach_closed hnn (leadN hle)
theorem reach_is (hle : f.leads) (hn : f.blocks ≠ []) (k : Int) : isBeen f.reach k ↔ Reaches f.nexts k := by
  have hnn : f.nexts ≠ [] := by simpa [BFunc.nexts] using hn
  exact reach_iff hnn (leadN hle) k
theorem head_zero (hle : f.leads) (hn : f.blocks ≠ []) : f.headOf 0 = true := head_of hle (t := 0) (reach_cl hle hn).1 (fun i hi e => by
    have := tk_spec hle hi (by rw [e]; decide)
    rw [e] at this
    exact this.2.2.2.1 this.1.symm)
theorem first_path (hle : f.leads) (hn : f.blocks ≠ []) : f.tpaths[0]? = some (pathOf f.tk 0) := paths_first hle (head_zero hle hn) f.blocks.length (List.length_pos_iff.2 hn)
/-- whatever is reached lies on a path whose new block is reached -/
theorem cover (hle : f.leads) (hn : f.blocks ≠ []) {t : Int} (h : Reaches f.nexts t) : ∃ (k : Nat) (p : List Int), f.tpaths[k]? = some p ∧ t ∈ p ∧ Reaches f.tidy.nexts k := by
  have hR := (reach_cl hle hn).2
  induction h with
  | zero => exact ⟨0, _, first_path hle hn, by simp [pathOf], .zero⟩
  | step l t hl ht ih =>
    obtain ⟨k, p, hp, hlp, hk⟩ := ih
    obtain ⟨c, hc, rfl⟩ := path_at hle hp
    have hlb := (reach_is hle hn l).2 hl
    have hlr := been_in hle hlb
    rw [row_at hle hlr] at ht
    by_cases htk : iget f.tk l = -1
    · obtain ⟨hh, et⟩ := last_head hle hR hlb htk ht
      obtain ⟨i, i1, i2⟩ := path_of hle hh
      rw [et] at i1 i2
      refine ⟨i, _, i2, by simp [pathOf], ?_⟩
      refine .step k i hk ?_
      have hst : l = lastOf (pathOf f.tk c) := chain_stop _ _ _ hlp htk
      rw [tidy_rowAt hp, ← hst, ← i1]
      exact List.mem_map_of_mem ht
    · have hs := tk_spec hle hlr htk
      have : t = iget f.tk l := by
        rw [hs.1]
        simpa [Block.nexts, hs.2.2.1] using ht
      refine ⟨k, _, hp, ?_, hk⟩
      rw [this]
      exact chain_next _ _ _ (head_ends hle hc) hlp htk
theorem head_on {c d : Nat} (hle : f.leads) (hc : f.headOf c = true) (hd : f.headOf d = true) (h : (d : Int) ∈ pathOf f.tk c) : d = c := by
  rcases List.mem_cons.1 h with h | h
  · omega
  · exfalso
    obtain ⟨u, u1, u2, u3⟩ := chain_taken _ _ _ h
    have hcr := been_in hle (head_free hle hc).1
    have hur : 0 ≤ u ∧ u < f.blocks.length := by
      have hl : f.tk.length = f.blocks.length := takes_length f _
      rcases List.mem_cons.1 u1 with rfl | hu
      · exact hcr
      · have hl' : ((f.takes f.reach).length : Int) = f.blocks.length := by rw [takes_length]
        have := chain_in (takes_in hle f.reach) f.tk.length c (by rw [hl']; exact hcr) u hu
        rw [hl'] at this; exact this
    exact (head_free hle hd).2 u hur u2
/-- all new blocks are reached -/
theorem tidy_reached (hle : f.leads) (hn : f.blocks ≠ []) {k : Nat} (hk : k < f.tidy.blocks.length) : Reaches f.tidy.nexts k := by
  obtain ⟨p, hp⟩ := get_of_lt (l := f.tpaths) (k := k) (by simpa [BFunc.tidy] using hk)
  obtain ⟨c, hc, rfl⟩ := path_at hle hp
  obtain ⟨k2, q, hq, hcq, hr⟩ := cover hle hn ((reach_is hle hn c).1 (head_free hle hc).1)
  obtain ⟨d, hd, rfl⟩ := path_at hle hq
  have := head_on hle hd hc hcq
  subst this
  rw [head_index hp hq rfl]; exact hr
end
end Go.Proofs.Ytidfabbnobipkaa.Sv
