/-
  WHAT IS TIDIED HOLDS, IN PLAIN LEAN (2): own work, over no program.
-/
import Derived.Test.YtidfabbnobipkaaSp33
namespace Go.Proofs.Ytidfabbnobipkaa.Sv
open Go
set_option linter.unusedVariables false
set_option linter.unusedSimpArgs false

theorem leads_of_one {f : BFunc} {n w : Int} (h : f.one n w = true) : f.leads := fun l hl k hk => by
  simp only [BFunc.nexts, List.mem_map] at hl
  obtain ⟨x, hx, rfl⟩ := hl
  have he := ((one_spec h).2.2.2 x hx).1
  unfold Block.ends at he
  unfold Block.nexts at hk
  cases e1 : x.fin == 1 with
  | true =>
    rw [e1] at he hk
    simp [within] at he hk
    subst hk
    exact he.1
  | false =>
    cases e2 : x.fin == 2 with
    | true =>
      rw [e1, e2] at he hk
      simp [within] at he hk
      rcases hk with rfl | rfl
      · exact he.1
      · exact he.2.1
    | false => rw [e1, e2] at hk; simp at hk
section
variable {f : BFunc}
theorem leadN (hle : f.leads) : ∀ l ∈ f.nexts, ∀ t ∈ l, 0 ≤ t ∧ t < f.nexts.length := fun l hl t ht => by
  rw [nexts_length]; exact hle l hl t ht
theorem row_at (hle : f.leads) {i : Int} (hi : 0 ≤ i ∧ i < f.blocks.length) : rowAt f.nexts i = (f.blockAt i).nexts := by
  rw [rowAt, nexts_get (blockAt_get hi)]; rfl
theorem been_in (hle : f.leads) {k : Int} (h : isBeen f.reach k) : 0 ≤ k ∧ k < f.blocks.length := by
  obtain ⟨h1, h2⟩ := h
  have := (List.getElem?_eq_some_iff.1 h2).1
  rw [reach_length] at this
  omega
theorem tk_at (hle : f.leads) {i : Int} (hi : 0 ≤ i ∧ i < f.blocks.length) : iget f.tk i = takeOf f.nexts f.reach i.toNat (f.blockAt i) := by
  rw [iget, BFunc.tk, takes_get (blockAt_get hi)]; rfl
/-- what is taken in by whom -/
theorem tk_spec (hle : f.leads) {i : Int} (hi : 0 ≤ i ∧ i < f.blocks.length) (h : iget f.tk i ≠ -1) : iget f.tk i = (f.blockAt i).to ∧ isBeen f.reach i ∧ (f.blockAt i).fin = 1 ∧ (f.blockAt i).to ≠ 0 ∧ iget (waysF f.nexts f.reach) (f.blockAt i).to = 1 ∧ 0 ≤ (f.blockAt i).to ∧ (f.blockAt i).to < f.blocks.length := by
  rw [tk_at hle hi] at h ⊢
  unfold takeOf at h ⊢
  cases e : (f.reach[i.toNat]?).getD false && ((f.blockAt i).fin == 1 && ((f.blockAt i).to != 0 && ((f.blockAt i).to != (i.toNat : Int) && iget (waysF f.nexts f.reach) (f.blockAt i).to == 1))) with
  | false => rw [e] at h; exact absurd rfl h
  | true =>
    simp only [Bool.and_eq_true, beq_iff_eq, bne_iff_ne, ne_eq] at e
    obtain ⟨e1, e2, e3, e4, e5⟩ := e
    have hto := leads_to hle (blockAt_get hi) (.inl e2)
    refine ⟨rfl, ⟨hi.1, ?_⟩, e2, e3, e5, hto.1, hto.2⟩
    cases hr : f.reach[i.toNat]? with
    | none => rw [hr] at e1; cases e1
    | some v => rw [hr] at e1; simp at e1; rw [e1]
theorem tk_only (hle : f.leads) {i l k : Int} (hi : 0 ≤ i ∧ i < f.blocks.length) (hk : iget f.tk i = k) (hne : k ≠ -1) (hl : isBeen f.reach l) (hm : k ∈ (f.blockAt l).nexts) : l = i := by
  obtain ⟨a1, a2, a3, a4, a5, a6, a7⟩ := tk_spec hle hi (by rw [hk]; exact hne)
  rw [hk] at a1
  have hlr := been_in hle hl
  have hnl := nexts_length f
  have hki : k ∈ (f.blockAt i).nexts := by simp [Block.nexts, a3, a1]
  have gi : (f.nexts[i.toNat]?).getD [] = (f.blockAt i).nexts := by rw [nexts_get (blockAt_get hi)]; rfl
  have gl : (f.nexts[l.toNat]?).getD [] = (f.blockAt l).nexts := by rw [nexts_get (blockAt_get hlr)]; rfl
  have w := (ways_ge (reach := f.reach) (leadN hle) (k := k) (by rw [a1]; exact a6) f.nexts.length (Nat.le_refl _)).2.2
  rw [← a1] at a5
  unfold waysF at a5
  by_cases h1 : i.toNat < l.toNat
  · have := w i.toNat l.toNat h1 (by omega) a2.2 hl.2 (by rw [gi]; exact hki) (by rw [gl]; exact hm)
    omega
  · by_cases h2 : l.toNat < i.toNat
    · have := w l.toNat i.toNat h2 (by omega) hl.2 a2.2 (by rw [gl]; exact hm) (by rw [gi]; exact hki)
      omega
    · omega
theorem taken_by (hle : f.leads) : ∀ (m : Nat), m ≤ f.blocks.length → ∀ (k : Nat), (f.takenAt f.reach m)[k]? = some true → ∃ i : Int, 0 ≤ i ∧ i < m ∧ iget f.tk i = k
  | 0, _, k, h => by
    unfold BFunc.takenAt at h
    have := List.eq_of_mem_replicate (List.mem_of_getElem? h)
    cases this
  | m + 1, hm, k, h => by
    obtain ⟨x, hx⟩ := get_of_lt (l := f.blocks) (k := m) (by omega)
    rw [takenAt_succ hx] at h
    have hxm : f.blockAt m = x := by simp [BFunc.blockAt, hx]
    have hi : 0 ≤ (m : Int) ∧ (m : Int) < f.blocks.length := by omega
    have ht := tk_at hle hi
    rw [Int.toNat_natCast, hxm] at ht
    cases e : takeOf f.nexts f.reach m x == -1 with
    | true =>
      rw [e] at h
      obtain ⟨i, i1, i2, i3⟩ := taken_by hle m (by omega) k h
      exact ⟨i, i1, by omega, i3⟩
    | false =>
      rw [e] at h
      simp only [cond_false] at h
      rw [List.getElem?_set] at h
      have hne : takeOf f.nexts f.reach m x ≠ -1 := by simpa using e
      have hs := tk_spec hle hi (by rw [ht]; exact hne)
      rw [hxm] at hs
      by_cases h2 : x.to.toNat = k
      · exact ⟨m, hi.1, by omega, by rw [hs.1]; omega⟩
      · rw [if_neg h2] at h
        obtain ⟨i, i1, i2, i3⟩ := taken_by hle m (by omega) k h
        exact ⟨i, i1, by omega, i3⟩
theorem taken_of (hle : f.leads) : ∀ (m : Nat), m ≤ f.blocks.length → ∀ (i : Int), 0 ≤ i → i < m → iget f.tk i ≠ -1 → (f.takenAt f.reach m)[(iget f.tk i).toNat]? = some true
  | 0, _, i, h1, h2, _ => absurd h2 (by omega)
  | m + 1, hm, i, h1, h2, hne => by
    obtain ⟨x, hx⟩ := get_of_lt (l := f.blocks) (k := m) (by omega)
    rw [takenAt_succ hx]
    have hxm : f.blockAt m = x := by simp [BFunc.blockAt, hx]
    have hi : 0 ≤ (m : Int) ∧ (m : Int) < f.blocks.length := by omega
    have ht := tk_at hle hi
    rw [Int.toNat_natCast, hxm] at ht
    have hlen := takenAt_length f f.reach m
    by_cases him : i = m
    · subst him
      rw [ht] at hne ⊢
      have e : (takeOf f.nexts f.reach m x == -1) = false := by simpa using hne
      have hs := tk_spec hle hi (by rw [ht]; exact hne)
      rw [hxm, ht] at hs
      rw [e, cond_false, hs.1, List.getElem?_set_self (by omega)]
    · have ih := taken_of hle m (by omega) i h1 (by omega) hne
      cases e : takeOf f.nexts f.reach m x == -1 with
      | true => exact ih
      | false =>
        simp only [cond_false]
        rw [List.getElem?_set]
        by_cases h3 : x.to.toNat = (iget f.tk i).toNat
        · rw [if_pos h3, if_pos (by rw [h3]; exact (List.getElem?_eq_some_iff.1 ih).1)]
        · rw [if_neg h3]; exact ih
/-- a head is not taken in -/
theorem head_free (hle : f.leads) {k : Nat} (h : f.headOf k = true) : isBeen f.reach k ∧ ∀ i : Int, 0 ≤ i ∧ i < f.blocks.length → iget f.tk i ≠ (k : Int) := by
  simp only [BFunc.headOf, Bool.and_eq_true, Bool.not_eq_true'] at h
  obtain ⟨h1, h2⟩ := h
  refine ⟨⟨by omega, ?_⟩, fun i hi e => ?_⟩
  · rw [Int.toNat_natCast]
    cases hr : f.reach[k]? with
    | none => rw [hr] at h1; cases h1
    | some v => rw [hr] at h1; simp at h1; rw [h1]
  · have := taken_of hle f.blocks.length (Nat.le_refl _) i hi.1 hi.2 (by rw [e]; omega)
    rw [e, Int.toNat_natCast] at this
    rw [this] at h2; cases h2
theorem head_of (hle : f.leads) {t : Int} (h : isBeen f.reach t) (hn : ∀ i : Int, 0 ≤ i ∧ i < f.blocks.length → iget f.tk i ≠ t) : f.headOf t.toNat = true := by
  have ht := been_in hle h
  obtain ⟨v, hv⟩ := get_of_lt (l := f.takenAt f.reach f.blocks.length) (k := t.toNat) (by rw [takenAt_length]; omega)
  rw [headOf_eq h.2 hv]
  cases v with
  | false => rfl
  | true =>
    obtain ⟨i, i1, i2, i3⟩ := taken_by hle f.blocks.length (Nat.le_refl _) t.toNat hv
    exact absurd (by rw [i3]; omega) (hn i ⟨i1, i2⟩)
theorem ends_gen (hle : f.leads) {k : Int} (hk : ∀ i : Int, 0 ≤ i ∧ i < f.blocks.length → iget f.tk i ≠ k) : ∀ (g : Nat) (c : Int) (marks : List Bool), marks.length = f.blocks.length → isBeen marks c →
    (∀ w, isBeen marks w → w = k ∨ ∃ u, isBeen marks u ∧ u ≠ c ∧ iget f.tk u = w) → unb marks ≤ g → ends f.tk g c = true := by
  have step : ∀ (c : Int) (marks : List Bool), marks.length = f.blocks.length → isBeen marks c → (∀ w, isBeen marks w → w = k ∨ ∃ u, isBeen marks u ∧ u ≠ c ∧ iget f.tk u = w) → iget f.tk c ≠ -1 → 0 ≤ iget f.tk c ∧ iget f.tk c < f.blocks.length ∧ marks[(iget f.tk c).toNat]? = some false := fun c marks hl hc hw hne => by
    have hin : ∀ {u}, isBeen marks u → 0 ≤ u ∧ u < f.blocks.length := fun {u} hu => by
      have := (List.getElem?_eq_some_iff.1 hu.2).1
      have := hu.1
      omega
    obtain ⟨a1, a2, a3, a4, a5, a6, a7⟩ := tk_spec hle (hin hc) hne
    rw [← a1] at a6 a7
    refine ⟨a6, a7, ?_⟩
    obtain ⟨v, hv⟩ := get_of_lt (l := marks) (k := (iget f.tk c).toNat) (by omega)
    cases v with
    | false => exact hv
    | true =>
      exfalso
      rcases hw (iget f.tk c) ⟨a6, hv⟩ with h | ⟨u, u1, u2, u3⟩
      · exact hk c (hin hc) h
      · refine u2 ?_
        have hs := tk_spec hle (hin u1) (by rw [u3]; exact hne)
        refine tk_only hle (hin hc) rfl hne hs.2.1 ?_
        rw [← u3, hs.1]
        simp [Block.nexts, hs.2.2.1]
  intro g
  induction g with
  | zero =>
    intro c marks hl hc hw hu
    by_cases hne : iget f.tk c = -1
    · simp [ends, hne]
    · obtain ⟨a, b, e⟩ := step c marks hl hc hw hne
      have := unb_set e
      omega
  | succ g ih =>
    intro c marks hl hc hw hu
    by_cases hne : iget f.tk c = -1
    · simp [ends, hne]
    · obtain ⟨a, b, e⟩ := step c marks hl hc hw hne
      have hus := unb_set e
      have hnew : ∀ w, isBeen (marks.set (iget f.tk c).toNat true) w ↔ w = iget f.tk c ∨ isBeen marks w := fun w => by
        constructor
        · rintro ⟨h1, h2⟩
          rw [List.getElem?_set] at h2
          by_cases h3 : (iget f.tk c).toNat = w.toNat
          · exact .inl (by omega)
          · rw [if_neg h3] at h2; exact .inr ⟨h1, h2⟩
        · rintro (rfl | ⟨h1, h2⟩)
          · exact ⟨a, List.getElem?_set_self (by omega)⟩
          · refine ⟨h1, ?_⟩
            rw [List.getElem?_set]
            by_cases h3 : (iget f.tk c).toNat = w.toNat
            · rw [if_pos h3, if_pos (by omega)]
            · rw [if_neg h3]; exact h2
      have hcc : c ≠ iget f.tk c := fun h => by
        have := hc.2
        rw [h, e] at this; cases this
      have := ih (iget f.tk c) (marks.set (iget f.tk c).toNat true) (by simpa using hl) ((hnew _).2 (.inl rfl)) (fun w hw2 => ?_) (by omega)
      · unfold ends
        rw [this]; simp
      · rcases (hnew w).1 hw2 with rfl | hw3
        · exact .inr ⟨c, (hnew c).2 (.inr hc), hcc, rfl⟩
        · rcases hw w hw3 with h | ⟨u, u1, u2, u3⟩
          · exact .inl h
          · refine .inr ⟨u, (hnew u).2 (.inr u1), fun h => ?_, u3⟩
            have := u1.2
            rw [h, e] at this; cases this
theorem unb_rep (n : Nat) : unb (List.replicate n false) = n := by simp [unb]
theorem head_ends (hle : f.leads) {k : Nat} (h : f.headOf k = true) : ends f.tk f.tk.length k = true := by
  obtain ⟨h1, h2⟩ := head_free hle h
  have hk := been_in hle h1
  have hl : f.tk.length = f.blocks.length := takes_length f _
  have hget : (List.replicate f.blocks.length false)[k]? = some false := by
    rw [List.getElem?_replicate, if_pos (by omega)]
  have hu := unb_set hget
  have hr : unb (List.replicate f.blocks.length false) = f.blocks.length := by simp [unb]
  refine ends_gen hle h2 f.tk.length k ((List.replicate f.blocks.length false).set k true) (by simp) ⟨by omega, by rw [Int.toNat_natCast, List.getElem?_set_self (by simp; omega)]⟩ (fun w hw => ?_) (by omega)
  left
  obtain ⟨w1, w2⟩ := hw
  rw [List.getElem?_set] at w2
  by_cases h3 : k = w.toNat
  · omega
  · rw [if_neg h3] at w2
    have := List.eq_of_mem_replicate (List.mem_of_getElem? w2)
    cases this
/-! ### paths -/
theorem fol_chain (hle : f.leads) : ∀ (g : Nat) (c : Int), 0 ≤ c ∧ c < f.blocks.length → fol f (c :: chain f.tk g c)
  | 0, c, _ => trivial
  | g + 1, c, hc => by
    unfold chain
    cases e : iget f.tk c == -1 with
    | true => exact trivial
    | false =>
      have hne : iget f.tk c ≠ -1 := by simpa using e
      obtain ⟨a1, a2, a3, a4, a5, a6, a7⟩ := tk_spec hle hc hne
      exact ⟨a3, a1.symm, fol_chain hle g _ (by rw [a1]; exact ⟨a6, a7⟩)⟩
theorem been_chain (hle : f.leads) (hR : ∀ k, isBeen f.reach k → ∀ t ∈ rowAt f.nexts k, isBeen f.reach t) : ∀ (g : Nat) (c : Int), isBeen f.reach c → ∀ x ∈ chain f.tk g c, isBeen f.reach x
  | 0, c, _ => fun x hx => by cases hx
  | g + 1, c, hc => fun x hx => by
    unfold chain at hx
    cases e : iget f.tk c == -1 with
    | true => rw [e] at hx; cases hx
    | false =>
      rw [e] at hx
      have hcr := been_in hle hc
      obtain ⟨a1, a2, a3, a4, a5, a6, a7⟩ := tk_spec hle hcr (by simpa using e)
      have hb : isBeen f.reach (iget f.tk c) := hR c hc _ (by rw [row_at hle hcr, a1]; simp [Block.nexts, a3])
      simp only [cond_false, List.mem_cons] at hx
      rcases hx with rfl | hx
      · exact hb
      · exact been_chain hle hR g _ hb x hx
theorem last_chain (hle : f.leads) : ∀ (g : Nat) (c : Int), ends f.tk g c = true → iget f.tk (lastOf (c :: chain f.tk g c)) = -1
  | 0, c, h => by simpa [ends, chain, lastOf] using h
  | g + 1, c, h => by
    unfold ends at h
    unfold chain
    cases e : iget f.tk c == -1 with
    | true => simpa [lastOf] using e
    | false =>
      rw [e] at h
      simp only [Bool.false_or] at h
      have := last_chain hle g _ h
      simpa [lastOf] using this
theorem paths_mem (hle : f.leads) : ∀ (m : Nat) {p : List Int}, p ∈ f.pathsTo m → ∃ k, k < m ∧ f.headOf k = true ∧ p = pathOf f.tk k
  | 0, p, h => by cases h
  | m + 1, p, h => by
    unfold BFunc.pathsTo at h
    cases e : f.headOf m with
    | false =>
      rw [e] at h
      obtain ⟨k, k1, k2⟩ := paths_mem hle m h
      exact ⟨k, by omega, k2⟩
    | true =>
      rw [e] at h
      simp only [cond_true, List.mem_append, List.mem_singleton] at h
      rcases h with h | rfl
      · obtain ⟨k, k1, k2⟩ := paths_mem hle m h
        exact ⟨k, by omega, k2⟩
      · exact ⟨m, by omega, e, rfl⟩
theorem nums_spec (hle : f.leads) : ∀ (m : Nat), m ≤ f.blocks.length → ∀ k, k < m → f.headOf k = true → ∃ i : Nat, iget (f.numsTo m) k = i ∧ (f.pathsTo m)[i]? = some (pathOf f.tk k)
  | 0, _, k, h, _ => absurd h (by omega)
  | m + 1, hm, k, hk, hh => by
    have hlen := numsTo_length f m
    cases e : f.headOf m with
    | false =>
      have hkm : k ≠ m := fun h => by rw [h, e] at hh; cases hh
      rw [numsTo_no e, pathsTo_no e]
      exact nums_spec hle m (by omega) k (by omega) hh
    | true =>
      rw [numsTo_yes e, pathsTo_yes e, iget_iset (by rw [hlen]; omega) (by omega)]
      by_cases hkm : k = m
      · subst hkm
        refine ⟨(f.pathsTo k).length, by simp, ?_⟩
        rw [List.getElem?_append_right (Nat.le_refl _), Nat.sub_self]; rfl
      · obtain ⟨i, i1, i2⟩ := nums_spec hle m (by omega) k (by omega) hh
        have hne : ((k : Int) == (m : Int)) = false := by simp; omega
        rw [hne]
        exact ⟨i, i1, by rw [List.getElem?_append_left (List.getElem?_eq_some_iff.1 i2).1]; exact i2⟩
theorem paths_first (hle : f.leads) (h0 : f.headOf 0 = true) : ∀ (m : Nat), 0 < m → (f.pathsTo m)[0]? = some (pathOf f.tk 0)
  | 0, h => absurd h (by omega)
  | 1, _ => by rw [pathsTo_yes h0]; rfl
  | m + 2, _ => by
    have ih := paths_first hle h0 (m + 1) (by omega)
    cases e : f.headOf (m + 1) with
    | false => rw [pathsTo_no e]; exact ih
    | true => rw [pathsTo_yes e, List.getElem?_append_left (List.getElem?_eq_some_iff.1 ih).1]; exact ih
theorem target (hle : f.leads) {l t : Int} (hR : ∀ k, isBeen f.reach k → ∀ t ∈ rowAt f.nexts k, isBeen f.reach t) (hl : isBeen f.reach l) (hlast : iget f.tk l = -1) (ht : t ∈ (f.blockAt l).nexts) : beginsB f.tpaths (iget f.nums t) t = true := by
  have hlr := been_in hle hl
  have htb : isBeen f.reach t := hR l hl t (by rw [row_at hle hlr]; exact ht)
  have htr := been_in hle htb
  have hh : f.headOf t.toNat = true := head_of hle htb (fun i hi e => by
    have hne : t ≠ -1 := by omega
    have := tk_only hle hi e hne hl ht
    subst this
    rw [hlast] at e
    omega)
  obtain ⟨i, i1, i2⟩ := nums_spec hle f.blocks.length (Nat.le_refl _) t.toNat (by omega) hh
  have et : ((t.toNat : Nat) : Int) = t := Int.toNat_of_nonneg htr.1
  rw [et] at i1 i2
  have hil := (List.getElem?_eq_some_iff.1 i2).1
  have hp : pathK f.tpaths (iget f.nums t) = pathOf f.tk t := by
    rw [show iget f.nums t = i from i1, pathK, Int.toNat_natCast]
    show ((f.pathsTo f.blocks.length)[i]?).getD [] = _
    rw [i2]; rfl
  refine beginsB_of (by rw [show iget f.nums t = i from i1]; omega) (by rw [show iget f.nums t = i from i1]; show (i : Int) < ((f.pathsTo f.blocks.length).length : Int); omega) ?_
  rw [hp]; rfl
/-- what is tidied holds -/
theorem tidy_holds (hle : f.leads) (hn : f.blocks ≠ []) : Holds f f.tidy f.tpaths := by
  have hnn : f.nexts ≠ [] := by simpa [BFunc.nexts] using hn
  obtain ⟨r0, rc⟩ := reach_closed hnn (leadN hle)
  have hR : ∀ k, isBeen f.reach k → ∀ t ∈ rowAt f.nexts k, isBeen f.reach t := rc
  have hpos := List.length_pos_iff.2 hn
  have h0 : f.headOf 0 = true := head_of hle (t := 0) r0 (fun i hi e => by
    have := tk_spec hle hi (by rw [e]; decide)
    rw [e] at this
    exact this.2.2.2.1 this.1.symm)
  have hfirst := paths_first hle h0 f.blocks.length hpos
  have hmem : ∀ (k : Nat) (p : List Int), f.tpaths[k]? = some p → ∃ c : Nat, f.headOf c = true ∧ p = pathOf f.tk c := fun k p hp => by
    obtain ⟨c, _, c2, c3⟩ := paths_mem hle _ (List.mem_of_getElem? hp)
    exact ⟨c, c2, c3⟩
  have hblk : ∀ (k : Nat) (p : List Int), f.tpaths[k]? = some p → f.tidy.blockAt k = f.newBlock p := fun k p hp => by
    simp [BFunc.blockAt, BFunc.tidy, hp]
  refine ⟨fun h => ?_, by simp [BFunc.tidy], rfl, paths_in hle _ (Nat.le_refl _), ?_, fun k p hp => ?_, fun k p hp => ?_, fun k p hp => ?_⟩
  · have := (List.getElem?_eq_some_iff.1 hfirst).1
    have h' : (f.pathsTo f.blocks.length).length = 0 := h
    omega
  · have : pathK f.tpaths 0 = pathOf f.tk 0 := by
      show ((f.pathsTo f.blocks.length)[0]?).getD [] = _
      rw [hfirst]; rfl
    rw [this]; rfl
  · obtain ⟨c, c1, rfl⟩ := hmem k p hp
    exact fol_chain hle _ _ (been_in hle (head_free hle c1).1)
  · rw [hblk k p hp]; rfl
  · obtain ⟨c, c1, rfl⟩ := hmem k p hp
    have hcb := (head_free hle c1).1
    have hne : pathOf f.tk c ≠ [] := by simp [pathOf]
    have hlb : isBeen f.reach (lastOf (pathOf f.tk c)) := by
      have := last_mem hne
      simp only [pathOf, List.mem_cons] at this
      rcases this with h | h
      · show isBeen f.reach (lastOf (↑c :: chain f.tk f.tk.length ↑c))
        rw [h]; exact hcb
      · exact been_chain hle hR _ _ hcb _ h
    have hlast : iget f.tk (lastOf (pathOf f.tk c)) = -1 := last_chain hle _ _ (head_ends hle c1)
    rw [hblk k _ hp]
    refine leadsB_of rfl rfl (fun e => ?_) (fun e => ?_) (fun e => ?_) (fun e => ?_)
    · have e' : ((f.blockAt (lastOf (pathOf f.tk c))).fin == 1 || (f.blockAt (lastOf (pathOf f.tk c))).fin == 2) = true := by
        have : (f.blockAt (lastOf (pathOf f.tk c))).fin = 1 ∨ (f.blockAt (lastOf (pathOf f.tk c))).fin = 2 := e
        simpa using this
      have hto : (f.newBlock (pathOf f.tk c)).to = iget f.nums (f.blockAt (lastOf (pathOf f.tk c))).to := by simp only [BFunc.newBlock, e', cond_true]
      rw [hto]
      refine target hle hR hlb hlast ?_
      have : (f.blockAt (lastOf (pathOf f.tk c))).fin = 1 ∨ (f.blockAt (lastOf (pathOf f.tk c))).fin = 2 := e
      rcases this with e | e <;> simp [Block.nexts, e]
    · have e' : ((f.blockAt (lastOf (pathOf f.tk c))).fin == 1 || (f.blockAt (lastOf (pathOf f.tk c))).fin == 2) = false := by
        have : ¬ ((f.blockAt (lastOf (pathOf f.tk c))).fin = 1 ∨ (f.blockAt (lastOf (pathOf f.tk c))).fin = 2) := e
        simpa using this
      simp only [BFunc.newBlock, e', cond_false]
    · have e' : (f.blockAt (lastOf (pathOf f.tk c))).fin = 2 := e
      have hel : (f.newBlock (pathOf f.tk c)).els = iget f.nums (f.blockAt (lastOf (pathOf f.tk c))).els := by simp [BFunc.newBlock, e']
      rw [hel]
      exact target hle hR hlb hlast (by simp [Block.nexts, e'])
    · have e' : ((f.blockAt (lastOf (pathOf f.tk c))).fin == 2) = false := by
        have : (f.blockAt (lastOf (pathOf f.tk c))).fin ≠ 2 := e
        simpa using this
      simp only [BFunc.newBlock, e', cond_false]
end
end Go.Proofs.Ytidfabbnobipkaa.Sv
