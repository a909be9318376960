/-
  WHAT IS TIDIED HOLDS, IN PLAIN LEAN (2): own work, over no program.
  WHAT IS REACHED IS JUST WHAT CAN BE REACHED, IN PLAIN LEAN: own work, over no program.
  WHAT TIDYING LEAVES, IN PLAIN LEAN: own work, over no program.
  NOTHING IS LEFT TO JOIN; TIDIED AGAIN IT IS AS IT IS, IN PLAIN LEAN: own work, over no program.
  WHAT THE WALKS OF TidyMost AND TidyTwice ASK, IN PLAIN LEAN: own work, over no program.
  WORDS BIT BY BIT, AS THE DOCUMENT'S ANSWER HAS THEM, IN PLAIN LEAN: own work, over no program.
  SMALL RULES FOR THE DOCUMENT'S WORDS: own work, over no program.
  THE LAWS OF FOLDING, IN PLAIN LEAN: own work, over no program.
  THE LAW FoldKnown, IN PLAIN LEAN: own work, over no program.
  THE DOCUMENT'S WORDS ARE THE PROGRAM'S, IN PLAIN LEAN: own work, over no program.
  FOLDING INSTRUCTION BY INSTRUCTION, WITH TWO ROWS IN PLACE OF A MAP, IN PLAIN LEAN: own work, over no program.
  BYTES TO A STRING: own work, over no program.
  THE DOCUMENT'S MACHINE OF BLOCKS, IN PLAIN LEAN: own work, over no program.
  THE MACHINE'S LOOPS: what holds at each round, in plain Lean: own work, over no program.
  RUNS THAT HAVE DONE FEWER STEPS END ALIKE, IN PLAIN LEAN: own work, over no program.
  WHATEVER HOLDS MEANS THE SAME, IN PLAIN LEAN: own work, over no program.
  WHAT THE WALK OF TidyTrue ASKS, IN PLAIN LEAN: own work, over no program.
  WHAT THE WALK OF TidyMeans ASKS, IN PLAIN LEAN: own work, over no program.
  WHAT IS REACHED, BREADTH FIRST, IN PLAIN LEAN: own work, over no program.
  THE DOCUMENT'S TIDYING COMES TO THE SAME, IN PLAIN LEAN: own work, over no program.
  BLOCKS THAT JUMP FROM ONE TO THE NEXT ARE ONE BLOCK, IN PLAIN LEAN: own work, over no program.
  QUEUES: x[l:] of a row, and what is put behind it; which place that takes isn't known beforehand: own work, over no program.
  THE QUEUE AS IT LIES IN MEMORY, IN PLAIN LEAN: own work, over no program.
  WHAT THE LAWS ON TIDIED FUNCTIONS ASK FOR, IN PLAIN LEAN: own work, over no program.
-/
import Derived.Test.YtidfabbnobipkaaPTidyTwice2
import Derived.Laws.BytesString
namespace Go.Proofs.Ytidfabbnobipkaa.Sv
open Go
set_option linter.unusedVariables false
set_option linter.unusedSimpArgs false

theorem leads_of_one {f : BFunc} {n w : Int} (h : f.one n w = true) : f.leads := fun l hl k hk => by
  simp only [BFunc.nexts, List.mem_map] at hl
  obtain ⟨x, hx, rfl⟩ := hl
  have he := ((one_spec h).2.2.2 x hx).1
  unfold Block.ends at he
  unfold Block.nexts at hk
  cases e1 : x.fin == 1 with
  | true =>
    rw [e1] at he hk
    simp [within] at he hk
    subst hk
    exact he.1
  | false =>
    cases e2 : x.fin == 2 with
    | true =>
      rw [e1, e2] at he hk
      simp [within] at he hk
      rcases hk with rfl | rfl
      · exact he.1
      · exact he.2.1
    | false => rw [e1, e2] at hk; simp at hk
section
variable {f : BFunc}
theorem leadN (hle : f.leads) : ∀ l ∈ f.nexts, ∀ t ∈ l, 0 ≤ t ∧ t < f.nexts.length := fun l hl t ht => by
  rw [nexts_length]; exact hle l hl t ht
theorem row_at (hle : f.leads) {i : Int} (hi : 0 ≤ i ∧ i < f.blocks.length) : rowAt f.nexts i = (f.blockAt i).nexts := by
  rw [rowAt, nexts_get (blockAt_get hi)]; rfl
theorem been_in (hle : f.leads) {k : Int} (h : isBeen f.reach k) : 0 ≤ k ∧ k < f.blocks.length := by
  obtain ⟨h1, h2⟩ := h
  have := (List.getElem?_eq_some_iff.1 h2).1
  rw [reach_length] at this
  omega
theorem tk_at (hle : f.leads) {i : Int} (hi : 0 ≤ i ∧ i < f.blocks.length) : iget f.tk i = takeOf f.nexts f.reach i.toNat (f.blockAt i) := by
  rw [iget, BFunc.tk, takes_get (blockAt_get hi)]; rfl
/-- what is taken in by whom -/
theorem tk_spec (hle : f.leads) {i : Int} (hi : 0 ≤ i ∧ i < f.blocks.length) (h : iget f.tk i ≠ -1) : iget f.tk i = (f.blockAt i).to ∧ isBeen f.reach i ∧ (f.blockAt i).fin = 1 ∧ (f.blockAt i).to ≠ 0 ∧ iget (waysF f.nexts f.reach) (f.blockAt i).to = 1 ∧ 0 ≤ (f.blockAt i).to ∧ (f.blockAt i).to < f.blocks.length := by
  rw [tk_at hle hi] at h ⊢
  unfold takeOf at h ⊢
  cases e : (f.reach[i.toNat]?).getD false && ((f.blockAt i).fin == 1 && ((f.blockAt i).to != 0 && ((f.blockAt i).to != (i.toNat : Int) && iget (waysF f.nexts f.reach) (f.blockAt i).to == 1))) with
  | false => rw [e] at h; exact absurd rfl h
  | true =>
    simp only [Bool.and_eq_true, beq_iff_eq, bne_iff_ne, ne_eq] at e
    obtain ⟨e1, e2, e3, e4, e5⟩ := e
    have hto := leads_to hle (blockAt_get hi) (.inl e2)
    refine ⟨rfl, ⟨hi.1, ?_⟩, e2, e3, e5, hto.1, hto.2⟩
    cases hr : f.reach[i.toNat]? with
    | none => rw [hr] at e1; cases e1
    | some v => rw [hr] at e1; simp at e1; rw [e1]
theorem tk_only (hle : f.leads) {i l k : Int} (hi : 0 ≤ i ∧ i < f.blocks.length) (hk : iget f.tk i = k) (hne : k ≠ -1) (hl : isBeen f.reach l) (hm : k ∈ (f.blockAt l).nexts) : l = i := by
  obtain ⟨a1, a2, a3, a4, a5, a6, a7⟩ := tk_spec hle hi (by rw [hk]; exact hne)
  rw [hk] at a1
  have hlr := been_in hle hl
  have hnl := nexts_length f
  have hki : k ∈ (f.blockAt i).nexts := by simp [Block.nexts, a3, a1]
  have gi : (f.nexts[i.toNat]?).getD [] = (f.blockAt i).nexts := by rw [nexts_get (blockAt_get hi)]; rfl
  have gl : (f.nexts[l.toNat]?).getD [] = (f.blockAt l).nexts := by rw [nexts_get (blockAt_get hlr)]; rfl
  have w := (ways_ge (reach := f.reach) (leadN hle) (k := k) (by rw [a1]; exact a6) f.nexts.length (Nat.le_refl _)).2.2
  rw [← a1] at a5
  unfold waysF at a5
  by_cases h1 : i.toNat < l.toNat
  · have := w i.toNat l.toNat h1 (by omega) a2.2 hl.2 (by rw [gi]; exact hki) (by rw [gl]; exact hm)
    omega
  · by_cases h2 : l.toNat < i.toNat
    · have := w l.toNat i.toNat h2 (by omega) hl.2 a2.2 (by rw [gl]; exact hm) (by rw [gi]; exact hki)
      omega
    · omega
theorem taken_by (hle : f.leads) : ∀ (m : Nat), m ≤ f.blocks.length → ∀ (k : Nat), (f.takenAt f.reach m)[k]? = some true → ∃ i : Int, 0 ≤ i ∧ i < m ∧ iget f.tk i = k
  | 0, _, k, h => by
    unfold BFunc.takenAt at h
    have := List.eq_of_mem_replicate (List.mem_of_getElem? h)
    cases this
  | m + 1, hm, k, h => by
    obtain ⟨x, hx⟩ := get_of_lt (l := f.blocks) (k := m) (by omega)
    rw [takenAt_succ hx] at h
    have hxm : f.blockAt m = x := by simp [BFunc.blockAt, hx]
    have hi : 0 ≤ (m : Int) ∧ (m : Int) < f.blocks.length := by omega
    have ht := tk_at hle hi
    rw [Int.toNat_natCast, hxm] at ht
    cases e : takeOf f.nexts f.reach m x == -1 with
    | true =>
      rw [e] at h
      obtain ⟨i, i1, i2, i3⟩ := taken_by hle m (by omega) k h
      exact ⟨i, i1, by omega, i3⟩
    | false =>
      rw [e] at h
      simp only [cond_false] at h
      rw [List.getElem?_set] at h
      have hne : takeOf f.nexts f.reach m x ≠ -1 := by simpa using e
      have hs := tk_spec hle hi (by rw [ht]; exact hne)
      rw [hxm] at hs
      by_cases h2 : x.to.toNat = k
      · exact ⟨m, hi.1, by omega, by rw [hs.1]; omega⟩
      · rw [if_neg h2] at h
        obtain ⟨i, i1, i2, i3⟩ := taken_by hle m (by omega) k h
        exact ⟨i, i1, by omega, i3⟩
theorem taken_of (hle : f.leads) : ∀ (m : Nat), m ≤ f.blocks.length → ∀ (i : Int), 0 ≤ i → i < m → iget f.tk i ≠ -1 → (f.takenAt f.reach m)[(iget f.tk i).toNat]? = some true
  | 0, _, i, h1, h2, _ => absurd h2 (by omega)
  | m + 1, hm, i, h1, h2, hne => by
    obtain ⟨x, hx⟩ := get_of_lt (l := f.blocks) (k := m) (by omega)
    rw [takenAt_succ hx]
    have hxm : f.blockAt m = x := by simp [BFunc.blockAt, hx]
    have hi : 0 ≤ (m : Int) ∧ (m : Int) < f.blocks.length := by omega
    have ht := tk_at hle hi
    rw [Int.toNat_natCast, hxm] at ht
    have hlen := takenAt_length f f.reach m
    by_cases him : i = m
    · subst him
      rw [ht] at hne ⊢
      have e : (takeOf f.nexts f.reach m x == -1) = false := by simpa using hne
      have hs := tk_spec hle hi (by rw [ht]; exact hne)
      rw [hxm, ht] at hs
      rw [e, cond_false, hs.1, List.getElem?_set_self (by omega)]
    · have ih := taken_of hle m (by omega) i h1 (by omega) hne
      cases e : takeOf f.nexts f.reach m x == -1 with
      | true => exact ih
      | false =>
        simp only [cond_false]
        rw [List.getElem?_set]
        by_cases h3 : x.to.toNat = (iget f.tk i).toNat
        · rw [if_pos h3, if_pos (by rw [h3]; exact (List.getElem?_eq_some_iff.1 ih).1)]
        · rw [if_neg h3]; exact ih
/-- a head is not taken in -/
theorem head_free (hle : f.leads) {k : Nat} (h : f.headOf k = true) : isBeen f.reach k ∧ ∀ i : Int, 0 ≤ i ∧ i < f.blocks.length → iget f.tk i ≠ (k : Int) := by
  simp only [BFunc.headOf, Bool.and_eq_true, Bool.not_eq_true'] at h
  obtain ⟨h1, h2⟩ := h
  refine ⟨⟨by omega, ?_⟩, fun i hi e => ?_⟩
  · rw [Int.toNat_natCast]
    cases hr : f.reach[k]? with
    | none => rw [hr] at h1; cases h1
    | some v => rw [hr] at h1; simp at h1; rw [h1]
  · have := taken_of hle f.blocks.length (Nat.le_refl _) i hi.1 hi.2 (by rw [e]; omega)
    rw [e, Int.toNat_natCast] at this
    rw [this] at h2; cases h2
theorem head_of (hle : f.leads) {t : Int} (h : isBeen f.reach t) (hn : ∀ i : Int, 0 ≤ i ∧ i < f.blocks.length → iget f.tk i ≠ t) : f.headOf t.toNat = true := by
  have ht := been_in hle h
  obtain ⟨v, hv⟩ := get_of_lt (l := f.takenAt f.reach f.blocks.length) (k := t.toNat) (by rw [takenAt_length]; omega)
  rw [headOf_eq h.2 hv]
  cases v with
  | false => rfl
  | true =>
    obtain ⟨i, i1, i2, i3⟩ := taken_by hle f.blocks.length (Nat.le_refl _) t.toNat hv
    exact absurd (by rw [i3]; omega) (hn i ⟨i1, i2⟩)
theorem ends_gen (hle : f.leads) {k : Int} (hk : ∀ i : Int, 0 ≤ i ∧ i < f.blocks.length → iget f.tk i ≠ k) : ∀ (g : Nat) (c : Int) (marks : List Bool), marks.length = f.blocks.length → isBeen marks c →
    (∀ w, isBeen marks w → w = k ∨ ∃ u, isBeen marks u ∧ u ≠ c ∧ iget f.tk u = w) → unb marks ≤ g → ends f.tk g c = true := by
  have step : ∀ (c : Int) (marks : List Bool), marks.length = f.blocks.length → isBeen marks c → (∀ w, isBeen marks w → w = k ∨ ∃ u, isBeen marks u ∧ u ≠ c ∧ iget f.tk u = w) → iget f.tk c ≠ -1 → 0 ≤ iget f.tk c ∧ iget f.tk c < f.blocks.length ∧ marks[(iget f.tk c).toNat]? = some false := fun c marks hl hc hw hne => by
    have hin : ∀ {u}, isBeen marks u → 0 ≤ u ∧ u < f.blocks.length := fun {u} hu => by
      have := (List.getElem?_eq_some_iff.1 hu.2).1
      have := hu.1
      omega
    obtain ⟨a1, a2, a3, a4, a5, a6, a7⟩ := tk_spec hle (hin hc) hne
    rw [← a1] at a6 a7
    refine ⟨a6, a7, ?_⟩
    obtain ⟨v, hv⟩ := get_of_lt (l := marks) (k := (iget f.tk c).toNat) (by omega)
    cases v with
    | false => exact hv
    | true =>
      exfalso
      rcases hw (iget f.tk c) ⟨a6, hv⟩ with h | ⟨u, u1, u2, u3⟩
      · exact hk c (hin hc) h
      · refine u2 ?_
        have hs := tk_spec hle (hin u1) (by rw [u3]; exact hne)
        refine tk_only hle (hin hc) rfl hne hs.2.1 ?_
        rw [← u3, hs.1]
        simp [Block.nexts, hs.2.2.1]
  intro g
  induction g with
  | zero =>
    intro c marks hl hc hw hu
    by_cases hne : iget f.tk c = -1
    · simp [ends, hne]
    · obtain ⟨a, b, e⟩ := step c marks hl hc hw hne
      have := unb_set e
      omega
  | succ g ih =>
    intro c marks hl hc hw hu
    by_cases hne : iget f.tk c = -1
    · simp [ends, hne]
    · obtain ⟨a, b, e⟩ := step c marks hl hc hw hne
      have hus := unb_set e
      have hnew : ∀ w, isBeen (marks.set (iget f.tk c).toNat true) w ↔ w = iget f.tk c ∨ isBeen marks w := fun w => by
        constructor
        · rintro ⟨h1, h2⟩
          rw [List.getElem?_set] at h2
          by_cases h3 : (iget f.tk c).toNat = w.toNat
          · exact .inl (by omega)
          · rw [if_neg h3] at h2; exact .inr ⟨h1, h2⟩
        · rintro (rfl | ⟨h1, h2⟩)
          · exact ⟨a, List.getElem?_set_self (by omega)⟩
          · refine ⟨h1, ?_⟩
            rw [List.getElem?_set]
            by_cases h3 : (iget f.tk c).toNat = w.toNat
            · rw [if_pos h3, if_pos (by omega)]
            · rw [if_neg h3]; exact h2
      have hcc : c ≠ iget f.tk c := fun h => by
        have := hc.2
        rw [h, e] at this; cases this
      have := ih (iget f.tk c) (marks.set (iget f.tk c).toNat true) (by simpa using hl) ((hnew _).2 (.inl rfl)) (fun w hw2 => ?_) (by omega)
      · unfold ends
        rw [this]; simp
      · rcases (hnew w).1 hw2 with rfl | hw3
        · exact .inr ⟨c, (hnew c).2 (.inr hc), hcc, rfl⟩
        · rcases hw w hw3 with h | ⟨u, u1, u2, u3⟩
          · exact .inl h
          · refine .inr ⟨u, (hnew u).2 (.inr u1), fun h => ?_, u3⟩
            have := u1.2
            rw [h, e] at this; cases this
theorem unb_rep (n : Nat) : unb (List.replicate n false) = n := by simp [unb]
theorem head_ends (hle : f.leads) {k : Nat} (h : f.headOf k = true) : ends f.tk f.tk.length k = true := by
  obtain ⟨h1, h2⟩ := head_free hle h
  have hk := been_in hle h1
  have hl : f.tk.length = f.blocks.length := takes_length f _
  have hget : (List.replicate f.blocks.length false)[k]? = some false := by
    rw [List.getElem?_replicate, if_pos (by omega)]
  have hu := unb_set hget
  have hr : unb (List.replicate f.blocks.length false) = f.blocks.length := by simp [unb]
  refine ends_gen hle h2 f.tk.length k ((List.replicate f.blocks.length false).set k true) (by simp) ⟨by omega, by rw [Int.toNat_natCast, List.getElem?_set_self (by simp; omega)]⟩ (fun w hw => ?_) (by omega)
  left
  obtain ⟨w1, w2⟩ := hw
  rw [List.getElem?_set] at w2
  by_cases h3 : k = w.toNat
  · omega
  · rw [if_neg h3] at w2
    have := List.eq_of_mem_replicate (List.mem_of_getElem? w2)
    cases this
/-! ### paths -/
theorem fol_chain (hle : f.leads) : ∀ (g : Nat) (c : Int), 0 ≤ c ∧ c < f.blocks.length → fol f (c :: chain f.tk g c)
  | 0, c, _ => trivial
  | g + 1, c, hc => by
    unfold chain
    cases e : iget f.tk c == -1 with
    | true => exact trivial
    | false =>
      have hne : iget f.tk c ≠ -1 := by simpa using e
      obtain ⟨a1, a2, a3, a4, a5, a6, a7⟩ := tk_spec hle hc hne
      exact ⟨a3, a1.symm, fol_chain hle g _ (by rw [a1]; exact ⟨a6, a7⟩)⟩
theorem been_chain (hle : f.leads) (hR : ∀ k, isBeen f.reach k → ∀ t ∈ rowAt f.nexts k, isBeen f.reach t) : ∀ (g : Nat) (c : Int), isBeen f.reach c → ∀ x ∈ chain f.tk g c, isBeen f.reach x
  | 0, c, _ => fun x hx => by cases hx
  | g + 1, c, hc => fun x hx => by
    unfold chain at hx
    cases e : iget f.tk c == -1 with
    | true => rw [e] at hx; cases hx
    | false =>
      rw [e] at hx
      have hcr := been_in hle hc
      obtain ⟨a1, a2, a3, a4, a5, a6, a7⟩ := tk_spec hle hcr (by simpa using e)
      have hb : isBeen f.reach (iget f.tk c) := hR c hc _ (by rw [row_at hle hcr, a1]; simp [Block.nexts, a3])
      simp only [cond_false, List.mem_cons] at hx
      rcases hx with rfl | hx
      · exact hb
      · exact been_chain hle hR g _ hb x hx
theorem last_chain (hle : f.leads) : ∀ (g : Nat) (c : Int), ends f.tk g c = true → iget f.tk (lastOf (c :: chain f.tk g c)) = -1
  | 0, c, h => by simpa [ends, chain, lastOf] using h
  | g + 1, c, h => by
    unfold ends at h
    unfold chain
    cases e : iget f.tk c == -1 with
    | true => simpa [lastOf] using e
    | false =>
      rw [e] at h
      simp only [Bool.false_or] at h
      have := last_chain hle g _ h
      simpa [lastOf] using this
theorem paths_mem (hle : f.leads) : ∀ (m : Nat) {p : List Int}, p ∈ f.pathsTo m → ∃ k, k < m ∧ f.headOf k = true ∧ p = pathOf f.tk k
  | 0, p, h => by cases h
  | m + 1, p, h => by
    unfold BFunc.pathsTo at h
    cases e : f.headOf m with
    | false =>
      rw [e] at h
      obtain ⟨k, k1, k2⟩ := paths_mem hle m h
      exact ⟨k, by omega, k2⟩
    | true =>
      rw [e] at h
      simp only [cond_true, List.mem_append, List.mem_singleton] at h
      rcases h with h | rfl
      · obtain ⟨k, k1, k2⟩ := paths_mem hle m h
        exact ⟨k, by omega, k2⟩
      · exact ⟨m, by omega, e, rfl⟩
theorem nums_spec (hle : f.leads) : ∀ (m : Nat), m ≤ f.blocks.length → ∀ k, k < m → f.headOf k = true → ∃ i : Nat, iget (f.numsTo m) k = i ∧ (f.pathsTo m)[i]? = some (pathOf f.tk k)
  | 0, _, k, h, _ => absurd h (by omega)
  | m + 1, hm, k, hk, hh => by
    have hlen := numsTo_length f m
    cases e : f.headOf m with
    | false =>
      have hkm : k ≠ m := fun h => by rw [h, e] at hh; cases hh
      rw [numsTo_no e, pathsTo_no e]
      exact nums_spec hle m (by omega) k (by omega) hh
    | true =>
      rw [numsTo_yes e, pathsTo_yes e, iget_iset (by rw [hlen]; omega) (by omega)]
      by_cases hkm : k = m
      · subst hkm
        refine ⟨(f.pathsTo k).length, by simp, ?_⟩
        rw [List.getElem?_append_right (Nat.le_refl _), Nat.sub_self]; rfl
      · obtain ⟨i, i1, i2⟩ := nums_spec hle m (by omega) k (by omega) hh
        have hne : ((k : Int) == (m : Int)) = false := by simp; omega
        rw [hne]
        exact ⟨i, i1, by rw [List.getElem?_append_left (List.getElem?_eq_some_iff.1 i2).1]; exact i2⟩
theorem paths_first (hle : f.leads) (h0 : f.headOf 0 = true) : ∀ (m : Nat), 0 < m → (f.pathsTo m)[0]? = some (pathOf f.tk 0)
  | 0, h => absurd h (by omega)
  | 1, _ => by rw [pathsTo_yes h0]; rfl
  | m + 2, _ => by
    have ih := paths_first hle h0 (m + 1) (by omega)
    cases e : f.headOf (m + 1) with
    | false => rw [pathsTo_no e]; exact ih
    | true => rw [pathsTo_yes e, List.getElem?_append_left (List.getElem?_eq_some_iff.1 ih).1]; exact ih
theorem target (hle : f.leads) {l t : Int} (hR : ∀ k, isBeen f.reach k → ∀ t ∈ rowAt f.nexts k, isBeen f.reach t) (hl : isBeen f.reach l) (hlast : iget f.tk l = -1) (ht : t ∈ (f.blockAt l).nexts) : beginsB f.tpaths (iget f.nums t) t = true := by
  have hlr := been_in hle hl
  have htb : isBeen f.reach t := hR l hl t (by rw [row_at hle hlr]; exact ht)
  have htr := been_in hle htb
  have hh : f.headOf t.toNat = true := head_of hle htb (fun i hi e => by
    have hne : t ≠ -1 := by omega
    have := tk_only hle hi e hne hl ht
    subst this
    rw [hlast] at e
    omega)
  obtain ⟨i, i1, i2⟩ := nums_spec hle f.blocks.length (Nat.le_refl _) t.toNat (by omega) hh
  have et : ((t.toNat : Nat) : Int) = t := Int.toNat_of_nonneg htr.1
  rw [et] at i1 i2
  have hil := (List.getElem?_eq_some_iff.1 i2).1
  have hp : pathK f.tpaths (iget f.nums t) = pathOf f.tk t := by
    rw [show iget f.nums t = i from i1, pathK, Int.toNat_natCast]
    show ((f.pathsTo f.blocks.length)[i]?).getD [] = _
    rw [i2]; rfl
  refine beginsB_of (by rw [show iget f.nums t = i from i1]; omega) (by rw [show iget f.nums t = i from i1]; show (i : Int) < ((f.pathsTo f.blocks.length).length : Int); omega) ?_
  rw [hp]; rfl
/-- what is tidied holds -/
theorem tidy_holds (hle : f.leads) (hn : f.blocks ≠ []) : Holds f f.tidy f.tpaths := by
  have hnn : f.nexts ≠ [] := by simpa [BFunc.nexts] using hn
  obtain ⟨r0, rc⟩ := reach_closed hnn (leadN hle)
  have hR : ∀ k, isBeen f.reach k → ∀ t ∈ rowAt f.nexts k, isBeen f.reach t := rc
  have hpos := List.length_pos_iff.2 hn
  have h0 : f.headOf 0 = true := head_of hle (t := 0) r0 (fun i hi e => by
    have := tk_spec hle hi (by rw [e]; decide)
    rw [e] at this
    exact this.2.2.2.1 this.1.symm)
  have hfirst := paths_first hle h0 f.blocks.length hpos
  have hmem : ∀ (k : Nat) (p : List Int), f.tpaths[k]? = some p → ∃ c : Nat, f.headOf c = true ∧ p = pathOf f.tk c := fun k p hp => by
    obtain ⟨c, _, c2, c3⟩ := paths_mem hle _ (List.mem_of_getElem? hp)
    exact ⟨c, c2, c3⟩
  have hblk : ∀ (k : Nat) (p : List Int), f.tpaths[k]? = some p → f.tidy.blockAt k = f.newBlock p := fun k p hp => by
    simp [BFunc.blockAt, BFunc.tidy, hp]
  refine ⟨fun h => ?_, by simp [BFunc.tidy], rfl, paths_in hle _ (Nat.le_refl _), ?_, fun k p hp => ?_, fun k p hp => ?_, fun k p hp => ?_⟩
  · have := (List.getElem?_eq_some_iff.1 hfirst).1
    have h' : (f.pathsTo f.blocks.length).length = 0 := h
    omega
  · have : pathK f.tpaths 0 = pathOf f.tk 0 := by
      show ((f.pathsTo f.blocks.length)[0]?).getD [] = _
      rw [hfirst]; rfl
    rw [this]; rfl
  · obtain ⟨c, c1, rfl⟩ := hmem k p hp
    exact fol_chain hle _ _ (been_in hle (head_free hle c1).1)
  · rw [hblk k p hp]; rfl
  · obtain ⟨c, c1, rfl⟩ := hmem k p hp
    have hcb := (head_free hle c1).1
    have hne : pathOf f.tk c ≠ [] := by simp [pathOf]
    have hlb : isBeen f.reach (lastOf (pathOf f.tk c)) := by
      have := last_mem hne
      simp only [pathOf, List.mem_cons] at this
      rcases this with h | h
      · show isBeen f.reach (lastOf (↑c :: chain f.tk f.tk.length ↑c))
        rw [h]; exact hcb
      · exact been_chain hle hR _ _ hcb _ h
    have hlast : iget f.tk (lastOf (pathOf f.tk c)) = -1 := last_chain hle _ _ (head_ends hle c1)
    rw [hblk k _ hp]
    refine leadsB_of rfl rfl (fun e => ?_) (fun e => ?_) (fun e => ?_) (fun e => ?_)
    · have e' : ((f.blockAt (lastOf (pathOf f.tk c))).fin == 1 || (f.blockAt (lastOf (pathOf f.tk c))).fin == 2) = true := by
        have : (f.blockAt (lastOf (pathOf f.tk c))).fin = 1 ∨ (f.blockAt (lastOf (pathOf f.tk c))).fin = 2 := e
        simpa using this
      have hto : (f.newBlock (pathOf f.tk c)).to = iget f.nums (f.blockAt (lastOf (pathOf f.tk c))).to := by simp only [BFunc.newBlock, e', cond_true]
      rw [hto]
      refine target hle hR hlb hlast ?_
      have : (f.blockAt (lastOf (pathOf f.tk c))).fin = 1 ∨ (f.blockAt (lastOf (pathOf f.tk c))).fin = 2 := e
      rcases this with e | e <;> simp [Block.nexts, e]
    · have e' : ((f.blockAt (lastOf (pathOf f.tk c))).fin == 1 || (f.blockAt (lastOf (pathOf f.tk c))).fin == 2) = false := by
        have : ¬ ((f.blockAt (lastOf (pathOf f.tk c))).fin = 1 ∨ (f.blockAt (lastOf (pathOf f.tk c))).fin = 2) := e
        simpa using this
      simp only [BFunc.newBlock, e', cond_false]
    · have e' : (f.blockAt (lastOf (pathOf f.tk c))).fin = 2 := e
      have hel : (f.newBlock (pathOf f.tk c)).els = iget f.nums (f.blockAt (lastOf (pathOf f.tk c))).els := by simp [BFunc.newBlock, e']
      rw [hel]
      exact target hle hR hlb hlast (by simp [Block.nexts, e'])
    · have e' : ((f.blockAt (lastOf (pathOf f.tk c))).fin == 2) = false := by
        have : (f.blockAt (lastOf (pathOf f.tk c))).fin ≠ 2 := e
        simpa using this
      simp only [BFunc.newBlock, e', cond_false]
end
end Go.Proofs.Ytidfabbnobipkaa.Sv

namespace Go.Proofs.Ytidfabbnobipkaa.Sv
open Go
set_option linter.unusedVariables false
set_option linter.unusedSimpArgs false

inductive Reaches (next : List (List Int)) : Int → Prop
  | zero : Reaches next 0
  | step (k t : Int) : Reaches next k → t ∈ rowAt next k → Reaches next t
/-- nothing else is marked -/
structure DOnly (next : List (List Int)) (s : DS) : Prop where
  been : ∀ k, isBeen s.been k → Reaches next k
  way : ∀ p ∈ s.way, Reaches next p.1
theorem dinto_only {next : List (List Int)} {b : Int} {s : DS} (hb : Reaches next b) (h : DOnly next s) : DOnly next (dinto b s) := by
  unfold dinto
  cases e : notBeen s.been b with
  | false => exact h
  | true =>
    obtain ⟨h1, h2, h3⟩ := notBeen_get e
    simp only [cond_true]
    refine ⟨fun k hk => ?_, fun p hp => ?_⟩
    · obtain ⟨k1, k2⟩ := hk
      rw [List.getElem?_set] at k2
      by_cases hh : b.toNat = k.toNat
      · have : k = b := by omega
        rw [this]; exact hb
      · rw [if_neg hh] at k2
        exact h.been k ⟨k1, k2⟩
    · simp only [List.mem_append, List.mem_singleton] at hp
      rcases hp with hp | rfl
      · exact h.way p hp
      · exact hb
theorem dstep_only {next : List (List Int)} {s : DS} (hok : s.ok next) (h : DOnly next s) : DOnly next (dstep next s) := by
  unfold dstep
  split
  · exact h
  · rename_i b i e
    have hw := way_last e
    have hmem : (b, i) ∈ s.way := by rw [hw]; simp
    have hb := hok.way (b, i) hmem
    simp only at hb
    cases hi : decide (i < (rowAt next b).length) with
    | false => exact ⟨h.been, fun p hp => h.way p (List.dropLast_subset _ hp)⟩
    | true =>
      have hi' : i < (rowAt next b).length := by simpa using hi
      obtain ⟨t0, ht0⟩ := get_of_lt (l := rowAt next b) (k := i.toNat) (by omega)
      simp only [cond_true, ht0, Option.getD_some]
      refine dinto_only (.step b t0 (h.way _ hmem) (List.mem_of_getElem? ht0)) ⟨h.been, fun p hp => ?_⟩
      simp only [List.mem_append, List.mem_singleton] at hp
      rcases hp with hp | rfl
      · exact h.way p (List.dropLast_subset _ hp)
      · exact h.way (b, i) hmem
theorem drun_only {next : List (List Int)} : ∀ (g : Nat) (s : DS), s.ok next → DOnly next s → DOnly next (drun next g s)
  | 0, _, _, h => h
  | g + 1, s, hok, h => by
    unfold drun
    split
    · exact h
    · exact drun_only g _ (dstep_ok hok) (dstep_only hok h)
theorem reach_iff {next : List (List Int)} (hn : next ≠ []) (hlead : ∀ l ∈ next, ∀ t ∈ l, 0 ≤ t ∧ t < next.length) (k : Int) : isBeen (dreach next (List.replicate next.length false)) k ↔ Reaches next k := by
  obtain ⟨r0, rc⟩ := reach_closed hn hlead
  constructor
  · intro hk
    have hok0 : (DS.mk (List.replicate next.length false) []).ok next := ⟨by simp, fun p hp => by cases hp⟩
    have h0 : DOnly next (DS.mk (List.replicate next.length false) []) := ⟨fun k hk => (by
      have h2 : (List.replicate next.length false)[k.toNat]? = some true := hk.2
      have := List.eq_of_mem_replicate (List.mem_of_getElem? h2)
      cases this), fun p hp => (by cases hp)⟩
    exact (drun_only _ _ (dinto_ok hok0) (dinto_only .zero h0)).been k hk
  · intro hk
    induction hk with
    | zero => exact r0
    | step k t _ ht ih => exact rc k ih t ht
/-- two markings that mark the same are the same -/
theorem marks_ext {a b : List Bool} (hl : a.length = b.length) (h : ∀ k : Int, isBeen a k ↔ isBeen b k) : a = b := by
  apply List.ext_getElem?
  intro i
  by_cases hi : i < a.length
  · obtain ⟨x, hx⟩ := get_of_lt hi
    obtain ⟨y, hy⟩ := get_of_lt (l := b) (k := i) (by omega)
    have := h (i : Int)
    simp only [isBeen, Int.toNat_natCast, hx, hy] at this
    rw [hx, hy]
    have h0 : (0 : Int) ≤ (i : Int) := by omega
    cases x <;> cases y <;> simp_all
  · rw [List.getElem?_eq_none (by omega), List.getElem?_eq_none (by omega)]
/-- whoever is reached is the first one, or follows one that is reached -/
theorem reaches_pred {next : List (List Int)} {k : Int} (h : Reaches next k) : k = 0 ∨ ∃ l, Reaches next l ∧ k ∈ rowAt next l := by
  cases h with
  | zero => exact .inl rfl
  | step l _ h1 h2 => exact .inr ⟨l, h1, h2⟩
end Go.Proofs.Ytidfabbnobipkaa.Sv

namespace Go.Proofs.Ytidfabbnobipkaa.Sv
open Go
set_option linter.unusedVariables false
set_option linter.unusedSimpArgs false

/-! ### how many ways lead to one -/
def rowN (next : List (List Int)) (m : Nat) : List Int := (next[m]?).getD []
def cntTo (next : List (List Int)) (reach : List Bool) (k : Int) : Nat → Nat
  | 0 => 0
  | m + 1 => cntTo next reach k m + (bif (reach[m]?).getD false then (rowN next m).count k else 0)
theorem ways_cnt {next : List (List Int)} {reach : List Bool} (hlead : ∀ l ∈ next, ∀ t ∈ l, 0 ≤ t ∧ t < next.length) {k : Int} (hk : 0 ≤ k) : ∀ m, m ≤ next.length → iget (waysAt next reach m) k = (cntTo next reach k m : Int)
  | 0, _ => by
    unfold waysAt iget cntTo
    rw [List.getElem?_replicate]
    split <;> simp
  | m + 1, hm => by
    have ih := ways_cnt (reach := reach) hlead hk m (by omega)
    obtain ⟨l, hl⟩ := get_of_lt (l := next) (k := m) (by omega)
    have hlen := waysAt_length next reach m
    have e : waysAt next reach (m + 1) = bif (reach[m]?).getD false then l.foldl bump (waysAt next reach m) else waysAt next reach m := by
      rw [waysAt, hl]; rfl
    have e2 : rowN next m = l := by rw [rowN, hl]; rfl
    rw [e, cntTo, e2]
    cases (reach[m]?).getD false with
    | true => rw [cond_true, cond_true, bumps_count l _ k (fun t ht => by rw [hlen]; exact hlead l (List.mem_of_getElem? hl) t ht) hk, ih]; omega
    | false => rw [cond_false, cond_false, ih]; omega
theorem cnt_le {next : List (List Int)} {reach : List Bool} {k : Int} : ∀ {m i : Nat}, i < m → reach[i]? = some true → (rowN next i).count k ≤ cntTo next reach k m
  | 0, i, h, _ => absurd h (by omega)
  | m + 1, i, h, hr => by
    unfold cntTo
    by_cases him : i = m
    · subst him
      rw [hr]
      simp only [Option.getD_some, cond_true]; omega
    · have := cnt_le (next := next) (k := k) (m := m) (by omega) hr
      omega
theorem cnt_le2 {next : List (List Int)} {reach : List Bool} {k : Int} : ∀ {m i j : Nat}, i < j → j < m → reach[i]? = some true → reach[j]? = some true → (rowN next i).count k + (rowN next j).count k ≤ cntTo next reach k m
  | 0, i, j, _, h, _, _ => absurd h (by omega)
  | m + 1, i, j, hij, h, hri, hrj => by
    unfold cntTo
    by_cases hjm : j = m
    · subst hjm
      have := cnt_le (next := next) (k := k) (m := j) hij hri
      rw [hrj]
      simp only [Option.getD_some, cond_true]; omega
    · have := cnt_le2 (next := next) (k := k) (m := m) hij (by omega) hri hrj
      omega
theorem cnt_pos {next : List (List Int)} {reach : List Bool} {k : Int} : ∀ {m : Nat}, 1 ≤ cntTo next reach k m → ∃ i, i < m ∧ reach[i]? = some true ∧ k ∈ rowN next i
  | 0, h => by simp [cntTo] at h
  | m + 1, h => by
    unfold cntTo at h
    by_cases h1 : 1 ≤ cntTo next reach k m
    · obtain ⟨i, i1, i2, i3⟩ := cnt_pos h1
      exact ⟨i, by omega, i2, i3⟩
    · cases e : reach[m]? with
      | none => rw [e] at h; simp at h; omega
      | some v =>
        cases v with
        | false => rw [e] at h; simp at h; omega
        | true =>
          rw [e] at h
          simp only [Option.getD_some, cond_true] at h
          exact ⟨m, by omega, e, List.count_pos_iff.1 (by omega)⟩
theorem cnt_two {next : List (List Int)} {reach : List Bool} {k : Int} : ∀ {m : Nat}, 2 ≤ cntTo next reach k m →
    (∃ i j, i < j ∧ j < m ∧ reach[i]? = some true ∧ reach[j]? = some true ∧ k ∈ rowN next i ∧ k ∈ rowN next j) ∨ (∃ i, i < m ∧ reach[i]? = some true ∧ 2 ≤ (rowN next i).count k)
  | 0, h => by simp [cntTo] at h
  | m + 1, h => by
    unfold cntTo at h
    by_cases h2 : 2 ≤ cntTo next reach k m
    · rcases cnt_two h2 with ⟨i, j, a, b, c⟩ | ⟨i, a, b⟩
      · exact .inl ⟨i, j, a, by omega, c⟩
      · exact .inr ⟨i, by omega, b⟩
    · have e : reach[m]? = some true := by
        cases e : reach[m]? with
        | none => rw [e] at h; simp at h; omega
        | some v =>
          cases v with
          | false => rw [e] at h; simp at h; omega
          | true => rfl
      rw [e] at h
      simp only [Option.getD_some, cond_true] at h
      by_cases h1 : 1 ≤ cntTo next reach k m
      · obtain ⟨i, i1, i2, i3⟩ := cnt_pos h1
        exact .inl ⟨i, m, i1, by omega, i2, e, i3, List.count_pos_iff.1 (by omega)⟩
      · exact .inr ⟨m, by omega, e, by omega⟩
/-! ### chains -/
theorem lastOf_cons {x y : Int} {r : List Int} : lastOf (x :: y :: r) = lastOf (y :: r) := by simp [lastOf]
theorem chain_stop {tk : List Int} : ∀ (g : Nat) (c x : Int), x ∈ c :: chain tk g c → iget tk x = -1 → x = lastOf (c :: chain tk g c)
  | 0, c, x, hx, _ => by simpa [chain, lastOf] using hx
  | g + 1, c, x, hx, h => by
    unfold chain at hx ⊢
    cases e : iget tk c == -1 with
    | true => rw [e] at hx; simpa [lastOf] using hx
    | false =>
      rw [e] at hx
      simp only [cond_false] at hx ⊢
      rw [lastOf_cons]
      rcases List.mem_cons.1 hx with rfl | hx
      · rw [h] at e; simp at e
      · exact chain_stop g _ x hx h
theorem chain_next {tk : List Int} : ∀ (g : Nat) (c x : Int), ends tk g c = true → x ∈ c :: chain tk g c → iget tk x ≠ -1 → iget tk x ∈ c :: chain tk g c
  | 0, c, x, he, hx, h => by
    simp [chain] at hx
    subst hx
    simp [ends] at he
    exact absurd he h
  | g + 1, c, x, he, hx, h => by
    unfold ends at he
    unfold chain at hx ⊢
    cases e : iget tk c == -1 with
    | true =>
      rw [e] at hx
      simp at hx
      subst hx
      simp at e
      exact absurd e h
    | false =>
      rw [e] at hx he
      simp only [cond_false, Bool.false_or] at hx he ⊢
      rcases List.mem_cons.1 hx with rfl | hx
      · simp
      · exact List.mem_cons_of_mem _ (chain_next g _ x he hx h)
theorem chain_taken {tk : List Int} : ∀ (g : Nat) (c x : Int), x ∈ chain tk g c → ∃ u, u ∈ c :: chain tk g c ∧ iget tk u = x ∧ x ≠ -1
  | 0, c, x, hx => by cases hx
  | g + 1, c, x, hx => by
    unfold chain at hx ⊢
    cases e : iget tk c == -1 with
    | true => rw [e] at hx; cases hx
    | false =>
      rw [e] at hx
      simp only [cond_false] at hx ⊢
      rcases List.mem_cons.1 hx with rfl | hx
      · exact ⟨c, by simp, rfl, by simpa using e⟩
      · obtain ⟨u, u1, u2⟩ := chain_taken g _ x hx
        exact ⟨u, List.mem_cons_of_mem _ u1, u2⟩
section
variable {f : BFunc}
theorem paths_sorted (f : BFunc) : ∀ m, List.Pairwise (fun p q => headZ p < headZ q) (f.pathsTo m) ∧ ∀ p ∈ f.pathsTo m, headZ p < m
  | 0 => ⟨List.Pairwise.nil, fun p hp => by cases hp⟩
  | m + 1 => by
    obtain ⟨h1, h2⟩ := paths_sorted f m
    cases e : f.headOf m with
    | false => rw [pathsTo_no e]; exact ⟨h1, fun p hp => by have := h2 p hp; omega⟩
    | true =>
      rw [pathsTo_yes e]
      refine ⟨List.pairwise_append.2 ⟨h1, List.pairwise_singleton _ _, fun a ha b hb => ?_⟩, fun p hp => ?_⟩
      · simp only [List.mem_singleton] at hb
        subst hb
        exact h2 a ha
      · simp only [List.mem_append, List.mem_singleton] at hp
        rcases hp with hp | rfl
        · have := h2 p hp; omega
        · show (m : Int) < ((m + 1 : Nat) : Int); omega
theorem head_index {i j : Nat} {p q : List Int} (hi : f.tpaths[i]? = some p) (hj : f.tpaths[j]? = some q) (h : headZ p = headZ q) : i = j := by
  have hs : List.Pairwise (fun p q => headZ p < headZ q) f.tpaths := (paths_sorted f f.blocks.length).1
  obtain ⟨i1, i2⟩ := List.getElem?_eq_some_iff.1 hi
  obtain ⟨j1, j2⟩ := List.getElem?_eq_some_iff.1 hj
  rcases Nat.lt_trichotomy i j with hlt | rfl | hlt
  · have := List.pairwise_iff_getElem.1 hs i j i1 j1 hlt
    rw [i2, j2] at this
    omega
  · rfl
  · have := List.pairwise_iff_getElem.1 hs j i j1 i1 hlt
    rw [i2, j2] at this
    omega
theorem path_at (hle : f.leads) {k : Nat} {p : List Int} (h : f.tpaths[k]? = some p) : ∃ c : Nat, f.headOf c = true ∧ p = pathOf f.tk c := by
  obtain ⟨c, _, c2, c3⟩ := paths_mem hle _ (List.mem_of_getElem? h)
  exact ⟨c, c2, c3⟩
theorem path_of (hle : f.leads) {c : Nat} (h : f.headOf c = true) : ∃ i : Nat, iget f.nums c = i ∧ f.tpaths[i]? = some (pathOf f.tk c) := by
  have := been_in hle (head_free hle h).1
  exact nums_spec hle f.blocks.length (Nat.le_refl _) c (by omega) h
/-- what a last one leads to is a head -/
theorem last_head (hle : f.leads) (hR : ∀ k, isBeen f.reach k → ∀ t ∈ rowAt f.nexts k, isBeen f.reach t) {l t : Int} (hl : isBeen f.reach l) (hlast : iget f.tk l = -1) (ht : t ∈ (f.blockAt l).nexts) : f.headOf t.toNat = true ∧ ((t.toNat : Nat) : Int) = t := by
  have hlr := been_in hle hl
  have htb : isBeen f.reach t := hR l hl t (by rw [row_at hle hlr]; exact ht)
  have htr := been_in hle htb
  refine ⟨head_of hle htb (fun i hi e => ?_), Int.toNat_of_nonneg htr.1⟩
  have hne : t ≠ -1 := by omega
  have := tk_only hle hi e hne hl ht
  subst this
  rw [hlast] at e
  omega
theorem newBlock_nexts (p : List Int) : (f.newBlock p).nexts = ((f.blockAt (lastOf p)).nexts).map (iget f.nums) := by
  simp only [Block.nexts, BFunc.newBlock]
  cases e1 : (f.blockAt (lastOf p)).fin == 1 with
  | true => simp
  | false =>
    cases e2 : (f.blockAt (lastOf p)).fin == 2 with
    | true => simp
    | false => simp
theorem tidy_row {k : Nat} {p : List Int} (h : f.tpaths[k]? = some p) : f.tidy.nexts[k]? = some (((f.blockAt (lastOf p)).nexts).map (iget f.nums)) := by
  have : f.tidy.blocks[k]? = some (f.newBlock p) := by simp [BFunc.tidy, h]
  rw [nexts_get this, newBlock_nexts]
theorem tidy_rowAt {k : Nat} {p : List Int} (h : f.tpaths[k]? = some p) : rowAt f.tidy.nexts k = ((f.blockAt (lastOf p)).nexts).map (iget f.nums) := by
  rw [rowAt, Int.toNat_natCast, tidy_row h]; rfl
theorem reach_cl (hle : f.leads) (hn : f.blocks ≠ []) : isBeen f.reach 0 ∧ ∀ k, isBeen f.reach k → ∀ t ∈ rowAt f.nexts k, isBeen f.reach t := by
  have hnn : f.nexts ≠ [] := by simpa [BFunc.nexts] using hn
  exact reach_closed hnn (leadN hle)
theorem reach_is (hle : f.leads) (hn : f.blocks ≠ []) (k : Int) : isBeen f.reach k ↔ Reaches f.nexts k := by
  have hnn : f.nexts ≠ [] := by simpa [BFunc.nexts] using hn
  exact reach_iff hnn (leadN hle) k
theorem head_zero (hle : f.leads) (hn : f.blocks ≠ []) : f.headOf 0 = true := head_of hle (t := 0) (reach_cl hle hn).1 (fun i hi e => by
    have := tk_spec hle hi (by rw [e]; decide)
    rw [e] at this
    exact this.2.2.2.1 this.1.symm)
theorem first_path (hle : f.leads) (hn : f.blocks ≠ []) : f.tpaths[0]? = some (pathOf f.tk 0) := paths_first hle (head_zero hle hn) f.blocks.length (List.length_pos_iff.2 hn)
/-- whatever is reached lies on a path whose new block is reached -/
theorem cover (hle : f.leads) (hn : f.blocks ≠ []) {t : Int} (h : Reaches f.nexts t) : ∃ (k : Nat) (p : List Int), f.tpaths[k]? = some p ∧ t ∈ p ∧ Reaches f.tidy.nexts k := by
  have hR := (reach_cl hle hn).2
  induction h with
  | zero => exact ⟨0, _, first_path hle hn, by simp [pathOf], .zero⟩
  | step l t hl ht ih =>
    obtain ⟨k, p, hp, hlp, hk⟩ := ih
    obtain ⟨c, hc, rfl⟩ := path_at hle hp
    have hlb := (reach_is hle hn l).2 hl
    have hlr := been_in hle hlb
    rw [row_at hle hlr] at ht
    by_cases htk : iget f.tk l = -1
    · obtain ⟨hh, et⟩ := last_head hle hR hlb htk ht
      obtain ⟨i, i1, i2⟩ := path_of hle hh
      rw [et] at i1 i2
      refine ⟨i, _, i2, by simp [pathOf], ?_⟩
      refine .step k i hk ?_
      have hst : l = lastOf (pathOf f.tk c) := chain_stop _ _ _ hlp htk
      rw [tidy_rowAt hp, ← hst, ← i1]
      exact List.mem_map_of_mem ht
    · have hs := tk_spec hle hlr htk
      have : t = iget f.tk l := by
        rw [hs.1]
        simpa [Block.nexts, hs.2.2.1] using ht
      refine ⟨k, _, hp, ?_, hk⟩
      rw [this]
      exact chain_next _ _ _ (head_ends hle hc) hlp htk
theorem head_on {c d : Nat} (hle : f.leads) (hc : f.headOf c = true) (hd : f.headOf d = true) (h : (d : Int) ∈ pathOf f.tk c) : d = c := by
  rcases List.mem_cons.1 h with h | h
  · omega
  · exfalso
    obtain ⟨u, u1, u2, u3⟩ := chain_taken _ _ _ h
    have hcr := been_in hle (head_free hle hc).1
    have hur : 0 ≤ u ∧ u < f.blocks.length := by
      have hl : f.tk.length = f.blocks.length := takes_length f _
      rcases List.mem_cons.1 u1 with rfl | hu
      · exact hcr
      · have hl' : ((f.takes f.reach).length : Int) = f.blocks.length := by rw [takes_length]
        have := chain_in (takes_in hle f.reach) f.tk.length c (by rw [hl']; exact hcr) u hu
        rw [hl'] at this; exact this
    exact (head_free hle hd).2 u hur u2
/-- all new blocks are reached -/
theorem tidy_reached (hle : f.leads) (hn : f.blocks ≠ []) {k : Nat} (hk : k < f.tidy.blocks.length) : Reaches f.tidy.nexts k := by
  obtain ⟨p, hp⟩ := get_of_lt (l := f.tpaths) (k := k) (by simpa [BFunc.tidy] using hk)
  obtain ⟨c, hc, rfl⟩ := path_at hle hp
  obtain ⟨k2, q, hq, hcq, hr⟩ := cover hle hn ((reach_is hle hn c).1 (head_free hle hc).1)
  obtain ⟨d, hd, rfl⟩ := path_at hle hq
  have := head_on hle hd hc hcq
  subst this
  rw [head_index hp hq rfl]; exact hr
end
end Go.Proofs.Ytidfabbnobipkaa.Sv

namespace Go.Proofs.Ytidfabbnobipkaa.Sv
open Go
set_option linter.unusedVariables false
set_option linter.unusedSimpArgs false

section
variable {f : BFunc}
theorem last_row (hle : f.leads) (hn : f.blocks ≠ []) {u : Int} (hu : isBeen f.reach u) (h : iget f.tk u = -1) : ∃ (k : Nat) (p : List Int), f.tpaths[k]? = some p ∧ lastOf p = u := by
  obtain ⟨k, p, hp, hup, _⟩ := cover hle hn ((reach_is hle hn u).1 hu)
  obtain ⟨c, hc, rfl⟩ := path_at hle hp
  exact ⟨k, _, hp, (chain_stop _ _ _ hup h).symm⟩
/-- who leads to a head is a last one -/
theorem lead_last (hle : f.leads) {u t : Int} (hu : isBeen f.reach u) (ht : t ∈ (f.blockAt u).nexts) (hh : f.headOf t.toNat = true) (et : ((t.toNat : Nat) : Int) = t) : iget f.tk u = -1 := by
  by_cases h : iget f.tk u = -1
  · exact h
  · exfalso
    have hur := been_in hle hu
    have hs := tk_spec hle hur h
    have : t = iget f.tk u := by
      rw [hs.1]
      simpa [Block.nexts, hs.2.2.1] using ht
    exact (head_free hle hh).2 u hur (by rw [et]; exact this.symm)
theorem tidy_rowN {k : Nat} {p : List Int} (h : f.tpaths[k]? = some p) : rowN f.tidy.nexts k = ((f.blockAt (lastOf p)).nexts).map (iget f.nums) := by
  rw [rowN, tidy_row h]; rfl
theorem rowN_at (hle : f.leads) {u : Nat} (hu : u < f.blocks.length) : rowN f.nexts u = (f.blockAt u).nexts := by
  have := blockAt_get (f := f) (i := (u : Int)) (by omega)
  rw [Int.toNat_natCast] at this
  rw [rowN, nexts_get this]; rfl
theorem last_been (hle : f.leads) (hn : f.blocks ≠ []) {k : Nat} {p : List Int} (h : f.tpaths[k]? = some p) : isBeen f.reach (lastOf p) ∧ iget f.tk (lastOf p) = -1 ∧ lastOf p ∈ p := by
  have hR := (reach_cl hle hn).2
  obtain ⟨c, c1, rfl⟩ := path_at hle h
  have hcb := (head_free hle c1).1
  have hne : pathOf f.tk c ≠ [] := by simp [pathOf]
  have hm := last_mem hne
  refine ⟨?_, last_chain hle _ _ (head_ends hle c1), hm⟩
  simp only [pathOf, List.mem_cons] at hm
  rcases hm with hm | hm
  · show isBeen f.reach (lastOf (↑c :: chain f.tk f.tk.length ↑c))
    rw [hm]; exact hcb
  · exact been_chain hle hR _ _ hcb _ hm
theorem tidy_leads (hle : f.leads) (hn : f.blocks ≠ []) : f.tidy.leads := fun l hl t' ht' => by
  have hR := (reach_cl hle hn).2
  obtain ⟨k, hk⟩ := List.getElem?_of_mem hl
  have hkl : k < f.tpaths.length := by
    have := (List.getElem?_eq_some_iff.1 hk).1
    simpa [BFunc.nexts, BFunc.tidy] using this
  obtain ⟨p, hp⟩ := get_of_lt hkl
  rw [tidy_row hp] at hk
  cases hk
  obtain ⟨t, ht, rfl⟩ := List.mem_map.1 ht'
  obtain ⟨b1, b2, _⟩ := last_been hle hn hp
  obtain ⟨hh, et⟩ := last_head hle hR b1 b2 ht
  obtain ⟨i, i1, i2⟩ := path_of hle hh
  rw [et] at i1
  have := (List.getElem?_eq_some_iff.1 i2).1
  rw [i1]
  simp only [BFunc.tidy, List.length_map]
  omega
theorem tidy_ne (hle : f.leads) (hn : f.blocks ≠ []) : f.tidy.blocks ≠ [] := fun h => by
  have := (List.getElem?_eq_some_iff.1 (first_path hle hn)).1
  have h2 : f.tpaths.length = 0 := by simpa [BFunc.tidy] using h
  omega
theorem no_join (hle : f.leads) (hn : f.blocks ≠ []) {marks : List Bool} (hm : ∀ j, j < f.tidy.blocks.length → marks[j]? = some true) {i k : Nat} {x : Block} (hx : f.tidy.blocks[i]? = some x) (hfin : x.fin = 1) (hto : x.to = (k : Int)) (hk : 1 ≤ k) (hik : i ≠ k)
    (hc : cntTo f.tidy.nexts marks k f.tidy.blocks.length ≤ 1) : False := by
  have hR := (reach_cl hle hn).2
  have hil : i < f.tpaths.length := by
    have := (List.getElem?_eq_some_iff.1 hx).1
    simpa [BFunc.tidy] using this
  obtain ⟨p, hp⟩ := get_of_lt hil
  have hxp : x = f.newBlock p := by
    simp only [BFunc.tidy, List.getElem?_map, hp, Option.map_some, Option.some.injEq] at hx
    exact hx.symm
  subst hxp
  obtain ⟨b1, b2, b3⟩ := last_been hle hn hp
  have hfl : (f.blockAt (lastOf p)).fin = 1 := hfin
  have hto' : iget f.nums (f.blockAt (lastOf p)).to = k := by
    rw [← hto]; simp [BFunc.newBlock, hfl]
  have hlr := been_in hle b1
  obtain ⟨hh, et⟩ := last_head hle hR b1 b2 (t := (f.blockAt (lastOf p)).to) (by simp [Block.nexts, hfl])
  generalize hT : (f.blockAt (lastOf p)).to = t at *
  obtain ⟨k2, k3, k4⟩ := path_of hle hh
  rw [et] at k3 k4
  have hkk : k2 = k := by omega
  subst hkk
  have htb := (head_free hle hh).1
  rw [et] at htb
  have htr := been_in hle htb
  have h0 : t ≠ 0 := fun e => by
    subst e
    have := head_index k4 (first_path hle hn) rfl
    omega
  have hl : t ≠ lastOf p := fun e => by
    obtain ⟨c, hcc, rfl⟩ := path_at hle hp
    have := head_on hle hcc hh (by rw [et, e]; exact b3)
    refine hik (head_index hp k4 ?_)
    show (c : Int) = t
    omega
  have hways : iget (waysF f.nexts f.reach) t = 1 := by
    have e := ways_cnt (reach := f.reach) (leadN hle) htr.1 f.nexts.length (Nat.le_refl _)
    have ge : 1 ≤ cntTo f.nexts f.reach t f.nexts.length := by
      have h1 := cnt_le (next := f.nexts) (k := t) (m := f.nexts.length) (i := (lastOf p).toNat) (by rw [nexts_length]; omega) b1.2
      have h2 : 1 ≤ (rowN f.nexts (lastOf p).toNat).count t := List.count_pos_iff.2 (by
        rw [rowN_at hle (by omega), Int.toNat_of_nonneg hlr.1]
        simp [Block.nexts, hfl, hT])
      omega
    have le : ¬ 2 ≤ cntTo f.nexts f.reach t f.nexts.length := fun h2 => by
      have hrow : ∀ u : Nat, u < f.nexts.length → f.reach[u]? = some true → t ∈ rowN f.nexts u → ∃ (ku : Nat) (q : List Int), f.tpaths[ku]? = some q ∧ lastOf q = u ∧ (rowN f.nexts u).count t ≤ (rowN f.tidy.nexts ku).count (k2 : Int) ∧ ku < f.tidy.blocks.length := fun u hu hru htu => by
        rw [nexts_length] at hu
        rw [rowN_at hle hu] at htu ⊢
        have hub : isBeen f.reach (u : Int) := ⟨by omega, by rw [Int.toNat_natCast]; exact hru⟩
        obtain ⟨ku, q, hq, hlq⟩ := last_row hle hn hub (lead_last hle hub htu hh et)
        refine ⟨ku, q, hq, hlq, ?_, ?_⟩
        · rw [tidy_rowN hq, hlq, ← k3]
          exact List.count_le_count_map
        · have := (List.getElem?_eq_some_iff.1 hq).1
          simpa [BFunc.tidy] using this
      rcases cnt_two h2 with ⟨u, v, huv, hv, hru, hrv, htu, htv⟩ | ⟨u, hu, hru, hcu⟩
      · obtain ⟨ku, q, hq, hlq, hcq, hkq⟩ := hrow u (by omega) hru htu
        obtain ⟨kv, q', hq', hlq', hcq', hkq'⟩ := hrow v hv hrv htv
        have c1 : 1 ≤ (rowN f.nexts u).count t := List.count_pos_iff.2 htu
        have c2 : 1 ≤ (rowN f.nexts v).count t := List.count_pos_iff.2 htv
        rcases Nat.lt_trichotomy ku kv with h | h | h
        · have := cnt_le2 (next := f.tidy.nexts) (reach := marks) (k := (k2 : Int)) h hkq' (hm _ hkq) (hm _ hkq')
          omega
        · subst h
          rw [hq] at hq'
          cases hq'
          omega
        · have := cnt_le2 (next := f.tidy.nexts) (reach := marks) (k := (k2 : Int)) h hkq (hm _ hkq') (hm _ hkq)
          omega
      · obtain ⟨ku, q, hq, hlq, hcq, hkq⟩ := hrow u hu hru (List.count_pos_iff.1 (by omega))
        have := cnt_le (next := f.tidy.nexts) (reach := marks) (k := (k2 : Int)) hkq (hm _ hkq)
        omega
    unfold waysF
    omega
  have htk := tk_at hle hlr
  rw [b2] at htk
  unfold takeOf at htk
  have e1 : (f.reach[(lastOf p).toNat]?).getD false = true := by rw [b1.2]; rfl
  have e3 : ((lastOf p).toNat : Int) = lastOf p := Int.toNat_of_nonneg hlr.1
  rw [e1, hfl, hT, hways, e3] at htk
  have : ((1 : Int) == 1 && (t != 0 && (t != lastOf p && ((1 : Int) == 1)))) = true := by simp [h0, hl]
  rw [this] at htk
  simp at htk
  omega
/-! ### tidied again -/
structure Done (g : BFunc) : Prop where
  reach : ∀ k : Nat, k < g.blocks.length → isBeen g.reach k
  tk : ∀ i : Int, 0 ≤ i ∧ i < g.blocks.length → iget g.tk i = -1
theorem tidy_done (hle : f.leads) (hn : f.blocks ≠ []) : Done f.tidy := by
  have hle' := tidy_leads hle hn
  have hn' := tidy_ne hle hn
  have hr : ∀ k : Nat, k < f.tidy.blocks.length → isBeen f.tidy.reach k := fun k hk => (reach_is hle' hn' k).2 (tidy_reached hle hn hk)
  refine ⟨hr, fun i hi => ?_⟩
  by_cases h : iget f.tidy.tk i = -1
  · exact h
  · exfalso
    obtain ⟨a1, a2, a3, a4, a5, a6, a7⟩ := tk_spec hle' hi h
    have hne : (f.tidy.blockAt i).to ≠ i := fun e => by
      rw [tk_at hle' hi] at h
      unfold takeOf at h
      rw [Int.toNat_of_nonneg hi.1, e] at h
      simp at h
    have e := ways_cnt (reach := f.tidy.reach) (leadN hle') a6 f.tidy.nexts.length (Nat.le_refl _)
    unfold waysF at a5
    rw [nexts_length] at e a5
    refine no_join hle hn (marks := f.tidy.reach) (i := i.toNat) (k := (f.tidy.blockAt i).to.toNat) (fun j hj => (by have := (hr j hj).2; rwa [Int.toNat_natCast] at this)) (blockAt_get hi) a3 (by omega) (by omega) (by omega) ?_
    rw [Int.toNat_of_nonneg a6]
    omega
section
variable {g : BFunc}
theorem done_head (hle : g.leads) (hd : Done g) {k : Nat} (hk : k < g.blocks.length) : g.headOf k = true := by
  have := head_of hle (t := (k : Int)) (hd.reach k hk) (fun i hi e => by rw [hd.tk i hi] at e; omega)
  rwa [Int.toNat_natCast] at this
theorem done_path (hle : g.leads) (hd : Done g) {k : Nat} (hk : k < g.blocks.length) : pathOf g.tk k = [(k : Int)] := by
  have := hd.tk k (by omega)
  unfold pathOf
  cases g.tk.length with
  | zero => rfl
  | succ n => simp [chain, this]
theorem done_pathsTo (hle : g.leads) (hd : Done g) : ∀ m, m ≤ g.blocks.length → g.pathsTo m = (List.range m).map fun (k : Nat) => [(k : Int)]
  | 0, _ => rfl
  | m + 1, hm => by
    rw [pathsTo_yes (done_head hle hd (by omega)), done_pathsTo hle hd m (by omega), done_path hle hd (by omega), List.range_succ, List.map_append]
    rfl
theorem done_tpaths (hle : g.leads) (hd : Done g) : g.tpaths = (List.range g.blocks.length).map fun (k : Nat) => [(k : Int)] := done_pathsTo hle hd _ (Nat.le_refl _)
theorem done_num (hle : g.leads) (hd : Done g) {t : Int} (ht : 0 ≤ t ∧ t < g.blocks.length) : iget g.nums t = t := by
  obtain ⟨i, i1, i2⟩ := path_of hle (done_head hle hd (k := t.toNat) (by omega))
  rw [Int.toNat_of_nonneg ht.1] at i1 i2
  have hp := done_path hle hd (k := t.toNat) (by omega)
  rw [Int.toNat_of_nonneg ht.1] at hp
  rw [hp, done_tpaths hle hd, List.getElem?_map] at i2
  have hil : i < g.blocks.length := by
    by_cases h : i < g.blocks.length
    · exact h
    · rw [List.getElem?_eq_none (by simp; omega)] at i2; cases i2
  rw [range_get hil] at i2
  simp at i2
  omega
theorem done_block (hle : g.leads) (hd : Done g) {k : Nat} {x : Block} (hx : g.blocks[k]? = some x) : g.newBlock [(k : Int)] = x := by
  have hb : g.blockAt k = x := by simp [BFunc.blockAt, hx]
  have hl : lastOf [(k : Int)] = k := rfl
  obtain ⟨ins, fin, v, to, els⟩ := x
  simp only [BFunc.newBlock, hl, hb, BFunc.joined, List.flatMap_cons, List.flatMap_nil, List.append_nil]
  congr 1
  · cases e : (fin == 1 || fin == 2) with
    | false => rfl
    | true =>
      exact done_num hle hd (leads_to hle hx (by simpa using e))
  · cases e : fin == 2 with
    | false => rfl
    | true => exact done_num hle hd (leads_els hle hx (by simpa using e))
theorem done_tidy (hle : g.leads) (hd : Done g) : g.tidy = g := by
  have h : g.tpaths.map g.newBlock = g.blocks := by
    apply List.ext_getElem?
    intro k
    rw [done_tpaths hle hd, List.map_map, List.getElem?_map]
    by_cases hk : k < g.blocks.length
    · obtain ⟨x, hx⟩ := get_of_lt hk
      rw [range_get hk, hx]
      simp only [Option.map_some, Function.comp]
      rw [done_block hle hd hx]
    · rw [List.getElem?_eq_none (by simp; omega), List.getElem?_eq_none (by omega)]; rfl
  unfold BFunc.tidy
  rw [h]
end
/-- tidied again it is as it is -/
theorem tidy_twice (hle : f.leads) (hn : f.blocks ≠ []) : f.tidy.tidy = f.tidy ∧ f.tidy.tpaths = (List.range f.tidy.blocks.length).map (fun (k : Nat) => [(k : Int)]) ∧ ∀ k : Nat, k < f.tidy.blocks.length → f.tidy.reach[k]? = some true := by
  have hle' := tidy_leads hle hn
  have hd := tidy_done hle hn
  refine ⟨done_tidy hle' hd, done_tpaths hle' hd, fun k hk => ?_⟩
  have := (hd.reach k hk).2
  rwa [Int.toNat_natCast] at this
/-- nothing is left to join -/
theorem tidy_most (hle : f.leads) (hn : f.blocks ≠ []) {k : Nat} (hk : 1 ≤ k) (hkl : k < f.tidy.blocks.length) {marks : List Bool} (hm : ∀ j, j < f.tidy.blocks.length → marks[j]? = some true) :
    1 ≤ cntTo f.tidy.nexts marks k f.tidy.blocks.length ∧ ∀ (i : Nat) (x : Block), f.tidy.blocks[i]? = some x → cntTo f.tidy.nexts marks k f.tidy.blocks.length = 1 → i ≠ k → x.fin = 1 → (k : Int) ∉ rowN f.tidy.nexts i := by
  have hle' := tidy_leads hle hn
  have hn' := tidy_ne hle hn
  refine ⟨?_, fun i x hx h1 hik hfin hmem => ?_⟩
  · rcases reaches_pred (tidy_reached hle hn hkl) with h | ⟨l, hl, hkm⟩
    · omega
    · have hlb := (reach_is hle' hn' l).2 hl
      have hlr := been_in hle' hlb
      have h1 := cnt_le (next := f.tidy.nexts) (k := (k : Int)) (m := f.tidy.blocks.length) (i := l.toNat) (by omega) (hm l.toNat (by omega))
      have h2 : 1 ≤ (rowN f.tidy.nexts l.toNat).count (k : Int) := List.count_pos_iff.2 hkm
      omega
  · rw [rowN, nexts_get hx] at hmem
    simp only [Option.getD_some, Block.nexts, hfin] at hmem
    have : (k : Int) = x.to := by simpa using hmem
    exact no_join hle hn hm hx hfin this.symm hk hik (by omega)
end
end Go.Proofs.Ytidfabbnobipkaa.Sv

namespace Go.Proofs.Ytidfabbnobipkaa.Sv
open Go
set_option linter.unusedVariables false
set_option linter.unusedSimpArgs false
theorem idx_mapN {α : Type} {l : List α} {f : α → List AV} {n : Int} {x : α} (h : l[n.toNat]? = some x) : (l.map f)[n.toNat]? = some (f x) := by
  rw [List.getElem?_map, h]; rfl
theorem tameS {b : Blocks} {most : Int} (hm : most ≤ 1000) (h : b.small most = true) {i : Nat} {f : BFunc} (hf : b.funcs[i]? = some f) : f.tame ∧ f.blocks ≠ [] ∧ (∀ x ∈ f.blocks, x.ins.length ≤ most) ∧ (f.blocks.length : Int) ≤ 255 := by
  have hsp := small_spec h
  have hfm := List.mem_of_getElem? hf
  have hone := (right_spec hsp.2.2.2.2).2.2.2 i f hf
  have hle := leads_of_one hone
  have hin : ∀ x ∈ f.blocks, (x.ins.length : Int) ≤ most := fun x hx => by
    have := count_ins hfm hx
    have := hsp.2.2.2.1
    omega
  refine ⟨⟨by have := (hsp.2.2.1 f hfm).2; omega, fun x hx => ?_, hle, fun k hk => head_ends hle hk⟩, (one_spec hone).2.2.1, hin, ?_⟩
  · have := hin x hx; omega
  · have := (hsp.2.2.1 f hfm).2; omega
/-- how many there are, so far; from where the last one came -/
def frOk (next : List (List Int)) (k : Int) (n : Nat) (fr : Int) : Prop := 1 ≤ n → ∃ i : Nat, fr = (i : Int) ∧ i < next.length ∧ k ∈ rowN next i
def allT (n : Nat) : List Bool := List.replicate n true
theorem allT_get {n j : Nat} (h : j < n) : (allT n)[j]? = some true := by simp [allT, h]
theorem cnt_bound {next : List (List Int)} {reach : List Bool} {k : Int} (h2 : ∀ l ∈ next, l.length ≤ 2) : ∀ m, cntTo next reach k m ≤ 2 * m
  | 0 => Nat.le_refl _
  | m + 1 => by
    have ih := cnt_bound (reach := reach) (k := k) h2 m
    have hl : (rowN next m).length ≤ 2 := by
      unfold rowN
      cases e : next[m]? with
      | none => simp
      | some l => exact h2 l (List.mem_of_getElem? e)
    have := List.count_le_length (a := k) (l := rowN next m)
    unfold cntTo
    cases (reach[m]?).getD false <;> simp only [cond_true, cond_false] <;> omega
theorem cnt_allT {next : List (List Int)} {k : Int} {j n : Nat} {row : List Int} (hj : j < n) (hr : next[j]? = some row) : cntTo next (allT n) k (j + 1) = cntTo next (allT n) k j + row.count k := by
  rw [cntTo, allT_get hj, rowN, hr]; rfl
theorem count_hit {row : List Int} {m : Nat} {y k : Int} (hy : row[m]? = some y) (h : (y == k) = true) (n : Nat) : n + (row.take (m + 1)).count k = n + (row.take m).count k + 1 := by
  rw [take_succ_eq hy, List.count_append, List.count_cons, h]; simp; omega
theorem count_miss {row : List Int} {m : Nat} {y k : Int} (hy : row[m]? = some y) (h : (y == k) = false) (n : Nat) : n + (row.take (m + 1)).count k = n + (row.take m).count k := by
  rw [take_succ_eq hy, List.count_append, List.count_cons, h]; simp
/-- the next state of the count -/
def frNext (k : Int) (j : Nat) (y fr : Int) : Int := bif y == k then (j : Int) else fr
theorem frOk_step {next : List (List Int)} {k y fr : Int} {j m n : Nat} {row : List Int} (hr : next[j]? = some row) (hy : row[m]? = some y) (h : frOk next k (n + (row.take m).count k) fr) : frOk next k (n + (row.take (m + 1)).count k) (frNext k j y fr) := fun h1 => by
  unfold frNext
  cases e : y == k with
  | true =>
    refine ⟨j, rfl, (List.getElem?_eq_some_iff.1 hr).1, ?_⟩
    rw [rowN, hr]
    have : y = k := by simpa using e
    subst this
    exact List.mem_of_getElem? hy
  | false => exact h (by rw [count_miss hy e] at h1; exact h1)
theorem tidy_blocks_len (f : BFunc) : f.tidy.blocks.length ≤ f.blocks.length := by
  have := pathsTo_length f f.blocks.length
  simpa [BFunc.tidy, BFunc.tpaths] using this
end Go.Proofs.Ytidfabbnobipkaa.Sv

namespace Go.Proofs.Ytidfabbnobipkaa.Sv
open Go
set_option linter.unusedVariables false
set_option linter.unusedSimpArgs false

/-- a number of its bits, the low end first -/
def valB : List Nat → Nat
  | [] => 0
  | b :: r => b + 2 * valB r
theorem valB_testBit : ∀ (l : List Nat) (j : Nat), (∀ b ∈ l, b < 2) → (valB l).testBit j = ((l[j]?).getD 0 == 1)
  | [], j, _ => by simp [valB]
  | b :: r, 0, h => by
    have hb := h b (by simp)
    simp only [valB, List.getElem?_cons_zero, Option.getD_some, Nat.testBit_zero]
    have : (b + 2 * valB r) % 2 = b := by omega
    rw [this]
    rcases (by omega : b = 0 ∨ b = 1) with rfl | rfl <;> rfl
  | b :: r, j + 1, h => by
    have hb := h b (by simp)
    have ih := valB_testBit r j (fun c hc => h c (by simp [hc]))
    simp only [valB, List.getElem?_cons_succ, Nat.testBit_succ]
    have : (b + 2 * valB r) / 2 = valB r := by omega
    rw [this, ih]
theorem valB_lt : ∀ (l : List Nat), (∀ b ∈ l, b < 2) → valB l < 2 ^ l.length
  | [], _ => by simp [valB]
  | b :: r, h => by
    have hb := h b (by simp)
    have ih := valB_lt r (fun c hc => h c (by simp [hc]))
    simp only [valB, List.length_cons, Nat.pow_succ]
    omega
def bitsN (n k : Nat) : List Nat := (List.range k).map fun i => n / 2 ^ i % 2
theorem bitsN_get {n k i : Nat} (h : i < k) : (bitsN n k)[i]? = some (n / 2 ^ i % 2) := by
  simp [bitsN, h]
/-- what the three operations make of two bits -/
def bop (op : Int) (x y : Nat) : Nat := bif (x + y == 2 && op != 11) || (!(x + y == 2 && op != 11) && (x + y == 1 && op != 9)) then 1 else 0
def bothN (op : Int) (a b : Nat) : List Nat := (List.range 32).map fun i => bop op (a / 2 ^ i % 2) (b / 2 ^ i % 2)
theorem bop_lt (op : Int) (x y : Nat) : bop op x y < 2 := by
  unfold bop
  cases (x + y == 2 && op != 11) || (!(x + y == 2 && op != 11) && (x + y == 1 && op != 9)) <;> simp
theorem testBit_div (n i : Nat) : n.testBit i = (n / 2 ^ i % 2 == 1) := by
  rw [Nat.testBit_eq_decide_div_mod_eq]
  cases h : decide (n / 2 ^ i % 2 = 1) <;> simp at h ⊢ <;> exact h
theorem bothN_testBit {op : Int} {a b j : Nat} : (valB (bothN op a b)).testBit j = (decide (j < 32) && (bop op (a / 2 ^ j % 2) (b / 2 ^ j % 2) == 1)) := by
  rw [valB_testBit _ _ (fun c hc => by simp only [bothN, List.mem_map] at hc; obtain ⟨i, _, rfl⟩ := hc; exact bop_lt _ _ _)]
  by_cases hj : j < 32
  · simp [bothN, hj]
  · simp [bothN, hj]
theorem both_and {a b : Nat} (ha : a < 2 ^ 32) (hb : b < 2 ^ 32) : valB (bothN 9 a b) = a &&& b := by
  apply Nat.eq_of_testBit_eq
  intro j
  rw [bothN_testBit, Nat.testBit_and, testBit_div a, testBit_div b]
  by_cases hj : j < 32
  · rcases (by omega : a / 2 ^ j % 2 = 0 ∨ a / 2 ^ j % 2 = 1) with h1 | h1 <;> rcases (by omega : b / 2 ^ j % 2 = 0 ∨ b / 2 ^ j % 2 = 1) with h2 | h2 <;> simp [h1, h2, hj, bop]
  · have : a / 2 ^ j = 0 := Nat.div_eq_of_lt (Nat.lt_of_lt_of_le ha (Nat.pow_le_pow_right (by decide) (by omega)))
    simp [hj, this]
theorem both_or {a b : Nat} (ha : a < 2 ^ 32) (hb : b < 2 ^ 32) : valB (bothN 10 a b) = a ||| b := by
  apply Nat.eq_of_testBit_eq
  intro j
  rw [bothN_testBit, Nat.testBit_or, testBit_div a, testBit_div b]
  by_cases hj : j < 32
  · rcases (by omega : a / 2 ^ j % 2 = 0 ∨ a / 2 ^ j % 2 = 1) with h1 | h1 <;> rcases (by omega : b / 2 ^ j % 2 = 0 ∨ b / 2 ^ j % 2 = 1) with h2 | h2 <;> simp [h1, h2, hj, bop]
  · have h1 : a / 2 ^ j = 0 := Nat.div_eq_of_lt (Nat.lt_of_lt_of_le ha (Nat.pow_le_pow_right (by decide) (by omega)))
    have h2 : b / 2 ^ j = 0 := Nat.div_eq_of_lt (Nat.lt_of_lt_of_le hb (Nat.pow_le_pow_right (by decide) (by omega)))
    simp [hj, h1, h2]
theorem both_xor {a b : Nat} (ha : a < 2 ^ 32) (hb : b < 2 ^ 32) : valB (bothN 11 a b) = a ^^^ b := by
  apply Nat.eq_of_testBit_eq
  intro j
  rw [bothN_testBit, Nat.testBit_xor, testBit_div a, testBit_div b]
  by_cases hj : j < 32
  · rcases (by omega : a / 2 ^ j % 2 = 0 ∨ a / 2 ^ j % 2 = 1) with h1 | h1 <;> rcases (by omega : b / 2 ^ j % 2 = 0 ∨ b / 2 ^ j % 2 = 1) with h2 | h2 <;> simp [h1, h2, hj, bop]
  · have h1 : a / 2 ^ j = 0 := Nat.div_eq_of_lt (Nat.lt_of_lt_of_le ha (Nat.pow_le_pow_right (by decide) (by omega)))
    have h2 : b / 2 ^ j = 0 := Nat.div_eq_of_lt (Nat.lt_of_lt_of_le hb (Nat.pow_le_pow_right (by decide) (by omega)))
    simp [hj, h1, h2]

/-! ### as integers -/
theorem ofInt_w {a : Int} (h : isW a) : BitVec.ofInt IntKind.u32.bits a = BitVec.ofNat 32 a.toNat := by
  obtain ⟨h1, h2⟩ := h
  obtain ⟨n, rfl⟩ := Int.eq_ofNat_of_zero_le h1
  show BitVec.ofInt 32 (n : Int) = _
  rw [BitVec.ofInt_natCast]; rfl
theorem wrap_w {n : Nat} (h : n < 2 ^ 32) : IntKind.u32.wrap (n : Int) = (n : Int) := by
  rw [IntKind.wrap_u32]; omega
theorem nat_w {a : Int} (h : isW a) : a.toNat < 2 ^ 32 := by
  obtain ⟨h1, h2⟩ := h; omega
theorem both_wapp {op a b : Int} (ha : isW a) (hb : isW b) (ho : op = 9 ∨ op = 10 ∨ op = 11) : wapp op a b = ((valB (bothN op a.toNat b.toNat) : Int), 0) := by
  have h1 := nat_w ha
  have h2 := nat_w hb
  have e1 : (BitVec.ofNat 32 a.toNat).toNat = a.toNat := by rw [BitVec.toNat_ofNat]; omega
  have e2 : (BitVec.ofNat 32 b.toNat).toNat = b.toNat := by rw [BitVec.toNat_ofNat]; omega
  rcases ho with rfl | rfl | rfl
  · have : wapp 9 a b = (IntKind.u32.wrap ((BitVec.ofInt IntKind.u32.bits a &&& BitVec.ofInt IntKind.u32.bits b).toNat), 0) := rfl
    rw [this, ofInt_w ha, ofInt_w hb, both_and h1 h2]
    have h3 : (BitVec.ofNat 32 a.toNat &&& BitVec.ofNat 32 b.toNat).toNat = a.toNat &&& b.toNat := by rw [BitVec.toNat_and, e1, e2]
    rw [← h3]
    exact congrArg (·, 0) (wrap_w (BitVec.isLt _))
  · have : wapp 10 a b = (IntKind.u32.wrap ((BitVec.ofInt IntKind.u32.bits a ||| BitVec.ofInt IntKind.u32.bits b).toNat), 0) := rfl
    rw [this, ofInt_w ha, ofInt_w hb, both_or h1 h2]
    have h3 : (BitVec.ofNat 32 a.toNat ||| BitVec.ofNat 32 b.toNat).toNat = a.toNat ||| b.toNat := by rw [BitVec.toNat_or, e1, e2]
    rw [← h3]
    exact congrArg (·, 0) (wrap_w (BitVec.isLt _))
  · have : wapp 11 a b = (IntKind.u32.wrap ((BitVec.ofInt IntKind.u32.bits a ^^^ BitVec.ofInt IntKind.u32.bits b).toNat), 0) := rfl
    rw [this, ofInt_w ha, ofInt_w hb, both_xor h1 h2]
    have h3 : (BitVec.ofNat 32 a.toNat ^^^ BitVec.ofNat 32 b.toNat).toNat = a.toNat ^^^ b.toNat := by rw [BitVec.toNat_xor, e1, e2]
    rw [← h3]
    exact congrArg (·, 0) (wrap_w (BitVec.isLt _))
/-- shifted one place after the other -/
def shN (op : Int) : Nat → Nat → Nat
  | n, 0 => n
  | n, k + 1 => bif op == 12 then 2 * shN op n k % 4294967296 else shN op n k / 2
theorem shN_lt {op : Int} {n : Nat} (h : n < 4294967296) : ∀ k, shN op n k < 4294967296
  | 0 => h
  | k + 1 => by
    unfold shN
    have := shN_lt (op := op) h k
    cases op == 12 with
    | true => exact Nat.mod_lt _ (by decide)
    | false => simp only [cond_false]; omega
theorem shN_shl {n : Nat} : ∀ k, shN 12 n k % 4294967296 = n * 2 ^ k % 4294967296
  | 0 => by simp [shN]
  | k + 1 => by
    have ih := shN_shl (n := n) k
    have e : shN 12 n (k + 1) = 2 * shN 12 n k % 4294967296 := rfl
    rw [e, Nat.mod_mod, Nat.mul_mod, ih, ← Nat.mul_mod, Nat.pow_succ]
    congr 1
    rw [Nat.mul_comm 2, Nat.mul_assoc]
theorem shN_shr {op : Int} (ho : (op == 12) = false) {n : Nat} : ∀ k, shN op n k = n / 2 ^ k
  | 0 => by simp [shN]
  | k + 1 => by
    have ih := shN_shr ho (n := n) k
    have e : shN op n (k + 1) = shN op n k / 2 := by rw [shN, ho]; rfl
    rw [e, ih, Nat.div_div_eq_div_mul, Nat.pow_succ]
theorem shN_wshift {op a b : Int} (ha : isW a) (hb : 0 ≤ b) (hb2 : ¬ b > 31) (ho : op = 12 ∨ op = 13) : wshift op a b = ((shN op a.toNat b.toNat : Nat) : Int) := by
  have h1 := nat_w ha
  have hd : decide (b > 31) = false := by simpa using hb2
  have hmin : min b.toNat IntKind.u32.bits = b.toNat := by
    show min b.toNat 32 = b.toNat
    omega
  obtain ⟨n, rfl⟩ := Int.eq_ofNat_of_zero_le ha.1
  unfold wshift
  rw [hd, hmin]
  simp only [cond_false, Int.toNat_natCast]
  rcases ho with rfl | rfl
  · have h3 := shN_shl (n := n) b.toNat
    have h4 := shN_lt (op := 12) (n := n) (by simpa using h1) b.toNat
    show IntKind.u32.wrap ((n : Int) * 2 ^ b.toNat) = _
    rw [Nat.mod_eq_of_lt h4] at h3
    rw [h3, IntKind.wrap_u32, Int.natCast_emod, Int.natCast_mul, Int.natCast_pow]
    rfl
  · rw [shN_shr (by rfl)]
    show Int.fdiv (n : Int) (2 ^ b.toNat) = _
    have hp : (0 : Int) ≤ 2 ^ b.toNat := Int.le_of_lt (Int.pow_pos (by omega))
    rw [Int.fdiv_eq_ediv_of_nonneg _ hp, Int.natCast_ediv, Int.natCast_pow]
    rfl

end Go.Proofs.Ytidfabbnobipkaa.Sv

namespace Go.Proofs.Ytidfabbnobipkaa.Sv
open Go
set_option linter.unusedVariables false
set_option linter.unusedSimpArgs false

theorem wrapN_i64 {n : Nat} (h : n < 9223372036854775808) : IntKind.i64.wrap (n : Int) = (n : Int) := wrap_i64 (by omega) (by omega)
theorem wrapN_u64 {n : Nat} (h : n < 18446744073709551616) : IntKind.u64.wrap (n : Int) = (n : Int) := by
  rw [IntKind.wrap_u64]; omega
theorem wrapN_u32 {n : Nat} (h : n < 4294967296) : IntKind.u32.wrap (n : Int) = (n : Int) := by
  rw [IntKind.wrap_u32]; omega
theorem ebin_rem {k : IntKind} {a b : Nat} (hb : 0 < b) : evalBin .rem (.int k (a : Int)) (.int k (b : Int)) = some (.int k ((a % b : Nat) : Int)) := by
  have h0 : ¬ (b : Int) = 0 := by omega
  simp only [evalBin, evalInt, isShift, cond_false, if_true, if_neg h0]
  rw [Int.tmod_eq_emod_of_nonneg (by omega), Int.natCast_emod]
theorem ebin_quo {k : IntKind} {a b : Nat} (hb : 0 < b) (hw : k.wrap ((a / b : Nat) : Int) = ((a / b : Nat) : Int)) : evalBin .quo (.int k (a : Int)) (.int k (b : Int)) = some (.int k ((a / b : Nat) : Int)) := by
  have h0 : ¬ (b : Int) = 0 := by omega
  simp only [evalBin, evalInt, isShift, cond_false, if_true, if_neg h0]
  rw [Int.tdiv_eq_ediv_of_nonneg (by omega), ← Int.natCast_ediv, hw]
theorem ebin_add {k : IntKind} {a b : Nat} (hw : k.wrap ((a + b : Nat) : Int) = ((a + b : Nat) : Int)) : evalBin .add (.int k (a : Int)) (.int k (b : Int)) = some (.int k ((a + b : Nat) : Int)) := by
  simp only [evalBin, evalInt, isShift, cond_false, if_true]
  rw [← Int.natCast_add, hw]
theorem ebin_mul {k : IntKind} {a b : Nat} (hw : k.wrap ((a * b : Nat) : Int) = ((a * b : Nat) : Int)) : evalBin .mul (.int k (a : Int)) (.int k (b : Int)) = some (.int k ((a * b : Nat) : Int)) := by
  simp only [evalBin, evalInt, isShift, cond_false, if_true]
  rw [← Int.natCast_mul, hw]
section
variable {P : Program} {T : Nat → Option TyI} {o : Oper} {e : AEnv} {h : AHeap}
theorem q_convSame (hT : TOk P T) {t u : TypeId} {x : Operand} {k k' : IntKind} {n : Int} {i j : TyI} (ho : o.op = .convert t u x) (hx : look e x = some (.int k' n)) (hi : T t = some i) (hj : T u = some j) (hk : j.k = .int k) (hw : k.wrap n = n) : QLoc P o e h [] (.int k n) := by
  have := q_convInt (h := h) hT ho hx hi hj hk
  rwa [hw] at this
end
def natCells (l : List Nat) : List (List AV) := l.map fun (b : Nat) => [AV.int .i64 (b : Int)]
theorem bitsN_succ (n k : Nat) : bitsN n (k + 1) = bitsN n k ++ [n / 2 ^ k % 2] := by
  simp [bitsN, List.range_succ]
theorem bitsN_length (n k : Nat) : (bitsN n k).length = k := by simp [bitsN]
theorem valB_drop {l : List Nat} {i b : Nat} (h : l[i]? = some b) : valB (l.drop i) = b + 2 * valB (l.drop (i + 1)) := by
  have hi : i < l.length := (List.getElem?_eq_some_iff.1 h).1
  rw [List.drop_eq_getElem_cons hi]
  have : l[i] = b := by rw [List.getElem?_eq_getElem hi] at h; cases h; rfl
  rw [this]; rfl
/-- the bits while they are put together -/
def mixB (op : Int) (a b i : Nat) : List Nat := (bothN op a b).take i ++ (bitsN a 32).drop i
theorem bothN_length (op : Int) (a b : Nat) : (bothN op a b).length = 32 := by simp [bothN]
theorem mixB_length {op : Int} {a b i : Nat} (h : i ≤ 32) : (mixB op a b i).length = 32 := by
  simp [mixB, bothN_length, bitsN_length]; omega
theorem mixB_get {op : Int} {a b i : Nat} (h : i < 32) : (mixB op a b i)[i]? = some (a / 2 ^ i % 2) := by
  have hl : ((bothN op a b).take i).length = i := by simp [bothN_length]; omega
  rw [mixB, List.getElem?_append_right (by omega), hl, Nat.sub_self, List.getElem?_drop, Nat.add_zero, bitsN_get h]
theorem mixB_succ {op : Int} {a b i : Nat} (h : i < 32) : mixB op a b (i + 1) = (mixB op a b i).set i (bop op (a / 2 ^ i % 2) (b / 2 ^ i % 2)) := by
  have hl : ((bothN op a b).take i).length = i := by simp [bothN_length]; omega
  have hg : (bothN op a b)[i]? = some (bop op (a / 2 ^ i % 2) (b / 2 ^ i % 2)) := by simp [bothN, h]
  have hd : (bitsN a 32).drop i = (a / 2 ^ i % 2) :: (bitsN a 32).drop (i + 1) := by
    have hi : i < (bitsN a 32).length := by rw [bitsN_length]; exact h
    rw [List.drop_eq_getElem_cons hi]
    congr 1
    have := bitsN_get (n := a) h
    rw [List.getElem?_eq_getElem hi] at this
    exact Option.some.inj this
  unfold mixB
  rw [List.set_append, if_neg (by omega), hl, Nat.sub_self, take_succ_eq hg, List.append_assoc, hd]
  rfl
end Go.Proofs.Ytidfabbnobipkaa.Sv

namespace Go.Proofs.Ytidfabbnobipkaa.Sv
open Go
set_option linter.unusedVariables false

theorem idx_map2 {α : Type} {l : List α} {f : α → List AV} {n : Int} {x : α} (h : l[n.toNat]? = some x) : (l.map f)[n.toNat]? = some (f x) := by
  rw [List.getElem?_map, h]; rfl

def awakeF : BFunc := ⟨3, [⟨[⟨1, 0, 0, 0, 0, 0, 0, 2⟩, ⟨2, 1, 0, 0, 0, 0, 0, 0⟩, ⟨3, 2, 0, 1, 6, 0, 0, 0⟩], 3, 0, 0, 0⟩]⟩
def awakeW : BFunc := ⟨3, [⟨[⟨1, 0, 0, 0, 0, 0, 0, 2⟩, ⟨1, 1, 0, 0, 0, 0, 0, 2⟩, ⟨1, 2, 0, 0, 0, 0, 0, 4⟩], 3, 0, 0, 0⟩]⟩
theorem awake_fold : awakeF.fold = awakeW := by decide
theorem isW_of {n : Int} (h : decide (0 ≤ n) && decide (n < 4294967296) = true) : isW n := by
  simp only [Bool.and_eq_true, decide_eq_true_eq] at h; exact h
theorem awake_mild : awakeF.mild := by
  refine ⟨by decide, by decide, by decide, fun x hx => ?_⟩
  simp only [awakeF, List.mem_singleton] at hx
  subst hx
  refine ⟨by decide, fun t ht => ?_⟩
  simp only [List.mem_cons, List.mem_nil_iff, or_false] at ht
  rcases ht with rfl | rfl | rfl <;> exact isW_of (by decide)

/-- one block by itself -/
def alone (f : BFunc) (x : Block) : BFunc := ⟨f.regs, [⟨x.ins, 3, 0, 0, 0⟩]⟩
theorem alone_mild {f : BFunc} (h : f.mild) {x : Block} (hx : x ∈ f.blocks) : (alone f x).mild := by
  refine ⟨h.1, h.2.1, by simp [alone], fun y hy => ?_⟩
  simp only [alone, List.mem_singleton] at hy
  subst hy
  exact h.2.2.2 x hx

theorem fold_get {f : BFunc} {n : Nat} {x : Block} (h : f.blocks[n]? = some x) : (f.blocks.map Block.fold)[n]? = some x.fold := by
  rw [List.getElem?_map, h]; rfl
theorem same_cells (t : Tac) : Sv.eqCells t.cells t.cells = some true := by rw [Tac.eqCells]; simp
/-! ### folded again -/
theorem fstep_konst (K : WMap) (d n : Int) : fstep K (konst d n) = konst d n := by
  have : (fvalue (konst d n) K).2 = false := by simp [fvalue, konst]
  unfold fstep; rw [this]; rfl
theorem fstep_fstep (K : WMap) (t : Tac) : fstep K (fstep K t) = fstep K t := by
  cases h : (fvalue t K).2 with
  | true =>
    have : fstep K t = konst t.d (fvalue t K).1 := by unfold fstep; rw [h]; rfl
    rw [this, fstep_konst]
  | false =>
    have : fstep K t = t := by unfold fstep; rw [h]; rfl
    rw [this, this]
theorem foldIns_twice : ∀ (l : List Tac) (K : WMap), foldIns K (foldIns K l) = foldIns K l
  | [], _ => rfl
  | t :: r, K => by
    simp only [foldIns, fstep_fstep, List.cons.injEq, true_and]
    exact foldIns_twice r _
theorem Block.fold_twice (x : Block) : x.fold.fold = x.fold := by
  unfold Block.fold
  simp only [foldIns_twice]
theorem BFunc.fold_twice (f : BFunc) : f.fold.fold = f.fold := by
  unfold BFunc.fold
  simp only [List.map_map, BFunc.mk.injEq, true_and]
  exact List.map_congr_left fun x _ => x.fold_twice
theorem fold_mild {f : BFunc} (h : f.mild) : f.fold.mild := by
  refine ⟨h.1, h.2.1, by simp only [BFunc.fold, List.length_map]; exact h.2.2.1, fun y hy => ?_⟩
  simp only [BFunc.fold, List.mem_map] at hy
  obtain ⟨x, hx, rfl⟩ := hy
  obtain ⟨h1, h2⟩ := h.2.2.2 x hx
  refine ⟨by simp only [Block.fold, foldIns_length]; exact h1, fun t ht => ?_⟩
  simp only [Block.fold] at ht
  obtain ⟨i, hi⟩ := List.mem_iff_getElem?.1 ht
  have hlt : i < x.ins.length := by rw [← foldIns_length x.ins []]; exact (List.getElem?_eq_some_iff.1 hi).1
  rw [foldIns_get x.ins [] (List.getElem?_eq_getElem hlt)] at hi
  cases hi
  exact fstep_w (fknow_w h2 i) (h2 _ (List.getElem_mem hlt))
/-- what was changed -/
theorem fstep_changed {K : WMap} {t : Tac} (h : t ≠ fstep K t) : (t.op = 2 ∨ t.op = 3) ∧ (fstep K t).op = 1 ∧ t.d = (fstep K t).d := by
  cases e : (fvalue t K).2 with
  | false => exact absurd (by unfold fstep; rw [e]; rfl) h
  | true =>
    have h1 : fstep K t = konst t.d (fvalue t K).1 := by unfold fstep; rw [e]; rfl
    refine ⟨?_, by rw [h1]; rfl, by rw [h1]; rfl⟩
    unfold fvalue at e
    cases h2 : t.op == 2 with
    | true => exact .inl (by simpa using h2)
    | false =>
      cases h3 : t.op == 3 with
      | true => exact .inr (by simpa using h3)
      | false => rw [h2, h3] at e; cases e

end Go.Proofs.Ytidfabbnobipkaa.Sv

namespace Go.Proofs.Ytidfabbnobipkaa.Sv
open Go
set_option linter.unusedVariables false
set_option linter.unusedSimpArgs false

/-- A whole row is memory that stays as it is. -/
theorem Ghost.freezeAll {n : Nat} {e : AEnv} {h : AHeap} (t b : Nat) {m sz : Nat} {es : List (List AV)} (ht : e t = some (.ref b m 0 m)) (hb : h b = some (.row true sz es)) (hm : m = es.length) :
    Ghost ⟨n, e, h⟩ ⟨n, eput e t (.lst false es), hrm h b⟩ := by
  have := Ghost.freeze (n := n) t b ht hb hm
  rwa [List.drop_zero, List.take_of_length_le (Nat.le_of_eq hm.symm)] at this

def kOp (o : Int) : Int := IntKind.i64.wrap (4 + (IntKind.i64.wrap o).tmod 12)
def opTac (o : Int) : Tac := ⟨3, 0, 0, 1, kOp o, 0, 0, 0⟩
def fkOk (b : Int) (s : Int × Bool) (o : Int) : Bool := s.2 && (wapp (kOp o) s.1 b).2 == 0
def fkStep (b : Int) (s : Int × Bool) (o : Int) : Int × Bool := bif fkOk b s o then ((wapp (kOp o) s.1 b).1, true) else (s.1, false)
def fkTac (b : Int) (s : Int × Bool) (o : Int) : Tac := bif fkOk b s o then konst 0 (wapp (kOp o) s.1 b).1 else opTac o
def fkWant (b : Int) : Int × Bool → List Int → List Tac
  | _, [] => []
  | s, o :: r => fkTac b s o :: fkWant b (fkStep b s o) r
def fkS (a b : Int) (ops : List Int) : Int × Bool := ops.foldl (fkStep b) (a, true)
def fkL (a b : Int) (ops : List Int) : List Tac := konst 0 a :: konst 1 b :: ops.map opTac
def fkW (a b : Int) (ops : List Int) : List Tac := konst 0 a :: konst 1 b :: fkWant b (a, true) ops
def fkK (b : Int) (s : Int × Bool) : WMap := bif s.2 then [(0, s.1), (1, b)] else [(1, b)]

theorem fkWant_app (b : Int) (o : Int) : ∀ (ops : List Int) (s : Int × Bool), fkWant b s (ops ++ [o]) = fkWant b s ops ++ [fkTac b (ops.foldl (fkStep b) s) o]
  | [], s => rfl
  | p :: r, s => by
    simp only [List.cons_append, fkWant, List.foldl_cons, List.cons.injEq, true_and]
    exact fkWant_app b o r _
theorem fkWant_length (b : Int) : ∀ (ops : List Int) (s : Int × Bool), (fkWant b s ops).length = ops.length
  | [], _ => rfl
  | p :: r, s => by simp only [fkWant, List.length_cons, fkWant_length b r]
theorem fold_ops (b : Int) : ∀ (ops : List Int) (s : Int × Bool), foldIns (fkK b s) (ops.map opTac) = fkWant b s ops
  | [], _ => rfl
  | o :: r, s => by
    have hv : fvalue (opTac o) (fkK b s) = bif s.2 then ((wapp (kOp o) s.1 b).1, (wapp (kOp o) s.1 b).2 == 0) else (0, false) := by
      cases h : s.2 with
      | true => simp [fvalue, opTac, fkK, h, pget]
      | false => simp [fvalue, opTac, fkK, h, pget]
    have hs : fstep (fkK b s) (opTac o) = fkTac b s o := by
      unfold fstep fkTac fkOk
      rw [hv]
      cases s.2 with
      | true => cases (wapp (kOp o) s.1 b).2 == 0 <;> rfl
      | false => rfl
    have hn : fnext (fkK b s) (fkTac b s o) = fkK b (fkStep b s o) := by
      unfold fkTac fkStep
      cases h : fkOk b s o with
      | true =>
        have h2 : s.2 = true := by
          unfold fkOk at h
          simp only [Bool.and_eq_true] at h
          exact h.1
        simp [fnext, konst, Tac.sets, setsOp, fkK, h2, pset]
      | false => cases h2 : s.2 <;> simp [fnext, opTac, Tac.sets, setsOp, fkK, h2, pdel]
    simp only [List.map_cons, foldIns, fkWant, hs, hn, List.cons.injEq, true_and]
    exact fold_ops b r _
theorem fold_known (a b : Int) (ops : List Int) : foldIns [] (fkL a b ops) = fkW a b ops := by
  unfold fkL fkW
  simp only [foldIns, fstep_konst, List.cons.injEq, true_and]
  have : fnext (fnext [] (konst 0 a)) (konst 1 b) = fkK b (a, true) := by simp [fnext, konst, Tac.sets, setsOp, fkK, pset]
  rw [this]
  exact fold_ops b ops _
theorem fkS_succ {a b : Int} {ops : List Int} {k : Nat} {o : Int} (h : ops[k]? = some o) : fkS a b (ops.take (k + 1)) = fkStep b (fkS a b (ops.take k)) o := by
  unfold fkS; rw [take_succ_eq h, List.foldl_append]; rfl
theorem fkL_succ {a b : Int} {ops : List Int} {k : Nat} {o : Int} (h : ops[k]? = some o) : fkL a b (ops.take (k + 1)) = fkL a b (ops.take k) ++ [opTac o] := by
  unfold fkL; rw [take_succ_eq h, List.map_append]; rfl
theorem fkW_succ {a b : Int} {ops : List Int} {k : Nat} {o : Int} (h : ops[k]? = some o) : fkW a b (ops.take (k + 1)) = fkW a b (ops.take k) ++ [fkTac b (fkS a b (ops.take k)) o] := by
  unfold fkW fkS; rw [take_succ_eq h, fkWant_app]; rfl
theorem fkS_w {a b : Int} (ha : isW a) (hb : isW b) (ops : List Int) : isW (fkS a b ops).1 := by
  unfold fkS
  have : ∀ (l : List Int) (s : Int × Bool), isW s.1 → isW (l.foldl (fkStep b) s).1 := by
    intro l
    induction l with
    | nil => exact fun s h => h
    | cons o r ih =>
      intro s h
      refine ih _ ?_
      unfold fkStep
      cases fkOk b s o with
      | true => exact wapp_word h hb
      | false => exact h
  exact this ops _ ha
def fkF (a b : Int) (ops : List Int) : BFunc := ⟨2, [⟨fkL a b ops, 3, 0, 0, 0⟩]⟩
def fkG (a b : Int) (ops : List Int) : BFunc := ⟨2, [⟨fkW a b ops, 3, 0, 0, 0⟩]⟩
theorem fkF_fold (a b : Int) (ops : List Int) : (fkF a b ops).fold = fkG a b ops := by
  simp [fkF, fkG, BFunc.fold, Block.fold, fold_known]
theorem fkF_mild {a b : Int} {ops : List Int} (ha : isW a) (hb : isW b) (hl : ops.length ≤ 1000) : (fkF a b ops).mild := by
  refine ⟨by show (0 : Int) ≤ 2; decide, by show (2 : Int) ≤ 100000; decide, by show (1 : Nat) ≤ 100000; decide, fun x hx => ?_⟩
  simp only [fkF, List.mem_singleton] at hx
  subst hx
  refine ⟨by simp [fkL]; omega, fun t ht => ?_⟩
  simp only [fkL, List.mem_cons, List.mem_map] at ht
  rcases ht with rfl | rfl | ⟨o, _, rfl⟩
  · exact ha
  · exact hb
  · exact isW_zero

end Go.Proofs.Ytidfabbnobipkaa.Sv

namespace Go.Proofs.Ytidfabbnobipkaa.Sv
open Go
set_option linter.unusedVariables false
set_option linter.unusedSimpArgs false

theorem ebin_sub {k : IntKind} {a b : Nat} (hba : b ≤ a) (hw : k.wrap ((a - b : Nat) : Int) = ((a - b : Nat) : Int)) : evalBin .sub (.int k (a : Int)) (.int k (b : Int)) = some (.int k ((a - b : Nat) : Int)) := by
  simp only [evalBin, evalInt, isShift, cond_false, if_true]
  rw [← Int.ofNat_sub hba, hw]
theorem natCells_get {l : List Nat} {i b : Nat} (h : l[i]? = some b) : (natCells l)[0 + ((i : Nat) : Int).toNat]? = some [AV.int .i64 (b : Int)] := by
  rw [Nat.zero_add, Int.toNat_natCast, natCells, List.getElem?_map, h]; rfl
theorem get_set_self {α : Type} {l : List α} {i : Nat} {x y : α} (h : l[i]? = some x) : (l.set i y)[i]? = some y := by
  have hi := (List.getElem?_eq_some_iff.1 h).1
  simp [hi]
theorem natCells_len (l : List Nat) : (natCells l).length = l.length := by simp [natCells]
theorem natCells_append (l : List Nat) (b : Nat) : natCells (l ++ [b]) = natCells l ++ [[AV.int .i64 (b : Int)]] := by simp [natCells]
theorem natCells_set (l : List Nat) (i b : Nat) : (natCells l).set i [AV.int .i64 (b : Int)] = natCells (l.set i b) := by simp [natCells, List.map_set]
theorem bits_append (a k : Nat) : natCells (bitsN a k) ++ [[AV.int .i64 ((a / 2 ^ k % 2 : Nat) : Int)]] = natCells (bitsN a (k + 1)) := by
  rw [bitsN_succ, natCells_append]
theorem valB_drop_lt {l : List Nat} (hl : l.length = 32) (hb : ∀ b ∈ l, b < 2) (m : Nat) : valB (l.drop m) < 4294967296 := by
  have h := valB_lt (l.drop m) (fun b h => hb b (List.mem_of_mem_drop h))
  have : (2 : Nat) ^ (l.drop m).length ≤ 2 ^ 32 := Nat.pow_le_pow_right (by decide) (by simp; omega)
  have e : (2 : Nat) ^ 32 = 4294967296 := rfl
  omega
/-- one place of what the two make -/
theorem both_set0 {op : Int} {a b k : Nat} (hk : k < 32) {c : List AV} (h : bop op (a / 2 ^ k % 2) (b / 2 ^ k % 2) = 0) : (natCells (mixB op a b k)).set (0 + ((k : Nat) : Int).toNat) [AV.int .i64 0] = natCells (mixB op a b (k + 1)) := by
  rw [mixB_succ hk, h, ← natCells_set, Nat.zero_add, Int.toNat_natCast]; rfl
theorem both_set1 {op : Int} {a b k : Nat} (hk : k < 32) {c : List AV} (h : bop op (a / 2 ^ k % 2) (b / 2 ^ k % 2) = 1) : ((natCells (mixB op a b k)).set (0 + ((k : Nat) : Int).toNat) c).set (0 + ((k : Nat) : Int).toNat) [AV.int .i64 1] = natCells (mixB op a b (k + 1)) := by
  rw [List.set_set, mixB_succ hk, h, ← natCells_set, Nat.zero_add, Int.toNat_natCast]; rfl
theorem mixB_zero (op : Int) (a b : Nat) : mixB op a b 0 = bitsN a 32 := by simp [mixB]
theorem mixB_end (op : Int) (a b : Nat) : mixB op a b 32 = bothN op a b := by
  have h1 := bothN_length op a b
  have h2 := bitsN_length a 32
  unfold mixB
  rw [List.take_of_length_le (by omega), List.drop_eq_nil_of_le (by omega), List.append_nil]
theorem bothN_lt (op : Int) (a b : Nat) : ∀ c ∈ bothN op a b, c < 2 := fun c hc => by
  simp only [bothN, List.mem_map] at hc
  obtain ⟨i, _, rfl⟩ := hc; exact bop_lt _ _ _

/-! ### Apply on numbers -/
theorem isW_nat {a : Nat} (h : a < 4294967296) : isW (a : Int) := by constructor <;> omega
theorem wapp_add (a b : Nat) : wapp 4 a b = ((((a + b) % 4294967296 : Nat) : Int), 0) := by
  show (IntKind.u32.wrap ((a : Int) + b), (0 : Int)) = _
  rw [IntKind.wrap_u32]; rfl
theorem wapp_sub {a b : Nat} (h : b < 4294967296) : wapp 5 a b = ((((a + 4294967296 - b) % 4294967296 : Nat) : Int), 0) := by
  show (IntKind.u32.wrap ((a : Int) - b), (0 : Int)) = _
  rw [IntKind.wrap_u32]; congr 1; omega
theorem wapp_mul (a b : Nat) : wapp 6 a b = (((a * b % 4294967296 : Nat) : Int), 0) := by
  show (IntKind.u32.wrap ((a : Int) * b), (0 : Int)) = _
  rw [IntKind.wrap_u32, ← Int.natCast_mul]; rfl
theorem wapp_div0 (op a : Int) (h : op = 7 ∨ op = 8) : wapp op a 0 = (0, 14) := by
  rcases h with rfl | rfl <;> rfl
theorem wapp_div {a b : Nat} (ha : a < 4294967296) (h : ¬ b = 0) : wapp 7 a b = (((a / b : Nat) : Int), 0) := by
  show wdivide 7 a b = _
  have hb : ((b : Int) == 0) = false := by simp; omega
  unfold wdivide
  rw [hb]
  show (IntKind.u32.wrap ((a : Int).tdiv b), (0 : Int)) = _
  have h2 : a / b ≤ a := Nat.div_le_self a b
  rw [Int.tdiv_eq_ediv_of_nonneg (by omega), ← Int.natCast_ediv, wrapN_u32 (by omega)]
theorem wapp_mod {a b : Nat} (h : ¬ b = 0) : wapp 8 a b = (((a % b : Nat) : Int), 0) := by
  show wdivide 8 a b = _
  have hb : ((b : Int) == 0) = false := by simp; omega
  unfold wdivide
  rw [hb]
  show ((a : Int).tmod b, (0 : Int)) = _
  rw [Int.tmod_eq_emod_of_nonneg (by omega)]; rfl
theorem wapp_both {op : Int} {a b : Nat} (ha : a < 4294967296) (hb : b < 4294967296) (ho : op = 9 ∨ op = 10 ∨ op = 11) : wapp op a b = (((valB (bothN op a b) : Nat) : Int), 0) := both_wapp (isW_nat ha) (isW_nat hb) ho
theorem wapp_shift {op : Int} {a b : Nat} (ho : op = 12 ∨ op = 13) : wapp op a b = (wshift op a b, 0) := by
  rcases ho with rfl | rfl <;> rfl
theorem wshift_big (op : Int) {a b : Nat} (h : 32 ≤ b) : wshift op a b = 0 := by
  unfold wshift
  rw [show decide ((b : Int) > 31) = true by simp; omega]; rfl
theorem wshift_small {op : Int} {a b : Nat} (ha : a < 4294967296) (hb : b < 32) (ho : op = 12 ∨ op = 13) : wshift op a b = (shN op a b : Nat) := shN_wshift (isW_nat ha) (by omega) (by omega) ho
theorem wapp_lt (a b : Int) : wapp 14 a b = (bif decide (a < b) then 1 else 0, 0) := by
  show (wcompare 14 a b, (0 : Int)) = _
  simp [wcompare]
theorem wapp_eq (a b : Int) : wapp 15 a b = (bif a == b then 1 else 0, 0) := by
  show (wcompare 15 a b, (0 : Int)) = _
  simp [wcompare]
end Go.Proofs.Ytidfabbnobipkaa.Sv

namespace Go.Proofs.Ytidfabbnobipkaa.Sv
open Go
set_option linter.unusedVariables false
set_option linter.unusedSimpArgs false

theorem pget_pset (z y v : Int) : ∀ K : WMap, pget y (pset z v K) = bif y == z then some v else pget y K
  | [] => rfl
  | (k, u) :: r => by
    have ih := pget_pset z y v r
    unfold pset
    cases hz : z == k with
    | true =>
      have hz' : z = k := by simpa using hz
      subst hz'
      simp only [cond_true, pget]
      cases y == z <;> rfl
    | false =>
      simp only [cond_false, pget, ih]
      cases hy : y == k with
      | true =>
        have hy' : y = k := by simpa using hy
        subst hy'
        have : (y == z) = false := by simp at hz ⊢; omega
        rw [this]; rfl
      | false => rfl
def ukeys (K : WMap) : Prop := (K.map (·.1)).Nodup
theorem pget_none {z : Int} : ∀ {K : WMap}, z ∉ K.map (·.1) → pget z K = none
  | [], _ => rfl
  | (k, u) :: r, h => by
    simp only [List.map_cons, List.mem_cons, not_or] at h
    unfold pget
    rw [show (z == k) = false by simp; exact h.1]
    exact pget_none h.2
theorem pget_pdel (z y : Int) : ∀ {K : WMap}, ukeys K → pget y (pdel z K) = bif y == z then none else pget y K
  | [], _ => by simp [pdel, pget]
  | (k, u) :: r, h => by
    unfold ukeys at h
    simp only [List.map_cons, List.nodup_cons] at h
    have ih := pget_pdel z y (K := r) h.2
    unfold pdel
    cases hz : z == k with
    | true =>
      have hz' : z = k := by simpa using hz
      subst hz'
      simp only [cond_true, pget]
      cases hy : y == z with
      | true =>
        have hy' : y = z := by simpa using hy
        subst hy'
        simp only [cond_true]
        exact pget_none h.1
      | false => rfl
    | false =>
      simp only [cond_false, pget, ih]
      cases hy : y == k with
      | true =>
        have hy' : y = k := by simpa using hy
        subst hy'
        have : (y == z) = false := by simp at hz ⊢; omega
        rw [this]; rfl
      | false => rfl
theorem pset_keys {z v : Int} {y : Int} : ∀ {K : WMap}, y ∈ (pset z v K).map (·.1) → y = z ∨ y ∈ K.map (·.1)
  | [], h => by simp [pset] at h; exact .inl h
  | (k, u) :: r, h => by
    unfold pset at h
    cases hz : z == k with
    | true => rw [hz] at h; simp only [cond_true, List.map_cons, List.mem_cons] at h ⊢; rcases h with h | h <;> simp [h]
    | false =>
      rw [hz] at h
      simp only [cond_false, List.map_cons, List.mem_cons] at h ⊢
      rcases h with h | h
      · exact .inr (.inl h)
      · rcases pset_keys h with h | h
        · exact .inl h
        · exact .inr (.inr h)
theorem pdel_keys {z : Int} {y : Int} : ∀ {K : WMap}, y ∈ (pdel z K).map (·.1) → y ∈ K.map (·.1)
  | [], h => by simp [pdel] at h
  | (k, u) :: r, h => by
    unfold pdel at h
    cases hz : z == k with
    | true => rw [hz] at h; simp only [cond_true] at h; simp only [List.map_cons, List.mem_cons]; exact .inr h
    | false =>
      rw [hz] at h
      simp only [cond_false, List.map_cons, List.mem_cons] at h ⊢
      rcases h with h | h
      · exact .inl h
      · exact .inr (pdel_keys h)
theorem ukeys_pset {z v : Int} : ∀ {K : WMap}, ukeys K → ukeys (pset z v K)
  | [], _ => by simp [ukeys, pset]
  | (k, u) :: r, h => by
    unfold ukeys at h ⊢
    simp only [List.map_cons, List.nodup_cons] at h
    unfold pset
    cases hz : z == k with
    | true => simp only [cond_true, List.map_cons, List.nodup_cons]; exact h
    | false =>
      simp only [cond_false, List.map_cons, List.nodup_cons]
      refine ⟨fun hm => ?_, ukeys_pset h.2⟩
      rcases pset_keys hm with e | e
      · simp at hz; omega
      · exact h.1 e
theorem ukeys_pdel {z : Int} : ∀ {K : WMap}, ukeys K → ukeys (pdel z K)
  | [], _ => by simp [ukeys, pdel]
  | (k, u) :: r, h => by
    unfold ukeys at h ⊢
    simp only [List.map_cons, List.nodup_cons] at h
    unfold pdel
    cases hz : z == k with
    | true => simp only [cond_true]; exact h.2
    | false =>
      simp only [cond_false, List.map_cons, List.nodup_cons]
      exact ⟨fun hm => h.1 (pdel_keys hm), ukeys_pdel h.2⟩
theorem ukeys_fnext {K : WMap} (h : ukeys K) (t : Tac) : ukeys (fnext K t) := by
  unfold fnext
  cases decide (t.sets < 0) with
  | true => exact h
  | false => cases t.op == 1 with
    | true => exact ukeys_pset h
    | false => exact ukeys_pdel h
theorem ukeys_fknow (l : List Tac) : ∀ k, ukeys (fknow l k)
  | 0 => by simp [fknow, ukeys]
  | k + 1 => by
    cases hx : l[k]? with
    | some x => rw [fknow_succ hx]; exact ukeys_fnext (ukeys_fknow l k) _
    | none =>
      have := List.getElem?_eq_none_iff.1 hx
      have : fknow l (k + 1) = fknow l k := by unfold fknow; rw [List.take_of_length_le (by omega), List.take_of_length_le (by omega)]
      rw [this]; exact ukeys_fknow l k

/-- what is known of each register -/
def kAt (r : Nat) (l : List Tac) (k : Nat) : List Bool := (List.range r).map fun (i : Nat) => (pget (i : Int) (fknow l k)).isSome
def vput (vb : List Int) (u : Tac) : List Int := bif decide (u.sets < 0) then vb else vb.set u.sets.toNat u.n
/-- what was set last -/
def vAt (r : Nat) (l : List Tac) : Nat → List Int
  | 0 => List.replicate r 0
  | k + 1 => match l[k]? with
    | some x => vput (vAt r l k) (fstep (fknow l k) x)
    | none => vAt r l k
theorem vAt_succ {r : Nat} {l : List Tac} {k : Nat} {x : Tac} (hx : l[k]? = some x) : vAt r l (k + 1) = vput (vAt r l k) (fstep (fknow l k) x) := by
  simp only [vAt, hx]
theorem kAt_length (r : Nat) (l : List Tac) (k : Nat) : (kAt r l k).length = r := by simp [kAt]
theorem vput_length (vb : List Int) (u : Tac) : (vput vb u).length = vb.length := by
  unfold vput; cases decide (u.sets < 0) <;> simp
theorem vAt_length (r : Nat) (l : List Tac) : ∀ k, (vAt r l k).length = r
  | 0 => by simp [vAt]
  | k + 1 => by
    unfold vAt
    split
    · rw [vput_length, vAt_length r l k]
    · exact vAt_length r l k
theorem kAt_zero (r : Nat) (l : List Tac) : (kAt r l 0).map boolCells = List.replicate r [AV.bool false] := by
  apply List.ext_getElem?
  intro i
  simp only [kAt, fknow, List.take_zero, List.foldl_nil, pget, List.map_map, List.getElem?_map, List.getElem?_replicate]
  by_cases hi : i < r
  · simp [hi, boolCells]
  · simp [hi]
theorem kAt_get {r : Nat} {l : List Tac} {k : Nat} {z : Int} (h : 0 ≤ z ∧ z < r) : ((kAt r l k).map boolCells)[0 + z.toNat]? = some [AV.bool (pget z (fknow l k)).isSome] := by
  have hz : ((z.toNat : Nat) : Int) = z := Int.toNat_of_nonneg h.1
  have hlt : z.toNat < r := by omega
  rw [Nat.zero_add, kAt, List.map_map, List.getElem?_map, List.getElem?_range hlt]
  simp only [Option.map_some, Function.comp, boolCells, hz]
theorem vAt_get {r : Nat} {l : List Tac} : ∀ {k : Nat} {z v : Int}, 0 ≤ z ∧ z < r → pget z (fknow l k) = some v → (vAt r l k)[z.toNat]? = some v
  | 0, z, v, _, h => by simp [fknow, pget] at h
  | k + 1, z, v, hz, h => by
    have hl := vAt_length r l k
    cases hx : l[k]? with
    | none =>
      have := List.getElem?_eq_none_iff.1 hx
      have e : fknow l (k + 1) = fknow l k := by unfold fknow; rw [List.take_of_length_le (by omega), List.take_of_length_le (by omega)]
      simp only [vAt, hx]
      rw [e] at h
      exact vAt_get hz h
    | some x =>
      rw [vAt_succ hx]
      rw [fknow_succ hx] at h
      revert h
      generalize hu : fstep (fknow l k) x = u
      intro h
      unfold fnext at h
      unfold vput
      cases hs : decide (u.sets < 0) with
      | true =>
        rw [hs] at h
        exact vAt_get hz h
      | false =>
        rw [hs] at h
        have hs' : 0 ≤ u.sets := by simpa using hs
        simp only [cond_false] at h ⊢
        by_cases he : z = u.sets
        · subst he
          cases hop : u.op == 1 with
          | true =>
            rw [hop, cond_true, pget_pset] at h
            simp at h
            subst h
            rw [List.getElem?_set_self (by omega)]
          | false =>
            rw [hop, cond_false, pget_pdel _ _ (ukeys_fknow l k)] at h
            simp at h
        · have hne : (z == u.sets) = false := by simpa using he
          have h2 : pget z (fknow l k) = some v := by
            cases hop : u.op == 1 with
            | true => rw [hop, cond_true, pget_pset, hne] at h; exact h
            | false => rw [hop, cond_false, pget_pdel _ _ (ukeys_fknow l k), hne] at h; exact h
          rw [List.getElem?_set_ne (by omega)]
          exact vAt_get hz h2
theorem vAt_cell {r : Nat} {l : List Tac} {k : Nat} {z v : Int} (hz : 0 ≤ z ∧ z < r) (h : pget z (fknow l k) = some v) : ((vAt r l k).map (fun n => [AV.int .u32 n]))[0 + z.toNat]? = some [AV.int .u32 v] := by
  rw [Nat.zero_add, List.getElem?_map, vAt_get hz h]; rfl
theorem kAt_set {r : Nat} {l : List Tac} {k : Nat} {x u : Tac} (hx : l[k]? = some x) (hu : u = fstep (fknow l k) x) (hs : 0 ≤ u.sets) (hr : u.sets < r) {b : Bool} (hb : b = (u.op == 1)) : ((kAt r l k).map boolCells).set (0 + u.sets.toNat) [AV.bool b] = (kAt r l (k + 1)).map boolCells := by
  apply List.ext_getElem?
  intro i
  have hlen := kAt_length r l k
  rw [Nat.zero_add, List.getElem?_set]
  simp only [List.length_map, hlen]
  simp only [List.getElem?_map, kAt, fknow_succ hx, ← hu, List.length_range]
  by_cases hi : i < r
  · rw [List.getElem?_range hi]
    have hs' : decide (u.sets < 0) = false := by simpa using hs
    simp only [Option.map_some, fnext, hs', cond_false, boolCells]
    by_cases he : u.sets.toNat = i
    · have hz : (i : Int) = u.sets := by omega
      rw [if_pos he, if_pos (by first | omega | (simp; omega)), hz, hb]
      cases hop : u.op == 1 with
      | true => rw [cond_true, pget_pset]; simp
      | false => rw [cond_false, pget_pdel _ _ (ukeys_fknow l k)]; simp
    · have hne : ((i : Int) == u.sets) = false := by simp; omega
      rw [if_neg he]
      cases hop : u.op == 1 with
      | true => rw [cond_true, pget_pset, hne]; rfl
      | false => rw [cond_false, pget_pdel _ _ (ukeys_fknow l k), hne]; rfl
  · rw [List.getElem?_eq_none (by simp; omega)]
    by_cases he : u.sets.toNat = i
    · rw [if_pos he, if_neg (by first | omega | (simp; omega))]; simp
    · rw [if_neg he]; simp
theorem kAt_skip {r : Nat} {l : List Tac} {k : Nat} {x u : Tac} (hx : l[k]? = some x) (hu : u = fstep (fknow l k) x) (hs : u.sets < 0) : kAt r l k = kAt r l (k + 1) := by
  have hs' : decide (u.sets < 0) = true := by simpa using hs
  simp only [kAt, fknow_succ hx, ← hu, fnext, hs', cond_true]
theorem vAt_set {r : Nat} {l : List Tac} {k : Nat} {x u : Tac} (hx : l[k]? = some x) (hu : u = fstep (fknow l k) x) (hs : 0 ≤ u.sets) : ((vAt r l k).map (fun n => [AV.int .u32 n])).set (0 + u.sets.toNat) [AV.int .u32 u.n] = (vAt r l (k + 1)).map (fun n => [AV.int .u32 n]) := by
  have hs' : decide (u.sets < 0) = false := by simpa using hs
  rw [vAt_succ hx, ← hu, vput, hs', Nat.zero_add, cond_false, List.map_set]
theorem vAt_skip {r : Nat} {l : List Tac} {k : Nat} {x u : Tac} (hx : l[k]? = some x) (hu : u = fstep (fknow l k) x) (hs : u.sets < 0) : vAt r l k = vAt r l (k + 1) := by
  have hs' : decide (u.sets < 0) = true := by simpa using hs
  rw [vAt_succ hx, ← hu, vput, hs', cond_true]
/-- copies alone -/
def cstep (K : WMap) (t : Tac) : Tac := bif t.op == 2 && (pget t.a K).isSome then konst t.d ((pget t.a K).getD 0) else t
theorem cstep_op3 {K : WMap} {t u : Tac} (hu : u = cstep K t) (h : u.op = 3) : t = u := by
  subst hu
  unfold cstep at *
  cases e : t.op == 2 && (pget t.a K).isSome with
  | true => rw [e] at h; simp [konst] at h
  | false => rfl
theorem cstep_not2 {K : WMap} {t : Tac} (h : (t.op == 2) = false) : t = cstep K t := by simp [cstep, h]
theorem cstep_unk {K : WMap} {t : Tac} (h : (pget t.a K).isSome = false) : t = cstep K t := by simp [cstep, h]
theorem cstep_not3 {K : WMap} {t u : Tac} (hu : u = cstep K t) (h' : (u.op == 3) = false) : u = fstep K t := by
  have h : ¬ u.op = 3 := by simpa using h'
  subst hu
  unfold cstep at *
  cases e2 : t.op == 2 with
  | true =>
    cases e : (pget t.a K).isSome with
    | true => simp [fstep, fvalue, e2, e]
    | false => simp [fstep, fvalue, e2, e]
  | false =>
    simp only [e2, Bool.false_and, cond_false] at h ⊢
    have h3 : (t.op == 3) = false := by simpa using h
    simp [fstep, fvalue, e2, h3]
theorem cstep_bad {K : WMap} {t : Tac} (h : t.op = 3) (hn : (pget t.a K).isSome = false ∨ (pget t.b K).isSome = false) : t = fstep K t := by
  simp only [fstep, fvalue, h]
  rcases hn with hn | hn <;> simp [hn]
theorem cstep_zero {K : WMap} {t : Tac} {va vb : Int} (h : t.op = 3) (ha : pget t.a K = some va) (hb : pget t.b K = some vb) (hn' : ((wapp t.k va vb).2 == 0) = false) : t = fstep K t := by
  simp [fstep, fvalue, h, ha, hb, hn']
theorem cstep_val {K : WMap} {t : Tac} {va vb : Int} (h : t.op = 3) (ha : pget t.a K = some va) (hb : pget t.b K = some vb) (hn : ((wapp t.k va vb).2 == 0) = true) : konst t.d (wapp t.k va vb).1 = fstep K t := by
  simp [fstep, fvalue, h, ha, hb, hn]
/-- its registers are there -/
def Tac.inR (t : Tac) (regs : Int) : Prop := (setsOp t.op = true → 0 ≤ t.d ∧ t.d < regs) ∧ ∀ u ∈ t.uses, 0 ≤ u ∧ u < regs
theorem fits_inR {t : Tac} {f regs words : Int} (h : t.fits f regs words = true) : t.inR regs := by
  simp only [Tac.fits, Bool.and_eq_true, Bool.or_eq_true, Bool.not_eq_true', List.all_eq_true, within, decide_eq_true_eq] at h
  refine ⟨fun hs => ?_, fun u hu => h.2.2.2.1 u hu⟩
  rcases h.2.2.1 with h | h
  · rw [hs] at h; cases h
  · exact h
theorem fstep_sets {K : WMap} {t : Tac} {regs : Int} (h : t.inR regs) (hs : 0 ≤ (fstep K t).sets) : (fstep K t).sets < regs := by
  unfold fstep at *
  cases hv : (fvalue t K).2 with
  | false =>
    rw [hv] at hs
    simp only [cond_false] at hs ⊢
    unfold Tac.sets at *
    cases e : setsOp t.op with
    | true => exact (h.1 e).2
    | false => rw [e] at hs; simp at hs
  | true =>
    have e : setsOp t.op = true := by
      unfold fvalue at hv
      cases e2 : t.op == 2 with
      | true => simp at e2; simp [setsOp, e2]
      | false =>
        cases e3 : t.op == 3 with
        | true => simp at e3; simp [setsOp, e3]
        | false => rw [e2, e3] at hv; simp at hv
    exact (h.1 e).2
theorem inR_a {t : Tac} {regs : Int} (h : t.inR regs) (ho : t.op = 2 ∨ t.op = 3) : 0 ≤ t.a ∧ t.a < regs := h.2 _ (by rcases ho with ho | ho <;> simp [Tac.uses, use1, use2, ho])
theorem inR_b {t : Tac} {regs : Int} (h : t.inR regs) (ho : t.op = 3) : 0 ≤ t.b ∧ t.b < regs := h.2 _ (by simp [Tac.uses, use1, use2, ho])
theorem pget_isW {K : WMap} (h : allW K) {z v : Int} (hv : pget z K = some v) : isW v := by
  have := pget_w h z
  rw [hv] at this; exact this
theorem small_inR {b : Blocks} {most : Int} (h : b.small most = true) {i : Nat} {f : BFunc} (hf : b.funcs[i]? = some f) : ∀ x ∈ f.blocks, ∀ t ∈ x.ins, t.inR f.regs := fun x hx t ht =>
  fits_inR (((one_spec ((right_spec (small_spec h).2.2.2.2).2.2.2 i f hf)).2.2.2 x hx).2 t ht)
end Go.Proofs.Ytidfabbnobipkaa.Sv

namespace Go.Proofs.Ytidfabbnobipkaa.Sv
open Go
set_option linter.unusedVariables false
set_option linter.unusedSimpArgs false

def byteCells (l : List UInt8) : List (List AV) := l.map fun b => [AV.int .u8 b.toNat]
theorem push_bytes : ∀ (l : List UInt8) (s : ByteArray), (l.map (fun b : UInt8 => ((b.toNat : Nat) : Int))).foldl (fun r n => r.push (UInt8.ofNat n.toNat)) s = ⟨s.data ++ l.toArray⟩
  | [], s => by simp
  | b :: r, s => by
    simp only [List.map_cons, List.foldl_cons, Int.toNat_natCast, UInt8.ofNat_toNat]
    rw [push_bytes r]
    show ByteArray.mk (s.data.push b ++ r.toArray) = _
    congr 1
    apply Array.toList_inj.1
    simp
theorem push_all (l : List UInt8) : (l.map (fun b : UInt8 => ((b.toNat : Nat) : Int))).foldl (fun r n => r.push (UInt8.ofNat n.toNat)) ByteArray.empty = ⟨l.toArray⟩ := by
  rw [push_bytes]
  show ByteArray.mk (#[] ++ l.toArray) = _
  simp
section
variable {P : Program} {T : Nat → Option TyI} {o : Oper} {e : AEnv} {h : AHeap}
theorem q_bytesStr (hT : TOk P T) {t u : TypeId} {x : Operand} {l : List UInt8} {ex : Bool} {i j k : TyI} {v : Nat} (ho : o.op = .convert t u x) (hx : look e x = some (.lst ex (byteCells l))) (hi : T t = some i) (hik : i.k = .slice v) (hv : T v = some k) (hk : k.k = .int .u8) (hj : T u = some j) (hjk : j.k = .string) :
    QLoc P o e h [] (.str ⟨l.toArray⟩) := by
  intro H ι a w s hs g1 g2
  have hx' : look s.env x = some (.lst ex (byteCells l)) := by rw [g1 x (by rw [ho]; simp [Op.operands]), hx]
  obtain ⟨info, d, e1, e2, e3, e4, e5, e6⟩ := tyOf_spec (hT _ _ hi)
  obtain ⟨info', d', e1', e2', e3', e4', e5', e6'⟩ := tyOf_spec (hT _ _ hj)
  obtain ⟨info'', d'', e1'', e2'', e3'', e4'', e5'', e6''⟩ := tyOf_spec (hT _ _ hv)
  have hd := tk_slice (P := P) (d := d) (e3 ▸ hik)
  subst hd
  have hd := tk_string (P := P) (d := d') (e3' ▸ hjk)
  subst hd
  have hd := tk_int (P := P) (d := d'') (e3'' ▸ hk)
  subst hd
  have hvx := look_rel hs hx'
  generalize hva : a.eval x = va at hvx
  refine ⟨_, .str _ _, ?_⟩
  simp only [execOp, ho, hva, Sem.run_bind]
  have key : (Go.convert t u va).run P w = .ok (.string ⟨l.toArray⟩) w := by
    rcases hvx.lst_inv with ⟨hl, ad, cap, rfl, h1, h2, h3, h4⟩ | ⟨hne, b, off, cap, sz, c, vals, rfl, hb, hsz', hv', hr, hc1, hex, hcap, hmax⟩
    · have hl0 : l = [] := by simpa [byteCells] using hl
      subst hl0
      cases ad with
      | none => simp [Go.convert, run_underlying' e2, run_underlying' e2', run_underlying' e2'', Conv.bytesToString, Sem.run_pure]; rfl
      | some ad =>
        rw [run_convert_bytes_string w t u v (some ad) 0 cap e2 e2'' e2']
        rw [run_bytesToString w ad 0 cap [] (by simpa using run_loadCells (P := P) (w := w) ad 0 (fun _ => undef) (fun j hj => by omega))]
        rfl
    · rw [run_convert_bytes_string w t u v (some ⟨b, off, none⟩) (byteCells l).length cap e2 e2'' e2']
      obtain ⟨TT, fr, hbw⟩ := hs.heap.know b c hb
      have hlen : (byteCells l).length = l.length := by simp [byteCells]
      rw [run_bytesToString w _ _ cap (l.map (fun b : UInt8 => ((b.toNat : Nat) : Int))) ?_, push_all]
      have hld := run_loadCells_list (P := P) (w := w) ⟨b, off, none⟩ (l.map (fun b : UInt8 => Value.int .u8 b.toNat)) (fun j y hj => by
        rw [List.getElem?_map] at hj
        cases hlj : l[j]? with
        | none => rw [hlj] at hj; cases hj
        | some n =>
          rw [hlj] at hj
          cases hj
          have hbc : (byteCells l)[j]? = some [AV.int .u8 n.toNat] := by simp [byteCells, hlj]
          have hsz : sz = 1 := (hsz' j _ hbc).symm
          subst hsz
          have q1 := hv' j _ 0 _ hbc rfl
          have q2 := (hr j _ 0 _ hbc rfl).int_inv
          rw [add_mk, cell_row hbw]
          rw [q2, Nat.mul_one, Nat.add_zero] at q1
          exact q1)
      rw [hlen]
      simpa [List.map_map, Function.comp_def] using hld
  simp only [key, Result.andThen_ok, Sem.run_pure]
end
end Go.Proofs.Ytidfabbnobipkaa.Sv

namespace Go.Proofs.Ytidfabbnobipkaa.Sv
open Go
set_option linter.unusedVariables false
set_option linter.unusedSimpArgs false

structure Mach where
  words : List Int
  out : List UInt8
  read : Nat
  steps : Nat
  fin : Int
def rget (l : List Int) (z : Int) : Int := (l[z.toNat]?).getD 0
def rset (l : List Int) (z v : Int) : List Int := l.set z.toNat v
def byteOf (n : Int) : UInt8 := UInt8.ofNat n.toNat
def inAt (s : ByteArray) (i : Nat) : UInt8 := (s.data.toList[i]?).getD 0
def mstep (fuel : Int) (m : Mach) : Bool × Mach := bif decide ((m.steps : Int) ≥ fuel) then (false, { m with fin := 5 }) else (true, { m with steps := m.steps + 1 })
/-- one instruction -/
def mone (call : Int → Mach → Mach) (s : ByteArray) (t : Tac) (regs : List Int) (m : Mach) : List Int × Mach :=
  bif t.op == 1 then (rset regs t.d t.n, m)
  else bif t.op == 2 then (rset regs t.d (rget regs t.a), m)
  else bif t.op == 3 then
    (bif (wapp t.k (rget regs t.a) (rget regs t.b)).2 == 0 then (rset regs t.d (wapp t.k (rget regs t.a) (rget regs t.b)).1, m) else (regs, { m with fin := 2 }))
  else bif t.op == 4 then (rset regs t.d (rget m.words t.base), m)
  else bif t.op == 5 then (regs, { m with words := rset m.words t.base (rget regs t.a) })
  else bif t.op == 6 then (bif decide (rget regs t.a ≥ t.size) then (regs, { m with fin := 3 }) else (rset regs t.d (rget m.words (t.base + rget regs t.a)), m))
  else bif t.op == 7 then (bif decide (rget regs t.a ≥ t.size) then (regs, { m with fin := 3 }) else (regs, { m with words := rset m.words (t.base + rget regs t.a) (rget regs t.b) }))
  else bif t.op == 8 then (bif decide (m.read < s.size) then (rset regs t.d ((inAt s m.read).toNat : Int), { m with read := m.read + 1 }) else (rset regs t.d 256, m))
  else bif t.op == 9 then (bif decide (m.out.length ≥ 65536) then (regs, { m with fin := 4 }) else (regs, { m with out := m.out ++ [byteOf (rget regs t.a)] }))
  else bif t.op == 10 then (regs, call t.base m)
  else (regs, m)
def mins (call : Int → Mach → Mach) (s : ByteArray) (fuel : Int) : List Tac → List Int → Mach → Bool × List Int × Mach
  | [], regs, m => (true, regs, m)
  | t :: r, regs, m =>
    bif (mstep fuel m).1 then
      (bif (mone call s t regs (mstep fuel m).2).2.fin == 0 then mins call s fuel r (mone call s t regs (mstep fuel m).2).1 (mone call s t regs (mstep fuel m).2).2
       else (false, mone call s t regs (mstep fuel m).2))
    else (false, regs, (mstep fuel m).2)
/-- where it goes on -/
def Block.next (k : Block) (regs : List Int) : Int := bif k.fin == 2 && rget regs k.v == 0 then k.els else k.to
def mblk (call : Int → Mach → Mach) (s : ByteArray) (fuel : Int) (f : BFunc) : Nat → Int → List Int → Mach → Mach
  | 0, _, _, m => m
  | g + 1, i, regs, m =>
    match f.blocks[i.toNat]? with
    | none => m
    | some k =>
      let p := mins call s fuel k.ins regs m
      bif p.1 then
        (bif (mstep fuel p.2.2).1 && !(k.fin == 3) then mblk call s fuel f g (k.next p.2.1) p.2.1 (mstep fuel p.2.2).2 else (mstep fuel p.2.2).2)
      else p.2.2
def mfun (b : Blocks) (s : ByteArray) (fuel : Int) : Nat → Int → Mach → Mach
  | 0, _, m => m
  | n + 1, i, m =>
    match b.funcs[i.toNat]? with
    | none => m
    | some f => mblk (mfun b s fuel n) s fuel f (fuel.toNat + 1) 0 (List.replicate f.regs.toNat 0) m
def m0 (b : Blocks) : Mach := ⟨List.replicate b.words.toNat 0, [], 0, 0, 0⟩
def fuel0 (fuel : Int) : Int := bif decide (fuel < 0) then 0 else fuel
/-- how a run ends -/
def mrun (b : Blocks) (s : ByteArray) (fuel : Int) : Mach :=
  let m := mfun b s (fuel0 fuel) b.funcs.length ((b.funcs.length : Int) - 1) (m0 b)
  bif m.fin == 0 then { m with fin := 1 } else m
def resCells (m : Mach) : List AV := [.int .i64 m.fin, .str ⟨m.out.toArray⟩, .int .i64 m.steps]
def regCells (l : List Int) : List (List AV) := l.map fun n => [AV.int .u32 n]

/-! ### what stays -/
def allR (l : List Int) : Prop := ∀ v ∈ l, isW v
theorem rget_w {l : List Int} (h : allR l) (z : Int) : isW (rget l z) := by
  unfold rget
  cases e : l[z.toNat]? with
  | none => exact isW_zero
  | some v => exact h v (List.mem_of_getElem? e)
theorem rset_w {l : List Int} (h : allR l) (z : Int) {v : Int} (hv : isW v) : allR (rset l z v) := fun u hu => by
  unfold rset at hu
  rcases List.mem_or_eq_of_mem_set hu with hu | rfl
  · exact h u hu
  · exact hv
theorem rset_length (l : List Int) (z v : Int) : (rset l z v).length = l.length := by simp [rset]
theorem byte_w (c : UInt8) : isW ((c.toNat : Nat) : Int) := by
  have : c.toNat < 256 := UInt8.toNat_lt c
  constructor <;> omega
/-- the state is one that may be -/
structure Mach.good (W : Nat) (m : Mach) : Prop where
  len : m.words.length = W
  words : allR m.words
  out : m.out.length ≤ 65536
theorem mstep_good {fuel : Int} {m : Mach} {W : Nat} (h : m.good W) : (mstep fuel m).2.good W := by
  unfold mstep
  cases decide ((m.steps : Int) ≥ fuel) <;> exact ⟨h.1, h.2, h.3⟩
theorem mstep_steps (fuel : Int) (m : Mach) : m.steps ≤ (mstep fuel m).2.steps := by
  unfold mstep
  cases decide ((m.steps : Int) ≥ fuel) <;> simp
theorem mone_good {call : Int → Mach → Mach} {s : ByteArray} {W : Nat} (hc : ∀ i m, m.good W → (call i m).good W) (t : Tac) (ht : isW t.n) {regs : List Int} {m : Mach} (hr : allR regs) (h : m.good W) :
    allR (mone call s t regs m).1 ∧ (mone call s t regs m).1.length = regs.length ∧ (mone call s t regs m).2.good W := by
  have ha := rget_w hr t.a
  have hb := rget_w hr t.b
  unfold mone
  cases t.op == 1 with
  | true => exact ⟨rset_w hr _ ht, rset_length _ _ _, h⟩
  | false =>
  cases t.op == 2 with
  | true => exact ⟨rset_w hr _ ha, rset_length _ _ _, h⟩
  | false =>
  cases t.op == 3 with
  | true =>
    simp only [cond_true, cond_false]
    cases (wapp t.k (rget regs t.a) (rget regs t.b)).2 == 0 with
    | true => exact ⟨rset_w hr _ (wapp_word ha hb), rset_length _ _ _, h⟩
    | false => exact ⟨hr, rfl, ⟨h.1, h.2, h.3⟩⟩
  | false =>
  cases t.op == 4 with
  | true => exact ⟨rset_w hr _ (rget_w h.2 _), rset_length _ _ _, h⟩
  | false =>
  cases t.op == 5 with
  | true => exact ⟨hr, rfl, ⟨by simp only [cond_true, cond_false]; rw [rset_length]; exact h.1, rset_w h.2 _ ha, h.3⟩⟩
  | false =>
  cases t.op == 6 with
  | true =>
    simp only [cond_true, cond_false]
    cases decide (rget regs t.a ≥ t.size) with
    | true => exact ⟨hr, rfl, ⟨h.1, h.2, h.3⟩⟩
    | false => exact ⟨rset_w hr _ (rget_w h.2 _), rset_length _ _ _, h⟩
  | false =>
  cases t.op == 7 with
  | true =>
    simp only [cond_true, cond_false]
    cases decide (rget regs t.a ≥ t.size) with
    | true => exact ⟨hr, rfl, ⟨h.1, h.2, h.3⟩⟩
    | false => exact ⟨hr, rfl, ⟨by simp only [cond_false]; rw [rset_length]; exact h.1, rset_w h.2 _ hb, h.3⟩⟩
  | false =>
  cases t.op == 8 with
  | true =>
    simp only [cond_true, cond_false]
    cases decide (m.read < s.size) with
    | true => exact ⟨rset_w hr _ (byte_w _), rset_length _ _ _, ⟨h.1, h.2, h.3⟩⟩
    | false => exact ⟨rset_w hr _ ⟨by omega, by omega⟩, rset_length _ _ _, h⟩
  | false =>
  cases t.op == 9 with
  | true =>
    simp only [cond_true, cond_false]
    cases e : decide (m.out.length ≥ 65536) with
    | true => exact ⟨hr, rfl, ⟨h.1, h.2, h.3⟩⟩
    | false =>
      refine ⟨hr, rfl, ⟨h.1, h.2, ?_⟩⟩
      simp only [cond_false, List.length_append, List.length_cons, List.length_nil]
      simp at e; omega
  | false =>
  cases t.op == 10 with
  | true => exact ⟨hr, rfl, hc _ _ h⟩
  | false => exact ⟨hr, rfl, h⟩
theorem mone_steps {call : Int → Mach → Mach} {s : ByteArray} (hc : ∀ i m, m.steps ≤ (call i m).steps) (t : Tac) (regs : List Int) (m : Mach) : m.steps ≤ (mone call s t regs m).2.steps := by
  unfold mone
  cases t.op == 1 with
  | true => exact Nat.le_refl _
  | false =>
  cases t.op == 2 with
  | true => exact Nat.le_refl _
  | false =>
  cases t.op == 3 with
  | true =>
    simp only [cond_true, cond_false]
    cases (wapp t.k (rget regs t.a) (rget regs t.b)).2 == 0 <;> exact Nat.le_refl _
  | false =>
  cases t.op == 4 with
  | true => exact Nat.le_refl _
  | false =>
  cases t.op == 5 with
  | true => exact Nat.le_refl _
  | false =>
  cases t.op == 6 with
  | true =>
    simp only [cond_true, cond_false]
    cases decide (rget regs t.a ≥ t.size) <;> exact Nat.le_refl _
  | false =>
  cases t.op == 7 with
  | true =>
    simp only [cond_true, cond_false]
    cases decide (rget regs t.a ≥ t.size) <;> exact Nat.le_refl _
  | false =>
  cases t.op == 8 with
  | true =>
    simp only [cond_true, cond_false]
    cases decide (m.read < s.size) <;> exact Nat.le_refl _
  | false =>
  cases t.op == 9 with
  | true =>
    simp only [cond_true, cond_false]
    cases e : decide (m.out.length ≥ 65536) <;> exact Nat.le_refl _
  | false =>
  cases t.op == 10 with
  | true => exact hc _ _
  | false => exact Nat.le_refl _
theorem mins_good {call : Int → Mach → Mach} {s : ByteArray} {fuel : Int} {W : Nat} (hc : ∀ i m, m.good W → (call i m).good W) : ∀ (l : List Tac), insW l → ∀ (regs : List Int) (m : Mach), allR regs → m.good W →
    allR (mins call s fuel l regs m).2.1 ∧ (mins call s fuel l regs m).2.1.length = regs.length ∧ (mins call s fuel l regs m).2.2.good W
  | [], _, regs, m, hr, h => ⟨hr, rfl, h⟩
  | t :: r, hl, regs, m, hr, h => by
    have h1 := mstep_good (fuel := fuel) h
    have h2 := mone_good (s := s) hc t (hl t (by simp)) hr h1
    unfold mins
    cases (mstep fuel m).1 with
    | false => exact ⟨hr, rfl, h1⟩
    | true =>
      simp only [cond_true]
      cases (mone call s t regs (mstep fuel m).2).2.fin == 0 with
      | false => exact h2
      | true =>
        have ih := mins_good (fuel := fuel) (s := s) hc r (fun u hu => hl u (by simp [hu])) _ _ h2.1 h2.2.2
        exact ⟨ih.1, ih.2.1.trans h2.2.1, ih.2.2⟩
theorem mins_steps {call : Int → Mach → Mach} {s : ByteArray} {fuel : Int} (hc : ∀ i m, m.steps ≤ (call i m).steps) : ∀ (l : List Tac) (regs : List Int) (m : Mach), m.steps ≤ (mins call s fuel l regs m).2.2.steps
  | [], _, _ => Nat.le_refl _
  | t :: r, regs, m => by
    have h1 := mstep_steps fuel m
    have h2 := mone_steps (s := s) hc t regs (mstep fuel m).2
    unfold mins
    cases (mstep fuel m).1 with
    | false => exact h1
    | true =>
      simp only [cond_true]
      cases (mone call s t regs (mstep fuel m).2).2.fin == 0 with
      | false => exact Nat.le_trans h1 h2
      | true => exact Nat.le_trans (Nat.le_trans h1 h2) (mins_steps hc r _ _)
theorem mblk_good {call : Int → Mach → Mach} {s : ByteArray} {fuel : Int} {W : Nat} (hc : ∀ i m, m.good W → (call i m).good W) {f : BFunc} (hf : ∀ x ∈ f.blocks, insW x.ins) : ∀ (g : Nat) (i : Int) (regs : List Int) (m : Mach), allR regs → m.good W → (mblk call s fuel f g i regs m).good W
  | 0, _, _, _, _, h => h
  | g + 1, i, regs, m, hr, h => by
    unfold mblk
    split
    · exact h
    · rename_i k hk
      have h2 := mins_good (s := s) (fuel := fuel) hc k.ins (hf k (List.mem_of_getElem? hk)) regs m hr h
      have h3 := mstep_good (fuel := fuel) h2.2.2
      dsimp only
      cases (mins call s fuel k.ins regs m).1 with
      | false => exact h2.2.2
      | true =>
        simp only [cond_true]
        cases (mstep fuel (mins call s fuel k.ins regs m).2.2).1 && !(k.fin == 3) with
        | false => exact h3
        | true => exact mblk_good hc hf g _ _ _ h2.1 h3
theorem mblk_steps {call : Int → Mach → Mach} {s : ByteArray} {fuel : Int} (hc : ∀ i m, m.steps ≤ (call i m).steps) {f : BFunc} : ∀ (g : Nat) (i : Int) (regs : List Int) (m : Mach), m.steps ≤ (mblk call s fuel f g i regs m).steps
  | 0, _, _, _ => Nat.le_refl _
  | g + 1, i, regs, m => by
    unfold mblk
    split
    · exact Nat.le_refl _
    · rename_i k hk
      have h2 := mins_steps (s := s) (fuel := fuel) hc k.ins regs m
      have h3 := mstep_steps fuel (mins call s fuel k.ins regs m).2.2
      dsimp only
      cases (mins call s fuel k.ins regs m).1 with
      | false => exact h2
      | true =>
        simp only [cond_true]
        cases (mstep fuel (mins call s fuel k.ins regs m).2.2).1 && !(k.fin == 3) with
        | false => exact Nat.le_trans h2 h3
        | true => exact Nat.le_trans (Nat.le_trans h2 h3) (mblk_steps hc g _ _ _)
theorem allR_rep (n : Nat) : allR (List.replicate n 0) := fun v hv => by
  rw [List.eq_of_mem_replicate hv]; exact isW_zero
def Blocks.insW (b : Blocks) : Prop := ∀ f ∈ b.funcs, ∀ x ∈ f.blocks, Sv.insW x.ins
theorem mfun_good {b : Blocks} (hb : b.insW) {s : ByteArray} {fuel : Int} {W : Nat} : ∀ (n : Nat) (i : Int) (m : Mach), m.good W → (mfun b s fuel n i m).good W
  | 0, _, _, h => h
  | n + 1, i, m, h => by
    unfold mfun
    split
    · exact h
    · rename_i f hf
      exact mblk_good (fun i m h => mfun_good hb n i m h) (hb f (List.mem_of_getElem? hf)) _ _ _ _ (allR_rep _) h
theorem mfun_steps {b : Blocks} {s : ByteArray} {fuel : Int} : ∀ (n : Nat) (i : Int) (m : Mach), m.steps ≤ (mfun b s fuel n i m).steps
  | 0, _, _ => Nat.le_refl _
  | n + 1, i, m => by
    unfold mfun
    split
    · exact Nat.le_refl _
    · exact mblk_steps (fun i m => mfun_steps n i m) _ _ _ _
end Go.Proofs.Ytidfabbnobipkaa.Sv

namespace Go.Proofs.Ytidfabbnobipkaa.Sv
open Go
set_option linter.unusedVariables false
set_option linter.unusedSimpArgs false

def runCells (b : Blocks) (s : ByteArray) (fuel : Int) (m : Mach) : List AV :=
  [.int .i64 b.words, funcsAV b.funcs, .str s, .int .i64 fuel, .ref 1 b.words.toNat 0 b.words.toNat, .ref 2 m.out.length 0 m.out.length, .int .i64 (m.read : Int), .int .i64 (m.steps : Int), .int .i64 m.fin]
abbrev mheap (h : AHeap) (b : Blocks) (s : ByteArray) (fuel : Int) (m : Mach) : AHeap :=
  hput (hput (hput h 0 (.row false 9 [runCells b s fuel m])) 1 (.row true 1 (regCells m.words))) 2 (.row true 1 (byteCells m.out))
theorem regCells_len (l : List Int) : (regCells l).length = l.length := by simp [regCells]
theorem regCells_rep (n : Nat) : List.replicate n [AV.int .u32 0] = regCells (List.replicate n 0) := by simp [regCells]
theorem rcell {l : List Int} {z : Int} (h : 0 ≤ z ∧ z < l.length) : (regCells l)[0 + z.toNat]? = some [AV.int .u32 (rget l z)] := by
  obtain ⟨v, hv⟩ := get_of_lt (l := l) (k := z.toNat) (by omega)
  rw [Nat.zero_add, regCells, List.getElem?_map, hv, rget, hv]; rfl
theorem rcell_set (l : List Int) (z v : Int) : (regCells l).set (0 + z.toNat) [AV.int .u32 v] = regCells (rset l z v) := by
  rw [Nat.zero_add, regCells, regCells, rset, List.map_set]
theorem rcell_set2 (l : List Int) (z v : Int) (c : List AV) : ((regCells l).set (0 + z.toNat) c).set (0 + z.toNat) [AV.int .u32 v] = regCells (rset l z v) := by
  rw [List.set_set, rcell_set]
theorem inAt_get {s : ByteArray} {i : Nat} (h : i < s.size) : s.data.toList[i]? = some (inAt s i) := by
  obtain ⟨v, hv⟩ := get_of_lt (l := s.data.toList) (k := i) (by simpa using h)
  rw [inAt, hv]; rfl
theorem wrap_byte {n : Int} (h : isW n) : IntKind.u8.wrap n = (((byteOf n).toNat : Nat) : Int) := by
  obtain ⟨h1, h2⟩ := h
  obtain ⟨k, rfl⟩ := Int.eq_ofNat_of_zero_le h1
  rw [IntKind.wrap_u8, byteOf, Int.toNat_natCast]
  show _ = (((UInt8.ofNat k).toNat : Nat) : Int)
  rw [UInt8.toNat_ofNat']
  omega
section
variable {P : Program} {T : Nat → Option TyI} {o : Oper} {e : AEnv} {h : AHeap}
theorem q_convTo (hT : TOk P T) {t u : TypeId} {x : Operand} {k k' : IntKind} {n r : Int} {i j : TyI} (ho : o.op = .convert t u x) (hx : look e x = some (.int k' n)) (hi : T t = some i) (hj : T u = some j) (hk : j.k = .int k) (hw : k.wrap n = r) : QLoc P o e h [] (.int k r) := by
  have := q_convInt (h := h) hT ho hx hi hj hk
  rwa [hw] at this
end
/-! ### instructions one by one -/
section
variable {call : Int → Mach → Mach} {s : ByteArray} {t : Tac} {regs : List Int} {m : Mach}
theorem mone1 (h : t.op = 1) : mone call s t regs m = (rset regs t.d t.n, m) := by simp [mone, h]
theorem mone2 (h : t.op = 2) : mone call s t regs m = (rset regs t.d (rget regs t.a), m) := by simp [mone, h]
theorem mone3 (h : t.op = 3) (hz : ((wapp t.k (rget regs t.a) (rget regs t.b)).2 != 0) = false) : mone call s t regs m = (rset regs t.d (wapp t.k (rget regs t.a) (rget regs t.b)).1, m) := by
  have hz' : (wapp t.k (rget regs t.a) (rget regs t.b)).2 = 0 := by simpa using hz
  simp [mone, h, hz']
theorem mone3z (h : t.op = 3) (hz : ((wapp t.k (rget regs t.a) (rget regs t.b)).2 != 0) = true) : mone call s t regs m = (regs, { m with fin := 2 }) := by
  have hz' : ((wapp t.k (rget regs t.a) (rget regs t.b)).2 == 0) = false := by simpa [bne] using hz
  simp [mone, h, hz']
theorem mone4 (h : t.op = 4) : mone call s t regs m = (rset regs t.d (rget m.words t.base), m) := by simp [mone, h]
theorem mone5 (h : t.op = 5) : mone call s t regs m = (regs, { m with words := rset m.words t.base (rget regs t.a) }) := by simp [mone, h]
theorem mone67z (h : t.op = 6 ∨ t.op = 7) (hz : decide (rget regs t.a ≥ t.size) = true) : mone call s t regs m = (regs, { m with fin := 3 }) := by
  rcases h with h | h
  · unfold mone; simp only [h, hz]; rfl
  · unfold mone; simp only [h, hz]; rfl
theorem mone6 (h : t.op = 6) (hz : decide (rget regs t.a ≥ t.size) = false) : mone call s t regs m = (rset regs t.d (rget m.words (t.base + rget regs t.a)), m) := by
  unfold mone; simp only [h, hz]; rfl
theorem mone7 (h : t.op = 7) (hz : decide (rget regs t.a ≥ t.size) = false) : mone call s t regs m = (regs, { m with words := rset m.words (t.base + rget regs t.a) (rget regs t.b) }) := by
  unfold mone; simp only [h, hz]; rfl
theorem mone8 (h : t.op = 8) (hz : m.read < s.size) : mone call s t regs m = (rset regs t.d ((inAt s m.read).toNat : Int), { m with read := m.read + 1 }) := by
  have hz' : decide (m.read < s.size) = true := by simpa using hz
  unfold mone; simp only [h, hz']; rfl
theorem mone8z (h : t.op = 8) (hz : ¬ m.read < s.size) : mone call s t regs m = (rset regs t.d 256, m) := by
  have hz' : decide (m.read < s.size) = false := by simpa using hz
  unfold mone; simp only [h, hz']; rfl
theorem mone9z (h : t.op = 9) (hz : m.out.length ≥ 65536) : mone call s t regs m = (regs, { m with fin := 4 }) := by
  have hz' : decide (m.out.length ≥ 65536) = true := by simpa using hz
  unfold mone; simp only [h, hz']; rfl
theorem mone9 (h : t.op = 9) (hz : ¬ m.out.length ≥ 65536) : mone call s t regs m = (regs, { m with out := m.out ++ [byteOf (rget regs t.a)] }) := by
  have hz' : decide (m.out.length ≥ 65536) = false := by simpa using hz
  unfold mone; simp only [h, hz']; rfl
theorem mone10 (h : t.op = 10) : mone call s t regs m = (regs, call t.base m) := by simp [mone, h]
end
theorem mstep_no {fuel : Int} {m : Mach} (h : decide ((m.steps : Int) ≥ fuel) = true) : mstep fuel m = (false, { m with fin := 5 }) := by simp [mstep, h]
theorem mstep_yes {fuel : Int} {m : Mach} (h : decide ((m.steps : Int) ≥ fuel) = false) : mstep fuel m = (true, { m with steps := m.steps + 1 }) := by simp [mstep, h]
/-- what the ranges of an instruction say -/
structure TacIn (t : Tac) (number R : Nat) (words : Nat) : Prop where
  op : 1 ≤ t.op ∧ t.op ≤ 10
  d : setsOp t.op = true → 0 ≤ t.d ∧ t.d < R
  a : use1 t.op = true ∨ use2 t.op = true → 0 ≤ t.a ∧ t.a < R
  b : use2 t.op = true → 0 ≤ t.b ∧ t.b < R
  base : t.op = 4 ∨ t.op = 5 → 0 ≤ t.base ∧ t.base < words
  arr : t.op = 6 ∨ t.op = 7 → 1 ≤ t.size ∧ t.size ≤ 4096 ∧ 0 ≤ t.base ∧ t.base + t.size ≤ words
  call : t.op = 10 → 0 ≤ t.base ∧ t.base < number
theorem tacIn_of {t : Tac} {f regs words : Int} (h : t.fits f regs words = true) : TacIn t f.toNat regs.toNat words.toNat := by
  have h0 := h
  simp only [Tac.fits, Bool.and_eq_true, Bool.or_eq_true, Bool.not_eq_true', List.all_eq_true, within, decide_eq_true_eq] at h
  obtain ⟨h1, h2, h3, h4, h5, _⟩ := h
  refine ⟨⟨h1, h2⟩, fun e => ?_, fun e => ?_, fun e => ?_, fun e => ?_, fun e => ?_, fun e => ?_⟩
  · rcases h3 with h3 | h3
    · rw [e] at h3; cases h3
    · omega
  · have := h4 t.a (by rcases e with e | e <;> simp [Tac.uses, e] <;> cases use1 t.op <;> simp)
    omega
  · have e2 := use12 t.op
    rw [e, Bool.and_true] at e2
    have := h4 t.b (by simp [Tac.uses, e, e2])
    omega
  · rcases e with e | e <;> simp [Tac.rest, baseOp, e, within] at h5 <;> omega
  · rcases e with e | e <;> simp [Tac.rest, baseOp, arrOp, e] at h5 <;> omega
  · simp [Tac.rest, baseOp, arrOp, e, within] at h5; omega

/-! ### the rounds -/
structure FG where
  i : Int
  regs : List Int
  m : Mach
  g : Nat
structure IG where
  j : Nat
  regs : List Int
  m : Mach
section
variable {call : Int → Mach → Mach} {s : ByteArray} {fuel : Int} {f : BFunc} {W R : Nat} {tgt : Mach} {q : FG} {k : Block} {r : IG}
structure FInv (call : Int → Mach → Mach) (s : ByteArray) (fuel : Int) (f : BFunc) (W R : Nat) (tgt : Mach) (q : FG) : Prop where
  good : q.m.good W
  fin : q.m.fin = 0
  regs : allR q.regs
  len : q.regs.length = R
  i : 0 ≤ q.i ∧ q.i < f.blocks.length
  g : 0 < q.g
  gas : fuel.toNat < q.m.steps + q.g
  tgt : mblk call s fuel f q.g q.i q.regs q.m = tgt
structure IInv (call : Int → Mach → Mach) (s : ByteArray) (fuel : Int) (k : Block) (q : FG) (W R : Nat) (r : IG) : Prop where
  good : r.m.good W
  fin : r.m.fin = 0
  regs : allR r.regs
  len : r.regs.length = R
  j : r.j ≤ k.ins.length
  steps : q.m.steps ≤ r.m.steps
  eq : mins call s fuel (k.ins.drop r.j) r.regs r.m = mins call s fuel k.ins q.regs q.m
theorem FInv.start (h : FInv call s fuel f W R tgt q) : IInv call s fuel k q W R ⟨0, q.regs, q.m⟩ := ⟨h.good, h.fin, h.regs, h.len, Nat.zero_le _, Nat.le_refl _, rfl⟩
theorem FInv.unfold (h : FInv call s fuel f W R tgt q) (hk : f.blocks[q.i.toNat]? = some k) : tgt =
    (bif (mins call s fuel k.ins q.regs q.m).1 then
        (bif (mstep fuel (mins call s fuel k.ins q.regs q.m).2.2).1 && !(k.fin == 3) then mblk call s fuel f (q.g - 1) (k.next (mins call s fuel k.ins q.regs q.m).2.1) (mins call s fuel k.ins q.regs q.m).2.1 (mstep fuel (mins call s fuel k.ins q.regs q.m).2.2).2 else (mstep fuel (mins call s fuel k.ins q.regs q.m).2.2).2)
      else (mins call s fuel k.ins q.regs q.m).2.2) := by
  have h1 := h.tgt
  obtain ⟨g, hg⟩ : ∃ g, q.g = g + 1 := ⟨q.g - 1, by have := h.g; omega⟩
  rw [hg] at h1 ⊢
  rw [← h1, mblk, hk]; rfl
theorem IInv.head (hi : IInv call s fuel k q W R r) {u : Tac} (hu : k.ins[r.j]? = some u) : mins call s fuel k.ins q.regs q.m = mins call s fuel (u :: k.ins.drop (r.j + 1)) r.regs r.m := by
  rw [← hi.eq]
  have hl := (List.getElem?_eq_some_iff.1 hu)
  obtain ⟨h1, h2⟩ := hl
  rw [List.drop_eq_getElem_cons h1, h2]
theorem fin_A (h : FInv call s fuel f W R tgt q) (hk : f.blocks[q.i.toNat]? = some k) (hi : IInv call s fuel k q W R r) {u : Tac} (hu : k.ins[r.j]? = some u) (hs : (mstep fuel r.m).1 = false) : tgt = (mstep fuel r.m).2 := by
  have e : mins call s fuel k.ins q.regs q.m = (false, r.regs, (mstep fuel r.m).2) := by rw [hi.head hu, mins, hs]; rfl
  rw [h.unfold hk, e]; rfl
theorem fin_B (h : FInv call s fuel f W R tgt q) (hk : f.blocks[q.i.toNat]? = some k) (hi : IInv call s fuel k q W R r) {u : Tac} (hu : k.ins[r.j]? = some u) (hs : (mstep fuel r.m).1 = true) (hz : ((mone call s u r.regs (mstep fuel r.m).2).2.fin != 0) = true) :
    tgt = (mone call s u r.regs (mstep fuel r.m).2).2 := by
  have hz' : ((mone call s u r.regs (mstep fuel r.m).2).2.fin == 0) = false := by simpa [bne] using hz
  have e : mins call s fuel k.ins q.regs q.m = (false, mone call s u r.regs (mstep fuel r.m).2) := by rw [hi.head hu, mins, hs, hz']; rfl
  rw [h.unfold hk, e]; rfl
theorem IInv.next (hi : IInv call s fuel k q W R r) (hcg : ∀ i m, m.good W → (call i m).good W) (hcs : ∀ i m, m.steps ≤ (call i m).steps) {u : Tac} (hu : k.ins[r.j]? = some u) (hw : isW u.n) (hs : (mstep fuel r.m).1 = true) (hz : ((mone call s u r.regs (mstep fuel r.m).2).2.fin != 0) = false) :
    IInv call s fuel k q W R ⟨r.j + 1, (mone call s u r.regs (mstep fuel r.m).2).1, (mone call s u r.regs (mstep fuel r.m).2).2⟩ := by
  have hz' : ((mone call s u r.regs (mstep fuel r.m).2).2.fin) = 0 := by simpa using hz
  have hg := mone_good (s := s) hcg u hw hi.regs (mstep_good (fuel := fuel) hi.good)
  refine ⟨hg.2.2, hz', hg.1, hg.2.1.trans hi.len, (List.getElem?_eq_some_iff.1 hu).1, ?_, ?_⟩
  · exact Nat.le_trans hi.steps (Nat.le_trans (mstep_steps fuel r.m) (mone_steps hcs u r.regs _))
  · rw [hi.head hu]
    dsimp only
    conv => rhs; rw [mins]
    rw [hs, hz']; rfl
theorem IInv.done (hi : IInv call s fuel k q W R r) (hj : k.ins.length ≤ r.j) : mins call s fuel k.ins q.regs q.m = (true, r.regs, r.m) := by
  rw [← hi.eq, List.drop_eq_nil_of_le hj]; rfl
theorem fin_C1 (h : FInv call s fuel f W R tgt q) (hk : f.blocks[q.i.toNat]? = some k) (hi : IInv call s fuel k q W R r) (hj : k.ins.length ≤ r.j) (hs : (mstep fuel r.m).1 = false) : tgt = (mstep fuel r.m).2 := by
  rw [h.unfold hk, hi.done hj]
  simp only [hs, Bool.false_and, cond_false, cond_true]
theorem fin_C2 (h : FInv call s fuel f W R tgt q) (hk : f.blocks[q.i.toNat]? = some k) (hi : IInv call s fuel k q W R r) (hj : k.ins.length ≤ r.j) (hf : (k.fin == 3) = true) : tgt = (mstep fuel r.m).2 := by
  rw [h.unfold hk, hi.done hj]
  simp only [hf, Bool.not_true, Bool.and_false, cond_false, cond_true]
theorem fin_C (h : FInv call s fuel f W R tgt q) (hk : f.blocks[q.i.toNat]? = some k) (hi : IInv call s fuel k q W R r) (hj : k.ins.length ≤ r.j) (hs : (mstep fuel r.m).1 = false ∨ (k.fin == 3) = true) : tgt = (mstep fuel r.m).2 :=
  hs.elim (fin_C1 h hk hi hj) (fin_C2 h hk hi hj)
theorem mstep_true {m : Mach} (hs : (mstep fuel m).1 = true) : (m.steps : Int) < fuel ∧ (mstep fuel m).2 = { m with steps := m.steps + 1 } := by
  unfold mstep at *
  cases e : decide ((m.steps : Int) ≥ fuel) with
  | true => rw [e] at hs; cases hs
  | false => simp at e; exact ⟨e, rfl⟩
theorem FInv.next (h : FInv call s fuel f W R tgt q) (hk : f.blocks[q.i.toNat]? = some k) (hi : IInv call s fuel k q W R r) (hj : k.ins.length ≤ r.j) (hs : (mstep fuel r.m).1 = true) (hf : (k.fin == 3) = false) (hn : 0 ≤ k.next r.regs ∧ k.next r.regs < f.blocks.length) :
    FInv call s fuel f W R tgt ⟨k.next r.regs, r.regs, (mstep fuel r.m).2, q.g - 1⟩ ∧ q.g - 1 < q.g := by
  obtain ⟨h1, h2⟩ := mstep_true hs
  have hg := h.g
  have hgas := h.gas
  have hst := hi.steps
  refine ⟨⟨mstep_good hi.good, by rw [h2]; exact hi.fin, hi.regs, hi.len, hn, ?_, ?_, ?_⟩, by omega⟩
  · rw [show (FG.mk (k.next r.regs) r.regs (mstep fuel r.m).2 (q.g - 1)).g = q.g - 1 from rfl]; omega
  · rw [h2]; dsimp only; omega
  · rw [h.unfold hk, hi.done hj]
    simp only [hs, hf, Bool.not_false, Bool.and_true, cond_true]
end
theorem ends_next {k : Block} {blocks regs : Int} (h : k.ends blocks regs = true) (hf : (k.fin == 3) = false) (l : List Int) : 0 ≤ k.next l ∧ k.next l < blocks := by
  unfold Block.ends at h
  unfold Block.next
  cases e1 : k.fin == 1 with
  | true =>
    rw [e1] at h
    have e2 : (k.fin == 2) = false := by simp at e1 ⊢; omega
    rw [e2]
    simp [within] at h ⊢; omega
  | false =>
    cases e2 : k.fin == 2 with
    | true =>
      rw [e1, e2] at h
      simp [within] at h
      cases rget l k.v == 0 <;> simp <;> omega
    | false => rw [e1, e2, hf] at h; simp at h
theorem ends_v {k : Block} {blocks regs : Int} (h : k.ends blocks regs = true) (hf : (k.fin == 2) = true) : 0 ≤ k.v ∧ k.v < regs := by
  have e1 : (k.fin == 1) = false := by simp at hf ⊢; omega
  unfold Block.ends at h
  rw [e1, hf] at h
  simp [within] at h; omega
theorem FInv.first {call : Int → Mach → Mach} {s : ByteArray} {fuel : Int} {f : BFunc} {W : Nat} {m : Mach} (hm : m.good W) (h0 : m.fin = 0) (hf : f.blocks ≠ []) :
    FInv call s fuel f W f.regs.toNat (mblk call s fuel f (fuel.toNat + 1) 0 (List.replicate f.regs.toNat 0) m) ⟨0, List.replicate f.regs.toNat 0, m, fuel.toNat + 1⟩ :=
  ⟨hm, h0, allR_rep _, by simp, ⟨by show (0 : Int) ≤ 0; omega, by show (0 : Int) < _; have := List.length_pos_iff.2 hf; omega⟩, Nat.succ_pos _, by show fuel.toNat < m.steps + (fuel.toNat + 1); omega, rfl⟩
end Go.Proofs.Ytidfabbnobipkaa.Sv

namespace Go.Proofs.Ytidfabbnobipkaa.Sv
open Go
set_option linter.unusedVariables false
set_option linter.unusedSimpArgs false

/-- alike, with no more steps -/
structure Mach.Le (m m' : Mach) : Prop where
  words : m'.words = m.words
  out : m'.out = m.out
  read : m'.read = m.read
  fin : m'.fin = m.fin
  steps : m'.steps ≤ m.steps
/-- the first one had no fuel, or both are alike -/
def Mach.Sim (x y : Mach) : Prop := x.fin = 5 ∨ x.Le y
theorem Mach.Le.refl (m : Mach) : m.Le m := ⟨rfl, rfl, rfl, rfl, Nat.le_refl _⟩
theorem Mach.Le.put {m m' : Mach} (h : m.Le m') (w : List Int) (o : List UInt8) (r : Nat) (f : Int) : Mach.Le ⟨w, o, r, m.steps, f⟩ ⟨w, o, r, m'.steps, f⟩ := ⟨rfl, rfl, rfl, rfl, h.steps⟩
section
variable {call call' : Int → Mach → Mach} {s : ByteArray} {fuel : Int}
theorem mstep_false {m : Mach} (h : (mstep fuel m).1 = false) : (mstep fuel m).2.fin = 5 := by
  unfold mstep at *
  cases e : decide ((m.steps : Int) ≥ fuel) with
  | true => rfl
  | false => rw [e] at h; cases h
theorem mstep_le {m m' : Mach} (h : m.Le m') (h1 : (mstep fuel m).1 = true) : (mstep fuel m').1 = true ∧ (mstep fuel m).2.Le (mstep fuel m').2 := by
  obtain ⟨a1, a2⟩ := mstep_true h1
  have h2 : decide ((m'.steps : Int) ≥ fuel) = false := by have := h.steps; simp; omega
  have e : mstep fuel m' = (true, { m' with steps := m'.steps + 1 }) := mstep_yes h2
  rw [a2, e]
  exact ⟨rfl, ⟨h.words, h.out, h.read, h.fin, Nat.succ_le_succ h.steps⟩⟩
/-- the calls of a list of instructions do alike -/
def callsSim (call call' : Int → Mach → Mach) (ok : Int → Prop) : Prop := ∀ i m m', ok i → m.fin = 0 → m.Le m' → (call i m).Sim (call' i m')
theorem mone_sim {ok : Int → Prop} (hc : callsSim call call' ok) (t : Tac) (ht : t.op = 10 → ok t.base) (regs : List Int) {m m' : Mach} (h0 : m.fin = 0) (h : m.Le m') :
    (mone call s t regs m).1 = (mone call' s t regs m').1 ∧ (mone call s t regs m).2.Sim (mone call' s t regs m').2 := by
  obtain ⟨w, o, r, st, f⟩ := m
  obtain ⟨w', o', r', st', f'⟩ := m'
  obtain ⟨h1, h2, h3, h4, h5⟩ := h
  simp only at h1 h2 h3 h4 h5
  subst h1; subst h2; subst h3; subst h4
  have hle : ∀ (a : List Int) (b : List UInt8) (c : Nat) (d : Int), Mach.Le ⟨a, b, c, st, d⟩ ⟨a, b, c, st', d⟩ := fun a b c d => ⟨rfl, rfl, rfl, rfl, h5⟩
  unfold mone
  cases t.op == 1 with
  | true => exact ⟨rfl, .inr (hle _ _ _ _)⟩
  | false =>
  cases t.op == 2 with
  | true => exact ⟨rfl, .inr (hle _ _ _ _)⟩
  | false =>
  cases t.op == 3 with
  | true =>
    simp only [cond_true, cond_false]
    cases (wapp t.k (rget regs t.a) (rget regs t.b)).2 == 0 <;> exact ⟨rfl, .inr (hle _ _ _ _)⟩
  | false =>
  cases t.op == 4 with
  | true => exact ⟨rfl, .inr (hle _ _ _ _)⟩
  | false =>
  cases t.op == 5 with
  | true => exact ⟨rfl, .inr (hle _ _ _ _)⟩
  | false =>
  cases t.op == 6 with
  | true =>
    simp only [cond_true, cond_false]
    cases decide (rget regs t.a ≥ t.size) <;> exact ⟨rfl, .inr (hle _ _ _ _)⟩
  | false =>
  cases t.op == 7 with
  | true =>
    simp only [cond_true, cond_false]
    cases decide (rget regs t.a ≥ t.size) <;> exact ⟨rfl, .inr (hle _ _ _ _)⟩
  | false =>
  cases t.op == 8 with
  | true =>
    simp only [cond_true, cond_false]
    cases decide (r' < s.size) <;> exact ⟨rfl, .inr (hle _ _ _ _)⟩
  | false =>
  cases t.op == 9 with
  | true =>
    simp only [cond_true, cond_false]
    cases decide (o'.length ≥ 65536) <;> exact ⟨rfl, .inr (hle _ _ _ _)⟩
  | false =>
  cases h10 : t.op == 10 with
  | true => exact ⟨rfl, hc _ _ _ (ht (by simpa using h10)) h0 (hle _ _ _ _)⟩
  | false => exact ⟨rfl, .inr (hle _ _ _ _)⟩
/-- how the two ends of a list of instructions stand -/
def insSim (X Y : Bool × List Int × Mach) : Prop := X.1 = false ∧ X.2.2.fin = 5 ∨ X.1 = Y.1 ∧ X.2.1 = Y.2.1 ∧ X.2.2.Le Y.2.2 ∧ (X.1 = true → X.2.2.fin = 0) ∧ (X.1 = false → X.2.2.fin ≠ 0)
theorem mins_sim {ok : Int → Prop} (hc : callsSim call call' ok) : ∀ (l : List Tac), (∀ t ∈ l, t.op = 10 → ok t.base) → ∀ (regs : List Int) {m m' : Mach}, m.fin = 0 → m.Le m' → insSim (mins call s fuel l regs m) (mins call' s fuel l regs m')
  | [], _, regs, m, m', h0, h => .inr ⟨rfl, rfl, h, fun _ => h0, fun e => by cases e⟩
  | t :: r, hl, regs, m, m', h0, h => by
    unfold mins
    cases h1 : (mstep fuel m).1 with
    | false => exact .inl ⟨rfl, mstep_false h1⟩
    | true =>
      obtain ⟨a1, a2⟩ := mstep_le h h1
      have hz : (mstep fuel m).2.fin = 0 := by rw [(mstep_true h1).2]; exact h0
      obtain ⟨b1, b2⟩ := mone_sim (s := s) hc t (hl t (by simp)) regs hz a2
      rw [a1]
      simp only [cond_true]
      rcases b2 with b2 | b2
      · rw [show ((mone call s t regs (mstep fuel m).2).2.fin == 0) = false by rw [b2]; rfl]
        exact .inl ⟨rfl, b2⟩
      · rw [b2.fin, ← b1]
        cases hf : (mone call s t regs (mstep fuel m).2).2.fin == 0 with
        | false =>
          simp only [cond_false]
          exact .inr ⟨rfl, b1, b2, (fun e => by cases e), fun _ => by simpa using hf⟩
        | true =>
          simp only [cond_true]
          exact mins_sim hc r (fun u hu => hl u (by simp [hu])) _ (by simpa using hf) b2
/-- there is gas enough -/
def gasOk (fuel : Int) (g : Nat) (m : Mach) : Prop := fuel.toNat < m.steps + g
theorem mblk_sim {ok : Int → Prop} (hc : callsSim call call' ok) {f : BFunc} (hf : ∀ x ∈ f.blocks, ∀ t ∈ x.ins, t.op = 10 → ok t.base) (hcs : ∀ i m, m.steps ≤ (call i m).steps) (hcs' : ∀ i m, m.steps ≤ (call' i m).steps) :
    ∀ (g : Nat) (g' : Nat) (i : Int) (regs : List Int) (m m' : Mach), m.fin = 0 → m.Le m' → 0 < g → 0 < g' → gasOk fuel g m → gasOk fuel g' m' → (mblk call s fuel f g i regs m).Sim (mblk call' s fuel f g' i regs m')
  | 0, _, _, _, _, _, _, _, h, _, _, _ => absurd h (by omega)
  | _ + 1, 0, _, _, _, _, _, _, _, h, _, _ => absurd h (by omega)
  | g + 1, g' + 1, i, regs, m, m', h0, h, _, _, hg, hg' => by
    unfold mblk
    cases hk : f.blocks[i.toNat]? with
    | none => exact .inr h
    | some k =>
      have hs := mins_sim (s := s) (fuel := fuel) hc k.ins (hf k (List.mem_of_getElem? hk)) regs h0 h
      have hst := mins_steps (s := s) (fuel := fuel) hcs k.ins regs m
      have hst' := mins_steps (s := s) (fuel := fuel) hcs' k.ins regs m'
      dsimp only
      generalize mins call s fuel k.ins regs m = X at hs hst ⊢
      generalize mins call' s fuel k.ins regs m' = Y at hs hst' ⊢
      obtain ⟨X1, X2, X3⟩ := X
      obtain ⟨Y1, Y2, Y3⟩ := Y
      rcases hs with ⟨h1, h2⟩ | ⟨h1, h2, h3, h4, h5⟩
      · simp only at h1 h2; subst h1; exact .inl h2
      · simp only at h1 h2 h3 h4 h5 hst hst'
        subst h1; subst h2
        cases X1 with
        | false => exact .inr h3
        | true =>
          simp only [cond_true]
          cases hm : (mstep fuel X3).1 with
          | false => simp only [Bool.false_and, cond_false]; exact .inl (mstep_false hm)
          | true =>
            obtain ⟨a1, a2⟩ := mstep_le h3 hm
            obtain ⟨e1, e2⟩ := mstep_true hm
            obtain ⟨e1', e2'⟩ := mstep_true a1
            rw [a1]
            cases hfin : k.fin == 3 with
            | true => exact .inr a2
            | false =>
              simp only [Bool.not_false, Bool.and_self, cond_true]
              refine mblk_sim hc hf hcs hcs' g g' _ _ _ _ (by rw [e2]; exact h4 rfl) a2 ?_ ?_ ?_ ?_
              · unfold gasOk at hg; omega
              · unfold gasOk at hg'; omega
              · unfold gasOk at hg ⊢; rw [e2]; dsimp only; omega
              · unfold gasOk at hg' ⊢; rw [e2']; dsimp only; omega
end
/-- the same functions, from no more steps -/
theorem mfun_sim {b : Blocks} (hb : b.right = true) {s : ByteArray} {fuel : Int} : ∀ (n : Nat) (i : Int) (m m' : Mach), 0 ≤ i → i < b.funcs.length → m.fin = 0 → m.Le m' → (mfun b s fuel n i m).Sim (mfun b s fuel n i m')
  | 0, _, _, _, _, _, _, h => .inr h
  | n + 1, i, m, m', h1, h2, h0, h => by
    unfold mfun
    cases hf : b.funcs[i.toNat]? with
    | none => exact .inr h
    | some f =>
      have hone := (right_spec hb).2.2.2 i.toNat f hf
      refine mblk_sim (ok := fun j => 0 ≤ j ∧ j < b.funcs.length) (fun j m m' hj hz hl => mfun_sim hb n j m m' hj.1 hj.2 hz hl) (fun x hx t ht ho => ?_) (fun j m => mfun_steps n j m) (fun j m => mfun_steps n j m) _ _ _ _ _ _ h0 h (Nat.succ_pos _) (Nat.succ_pos _) ?_ ?_
      · have := (tacIn_of (((one_spec hone).2.2.2 x hx).2 t ht)).call ho
        omega
      · unfold gasOk; omega
      · unfold gasOk; omega
end Go.Proofs.Ytidfabbnobipkaa.Sv

namespace Go.Proofs.Ytidfabbnobipkaa.Sv
open Go
set_option linter.unusedVariables false
set_option linter.unusedSimpArgs false

section
variable {call call' : Int → Mach → Mach} {s : ByteArray} {fuel : Int}
theorem mins_append : ∀ (l1 l2 : List Tac) (regs : List Int) (m : Mach), mins call s fuel (l1 ++ l2) regs m = bif (mins call s fuel l1 regs m).1 then mins call s fuel l2 (mins call s fuel l1 regs m).2.1 (mins call s fuel l1 regs m).2.2 else mins call s fuel l1 regs m
  | [], l2, regs, m => rfl
  | t :: r, l2, regs, m => by
    simp only [List.cons_append, mins]
    cases (mstep fuel m).1 with
    | false => rfl
    | true =>
      simp only [cond_true]
      cases (mone call s t regs (mstep fuel m).2).2.fin == 0 with
      | false => rfl
      | true => exact mins_append r l2 _ _
/-- behind a block's instructions -/
def closeB (call : Int → Mach → Mach) (s : ByteArray) (fuel : Int) (f : BFunc) (k : Block) (g : Nat) (regs : List Int) (m : Mach) : Mach :=
  bif (mstep fuel m).1 && !(k.fin == 3) then mblk call s fuel f g (k.next regs) regs (mstep fuel m).2 else (mstep fuel m).2
theorem mblk_open {f : BFunc} {i : Int} (hi : 0 ≤ i ∧ i < f.blocks.length) (g : Nat) (regs : List Int) (m : Mach) : mblk call s fuel f (g + 1) i regs m =
    bif (mins call s fuel (f.blockAt i).ins regs m).1 then closeB call s fuel f (f.blockAt i) g (mins call s fuel (f.blockAt i).ins regs m).2.1 (mins call s fuel (f.blockAt i).ins regs m).2.2 else (mins call s fuel (f.blockAt i).ins regs m).2.2 := by
  rw [mblk, blockAt_get hi]; rfl
variable {ok : Int → Prop} {old new : BFunc}
theorem path_sim (hc : callsSim call call' ok) (hcs : ∀ i m, m.steps ≤ (call i m).steps) (hf : ∀ x ∈ old.blocks, ∀ t ∈ x.ins, t.op = 10 → ok t.base) :
    ∀ (p : List Int), p ≠ [] → (∀ i ∈ p, 0 ≤ i ∧ i < old.blocks.length) → fol old p → ∀ (g : Nat) (regs : List Int) (m m' : Mach), m.fin = 0 → m.Le m' → 0 < g → gasOk fuel g m →
      (mblk call s fuel old g (headZ p) regs m).fin = 5 ∨
      ((mins call' s fuel (old.joined p) regs m').1 = false ∧ (mblk call s fuel old g (headZ p) regs m).Le (mins call' s fuel (old.joined p) regs m').2.2) ∨
      ((mins call' s fuel (old.joined p) regs m').1 = true ∧ ∃ m2 g2, m2.Le (mins call' s fuel (old.joined p) regs m').2.2 ∧ m2.fin = 0 ∧ gasOk fuel (g2 + 1) m2 ∧ g2 < g ∧
        mblk call s fuel old g (headZ p) regs m = closeB call s fuel old (old.blockAt (lastOf p)) g2 (mins call' s fuel (old.joined p) regs m').2.1 m2)
  | [], h, _, _, _, _, _, _, _, _, _, _ => absurd rfl h
  | [i], _, hin, _, g, regs, m, m', h0, h, hg, hgas => by
    obtain ⟨g1, rfl⟩ : ∃ g1, g = g1 + 1 := ⟨g - 1, by omega⟩
    have hi := hin i (by simp)
    have e : old.joined [i] = (old.blockAt i).ins := by simp [BFunc.joined]
    have hs := mins_sim (s := s) (fuel := fuel) hc (old.blockAt i).ins (hf _ (List.mem_of_getElem? (blockAt_get hi))) regs h0 h
    have hst := mins_steps (s := s) (fuel := fuel) hcs (old.blockAt i).ins regs m
    rw [e, show headZ [i] = i from rfl, show lastOf [i] = i from rfl, mblk_open hi]
    generalize mins call s fuel (old.blockAt i).ins regs m = X at hs hst ⊢
    generalize mins call' s fuel (old.blockAt i).ins regs m' = Y at hs ⊢
    obtain ⟨X1, X2, X3⟩ := X
    obtain ⟨Y1, Y2, Y3⟩ := Y
    rcases hs with ⟨h1, h2⟩ | ⟨h1, h2, h3, h4, h5⟩
    · simp only at h1 h2; subst h1; exact .inl h2
    · simp only at h1 h2 h3 h4 h5 hst
      subst h1; subst h2
      cases X1 with
      | false => exact .inr (.inl ⟨rfl, h3⟩)
      | true => exact .inr (.inr ⟨rfl, X3, g1, h3, h4 rfl, by unfold gasOk at hgas ⊢; omega, Nat.lt_succ_self _, rfl⟩)
  | i :: j :: r, _, hin, hfo, g, regs, m, m', h0, h, hg, hgas => by
    obtain ⟨g1, rfl⟩ : ∃ g1, g = g1 + 1 := ⟨g - 1, by omega⟩
    have hi := hin i (by simp)
    have e : old.joined (i :: j :: r) = (old.blockAt i).ins ++ old.joined (j :: r) := by simp [BFunc.joined]
    have hs := mins_sim (s := s) (fuel := fuel) hc (old.blockAt i).ins (hf _ (List.mem_of_getElem? (blockAt_get hi))) regs h0 h
    have hst := mins_steps (s := s) (fuel := fuel) hcs (old.blockAt i).ins regs m
    have hl : lastOf (i :: j :: r) = lastOf (j :: r) := by simp [lastOf]
    rw [e, show headZ (i :: j :: r) = i from rfl, hl, mblk_open hi, mins_append]
    generalize mins call s fuel (old.blockAt i).ins regs m = X at hs hst ⊢
    generalize mins call' s fuel (old.blockAt i).ins regs m' = Y at hs ⊢
    obtain ⟨X1, X2, X3⟩ := X
    obtain ⟨Y1, Y2, Y3⟩ := Y
    rcases hs with ⟨h1, h2⟩ | ⟨h1, h2, h3, h4, h5⟩
    · simp only at h1 h2; subst h1; exact .inl h2
    · simp only at h1 h2 h3 h4 h5 hst
      subst h1; subst h2
      cases X1 with
      | false => exact .inr (.inl ⟨rfl, h3⟩)
      | true =>
        simp only [cond_true]
        cases hm : (mstep fuel X3).1 with
        | false =>
          refine .inl ?_
          rw [closeB, hm]
          exact mstep_false hm
        | true =>
          obtain ⟨e1, e2⟩ := mstep_true hm
          have hx0 := h4 rfl
          have hn3 : ((old.blockAt i).fin == 3) = false := by rw [hfo.1]; rfl
          have hnx : (old.blockAt i).next X2 = j := by simp [Block.next, hfo.1, hfo.2.1]
          have ec : closeB call s fuel old (old.blockAt i) g1 X2 X3 = mblk call s fuel old g1 j X2 (mstep fuel X3).2 := by
            rw [closeB, hm, hn3, hnx]; rfl
          have hle2 : (mstep fuel X3).2.Le Y3 := by
            rw [e2]
            exact ⟨h3.words, h3.out, h3.read, h3.fin, Nat.le_succ_of_le h3.steps⟩
          have ih := path_sim hc hcs hf (j :: r) (by simp) (fun x hx => hin x (by simp at hx ⊢; exact .inr hx)) hfo.2.2 g1 X2 (mstep fuel X3).2 Y3 (by rw [e2]; exact hx0) hle2
            (by unfold gasOk at hgas; omega) (by unfold gasOk at hgas ⊢; rw [e2]; dsimp only; omega)
          rw [show headZ (j :: r) = j from rfl] at ih
          rw [ec]
          rcases ih with ih | ih | ⟨ih1, m2, g2, q1, q2, q3, q4, q5⟩
          · exact .inl ih
          · exact .inr (.inl ih)
          · exact .inr (.inr ⟨ih1, m2, g2, q1, q2, q3, by omega, q5⟩)
theorem tidy_sim {paths : List (List Int)} (hH : Holds old new paths) (hend : ∀ x ∈ old.blocks, x.fin = 1 ∨ x.fin = 2 ∨ x.fin = 3) (hc : callsSim call call' ok) (hcs : ∀ i m, m.steps ≤ (call i m).steps) (hcs' : ∀ i m, m.steps ≤ (call' i m).steps)
    (hf : ∀ x ∈ old.blocks, ∀ t ∈ x.ins, t.op = 10 → ok t.base) : ∀ (n g : Nat), g ≤ n → ∀ (g' : Nat) (k : Int) (regs : List Int) (m m' : Mach), m.fin = 0 → m.Le m' → 0 < g → 0 < g' → gasOk fuel g m → gasOk fuel g' m' → 0 ≤ k ∧ k < paths.length →
      (mblk call s fuel old g (headZ (pathK paths k)) regs m).Sim (mblk call' s fuel new g' k regs m')
  | 0, g, hgn, _, _, _, _, _, _, _, h, _, _, _, _ => absurd h (by omega)
  | n + 1, g, hgn, g', k, regs, m, m', h0, h, hg, hg', hgas, hgas', hk => by
    obtain ⟨g1', rfl⟩ : ∃ g1, g' = g1 + 1 := ⟨g' - 1, by omega⟩
    have hpk := pathK_get hk
    have ek : ((k.toNat : Nat) : Int) = k := Int.toNat_of_nonneg hk.1
    have hin := hH.all _ (List.mem_of_getElem? hpk)
    have hins := hH.ins _ _ hpk
    have hle := hH.leads _ _ hpk
    rw [ek] at hins hle
    have hkn : 0 ≤ k ∧ k < new.blocks.length := by rw [← hH.len]; exact hk
    have ps := path_sim (call := call) (call' := call') (s := s) (fuel := fuel) hc hcs hf (pathK paths k) hin.1 hin.2 (hH.fol _ _ hpk) g regs m m' h0 h hg hgas
    have hst' := mins_steps (s := s) (fuel := fuel) hcs' (old.joined (pathK paths k)) regs m'
    rw [mblk_open hkn, hins]
    generalize mins call' s fuel (old.joined (pathK paths k)) regs m' = Y at ps hst' ⊢
    generalize hX : mblk call s fuel old g (headZ (pathK paths k)) regs m = X at ps ⊢
    obtain ⟨Y1, Y2, Y3⟩ := Y
    rcases ps with ps | ⟨p1, p2⟩ | ⟨p1, m2, g2, q1, q2, q3, q4, q5⟩
    · exact .inl ps
    · simp only at p1; subst p1; exact .inr p2
    · simp only at p1 q1 q5 hst'
      subst p1
      simp only [cond_true]
      rw [q5]
      unfold closeB
      cases hm : (mstep fuel m2).1 with
      | false => simp only [Bool.false_and, cond_false]; exact .inl (mstep_false hm)
      | true =>
        obtain ⟨a1, a2⟩ := mstep_le q1 hm
        obtain ⟨e1, e2⟩ := mstep_true hm
        obtain ⟨e1', e2'⟩ := mstep_true a1
        obtain ⟨l1, l2, l3, l4, l5, l6⟩ := leadsB_spec hle
        have hlast := hin.2 _ (last_mem hin.1)
        have hfin := hend _ (List.mem_of_getElem? (blockAt_get hlast))
        rw [a1, l1]
        cases h3 : (old.blockAt (lastOf (pathK paths k))).fin == 3 with
        | true => exact .inr a2
        | false =>
          simp only [Bool.not_false, Bool.and_self, cond_true]
          have h12 : (new.blockAt k).fin = 1 ∨ (new.blockAt k).fin = 2 := by
            rw [l1]
            rcases hfin with e | e | e
            · exact .inl e
            · exact .inr e
            · rw [e] at h3; cases h3
          have bt := beginsB_spec (l3 h12)
          have key : 0 ≤ (new.blockAt k).next Y2 ∧ (new.blockAt k).next Y2 < paths.length ∧ (old.blockAt (lastOf (pathK paths k))).next Y2 = headZ (pathK paths ((new.blockAt k).next Y2)) := by
            unfold Block.next
            rw [← l1, ← l2]
            cases hc2 : (new.blockAt k).fin == 2 && rget Y2 (new.blockAt k).v == 0 with
            | false => exact ⟨bt.1, bt.2.1, bt.2.2.symm⟩
            | true =>
              simp only [Bool.and_eq_true, beq_iff_eq] at hc2
              have be := beginsB_spec (l5 hc2.1)
              exact ⟨be.1, be.2.1, be.2.2.symm⟩
          rw [key.2.2]
          refine tidy_sim hH hend hc hcs hcs' hf n g2 (by omega) g1' _ _ _ _ (by rw [e2]; exact q2) a2 ?_ ?_ ?_ ?_ ⟨key.1, key.2.1⟩
          · unfold gasOk at q3; omega
          · unfold gasOk at hgas'; omega
          · unfold gasOk at q3 ⊢; rw [e2]; dsimp only; omega
          · unfold gasOk at hgas' ⊢; rw [e2']; dsimp only; omega
end
def Blocks.put (b : Blocks) (f : BFunc) : Blocks := ⟨b.words, b.funcs.set (b.funcs.length - 1) f⟩
theorem put_len (b : Blocks) (f : BFunc) : (b.put f).funcs.length = b.funcs.length := by simp [Blocks.put]
theorem put_low {b : Blocks} {f : BFunc} {j : Nat} (h : j + 1 < b.funcs.length) : (b.put f).funcs[j]? = b.funcs[j]? := by
  simp only [Blocks.put]; rw [List.getElem?_set_ne (by omega)]
theorem put_last {b : Blocks} {f : BFunc} (h : 0 < b.funcs.length) : (b.put f).funcs[b.funcs.length - 1]? = some f := by
  simp only [Blocks.put]; rw [List.getElem?_set_self (by omega)]
theorem put_sim {b : Blocks} (hb : b.right = true) {f : BFunc} {s : ByteArray} {fuel : Int} : ∀ (n : Nat) (i : Int) (m m' : Mach), 0 ≤ i → i + 1 < b.funcs.length → m.fin = 0 → m.Le m' → (mfun b s fuel n i m).Sim (mfun (b.put f) s fuel n i m')
  | 0, _, _, _, _, _, _, h => .inr h
  | n + 1, i, m, m', h1, h2, h0, h => by
    unfold mfun
    rw [put_low (by omega)]
    cases hf : b.funcs[i.toNat]? with
    | none => exact .inr h
    | some x =>
      have hone := (right_spec hb).2.2.2 i.toNat x hf
      refine mblk_sim (ok := fun j => 0 ≤ j ∧ j + 1 < b.funcs.length) (fun j m m' hj hz hl => put_sim hb n j m m' hj.1 hj.2 hz hl) (fun y hy t ht ho => ?_) (fun j m => mfun_steps n j m) (fun j m => mfun_steps n j m) _ _ _ _ _ _ h0 h (Nat.succ_pos _) (Nat.succ_pos _) ?_ ?_
      · have := (tacIn_of (((one_spec hone).2.2.2 y hy).2 t ht)).call ho
        omega
      · unfold gasOk; omega
      · unfold gasOk; omega
theorem ends_fin {x : Block} {n r : Int} (h : x.ends n r = true) : x.fin = 1 ∨ x.fin = 2 ∨ x.fin = 3 := by
  unfold Block.ends at h
  cases e1 : x.fin == 1 with
  | true => exact .inl (by simpa using e1)
  | false =>
    cases e2 : x.fin == 2 with
    | true => exact .inr (.inl (by simpa using e2))
    | false =>
      rw [e1, e2] at h
      simp at h
      exact .inr (.inr h.1)
/-- the run of what holds -/
theorem run_put {b : Blocks} (hb : b.right = true) {old new : BFunc} (ho : b.funcs[b.funcs.length - 1]? = some old) {paths : List (List Int)} (hH : Holds old new paths) (s : ByteArray) (fuel : Int) :
    (mrun b s fuel).fin = 5 ∨ (mrun b s fuel).fin = (mrun (b.put new) s fuel).fin ∧ (mrun b s fuel).out = (mrun (b.put new) s fuel).out ∧ (mrun (b.put new) s fuel).steps ≤ (mrun b s fuel).steps := by
  have hr := right_spec hb
  have hne : 0 < b.funcs.length := List.length_pos_iff.2 hr.2.2.1
  have hone := hr.2.2.2 _ _ ho
  have hsp := one_spec hone
  obtain ⟨n, hn⟩ : ∃ n, b.funcs.length = n + 1 := ⟨b.funcs.length - 1, by omega⟩
  have en : (((b.funcs.length : Int) - 1)).toNat = b.funcs.length - 1 := by omega
  have key : (mfun b s (fuel0 fuel) (n + 1) ((b.funcs.length : Int) - 1) (m0 b)).Sim (mfun (b.put new) s (fuel0 fuel) (n + 1) ((b.funcs.length : Int) - 1) (m0 b)) := by
    unfold mfun
    rw [en, ho, put_last hne]
    have h0 : headZ (pathK paths 0) = 0 := hH.head
    have hp0 : (0 : Int) < paths.length := by have := hH.ne; omega
    have e0 : new.regs = old.regs := hH.regs.symm
    have := tidy_sim (s := s) (fuel := fuel0 fuel) (call := mfun b s (fuel0 fuel) n) (call' := mfun (b.put new) s (fuel0 fuel) n) (ok := fun j => 0 ≤ j ∧ j + 1 < b.funcs.length) hH (fun x hx => ends_fin (hsp.2.2.2 x hx).1)
      (fun j m m' hj hz hl => put_sim hb n j m m' hj.1 hj.2 hz hl) (fun j m => mfun_steps n j m) (fun j m => mfun_steps n j m)
      (fun x hx t ht ho => by have := (tacIn_of ((hsp.2.2.2 x hx).2 t ht)).call ho; omega) ((fuel0 fuel).toNat + 1) ((fuel0 fuel).toNat + 1) (Nat.le_refl _) ((fuel0 fuel).toNat + 1) 0 (List.replicate old.regs.toNat 0) (m0 b) (m0 b) rfl (Mach.Le.refl _) (Nat.succ_pos _) (Nat.succ_pos _) (by unfold gasOk; omega) (by unfold gasOk; omega) ⟨Int.le_refl _, hp0⟩
    rw [h0] at this
    simp only [e0]
    exact this
  have em : m0 (b.put new) = m0 b := rfl
  unfold mrun
  rw [put_len, em, hn]
  rw [hn] at key
  dsimp only
  generalize mfun b s (fuel0 fuel) (n + 1) (((n + 1 : Nat) : Int) - 1) (m0 b) = X at key ⊢
  generalize mfun (b.put new) s (fuel0 fuel) (n + 1) (((n + 1 : Nat) : Int) - 1) (m0 b) = Y at key ⊢
  rcases key with h | h
  · rw [show (X.fin == 0) = false by rw [h]; rfl]
    exact .inl h
  · rw [h.fin]
    cases X.fin == 0 with
    | true => exact .inr ⟨rfl, h.out.symm, h.steps⟩
    | false => exact .inr ⟨h.fin.symm, h.out.symm, h.steps⟩
/-! ### it may be -/
theorem mem_joined {f : BFunc} {p : List Int} {t : Tac} (h : t ∈ f.joined p) : ∃ i ∈ p, t ∈ (f.blockAt i).ins := by
  simpa [BFunc.joined] using h
theorem one_put {old new : BFunc} {paths : List (List Int)} (hH : Holds old new paths) {n w : Int} (h : old.one n w = true) : new.one n w = true := by
  obtain ⟨h1, h2, h3, h4⟩ := one_spec h
  have hb : new.blocks.length ≠ 0 := by rw [← hH.len]; exact hH.ne
  rw [one_all (by rw [← hH.regs]; exact h1) (by rw [← hH.regs]; exact h2) hb, List.all_eq_true]
  intro x hx
  obtain ⟨k, hk⟩ := List.getElem?_of_mem hx
  have hkl : k < paths.length := by rw [hH.len]; exact (List.getElem?_eq_some_iff.1 hk).1
  obtain ⟨p, hp⟩ := get_of_lt hkl
  have hxk : new.blockAt k = x := by
    have := blockAt_get (f := new) (i := k) (by rw [← hH.len]; omega)
    rw [Int.toNat_natCast, hk] at this
    exact (Option.some.inj this).symm
  have hin := hH.all p (List.mem_of_getElem? hp)
  have hins := hH.ins k p hp
  have hle := hH.leads k p hp
  rw [hxk] at hins hle
  have hlast := hin.2 _ (last_mem hin.1)
  have hold := (h4 _ (List.mem_of_getElem? (blockAt_get hlast))).1
  obtain ⟨l1, l2, l3, l4, l5, l6⟩ := leadsB_spec hle
  have hlen : (new.blocks.length : Int) = paths.length := by rw [hH.len]
  simp only [Block.ok, Bool.and_eq_true, List.all_eq_true]
  refine ⟨?_, fun t ht => ?_⟩
  · rw [hlen, ← hH.regs]
    have hfin := ends_fin hold
    unfold Block.ends at hold ⊢
    rw [← l1] at hold hfin
    rcases hfin with e | e | e
    · have bt := beginsB_spec (l3 (.inl e))
      have e6 := l6 (by rw [e]; decide)
      simp [e, within] at hold ⊢
      rw [l2, e6]
      exact ⟨⟨bt.1, bt.2.1⟩, hold.2⟩
    · have bt := beginsB_spec (l3 (.inr e))
      have be := beginsB_spec (l5 e)
      simp [e, within] at hold ⊢
      rw [l2]
      exact ⟨⟨bt.1, bt.2.1⟩, ⟨be.1, be.2.1⟩, hold.2.2⟩
    · have e4 := l4 (by rw [e]; decide)
      have e6 := l6 (by rw [e]; decide)
      simp [e] at hold ⊢
      rw [l2, e4, e6]
      exact hold
  · rw [hins] at ht
    obtain ⟨i, hi, hti⟩ := mem_joined ht
    rw [← hH.regs]
    exact (h4 _ (List.mem_of_getElem? (blockAt_get (hin.2 i hi)))).2 t hti
theorem right_put {b : Blocks} (hb : b.right = true) {old new : BFunc} (ho : b.funcs[b.funcs.length - 1]? = some old) {paths : List (List Int)} (hH : Holds old new paths) : (b.put new).right = true := by
  obtain ⟨h1, h2, h3, h4⟩ := right_spec hb
  have hne : 0 < b.funcs.length := List.length_pos_iff.2 h3
  rw [right_all (b := b.put new) h1 h2 (by rw [put_len]; omega), List.all_eq_true]
  intro q hq
  obtain ⟨i, hi⟩ := List.getElem?_of_mem hq
  have hlt : i < b.funcs.length := by
    have := (List.getElem?_eq_some_iff.1 hi).1
    simpa [Blocks.put] using this
  by_cases hl : i + 1 < b.funcs.length
  · obtain ⟨f, hf⟩ := get_of_lt hlt
    rw [zipIdx_get ((put_low hl).trans hf)] at hi
    cases hi
    exact h4 i f hf
  · have hil : i = b.funcs.length - 1 := by omega
    subst hil
    rw [zipIdx_get (put_last hne)] at hi
    cases hi
    exact one_put hH (h4 _ _ ho)
end Go.Proofs.Ytidfabbnobipkaa.Sv

namespace Go.Proofs.Ytidfabbnobipkaa.Sv
open Go
set_option linter.unusedVariables false
set_option linter.unusedSimpArgs false
theorem small_insWZ {b : Blocks} (h : b.Ok) : b.insW := fun f hf x hx => BFunc.Ok.insW (h.funcs f hf) hx
theorem small_lenZ {b : Blocks} {most : Int} (hm : most ≤ 1000) (h : b.small most = true) : ∀ f ∈ b.funcs, ∀ x ∈ f.blocks, x.ins.length ≤ maxLen := fun f hf x hx => by
  have h1 := count_ins hf hx
  have h2 := (small_spec h).2.2.2.1
  simp only [maxLen]; omega
theorem put_mem {b : Blocks} {f g : BFunc} (h : g ∈ (b.put f).funcs) : g ∈ b.funcs ∨ g = f := by
  simp only [Blocks.put] at h
  exact List.mem_or_eq_of_mem_set h
theorem put_insW {b : Blocks} {f : BFunc} (h : b.insW) (hf : ∀ x ∈ f.blocks, Sv.insW x.ins) : (b.put f).insW := fun g hg x hx => by
  rcases put_mem hg with hg | rfl
  · exact h g hg x hx
  · exact hf x hx
theorem put_lens {b : Blocks} {f : BFunc} (h : ∀ g ∈ b.funcs, ∀ x ∈ g.blocks, x.ins.length ≤ maxLen) (hf : ∀ x ∈ f.blocks, x.ins.length ≤ 1000000000) : ∀ g ∈ (b.put f).funcs, ∀ x ∈ g.blocks, x.ins.length ≤ maxLen := fun g hg x hx => by
  rcases put_mem hg with hg | rfl
  · exact h g hg x hx
  · have := hf x hx; simp only [maxLen]; omega
def claimCells (b : Blocks) (f : BFunc) (p : List (List Int)) : List AV := [.int .i64 b.words, funcsAV b.funcs, .int .i64 f.regs, blocksAV f.blocks, pathsAV p]
theorem put_cells {b : Blocks} {f : BFunc} : (b.funcs.map BFunc.cells).set (b.funcs.length - 1) f.cells = (b.put f).funcs.map BFunc.cells := by
  simp [Blocks.put, List.map_set]
end Go.Proofs.Ytidfabbnobipkaa.Sv

namespace Go.Proofs.Ytidfabbnobipkaa.Sv
open Go
set_option linter.unusedVariables false
set_option linter.unusedSimpArgs false
theorem tame_small {b : Blocks} {most : Int} (hm : most ≤ 1000) (h : b.small most = true) {i : Nat} {f : BFunc} (hf : b.funcs[i]? = some f) : f.tame := by
  have hsp := small_spec h
  have hfm := List.mem_of_getElem? hf
  have hone := (right_spec hsp.2.2.2.2).2.2.2 i f hf
  have hle := leads_of_one hone
  refine ⟨by have := (hsp.2.2.1 f hfm).2; omega, fun x hx => ?_, hle, fun k hk => head_ends hle hk⟩
  have := count_ins hfm hx
  have := hsp.2.2.2.1
  omega
theorem holds_small {b : Blocks} {most : Int} (h : b.small most = true) {i : Nat} {f : BFunc} (hf : b.funcs[i]? = some f) : Holds f f.tidy f.tpaths := by
  have hone := (right_spec (small_spec h).2.2.2.2).2.2.2 i f hf
  exact tidy_holds (leads_of_one hone) (one_spec hone).2.2.1
theorem tidy_mem {f : BFunc} (h : f.tame) {x : Block} (hx : x ∈ f.tidy.blocks) : ∃ p, inF f.blocks.length p ∧ p.length ≤ f.blocks.length + 1 ∧ x.ins = f.joined p := by
  simp only [BFunc.tidy, List.mem_map] at hx
  obtain ⟨p, hp, rfl⟩ := hx
  exact ⟨p, paths_in h.leads _ (Nat.le_refl _) p hp, pathsTo_len _ p hp, rfl⟩
theorem tidy_insW {f : BFunc} (h : f.tame) (hw : ∀ x ∈ f.blocks, Sv.insW x.ins) : ∀ x ∈ f.tidy.blocks, Sv.insW x.ins := fun x hx t ht => by
  obtain ⟨p, h1, h2, h3⟩ := tidy_mem h hx
  rw [h3] at ht
  obtain ⟨i, hi, hti⟩ := mem_joined ht
  exact hw _ (List.mem_of_getElem? (blockAt_get (h1.2 i hi))) t hti
theorem tidy_lens {f : BFunc} (h : f.tame) : ∀ x ∈ f.tidy.blocks, x.ins.length ≤ 1000000000 := fun x hx => by
  obtain ⟨p, h1, h2, h3⟩ := tidy_mem h hx
  rw [h3]
  have := joined_len h.ins p
  have := h.mild
  omega
end Go.Proofs.Ytidfabbnobipkaa.Sv

namespace Go.Proofs.Ytidfabbnobipkaa.Sv
open Go
set_option linter.unusedVariables false
set_option linter.unusedSimpArgs false

structure BS where
  been : List Bool
  q : List Int
def binto (s : BS) (k : Int) : BS := bif notBeen s.been k then ⟨s.been.set k.toNat true, s.q ++ [k]⟩ else s
def bround (next : List (List Int)) (s : BS) : BS :=
  match s.q with
  | [] => s
  | at' :: r => (rowAt next at').foldl binto ⟨s.been, r⟩
def brun (next : List (List Int)) : Nat → BS → BS
  | 0, s => s
  | g + 1, s => if s.q.isEmpty then s else brun next g (bround next s)
def bstart (n : Nat) : BS := ⟨(List.replicate n false).set 0 true, [0]⟩
def breach (next : List (List Int)) : List Bool := (brun next (next.length + 1) (bstart next.length)).been
def bmu (s : BS) : Nat := unb s.been + s.q.length

theorem binto_eq {b : Int} {s : BS} {c : Bool} (h : notBeen s.been b = c) : binto s b = bif c then ⟨s.been.set b.toNat true, s.q ++ [b]⟩ else s := by unfold binto; rw [h]
theorem binto_len (s : BS) (k : Int) : (binto s k).been.length = s.been.length := by
  unfold binto; cases notBeen s.been k <;> simp
theorem bintos_len : ∀ (l : List Int) (s : BS), (l.foldl binto s).been.length = s.been.length
  | [], _ => rfl
  | k :: r, s => by rw [List.foldl_cons, bintos_len r, binto_len]
theorem binto_mu (s : BS) (k : Int) : bmu (binto s k) = bmu s := by
  unfold binto bmu
  cases e : notBeen s.been k with
  | false => rfl
  | true =>
    obtain ⟨h1, h2, h3⟩ := notBeen_get e
    have := unb_set h3
    simp only [cond_true, List.length_append, List.length_singleton]
    omega
theorem bintos_mu : ∀ (l : List Int) (s : BS), bmu (l.foldl binto s) = bmu s
  | [], _ => rfl
  | k :: r, s => by rw [List.foldl_cons, bintos_mu r, binto_mu]
theorem bround_mu {next : List (List Int)} {s : BS} (h : s.q ≠ []) : bmu (bround next s) + 1 = bmu s := by
  unfold bround
  split
  · rename_i e; exact absurd e h
  · rename_i at' r e
    rw [bintos_mu]
    simp only [bmu, e, List.length_cons]
    omega
theorem unb_start (n : Nat) (h : 0 < n) : unb ((List.replicate n false).set 0 true) + 1 = n := by
  have h1 : (List.replicate n false)[0]? = some false := by rw [List.getElem?_replicate, if_pos h]
  have h2 := unb_set h1
  rw [unb_rep] at h2
  exact h2
theorem brun_step {next : List (List Int)} {g : Nat} {s : BS} (h : s.q ≠ []) : brun next (g + 1) s = brun next g (bround next s) := by
  show (if s.q.isEmpty then s else _) = _
  rw [if_neg (by simpa using h)]
theorem brun_end {next : List (List Int)} {g : Nat} {s : BS} (h : s.q = []) : brun next g s = s := by
  cases g with
  | zero => rfl
  | succ g => show (if s.q.isEmpty then s else _) = _; rw [if_pos (by simp [h])]
theorem brun_len (next : List (List Int)) : ∀ (g : Nat) (s : BS), (brun next g s).been.length = s.been.length
  | 0, _ => rfl
  | g + 1, s => by
    unfold brun
    split
    · rfl
    · rw [brun_len next g]
      unfold bround
      split
      · rfl
      · rw [bintos_len]
theorem breach_length (next : List (List Int)) : (breach next).length = next.length := by
  unfold breach; rw [brun_len]; simp [bstart]
theorem notBeen_false {been : List Bool} {k : Int} (h : notBeen been k = false) (hk : 0 ≤ k ∧ k < been.length) : isBeen been k := by
  obtain ⟨x, hx⟩ := get_of_lt (l := been) (k := k.toNat) (by omega)
  refine ⟨hk.1, ?_⟩
  rw [hx]
  simp only [notBeen, hx, Option.getD_some, hk.1, hk.2, ge_iff_le, decide_true, Bool.true_and, Bool.not_eq_false'] at h
  rw [h]
theorem set_been {l : List Bool} {i : Nat} {k : Int} (h : isBeen l k) : isBeen (l.set i true) k := by
  obtain ⟨h1, h2⟩ := h
  refine ⟨h1, ?_⟩
  rw [List.getElem?_set]
  have hlt := (List.getElem?_eq_some_iff.1 h2).1
  split
  · rename_i he
    rw [he, if_pos hlt]
  · exact h2
/-- what holds of a state in the midst -/
structure BInv (next : List (List Int)) (s : BS) : Prop where
  len : s.been.length = next.length
  q : ∀ k ∈ s.q, 0 ≤ k ∧ k < next.length
  qb : ∀ k ∈ s.q, isBeen s.been k
  zero : isBeen s.been 0
  only : ∀ k, isBeen s.been k → Reaches next k
theorem binto_been {s : BS} {b k : Int} (h : isBeen s.been k) : isBeen (binto s b).been k := by
  unfold binto
  cases notBeen s.been b with
  | false => exact h
  | true => exact set_been h
theorem bintos_been : ∀ (l : List Int) (s : BS) {k : Int}, isBeen s.been k → isBeen (l.foldl binto s).been k
  | [], _, _, h => h
  | b :: r, s, k, h => bintos_been r _ (binto_been h)
theorem binto_inv {next : List (List Int)} {s : BS} {b : Int} (h : BInv next s) (hb : Reaches next b) : BInv next (binto s b) := by
  unfold binto
  cases e : notBeen s.been b with
  | false => exact h
  | true =>
    obtain ⟨h1, h2, h3⟩ := notBeen_get e
    have hself : isBeen (s.been.set b.toNat true) b := ⟨h1, by rw [List.getElem?_set_self (by omega)]⟩
    refine ⟨by simp [h.len], fun k hk => ?_, fun k hk => ?_, set_been h.zero, fun k hk => ?_⟩
    · simp only [cond_true, List.mem_append, List.mem_singleton] at hk
      rcases hk with hk | rfl
      · exact h.q k hk
      · rw [← h.len]; exact ⟨h1, h2⟩
    · simp only [cond_true, List.mem_append, List.mem_singleton] at hk
      rcases hk with hk | rfl
      · exact set_been (h.qb k hk)
      · exact hself
    · obtain ⟨k1, k2⟩ := hk
      simp only [cond_true] at k2
      rw [List.getElem?_set] at k2
      by_cases hh : b.toNat = k.toNat
      · have : k = b := by omega
        rw [this]; exact hb
      · rw [if_neg hh] at k2
        exact h.only k ⟨k1, k2⟩
theorem bintos_inv {next : List (List Int)} : ∀ (l : List Int) (s : BS), BInv next s → (∀ t ∈ l, Reaches next t) → BInv next (l.foldl binto s)
  | [], _, h, _ => h
  | b :: r, s, h, hl => bintos_inv r _ (binto_inv h (hl b (by simp))) (fun t ht => hl t (by simp [ht]))
theorem binto_q {s : BS} {b k : Int} (h : k ∈ s.q) : k ∈ (binto s b).q := by
  unfold binto
  cases notBeen s.been b <;> simp [h]
theorem bintos_q : ∀ (l : List Int) (s : BS) {k : Int}, k ∈ s.q → k ∈ (l.foldl binto s).q
  | [], _, _, h => h
  | b :: r, s, k, h => bintos_q r _ (binto_q h)
/-- whoever is marked on the way stands in the queue, or was marked before -/
theorem binto_new {s : BS} {b k : Int} (h : isBeen (binto s b).been k) : isBeen s.been k ∨ k ∈ (binto s b).q := by
  unfold binto at *
  cases e : notBeen s.been b with
  | false => rw [e] at h; exact .inl h
  | true =>
    rw [e] at h
    simp only [cond_true] at h ⊢
    obtain ⟨k1, k2⟩ := h
    obtain ⟨h1, h2, h3⟩ := notBeen_get e
    rw [List.getElem?_set] at k2
    by_cases hh : b.toNat = k.toNat
    · have : k = b := by omega
      subst this
      exact .inr (by simp)
    · rw [if_neg hh] at k2
      exact .inl ⟨k1, k2⟩
theorem bintos_new : ∀ (l : List Int) (s : BS) {k : Int}, isBeen (l.foldl binto s).been k → isBeen s.been k ∨ k ∈ (l.foldl binto s).q
  | [], _, _, h => .inl h
  | b :: r, s, k, h => by
    rcases bintos_new r _ h with h | h
    · rcases binto_new h with h | h
      · exact .inl h
      · exact .inr (bintos_q r _ h)
    · exact .inr h
theorem bintos_all {n : Nat} : ∀ (l : List Int) (s : BS), s.been.length = n → (∀ t ∈ l, 0 ≤ t ∧ t < n) → ∀ t ∈ l, isBeen (l.foldl binto s).been t
  | [], _, _, _, t, ht => absurd ht (by simp)
  | b :: r, s, hn, hl, t, ht => by
    rw [List.foldl_cons]
    have hb := hl b (by simp)
    rcases List.mem_cons.1 ht with rfl | ht
    · refine bintos_been r _ ?_
      cases e : notBeen s.been t with
      | false => rw [binto_eq e]; exact notBeen_false e (hn ▸ hb)
      | true =>
        rw [binto_eq e]
        exact ⟨hb.1, by show (s.been.set t.toNat true)[t.toNat]? = _; rw [List.getElem?_set_self (by omega)]⟩
    · exact bintos_all r _ (by rw [binto_len, hn]) (fun t ht => hl t (by simp [ht])) t ht
/-- all that follows who was looked at is marked -/
def BDone (next : List (List Int)) (s : BS) : Prop := ∀ k, isBeen s.been k → k ∈ s.q ∨ ∀ t ∈ rowAt next k, isBeen s.been t
theorem bround_ok {next : List (List Int)} {s : BS} (h : BInv next s) : BInv next (bround next s) := by
  unfold bround
  split
  · exact h
  · rename_i at' r e
    have hat : at' ∈ s.q := by rw [e]; simp
    have h0 : BInv next ⟨s.been, r⟩ := ⟨h.len, fun k hk => h.q k (by rw [e]; simp [hk]), fun k hk => h.qb k (by rw [e]; simp [hk]), h.zero, h.only⟩
    exact bintos_inv _ _ h0 (fun t ht => .step at' t (h.only at' (h.qb at' hat)) ht)
theorem bround_inv {next : List (List Int)} (hlead : ∀ l ∈ next, ∀ t ∈ l, 0 ≤ t ∧ t < next.length) {s : BS} (h : BInv next s) (hd : BDone next s) : BInv next (bround next s) ∧ BDone next (bround next s) := by
  unfold bround
  split
  · exact ⟨h, hd⟩
  · rename_i at' r e
    have hat : at' ∈ s.q := by rw [e]; simp
    have hrow : ∀ t ∈ rowAt next at', 0 ≤ t ∧ t < next.length := fun t ht => by
      unfold rowAt at ht
      cases e2 : next[at'.toNat]? with
      | none => rw [e2] at ht; simp at ht
      | some l => rw [e2] at ht; exact hlead l (List.mem_of_getElem? e2) t ht
    have h0 : BInv next ⟨s.been, r⟩ := ⟨h.len, fun k hk => h.q k (by rw [e]; simp [hk]), fun k hk => h.qb k (by rw [e]; simp [hk]), h.zero, h.only⟩
    have hra := h.only at' (h.qb at' hat)
    refine ⟨bintos_inv _ _ h0 (fun t ht => .step at' t hra ht), fun k hk => ?_⟩
    rcases bintos_new _ _ hk with h1 | h1
    · rcases hd k h1 with h2 | h2
      · rw [e] at h2
        rcases List.mem_cons.1 h2 with rfl | h2
        · exact .inr fun t ht => bintos_all _ ⟨s.been, r⟩ h.len hrow t ht
        · exact .inl (bintos_q _ _ h2)
      · exact .inr fun t ht => bintos_been _ _ (h2 t ht)
    · exact .inl h1
theorem brun_inv {next : List (List Int)} (hlead : ∀ l ∈ next, ∀ t ∈ l, 0 ≤ t ∧ t < next.length) : ∀ (g : Nat) (s : BS), BInv next s → BDone next s → bmu s < g → BInv next (brun next g s) ∧ BDone next (brun next g s) ∧ (brun next g s).q = []
  | 0, s, _, _, h => absurd h (by omega)
  | g + 1, s, h, hd, hm => by
    unfold brun
    split
    · rename_i hq; exact ⟨h, hd, by simpa using hq⟩
    · rename_i hq
      have hq' : s.q ≠ [] := by simpa using hq
      obtain ⟨h1, h2⟩ := bround_inv hlead h hd
      have := bround_mu (next := next) hq'
      exact brun_inv hlead g _ h1 h2 (by omega)
theorem bstart_inv {next : List (List Int)} (hn : next ≠ []) : BInv next (bstart next.length) ∧ BDone next (bstart next.length) ∧ bmu (bstart next.length) < next.length + 1 := by
  have hpos := List.length_pos_iff.2 hn
  have h0 : isBeen ((List.replicate next.length false).set 0 true) 0 := ⟨by omega, by show (List.set _ 0 true)[0]? = _; rw [List.getElem?_set_self (by simpa using hpos)]⟩
  have honly : ∀ k, isBeen ((List.replicate next.length false).set 0 true) k → k = 0 := fun k hk => by
    obtain ⟨k1, k2⟩ := hk
    rw [List.getElem?_set] at k2
    by_cases hh : 0 = k.toNat
    · omega
    · rw [if_neg hh] at k2
      have := List.eq_of_mem_replicate (List.mem_of_getElem? k2)
      cases this
  refine ⟨⟨by simp [bstart], fun k hk => ?_, fun k hk => ?_, h0, fun k hk => by rw [honly k hk]; exact .zero⟩, fun k hk => .inl (by rw [honly k hk]; simp [bstart]), ?_⟩
  · simp only [bstart, List.mem_singleton] at hk; subst hk; omega
  · simp only [bstart, List.mem_singleton] at hk; subst hk; exact h0
  · have := unb_start next.length hpos
    simp only [bmu, bstart, List.length_singleton]
    omega
/-- breadth first and depth first reach the same -/
theorem breach_eq {next : List (List Int)} (hn : next ≠ []) (hlead : ∀ l ∈ next, ∀ t ∈ l, 0 ≤ t ∧ t < next.length) : breach next = dreach next (List.replicate next.length false) := by
  refine marks_ext (by rw [breach_length, dreach_length]; simp) (fun k => ?_)
  rw [reach_iff hn hlead]
  obtain ⟨i1, i2, i3⟩ := bstart_inv hn
  obtain ⟨j1, j2, j3⟩ := brun_inv hlead _ _ i1 i2 i3
  constructor
  · exact j1.only k
  · intro hk
    induction hk with
    | zero => exact j1.zero
    | step k t _ ht ih =>
      rcases j2 k ih with h | h
      · rw [j3] at h; cases h
      · exact h t ht
end Go.Proofs.Ytidfabbnobipkaa.Sv

namespace Go.Proofs.Ytidfabbnobipkaa.Sv
open Go
set_option linter.unusedVariables false
set_option linter.unusedSimpArgs false

/-- the last one, of those that are reached, that leads to k; -1: there is none -/
def fromTo (next : List (List Int)) (reach : List Bool) (k : Int) : Nat → Int
  | 0 => -1
  | m + 1 => bif (reach[m]?).getD false && (rowN next m).contains k then (m : Int) else fromTo next reach k m
theorem from_ge {next : List (List Int)} {reach : List Bool} {k : Int} : ∀ (m : Nat), 0 < cntTo next reach k m → ∃ i : Nat, i < m ∧ fromTo next reach k m = (i : Int) ∧ reach[i]? = some true ∧ k ∈ rowN next i
  | 0, h => by simp [cntTo] at h
  | m + 1, h => by
    unfold cntTo at h
    unfold fromTo
    cases hr : (reach[m]?).getD false with
    | false =>
      rw [hr] at h
      simp only [cond_false, Nat.add_zero] at h
      obtain ⟨i, i1, i2, i3⟩ := from_ge m h
      exact ⟨i, by omega, by simpa using i2, i3⟩
    | true =>
      have hrt : reach[m]? = some true := by
        cases e : reach[m]? with
        | none => rw [e] at hr; cases hr
        | some v => rw [e] at hr; simp at hr; rw [hr]
      cases hc : (rowN next m).contains k with
      | true => exact ⟨m, by omega, by simp, hrt, by simpa using hc⟩
      | false =>
        have hz : (rowN next m).count k = 0 := List.count_eq_zero.2 (by simpa using hc)
        rw [hr, hz] at h
        simp only [cond_true, Nat.add_zero] at h
        obtain ⟨i, i1, i2, i3⟩ := from_ge m h
        exact ⟨i, by omega, by simpa using i2, i3⟩
theorem fromTo_range {next : List (List Int)} {reach : List Bool} {k : Int} : ∀ (m : Nat), -1 ≤ fromTo next reach k m ∧ fromTo next reach k m < m
  | 0 => by simp [fromTo]
  | m + 1 => by
    have := fromTo_range (next := next) (reach := reach) (k := k) m
    unfold fromTo
    cases (reach[m]?).getD false && (rowN next m).contains k with
    | true => simp only [cond_true]; omega
    | false => simp only [cond_false]; omega
section
variable {f : BFunc}
def BFunc.inN (f : BFunc) (k : Int) : Nat := cntTo f.nexts f.reach k f.nexts.length
def BFunc.inFrom (f : BFunc) (k : Int) : Int := fromTo f.nexts f.reach k f.nexts.length
/-- who takes a block in -/
def BFunc.byOf (f : BFunc) (k : Nat) : Int :=
  bif decide (0 < k) && ((f.reach[k]?).getD false && (f.inN k == 1 && (f.inFrom k != (k : Int) && (f.blockAt (f.inFrom k)).fin == 1))) then f.inFrom k else -1
def BFunc.bys (f : BFunc) : List Int := (List.range f.blocks.length).map f.byOf
theorem bys_length : f.bys.length = f.blocks.length := by simp [BFunc.bys]
theorem bys_get {k : Nat} (h : k < f.blocks.length) : f.bys[k]? = some (f.byOf k) := by simp [BFunc.bys, h]
theorem bys_iget {k : Nat} (h : k < f.blocks.length) : iget f.bys k = f.byOf k := by simp [iget, bys_get h]
theorem ways_inN (hle : f.leads) {k : Int} (hk : 0 ≤ k) : iget (waysF f.nexts f.reach) k = (f.inN k : Int) := ways_cnt (leadN hle) hk _ (Nat.le_refl _)
theorem rowN_block (hle : f.leads) {i : Nat} (hi : i < f.blocks.length) : rowN f.nexts i = (f.blockAt i).nexts := by
  have h := blockAt_get (f := f) (i := (i : Int)) (by omega)
  rw [Int.toNat_natCast] at h
  rw [rowN, nexts_get h]; rfl
theorem byOf_range (k : Nat) : f.byOf k = -1 ∨ (0 ≤ f.byOf k ∧ f.byOf k < f.blocks.length ∧ f.byOf k = f.inFrom k) := by
  unfold BFunc.byOf
  cases e : decide (0 < k) && ((f.reach[k]?).getD false && (f.inN k == 1 && (f.inFrom k != (k : Int) && (f.blockAt (f.inFrom k)).fin == 1))) with
  | false => exact .inl rfl
  | true =>
    simp only [Bool.and_eq_true, beq_iff_eq] at e
    obtain ⟨_, _, e3, _⟩ := e
    obtain ⟨i, i1, i2, i3⟩ := from_ge f.nexts.length (show 0 < f.inN k by omega)
    rw [nexts_length] at i1
    refine .inr ⟨?_, ?_, rfl⟩ <;> simp only [cond_true, BFunc.inFrom, i2] <;> omega
theorem by_iff (hle : f.leads) (hn : f.blocks ≠ []) {i : Int} {k : Nat} (hi : 0 ≤ i ∧ i < f.blocks.length) (hk : k < f.blocks.length) : f.byOf k = i ↔ iget f.tk i = (k : Int) := by
  have hnl := nexts_length f
  constructor
  · intro h
    unfold BFunc.byOf at h
    cases e : decide (0 < k) && ((f.reach[k]?).getD false && (f.inN k == 1 && (f.inFrom k != (k : Int) && (f.blockAt (f.inFrom k)).fin == 1))) with
    | false => rw [e] at h; simp only [cond_false] at h; omega
    | true =>
      rw [e] at h
      simp only [cond_true] at h
      simp only [Bool.and_eq_true, beq_iff_eq, bne_iff_ne, ne_eq, decide_eq_true_eq] at e
      obtain ⟨e1, e2, e3, e4, e5⟩ := e
      rw [h] at e4 e5
      obtain ⟨j, j1, j2, j3, j4⟩ := from_ge f.nexts.length (show 0 < f.inN k by omega)
      have hj : (j : Int) = i := by rw [← h]; exact j2.symm
      rw [rowN_block hle (by omega), hj] at j4
      have hto : (f.blockAt i).to = (k : Int) := by
        simp [Block.nexts, e5] at j4
        exact j4.symm
      have hri : f.reach[i.toNat]? = some true := by rw [← hj, Int.toNat_natCast]; exact j3
      rw [tk_at hle hi, takeOf, hri]
      have hw := ways_inN hle (k := (k : Int)) (by omega)
      rw [hto, hw, e3, e5]
      have c1 : ((k : Int) != 0) = true := by rw [bne_iff_ne]; omega
      have c2 : ((k : Int) != ((i.toNat : Nat) : Int)) = true := by rw [bne_iff_ne]; omega
      rw [c1, c2]; rfl
  · intro h
    have hne : iget f.tk i ≠ -1 := by rw [h]; omega
    have h2 := h
    rw [tk_at hle hi] at h2
    obtain ⟨a1, a2, a3, a4, a5, a6, a7⟩ := tk_spec hle hi hne
    rw [h] at a1
    have hc2 : (f.blockAt i).to ≠ ((i.toNat : Nat) : Int) := fun hh => by
      rw [takeOf, hh] at h2
      simp at h2
    rw [← a1, ways_inN hle (k := (k : Int)) (by omega)] at a5
    have hN : f.inN k = 1 := by omega
    obtain ⟨j, j1, j2, j3, j4⟩ := from_ge f.nexts.length (show 0 < f.inN k by omega)
    rw [rowN_block hle (by omega)] at j4
    have hj := tk_only hle hi h (by omega) (l := (j : Int)) ⟨by omega, by rw [Int.toNat_natCast]; exact j3⟩ j4
    have hfr : f.inFrom k = i := by rw [← hj]; exact j2
    have hrk : isBeen f.reach (k : Int) := (reach_cl hle hn).2 i a2 k (by rw [row_at hle hi]; simp [Block.nexts, a3, a1])
    have hrk2 : f.reach[k]? = some true := by simpa using hrk.2
    unfold BFunc.byOf
    have c1 : decide (0 < k) = true := decide_eq_true (by omega)
    have c2 : (i != (k : Int)) = true := by rw [bne_iff_ne]; exact fun hh => hc2 (by rw [← a1]; omega)
    rw [hfr, hN, hrk2, a3, c1, c2]; rfl
/-- the last one that is taken in by a block -/
def lastBy (by' : List Int) (a : Int) : Nat → Int
  | 0 => -1
  | m + 1 => bif iget by' m == a then (m : Int) else lastBy by' a m
theorem lastBy_none {by' : List Int} {a : Int} : ∀ (m : Nat), (∀ k : Nat, k < m → iget by' k ≠ a) → lastBy by' a m = -1
  | 0, _ => rfl
  | m + 1, h => by
    unfold lastBy
    have e : (iget by' (m : Int) == a) = false := by rw [beq_eq_false_iff_ne]; exact h m (by omega)
    rw [e]
    exact lastBy_none m fun k hk => h k (by omega)
theorem lastBy_only {by' : List Int} {a : Int} {j : Nat} : ∀ (m : Nat), j < m → iget by' j = a → (∀ k : Nat, k < m → iget by' k = a → k = j) → lastBy by' a m = (j : Int)
  | 0, h, _, _ => absurd h (by omega)
  | m + 1, h, hj, ho => by
    unfold lastBy
    cases e : iget by' (m : Int) == a with
    | true => have := ho m (by omega) (by simpa using e); simp [this]
    | false =>
      have hne : j ≠ m := fun hh => by subst hh; rw [hj] at e; simp at e
      exact lastBy_only m (by omega) hj (fun k hk hh => ho k (by omega) hh)
theorem lastBy_tk (hle : f.leads) (hn : f.blocks ≠ []) {a : Int} (ha : 0 ≤ a ∧ a < f.blocks.length) : lastBy f.bys a f.blocks.length = iget f.tk a := by
  by_cases h : iget f.tk a = -1
  · rw [h]
    refine lastBy_none _ fun k hk he => ?_
    rw [bys_iget hk] at he
    have := (by_iff hle hn ha hk).1 he
    omega
  · obtain ⟨a1, a2, a3, a4, a5, a6, a7⟩ := tk_spec hle ha h
    have hk : (iget f.tk a).toNat < f.blocks.length := by omega
    have hc : (((iget f.tk a).toNat : Nat) : Int) = iget f.tk a := by omega
    have := lastBy_only (by' := f.bys) (a := a) (j := (iget f.tk a).toNat) f.blocks.length hk (by rw [bys_iget hk]; exact (by_iff hle hn ha hk).2 hc.symm)
      (fun k hk' he => by
        rw [bys_iget hk'] at he
        have := (by_iff hle hn ha hk').1 he
        omega)
    rw [this, hc]
theorem lastBy_range (by' : List Int) (a : Int) : ∀ m : Nat, lastBy by' a m = -1 ∨ (0 ≤ lastBy by' a m ∧ lastBy by' a m < m)
  | 0 => .inl rfl
  | m + 1 => by
    unfold lastBy
    cases iget by' (m : Int) == a with
    | true => exact .inr (by simp only [cond_true]; omega)
    | false =>
      rcases lastBy_range by' a m with h | h
      · exact .inl h
      · exact .inr (by simp only [cond_false]; omega)
theorem head_by (hle : f.leads) (hn : f.blocks ≠ []) {k : Nat} (hk : k < f.blocks.length) : f.headOf k = ((f.reach[k]?).getD false && !decide (f.byOf k ≥ 0)) := by
  obtain ⟨r, hr⟩ := get_of_lt (l := f.reach) (k := k) (by rw [reach_length]; exact hk)
  rw [hr, Option.getD_some]
  cases r with
  | false => simp [BFunc.headOf, hr]
  | true =>
    cases e : decide (f.byOf k ≥ 0) with
    | true =>
      have e' : f.byOf k ≥ 0 := by simpa using e
      rcases byOf_range (f := f) k with h | ⟨h1, h2, h3⟩
      · omega
      · have := (by_iff hle hn ⟨h1, h2⟩ hk).1 rfl
        cases eh : f.headOf k with
        | false => rfl
        | true => exact absurd this ((head_free hle eh).2 _ ⟨h1, h2⟩)
    | false =>
      have e' : ¬ f.byOf k ≥ 0 := by simpa using e
      have := head_of hle (t := (k : Int)) ⟨by omega, by simpa using hr⟩ (fun i hi he => by
        have := (by_iff hle hn hi hk).2 he
        omega)
      rw [Int.toNat_natCast] at this
      rw [this]; rfl
/-- the number of the first path that begins with a block -/
def headI (paths : List (List Int)) (a : Int) : Int :=
  match paths.findIdx? (fun p => decide (p.length > 0) && headZ p == a) with
  | some i => (i : Int)
  | none => -1
theorem headI_at {paths : List (List Int)} {a : Int} {k : Nat} {p : List Int} (hp : paths[k]? = some p) (h : (decide (p.length > 0) && headZ p == a) = true) (hno : ∀ j q, j < k → paths[j]? = some q → (decide (q.length > 0) && headZ q == a) = false) : headI paths a = (k : Int) := by
  unfold headI
  have hk := (List.getElem?_eq_some_iff.1 hp).1
  have : paths.findIdx? (fun p => decide (p.length > 0) && headZ p == a) = some k := by
    rw [List.findIdx?_eq_some_iff_getElem]
    refine ⟨hk, ?_, fun j hj => ?_⟩
    · rw [(List.getElem?_eq_some_iff.1 hp).2]; exact h
    · have hjl : j < paths.length := by omega
      have := hno j paths[j] hj (List.getElem?_eq_getElem hjl)
      simp only [this]
      decide
  rw [this]
theorem headI_none {paths : List (List Int)} {a : Int} (hno : ∀ p ∈ paths, (decide (p.length > 0) && headZ p == a) = false) : headI paths a = -1 := by
  unfold headI
  rw [List.findIdx?_eq_none_iff.2 (fun p hp => by rw [hno p hp])]
theorem headI_num (hle : f.leads) (hn : f.blocks ≠ []) {c : Nat} (h : f.headOf c = true) : headI f.tpaths c = iget f.nums c := by
  obtain ⟨i, i1, i2⟩ := path_of hle h
  rw [i1]
  refine headI_at i2 (by simp [pathOf, headZ]) (fun j q hj hq => ?_)
  cases e : decide (q.length > 0) && headZ q == (c : Int) with
  | false => rfl
  | true =>
    simp only [Bool.and_eq_true, beq_iff_eq] at e
    have := head_index hq i2 (by rw [e.2]; simp [pathOf, headZ])
    omega
/-- a new block, as the document has it -/
def BFunc.refBlock (f : BFunc) (paths : List (List Int)) (p : List Int) : Block where
  ins := f.joined p
  fin := (f.blockAt (lastOf p)).fin
  v := (f.blockAt (lastOf p)).v
  to := bif (f.blockAt (lastOf p)).fin == 1 || (f.blockAt (lastOf p)).fin == 2 then headI paths (f.blockAt (lastOf p)).to else (f.blockAt (lastOf p)).to
  els := bif (f.blockAt (lastOf p)).fin == 2 then headI paths (f.blockAt (lastOf p)).els else (f.blockAt (lastOf p)).els
theorem refBlock_eq (hle : f.leads) (hn : f.blocks ≠ []) {p : List Int} (hp : p ∈ f.tpaths) : f.refBlock f.tpaths p = f.newBlock p := by
  obtain ⟨k, hk⟩ := List.getElem?_of_mem hp
  obtain ⟨l1, l2, l3⟩ := last_been hle hn hk
  have hR := (reach_cl hle hn).2
  have key : ∀ t ∈ (f.blockAt (lastOf p)).nexts, headI f.tpaths t = iget f.nums t := fun t ht => by
    obtain ⟨h1, h2⟩ := last_head hle hR l1 l2 ht
    rw [← h2]
    exact headI_num hle hn h1
  unfold BFunc.refBlock BFunc.newBlock
  cases e1 : (f.blockAt (lastOf p)).fin == 1 with
  | true =>
    have e2 : ((f.blockAt (lastOf p)).fin == 2) = false := by rw [show (f.blockAt (lastOf p)).fin = 1 by simpa using e1]; rfl
    have := key (f.blockAt (lastOf p)).to (by simp [Block.nexts, e1])
    simp only [e2, Bool.true_or, cond_true, cond_false, this]
  | false =>
    cases e2 : (f.blockAt (lastOf p)).fin == 2 with
    | true =>
      have k1 := key (f.blockAt (lastOf p)).to (by simp [Block.nexts, e1, e2])
      have k2 := key (f.blockAt (lastOf p)).els (by simp [Block.nexts, e1, e2])
      simp only [Bool.or_true, cond_true, k1, k2]
    | false => simp only [Bool.or_false, cond_false]
theorem ref_tidy (hle : f.leads) (hn : f.blocks ≠ []) : f.tpaths.map (f.refBlock f.tpaths) = f.tidy.blocks :=
  List.map_congr_left fun p hp => refBlock_eq hle hn hp
end
end Go.Proofs.Ytidfabbnobipkaa.Sv

namespace Go.Proofs.Ytidfabbnobipkaa.Sv
open Go
set_option linter.unusedVariables false
set_option linter.unusedSimpArgs false

/-- blocks in a row -/
structure Chainy (f : BFunc) (p : List Int) : Prop where
  nd : p.Nodup
  mem : ∀ x, x ∈ p ↔ 0 ≤ x ∧ x < f.blocks.length
  zero : p[0]? = some 0
  next : ∀ (j : Nat) (x y : Int), p[j]? = some x → p[j + 1]? = some y → (f.blockAt x).fin = 1 ∧ (f.blockAt x).to = y
  last : ∀ (j : Nat) (x : Int), p[j]? = some x → p[j + 1]? = none → (f.blockAt x).fin = 3
section
variable {f : BFunc} {p : List Int}
theorem Chainy.get_inj (h : Chainy f p) {i j : Nat} {x : Int} (hi : p[i]? = some x) (hj : p[j]? = some x) : i = j := by
  obtain ⟨a, b⟩ := List.getElem?_eq_some_iff.1 hi
  obtain ⟨c, d⟩ := List.getElem?_eq_some_iff.1 hj
  exact (List.getElem_inj h.nd).1 (b.trans d.symm)
theorem Chainy.nexts (h : Chainy f p) {j : Nat} {x : Int} (hx : p[j]? = some x) : (f.blockAt x).nexts = match p[j + 1]? with | some y => [y] | none => [] := by
  cases e : p[j + 1]? with
  | some y => obtain ⟨h1, h2⟩ := h.next j x y hx e; simp [Block.nexts, h1, h2]
  | none => have h1 := h.last j x hx e; simp [Block.nexts, h1]
theorem Chainy.leads (h : Chainy f p) : f.leads := fun l hl t ht => by
  simp only [BFunc.nexts, List.mem_map] at hl
  obtain ⟨b, hb, rfl⟩ := hl
  obtain ⟨k, hk⟩ := List.getElem?_of_mem hb
  have hkl := (List.getElem?_eq_some_iff.1 hk).1
  have hin : (k : Int) ∈ p := (h.mem k).2 (by omega)
  obtain ⟨j, hj⟩ := List.getElem?_of_mem hin
  have hbk : f.blockAt (k : Int) = b := by simp [BFunc.blockAt, hk]
  have := h.nexts hj
  rw [hbk] at this
  rw [this] at ht
  cases e : p[j + 1]? with
  | none => rw [e] at ht; simp at ht
  | some y =>
    rw [e] at ht
    simp at ht
    subst ht
    exact (h.mem t).1 (List.mem_of_getElem? e)
theorem Chainy.ne (h : Chainy f p) : f.blocks ≠ [] := fun e => by
  have := (h.mem 0).1 (List.mem_of_getElem? h.zero)
  rw [e] at this; simp at this
theorem Chainy.reaches (h : Chainy f p) : ∀ (j : Nat) (x : Int), p[j]? = some x → Reaches f.nexts x
  | 0, x, hx => by rw [h.zero] at hx; cases hx; exact .zero
  | j + 1, x, hx => by
    have hjl := (List.getElem?_eq_some_iff.1 hx).1
    obtain ⟨w, hw⟩ := get_of_lt (l := p) (k := j) (by omega)
    have hwr := (h.mem w).1 (List.mem_of_getElem? hw)
    refine .step w x (h.reaches j w hw) ?_
    rw [row_at h.leads hwr, h.nexts hw, hx]
    simp
theorem Chainy.been (h : Chainy f p) {x : Int} (hx : x ∈ p) : isBeen f.reach x := by
  obtain ⟨j, hj⟩ := List.getElem?_of_mem hx
  exact (reach_is h.leads h.ne x).2 (h.reaches j x hj)
/-- who leads to y stands just ahead of it -/
theorem Chainy.pred (h : Chainy f p) {j : Nat} {x y : Int} (hx : p[j]? = some x) (hy : p[j + 1]? = some y) {i : Nat} (hi : i < f.blocks.length) (hm : y ∈ rowN f.nexts i) : (i : Int) = x ∧ (rowN f.nexts i).count y = 1 := by
  rw [rowN_block h.leads hi] at hm ⊢
  obtain ⟨k, hk⟩ := List.getElem?_of_mem ((h.mem i).2 (by omega))
  rw [h.nexts hk] at hm ⊢
  cases e : p[k + 1]? with
  | none => rw [e] at hm; simp at hm
  | some z =>
    rw [e] at hm
    simp at hm
    subst hm
    have := h.get_inj hy e
    have hkj : k = j := by omega
    subst hkj
    rw [hx] at hk; cases hk
    simp
theorem Chainy.inN (h : Chainy f p) {j : Nat} {x y : Int} (hx : p[j]? = some x) (hy : p[j + 1]? = some y) : f.inN y = 1 := by
  have hxr := (h.mem x).1 (List.mem_of_getElem? hx)
  have hnl := nexts_length f
  have hlt : x.toNat < f.nexts.length := by omega
  have hge : 1 ≤ f.inN y := by
    have h1 := cnt_le (next := f.nexts) (reach := f.reach) (k := y) hlt (h.been (List.mem_of_getElem? hx)).2
    have h2 : 0 < (rowN f.nexts x.toNat).count y := by
      refine List.count_pos_iff.2 ?_
      rw [rowN_block h.leads (by omega), show ((x.toNat : Nat) : Int) = x by omega, h.nexts hx, hy]
      simp
    unfold BFunc.inN
    omega
  have hle : ¬ 2 ≤ f.inN y := fun h2 => by
    rcases cnt_two h2 with ⟨i, k, a, b, c, d, e, g⟩ | ⟨i, a, b, c⟩
    · have h3 := (h.pred hx hy (i := i) (by omega) e).1
      have h4 := (h.pred hx hy (i := k) (by omega) g).1
      omega
    · have hm : y ∈ rowN f.nexts i := List.count_pos_iff.1 (by omega)
      have := (h.pred hx hy (i := i) (by omega) hm).2
      omega
  omega
theorem Chainy.tk (h : Chainy f p) {j : Nat} {x y : Int} (hx : p[j]? = some x) (hy : p[j + 1]? = some y) : iget f.tk x = y := by
  have hxr := (h.mem x).1 (List.mem_of_getElem? hx)
  have hyr := (h.mem y).1 (List.mem_of_getElem? hy)
  obtain ⟨h1, h2⟩ := h.next j x y hx hy
  have hb := (h.been (List.mem_of_getElem? hx)).2
  have hN := h.inN hx hy
  have hw := ways_inN h.leads (k := y) hyr.1
  have hy0 : y ≠ 0 := fun e => by rw [e] at hy; have := h.get_inj hy h.zero; omega
  have hyx : y ≠ x := fun e => by rw [e] at hy; have := h.get_inj hy hx; omega
  have c1 : (y != 0) = true := by rw [bne_iff_ne]; exact hy0
  have c2 : (y != ((x.toNat : Nat) : Int)) = true := by rw [bne_iff_ne]; omega
  rw [tk_at h.leads hxr, takeOf, hb, h1, h2, hw, hN, c1, c2]; rfl
theorem Chainy.tk_last (h : Chainy f p) {j : Nat} {x : Int} (hx : p[j]? = some x) (hy : p[j + 1]? = none) : iget f.tk x = -1 := by
  have hxr := (h.mem x).1 (List.mem_of_getElem? hx)
  rw [tk_at h.leads hxr, takeOf, h.last j x hx hy]
  simp
theorem Chainy.chain (h : Chainy f p) : ∀ (g j : Nat) (x : Int), p[j]? = some x → p.length ≤ j + 1 + g → Sv.chain f.tk g x = p.drop (j + 1)
  | 0, j, x, hx, hl => by rw [List.drop_eq_nil_of_le (by omega)]; rfl
  | g + 1, j, x, hx, hl => by
    unfold Sv.chain
    cases e : p[j + 1]? with
    | none =>
      rw [h.tk_last hx e]
      have : p.length ≤ j + 1 := List.getElem?_eq_none_iff.1 e
      rw [List.drop_eq_nil_of_le this]
      rfl
    | some y =>
      have hyr := (h.mem y).1 (List.mem_of_getElem? e)
      have hne : (iget f.tk x == -1) = false := by rw [h.tk hx e, beq_eq_false_iff_ne]; omega
      rw [hne, cond_false, h.tk hx e, h.chain g (j + 1) y e (by omega)]
      obtain ⟨a, b⟩ := List.getElem?_eq_some_iff.1 e
      rw [List.drop_eq_getElem_cons (i := j + 1) a, b]
theorem Chainy.path (h : Chainy f p) (hl : p.length ≤ f.blocks.length + 1) : pathOf f.tk 0 = p := by
  have htl : f.tk.length = f.blocks.length := takes_length f f.reach
  rw [pathOf, h.chain f.tk.length 0 0 h.zero (by omega)]
  obtain ⟨a, b⟩ := List.getElem?_eq_some_iff.1 h.zero
  have := List.drop_eq_getElem_cons (i := 0) a
  rw [List.drop_zero, b] at this
  exact this.symm
theorem Chainy.head (h : Chainy f p) {k : Nat} (hk : 0 < k) (hkl : k < f.blocks.length) : f.headOf k = false := by
  cases e : f.headOf k with
  | false => rfl
  | true =>
    obtain ⟨j, hj⟩ := List.getElem?_of_mem ((h.mem k).2 (by omega))
    cases j with
    | zero =>
      rw [h.zero] at hj
      have := Option.some.inj hj
      omega
    | succ j =>
      have hjl := (List.getElem?_eq_some_iff.1 hj).1
      obtain ⟨w, hw⟩ := get_of_lt (l := p) (k := j) (by omega)
      have hwr := (h.mem w).1 (List.mem_of_getElem? hw)
      exact absurd (h.tk hw hj) ((head_free h.leads e).2 w hwr)
theorem Chainy.paths (h : Chainy f p) (hl : p.length ≤ f.blocks.length + 1) : f.tpaths = [p] := by
  have hpos : 0 < f.blocks.length := List.length_pos_iff.2 h.ne
  have key : ∀ m, 0 < m → m ≤ f.blocks.length → f.pathsTo m = [p] := fun m => by
    induction m with
    | zero => intro h0; omega
    | succ m ih =>
      intro _ hm
      by_cases h0 : m = 0
      · subst h0
        rw [pathsTo_yes (head_zero h.leads h.ne)]
        show [] ++ [pathOf f.tk ((0 : Nat) : Int)] = [p]
        rw [show ((0 : Nat) : Int) = 0 from rfl, h.path hl]
        rfl
      · rw [pathsTo_no (h.head (k := m) (by omega) (by omega)), ih (by omega) (by omega)]
  exact key _ hpos (Nat.le_refl _)
end

/-! ### the order, by keys -/
/-- the places of one key -/
def selK (keys : List Int) (k : Nat) : List Int := ((List.range keys.length).filter fun (i : Nat) => iget keys i == (k : Int)).map fun (i : Nat) => (i : Int) + 1
def orderTo (keys : List Int) : Nat → List Int
  | 0 => []
  | m + 1 => orderTo keys m ++ selK keys m
theorem mem_selK {keys : List Int} {k : Nat} {x : Int} : x ∈ selK keys k ↔ ∃ i : Nat, i < keys.length ∧ iget keys i = (k : Int) ∧ x = (i : Int) + 1 := by
  unfold selK
  simp only [List.mem_map, List.mem_filter, List.mem_range, beq_iff_eq]
  constructor
  · rintro ⟨i, ⟨h1, h2⟩, rfl⟩; exact ⟨i, h1, h2, rfl⟩
  · rintro ⟨i, h1, h2, rfl⟩; exact ⟨i, ⟨h1, h2⟩, rfl⟩
theorem mem_orderTo {keys : List Int} : ∀ {m : Nat} {x : Int}, x ∈ orderTo keys m ↔ ∃ i k : Nat, i < keys.length ∧ k < m ∧ iget keys i = (k : Int) ∧ x = (i : Int) + 1
  | 0, x => by
    constructor
    · intro h; cases h
    · rintro ⟨i, k, _, h, _⟩; omega
  | m + 1, x => by
    unfold orderTo
    rw [List.mem_append, mem_orderTo, mem_selK]
    constructor
    · rintro (⟨i, k, h1, h2, h3⟩ | ⟨i, h1, h2⟩)
      · exact ⟨i, k, h1, by omega, h3⟩
      · exact ⟨i, m, h1, by omega, h2⟩
    · rintro ⟨i, k, h1, h2, h3, h4⟩
      by_cases hk : k = m
      · subst hk; exact .inr ⟨i, h1, h3, h4⟩
      · exact .inl ⟨i, k, h1, by omega, h3, h4⟩
theorem selK_nodup (keys : List Int) (k : Nat) : (selK keys k).Nodup := by
  unfold selK
  have h1 : ((List.range keys.length).filter fun (i : Nat) => iget keys i == (k : Int)).Nodup := List.nodup_range.filter _
  refine List.Pairwise.map _ (fun a b hab => ?_) h1
  intro h
  exact hab (by omega)
theorem orderTo_nodup (keys : List Int) : ∀ m, (orderTo keys m).Nodup
  | 0 => List.nodup_nil
  | m + 1 => by
    unfold orderTo
    refine List.nodup_append.2 ⟨orderTo_nodup keys m, selK_nodup keys m, fun a ha b hb hab => ?_⟩
    subst hab
    obtain ⟨i, k, h1, h2, h3, h4⟩ := mem_orderTo.1 ha
    obtain ⟨i', g1, g2, g3⟩ := mem_selK.1 hb
    have : i = i' := by omega
    subst this
    rw [h3] at g2
    omega
theorem selK_length (keys : List Int) (k : Nat) : (selK keys k).length = keys.countP fun x => x == (k : Int) := by
  unfold selK
  rw [List.length_map]
  have key : ∀ n, n ≤ keys.length → ((List.range n).filter fun (i : Nat) => iget keys i == (k : Int)).length = (keys.take n).countP fun x => x == (k : Int) := fun n => by
    induction n with
    | zero => intro _; rfl
    | succ n ih =>
      intro hn
      obtain ⟨x, hx⟩ := get_of_lt (l := keys) (k := n) (by omega)
      rw [List.range_succ, List.filter_append, List.length_append, ih (by omega), take_succ_eq hx, List.countP_append]
      congr 1
      have : iget keys (n : Int) = x := by simp [iget, hx]
      simp only [List.filter_cons, List.filter_nil, List.countP_cons, List.countP_nil, this]
      split <;> simp
  have := key keys.length (Nat.le_refl _)
  rw [List.take_length] at this
  exact this
theorem orderTo_length (keys : List Int) : ∀ m : Nat, (orderTo keys m).length = keys.countP fun x => decide (0 ≤ x) && decide (x < (m : Int))
  | 0 => by
    have : (fun x : Int => decide (0 ≤ x) && decide (x < ((0 : Nat) : Int))) = fun _ => false := by
      funext x
      by_cases h : 0 ≤ x
      · have : ¬ x < ((0 : Nat) : Int) := by omega
        simp [this]
      · simp [h]
    rw [this]
    simp [orderTo]
  | m + 1 => by
    unfold orderTo
    rw [List.length_append, orderTo_length keys m, selK_length]
    clear orderTo_length
    induction keys with
    | nil => rfl
    | cons x r ih =>
      simp only [List.countP_cons]
      have e : (if (decide (0 ≤ x) && decide (x < ((m + 1 : Nat) : Int))) = true then 1 else 0) = (if (decide (0 ≤ x) && decide (x < (m : Int))) = true then 1 else 0) + (if (x == (m : Int)) = true then 1 else 0) := by
        by_cases h1 : x = (m : Int)
        · subst h1
          have a : ¬ ((m : Int) < (m : Int)) := by omega
          have b : (m : Int) < ((m + 1 : Nat) : Int) := by omega
          have c : (0 : Int) ≤ (m : Int) := by omega
          simp [a, b, c]; try omega
        · have h2 : (x == (m : Int)) = false := by rw [beq_eq_false_iff_ne]; exact h1
          rw [h2]
          by_cases h3 : 0 ≤ x
          · by_cases h4 : x < (m : Int)
            · have : x < ((m + 1 : Nat) : Int) := by omega
              simp [h3, h4, this]; try omega
            · have : ¬ x < ((m + 1 : Nat) : Int) := by omega
              simp [h3, h4, this]; try omega
          · simp [h3]
      omega
def bytesIn (keys : List Int) : Prop := ∀ x ∈ keys, 0 ≤ x ∧ x ≤ 255
theorem order_length {keys : List Int} (h : bytesIn keys) : (orderTo keys 256).length = keys.length := by
  rw [orderTo_length, List.countP_eq_length]
  intro x hx
  have := h x hx
  have h1 : x < ((256 : Nat) : Int) := by omega
  simp [this.1, h1]; try omega
def orderP (keys : List Int) : List Int := 0 :: orderTo keys 256
theorem orderP_mem {keys : List Int} (h : bytesIn keys) (x : Int) : x ∈ orderP keys ↔ 0 ≤ x ∧ x < ((keys.length + 1 : Nat) : Int) := by
  unfold orderP
  rw [List.mem_cons, mem_orderTo]
  constructor
  · rintro (rfl | ⟨i, k, h1, h2, h3, rfl⟩) <;> omega
  · intro hx
    by_cases h0 : x = 0
    · exact .inl h0
    · right
      have hi : x.toNat - 1 < keys.length := by omega
      obtain ⟨y, hy⟩ := get_of_lt hi
      have hyr := h y (List.mem_of_getElem? hy)
      refine ⟨x.toNat - 1, y.toNat, hi, by omega, ?_, by omega⟩
      have : iget keys ((x.toNat - 1 : Nat) : Int) = y := by simp only [iget, Int.toNat_natCast, hy, Option.getD_some]
      rw [this]; omega
theorem orderP_nodup (keys : List Int) : (orderP keys).Nodup := by
  unfold orderP
  refine List.nodup_cons.2 ⟨fun h => ?_, orderTo_nodup keys 256⟩
  obtain ⟨i, k, h1, h2, h3, h4⟩ := mem_orderTo.1 h
  omega
theorem orderP_length {keys : List Int} (h : bytesIn keys) : (orderP keys).length = keys.length + 1 := by
  unfold orderP; rw [List.length_cons, order_length h]

/-! ### the blocks -/
def cTac (x : Int) : Tac := ⟨1, 0, 0, 0, 0, 0, 0, IntKind.u32.wrap x⟩
def cBlock (p : List Int) (i : Nat) : Block :=
  match p[i + 1]? with
  | some y => ⟨[cTac (iget p i)], 1, 0, y, 0⟩
  | none => ⟨[cTac (iget p i)], 3, 0, 0, 0⟩
def zBlock : Block := ⟨[], 0, 0, 0, 0⟩
def cBlocks (p : List Int) : Nat → List Block
  | 0 => List.replicate p.length zBlock
  | i + 1 => (cBlocks p i).set (iget p i).toNat (cBlock p i)
theorem cBlocks_length (p : List Int) : ∀ i, (cBlocks p i).length = p.length
  | 0 => by simp [cBlocks]
  | i + 1 => by simp [cBlocks, cBlocks_length p i]
theorem cBlocks_get {p : List Int} (hnd : p.Nodup) (hin : ∀ x ∈ p, 0 ≤ x ∧ x < p.length) : ∀ (m : Nat), m ≤ p.length → ∀ (j : Nat) (x : Int), j < m → p[j]? = some x → (cBlocks p m)[x.toNat]? = some (cBlock p j)
  | 0, _, j, _, h, _ => absurd h (by omega)
  | m + 1, hm, j, x, hj, hx => by
    unfold cBlocks
    have hxr := hin x (List.mem_of_getElem? hx)
    obtain ⟨w, hw⟩ := get_of_lt (l := p) (k := m) (by omega)
    have hwr := hin w (List.mem_of_getElem? hw)
    have hgw : iget p m = w := by simp [iget, hw]
    rw [hgw]
    by_cases h : j = m
    · subst h
      rw [hx] at hw; cases hw
      rw [List.getElem?_set_self (by rw [cBlocks_length]; omega)]
    · have hne : w ≠ x := fun e => by
        subst e
        obtain ⟨a, b⟩ := List.getElem?_eq_some_iff.1 hx
        obtain ⟨c, d⟩ := List.getElem?_eq_some_iff.1 hw
        exact h ((List.getElem_inj hnd).1 (b.trans d.symm))
      rw [List.getElem?_set_ne (by omega)]
      exact cBlocks_get hnd hin m (by omega) j x (by omega) hx
def cFunc (p : List Int) : BFunc := ⟨1, cBlocks p p.length⟩
theorem cFunc_at {p : List Int} (hnd : p.Nodup) (hin : ∀ x ∈ p, 0 ≤ x ∧ x < p.length) {j : Nat} {x : Int} (hx : p[j]? = some x) : (cFunc p).blockAt x = cBlock p j := by
  unfold BFunc.blockAt cFunc
  rw [cBlocks_get hnd hin p.length (Nat.le_refl _) j x (List.getElem?_eq_some_iff.1 hx).1 hx]
  rfl
theorem cFunc_chainy {keys : List Int} (h : bytesIn keys) : Chainy (cFunc (orderP keys)) (orderP keys) := by
  have hl := orderP_length h
  have hin : ∀ x ∈ orderP keys, 0 ≤ x ∧ x < (orderP keys).length := fun x hx => by
    have := (orderP_mem h x).1 hx
    omega
  have hnd := orderP_nodup keys
  refine ⟨hnd, fun x => ?_, rfl, fun j x y hx hy => ?_, fun j x hx hy => ?_⟩
  · rw [orderP_mem h]; simp [cFunc, cBlocks_length, hl]
  · rw [cFunc_at hnd hin hx]
    simp [cBlock, hy]
  · rw [cFunc_at hnd hin hx]
    simp [cBlock, hy]
def cAll (p : List Int) : List Tac := p.map cTac
theorem cJoined {p : List Int} (hnd : p.Nodup) (hin : ∀ x ∈ p, 0 ≤ x ∧ x < p.length) : (cFunc p).joined p = cAll p := by
  unfold BFunc.joined cAll
  have key : ∀ x ∈ p, ((cFunc p).blockAt x).ins = [cTac x] := fun x hx => by
    obtain ⟨j, hj⟩ := List.getElem?_of_mem hx
    rw [cFunc_at hnd hin hj]
    have : iget p j = x := by simp [iget, hj]
    unfold cBlock
    rw [this]
    split <;> rfl
  clear hin
  generalize cFunc p = f at key
  induction p with
  | nil => rfl
  | cons x r ih =>
    rw [List.flatMap_cons, List.map_cons, key x (by simp), ih (List.nodup_cons.1 hnd).2 (fun y hy => key y (by simp [hy]))]
    rfl
theorem cTidy {keys : List Int} (h : bytesIn keys) : (cFunc (orderP keys)).tpaths = [orderP keys] ∧ (cFunc (orderP keys)).tidy = ⟨1, [⟨cAll (orderP keys), 3, 0, 0, 0⟩]⟩ := by
  have hl := orderP_length h
  have hin : ∀ x ∈ orderP keys, 0 ≤ x ∧ x < (orderP keys).length := fun x hx => by
    have := (orderP_mem h x).1 hx
    omega
  have hnd := orderP_nodup keys
  have hc := cFunc_chainy h
  have hp := hc.paths (by simp only [cFunc, cBlocks_length]; omega)
  refine ⟨hp, ?_⟩
  unfold BFunc.tidy
  rw [hp]
  have hne : orderP keys ≠ [] := by simp [orderP]
  have hlast := last_get hne
  have hb := cFunc_at hnd hin hlast
  have hn : (orderP keys)[(orderP keys).length - 1 + 1]? = none := List.getElem?_eq_none (by omega)
  have hb2 : (cFunc (orderP keys)).blockAt (lastOf (orderP keys)) = ⟨[cTac (iget (orderP keys) (((orderP keys).length - 1 : Nat) : Int))], 3, 0, 0, 0⟩ := by
    rw [hb]; unfold cBlock; rw [hn]
  simp only [List.map_cons, List.map_nil, BFunc.newBlock, hb2, cJoined hnd hin]
  rfl
end Go.Proofs.Ytidfabbnobipkaa.Sv

namespace Go.Proofs.Ytidfabbnobipkaa.Sv
open Go
set_option linter.unusedVariables false
set_option linter.unusedSimpArgs false

theorem hput_skip {h : AHeap} {b x : Nat} {o : AObj} {r : Option AObj} (hb : Nat.beq x b = false) (hr : h x = r) : hput h b o x = r := by simp only [hput, hb, cond_false, hr]
theorem hFrom_at {k b : Nat} (h : k ≤ b) : hFrom k b = some .free := by
  unfold hFrom
  have : Nat.blt b k = false := by
    cases e : Nat.blt b k with
    | false => rfl
    | true => exact absurd (Nat.blt_eq.mp e) (by omega)
  rw [this]; rfl

section
variable {P : Program} {T : Nat → Option TyI} {o : Oper} {e : AEnv} {h : AHeap}

/-- One operation of which there are several ways to end. -/
def OLocE (P : Program) (o : Oper) (e : AEnv) (h : AHeap) (R : List Nat) (S : List (Nat × AObj) → AV → Prop) : Prop :=
  ∀ (H : Know) (ι : Lay) (a : Act) (w : World) (s : AState) (Q : Exit → Act → World → Prop), Sim H ι s a w →
    (∀ x ∈ o.op.operands, look s.env x = look e x) → (∀ b ∈ R, s.h b = h b) →
    o.wp P a w (fun a' w' => ∃ W r v H' ι', S W r ∧ a' = a.put o.dst v ∧ Rel H' ι' r v ∧ HeapRel H' ι' (hputs s.h W) w' ∧ Step H ι s.h w H' ι' (hputs s.h W) w') Q

theorem AOps.ex {ops : Array Oper} {rest : List Oper} {n : Nat} {K : AState → Prop} (d : Nat) {R : List Nat} {S : List (Nat × AObj) → AV → Prop} (hd : o.dst = some d) (hb : Nat.blt d n = true) (hg : guardIs ops o e = some true) (ho : OLocE P o e h R S)
    (hr : ∀ W r, S W r → AOps P ops rest ⟨n, eput e d r, hputs h W⟩ K) : AOps P ops (o :: rest) ⟨n, e, h⟩ K := by
  intro H ι a w hs
  unfold wpList
  rw [guard_wanted hs hg]
  simp only [if_true]
  refine .inl (Oper.wp_mono (fun a' w' hx => ?_) (ho H ι a w ⟨n, e, h⟩ _ hs (fun _ _ => rfl) (fun _ _ => rfl)))
  obtain ⟨W, r, v, H', ι', hS, rfl, h1, h2, h3⟩ := hx
  have hs' := hs.put (d := o.dst) (r := some r) h2 h3 (fun x ex => by cases ex; exact h1) (lt_of hd hb)
  rw [hd] at hs' ⊢
  have := hr W r hS H' ι' _ w' hs'
  have key : ∀ (l : List Oper) (a1 : Act) (w1 : World), wpList P ops (Post H' ι' (hputs h W) w' (Then K fun _ _ => False)) l a1 w1 → wpList P ops (Post H ι h w (Then K fun _ _ => False)) l a1 w1 := by
    have hpost : ∀ e a2 w2, Post H' ι' (hputs h W) w' (Then K fun _ _ => False) e a2 w2 → Post H ι h w (Then K fun _ _ => False) e a2 w2 := fun e a2 w2 hp => Post.step hs.heap h2 h3 hp
    intro l
    induction l with
    | nil => exact fun a1 w1 hp => hpost _ _ _ hp
    | cons o' l ih =>
      intro a1 w1 hp
      unfold wpList at hp ⊢
      by_cases hw : Region.wanted o' (yielded ops a1.tmps) = true
      · rw [if_pos hw] at hp ⊢
        rcases hp with hp | ⟨hp1, a2, w2, hp2⟩
        · refine .inl ?_
          have hp' := Oper.wp_mono (fun a2 w2 => ih a2 w2) hp
          clear hp
          unfold Oper.wp at hp' ⊢
          generalize (execOp a1.eval o').run P w1 = res at hp' ⊢
          cases res with
          | ok n w3 =>
            cases n <;> simp only [Oper.upon] at hp' ⊢ <;> first
              | exact hp'
              | exact Calls.mono hp' (fun e w4 he => by cases e <;> first | exact he | exact hpost _ _ _ he | (obtain ⟨a3, w5, hp3⟩ := he; exact ⟨a3, w5, hpost _ _ _ hp3⟩))
          | halt x w3 => cases x <;> simp only [Oper.upon] at hp' ⊢ <;> first | exact hpost _ _ _ hp' | exact hp'
        · exact .inr ⟨hp1, a2, w2, hpost _ _ _ hp2⟩
      · rw [if_neg hw] at hp ⊢
        exact ih _ _ hp
  exact key _ _ _ this

theorem run_append_room_at {w : World} (t tx ty u : TypeId) (i : TypeInfo) (ht : P.underlying t = some (.slice u)) (hi : P.info? u = some i) (g b0 sLen sCap : Nat) (cur : Array Value) (TT : TypeId) (hg : w.heap[g]? = some (.cells cur TT)) (x : Value) (n : Nat) (news : List Value)
    (hs : Src P i.size tx x n news w) (hroom : sLen + n ≤ sCap) (hfit : b0 + sLen * i.size + news.length ≤ cur.size) :
    (Builtin.append_ #[t, tx] ty #[.slice (some ⟨g, b0, none⟩) sLen sCap, x]).run P w = .ok (.slice (some ⟨g, b0, none⟩) (sLen + n) sCap)
      (w.setRow g (cur.toList.take (b0 + sLen * i.size) ++ news ++ cur.toList.drop (b0 + sLen * i.size + news.length)).toArray) := by
  have hst := run_storeCells_at P g (b0 + sLen * i.size) TT news 0 cur w hg (by simpa using hfit) hs.one
  simp only [Nat.add_zero] at hst
  rcases hs.kind with ⟨e', hk⟩ | hk <;> simp [Builtin.append_, run_underlying ht, run_underlying hk, sizeOf, typeInfo, hi, hs.len, hroom, hs.cells, Addr.add_lit, hst]

/-- put behind a slice that is its row's end, wherever it begins -/
theorem o_appendQ (hT : TOk P T) {t t' : TypeId} {x y : Operand} {i i' j : TyI} {u u' : Nat} {b n off len : Nat} {sz : Nat} {es : List (List AV)} {cs2 : List AV} {q : AV} {R : List Nat} (b' : Nat)
    (ho : o.op = .call { callee := .builtin .append, args := #[x, y], argTypes := #[t, t'] }) (hx : look e x = some (.ref b n off len)) (hy : look e y = some q) (hi : T t = some i) (hk : i.k = .slice u) (hj : T u = some j) (hi' : T t' = some i') (hk' : i'.k = .slice u')
    (hb : h b = some (.row true sz es)) (hb0 : h b' = some .free) (hn : n = es.length) (hoff : off + len = n) (hsz : sz = j.size) (hz : j.zero.length = j.size) (hp : 0 < j.size)
    (hsrc : SrcOf h q R [cs2]) (hu2 : cs2.length = sz) (hpure : cs2.all AV.isPure1 = true) (hby : (len + 1) * j.bytes ≤ 140737488355328) (hml : len + 1 ≤ maxLen) :
    OLocE P o e h (b :: b' :: R) (fun W r => (W = [(b, .row true sz (es ++ [cs2]))] ∧ r = .ref b (n + 1) off (len + 1)) ∨ (W = [(b', .row true sz (es.drop off ++ [cs2]))] ∧ r = .ref b' (len + 1) 0 (len + 1))) := by
  intro H ι a w s Q hs g1 g2
  have hx' : look s.env x = some (.ref b n off len) := by rw [g1 x (by rw [ho]; simp [Op.operands, Call.operands]), hx]
  have hy' : look s.env y = some q := by rw [g1 y (by rw [ho]; simp [Op.operands, Call.operands]), hy]
  have hb1 : s.h b = some (.row true sz es) := by rw [g2 b (by simp), hb]
  have hb2 : s.h b' = some .free := by rw [g2 b' (by simp), hb0]
  have hsrc' := hsrc.agree (h' := s.h) (fun c hc => g2 c (by simp [hc]))
  obtain ⟨info, d, e1, e2, e3, e4, e5, e6⟩ := tyOf_spec (hT _ _ hi)
  obtain ⟨infou, du, f1, f2, f3, f4, f5, f6⟩ := tyOf_spec (hT _ _ hj)
  obtain ⟨info', d', e1', e2', e3', e4', e5', e6'⟩ := tyOf_spec (hT _ _ hi')
  have hd := tk_slice (P := P) (d := d) (e3 ▸ hk)
  subst hd
  have hd' := tk_slice (P := P) (d := d') (e3' ▸ hk')
  subst hd'
  subst hsz; subst hn
  obtain ⟨z, hz1, hz2⟩ := zero_spec f6 hz hp
  have hzl : z.cells.size = j.size := by rw [← hz]; simpa using (allAV_rel (H := H) (ι := noLay) hz2).1.symm
  obtain ⟨r, hl, ⟨r1, r2, r3, r4, r5, r6⟩, r7⟩ := hs.heap.obj b _ hb1 rfl
  have hvx := look_rel hs hx'
  have hvy := look_rel hs hy'
  generalize hva : a.eval x = va at hvx
  generalize hvb : a.eval y = vb at hvy
  have hexec : ∀ (v : Value) (w' : World), (Builtin.append_ #[t, t'] o.type #[va, vb]).run P w = .ok v w' → (execOp a.eval o).run P w = .ok (.value v) w' := fun v w' hrun => by
    simp only [execOp, ho, resolve, invoke, builtin, Sem.run_bind, Sem.run_pure, Result.andThen_ok, List.map_toArray, List.map_cons, List.map_nil, hva, hvb, hrun]
  obtain ⟨news, hsrcw, hnews⟩ := src_of hs.heap hsrc' hvy e2' hp (by intro cs h; simp at h; subst h; exact hu2) w rfl
  rw [← f4] at hsrcw
  have hnl : news.length = j.size := by rw [hsrcw.newsLen, f4]; simp
  have hnewsp : ∀ (i : Nat) (cs : List AV) (k : Nat) (y : AV), [cs2][i]? = some cs → cs[k]? = some y → ∃ v, news[i * j.size + k]? = some v ∧ Rel H noLay y v ∧ y.cell1 = true := fun i cs k y h1 h2 => by
    obtain ⟨v, k1, k2, k3⟩ := hnews i cs k y h1 h2
    have : cs = cs2 := by have := List.mem_of_getElem? h1; simpa using this
    subst this
    exact ⟨v, k1, pure1_rel (List.all_eq_true.1 hpure y (List.mem_of_getElem? h2)) k2, k3⟩
  have h63 : ((len + 1 : Nat) : Int) ≤ 9223372036854775807 := by
    have := hml; simp only [maxLen] at this; omega
  -- a new place
  have hgrow : ∀ (base : Option Addr) (cap : Nat) (olds : List Value), va = .slice base len cap → (Builtin.firstCells infou.size len (.slice base len cap)).run P w.drew = .ok olds.toArray w.drew → olds.length = len * j.size →
      (∀ (i : Nat) (cs : List AV) (k : Nat) (x : AV), (es.drop off)[i]? = some cs → cs[k]? = some x → ∃ v, olds[i * j.size + k]? = some v ∧ Rel H noLay x v ∧ x.cell1 = true) → cap < len + 1 →
      o.wp P a w (fun a' w' => ∃ W r v H' ι', ((W = [(b, .row true j.size (es ++ [cs2]))] ∧ r = AV.ref b (es.length + 1) off (len + 1)) ∨ (W = [(b', .row true j.size (es.drop off ++ [cs2]))] ∧ r = AV.ref b' (len + 1) 0 (len + 1))) ∧ a' = a.put o.dst v ∧ Rel H' ι' r v ∧ HeapRel H' ι' (hputs s.h W) w' ∧ Step H ι s.h w H' ι' (hputs s.h W) w') Q := by
    intro base cap olds hv hold hol holdr hlt
    have hfit : Builtin.nextslicecap (len + 1) cap * infou.bytes ≤ 281474976710656 := growslice_fits hlt (by rw [f5]; exact hby)
    have hrun := run_append_grow_src (P := P) w t t' o.type u infou z e2 f1 hz1 base len cap olds hold vb 1 news hsrcw hlt h63 hfit
    have hge := grownCap_ge w (len + 1) cap u
    have hcm : grownCap w (len + 1) cap u ≤ maxLen := grownCap_le_maxLen w _ cap u hml
    generalize hcc : grownCap w (len + 1) cap u = nc at *
    generalize hC : (olds ++ news).toArray ++ Builtin.zeroCells z.cells (nc - (len + 1)) = C at *
    have hCs : C.size = nc * j.size := by
      rw [← hC, Array.size_append, size_zeroCells, hzl]
      simp only [List.size_toArray, List.length_append, hol, hnl]
      rw [show len * j.size + j.size = (len + 1) * j.size by rw [Nat.add_mul, Nat.one_mul], ← Nat.add_mul]
      congr 1; omega
    have hCg : ∀ k, k < olds.length + news.length → C[k]? = (olds ++ news)[k]? := fun k hk => by
      rw [← hC, Array.getElem?_append_left (by simp; omega)]
      simp
    have hdl : (es.drop off).length = len := by rw [List.length_drop]; omega
    have hrow : rowCells H noLay j.size (es.drop off ++ [cs2]) C :=
      rowCells_append (by rw [hdl]; exact hol) (by simpa using hnl) (by intro cs h; simp at h; subst h; exact hu2) (fun i cs h => r5 (off + i) cs (by rw [List.getElem?_drop] at h; exact h)) holdr hnewsp hCg
    have hlen2 : (es.drop off ++ [cs2]).length = len + 1 := by rw [List.length_append, hdl]; rfl
    obtain ⟨u1, u2⟩ := new_row hs.heap (w0 := w.drew) rfl rfl rfl hb2 true (sz := j.size) (es := es.drop off ++ [cs2]) (c := C) u hp (by rw [hlen2, hCs]; exact Nat.mul_le_mul_right _ hge) hrow
    have hex := hexec _ _ (hv ▸ hrun)
    unfold Oper.wp
    rw [hex]
    refine ⟨[(b', .row true j.size (es.drop off ++ [cs2]))], .ref b' (len + 1) 0 (len + 1), _, H, _, .inr ⟨rfl, rfl⟩, rfl, ?_, u1, u2⟩
    have := Rel.refL (H := H) (lput ι b' ⟨w.heap.size, j.size, (es.drop off ++ [cs2]).length, C.size⟩) b' (len + 1) 0 (len + 1) nc _ (lput_same _ _ _) hlen2 (by omega) hge (by simp [hCs]) hcm
    simpa using this
  by_cases hsol : r.csz = 0
  · obtain ⟨hl0, ad, rfl, hsp⟩ := hvx.ref_dry hl (by omega) hsol (by omega)
    refine hgrow ad 0 [] (by rw [hl0]) ?_ (by simp [hl0]) (fun i cs k x h1 => ?_) (by omega)
    · rw [hl0]
      cases ad <;> simp [Builtin.firstCells, loadCells, loadCellsFrom]
    · rw [List.getElem?_eq_none (by rw [List.length_drop]; omega)] at h1; cases h1
  · obtain ⟨hlen, cap, hvv, hlc, hcap, hmax⟩ := hvx.ref_live hl (by omega) hsol
    obtain ⟨c, TT, w1, w2, w3⟩ := r6 hsol
    have hcs : c.size = (off + cap) * j.size := by rw [w2, ← hcap, r1]
    rw [r1] at hvv
    have hmul : (off + len) * j.size = off * j.size + len * j.size := Nat.add_mul _ _ _
    by_cases hroom : len + 1 ≤ cap
    · -- in place
      have hfit : off * j.size + len * infou.size + news.length ≤ c.size := by
        rw [hnl, f4, hcs, ← hmul]
        have : (off + len + 1) * j.size ≤ (off + cap) * j.size := Nat.mul_le_mul_right _ (by omega)
        rw [Nat.add_mul (off + len), Nat.one_mul] at this
        exact this
      have hrun := run_append_room_at (P := P) (w := w) t t' o.type u infou e2 f1 r.rb (off * j.size) len cap c TT w1 vb 1 news hsrcw hroom hfit
      rw [f4] at hrun hfit
      have hstart : off * j.size + len * j.size = es.length * j.size := by rw [← hmul, hoff]
      rw [hstart] at hrun hfit
      generalize hC : (c.toList.take (es.length * j.size) ++ news ++ c.toList.drop (es.length * j.size + news.length)).toArray = C at *
      have hCs : C.size = c.size := by rw [← hC]; simp; omega
      have holdl : (c.toList.take (es.length * j.size)).length = es.length * j.size := by simp; omega
      have hCg : ∀ k, k < (c.toList.take (es.length * j.size)).length + news.length → C[k]? = (c.toList.take (es.length * j.size) ++ news)[k]? := fun k hk => by
        rw [← hC]
        simp only [List.getElem?_toArray]
        rw [List.getElem?_append_left (by rw [List.length_append]; exact hk)]
      have hll : LLe ι (lput ι b ⟨r.rb, j.size, es.length + 1, r.csz⟩) := LLe.put fun r' hr' => by
        rw [hl] at hr'; cases hr'
        exact .inr ⟨by show r.n < es.length + 1; omega, by omega, r1.symm⟩
      have hrow : rowCells H noLay j.size (es ++ [cs2]) C := by
        refine rowCells_append holdl (by simpa using hnl) (by intro cs h; simp at h; subst h; exact hu2) r5 (fun i cs k x h1 h2 => ?_) hnewsp hCg
        obtain ⟨v, k1, k2, k3⟩ := w3.2 i cs k x h1 h2
        have hi : i < es.length := (List.getElem?_eq_some_iff.1 h1).1
        have hkk : k < j.size := by rw [← r5 i cs h1]; exact (List.getElem?_eq_some_iff.1 h2).1
        refine ⟨v, by rw [List.getElem?_take_of_lt (mul_add_lt_mul hi hkk), Array.getElem?_toList]; exact k1, k2, k3⟩
      obtain ⟨u1, u2⟩ := hs.heap.upd (w' := w.setRow r.rb C) (o0 := .row true j.size es) (o' := .row true j.size (es ++ [cs2])) (r' := ⟨r.rb, j.size, es.length + 1, r.csz⟩) hb1 rfl
        (.inr ⟨r, hl, rfl, .inr ⟨by show r.n < es.length + 1; omega, by omega, r1.symm⟩⟩) (fun _ => .inr ⟨r, hl, rfl, hsol, rfl⟩)
        (fun rb hlt' hne => setRow_other w r.rb rb _ (hne r hl rfl hsol)) (by simp) (setRow_os _ _ _) (setRow_out _ _ _)
        ⟨rfl, hp, by simp, by rw [List.length_append]; show (es.length + 1) * j.size ≤ r.csz; rw [← w2, Nat.add_mul, Nat.one_mul]; omega, hrow.1, fun _ => ⟨C, TT, setRow_heap w r.rb c C TT _ w1, hCs.trans w2, hrow⟩⟩
      have hex := hexec _ _ (hvv ▸ hrun)
      unfold Oper.wp
      rw [hex]
      refine ⟨[(b, .row true j.size (es ++ [cs2]))], .ref b (es.length + 1) off (len + 1), _, H, _, .inl ⟨rfl, rfl⟩, rfl, ?_, u1, u2⟩
      have := Rel.refL (H := H) (lput ι b ⟨r.rb, j.size, es.length + 1, r.csz⟩) b (es.length + 1) off (len + 1) cap _ (lput_same _ _ _) rfl (by omega) hroom (by show (off + cap) * j.size = r.csz; rw [← hcap, r1]) hmax
      exact this
    · have hle : off * j.size + len * j.size ≤ c.size := by rw [← hmul, hcs]; exact Nat.mul_le_mul_right _ (by omega)
      have hol : ((c.toList.drop (off * j.size)).take (len * j.size)).length = len * j.size := by simp; omega
      have hold : ∀ k, k < len * j.size → ((c.toList.drop (off * j.size)).take (len * j.size))[k]? = c[off * j.size + k]? := fun k hk => by
        rw [List.getElem?_take_of_lt hk, List.getElem?_drop, Array.getElem?_toList]
      refine hgrow (some ⟨r.rb, off * j.size, none⟩) cap ((c.toList.drop (off * j.size)).take (len * j.size)) hvv ?_ hol (fun i cs k x h1 h2 => ?_) (by omega)
      · rw [f4]
        refine run_firstCells_some (P := P) w.drew j.size len ⟨r.rb, off * j.size, none⟩ len cap _ hol (fun k v hk => ?_)
        have hkl : k < len * j.size := by
          have := (List.getElem?_eq_some_iff.1 hk).1
          omega
        rw [hold k hkl] at hk
        rw [add_mk, World.cell?_drew, cell_row w1]
        exact hk
      · rw [List.getElem?_drop] at h1
        obtain ⟨v, k1, k2, k3⟩ := w3.2 (off + i) cs k x h1 h2
        have hi : off + i < es.length := (List.getElem?_eq_some_iff.1 h1).1
        have hkk : k < j.size := by rw [← r5 (off + i) cs h1]; exact (List.getElem?_eq_some_iff.1 h2).1
        refine ⟨v, ?_, k2, k3⟩
        rw [hold _ (mul_add_lt_mul (by omega) hkk), ← Nat.add_assoc, ← Nat.add_mul]
        exact k1

/-- x[l:] of a slice -/
theorem o_sliceQ (hT : TOk P T) {t : TypeId} {x y : Operand} {b n off len : Nat} {sz : Nat} {es : List (List AV)} {i j : TyI} {u : Nat} {k : IntKind} {z : Int} (b' l : Nat) (ho : o.op = .slice t x (some y) none none) (hx : look e x = some (.ref b n off len)) (hy : look e y = some (.int k z)) (ht : T t = some i) (hk : i.k = .slice u) (hj : T u = some j)
    (hb : h b = some (.row true sz es)) (hb0 : h b' = some .free) (hn : n = es.length) (hz : z = (l : Int)) (hl : l ≤ len) (hsz : sz = j.size) (hp : 0 < j.size) :
    OLocE P o e h [b, b'] (fun W r => (W = [] ∧ r = .ref b n (off + l) (len - l)) ∨ (l = len ∧ W = [(b', .row true sz [])] ∧ r = .ref b' 0 0 0)) := by
  intro H ι a w s Q hs g1 g2
  have hx' : look s.env x = some (.ref b n off len) := by rw [g1 x (by rw [ho]; simp [Op.operands]), hx]
  have hy' : look s.env y = some (.int k z) := by rw [g1 y (by rw [ho]; simp [Op.operands]), hy]
  have hb1 : s.h b = some (.row true sz es) := by rw [g2 b (by simp), hb]
  have hb2 : s.h b' = some .free := by rw [g2 b' (by simp), hb0]
  subst hz
  obtain ⟨info, d, e1, e2, e3, e4, e5, e6⟩ := tyOf_spec (hT _ _ ht)
  obtain ⟨info', d', e1', e2', e3', e4', e5', e6'⟩ := tyOf_spec (hT _ _ hj)
  have hd := tk_slice (P := P) (d := d) (e3 ▸ hk)
  subst hd
  have hvx := look_rel hs hx'
  have hvy := (look_rel hs hy').int_inv
  generalize hva : a.eval x = va at hvx
  obtain ⟨r, hlay, ⟨r1, r2, r3, r4, r5, r6⟩, r7⟩ := hs.heap.obj b _ hb1 rfl
  have hrun : ∀ (ad : Option Addr) (cap : Nat), len ≤ cap → va = .slice ad len cap → (execOp a.eval o).run P w = .ok (.value (.slice (if cap = l then ad else ad.map (·.add (l * j.size))) (len - l) (cap - l))) w := fun ad cap hcap hv => by
    simp only [execOp, ho, hva, hv, hvy, Instr.sliceAt, Instr.slice, Option.map_none, Option.map_some, Sem.run_bind, run_underlying' e2, Result.andThen_ok, run_isz e1', e4', Sem.run_pure]
    simp [Instr.sliceBounds, Instr.sliceBound, asIntOf, hcap, hl]
  -- nothing is left, and no room
  have hdry : ∀ (ad : Option Addr) (cap : Nat), va = .slice ad len cap → cap = len → l = len → o.wp P a w (fun a' w' => ∃ W r v H' ι', ((W = [] ∧ r = AV.ref b n (off + l) (len - l)) ∨ (l = len ∧ W = [(b', .row true sz [])] ∧ r = AV.ref b' 0 0 0)) ∧ a' = a.put o.dst v ∧ Rel H' ι' r v ∧ HeapRel H' ι' (hputs s.h W) w' ∧ Step H ι s.h w H' ι' (hputs s.h W) w') Q := by
    intro ad cap hv hc hll
    have hr := hrun ad cap (by omega) hv
    obtain ⟨u1, u2⟩ := hs.heap.dry hb2 true (sz := sz) (by omega)
    unfold Oper.wp
    rw [hr]
    refine ⟨[(b', .row true sz [])], .ref b' 0 0 0, _, H, _, .inr ⟨hll, rfl, rfl⟩, rfl, ?_, u1, u2⟩
    rw [show len - l = 0 by omega, show cap - l = 0 by omega, if_pos (by omega)]
    exact .ref0 _ b' _ ad (lput_same _ _ _) rfl rfl trivial
  by_cases hsol : r.csz = 0
  · obtain ⟨hl0, ad, rfl, hsp⟩ := hvx.ref_dry hlay (by omega) hsol (by omega)
    exact hdry ad 0 (by rw [hl0]) hl0.symm (by omega)
  · obtain ⟨hlen, cap, hvv, hlc, hcap, hmax⟩ := hvx.ref_live hlay (by omega) hsol
    by_cases hc : cap - l = 0
    · exact hdry _ cap hvv (by omega) (by omega)
    · have hr := hrun _ cap (by omega) hvv
      rw [if_neg (by omega)] at hr
      unfold Oper.wp
      rw [hr]
      refine ⟨[], .ref b n (off + l) (len - l), _, H, ι, .inl ⟨rfl, rfl⟩, rfl, ?_, hs.heap, Step.refl _ _ _ _⟩
      have := Rel.refL (H := H) ι b n (off + l) (len - l) (cap - l) r hlay (by omega) (by omega) (by omega) (by rw [show off + l + (cap - l) = off + cap by omega]; exact hcap) (by omega)
      rw [Nat.add_mul, r1, hsz] at this
      simp only [Option.map_some, add_mk]
      rw [r1, hsz]
      exact this

end
end Go.Proofs.Ytidfabbnobipkaa.Sv

namespace Go.Proofs.Ytidfabbnobipkaa.Sv
open Go
set_option linter.unusedVariables false
set_option linter.unusedSimpArgs false

structure QG where
  s : BS
  es : List Int
  off : Nat
  g : Nat
  gas : Nat
structure QInv (next : List (List Int)) (q : QG) : Prop where
  inv : BInv next q.s
  qe : q.s.q = q.es.drop q.off
  off : q.off ≤ q.es.length
  mu : bmu q.s < q.gas
  le : q.gas ≤ next.length + 1
  tgt : (brun next q.gas q.s).been = breach next
structure QI where
  j : Nat
  es : List Int
  off : Nat
  g : Nat
structure QIInv (been : List Bool) (tl : List Int) (row : List Int) (i : QI) : Prop where
  off : i.off ≤ i.es.length
  q : i.es.drop i.off = ((row.take i.j).foldl binto ⟨been, tl⟩).q
theorem bintosSucc {row : List Int} {j : Nat} {y : Int} (h : row[j]? = some y) (s : BS) : (row.take (j + 1)).foldl binto s = binto ((row.take j).foldl binto s) y := by
  rw [take_succ_eq h, List.foldl_append]; rfl
theorem QInv.first {next : List (List Int)} (hn : next ≠ []) : QInv next ⟨bstart next.length, [0], 0, 0, next.length + 1⟩ := by
  obtain ⟨i1, _, i3⟩ := bstart_inv hn
  exact ⟨i1, rfl, Nat.zero_le _, i3, Nat.le_refl _, rfl⟩
theorem QInv.len {next : List (List Int)} {q : QG} (h : QInv next q) (hq : q.s.q ≠ []) {row : List Int} {i : QI} (hi : QIInv q.s.been q.s.q.tail row i) : i.es.length - i.off ≤ next.length := by
  have h1 : i.es.length - i.off = ((row.take i.j).foldl binto ⟨q.s.been, q.s.q.tail⟩).q.length := by rw [← hi.q, List.length_drop]
  have h2 := bintos_mu (row.take i.j) ⟨q.s.been, q.s.q.tail⟩
  have h3 := h.mu
  have h4 := h.le
  have h5 : bmu ⟨q.s.been, q.s.q.tail⟩ ≤ bmu q.s := by simp [bmu]
  have h6 : ((row.take i.j).foldl binto ⟨q.s.been, q.s.q.tail⟩).q.length ≤ bmu ((row.take i.j).foldl binto ⟨q.s.been, q.s.q.tail⟩) := Nat.le_add_left _ _
  omega
theorem QInv.next {next : List (List Int)} {q : QG} (h : QInv next q) (hq : q.s.q ≠ []) {a : Int} (ha : q.s.q = a :: q.s.q.tail) {row : List Int} (hr : rowAt next a = row) {i : QI} (hi : QIInv q.s.been q.s.q.tail row i) (hj : row.length ≤ i.j) :
    QInv next ⟨bround next q.s, i.es, i.off, i.g, q.gas - 1⟩ ∧ q.gas - 1 < q.gas ∧ (row.take i.j).foldl binto ⟨q.s.been, q.s.q.tail⟩ = bround next q.s := by
  have hb : (row.take i.j).foldl binto ⟨q.s.been, q.s.q.tail⟩ = bround next q.s := by
    rw [List.take_of_length_le hj]
    unfold bround
    rw [ha]
    simp only [List.tail_cons, hr]
  have hm := bround_mu (next := next) hq
  have hmu := h.mu
  have hle := h.le
  refine ⟨⟨bround_ok h.inv, by rw [← hb]; exact hi.q.symm, hi.off, by show bmu (bround next q.s) < q.gas - 1; omega, by show q.gas - 1 ≤ _; omega, ?_⟩, by omega, hb⟩
  rw [← h.tgt]
  show _ = (brun next q.gas q.s).been
  rw [show q.gas = (q.gas - 1) + 1 by omega, brun_step hq, Nat.add_sub_cancel]
theorem QInv.done {next : List (List Int)} {q : QG} (h : QInv next q) (hl : q.es.length - q.off = 0) : q.s.been = breach next := by
  have : q.s.q = [] := by rw [h.qe]; exact List.drop_eq_nil_of_le (by omega)
  rw [← h.tgt, brun_end this]
theorem nb1 {been : List Bool} {b : Int} (h : decide (b ≥ 0) = false) : notBeen been b = false := by simp only [notBeen, h, Bool.false_and]
theorem nb2 {been : List Bool} {b n : Int} (h : decide (b < n) = false) (hn : n = been.length) : notBeen been b = false := by
  subst hn; simp only [notBeen, h, Bool.false_and, Bool.and_false]
theorem nb3 {been : List Bool} {b : Int} (h : (!bget been b) = false) : notBeen been b = false := by
  unfold bget at h
  unfold notBeen
  cases e : been[b.toNat]? with
  | none => rw [e] at h; simp at h
  | some v => rw [e] at h; simp at h; subst h; simp
theorem nbT {been : List Bool} {b : Int} (h0 : 0 ≤ b) (h1 : b < been.length) (h : (!bget been b) = true) : notBeen been b = true := by
  obtain ⟨v, hv⟩ := get_of_lt (l := been) (k := b.toNat) (by omega)
  unfold bget at h
  unfold notBeen
  rw [hv] at h ⊢
  simp only [Option.getD_some] at h ⊢
  simp [h0, h1]
  simpa using h
theorem refQ1 {g : Nat} {es : List Int} {off : Nat} (y : Int) (h : off ≤ es.length) : some (AV.ref (g + 1) (es.length + 1) off (es.length - off + 1)) = some (AV.ref (g + 1) (es ++ [y]).length off ((es ++ [y]).length - off)) := by
  have h1 : (es ++ [y]).length = es.length + 1 := by simp
  rw [h1, show es.length + 1 - off = es.length - off + 1 by omega]
theorem refQ2 {g : Nat} {es : List Int} {off : Nat} (y : Int) : some (AV.ref (g + 2) (es.length - off + 1) 0 (es.length - off + 1)) = some (AV.ref (g + 1 + 1) (es.drop off ++ [y]).length 0 ((es.drop off ++ [y]).length - 0)) := by
  have h1 : (es.drop off ++ [y]).length = es.length - off + 1 := by simp
  rw [h1]; rfl
theorem rowQ2 {es : List Int} {off : Nat} {y : Int} : (intCells es).drop off ++ [[AV.int .i64 y]] = intCells (es.drop off ++ [y]) := by simp [intCells]
theorem rowQ1 {es : List Int} {y : Int} : intCells es ++ [[AV.int .i64 y]] = intCells (es ++ [y]) := by simp [intCells]
end Go.Proofs.Ytidfabbnobipkaa.Sv

namespace Go.Proofs.Ytidfabbnobipkaa.Sv
open Go
set_option linter.unusedVariables false
set_option linter.unusedSimpArgs false

theorem joined_le {f : BFunc} {m : Nat} (hf : ∀ x ∈ f.blocks, x.ins.length ≤ m) : ∀ (p : List Int), (f.joined p).length ≤ p.length * m
  | [] => by simp [BFunc.joined]
  | i :: r => by
    have ih := joined_le hf r
    have hi : (f.blockAt i).ins.length ≤ m := by
      unfold BFunc.blockAt
      cases e : f.blocks[i.toNat]? with
      | none => simp
      | some x => exact hf x (List.mem_of_getElem? e)
    simp only [BFunc.joined, List.flatMap_cons, List.length_append, List.length_cons] at ih ⊢
    rw [Nat.add_mul, Nat.one_mul]
    omega
theorem small_low {b : Blocks} {most : Int} (h : b.small most = true) {f : BFunc} (hf : f ∈ b.funcs) : f.blocks.length ≤ 40 := by
  have h1 : b.funcs.all BFunc.low = true := by
    unfold Blocks.small at h
    simp only [Bool.and_eq_true] at h
    exact h.2.2.1
  have h2 := List.all_eq_true.1 h1 f hf
  unfold BFunc.low at h2
  simp at h2
  exact h2.2
theorem tameT {b : Blocks} (h : b.small 150 = true) {i : Nat} {f : BFunc} (hf : b.funcs[i]? = some f) : f.tidy.tame ∧ f.tidy.blocks ≠ [] := by
  obtain ⟨htame, hfn, hins, hfl⟩ := tameS (by decide) h hf
  have hle := htame.leads
  have hl := small_low h (List.mem_of_getElem? hf)
  have htl := tidy_leads hle hfn
  have hln := tidy_blocks_len f
  refine ⟨⟨by omega, fun x hx => ?_, htl, fun k hk => head_ends htl hk⟩, tidy_ne hle hfn⟩
  obtain ⟨p, hp, hpl, hxe⟩ := tidy_mem htame hx
  have := joined_le (m := 150) (fun y hy => by have := hins y hy; omega) p
  rw [hxe]
  have h2 : p.length * 150 ≤ 41 * 150 := Nat.mul_le_mul_right _ (by omega)
  omega
def rangeP (n : Nat) : List (List Int) := (List.range n).map fun (k : Nat) => [(k : Int)]
theorem rangeP_get {n k : Nat} (h : k < n) : (rangeP n)[k]? = some [(k : Int)] := by simp [rangeP, h]
theorem rangeP_length (n : Nat) : (rangeP n).length = n := by simp [rangeP]
end Go.Proofs.Ytidfabbnobipkaa.Sv
