/-
  PATHS ARE PUT TOGETHER, IN PLAIN LEAN: own work, over no program.
-/
import Derived.Test.YtidfabbnobipkaaSp28
namespace Go.Proofs.Ytidfabbnobipkaa.Sv
open Go
set_option linter.unusedVariables false
set_option linter.unusedSimpArgs false

/-- each one jumps to the next -/
def fol (f : BFunc) : List Int → Prop
  | i :: j :: r => (f.blockAt i).fin = 1 ∧ (f.blockAt i).to = j ∧ fol f (j :: r)
  | _ => True
theorem iget_cons (i : Int) (r : List Int) (k : Nat) : iget (i :: r) ((k + 1 : Nat) : Int) = iget r (k : Int) := by simp [iget]
theorem fol_of (f : BFunc) : ∀ (p : List Int), (∀ k, k < p.length - 1 → okAt f p k = true) ↔ fol f p
  | [] => by simp [fol]
  | [i] => by simp [fol]
  | i :: j :: r => by
    have ih := fol_of f (j :: r)
    unfold fol
    rw [← ih]
    constructor
    · intro h
      have h0 := h 0 (by simp)
      simp only [okAt, Bool.and_eq_true, beq_iff_eq] at h0
      have e0 : iget (i :: j :: r) ((0 : Nat) : Int) = i := by simp [iget]
      have e1 : iget (i :: j :: r) ((0 + 1 : Nat) : Int) = j := by simp [iget]
      rw [e0, e1] at h0
      refine ⟨h0.1, h0.2, fun k hk => ?_⟩
      have h1 := h (k + 1) (by simp at hk ⊢; omega)
      simp only [okAt] at h1 ⊢
      rwa [iget_cons, iget_cons] at h1
    · rintro ⟨h1, h2, h3⟩ k hk
      cases k with
      | zero =>
        have e0 : iget (i :: j :: r) ((0 : Nat) : Int) = i := by simp [iget]
        have e1 : iget (i :: j :: r) ((0 + 1 : Nat) : Int) = j := by simp [iget]
        simp only [okAt, e0, e1, h1, h2]; simp
      | succ k =>
        have := h3 k (by simp at hk ⊢; omega)
        simp only [okAt] at this ⊢
        rwa [iget_cons, iget_cons]
theorem followsB_iff (f : BFunc) (p : List Int) : followsB f p = true ↔ fol f p := by
  rw [← fol_of, followsB, List.all_eq_true]
  simp
/-- all that a check says -/
structure Holds (old new : BFunc) (paths : List (List Int)) : Prop where
  ne : paths.length ≠ 0
  len : paths.length = new.blocks.length
  regs : old.regs = new.regs
  all : ∀ p ∈ paths, inF old.blocks.length p
  head : headZ (pathK paths 0) = 0
  fol : ∀ (k : Nat) (p : List Int), paths[k]? = some p → fol old p
  ins : ∀ (k : Nat) (p : List Int), paths[k]? = some p → (new.blockAt k).ins = old.joined p
  leads : ∀ (k : Nat) (p : List Int), paths[k]? = some p → leadsB (old.blockAt (lastOf p)) (new.blockAt k) paths = true
theorem inF_pathIn {n : Nat} {p : List Int} (h : inF n p) : pathIn n p = true := by
  simp only [pathIn, Bool.and_eq_true, Bool.not_eq_true', List.all_eq_true, decide_eq_false_iff_not, beq_eq_false_iff_ne]
  exact ⟨fun e => h.1 (List.length_eq_zero_iff.1 e), fun i hi => by have := h.2 i hi; omega⟩
theorem check_iff {old new : BFunc} {paths : List (List Int)} : checkB old new paths = true ↔ Holds old new paths := by
  simp only [checkB, Bool.and_eq_true, Bool.not_eq_true', beq_eq_false_iff_ne, bne_eq_false_iff_eq, List.all_eq_true]
  constructor
  · rintro ⟨h1, h2, h3, h4, h5, h6⟩
    have key : ∀ (k : Nat) (p : List Int), paths[k]? = some p → stepB old new paths (p, k) = true := fun k p hp => h6 (p, k) (List.mem_of_getElem? (zipIdx_get hp))
    refine ⟨h1, h2, h3, fun p hp => pathIn_inF (h4 p hp), h5, fun k p hp => ?_, fun k p hp => ?_, fun k p hp => ?_⟩
    all_goals
      have := key k p hp
      simp only [stepB, Bool.and_eq_true] at this
    · exact (followsB_iff _ _).1 this.1
    · have h := this.2.1
      rw [madeR_eq] at h
      simpa using h
    · exact this.2.2
  · intro h
    refine ⟨h.ne, h.len, h.regs, fun p hp => inF_pathIn (h.all p hp), h.head, fun q hq => ?_⟩
    obtain ⟨p, k⟩ := q
    obtain ⟨i, hi⟩ := List.getElem?_of_mem hq
    have hlt : i < paths.length := by
      have := (List.getElem?_eq_some_iff.1 hi).1
      simpa using this
    obtain ⟨x, hx⟩ := get_of_lt hlt
    rw [zipIdx_get hx] at hi
    cases hi
    simp only [stepB, Bool.and_eq_true]
    refine ⟨(followsB_iff _ _).2 (h.fol _ _ hx), ?_, h.leads _ _ hx⟩
    rw [madeR_eq]
    simpa using h.ins _ _ hx
/-! ### one behind the other -/
def joinP (P : List (List Int)) (q : List Int) : List Int := q.flatMap fun i => pathK P i
def joinPs (P Q : List (List Int)) : List (List Int) := Q.map (joinP P)
theorem fol_append {f : BFunc} : ∀ {p q : List Int}, p ≠ [] → q ≠ [] → fol f p → fol f q → (f.blockAt (lastOf p)).fin = 1 → (f.blockAt (lastOf p)).to = headZ q → fol f (p ++ q)
  | [], _, h, _, _, _, _, _ => absurd rfl h
  | [i], q, _, hq, _, h2, h3, h4 => by
    cases q with
    | nil => exact absurd rfl hq
    | cons j r => exact ⟨h3, h4, h2⟩
  | i :: j :: r, q, _, hq, h1, h2, h3, h4 => by
    have hl : lastOf (i :: j :: r) = lastOf (j :: r) := by simp [lastOf]
    rw [hl] at h3 h4
    exact ⟨h1.1, h1.2.1, fol_append (p := j :: r) (by simp) hq h1.2.2 h2 h3 h4⟩
theorem headZ_append {p q : List Int} (h : p ≠ []) : headZ (p ++ q) = headZ p := by
  cases p with
  | nil => exact absurd rfl h
  | cons x r => rfl
theorem lastOf_append {p q : List Int} (h : q ≠ []) : lastOf (p ++ q) = lastOf q := by
  simp [lastOf, List.getLast?_append, List.getLast?_eq_some_getLast h]
theorem joined_append (f : BFunc) (p q : List Int) : f.joined (p ++ q) = f.joined p ++ f.joined q := by simp [BFunc.joined]
section
variable {A B C : BFunc} {P Q : List (List Int)}
theorem leadsB_spec {last b : Block} {paths : List (List Int)} (h : leadsB last b paths = true) : b.fin = last.fin ∧ b.v = last.v ∧ (b.fin = 1 ∨ b.fin = 2 → beginsB paths b.to last.to = true) ∧ (¬ (b.fin = 1 ∨ b.fin = 2) → b.to = last.to) ∧ (b.fin = 2 → beginsB paths b.els last.els = true) ∧ (b.fin ≠ 2 → b.els = last.els) := by
  simp only [leadsB, Bool.and_eq_true, Bool.not_eq_true', bne_eq_false_iff_eq] at h
  obtain ⟨h1, h2, h3, h4⟩ := h
  refine ⟨h1, h2, fun e => ?_, fun e => ?_, fun e => ?_, fun e => ?_⟩
  · have : (b.fin == 1 || b.fin == 2) = true := by rcases e with e | e <;> simp [e]
    simpa only [leadsTo, this, cond_true] using h3
  · have : (b.fin == 1 || b.fin == 2) = false := by simp at e ⊢; exact e
    simpa [leadsTo, this] using h3
  · simpa [leadsEl, e] using h4
  · have : (b.fin == 2) = false := by simpa using e
    simpa [leadsEl, this] using h4
theorem leadsB_of {last b : Block} {paths : List (List Int)} (h1 : b.fin = last.fin) (h2 : b.v = last.v) (h3 : b.fin = 1 ∨ b.fin = 2 → beginsB paths b.to last.to = true) (h4 : ¬ (b.fin = 1 ∨ b.fin = 2) → b.to = last.to) (h5 : b.fin = 2 → beginsB paths b.els last.els = true) (h6 : b.fin ≠ 2 → b.els = last.els) : leadsB last b paths = true := by
  simp only [leadsB, Bool.and_eq_true, Bool.not_eq_true', bne_eq_false_iff_eq]
  refine ⟨h1, h2, ?_, ?_⟩
  · unfold leadsTo
    cases e : b.fin == 1 || b.fin == 2 with
    | true => exact h3 (by simpa using e)
    | false => simp only [cond_false, beq_iff_eq]; exact h4 (by simpa using e)
  · unfold leadsEl
    cases e : b.fin == 2 with
    | true => exact h5 (by simpa using e)
    | false => simp only [cond_false, beq_iff_eq]; exact h6 (by simpa using e)
theorem beginsB_spec {paths : List (List Int)} {k i : Int} (h : beginsB paths k i = true) : 0 ≤ k ∧ k < paths.length ∧ headZ (pathK paths k) = i := by
  simp only [beginsB, Bool.and_eq_true, decide_eq_true_eq, beq_iff_eq] at h
  exact ⟨h.1, h.2.1, h.2.2⟩
theorem beginsB_of {paths : List (List Int)} {k i : Int} (h1 : 0 ≤ k) (h2 : k < paths.length) (h3 : headZ (pathK paths k) = i) : beginsB paths k i = true := by
  simp only [beginsB, Bool.and_eq_true, decide_eq_true_eq, beq_iff_eq]
  exact ⟨h1, h2, h3⟩
/-- facts of the first paths -/
theorem Holds.at_ (h : Holds A B P) {i : Int} (hi : 0 ≤ i ∧ i < P.length) : inF A.blocks.length (pathK P i) ∧ Sv.fol A (pathK P i) ∧ (B.blockAt i).ins = A.joined (pathK P i) ∧ leadsB (A.blockAt (lastOf (pathK P i))) (B.blockAt i) P = true := by
  have hg := pathK_get hi
  have e : (((i.toNat : Nat)) : Int) = i := Int.toNat_of_nonneg hi.1
  have h1 := h.ins _ _ hg
  have h2 := h.leads _ _ hg
  rw [e] at h1 h2
  exact ⟨h.all _ (List.mem_of_getElem? hg), h.fol _ _ hg, h1, h2⟩
theorem joinP_facts (h : Holds A B P) : ∀ (q : List Int), q ≠ [] → (∀ i ∈ q, 0 ≤ i ∧ i < P.length) → Sv.fol B q →
    inF A.blocks.length (joinP P q) ∧ Sv.fol A (joinP P q) ∧ B.joined q = A.joined (joinP P q) ∧ headZ (joinP P q) = headZ (pathK P (headZ q)) ∧ lastOf (joinP P q) = lastOf (pathK P (lastOf q))
  | [], hne, _, _ => absurd rfl hne
  | [i], _, hin, _ => by
    obtain ⟨h1, h2, h3, h4⟩ := h.at_ (hin i (by simp))
    have e : joinP P [i] = pathK P i := by simp [joinP]
    rw [e]
    refine ⟨h1, h2, by simpa [BFunc.joined] using h3, rfl, rfl⟩
  | i :: j :: r, _, hin, hf => by
    obtain ⟨h1, h2, h3, h4⟩ := h.at_ (hin i (by simp))
    have ih := joinP_facts h (j :: r) (by simp) (fun x hx => hin x (by simp at hx ⊢; exact .inr hx)) hf.2.2
    obtain ⟨g1, g2, g3, g4, g5⟩ := ih
    have e : joinP P (i :: j :: r) = pathK P i ++ joinP P (j :: r) := by simp [joinP]
    obtain ⟨l1, l2, l3, l4, l5, l6⟩ := leadsB_spec h4
    have hb := beginsB_spec (l3 (.inl hf.1))
    rw [hf.2.1] at hb
    rw [e]
    refine ⟨⟨by simp [h1.1], fun x hx => ?_⟩, ?_, ?_, ?_, ?_⟩
    · rcases List.mem_append.1 hx with hx | hx
      · exact h1.2 x hx
      · exact g1.2 x hx
    · refine fol_append h1.1 g1.1 h2 g2 (by rw [← l1]; exact hf.1) ?_
      rw [g4]; exact hb.2.2.symm
    · rw [joined_append, ← g3, ← h3]; simp [BFunc.joined]
    · rw [headZ_append h1.1]; rfl
    · rw [lastOf_append g1.1, g5]; congr 2
theorem pathK_map {k : Int} (hk : 0 ≤ k ∧ k < Q.length) : pathK (joinPs P Q) k = joinP P (pathK Q k) := by
  have := pathK_get hk
  simp [pathK, joinPs] at this ⊢
  rw [this]; rfl
theorem holds_join (h1 : Holds A B P) (h2 : Holds B C Q) : Holds A C (joinPs P Q) := by
  have hl : (joinPs P Q).length = Q.length := by simp [joinPs]
  have hP : ∀ q ∈ Q, ∀ i ∈ q, 0 ≤ i ∧ i < P.length := fun q hq i hi => by
    have := (h2.all q hq).2 i hi
    rw [h1.len]; exact this
  have facts : ∀ (k : Nat) (q : List Int), Q[k]? = some q → inF A.blocks.length (joinP P q) ∧ Sv.fol A (joinP P q) ∧ B.joined q = A.joined (joinP P q) ∧ headZ (joinP P q) = headZ (pathK P (headZ q)) ∧ lastOf (joinP P q) = lastOf (pathK P (lastOf q)) := fun k q hq =>
    joinP_facts h1 q (h2.all q (List.mem_of_getElem? hq)).1 (hP q (List.mem_of_getElem? hq)) (h2.fol k q hq)
  have get : ∀ (k : Nat) (p : List Int), (joinPs P Q)[k]? = some p → ∃ q, Q[k]? = some q ∧ p = joinP P q := fun k p hp => by
    rw [joinPs, List.getElem?_map, Option.map_eq_some_iff] at hp
    obtain ⟨q, hq, e⟩ := hp
    exact ⟨q, hq, e.symm⟩
  have begins : ∀ (k i j : Int), beginsB Q k i = true → beginsB P i j = true → beginsB (joinPs P Q) k j = true := fun k i j b1 b2 => by
    obtain ⟨c1, c2, c3⟩ := beginsB_spec b1
    obtain ⟨d1, d2, d3⟩ := beginsB_spec b2
    refine beginsB_of c1 (by rw [hl]; exact c2) ?_
    rw [pathK_map ⟨c1, c2⟩, (facts _ _ (pathK_get ⟨c1, c2⟩)).2.2.2.1, c3, d3]
  have hQ0 : (0 : Int) < Q.length := by have := h2.ne; omega
  refine ⟨by rw [hl]; exact h2.ne, by rw [hl]; exact h2.len, h1.regs.trans h2.regs, fun p hp => ?_, ?_, fun k p hp => ?_, fun k p hp => ?_, fun k p hp => ?_⟩
  · obtain ⟨k, hk⟩ := List.getElem?_of_mem hp
    obtain ⟨q, hq, rfl⟩ := get k p hk
    exact (facts k q hq).1
  · rw [pathK_map ⟨Int.le_refl 0, hQ0⟩, (facts _ _ (pathK_get ⟨Int.le_refl 0, hQ0⟩)).2.2.2.1, h2.head]
    exact h1.head
  · obtain ⟨q, hq, rfl⟩ := get k p hp
    exact (facts k q hq).2.1
  · obtain ⟨q, hq, rfl⟩ := get k p hp
    rw [h2.ins k q hq]; exact (facts k q hq).2.2.1
  · obtain ⟨q, hq, rfl⟩ := get k p hp
    have hqn := (h2.all q (List.mem_of_getElem? hq)).1
    have hlast := hP q (List.mem_of_getElem? hq) _ (last_mem hqn)
    obtain ⟨a1, a2, a3, a4, a5, a6⟩ := leadsB_spec (h2.leads k q hq)
    obtain ⟨b1, b2, b3, b4, b5, b6⟩ := leadsB_spec (h1.at_ hlast).2.2.2
    rw [(facts k q hq).2.2.2.2]
    exact leadsB_of (a1.trans b1) (a2.trans b2) (fun e => begins _ _ _ (a3 e) (b3 (by rw [← a1]; exact e))) (fun e => (a4 e).trans (b4 (by rw [← a1]; exact e))) (fun e => begins _ _ _ (a5 e) (b5 (by rw [← a1]; exact e))) (fun e => (a6 e).trans (b6 (by rw [← a1]; exact e)))
end
theorem joinP_succ {P : List (List Int)} {q : List Int} {j : Nat} {y : Int} (h : q[j]? = some y) : joinP P (q.take (j + 1)) = joinP P (q.take j) ++ pathK P y := by
  rw [joinP, take_succ_eq h, List.flatMap_append]; simp [joinP]
theorem joinP_len {P : List (List Int)} (h : ∀ p ∈ P, p.length ≤ 300) : ∀ (q : List Int), (joinP P q).length ≤ q.length * 300
  | [] => by simp [joinP]
  | i :: r => by
    have ih := joinP_len h r
    have hi : (pathK P i).length ≤ 300 := by
      unfold pathK
      cases e : P[i.toNat]? with
      | none => simp
      | some x => exact h x (List.mem_of_getElem? e)
    simp only [joinP, List.flatMap_cons, List.length_append, List.length_cons] at ih ⊢
    omega
theorem joinPs_len {P Q : List (List Int)} (h : ∀ p ∈ P, p.length ≤ 300) (h2 : ∀ q ∈ Q, q.length ≤ 300) : ∀ p ∈ joinPs P Q, p.length ≤ 100000 := fun p hp => by
  simp only [joinPs, List.mem_map] at hp
  obtain ⟨q, hq, rfl⟩ := hp
  have := joinP_len h q
  have := h2 q hq
  omega
theorem smallP_spec2 {l : List (List Int)} {r m : Int} (h : smallP l r m = true) (hm : m ≤ 300) : ∀ p ∈ l, p.length ≤ 300 := fun p hp => by
  simp only [smallP, Bool.and_eq_true, decide_eq_true_eq] at h
  have := path_le hp
  omega
def twoCells (A B C : BFunc) (P Q : List (List Int)) : List AV := [.int .i64 A.regs, blocksAV A.blocks, .int .i64 B.regs, blocksAV B.blocks, .int .i64 C.regs, blocksAV C.blocks, pathsAV P, pathsAV Q]
end Go.Proofs.Ytidfabbnobipkaa.Sv
