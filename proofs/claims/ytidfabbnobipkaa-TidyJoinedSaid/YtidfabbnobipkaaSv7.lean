/-
  HOW THE ABSTRACT HEAP FOLLOWS THE WORLD: own work, over no program.
-/
import Derived.Test.YtidfabbnobipkaaSv6
namespace Go.Proofs.Ytidfabbnobipkaa.Sv
open Go
set_option linter.unusedVariables false
set_option linter.unusedSimpArgs false

def lput (ι : Lay) (b : Nat) (r : Ent) : Lay := fun x => bif Nat.beq x b then some r else ι x
theorem lput_same (ι : Lay) (b : Nat) (r : Ent) : lput ι b r b = some r := by simp [lput]
theorem lput_ne (ι : Lay) {b x : Nat} (r : Ent) (hne : x ≠ b) : lput ι b r x = ι x := by simp only [lput, beq_false_of_ne hne, cond_false]
def kput (H : Know) (b : Nat) (c : Array Value) : Know := fun x => bif Nat.beq x b then some c else H x
theorem kput_same (H : Know) (b : Nat) (c : Array Value) : kput H b c b = some c := by simp [kput]
theorem kput_ne (H : Know) {b x : Nat} (c : Array Value) (hne : x ≠ b) : kput H b c x = H x := by simp only [kput, beq_false_of_ne hne, cond_false]

theorem rowCells.mono {H H' : Know} {ι ι' : Lay} {sz : Nat} {es : List (List AV)} {c : Array Value} (h : rowCells H ι sz es c) (hH : KLe H H') (hl : LLe ι ι') : rowCells H' ι' sz es c :=
  ⟨h.1, fun i cs j x e1 e2 => let ⟨v, e3, e4, e5⟩ := h.2 i cs j x e1 e2; ⟨v, e3, e4.mono hH hl, e5⟩⟩

theorem ObjOk.mono {H H' : Know} {ι ι' : Lay} {w w' : World} {r : Ent} {o : AObj} (h : ObjOk H ι w r o) (hH : KLe H H') (hl : LLe ι ι') (hw : r.solid → w'.heap[r.rb]? = w.heap[r.rb]?) : ObjOk H' ι' w' r o := by
  cases o with
  | free => trivial
  | row p sz es =>
    obtain ⟨h1, h2, h3, h4, hu, hx⟩ := h
    refine ⟨h1, h2, h3, h4, hu, fun hsol => ?_⟩
    obtain ⟨c, T, h5, h6, h7⟩ := hx hsol
    refine ⟨c, T, (hw hsol).trans h5, h6, h7.mono hH ?_⟩
    cases p
    · exact hl
    · exact LLe.refl _
  | map kvs =>
    obtain ⟨h1, hsol, es, clk, h2, h3, h4⟩ := h
    exact ⟨h1, hsol, es, clk, (hw hsol).trans h2, h3, fun j k v e => let ⟨en, e1, e2, e3⟩ := h4 j k v e; ⟨en, e1, e2.mono hH (LLe.refl _), e3.mono hH (LLe.refl _)⟩⟩

theorem LLe.put {ι : Lay} {b : Nat} {r' : Ent} (h : ∀ r, ι b = some r → r' = r ∨ r.n < r'.n ∧ 0 < r.sz ∧ r'.sz = r.sz) : LLe ι (lput ι b r') := fun x r e => by
  by_cases hx : x = b
  · subst hx; exact ⟨r', lput_same _ _ _, h r e⟩
  · exact ⟨r, by rw [lput_ne _ _ hx]; exact e, .inl rfl⟩

/-- The world grew, nothing else. -/
theorem HeapRel.grow {H : Know} {ι : Lay} {h : AHeap} {w w' : World} (hr : HeapRel H ι h w) (hk : ∀ rb, rb < w.heap.size → w'.heap[rb]? = w.heap[rb]?) : HeapRel H ι h w' where
  know := fun b c hc => by
    obtain ⟨T, fr, e⟩ := hr.know b c hc
    exact ⟨T, fr, by rw [hk b (hr.knowlt hc)]; exact e⟩
  free := hr.free
  obj := fun b o h1 h2 => by
    obtain ⟨r, e1, e2, e3⟩ := hr.obj b o h1 h2
    exact ⟨r, e1, e2.mono (KLe.refl _) (LLe.refl _) (fun hsol => hk _ (hr.lt ⟨b, o, r, h1, h2, e1, hsol, rfl⟩)), e3⟩
  inj := hr.inj

theorem Step.grow {H : Know} {ι : Lay} {h : AHeap} {w w' : World} (hk : ∀ rb, rb < w.heap.size → w'.heap[rb]? = w.heap[rb]?) (hs : w.heap.size ≤ w'.heap.size) (ho : w'.os = w.os) (hu : w'.output = w.output) : Step H ι h w H ι h w' where
  size := hs
  os := ho
  out := hu
  keep := fun rb hlt _ => hk rb hlt
  kle := KLe.refl _
  knew := fun _ h => .inl h
  lle := LLe.refl _
  lframe := fun _ _ => rfl
  newrb := fun _ _ h _ => .inl h
  dom := fun _ h => h

/-- One object is made, or is another one now. -/
theorem HeapRel.upd {H : Know} {ι : Lay} {h : AHeap} {w w' : World} (hr : HeapRel H ι h w) {b : Nat} {o0 o' : AObj} {r' : Ent} (hb : h b = some o0) (ha : o'.alive = true)
    (hent : o0 = .free ∨ ∃ r, ι b = some r ∧ o0.alive = true ∧ (r' = r ∨ r.n < r'.n ∧ 0 < r.sz ∧ r'.sz = r.sz))
    (hrb : r'.solid → w.heap.size ≤ r'.rb ∨ ∃ r, ι b = some r ∧ o0.alive = true ∧ r.solid ∧ r'.rb = r.rb)
    (hk : ∀ rb, rb < w.heap.size → (∀ r, ι b = some r → o0.alive = true → r.solid → rb ≠ r.rb) → w'.heap[rb]? = w.heap[rb]?) (hs : w.heap.size ≤ w'.heap.size) (ho : w'.os = w.os) (hu : w'.output = w.output)
    (hobj : ObjOk H (lput ι b r') w' r' o') : HeapRel H (lput ι b r') (hput h b o') w' ∧ Step H ι h w H (lput ι b r') (hput h b o') w' := by
  have hll : LLe ι (lput ι b r') := LLe.put fun r e => by
    rcases hent with rfl | ⟨r0, e0, _, h1⟩
    · rw [hr.free b hb] at e; cases e
    · rw [e] at e0; cases e0; exact h1
  have hHrb : r'.solid → ∀ c, H r'.rb ≠ some c := fun hsol c hc => by
    rcases hrb hsol with h1 | ⟨r0, e0, ea, hsol0, h1⟩
    · have := hr.knowlt hc; omega
    · obtain ⟨r1, e1, _, e3⟩ := hr.obj b o0 hb ea
      rw [e0] at e1; cases e1
      rw [h1, e3 hsol0] at hc; cases hc
  have hrbne : ∀ x o r, x ≠ b → h x = some o → o.alive = true → ι x = some r → r.solid → r'.solid → r'.rb ≠ r.rb := fun x o r hx h1 h2 h3 hsol hsol' heq => by
    have hlt := hr.lt ⟨x, o, r, h1, h2, h3, hsol, rfl⟩
    rcases hrb hsol' with h4 | ⟨r0, e0, ea, hsol0, h4⟩
    · omega
    · exact hr.inj b x o0 o r0 r hb ea h1 h2 e0 h3 hsol0 hsol (Ne.symm hx) (h4.symm.trans heq)
  refine ⟨⟨fun x c hc => ?_, fun x hx => ?_, fun x o h1 h2 => ?_, fun x y o1 o2 r1 r2 h1 h2 h3 h4 h5 h6 hs1 hs2 hne => ?_⟩, ⟨hs, ho, hu, fun rb hlt hno => ?_, KLe.refl _, fun _ h => .inl h, hll, fun x hx => ?_, fun x r1 hx hsol => ?_, fun x hx => ?_⟩⟩
  · obtain ⟨T, fr, e⟩ := hr.know x c hc
    refine ⟨T, fr, ?_⟩
    rw [hk x (hr.knowlt hc) (fun r e1 e2 hsol heq => ?_)]
    · exact e
    · obtain ⟨r1, e3, _, e5⟩ := hr.obj b o0 hb e2
      rw [e1] at e3; cases e3
      rw [heq, e5 hsol] at hc; cases hc
  · by_cases hxb : x = b
    · subst hxb; rw [hput_same] at hx; cases hx; cases ha
    · rw [hput_ne _ _ hxb] at hx; rw [lput_ne _ _ hxb]; exact hr.free x hx
  · by_cases hxb : x = b
    · subst hxb
      rw [hput_same] at h1; cases h1
      refine ⟨r', lput_same _ _ _, hobj, fun hsol => ?_⟩
      cases e : H r'.rb with
      | none => rfl
      | some c => exact absurd e (hHrb hsol c)
    · rw [hput_ne _ _ hxb] at h1
      obtain ⟨r, e1, e2, e3⟩ := hr.obj x o h1 h2
      refine ⟨r, by rw [lput_ne _ _ hxb]; exact e1, e2.mono (KLe.refl _) hll (fun hsol => hk _ (hr.lt ⟨x, o, r, h1, h2, e1, hsol, rfl⟩) (fun r0 e4 e5 hsol0 => ?_)), e3⟩
      exact hr.inj x b o o0 r r0 h1 h2 hb e5 e1 e4 hsol hsol0 hxb
  · by_cases hxb : x = b
    · subst hxb
      rw [lput_same] at h5; cases h5
      rw [hput_ne _ _ (Ne.symm hne)] at h3
      rw [lput_ne _ _ (Ne.symm hne)] at h6
      exact hrbne y o2 r2 (Ne.symm hne) h3 h4 h6 hs2 hs1
    · rw [hput_ne _ _ hxb] at h1
      rw [lput_ne _ _ hxb] at h5
      by_cases hyb : y = b
      · subst hyb
        rw [lput_same] at h6; cases h6
        exact Ne.symm (hrbne x o1 r1 hxb h1 h2 h5 hs1 hs2)
      · rw [hput_ne _ _ hyb] at h3
        rw [lput_ne _ _ hyb] at h6
        exact hr.inj x y o1 o2 r1 r2 h1 h2 h3 h4 h5 h6 hs1 hs2 hne
  · exact hk rb hlt fun r e1 e2 hsol heq => hno ⟨b, o0, r, hb, e2, e1, hsol, heq.symm⟩
  · have hxb : x ≠ b := fun h => by subst h; rw [hb] at hx; cases hx
    exact lput_ne _ _ hxb
  · by_cases hxb : x = b
    · subst hxb
      rw [lput_same] at hx; cases hx
      rcases hrb hsol with h4 | ⟨r0, e0, ea, hsol0, h4⟩
      · exact .inr (.inl h4)
      · exact .inr (.inr ⟨r0, e0, hsol0, h4.symm⟩)
    · rw [lput_ne _ _ hxb] at hx; exact .inl hx
  · have hxb : x ≠ b := fun h => by subst h; rw [hb] at hx; cases hx
    rw [hput_ne _ _ hxb]; exact hx

/-- A new block that stays as it is. -/
theorem HeapRel.know_new {H : Know} {ι : Lay} {h : AHeap} {w : World} (hr : HeapRel H ι h w) (c : Array Value) (T : TypeId) :
    HeapRel (kput H w.heap.size c) ι h (w.alloc (.cells c T)) ∧ Step H ι h w (kput H w.heap.size c) ι h (w.alloc (.cells c T)) ∧ KLe H (kput H w.heap.size c) := by
  have hnone : H w.heap.size = none := by
    cases e : H w.heap.size with
    | none => rfl
    | some c => have := hr.knowlt e; omega
  have hkle : KLe H (kput H w.heap.size c) := fun b c' e => by
    rw [kput_ne _ _ (fun hb => by subst hb; rw [hnone] at e; cases e)]; exact e
  have hold : ∀ rb, rb < w.heap.size → (w.alloc (.cells c T)).heap[rb]? = w.heap[rb]? := fun rb hlt => heap_alloc_old w _ hlt
  have hg := hr.grow hold
  refine ⟨⟨fun b c' e => ?_, hg.free, fun b o h1 h2 => ?_, hg.inj⟩, ⟨by simp, rfl, rfl, fun rb hlt _ => hold rb hlt, hkle, fun b hb => ?_, LLe.refl _, fun _ _ => rfl, fun _ _ h _ => .inl h, fun _ h => h⟩, hkle⟩
  · by_cases hb : b = w.heap.size
    · subst hb
      rw [kput_same] at e; cases e
      exact ⟨T, (0, 0), heap_alloc_new w _⟩
    · rw [kput_ne _ _ hb] at e
      exact hg.know b c' e
  · obtain ⟨r, e1, e2, e3⟩ := hg.obj b o h1 h2
    refine ⟨r, e1, e2.mono hkle (LLe.refl _) (fun _ => rfl), fun hsol => ?_⟩
    have hlt := hr.lt ⟨b, o, r, h1, h2, e1, hsol, rfl⟩
    rw [kput_ne _ _ (by omega)]; exact e3 hsol
  · by_cases hb' : b = w.heap.size
    · subst hb'; exact .inr (.inl (Nat.le_refl _))
    · rw [kput_ne _ _ hb'] at hb; exact .inl hb

end Go.Proofs.Ytidfabbnobipkaa.Sv
