/-
  ABSTRACT STATES, AND HOW THEY STAND FOR STATES OF THE MODEL; WHAT A STEP MAY CHANGE: own work, over no program.
-/
import Derived.Test.YtidfabbnobipkaaSv1
namespace Go.Proofs.Ytidfabbnobipkaa.Sv
open Go
set_option linter.unusedVariables false

inductive AObj where
  | free
  | row (p : Bool) (sz : Nat) (es : List (List AV))
  | map (kvs : List (AV × AV))

def AObj.alive : AObj → Bool
  | .free => false
  | _ => true

abbrev AHeap := Nat → Option AObj
abbrev AEnv := Nat → Option AV

/-- The heap of which nothing is used. -/
def hNew : AHeap := fun _ => some .free
def eNew : AEnv := fun _ => none
def hput (h : AHeap) (b : Nat) (o : AObj) : AHeap := fun x => bif Nat.beq x b then some o else h x
def eput (e : AEnv) (t : Nat) (v : AV) : AEnv := fun x => bif Nat.beq x t then some v else e x
def edel (e : AEnv) (t : Nat) : AEnv := fun x => bif Nat.beq x t then none else e x

theorem beq_false_of_ne {x b : Nat} (h : x ≠ b) : Nat.beq x b = false := by
  cases e : Nat.beq x b with
  | false => rfl
  | true => exact absurd (Nat.eq_of_beq_eq_true e) h
theorem hput_same (h : AHeap) (b : Nat) (o : AObj) : hput h b o b = some o := by simp [hput]
theorem hput_ne (h : AHeap) {b x : Nat} (o : AObj) (hne : x ≠ b) : hput h b o x = h x := by simp only [hput, beq_false_of_ne hne, cond_false]
theorem eput_same (e : AEnv) (t : Nat) (v : AV) : eput e t v t = some v := by simp [eput]
theorem eput_ne (e : AEnv) {t x : Nat} (v : AV) (hne : x ≠ t) : eput e t v x = e x := by simp only [eput, beq_false_of_ne hne, cond_false]
theorem edel_same (e : AEnv) (t : Nat) : edel e t t = none := by simp [edel]
theorem edel_ne (e : AEnv) {t x : Nat} (hne : x ≠ t) : edel e t x = e x := by simp only [edel, beq_false_of_ne hne, cond_false]

structure AState where
  n : Nat
  env : AEnv
  h : AHeap

def rowCells (H : Know) (ι : Lay) (sz : Nat) (es : List (List AV)) (c : Array Value) : Prop :=
  (∀ (i : Nat) (cs : List AV), es[i]? = some cs → cs.length = sz) ∧
  ∀ (i : Nat) (cs : List AV) (j : Nat) (x : AV), es[i]? = some cs → cs[j]? = some x → ∃ v, c[i * sz + j]? = some v ∧ Rel H ι x v ∧ x.cell1 = true

def mapCells (H : Know) (kvs : List (AV × AV)) (es : Array MapEntry) : Prop :=
  kvs.length = es.size ∧ ∀ (j : Nat) (k v : AV), kvs[j]? = some (k, v) → ∃ e, es[j]? = some e ∧ Rel H noLay k e.key ∧ Rel H noLay v e.val

def ObjOk (H : Know) (ι : Lay) (w : World) (r : Ent) : AObj → Prop
  | .free => True
  | .row p sz es => r.sz = sz ∧ 0 < sz ∧ r.n = es.length ∧ es.length * sz ≤ r.csz ∧ (∀ (i : Nat) (cs : List AV), es[i]? = some cs → cs.length = sz) ∧
      (r.solid → ∃ c T, w.heap[r.rb]? = some (.cells c T) ∧ c.size = r.csz ∧ rowCells H (bif p then noLay else ι) sz es c)
  | .map kvs => r.sz = 0 ∧ r.solid ∧ ∃ es clk, w.heap[r.rb]? = some (.map es clk) ∧ mapCells H kvs es

structure HeapRel (H : Know) (ι : Lay) (h : AHeap) (w : World) : Prop where
  know : ∀ b c, H b = some c → ∃ T fr, w.heap[b]? = some (.cells c T fr)
  free : ∀ b, h b = some .free → ι b = none
  obj : ∀ b o, h b = some o → o.alive = true → ∃ r, ι b = some r ∧ ObjOk H ι w r o ∧ (r.solid → H r.rb = none)
  inj : ∀ b b' o o' r r', h b = some o → o.alive = true → h b' = some o' → o'.alive = true → ι b = some r → ι b' = some r' → r.solid → r'.solid → b ≠ b' → r.rb ≠ r'.rb

def Owned (h : AHeap) (ι : Lay) (rb : Nat) : Prop := ∃ b o r, h b = some o ∧ o.alive = true ∧ ι b = some r ∧ r.solid ∧ r.rb = rb

theorem HeapRel.lt {H : Know} {ι : Lay} {h : AHeap} {w : World} (hr : HeapRel H ι h w) {rb : Nat} (ho : Owned h ι rb) : rb < w.heap.size := by
  obtain ⟨b, o, r, h1, h2, h3, hsol, rfl⟩ := ho
  obtain ⟨r', e1, e2, _⟩ := hr.obj b o h1 h2
  rw [h3] at e1; cases e1
  cases o with
  | free => cases h2
  | row p sz es => obtain ⟨_, _, _, _, _, hx⟩ := e2; obtain ⟨c, T, hc, _⟩ := hx hsol; exact (Array.getElem?_eq_some_iff.1 hc).1
  | map kvs => obtain ⟨_, _, es, clk, hc, _⟩ := e2; exact (Array.getElem?_eq_some_iff.1 hc).1

theorem HeapRel.knowlt {H : Know} {ι : Lay} {h : AHeap} {w : World} (hr : HeapRel H ι h w) {b : Nat} {c : Array Value} (hc : H b = some c) : b < w.heap.size := by
  obtain ⟨T, fr, e⟩ := hr.know b c hc
  exact (Array.getElem?_eq_some_iff.1 e).1

/-- What may change from one world to a later one, where 'h' is owned at first, 'h'' at last. -/
structure Step (H : Know) (ι : Lay) (h : AHeap) (w : World) (H' : Know) (ι' : Lay) (h' : AHeap) (w' : World) : Prop where
  size : w.heap.size ≤ w'.heap.size
  os : w'.os = w.os
  out : w'.output = w.output
  keep : ∀ rb, rb < w.heap.size → ¬ Owned h ι rb → w'.heap[rb]? = w.heap[rb]?
  kle : KLe H H'
  knew : ∀ b, H' b ≠ none → H b ≠ none ∨ w.heap.size ≤ b ∨ Owned h ι b
  lle : LLe ι ι'
  lframe : ∀ b, h b = none → ι' b = ι b
  newrb : ∀ b r', ι' b = some r' → r'.solid → ι b = some r' ∨ w.heap.size ≤ r'.rb ∨ ∃ r, ι b = some r ∧ r.solid ∧ r.rb = r'.rb
  dom : ∀ b, h b = none → h' b = none

theorem Step.refl (H : Know) (ι : Lay) (h : AHeap) (w : World) : Step H ι h w H ι h w where
  size := Nat.le_refl _
  os := rfl
  out := rfl
  keep := fun _ _ _ => rfl
  kle := KLe.refl _
  knew := fun _ h => .inl h
  lle := LLe.refl _
  lframe := fun _ _ => rfl
  newrb := fun _ _ h _ => .inl h
  dom := fun _ h => h

theorem Step.owned {H : Know} {ι : Lay} {h : AHeap} {w : World} {H' : Know} {ι' : Lay} {h' : AHeap} {w' : World}
    (hr : HeapRel H ι h w) (s : Step H ι h w H' ι' h' w') {rb : Nat} (ho : Owned h' ι' rb) : Owned h ι rb ∨ w.heap.size ≤ rb := by
  obtain ⟨b, o, r', h1, h2, h3, hsol, rfl⟩ := ho
  cases e1 : h b with
  | none => rw [s.dom b e1] at h1; cases h1
  | some o0 =>
    have e2 : ι b ≠ none → o0.alive = true := fun hne => by
      cases o0 with
      | free => exact absurd (hr.free b e1) hne
      | _ => rfl
    rcases s.newrb b r' h3 hsol with e | e | ⟨r, e, es, e'⟩
    · exact .inl ⟨b, o0, r', e1, e2 (by rw [e]; simp), e, hsol, rfl⟩
    · exact .inr e
    · exact .inl ⟨b, o0, r, e1, e2 (by rw [e]; simp), e, es, e'⟩

theorem Step.trans {H : Know} {ι : Lay} {h : AHeap} {w : World} {H' : Know} {ι' : Lay} {h' : AHeap} {w' : World} {H'' : Know} {ι'' : Lay} {h'' : AHeap} {w'' : World}
    (hr : HeapRel H ι h w) (s : Step H ι h w H' ι' h' w') (hr' : HeapRel H' ι' h' w') (t : Step H' ι' h' w' H'' ι'' h'' w'') : Step H ι h w H'' ι'' h'' w'' where
  size := Nat.le_trans s.size t.size
  os := t.os.trans s.os
  out := t.out.trans s.out
  keep := fun rb hlt hno => by
    rw [t.keep rb (Nat.lt_of_lt_of_le hlt s.size) (fun ho => ?_), s.keep rb hlt hno]
    rcases s.owned hr ho with h1 | h1
    · exact hno h1
    · omega
  kle := s.kle.trans t.kle
  knew := fun b hb => by
    rcases t.knew b hb with h1 | h1 | h1
    · exact s.knew b h1
    · exact .inr (.inl (Nat.le_trans s.size h1))
    · rcases s.owned hr h1 with h2 | h2
      · exact .inr (.inr h2)
      · exact .inr (.inl h2)
  lle := s.lle.trans t.lle
  lframe := fun b hb => (t.lframe b (s.dom b hb)).trans (s.lframe b hb)
  newrb := fun b r'' hb hsol => by
    rcases t.newrb b r'' hb hsol with h1 | h1 | ⟨r', h1, hs1, h2⟩
    · exact s.newrb b r'' h1 hsol
    · exact .inr (.inl (Nat.le_trans s.size h1))
    · rcases s.newrb b r' h1 hs1 with h3 | h3 | ⟨r, h3, hs3, h4⟩
      · exact .inr (.inr ⟨r', h3, hs1, h2⟩)
      · exact .inr (.inl (h2 ▸ h3))
      · exact .inr (.inr ⟨r, h3, hs3, h4.trans h2⟩)
  dom := fun b hb => t.dom b (s.dom b hb)

end Go.Proofs.Ytidfabbnobipkaa.Sv
