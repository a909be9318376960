/-
  REGIONS WHOSE ORDER IS DRAWN: if, in the order of the text, each operation comes to something, and no two that may change places touch the same thing, every order comes to the same: own work, over no program.
-/
import Derived.Test.YtidfabbnobipkaaSv12
namespace Go.Proofs.Ytidfabbnobipkaa.Sv
open Go
set_option linter.unusedVariables false
set_option linter.unusedSimpArgs false

/-! ### what is written where, whoever comes first -/
structure Upd (V : Type) where
  f : (Nat → V) → Nat → V
  wr : Nat → Bool
  out : ∀ g x, wr x = false → f g x = g x
  inn : ∀ g g' x, wr x = true → f g x = f g' x

section
variable {V : Type}
def merge (L : Nat → Bool) : List (Upd V) → Nat → (Nat → V) → Nat → V
  | [], _, g => g
  | u :: l, k, g => merge L l (k + 1) (if L k then u.f g else g)

theorem merge_congr {L L' : Nat → Bool} {x : Nat} : ∀ {l : List (Upd V)} {k : Nat} {g g' : Nat → V}, g x = g' x → (∀ i u, l[i]? = some u → u.wr x = true → L (k + i) = L' (k + i)) → merge L l k g x = merge L' l k g' x
  | [], _, _, _, hg, _ => hg
  | u :: l, k, g, g', hg, h => by
    refine merge_congr (l := l) ?_ (fun i v hv hw => by have := h (i + 1) v (by simpa using hv) hw; rwa [Nat.add_right_comm k 1 i, Nat.add_assoc k i 1])
    cases hw : u.wr x with
    | true =>
      have h0 := h 0 u rfl hw
      rw [Nat.add_zero] at h0
      rw [← h0]
      cases L k with
      | true => exact u.inn _ _ _ hw
      | false => exact hg
    | false =>
      have h1 : (if L k = true then u.f g else g) x = g x := by split; exact u.out _ _ hw; rfl
      have h2 : (if L' k = true then u.f g' else g') x = g' x := by split; exact u.out _ _ hw; rfl
      rw [h1, h2, hg]

theorem merge_skip {L : Nat → Bool} {x : Nat} : ∀ {l : List (Upd V)} {k : Nat} {g : Nat → V}, (∀ i u, l[i]? = some u → u.wr x = true → L (k + i) = false) → merge L l k g x = g x
  | [], _, _, _ => rfl
  | u :: l, k, g, h => by
    have ih := merge_skip (L := L) (x := x) (l := l) (k := k + 1) (g := if L k then u.f g else g) (fun i v hv hw => by have := h (i + 1) v (by simpa using hv) hw; rwa [Nat.add_right_comm k 1 i, Nat.add_assoc k i 1])
    show merge L l (k + 1) _ x = g x
    rw [ih]
    cases hw : u.wr x with
    | true =>
      have h0 := h 0 u rfl hw
      rw [Nat.add_zero] at h0
      rw [h0]; rfl
    | false => split; exact u.out _ _ hw; rfl

/-- The last one that is listed and writes it. -/
theorem merge_last {L : Nat → Bool} {x : Nat} : ∀ {l : List (Upd V)} {k : Nat} {g : Nat → V} {j : Nat} {u : Upd V}, l[j]? = some u → u.wr x = true → L (k + j) = true → (∀ i v, j < i → l[i]? = some v → v.wr x = true → L (k + i) = false) → ∀ g', merge L l k g x = u.f g' x
  | [], _, _, j, u, h, _, _, _, _ => by simp at h
  | v :: l, k, g, 0, u, h, hw, hL, hno, g' => by
    simp at h; subst h
    show merge L l (k + 1) _ x = _
    rw [merge_skip (fun i u hu hw' => by have := hno (i + 1) u (by omega) (by simpa using hu) hw'; rwa [Nat.add_right_comm k 1 i, Nat.add_assoc k i 1])]
    rw [Nat.add_zero] at hL
    rw [hL]
    exact v.inn _ _ _ hw
  | v :: l, k, g, j + 1, u, h, hw, hL, hno, g' => by
    refine merge_last (l := l) (k := k + 1) (j := j) (by simpa using h) hw (by rwa [Nat.add_right_comm k 1 j, Nat.add_assoc k j 1]) (fun i u' hi hu hw' => ?_) g'
    have := hno (i + 1) u' (by omega) (by simpa using hu) hw'
    rwa [Nat.add_right_comm k 1 i, Nat.add_assoc k i 1]

/-- One more is listed. -/
theorem merge_add {L L' : Nat → Bool} {l : List (Upd V)} {g : Nat → V} {j : Nat} {u : Upd V} (hj : l[j]? = some u) (hL : ∀ i, L' i = (i == j || L i)) (hno : ∀ x, u.wr x = true → ∀ i v, j < i → l[i]? = some v → v.wr x = true → L i = false) :
    merge L' l 0 g = u.f (merge L l 0 g) := by
  funext x
  cases hw : u.wr x with
  | true =>
    refine merge_last hj hw (by rw [Nat.zero_add, hL]; simp) (fun i v hi hv hw' => ?_) _
    rw [Nat.zero_add, hL, hno x hw i v hi hv hw']
    have : i ≠ j := by omega
    simp [this]
  | false =>
    rw [u.out _ _ hw]
    refine merge_congr rfl fun i v hv hw' => ?_
    rw [Nat.zero_add, hL]
    have : i ≠ j := fun e => by subst e; rw [hj] at hv; cases hv; rw [hw] at hw'; cases hw'
    simp [this]
end

def envUpd (d : Option Tmp) (r : Option AV) : Upd (Option AV) where
  f := fun e => eupd e d r
  wr := fun x => d == some x
  out := fun g x h => by
    cases d with
    | none => rfl
    | some t =>
      have hne : x ≠ t := fun e => by subst e; simp at h
      cases r with
      | none => exact edel_ne _ hne
      | some v => exact eput_ne _ _ hne
  inn := fun g g' x h => by
    have : d = some x := by simpa using h
    subst this
    cases r with
    | none => simp [eupd, edel_same]
    | some v => simp [eupd, eput_same]

theorem hputs_out : ∀ (W : List (Nat × AObj)) (h : AHeap) (x : Nat), (W.map (·.1)).contains x = false → hputs h W x = h x
  | [], _, _, _ => rfl
  | (b, o) :: W, h, x, hx => by
    simp only [List.map_cons, List.contains_cons, Bool.or_eq_false_iff, beq_eq_false_iff_ne] at hx
    show hputs (hput h b o) W x = h x
    rw [hputs_out W _ x hx.2, hput_ne _ _ hx.1]
theorem hputs_inn : ∀ (W : List (Nat × AObj)) (h h' : AHeap) (x : Nat), (h x = h' x ∨ (W.map (·.1)).contains x = true) → hputs h W x = hputs h' W x
  | [], h, h', x, hx => by rcases hx with hx | hx; exact hx; simp at hx
  | (b, o) :: W, h, h', x, hx => by
    show hputs (hput h b o) W x = hputs (hput h' b o) W x
    refine hputs_inn W _ _ x ?_
    by_cases hb : x = b
    · subst hb; left; rw [hput_same, hput_same]
    · rw [hput_ne _ _ hb, hput_ne _ _ hb]
      rcases hx with hx | hx
      · exact .inl hx
      · right
        simp only [List.map_cons, List.contains_cons, Bool.or_eq_true, beq_iff_eq, hb, false_or] at hx
        exact hx

def heapUpd (W : List (Nat × AObj)) : Upd (Option AObj) where
  f := fun h => hputs h W
  wr := fun x => (W.map (·.1)).contains x
  out := fun g x h => hputs_out W g x h
  inn := fun g g' x h => hputs_inn W g g' x (.inr h)

/-! ### the chain of a region, in the order of the text -/
structure OpRec where
  e : AEnv
  h : AHeap
  run : Bool
  R : List Nat
  W : List (Nat × AObj)
  r : Option AV

def OpRec.sets (c : OpRec) : List Nat × List Nat := (c.R, c.W.map (·.1))

def OpRec.ok (P : Program) (ops : Array Oper) (n : Nat) (o : Oper) (c : OpRec) : Prop :=
  guardIs ops o c.e = some c.run ∧ (∀ t, o.dst = some t → t < n) ∧ (c.run = true → OLoc P o c.e c.h c.R c.W c.r) ∧ (c.run = false → c.W = [] ∧ (c.r = none ∨ c.r = some (.tup [])))

def DChain (P : Program) (ops : Array Oper) (n : Nat) : List Oper → AEnv → AHeap → List OpRec → AEnv → AHeap → Prop
  | [], e, h, [], e', h' => e' = e ∧ h' = h
  | o :: l, e, h, c :: cs, e', h' => c.e = e ∧ c.h = h ∧ c.ok P ops n o ∧ DChain P ops n l (eupd e o.dst c.r) (hputs h c.W) cs e' h'
  | _, _, _, _, _, _ => False

def slotsApart (x y : List Nat × List Nat) : Bool := x.2.all (fun b => !y.1.contains b && !y.2.contains b) && y.2.all (fun b => !x.1.contains b)

def hasEdge (o : Oper) (i : Nat) : Bool := o.after.any fun e => Region.binds .any e && e.on == i

/-- an operation comes up behind another one, by edges -/
def hasPath (ops : Array Oper) : Nat → Oper → Nat → Bool
  | 0, o, i => hasEdge o i
  | f + 1, o, i => o.after.any fun e => Region.binds .any e && (e.on == i || (Nat.blt i e.on && match ops[e.on]? with | some o' => hasPath ops f o' i | none => false))
theorem hasPath_spec {ops : Array Oper} {i : Nat} {U : Nat → Prop} (hU : ∀ j o, U j → ops[j]? = some o → ∀ e ∈ o.after, Region.binds .any e = true → U e.on) : ∀ (f : Nat) (o : Oper), hasPath ops f o i = true → (∀ e ∈ o.after, Region.binds .any e = true → U e.on) → U i
  | 0, o, h, ho => by
    obtain ⟨e, he, hb⟩ := Array.any_eq_true'.1 h
    simp only [Bool.and_eq_true, beq_iff_eq] at hb
    exact hb.2 ▸ ho e he hb.1
  | f + 1, o, h, ho => by
    obtain ⟨e, he, hb⟩ := Array.any_eq_true'.1 h
    simp only [Bool.and_eq_true, Bool.or_eq_true, beq_iff_eq] at hb
    obtain ⟨h1, h2 | ⟨_, h2⟩⟩ := hb
    · exact h2 ▸ ho e he h1
    · cases ho' : ops[e.on]? with
      | none => rw [ho'] at h2; cases h2
      | some o' =>
        rw [ho'] at h2
        exact hasPath_spec hU f o' h2 (hU e.on o' (ho e he h1) ho')

/-- Whoever may change places touches nothing that the other does. -/
def chk (ops : Array Oper) (sets : List (List Nat × List Nat)) : Bool :=
  (List.range ops.size).all fun j => match ops[j]?, sets[j]? with
    | some oj, some sj => oj.after.all (fun e => !Region.binds .any e || Nat.blt e.on j) && (List.range j).all fun i => match ops[i]?, sets[i]? with
      | some oi, some si => hasPath ops 24 oj i || (oi.apart ops oj && slotsApart si sj)
      | _, _ => false
    | _, _ => false

theorem chk_spec {ops : Array Oper} {sets : List (List Nat × List Nat)} (h : chk ops sets = true) {j : Nat} {oj : Oper} {sj : List Nat × List Nat} (hj : ops[j]? = some oj) (hs : sets[j]? = some sj) :
    (∀ e ∈ oj.after, Region.binds .any e = true → e.on < j) ∧ ∀ i oi si, i < j → ops[i]? = some oi → sets[i]? = some si → hasPath ops 24 oj i = true ∨ (oi.apart ops oj = true ∧ slotsApart si sj = true) := by
  have hlt : j < ops.size := (Array.getElem?_eq_some_iff.1 hj).1
  have h1 := List.all_eq_true.1 h j (List.mem_range.2 hlt)
  simp only [hj, hs, Bool.and_eq_true] at h1
  refine ⟨fun e he hb => ?_, fun i oi si hij hi hsi => ?_⟩
  · have := Array.all_eq_true_iff_forall_mem.1 h1.1 e he
    simp only [hb, Bool.not_true, Bool.false_or] at this
    rwa [Nat.blt_eq] at this
  · have := List.all_eq_true.1 h1.2 i (List.mem_range.2 hij)
    simp only [hi, hsi, Bool.or_eq_true, Bool.and_eq_true] at this
    rcases this with h2 | h2
    · exact .inl h2
    · exact .inr h2

section
variable {P : Program} {ops : Array Oper} {n : Nat}

theorem DChain.length : ∀ {l : List Oper} {e : AEnv} {h : AHeap} {cs : List OpRec} {e' : AEnv} {h' : AHeap}, DChain P ops n l e h cs e' h' → cs.length = l.length
  | [], _, _, [], _, _, _ => rfl
  | _ :: _, _, _, _ :: _, _, _, hc => by simp [hc.2.2.2.length]
  | [], _, _, _ :: _, _, _, hc => hc.elim
  | _ :: _, _, _, [], _, _, hc => hc.elim

def envUpds : List Oper → List OpRec → List (Upd (Option AV))
  | o :: l, c :: cs => envUpd o.dst c.r :: envUpds l cs
  | _, _ => []
def heapUpds : List OpRec → List (Upd (Option AObj))
  | c :: cs => heapUpd c.W :: heapUpds cs
  | [] => []

theorem envUpds_get : ∀ {l : List Oper} {cs : List OpRec} {i : Nat} {u : Upd (Option AV)}, (envUpds l cs)[i]? = some u → ∃ o c, l[i]? = some o ∧ cs[i]? = some c ∧ u = envUpd o.dst c.r
  | [], _, i, u, h => by simp [envUpds] at h
  | _ :: _, [], i, u, h => by simp [envUpds] at h
  | o :: l, c :: cs, 0, u, h => by simp [envUpds] at h; exact ⟨o, c, rfl, rfl, h.symm⟩
  | o :: l, c :: cs, i + 1, u, h => by simp only [envUpds, List.getElem?_cons_succ] at h ⊢; exact envUpds_get h
theorem envUpds_at : ∀ {l : List Oper} {cs : List OpRec} {i : Nat} {o : Oper} {c : OpRec}, l[i]? = some o → cs[i]? = some c → (envUpds l cs)[i]? = some (envUpd o.dst c.r)
  | [], _, i, o, c, h, _ => by simp at h
  | _ :: _, [], i, o, c, _, h => by simp at h
  | o :: l, c :: cs, 0, _, _, h, h' => by simp at h h'; subst h; subst h'; rfl
  | o :: l, c :: cs, i + 1, _, _, h, h' => by simp only [envUpds, List.getElem?_cons_succ] at h h' ⊢; exact envUpds_at h h'
theorem heapUpds_get : ∀ {cs : List OpRec} {i : Nat} {u : Upd (Option AObj)}, (heapUpds cs)[i]? = some u → ∃ c, cs[i]? = some c ∧ u = heapUpd c.W
  | [], i, u, h => by simp [heapUpds] at h
  | c :: cs, 0, u, h => by simp [heapUpds] at h; exact ⟨c, rfl, h.symm⟩
  | c :: cs, i + 1, u, h => by simp only [heapUpds, List.getElem?_cons_succ] at h ⊢; exact heapUpds_get h
theorem heapUpds_at : ∀ {cs : List OpRec} {i : Nat} {c : OpRec}, cs[i]? = some c → (heapUpds cs)[i]? = some (heapUpd c.W)
  | [], i, c, h => by simp at h
  | c :: cs, 0, _, h => by simp at h; subst h; rfl
  | c :: cs, i + 1, _, h => by simp only [heapUpds, List.getElem?_cons_succ] at h ⊢; exact heapUpds_at h

/-- What stands ahead of operation j, in the order of the text. -/
theorem DChain.at_ : ∀ {l : List Oper} {e : AEnv} {h : AHeap} {cs : List OpRec} {e' : AEnv} {h' : AHeap} (k : Nat), DChain P ops n l e h cs e' h' → ∀ {j : Nat} {o : Oper} {c : OpRec}, l[j]? = some o → cs[j]? = some c →
    c.ok P ops n o ∧ c.e = merge (fun i => decide (i < k + j)) (envUpds l cs) k e ∧ c.h = merge (fun i => decide (i < k + j)) (heapUpds cs) k h
  | [], _, _, _, _, _, _, _, j, o, c, h, _ => by simp at h
  | _ :: _, _, _, [], _, _, _, hc, _, _, _, _, _ => hc.elim
  | o :: l, e, h, c :: cs, e', h', k, hc, 0, _, _, h1, h2 => by
    simp at h1 h2; subst h1; subst h2
    refine ⟨hc.2.2.1, ?_, ?_⟩
    · rw [hc.1]; funext x
      exact (merge_skip (fun i u _ _ => by simp)).symm
    · rw [hc.2.1]; funext x
      exact (merge_skip (fun i u _ _ => by simp)).symm
  | o :: l, e, h, c :: cs, e', h', k, hc, j + 1, o', c', h1, h2 => by
    have ih := hc.2.2.2.at_ (k + 1) (j := j) (o := o') (c := c') (by simpa using h1) (by simpa using h2)
    have hk : k + 1 + j = k + (j + 1) := by omega
    rw [hk] at ih
    refine ⟨ih.1, ?_, ?_⟩
    · rw [ih.2.1]
      show _ = merge _ (envUpds l cs) (k + 1) (if decide (k < k + (j + 1)) = true then (envUpd o.dst c.r).f e else e)
      rw [if_pos (by simp)]; rfl
    · rw [ih.2.2]
      show _ = merge _ (heapUpds cs) (k + 1) (if decide (k < k + (j + 1)) = true then (heapUpd c.W).f h else h)
      rw [if_pos (by simp)]; rfl

theorem DChain.end_ : ∀ {l : List Oper} {e : AEnv} {h : AHeap} {cs : List OpRec} {e' : AEnv} {h' : AHeap} (k : Nat) (L : Nat → Bool), (∀ i, i < cs.length → L (k + i) = true) → DChain P ops n l e h cs e' h' → e' = merge L (envUpds l cs) k e ∧ h' = merge L (heapUpds cs) k h
  | [], _, _, [], _, _, k, L, _, hc => hc
  | [], _, _, _ :: _, _, _, _, _, _, hc => hc.elim
  | _ :: _, _, _, [], _, _, _, _, _, hc => hc.elim
  | o :: l, e, h, c :: cs, e', h', k, L, hL, hc => by
    have ih := hc.2.2.2.end_ (k + 1) L (fun i hi => by have := hL (i + 1) (by simp; omega); rwa [Nat.add_right_comm k 1 i, Nat.add_assoc k i 1])
    have h0 := hL 0 (by simp)
    rw [Nat.add_zero] at h0
    refine ⟨?_, ?_⟩
    · rw [ih.1]
      show _ = merge L (envUpds l cs) (k + 1) (if L k = true then (envUpd o.dst c.r).f e else e)
      rw [if_pos h0]; rfl
    · rw [ih.2]
      show _ = merge L (heapUpds cs) (k + 1) (if L k = true then (heapUpd c.W).f h else h)
      rw [if_pos h0]; rfl

end
end Go.Proofs.Ytidfabbnobipkaa.Sv
