/-
  THE DOCUMENT'S CHECKER COMPARES TERMS, IN PLAIN LEAN: own work, over no program.
  BOTH CHECKERS ARE ONE, IN PLAIN LEAN; small facts for the walks over the laws: own work, over no program.
  ARGUMENTS OF THE LAWS OF THE CHECKER, IN PLAIN LEAN: own work, over no program.
  WHAT A CHECK SAYS, BY ONE RUN OF EACH BLOCK, IN PLAIN LEAN: own work, over no program.
  A FUNCTION IS THE SAME AS ITSELF; ROWS PUT TOGETHER: plain Lean, own work, over no program.
  RUNS THAT HAVE DONE FEWER STEPS END ALIKE, IN PLAIN LEAN: own work, over no program.
  WHAT A RUN DOES, BY ITS EFFECTS, THE NUMBER OF BLOCKS TOO, IN PLAIN LEAN: own work, over no program.
  EACH INSTRUCTION DOES WHAT ITS TERMS SAY, IN PLAIN LEAN: own work, over no program.
  SMALL LEMMAS FOR THE WALKS OF FLOW: own work, over no program.
  TIDYING, AS THE PROGRAM DOES IT, IN PLAIN LEAN: own work, over no program.
  SMALL LEMMAS FOR THE WALKS OF TIDY: own work, over no program.
  WHETHER PATHS HOLD, AS THE PROGRAM TELLS IT, IN PLAIN LEAN: own work, over no program.
  SMALL LEMMAS FOR THE WALKS OF tidy.Check: own work, over no program.
  THE LAWS OF LAYER 33, IN PLAIN LEAN: own work, over no program.
  THE DOCUMENT'S WAY TO HOLD PATHS AGAINST A FUNCTION, IN PLAIN LEAN: own work, over no program.
  WHAT THE LAWS' GUARDS SAY, IN PLAIN LEAN: own work, over no program.
  PATHS ARE PUT TOGETHER, IN PLAIN LEAN: own work, over no program.
  WHATEVER HOLDS MEANS THE SAME, IN PLAIN LEAN: own work, over no program.
  A MACHINE THAT COUNTS BLOCKS, IN PLAIN LEAN; what is checked does just the same in it: own work, over no program.
  THE MACHINE THAT COUNTS BLOCKS: what is tidied ends alike in it; functions that end alike, put together: own work, over no program.
  THE MACHINE THAT COUNTS BLOCKS BESIDE THE ONE THAT COUNTS STEPS: own work, over no program.
  PASSES THAT LEAD FROM ONE PROGRAM TO ANOTHER, IN PLAIN LEAN: own work, over no program.
  THE CODE'S CHECKS OF INSTRUCTIONS ARE THE DOCUMENT'S, IN PLAIN LEAN: own work, over no program.
  SIZES AND SAMENESS OF PROGRAMS, IN PLAIN LEAN: own work, over no program.
  LAW 35, IN PLAIN LEAN: what is small; passes one behind the other: own work.
  HOW THINGS READ, WITH THEIR BULK: own work.
  INTERFACE VALUES, AND FUNCTION VALUES THAT ARE KNOWN: own work, over no program.
  LAW 35: the passes as values: own work.
  Short names for the commonest steps of a walk (what is said of them is found by rfl).
  A slice that is copied behind nothing: own work.
  What is put behind nothing, or behind a list, may hold slices: own work.
  FAMILIES OF ROWS, whose numbers are told by a function; DRAWN REGIONS IN WHICH CALLS MAKE FAMILIES: own work, over no program.
  THE FIELD OF A STRUCT'S VALUE: own work, over no program.
  MANY STEPS AT ONCE: steps that leave the rows alone are done by computing. Own work, over no program.
  AN EVALUATOR FOR INPUTS THAT ARE KNOWN (1): single steps. Own work, over no program.
  CALLS THAT ARE GONE THROUGH WHERE THEY STAND: own work, over no program.
  AN EVALUATOR FOR INPUTS THAT ARE KNOWN (2): steps that change rows. Own work, over no program.
  A RANGE OVER A MAP THAT IS NIL: own work, over no program.
  AN EVALUATOR FOR INPUTS THAT ARE KNOWN (3): maps whose keys are numbers, equality, ranges over nil maps. Own work, over no program.
  AN EVALUATOR FOR INPUTS THAT ARE KNOWN (8): maps whose keys are arrays of numbers, arrays, slices, strings of bytes. Own work, over no program.
  AN EVALUATOR FOR INPUTS THAT ARE KNOWN (4): regions. Own work, over no program.
  AN EVALUATOR FOR INPUTS THAT ARE KNOWN (9): rows are frozen in thought. Own work, over no program.
  AN EVALUATOR FOR INPUTS THAT ARE KNOWN (5): code, and calls. Own work, over no program.
  AN EVALUATOR FOR INPUTS THAT ARE KNOWN (6): regions in no order. Own work, over no program.
  AN EVALUATOR FOR INPUTS THAT ARE KNOWN (7): code and calls. Own work, over no program.
  AN EVALUATOR FOR INPUTS THAT ARE KNOWN (8): calls of plain data, with results that are frozen where they end. Own work, over no program.
  PROGRAMS THAT PUT A BYTE, IN PLAIN LEAN: own work, over no program.
  THE LITTLE PROGRAM OF LAW 35, IN PLAIN LEAN: own work, over no program.
  LAW 35'S LITTLE PROGRAM: what the evaluator is told. Own work.
  LAW 35: a pass is asked; all passes over all functions: own work.
  LAW 35: no passes: own work.
  LAW 35'S LITTLE PROGRAM, EVALUATED: own work.
-/
import Derived.Test.YtbbfelelocccmaaGreatPOptimizeNone2
import Derived.Test.YtbbfelelocccmaaGreatPOptimizeNone1
namespace Go.Proofs.YtbbfelelocccmaaGreat.Sv
open Go
def RN (ts : List Tm) (t : Tm) (n : Int) : Prop := ∃ i : Nat, ts[i]? = some t ∧ n = (i : Int)
def RK (ts : List Tm) : Tm → RVal → Prop
  | .cst n, k => k = ⟨1, 0, 0, 0, 0, 0, 0, 0, n⟩
  | .op o a b, k => ∃ x y, RN ts a x ∧ RN ts b y ∧ k = ⟨3, o, x, y, 0, 0, 0, 0, 0⟩
  | .ld b τ, k => k = ⟨4, 0, 0, 0, 0, 0, b, τ, 0⟩
  | .unk n, k => k = runkV n
  | .old v, k => k = RVal.reg v 0
  | .own v, k => k = RVal.reg v 1
structure RT (ts : List Tm) (K : List RVal) : Prop where
  nd : ts.Nodup
  len : K.length = ts.length
  key : ∀ (i : Nat) (t : Tm) (k : RVal), ts[i]? = some t → K[i]? = some k → RK ts t k
  word : ∀ (n : Int), Tm.cst n ∈ ts → isW n
section
variable {ts ts' : List Tm} {K : List RVal}
theorem RN.ext (hp : ts <+: ts') {t : Tm} {n : Int} : RN ts t n → RN ts' t n := fun ⟨i, h1, h2⟩ => ⟨i, pre_get hp h1, h2⟩
theorem RK.ext (hp : ts <+: ts') : ∀ {t : Tm} {k : RVal}, RK ts t k → RK ts' t k
  | .cst _, _, h => h
  | .op _ _ _, _, ⟨x, y, h1, h2, h3⟩ => ⟨x, y, h1.ext hp, h2.ext hp, h3⟩
  | .ld _ _, _, h => h
  | .unk _, _, h => h
  | .old _, _, h => h
  | .own _, _, h => h
theorem RN.uniq (hnd : ts.Nodup) {t : Tm} {n m : Int} (h1 : RN ts t n) (h2 : RN ts t m) : n = m := by
  obtain ⟨i, a1, a2⟩ := h1
  obtain ⟨j, b1, b2⟩ := h2
  have := nodup_inj hnd a1 b1
  omega
theorem RN.inj {t s : Tm} {n : Int} (h1 : RN ts t n) (h2 : RN ts s n) : t = s := by
  obtain ⟨i, a1, a2⟩ := h1
  obtain ⟨j, b1, b2⟩ := h2
  have : i = j := by omega
  subst this
  rw [a1] at b1; exact Option.some.inj b1
theorem RK.uniq (h : ts.Nodup) : ∀ {t : Tm} {k k' : RVal}, RK ts t k → RK ts t k' → k = k'
  | .cst _, _, _, h1, h2 => h1.trans h2.symm
  | .op _ _ _, _, _, ⟨x, y, a1, a2, a3⟩, ⟨x', y', b1, b2, b3⟩ => by rw [a3, b3, RN.uniq h a1 b1, RN.uniq h a2 b2]
  | .ld _ _, _, _, h1, h2 => h1.trans h2.symm
  | .unk _, _, _, h1, h2 => h1.trans h2.symm
  | .old _, _, _, h1, h2 => h1.trans h2.symm
  | .own _, _, _, h1, h2 => h1.trans h2.symm
def tkind : Tm → Int
  | .cst _ => 1
  | .op _ _ _ => 3
  | .ld _ _ => 4
  | .unk _ => 2
  | .old _ => 2
  | .own _ => 2
def tside : Tm → Int
  | .unk _ => 2
  | .own _ => 1
  | _ => 0
theorem RK.kind {t : Tm} {k : RVal} (h : RK ts t k) : k.kind = tkind t ∧ k.side = tside t := by
  cases t with
  | op o a b => obtain ⟨x, y, _, _, rfl⟩ := h; exact ⟨rfl, rfl⟩
  | _ => have h' : k = _ := h; subst h'; exact ⟨rfl, rfl⟩
theorem RK.inj {t s : Tm} {k : RVal} (h1 : RK ts t k) (h2 : RK ts s k) : t = s := by
  have e1 := h1.kind
  have e2 := h2.kind
  have ek : tkind t = tkind s := e1.1.symm.trans e2.1
  have es : tside t = tside s := e1.2.symm.trans e2.2
  cases t <;> cases s <;> first | (exfalso; revert ek; simp only [tkind]; decide) | (exfalso; revert es; simp only [tside]; decide) | skip
  · have e : RVal.reg _ 0 = RVal.reg _ 0 := (show k = _ from h1).symm.trans h2
    simp only [RVal.reg, RVal.mk.injEq, true_and, and_true] at e
    exact congrArg Tm.old (Int.ofNat_inj.1 e)
  · have e : RVal.reg _ 1 = RVal.reg _ 1 := (show k = _ from h1).symm.trans h2
    simp only [RVal.reg, RVal.mk.injEq, true_and, and_true] at e
    exact congrArg Tm.own (Int.ofNat_inj.1 e)
  · have e := (show k = _ from h1).symm.trans h2
    simp only [RVal.mk.injEq, true_and, and_true] at e
    rw [e]
  · obtain ⟨x, y, a1, a2, a3⟩ := h1
    obtain ⟨x', y', b1, b2, b3⟩ := h2
    have e := a3.symm.trans b3
    simp only [RVal.mk.injEq, true_and, and_true] at e
    obtain ⟨q1, q2, q3⟩ := e
    subst q2; subst q3
    rw [q1, RN.inj a1 b1, RN.inj a2 b2]
  · have e := (show k = _ from h1).symm.trans h2
    simp only [RVal.mk.injEq, true_and, and_true] at e
    rw [e.1, e.2]
  · have e : runkV _ = runkV _ := (show k = _ from h1).symm.trans h2
    simp only [runkV, RVal.mk.injEq, true_and, and_true] at e
    exact congrArg Tm.unk (Int.ofNat_inj.1 e)
theorem ridx_no {v : RVal} : ∀ {L : List RVal}, ridx v L = none → v ∉ L
  | [], _ => by simp
  | x :: r, h => by
    unfold ridx at h
    cases hx : x.same v with
    | true => rw [hx] at h; cases h
    | false =>
      rw [hx] at h
      have h' : ridx v r = none := by simpa using h
      have := ridx_no h'
      simp only [List.mem_cons, not_or]
      refine ⟨fun e => ?_, this⟩
      subst e
      rw [(RVal.same_iff v v).2 rfl] at hx; cases hx
theorem RT.num (h : RT ts K) {t : Tm} {k : RVal} (hk : RK ts t k) (hw : ∀ n, t = .cst n → isW n) : ∃ ts', ts <+: ts' ∧ RT ts' (rnum K k).2 ∧ RN ts' t (rnum K k).1 := by
  cases e : ridx k K with
  | some i =>
    rw [rnum_old e]
    obtain ⟨h1, h2⟩ := ridx_lt e
    obtain ⟨s, hs⟩ := get_of_lt (l := ts) (k := i) (by rw [← h.len]; exact h1)
    have := RK.inj (h.key i s k hs h2) hk
    subst this
    exact ⟨ts, List.prefix_rfl, h, i, hs, rfl⟩
  | none =>
    rw [rnum_new e]
    have hni := ridx_no e
    have hnt : t ∉ ts := fun hm => by
      obtain ⟨i, hi⟩ := List.mem_iff_getElem?.1 hm
      obtain ⟨k', hk'⟩ := get_of_lt (l := K) (k := i) (by rw [h.len]; exact (List.getElem?_eq_some_iff.1 hi).1)
      have := RK.uniq h.nd (h.key i t k' hi hk') hk
      subst this
      exact hni (List.mem_of_getElem? hk')
    have hp : ts <+: ts ++ [t] := List.prefix_append _ _
    refine ⟨ts ++ [t], hp, ⟨?_, ?_, fun i s k' hs hk' => ?_, fun n hn => ?_⟩, ?_⟩
    · rw [List.nodup_append]
      exact ⟨h.nd, by simp, fun a ha b hb => by simp at hb; subst hb; exact fun e => hnt (e ▸ ha)⟩
    · simp [h.len]
    · rw [List.getElem?_append] at hs hk'
      by_cases hi : i < ts.length
      · rw [if_pos hi] at hs
        rw [if_pos (by rw [h.len]; exact hi)] at hk'
        exact (h.key i s k' hs hk').ext hp
      · rw [if_neg hi] at hs
        rw [if_neg (by rw [h.len]; exact hi), h.len] at hk'
        have h0 : i - ts.length = 0 := by
          have := (List.getElem?_eq_some_iff.1 hs).1
          simp at this; omega
        rw [h0] at hs hk'
        simp at hs hk'
        subst hs; subst hk'
        exact hk.ext hp
    · simp only [List.mem_append, List.mem_singleton] at hn
      rcases hn with hn | hn
      · exact h.word n hn
      · exact hw n hn.symm
    · exact ⟨ts.length, by simp, by rw [h.len]⟩
theorem RT.cst (h : RT ts K) {t : Tm} {n : Int} (hn : RN ts t n) : (∃ c, t = .cst c ∧ isW c ∧ rconst K n = (c, true)) ∨ ((∀ c, t ≠ .cst c) ∧ (rconst K n).2 = false) := by
  obtain ⟨i, a1, a2⟩ := hn
  obtain ⟨k, hk⟩ := get_of_lt (l := K) (k := i) (by rw [h.len]; exact (List.getElem?_eq_some_iff.1 a1).1)
  have hkey := h.key i t k a1 hk
  have hv : rconst K n = (k.n, k.kind == 1) := by
    unfold rconst rval
    rw [show n.toNat = i by omega, hk]
    rfl
  rw [hv]
  by_cases hc : ∃ c, t = .cst c
  · obtain ⟨c, rfl⟩ := hc
    have hk' : k = ⟨1, 0, 0, 0, 0, 0, 0, 0, c⟩ := hkey
    subst hk'
    exact .inl ⟨c, rfl, h.word c (List.mem_of_getElem? a1), rfl⟩
  · refine .inr ⟨fun c e => hc ⟨c, e⟩, ?_⟩
    rw [hkey.kind.1]
    cases t <;> first | rfl | exact absurd ⟨_, rfl⟩ hc
end
def RO (ts : List Tm) : Option Tm → Int → Prop
  | none, n => n = 0
  | some t, n => RN ts t n
def RE (ts : List Tm) (e : SE) (k : REff) : Prop := ∃ x y, RO ts e.a x ∧ RO ts e.b y ∧ k = ⟨e.op, e.k, e.base, e.size, x, y⟩
structure RS (ts : List Tm) (w : RW) (s : SS) : Prop where
  t : RT ts w.L
  regs : All2 (RN ts) s.regs w.regs
  effs : All2 (RE ts) s.effs w.out
  time : w.time = s.time
section
variable {R : Nat} {ts ts' : List Tm}
theorem RO.ext (hp : ts <+: ts') : ∀ {t : Option Tm} {n : Int}, RO ts t n → RO ts' t n
  | none, _, h => h
  | some _, _, h => RN.ext hp h
theorem RE.ext (hp : ts <+: ts') {e : SE} {k : REff} : RE ts e k → RE ts' e k := fun ⟨x, y, h1, h2, h3⟩ => ⟨x, y, h1.ext hp, h2.ext hp, h3⟩
theorem RS.at {w : RW} {s : SS} (h : RS ts w s) {z : Int} (hz : 0 ≤ z ∧ z < s.regs.length) : RN ts (tget s.regs z) (rget w.regs z) := by
  have hl := h.regs.len
  obtain ⟨x, hx⟩ := get_of_lt (l := s.regs) (k := z.toNat) (by omega)
  obtain ⟨y, hy⟩ := get_of_lt (l := w.regs) (k := z.toNat) (by omega)
  unfold tget rget
  rw [hx, hy]
  exact h.regs.get hx hy
theorem RS.put {w : RW} {s : SS} (h : RS ts w s) (z : Int) {t : Tm} {k : RVal} (hk : RK ts t k) (hw : ∀ n, t = .cst n → isW n) : ∃ ts', ts <+: ts' ∧ RS ts' (w.put z (rnum w.L k)) (s.put z t) := by
  obtain ⟨ts', hp, h1, h2⟩ := h.t.num hk hw
  exact ⟨ts', hp, h1, (h.regs.mono fun x y hxy => hxy.ext hp).set h2 _, h.effs.mono fun x y hxy => hxy.ext hp, h.time⟩
theorem RS.eff {w : RW} {s : SS} (h : RS ts w s) {e : SE} {k : REff} (he : RE ts e k) : RS ts (w.eff k) (s.eff e) := ⟨h.t, h.regs, h.effs.snoc he, h.time⟩
theorem RS.tick {w : RW} {s : SS} (h : RS ts w s) : RS ts w.tick s.tick := ⟨h.t, h.regs, h.effs, by show w.time + 1 = s.time + 1; rw [h.time]⟩
theorem RS.get {w : RW} {s : SS} (h : RS ts w s) (t : Tac) {e : SE} {k : REff} (he : RE ts e k) : ∃ ts', ts <+: ts' ∧ RS ts' (w.get t k) (s.get t e) := by
  have h1 : RS ts (w.eff k) (s.eff e) := h.eff he
  have := h1.put t.d (t := .unk s.effs.length) (k := runkV w.out.length) (by show _ = _; rw [h.effs.len]) (fun n e => by cases e)
  exact this
theorem RS.risky {w : RW} {s : SS} (h : RS ts w s) {t : Tac} (hb : 0 ≤ t.b ∧ t.b < s.regs.length) : rrisky w t = trisky t.k (tget s.regs t.b) := by
  unfold rrisky trisky
  congr 1
  rcases h.t.cst (h.at hb) with ⟨c, h1, h2, h3⟩ | ⟨h1, h2⟩
  · rw [h1, h3]; simp [Tm.isZero]
  · rw [h2]
    cases e : tget s.regs t.b with
    | cst c => exact absurd e (h1 c)
    | _ => rfl
theorem RS.apply {w : RW} {s : SS} (h : RS ts w s) {t : Tac} (ha : 0 ≤ t.a ∧ t.a < s.regs.length) (hb : 0 ≤ t.b ∧ t.b < s.regs.length) :
    RK ts (tfold t.k (tget s.regs t.a) (tget s.regs t.b)) (rapplyV w t) ∧ ∀ n, tfold t.k (tget s.regs t.a) (tget s.regs t.b) = .cst n → isW n := by
  have hna := h.at ha
  have hnb := h.at hb
  have hr := h.risky hb
  have hop : ∀ x y : Tm, RN ts x (rget w.regs t.a) → RN ts y (rget w.regs t.b) → RK ts (.op t.k x y) ⟨3, t.k, rget w.regs t.a, rget w.regs t.b, 0, 0, 0, 0, 0⟩ := fun x y h1 h2 => ⟨_, _, h1, h2, rfl⟩
  rcases h.t.cst hna with ⟨c, h1, h2, h3⟩ | ⟨h1, h2⟩
  · rcases h.t.cst hnb with ⟨d, g1, g2, g3⟩ | ⟨g1, g2⟩
    · rw [g1] at hr
      rw [h1] at hna ⊢
      rw [g1] at hnb ⊢
      cases hk : trisky t.k (.cst d) with
      | true =>
        rw [hk] at hr
        rw [rapplyV_o (by unfold rfold; rw [hr]; simp)]
        simp only [tfold, hk, cond_true]
        exact ⟨hop _ _ hna hnb, fun n e => by cases e⟩
      | false =>
        rw [hk] at hr
        rw [rapplyV_c (by unfold rfold; rw [hr, h3, g3]; rfl), h3, g3]
        simp only [tfold, hk, cond_false]
        exact ⟨rfl, fun n e => by cases e; exact wapp_word h2 g2⟩
    · rw [rapplyV_o (by unfold rfold; rw [g2]; simp)]
      rw [h1] at hna ⊢
      cases e2 : tget s.regs t.b with
      | cst d => exact absurd e2 (g1 d)
      | _ => rw [e2] at hnb; exact ⟨hop _ _ hna hnb, fun n e => by cases e⟩
  · rw [rapplyV_o (by unfold rfold; rw [h2]; rfl)]
    cases e1 : tget s.regs t.a with
    | cst d => exact absurd e1 (h1 d)
    | _ => rw [e1] at hna; exact ⟨hop _ _ hna hnb, fun n e => by cases e⟩
theorem RS.step {w : RW} {s : SS} (h : RS ts w s) {t : Tac} (ht : TacT t R) (hl : s.regs.length = R) : ∃ ts', ts <+: ts' ∧ RS ts' (w.step t) (s.step t) := by
  have ha : use1 t.op = true ∨ use2 t.op = true → 0 ≤ t.a ∧ t.a < s.regs.length := fun e => by rw [hl]; exact ht.a e
  have hb : use2 t.op = true → 0 ≤ t.b ∧ t.b < s.regs.length := fun e => by rw [hl]; exact ht.b e
  have h10 : t.op = 1 ∨ t.op = 2 ∨ t.op = 3 ∨ t.op = 4 ∨ t.op = 5 ∨ t.op = 6 ∨ t.op = 7 ∨ t.op = 8 ∨ t.op = 9 ∨ t.op = 10 := by have := ht.op; omega
  rcases h10 with ho | ho | ho | ho | ho | ho | ho | ho | ho | ho
  · rw [rstep1 ho, show s.step t = s.put t.d (.cst t.n) by unfold SS.step; rw [ho]; rfl]
    exact h.put t.d rfl (fun n e => by cases e; exact ht.n)
  · rw [rstep2 ho, show s.step t = s.put t.d (tget s.regs t.a) by unfold SS.step; rw [ho]; rfl]
    exact ⟨ts, List.prefix_rfl, h.t, h.regs.set (h.at (ha (.inl (by rw [ho]; rfl)))) _, h.effs, h.time⟩
  · rw [rstep3 ho, show s.step t = s.bin t by unfold SS.step; rw [ho]; rfl]
    have ha' := ha (.inr (by rw [ho]; rfl))
    have hb' := hb (by rw [ho]; rfl)
    obtain ⟨hk2, hk3⟩ := h.apply ha' hb'
    have hr := h.risky hb'
    have h1 : RS ts (w.div t) (s.div t) := by
      unfold RW.div SS.div
      rw [hr]
      cases trisky t.k (tget s.regs t.b) with
      | true => exact h.eff ⟨_, _, h.at ha', h.at hb', by rw [ho]⟩
      | false => exact h
    have := h1.put t.d hk2 hk3
    rw [rdiv_L] at this
    exact this
  · rw [rstep4 ho, show s.step t = s.put t.d (.ld t.base s.time) by unfold SS.step; rw [ho]; rfl]
    exact h.put t.d (by show _ = _; rw [h.time]) (fun n e => by cases e)
  · rw [rstep5 ho, show s.step t = (s.eff ⟨false, 5, 0, t.base, 0, some (tget s.regs t.a), none⟩).tick by unfold SS.step; rw [ho]; rfl]
    exact ⟨ts, List.prefix_rfl, RS.tick (h.eff ⟨_, _, h.at (ha (.inl (by rw [ho]; rfl))), rfl, by rw [ho]⟩)⟩
  · rw [rstep6 ho, show s.step t = s.get t ⟨false, 6, 0, t.base, t.size, some (tget s.regs t.a), none⟩ by unfold SS.step; rw [ho]; rfl]
    exact h.get t ⟨_, _, h.at (ha (.inl (by rw [ho]; rfl))), rfl, by rw [ho]⟩
  · rw [rstep7 ho, show s.step t = (s.eff ⟨false, 7, 0, t.base, t.size, some (tget s.regs t.a), some (tget s.regs t.b)⟩).tick by unfold SS.step; rw [ho]; rfl]
    exact ⟨ts, List.prefix_rfl, RS.tick (h.eff ⟨_, _, h.at (ha (.inr (by rw [ho]; rfl))), h.at (hb (by rw [ho]; rfl)), by rw [ho]⟩)⟩
  · rw [rstep8 ho, show s.step t = s.get t ⟨false, 8, 0, 0, 0, none, none⟩ by unfold SS.step; rw [ho]; rfl]
    exact h.get t ⟨_, _, rfl, rfl, by rw [ho]⟩
  · rw [rstep9 ho, show s.step t = s.eff ⟨false, 9, 0, 0, 0, some (tget s.regs t.a), none⟩ by unfold SS.step; rw [ho]; rfl]
    exact ⟨ts, List.prefix_rfl, h.eff ⟨_, _, h.at (ha (.inl (by rw [ho]; rfl))), rfl, by rw [ho]⟩⟩
  · have hn : ∀ k : Int, k ≠ 10 → (t.op == k) = false := fun k hk => by rw [ho]; simpa using Ne.symm hk
    rw [rstep0 (hn 1 (by decide)) (hn 2 (by decide)) (hn 3 (by decide)) (hn 4 (by decide)) (hn 5 (by decide)) (hn 6 (by decide)) (hn 7 (by decide)) (hn 8 (by decide)) (hn 9 (by decide)), show s.step t = (s.eff ⟨false, 10, 0, t.base, 0, none, none⟩).tick by unfold SS.step; rw [ho]; rfl]
    exact ⟨ts, List.prefix_rfl, RS.tick (h.eff ⟨_, _, rfl, rfl, by rw [ho]⟩)⟩
theorem RE.uniq (hK : ts.Nodup) {e : SE} {k k' : REff} (h1 : RE ts e k) (h2 : RE ts e k') : k = k' := by
  obtain ⟨x, y, a1, a2, a3⟩ := h1
  obtain ⟨x', y', b1, b2, b3⟩ := h2
  have hu : ∀ {o : Option Tm} {n m : Int}, RO ts o n → RO ts o m → n = m := fun {o n m} g1 g2 => by
    cases o with
    | none => exact g1.trans g2.symm
    | some t => exact RN.uniq hK g1 g2
  rw [a3, b3, hu a1 b1, hu a2 b2]
theorem RE.inj {e e' : SE} {k : REff} (hw : e.wf) (hw' : e'.wf) (h1 : RE ts e k) (h2 : RE ts e' k) : e = e' := by
  obtain ⟨x, y, a1, a2, a3⟩ := h1
  obtain ⟨x', y', b1, b2, b3⟩ := h2
  have hso : ∀ {o o' : Option Tm} {n : Int}, o.isSome → o'.isSome → RO ts o n → RO ts o' n → o = o' := fun {o o' n} g1 g2 g3 g4 => by
    cases o with
    | none => cases g1
    | some t => cases o' with
      | none => cases g2
      | some s => rw [RN.inj (ts := ts) g3 g4]
  obtain ⟨r, o, k1, ba, si, oa, ob⟩ := e
  obtain ⟨r', o', k1', ba', si', oa', ob'⟩ := e'
  have h3 := a3.symm.trans b3
  simp only [REff.mk.injEq] at h3
  obtain ⟨e1, e2, e3, e4, e5, e6⟩ := h3
  subst e1; subst e2; subst e3; subst e4; subst e5; subst e6
  have hfin : r = r' → oa = oa' → ob = ob' → (⟨r, o, k1, ba, si, oa, ob⟩ : SE) = ⟨r', o, k1, ba, si, oa', ob'⟩ := fun q0 q1 q2 => by rw [q0, q1, q2]
  rcases hw with ⟨w1, w2, w3, w4, w5, w6⟩ | ⟨w1, w0, w2⟩ <;> rcases hw' with ⟨v1, v2, v3, v4, v5, v6⟩ | ⟨v1, v0, v2⟩ <;> simp only at *
  · exact hfin (w1.trans v1.symm) (hso w5 v5 a1 b1) (hso w6 v6 a2 b2)
  · rcases v2 with v2 | v2 | v2 | v2 | v2 | v2 <;> (exfalso; have := v2.1; omega)
  · rcases w2 with w2 | w2 | w2 | w2 | w2 | w2 <;> (exfalso; have := w2.1; omega)
  · have hr := w1.trans v1.symm
    rcases w2 with ⟨u1, u2, u3, u4⟩ | ⟨u1, u3, u4⟩ | ⟨u1, u3, u4⟩ | ⟨u1, u2, u5, u3, u4⟩ | ⟨u1, u2, u5, u3, u4⟩ | ⟨u1, u2, u3, u4⟩ <;>
      rcases v2 with ⟨q1, q2, q3, q4⟩ | ⟨q1, q3, q4⟩ | ⟨q1, q3, q4⟩ | ⟨q1, q2, q5, q3, q4⟩ | ⟨q1, q2, q5, q3, q4⟩ | ⟨q1, q2, q3, q4⟩ <;> first
        | (exfalso; omega)
        | exact hfin hr (hso u3 q3 a1 b1) (u4.trans q4.symm)
        | exact hfin hr (hso u3 q3 a1 b1) (hso u4 q4 a2 b2)
        | exact hfin hr (u3.trans q3.symm) (u4.trans q4.symm)
end
def BFunc.words (f : BFunc) : Prop := ∀ x ∈ f.blocks, insW x.ins
structure Cert.Ok (c : Cert) : Prop where
  len : c.same.length * 24 ≤ reachBytes
  rows : ∀ r ∈ c.same, r.length * 1 ≤ reachBytes
def Tm.pure (R : Nat) : Tm → Prop
  | .old v => v < R
  | .own _ => False
  | .op _ a b => a.pure R ∧ b.pure R
  | _ => True
def Tm.inR (row : List Bool) : Tm → Prop
  | .old v => row[v]? = some true
  | .own _ => False
  | .op _ a b => a.inR row ∧ b.inR row
  | _ => True
def opure (R : Nat) : Option Tm → Prop
  | none => True
  | some t => t.pure R
def oinR (row : List Bool) : Option Tm → Prop
  | none => True
  | some t => t.inR row
def SE.pure (R : Nat) (e : SE) : Prop := opure R e.a ∧ opure R e.b
def SE.inR (row : List Bool) (e : SE) : Prop := oinR row e.a ∧ oinR row e.b
structure SS.pure (R : Nat) (s : SS) : Prop where
  regs : ∀ t ∈ s.regs, t.pure R
  effs : ∀ e ∈ s.effs, e.pure R
theorem tget_pure {R : Nat} {l : List Tm} (h : ∀ t ∈ l, t.pure R) (z : Int) : (tget l z).pure R := by
  unfold tget
  cases e : l[z.toNat]? with
  | none => exact trivial
  | some t => exact h t (List.mem_of_getElem? e)
theorem tset_pure {R : Nat} {l : List Tm} (h : ∀ t ∈ l, t.pure R) (z : Int) {t : Tm} (ht : t.pure R) : ∀ x ∈ tset l z t, x.pure R := fun x hx => by
  unfold tset at hx
  rcases List.mem_or_eq_of_mem_set hx with hx | rfl
  · exact h x hx
  · exact ht
theorem tfold_pure {R : Nat} {k : Int} {a b : Tm} (ha : a.pure R) (hb : b.pure R) : (tfold k a b).pure R := by
  have hop : (Tm.op k a b).pure R := ⟨ha, hb⟩
  cases a with
  | cst x =>
    cases b with
    | cst y =>
      simp only [tfold]
      cases trisky k (.cst y) with
      | true => exact hop
      | false => exact trivial
    | _ => exact hop
  | _ => exact hop
theorem SS.pure.put_pure {R : Nat} {s : SS} (h : s.pure R) (z : Int) {t : Tm} (ht : t.pure R) : (s.put z t).pure R := ⟨tset_pure h.regs z ht, h.effs⟩
theorem SS.pure.eff_pure {R : Nat} {s : SS} (h : s.pure R) {e : SE} (he : e.pure R) : (s.eff e).pure R := ⟨h.regs, fun x hx => by
  have hx' : x ∈ s.effs ++ [e] := hx
  simp only [List.mem_append, List.mem_singleton] at hx'
  rcases hx' with hx' | rfl
  · exact h.effs x hx'
  · exact he⟩
theorem SS.pure.step_pure {R : Nat} {s : SS} (h : s.pure R) (t : Tac) : (s.step t).pure R := by
  have hg := fun z => tget_pure h.regs z
  have hp := fun (z : Int) (t : Tm) (ht : t.pure R) => h.put_pure z ht
  unfold SS.step
  cases t.op == 1 with
  | true => exact hp _ (.cst t.n) trivial
  | false =>
  cases t.op == 2 with
  | true => exact hp _ _ (hg _)
  | false =>
  cases t.op == 3 with
  | true =>
    have hd : (s.div t).pure R := by
      unfold SS.div
      cases trisky t.k (tget s.regs t.b) with
      | true => exact h.eff_pure ⟨hg _, hg _⟩
      | false => exact h
    exact hd.put_pure _ (tfold_pure (hg _) (hg _))
  | false =>
  cases t.op == 4 with
  | true => exact hp _ (.ld t.base s.time) trivial
  | false =>
  cases t.op == 5 with
  | true => exact ⟨(h.eff_pure (e := ⟨false, 5, 0, t.base, 0, some (tget s.regs t.a), none⟩) ⟨hg _, trivial⟩).regs, (h.eff_pure (e := ⟨false, 5, 0, t.base, 0, some (tget s.regs t.a), none⟩) ⟨hg _, trivial⟩).effs⟩
  | false =>
  cases t.op == 6 with
  | true => exact (h.eff_pure (e := ⟨false, 6, 0, t.base, t.size, some (tget s.regs t.a), none⟩) ⟨hg _, trivial⟩).put_pure _ (t := .unk s.effs.length) trivial
  | false =>
  cases t.op == 7 with
  | true => exact ⟨(h.eff_pure (e := ⟨false, 7, 0, t.base, t.size, some (tget s.regs t.a), some (tget s.regs t.b)⟩) ⟨hg _, hg _⟩).regs, (h.eff_pure (e := ⟨false, 7, 0, t.base, t.size, some (tget s.regs t.a), some (tget s.regs t.b)⟩) ⟨hg _, hg _⟩).effs⟩
  | false =>
  cases t.op == 8 with
  | true => exact (h.eff_pure (e := ⟨false, 8, 0, 0, 0, none, none⟩) ⟨trivial, trivial⟩).put_pure _ (t := .unk s.effs.length) trivial
  | false =>
  cases t.op == 9 with
  | true => exact h.eff_pure ⟨hg _, trivial⟩
  | false => exact ⟨(h.eff_pure (e := ⟨false, 10, 0, t.base, 0, none, none⟩) ⟨trivial, trivial⟩).regs, (h.eff_pure (e := ⟨false, 10, 0, t.base, 0, none, none⟩) ⟨trivial, trivial⟩).effs⟩
theorem srun_pure (R : Nat) (l : List Tac) : (srun (symR R) l).pure R := by
  unfold srun
  have h0 : (⟨symR R, [], 0⟩ : SS).pure R := ⟨fun t ht => by
    simp only [symR, List.mem_map, List.mem_range] at ht
    obtain ⟨v, hv, rfl⟩ := ht
    exact hv, fun e he => by simp at he⟩
  generalize (⟨symR R, [], 0⟩ : SS) = s at *
  induction l generalizing s with
  | nil => exact h0
  | cons t l ih => exact ih _ (h0.step_pure t)
def gsame (R : Nat) (x y : Block) (c : Cert) (i : Int) (next : List Int) : Prop :=
  (srun (symR R) x.ins).effs = (srun (symR R) y.ins).effs ∧ (∀ e ∈ (srun (symR R) y.ins).effs, e.inR (c.at' i)) ∧
  (x.fin = 2 → tget (srun (symR R) x.ins).regs x.v = tget (srun (symR R) y.ins).regs y.v ∧ (tget (srun (symR R) y.ins).regs y.v).inR (c.at' i)) ∧
  ∀ k ∈ next, ∀ j : Nat, (c.at' k)[j]? = some true → tget (srun (symR R) x.ins).regs (j : Int) = tget (srun (symR R) y.ins).regs (j : Int) ∧ (tget (srun (symR R) y.ins).regs (j : Int)).inR (c.at' i)
structure GCheck (old new : BFunc) (c : Cert) : Prop where
  sh : vshaped old new = true
  len : c.same.length = old.blocks.length
  rows : ∀ r ∈ c.same, (r.length : Int) = old.regs
  b : ∀ (k : Nat) (x y : Block), old.blocks[k]? = some x → new.blocks[k]? = some y → gsame old.regs.toNat x y c (k : Int) x.nexts
theorem vshaped_symm {old new : BFunc} (h : vshaped old new = true) : vshaped new old = true := by
  have hV := vshaped_of h
  refine vshaped_yes hV.regs.symm hV.len.symm hV.sn hV.so ?_
  rw [List.all_eq_true]
  rintro ⟨y, x⟩ hp
  obtain ⟨k, hk⟩ := List.mem_iff_getElem?.1 hp
  rw [List.getElem?_zip_eq_some] at hk
  obtain ⟨e1, e2, e3⟩ := hV.b k x y hk.2 hk.1
  simp [shapeB, e1, e2, e3]
theorem nexts_same {x y : Block} (h : x.fin = y.fin ∧ x.to = y.to ∧ x.els = y.els) : x.nexts = y.nexts := by
  unfold Block.nexts; rw [h.1, h.2.1, h.2.2]
theorem GCheck.symm {old new : BFunc} {c : Cert} (h : GCheck old new c) : GCheck new old c := by
  have hV := vshaped_of h.sh
  refine ⟨vshaped_symm h.sh, h.len.trans hV.len, fun r hr => by rw [← hV.regs]; exact h.rows r hr, fun k y x hy hx => ?_⟩
  have hb := hV.b k x y hx hy
  obtain ⟨g1, g2, g3, g4⟩ := h.b k x y hx hy
  rw [← hV.regs]
  refine ⟨g1.symm, by rw [g1]; exact g2, fun hf => ?_, fun q hq j hj => ?_⟩
  · obtain ⟨a1, a2⟩ := g3 (hb.1.trans hf)
    exact ⟨a1.symm, by rw [a1]; exact a2⟩
  · obtain ⟨a1, a2⟩ := g4 q (by rw [nexts_same hb]; exact hq) j hj
    exact ⟨a1.symm, by rw [a1]; exact a2⟩
def andC (c d : Cert) : Cert := ⟨(c.same.zip d.same).map fun p => (p.1.zip p.2).map fun q => q.1 && q.2⟩
theorem andC_at {c d : Cert} {k : Int} {j : Nat} (hk : 0 ≤ k ∧ k < c.same.length) (hl : c.same.length = d.same.length) : ((andC c d).at' k)[j]? = some true ↔ (c.at' k)[j]? = some true ∧ (d.at' k)[j]? = some true := by
  obtain ⟨r, hr⟩ := get_of_lt (l := c.same) (k := k.toNat) (by omega)
  obtain ⟨s, hs⟩ := get_of_lt (l := d.same) (k := k.toNat) (by omega)
  unfold Cert.at' andC
  rw [List.getElem?_map, zip_at hr hs, hr, hs]
  simp only [Option.map_some, Option.getD_some, List.getElem?_map]
  cases e1 : r[j]? with
  | none =>
    have : (r.zip s)[j]? = none := by
      rw [List.getElem?_eq_none_iff] at e1 ⊢
      rw [List.length_zip]; omega
    rw [this]; simp
  | some a =>
    cases e2 : s[j]? with
    | none =>
      have : (r.zip s)[j]? = none := by
        rw [List.getElem?_eq_none_iff] at e2 ⊢
        rw [List.length_zip]; omega
      rw [this]; simp
    | some b => rw [zip_at e1 e2]; simp
theorem Tm.inR_and {r s t : List Bool} (h : ∀ j : Nat, r[j]? = some true → s[j]? = some true → t[j]? = some true) : ∀ {x : Tm}, x.inR r → x.inR s → x.inR t
  | .old v, h1, h2 => h v h1 h2
  | .own _, h1, _ => h1.elim
  | .op _ a b, h1, h2 => ⟨Tm.inR_and h h1.1 h2.1, Tm.inR_and h h1.2 h2.2⟩
  | .cst _, _, _ => trivial
  | .ld _ _, _, _ => trivial
  | .unk _, _, _ => trivial
theorem oinR_and {r s t : List Bool} (h : ∀ j : Nat, r[j]? = some true → s[j]? = some true → t[j]? = some true) {x : Option Tm} (h1 : oinR r x) (h2 : oinR s x) : oinR t x := by
  cases x with
  | none => trivial
  | some x => exact Tm.inR_and h h1 h2
theorem vshaped_trans {a b c : BFunc} (h1 : vshaped a b = true) (h2 : vshaped b c = true) : vshaped a c = true := by
  have hV := vshaped_of h1
  have hW := vshaped_of h2
  refine vshaped_yes (hV.regs.trans hW.regs) (hV.len.trans hW.len) hV.so hW.sn ?_
  rw [List.all_eq_true]
  rintro ⟨x, z⟩ hp
  obtain ⟨k, hk⟩ := List.mem_iff_getElem?.1 hp
  rw [List.getElem?_zip_eq_some] at hk
  obtain ⟨y, hy⟩ := get_of_lt (l := b.blocks) (k := k) (by rw [← hV.len]; exact (List.getElem?_eq_some_iff.1 hk.1).1)
  obtain ⟨e1, e2, e3⟩ := hV.b k x y hk.1 hy
  obtain ⟨f1, f2, f3⟩ := hW.b k y z hy hk.2
  simp [shapeB, e1, e2, e3, f1, f2, f3]
theorem GCheck.trans {a b c : BFunc} {e f : Cert} (h1 : GCheck a b e) (h2 : GCheck b c f) : GCheck a c (andC e f) := by
  have hV := vshaped_of h1.sh
  have hW := vshaped_of h2.sh
  have hS := stands_of hV.so
  have hll : e.same.length = f.same.length := by rw [h1.len, h2.len, hV.len]
  refine ⟨vshaped_trans h1.sh h2.sh, by simp [andC, hll, h2.len, hV.len], fun r hr => ?_, fun k x z hx hz => ?_⟩
  · simp only [andC, List.mem_map] at hr
    obtain ⟨⟨p, q⟩, hpq, rfl⟩ := hr
    have hp := h1.rows p (List.of_mem_zip hpq).1
    have hq := h2.rows q (List.of_mem_zip hpq).2
    rw [← hV.regs] at hq
    simp only [List.length_map, List.length_zip]
    omega
  · have hk := (List.getElem?_eq_some_iff.1 hx).1
    obtain ⟨y, hy⟩ := get_of_lt (l := b.blocks) (k := k) (by rw [← hV.len]; exact hk)
    have hb := hV.b k x y hx hy
    obtain ⟨g1, g2, g3, g4⟩ := h1.b k x y hx hy
    have hq := h2.b k y z hy hz
    rw [← hV.regs] at hq
    obtain ⟨q1, q2, q3, q4⟩ := hq
    have hkk : 0 ≤ (k : Int) ∧ (k : Int) < e.same.length := by rw [h1.len]; omega
    have hand : ∀ j, (e.at' (k : Int))[j]? = some true → (f.at' (k : Int))[j]? = some true → ((andC e f).at' (k : Int))[j]? = some true := fun j u v => (andC_at hkk hll).2 ⟨u, v⟩
    refine ⟨g1.trans q1, fun s hs => ?_, fun hf => ?_, fun m hm j hj => ?_⟩
    · have u1 := g2 s (by rw [q1]; exact hs)
      have u2 := q2 s hs
      exact ⟨oinR_and hand u1.1 u2.1, oinR_and hand u1.2 u2.2⟩
    · obtain ⟨u1, u2⟩ := g3 hf
      obtain ⟨w1, w2⟩ := q3 (hb.1.symm.trans hf)
      exact ⟨u1.trans w1, Tm.inR_and hand (by rw [← w1]; exact u2) w2⟩
    · have hmr := hS.next x (List.mem_of_getElem? hx) m hm
      obtain ⟨j1, j2⟩ := (andC_at (by rw [h1.len]; exact hmr) hll).1 hj
      obtain ⟨u1, u2⟩ := g4 m hm j j1
      obtain ⟨w1, w2⟩ := q4 m (by rw [← nexts_same hb]; exact hm) j j2
      exact ⟨u1.trans w1, Tm.inR_and hand (by rw [← w1]; exact u2) w2⟩
theorem Tm.inR_all {R : Nat} : ∀ {x : Tm}, x.pure R → x.inR (List.replicate R true)
  | .old v, h => by
    show (List.replicate R true)[v]? = some true
    rw [List.getElem?_replicate]; exact if_pos h
  | .own _, h => h.elim
  | .op _ a b, h => ⟨Tm.inR_all h.1, Tm.inR_all h.2⟩
  | .cst _, _ => trivial
  | .ld _ _, _ => trivial
  | .unk _, _ => trivial
theorem oinR_all {R : Nat} {x : Option Tm} (h : opure R x) : oinR (List.replicate R true) x := by
  cases x with
  | none => trivial
  | some x => exact Tm.inR_all h
theorem vshaped_refl {f : BFunc} (h : f.stands = true) : vshaped f f = true := by
  refine vshaped_yes rfl rfl h h ?_
  rw [List.all_eq_true]
  rintro ⟨x, y⟩ hp
  obtain ⟨k, hk⟩ := List.mem_iff_getElem?.1 hp
  rw [List.getElem?_zip_eq_some] at hk
  have : x = y := Option.some.inj (hk.1.symm.trans hk.2)
  subst this
  simp [shapeB]
theorem weak_at {f : BFunc} {k : Int} (hk : 0 ≤ k ∧ k < f.blocks.length) : (vweak f).at' k = List.replicate f.regs.toNat true := by
  unfold Cert.at' vweak
  rw [List.getElem?_replicate, if_pos (by omega)]; rfl
theorem GCheck.self {f : BFunc} (h : f.stands = true) : GCheck f f (vweak f) := by
  have hS := stands_of h
  refine ⟨vshaped_refl h, by simp [vweak], fun r hr => ?_, fun k x y hx hy => ?_⟩
  · rw [List.eq_of_mem_replicate hr]
    have := hS.r0
    simp
    omega
  · have : x = y := Option.some.inj (hx.symm.trans hy)
    subst this
    have hk := (List.getElem?_eq_some_iff.1 hx).1
    have hp := srun_pure f.regs.toNat x.ins
    rw [gsame, weak_at (k := (k : Int)) (by omega)]
    refine ⟨rfl, fun e he => ⟨oinR_all (hp.effs e he).1, oinR_all (hp.effs e he).2⟩, fun _ => ⟨rfl, Tm.inR_all (tget_pure hp.regs _)⟩, fun q _ j _ => ⟨rfl, Tm.inR_all (tget_pure hp.regs _)⟩⟩
structure Mach.Le (m m' : Mach) : Prop where
  words : m'.words = m.words
  out : m'.out = m.out
  read : m'.read = m.read
  fin : m'.fin = m.fin
  steps : m'.steps ≤ m.steps
def Mach.Sim (x y : Mach) : Prop := x.fin = 5 ∨ x.Le y
theorem Mach.Le.trans {x y z : Mach} (h : x.Le y) (h' : y.Le z) : x.Le z := ⟨h'.words.trans h.words, h'.out.trans h.out, h'.read.trans h.read, h'.fin.trans h.fin, Nat.le_trans h'.steps h.steps⟩
theorem Mach.Sim.trans {x y z : Mach} (h : x.Sim y) (h' : y.Sim z) : x.Sim z := by
  rcases h with h | h
  · exact .inl h
  · rcases h' with h' | h'
    · exact .inl (h.fin.symm.trans h')
    · exact .inr (h.trans h')
theorem Mach.Le.refl (m : Mach) : m.Le m := ⟨rfl, rfl, rfl, rfl, Nat.le_refl _⟩
theorem Mach.Le.put {m m' : Mach} (h : m.Le m') (w : List Int) (o : List UInt8) (r : Nat) (f : Int) : Mach.Le ⟨w, o, r, m.steps, f⟩ ⟨w, o, r, m'.steps, f⟩ := ⟨rfl, rfl, rfl, rfl, h.steps⟩
section
variable {call call' : Int → Mach → Mach} {s : ByteArray} {fuel : Int}
def callsSim (call call' : Int → Mach → Mach) (ok : Int → Prop) : Prop := ∀ i m m', ok i → m.fin = 0 → m.Le m' → (call i m).Sim (call' i m')
end
structure Core where
  words : List Int
  out : List UInt8
  read : Nat
  cnt : Nat
def Mach.core (m : Mach) : Core := ⟨m.words, m.out, m.read, m.steps⟩
structure EH where
  mems : List (List Int)
  unks : List Int
  core : Core
def ev (ρ : List Int) (h : EH) : Tm → Int
  | .old v => rget ρ (v : Int)
  | .own _ => 0
  | .cst n => n
  | .op k a b => (wapp k (ev ρ h a) (ev ρ h b)).1
  | .ld b τ => rget ((h.mems[τ.toNat]?).getD []) b
  | .unk n => (h.unks[n]?).getD 0
def Tm.sc (n m : Nat) : Tm → Prop
  | .op _ a b => a.sc n m ∧ b.sc n m
  | .ld _ τ => τ.toNat < m
  | .unk k => k < n
  | _ => True
structure EH.Ext (h h' : EH) : Prop where
  mems : ∃ l, h'.mems = h.mems ++ l
  unks : ∃ l, h'.unks = h.unks ++ l
theorem EH.Ext.refl (h : EH) : h.Ext h := ⟨⟨[], by simp⟩, ⟨[], by simp⟩⟩
inductive Res where
  | ok (h : EH)
  | stop (f : Int) (c : Core)
section
variable (call : Int → Mach → Mach) (s : ByteArray) (ρ : List Int)
end
section
variable {call call' : Int → Mach → Mach} {s : ByteArray} {ρ ρ' : List Int}
end
structure Inv (ρ : List Int) (S : SS) (regs : List Int) (m : Mach) (h : EH) : Prop where
  len : regs.length = S.regs.length
  reg : ∀ z, rget regs z = ev ρ h (tget S.regs z)
  sc : ∀ t ∈ S.regs, t.sc h.unks.length h.mems.length
  core : h.core = m.core
  un : h.unks.length = S.effs.length
  tm : 0 ≤ S.time ∧ h.mems.length = S.time.toNat + 1
  mem : h.mems[S.time.toNat]? = some m.words
  fin : m.fin = 0
theorem get_set {α : Type} (l : List α) (a b : Nat) (v d : α) : ((l.set a v)[b]?).getD d = if a = b ∧ a < l.length then v else (l[b]?).getD d := by
  by_cases h : a = b
  · subst h
    by_cases hl : a < l.length
    · rw [List.getElem?_set_self hl, if_pos ⟨rfl, hl⟩]; rfl
    · rw [if_neg (by intro h; exact hl h.2), List.set_eq_of_length_le (by omega)]
  · rw [List.getElem?_set_ne h, if_neg (by intro g; exact h g.1)]
section
variable {ρ : List Int} {S : SS} {regs : List Int} {m : Mach} {h : EH}
theorem Inv.put (hI : Inv ρ S regs m h) (d : Int) {t : Tm} {v : Int} (ht : t.sc h.unks.length h.mems.length) (hv : v = ev ρ h t) : Inv ρ (S.put d t) (rset regs d v) m h := by
  refine ⟨by simp [rset, SS.put, tset, hI.len], fun z => ?_, fun x hx => ?_, hI.core, hI.un, hI.tm, hI.mem, hI.fin⟩
  · have h1 := hI.reg z
    show ((regs.set d.toNat v)[z.toNat]?).getD 0 = ev ρ h (((S.regs.set d.toNat t)[z.toNat]?).getD (.cst 0))
    rw [get_set, get_set, hI.len]
    split
    · exact hv
    · exact h1
  · have hx' : x ∈ S.regs.set d.toNat t := hx
    rcases List.mem_or_eq_of_mem_set hx' with hx | rfl
    · exact hI.sc x hx
    · exact ht
end
section
variable {call call' : Int → Mach → Mach} {s : ByteArray} {ρ : List Int}
end
def kins (call : Int → Mach → Mach) (s : ByteArray) : List Tac → List Int → Mach → Bool × List Int × Mach
  | [], regs, m => (true, regs, m)
  | t :: r, regs, m => bif (mone call s t regs m).2.fin == 0 then kins call s r (mone call s t regs m).1 (mone call s t regs m).2 else (false, mone call s t regs m)
structure FW where
  s : DS
  es : List (List AV)
  g : Nat
structure FWInv (next : List (List Int)) (tgt : DS) (q : FW) : Prop where
  ok : q.s.ok next
  way : WayIn next.length q.s q.es
  gas : dmu next q.s < q.g
  tgt : drun next q.g q.s = tgt
theorem FWInv.next {next : List (List Int)} {tgt : DS} {q : FW} (h : FWInv next tgt q) {s' : DS} {es' : List (List AV)} {p : Int × Int} (hp : q.s.way.getLast? = some p) (he : dstep next q.s = s') (hw : WayIn next.length s' es') : FWInv next tgt ⟨s', es', q.g - 1⟩ ∧ q.g - 1 < q.g := by
  have hne : q.s.way ≠ [] := fun e => by rw [e] at hp; simp at hp
  have h1 := dstep_mu h.ok hne
  have h2 := h.gas
  have h3 := dstep_ok h.ok
  rw [he] at h1 h3
  refine ⟨⟨h3, hw, by show dmu next s' < q.g - 1; omega, ?_⟩, by omega⟩
  obtain ⟨g, hg⟩ : ∃ g, q.g = g + 1 := ⟨q.g - 1, by omega⟩
  have h4 := h.tgt
  rw [hg, drun_step hne, he] at h4
  rw [hg]; exact h4
theorem FWInv.done {next : List (List Int)} {tgt : DS} {q : FW} (h : FWInv next tgt q) (hn : q.s.way = []) : q.s = tgt := by
  have := h.tgt
  rwa [drun_end hn] at this
def iget (l : List Int) (z : Int) : Int := (l[z.toNat]?).getD 0
def iset (l : List Int) (z v : Int) : List Int := l.set z.toNat v
def bump (w : List Int) (k : Int) : List Int := iset w k (iget w k + 1)
def waysAt (next : List (List Int)) (reach : List Bool) : Nat → List Int
  | 0 => List.replicate next.length 0
  | k + 1 => bif (reach[k]?).getD false then ((next[k]?).getD []).foldl bump (waysAt next reach k) else waysAt next reach k
def waysF (next : List (List Int)) (reach : List Bool) : List Int := waysAt next reach next.length
def takeOf (next : List (List Int)) (reach : List Bool) (i : Nat) (b : Block) : Int :=
  bif (reach[i]?).getD false && (b.fin == 1 && (b.to != 0 && (b.to != (i : Int) && iget (waysF next reach) b.to == 1))) then b.to else -1
def BFunc.takes (f : BFunc) (reach : List Bool) : List Int := f.blocks.zipIdx.map fun p => takeOf f.nexts reach p.2 p.1
def BFunc.takenAt (f : BFunc) (reach : List Bool) : Nat → List Bool
  | 0 => List.replicate f.blocks.length false
  | k + 1 => match f.blocks[k]? with
    | some b => bif takeOf f.nexts reach k b == -1 then f.takenAt reach k else (f.takenAt reach k).set b.to.toNat true
    | none => f.takenAt reach k
def BFunc.leads (f : BFunc) : Prop := ∀ l ∈ f.nexts, ∀ k ∈ l, 0 ≤ k ∧ k < f.blocks.length
def chain (takes : List Int) : Nat → Int → List Int
  | 0, _ => []
  | g + 1, c => bif iget takes c == -1 then [] else iget takes c :: chain takes g (iget takes c)
def ends (takes : List Int) : Nat → Int → Bool
  | 0, c => iget takes c == -1
  | g + 1, c => iget takes c == -1 || ends takes g (iget takes c)
structure FG2 where
  c : Int
  acc : List Int
  g : Nat
structure FInv2 (takes : List Int) (tgt : List Int) (q : FG2) : Prop where
  c : 0 ≤ q.c ∧ q.c < takes.length
  len : q.acc.length + q.g ≤ takes.length + 1
  fin : ends takes q.g q.c = true
  tgt : q.acc ++ chain takes q.g q.c = tgt
theorem FInv2.next {takes : List Int} {tgt : List Int} {q : FG2} (hin : ∀ v ∈ takes, v = -1 ∨ (0 ≤ v ∧ v < takes.length)) (h : FInv2 takes tgt q) (hc : (iget takes q.c != -1) = true) :
    FInv2 takes tgt ⟨iget takes q.c, q.acc ++ [iget takes q.c], q.g - 1⟩ ∧ q.g - 1 < q.g := by
  have hne : (iget takes q.c == -1) = false := by simpa [bne] using hc
  obtain ⟨v, hv⟩ := get_of_lt (l := takes) (k := q.c.toNat) (by have := h.c; omega)
  have hi : iget takes q.c = v := by simp [iget, hv]
  have hlen := h.len
  have hfin := h.fin
  have htgt := h.tgt
  obtain ⟨g, hg⟩ : ∃ g, q.g = g + 1 := by
    cases e : q.g with
    | zero => rw [e] at hfin; simp only [ends, hne] at hfin; cases hfin
    | succ g => exact ⟨g, rfl⟩
  rw [hg] at hfin htgt hlen
  simp only [ends, chain, hne, Bool.false_or, cond_false] at hfin htgt
  rw [hg]
  refine ⟨⟨?_, ?_, hfin, ?_⟩, by simp⟩
  · rcases hin v (List.mem_of_getElem? hv) with e | e
    · rw [hi, e] at hne; simp at hne
    · rw [hi]; exact e
  · simp only [List.length_append, List.length_cons, List.length_nil]
    show q.acc.length + 1 + g ≤ _
    omega
  · show (q.acc ++ [iget takes q.c]) ++ chain takes g (iget takes q.c) = tgt
    rw [List.append_assoc]; exact htgt
theorem FInv2.done {takes : List Int} {tgt : List Int} {q : FG2} (h : FInv2 takes tgt q) (hc : (iget takes q.c != -1) = false) : q.acc = tgt := by
  have hne : (iget takes q.c == -1) = true := by simpa [bne] using hc
  have htgt := h.tgt
  cases e : q.g with
  | zero => rw [e] at htgt; simpa [chain] using htgt
  | succ g => rw [e] at htgt; simpa [chain, hne] using htgt
def BFunc.headOf (f : BFunc) (k : Nat) : Bool := (f.reach[k]?).getD false && !((f.takenAt f.reach f.blocks.length)[k]?).getD false
def BFunc.tk (f : BFunc) : List Int := f.takes f.reach
def BFunc.blockAt (f : BFunc) (i : Int) : Block := (f.blocks[i.toNat]?).getD ⟨[], 0, 0, 0, 0⟩
def lastOf (p : List Int) : Int := p.getLast?.getD 0
def BFunc.joined (f : BFunc) (p : List Int) : List Tac := p.flatMap fun i => (f.blockAt i).ins
def inF (n : Nat) (p : List Int) : Prop := p ≠ [] ∧ ∀ i ∈ p, 0 ≤ i ∧ i < n
structure BFunc.tame (f : BFunc) : Prop where
  mild : f.blocks.length ≤ 1000
  ins : ∀ x ∈ f.blocks, x.ins.length ≤ 10000
  leads : f.leads
  ends : ∀ k, f.headOf k = true → ends f.tk f.tk.length k = true
section
variable {P : Program} {T : Nat → Option TyI} {o : Oper} {e : AEnv} {h : AHeap}
end
def okAt (f : BFunc) (p : List Int) (j : Nat) : Bool := (f.blockAt (iget p j)).fin == 1 && (f.blockAt (iget p j)).to == iget p ((j + 1 : Nat) : Int)
def followsB (f : BFunc) (p : List Int) : Bool := (List.range (p.length - 1)).all (okAt f p)
def madeR (f : BFunc) : List Tac → List Int → Bool
  | rest, [] => rest.isEmpty
  | rest, i :: r => decide ((f.blockAt i).ins.length ≤ rest.length) && (decide (rest.take (f.blockAt i).ins.length = (f.blockAt i).ins) && madeR f (rest.drop (f.blockAt i).ins.length) r)
def headZ (p : List Int) : Int := p.head?.getD 0
def pathK (paths : List (List Int)) (k : Int) : List Int := (paths[k.toNat]?).getD []
def beginsB (paths : List (List Int)) (k i : Int) : Bool := decide (k ≥ 0) && (decide (k < paths.length) && headZ (pathK paths k) == i)
def leadsTo (last b : Block) (paths : List (List Int)) : Bool := bif b.fin == 1 || b.fin == 2 then beginsB paths b.to last.to else b.to == last.to
def leadsEl (last b : Block) (paths : List (List Int)) : Bool := bif b.fin == 2 then beginsB paths b.els last.els else b.els == last.els
def leadsB (last b : Block) (paths : List (List Int)) : Bool := !(b.fin != last.fin) && (!(b.v != last.v) && (leadsTo last b paths && leadsEl last b paths))
def pathIn (n : Nat) (p : List Int) : Bool := !(p.length == 0) && p.all (fun i => !(decide (i < 0)) && !(decide (i ≥ n)))
def stepB (old new : BFunc) (paths : List (List Int)) (q : List Int × Nat) : Bool := followsB old q.1 && (madeR old (new.blockAt q.2).ins q.1 && leadsB (old.blockAt (lastOf q.1)) (new.blockAt q.2) paths)
def checkB (old new : BFunc) (paths : List (List Int)) : Bool :=
  !(paths.length == 0) && (!(paths.length != new.blocks.length) && (!(old.regs != new.regs) && (paths.all (pathIn old.blocks.length) && (!(headZ (pathK paths 0) != 0) && paths.zipIdx.all (stepB old new paths)))))
theorem pathK_get {paths : List (List Int)} {k : Int} (h : 0 ≤ k ∧ k < paths.length) : paths[k.toNat]? = some (pathK paths k) := by
  obtain ⟨x, hx⟩ := get_of_lt (l := paths) (k := k.toNat) (by omega)
  rw [pathK, hx]; rfl
structure MG where
  k : Nat
  rest : List Tac
section
variable {P : Program} {T : Nat → Option TyI} {o : Oper} {e : AEnv} {h : AHeap}
end
section
variable {P : Program} {T : Nat → Option TyI} {o : Oper} {e : AEnv} {h : AHeap}
end
theorem BFunc.Ok.tight {f : BFunc} (h : f.Ok) : f.tight := fun x hx => by
  have := (h.blocks x hx).len
  simp only [reachBytes] at this
  show x.ins.length ≤ big
  simp only [big]; omega
def pathsOk (l : List (List Int)) : Prop := l.length * 24 ≤ reachBytes ∧ ∀ p ∈ l, p.length * 8 ≤ reachBytes
theorem pathsOk.len {l : List (List Int)} (h : pathsOk l) : l.length ≤ 10000000000000 ∧ ∀ p ∈ l, p.length ≤ big := by
  have h1 := h.1
  simp only [reachBytes] at h1
  refine ⟨?_, fun p hp => ?_⟩
  · have : l.length * 24 ≤ 140737488351232 := h1
    by_cases e : l.length ≤ 10000000000000
    · exact e
    · exfalso; omega
  · have h2 := h.2 p hp
    simp only [reachBytes] at h2
    simp only [big]; omega
def fol (f : BFunc) : List Int → Prop
  | i :: j :: r => (f.blockAt i).fin = 1 ∧ (f.blockAt i).to = j ∧ fol f (j :: r)
  | _ => True
structure Holds (old new : BFunc) (paths : List (List Int)) : Prop where
  ne : paths.length ≠ 0
  len : paths.length = new.blocks.length
  regs : old.regs = new.regs
  all : ∀ p ∈ paths, inF old.blocks.length p
  head : headZ (pathK paths 0) = 0
  fol : ∀ (k : Nat) (p : List Int), paths[k]? = some p → fol old p
  ins : ∀ (k : Nat) (p : List Int), paths[k]? = some p → (new.blockAt k).ins = old.joined p
  leads : ∀ (k : Nat) (p : List Int), paths[k]? = some p → leadsB (old.blockAt (lastOf p)) (new.blockAt k) paths = true
section
variable {A B C : BFunc} {P Q : List (List Int)}
theorem Holds.at_ (h : Holds A B P) {i : Int} (hi : 0 ≤ i ∧ i < P.length) : inF A.blocks.length (pathK P i) ∧ Sv.fol A (pathK P i) ∧ (B.blockAt i).ins = A.joined (pathK P i) ∧ leadsB (A.blockAt (lastOf (pathK P i))) (B.blockAt i) P = true := by
  have hg := pathK_get hi
  have e : (((i.toNat : Nat)) : Int) = i := Int.toNat_of_nonneg hi.1
  have h1 := h.ins _ _ hg
  have h2 := h.leads _ _ hg
  rw [e] at h1 h2
  exact ⟨h.all _ (List.mem_of_getElem? hg), h.fol _ _ hg, h1, h2⟩
end
section
variable {call call' : Int → Mach → Mach} {s : ByteArray} {fuel : Int}
variable {ok : Int → Prop} {old new : BFunc}
end
def Blocks.put (b : Blocks) (f : BFunc) : Blocks := ⟨b.words, b.funcs.set (b.funcs.length - 1) f⟩
def Mach.tick (m : Mach) : Mach := { m with steps := m.steps + 1 }
def kblk (call : Int → Mach → Mach) (s : ByteArray) (f : BFunc) : Nat → Int → List Int → Mach → Mach
  | 0, _, _, m => { m with fin := 5 }
  | g + 1, i, regs, m =>
    match f.blocks[i.toNat]? with
    | none => m
    | some k => bif (kins call s k.ins regs m.tick).1 && !(k.fin == 3) then kblk call s f g (k.next (kins call s k.ins regs m.tick).2.1) (kins call s k.ins regs m.tick).2.1 (kins call s k.ins regs m.tick).2.2 else (kins call s k.ins regs m.tick).2.2
def insT (l : List Tac) : Prop := ∀ t ∈ l, (1 ≤ t.op ∧ t.op ≤ 10) ∧ (t.op = 3 → 4 ≤ t.k ∧ t.k ≤ 15)
def BFunc.tops (f : BFunc) : Prop := ∀ x ∈ f.blocks, insT x.ins
structure Checked2 (old new : BFunc) (c : Cert) : Prop where
  g : GCheck old new c
  so : Standing old
  sn : Standing new
  to : old.tops
  tn : new.tops
section
variable {call call' : Int → Mach → Mach} {s : ByteArray} {ok : Int → Prop}
variable {old new : BFunc} {c : Cert}
end
def okT : Int → Prop := fun _ => True
theorem Mach.Le.tick {x y : Mach} (h : x.Le y) : x.tick.Le y.tick := ⟨h.words, h.out, h.read, h.fin, Nat.succ_le_succ h.steps⟩
section
variable {call call' : Int → Mach → Mach} {s : ByteArray}
variable {old new : BFunc}
end
def FSq (f g : BFunc) : Prop := ∀ (call : Int → Mach → Mach) (s : ByteArray) (G : Nat), callsSim call call okT → ∀ m m', m.fin = 0 → m.Le m' →
  (kblk call s f G 0 (List.replicate f.regs.toNat 0) m).Sim (kblk call s g G 0 (List.replicate g.regs.toNat 0) m')
theorem FSq.trans {f g h : BFunc} (h1 : FSq f g) (h2 : FSq g h) : FSq f h := fun call s G hc m m' h0 hl => (h1 call s G hc m m' h0 hl).trans (h2 call s G hc m' m' (hl.fin.trans h0) (Mach.Le.refl _))
structure PS (b c : Blocks) : Prop where
  words : b.words = c.words
  len : b.funcs.length = c.funcs.length
  each : ∀ (i : Nat) (f g : BFunc), b.funcs[i]? = some f → c.funcs[i]? = some g → FSq f g
section
variable {call call' : Int → Mach → Mach} {s : ByteArray} {fuel : Int}
end
structure BLe (K d : Nat) (x y : Mach) : Prop where
  words : y.words = x.words
  out : y.out = x.out
  read : y.read = x.read
  fin : y.fin = x.fin
  steps : y.steps + d ≤ K * x.steps
section
variable {call call' : Int → Mach → Mach} {s : ByteArray} {fuel : Int} {K : Nat}
end
structure OPass where
  kind : Int
  cert : Cert
  paths : List (List Int)
  f : BFunc
def OPass.holds (p : OPass) (f : BFunc) : Bool :=
  bif p.kind == 4 then p.cert.same.isEmpty && checkB f p.f p.paths else decide (1 ≤ p.kind ∧ p.kind ≤ 4) && (p.paths.isEmpty && vcheck f p.f p.cert)
def leadsL : BFunc → BFunc → List OPass → Bool
  | f, g, [] => decide (f = g)
  | f, g, p :: r => p.holds f && leadsL p.f g r
def leadsAll : List BFunc → List BFunc → List (List OPass) → Bool
  | f :: fs, g :: gs, l :: ls => leadsL f g l && leadsAll fs gs ls
  | _, _, _ => true
def ocheck (old new : Blocks) (l : List (List OPass)) : Bool :=
  old.right && (new.right && (decide (old.words = new.words) && (decide (old.funcs.length = new.funcs.length) && (decide (l.length = old.funcs.length) && leadsAll old.funcs new.funcs l))))
theorem ocheck_spec {old new : Blocks} {l : List (List OPass)} (h : ocheck old new l = true) : old.right = true ∧ new.right = true ∧ old.words = new.words ∧ old.funcs.length = new.funcs.length ∧ l.length = old.funcs.length ∧ leadsAll old.funcs new.funcs l = true := by
  simpa [ocheck] using h
theorem ocheck_of {old new : Blocks} {l : List (List OPass)} (h1 : old.right = true) (h2 : new.right = true) (h3 : old.words = new.words) (h4 : old.funcs.length = new.funcs.length) (h5 : l.length = old.funcs.length) (h6 : leadsAll old.funcs new.funcs l = true) : ocheck old new l = true := by
  simp [ocheck, h1, h2, h3, h4, h5, h6]
theorem leadsAll_get : ∀ {fs gs : List BFunc} {ls : List (List OPass)}, leadsAll fs gs ls = true → ∀ {i : Nat} {f g : BFunc} {l : List OPass}, fs[i]? = some f → gs[i]? = some g → ls[i]? = some l → leadsL f g l = true
  | f :: fs, g :: gs, l :: ls, h, 0, _, _, _, h1, h2, h3 => by
    simp only [leadsAll, Bool.and_eq_true] at h
    simp at h1 h2 h3
    subst h1; subst h2; subst h3; exact h.1
  | f :: fs, g :: gs, l :: ls, h, i + 1, _, _, _, h1, h2, h3 => by
    simp only [leadsAll, Bool.and_eq_true] at h
    exact leadsAll_get h.2 (by simpa using h1) (by simpa using h2) (by simpa using h3)
  | [], _, _, _, _, _, _, _, h1, _, _ => by simp at h1
  | _ :: _, [], _, _, _, _, _, _, _, h2, _ => by simp at h2
  | _ :: _, _ :: _, [], _, _, _, _, _, _, _, h3 => by simp at h3
theorem leadsAll_of : ∀ {fs gs : List BFunc} {ls : List (List OPass)}, (∀ (i : Nat) (f g : BFunc) (l : List OPass), fs[i]? = some f → gs[i]? = some g → ls[i]? = some l → leadsL f g l = true) → leadsAll fs gs ls = true
  | f :: fs, g :: gs, l :: ls, h => by
    simp only [leadsAll, Bool.and_eq_true]
    exact ⟨h 0 f g l rfl rfl rfl, leadsAll_of fun i a b c h1 h2 h3 => h (i + 1) a b c (by simpa using h1) (by simpa using h2) (by simpa using h3)⟩
  | [], _, _, _ => by unfold leadsAll; rfl
  | _ :: _, [], _, _ => by unfold leadsAll; rfl
  | _ :: _, _ :: _, [], _ => by unfold leadsAll; rfl
theorem ocheck_none {a b : Blocks} (ha : a.right = true) (hb : b.right = true) : ocheck a b (List.replicate a.funcs.length []) = decide (a = b) := by
  rw [Bool.eq_iff_iff, decide_eq_true_eq]
  constructor
  · intro h
    obtain ⟨_, _, h3, h4, h5, h6⟩ := ocheck_spec h
    have : a.funcs = b.funcs := by
      apply List.ext_getElem? 
      intro i
      by_cases hi : i < a.funcs.length
      · obtain ⟨f, hf⟩ := get_of_lt hi
        obtain ⟨g, hg⟩ := get_of_lt (l := b.funcs) (k := i) (by omega)
        have := leadsAll_get h6 hf hg (l := []) (by rw [List.getElem?_replicate]; simp [hi])
        rw [hf, hg]
        simpa [leadsL] using this
      · rw [List.getElem?_eq_none_iff.2 (by omega), List.getElem?_eq_none_iff.2 (by omega)]
    obtain ⟨w, fs⟩ := a
    obtain ⟨w', fs'⟩ := b
    simp only at h3 this
    rw [h3, this]
  · rintro rfl
    refine ocheck_of ha ha rfl rfl (by simp) (leadsAll_of fun i f g x hf hg hx => ?_)
    rw [hf] at hg
    obtain rfl := Option.some.inj hg
    rw [List.getElem?_replicate] at hx
    split at hx
    · obtain rfl := Option.some.inj hx
      simp [leadsL]
    · cases hx
def readsN (op : Int) : Int := bif use1 op then 1 else bif use2 op then 2 else 0
def Tac.rest2 (t : Tac) (f words : Int) : Bool :=
  !((t.op != 1 && t.n != 0) || (t.op != 3 && t.k != 0)) && (!(!arrOp t.op && t.size != 0) &&
  (bif t.op == 1 || (t.op == 2 || (t.op == 8 || t.op == 9)) then t.base == 0
   else bif t.op == 3 then t.base == 0 && (decide (t.k ≥ 4) && decide (t.k ≤ 15))
   else bif t.op == 4 || t.op == 5 then decide (t.base ≥ 0) && decide (t.base < words)
   else bif t.op == 6 || t.op == 7 then decide (t.size ≥ 1) && (decide (t.size ≤ 4096) && (decide (t.base ≥ 0) && decide (t.base ≤ words - t.size)))
   else bif t.op == 10 then decide (t.base ≥ 0) && decide (t.base < f) else false))
def Tac.ins2 (t : Tac) (f regs words : Int) : Bool :=
  (bif setsOp t.op then within t.d regs else t.d == 0) &&
  ((bif use1 t.op then within t.a regs && t.b == 0 else bif use2 t.op then within t.a regs && within t.b regs else t.a == 0 && t.b == 0) &&
   t.rest2 f words)
theorem op_cases {op : Int} (h1 : 1 ≤ op) (h2 : op ≤ 10) : op = 1 ∨ op = 2 ∨ op = 3 ∨ op = 4 ∨ op = 5 ∨ op = 6 ∨ op = 7 ∨ op = 8 ∨ op = 9 ∨ op = 10 := by omega
theorem ins2_fits (t : Tac) (f regs words : Int) : t.ins2 f regs words = t.fits f regs words := by
  by_cases h : 1 ≤ t.op ∧ t.op ≤ 10
  · obtain ⟨op, d, a, b, k, base, size, n⟩ := t
    rw [Bool.eq_iff_iff]
    rcases op_cases h.1 h.2 with e | e | e | e | e | e | e | e | e | e <;> (simp only at e; subst e; simp [Tac.ins2, Tac.fits, Tac.rest2, Tac.rest, Tac.same, Tac.want, Tac.uses, setsOp, use1, use2, baseOp, arrOp, within]) <;> (try omega) <;> (constructor <;> (intro h; simp [h]; try omega))
  · rw [fits_op h]
    have h1 : (t.op == 1) = false := (by rw [beq_eq_false_iff_ne]; omega)
    have h2 : (t.op == 2) = false := (by rw [beq_eq_false_iff_ne]; omega)
    have h3 : (t.op == 3) = false := (by rw [beq_eq_false_iff_ne]; omega)
    have h4 : (t.op == 4) = false := (by rw [beq_eq_false_iff_ne]; omega)
    have h5 : (t.op == 5) = false := (by rw [beq_eq_false_iff_ne]; omega)
    have h6 : (t.op == 6) = false := (by rw [beq_eq_false_iff_ne]; omega)
    have h7 : (t.op == 7) = false := (by rw [beq_eq_false_iff_ne]; omega)
    have h8 : (t.op == 8) = false := (by rw [beq_eq_false_iff_ne]; omega)
    have h9 : (t.op == 9) = false := (by rw [beq_eq_false_iff_ne]; omega)
    have h10 : (t.op == 10) = false := (by rw [beq_eq_false_iff_ne]; omega)
    simp [Tac.ins2, Tac.rest2, h1, h2, h3, h4, h5, h6, h7, h8, h9, h10]
theorem reads1 {op : Int} (h : readsN op = 1) : use1 op = true := by
  unfold readsN at h
  cases e : use1 op <;> cases e2 : use2 op <;> simp_all
theorem reads2 {op : Int} (h : readsN op = 2) : use1 op = false ∧ use2 op = true := by
  unfold readsN at h
  cases e : use1 op <;> cases e2 : use2 op <;> simp_all
theorem reads0 {op : Int} (h : readsN op = 0) : use1 op = false ∧ use2 op = false := by
  unfold readsN at h
  cases e : use1 op <;> cases e2 : use2 op <;> simp_all
theorem readsN_or (op : Int) : readsN op = 0 ∨ readsN op = 1 ∨ readsN op = 2 := by
  unfold readsN
  cases e : use1 op <;> cases e2 : use2 op <;> simp_all
def insSumB (l : List Block) : Nat := (l.map fun x => x.ins.length).sum
theorem insSumB_succ {l : List Block} {k : Nat} {x : Block} (h : l[k]? = some x) : insSumB (l.take (k + 1)) = insSumB (l.take k) + x.ins.length := by
  rw [insSumB, take_succ_eq h]; simp [insSumB]
theorem sum_take_le {α : Type} {l : List α} {p : α → Nat} {k : Nat} : ((l.take k).map p).sum ≤ (l.map p).sum := by
  conv => rhs; rw [← List.take_append_drop k l]
  rw [List.map_append, List.sum_append]; omega
theorem insSumB_take {l : List Block} {k : Nat} : insSumB (l.take k) ≤ insSumB l := sum_take_le
theorem count_sum (l : List Block) : (l.map Block.count).sum = l.length + insSumB l := by
  induction l with
  | nil => rfl
  | cons x l ih => simp only [List.map_cons, List.sum_cons, ih, List.length_cons, insSumB, Block.count]; omega
theorem count_split (f : BFunc) : f.count = f.blocks.length + insSumB f.blocks := count_sum f.blocks
theorem Block.ext5 {x y : Block} (h1 : x.fin = y.fin) (h2 : x.v = y.v) (h3 : x.to = y.to) (h4 : x.els = y.els) (h5 : x.ins = y.ins) : x = y := by
  cases x; cases y; simp_all
theorem Blocks.ext' {x y : Blocks} (h1 : x.words = y.words) (h2 : x.funcs = y.funcs) : x = y := by
  cases x; cases y; simp_all
def OPass.cells (p : OPass) : List AV := [.int .i64 p.kind, rowsAV p.cert.same, pathsAV p.paths, .int .i64 p.f.regs, blocksAV p.f.blocks]
def passesAV (l : List OPass) : AV := .lst false (l.map OPass.cells)
def listAV (ls : List (List OPass)) : AV := .lst false (ls.map fun l => [passesAV l])
structure Blocks.Lim (b : Blocks) : Prop where
  n : b.funcs.length ≤ 1048576
  c : b.count ≤ 1048576
structure BFunc.Lim (f : BFunc) : Prop where
  n : f.blocks.length ≤ 1048576
  c : ∀ x ∈ f.blocks, x.ins.length ≤ 1048576
theorem BFunc.lim_of {f : BFunc} (h : f.count ≤ 1048576) : f.Lim := by
  refine ⟨by have := count_split f; omega, fun x hx => ?_⟩
  have : x.count ≤ f.count := le_sum hx
  simp only [Block.count] at this
  omega
theorem Blocks.Lim.f {b : Blocks} (h : b.Lim) {f : BFunc} (hf : f ∈ b.funcs) : f.Lim := BFunc.lim_of (Nat.le_trans (le_sum hf) h.c)
theorem BFunc.Lim.big {f : BFunc} (h : f.Lim) : f.blocks.length ≤ 1000000000000000 ∧ ∀ x ∈ f.blocks, x.ins.length ≤ 1000000000000000 :=
  ⟨Nat.le_trans h.n (by decide), fun x hx => Nat.le_trans (h.c x hx) (by decide)⟩
theorem Blocks.Lim.big0 {b : Blocks} (h : b.Lim) : b.funcs.length ≤ 1000000000000000 := Nat.le_trans h.n (by decide)
theorem Blocks.Lim.big1 {b : Blocks} (h : b.Lim) : ∀ f ∈ b.funcs, f.blocks.length ≤ 1000000000000000 ∧ ∀ x ∈ f.blocks, x.ins.length ≤ 1000000000000000 := fun f hf => (h.f hf).big
def low35 (f : BFunc) : Bool := decide (f.regs ≤ 30)
def small35 (b : Blocks) : Bool := decide (b.funcs.length ≤ 6) && (decide (b.words ≤ 400) && (b.right && (decide (b.count ≤ 200) && b.funcs.all low35)))
structure Small35 (b : Blocks) : Prop where
  n : b.funcs.length ≤ 6
  w : b.words ≤ 400
  r : b.right = true
  c : b.count ≤ 200
  g : ∀ f ∈ b.funcs, f.regs ≤ 30
theorem small35_of {b : Blocks} (h : small35 b = true) : Small35 b := by
  simp only [small35, Bool.and_eq_true, decide_eq_true_eq] at h
  exact ⟨h.1, h.2.1, h.2.2.1, h.2.2.2.1, fun f hf => of_decide_eq_true (List.all_eq_true.1 h.2.2.2.2 f hf)⟩
theorem low_take {l : List BFunc} {k : Nat} {f : BFunc} (h : l[k]? = some f) (h1 : (l.take k).all low35 = true) (h2 : f.regs ≤ 30) : (l.take (k + 1)).all low35 = true := by
  rw [List.take_add_one, h, List.all_append, h1]
  simp [low35, h2]
theorem low_no {l : List BFunc} {f : BFunc} (h : f ∈ l) (h2 : ¬ f.regs ≤ 30) : l.all low35 = false := by
  rw [Bool.eq_false_iff]
  intro e
  exact h2 (of_decide_eq_true (List.all_eq_true.1 e f h))
def psOf (G : BFunc → Int → OPass) : List Int → BFunc → List OPass
  | [], _ => []
  | k :: r, f => G f k :: psOf G r (G f k).f
def fOf (G : BFunc → Int → OPass) : List Int → BFunc → BFunc
  | [], f => f
  | k :: r, f => fOf G r (G f k).f
theorem psOf_len (G : BFunc → Int → OPass) : ∀ (ks : List Int) (f : BFunc), (psOf G ks f).length = ks.length
  | [], _ => rfl
  | k :: r, f => congrArg (· + 1) (psOf_len G r _)
theorem psOf_get {G : BFunc → Int → OPass} : ∀ {ks : List Int} {f : BFunc} {j : Nat} {k : Int}, ks[j]? = some k → (psOf G ks f)[j]? = some (G (fOf G (ks.take j) f) k)
  | a :: r, f, 0, k, h => by simp at h; subst h; rfl
  | a :: r, f, j + 1, k, h => by
    show (psOf G r (G f a).f)[j]? = _
    exact psOf_get (ks := r) (by simpa using h)
theorem fOf_succ {G : BFunc → Int → OPass} : ∀ {ks : List Int} {f : BFunc} {j : Nat} {k : Int}, ks[j]? = some k → fOf G (ks.take (j + 1)) f = (G (fOf G (ks.take j) f) k).f
  | a :: r, f, 0, k, h => by simp at h; subst h; simp [fOf]
  | a :: r, f, j + 1, k, h => by
    show fOf G (r.take (j + 1)) (G f a).f = _
    exact fOf_succ (ks := r) (by simpa using h)
def kind35 (k : Int) : Bool := decide (1 ≤ k ∧ k ≤ 4)
theorem leadsAll_no {fs gs : List BFunc} {ls : List (List OPass)} {i : Nat} {f g : BFunc} {l : List OPass} (hf : fs[i]? = some f) (hg : gs[i]? = some g) (hl : ls[i]? = some l) (h : leadsL f g l = false) : leadsAll fs gs ls = false := by
  rw [Bool.eq_false_iff]
  intro e
  rw [leadsAll_get e hf hg hl] at h
  cases h
def ledTo (fs gs : List BFunc) (ls : List (List OPass)) (k : Nat) : Prop := ∀ i, i < k → ∀ f g l, fs[i]? = some f → gs[i]? = some g → ls[i]? = some l → leadsL f g l = true
theorem ledTo_succ {fs gs : List BFunc} {ls : List (List OPass)} {k : Nat} {f g : BFunc} {l : List OPass} (h : ledTo fs gs ls k) (hf : fs[k]? = some f) (hg : gs[k]? = some g) (hl : ls[k]? = some l) (e : leadsL f g l = true) : ledTo fs gs ls (k + 1) := fun i hi a b c ha hb hc => by
  rcases Nat.lt_or_ge i k with h1 | h1
  · exact h i h1 a b c ha hb hc
  · obtain rfl : i = k := by omega
    rw [hf] at ha; rw [hg] at hb; rw [hl] at hc
    cases ha; cases hb; cases hc
    exact e
theorem ledTo_end {fs gs : List BFunc} {ls : List (List OPass)} {k : Nat} (h : ledTo fs gs ls k) (hk : fs.length ≤ k) : leadsAll fs gs ls = true := leadsAll_of fun i f g l hf hg hl => h i (by have := (List.getElem?_eq_some_iff.1 hf).1; omega) f g l hf hg hl
def atP (f : BFunc) : List OPass → BFunc
  | [] => f
  | p :: r => atP p.f r
theorem atP_snoc (p : OPass) : ∀ (l : List OPass) (f : BFunc), atP f (l ++ [p]) = p.f
  | [], f => rfl
  | a :: l, f => atP_snoc p l a.f
theorem atP_succ {l : List OPass} {k : Nat} {p : OPass} (f : BFunc) (h : l[k]? = some p) : atP f (l.take (k + 1)) = p.f := by
  rw [List.take_add_one, h]; exact atP_snoc p _ f
theorem leadsL_app {g : BFunc} (m : List OPass) : ∀ (l : List OPass) (f : BFunc), leadsL f g (l ++ m) = (leadsL f (atP f l) l && leadsL (atP f l) g m)
  | [], f => by simp [leadsL, atP]
  | a :: l, f => by
    show (a.holds f && leadsL a.f g (l ++ m)) = _
    rw [leadsL_app m l a.f]
    show _ = ((a.holds f && leadsL a.f (atP a.f l) l) && leadsL (atP a.f l) g m)
    rw [Bool.and_assoc]
theorem leadsL_at {f g : BFunc} {l : List OPass} {k : Nat} {p : OPass} (h : l[k]? = some p) (hP : leadsL f (atP f (l.take k)) (l.take k) = true) : leadsL f g l = (p.holds (atP f (l.take k)) && leadsL p.f g (l.drop (k + 1))) := by
  have e : l = l.take k ++ (p :: l.drop (k + 1)) := by
    conv => lhs; rw [← List.take_append_drop k l]
    rw [List.drop_eq_getElem_cons (List.getElem?_eq_some_iff.1 h).1, (List.getElem?_eq_some_iff.1 h).2]
  conv => lhs; rw [e]
  rw [leadsL_app, hP]
  simp [leadsL]
theorem leadsL_succ {f : BFunc} {l : List OPass} {k : Nat} {p : OPass} (h : l[k]? = some p) (hP : leadsL f (atP f (l.take k)) (l.take k) = true) (e : p.holds (atP f (l.take k)) = true) : leadsL f (atP f (l.take (k + 1))) (l.take (k + 1)) = true := by
  rw [atP_succ f h, List.take_add_one, h]
  show leadsL f p.f (l.take k ++ [p]) = true
  rw [leadsL_app, hP]
  simp [leadsL, e]
theorem leadsL_bad {f g : BFunc} {l : List OPass} {k : Nat} {p : OPass} (h : l[k]? = some p) (hP : leadsL f (atP f (l.take k)) (l.take k) = true) (e : p.holds (atP f (l.take k)) = false) : leadsL f g l = false := by
  rw [leadsL_at h hP, e, Bool.false_and]
theorem leadsL_end {f g : BFunc} {l : List OPass} (hP : leadsL f (atP f l) l = true) : leadsL f g l = decide (atP f l = g) := by
  have := leadsL_app (g := g) [] l f
  rw [List.append_nil, hP] at this
  rw [this]; simp [leadsL]
theorem holds_kind {p : OPass} {f : BFunc} (h : kind35 p.kind = false) : p.holds f = false := by
  unfold OPass.holds
  have h4 : (p.kind == 4) = false := by
    rw [beq_eq_false_iff_ne]
    intro e
    rw [e] at h
    simp [kind35] at h
  rw [h4, cond_false]
  rw [show decide (1 ≤ p.kind ∧ p.kind ≤ 4) = false from h, Bool.false_and]
end Go.Proofs.YtbbfelelocccmaaGreat.Sv

namespace Go.Proofs.YtbbfelelocccmaaGreat
open Go Go.ChangeShapes Go.WideShapes Go.ChangeAt Go.RowKit Sv
section
variable {H : Type} {enc : TypeId × Value → H} {P : Program} {W : World} {t e : TypeId}
theorem bulk_one (d : DataW H) : 1 ≤ Rows.uptoBulk d := by
  cases d with
  | lit l => cases l <;> simp [Rows.uptoBulk]
  | _ => simp [Rows.uptoBulk]
theorem bulk_part : ∀ {l : List (DataW H)} {i : Nat} {d : DataW H}, l[i]? = some d → Rows.uptoBulk d ≤ Rows.uptoBulkAll l
  | x :: l, 0, d, h => by simp at h; subst h; simp only [Rows.uptoBulkAll]; omega
  | x :: l, i + 1, d, h => by
    have := bulk_part (l := l) (i := i) (by simpa using h)
    simp only [Rows.uptoBulkAll]; omega
theorem bulk_sum : ∀ (l : List (DataW H)), (l.map Rows.uptoBulk).sum = Rows.uptoBulkAll l
  | [] => by simp [Rows.uptoBulkAll]
  | x :: l => by simp only [List.map_cons, List.sum_cons, Rows.uptoBulkAll, bulk_sum l]
def DecR (enc : TypeId × Value → H) (P : Program) (W : World) (t : TypeId) {α : Type} (f : α → List AV) (Q : α → Nat → Prop) : Prop :=
  ∀ (fuel : Nat) (cs : List Value) (x : DataW H × List MemPlace), DataW.trod enc P W 0 (fun _ => true) true fuel t cs = some x → (x.1.weights P t).all (· ≤ reachBytes) = true → ∃ a, Reads W cs (f a) ∧ Q a (Rows.uptoBulk x.1)
theorem DecR.of {α : Type} {f : α → List AV} {Q : α → Prop} (h : Dec enc P W t f Q) : DecR enc P W t f (fun a n => Q a ∧ 1 ≤ n) := fun fuel cs x hx hw => by
  obtain ⟨a, h1, h2⟩ := h fuel cs x hx hw
  exact ⟨a, h1, h2, bulk_one _⟩
theorem DecR.mono {α : Type} {f : α → List AV} {Q Q' : α → Nat → Prop} (h : DecR enc P W t f Q) (hq : ∀ a n, Q a n → Q' a n) : DecR enc P W t f Q' := fun fuel cs x hx hw => by
  obtain ⟨a, h1, h2⟩ := h fuel cs x hx hw
  exact ⟨a, h1, hq _ _ h2⟩
def PartsQ {α : Type} (Q : α → Nat → Prop) (l : List α) (n : Nat) : Prop := ∃ ns : List Nat, ns.length = l.length ∧ ns.sum + 1 ≤ n ∧ ∀ (i : Nat) (a : α) (m : Nat), l[i]? = some a → ns[i]? = some m → Q a m
theorem PartsQ.all {α : Type} {Q : α → Nat → Prop} {l : List α} {n : Nat} (h : PartsQ Q l n) : ∀ a ∈ l, ∃ m, Q a m ∧ m + 1 ≤ n := fun a ha => by
  obtain ⟨ns, h1, h2, h3⟩ := h
  obtain ⟨i, hi⟩ := List.getElem?_of_mem ha
  obtain ⟨m, hm⟩ := get_of_lt (l := ns) (k := i) (by have := (List.getElem?_eq_some_iff.1 hi).1; omega)
  have : m ≤ ns.sum := by
    have := le_sum (p := id) (List.mem_of_getElem? hm)
    simpa using this
  exact ⟨m, h3 i a m hi hm, by omega⟩
theorem sum_le_of {α : Type} {μ : α → Nat} : ∀ {l : List α} {ns : List Nat}, ns.length = l.length → (∀ (i : Nat) (a : α) (m : Nat), l[i]? = some a → ns[i]? = some m → μ a ≤ m) → (l.map μ).sum ≤ ns.sum
  | [], _, _, _ => by simp
  | a :: l, [], h, _ => by simp at h
  | a :: l, m :: ns, h, hq => by
    have h1 := hq 0 a m rfl rfl
    have h2 := sum_le_of (l := l) (ns := ns) (by simpa using h) fun i b k hb hk => hq (i + 1) b k (by simpa using hb) (by simpa using hk)
    simp only [List.map_cons, List.sum_cons]; omega
theorem PartsQ.sum {α : Type} {Q : α → Nat → Prop} {l : List α} {n : Nat} (h : PartsQ Q l n) (μ : α → Nat) (hμ : ∀ a m, Q a m → μ a ≤ m) : (l.map μ).sum + 1 ≤ n := by
  obtain ⟨ns, h1, h2, h3⟩ := h
  have := sum_le_of (μ := μ) h1 fun i a m ha hm => hμ a m (h3 i a m ha hm)
  omega
theorem sum_ones {α : Type} : ∀ (l : List α), (l.map fun _ => 1).sum = l.length
  | [] => rfl
  | a :: l => by simp only [List.map_cons, List.sum_cons, List.length_cons, sum_ones l]; omega
theorem PartsQ.len {α : Type} {Q : α → Nat → Prop} {l : List α} {n : Nat} (h : PartsQ Q l n) (h1 : ∀ a m, Q a m → 1 ≤ m) : l.length + 1 ≤ n := by
  have := h.sum (fun _ => 1) h1
  rwa [sum_ones] at this
theorem DecR.slice {α : Type} {f : α → List AV} {Q : α → Nat → Prop} (ht : P.underlying t = some (.slice e)) (hc : 0 < P.cellsOf e) (he : DecR enc P W e f Q) :
    DecR enc P W t (fun l : List α => [.lst false (l.map f)]) (fun l n => l.length * P.bytesOf e ≤ reachBytes ∧ PartsQ Q l n) := fun fuel cs x h hw => by
  rcases DataW.trod_slice ht h with ⟨rfl, rfl⟩ | ⟨a, len, cap, elems, rest, n, rfl, rfl, rfl, hb, hl, hm, hlen, hel, hsp, hns⟩
  · exact ⟨[], .one (.lst0 _ _ _ _ (fun h => by cases h) (Nat.zero_le _) (fun _ => rfl) trivial) rfl, by simp, [], rfl, by simpa using bulk_one _, fun i a m h => by simp at h⟩
  simp only [DataW.weights, ht, List.all_cons, List.all_append, Bool.and_eq_true, decide_eq_true_eq, List.length_map] at hw
  obtain ⟨w1, w2, w3⟩ := hw
  have key : ∀ i, i < len → ∃ y, ∃ cs', W.cells? 0 (a.add (i * P.cellsOf e)) (P.cellsOf e) = some cs' ∧ Reads W cs' (f y) ∧ ∃ d, (elems.map (·.1))[i]? = some d ∧ Q y (Rows.uptoBulk d) := fun i hi => by
    have h1 := hel i hi
    have hlt : i < elems.length := by omega
    rw [List.getElem?_eq_getElem hlt] at h1
    rw [Option.bind_eq_some_iff] at h1
    obtain ⟨cs', c1, c2⟩ := h1
    have hd : (elems.map (·.1))[i]? = some elems[i].1 := by rw [List.getElem?_map, List.getElem?_eq_getElem hlt]; rfl
    obtain ⟨y, y1, y2⟩ := he _ _ _ c2 (weightsAll_get w2 (i := i) hd)
    exact ⟨y, cs', c1, y1, _, hd, y2⟩
  obtain ⟨l, l1, l2⟩ := exists_list len key
  have hQ : PartsQ Q l (Rows.uptoBulk (.slice (elems.map (·.1)) (rest.map (·.1)))) := by
    refine ⟨(elems.map (·.1)).map Rows.uptoBulk, by simp [l1, hlen], ?_, fun i y m hy hm => ?_⟩
    · rw [bulk_sum]; simp only [Rows.uptoBulk]; omega
    · obtain ⟨cs', _, _, d, hd, q⟩ := l2 i y hy
      rw [List.getElem?_map, hd] at hm
      cases hm
      exact q
  have hbytes : l.length * P.bytesOf e ≤ reachBytes := by
    refine Nat.le_trans (Nat.mul_le_mul_right _ ?_) w1
    omega
  refine ⟨l, .one ?_ rfl, hbytes, hQ⟩
  by_cases h0 : len = 0
  · have : l = [] := List.length_eq_zero_iff.1 (by omega)
    subst this; subst h0
    exact .lst0 _ _ _ _ (fun h => by cases h) hm (fun h => by cases h) trivial
  · obtain ⟨y0, cs0, k1, k2, k3⟩ := key 0 (by omega)
    obtain ⟨_, m1, m2⟩ := World.cells?_some k1
    have hz : cs0[0]? = some cs0[0] := List.getElem?_eq_getElem (by omega)
    have hcell := m2 0 hc
    rw [hz] at hcell
    have ha0 : (a.add (0 * P.cellsOf e)).add 0 = a := by simp [Addr.add]
    rw [ha0] at hcell
    obtain ⟨c, hH, hspot, _⟩ := heapKnow_cell hcell
    obtain ⟨ab, ao, asp⟩ := a
    simp only at hspot hH
    subst hspot
    have hsz : ∀ (i : Nat) (xs : List AV), (l.map f)[i]? = some xs → xs.length = P.cellsOf e ∧ ∀ (j : Nat) (x : AV), xs[j]? = some x → ∃ v, c[ao + i * P.cellsOf e + j]? = some v ∧ Rel (heapKnow W) noLay x v ∧ x.cell1 = true := fun i xs hi => by
      rw [List.getElem?_map, Option.map_eq_some_iff] at hi
      obtain ⟨y, y1, rfl⟩ := hi
      obtain ⟨cs', c1, c2, c3⟩ := l2 i y y1
      obtain ⟨_, n1, n2⟩ := World.cells?_some c1
      refine ⟨by rw [c2.1, n1], fun j x hj => ?_⟩
      have hjlt : j < cs'.length := by rw [← c2.1]; exact (List.getElem?_eq_some_iff.1 hj).1
      have h3 := n2 j (by omega)
      rw [List.getElem?_eq_getElem hjlt, add_mk, add_mk] at h3
      obtain ⟨c', e1, _, e3⟩ := heapKnow_cell h3
      simp only at e1 e3
      rw [hH] at e1; cases e1
      obtain ⟨g1, g2⟩ := c2.2 j x _ hj (List.getElem?_eq_getElem hjlt)
      exact ⟨_, e3, g1, g2⟩
    have := Rel.lst (H := heapKnow W) noLay false (l.map f) ab ao cap (P.cellsOf e) c (fun i j => (c[ao + i * P.cellsOf e + j]?).getD undef) (fun hh => by rw [List.map_eq_nil_iff] at hh; subst hh; simp at l1; omega) hH
      (fun i xs hi => (hsz i xs hi).1) (fun i xs j x hi hj => by obtain ⟨v, v1, _⟩ := (hsz i xs hi).2 j x hj; rw [v1]; rfl)
      (fun i xs j x hi hj => by obtain ⟨v, v1, v2, _⟩ := (hsz i xs hi).2 j x hj; rw [v1]; exact v2) (fun i xs j x hi hj => by obtain ⟨v, v1, v2, v3⟩ := (hsz i xs hi).2 j x hj; exact v3) (fun h => by cases h) (by simp [l1]; exact hl) hm
    rw [List.length_map, l1] at this
    exact this
variable {T : Nat → Option TyI}
theorem DecR.slice' {α : Type} {f : α → List AV} {Q : α → Nat → Prop} {i j : TyI} {u : Nat} (hT : TOk P T) (hi : T t = some i) (hk : i.k = .slice u) (hj : T u = some j) (hp : 0 < j.size) (he : DecR enc P W u f Q) :
    DecR enc P W t (fun l : List α => [.lst false (l.map f)]) (fun l n => l.length * j.bytes ≤ reachBytes ∧ PartsQ Q l n) := by
  obtain ⟨info, d, e1, e2, e3, e4, e5, e6⟩ := tyOf_spec (hT _ _ hi)
  have hd := tk_slice (P := P) (d := d) (e3 ▸ hk)
  subst hd
  have := DecR.slice (enc := enc) (W := W) e2 (by rw [cellsOf_of hT hj]; exact hp) he
  rwa [bytesOf_of hT hj] at this
theorem struct_partsR {i : TyI} {fs : List (Nat × Nat)} (hT : TOk P T) (hi : T t = some i) (hk : i.k = .struct fs) {fuel : Nat} {cs : List Value} {x : DataW H × List MemPlace} (h : DataW.trod enc P W 0 (fun _ => true) true fuel t cs = some x) (hw : (x.1.weights P t).all (· ≤ reachBytes) = true) :
    cs.length = i.size ∧ ∀ (i off u : Nat), fs[i]? = some (off, u) → ∀ {α : Type} {f : α → List AV} {Q : α → Nat → Prop}, DecR enc P W u f Q → ∃ a, Reads W ((cs.drop off).take (P.cellsOf u)) (f a) ∧ ∃ m, m + 1 ≤ Rows.uptoBulk x.1 ∧ Q a m := by
  obtain ⟨info, d, e1, e2, e3, e4, e5, e6⟩ := tyOf_spec (hT _ _ hi)
  obtain ⟨A, rfl, rfl, _⟩ := tk_struct (P := P) (d := d) (e3 ▸ hk)
  obtain ⟨xs, n, rfl, rfl, hl, hxl, hx⟩ := DataW.trod_struct e2 h
  refine ⟨by rw [hl, cellsOf_of hT hi], fun j off u hj α f Q hd => ?_⟩
  rw [List.getElem?_map, Option.map_eq_some_iff] at hj
  obtain ⟨F, hF, hF2⟩ := hj
  simp only [Prod.mk.injEq] at hF2
  obtain ⟨rfl, rfl⟩ := hF2
  have hFa : A[j]? = some F := by simpa using hF
  have hjlt : j < xs.length := by rw [hxl]; exact (Array.getElem?_eq_some_iff.1 hFa).1
  have h1 := hx j F hFa
  rw [List.getElem?_eq_getElem hjlt] at h1
  simp only [DataW.weights, e2] at hw
  have hd2 : (xs.map (·.1))[j]? = some xs[j].1 := by rw [List.getElem?_map, List.getElem?_eq_getElem hjlt]; rfl
  obtain ⟨a, a1, a2⟩ := hd _ _ _ h1 (weightsEach_get hw (i := j) (by rw [List.getElem?_map, hF]; rfl) hd2)
  refine ⟨a, a1, _, ?_, a2⟩
  have := bulk_part hd2
  simp only [Rows.uptoBulk]; omega
theorem arg_oneR {α : Type} {f : α → List AV} {Q : α → Nat → Prop} {v : Value} {d : DataW H} {ps : List MemPlace} (h : DataW.Trod enc P W 0 (fun _ => true) true t v d ps) (hw : (d.weights P t).all (· ≤ reachBytes) = true) (hd : DecR enc P W t f Q) : ∃ a, Reads W v.cells.toList (f a) ∧ Q a (Rows.uptoBulk d) := by
  obtain ⟨fuel, hf⟩ := h
  exact hd _ _ _ hf hw
theorem upto_get {ds gs : List (DataW H)} {i : Nat} {d : DataW H} (h : Rows.uptoSmall H (ds ++ gs) = true) (hd : ds[i]? = some d) : Rows.uptoBulk d ≤ 1048576 := by
  have h1 : Rows.uptoBulkAll (ds ++ gs) ≤ 1048576 := of_decide_eq_true h
  have h2 := bulk_part (l := ds ++ gs) (i := i) (d := d) (by rw [List.getElem?_append_left (List.getElem?_eq_some_iff.1 hd).1]; exact hd)
  omega
end
section
variable {H : Type} {enc : TypeId × Value → H} {W : World}
theorem decBlockR : DecR enc Tryz.prog W 80 Block.cells (fun x n => x.Ok ∧ x.count ≤ n) := fun fuel cs x h hw => by
  obtain ⟨a, a1, a2⟩ := decBlock fuel cs x h hw
  obtain ⟨hl, hp⟩ := struct_partsR tok rfl rfl h hw
  obtain ⟨x0, a0, m0, b0, c0, d0⟩ := hp 0 _ _ rfl (DecR.slice' tok rfl rfl rfl (Nat.zero_lt_succ _) (DecR.of decTac))
  obtain ⟨x1, a1', _, _, b1, _⟩ := hp 1 _ _ rfl (DecR.of (Dec.int' tok rfl rfl))
  obtain ⟨x2, a2', _, _, b2, _⟩ := hp 2 _ _ rfl (DecR.of (Dec.int' tok rfl rfl))
  obtain ⟨x3, a3, _, _, b3, _⟩ := hp 3 _ _ rfl (DecR.of (Dec.int' tok rfl rfl))
  obtain ⟨x4, a4, _, _, b4, _⟩ := hp 4 _ _ rfl (DecR.of (Dec.int' tok rfl rfl))
  have k0 := app1 tok rfl rfl (Reads.nil W cs) a0 (Nat.zero_le _)
  have k1 := app1 tok rfl rfl k0 a1' (by rw [hl]; decide)
  have k2 := app1 tok rfl rfl k1 a2' (by rw [hl]; decide)
  have k3 := app1 tok rfl rfl k2 a3 (by rw [hl]; decide)
  have k4 := app1 tok rfl rfl k3 a4 (by rw [hl]; decide)
  refine ⟨⟨x0, x1, x2, x3, x4⟩, k4.all hl, ⟨c0, fun t ht => ?_, wf_i64 b1, wf_i64 b2, wf_i64 b3, wf_i64 b4⟩, ?_⟩
  · obtain ⟨m, hm, _⟩ := d0.all t ht; exact hm.1
  · have := d0.len (fun a m h => h.2)
    simp only [Block.count]
    omega
theorem decBFuncR : DecR enc Tryz.prog W 41 BFunc.cells (fun f n => f.Ok ∧ f.count + 1 ≤ n) := fun fuel cs x h hw => by
  obtain ⟨hl, hp⟩ := struct_partsR tok rfl rfl h hw
  obtain ⟨x0, a0, _, _, b0, _⟩ := hp 0 _ _ rfl (DecR.of (Dec.int' tok rfl rfl))
  obtain ⟨x1, a1, m1, b1, c1, d1⟩ := hp 1 _ _ rfl (DecR.slice' tok rfl rfl rfl (Nat.zero_lt_succ _) decBlockR)
  have k0 := app1 tok rfl rfl (Reads.nil W cs) a0 (Nat.zero_le _)
  have k1 := app1 tok rfl rfl k0 a1 (by rw [hl]; decide)
  refine ⟨⟨x0, x1⟩, k1.all hl, ⟨wf_i64 b0, c1, fun y hy => ?_⟩, ?_⟩
  · obtain ⟨m, hm, _⟩ := d1.all y hy; exact hm.1
  · have := d1.sum Block.count (fun a m h => h.2)
    show (x1.map Block.count).sum + 1 ≤ _
    omega
theorem sum_add1 {α : Type} {p : α → Nat} : ∀ (l : List α), (l.map fun a => p a + 1).sum = (l.map p).sum + l.length
  | [] => rfl
  | a :: l => by simp only [List.map_cons, List.sum_cons, List.length_cons, sum_add1 l]; omega
theorem decBlocksR : DecR enc Tryz.prog W 24 Blocks.cells (fun b n => b.Ok ∧ b.count + b.funcs.length ≤ n) := fun fuel cs x h hw => by
  obtain ⟨hl, hp⟩ := struct_partsR tok rfl rfl h hw
  obtain ⟨x0, a0, _, _, b0, _⟩ := hp 0 _ _ rfl (DecR.of (Dec.int' tok rfl rfl))
  obtain ⟨x1, a1, m1, b1, c1, d1⟩ := hp 1 _ _ rfl (DecR.slice' tok rfl rfl rfl (Nat.zero_lt_succ _) decBFuncR)
  have k0 := app1 tok rfl rfl (Reads.nil W cs) a0 (Nat.zero_le _)
  have k1 := app1 tok rfl rfl k0 a1 (by rw [hl]; decide)
  refine ⟨⟨x0, x1⟩, k1.all hl, ⟨wf_i64 b0, c1, fun y hy => ?_⟩, ?_⟩
  · obtain ⟨m, hm, _⟩ := d1.all y hy; exact hm.1
  · have := d1.sum (fun f => f.count + 1) (fun a m h => h.2)
    rw [sum_add1] at this
    show (x1.map BFunc.count).sum + x1.length ≤ _
    omega
theorem lim_row {b : Blocks} {n : Nat} (h : b.Ok ∧ b.count + b.funcs.length ≤ n) (hn : n ≤ 1048576) : b.Lim := ⟨by omega, by omega⟩
end
end Go.Proofs.YtbbfelelocccmaaGreat

namespace Go.Proofs.YtbbfelelocccmaaGreat.Sv
open Go
def AV.sure : AV → Option Value
  | .bool b => some (.bool b)
  | .int k n => some (.int k n)
  | .str s => some (.string s)
  | .fn f [] [] => some (.func f #[] #[])
  | .val v => some v
  | _ => none
def sureL : List AV → Option (List Value)
  | [] => some []
  | x :: xs => match x.sure, sureL xs with
    | some v, some vs => some (v :: vs)
    | _, _ => none
def AV.whole : AV → Option Value
  | .agg cs => (sureL cs).map fun l => .agg l.toArray
  | x => x.sure
theorem sure_rel {H : Know} {ι : Lay} {x : AV} {v u : Value} (h : Rel H ι x v) (e : x.sure = some u) : v = u := by
  cases h with
  | bool => simpa [AV.sure] using e
  | int => simpa [AV.sure] using e
  | str => simpa [AV.sure] using e
  | val => simpa [AV.sure] using e
  | fn _ f xs cs us vs hx hl h1 h2 =>
    cases xs with
    | cons => simp [AV.sure] at e
    | nil =>
      cases cs with
      | cons => simp [AV.sure] at e
      | nil =>
        have e1 : us = #[] := Array.eq_empty_of_size_eq_zero (by simpa using hx.symm)
        have e2 : vs = #[] := Array.eq_empty_of_size_eq_zero (by simpa using hl.symm)
        subst e1; subst e2
        simpa [AV.sure] using e
  | _ => simp [AV.sure] at e
theorem sureL_get : ∀ {xs : List AV} {l : List Value}, sureL xs = some l → xs.length = l.length ∧ ∀ (j : Nat) (x : AV), xs[j]? = some x → ∃ u, l[j]? = some u ∧ x.sure = some u
  | [], l, h => by simp [sureL] at h; subst h; exact ⟨rfl, fun j x h => by simp at h⟩
  | x :: xs, l, h => by
    unfold sureL at h
    split at h
    · rename_i v vs h1 h2
      simp at h; subst h
      obtain ⟨a1, a2⟩ := sureL_get h2
      refine ⟨by simp [a1], fun j y hj => ?_⟩
      cases j with
      | zero => simp at hj; subst hj; exact ⟨v, rfl, h1⟩
      | succ j => obtain ⟨u, u1, u2⟩ := a2 j y (by simpa using hj); exact ⟨u, by simpa using u1, u2⟩
    · cases h
theorem whole_rel {H : Know} {ι : Lay} {x : AV} {v u : Value} (h : Rel H ι x v) (e : x.whole = some u) : v = u := by
  cases x with
  | agg cs =>
    obtain ⟨us, rfl, hl, hr⟩ := h.agg_inv
    simp only [AV.whole, Option.map_eq_some_iff] at e
    obtain ⟨l, h1, rfl⟩ := e
    obtain ⟨a1, a2⟩ := sureL_get h1
    congr 1
    apply Array.ext (by simp; omega)
    intro i h1 h2
    obtain ⟨x, hx⟩ : ∃ x, cs[i]? = some x := ⟨cs[i]'(by omega), by simp [hl, h1]⟩
    obtain ⟨w, w1, w2⟩ := a2 i x hx
    have := sure_rel (hr i x us[i] hx (by simp [h1])) w2
    rw [this]
    rw [List.getElem?_eq_some_iff] at w1
    obtain ⟨_, w1⟩ := w1
    simp [w1]
  | _ => exact sure_rel h e
section
variable {P : Program} {T : Nat → Option TyI} {o : Oper} {e : AEnv} {h : AHeap}
theorem tk_iface {d : TypeDesc} (h : tkOf P d ≠ .other) : ∀ m, d ≠ .interface m := fun m e => by subst e; exact h rfl
theorem q_iface (hT : TOk P T) {t : TypeId} {x : Operand} {y : AV} {u : Value} {i : TyI} (ho : o.op = .makeInterface t x) (hx : look e x = some y) (hy : y.whole = some u) (ht : T t = some i) (hk : i.k ≠ .other) : QLoc P o e h [] (.val (.iface t u)) := by
  intro H ι a w s hs g1 g2
  have hx' : look s.env x = some y := by rw [g1 x (by rw [ho]; simp [Op.operands]), hx]
  have hv := whole_rel (look_rel hs hx') hy
  obtain ⟨info, d, e1, e2, e3, e4, e5, e6⟩ := tyOf_spec (hT _ _ ht)
  have hd := tk_iface (P := P) (d := d) (e3 ▸ hk)
  refine ⟨.iface t u, .val _ _ rfl, ?_⟩
  simp only [execOp, ho, hv, Instr.makeInterface, Sem.run_bind, run_underlying' e2, Result.andThen_ok]
  cases d with
  | interface m => exact absurd rfl (hd m)
  | _ => rfl
theorem o_invoke {f : FuncId} {fn : Func} {recv : Operand} {name : String} {args : Array Operand} {tys : Array TypeId} {t : TypeId} {v : Value} {x0 : AV} {xs : List AV} {r : AV} (ho : o.op = .call { callee := .invoke recv name, args := args, argTypes := tys })
    (hr : look e recv = some (.val (.iface t v))) (hm : ∀ w, (method (P.types.size + Made.depth) t v name).run P w = .ok (f, v) w) (hv : ∀ H, Rel H noLay x0 v)
    (hf : P.funcs[f]? = some fn) (hn : (fn.name == "runtime.NumGoroutine") = false) (hb : fn.body.isSome = true)
    (hx : lookAll e args.toList = some xs) (hp : xs.all AV.isPure = true) (hc : APure P f (x0 :: xs) (fun r' => r' = r)) : OLoc P o e h [] [] (some r) := by
  intro H ι a w s Q hs g1 g2
  have hx' : lookAll s.env args.toList = some xs := by
    rw [lookAll_agree (e := e) (fun x hx => g1 x (by rw [ho]; simp [Op.operands, Call.operands]; exact .inr (by simpa using hx)))]; exact hx
  have hr' : look s.env recv = some (.val (.iface t v)) := by rw [g1 recv z15q, hr]
  have hre := ((look_rel hs hr').val_inv).1
  have hra := relAll_map hs hx'
  have hra' : RelAll H noLay (x0 :: xs) (#[v] ++ args.map a.eval) := by
    have h1 : RelAll H noLay [x0] #[v] := ⟨rfl, fun j x u h1 h2 => by
      cases j with
      | zero => simp at h1 h2; subst h1; subst h2; exact hv H
      | succ j => simp at h1⟩
    exact relAll_append h1 ⟨hra.1, fun j x u h1 h2 => pure_rel (List.all_eq_true.1 hp x (List.mem_of_getElem? h1)) (hra.2 j x u h1 h2)⟩
  have hcall := hc H w _ hra' (knowOk_of hs.heap)
  have hexec : (execOp a.eval o).run P w = .ok (.enter f (#[v] ++ args.map a.eval)) w := by
    have h0 : (#[Value.iface t v] ++ args.map a.eval)[0]? = some (.iface t v) := by
      rw [Array.getElem?_append_left (by simp)]; rfl
    have hex : (#[Value.iface t v] ++ args.map a.eval).extract 1 (#[Value.iface t v] ++ args.map a.eval).size = args.map a.eval := by
      apply Array.ext'
      simp only [Array.toList_extract, Array.toList_append, Array.toList_map, Array.size_append, Array.size_map, List.extract_eq_take_drop]
      exact List.take_of_length_le (by simp)
    simp only [execOp, ho, resolve, hre, invoke, Sem.run_bind, Sem.run_pure, Result.andThen_ok, h0, hex, callMethod, run_program, hm w, run_callFunc hf hn hb]
  unfold Oper.wp
  rw [hexec]
  refine hcall.mono fun en w' hh => ?_
  obtain ⟨v', r', H', rfl, rfl, k1, k2⟩ := hh
  obtain ⟨u1, u2⟩ := hs.heap.grown k2
  exact ⟨v', H', ι, rfl, (fun x ex => by cases ex; exact k1.mono (KLe.refl _) (LLe.none _)), u1, u2⟩
end
def certV (k : Int) (f : Nat) : Value := .agg #[.int .i64 k, .func (.func f) #[] #[]]
def passV (k : Int) : Value := bif k == 1 then .iface 97 (certV 1 41) else bif k == 2 then .iface 97 (certV 2 42) else bif k == 3 then .iface 97 (certV 3 43) else bif k == 4 then .iface 99 (.agg #[.int .i64 4]) else .nilIface
theorem kind_no {k : Int} (h1 : k ≠ 1) (h2 : k ≠ 2) (h3 : k ≠ 3) (h4 : k ≠ 4) : kind35 k = false := by
  rw [kind35, decide_eq_false_iff_not]; omega
theorem passV_no {k : Int} (h1 : k ≠ 1) (h2 : k ≠ 2) (h3 : k ≠ 3) (h4 : k ≠ 4) : passV k = .nilIface := by
  have a1 : (k == 1) = false := beq_eq_false_iff_ne.2 h1
  have a2 : (k == 2) = false := beq_eq_false_iff_ne.2 h2
  have a3 : (k == 3) = false := beq_eq_false_iff_ne.2 h3
  have a4 : (k == 4) = false := beq_eq_false_iff_ne.2 h4
  simp [passV, a1, a2, a3, a4]
theorem kind_cases {k : Int} (h : kind35 k = true) : k = 1 ∨ k = 2 ∨ k = 3 ∨ k = 4 := by
  have := of_decide_eq_true h
  omega
theorem rel_nilL {H : Know} {ι : Lay} {v : Value} (h : Rel H ι .nil v) : Rel H ι (.lst false []) v := by
  rw [h.nil_inv]; exact .lst0 _ _ none 0 (fun h => by cases h) (Nat.zero_le _) (fun _ => rfl) trivial
theorem APure.nil2 {P : Program} {f : FuncId} {x : AV} {R : AV → Prop} (h : APure P f [x, .lst false []] R) : APure P f [x, .nil] R := fun H w vs ha hk => h H w vs ⟨ha.1, fun j y v hy hv => by
  match j with
  | 0 => exact ha.2 0 y v hy hv
  | 1 =>
    simp at hy
    subst hy
    exact rel_nilL (ha.2 1 .nil v rfl hv)
  | j + 2 => simp at hy⟩ hk
variable {P : Program} {T : Nat → Option TyI} {ops : Array Oper} {rest : List Oper} {n : Nat} {e : AEnv} {h : AHeap} {o : Oper} {K : AState → Prop} {acc : List (List Nat × List Nat)} {R : List Nat} {W : List (Nat × AObj)} {r p : AV}
theorem aq (d : Nat) (hq : QLoc P o e h R r) (hr : AOps P ops rest ⟨n, eput e d r, h⟩ K) (hd : o.dst = some d := by exact rfl) (hb : Nat.blt d n = true := by exact rfl) (hg : guardIs ops o e = some true := by exact rfl) : AOps P ops (o :: rest) ⟨n, e, h⟩ K := AOps.s d hd hb hg hq hr
theorem ax (d : Nat) (hq : OLoc P o e h R W (some r)) (hr : AOps P ops rest ⟨n, eput e d r, (hputs h W)⟩ K) (hd : o.dst = some d := by exact rfl) (hb : Nat.blt d n = true := by exact rfl) (hg : guardIs ops o e = some true := by exact rfl) : AOps P ops (o :: rest) ⟨n, e, h⟩ K := AOps.x d hd hb hg hq hr
theorem ak (d : Nat) (hr : AOps P ops rest ⟨n, eput e d (.tup []), h⟩ K) (hd : o.dst = some d := by exact rfl) (hb : Nat.blt d n = true := by exact rfl) (hg : guardIs ops o e = some false := by exact rfl) : AOps P ops (o :: rest) ⟨n, e, h⟩ K := AOps.k d hd hb hg hr
theorem am (d : Nat) {x : Operand} (hr : AOps P ops rest ⟨n, eput e d r, h⟩ K) (hd : o.dst = some d := by exact rfl) (hb : Nat.blt d n = true := by exact rfl) (hg : guardIs ops o e = some true := by exact rfl) (ho : o.op = .move x := by exact rfl) (hx : look e x = some r := by exact rfl) : AOps P ops (o :: rest) ⟨n, e, h⟩ K := AOps.s d hd hb hg (q_move (.inl ho) hx) hr
theorem aa (d : Nat) {x : Operand} (hr : AOps P ops rest ⟨n, eput e d r, h⟩ K) (hd : o.dst = some d := by exact rfl) (hb : Nat.blt d n = true := by exact rfl) (hg : guardIs ops o e = some true := by exact rfl) (ho : o.op = .assign x := by exact rfl) (hx : look e x = some r := by exact rfl) : AOps P ops (o :: rest) ⟨n, e, h⟩ K := AOps.s d hd hb hg (q_move (.inr ho) hx) hr
theorem al (d : Nat) {t : TypeId} {x : Operand} {i : TyI} {cs : List AV} (hT : TOk P T) (hr : AOps P ops rest ⟨n, eput e d r, h⟩ K) (hd : o.dst = some d := by exact rfl) (hb : Nat.blt d n = true := by exact rfl) (hg : guardIs ops o e = some true := by exact rfl) (ho : o.op = .load t x := by exact rfl) (hx : look e x = some p := by exact rfl) (hi : T t = some i := by exact rfl) (hp : PtsTo h p R cs := by first | exact .loc _ | exact .ptr _ _ _ _ _ _ _ _ rfl rfl rfl) (hl : loadAV i cs = some r := by exact rfl) : AOps P ops (o :: rest) ⟨n, e, h⟩ K := AOps.s d hd hb hg (q_load hT ho hx hi hp hl) hr
theorem af (d : Nat) {t : TypeId} {x : Operand} {f off u : Nat} {i : TyI} {fs : List (Nat × Nat)} (hT : TOk P T) (hr : AOps P ops rest ⟨n, eput e d r, h⟩ K) (hd : o.dst = some d := by exact rfl) (hb : Nat.blt d n = true := by exact rfl) (hg : guardIs ops o e = some true := by exact rfl) (ho : o.op = .fieldAddr t x f := by exact rfl) (hx : look e x = some p := by exact rfl) (hi : T t = some i := by exact rfl) (hk : i.k = .struct fs := by exact rfl) (hf : fs[f]? = some (off, u) := by exact rfl) (hm : moveAV p off = some r := by exact rfl) : AOps P ops (o :: rest) ⟨n, e, h⟩ K := AOps.s d hd hb hg (q_fieldAddr hT ho hx hi hk hf hm) hr
theorem dq (d : Nat) (hq : QLoc P o e h R r) (hr : DOps P ops n rest (eput e d r) h (acc ++ [(R, [])]) K) (hd : o.dst = some d := by exact rfl) (hb : Nat.blt d n = true := by exact rfl) (hg : guardIs ops o e = some true := by exact rfl) : DOps P ops n (o :: rest) e h acc K := DOps.s d hd hb hg hq hr
theorem dx (d : Nat) (hq : OLoc P o e h R W (some r)) (hr : DOps P ops n rest (eput e d r) (hputs h W) (acc ++ [(R, W.map (·.1))]) K) (hd : o.dst = some d := by exact rfl) (hb : Nat.blt d n = true := by exact rfl) (hg : guardIs ops o e = some true := by exact rfl) : DOps P ops n (o :: rest) e h acc K := DOps.x d hd hb hg hq hr
theorem dm (d : Nat) {x : Operand} (hr : DOps P ops n rest (eput e d r) h (acc ++ [([], [])]) K) (hd : o.dst = some d := by exact rfl) (hb : Nat.blt d n = true := by exact rfl) (hg : guardIs ops o e = some true := by exact rfl) (ho : o.op = .move x := by exact rfl) (hx : look e x = some r := by exact rfl) : DOps P ops n (o :: rest) e h acc K := DOps.s d hd hb hg (q_move (.inl ho) hx) hr
theorem da (d : Nat) {x : Operand} (hr : DOps P ops n rest (eput e d r) h (acc ++ [([], [])]) K) (hd : o.dst = some d := by exact rfl) (hb : Nat.blt d n = true := by exact rfl) (hg : guardIs ops o e = some true := by exact rfl) (ho : o.op = .assign x := by exact rfl) (hx : look e x = some r := by exact rfl) : DOps P ops n (o :: rest) e h acc K := DOps.s d hd hb hg (q_move (.inr ho) hx) hr
theorem dl (d : Nat) {t : TypeId} {x : Operand} {i : TyI} {cs : List AV} (hT : TOk P T) (hr : DOps P ops n rest (eput e d r) h (acc ++ [(R, [])]) K) (hd : o.dst = some d := by exact rfl) (hb : Nat.blt d n = true := by exact rfl) (hg : guardIs ops o e = some true := by exact rfl) (ho : o.op = .load t x := by exact rfl) (hx : look e x = some p := by exact rfl) (hi : T t = some i := by exact rfl) (hp : PtsTo h p R cs := by first | exact .loc _ | exact .ptr _ _ _ _ _ _ _ _ rfl rfl rfl) (hl : loadAV i cs = some r := by exact rfl) : DOps P ops n (o :: rest) e h acc K := DOps.s d hd hb hg (q_load hT ho hx hi hp hl) hr
theorem df (d : Nat) {t : TypeId} {x : Operand} {f off u : Nat} {i : TyI} {fs : List (Nat × Nat)} (hT : TOk P T) (hr : DOps P ops n rest (eput e d r) h (acc ++ [([], [])]) K) (hd : o.dst = some d := by exact rfl) (hb : Nat.blt d n = true := by exact rfl) (hg : guardIs ops o e = some true := by exact rfl) (ho : o.op = .fieldAddr t x f := by exact rfl) (hx : look e x = some p := by exact rfl) (hi : T t = some i := by exact rfl) (hk : i.k = .struct fs := by exact rfl) (hf : fs[f]? = some (off, u) := by exact rfl) (hm : moveAV p off = some r := by exact rfl) : DOps P ops n (o :: rest) e h acc K := DOps.s d hd hb hg (q_fieldAddr hT ho hx hi hk hf hm) hr
theorem an {s : AState} (h : K s) : AOps P ops [] s K := AOps.nil h
theorem asr {id : Nat} {os : Array Oper} {c : Code} {s : AState} {Q : Exit → AState → Prop} (h : AOps P os os.toList s (fun s' => AGo P c s' Q)) : AGo P (.seq (.region id os false) c) s Q := AGo.seq (AGo.region h)
theorem act {t : Nat} {x y : Code} {s : AState} {Q : Exit → AState → Prop} (h : AGo P x s Q) (he : s.env t = some (.bool true) := by exact rfl) : AGo P (.cond (.tmp t) x y) s Q := AGo.cond_true true he rfl h
theorem acf {t : Nat} {x y : Code} {s : AState} {Q : Exit → AState → Prop} (h : AGo P y s Q) (he : s.env t = some (.bool false) := by exact rfl) : AGo P (.cond (.tmp t) x y) s Q := AGo.cond_false false he rfl h
theorem apf {d : Nat} {c x y : Operand} (hr : AOps P ops rest ⟨n, eput e d p, h⟩ K) (hd : o.dst = some d := by exact rfl) (hb : Nat.blt d n = true := by exact rfl) (hg : guardIs ops o e = some true := by exact rfl) (ho : o.op = .pick c x y := by exact rfl) (hc : look e c = some (.bool false) := by exact rfl) (hx : look e y = some p := by exact rfl) : AOps P ops (o :: rest) ⟨n, e, h⟩ K := AOps.s d hd hb hg (q_pick_false false ho hc rfl hx) hr
theorem apt {d : Nat} {c x y : Operand} (hr : AOps P ops rest ⟨n, eput e d p, h⟩ K) (hd : o.dst = some d := by exact rfl) (hb : Nat.blt d n = true := by exact rfl) (hg : guardIs ops o e = some true := by exact rfl) (ho : o.op = .pick c x y := by exact rfl) (hc : look e c = some (.bool true) := by exact rfl) (hx : look e x = some p := by exact rfl) : AOps P ops (o :: rest) ⟨n, e, h⟩ K := AOps.s d hd hb hg (q_pick_true true ho hc rfl hx) hr
theorem aqb {d : Nat} {op : BinOp} {t t' : TypeId} {x y : Operand} {q : AV} (hr : AOps P ops rest ⟨n, eput e d r, h⟩ K) (hd : o.dst = some d := by exact rfl) (hb : Nat.blt d n = true := by exact rfl) (hg : guardIs ops o e = some true := by exact rfl) (ho : o.op = .binOp op t x y t' := by exact rfl) (hx : look e x = some p := by exact rfl) (hy : look e y = some q := by exact rfl) (hv : evalBin op p q = some r := by exact rfl) : AOps P ops (o :: rest) ⟨n, e, h⟩ K := AOps.s d hd hb hg (q_bin ho hx hy hv) hr
end Go.Proofs.YtbbfelelocccmaaGreat.Sv

namespace Go.Proofs.YtbbfelelocccmaaGreat.Sv
open Go
section
variable {P : Program} {T : Nat → Option TyI} {o : Oper} {e : AEnv} {h : AHeap}
end
section
variable {P : Program} {T : Nat → Option TyI} {o : Oper} {e : AEnv} {h : AHeap}
end
def nth : List AObj → Nat → AObj
  | [], _ => .free
  | o :: _, 0 => o
  | _ :: L, n + 1 => nth L n
def LowAt (h : AHeap) (k : Nat → Bool) : Nat → List AObj → Prop
  | _, [] => True
  | i, o :: L => (h i = some o ∧ o.avoid k = true) ∧ LowAt h k (i + 1) L
theorem LowAt.get {h : AHeap} {k : Nat → Bool} : ∀ {L : List AObj} {i c : Nat}, LowAt h k i L → c < L.length → h (i + c) = some (nth L c) ∧ (nth L c).avoid k = true
  | [], _, _, _, hc => absurd hc (by simp)
  | o :: L, i, 0, hl, _ => hl.1
  | o :: L, i, c + 1, hl, hc => by
    have := LowAt.get (L := L) (i := i + 1) (c := c) hl.2 (by simpa using hc)
    rw [show i + (c + 1) = i + 1 + c by omega]
    exact this
theorem AllL.of {p : Nat → Prop} : ∀ {L : List Nat}, (∀ b ∈ L, p b) → AllL L p
  | [], _ => trivial
  | b :: L, h => ⟨h b (by simp), AllL.of fun c hc => h c (by simp [hc])⟩
section
variable {P : Program} {T : Nat → Option TyI} {o : Oper} {e : AEnv} {h : AHeap}
theorem q_field (hT : TOk P T) {t : TypeId} {x : Operand} {f : Nat} {cs : List AV} {r : AV} {i j : TyI} {fs : List (Nat × Nat)} {off u : Nat} (ho : o.op = .field t x f) (hx : look e x = some (.agg cs)) (hi : T t = some i) (hk : i.k = .struct fs)
    (hf : fs[f]? = some (off, u)) (hj : T u = some j) (hc : j.k.isCell = true) (hr : cs[off]? = some r) : QLoc P o e h [] r := by
  intro H ι a w s hs h1 h2
  have hx' : look s.env x = some (.agg cs) := by rw [h1 x (by rw [ho]; simp [Op.operands]), hx]
  obtain ⟨info, d, e1, e2, e3, e4, e5, e6⟩ := tyOf_spec (hT _ _ hi)
  obtain ⟨info', d', f1, f2, f3, f4, f5, f6⟩ := tyOf_spec (hT _ _ hj)
  obtain ⟨A, rfl, rfl, hz⟩ := tk_struct (P := P) (d := d) (e3 ▸ hk)
  rw [List.getElem?_map, Array.getElem?_toList] at hf
  cases ef : A[f]? with
  | none => rw [ef] at hf; cases hf
  | some g =>
    rw [ef] at hf
    simp only [Option.map_some, Option.some.injEq, Prod.mk.injEq] at hf
    obtain ⟨rfl, rfl⟩ := hf
    obtain ⟨us, hv, hl, hrel⟩ := (look_rel hs hx').agg_inv
    have hlt : g.offset < us.size := by rw [← hl]; exact (List.getElem?_eq_some_iff.1 hr).1
    have hagg : isAggD d' = false := by
      have := tk_cell (P := P) (d := d') (by rw [← f3]; exact hc)
      cases d' <;> first | rfl | exact absurd rfl (this.1 _) | exact absurd rfl (this.2 _ _)
    refine ⟨us[g.offset], hrel g.offset r _ hr (Array.getElem?_eq_getElem hlt), ?_⟩
    simp only [execOp, ho, Instr.field, hv, Sem.run_bind, Sem.run_pure, Result.andThen_ok, run_underlying' e2, ef, asAgg, part, run_isAgg f2, hagg, Bool.false_eq_true, if_false, Array.getElem?_eq_getElem hlt]
end
def ptsOf (h : AHeap) : AV → Option (List Nat × List AV)
  | .loc cs => some ([], cs)
  | .ptr b n i o => match h b with
    | some (.row p sz es) => match Nat.beq n es.length, es[i]? with
      | true, some cs => some ([b], cs.drop o)
      | _, _ => none
    | _ => none
  | _ => none
theorem ptsOf_spec {h : AHeap} {p : AV} {R : List Nat} {cs : List AV} (e : ptsOf h p = some (R, cs)) : PtsTo h p R cs := by
  unfold ptsOf at e
  split at e
  · simp only [Option.some.injEq, Prod.mk.injEq] at e
    obtain ⟨rfl, rfl⟩ := e
    exact .loc _
  · split at e
    · rename_i b n i o p sz es hb
      split at e
      · rename_i cs h1 h2
        simp only [Option.some.injEq, Prod.mk.injEq] at e
        obtain ⟨rfl, rfl⟩ := e
        exact .ptr _ _ _ _ _ _ _ _ hb (Nat.eq_of_beq_eq_true h1) h2
      · cases e
    · cases e
  · cases e
def qEv (T : Nat → Option TyI) (o : Op) (e : AEnv) (h : AHeap) : Option (List Nat × AV) :=
  match o with
  | .move x => match look e x with
    | some p => some ([], p)
    | none => none
  | .assign x => match look e x with
    | some p => some ([], p)
    | none => none
  | .load t x => match look e x, T t with
    | some p, some i => match ptsOf h p with
      | some (R, cs) => match loadAV i cs with
        | some r => some (R, r)
        | none => none
      | none => none
    | _, _ => none
  | .fieldAddr t x f => match look e x, T t with
    | some p, some i => match i.k with
      | .struct fs => match fs[f]? with
        | some (off, u) => match moveAV p off with
          | some r => some ([], r)
          | none => none
        | none => none
      | _ => none
    | _, _ => none
  | .binOp op t x y t' => match look e x, look e y with
    | some p, some q => match evalBin op p q with
      | some r => some ([], r)
      | none => none
    | _, _ => none
  | .unOp .not t x => match look e x with
    | some (.bool b) => some ([], .bool (!b))
    | _ => none
  | .pick c x y => match look e c with
    | some (.bool true) => match look e x with
      | some p => some ([], p)
      | none => none
    | some (.bool false) => match look e y with
      | some p => some ([], p)
      | none => none
    | _ => none
  | .extract x k => match look e x with
    | some (.tup vs) => match vs[k]? with
      | some r => some ([], r)
      | none => none
    | _ => none
  | .nilCheck x => match look e x with
    | some p => match (match p with | .loc _ | .ptr .. => true | _ => false) with
      | true => some ([], p)
      | false => none
    | none => none
  | .field t x f => match look e x, T t with
    | some (.agg cs), some i => match i.k with
      | .struct fs => match fs[f]? with
        | some (off, u) => match T u with
          | some j => match j.k.isCell, cs[off]? with
            | true, some r => some ([], r)
            | _, _ => none
          | none => none
        | none => none
      | _ => none
    | _, _ => none
  | .convert t u x => match look e x, T t, T u with
    | some (.int k' n), some i, some j => match j.k with
      | .int k => some ([], .int k (k.wrap n))
      | _ => none
    | _, _, _ => none
  | .call ⟨.builtin .len, args, tys⟩ => match args.toList, tys.toList with
    | [x], [t] => match look e x, T t with
      | some p, some i => match (match p with | .str _ => (match i.k with | .string => true | _ => false) | _ => (match i.k with | .slice _ => true | _ => false)), lenAV p with
        | true, some n => some ([], .int .i64 n)
        | _, _ => none
      | _, _ => none
    | _, _ => none
  | _ => none
theorem arr_one {α : Type} {a : Array α} {x : α} (h : a.toList = [x]) : a = #[x] := Array.ext' h
section
variable {P : Program} {T : Nat → Option TyI} {o : Oper} {e : AEnv} {h : AHeap} {R : List Nat} {r : AV}
theorem qEv_spec (hT : TOk P T) (hq : qEv T o.op e h = some (R, r)) : QLoc P o e h R r := by
  unfold qEv at hq
  split at hq
  · rename_i x ho
    split at hq
    · rename_i p hp
      simp only [Option.some.injEq, Prod.mk.injEq] at hq
      obtain ⟨rfl, rfl⟩ := hq
      exact q_move (.inl ho) hp
    · cases hq
  · rename_i x ho
    split at hq
    · rename_i p hp
      simp only [Option.some.injEq, Prod.mk.injEq] at hq
      obtain ⟨rfl, rfl⟩ := hq
      exact q_move (.inr ho) hp
    · cases hq
  · rename_i t x ho
    split at hq
    · rename_i p i hp hi
      split at hq
      · rename_i R' cs hc
        split at hq
        · rename_i r' hr
          simp only [Option.some.injEq, Prod.mk.injEq] at hq
          obtain ⟨rfl, rfl⟩ := hq
          exact q_load hT ho hp hi (ptsOf_spec hc) hr
        · cases hq
      · cases hq
    · cases hq
  · rename_i t x f ho
    split at hq
    · rename_i p i hp hi
      split at hq
      · rename_i fs hk
        split at hq
        · rename_i off u hf
          split at hq
          · rename_i r' hr
            simp only [Option.some.injEq, Prod.mk.injEq] at hq
            obtain ⟨rfl, rfl⟩ := hq
            exact q_fieldAddr hT ho hp hi hk hf hr
          · cases hq
        · cases hq
      · cases hq
    · cases hq
  · rename_i op t x y t' ho
    split at hq
    · rename_i p q hp hq'
      split at hq
      · rename_i r' hr
        simp only [Option.some.injEq, Prod.mk.injEq] at hq
        obtain ⟨rfl, rfl⟩ := hq
        exact q_bin ho hp hq' hr
      · cases hq
    · cases hq
  · rename_i t x ho
    split at hq
    · rename_i b hp
      simp only [Option.some.injEq, Prod.mk.injEq] at hq
      obtain ⟨rfl, rfl⟩ := hq
      exact q_not ho hp
    · cases hq
  · rename_i c x y ho
    split at hq
    · rename_i hc
      split at hq
      · rename_i p hp
        simp only [Option.some.injEq, Prod.mk.injEq] at hq
        obtain ⟨rfl, rfl⟩ := hq
        exact q_pick_true true ho hc rfl hp
      · cases hq
    · rename_i hc
      split at hq
      · rename_i p hp
        simp only [Option.some.injEq, Prod.mk.injEq] at hq
        obtain ⟨rfl, rfl⟩ := hq
        exact q_pick_false false ho hc rfl hp
      · cases hq
    · cases hq
  · rename_i x k ho
    split at hq
    · rename_i vs hp
      split at hq
      · rename_i r' hr
        simp only [Option.some.injEq, Prod.mk.injEq] at hq
        obtain ⟨rfl, rfl⟩ := hq
        exact q_extract ho hp hr
      · cases hq
    · cases hq
  · rename_i x ho
    split at hq
    · rename_i p hp
      split at hq
      · rename_i hc
        simp only [Option.some.injEq, Prod.mk.injEq] at hq
        obtain ⟨rfl, rfl⟩ := hq
        exact q_nilCheck ho hp (by cases p <;> first | rfl | cases hc)
      · cases hq
    · cases hq
  · rename_i t x f ho
    split at hq
    · rename_i cs i hp hi
      split at hq
      · rename_i fs hk
        split at hq
        · rename_i off u hf
          split at hq
          · rename_i j hj
            split at hq
            · rename_i r' hc hr
              simp only [Option.some.injEq, Prod.mk.injEq] at hq
              obtain ⟨rfl, rfl⟩ := hq
              exact q_field hT ho hp hi hk hf hj hc hr
            · cases hq
          · cases hq
        · cases hq
      · cases hq
    · cases hq
  · rename_i t u x ho
    split at hq
    · rename_i k' n i j hp hi hj
      split at hq
      · rename_i k hk
        simp only [Option.some.injEq, Prod.mk.injEq] at hq
        obtain ⟨rfl, rfl⟩ := hq
        exact q_convInt hT ho hp hi hj hk
      · cases hq
    · cases hq
  · rename_i args tys ho
    split at hq
    · rename_i x t ha ht
      split at hq
      · rename_i p i hp hi
        split at hq
        · rename_i n hk hn
          simp only [Option.some.injEq, Prod.mk.injEq] at hq
          obtain ⟨rfl, rfl⟩ := hq
          exact q_len hT (ho.trans (by rw [arr_one ha, arr_one ht])) hp hi (by cases p <;> exact hk) hn
        · cases hq
      · cases hq
    · cases hq
  · cases hq
end
section
variable {P : Program} {T : Nat → Option TyI} {ops : Array Oper} {n : Nat} {h : AHeap} {K : AState → Prop}
end
section
variable {P : Program} {T : Nat → Option TyI} {ops : Array Oper} {n : Nat} {h : AHeap} {K : AState → Prop}
end
section
variable {P : Program} {T : Nat → Option TyI} {o : Oper} {e : AEnv} {h : AHeap}
theorem o_appendN (hT : TOk P T) {t t' : TypeId} {x y : Operand} {i i' j : TyI} {u u' : Nat} {es2 : List (List AV)} {q : AV} {R : List Nat} (b : Nat)
    (ho : o.op = .call { callee := .builtin .append, args := #[x, y], argTypes := #[t, t'] }) (hx : look e x = some .nil) (hy : look e y = some q) (hi : T t = some i) (hk : i.k = .slice u) (hj : T u = some j) (hi' : T t' = some i') (hk' : i'.k = .slice u')
    (hb : h b = some .free) (hz : j.zero.length = j.size) (hp : 0 < j.size) (hsrc : SrcOf h q R es2) (hu2 : ∀ cs ∈ es2, cs.length = j.size) (hne : 0 < es2.length)
    (hby : es2.length * j.bytes ≤ 140737488355328) (hml : es2.length ≤ maxLen) :
    OLoc P o e h (b :: R) [(b, .row false j.size es2)] (some (.ref b es2.length 0 es2.length)) := by
  refine OLoc.of_new hb (by simp) hp fun H ι a w s hs g1 g2 => ?_
  have hx' : look s.env x = some .nil := by rw [g1 x z15q, hx]
  have hy' : look s.env y = some q := by rw [g1 y z15q, hy]
  have hsrc' := hsrc.agree (h' := s.h) (fun c hc => g2 c (by simp [hc]))
  obtain ⟨info, d, e1, e2, e3, e4, e5, e6⟩ := tyOf_spec (hT _ _ hi)
  obtain ⟨infou, du, f1, f2, f3, f4, f5, f6⟩ := tyOf_spec (hT _ _ hj)
  obtain ⟨info', d', e1', e2', e3', e4', e5', e6'⟩ := tyOf_spec (hT _ _ hi')
  have hd := tk_slice (P := P) (d := d) (e3 ▸ hk)
  subst hd
  have hd' := tk_slice (P := P) (d := d') (e3' ▸ hk')
  subst hd'
  obtain ⟨z, hz1, hz2⟩ := zero_spec f6 hz hp
  have hzl : z.cells.size = j.size := by rw [← hz]; simpa using (allAV_rel (H := H) (ι := noLay) hz2).1.symm
  have hvx := look_rel hs hx'
  have hvy := look_rel hs hy'
  generalize hva : a.eval x = va at hvx
  generalize hvb : a.eval y = vb at hvy
  have hexec : ∀ (v : Value) (w' : World), (Builtin.append_ #[t, t'] o.type #[va, vb]).run P w = .ok v w' → (execOp a.eval o).run P w = .ok (.value v) w' := fun v w' hrun => by
    simp only [execOp, ho, resolve, invoke, builtin, Sem.run_bind, Sem.run_pure, Result.andThen_ok, List.map_toArray, List.map_cons, List.map_nil, hva, hvb, hrun]
  obtain ⟨news, hsrcw, hnews⟩ := src_of hs.heap hsrc' hvy e2' hp hu2 w rfl
  rw [← f4] at hsrcw
  have hnl : news.length = es2.length * j.size := by rw [hsrcw.newsLen, f4]
  have h63 : ((0 + es2.length : Nat) : Int) ≤ 9223372036854775807 := by
    have := hml; simp only [maxLen] at this; omega
  obtain ⟨base, hv, hold⟩ : ∃ (base : Option Addr), va = .slice base 0 0 ∧ (Builtin.firstCells infou.size 0 (.slice base 0 0)).run P w.drew = .ok ([] : List Value).toArray w.drew := by
    have := hvx.nil_inv
    subst this
    exact ⟨none, rfl, by simp [Builtin.firstCells, loadCells, loadCellsFrom]⟩
  have hfit : Builtin.nextslicecap (0 + es2.length) 0 * infou.bytes ≤ 281474976710656 := growslice_fits (by omega) (by rw [f5, Nat.zero_add]; exact hby)
  have hrun := run_append_grow_src (P := P) w t t' o.type u infou z e2 f1 hz1 base 0 0 [] hold vb es2.length news hsrcw (by omega) h63 hfit
  have hge := grownCap_ge w (0 + es2.length) 0 u
  have hcm : grownCap w (0 + es2.length) 0 u ≤ maxLen := grownCap_le_maxLen w _ 0 u (by omega)
  generalize hcc : grownCap w (0 + es2.length) 0 u = nc at *
  generalize hC : (([] : List Value) ++ news).toArray ++ Builtin.zeroCells z.cells (nc - (0 + es2.length)) = C at *
  have hCs : C.size = nc * j.size := by
    rw [← hC, Array.size_append, size_zeroCells, hzl]
    simp only [List.size_toArray, List.nil_append, hnl, ← Nat.add_mul]
    congr 1; omega
  have hCg : ∀ k, k < news.length → C[k]? = news[k]? := fun k hk => by
    rw [← hC, Array.getElem?_append_left (by simp; omega)]
    simp
  refine ⟨_, C, u, w.drew, rfl, rfl, rfl, ?_, ⟨fun i cs h => hu2 cs (List.mem_of_getElem? h), fun i cs k y h1 h2 => ?_⟩, hexec _ _ (hv ▸ hrun), ?_⟩
  · rw [hCs]; exact Nat.mul_le_mul_right _ (by omega)
  · obtain ⟨v, k1, k2, k3⟩ := hnews i cs k y h1 h2
    exact ⟨v, by rw [hCg _ (List.getElem?_eq_some_iff.1 k1).1]; exact k1, k2, k3⟩
  · have := Rel.refL (H := H) (lput ι b ⟨w.heap.size, j.size, es2.length, C.size⟩) b es2.length 0 es2.length nc _ (lput_same _ _ _) rfl (by omega) (by omega) (by simp [hCs]) hcm
    simpa using this
end
def elemTy (T : Nat → Option TyI) (t : Nat) : Option TyI := match T t with
  | some i => match i.k with
    | .slice u => T u
    | _ => none
  | none => none
theorem elemTy_spec {T : Nat → Option TyI} {t : Nat} {j : TyI} (h : elemTy T t = some j) : ∃ i u, T t = some i ∧ i.k = .slice u ∧ T u = some j := by
  unfold elemTy at h
  split at h
  · rename_i i hi
    split at h
    · rename_i u hk
      exact ⟨i, u, hi, hk, h⟩
    · cases h
  · cases h
def isFree (h : AHeap) (b : Nat) : Bool := match h b with
  | some .free => true
  | _ => false
theorem isFree_spec {h : AHeap} {b : Nat} (e : isFree h b = true) : h b = some .free := by
  unfold isFree at e
  split at e
  · assumption
  · cases e
def zeroOk (i : TyI) : Bool := Nat.beq i.zero.length i.size && (Nat.blt 0 i.size && i.zero.all AV.cell1)
theorem zeroOk_spec {i : TyI} (h : zeroOk i = true) : i.zero.length = i.size ∧ 0 < i.size ∧ i.zero.all AV.cell1 = true := by
  unfold zeroOk at h
  rw [Bool.and_eq_true, Bool.and_eq_true] at h
  exact ⟨Nat.eq_of_beq_eq_true h.1, by have := h.2.1; simpa [Nat.blt_eq] using this, h.2.2⟩
def qEv2 (P : Program) (T : Nat → Option TyI) (o : Op) (e : AEnv) (h : AHeap) : Option (List Nat × AV) :=
  match o with
  | .indexAddr t x y => match look e x, look e y with
    | some (.lst ex es), some (.int k n) => match elemTy T t, decide (0 ≤ n), es[n.toNat]? with
      | some j, true, some cs => match Nat.beq cs.length j.size with
        | true => some ([], .loc cs)
        | false => none
      | _, _, _ => none
    | some (.ref b m off len), some (.int k n) => match elemTy T t, h b, decide (0 ≤ n), decide (n < len) with
      | some j, some (.row p sz es), true, true => match Nat.beq m es.length, Nat.beq sz j.size with
        | true, true => some ([b], .ptr b m (off + n.toNat) 0)
        | _, _ => none
      | _, _, _, _ => none
    | some p, some (.int k n) => match T t with
      | some i => match i.k with
        | .array len u => match T u, decide (0 ≤ n), decide (n < len) with
          | some j, true, true => match moveAV p (n.toNat * j.size) with
            | some r => some ([], r)
            | none => none
          | _, _, _ => none
        | _ => none
      | none => none
    | _, _ => none
  | .build t parts => match lookParts e parts.toList, T t with
    | some ps, some i => match i.k with
      | .struct fs => match zeroOk i, partsFit T fs ps, allKnown T fs, partCells fs ps i.zero with
        | true, true, true, some r => some ([], .agg r)
        | _, _, _, _ => none
      | _ => none
    | _, _ => none
  | .makeFunc f first captured => match lookAll e first.toList, lookAll e captured.toList with
    | some xs, some cs => some ([], .fn f xs cs)
    | _, _ => none
  | .makeInterface t x => match look e x, T t with
    | some y, some i => match y.whole, i.k with
      | some u, .struct _ => some ([], .val (.iface t u))
      | _, _ => none
    | _, _ => none
  | .unOp .neg t x => match look e x with
    | some (.int k n) => some ([], .int k (k.wrap (0 - n)))
    | _ => none
  | .slice t x none (some y) none => match look e x, look e y with
    | some (.ref b n 0 len), some (.int k z) => match elemTy T t, h b, decide (0 ≤ z), decide (z.toNat ≤ len) with
      | some j, some (.row p sz es), true, true => match Nat.beq n es.length with
        | true => some ([b], .ref b n 0 z.toNat)
        | false => none
      | _, _, _, _ => none
    | some (.lst ex es), some (.int k z) => match elemTy T t, decide (0 ≤ z), decide (z.toNat ≤ es.length) with
      | some j, true, true => match es.all (fun cs => Nat.beq cs.length j.size) with
        | true => some ([], .lst (ex && Nat.beq z.toNat es.length) ((es.take z.toNat).drop 0))
        | false => none
      | _, _, _ => none
    | _, _ => none
  | _ => none
section
variable {P : Program} {T : Nat → Option TyI} {o : Oper} {e : AEnv} {h : AHeap} {R : List Nat} {r : AV}
theorem qEv2_spec (hT : TOk P T) (hq : qEv2 P T o.op e h = some (R, r)) : QLoc P o e h R r := by
  unfold qEv2 at hq
  split at hq
  · rename_i t x y ho
    split at hq
    · rename_i ex es k n hx hy
      split at hq
      · rename_i j cs hj h0 hn
        split at hq
        · rename_i hs
          simp only [Option.some.injEq, Prod.mk.injEq] at hq
          obtain ⟨rfl, rfl⟩ := hq
          obtain ⟨i, u, a1, a2, a3⟩ := elemTy_spec hj
          exact q_index_lst hT ho hx hy a1 a2 a3 (of_decide_eq_true h0) hn (Nat.eq_of_beq_eq_true hs)
        · cases hq
      · cases hq
    · rename_i b m off len k n hx hy
      split at hq
      · rename_i j p sz es hj hb h0 hn
        split at hq
        · rename_i h1 h2
          simp only [Option.some.injEq, Prod.mk.injEq] at hq
          obtain ⟨rfl, rfl⟩ := hq
          obtain ⟨i, u, a1, a2, a3⟩ := elemTy_spec hj
          exact q_index_ref hT ho hx hy a1 a2 a3 hb (Nat.eq_of_beq_eq_true h1) (Nat.eq_of_beq_eq_true h2) (of_decide_eq_true h0) (of_decide_eq_true hn)
        · cases hq
      · cases hq
    · rename_i p k n _ _ hx hy
      split at hq
      · rename_i i hi
        split at hq
        · rename_i len u hk
          split at hq
          · rename_i j hj h0 hn
            split at hq
            · rename_i r' hr
              simp only [Option.some.injEq, Prod.mk.injEq] at hq
              obtain ⟨rfl, rfl⟩ := hq
              exact q_index_arr hT ho hx hy hi hk hj (of_decide_eq_true h0) (of_decide_eq_true hn) hr
            · cases hq
          · cases hq
        · cases hq
      · cases hq
    · cases hq
  · rename_i t parts ho
    split at hq
    · rename_i ps i hp hi
      split at hq
      · rename_i fs hk
        split at hq
        · rename_i r' hz hf ha hr
          simp only [Option.some.injEq, Prod.mk.injEq] at hq
          obtain ⟨rfl, rfl⟩ := hq
          obtain ⟨z1, z2, z3⟩ := zeroOk_spec hz
          exact q_build hT ho hp hi hk z1 z2 hf ha hr
        · cases hq
      · cases hq
    · cases hq
  · rename_i f first captured ho
    split at hq
    · rename_i xs cs hx hc
      simp only [Option.some.injEq, Prod.mk.injEq] at hq
      obtain ⟨rfl, rfl⟩ := hq
      exact q_makeFunc ho hx hc
    · cases hq
  · rename_i t x ho
    split at hq
    · rename_i y i hx hi
      split at hq
      · rename_i u fs hy hk
        simp only [Option.some.injEq, Prod.mk.injEq] at hq
        obtain ⟨rfl, rfl⟩ := hq
        exact q_iface hT ho hx hy hi (by rw [hk]; intro h; cases h)
      · cases hq
    · cases hq
  · rename_i t x ho
    split at hq
    · rename_i k n hx
      simp only [Option.some.injEq, Prod.mk.injEq] at hq
      obtain ⟨rfl, rfl⟩ := hq
      exact q_neg ho hx
    · cases hq
  · rename_i t x y ho
    split at hq
    · rename_i b n len k z hx hy
      split at hq
      · rename_i j p sz es hj hb h0 hz
        split at hq
        · rename_i h1
          simp only [Option.some.injEq, Prod.mk.injEq] at hq
          obtain ⟨rfl, rfl⟩ := hq
          obtain ⟨i, u, a1, a2, a3⟩ := elemTy_spec hj
          exact q_slice_ref hT ho hx hy a1 a2 a3 hb (Nat.eq_of_beq_eq_true h1) (by have := of_decide_eq_true h0; omega) (of_decide_eq_true hz)
        · cases hq
      · cases hq
    · rename_i ex es k z hx hy
      split at hq
      · rename_i j hj h0 hz
        split at hq
        · rename_i h1
          simp only [Option.some.injEq, Prod.mk.injEq] at hq
          obtain ⟨rfl, rfl⟩ := hq
          obtain ⟨i, u, a1, a2, a3⟩ := elemTy_spec hj
          exact q_slice_lst hT 0 z.toNat ho hx a1 a2 a3 rfl ⟨k, by rw [hy, Int.toNat_of_nonneg (of_decide_eq_true h0)]⟩ (Nat.zero_le _) (of_decide_eq_true hz) (fun cs hc => Nat.eq_of_beq_eq_true (List.all_eq_true.1 h1 cs hc))
        · cases hq
      · cases hq
    · cases hq
  · cases hq
end
def OCallR (P : Program) (o : Oper) (e : AEnv) (h : AHeap) (R : AV → AHeap → Prop) : Prop :=
  ∀ (H : Know) (ι : Lay) (a : Act) (w : World) (n : Nat) (Q : Exit → Act → World → Prop), Sim H ι ⟨n, e, h⟩ a w →
    o.wp P a w (fun a' w' => ∃ v r h' H' ι', R r h' ∧ a' = a.put o.dst v ∧ Rel H' ι' r v ∧ HeapRel H' ι' h' w' ∧ Step H ι h w H' ι' h' w') Q
section
variable {P : Program} {o : Oper} {e : AEnv} {h : AHeap} {R : AV → AHeap → Prop}
theorem ocall_of {f : FuncId} {xs : List AV} {us : Act → Array Value} (hus : ∀ H ι a w n, Sim H ι ⟨n, e, h⟩ a w → RelAll H ι xs (us a)) (hex : ∀ H ι a w n, Sim H ι ⟨n, e, h⟩ a w → (execOp a.eval o).run P w = .ok (.enter f (us a)) w)
    (hcall : ACall P f xs h R) : OCallR P o e h R := by
  intro H ι a w n Q hs
  have hcalls := hcall H ι w _ (hus H ι a w n hs) hs.heap
  unfold Oper.wp
  rw [hex H ι a w n hs]
  refine hcalls.mono fun en w' hh => ?_
  obtain ⟨v, r', h', H', ι', rfl, hR, k1, k2, k3⟩ := hh
  exact ⟨v, r', h', H', ι', hR, rfl, k1, k2, k3⟩
theorem o_inF {f : FuncId} {fn : Func} {x : Operand} {args : Array Operand} {tys : Array TypeId} {fs xs cs : List AV} (ho : o.op = .call { callee := .value x, args := args, argTypes := tys }) (hfn : look e x = some (.fn (.func f) fs cs)) (hf : P.funcs[f]? = some fn) (hnm : (fn.name == "runtime.NumGoroutine") = false) (hb : fn.body.isSome = true)
    (hx : lookAll e args.toList = some xs) (hcall : ACall P f (fs ++ xs ++ cs) h R) : OCallR P o e h R := by
  intro H ι a w n Q hs
  have hvf := look_rel hs hfn
  obtain ⟨us, vs, hve, k1, k2, k3, k4⟩ := hvf.fn_inv
  have hraa := relAll_append (relAll_append ⟨k1, k3⟩ (relAll_map hs hx)) ⟨k2, k4⟩
  have hcalls := hcall H ι w _ hraa hs.heap
  have hexec : (execOp a.eval o).run P w = .ok (.enter f (us ++ args.map a.eval ++ vs)) w := by
    simp only [execOp, ho, resolve, hve, Deferred.ofValue, invoke, Sem.run_bind, Sem.run_pure, Result.andThen_ok, run_callFunc hf hnm hb]
  unfold Oper.wp
  rw [hexec]
  refine hcalls.mono fun en w' hh => ?_
  obtain ⟨v, r', h', H', ι', rfl, hR, k1, k2, k3⟩ := hh
  exact ⟨v, r', h', H', ι', hR, rfl, k1, k2, k3⟩
theorem o_inV {f : FuncId} {fn : Func} {x : Operand} {args : Array Operand} {tys : Array TypeId} {xs : List AV} (ho : o.op = .call { callee := .value x, args := args, argTypes := tys }) (hfn : look e x = some (.val (.func (.func f) #[] #[]))) (hf : P.funcs[f]? = some fn) (hnm : (fn.name == "runtime.NumGoroutine") = false) (hb : fn.body.isSome = true)
    (hx : lookAll e args.toList = some xs) (hcall : ACall P f xs h R) : OCallR P o e h R :=
  ocall_of (us := fun a => args.map a.eval) (fun H ι a w n hs => relAll_map hs hx) (fun H ι a w n hs => by
    have hye := ((look_rel hs hfn).val_inv).1
    simp only [execOp, ho, resolve, hye, Deferred.ofValue, invoke, Sem.run_bind, Sem.run_pure, Result.andThen_ok, Array.append_empty, Array.empty_append, run_callFunc hf hnm hb]) hcall
theorem o_inM {f : FuncId} {fn : Func} {recv : Operand} {name : String} {args : Array Operand} {tys : Array TypeId} {t : TypeId} {v : Value} {x0 : AV} {xs : List AV} (ho : o.op = .call { callee := .invoke recv name, args := args, argTypes := tys })
    (hr : look e recv = some (.val (.iface t v))) (hm : ∀ w, (method (P.types.size + Made.depth) t v name).run P w = .ok (f, v) w) (hv : ∀ H, Rel H noLay x0 v)
    (hf : P.funcs[f]? = some fn) (hnm : (fn.name == "runtime.NumGoroutine") = false) (hb : fn.body.isSome = true)
    (hx : lookAll e args.toList = some xs) (hcall : ACall P f (x0 :: xs) h R) : OCallR P o e h R :=
  ocall_of (us := fun a => #[v] ++ args.map a.eval) (fun H ι a w n hs => by
    have h1 : RelAll H ι [x0] #[v] := ⟨rfl, fun j x u h1 h2 => by
      cases j with
      | zero => simp at h1 h2; subst h1; subst h2; exact (hv H).mono (KLe.refl _) (LLe.none _)
      | succ j => simp at h1⟩
    exact relAll_append h1 (relAll_map hs hx)) (fun H ι a w n hs => by
    have hre := ((look_rel hs hr).val_inv).1
    have h0 : (#[Value.iface t v] ++ args.map a.eval)[0]? = some (.iface t v) := by
      rw [Array.getElem?_append_left (by simp)]; rfl
    have hex : (#[Value.iface t v] ++ args.map a.eval).extract 1 (#[Value.iface t v] ++ args.map a.eval).size = args.map a.eval := by
      apply Array.ext'
      simp only [Array.toList_extract, Array.toList_append, Array.toList_map, Array.size_append, Array.size_map, List.extract_eq_take_drop]
      exact List.take_of_length_le (by simp)
    simp only [execOp, ho, resolve, hre, invoke, Sem.run_bind, Sem.run_pure, Result.andThen_ok, h0, hex, callMethod, run_program, hm w, run_callFunc hf hnm hb]) hcall
theorem wpList_post {ops : Array Oper} {K : AState → Prop} {H H' : Know} {ι ι' : Lay} {h hn : AHeap} {w w' : World} (hpost : ∀ e a2 w2, Post H' ι' hn w' (Then K fun _ _ => False) e a2 w2 → Post H ι h w (Then K fun _ _ => False) e a2 w2) :
    ∀ (l : List Oper) (a1 : Act) (w1 : World), wpList P ops (Post H' ι' hn w' (Then K fun _ _ => False)) l a1 w1 → wpList P ops (Post H ι h w (Then K fun _ _ => False)) l a1 w1 := by
  intro l
  induction l with
  | nil => exact fun a1 w1 hp => hpost _ _ _ hp
  | cons o' l ih =>
    intro a1 w1 hp
    unfold wpList at hp ⊢
    by_cases hw : Region.wanted o' (yielded ops a1.tmps) = true
    · rw [if_pos hw] at hp ⊢
      rcases hp with hp | ⟨hp1, a2, w2, hp2⟩
      · refine .inl ?_
        have hp' := Oper.wp_mono (fun a2 w2 => ih a2 w2) hp
        clear hp
        unfold Oper.wp at hp' ⊢
        generalize (execOp a1.eval o').run P w1 = res at hp' ⊢
        cases res with
        | ok n w3 =>
          cases n <;> simp only [Oper.upon] at hp' ⊢ <;> first
            | exact hp'
            | exact Calls.mono hp' (fun e w4 he => by cases e <;> first | exact he | exact hpost _ _ _ he | (obtain ⟨a3, w5, hp3⟩ := he; exact ⟨a3, w5, hpost _ _ _ hp3⟩))
        | halt x w3 => cases x <;> simp only [Oper.upon] at hp' ⊢ <;> first | exact hpost _ _ _ hp' | exact hp'
      · exact .inr ⟨hp1, a2, w2, hpost _ _ _ hp2⟩
    · rw [if_neg hw] at hp ⊢
      exact ih _ _ hp
theorem AOps.inn {ops : Array Oper} {rest : List Oper} {n : Nat} {K : AState → Prop} (d : Nat) (hd : o.dst = some d) (hb : Nat.blt d n = true) (hg : guardIs ops o e = some true)
    (ho : OCallR P o e h (fun r hn => AOps P ops rest ⟨n, eput e d r, hn⟩ K)) : AOps P ops (o :: rest) ⟨n, e, h⟩ K := by
  intro H ι a w hs
  unfold wpList
  rw [guard_wanted hs hg]
  simp only [if_true]
  refine .inl (Oper.wp_mono (fun a' w' hx => ?_) (ho H ι a w n _ hs))
  obtain ⟨v, r, hn, H', ι', hr, rfl, h1, h2, h3⟩ := hx
  have hs' := hs.put (d := o.dst) (r := some r) h2 h3 (fun x ex => by cases ex; exact h1) (lt_of hd hb)
  rw [hd] at hs' ⊢
  exact wpList_post (fun e a2 w2 hp => Post.step hs.heap h2 h3 hp) _ _ _ (hr H' ι' _ w' hs')
end
def srcEv (h : AHeap) : AV → Option (List Nat × List (List AV))
  | .lst ex es => some ([], es)
  | .nil => some ([], [])
  | .ref b n off len => match h b with
    | some (.row p sz es) => match Nat.beq n es.length with
      | true => some ([b], (es.drop off).take len)
      | false => none
    | _ => none
  | _ => none
theorem srcEv_spec {h : AHeap} {q : AV} {R : List Nat} {es : List (List AV)} (e : srcEv h q = some (R, es)) : SrcOf h q R es := by
  unfold srcEv at e
  split at e
  · simp only [Option.some.injEq, Prod.mk.injEq] at e
    obtain ⟨rfl, rfl⟩ := e
    exact .lst _ _
  · simp only [Option.some.injEq, Prod.mk.injEq] at e
    obtain ⟨rfl, rfl⟩ := e
    exact .nil
  · split at e
    · rename_i hb
      split at e
      · rename_i h1
        simp only [Option.some.injEq, Prod.mk.injEq] at e
        obtain ⟨rfl, rfl⟩ := e
        exact .ref _ _ _ _ _ _ _ hb (Nat.eq_of_beq_eq_true h1)
      · cases e
    · cases e
  · cases e
def allLen (n : Nat) (es : List (List AV)) : Bool := es.all fun cs => Nat.beq cs.length n
theorem allLen_spec {n : Nat} {es : List (List AV)} (h : allLen n es = true) : ∀ cs ∈ es, cs.length = n := fun cs hc => Nat.eq_of_beq_eq_true (List.all_eq_true.1 h cs hc)
def allPure (p : Bool) (es : List (List AV)) : Bool := !p || es.all fun cs => cs.all AV.isPure1
theorem allPure_spec {p : Bool} {es : List (List AV)} (h : allPure p es = true) : p = true → ∀ cs ∈ es, cs.all AV.isPure1 = true := fun hp cs hc => by
  unfold allPure at h
  rw [hp, Bool.not_true, Bool.false_or] at h
  exact List.all_eq_true.1 h cs hc
abbrev XRes := List Nat × List (Nat × AObj) × Option AV × Nat
def appEv (T : Nat → Option TyI) (h : AHeap) (k : Nat) (t t' : TypeId) (p q : AV) : Option XRes :=
  match elemTy T t, elemTy T t', srcEv h q with
  | some j, some _, some (R, es2) => match zeroOk j, allLen j.size es2 with
    | true, true => match p with
      | .nil => match isFree h k, Nat.blt 0 es2.length, Nat.ble (es2.length * j.bytes) 140737488355328, Nat.ble es2.length maxLen with
        | true, true, true, true => some (k :: R, [(k, .row false j.size es2)], some (.ref k es2.length 0 es2.length), k + 1)
        | _, _, _, _ => none
      | .ref b n 0 len => match h b with
        | some (.row pu sz es) => match Nat.beq n es.length, Nat.beq sz j.size, allPure pu es2 with
          | true, true, true => match Nat.beq len n with
            | true => match Nat.ble ((es.length + es2.length) * j.bytes) 140737488355328, Nat.ble (es.length + es2.length) maxLen with
              | true, true => some (b :: R, [(b, .row pu sz (es ++ es2))], some (.ref b (n + es2.length) 0 (n + es2.length)), k)
              | _, _ => none
            | false => match es2, Nat.ble len n, Nat.ble ((es.length + 1) * j.bytes) 140737488355328, Nat.ble (es.length + 1) maxLen with
              | [cs2], true, true, true => some (b :: R, [(b, .row pu sz (pushE es len cs2))], some (.ref b (pushE es len cs2).length 0 (len + 1)), k)
              | _, _, _, _ => none
          | _, _, _ => none
        | _ => none
      | _ => none
    | _, _ => none
  | _, _, _ => none
section
variable {P : Program} {T : Nat → Option TyI} {o : Oper} {e : AEnv} {h : AHeap}
theorem appEv_spec (hT : TOk P T) {t t' : TypeId} {x y : Operand} {p q : AV} {k k' : Nat} {R : List Nat} {W : List (Nat × AObj)} {r : Option AV} (ho : o.op = .call { callee := .builtin .append, args := #[x, y], argTypes := #[t, t'] }) (hx : look e x = some p) (hy : look e y = some q)
    (hv : appEv T h k t t' p q = some (R, W, r, k')) : OLoc P o e h R W r := by
  unfold appEv at hv
  split at hv
  · rename_i j j' R0 es2 hj hj' hs
    obtain ⟨i, u, a1, a2, a3⟩ := elemTy_spec hj
    obtain ⟨i', u', b1, b2, b3⟩ := elemTy_spec hj'
    have hsrc := srcEv_spec hs
    split at hv
    · rename_i hz hl
      obtain ⟨z1, z2, z3⟩ := zeroOk_spec hz
      split at hv
      · split at hv
        · rename_i c1 c2 c3 c4
          simp only [Option.some.injEq, Prod.mk.injEq] at hv
          obtain ⟨rfl, rfl, rfl, rfl⟩ := hv
          exact o_appendN hT k ho hx hy a1 a2 a3 b1 b2 (isFree_spec c1) z1 z2 hsrc (allLen_spec hl) (by simpa [Nat.blt_eq] using c2) (Nat.le_of_ble_eq_true c3) (Nat.le_of_ble_eq_true c4)
        · cases hv
      · rename_i b n len
        split at hv
        · rename_i pu sz es hb
          split at hv
          · rename_i c1 c2 c3
            split at hv
            · rename_i c4
              have c4 := Nat.eq_of_beq_eq_true c4
              subst c4
              split at hv
              · rename_i c5 c6
                simp only [Option.some.injEq, Prod.mk.injEq] at hv
                obtain ⟨rfl, rfl, rfl, rfl⟩ := hv
                have c2' := Nat.eq_of_beq_eq_true c2
                exact o_append hT ho hx hy a1 a2 a3 b1 b2 hb (Nat.eq_of_beq_eq_true c1) c2' z1 z2 hsrc (by rw [c2']; exact allLen_spec hl) (allPure_spec c3) rfl (Nat.le_of_ble_eq_true c5) (Nat.le_of_ble_eq_true c6)
              · cases hv
            · split at hv
              · rename_i cs2 c5 c6 c7
                simp only [Option.some.injEq, Prod.mk.injEq] at hv
                obtain ⟨rfl, rfl, rfl, rfl⟩ := hv
                have c2' := Nat.eq_of_beq_eq_true c2
                exact o_push hT ho hx hy a1 a2 a3 b1 b2 hb (Nat.eq_of_beq_eq_true c1) (Nat.le_of_ble_eq_true c5) c2' z1 z2 hsrc (by rw [c2']; exact allLen_spec hl _ (by simp)) (fun hp => allPure_spec c3 hp _ (by simp)) (Nat.le_of_ble_eq_true c6) (Nat.le_of_ble_eq_true c7)
              · cases hv
          · cases hv
        · cases hv
      · cases hv
    · cases hv
  · cases hv
end
def xEv (T : Nat → Option TyI) (dst : Option Nat) (o : Op) (e : AEnv) (h : AHeap) (k : Nat) : Option XRes :=
  match o with
  | .alloc t => match T t, isFree h k with
    | some i, true => match zeroOk i with
      | true => some ([k], [(k, .row false i.size [i.zero])], some (.ptr k 1 0 0), k + 1)
      | false => none
    | _, _ => none
  | .box t x => match look e x, isFree h k with
    | some p, true => match Nat.blt 0 p.cells.length, p.cells.all AV.cell1 with
      | true, true => some ([k], [(k, .row false p.cells.length [p.cells])], some (.ptr k 1 0 0), k + 1)
      | _, _ => none
    | _, _ => none
  | .store t x y => match dst, look e x, look e y, T t with
    | none, some (.ptr b m k0 off), some q, some i => match h b with
      | some (.row p sz es) => match es[k0]?, Nat.beq m es.length, Nat.beq q.cells.length i.size, Nat.ble (off + i.size) sz, q.cells.all AV.cell1, (!p || q.cells.all AV.isPure1) with
        | some cs, true, true, true, true, true => some ([b], [(b, .row p sz (es.set k0 (splice cs off q.cells)))], none, k)
        | _, _, _, _, _, _ => none
      | _ => none
    | _, _, _, _ => none
  | .buildSlice t len parts => match lookParts e parts.toList, elemTy T t, isFree h k with
    | some ps, some j, true => match zeroOk j, decide (parts.toList.map (·.1) = List.range parts.toList.length), Nat.beq parts.toList.length len, sizesAre j.size ps, (partVals ps).all (·.all AV.cell1), Nat.ble (len * j.size) 16777216 with
      | true, true, true, true, true, true => some ([k], [(k, .row false j.size (partVals ps))], some (.ref k len 0 len), k + 1)
      | _, _, _, _, _, _ => none
    | _, _, _ => none
  | .makeSlice t x y => match look e x, look e y, elemTy T t, isFree h k with
    | some (.int _ zi), some (.int _ zj), some j, true => match zeroOk j, decide (0 ≤ zi), decide (0 ≤ zj), Nat.ble zi.toNat zj.toNat, Nat.ble (j.bytes * zj.toNat) 281474976710656, Nat.ble zj.toNat maxLen with
      | true, true, true, true, true, true => some ([k], [(k, .row false j.size (List.replicate zi.toNat j.zero))], some (.ref k zi.toNat 0 zi.toNat), k + 1)
      | _, _, _, _, _, _ => none
    | _, _, _, _ => none
  | .call ⟨.builtin .append, args, tys⟩ => match args.toList, tys.toList with
    | [x, y], [t, t'] => match look e x, look e y with
      | some p, some q => appEv T h k t t' p q
      | _, _ => none
    | _, _ => none
  | _ => none
section
variable {P : Program} {T : Nat → Option TyI} {o : Oper} {e : AEnv} {h : AHeap}
theorem arr_two {α : Type} {a : Array α} {x y : α} (h : a.toList = [x, y]) : a = #[x, y] := Array.ext' h
theorem xEv_spec (hT : TOk P T) {k k' : Nat} {R : List Nat} {W : List (Nat × AObj)} {r : Option AV} (hv : xEv T o.dst o.op e h k = some (R, W, r, k')) : OLoc P o e h R W r := by
  unfold xEv at hv
  split at hv
  · rename_i t ho
    split at hv
    · rename_i i hi hf
      split at hv
      · rename_i hz
        simp only [Option.some.injEq, Prod.mk.injEq] at hv
        obtain ⟨rfl, rfl, rfl, rfl⟩ := hv
        obtain ⟨z1, z2, z3⟩ := zeroOk_spec hz
        exact o_alloc hT k ho hi (isFree_spec hf) z1 z2 z3
      · cases hv
    · cases hv
  · rename_i t x ho
    split at hv
    · rename_i p hx hf
      split at hv
      · rename_i c1 c2
        simp only [Option.some.injEq, Prod.mk.injEq] at hv
        obtain ⟨rfl, rfl, rfl, rfl⟩ := hv
        exact o_box k ho hx (isFree_spec hf) rfl (by simpa [Nat.blt_eq] using c1) c2
      · cases hv
    · cases hv
  · rename_i t x y ho
    split at hv
    · rename_i b m k0 off q i hd hx hy hi
      split at hv
      · rename_i p sz es hb
        split at hv
        · rename_i cs c1 c2 c3 c4 c5 c6
          simp only [Option.some.injEq, Prod.mk.injEq] at hv
          obtain ⟨rfl, rfl, rfl, rfl⟩ := hv
          exact o_store hT ho hd hx hy hi hb (Nat.eq_of_beq_eq_true c2) c1 (Nat.eq_of_beq_eq_true c3) (Nat.le_of_ble_eq_true c4) c5 (fun hp => by rw [hp] at c6; simpa using c6)
        · cases hv
      · cases hv
    · cases hv
  · rename_i t len parts ho
    split at hv
    · rename_i ps j hp hj hf
      obtain ⟨i, u, a1, a2, a3⟩ := elemTy_spec hj
      split at hv
      · rename_i c1 c2 c3 c4 c5 c6
        simp only [Option.some.injEq, Prod.mk.injEq] at hv
        obtain ⟨rfl, rfl, rfl, rfl⟩ := hv
        obtain ⟨z1, z2, z3⟩ := zeroOk_spec c1
        exact o_litRow hT k false ho hp a1 a2 a3 z1 z2 (of_decide_eq_true c2) (Nat.eq_of_beq_eq_true c3) c4 c5 (fun h => by cases h) c6 (isFree_spec hf)
      · cases hv
    · cases hv
  · rename_i t x y ho
    split at hv
    · rename_i k1 zi k2 zj j hx hy hj hf
      obtain ⟨i, u, a1, a2, a3⟩ := elemTy_spec hj
      split at hv
      · rename_i c1 c2 c3 c4 c5 c6
        simp only [Option.some.injEq, Prod.mk.injEq] at hv
        obtain ⟨rfl, rfl, rfl, rfl⟩ := hv
        obtain ⟨z1, z2, z3⟩ := zeroOk_spec c1
        exact o_makeSlice hT k false ho hx hy (Int.toNat_of_nonneg (of_decide_eq_true c2)).symm (Int.toNat_of_nonneg (of_decide_eq_true c3)).symm a1 a2 a3 (isFree_spec hf) z1 z2 z3 (Nat.le_of_ble_eq_true c4) (Nat.le_of_ble_eq_true c5) (Nat.le_of_ble_eq_true c6)
      · cases hv
    · cases hv
  · rename_i args tys ho
    split at hv
    · rename_i x y t t' ha ht
      split at hv
      · rename_i p q hx hy
        exact appEv_spec hT (ho.trans (by rw [arr_two ha, arr_two ht])) hx hy hv
      · cases hv
    · cases hv
  · cases hv
end
section
variable {P : Program} {T : Nat → Option TyI} {o : Oper} {e : AEnv} {h : AHeap}
theorem o_range0 (hT : TOk P T) {t : TypeId} {x : Operand} {i : TyI} {u u' : Nat} (b : Nat) (ho : o.op = .range t x) (hx : look e x = some (.val (.map none))) (hi : T t = some i) (hk : i.k = .map u u') (hb : h b = some .free) : OLoc P o e h [b] [(b, .iter0)] (some (.ptr b 0 0 0)) := by
  intro H ι a w s Q hs h1 h2
  have hb' : s.h b = some .free := by rw [h2 b (by simp), hb]
  have hx' : look s.env x = some (.val (.map none)) := by rw [h1 x (by rw [ho]; simp [Op.operands]), hx]
  have hv := ((look_rel hs hx').val_inv).1
  obtain ⟨info, d, e1, e2, e3, e4, e5, e6⟩ := tyOf_spec (hT _ _ hi)
  have hd := tk_map (P := P) (d := d) (e3 ▸ hk)
  subst hd
  obtain ⟨u1, u2⟩ := hs.heap.upd (o' := .iter0) (r' := ⟨w.heap.size, 0, 0, 1⟩) (w' := w.alloc (.mapIter none 0 #[] 0)) hb' rfl (.inl rfl) (fun _ => .inl (Nat.le_refl _)) (fun rb hlt _ => heap_alloc_old w _ hlt) (by simp) rfl rfl
    ⟨rfl, rfl, by simp [Ent.solid], heap_alloc_new w _⟩
  have hrun : (execOp a.eval o).run P w = .ok (.value (.pointer (some ⟨w.heap.size, 0, none⟩))) (w.alloc (.mapIter none 0 #[] 0)) := by
    simp [execOp, ho, Instr.range, hv, run_underlying' e2]
  unfold Oper.wp
  rw [hrun]
  refine ⟨_, H, _, rfl, fun x ex => ?_, u1, u2⟩
  cases ex
  have := Rel.ptrL (H := H) (lput ι b ⟨w.heap.size, 0, 0, 1⟩) b 0 0 0 _ (lput_same _ _ _) rfl
  simpa using this
theorem q_next0 {x : Operand} {b : Nat} (ho : o.op = .next x false) (hx : look e x = some (.ptr b 0 0 0)) (hb : h b = some .iter0) : QLoc P o e h [b] (.tup [.bool false]) := by
  intro H ι a w s hs h1 h2
  have hb' : s.h b = some .iter0 := by rw [h2 b (by simp), hb]
  have hx' : look s.env x = some (.ptr b 0 0 0) := by rw [h1 x (by rw [ho]; simp [Op.operands]), hx]
  obtain ⟨r, r1, ⟨r2, r2n, r3, r4⟩, r5⟩ := hs.heap.obj b _ hb' rfl
  have hv : a.eval x = .pointer (some ⟨r.rb, 0, none⟩) := by
    have hv := look_rel hs hx'
    generalize a.eval x = v at hv
    cases hv with
    | ptrL _ _ _ _ _ r' e1 e2 => rw [r1] at e1; cases e1; simp
    | ptrS _ _ _ _ _ r' ad e1 e2 =>
      rw [r1] at e1; cases e1
      omega
  refine ⟨.tuple #[.bool false], .tup _ _ _ rfl (fun j x v h1 h2 => ?_), ?_⟩
  · cases j with
    | zero => simp at h1 h2; subst h1; subst h2; exact .bool _ _
    | succ j => simp at h1
  · have hg : (getObj r.rb).run P w = .ok (.mapIter none 0 #[] 0) w := by simp [getObj, Sem.run, r4]
    simp [execOp, ho, hv, Instr.next, hg]
end
def unkv (K : IntKind) : List (AV × AV) → Option NMap
  | [] => some []
  | (.int K' z, v) :: r => match decide (K' = K), unkv K r with
    | true, some m => some ((z, v) :: m)
    | _, _ => none
  | _ :: _ => none
theorem unkv_spec {K : IntKind} : ∀ {l : List (AV × AV)} {m : NMap}, unkv K l = some m → l = kvs K m
  | [], m, h => by simp [unkv] at h; subst h; rfl
  | (k, v) :: r, m, h => by
    cases k with
    | int K' z =>
      unfold unkv at h
      split at h
      · rename_i m' h1 h2
        simp only [Option.some.injEq] at h
        subst h
        have := of_decide_eq_true h1
        subst this
        rw [unkv_spec h2]; rfl
      · cases h
    | _ => simp [unkv] at h
def intOf : TK → Option IntKind
  | .int K => some K
  | _ => none
theorem intOf_spec {k : TK} {K : IntKind} (h : intOf k = some K) : k = .int K := by
  cases k <;> simp [intOf] at h
  subst h; rfl
def mapTy (T : Nat → Option TyI) (t : Nat) : Option (IntKind × Nat) := match T t with
  | some i => match i.k with
    | .map kt et => match T kt with
      | some j => match intOf j.k with
        | some K => some (K, et)
        | none => none
      | none => none
    | _ => none
  | none => none
theorem mapTy_spec {T : Nat → Option TyI} {t : Nat} {K : IntKind} {et : Nat} (h : mapTy T t = some (K, et)) : ∃ i j kt, T t = some i ∧ i.k = .map kt et ∧ T kt = some j ∧ j.k = .int K := by
  unfold mapTy at h
  split at h
  · rename_i i hi
    split at h
    · rename_i kt et' hk
      split at h
      · rename_i j hj
        split at h
        · rename_i K' hK
          simp only [Option.some.injEq, Prod.mk.injEq] at h
          obtain ⟨rfl, rfl⟩ := h
          exact ⟨i, j, kt, hi, hk, hj, intOf_spec hK⟩
        · cases h
      · cases h
    · cases h
  · cases h
def isMapTy (T : Nat → Option TyI) (t : Nat) : Bool := match T t with
  | some i => match i.k with
    | .map _ _ => true
    | _ => false
  | none => false
theorem isMapTy_spec {T : Nat → Option TyI} {t : Nat} (h : isMapTy T t = true) : ∃ i k u, T t = some i ∧ i.k = .map k u := by
  unfold isMapTy at h
  split at h
  · rename_i i hi
    split at h
    · rename_i k u hk; exact ⟨i, k, u, hi, hk⟩
    · cases h
  · cases h
def zeroAt (P : Program) (et : Nat) : Option AV := match (P.info? et).bind (·.zero) with
  | some zv => cellAV zv
  | none => none
theorem zeroAt_spec {P : Program} {et : Nat} {z0 : AV} (h : zeroAt P et = some z0) : ∃ zv, (P.info? et).bind (·.zero) = some zv ∧ cellAV zv = some z0 := by
  unfold zeroAt at h
  split at h
  · rename_i zv hz; exact ⟨zv, hz, h⟩
  · cases h
def qEv3 (P : Program) (T : Nat → Option TyI) (o : Op) (e : AEnv) (h : AHeap) : Option (List Nat × AV) :=
  match o with
  | .next x false => match look e x with
    | some (.ptr b 0 0 0) => match h b with
      | some .iter0 => some ([b], .tup [.bool false])
      | _ => none
    | _ => none
  | .lookup t x y true => match look e x, look e y, mapTy T t with
    | some (.map b), some (.int K z), some (K', et) => match h b, zeroAt P et, decide (K' = K) with
      | some (.map l), some z0, true => match unkv K l with
        | some m => some ([b], .tup [(kget z m).getD z0, .bool (kget z m).isSome])
        | none => none
      | _, _, _ => none
    | _, _, _ => none
  | .binOp .eql t x y _ => match look e x, look e y, T t with
    | some (.bool a), some (.bool b), some i => match i.k with
      | .bool => some ([], .bool (a == b))
      | _ => none
    | some (.agg xs), some (.agg ys), some i => match i.k, eqPlain P t, eqCells xs ys with
      | .struct fs, true, some r => match cellKinds T fs xs, cellKinds T fs ys with
        | true, true => some ([], .bool r)
        | _, _ => none
      | _, _, _ => none
    | _, _, _ => none
  | .binOp .neq t x y _ => match look e x, look e y, T t with
    | some (.bool a), some (.bool b), some i => match i.k with
      | .bool => some ([], .bool (a != b))
      | _ => none
    | some (.agg xs), some (.agg ys), some i => match i.k, eqPlain P t, eqCells xs ys with
      | .struct fs, true, some r => match cellKinds T fs xs, cellKinds T fs ys with
        | true, true => some ([], .bool (!r))
        | _, _ => none
      | _, _, _ => none
    | _, _, _ => none
  | _ => none
section
variable {P : Program} {T : Nat → Option TyI} {o : Oper} {e : AEnv} {h : AHeap} {R : List Nat} {r : AV}
theorem qEv3_spec (hT : TOk P T) (hq : qEv3 P T o.op e h = some (R, r)) : QLoc P o e h R r := by
  unfold qEv3 at hq
  split at hq
  · rename_i x ho
    split at hq
    · rename_i b hx
      split at hq
      · rename_i hb
        simp only [Option.some.injEq, Prod.mk.injEq] at hq
        obtain ⟨rfl, rfl⟩ := hq
        exact q_next0 ho hx hb
      · cases hq
    · cases hq
  · rename_i t x y ho
    split at hq
    · rename_i b K z K' et hx hy ht
      split at hq
      · rename_i l z0 hb hz hK
        split at hq
        · rename_i m hm
          simp only [Option.some.injEq, Prod.mk.injEq] at hq
          obtain ⟨rfl, rfl⟩ := hq
          have hK := of_decide_eq_true hK
          subst hK
          obtain ⟨i, j, kt, a1, a2, a3, a4⟩ := mapTy_spec ht
          obtain ⟨zv, z1, z2⟩ := zeroAt_spec hz
          exact q_lookupOk hT ho hx hy (by rw [hb, unkv_spec hm]) a1 a2 a3 a4 z1 z2
        · cases hq
      · cases hq
    · cases hq
  · rename_i t x y t' ho
    split at hq
    · rename_i a b i hx hy hi
      split at hq
      · rename_i hk
        simp only [Option.some.injEq, Prod.mk.injEq] at hq
        obtain ⟨rfl, rfl⟩ := hq
        exact q_boolEq hT false ho hx hy hi hk
      · cases hq
    · rename_i xs ys i hx hy hi
      split at hq
      · rename_i fs r' hk hp hr
        split at hq
        · rename_i h1 h2
          simp only [Option.some.injEq, Prod.mk.injEq] at hq
          obtain ⟨rfl, rfl⟩ := hq
          exact q_eqStruct hT false ho hx hy hp hi hk h1 h2 hr
        · cases hq
      · cases hq
    · cases hq
  · rename_i t x y t' ho
    split at hq
    · rename_i a b i hx hy hi
      split at hq
      · rename_i hk
        simp only [Option.some.injEq, Prod.mk.injEq] at hq
        obtain ⟨rfl, rfl⟩ := hq
        exact q_boolEq hT true ho hx hy hi hk
      · cases hq
    · rename_i xs ys i hx hy hi
      split at hq
      · rename_i fs r' hk hp hr
        split at hq
        · rename_i h1 h2
          simp only [Option.some.injEq, Prod.mk.injEq] at hq
          obtain ⟨rfl, rfl⟩ := hq
          exact q_eqStruct hT true ho hx hy hp hi hk h1 h2 hr
        · cases hq
      · cases hq
    · cases hq
  · cases hq
end
def xEv3 (T : Nat → Option TyI) (dst : Option Nat) (o : Op) (e : AEnv) (h : AHeap) (k : Nat) : Option XRes :=
  match o with
  | .range t x => match look e x, isFree h k, isMapTy T t with
    | some (.val (.map none)), true, true => some ([k], [(k, .iter0)], some (.ptr k 0 0 0), k + 1)
    | _, _, _ => none
  | .makeMap t none => match mapTy T t, isFree h k with
    | some (K, _), true => some ([k], [(k, .map (kvs K []))], some (.map k), k + 1)
    | _, _ => none
  | .mapUpdate t x y u => match dst, look e x, look e y, look e u, mapTy T t with
    | none, some (.map b), some (.int K z), some q, some (K', _) => match h b, q.isPure, decide (K' = K) with
      | some (.map l), true, true => match unkv K l with
        | some m => some ([b], [(b, .map (kvs K (kset z q m)))], none, k)
        | none => none
      | _, _, _ => none
    | _, _, _, _, _ => none
  | .call ⟨.builtin .delete, args, tys⟩ => match dst, args.toList, tys.toList with
    | none, [x, y], [t, _] => match look e x, look e y, mapTy T t with
      | some (.map b), some (.int K z), some (K', _) => match h b, decide (K' = K) with
        | some (.map l), true => match unkv K l with
          | some m => some ([b], [(b, .map (kvs K (kdel z m)))], none, k)
          | none => none
        | _, _ => none
      | _, _, _ => none
    | _, _, _ => none
  | _ => none
section
variable {P : Program} {T : Nat → Option TyI} {o : Oper} {e : AEnv} {h : AHeap}
theorem xEv3_spec (hT : TOk P T) {k k' : Nat} {R : List Nat} {W : List (Nat × AObj)} {r : Option AV} (hv : xEv3 T o.dst o.op e h k = some (R, W, r, k')) : OLoc P o e h R W r := by
  unfold xEv3 at hv
  split at hv
  · rename_i t x ho
    split at hv
    · rename_i hx hf hm
      simp only [Option.some.injEq, Prod.mk.injEq] at hv
      obtain ⟨rfl, rfl, rfl, rfl⟩ := hv
      obtain ⟨i, kk, u, a1, a2⟩ := isMapTy_spec hm
      exact o_range0 hT k ho hx a1 a2 (isFree_spec hf)
    · cases hv
  · rename_i t ho
    split at hv
    · rename_i K et hm hf
      simp only [Option.some.injEq, Prod.mk.injEq] at hv
      obtain ⟨rfl, rfl, rfl, rfl⟩ := hv
      exact o_makeMap K k ho (isFree_spec hf)
    · cases hv
  · rename_i t x y u ho
    split at hv
    · rename_i b K z q K' et hd hx hy hu hm
      split at hv
      · rename_i l hb hp hK
        split at hv
        · rename_i m hl
          simp only [Option.some.injEq, Prod.mk.injEq] at hv
          obtain ⟨rfl, rfl, rfl, rfl⟩ := hv
          have hK := of_decide_eq_true hK
          subst hK
          obtain ⟨i, j, kt, a1, a2, a3, a4⟩ := mapTy_spec hm
          exact o_mapUpdate hT ho hd hx hy hu hp (by rw [hb, unkv_spec hl]) a1 a2 a3 a4
        · cases hv
      · cases hv
    · cases hv
  · rename_i args tys ho
    split at hv
    · rename_i x y t tk hd ha ht
      split at hv
      · rename_i b K z K' et hx hy hm
        split at hv
        · rename_i l hb hK
          split at hv
          · rename_i m hl
            simp only [Option.some.injEq, Prod.mk.injEq] at hv
            obtain ⟨rfl, rfl, rfl, rfl⟩ := hv
            have hK := of_decide_eq_true hK
            subst hK
            obtain ⟨i, j, kt, a1, a2, a3, a4⟩ := mapTy_spec hm
            exact o_delete hT (ho.trans (by rw [arr_two ha, arr_two ht])) hd hx hy (by rw [hb, unkv_spec hl]) a1 a2 a3 a4
          · cases hv
        · cases hv
      · cases hv
    · cases hv
  · cases hv
end
def unarr (K : IntKind) : List AV → Option (List Int)
  | [] => some []
  | .int K' z :: r => match decide (K' = K), unarr K r with
    | true, some l => some (z :: l)
    | _, _ => none
  | _ :: _ => none
theorem unarr_spec {K : IntKind} : ∀ {l : List AV} {z : List Int}, unarr K l = some z → l = arrAV K z
  | [], z, h => by simp [unarr] at h; subst h; rfl
  | x :: r, z, h => by
    cases x with
    | int K' n =>
      unfold unarr at h
      split at h
      · rename_i l h1 h2
        simp only [Option.some.injEq] at h
        subst h
        have := of_decide_eq_true h1
        subst this
        rw [unarr_spec h2]; rfl
      · cases h
    | _ => simp [unarr] at h
def unkvA (K : IntKind) (n : Nat) : List (AV × AV) → Option AMap
  | [] => some []
  | (.agg ks, v) :: r => match unarr K ks, unkvA K n r with
    | some z, some m => match Nat.beq z.length n with
      | true => some ((z, v) :: m)
      | false => none
    | _, _ => none
  | _ :: _ => none
theorem unkvA_spec {K : IntKind} {n : Nat} : ∀ {l : List (AV × AV)} {m : AMap}, unkvA K n l = some m → l = kvsA K m ∧ ∀ p ∈ m, p.1.length = n
  | [], m, h => by simp [unkvA] at h; subst h; exact ⟨rfl, fun p hp => by cases hp⟩
  | (k, v) :: r, m, h => by
    cases k with
    | agg ks =>
      unfold unkvA at h
      split at h
      · rename_i z m' h1 h2
        split at h
        · rename_i h3
          simp only [Option.some.injEq] at h
          subst h
          obtain ⟨a1, a2⟩ := unkvA_spec h2
          refine ⟨by rw [a1, unarr_spec h1]; rfl, fun p hp => ?_⟩
          rcases List.mem_cons.1 hp with rfl | hp
          · exact Nat.eq_of_beq_eq_true h3
          · exact a2 p hp
        · cases h
      · cases h
    | _ => simp [unkvA] at h
def arrTy (P : Program) (T : Nat → Option TyI) (t : Nat) : Option (Nat × IntKind) := match T t with
  | some i => match i.k with
    | .array n e0 => match T e0, Nat.beq (P.cellsOf e0) 1 with
      | some j, true => match intOf j.k with
        | some K => some (n, K)
        | none => none
      | _, _ => none
    | _ => none
  | none => none
theorem arrTy_spec {P : Program} {T : Nat → Option TyI} {t n : Nat} {K : IntKind} (h : arrTy P T t = some (n, K)) : ∃ i e0 j, T t = some i ∧ i.k = .array n e0 ∧ T e0 = some j ∧ j.k = .int K ∧ P.cellsOf e0 = 1 := by
  unfold arrTy at h
  split at h
  · rename_i i hi
    split at h
    · rename_i n' e0 hk
      split at h
      · rename_i j hj hc
        split at h
        · rename_i K' hK
          simp only [Option.some.injEq, Prod.mk.injEq] at h
          obtain ⟨rfl, rfl⟩ := h
          exact ⟨i, e0, j, hi, hk, hj, intOf_spec hK, Nat.eq_of_beq_eq_true hc⟩
        · cases h
      · cases h
    · cases h
  · cases h
def mapTyA (P : Program) (T : Nat → Option TyI) (t : Nat) : Option (Nat × IntKind × Nat) := match T t with
  | some i => match i.k with
    | .map kt et => match arrTy P T kt with
      | some (n, K) => some (n, K, et)
      | none => none
    | _ => none
  | none => none
theorem mapTyA_spec {P : Program} {T : Nat → Option TyI} {t n et : Nat} {K : IntKind} (h : mapTyA P T t = some (n, K, et)) : ∃ i kt, T t = some i ∧ i.k = .map kt et ∧ arrTy P T kt = some (n, K) := by
  unfold mapTyA at h
  split at h
  · rename_i i hi
    split at h
    · rename_i kt et' hk
      split at h
      · rename_i n' K' ha
        simp only [Option.some.injEq, Prod.mk.injEq] at h
        obtain ⟨rfl, rfl, rfl⟩ := h
        exact ⟨i, kt, hi, hk, ha⟩
      · cases h
    · cases h
  · cases h
section
variable {P : Program} {T : Nat → Option TyI} {o : Oper} {e : AEnv} {h : AHeap}
theorem q_sliceEnd (hT : TOk P T) {t : TypeId} {x y : Operand} {b n off len : Nat} {i j : TyI} {u : Nat} {k : IntKind} (ho : o.op = .slice t x (some y) none none) (hx : look e x = some (.ref b n off len)) (hy : look e y = some (.int k (len : Int))) (ht : T t = some i) (hk : i.k = .slice u) (hj : T u = some j)
    {p : Bool} {sz : Nat} {es : List (List AV)} (hb : h b = some (.row p sz es)) (hn : n = es.length) (h0 : 0 < es.length) : QLoc P o e h [b] (.lst false []) := by
  intro H ι a w s hs g1 g2
  have hx' : look s.env x = some (.ref b n off len) := by rw [g1 x (by rw [ho]; simp [Op.operands]), hx]
  have hy' : look s.env y = some (.int k (len : Int)) := by rw [g1 y (by rw [ho]; simp [Op.operands]), hy]
  have hb' : s.h b = some (.row p sz es) := by rw [g2 b (by simp), hb]
  obtain ⟨info, d, e1, e2, e3, e4, e5, e6⟩ := tyOf_spec (hT _ _ ht)
  obtain ⟨info', d', e1', e2', e3', e4', e5', e6'⟩ := tyOf_spec (hT _ _ hj)
  have hd := tk_slice (P := P) (d := d) (e3 ▸ hk)
  subst hd
  have hvx := look_rel hs hx'
  have hvy := (look_rel hs hy').int_inv
  generalize hva : a.eval x = va at hvx
  obtain ⟨r, r1, ⟨o1, o2, o3, o4, o5, o6⟩, _⟩ := hs.heap.obj b _ hb' rfl
  have hcs : r.csz ≠ 0 := by
    have : 0 < es.length * sz := Nat.mul_pos h0 o2
    omega
  obtain ⟨hle, cap, rfl, c1, c2, c3⟩ := Rel.ref_live hvx r1 (by rw [hn, o3]) hcs
  refine ⟨.slice (if cap - len = 0 then (some ⟨r.rb, off * r.sz, none⟩) else (some ⟨r.rb, off * r.sz, none⟩ : Option Addr).map (·.add (len * j.size))) (len - len) (cap - len), ?_, ?_⟩
  · rw [Nat.sub_self]
    exact .lst0 _ _ _ _ (fun h => by cases h) (by omega) (fun hh => by split at hh <;> cases hh) trivial
  · simp only [execOp, ho, hva, hvy, Instr.sliceAt, Instr.slice, Option.map_none, Option.map_some, Sem.run_bind, run_underlying' e2, Result.andThen_ok, run_isz e1', e4', Sem.run_pure]
    have hce : (cap = len) = (cap - len = 0) := propext (by omega)
    simp [Instr.sliceBounds, Instr.sliceBound, asIntOf, c1, hce]
theorem q_bytesRow (hT : TOk P T) {t u : TypeId} {x : Operand} {l : List UInt8} {i j k : TyI} {v : Nat} {b n : Nat} {p : Bool} (ho : o.op = .convert t u x) (hx : look e x = some (.ref b n 0 n)) (hb : h b = some (.row p 1 (byteCells l))) (hn : n = l.length) (h0 : 0 < l.length)
    (hi : T t = some i) (hik : i.k = .slice v) (hv : T v = some k) (hk : k.k = .int .u8) (hj : T u = some j) (hjk : j.k = .string) : QLoc P o e h [b] (.str ⟨l.toArray⟩) := by
  intro H ι a w s hs g1 g2
  have hx' : look s.env x = some (.ref b n 0 n) := by rw [g1 x (by rw [ho]; simp [Op.operands]), hx]
  have hb' : s.h b = some (.row p 1 (byteCells l)) := by rw [g2 b (by simp), hb]
  obtain ⟨info, d, e1, e2, e3, e4, e5, e6⟩ := tyOf_spec (hT _ _ hi)
  obtain ⟨info', d', e1', e2', e3', e4', e5', e6'⟩ := tyOf_spec (hT _ _ hj)
  obtain ⟨info'', d'', e1'', e2'', e3'', e4'', e5'', e6''⟩ := tyOf_spec (hT _ _ hv)
  have hd := tk_slice (P := P) (d := d) (e3 ▸ hik)
  subst hd
  have hd := tk_string (P := P) (d := d') (e3' ▸ hjk)
  subst hd
  have hd := tk_int (P := P) (d := d'') (e3'' ▸ hk)
  subst hd
  have hvx := look_rel hs hx'
  generalize hva : a.eval x = va at hvx
  obtain ⟨r, r1, ⟨o1, o2, o3, o4, o5, o6⟩, _⟩ := hs.heap.obj b _ hb' rfl
  have hlen : (byteCells l).length = l.length := by simp [byteCells]
  have hcs : r.csz ≠ 0 := by omega
  obtain ⟨hle, cap, rfl, c1, c2, c3⟩ := Rel.ref_live hvx r1 (by omega) hcs
  obtain ⟨c, TT, d1, d2, d3, d4⟩ := o6 hcs
  refine ⟨_, .str _ _, ?_⟩
  simp only [execOp, ho, hva, Sem.run_bind]
  have key : (Go.convert t u (.slice (some ⟨r.rb, 0 * r.sz, none⟩) n cap)).run P w = .ok (.string ⟨l.toArray⟩) w := by
    rw [run_convert_bytes_string w t u v (some ⟨r.rb, 0 * r.sz, none⟩) n cap e2 e2'' e2']
    rw [run_bytesToString w _ _ cap (l.map (fun b : UInt8 => ((b.toNat : Nat) : Int))) ?_, push_all]
    have hld := run_loadCells_list (P := P) (w := w) ⟨r.rb, 0 * r.sz, none⟩ (l.map (fun b : UInt8 => Value.int .u8 b.toNat)) (fun j y hj => by
      rw [List.getElem?_map] at hj
      cases hlj : l[j]? with
      | none => rw [hlj] at hj; cases hj
      | some m =>
        rw [hlj] at hj
        cases hj
        have hbc : (byteCells l)[j]? = some [AV.int .u8 m.toNat] := by simp [byteCells, hlj]
        obtain ⟨v', q1, q2, q3⟩ := d4 j _ 0 _ hbc rfl
        rw [add_mk, d1.cell, Nat.zero_mul, Nat.zero_add]
        rw [q2.int_inv, Nat.mul_one, Nat.add_zero] at q1
        exact q1)
    rw [hn]
    simpa [List.map_map, Function.comp_def] using hld
  simp only [key, Result.andThen_ok, Sem.run_pure]
end
def unbytes : List (List AV) → Option (List UInt8)
  | [] => some []
  | [.int .u8 z] :: r => match decide (((UInt8.ofNat z.toNat).toNat : Int) = z), unbytes r with
    | true, some l => some (UInt8.ofNat z.toNat :: l)
    | _, _ => none
  | _ :: _ => none
theorem unbytes_spec : ∀ {es : List (List AV)} {l : List UInt8}, unbytes es = some l → es = byteCells l
  | [], l, h => by simp [unbytes] at h; subst h; rfl
  | cs :: r, l, h => by
    unfold unbytes at h
    split at h
    · rename_i he; cases he
    · rename_i z r' he
      cases he
      split at h
      · rename_i l' h1 h2
        simp only [Option.some.injEq] at h
        subst h
        have h1 := of_decide_eq_true h1
        have := unbytes_spec h2
        rw [this]
        simp only [byteCells, List.map_cons, h1]
      · cases h
    · cases h
def qEv4 (P : Program) (T : Nat → Option TyI) (o : Op) (e : AEnv) (h : AHeap) : Option (List Nat × AV) :=
  match o with
  | .lookup t x y true => match look e x, look e y, mapTyA P T t with
    | some (.map b), some (.agg ks), some (n, K, et) => match h b, zeroAt P et, unarr K ks with
      | some (.map l), some z0, some z => match unkvA K n l, Nat.beq z.length n with
        | some m, true => some ([b], .tup [(aget z m).getD z0, .bool (aget z m).isSome])
        | _, _ => none
      | _, _, _ => none
    | _, _, _ => none
  | .build t parts => match lookParts e parts.toList, T t with
    | some ps, some i => match i.k with
      | .array len u => match T u with
        | some j => match zeroOk i, partsFit T (arrFs len j.size u) ps, partCells (arrFs len j.size u) ps i.zero with
          | true, true, some r => some ([], .agg r)
          | _, _, _ => none
        | none => none
      | _ => none
    | _, _ => none
  | .binOp .eql t x y _ => match look e x, look e y, arrTy P T t with
    | some (.agg xs), some (.agg ys), some (n, K) => match unarr K xs, unarr K ys, P.eqGuardType P.depth t with
      | some l1, some l2, false => match Nat.beq l1.length n, Nat.beq l2.length n with
        | true, true => some ([], .bool (decide (l1 = l2)))
        | _, _ => none
      | _, _, _ => none
    | _, _, _ => none
  | .binOp .neq t x y _ => match look e x, look e y, arrTy P T t with
    | some (.agg xs), some (.agg ys), some (n, K) => match unarr K xs, unarr K ys, P.eqGuardType P.depth t with
      | some l1, some l2, false => match Nat.beq l1.length n, Nat.beq l2.length n with
        | true, true => some ([], .bool (!decide (l1 = l2)))
        | _, _ => none
      | _, _, _ => none
    | _, _, _ => none
  | .slice t x (some y) none none => match look e x, look e y, elemTy T t with
    | some (.ref b n off len), some (.int k z), some j => match h b, decide (z = (len : Int)) with
      | some (.row p sz es), true => match Nat.beq n es.length, Nat.blt 0 es.length with
        | true, true => some ([b], .lst false [])
        | _, _ => none
      | _, _ => none
    | some (.lst ex es), some (.int k z), some j => match decide (0 ≤ z), decide (z.toNat ≤ es.length), es.all (fun cs => Nat.beq cs.length j.size) with
      | true, true, true => some ([], .lst (ex && Nat.beq es.length es.length) ((es.take es.length).drop z.toNat))
      | _, _, _ => none
    | _, _, _ => none
  | .slice t x none (some y) (some y') => match look e x, look e y, look e y', elemTy T t with
    | some (.lst ex es), some (.int k z), some (.int k' z'), some j => match decide (z = (es.length : Int)), decide (z' = (es.length : Int)) with
      | true, true => some ([], .lst true es)
      | _, _ => none
    | _, _, _, _ => none
  | .convert t u x => match look e x, elemTy T t, T u with
    | some (.ref b n 0 m), some k, some j => match h b, intOf k.k, j.k with
      | some (.row p 1 es), some .u8, .string => match unbytes es with
        | some l => match Nat.beq n m, Nat.beq n l.length, Nat.blt 0 l.length with
          | true, true, true => some ([b], .str ⟨l.toArray⟩)
          | _, _, _ => none
        | none => none
      | _, _, _ => none
    | _, _, _ => none
  | _ => none
section
variable {P : Program} {T : Nat → Option TyI} {o : Oper} {e : AEnv} {h : AHeap} {R : List Nat} {r : AV}
theorem qEv4_spec (hT : TOk P T) (hq : qEv4 P T o.op e h = some (R, r)) : QLoc P o e h R r := by
  unfold qEv4 at hq
  split at hq
  · rename_i t x y ho
    split at hq
    · rename_i b ks n K et hx hy ht
      split at hq
      · rename_i l z0 z hb hz hks
        split at hq
        · rename_i m hm hzn
          simp only [Option.some.injEq, Prod.mk.injEq] at hq
          obtain ⟨rfl, rfl⟩ := hq
          obtain ⟨i, kt, a1, a2, a3⟩ := mapTyA_spec ht
          obtain ⟨j, e0, j0, b1, b2, b3, b4, b5⟩ := arrTy_spec a3
          obtain ⟨m1, m2⟩ := unkvA_spec hm
          obtain ⟨zv, z1, z2⟩ := zeroAt_spec hz
          exact q_lookupOkA hT ho hx (by rw [hy, unarr_spec hks]) (by rw [hb, m1]) a1 a2 b1 b2 b3 b4 b5 (Nat.eq_of_beq_eq_true hzn) m2 z1 z2
        · cases hq
      · cases hq
    · cases hq
  · rename_i t parts ho
    split at hq
    · rename_i ps i hp hi
      split at hq
      · rename_i len u hk
        split at hq
        · rename_i j hj
          split at hq
          · rename_i r' hz hf hr
            simp only [Option.some.injEq, Prod.mk.injEq] at hq
            obtain ⟨rfl, rfl⟩ := hq
            obtain ⟨z1, z2, z3⟩ := zeroOk_spec hz
            exact q_build_arr hT ho hp hi hk hj z1 z2 hf hr
          · cases hq
        · cases hq
      · cases hq
    · cases hq
  · rename_i t x y t' ho
    split at hq
    · rename_i xs ys n K hx hy ha
      split at hq
      · rename_i l1 l2 h1 h2 hg
        split at hq
        · rename_i h3 h4
          simp only [Option.some.injEq, Prod.mk.injEq] at hq
          obtain ⟨rfl, rfl⟩ := hq
          obtain ⟨j, e0, j0, b1, b2, b3, b4, b5⟩ := arrTy_spec ha
          exact q_eqInts hT false ho (by rw [hx, unarr_spec h1]) (by rw [hy, unarr_spec h2]) hg b1 b2 b3 b4 (Nat.eq_of_beq_eq_true h3) (Nat.eq_of_beq_eq_true h4) b5
        · cases hq
      · cases hq
    · cases hq
  · rename_i t x y t' ho
    split at hq
    · rename_i xs ys n K hx hy ha
      split at hq
      · rename_i l1 l2 h1 h2 hg
        split at hq
        · rename_i h3 h4
          simp only [Option.some.injEq, Prod.mk.injEq] at hq
          obtain ⟨rfl, rfl⟩ := hq
          obtain ⟨j, e0, j0, b1, b2, b3, b4, b5⟩ := arrTy_spec ha
          exact q_eqInts hT true ho (by rw [hx, unarr_spec h1]) (by rw [hy, unarr_spec h2]) hg b1 b2 b3 b4 (Nat.eq_of_beq_eq_true h3) (Nat.eq_of_beq_eq_true h4) b5
        · cases hq
      · cases hq
    · cases hq
  · rename_i t x y ho
    split at hq
    · rename_i b n off len k z j hx hy hj
      split at hq
      · rename_i p sz es hb hz
        split at hq
        · rename_i h1 h2
          simp only [Option.some.injEq, Prod.mk.injEq] at hq
          obtain ⟨rfl, rfl⟩ := hq
          obtain ⟨i, u, a1, a2, a3⟩ := elemTy_spec hj
          exact q_sliceEnd hT ho hx (by rw [hy, of_decide_eq_true hz]) a1 a2 a3 hb (Nat.eq_of_beq_eq_true h1) (by simpa [Nat.blt_eq] using h2)
        · cases hq
      · cases hq
    · rename_i ex es k z j hx hy hj
      split at hq
      · rename_i h0 hz h1
        simp only [Option.some.injEq, Prod.mk.injEq] at hq
        obtain ⟨rfl, rfl⟩ := hq
        obtain ⟨i, u, a1, a2, a3⟩ := elemTy_spec hj
        exact q_slice_lst hT z.toNat es.length ho hx a1 a2 a3 ⟨k, by rw [hy, Int.toNat_of_nonneg (of_decide_eq_true h0)]⟩ rfl (of_decide_eq_true hz) (Nat.le_refl _) (fun cs hc => Nat.eq_of_beq_eq_true (List.all_eq_true.1 h1 cs hc))
      · cases hq
    · cases hq
  · rename_i t x y y' ho
    split at hq
    · rename_i ex es k z k' z' j hx hy hy' hj
      split at hq
      · rename_i h1 h2
        simp only [Option.some.injEq, Prod.mk.injEq] at hq
        obtain ⟨rfl, rfl⟩ := hq
        obtain ⟨i, u, a1, a2, a3⟩ := elemTy_spec hj
        exact q_slice3 hT ho hx (by rw [hy, of_decide_eq_true h1]) (by rw [hy', of_decide_eq_true h2]) a1 a2 a3
      · cases hq
    · cases hq
  · rename_i t u x ho
    split at hq
    · rename_i b n m k j hx hk hj
      split at hq
      · rename_i p es hb hku hjk
        split at hq
        · rename_i l hl
          split at hq
          · rename_i h1 h2 h3
            simp only [Option.some.injEq, Prod.mk.injEq] at hq
            obtain ⟨rfl, rfl⟩ := hq
            obtain ⟨i, v, a1, a2, a3⟩ := elemTy_spec hk
            have h1 := Nat.eq_of_beq_eq_true h1
            subst h1
            exact q_bytesRow hT ho hx (by rw [hb, unbytes_spec hl]) (Nat.eq_of_beq_eq_true h2) (by simpa [Nat.blt_eq] using h3) a1 a2 a3 (intOf_spec hku) hj hjk
          · cases hq
        · cases hq
      · cases hq
    · cases hq
  · cases hq
end
def xEv4 (P : Program) (T : Nat → Option TyI) (dst : Option Nat) (o : Op) (e : AEnv) (h : AHeap) (k : Nat) : Option XRes :=
  match o with
  | .makeMap t none => match isFree h k with
    | true => some ([k], [(k, .map (kvs .i64 []))], some (.map k), k + 1)
    | false => none
  | .mapUpdate t x y u => match dst, look e x, look e y, look e u, mapTyA P T t with
    | none, some (.map b), some (.agg ks), some q, some (n, K, _) => match h b, q.isPure, unarr K ks with
      | some (.map l), true, some z => match unkvA K n l, Nat.beq z.length n with
        | some m, true => some ([b], [(b, .map (kvsA K (aset z q m)))], none, k)
        | _, _ => none
      | _, _, _ => none
    | _, _, _, _, _ => none
  | _ => none
theorem xEv4_spec {P : Program} {T : Nat → Option TyI} {o : Oper} {e : AEnv} {h : AHeap} (hT : TOk P T) {k k' : Nat} {R : List Nat} {W : List (Nat × AObj)} {r : Option AV} (hv : xEv4 P T o.dst o.op e h k = some (R, W, r, k')) : OLoc P o e h R W r := by
  unfold xEv4 at hv
  split at hv
  · rename_i t ho
    split at hv
    · rename_i hf
      simp only [Option.some.injEq, Prod.mk.injEq] at hv
      obtain ⟨rfl, rfl, rfl, rfl⟩ := hv
      exact o_makeMap .i64 k ho (isFree_spec hf)
    · cases hv
  · rename_i t x y u ho
    split at hv
    · rename_i b ks q n K et hd hx hy hu ht
      split at hv
      · rename_i l z hb hp hks
        split at hv
        · rename_i m hm hzn
          simp only [Option.some.injEq, Prod.mk.injEq] at hv
          obtain ⟨rfl, rfl, rfl, rfl⟩ := hv
          obtain ⟨i, kt, a1, a2, a3⟩ := mapTyA_spec ht
          obtain ⟨j, e0, j0, b1, b2, b3, b4, b5⟩ := arrTy_spec a3
          obtain ⟨m1, m2⟩ := unkvA_spec hm
          exact o_mapUpdateA hT ho hd hx (by rw [hy, unarr_spec hks]) hu hp (by rw [hb, m1]) a1 a2 b1 b2 b3 b4 b5 (Nat.eq_of_beq_eq_true hzn) m2
        · cases hv
      · cases hv
    · cases hv
  · cases hv
def qAll (P : Program) (T : Nat → Option TyI) (o : Op) (e : AEnv) (h : AHeap) : Option (List Nat × AV) := match qEv T o e h with
  | some r => some r
  | none => match qEv2 P T o e h with
    | some r => some r
    | none => match qEv3 P T o e h with
      | some r => some r
      | none => qEv4 P T o e h
def xAll (P : Program) (T : Nat → Option TyI) (dst : Option Nat) (o : Op) (e : AEnv) (h : AHeap) (k : Nat) : Option XRes := match xEv T dst o e h k with
  | some r => some r
  | none => match xEv3 T dst o e h k with
    | some r => some r
    | none => xEv4 P T dst o e h k
section
variable {P : Program} {T : Nat → Option TyI} {o : Oper} {e : AEnv} {h : AHeap} {R : List Nat} {r : AV}
theorem qAll_spec (hT : TOk P T) (hq : qAll P T o.op e h = some (R, r)) : QLoc P o e h R r := by
  unfold qAll at hq
  split at hq
  · rename_i r' h1
    rw [Option.some.injEq] at hq
    subst hq
    exact qEv_spec hT h1
  · split at hq
    · rename_i r' h1
      rw [Option.some.injEq] at hq
      subst hq
      exact qEv2_spec hT h1
    · split at hq
      · rename_i r' h1
        rw [Option.some.injEq] at hq
        subst hq
        exact qEv3_spec hT h1
      · exact qEv4_spec hT hq
theorem xAll_spec (hT : TOk P T) {k k' : Nat} {W : List (Nat × AObj)} {r : Option AV} (hv : xAll P T o.dst o.op e h k = some (R, W, r, k')) : OLoc P o e h R W r := by
  unfold xAll at hv
  split at hv
  · rename_i r' h1
    rw [Option.some.injEq] at hv
    subst hv
    exact xEv_spec hT h1
  · split at hv
    · rename_i r' h1
      rw [Option.some.injEq] at hv
      subst hv
      exact xEv3_spec hT h1
    · exact xEv4_spec hT hv
end
def ofVal1 : Value → Option AV
  | .int k n => some (.int k n)
  | .bool b => some (.bool b)
  | .string s => some (.str s)
  | .func f a b => some (.val (.func f a b))
  | _ => none
def ofVals : List Value → Option (List AV)
  | [] => some []
  | v :: vs => match ofVal1 v, ofVals vs with
    | some x, some xs => some (x :: xs)
    | _, _ => none
def ofVal : Value → Option AV
  | .agg cs => match ofVals cs.toList with
    | some xs => some (.agg xs)
    | none => none
  | v => ofVal1 v
theorem ofVal1_rel {v : Value} {x : AV} (h : ofVal1 v = some x) (H : Know) : Rel H noLay x v := by
  cases v <;> simp [ofVal1] at h <;> subst h
  · exact .bool _ _
  · exact .int _ _ _
  · exact .str _ _
  · exact .val _ _ rfl
theorem ofVals_get : ∀ {l : List Value} {xs : List AV}, ofVals l = some xs → xs.length = l.length ∧ ∀ (j : Nat) (x : AV) (v : Value), xs[j]? = some x → l[j]? = some v → ofVal1 v = some x
  | [], xs, h => by simp [ofVals] at h; subst h; exact ⟨rfl, fun j x v h => by simp at h⟩
  | v :: vs, xs, h => by
    unfold ofVals at h
    split at h
    · rename_i x ys h1 h2
      simp at h; subst h
      obtain ⟨a1, a2⟩ := ofVals_get h2
      refine ⟨by simp [a1], fun j y u e1 e2 => ?_⟩
      cases j with
      | zero => simp at e1 e2; subst e1; subst e2; exact h1
      | succ j => exact a2 j y u (by simpa using e1) (by simpa using e2)
    · cases h
theorem ofVal_rel {v : Value} {x : AV} (h : ofVal v = some x) (H : Know) : Rel H noLay x v := by
  unfold ofVal at h
  split at h
  · rename_i cs
    split at h
    · rename_i xs e
      simp at h; subst h
      obtain ⟨a1, a2⟩ := ofVals_get e
      exact .agg _ _ _ (by simpa using a1) (fun j x v e1 e2 => ofVal1_rel (a2 j x v e1 (by simpa using e2)) H)
    · cases h
  · exact ofVal1_rel h H
def calleeEv (mt : Nat → String → Option Nat) (o : Op) (e : AEnv) : Option (Nat × List AV) :=
  match o with
  | .call ⟨.value x, args, _⟩ => match look e x, lookAll e args.toList with
    | some (.fn (.func f) fs cs), some xs => some (f, fs ++ xs ++ cs)
    | some (.val (.func (.func f) a b)), some xs => match a.toList, b.toList with
      | [], [] => some (f, xs)
      | _, _ => none
    | _, _ => none
  | .call ⟨.invoke recv name, args, _⟩ => match look e recv, lookAll e args.toList with
    | some (.val (.iface t v)), some xs => match mt t name, ofVal v with
      | some f, some x0 => some (f, x0 :: xs)
      | _, _ => none
    | _, _ => none
  | _ => none
def mtOk (P : Program) (mt : Nat → String → Option Nat) : Prop := ∀ t name f v w, mt t name = some f → (method (P.types.size + Made.depth) t v name).run P w = .ok (f, v) w
def fnEv (P : Program) (f : Nat) : Option (Func × Code) := match P.funcs[f]? with
  | some fn => match fn.body, fn.name == "runtime.NumGoroutine" with
    | some c, false => some (fn, c)
    | _, _ => none
  | none => none
theorem fnEv_spec {P : Program} {f : Nat} {fn : Func} {c : Code} (h : fnEv P f = some (fn, c)) : P.funcs[f]? = some fn ∧ fn.body = some c ∧ (fn.name == "runtime.NumGoroutine") = false := by
  unfold fnEv at h
  split at h
  · rename_i fn' hf
    split at h
    · rename_i c' hb hn
      simp only [Option.some.injEq, Prod.mk.injEq] at h
      obtain ⟨rfl, rfl⟩ := h
      exact ⟨hf, hb, hn⟩
    · cases h
  · cases h
section
variable {P : Program} {T : Nat → Option TyI} {o : Oper} {e : AEnv} {h : AHeap} {R : AV → AHeap → Prop}
theorem arr_nil {α : Type} {a : Array α} (h : a.toList = []) : a = #[] := Array.ext' h
theorem calleeEv_spec {mt : Nat → String → Option Nat} (hmt : mtOk P mt) {f : Nat} {xs : List AV} {fn : Func} (hc : calleeEv mt o.op e = some (f, xs)) (hf : P.funcs[f]? = some fn) (hnm : (fn.name == "runtime.NumGoroutine") = false) (hb : fn.body.isSome = true) (hcall : ACall P f xs h R) : OCallR P o e h R := by
  unfold calleeEv at hc
  split at hc
  · rename_i x args tys ho
    split at hc
    · rename_i f' fs cs ys hx hl
      simp only [Option.some.injEq, Prod.mk.injEq] at hc
      obtain ⟨rfl, rfl⟩ := hc
      exact o_inF ho hx hf hnm hb hl hcall
    · rename_i f' a b ys hx hl
      split at hc
      · rename_i ha hb'
        simp only [Option.some.injEq, Prod.mk.injEq] at hc
        obtain ⟨rfl, rfl⟩ := hc
        exact o_inV ho (by rw [hx, arr_nil ha, arr_nil hb']) hf hnm hb hl hcall
      · cases hc
    · cases hc
  · rename_i recv name args tys ho
    split at hc
    · rename_i t v ys hx hl
      split at hc
      · rename_i f' x0 hm hv
        simp only [Option.some.injEq, Prod.mk.injEq] at hc
        obtain ⟨rfl, rfl⟩ := hc
        exact o_inM ho hx (fun w => hmt t name f' v w hm) (ofVal_rel hv) hf hnm hb hl hcall
      · cases hc
    · cases hc
  · cases hc
theorem AOps.innW {ops : Array Oper} {rest : List Oper} {n : Nat} {K : AState → Prop} (hd : o.dst = none) (hg : guardIs ops o e = some true)
    (ho : OCallR P o e h (fun r hn => AOps P ops rest ⟨n, e, hn⟩ K)) : AOps P ops (o :: rest) ⟨n, e, h⟩ K := by
  intro H ι a w hs
  unfold wpList
  rw [guard_wanted hs hg]
  simp only [if_true]
  refine .inl (Oper.wp_mono (fun a' w' hx => ?_) (ho H ι a w n _ hs))
  obtain ⟨v, r, hn, H', ι', hr, rfl, h1, h2, h3⟩ := hx
  have hs' := hs.put (v := v) (d := o.dst) (r := none) h2 h3 (fun x ex => by cases ex) (fun t e => by rw [hd] at e; cases e)
  rw [hd] at hs' ⊢
  exact wpList_post (fun e a2 w2 hp => Post.step hs.heap h2 h3 hp) _ _ _ (hr H' ι' _ w' hs')
theorem AOps.kw {ops : Array Oper} {rest : List Oper} {n : Nat} {K : AState → Prop} (hd : o.dst = none) (hg : guardIs ops o e = some false) (hr : AOps P ops rest ⟨n, e, h⟩ K) : AOps P ops (o :: rest) ⟨n, e, h⟩ K := by
  have := AOps.skip (P := P) (ops := ops) (s := ⟨n, e, h⟩) (K := K) (o := o) (rest := rest) hg (fun t e => by rw [hd] at e; cases e)
  rw [hd] at this
  exact this hr
end
def frz1 (b m : Nat) (es : List (List AV)) : AV → AV
  | .ref b' n off len => bif Nat.beq b' b && Nat.beq n m then .lst false ((es.drop off).take len) else .ref b' n off len
  | x => x
def frz2 (b m : Nat) (es : List (List AV)) : AV → AV
  | .agg cs => .agg (cs.map (frz1 b m es))
  | x => frz1 b m es x
def frzV (b m : Nat) (es : List (List AV)) : AV → AV
  | .agg cs => .agg (cs.map (frz1 b m es))
  | .tup cs => .tup (cs.map (frz2 b m es))
  | x => frz1 b m es x
def frzO (b m : Nat) (es : List (List AV)) : AObj → AObj
  | .row false sz rs => .row false sz (rs.map fun cs => cs.map (frz1 b m es))
  | o => o
def frzE (b m : Nat) (es : List (List AV)) (e : AEnv) : AEnv := fun t => match e t with
  | some x => some (frzV b m es x)
  | none => none
def frzH (b m : Nat) (es : List (List AV)) (h : AHeap) : AHeap := fun c => bif Nat.beq c b then none else match h c with
  | some o => some (frzO b m es o)
  | none => none
theorem frz1_cell (b m : Nat) (es : List (List AV)) (x : AV) (h : x.cell1 = true) : (frz1 b m es x).cell1 = true := by
  cases x with
  | ref b' n off len =>
    show (bif Nat.beq b' b && Nat.beq n m then AV.lst false ((es.drop off).take len) else .ref b' n off len).cell1 = true
    cases Nat.beq b' b && Nat.beq n m <;> rfl
  | _ => exact h
section
variable {H H' : Know} {b m : Nat} {es : List (List AV)}
theorem frz1_rel (u3 : KLe H H') {ι : Lay} (u4 : ∀ (v : Value) (off len : Nat), Rel H ι (.ref b m off len) v → Rel H' ι (.lst false ((es.drop off).take len)) v) {x : AV} {v : Value} (h : Rel H ι x v) : Rel H' ι (frz1 b m es x) v := by
  cases x with
  | ref b' n off len =>
    show Rel H' ι (bif Nat.beq b' b && Nat.beq n m then AV.lst false ((es.drop off).take len) else .ref b' n off len) v
    cases e : Nat.beq b' b && Nat.beq n m with
    | false => exact h.mono u3 (LLe.refl _)
    | true =>
      rw [Bool.and_eq_true] at e
      have e1 := Nat.eq_of_beq_eq_true e.1
      have e2 := Nat.eq_of_beq_eq_true e.2
      subst e1; subst e2
      exact u4 v off len h
  | _ => exact h.mono u3 (LLe.refl _)
theorem frz2_rel (u3 : KLe H H') {ι : Lay} (u4 : ∀ (v : Value) (off len : Nat), Rel H ι (.ref b m off len) v → Rel H' ι (.lst false ((es.drop off).take len)) v) {x : AV} {v : Value} (h : Rel H ι x v) : Rel H' ι (frz2 b m es x) v := by
  cases x with
  | agg cs =>
    obtain ⟨us, rfl, hl, hr⟩ := h.agg_inv
    refine .agg _ _ us (by simpa using hl) fun j x v h1 h2 => ?_
    rw [List.getElem?_map] at h1
    cases e : cs[j]? with
    | none => rw [e] at h1; cases h1
    | some y => rw [e] at h1; cases h1; exact frz1_rel u3 u4 (hr j y v e h2)
  | _ => exact frz1_rel u3 u4 h
theorem frzV_rel (u3 : KLe H H') {ι : Lay} (u4 : ∀ (v : Value) (off len : Nat), Rel H ι (.ref b m off len) v → Rel H' ι (.lst false ((es.drop off).take len)) v) {x : AV} {v : Value} (h : Rel H ι x v) : Rel H' ι (frzV b m es x) v := by
  cases x with
  | agg cs => exact frz2_rel (x := .agg cs) u3 u4 h
  | tup cs =>
    obtain ⟨us, rfl, hl, hr⟩ := h.tup_inv
    refine .tup _ _ us (by simpa using hl) fun j x v h1 h2 => ?_
    rw [List.getElem?_map] at h1
    cases e : cs[j]? with
    | none => rw [e] at h1; cases h1
    | some y => rw [e] at h1; cases h1; exact frz2_rel u3 u4 (hr j y v e h2)
  | _ => exact frz1_rel u3 u4 h
end
theorem HeapRel.tight {H : Know} {ι : Lay} {h : AHeap} {w : World} {b sz : Nat} {es : List (List AV)} (hr : HeapRel H ι h w) (hb : h b = some (.row false sz es)) (hp : ∀ cs ∈ es, cs.all AV.isPure1 = true) : HeapRel H ι (hput h b (.row true sz es)) w := by
  have old : ∀ c o, hput h b (.row true sz es) c = some o → o.alive = true → ∃ o', h c = some o' ∧ o'.alive = true := fun c o h1 h2 => by
    by_cases hc : c = b
    · subst hc; exact ⟨_, hb, rfl⟩
    · rw [hput_ne _ _ hc] at h1; exact ⟨o, h1, h2⟩
  refine ⟨hr.know, fun c hc => ?_, fun c o h1 h2 => ?_, fun c c' o o' r r' h1 h2 h3 h4 h5 h6 h7 h8 h9 => ?_, hr.glob⟩
  · by_cases e : c = b
    · subst e; rw [hput_same] at hc; cases hc
    · rw [hput_ne _ _ e] at hc; exact hr.free c hc
  · by_cases e : c = b
    · subst e
      rw [hput_same] at h1
      cases h1
      obtain ⟨r, r1, ⟨o1, o2, o3, o4, o5, o6⟩, r3⟩ := hr.obj c _ hb rfl
      refine ⟨r, r1, ⟨o1, o2, o3, o4, o5, fun hs => ?_⟩, r3⟩
      obtain ⟨cc, T, c1, c2, c3, c4⟩ := o6 hs
      refine ⟨cc, T, c1, c2, c3, fun i cs j x e1 e2 => ?_⟩
      obtain ⟨v, v1, v2, v3⟩ := c4 i cs j x e1 e2
      exact ⟨v, v1, pure1_rel (List.all_eq_true.1 (hp cs (List.mem_of_getElem? e1)) x (List.mem_of_getElem? e2)) v2, v3⟩
    · rw [hput_ne _ _ e] at h1; exact hr.obj c o h1 h2
  · obtain ⟨p1, q1, q2⟩ := old c o h1 h2
    obtain ⟨p2, q3, q4⟩ := old c' o' h3 h4
    exact hr.inj c c' p1 p2 r r' q1 q2 q3 q4 h5 h6 h7 h8 h9
theorem Ghost.frz {n : Nat} {e : AEnv} {h : AHeap} {b sz : Nat} {es : List (List AV)} (hb : h b = some (.row false sz es)) (hp : ∀ cs ∈ es, cs.all AV.isPure1 = true) : Ghost ⟨n, e, h⟩ ⟨n, frzE b es.length es e, frzH b es.length es h⟩ := fun H ι a w hs => by
  have hr := hs.heap
  have ht := hr.tight hb hp
  obtain ⟨H', u1, u2, u3, u40⟩ := ht.freeze (hput_same h b _)
  have u4 := u40 ι
  have hst : Step H ι h w H ι (hput h b (.row true sz es)) w := ⟨Nat.le_refl _, rfl, rfl, fun _ _ _ => rfl, KLe.refl _, fun _ h => .inl h, LLe.refl _, fun _ _ => rfl, fun _ _ h _ => .inl h, fun c hc => by
    by_cases hcb : c = b
    · subst hcb; rw [hb] at hc; cases hc
    · rw [hput_ne _ _ hcb]; exact hc⟩
  have back : ∀ c o, frzH b es.length es h c = some o → ∃ o', h c = some o' ∧ o = frzO b es.length es o' ∧ c ≠ b := fun c o hc => by
    unfold frzH at hc
    cases ec : Nat.beq c b with
    | true => rw [ec] at hc; cases hc
    | false =>
      rw [ec] at hc
      simp only [cond_false] at hc
      split at hc
      · rename_i o' ho
        cases hc
        exact ⟨o', ho, rfl, fun hh => by subst hh; rw [Nat.beq_refl] at ec; cases ec⟩
      · cases hc
  have al : ∀ o, (frzO b es.length es o).alive = o.alive := fun o => by
    cases o with
    | row p sz rs => cases p <;> rfl
    | _ => rfl
  have hrm_eq : ∀ c, c ≠ b → hrm (hput h b (.row true sz es)) b c = h c := fun c hc => by rw [hrm_ne _ hc, hput_ne _ _ hc]
  have hheap : HeapRel H' ι (frzH b es.length es h) w := by
    refine ⟨u1.know, fun c hc => ?_, fun c o h1 h2 => ?_, fun c c' o o' r r' h1 h2 h3 h4 h5 h6 h7 h8 h9 => ?_, u1.glob⟩
    · obtain ⟨o', g1, g2, g3⟩ := back c _ hc
      cases o' with
      | free => exact hr.free c g1
      | row p sz rs => cases p <;> cases g2
      | _ => cases g2
    · obtain ⟨o', g1, rfl, g3⟩ := back c o h1
      rw [al] at h2
      obtain ⟨r, r1, r2, r3⟩ := u1.obj c o' (by rw [hrm_eq c g3]; exact g1) h2
      refine ⟨r, r1, ?_, r3⟩
      cases o' with
      | free => cases h2
      | map kvs => exact r2
      | iter0 => exact r2
      | row p sz' rs =>
        cases p with
        | true => exact r2
        | false =>
          obtain ⟨o1, o2, o3, o4, o5, o6⟩ := r2
          refine ⟨o1, o2, by simpa using o3, by simpa using o4, fun i cs hi => ?_, fun hsol => ?_⟩
          · rw [List.getElem?_map] at hi
            cases ei : rs[i]? with
            | none => rw [ei] at hi; cases hi
            | some ds => rw [ei] at hi; cases hi; simpa using o5 i ds ei
          · obtain ⟨cc, T, c1, c2, c3, c4⟩ := o6 hsol
            refine ⟨cc, T, c1, c2, ?_, fun i cs j x e1 e2 => ?_⟩
            · intro i cs hi
              rw [List.getElem?_map] at hi
              cases ei : rs[i]? with
              | none => rw [ei] at hi; cases hi
              | some ds => rw [ei] at hi; cases hi; simpa using o5 i ds ei
            · rw [List.getElem?_map] at e1
              cases ei : rs[i]? with
              | none => rw [ei] at e1; cases e1
              | some ds =>
                rw [ei] at e1; cases e1
                rw [List.getElem?_map] at e2
                cases ej : ds[j]? with
                | none => rw [ej] at e2; cases e2
                | some y =>
                  rw [ej] at e2; cases e2
                  obtain ⟨r0, s1, ⟨t1, t2, t3, t4, t5, t6⟩, s3⟩ := hr.obj c _ g1 rfl
                  rw [r1] at s1; cases s1
                  obtain ⟨cc', T', d1, d2, d3, d4⟩ := t6 hsol
                  obtain ⟨fr, f1, _⟩ := c1
                  obtain ⟨fr', f1', _⟩ := d1
                  rw [f1] at f1'
                  cases f1'
                  obtain ⟨v, v1, v2, v3⟩ := d4 i ds j y ei ej
                  exact ⟨v, v1, frz1_rel u3 u4 v2, frz1_cell _ _ _ _ v3⟩
    · obtain ⟨p1, g1, rfl, g3⟩ := back c o h1
      obtain ⟨p2, g4, rfl, g6⟩ := back c' o' h3
      rw [al] at h2 h4
      exact hr.inj c c' p1 p2 r r' g1 h2 g4 h4 h5 h6 h7 h8 h9
  refine ⟨H', ι, ⟨hs.n, hs.d, fun u y hy => ?_, hheap⟩, ?_⟩
  · simp only [frzE] at hy
    split at hy
    · rename_i x hx
      cases hy
      obtain ⟨v, h1, h2⟩ := hs.env u x hx
      exact ⟨v, h1, frzV_rel u3 u4 h2⟩
    · cases hy
  · have h2 := hst.trans hr ht u2
    exact ⟨h2.size, h2.os, h2.out, h2.keep, h2.kle, h2.knew, h2.lle, h2.lframe, h2.newrb, fun c hc => by
      show frzH b es.length es h c = none
      unfold frzH
      cases Nat.beq c b with
      | true => rfl
      | false => simp only [cond_false]; rw [show h c = none from hc]⟩
def refTo (b : Nat) : AV → Bool
  | .ref b' _ _ _ => Nat.beq b' b
  | _ => false
def refIn (b : Nat) : AV → Bool
  | .agg cs => cs.any (refTo b)
  | x => refTo b x
def frzL (n k : Nat) : List Nat → AEnv → AHeap → AEnv × AHeap
  | [], e, h => (e, h)
  | b :: l, e, h => match h b with
    | some (.row false sz es) => match es.all (fun cs => cs.all AV.isPure1), (List.range n).any (fun t => match e t with
        | some x => refIn b x
        | none => false) || (List.range k).any (fun c => match h c with
        | some (.row _ _ rs) => rs.any fun cs => cs.any (refTo b)
        | _ => false) with
      | true, true => frzL n k l (frzE b es.length es e) (frzH b es.length es h)
      | _, _ => frzL n k l e h
    | _ => frzL n k l e h
theorem frzL_ghost {n k : Nat} : ∀ (l : List Nat) {e e' : AEnv} {h h' : AHeap}, frzL n k l e h = (e', h') → Ghost ⟨n, e, h⟩ ⟨n, e', h'⟩
  | [], e, e', h, h', hx => by
    cases hx
    exact Ghost.of_sub (Sub.mk' (ESub.refl _) (HSub.refl _))
  | b :: l, e, e', h, h', hx => by
    unfold frzL at hx
    split at hx
    · rename_i sz es hb
      split at hx
      · rename_i hp _
        exact Ghost.trans (Ghost.frz hb fun cs hc => List.all_eq_true.1 hp cs hc) (frzL_ghost l hx)
      · exact frzL_ghost l hx
    · exact frzL_ghost l hx
def refs1 : AV → List Nat
  | .ref b _ _ _ => [b]
  | .ptr b _ _ _ => [b]
  | _ => []
def refsOf : AV → List Nat
  | .agg cs => cs.flatMap refs1
  | x => refs1 x
def reachL (h : AHeap) : Nat → List Nat → List Nat
  | 0, l => l
  | d + 1, l => reachL h d (l.flatMap fun b => match h b with
    | some (.row _ _ rs) => rs.flatMap fun cs => cs.flatMap refs1
    | _ => []) ++ l
def frzAt (fz : Nat → Nat → Option Nat) (n id k : Nat) (e : AEnv) (h : AHeap) : AEnv × AHeap := match fz n id with
  | some t => match e t with
    | some x => frzL n k (reachL h 3 (refsOf x)) e h
    | none => (e, h)
  | none => (e, h)
theorem frzAt_ghost {fz : Nat → Nat → Option Nat} {n id k : Nat} {e e' : AEnv} {h h' : AHeap} (hx : frzAt fz n id k e h = (e', h')) : Ghost ⟨n, e, h⟩ ⟨n, e', h'⟩ := by
  have h0 : Ghost ⟨n, e, h⟩ ⟨n, e, h⟩ := Ghost.of_sub (Sub.mk' (ESub.refl _) (HSub.refl _))
  unfold frzAt at hx
  split at hx
  · split at hx
    · exact frzL_ghost _ hx
    · cases hx
      exact h0
  · cases hx
    exact h0
abbrev XLog := List (Nat × List AV × AV)
def LogOk (P : Program) (lg : XLog) : Prop := ∀ p ∈ lg, APure P p.1 p.2.1 (fun r => r = p.2.2)
abbrev XCall := Nat → List AV → AHeap → Nat → XLog → Option (AV × AHeap × Nat × XLog)
def XCall.Ok (P : Program) (cl : XCall) : Prop := ∀ f xs h k lg r h' k' lg', cl f xs h k lg = some (r, h', k', lg') → (∀ p ∈ lg, p ∈ lg') ∧ (LogOk P lg' → ACall P f xs h (fun r1 h1 => r1 = r ∧ h1 = h'))
def ctEv (mt : Nat → String → Option Nat) (ct : Nat → Option (List AV → Option AV)) (o : Op) (e : AEnv) : Option (Nat × List AV × AV) :=
  match o with
  | .call ⟨.value (.func f), args, _⟩ => match ct f with
    | some q => match lookAll e args.toList with
      | some xs => match xs.all AV.isPure, q xs with
        | true, some r => some (f, xs, r)
        | _, _ => none
      | none => none
    | none => none
  | _ => none
def argRefs (e : AEnv) : List Operand → List Nat
  | [] => []
  | x :: l => (match look e x with | some y => refsOf y | none => []) ++ argRefs e l
def ctFz (ct : Nat → Option (List AV → Option AV)) (n k : Nat) (o : Op) (e : AEnv) (h : AHeap) : AEnv × AHeap :=
  match o with
  | .call ⟨.value (.func f), args, _⟩ => match ct f with
    | some _ => frzL n k (reachL h 3 (argRefs e args.toList)) e h
    | none => (e, h)
  | _ => (e, h)
theorem ctFz_ghost {ct : Nat → Option (List AV → Option AV)} {n k : Nat} {o : Op} {e e' : AEnv} {h h' : AHeap} (hx : ctFz ct n k o e h = (e', h')) : Ghost ⟨n, e, h⟩ ⟨n, e', h'⟩ := by
  have h0 : Ghost ⟨n, e, h⟩ ⟨n, e, h⟩ := Ghost.of_sub (Sub.mk' (ESub.refl _) (HSub.refl _))
  unfold ctFz at hx
  split at hx
  · split at hx
    · exact frzL_ghost _ hx
    · cases hx
      exact h0
  · cases hx
    exact h0
theorem AOps.ghostX {P : Program} {ops : Array Oper} {l : List Oper} {s s' : AState} {K : AState → Prop} (hg : Ghost s s') (h : AOps P ops l s' K) : AOps P ops l s K := fun H ι a w hs => by
  obtain ⟨H', ι', h1, h2⟩ := hg H ι a w hs
  have hpost : ∀ e a2 w2, Post H' ι' s'.h w (Then K fun _ _ => False) e a2 w2 → Post H ι s.h w (Then K fun _ _ => False) e a2 w2 := fun e a2 w2 hp => Post.step hs.heap h1.heap h2 hp
  have key : ∀ (l : List Oper) (a1 : Act) (w1 : World), wpList P ops (Post H' ι' s'.h w (Then K fun _ _ => False)) l a1 w1 → wpList P ops (Post H ι s.h w (Then K fun _ _ => False)) l a1 w1 := by
    intro l
    induction l with
    | nil => exact fun a1 w1 hp => hpost _ _ _ hp
    | cons o' l ih =>
      intro a1 w1 hp
      unfold wpList at hp ⊢
      by_cases hw : Region.wanted o' (yielded ops a1.tmps) = true
      · rw [if_pos hw] at hp ⊢
        rcases hp with hp | ⟨hp1, a2, w2, hp2⟩
        · refine .inl ?_
          have hp' := Oper.wp_mono (fun a2 w2 => ih a2 w2) hp
          clear hp
          unfold Oper.wp at hp' ⊢
          generalize (execOp a1.eval o').run P w1 = res at hp' ⊢
          cases res with
          | ok n w3 =>
            cases n <;> simp only [Oper.upon] at hp' ⊢ <;> first
              | exact hp'
              | exact Calls.mono hp' (fun e w4 he => by cases e <;> first | exact he | exact hpost _ _ _ he | (obtain ⟨a3, w5, hp3⟩ := he; exact ⟨a3, w5, hpost _ _ _ hp3⟩))
          | halt x w3 => cases x <;> simp only [Oper.upon] at hp' ⊢ <;> first | exact hpost _ _ _ hp' | exact hp'
        · exact .inr ⟨hp1, a2, w2, hpost _ _ _ hp2⟩
      · rw [if_neg hw] at hp ⊢
        exact ih _ _ hp
  exact key l a w (h H' ι' a w h1)
def xOps (P : Program) (T : Nat → Option TyI) (mt : Nat → String → Option Nat) (ct : Nat → Option (List AV → Option AV)) (cl : XCall) (ops : Array Oper) (n : Nat) : List Oper → AEnv → AHeap → Nat → XLog → Option (AEnv × AHeap × Nat × XLog)
  | [], e, h, k, lg => some (e, h, k, lg)
  | o :: l, e, h, k, lg => match guardIs ops o e with
    | some false => match o.dst with
      | some d => match Nat.blt d n with
        | true => xOps P T mt ct cl ops n l (eput e d (.tup [])) h k lg
        | false => none
      | none => xOps P T mt ct cl ops n l e h k lg
    | some true => match o.dst with
      | some d => match Nat.blt d n with
        | true => match qAll P T o.op e h with
          | some (_, r) => xOps P T mt ct cl ops n l (eput e d r) h k lg
          | none => match xAll P T o.dst o.op e h k with
            | some (_, W, some r, k') => xOps P T mt ct cl ops n l (eput e d r) (hputs h W) k' lg
            | some (_, _, none, _) => none
            | none => match ctFz ct n k o.op e h with
             | (e0, h0) => match guardIs ops o e0, ctEv mt ct o.op e0 with
              | some true, some (f, xs, r) => match fnEv P f with
                | some _ => xOps P T mt ct cl ops n l (eput e0 d r) h0 k ((f, xs, r) :: lg)
                | none => none
              | _, _ => match calleeEv mt o.op e with
                | some (f, xs) => match fnEv P f, cl f xs h k lg with
                  | some _, some (r, h', k', lg') => xOps P T mt ct cl ops n l (eput e d r) h' k' lg'
                  | _, _ => none
                | none => none
        | false => none
      | none => match xAll P T o.dst o.op e h k with
        | some (_, W, none, k') => xOps P T mt ct cl ops n l e (hputs h W) k' lg
        | some (_, _, some _, _) => none
        | none => match calleeEv mt o.op e with
          | some (f, xs) => match fnEv P f, cl f xs h k lg with
            | some _, some (r, h', k', lg') => xOps P T mt ct cl ops n l e h' k' lg'
            | _, _ => none
          | none => none
    | none => none
section
variable {P : Program} {T : Nat → Option TyI} {mt : Nat → String → Option Nat} {ct : Nat → Option (List AV → Option AV)} {cl : XCall} {ops : Array Oper} {n : Nat}
theorem OCallR.mono {o : Oper} {e : AEnv} {h : AHeap} {R R' : AV → AHeap → Prop} (hc : OCallR P o e h R) (hr : ∀ r h', R r h' → R' r h') : OCallR P o e h R' := fun H ι a w n Q hs =>
  Oper.wp_mono (fun a' w' ⟨v, r, h', H', ι', e1, e2⟩ => ⟨v, r, h', H', ι', hr _ _ e1, e2⟩) (hc H ι a w n Q hs)
theorem ctEv_spec {o : Oper} {e : AEnv} {h : AHeap} {f : Nat} {xs : List AV} {r : AV} {fn : Func} (hc : ctEv mt ct o.op e = some (f, xs, r)) (hf : P.funcs[f]? = some fn) (hnm : (fn.name == "runtime.NumGoroutine") = false) (hb : fn.body.isSome = true) (hp : APure P f xs (fun r' => r' = r)) : OLoc P o e h [] [] (some r) := by
  unfold ctEv at hc
  split at hc
  · rename_i f' args tys ho
    split at hc
    · rename_i q h1
      split at hc
      · rename_i ys h2
        split at hc
        · rename_i r' h3 h4
          simp only [Option.some.injEq, Prod.mk.injEq] at hc
          obtain ⟨rfl, rfl, rfl⟩ := hc
          exact o_pure ho hf hnm hb h2 h3 hp
        · cases hc
      · cases hc
    · cases hc
  · cases hc
theorem xOps_spec (hT : TOk P T) (hmt : mtOk P mt) (hcl : cl.Ok P) : ∀ (l : List Oper) {e e' : AEnv} {h h' : AHeap} {k k' : Nat} {lg lg' : XLog}, xOps P T mt ct cl ops n l e h k lg = some (e', h', k', lg') →
    (∀ p ∈ lg, p ∈ lg') ∧ (LogOk P lg' → ∀ K : AState → Prop, K ⟨n, e', h'⟩ → AOps P ops l ⟨n, e, h⟩ K)
  | [], e, e', h, h', k, k', lg, lg', hx => by
    simp only [xOps, Option.some.injEq, Prod.mk.injEq] at hx
    obtain ⟨rfl, rfl, rfl, rfl⟩ := hx
    exact ⟨fun p hp => hp, fun _ K hK => AOps.nil hK⟩
  | o :: l, e, e', h, h', k, k', lg, lg', hx => by
    unfold xOps at hx
    split at hx
    · rename_i hg
      split at hx
      · rename_i d hd
        split at hx
        · rename_i hb
          obtain ⟨a1, a2⟩ := xOps_spec hT hmt hcl l hx
          exact ⟨a1, fun hl K hK => AOps.k d hd hb hg (a2 hl K hK)⟩
        · cases hx
      · rename_i hd
        obtain ⟨a1, a2⟩ := xOps_spec hT hmt hcl l hx
        exact ⟨a1, fun hl K hK => AOps.kw hd hg (a2 hl K hK)⟩
    · rename_i hg
      split at hx
      · rename_i d hd
        split at hx
        · rename_i hb
          split at hx
          · rename_i R r hq
            obtain ⟨a1, a2⟩ := xOps_spec hT hmt hcl l hx
            exact ⟨a1, fun hl K hK => AOps.s d hd hb hg (qAll_spec hT hq) (a2 hl K hK)⟩
          · split at hx
            · rename_i R W r k1 hv
              obtain ⟨a1, a2⟩ := xOps_spec hT hmt hcl l hx
              exact ⟨a1, fun hl K hK => AOps.x d hd hb hg (xAll_spec hT hv) (a2 hl K hK)⟩
            · cases hx
            · generalize hfz : ctFz ct n k o.op e h = eh at hx
              obtain ⟨e0, h0⟩ := eh
              have hgst := ctFz_ghost hfz
              simp only at hx
              split at hx
              · rename_i f xs r hg0 hc
                split at hx
                · rename_i fc hfn
                  obtain ⟨fn, c⟩ := fc
                  obtain ⟨f1, f2, f3⟩ := fnEv_spec hfn
                  obtain ⟨a1, a2⟩ := xOps_spec hT hmt hcl l hx
                  refine ⟨fun p hp => a1 p (by simp [hp]), fun hl K hK => AOps.ghostX hgst (AOps.x d hd hb hg0 (ctEv_spec hc f1 f3 (by rw [f2]; rfl) (hl (f, xs, r) (a1 _ (by simp)))) (a2 hl K hK))⟩
                · cases hx
              · split at hx
                · rename_i f xs hc
                  split at hx
                  · rename_i fc r h1 k1 lg1 hfn hcall
                    obtain ⟨fn, c⟩ := fc
                    obtain ⟨f1, f2, f3⟩ := fnEv_spec hfn
                    obtain ⟨a1, a2⟩ := xOps_spec hT hmt hcl l hx
                    obtain ⟨b1, b2⟩ := hcl _ _ _ _ _ _ _ _ _ hcall
                    refine ⟨fun p hp => a1 p (b1 p hp), fun hl K hK => AOps.inn d hd hb hg (OCallR.mono (calleeEv_spec hmt hc f1 f3 (by rw [f2]; rfl) (b2 (fun p hp => hl p (a1 p hp)))) fun r' h'' hh => ?_)⟩
                    obtain ⟨rfl, rfl⟩ := hh
                    exact a2 hl K hK
                  · cases hx
                · cases hx
        · cases hx
      · rename_i hd
        split at hx
        · rename_i R W k1 hv
          obtain ⟨a1, a2⟩ := xOps_spec hT hmt hcl l hx
          exact ⟨a1, fun hl K hK => AOps.w hd hg (xAll_spec hT hv) (a2 hl K hK)⟩
        · cases hx
        · split at hx
          · rename_i f xs hc
            split at hx
            · rename_i fc r h1 k1 lg1 hfn hcall
              obtain ⟨fn, c⟩ := fc
              obtain ⟨f1, f2, f3⟩ := fnEv_spec hfn
              obtain ⟨a1, a2⟩ := xOps_spec hT hmt hcl l hx
              obtain ⟨b1, b2⟩ := hcl _ _ _ _ _ _ _ _ _ hcall
              refine ⟨fun p hp => a1 p (b1 p hp), fun hl K hK => AOps.innW hd hg (OCallR.mono (calleeEv_spec hmt hc f1 f3 (by rw [f2]; rfl) (b2 (fun p hp => hl p (a1 p hp)))) fun r' h'' hh => ?_)⟩
              obtain ⟨rfl, rfl⟩ := hh
              exact a2 hl K hK
            · cases hx
          · cases hx
    · cases hx
end
def AV.eqS : AV → AV → Bool
  | .bool a, .bool b => a == b
  | .int k a, .int k' b => decide (k = k') && decide (a = b)
  | .nil, .nil => true
  | .nilp, .nilp => true
  | .ref b n o l, .ref b' n' o' l' => Nat.beq b b' && (Nat.beq n n' && (Nat.beq o o' && Nat.beq l l'))
  | .ptr b n o l, .ptr b' n' o' l' => Nat.beq b b' && (Nat.beq n n' && (Nat.beq o o' && Nat.beq l l'))
  | .map b, .map b' => Nat.beq b b'
  | _, _ => false
theorem eqS_spec {x y : AV} (h : x.eqS y = true) : x = y := by
  unfold AV.eqS at h
  split at h
  · rw [beq_iff_eq] at h; rw [h]
  · rw [Bool.and_eq_true, decide_eq_true_eq, decide_eq_true_eq] at h
    rw [h.1, h.2]
  · rfl
  · rfl
  · rw [Bool.and_eq_true, Bool.and_eq_true, Bool.and_eq_true] at h
    obtain ⟨h1, h2, h3, h4⟩ := h
    rw [Nat.eq_of_beq_eq_true h1, Nat.eq_of_beq_eq_true h2, Nat.eq_of_beq_eq_true h3, Nat.eq_of_beq_eq_true h4]
  · rw [Bool.and_eq_true, Bool.and_eq_true, Bool.and_eq_true] at h
    obtain ⟨h1, h2, h3, h4⟩ := h
    rw [Nat.eq_of_beq_eq_true h1, Nat.eq_of_beq_eq_true h2, Nat.eq_of_beq_eq_true h3, Nat.eq_of_beq_eq_true h4]
  · rw [Nat.eq_of_beq_eq_true h]
  · cases h
def eqSs : List AV → List AV → Bool
  | [], [] => true
  | x :: xs, y :: ys => x.eqS y && eqSs xs ys
  | _, _ => false
theorem eqSs_spec : ∀ {xs ys : List AV}, eqSs xs ys = true → xs = ys
  | [], [], _ => rfl
  | x :: xs, y :: ys, h => by
    simp only [eqSs, Bool.and_eq_true] at h
    rw [eqS_spec h.1, eqSs_spec h.2]
  | [], _ :: _, h => by cases h
  | _ :: _, [], h => by cases h
def eqRs : List (List AV) → List (List AV) → Bool
  | [], [] => true
  | x :: xs, y :: ys => eqSs x y && eqRs xs ys
  | _, _ => false
theorem eqRs_spec : ∀ {xs ys : List (List AV)}, eqRs xs ys = true → xs = ys
  | [], [], _ => rfl
  | x :: xs, y :: ys, h => by
    simp only [eqRs, Bool.and_eq_true] at h
    rw [eqSs_spec h.1, eqRs_spec h.2]
  | [], _ :: _, h => by cases h
  | _ :: _, [], h => by cases h
def sameAt (h h' : AHeap) (b : Nat) : Bool := match h b, h' b with
  | some (.row p sz es), some (.row p' sz' es') => p == p' && (Nat.beq sz sz' && eqRs es es')
  | some .free, some .free => true
  | _, _ => false
theorem sameAt_spec {h h' : AHeap} {b : Nat} (e : sameAt h h' b = true) : h b = h' b := by
  unfold sameAt at e
  split at e
  · rename_i h1 h2
    rw [Bool.and_eq_true, Bool.and_eq_true, beq_iff_eq] at e
    rw [h1, h2, e.1, Nat.eq_of_beq_eq_true e.2.1, eqRs_spec e.2.2]
  · rename_i h1 h2
    rw [h1, h2]
  · cases e
def wOf (h h' : AHeap) : List Nat → List (Nat × AObj)
  | [] => []
  | b :: l => match sameAt h h' b, h' b with
    | false, some q => (b, q) :: wOf h h' l
    | _, _ => wOf h h' l
theorem wOf_mem {h h' : AHeap} {L0 : List Nat} : ∀ {l : List Nat}, (∀ b ∈ l, b ∈ L0) → (wOf h h' l).all (fun p => mem L0 p.1) = true
  | [], _ => rfl
  | b :: l, hh => by
    unfold wOf
    split
    · rw [List.all_cons, Bool.and_eq_true]
      exact ⟨mem_iff.2 (hh b (by simp)), wOf_mem fun c hc => hh c (by simp [hc])⟩
    · exact wOf_mem fun c hc => hh c (by simp [hc])
theorem wOf_put {h h' : AHeap} {b : Nat} {q : AObj} (hq : h' b = some q) : ∀ (l : List Nat) (h0 : AHeap), h0 b = h b ∨ h0 b = some q → b ∈ l ∨ h0 b = some q → hputs h0 (wOf h h' l) b = some q
  | [], h0, _, hh => by
    rcases hh with hh | hh
    · simp at hh
    · exact hh
  | c :: l, h0, ha, hh => by
    unfold wOf
    split
    · rename_i q' hs hq'
      show hputs (hput h0 c q') (wOf h h' l) b = some q
      by_cases hb : b = c
      · subst hb
        rw [hq] at hq'
        cases hq'
        exact wOf_put hq l _ (.inr (hput_same _ _ _)) (.inr (hput_same _ _ _))
      · refine wOf_put hq l _ (by rw [hput_ne _ _ hb]; exact ha) ?_
        rcases hh with hh | hh
        · simp [hb] at hh; exact .inl hh
        · exact .inr (by rw [hput_ne _ _ hb]; exact hh)
    · rename_i hn
      refine wOf_put hq l _ ha ?_
      by_cases hb : b = c
      · subst hb
        refine .inr ?_
        rcases ha with ha | ha
        · cases e : sameAt h h' b with
          | true => rw [ha, sameAt_spec e, hq]
          | false => exact absurd hq (hn _ e)
        · exact ha
      · rcases hh with hh | hh
        · simp [hb] at hh; exact .inl hh
        · exact .inr hh
theorem AllL.ofX {p : Nat → Prop} : ∀ {L : List Nat}, (∀ b ∈ L, p b) → AllL L p
  | [], _ => trivial
  | b :: L, h => ⟨h b (by simp), AllL.ofX fun c hc => h c (by simp [hc])⟩
def avoidAll (h : AHeap) (L : List Nat) : List Nat → Bool
  | [] => true
  | b :: l => match h b with
    | some q => q.avoid (mem L) && avoidAll h L l
    | none => false
theorem avoidAll_spec {h : AHeap} {L : List Nat} : ∀ {l : List Nat}, avoidAll h L l = true → ∀ b ∈ l, ∃ q, h b = some q ∧ q.avoid (mem L) = true
  | c :: l, hh, b, hb => by
    unfold avoidAll at hh
    split at hh
    · rename_i q hq
      rw [Bool.and_eq_true] at hh
      rcases List.mem_cons.1 hb with rfl | hb
      · exact ⟨q, hq, hh.1⟩
      · exact avoidAll_spec hh.2 b hb
    · cases hh
theorem hres_more {h : AHeap} {L0 F : List Nat} (hf : ∀ b ∈ F, h b = some .free) : hres h (L0 ++ F) = hres h L0 := by
  funext b
  unfold hres
  cases e0 : mem L0 b with
  | true =>
    have : mem (L0 ++ F) b = true := mem_iff.2 (List.mem_append.2 (.inl (mem_iff.1 e0)))
    rw [this]
  | false =>
    cases e1 : mem (L0 ++ F) b with
    | false => rfl
    | true =>
      rcases List.mem_append.1 (mem_iff.1 e1) with h1 | h1
      · rw [mem_iff.2 h1] at e0; cases e0
      · rw [cond_true, cond_false]; exact hf b h1
def seen0 (h : AHeap) (k : Nat) (xs : List AV) : List Nat := bif xs.all AV.isPure then [] else (List.range k).filter fun b => (h b).isSome
def freshL (k k' : Nat) (h' : AHeap) : List Nat := (List.range' k (k' - k)).filter fun b => (h' b).isSome
def callFit (h h' : AHeap) (k k' : Nat) (xs : List AV) (r : AV) : Bool :=
  (freshL k k' h').all (isFree h) && (xs.all (AV.avoid (mem (seen0 h k xs ++ freshL k k' h'))) && (avoidAll h (seen0 h k xs ++ freshL k k' h') (seen0 h k xs ++ freshL k k' h') &&
    (avoidAll h' (seen0 h k xs ++ freshL k k' h') (seen0 h k xs ++ freshL k k' h') && r.avoid (mem (seen0 h k xs ++ freshL k k' h')))))
def directEv (o : Op) (e : AEnv) : Option (Nat × List AV) :=
  match o with
  | .call ⟨.value (.func f), args, _⟩ => match lookAll e args.toList with
    | some xs => some (f, xs)
    | none => none
  | _ => none
section
variable {P : Program} {o : Oper} {e : AEnv} {h : AHeap}
theorem direct_spec {f : Nat} {xs : List AV} {fn : Func} {k k' : Nat} {h' : AHeap} {r : AV} (hc : directEv o.op e = some (f, xs)) (hf : P.funcs[f]? = some fn) (hnm : (fn.name == "runtime.NumGoroutine") = false) (hb : fn.body.isSome = true)
    (hfit : callFit h h' k k' xs r = true) (hcall : ACall P f xs (hres h (seen0 h k xs)) (fun r1 h1 => r1 = r ∧ h1 = h')) :
    OLoc P o e h (seen0 h k xs ++ freshL k k' h') (wOf h h' (seen0 h k xs ++ freshL k k' h')) (some r) := by
  unfold callFit at hfit
  rw [Bool.and_eq_true, Bool.and_eq_true, Bool.and_eq_true, Bool.and_eq_true] at hfit
  obtain ⟨c1, c2, c3, c4, c5⟩ := hfit
  unfold directEv at hc
  split at hc
  · rename_i f' args tys ho
    split at hc
    · rename_i ys hx
      simp only [Option.some.injEq, Prod.mk.injEq] at hc
      obtain ⟨rfl, rfl⟩ := hc
      refine o_call (hc := hres h (seen0 h k ys)) (hw := h') _ _ ho hf hnm hb hx c2 (AllL.ofX (avoidAll_spec c3)) (wOf_mem fun b hb => hb) (hres_more fun b hb => isFree_spec (List.all_eq_true.1 c1 b hb)) (AllL.ofX fun b hb => ?_) c5 (hcall.mono fun r1 h1 hh => ?_)
      · obtain ⟨q, q1, q2⟩ := avoidAll_spec c4 b hb
        exact ⟨q, q1, wOf_put q1 _ _ (.inl rfl) (.inl hb), q2⟩
      · obtain ⟨rfl, rfl⟩ := hh
        exact ⟨rfl, HSub.refl _⟩
    · cases hc
  · cases hc
end
def xDops (P : Program) (T : Nat → Option TyI) (mt : Nat → String → Option Nat) (ct : Nat → Option (List AV → Option AV)) (cl : XCall) (ops : Array Oper) (n : Nat) : List Oper → AEnv → AHeap → Nat → XLog → List (List Nat × List Nat) → Option (AEnv × AHeap × Nat × XLog)
  | [], e, h, k, lg, acc => match chk ops acc with
    | true => some (e, h, k, lg)
    | false => none
  | o :: l, e, h, k, lg, acc => match guardIs ops o e with
    | some false => match o.dst with
      | some d => match Nat.blt d n with
        | true => xDops P T mt ct cl ops n l (eput e d (.tup [])) h k lg (acc ++ [([], [])])
        | false => none
      | none => xDops P T mt ct cl ops n l e h k lg (acc ++ [([], [])])
    | some true => match o.dst with
      | some d => match Nat.blt d n with
        | true => match qAll P T o.op e h with
          | some (R, r) => xDops P T mt ct cl ops n l (eput e d r) h k lg (acc ++ [(R, [])])
          | none => match xAll P T o.dst o.op e h k with
            | some (R, W, some r, k') => xDops P T mt ct cl ops n l (eput e d r) (hputs h W) k' lg (acc ++ [(R, W.map (·.1))])
            | some (_, _, none, _) => none
            | none => match ctEv mt ct o.op e with
              | some (f, xs, r) => match fnEv P f with
                | some _ => xDops P T mt ct cl ops n l (eput e d r) h k ((f, xs, r) :: lg) (acc ++ [([], [])])
                | none => none
              | none => match directEv o.op e with
                | some (f, xs) => match fnEv P f, cl f xs (hres h (seen0 h k xs)) k lg with
                  | some _, some (r, h', k', lg') => match callFit h h' k k' xs r with
                    | true => xDops P T mt ct cl ops n l (eput e d r) (hputs h (wOf h h' (seen0 h k xs ++ freshL k k' h'))) k' lg' (acc ++ [(seen0 h k xs ++ freshL k k' h', (wOf h h' (seen0 h k xs ++ freshL k k' h')).map (·.1))])
                    | false => none
                  | _, _ => none
                | none => none
        | false => none
      | none => match xAll P T o.dst o.op e h k with
        | some (R, W, none, k') => xDops P T mt ct cl ops n l e (hputs h W) k' lg (acc ++ [(R, W.map (·.1))])
        | _ => none
    | none => none
section
variable {P : Program} {T : Nat → Option TyI} {mt : Nat → String → Option Nat} {ct : Nat → Option (List AV → Option AV)} {cl : XCall} {ops : Array Oper} {n : Nat}
theorem DOps.uw {o : Oper} {rest : List Oper} {e : AEnv} {h : AHeap} {acc : List (List Nat × List Nat)} {K : AState → Prop} (hd : o.dst = none) (hg : guardIs ops o e = some false) (hr : DOps P ops n rest e h (acc ++ [([], [])]) K) : DOps P ops n (o :: rest) e h acc K := by
  have := DOps.skip' (P := P) (ops := ops) (n := n) (e := e) (h := h) (acc := acc) (K := K) (o := o) (rest := rest) hg (fun t e => by rw [hd] at e; cases e)
  rw [hd] at this
  exact this hr
theorem xDops_spec (hT : TOk P T) (hcl : cl.Ok P) : ∀ (l : List Oper) {e e' : AEnv} {h h' : AHeap} {k k' : Nat} {lg lg' : XLog} {acc : List (List Nat × List Nat)}, xDops P T mt ct cl ops n l e h k lg acc = some (e', h', k', lg') →
    (∀ p ∈ lg, p ∈ lg') ∧ (LogOk P lg' → ∀ K : AState → Prop, K ⟨n, e', h'⟩ → DOps P ops n l e h acc K)
  | [], e, e', h, h', k, k', lg, lg', acc, hx => by
    unfold xDops at hx
    split at hx
    · rename_i hc
      simp only [Option.some.injEq, Prod.mk.injEq] at hx
      obtain ⟨rfl, rfl, rfl, rfl⟩ := hx
      exact ⟨fun p hp => hp, fun _ K hK => DOps.nil hc hK⟩
    · cases hx
  | o :: l, e, e', h, h', k, k', lg, lg', acc, hx => by
    unfold xDops at hx
    split at hx
    · rename_i hg
      split at hx
      · rename_i d hd
        split at hx
        · rename_i hb
          obtain ⟨a1, a2⟩ := xDops_spec hT hcl l hx
          exact ⟨a1, fun hl K hK => DOps.u d hd hb hg (a2 hl K hK)⟩
        · cases hx
      · rename_i hd
        obtain ⟨a1, a2⟩ := xDops_spec hT hcl l hx
        exact ⟨a1, fun hl K hK => DOps.uw hd hg (a2 hl K hK)⟩
    · rename_i hg
      split at hx
      · rename_i d hd
        split at hx
        · rename_i hb
          split at hx
          · rename_i R r hq
            obtain ⟨a1, a2⟩ := xDops_spec hT hcl l hx
            exact ⟨a1, fun hl K hK => DOps.s d hd hb hg (qAll_spec hT hq) (a2 hl K hK)⟩
          · split at hx
            · rename_i R W r k1 hv
              obtain ⟨a1, a2⟩ := xDops_spec hT hcl l hx
              exact ⟨a1, fun hl K hK => DOps.x d hd hb hg (xAll_spec hT hv) (a2 hl K hK)⟩
            · cases hx
            · split at hx
              · rename_i f xs r hc
                split at hx
                · rename_i fc hfn
                  obtain ⟨fn, c⟩ := fc
                  obtain ⟨f1, f2, f3⟩ := fnEv_spec hfn
                  obtain ⟨a1, a2⟩ := xDops_spec hT hcl l hx
                  refine ⟨fun p hp => a1 p (by simp [hp]), fun hl K hK => DOps.x d hd hb hg (ctEv_spec hc f1 f3 (by rw [f2]; rfl) (hl (f, xs, r) (a1 _ (by simp)))) (a2 hl K hK)⟩
                · cases hx
              · split at hx
                · rename_i f xs hc
                  split at hx
                  · rename_i fc r h1 k1 lg1 hfn hcall
                    obtain ⟨fn, c⟩ := fc
                    obtain ⟨f1, f2, f3⟩ := fnEv_spec hfn
                    split at hx
                    · rename_i hfit
                      obtain ⟨a1, a2⟩ := xDops_spec hT hcl l hx
                      obtain ⟨b1, b2⟩ := hcl _ _ _ _ _ _ _ _ _ hcall
                      exact ⟨fun p hp => a1 p (b1 p hp), fun hl K hK => DOps.x d hd hb hg (direct_spec hc f1 f3 (by rw [f2]; rfl) hfit (b2 (fun p hp => hl p (a1 p hp)))) (a2 hl K hK)⟩
                    · cases hx
                  · cases hx
                · cases hx
        · cases hx
      · rename_i hd
        split at hx
        · rename_i R W k1 hv
          obtain ⟨a1, a2⟩ := xDops_spec hT hcl l hx
          exact ⟨a1, fun hl K hK => DOps.w hd hg (xAll_spec hT hv) (a2 hl K hK)⟩
        · cases hx
    · cases hx
end
def resEv (T : Nat → Option TyI) (e : AEnv) (h : AHeap) : List ResultVar → Option (List AV)
  | [] => some []
  | .tmp t :: rs => match e t, resEv T e h rs with
    | some x, some xs => some (x :: xs)
    | _, _ => none
  | .cell a t :: rs => match e a, T t with
    | some p, some i => match ptsOf h p with
      | some (_, cs) => match loadAV i cs, resEv T e h rs with
        | some x, some xs => some (x :: xs)
        | _, _ => none
      | none => none
    | _, _ => none
theorem resEv_spec {T : Nat → Option TyI} {n : Nat} {e : AEnv} {h : AHeap} : ∀ {rs : List ResultVar} {xs : List AV}, resEv T e h rs = some xs → resAll T ⟨n, e, h⟩ rs xs
  | [], xs, hx => by simp [resEv] at hx; subst hx; trivial
  | .tmp t :: rs, xs, hx => by
    unfold resEv at hx
    split at hx
    · rename_i x ys h1 h2
      simp only [Option.some.injEq] at hx
      subst hx
      exact ⟨h1, resEv_spec h2⟩
    · cases hx
  | .cell a t :: rs, xs, hx => by
    unfold resEv at hx
    split at hx
    · rename_i p i h1 h2
      split at hx
      · rename_i R cs h3
        split at hx
        · rename_i x ys h4 h5
          simp only [Option.some.injEq] at hx
          subst hx
          exact ⟨⟨p, i, R, cs, h1, h2, ptsOf_spec h3, h4⟩, resEv_spec h5⟩
        · cases hx
      · cases hx
    · cases hx
def endsOk : Exit → Bool
  | .normal | .ret => true
  | _ => false
abbrev XEnd := Option (Exit × AEnv × AHeap × Nat × XLog)
def xGo (P : Program) (T : Nat → Option TyI) (mt : Nat → String → Option Nat) (ct : Nat → Option (List AV → Option AV)) (fz : Nat → Nat → Option Nat) : Nat → Nat → Code → AEnv → AHeap → Nat → XLog → XEnd
  | 0, _, _, _, _, _, _ => none
  | g + 1, n, c, e, h, k, lg => match c with
    | .skip => some (.normal, e, h, k, lg)
    | .label _ => some (.normal, e, h, k, lg)
    | .exit id => some (.exit id, e, h, k, lg)
    | .ret => some (.ret, e, h, k, lg)
    | .seq a b => match xGo P T mt ct fz g n a e h k lg with
      | some (x, e1, h1, k1, lg1) => match x with
        | .normal => xGo P T mt ct fz g n b e1 h1 k1 lg1
        | x => some (x, e1, h1, k1, lg1)
      | none => none
    | .cond (.tmp t) a b => match e t with
      | some (.bool true) => xGo P T mt ct fz g n a e h k lg
      | some (.bool false) => xGo P T mt ct fz g n b e h k lg
      | _ => none
    | .block id b => match xGo P T mt ct fz g n b e h k lg with
      | some (x, e1, h1, k1, lg1) => match x with
        | .exit id' => match Nat.beq id' id with
          | true => some (.normal, e1, h1, k1, lg1)
          | false => some (.exit id', e1, h1, k1, lg1)
        | x => some (x, e1, h1, k1, lg1)
      | none => none
    | .loop b => match xGo P T mt ct fz g n b e h k lg with
      | some (x, e1, h1, k1, lg1) => match x with
        | .normal => xGo P T mt ct fz g n (.loop b) e1 h1 k1 lg1
        | x => some (x, e1, h1, k1, lg1)
      | none => none
    | .scope b => match xGo P T mt ct fz g n b e h k lg with
      | some (x, e1, h1, k1, lg1) => match x with
        | .goto _ => none
        | x => some (x, e1, h1, k1, lg1)
      | none => none
    | .region id ops dr => (match frzAt fz n id k e h with
      | (e0, h0) => match dr with
      | false => match xOps P T mt ct (fun f xs h k lg => match fnEv P f with
          | some (fn, c) => match xGo P T mt ct fz g (xs.length + (fn.ntmps - xs.length)) c (argEnv xs) h k lg with
            | some (x, e1, h1, k1, lg1) => match endsOk x, resEv T e1 h1 fn.results.toList with
              | true, some ys => some (packAV ys, h1, k1, lg1)
              | _, _ => none
            | none => none
          | none => none) ops n ops.toList e0 h0 k lg with
        | some (e1, h1, k1, lg1) => some (.normal, e1, h1, k1, lg1)
        | none => none
      | true => match xDops P T mt ct (fun f xs h k lg => match fnEv P f with
          | some (fn, c) => match xGo P T mt ct fz g (xs.length + (fn.ntmps - xs.length)) c (argEnv xs) h k lg with
            | some (x, e1, h1, k1, lg1) => match endsOk x, resEv T e1 h1 fn.results.toList with
              | true, some ys => some (packAV ys, h1, k1, lg1)
              | _, _ => none
            | none => none
          | none => none) ops n ops.toList e0 h0 k lg [] with
        | some (e1, h1, k1, lg1) => some (.normal, e1, h1, k1, lg1)
        | none => none)
    | _ => none
def xCl (P : Program) (T : Nat → Option TyI) (mt : Nat → String → Option Nat) (ct : Nat → Option (List AV → Option AV)) (fz : Nat → Nat → Option Nat) (g : Nat) : XCall := fun f xs h k lg => match fnEv P f with
  | some (fn, c) => match xGo P T mt ct fz g (xs.length + (fn.ntmps - xs.length)) c (argEnv xs) h k lg with
    | some (x, e1, h1, k1, lg1) => match endsOk x, resEv T e1 h1 fn.results.toList with
      | true, some ys => some (packAV ys, h1, k1, lg1)
      | _, _ => none
    | none => none
  | none => none
def EndsAt (x : Exit) (s : AState) : Exit → AState → Prop := fun x1 s1 => x1 = x ∧ s1 = s
section
variable {P : Program} {T : Nat → Option TyI} {mt : Nat → String → Option Nat} {ct : Nat → Option (List AV → Option AV)} {fz : Nat → Nat → Option Nat}
theorem then_of {x : Exit} {s s1 : AState} {x1 : Exit} {K : AState → Prop} {Q : Exit → AState → Prop} (h : EndsAt x s x1 s1) (hn : x = .normal → K s) (ho : x ≠ .normal → Q x s) : Then K Q x1 s1 := by
  obtain ⟨rfl, rfl⟩ := h
  cases x1 with
  | normal => exact hn rfl
  | _ => exact ho (fun h => by cases h)
theorem xCl_ok (hT : TOk P T) {g : Nat} (ih : ∀ n c e h k lg x e' h' k' lg', xGo P T mt ct fz g n c e h k lg = some (x, e', h', k', lg') → (∀ p ∈ lg, p ∈ lg') ∧ (LogOk P lg' → AGo P c ⟨n, e, h⟩ (EndsAt x ⟨n, e', h'⟩))) : (xCl P T mt ct fz g).Ok P := by
  intro f xs h k lg r h' k' lg' hx
  unfold xCl at hx
  split at hx
  · rename_i fn c hfn
    obtain ⟨f1, f2, f3⟩ := fnEv_spec hfn
    split at hx
    · rename_i x e1 h1 k1 lg1 hg
      split at hx
      · rename_i ys hend hres
        simp only [Option.some.injEq, Prod.mk.injEq] at hx
        obtain ⟨rfl, rfl, rfl, rfl⟩ := hx
        obtain ⟨a1, a2⟩ := ih _ _ _ _ _ _ _ _ _ _ _ hg
        refine ⟨a1, fun hl => ACall.of_body hT f1 f2 rfl (AGo.mono (a2 hl) fun x1 s1 hh => ?_)⟩
        obtain ⟨rfl, rfl⟩ := hh
        cases x1 <;> simp [endsOk] at hend
        · exact ⟨ys, resEv_spec hres, rfl, rfl⟩
        · exact ⟨ys, resEv_spec hres, rfl, rfl⟩
      · cases hx
    · cases hx
  · cases hx
theorem xGo_spec (hT : TOk P T) (hmt : mtOk P mt) (hmx : P.follows .mixedOrders = true) : ∀ (g n : Nat) (c : Code) (e : AEnv) (h : AHeap) (k : Nat) (lg : XLog) (x : Exit) (e' : AEnv) (h' : AHeap) (k' : Nat) (lg' : XLog), xGo P T mt ct fz g n c e h k lg = some (x, e', h', k', lg') →
    (∀ p ∈ lg, p ∈ lg') ∧ (LogOk P lg' → AGo P c ⟨n, e, h⟩ (EndsAt x ⟨n, e', h'⟩) ∧ ∀ b, c = .loop b → ∃ m, Un P b (EndsAt x ⟨n, e', h'⟩) m ⟨n, e, h⟩)
  | 0, _, _, _, _, _, _, _, _, _, _, _, hx => by cases hx
  | g + 1, n, c, e, h, k, lg, x, e', h', k', lg', hx => by
    have ih := xGo_spec hT hmt hmx g
    have ih1 : ∀ n c e h k lg x e' h' k' lg', xGo P T mt ct fz g n c e h k lg = some (x, e', h', k', lg') → (∀ p ∈ lg, p ∈ lg') ∧ (LogOk P lg' → AGo P c ⟨n, e, h⟩ (EndsAt x ⟨n, e', h'⟩)) :=
      fun n c e h k lg x e' h' k' lg' hg => ⟨(ih n c e h k lg x e' h' k' lg' hg).1, fun hl => ((ih n c e h k lg x e' h' k' lg' hg).2 hl).1⟩
    have hcl := xCl_ok (P := P) (mt := mt) (ct := ct) (fz := fz) hT ih1
    cases c with
    | skip =>
      simp only [xGo, Option.some.injEq, Prod.mk.injEq] at hx
      obtain ⟨rfl, rfl, rfl, rfl, rfl⟩ := hx
      exact ⟨fun p hp => hp, fun _ => ⟨AGo.skip ⟨rfl, rfl⟩, fun b hb => by cases hb⟩⟩
    | label l =>
      simp only [xGo, Option.some.injEq, Prod.mk.injEq] at hx
      obtain ⟨rfl, rfl, rfl, rfl, rfl⟩ := hx
      exact ⟨fun p hp => hp, fun _ => ⟨AGo.label ⟨rfl, rfl⟩, fun b hb => by cases hb⟩⟩
    | exit id =>
      simp only [xGo, Option.some.injEq, Prod.mk.injEq] at hx
      obtain ⟨rfl, rfl, rfl, rfl, rfl⟩ := hx
      exact ⟨fun p hp => hp, fun _ => ⟨AGo.exit ⟨rfl, rfl⟩, fun b hb => by cases hb⟩⟩
    | ret =>
      simp only [xGo, Option.some.injEq, Prod.mk.injEq] at hx
      obtain ⟨rfl, rfl, rfl, rfl, rfl⟩ := hx
      exact ⟨fun p hp => hp, fun _ => ⟨AGo.ret ⟨rfl, rfl⟩, fun b hb => by cases hb⟩⟩
    | seq a b =>
      simp only [xGo] at hx
      split at hx
      · rename_i x1 e1 h1 k1 lg1 hg
        obtain ⟨a1, a2⟩ := ih1 _ _ _ _ _ _ _ _ _ _ _ hg
        split at hx
        · obtain ⟨b1, b2⟩ := ih1 _ _ _ _ _ _ _ _ _ _ _ hx
          exact ⟨fun p hp => b1 p (a1 p hp), fun hl => ⟨AGo.seq (AGo.mono (a2 fun p hp => hl p (b1 p hp)) fun x2 s2 hh => then_of hh (fun _ => b2 hl) (fun hn => absurd rfl hn)), fun b hb => by cases hb⟩⟩
        · rename_i hne
          simp only [Option.some.injEq, Prod.mk.injEq] at hx
          obtain ⟨rfl, rfl, rfl, rfl, rfl⟩ := hx
          exact ⟨a1, fun hl => ⟨AGo.seq (AGo.mono (a2 hl) fun x2 s2 hh => then_of hh (fun hn => absurd hn hne) (fun _ => ⟨rfl, rfl⟩)), fun b hb => by cases hb⟩⟩
      · cases hx
    | cond o a b =>
      cases o with
      | tmp t =>
        simp only [xGo] at hx
        split at hx
        · rename_i ht
          obtain ⟨a1, a2⟩ := ih1 _ _ _ _ _ _ _ _ _ _ _ hx
          exact ⟨a1, fun hl => ⟨AGo.cond_true true ht rfl (a2 hl), fun b hb => by cases hb⟩⟩
        · rename_i ht
          obtain ⟨a1, a2⟩ := ih1 _ _ _ _ _ _ _ _ _ _ _ hx
          exact ⟨a1, fun hl => ⟨AGo.cond_false false ht rfl (a2 hl), fun b hb => by cases hb⟩⟩
        · cases hx
      | _ => simp only [xGo] at hx; cases hx
    | block id b =>
      simp only [xGo] at hx
      split at hx
      · rename_i x1 e1 h1 k1 lg1 hg
        obtain ⟨a1, a2⟩ := ih1 _ _ _ _ _ _ _ _ _ _ _ hg
        split at hx
        · rename_i id'
          split at hx
          · rename_i hid
            simp only [Option.some.injEq, Prod.mk.injEq] at hx
            obtain ⟨rfl, rfl, rfl, rfl, rfl⟩ := hx
            refine ⟨a1, fun hl => ⟨AGo.block (AGo.mono (a2 hl) fun x2 s2 hh => ?_), fun b hb => by cases hb⟩⟩
            obtain ⟨rfl, rfl⟩ := hh
            show bif Nat.beq id' id then _ else _
            rw [hid]; exact ⟨rfl, rfl⟩
          · rename_i hid
            simp only [Option.some.injEq, Prod.mk.injEq] at hx
            obtain ⟨rfl, rfl, rfl, rfl, rfl⟩ := hx
            refine ⟨a1, fun hl => ⟨AGo.block (AGo.mono (a2 hl) fun x2 s2 hh => ?_), fun b hb => by cases hb⟩⟩
            obtain ⟨rfl, rfl⟩ := hh
            show bif Nat.beq id' id then _ else _
            rw [hid]; exact ⟨rfl, rfl⟩
        · rename_i hne
          simp only [Option.some.injEq, Prod.mk.injEq] at hx
          obtain ⟨rfl, rfl, rfl, rfl, rfl⟩ := hx
          refine ⟨a1, fun hl => ⟨AGo.block (AGo.mono (a2 hl) fun x2 s2 hh => ?_), fun b hb => by cases hb⟩⟩
          obtain ⟨rfl, rfl⟩ := hh
          cases x2 with
          | exit i => exact absurd rfl (hne i)
          | _ => exact ⟨rfl, rfl⟩
      · cases hx
    | loop b =>
      simp only [xGo] at hx
      split at hx
      · rename_i x1 e1 h1 k1 lg1 hg
        obtain ⟨a1, a2⟩ := ih1 _ _ _ _ _ _ _ _ _ _ _ hg
        split at hx
        · obtain ⟨b1, b2⟩ := ih _ _ _ _ _ _ _ _ _ _ _ hx
          refine ⟨fun p hp => b1 p (a1 p hp), fun hl => ?_⟩
          obtain ⟨m, hm⟩ := (b2 hl).2 b rfl
          have hu : Un P b (EndsAt x ⟨n, e', h'⟩) (m + 1) ⟨n, e, h⟩ := AGo.un_succ (AGo.mono (a2 fun p hp => hl p (b1 p hp)) fun x2 s2 hh => then_of hh (fun _ => hm) (fun hn => absurd rfl hn))
          exact ⟨AGo.unroll _ hu, fun b' hb => by cases hb; exact ⟨_, hu⟩⟩
        · rename_i hne
          simp only [Option.some.injEq, Prod.mk.injEq] at hx
          obtain ⟨rfl, rfl, rfl, rfl, rfl⟩ := hx
          refine ⟨a1, fun hl => ?_⟩
          have hu : Un P b (EndsAt x1 ⟨n, e1, h1⟩) 0 ⟨n, e, h⟩ := AGo.un_zero (AGo.mono (a2 hl) fun x2 s2 hh => then_of hh (fun hn => absurd hn hne) (fun _ => ⟨rfl, rfl⟩))
          exact ⟨AGo.unroll _ hu, fun b' hb => by cases hb; exact ⟨_, hu⟩⟩
      · cases hx
    | scope b =>
      simp only [xGo] at hx
      split at hx
      · rename_i x1 e1 h1 k1 lg1 hg
        obtain ⟨a1, a2⟩ := ih1 _ _ _ _ _ _ _ _ _ _ _ hg
        split at hx
        · cases hx
        · rename_i hne
          simp only [Option.some.injEq, Prod.mk.injEq] at hx
          obtain ⟨rfl, rfl, rfl, rfl, rfl⟩ := hx
          refine ⟨a1, fun hl => ⟨AGo.scope (AGo.mono (a2 hl) fun x2 s2 hh => ?_), fun b hb => by cases hb⟩⟩
          obtain ⟨rfl, rfl⟩ := hh
          cases x2 with
          | goto i => exact absurd rfl (hne i)
          | _ => exact ⟨rfl, rfl⟩
      · cases hx
    | region id ops dr =>
      cases dr with
      | false =>
        simp only [xGo] at hx
        generalize hfz : frzAt fz n id k e h = eh at hx
        obtain ⟨e0, h0⟩ := eh
        have hgst := frzAt_ghost hfz
        simp only at hx
        split at hx
        · rename_i e1 h1 k1 lg1 hg
          simp only [Option.some.injEq, Prod.mk.injEq] at hx
          obtain ⟨rfl, rfl, rfl, rfl, rfl⟩ := hx
          obtain ⟨a1, a2⟩ := xOps_spec hT hmt hcl _ hg
          exact ⟨a1, fun hl => ⟨AGo.ghost hgst (AGo.region (a2 hl _ ⟨rfl, rfl⟩)), fun b hb => by cases hb⟩⟩
        · cases hx
      | true =>
        simp only [xGo] at hx
        generalize hfz : frzAt fz n id k e h = eh at hx
        obtain ⟨e0, h0⟩ := eh
        have hgst := frzAt_ghost hfz
        simp only at hx
        split at hx
        · rename_i e1 h1 k1 lg1 hg
          simp only [Option.some.injEq, Prod.mk.injEq] at hx
          obtain ⟨rfl, rfl, rfl, rfl, rfl⟩ := hx
          obtain ⟨a1, a2⟩ := xDops_spec hT hcl _ hg
          exact ⟨a1, fun hl => ⟨AGo.ghost hgst (AGo.draw hmx (a2 hl _ ⟨rfl, rfl⟩)), fun b hb => by cases hb⟩⟩
        · cases hx
    | _ => simp only [xGo] at hx; cases hx
end
theorem AGo.endsGhost {P : Program} {c : Code} {x : Exit} {s s1 s2 : AState} (h : AGo P c s (EndsAt x s1)) (hg : Ghost s1 s2) : AGo P c s (EndsAt x s2) := fun H ι a w hs =>
  wp_mono (h H ι a w hs) fun e a' w' hp => by
    obtain ⟨s', H', ι', ⟨rfl, rfl⟩, h1, h2⟩ := hp
    obtain ⟨H2, ι2, h3, h4⟩ := hg H' ι' a' w' h1
    exact ⟨s2, H2, ι2, ⟨rfl, rfl⟩, h3, h2.trans hs.heap h1.heap h4⟩
def resRefs (e : AEnv) : List ResultVar → List Nat
  | [] => []
  | .tmp t :: rs => (match e t with | some x => refsOf x | none => []) ++ resRefs e rs
  | .cell t _ :: rs => (match e t with | some x => refsOf x | none => []) ++ resRefs e rs
def runR (P : Program) (T : Nat → Option TyI) (mt : Nat → String → Option Nat) (ct : Nat → Option (List AV → Option AV)) (fz : Nat → Nat → Option Nat) (g f : Nat) (xs : List AV) : Option (AV × XLog) := match fnEv P f with
  | some (fn, c) => match xGo P T mt ct fz g (xs.length + (fn.ntmps - xs.length)) c (argEnv xs) hNew 0 [] with
    | some (x, e1, h1, k1, lg1) => match frzL (xs.length + (fn.ntmps - xs.length)) k1 (reachL h1 4 (resRefs e1 fn.results.toList)) e1 h1 with
      | (e2, h2) => match endsOk x, resEv T e2 h2 fn.results.toList with
        | true, some ys => match (packAV ys).isPure with
          | true => some (packAV ys, lg1)
          | false => none
        | _, _ => none
    | none => none
  | none => none
theorem APure.of_runR {P : Program} {T : Nat → Option TyI} {mt : Nat → String → Option Nat} {ct : Nat → Option (List AV → Option AV)} {fz : Nat → Nat → Option Nat} (hT : TOk P T) (hmt : mtOk P mt) (hmx : P.follows .mixedOrders = true) (g : Nat) {f : Nat} {xs : List AV} {r : AV} {lg : XLog}
    (hx : runR P T mt ct fz g f xs = some (r, lg)) (hl : LogOk P lg) : APure P f xs (fun r' => r' = r) := by
  unfold runR at hx
  split at hx
  · rename_i fn c hfn
    obtain ⟨f1, f2, f3⟩ := fnEv_spec hfn
    split at hx
    · rename_i x e1 h1 k1 lg1 hg
      split at hx
      rename_i e2 h2 hfz
      split at hx
      · rename_i ys hend hres
        split at hx
        · rename_i hp
          simp only [Option.some.injEq, Prod.mk.injEq] at hx
          obtain ⟨rfl, rfl⟩ := hx
          have ha := ((xGo_spec hT hmt hmx g _ _ _ _ _ _ _ _ _ _ _ hg).2 hl).1
          refine APure.of_body hT f1 f2 rfl (AGo.mono (AGo.endsGhost ha (frzL_ghost _ hfz)) fun x1 s1 hh => ?_)
          obtain ⟨rfl, rfl⟩ := hh
          cases x1 <;> simp [endsOk] at hend
          · exact ⟨ys, resEv_spec hres, rfl, hp⟩
          · exact ⟨ys, resEv_spec hres, rfl, hp⟩
        · cases hx
      · cases hx
    · cases hx
  · cases hx
theorem logOk_nil (P : Program) : LogOk P [] := fun p hp => by cases hp
theorem logOk_cons {P : Program} {f : Nat} {xs : List AV} {r : AV} {lg : XLog} (h : APure P f xs (fun r' => r' = r)) (hl : LogOk P lg) : LogOk P ((f, xs, r) :: lg) := fun p hp => by
  cases hp with
  | head => exact h
  | tail _ hp => exact hl p hp
theorem logOk_app {P : Program} {a b : XLog} (h1 : LogOk P a) (h2 : LogOk P b) : LogOk P (a ++ b) := fun p hp => (List.mem_append.1 hp).elim (h1 p) (h2 p)
def tinyA : BFunc := ⟨3, [⟨[⟨1, 0, 0, 0, 0, 0, 0, 60⟩, ⟨1, 1, 0, 0, 0, 0, 0, 5⟩, ⟨3, 2, 0, 1, 4, 0, 0, 0⟩, ⟨9, 0, 2, 0, 0, 0, 0, 0⟩], 3, 0, 0, 0⟩]⟩
def tinyB : BFunc := ⟨3, [⟨[⟨1, 0, 0, 0, 0, 0, 0, 60⟩, ⟨1, 1, 0, 0, 0, 0, 0, 5⟩, ⟨1, 2, 0, 0, 0, 0, 0, 65⟩, ⟨9, 0, 2, 0, 0, 0, 0, 0⟩], 3, 0, 0, 0⟩]⟩
def tinyC : BFunc := ⟨3, [⟨[⟨1, 2, 0, 0, 0, 0, 0, 65⟩, ⟨9, 0, 2, 0, 0, 0, 0, 0⟩], 3, 0, 0, 0⟩]⟩
def tinyP (f : BFunc) : Blocks := ⟨0, [f]⟩
theorem APure.of_call {P : Program} {f : Nat} {args : List AV} {r : AV} {h0 : AHeap} (hp : r.isPure = true) (hc : ACall P f args hNew (fun r' h' => r' = r ∧ HSub h0 h')) : APure P f args (fun r' => r' = r) := by
  intro H w vs ha hk
  refine (hc H noLay w vs ha (heapRel_new hk)).mono fun e w' hx => ?_
  obtain ⟨v, r', h', H', ι', rfl, ⟨rfl, _⟩, h3, h4, h5⟩ := hx
  have hno : ∀ rb, ¬ Owned hNew noLay rb := fun rb ho => by obtain ⟨b, o, r, e1, e2, e3, _⟩ := ho; cases e3
  exact ⟨v, r', H', rfl, rfl, pure_rel hp h3, ⟨h5.size, h5.os, h5.out, fun rb hlt => h5.keep rb hlt (hno rb), h5.kle, fun b hb => (h5.knew b hb).imp id fun h => h.resolve_right (hno b), h4.know⟩⟩
def mt35 : Nat → String → Option Nat := fun t s => bif Nat.beq t 97 then (bif s == "seedcorn/optimize.run" then some 128 else bif s == "seedcorn/optimize.holds" then some 127 else none) else bif Nat.beq t 99 then (bif s == "seedcorn/optimize.run" then some 142 else bif s == "seedcorn/optimize.holds" then some 141 else none) else none
theorem mt_cr (v : Value) (w : World) : (method (Tryz.prog.types.size + Made.depth) 97 v "seedcorn/optimize.run").run Tryz.prog w = .ok (128, v) w := by kernel_rfl
theorem mt_ch (v : Value) (w : World) : (method (Tryz.prog.types.size + Made.depth) 97 v "seedcorn/optimize.holds").run Tryz.prog w = .ok (127, v) w := by kernel_rfl
theorem mt_jr (v : Value) (w : World) : (method (Tryz.prog.types.size + Made.depth) 99 v "seedcorn/optimize.run").run Tryz.prog w = .ok (142, v) w := by kernel_rfl
theorem mt_jh (v : Value) (w : World) : (method (Tryz.prog.types.size + Made.depth) 99 v "seedcorn/optimize.holds").run Tryz.prog w = .ok (141, v) w := by kernel_rfl
theorem mt_ok : mtOk Tryz.prog mt35 := fun t name f v w h => by
  unfold mt35 at h
  cases ht : Nat.beq t 97 with
  | true =>
    obtain rfl := Nat.eq_of_beq_eq_true ht
    rw [ht] at h
    simp only [cond_true] at h
    cases h1 : name == "seedcorn/optimize.run" with
    | true =>
      rw [h1] at h
      obtain rfl := eq_of_beq h1
      simp only [cond_true, Option.some.injEq] at h
      subst h
      exact mt_cr v w
    | false =>
      rw [h1] at h
      cases h2 : name == "seedcorn/optimize.holds" with
      | true =>
        rw [h2] at h
        obtain rfl := eq_of_beq h2
        simp only [cond_true, cond_false, Option.some.injEq] at h
        subst h
        exact mt_ch v w
      | false => rw [h2] at h; cases h
  | false =>
    rw [ht] at h
    cases ht2 : Nat.beq t 99 with
    | true =>
      obtain rfl := Nat.eq_of_beq_eq_true ht2
      rw [ht2] at h
      simp only [cond_true, cond_false] at h
      cases h1 : name == "seedcorn/optimize.run" with
      | true =>
        rw [h1] at h
        obtain rfl := eq_of_beq h1
        simp only [cond_true, Option.some.injEq] at h
        subst h
        exact mt_jr v w
      | false =>
        rw [h1] at h
        cases h2 : name == "seedcorn/optimize.holds" with
        | true =>
          rw [h2] at h
          obtain rfl := eq_of_beq h2
          simp only [cond_true, cond_false, Option.some.injEq] at h
          subst h
          exact mt_jh v w
        | false => rw [h2] at h; cases h
    | false => rw [ht2] at h; cases h
def fz35 : Nat → Nat → Option Nat := fun n i => bif Nat.beq n 83 && Nat.beq i 14 then some 6 else bif Nat.beq n 90 && Nat.beq i 19 then some 14 else none
def tinyBl : Block := ⟨[⟨1, 2, 0, 0, 0, 0, 0, 65⟩, ⟨9, 0, 2, 0, 0, 0, 0, 0⟩], 3, 0, 0, 0⟩
def touchR : AV := .tup [.lst false [[.int .u64 0]], .lst false [[.int .u64 4]]]
def ct35 : Nat → Option (List AV → Option AV) := fun f => bif Nat.beq f 97 then some (fun _ => some touchR) else none
def certAT : AV := .lst false [[.lst false [[.bool true], [.bool true], [.bool true]]]]
def certAF : AV := .lst false [[.lst false [[.bool false], [.bool false], [.bool false]]]]
def tinyCX : List AV := [.int .i64 3, .lst false [[.lst true (tinyBl.ins.map Tac.cells), .int .i64 3, .int .i64 0, .int .i64 0, .int .i64 0]]]
def tinyPs : AV := .lst false [
  [.int .i64 1, certAT, .nil] ++ tinyB.cells,
  [.int .i64 2, certAT, .nil] ++ tinyB.cells,
  [.int .i64 3, certAF, .nil] ++ tinyC.cells,
  [.int .i64 4, .nil, .lst false [[.lst false [[.int .i64 0]]]]] ++ tinyCX]
def tinyR : AV := .tup [.agg [.int .i64 0, .lst false [tinyCX]], .lst false [[tinyPs]], .int .i64 0]
def tinyAA : List AV := [.agg (tinyP tinyA).cells, .lst false [[.int .i64 1], [.int .i64 2], [.int .i64 3], [.int .i64 4]]]
def ctA : Nat → Option (List AV → Option AV) := fun f => bif Nat.beq f 129 then some (fun _ => some (.bool true)) else bif Nat.beq f 30 then some (fun _ => some (.agg (tinyP tinyA).cells)) else bif Nat.beq f 15 then some (fun xs => match xs with | [_, .lst _ (_ :: _ :: _)] => some tinyR | _ => none) else none
def noCt : Nat → Option (List AV → Option AV) := fun _ => none
def tiny_log : XLog := [(30, [], .agg (tinyP tinyA).cells)]
def vlog : XLog := [(129, [.agg tinyB.cells, .agg tinyC.cells, .agg [certAF]], .bool true), (129, [.agg tinyB.cells, .agg tinyB.cells, .agg [certAT]], .bool true), (129, [.agg tinyA.cells, .agg tinyB.cells, .agg [certAT]], .bool true)]
def recvAV (k : Int) : AV := match ofVal (match passV k with | .iface _ v => v | v => v) with
  | some x => x
  | none => .nil
def holdsFn (k : Int) : Nat := bif k == 4 then 141 else 127
def HoldsOk (p : OPass) (f : BFunc) : Prop := APure Tryz.prog (holdsFn p.kind) [recvAV p.kind, .agg f.cells, .agg p.cells] (fun r => r = .bool (p.holds f))
section
variable {o : Oper} {e : AEnv} {h : AHeap}
theorem o_holds {recv : Operand} {args : Array Operand} {tys : Array TypeId} {p : OPass} {f : BFunc} (hk : kind35 p.kind = true) (ho : o.op = .call { callee := .invoke recv "seedcorn/optimize.holds", args := args, argTypes := tys })
    (hr : look e recv = some (.val (passV p.kind))) (hx : lookAll e args.toList = some [.agg f.cells, .agg p.cells]) (hc : HoldsOk p f) : OLoc Tryz.prog o e h [] [] (some (.bool (p.holds f))) := by
  unfold HoldsOk at hc
  rcases kind_cases hk with h1 | h1 | h1 | h1 <;> rw [h1] at hr hc
  · exact o_invoke ho hr (fun w => mt_ch _ w) (ofVal_rel (by rfl)) Tryz.func127 (by kernel_rfl) rfl hx rfl hc
  · exact o_invoke ho hr (fun w => mt_ch _ w) (ofVal_rel (by rfl)) Tryz.func127 (by kernel_rfl) rfl hx rfl hc
  · exact o_invoke ho hr (fun w => mt_ch _ w) (ofVal_rel (by rfl)) Tryz.func127 (by kernel_rfl) rfl hx rfl hc
  · exact o_invoke ho hr (fun w => mt_jh _ w) (ofVal_rel (by rfl)) Tryz.func141 (by kernel_rfl) rfl hx rfl hc
end
theorem fill_set_len {α : Type} {F : List α} {f : α → List AV} {z y : List AV} {k n i : Nat} (hF : F.length = n) (hk : k ≤ n) : n = (((F.take k).map f ++ List.replicate (n - k) z).set i y).length := by
  rw [List.length_set]; exact fill_len hF hk
theorem fill_set_get {α : Type} {F : List α} {f : α → List AV} {z y : List AV} {k n : Nat} (hF : F.length = n) (hk : k < n) : (((F.take k).map f ++ List.replicate (n - k) z).set (0 + ((k : Nat) : Int).toNat) y)[0 + ((k : Nat) : Int).toNat]? = some y := by
  have := fill_len (f := f) (z := z) hF (Nat.le_of_lt hk)
  rw [List.getElem?_set_self (by omega)]
theorem set_set_eq {α : Type} {l : List α} {i : Nat} {x y : α} : (l.set i x).set i y = l.set i y := by
  apply List.ext_getElem?
  intro j
  simp only [List.getElem?_set]
  split <;> simp_all
theorem passes_pure1 (l : List (List OPass)) : ∀ cs ∈ l.map (fun x => [passesAV x]), cs.all AV.isPure1 = true := fun cs h => by
  obtain ⟨x, _, rfl⟩ := List.mem_map.1 h; rfl
theorem rowP_avoid {q : Nat → Bool} {l : List (List OPass)} {m : Nat} : (AObj.row false 1 (l.map (fun x => [passesAV x]) ++ List.replicate m [AV.nil])).avoid q = true := by
  show List.all _ _ = true
  rw [List.all_append, Bool.and_eq_true]
  refine ⟨List.all_eq_true.2 fun cs h => ?_, List.all_eq_true.2 fun cs h => ?_⟩
  · obtain ⟨x, _, rfl⟩ := List.mem_map.1 h; rfl
  · rw [(List.mem_replicate.1 h).2]; rfl
theorem rowPs_avoid {q : Nat → Bool} {l : List (List OPass)} {m i b n : Nat} (hb : q b = true) : (AObj.row false 1 ((l.map (fun x => [passesAV x]) ++ List.replicate m [AV.nil]).set i [.ref b n 0 n])).avoid q = true := by
  show List.all _ _ = true
  refine List.all_eq_true.2 fun cs h => ?_
  rcases List.mem_or_eq_of_mem_set h with h | rfl
  · exact List.all_eq_true.1 (rowP_avoid (q := q) (l := l) (m := m)) cs h
  · simp [AV.avoid, AV.flat, hb]
def noG : BFunc → Int → OPass := fun f _ => ⟨0, ⟨[]⟩, [], f⟩
theorem optOf_none {P : Program} {n : Nat} (a : Blocks) (hA : a.Lim) {x : AV} (h : APure P n [x, intsAV []] (fun r => r = .tup [.agg (⟨a.words, a.funcs.map (fOf noG [])⟩ : Blocks).cells, listAV (a.funcs.map (psOf noG [])), .int .i64 0])) :
    APure P n [x, .lst false []] (fun r => r = .tup [.agg a.cells, listAV (List.replicate a.funcs.length []), .int .i64 0]) := by
  have e1 : a.funcs.map (fOf noG []) = a.funcs := List.map_id _
  have e2 : a.funcs.map (psOf noG []) = List.replicate a.funcs.length [] := by
    rw [show psOf noG [] = fun _ => ([] : List OPass) from rfl, List.map_const']
  rw [e1, e2] at h
  exact h
theorem check_none {P : Program} {n : Nat} (a b : Blocks) (ha : a.right = true) (hb : b.right = true) (h : APure P n [.agg a.cells, .agg b.cells, listAV (List.replicate a.funcs.length [])] (fun r => r = .bool (ocheck a b (List.replicate a.funcs.length [])))) :
    APure P n [.agg a.cells, .agg b.cells, .lst false (List.replicate a.funcs.length [passesAV []])] (fun r => r = .bool (decide (a = b))) := by
  rw [ocheck_none ha hb] at h
  have e : listAV (List.replicate a.funcs.length []) = .lst false (List.replicate a.funcs.length [passesAV []]) := by rw [listAV, List.map_replicate]
  rw [e] at h
  exact h
theorem weak_rep {n : Nat} : ∀ (i : Nat) (cs cs' : List AV), (List.replicate n [AV.nil])[i]? = some cs → (List.replicate n [passesAV []])[i]? = some cs' → cs'.length = cs.length ∧ ∀ (j : Nat) (x y : AV), cs[j]? = some x → cs'[j]? = some y → (x.cell1 = true → y.cell1 = true) ∧ ∀ H ι v, Rel H ι x v → Rel H ι y v := fun i cs cs' h1 h2 => by
  have e1 := (List.mem_replicate.1 (List.mem_of_getElem? h1)).2
  have e2 := (List.mem_replicate.1 (List.mem_of_getElem? h2)).2
  subst e1; subst e2
  refine ⟨rfl, fun j x y hx hy => ?_⟩
  match j with
  | 0 => simp at hx hy; subst hx; subst hy; exact ⟨fun _ => rfl, fun H ι v h => rel_nilL h⟩
  | j + 1 => simp at hx
theorem eql_same (a : Int) : evalBin .eql (.int .i64 a) (.int .i64 a) = some (.bool true) := by simp [evalBin, evalInt, isShift]
theorem q_boolSame {P : Program} {o : Oper} {e : AEnv} {h : AHeap} {a : Bool} (hq : QLoc P o e h [] (.bool (bif false then !(a == a) else (a == a)))) : QLoc P o e h [] (.bool true) := by
  simpa using hq
theorem tiny_ok : APure Tryz.prog 30 [] (fun r => r = .agg (tinyP tinyA).cells) :=
  APure.of_runR (ct := noCt) (fz := fz35) (lg := []) tok mt_ok (by kernel_rfl) 1000 (by kernel_rfl) (logOk_nil _)
theorem tiny_l : LogOk Tryz.prog tiny_log := logOk_cons tiny_ok (logOk_nil _)
theorem awake_ev (ho : APure Tryz.prog 15 tinyAA (fun r => r = tinyR)) (hv : LogOk Tryz.prog vlog) : APure Tryz.prog 14 [] (fun r => r = .bool true) :=
  APure.of_runR (ct := ctA) (fz := fz35) (lg := tiny_log ++ (vlog ++ (tiny_log ++ (tiny_log ++ ((15, tinyAA, tinyR) :: tiny_log))))) tok mt_ok (by kernel_rfl) 1000 (by kernel_rfl)
    (logOk_app tiny_l (logOk_app hv (logOk_app tiny_l (logOk_app tiny_l (logOk_cons ho tiny_l)))))
end Go.Proofs.YtbbfelelocccmaaGreat.Sv
