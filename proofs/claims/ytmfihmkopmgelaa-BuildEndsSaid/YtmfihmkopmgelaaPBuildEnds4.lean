/-
  A RUN OF A PROGRAM WITHOUT NAMES HAS NO FEWER TICKS BEHIND IT; and what its walk needs: own work.
  WHAT WALKS OVER PROGRAMS WITHOUT NAMES NEED: own work.
  WHAT MAY BE, ONE BY ONE: own work.
  THE RUN OF A PROGRAM WITHOUT NAMES: its rows, and its steps as the walk wants them. Own work.
  CALLS AND STATEMENTS, as the walk wants them: own work.
  CALLS OF WHAT SEES SOME NAMED ROWS AND A FAMILY: own work.
  THE BUILDER'S ROWS, step by step: own work.
  THE BUILDER'S ROWS WHERE FUNCTIONS ARE HANDED ABOUT: own work.
  CALLS OF WHAT SEES THE BUILDER'S ROWS, told by lists of rows (for regions in no order): own work.
  HOW MUCH IS BUILT, at most: own work.
  WHAT IS BUILT, as the walk wants it: own work.
  HOW MUCH IS BUILT OF STATEMENTS, at most; and what is built, as the walk wants it: own work.
  WHAT IS BUILT OF A STATEMENT, as the walk wants it: own work.
  WHAT IS BUILT OF AN IF AND OF A WHILE, as the walk wants it: own work.
  ROWS THAT A CLOSURE DOESN'T NEED: own work.
  WHERE IS WRITTEN TO, in an if and in a while: own work.
  HOW RUNS END, compared: own work.
  WORDS THAT BECOME 0, as the walk wants it: own work.
  WORDS THAT BECOME 0: where is written to, and how much there is: own work.
  NUMBERS IN WHAT IS BUILT ARE WORDS: own work.
  A RUN OF A PROGRAM WITHOUT NAMES TAKES NO MORE TICKS THAN ITS FUEL; and what the statements need: own work.
  THE LESSER ONE OF TWO NUMBERS: own work, over no program.
  NUMBERS IN A CHUNK OF WORDS: own work.
  A PROGRAM WITHOUT WHAT IS DEAD ENDS ALIKE, IN NO MORE STEPS, in plain Lean: own work.
  WHAT MATTERS, IN ROWS: own work.
  THE FIELD OF A STRUCT'S VALUE: own work, over no program.
  WHAT MATTERS, AS IT LIES IN MEMORY: own work.
  THE ROUNDS OF THE DOCUMENT'S ANSWER ON WHAT MATTERS: own work.
  WHAT IS DEAD NOW, AND LEFT OUT AT ONCE: own work.
  SETS OF REGISTERS, 64 IN EACH NUMBER: own work.
  WHAT A BLOCK READS AHEAD OF SETTING IT: instruction by instruction, the last one first. Own work.
  THREE FAMILIES OF ROWS, and tables of slices that lead to them: own work.
  A FUNCTION THAT HAS BEEN BUILT IS WRITTEN NO MORE: own work.
  CORES THAT MAY BE BUILT, AS THE STATEMENTS WANT THEM: own work.
  HOW MANY LOOPS AND GETS, as the walk counts them; inputs that are alike at first: own work.
  STRINGS PUT TOGETHER: own work, over no program.
  WHAT THE OTHER STATEMENTS OF LAW25 ASK: own work.
  Short names for the commonest steps of a walk (what is said of them is found by rfl).
  WALKS: printed by a program of our own from the code's tree.
-/
import Derived.Test.YtmfihmkopmgelaaPBuildEnds3
import Derived.Test.YtmfihmkopmgelaaPBuildEnds2
import Derived.Test.YtmfihmkopmgelaaPBuildEnds1
namespace Go.Proofs.Ytmfihmkopmgelaa.Sv
open Go
def CallUp (call : CallC) : Prop := ∀ f args c, c.m.steps ≤ (call f args c).2.m.steps
section
variable {call : CallC} {s : ByteArray}
def EvUp (call : CallC) (s : ByteArray) (e : CE) : Prop := ∀ c, c.m.steps ≤ (e.ev call s c).2.m.steps
theorem evI_up {sl z : Int} {l : List CE} (hI : ∀ e ∈ l, EvUp call s e) (c : CM) : c.m.steps ≤ (CE.evI call s sl z l c).2.m.steps := by
  cases l with
  | nil => rw [CE.evI]; exact Nat.le_refl _
  | cons e l =>
    rw [CE.evI]
    have h := hI e (List.mem_cons.2 (.inl rfl)) c
    generalize e.ev call s c = p at h ⊢
    obtain ⟨i, c1⟩ := p
    dsimp only at h ⊢
    cases c1.fin == 0 with
    | false => exact h
    | true => cases decide (i ≥ z) <;> exact h
theorem evC_up (hcall : CallUp call) {f : Int} : ∀ {l : List CE}, (∀ e ∈ l, EvUp call s e) → ∀ (args : List Int) (c : CM), c.m.steps ≤ (CE.evC call s f l args c).2.m.steps
  | [], _, args, c => by rw [CE.evC]; exact hcall _ _ _
  | e :: l, hI, args, c => by
    rw [CE.evC]
    have h := hI e (List.mem_cons.2 (.inl rfl)) c
    generalize e.ev call s c = p at h ⊢
    obtain ⟨x, c1⟩ := p
    dsimp only at h ⊢
    cases c1.fin == 0 with
    | false => exact h
    | true => exact Nat.le_trans h (evC_up hcall (fun e he => hI e (List.mem_cons.2 (.inr he))) _ c1)
theorem evR_up {k o : Int} {l : List CE} (hI : ∀ e ∈ l, EvUp call s e) (x : Int) (c : CM) : c.m.steps ≤ (CE.evR call s k o l x c).2.m.steps := by
  cases l with
  | nil => rw [CE.evR]; exact Nat.le_refl _
  | cons e l =>
    rw [CE.evR]
    have h := hI e (List.mem_cons.2 (.inl rfl)) c
    generalize e.ev call s c = p at h ⊢
    obtain ⟨y, c1⟩ := p
    dsimp only at h ⊢
    cases (k == 8 || k == 9) with
    | true => exact h
    | false =>
      cases c1.fin == 0 with
      | false => exact h
      | true => cases (wapp o x y).2 == 0 <;> exact h
theorem evK_up {k o : Int} {l : List CE} (hI : ∀ e ∈ l, EvUp call s e) (c : CM) : c.m.steps ≤ (CE.evK call s k o l c).2.m.steps := by
  cases l with
  | nil => rw [CE.evK]; exact Nat.le_refl _
  | cons e l =>
    rw [CE.evK]
    have h := hI e (List.mem_cons.2 (.inl rfl)) c
    generalize e.ev call s c = p at h ⊢
    obtain ⟨x, c1⟩ := p
    dsimp only at h ⊢
    cases c1.fin == 0 with
    | false => exact h
    | true =>
      cases k == 7 with
      | true => exact h
      | false =>
        cases (k == 8 && x == 0) with
        | true => exact h
        | false =>
          cases (k == 9 && !(x == 0)) with
          | true => exact h
          | false => exact Nat.le_trans h (evR_up (fun e he => hI e (List.mem_cons.2 (.inr he))) x c1)
theorem ev_up (hcall : CallUp call) : ∀ (m : Nat) (e : CE), e.parts ≤ m → EvUp call s e
  | 0, e, hm => by cases e; rw [CE.parts] at hm; omega
  | m + 1, .mk k o n sl z kids, hm => by
    rw [CE.parts] at hm
    have hI : ∀ e ∈ kids, EvUp call s e := fun e he => ev_up hcall m e (by have := parts_mem he; omega)
    intro c
    rw [CE.ev]
    by_cases k1 : k = 1
    · rw [if_pos k1]; exact Nat.le_refl _
    rw [if_neg k1]
    by_cases k2 : k = 2
    · rw [if_pos k2]; exact Nat.le_refl _
    rw [if_neg k2]
    by_cases k3 : k = 3
    · rw [if_pos k3]; exact evI_up hI c
    rw [if_neg k3]
    by_cases k4 : k = 4
    · rw [if_pos k4]; exact evC_up hcall hI [] c
    rw [if_neg k4]
    by_cases k5 : k = 5
    · rw [if_pos k5]
      cases decide (c.m.read < s.size) <;> exact Nat.le_refl _
    rw [if_neg k5]
    exact evK_up hI c
theorem evH_up (hcall : CallUp call) (l : List CE) (c : CM) : c.m.steps ≤ (CE.evH call s l c).2.m.steps := by
  cases l with
  | nil => exact Nat.le_refl _
  | cons e l => exact ev_up hcall e.parts e (Nat.le_refl _) c
theorem tickC_up {fuel : Int} (c : CM) : c.m.steps ≤ (tickC fuel c).2.m.steps := by
  unfold tickC mstep
  cases decide ((c.m.steps : Int) ≥ fuel) with
  | true => exact Nat.le_refl _
  | false => exact Nat.le_succ _
theorem whileC_up {fuel : Int} {cond : CM → Int × CM} {body : CM → CM} (h1 : ∀ c, c.m.steps ≤ (cond c).2.m.steps) (h2 : ∀ c, c.m.steps ≤ (body c).m.steps) : ∀ (g : Nat) (c : CM), c.m.steps ≤ (whileC fuel cond body g c).m.steps
  | 0, c => Nat.le_refl _
  | g + 1, c => by
    rw [whileC]
    cases (c.fin == 0 && !c.over) with
    | false => exact Nat.le_refl _
    | true =>
      cases (tickC fuel c).1 with
      | false => exact tickC_up c
      | true =>
        have h := Nat.le_trans (tickC_up (fuel := fuel) c) (h1 (tickC fuel c).2)
        simp only [cond_true]
        generalize cond (tickC fuel c).2 = p at h ⊢
        obtain ⟨x, c1⟩ := p
        dsimp only at h ⊢
        cases (c1.fin == 0 && !(x == 0)) with
        | false => exact h
        | true => exact Nat.le_trans h (Nat.le_trans (h2 c1) (whileC_up h1 h2 g _))
def RunUp (call : CallC) (s : ByteArray) (fuel : Int) (st : CS) : Prop := ∀ c, c.m.steps ≤ (st.run call s fuel c).m.steps
theorem runL_up {fuel : Int} : ∀ {l : List CS}, (∀ st ∈ l, RunUp call s fuel st) → ∀ (c : CM), c.m.steps ≤ (CS.runL call s fuel l c).m.steps
  | [], _, c => by rw [CS.runL]; exact Nat.le_refl _
  | st :: l, hI, c => by
    rw [CS.runL]
    cases (c.fin == 0 && !c.over) with
    | false => exact Nat.le_refl _
    | true => exact Nat.le_trans (hI st (List.mem_cons.2 (.inl rfl)) c) (runL_up (fun e he => hI e (List.mem_cons.2 (.inr he))) _)
theorem run_up (hcall : CallUp call) {fuel : Int} : ∀ (m : Nat) (st : CS), st.parts ≤ m → RunUp call s fuel st
  | 0, st, hm => by cases st; rw [CS.parts] at hm; omega
  | m + 1, .mk k sl z es thn els, hm => by
    rw [CS.parts] at hm
    have hT : ∀ e ∈ thn, RunUp call s fuel e := fun e he => run_up hcall m e z32q
    have hL : ∀ e ∈ els, RunUp call s fuel e := fun e he => run_up hcall m e z33q
    intro c
    rw [CS.run]
    by_cases k6 : k = 6
    · rw [if_pos k6]; exact evC_up hcall (fun e he => ev_up hcall e.parts e (Nat.le_refl _)) [] c
    rw [if_neg k6]
    by_cases k5 : k = 5
    · rw [if_pos k5]; exact whileC_up (fun c => evH_up hcall _ c) (fun c => runL_up hT c) _ c
    rw [if_neg k5]
    have h := evH_up (s := s) hcall es c
    generalize CE.evH call s es c = p at h ⊢
    obtain ⟨x, c1⟩ := p
    dsimp only at h ⊢
    cases c1.fin == 0 with
    | false => exact h
    | true =>
      simp only [cond_true]
      by_cases k7 : k = 7
      · rw [if_pos k7]; exact h
      rw [if_neg k7]
      by_cases k1 : k = 1
      · rw [if_pos k1]; exact h
      rw [if_neg k1]
      by_cases k2 : k = 2
      · rw [if_pos k2]
        have h3 := Nat.le_trans h (evH_up (s := s) hcall (es.drop 1) c1)
        generalize CE.evH call s (es.drop 1) c1 = q at h3 ⊢
        obtain ⟨y, c2⟩ := q
        dsimp only at h3 ⊢
        cases c2.fin == 0 with
        | false => exact h3
        | true => cases decide (x ≥ z) <;> exact h3
      rw [if_neg k2]
      by_cases k3 : k = 3
      · rw [if_pos k3]
        cases decide (c1.m.out.length ≥ 65536) <;> exact h
      rw [if_neg k3]
      cases x == 0 with
      | true => exact Nat.le_trans h (runL_up hL c1)
      | false => exact Nat.le_trans h (runL_up hT c1)
end
theorem cfun_up {C : Core} {s : ByteArray} {fuel : Int} : ∀ n, CallUp (cfun C s fuel n)
  | 0 => fun f args c => Nat.le_refl _
  | n + 1 => fun f args c => by
    rw [cfun]
    cases (tickC fuel c).1 with
    | false => exact tickC_up c
    | true =>
      simp only [cond_true]
      cases e : C.funcs[f.toNat]? with
      | none => exact Nat.le_refl _
      | some g =>
        dsimp only
        have h := runL_up (call := cfun C s fuel n) (s := s) (fuel := fuel) (l := g.body) (fun st hs => run_up (cfun_up n) st.parts st (Nat.le_refl _)) ((tickC fuel c).2.put { (tickC fuel c).2.m with words := argsW (zeroW c.m.words g.first g.slots.toNat) g.first args args.length })
        have h2 := Nat.le_trans (tickC_up (fuel := fuel) c) h
        generalize CS.runL (cfun C s fuel n) s fuel g.body _ = c1 at h2 ⊢
        cases c1.over <;> exact h2
abbrev CE.row (e : CE) : List AV := [.int .i64 e.kind, .int .i64 e.op, .int .u32 e.num, .int .i64 e.slot, .int .i64 e.size, .lst false (e.kids.map CE.cells)]
abbrev CS.row (e : CS) : List AV := [.int .i64 e.kind, .int .i64 e.slot, .int .i64 e.size, .lst false (e.es.map CE.cells), .lst false (e.thn.map CS.cells), .lst false (e.els.map CS.cells)]
theorem idxE {l : List CE} {k : Nat} {x : CE} (h : l[k]? = some x) : (l.map CE.cells)[((k : Nat) : Int).toNat]? = some x.row := by
  rw [Int.toNat_natCast, List.getElem?_map, h]; exact congrArg some (CE.cells_eq x)
theorem idxE0 {l : List CE} {x : CE} (h : l[0]? = some x) : (l.map CE.cells)[(0 : Int).toNat]? = some x.row := idxE (k := 0) h
theorem idxE1 {l : List CE} {x : CE} (h : l[1]? = some x) : (l.map CE.cells)[(1 : Int).toNat]? = some x.row := idxE (k := 1) h
theorem idxS {l : List CS} {k : Nat} {x : CS} (h : l[k]? = some x) : (l.map CS.cells)[((k : Nat) : Int).toNat]? = some x.row := by
  rw [Int.toNat_natCast, List.getElem?_map, h]; exact congrArg some (CS.cells_eq x)
theorem CE.Ok.kidsOk {e : CE} (h : e.Ok) : (∀ x ∈ e.kids, x.Ok) ∧ e.kids.length * 64 ≤ reachBytes := by
  cases h with
  | mk i1 i2 i3 i4 i5 i6 i7 => exact ⟨i7, i6⟩
theorem CS.Ok.esOk {e : CS} (h : e.Ok) : (∀ x ∈ e.es, x.Ok) ∧ e.es.length * 64 ≤ reachBytes := by
  cases h with
  | mk i1 i2 i3 i4 i5 i6 i7 i8 i9 => exact ⟨i5, i4⟩
theorem CS.Ok.thnOk {e : CS} (h : e.Ok) : (∀ x ∈ e.thn, x.Ok) ∧ e.thn.length * 96 ≤ reachBytes := by
  cases h with
  | mk i1 i2 i3 i4 i5 i6 i7 i8 i9 => exact ⟨i7, i6⟩
theorem CS.Ok.elsOk {e : CS} (h : e.Ok) : (∀ x ∈ e.els, x.Ok) ∧ e.els.length * 96 ≤ reachBytes := by
  cases h with
  | mk i1 i2 i3 i4 i5 i6 i7 i8 i9 => exact ⟨i9, i8⟩
theorem len64 {n : Nat} (h : n * 64 ≤ reachBytes) : n ≤ maxLen := by simp only [reachBytes] at h; simp only [maxLen]; omega
theorem len96 {n : Nat} (h : n * 96 ≤ reachBytes) : n ≤ maxLen := by simp only [reachBytes] at h; simp only [maxLen]; omega
theorem len56 {n : Nat} (h : n * 56 ≤ reachBytes) : n ≤ maxLen := by simp only [reachBytes] at h; simp only [maxLen]; omega
theorem drop_at {α : Type} {l : List α} {k : Nat} {x : α} (h : l[k]? = some x) : l.drop k = x :: l.drop (k + 1) := by
  rw [List.drop_eq_getElem_cons (List.getElem?_eq_some_iff.1 h).1, (List.getElem?_eq_some_iff.1 h).2]
theorem leftL_go {l : List CE} {k : Nat} {x : CE} (h : l[k]? = some x) {a deep : Int} (h0 : 0 ≤ a) : CE.leftL (l.drop k) a deep = CE.leftL (l.drop (k + 1)) (leftE x.kids (a - 1) (deep - 1)) deep := by
  rw [drop_at h, CE.leftL, decide_eq_true h0, CE.left_eq]; rfl
theorem leftL_end {l : List CE} {k : Nat} (h : l.length ≤ k) (a deep : Int) : CE.leftL (l.drop k) a deep = a := by rw [List.drop_eq_nil_of_le h, CE.leftL]
theorem leftL_neg {l : List CE} {a : Int} (h : ¬ 0 ≤ a) (deep : Int) : CE.leftL l a deep = a := by
  cases l with
  | nil => rw [CE.leftL]
  | cons e l => rw [CE.leftL, decide_eq_false h]; rfl
theorem leftSL_go {l : List CS} {k : Nat} {x : CS} (h : l[k]? = some x) {a deep : Int} (h0 : 0 ≤ a) : CS.leftL (l.drop k) a deep = CS.leftL (l.drop (k + 1)) (leftS x.els (leftS x.thn (leftE x.es (a - 1) (deep - 1)) (deep - 1)) (deep - 1)) deep := by
  rw [drop_at h, CS.leftL, decide_eq_true h0, CS.left_eq]; rfl
theorem leftSL_end {l : List CS} {k : Nat} (h : l.length ≤ k) (a deep : Int) : CS.leftL (l.drop k) a deep = a := by rw [List.drop_eq_nil_of_le h, CS.leftL]
theorem leftSL_neg {l : List CS} {a : Int} (h : ¬ 0 ≤ a) (deep : Int) : CS.leftL l a deep = a := by
  cases l with
  | nil => rw [CS.leftL]
  | cons e l => rw [CS.leftL, decide_eq_false h]; rfl
theorem leftE_neg {l : List CE} {left deep : Int} (h : decide (deep < 0) = true) : leftE l left deep = -1 := by unfold leftE; rw [h]; rfl
theorem leftE_pos {l : List CE} {left deep : Int} (h : decide (deep < 0) = false) : leftE l left deep = CE.leftL l left deep := by unfold leftE; rw [h]; rfl
theorem leftS_neg {l : List CS} {left deep : Int} (h : decide (deep < 0) = true) : leftS l left deep = -1 := by unfold leftS; rw [h]; rfl
theorem leftS_pos {l : List CS} {left deep : Int} (h : decide (deep < 0) = false) : leftS l left deep = CS.leftL l left deep := by unfold leftS; rw [h]; rfl
theorem leftF_take {l : List CFn} {k : Nat} {x : CFn} (h : l[k]? = some x) (m : Int) : leftF (l.take (k + 1)) m = leftS x.body (leftF (l.take k) m) 40 := by
  rw [take_succ_eq h, leftF_snoc]
theorem partsL_snoc (e : CE) : ∀ l : List CE, CE.partsL (l ++ [e]) = CE.partsL l + e.parts
  | [] => by simp [CE.partsL]
  | x :: l => by rw [List.cons_append, CE.partsL, CE.partsL, partsL_snoc e l]; omega
theorem partsL_take {l : List CE} {k : Nat} {x : CE} (h : l[k]? = some x) : CE.partsL (l.take (k + 1)) = CE.partsL (l.take k) + x.parts := by rw [take_succ_eq h, partsL_snoc]
theorem parts_kids (e : CE) : e.parts = 1 + CE.partsL e.kids := by cases e; rw [CE.parts]; rfl
theorem partsL_app (r : List CE) : ∀ l : List CE, CE.partsL (l ++ r) = CE.partsL l + CE.partsL r
  | [] => by simp [CE.partsL]
  | x :: l => by rw [List.cons_append, CE.partsL, CE.partsL, partsL_app r l]; omega
theorem partsL_le {l : List CE} (k : Nat) : CE.partsL (l.take k) ≤ CE.partsL l := by
  have := partsL_app (l.drop k) (l.take k)
  rw [List.take_append_drop] at this
  omega
theorem partsL_len : ∀ l : List CE, l.length ≤ CE.partsL l
  | [] => by simp [CE.partsL]
  | x :: l => by have := partsL_len l; rw [CE.partsL, List.length_cons, parts_kids]; omega
theorem spartsL_snoc (e : CS) : ∀ l : List CS, CS.partsL (l ++ [e]) = CS.partsL l + e.parts
  | [] => by simp [CS.partsL]
  | x :: l => by rw [List.cons_append, CS.partsL, CS.partsL, spartsL_snoc e l]; omega
theorem spartsL_take {l : List CS} {k : Nat} {x : CS} (h : l[k]? = some x) : CS.partsL (l.take (k + 1)) = CS.partsL (l.take k) + x.parts := by rw [take_succ_eq h, spartsL_snoc]
theorem sparts_es (e : CS) : e.parts = 1 + CE.partsL e.es + CS.partsL e.thn + CS.partsL e.els := by cases e; rw [CS.parts]; rfl
theorem spartsL_app (r : List CS) : ∀ l : List CS, CS.partsL (l ++ r) = CS.partsL l + CS.partsL r
  | [] => by simp [CS.partsL]
  | x :: l => by rw [List.cons_append, CS.partsL, CS.partsL, spartsL_app r l]; omega
theorem spartsL_le {l : List CS} (k : Nat) : CS.partsL (l.take k) ≤ CS.partsL l := by
  have := spartsL_app (l.drop k) (l.take k)
  rw [List.take_append_drop] at this
  omega
theorem spartsL_len : ∀ l : List CS, l.length ≤ CS.partsL l
  | [] => by simp [CS.partsL]
  | x :: l => by have := spartsL_len l; rw [CS.partsL, List.length_cons, sparts_es]; omega
theorem psum_le (k : Nat) (C : Core) : ((C.funcs.take k).map fun f => CS.partsL f.body).sum ≤ C.parts := by
  have e : C.parts = ((C.funcs.take k ++ C.funcs.drop k).map fun f => CS.partsL f.body).sum := by rw [List.take_append_drop]; rfl
  rw [e, List.map_append, List.sum_append]
  omega
theorem fuel_eq {C : Core} (h0 : 0 ≤ C.words) (t : Int) : (t + 1) * 8 * ((C.parts : Int) + C.words + 1) = (t + 1) * (C.k : Int) := by
  have e : ((C.words.toNat : Nat) : Int) = C.words := Int.toNat_of_nonneg h0
  unfold Core.k
  rw [Int.mul_assoc]
  congr 1
  rw [Int.natCast_mul, Int.natCast_add, Int.natCast_add, e]; rfl
theorem fuel_lo {C : Core} {t : Int} (hp : C.parts ≤ 1000000) (h0 : 0 ≤ C.words) (h1 : C.words ≤ 1000000) (h2 : 0 ≤ t) (h3 : t ≤ 100000) : -9223372036854775808 ≤ (t + 1) * (C.k : Int) ∧ (t + 1) * (C.k : Int) ≤ 9223372036854775807 := by
  have hk : (C.k : Int) ≤ 100000000 := by unfold Core.k; omega
  have a := Int.mul_nonneg (show 0 ≤ t + 1 by omega) (Int.natCast_nonneg C.k)
  have b := Int.mul_le_mul (show t + 1 ≤ 100001 by omega) hk (Int.natCast_nonneg _) (by decide)
  omega
def CE.cnt (e : CE) : Int := bif e.kind == 3 then 1 else bif e.kind == 4 then (e.kids.length : Int) else bif e.kind == 6 then 2 else bif e.kind == 7 then 1 else bif e.kind == 8 || e.kind == 9 then 2 else 0
def CE.most (C : Core) (f : Int) (e : CE) : Bool :=
  bif e.kind == 1 || e.kind == 5 then true
  else bif e.kind == 2 then winC C e.slot 1
  else bif e.kind == 3 then decide (1 ≤ e.size) && (decide (e.size ≤ 4096) && winC C e.slot e.size)
  else bif e.kind == 4 then calleeC C f e.slot e.kids.length true
  else bif e.kind == 6 then decide (4 ≤ e.op) && decide (e.op ≤ 15)
  else e.kind == 7 || (e.kind == 8 || e.kind == 9)
def CS.cnt (w : Bool) (s : CS) : Int := bif s.kind == 2 then 2 else bif s.kind == 6 then (s.es.length : Int) else bif s.kind == 7 && ((s.es.length : Int) == 0 || !w) then 0 else 1
def CS.most (C : Core) (f : Int) (s : CS) : Bool :=
  bif s.kind == 1 then winC C s.slot 1
  else bif s.kind == 2 then decide (1 ≤ s.size) && (decide (s.size ≤ 4096) && winC C s.slot s.size)
  else bif s.kind == 6 then calleeC C f s.slot s.es.length false
  else s.kind == 3 || (s.kind == 4 || (s.kind == 5 || s.kind == 7))
theorem esort_eq (C : Core) (f : Int) (e : CE) : e.sort C f = (e.most C f && (e.kids.length : Int) == e.cnt) := by
  obtain ⟨k, o, n, s, z, kids⟩ := e
  unfold CE.sort CE.most CE.cnt CE.kind
  dsimp only
  by_cases k1 : k = 1
  · subst k1; rfl
  by_cases k5 : k = 5
  · subst k5; rfl
  by_cases k2 : k = 2
  · subst k2; rfl
  by_cases k3 : k = 3
  · subst k3
    show (_ && (_ && (_ && _))) = ((_ && (_ && _)) && _)
    rw [Bool.and_assoc, Bool.and_assoc]; rfl
  by_cases k4 : k = 4
  · subst k4
    show calleeC C f s (kids.length : Int) true = (calleeC C f s (kids.length : Int) true && ((kids.length : Int) == (kids.length : Int)))
    rw [beq_self_eq_true, Bool.and_true]
  by_cases k6 : k = 6
  · subst k6
    show (_ && (_ && _)) = ((_ && _) && _)
    rw [Bool.and_assoc]; rfl
  by_cases k7 : k = 7
  · subst k7; rfl
  by_cases k8 : k = 8
  · subst k8; rfl
  by_cases k9 : k = 9
  · subst k9; rfl
  simp only [show (k == 1) = false from by simpa using k1, show (k == 2) = false from by simpa using k2, show (k == 3) = false from by simpa using k3, show (k == 4) = false from by simpa using k4, show (k == 5) = false from by simpa using k5, show (k == 6) = false from by simpa using k6, show (k == 7) = false from by simpa using k7, show (k == 8) = false from by simpa using k8, show (k == 9) = false from by simpa using k9, Bool.or_self, cond_false, Bool.false_and]
theorem ssort_eq (C : Core) (f : Int) (w : Bool) (e : CS) : e.sort C f w = (e.most C f && (e.es.length : Int) == e.cnt w) := by
  obtain ⟨k, s, z, es, thn, els⟩ := e
  unfold CS.sort CS.most CS.cnt CS.kind
  dsimp only
  by_cases k1 : k = 1
  · subst k1; rfl
  by_cases k2 : k = 2
  · subst k2
    show (_ && (_ && (_ && _))) = ((_ && (_ && _)) && _)
    rw [Bool.and_assoc, Bool.and_assoc]; rfl
  by_cases k3 : k = 3
  · subst k3; rfl
  by_cases k4 : k = 4
  · subst k4; rfl
  by_cases k5 : k = 5
  · subst k5; rfl
  by_cases k6 : k = 6
  · subst k6
    show calleeC C f s (es.length : Int) false = (calleeC C f s (es.length : Int) false && ((es.length : Int) == (es.length : Int)))
    rw [beq_self_eq_true, Bool.and_true]
  by_cases k7 : k = 7
  · subst k7
    show ((es.length : Int) == 0 || ((es.length : Int) == 1 && w)) = (true && ((es.length : Int) == (bif (true && ((es.length : Int) == 0 || !w)) then 0 else 1)))
    cases h : (es.length : Int) == 0 with
    | true => simp only [Bool.true_or, Bool.true_and, cond_true]; exact h.symm
    | false =>
      cases w with
      | true => simp
      | false => simp; simpa using h
  simp only [show (k == 1) = false from by simpa using k1, show (k == 2) = false from by simpa using k2, show (k == 3) = false from by simpa using k3, show (k == 4) = false from by simpa using k4, show (k == 5) = false from by simpa using k5, show (k == 6) = false from by simpa using k6, show (k == 7) = false from by simpa using k7, Bool.or_self, cond_false, Bool.false_and]
section
variable {C : Core} {f level : Int} {w : Bool}
theorem eright_bare {x : CE} {b : Bool} (h : b = !(decide (level ≤ 24) && x.bare)) (hb : b = true) : x.right C f level = false := by
  rw [CE.right_eq, ← Bool.and_assoc, show (decide (level ≤ 24) && x.bare) = false by rw [hb] at h; exact (Bool.not_eq_true' _).mp h.symm]; rfl
theorem ebare_yes {x : CE} {b : Bool} (h : b = !(decide (level ≤ 24) && x.bare)) (hb : b = false) : level ≤ 24 ∧ x.bare = true := by
  rw [hb] at h; simpa using h
theorem eright_most {x : CE} (h : x.most C f = false) : x.right C f level = false := by
  rw [CE.right_eq, esort_eq, h]; simp
theorem eright_cnt {x : CE} (h : ((x.kids.length : Int) == x.cnt) = false) : x.right C f level = false := by
  rw [CE.right_eq, esort_eq, h]; simp
theorem eright_kids {x : CE} (h : CE.rightL C f x.kids (level + 1) = false) : x.right C f level = false := by
  rw [CE.right_eq, h]; simp
theorem eright_yes {x : CE} (h1 : level ≤ 24 ∧ x.bare = true) (h2 : x.most C f = true) (h3 : ((x.kids.length : Int) == x.cnt) = true) (h4 : CE.rightL C f x.kids (level + 1) = true) : x.right C f level = true := by
  rw [CE.right_eq, esort_eq, h2, h3, h4, h1.2, decide_eq_true h1.1]; rfl
theorem sright_bare {x : CS} {b : Bool} (h : b = !(decide (level ≤ 24) && x.bare)) (hb : b = true) : x.right C f w level = false := by
  rw [CS.right_eq, ← Bool.and_assoc, show (decide (level ≤ 24) && x.bare) = false by rw [hb] at h; exact (Bool.not_eq_true' _).mp h.symm]; rfl
theorem sbare_yes {x : CS} {b : Bool} (h : b = !(decide (level ≤ 24) && x.bare)) (hb : b = false) : level ≤ 24 ∧ x.bare = true := by
  rw [hb] at h; simpa using h
theorem sright_most {x : CS} (h : x.most C f = false) : x.right C f w level = false := by
  rw [CS.right_eq, ssort_eq, h]; simp
theorem sright_bad {x : CS} (h : ((x.es.length : Int) == x.cnt w) = false ∨ CE.rightL C f x.es (level + 1) = false ∨ CS.rightL C f w x.thn (level + 1) = false ∨ CS.rightL C f w x.els (level + 1) = false) : x.right C f w level = false := by
  rw [CS.right_eq, ssort_eq]
  rcases h with h | h | h | h <;> rw [h] <;> simp
theorem sright_yes {x : CS} (h1 : level ≤ 24 ∧ x.bare = true) (h2 : x.most C f = true) (h3 : ((x.es.length : Int) == x.cnt w) = true) (h4 : CE.rightL C f x.es (level + 1) = true) (h5 : CS.rightL C f w x.thn (level + 1) = true) (h6 : CS.rightL C f w x.els (level + 1) = true) : x.right C f w level = true := by
  rw [CS.right_eq, ssort_eq, h2, h3, h4, h5, h6, h1.2, decide_eq_true h1.1]; rfl
theorem decide_pos_len (n : Nat) : decide ((n : Int) > 0) = !((n : Int) == 0) := by
  cases n with
  | zero => rfl
  | succ n => rw [decide_eq_true (by omega), show (((n + 1 : Nat) : Int) == 0) = false by simp; omega]; rfl
theorem lev_not (level : Int) : decide (level ≤ 24) = !decide (level > 24) := by
  by_cases h : level ≤ 24
  · rw [decide_eq_true h, decide_eq_false (by omega)]; rfl
  · rw [decide_eq_false h, decide_eq_true (by omega)]; rfl
end
def cCells (C : Core) (s : ByteArray) (fuel : Int) (c : CM) : List AV :=
  [.int .i64 C.words, .lst false (C.funcs.map CFn.cells), .ref 1 C.words.toNat 0 C.words.toNat, .str s, .int .i64 (c.m.read : Int), .ref 2 c.m.out.length 0 c.m.out.length, .int .i64 (c.m.steps : Int), .int .i64 fuel, .int .i64 c.m.fin, .bool c.over, .int .u32 c.val]
abbrev cheap (h : AHeap) (C : Core) (s : ByteArray) (fuel : Int) (c : CM) : AHeap :=
  hput (hput (hput h 0 (.row false 11 [cCells C s fuel c])) 1 (.row true 1 (regCells c.m.words))) 2 (.row true 1 (byteCells c.m.out))
section
variable {C : Core} {n : Nat} {e x y : CE}
theorem eok_k2 (h : e.ok C n) (hk : e.kind = 2) : 0 ≤ e.slot ∧ e.slot < C.words := by
  cases e with
  | mk k o num s z kids =>
  rw [CE.ok] at h
  simp only [CE.kind] at hk
  simp only [CE.slot]
  obtain ⟨_, h2⟩ := h
  rcases h2 with h2 | h2 | h2 | h2 | h2 | h2 | h2 | h2 | h2 <;> first | exact h2.2 | omega
theorem eok_k3 (h : e.ok C n) (hk : e.kind = 3) : e.kids.length = 1 ∧ 1 ≤ e.size ∧ e.size ≤ 4096 ∧ 0 ≤ e.slot ∧ e.slot + e.size ≤ C.words := by
  cases e with
  | mk k o num s z kids =>
  rw [CE.ok] at h
  simp only [CE.kind] at hk
  simp only [CE.slot, CE.size, CE.kids]
  obtain ⟨_, h2⟩ := h
  rcases h2 with h2 | h2 | h2 | h2 | h2 | h2 | h2 | h2 | h2 <;> first | exact h2.2 | omega
theorem eok_k4 (h : e.ok C n) (hk : e.kind = 4) : 0 ≤ e.slot ∧ e.slot < n ∧ ∃ g, C.funcs[e.slot.toNat]? = some g ∧ g.word = true ∧ g.params = e.kids.length ∧ e.kids.length ≤ 6 := by
  cases e with
  | mk k o num s z kids =>
  rw [CE.ok] at h
  simp only [CE.kind] at hk
  simp only [CE.slot, CE.kids]
  obtain ⟨_, h2⟩ := h
  rcases h2 with h2 | h2 | h2 | h2 | h2 | h2 | h2 | h2 | h2 <;> first | exact h2.2 | omega
theorem eok_kK (h : e.ok C n) (h1 : e.kind ≠ 1) (h2 : e.kind ≠ 2) (h3 : e.kind ≠ 3) (h4 : e.kind ≠ 4) (h5 : e.kind ≠ 5) : (e.kind = 7 ∧ e.kids.length = 1) ∨ (e.kind = 6 ∧ 4 ≤ e.op ∧ e.op ≤ 15 ∧ e.kids.length = 2) ∨ (e.kind = 8 ∧ e.kids.length = 2) ∨ (e.kind = 9 ∧ e.kids.length = 2) := by
  cases e with
  | mk k o num s z kids =>
  rw [CE.ok] at h
  simp only [CE.kind] at h1 h2 h3 h4 h5
  simp only [CE.kind, CE.op, CE.kids]
  obtain ⟨_, g⟩ := h
  rcases g with g | g | g | g | g | g | g | g | g
  · exact absurd g.1 h1
  · exact absurd g.1 h2
  · exact absurd g.1 h3
  · exact absurd g.1 h4
  · exact absurd g h5
  · exact .inr (.inl ⟨g.1, g.2.2.1, g.2.2.2, g.2.1⟩)
  · exact .inl g
  · exact .inr (.inr (.inl g))
  · exact .inr (.inr (.inr g))
theorem eok_mem (h : e.ok C n) {x : CE} (hx : x ∈ e.kids) : x.ok C n := by
  cases e with
  | mk k o num s z kids =>
  rw [CE.ok] at h
  have key : ∀ {l : List CE}, CE.okL C n l → x ∈ l → x.ok C n := by
    intro l
    induction l with
    | nil => intro _ hx; cases hx
    | cons a l ih =>
      intro ho hx
      rw [CE.okL] at ho
      rcases List.mem_cons.1 hx with rfl | hx
      · exact ho.1
      · exact ih ho.2 hx
  exact key h.1 hx
variable {cl : CallC} {s : ByteArray} {c : CM}
theorem fin_ne {d : CM} (h : (d.m.fin != 0) = true) : (d.fin == 0) = false := by
  show (d.m.fin == 0) = false
  simpa using h
theorem fin_eq {d : CM} (h : (d.m.fin != 0) = false) : (d.fin == 0) = true := by
  show (d.m.fin == 0) = true
  simpa using h
theorem ev_k1 (hk : e.kind = 1) : e.ev cl s c = (e.num, c) := by
  cases e; simp only [CE.kind] at hk; subst hk; rw [CE.ev, if_pos rfl]; rfl
theorem ev_k2 (hk : e.kind = 2) : e.ev cl s c = (rget c.m.words e.slot, c) := by
  cases e; simp only [CE.kind] at hk; subst hk; rw [CE.ev, if_neg (by decide), if_pos rfl]; rfl
theorem ev_k3 (hk : e.kind = 3) (hx : e.kids[0]? = some x) : e.ev cl s c = bif (x.ev cl s c).2.fin == 0 then (bif decide ((x.ev cl s c).1 ≥ e.size) then (0, (x.ev cl s c).2.put { (x.ev cl s c).2.m with fin := 3 }) else (rget (x.ev cl s c).2.m.words (e.slot + (x.ev cl s c).1), (x.ev cl s c).2)) else (0, (x.ev cl s c).2) := by
  cases e with
  | mk k o num sl z kids =>
  simp only [CE.kind] at hk
  subst hk
  simp only [CE.kids] at hx
  cases kids with
  | nil => simp at hx
  | cons a l =>
    simp at hx; subst hx
    rw [CE.ev, if_neg (by decide), if_neg (by decide), if_pos rfl, CE.evI]; rfl
theorem ev_k3a (hk : e.kind = 3) (hx : e.kids[0]? = some x) (hf : ((x.ev cl s c).2.m.fin != 0) = true) : e.ev cl s c = (0, (x.ev cl s c).2) := by
  rw [ev_k3 hk hx, show ((x.ev cl s c).2.fin == 0) = false from fin_ne hf]; rfl
theorem ev_k3b (hk : e.kind = 3) (hx : e.kids[0]? = some x) (hf : ((x.ev cl s c).2.m.fin != 0) = false) (hz : decide ((x.ev cl s c).1 ≥ e.size) = true) : e.ev cl s c = (0, (x.ev cl s c).2.put { (x.ev cl s c).2.m with fin := 3 }) := by
  rw [ev_k3 hk hx, show ((x.ev cl s c).2.fin == 0) = true from fin_eq hf, hz]; rfl
theorem ev_k3c (hk : e.kind = 3) (hx : e.kids[0]? = some x) (hf : ((x.ev cl s c).2.m.fin != 0) = false) (hz : decide ((x.ev cl s c).1 ≥ e.size) = false) : e.ev cl s c = (rget (x.ev cl s c).2.m.words (e.slot + (x.ev cl s c).1), (x.ev cl s c).2) := by
  rw [ev_k3 hk hx, show ((x.ev cl s c).2.fin == 0) = true from fin_eq hf, hz]; rfl
theorem ev_k4 (hk : e.kind = 4) : e.ev cl s c = CE.evC cl s e.slot e.kids [] c := by
  cases e; simp only [CE.kind] at hk; subst hk; rw [CE.ev, if_neg (by decide), if_neg (by decide), if_neg (by decide), if_pos rfl]; rfl
theorem ev_k5a (hk : e.kind = 5) (h : c.m.read < s.size) : e.ev cl s c = (((inAt s c.m.read).toNat : Int), c.put { c.m with read := c.m.read + 1 }) := by
  cases e; simp only [CE.kind] at hk; subst hk; rw [CE.ev, if_neg (by decide), if_neg (by decide), if_neg (by decide), if_neg (by decide), if_pos rfl, decide_eq_true h]; rfl
theorem ev_k5b (hk : e.kind = 5) (h : ¬ c.m.read < s.size) : e.ev cl s c = (256, c) := by
  cases e; simp only [CE.kind] at hk; subst hk; rw [CE.ev, if_neg (by decide), if_neg (by decide), if_neg (by decide), if_neg (by decide), if_pos rfl, decide_eq_false h]; rfl
theorem ev_kK (h1 : e.kind ≠ 1) (h2 : e.kind ≠ 2) (h3 : e.kind ≠ 3) (h4 : e.kind ≠ 4) (h5 : e.kind ≠ 5) (hx : e.kids[0]? = some x) : e.ev cl s c = bif (x.ev cl s c).2.fin == 0 then (bif e.kind == 7 then (zf ((x.ev cl s c).1 == 0), (x.ev cl s c).2) else bif e.kind == 8 && (x.ev cl s c).1 == 0 then (0, (x.ev cl s c).2) else bif e.kind == 9 && !((x.ev cl s c).1 == 0) then (1, (x.ev cl s c).2) else CE.evR cl s e.kind e.op (e.kids.drop 1) (x.ev cl s c).1 (x.ev cl s c).2) else (0, (x.ev cl s c).2) := by
  cases e with
  | mk k o num sl z kids =>
  simp only [CE.kind] at h1 h2 h3 h4 h5
  simp only [CE.kids] at hx
  cases kids with
  | nil => simp at hx
  | cons a l =>
    simp at hx; subst hx
    rw [CE.ev, if_neg h1, if_neg h2, if_neg h3, if_neg h4, if_neg h5, CE.evK]; rfl
def eK (e : CE) : Prop := e.kind ≠ 1 ∧ e.kind ≠ 2 ∧ e.kind ≠ 3 ∧ e.kind ≠ 4 ∧ e.kind ≠ 5
theorem ev_Ka (h : eK e) (hx : e.kids[0]? = some x) (hf : ((x.ev cl s c).2.m.fin != 0) = true) : e.ev cl s c = (0, (x.ev cl s c).2) := by
  rw [ev_kK h.1 h.2.1 h.2.2.1 h.2.2.2.1 h.2.2.2.2 hx, show ((x.ev cl s c).2.fin == 0) = false from fin_ne hf]; rfl
theorem ev_7 (h : eK e) (hx : e.kids[0]? = some x) (hf : ((x.ev cl s c).2.m.fin != 0) = false) (hk : e.kind = 7) : e.ev cl s c = (zf ((x.ev cl s c).1 == 0), (x.ev cl s c).2) := by
  rw [ev_kK h.1 h.2.1 h.2.2.1 h.2.2.2.1 h.2.2.2.2 hx, show ((x.ev cl s c).2.fin == 0) = true from fin_eq hf, hk]; rfl
theorem ev_8a (h : eK e) (hx : e.kids[0]? = some x) (hf : ((x.ev cl s c).2.m.fin != 0) = false) (hk : e.kind = 8) (hz : ((x.ev cl s c).1 == 0) = true) : e.ev cl s c = (0, (x.ev cl s c).2) := by
  rw [ev_kK h.1 h.2.1 h.2.2.1 h.2.2.2.1 h.2.2.2.2 hx, show ((x.ev cl s c).2.fin == 0) = true from fin_eq hf, hk, hz]; rfl
theorem ev_9a (h : eK e) (hx : e.kids[0]? = some x) (hf : ((x.ev cl s c).2.m.fin != 0) = false) (hk : e.kind = 9) (hz : ((x.ev cl s c).1 != 0) = true) : e.ev cl s c = (1, (x.ev cl s c).2) := by
  rw [ev_kK h.1 h.2.1 h.2.2.1 h.2.2.2.1 h.2.2.2.2 hx, show ((x.ev cl s c).2.fin == 0) = true from fin_eq hf, hk, show ((x.ev cl s c).1 == 0) = false by simpa using hz]; rfl
theorem drop_one {l : List CE} (hy : l[1]? = some y) : ∃ r, l.drop 1 = y :: r := ⟨l.drop 2, drop_at hy⟩
theorem evR_eq {k o v : Int} {r : List CE} {d : CM} : CE.evR cl s k o (y :: r) v d = bif k == 8 || k == 9 then (zf (!((y.ev cl s d).1 == 0)), (y.ev cl s d).2) else bif (y.ev cl s d).2.fin == 0 then (bif (wapp o v (y.ev cl s d).1).2 == 0 then ((wapp o v (y.ev cl s d).1).1, (y.ev cl s d).2) else ((wapp o v (y.ev cl s d).1).1, (y.ev cl s d).2.put { (y.ev cl s d).2.m with fin := 2 })) else (0, (y.ev cl s d).2) := by
  rw [CE.evR]
theorem ev_8b (h : eK e) (hx : e.kids[0]? = some x) (hy : e.kids[1]? = some y) (hf : ((x.ev cl s c).2.m.fin != 0) = false) (hk : e.kind = 8) (hz : ((x.ev cl s c).1 == 0) = false) : e.ev cl s c = (zf ((y.ev cl s (x.ev cl s c).2).1 != 0), (y.ev cl s (x.ev cl s c).2).2) := by
  obtain ⟨r, hr⟩ := drop_one hy
  rw [ev_kK h.1 h.2.1 h.2.2.1 h.2.2.2.1 h.2.2.2.2 hx, show ((x.ev cl s c).2.fin == 0) = true from fin_eq hf, hr, evR_eq, hk, hz]; rfl
theorem ev_9b (h : eK e) (hx : e.kids[0]? = some x) (hy : e.kids[1]? = some y) (hf : ((x.ev cl s c).2.m.fin != 0) = false) (hk : e.kind = 9) (hz : ((x.ev cl s c).1 != 0) = false) : e.ev cl s c = (zf ((y.ev cl s (x.ev cl s c).2).1 != 0), (y.ev cl s (x.ev cl s c).2).2) := by
  obtain ⟨r, hr⟩ := drop_one hy
  rw [ev_kK h.1 h.2.1 h.2.2.1 h.2.2.2.1 h.2.2.2.2 hx, show ((x.ev cl s c).2.fin == 0) = true from fin_eq hf, hr, evR_eq, hk, show ((x.ev cl s c).1 == 0) = true by simpa using hz]; rfl
theorem ev_6 (h : eK e) (hx : e.kids[0]? = some x) (hy : e.kids[1]? = some y) (hf : ((x.ev cl s c).2.m.fin != 0) = false) (hk : e.kind = 6) : e.ev cl s c = bif (y.ev cl s (x.ev cl s c).2).2.fin == 0 then (bif (wapp e.op (x.ev cl s c).1 (y.ev cl s (x.ev cl s c).2).1).2 == 0 then ((wapp e.op (x.ev cl s c).1 (y.ev cl s (x.ev cl s c).2).1).1, (y.ev cl s (x.ev cl s c).2).2) else ((wapp e.op (x.ev cl s c).1 (y.ev cl s (x.ev cl s c).2).1).1, (y.ev cl s (x.ev cl s c).2).2.put { (y.ev cl s (x.ev cl s c).2).2.m with fin := 2 })) else (0, (y.ev cl s (x.ev cl s c).2).2) := by
  obtain ⟨r, hr⟩ := drop_one hy
  rw [ev_kK h.1 h.2.1 h.2.2.1 h.2.2.2.1 h.2.2.2.2 hx, show ((x.ev cl s c).2.fin == 0) = true from fin_eq hf, hr, evR_eq, hk]; rfl
theorem ev_6a (h : eK e) (hx : e.kids[0]? = some x) (hy : e.kids[1]? = some y) (hf : ((x.ev cl s c).2.m.fin != 0) = false) (hk : e.kind = 6) (hg : ((y.ev cl s (x.ev cl s c).2).2.m.fin != 0) = true) : e.ev cl s c = (0, (y.ev cl s (x.ev cl s c).2).2) := by
  rw [ev_6 h hx hy hf hk, show ((y.ev cl s (x.ev cl s c).2).2.fin == 0) = false from fin_ne hg]; rfl
theorem ev_6b (h : eK e) (hx : e.kids[0]? = some x) (hy : e.kids[1]? = some y) (hf : ((x.ev cl s c).2.m.fin != 0) = false) (hk : e.kind = 6) (hg : ((y.ev cl s (x.ev cl s c).2).2.m.fin != 0) = false) (hz : ((wapp e.op (x.ev cl s c).1 (y.ev cl s (x.ev cl s c).2).1).2 != 0) = true) : e.ev cl s c = ((wapp e.op (x.ev cl s c).1 (y.ev cl s (x.ev cl s c).2).1).1, (y.ev cl s (x.ev cl s c).2).2.put { (y.ev cl s (x.ev cl s c).2).2.m with fin := 2 }) := by
  rw [ev_6 h hx hy hf hk, show ((y.ev cl s (x.ev cl s c).2).2.fin == 0) = true from fin_eq hg, show ((wapp e.op (x.ev cl s c).1 (y.ev cl s (x.ev cl s c).2).1).2 == 0) = false by simpa using hz]; rfl
theorem ev_6c (h : eK e) (hx : e.kids[0]? = some x) (hy : e.kids[1]? = some y) (hf : ((x.ev cl s c).2.m.fin != 0) = false) (hk : e.kind = 6) (hg : ((y.ev cl s (x.ev cl s c).2).2.m.fin != 0) = false) (hz : ((wapp e.op (x.ev cl s c).1 (y.ev cl s (x.ev cl s c).2).1).2 != 0) = false) : e.ev cl s c = ((wapp e.op (x.ev cl s c).1 (y.ev cl s (x.ev cl s c).2).1).1, (y.ev cl s (x.ev cl s c).2).2) := by
  rw [ev_6 h hx hy hf hk, show ((y.ev cl s (x.ev cl s c).2).2.fin == 0) = true from fin_eq hg, show ((wapp e.op (x.ev cl s c).1 (y.ev cl s (x.ev cl s c).2).1).2 == 0) = true by simpa using hz]; rfl
theorem get0 {l : List CE} (h : 0 < l.length) : ∃ x, l[0]? = some x ∧ x ∈ l := by
  obtain ⟨x, hx⟩ := get_of_lt h
  exact ⟨x, hx, List.mem_of_getElem? hx⟩
theorem get1 {l : List CE} (h : 1 < l.length) : ∃ x, l[1]? = some x ∧ x ∈ l := by
  obtain ⟨x, hx⟩ := get_of_lt h
  exact ⟨x, hx, List.mem_of_getElem? hx⟩
end
section
variable {C : Core} {n : Nat} {w : Bool} {e : CS} {x y : CE} {cl : CallC} {s : ByteArray} {fuel : Int} {c : CM}
theorem evC_bad {l : List CE} {k : Nat} {f : Int} {args : List Int} (hx : l[k]? = some x) (hf : ((x.ev cl s c).2.m.fin != 0) = true) : CE.evC cl s f (l.drop k) args c = (0, (x.ev cl s c).2) := by
  rw [drop_at hx, CE.evC]
  dsimp only
  rw [fin_ne hf]; rfl
theorem evC_go {l : List CE} {k : Nat} {f : Int} {args : List Int} (hx : l[k]? = some x) (hf : ((x.ev cl s c).2.m.fin != 0) = false) : CE.evC cl s f (l.drop k) args c = CE.evC cl s f (l.drop (k + 1)) (args ++ [(x.ev cl s c).1]) (x.ev cl s c).2 := by
  rw [drop_at hx, CE.evC]
  dsimp only
  rw [fin_eq hf]; rfl
theorem evC_end {l : List CE} {k : Nat} {f : Int} {args : List Int} (hk : l.length ≤ k) : CE.evC cl s f (l.drop k) args c = cl f args c := by
  rw [List.drop_eq_nil_of_le hk, CE.evC]
structure CallI (W : Nat) (cl : CallC) (s : ByteArray) (f : Int) (l : List CE) (t : Int × CM) (q : Nat × List Int × CM) : Prop where
  len : q.2.1.length = q.1
  args : allR q.2.1
  good : q.2.2.good W
  eq : CE.evC cl s f (l.drop q.1) q.2.1 q.2.2 = t
  le : q.1 ≤ l.length
theorem CallI.next {W : Nat} {f : Int} {l : List CE} {t : Int × CM} {q : Nat × List Int × CM} (h : CallI W cl s f l t q) (hx : l[q.1]? = some x) (hf : ((x.ev cl s q.2.2).2.m.fin != 0) = false) (hg : (x.ev cl s q.2.2).2.good W ∧ isW (x.ev cl s q.2.2).1) : CallI W cl s f l t (q.1 + 1, q.2.1 ++ [(x.ev cl s q.2.2).1], (x.ev cl s q.2.2).2) := by
  refine ⟨by rw [List.length_append, h.len]; rfl, fun v hv => ?_, hg.1, (evC_go hx hf).symm.trans h.eq, (List.getElem?_eq_some_iff.1 hx).1⟩
  rcases List.mem_append.1 hv with hv | hv
  · exact h.args v hv
  · rw [List.mem_singleton.1 hv]; exact hg.2
theorem regCells_snoc (l : List Int) (v : Int) : regCells l ++ [[AV.int .u32 v]] = regCells (l ++ [v]) := by simp [regCells]
def zeroD (g : CFn) (d : CM) (k : Nat) : CM := d.put { d.m with words := zeroW d.m.words g.first k }
def argsD (g : CFn) (args : List Int) (d : CM) (k : Nat) : CM := d.put { d.m with words := argsW (zeroW d.m.words g.first g.slots.toNat) g.first args k }
theorem tick_words (fuel : Int) (c : CM) : (tickC fuel c).2.m.words = c.m.words := by
  unfold tickC mstep
  cases decide ((c.m.steps : Int) ≥ fuel) <;> rfl
theorem cfun_no {m : Nat} {f : Int} {args : List Int} (ht : (tickC fuel c).1 = false) : cfun C s fuel (m + 1) f args c = (0, (tickC fuel c).2) := by rw [cfun, ht]; rfl
theorem cfun_yes {m : Nat} {f : Int} {args : List Int} {g : CFn} (ht : (tickC fuel c).1 = true) (hg : C.funcs[f.toNat]? = some g) : cfun C s fuel (m + 1) f args c = bif (CS.runL (cfun C s fuel m) s fuel g.body (argsD g args (tickC fuel c).2 args.length)).over then ((CS.runL (cfun C s fuel m) s fuel g.body (argsD g args (tickC fuel c).2 args.length)).val, { CS.runL (cfun C s fuel m) s fuel g.body (argsD g args (tickC fuel c).2 args.length) with over := false }) else (0, CS.runL (cfun C s fuel m) s fuel g.body (argsD g args (tickC fuel c).2 args.length)) := by
  rw [cfun_go (c' := (tickC fuel c).2) (Prod.ext ht rfl) hg]
  unfold inCall argsD
  rw [tick_words]
theorem cfun_yes1 {m : Nat} {f : Int} {args : List Int} {g : CFn} (ht : (tickC fuel c).1 = true) (hg : C.funcs[f.toNat]? = some g) (ho : (CS.runL (cfun C s fuel m) s fuel g.body (argsD g args (tickC fuel c).2 args.length)).over = true) : cfun C s fuel (m + 1) f args c = ((CS.runL (cfun C s fuel m) s fuel g.body (argsD g args (tickC fuel c).2 args.length)).val, { CS.runL (cfun C s fuel m) s fuel g.body (argsD g args (tickC fuel c).2 args.length) with over := false }) := by
  rw [cfun_yes ht hg, ho]; rfl
theorem cfun_yes0 {m : Nat} {f : Int} {args : List Int} {g : CFn} (ht : (tickC fuel c).1 = true) (hg : C.funcs[f.toNat]? = some g) (ho : (CS.runL (cfun C s fuel m) s fuel g.body (argsD g args (tickC fuel c).2 args.length)).over = false) : cfun C s fuel (m + 1) f args c = (0, CS.runL (cfun C s fuel m) s fuel g.body (argsD g args (tickC fuel c).2 args.length)) := by
  rw [cfun_yes ht hg, ho]; rfl
theorem zeroD_good {W : Nat} {g : CFn} {d : CM} (h : d.good W) (k : Nat) : (zeroD g d k).good W := ⟨⟨by show (zeroW d.m.words g.first k).length = W; rw [zeroW_len]; exact h.m.len, zeroW_w h.m.words _ _, h.m.out⟩, h.val⟩
theorem argsD_good {W : Nat} {g : CFn} {d : CM} {args : List Int} (h : d.good W) (ha : allR args) (k : Nat) : (argsD g args d k).good W := ⟨⟨by show (argsW (zeroW d.m.words g.first g.slots.toNat) g.first args k).length = W; rw [argsW_len, zeroW_len]; exact h.m.len, argsW_w (zeroW_w h.m.words _ _) _ ha _, h.m.out⟩, h.val⟩
theorem crun_yes {g : CFn} (hg : C.funcs[C.funcs.length - 1]? = some g) (h : ((CS.runL (cfun C s fuel (C.funcs.length - 1)) s fuel g.body (c0 C)).m.fin == 0) = true) : crun C s fuel = { (CS.runL (cfun C s fuel (C.funcs.length - 1)) s fuel g.body (c0 C)).m with fin := 1 } := by
  unfold crun
  rw [hg]
  dsimp only
  rw [h]; rfl
theorem crun_no {g : CFn} (hg : C.funcs[C.funcs.length - 1]? = some g) (h : ((CS.runL (cfun C s fuel (C.funcs.length - 1)) s fuel g.body (c0 C)).m.fin == 0) = false) : crun C s fuel = (CS.runL (cfun C s fuel (C.funcs.length - 1)) s fuel g.body (c0 C)).m := by
  unfold crun
  rw [hg]
  dsimp only
  rw [h]; rfl
theorem runSL_go {st : CS} {l : List CS} {k : Nat} (hx : l[k]? = some st) (h0 : (c.m.fin == 0) = true) (h1 : c.over = false) : CS.runL cl s fuel (l.drop k) c = CS.runL cl s fuel (l.drop (k + 1)) (st.run cl s fuel c) := by
  rw [drop_at hx, CS.runL, show (c.fin == 0) = true from h0, h1]; rfl
theorem runSL_end {l : List CS} {k : Nat} (hk : l.length ≤ k) : CS.runL cl s fuel (l.drop k) c = c := by rw [List.drop_eq_nil_of_le hk, CS.runL]
theorem runSL_fin {l : List CS} (h : (c.m.fin == 0) = false) : CS.runL cl s fuel l c = c := runL_stop fun h2 => by
  have e : c.m.fin = 0 := h2.1
  rw [e] at h; cases h
theorem runSL_over {l : List CS} (h : c.over = true) : CS.runL cl s fuel l c = c := runL_stop fun h2 => by rw [h] at h2; cases h2.2
theorem sok_1 (h : e.ok C n w) (hk : e.kind = 1) : e.es.length = 1 ∧ 0 ≤ e.slot ∧ e.slot < C.words := by
  cases e with
  | mk k sl z es thn els =>
  rw [CS.ok] at h
  simp only [CS.kind] at hk
  simp only [CS.slot, CS.es]
  obtain ⟨_, _, _, h2⟩ := h
  rcases h2 with h2 | h2 | h2 | h2 | h2 | h2 | h2 <;> first | exact h2.2 | omega
theorem sok_2 (h : e.ok C n w) (hk : e.kind = 2) : e.es.length = 2 ∧ 1 ≤ e.size ∧ e.size ≤ 4096 ∧ 0 ≤ e.slot ∧ e.slot + e.size ≤ C.words := by
  cases e with
  | mk k sl z es thn els =>
  rw [CS.ok] at h
  simp only [CS.kind] at hk
  simp only [CS.slot, CS.size, CS.es]
  obtain ⟨_, _, _, h2⟩ := h
  rcases h2 with h2 | h2 | h2 | h2 | h2 | h2 | h2 <;> first | exact h2.2 | omega
theorem sok_5 (h : e.ok C n w) (hk : e.kind = 5) : e.es.length = 1 := by
  cases e with
  | mk k sl z es thn els =>
  rw [CS.ok] at h
  simp only [CS.kind] at hk
  simp only [CS.es]
  obtain ⟨_, _, _, h2⟩ := h
  rcases h2 with h2 | h2 | h2 | h2 | h2 | h2 | h2 <;> first | exact h2.2 | omega
theorem sok_6 (h : e.ok C n w) (hk : e.kind = 6) : 0 ≤ e.slot ∧ e.slot < n ∧ ∃ g, C.funcs[e.slot.toNat]? = some g ∧ g.word = false ∧ g.params = e.es.length ∧ e.es.length ≤ 6 := by
  cases e with
  | mk k sl z es thn els =>
  rw [CS.ok] at h
  simp only [CS.kind] at hk
  simp only [CS.slot, CS.es]
  obtain ⟨_, _, _, h2⟩ := h
  rcases h2 with h2 | h2 | h2 | h2 | h2 | h2 | h2 <;> first | exact h2.2 | omega
theorem sok_K (h : e.ok C n w) (h5 : e.kind ≠ 5) (h6 : e.kind ≠ 6) (h7 : e.kind ≠ 7) : 0 < e.es.length ∧ (e.kind = 1 ∨ e.kind = 2 ∨ e.kind = 3 ∨ e.kind = 4) := by
  cases e with
  | mk k sl z es thn els =>
  rw [CS.ok] at h
  simp only [CS.kind] at h5 h6 h7
  simp only [CS.kind, CS.es]
  obtain ⟨_, _, _, h2⟩ := h
  rcases h2 with h2 | h2 | h2 | h2 | h2 | h2 | h2
  · exact ⟨by omega, .inl h2.1⟩
  · exact ⟨by omega, .inr (.inl h2.1)⟩
  · exact ⟨by omega, .inr (.inr (.inl h2.1))⟩
  · exact ⟨by omega, .inr (.inr (.inr h2.1))⟩
  · exact absurd h2.1 h5
  · exact absurd h2.1 h6
  · exact absurd h2.1 h7
theorem sok_es (h : e.ok C n w) {x : CE} (hx : x ∈ e.es) : x.ok C n := by
  cases e with
  | mk k sl z es thn els =>
  rw [CS.ok] at h
  have key : ∀ {l : List CE}, CE.okL C n l → x ∈ l → x.ok C n := by
    intro l
    induction l with
    | nil => intro _ hx; cases hx
    | cons a l ih =>
      intro ho hx
      rw [CE.okL] at ho
      rcases List.mem_cons.1 hx with rfl | hx
      · exact ho.1
      · exact ih ho.2 hx
  exact key h.1 hx
theorem sokL_mem {l : List CS} (ho : CS.okL C n w l) {x : CS} (hx : x ∈ l) : x.ok C n w := by
  induction l with
  | nil => cases hx
  | cons a l ih =>
    rw [CS.okL] at ho
    rcases List.mem_cons.1 hx with rfl | hx
    · exact ho.1
    · exact ih ho.2 hx
theorem sok_thn (h : e.ok C n w) : CS.okL C n w e.thn := by cases e; rw [CS.ok] at h; exact h.2.1
theorem sok_els (h : e.ok C n w) : CS.okL C n w e.els := by cases e; rw [CS.ok] at h; exact h.2.2.1
theorem evH_eq {l : List CE} (hx : l[0]? = some x) : CE.evH cl s l c = x.ev cl s c := by
  cases l with
  | nil => simp at hx
  | cons a l => simp at hx; subst hx; rfl
theorem run_k6 (hk : e.kind = 6) : e.run cl s fuel c = (CE.evC cl s e.slot e.es [] c).2 := by
  cases e; simp only [CS.kind] at hk; subst hk; rw [CS.run, if_pos rfl]; rfl
theorem run_k5 (hk : e.kind = 5) : e.run cl s fuel c = whileC fuel (CE.evH cl s e.es) (fun c => CS.runL cl s fuel e.thn c) (fuel.toNat + 1) c := by
  cases e; simp only [CS.kind] at hk; subst hk; rw [CS.run, if_neg (by decide), if_pos rfl]; rfl
theorem run_K (h5 : e.kind ≠ 5) (h6 : e.kind ≠ 6) : e.run cl s fuel c = (match CE.evH cl s e.es c with
    | (x, c1) => bif c1.fin == 0 then
        (if e.kind = 7 then { c1 with over := true, val := x }
        else if e.kind = 1 then c1.put { c1.m with words := rset c1.m.words e.slot x }
        else if e.kind = 2 then (match CE.evH cl s (e.es.drop 1) c1 with
          | (y, c2) => bif c2.fin == 0 then (bif decide (x ≥ e.size) then c2.put { c2.m with fin := 3 } else c2.put { c2.m with words := rset c2.m.words (e.slot + x) y }) else c2)
        else if e.kind = 3 then (bif decide (c1.m.out.length ≥ 65536) then c1.put { c1.m with fin := 4 } else c1.put { c1.m with out := c1.m.out ++ [byteOf x] })
        else (bif x == 0 then CS.runL cl s fuel e.els c1 else CS.runL cl s fuel e.thn c1))
      else c1) := by
  cases e with
  | mk k sl z es thn els =>
  simp only [CS.kind] at h5 h6
  rw [CS.run, if_neg h6, if_neg h5]; rfl
theorem run_Ka (h5 : e.kind ≠ 5) (h6 : e.kind ≠ 6) (hx : e.es[0]? = some x) (hf : ((x.ev cl s c).2.m.fin != 0) = true) : e.run cl s fuel c = (x.ev cl s c).2 := by
  rw [run_K h5 h6, evH_eq hx]
  dsimp only
  rw [fin_ne hf]; rfl
theorem run_7x (hk : e.kind = 7) (hx : e.es[0]? = some x) (hf : ((x.ev cl s c).2.m.fin == 0) = true) : e.run cl s fuel c = { (x.ev cl s c).2 with over := true, val := (x.ev cl s c).1 } := by
  rw [run_K (by omega) (by omega), evH_eq hx]
  dsimp only
  rw [show ((x.ev cl s c).2.fin == 0) = true from hf, cond_true, if_pos hk]
theorem run_7y (hk : e.kind = 7) (hx : e.es[0]? = some x) (hf : ((x.ev cl s c).2.m.fin == 0) = false) : e.run cl s fuel c = (x.ev cl s c).2 := by
  rw [run_K (by omega) (by omega), evH_eq hx]
  dsimp only
  rw [show ((x.ev cl s c).2.fin == 0) = false from hf]; rfl
theorem run_7n (hk : e.kind = 7) (hx : e.es.length = 0) (hf : (c.m.fin == 0) = true) : e.run cl s fuel c = { c with over := true, val := 0 } := by
  rw [run_K (by omega) (by omega), List.length_eq_zero_iff.1 hx]
  show (bif c.fin == 0 then _ else _ : CM) = _
  rw [show (c.fin == 0) = true from hf, cond_true, if_pos hk]
theorem run_7m (hk : e.kind = 7) (hx : e.es.length = 0) (hf : (c.m.fin == 0) = false) : e.run cl s fuel c = c := by
  rw [run_K (by omega) (by omega), List.length_eq_zero_iff.1 hx]
  show (bif c.fin == 0 then _ else c : CM) = _
  rw [show (c.fin == 0) = false from hf]; rfl
theorem run_1 (hk : e.kind = 1) (hx : e.es[0]? = some x) (hf : ((x.ev cl s c).2.m.fin != 0) = false) : e.run cl s fuel c = (x.ev cl s c).2.put { (x.ev cl s c).2.m with words := rset (x.ev cl s c).2.m.words e.slot (x.ev cl s c).1 } := by
  rw [run_K (by omega) (by omega), evH_eq hx]
  dsimp only
  rw [fin_eq hf, cond_true, if_neg (by omega), if_pos hk]
theorem run_2 (hk : e.kind = 2) (hx : e.es[0]? = some x) (hy : e.es[1]? = some y) (hf : ((x.ev cl s c).2.m.fin != 0) = false) : e.run cl s fuel c = bif (y.ev cl s (x.ev cl s c).2).2.fin == 0 then (bif decide ((x.ev cl s c).1 ≥ e.size) then (y.ev cl s (x.ev cl s c).2).2.put { (y.ev cl s (x.ev cl s c).2).2.m with fin := 3 } else (y.ev cl s (x.ev cl s c).2).2.put { (y.ev cl s (x.ev cl s c).2).2.m with words := rset (y.ev cl s (x.ev cl s c).2).2.m.words (e.slot + (x.ev cl s c).1) (y.ev cl s (x.ev cl s c).2).1 }) else (y.ev cl s (x.ev cl s c).2).2 := by
  rw [run_K (by omega) (by omega), evH_eq hx]
  dsimp only
  obtain ⟨r, hr⟩ := drop_one hy
  rw [fin_eq hf, cond_true, if_neg (by omega), if_neg (by omega), if_pos hk, hr]; rfl
theorem run_2a (hk : e.kind = 2) (hx : e.es[0]? = some x) (hy : e.es[1]? = some y) (hf : ((x.ev cl s c).2.m.fin != 0) = false) (hg : ((y.ev cl s (x.ev cl s c).2).2.m.fin != 0) = true) : e.run cl s fuel c = (y.ev cl s (x.ev cl s c).2).2 := by
  rw [run_2 hk hx hy hf, fin_ne hg]; rfl
theorem run_2b (hk : e.kind = 2) (hx : e.es[0]? = some x) (hy : e.es[1]? = some y) (hf : ((x.ev cl s c).2.m.fin != 0) = false) (hg : ((y.ev cl s (x.ev cl s c).2).2.m.fin != 0) = false) (hz : decide ((x.ev cl s c).1 ≥ e.size) = true) : e.run cl s fuel c = (y.ev cl s (x.ev cl s c).2).2.put { (y.ev cl s (x.ev cl s c).2).2.m with fin := 3 } := by
  rw [run_2 hk hx hy hf, fin_eq hg, hz]; rfl
theorem run_2c (hk : e.kind = 2) (hx : e.es[0]? = some x) (hy : e.es[1]? = some y) (hf : ((x.ev cl s c).2.m.fin != 0) = false) (hg : ((y.ev cl s (x.ev cl s c).2).2.m.fin != 0) = false) (hz : decide ((x.ev cl s c).1 ≥ e.size) = false) : e.run cl s fuel c = (y.ev cl s (x.ev cl s c).2).2.put { (y.ev cl s (x.ev cl s c).2).2.m with words := rset (y.ev cl s (x.ev cl s c).2).2.m.words (e.slot + (x.ev cl s c).1) (y.ev cl s (x.ev cl s c).2).1 } := by
  rw [run_2 hk hx hy hf, fin_eq hg, hz]; rfl
theorem run_3a (hk : e.kind = 3) (hx : e.es[0]? = some x) (hf : ((x.ev cl s c).2.m.fin != 0) = false) (ho : (x.ev cl s c).2.m.out.length ≥ 65536) : e.run cl s fuel c = (x.ev cl s c).2.put { (x.ev cl s c).2.m with fin := 4 } := by
  rw [run_K (by omega) (by omega), evH_eq hx]
  dsimp only
  rw [fin_eq hf, cond_true, if_neg (by omega), if_neg (by omega), if_neg (by omega), if_pos hk, decide_eq_true ho]; rfl
theorem run_3b (hk : e.kind = 3) (hx : e.es[0]? = some x) (hf : ((x.ev cl s c).2.m.fin != 0) = false) (ho : ¬ (x.ev cl s c).2.m.out.length ≥ 65536) : e.run cl s fuel c = (x.ev cl s c).2.put { (x.ev cl s c).2.m with out := (x.ev cl s c).2.m.out ++ [byteOf (x.ev cl s c).1] } := by
  rw [run_K (by omega) (by omega), evH_eq hx]
  dsimp only
  rw [fin_eq hf, cond_true, if_neg (by omega), if_neg (by omega), if_neg (by omega), if_pos hk, decide_eq_false ho]; rfl
theorem run_4a (hk : e.kind = 4) (hx : e.es[0]? = some x) (hf : ((x.ev cl s c).2.m.fin != 0) = false) (hz : ((x.ev cl s c).1 != 0) = true) : e.run cl s fuel c = CS.runL cl s fuel e.thn (x.ev cl s c).2 := by
  rw [run_K (by omega) (by omega), evH_eq hx]
  dsimp only
  rw [fin_eq hf, cond_true, if_neg (by omega), if_neg (by omega), if_neg (by omega), if_neg (by omega), show ((x.ev cl s c).1 == 0) = false by simpa using hz]; rfl
theorem run_4b (hk : e.kind = 4) (hx : e.es[0]? = some x) (hf : ((x.ev cl s c).2.m.fin != 0) = false) (hz : ((x.ev cl s c).1 != 0) = false) : e.run cl s fuel c = CS.runL cl s fuel e.els (x.ev cl s c).2 := by
  rw [run_K (by omega) (by omega), evH_eq hx]
  dsimp only
  rw [fin_eq hf, cond_true, if_neg (by omega), if_neg (by omega), if_neg (by omega), if_neg (by omega), show ((x.ev cl s c).1 == 0) = true by simpa using hz]; rfl
theorem wrap_byteR {n : Int} (h : isW n) : IntKind.u8.wrap (n.tmod 256) = (((byteOf n).toNat : Nat) : Int) := by
  rw [← wrap_byte h, IntKind.wrap_u8, IntKind.wrap_u8, Int.tmod_eq_emod_of_nonneg h.1]
  omega
structure WhI (W : Nat) (fuel : Int) (cond : CM → Int × CM) (body : CM → CM) (t : CM) (q : Nat × CM) : Prop where
  good : q.2.good W
  eq : whileC fuel cond body q.1 q.2 = t
  gas : fuel.toNat + 1 ≤ q.1 + q.2.m.steps
  pos : 0 < q.1
section
variable {W : Nat} {cond : CM → Int × CM} {body : CM → CM} {t : CM} {q : Nat × CM}
theorem WhI.stop (h : WhI W fuel cond body t q) (hf : (q.2.m.fin == 0) = false ∨ q.2.over = true) : t = q.2 := by
  obtain ⟨g, d⟩ := q
  cases g with
  | zero => exact absurd (show 0 < 0 from h.pos) (Nat.lt_irrefl 0)
  | succ g =>
    rw [← h.eq, whileC]
    rcases hf with hf | hf
    · rw [show (d.fin == 0) = false from hf]; rfl
    · rw [show d.over = true from hf]; cases (d.fin == 0) <;> rfl
theorem WhI.notick (h : WhI W fuel cond body t q) (h0 : (q.2.m.fin == 0) = true) (h1 : q.2.over = false) (ht : (tickC fuel q.2).1 = false) : t = (tickC fuel q.2).2 := by
  obtain ⟨g, d⟩ := q
  cases g with
  | zero => exact absurd (show 0 < 0 from h.pos) (Nat.lt_irrefl 0)
  | succ g =>
    rw [← h.eq, whileC, show (d.fin == 0) = true from h0, show d.over = false from h1, ht]; rfl
theorem WhI.last (h : WhI W fuel cond body t q) (h0 : (q.2.m.fin == 0) = true) (h1 : q.2.over = false) (ht : (tickC fuel q.2).1 = true) (hz : ((cond (tickC fuel q.2).2).2.m.fin != 0) = true ∨ ((cond (tickC fuel q.2).2).1 == 0) = true) : t = (cond (tickC fuel q.2).2).2 := by
  obtain ⟨g, d⟩ := q
  cases g with
  | zero => exact absurd (show 0 < 0 from h.pos) (Nat.lt_irrefl 0)
  | succ g =>
    rw [← h.eq, whileC, show (d.fin == 0) = true from h0, show d.over = false from h1, ht]
    dsimp only
    rw [show ((cond (tickC fuel d).2).2.fin == 0 && !(cond (tickC fuel d).2).1 == 0) = false by
      rcases hz with hz | hz
      · rw [fin_ne hz]; rfl
      · rw [show ((cond (tickC fuel d).2).1 == 0) = true from hz]; cases ((cond (tickC fuel d).2).2.fin == 0) <;> rfl]; rfl
theorem WhI.lastE {l : List CE} (h : WhI W fuel (CE.evH cl s l) body t q) (hx : l[0]? = some x) (h0 : (q.2.m.fin == 0) = true) (h1 : q.2.over = false) (ht : (tickC fuel q.2).1 = true) (hz : ((x.ev cl s (tickC fuel q.2).2).2.m.fin != 0) = true ∨ ((x.ev cl s (tickC fuel q.2).2).1 == 0) = true) : t = (x.ev cl s (tickC fuel q.2).2).2 := by
  have e := h.last h0 h1 ht (by rw [evH_eq hx]; exact hz)
  rwa [evH_eq hx] at e
theorem WhI.next (h : WhI W fuel cond body t q) (h0 : (q.2.m.fin == 0) = true) (h1 : q.2.over = false) (ht : (tickC fuel q.2).1 = true) (hz : ((cond (tickC fuel q.2).2).2.m.fin != 0) = false) (hz2 : ((cond (tickC fuel q.2).2).1 == 0) = false)
    (hg : (body (cond (tickC fuel q.2).2).2).good W) (hu1 : ∀ c, c.m.steps ≤ (cond c).2.m.steps) (hu2 : ∀ c, c.m.steps ≤ (body c).m.steps) : WhI W fuel cond body t (q.1 - 1, body (cond (tickC fuel q.2).2).2) ∧ q.1 - 1 < q.1 := by
  obtain ⟨g, d⟩ := q
  cases g with
  | zero => exact absurd (show 0 < 0 from h.pos) (Nat.lt_irrefl 0)
  | succ g =>
    have hgas := h.gas
    dsimp only at hgas hg h0 h1 ht hz hz2
    obtain ⟨e1, e2⟩ := mstep_true (show (mstep fuel d.m).1 = true from ht)
    have e3 : (tickC fuel d).2.m.steps = d.m.steps + 1 := by show (mstep fuel d.m).2.steps = _; rw [e2]
    have e4 := hu1 (tickC fuel d).2
    have e5 := hu2 (cond (tickC fuel d).2).2
    refine ⟨⟨hg, ?_, ?_, ?_⟩, ?_⟩
    · rw [← h.eq]
      show whileC fuel cond body (g + 1 - 1) _ = whileC fuel cond body (g + 1) d
      rw [whileC, show (d.fin == 0) = true from h0, show d.over = false from h1, ht]
      dsimp only
      rw [show ((cond (tickC fuel d).2).2.fin == 0 && !(cond (tickC fuel d).2).1 == 0) = true by rw [fin_eq hz, hz2]; rfl]; rfl
    · show fuel.toNat + 1 ≤ g + 1 - 1 + (body (cond (tickC fuel d).2).2).m.steps
      omega
    · show 0 < g + 1 - 1
      omega
    · show g + 1 - 1 < g + 1
      omega
end
end
def LowR (h : AHeap) : Nat → List AObj → Prop
  | _, [] => True
  | i, o :: L => h i = some o ∧ LowR h (i + 1) L
theorem LowR.get {h : AHeap} : ∀ {L : List AObj} {i c : Nat}, LowR h i L → c < L.length → h (i + c) = some (nth L c)
  | o :: L, i, 0, hl, _ => hl.1
  | o :: L, i, c + 1, hl, hc => by
    have := LowR.get hl.2 (c := c) (by simp at hc; omega)
    rw [show i + (c + 1) = i + 1 + c by omega]; exact this
theorem nth_past : ∀ {L : List AObj} {c : Nat}, L.length ≤ c → nth L c = .free
  | [], _, _ => rfl
  | _ :: L, 0, h => by simp at h
  | _ :: L, c + 1, h => nth_past (L := L) (by simp at h; omega)
def kR (m : Nat) : Nat → Bool := fun c => (Nat.ble 2 c && Nat.blt c (m + 2)) || Nat.ble 16 c
def putR (m : Nat) (h g : AHeap) : AHeap := fun c => bif kR m c then g c else h c
theorem kR_hi (m x : Nat) : kR m (x + 16) = true := by
  unfold kR; rw [show Nat.ble 16 (x + 16) = true by rw [Nat.ble_eq]; omega]; simp
theorem kR_false {m c : Nat} (h : kR m c = false) : c = 0 ∨ c = 1 ∨ (m + 2 ≤ c ∧ c < 16) := by
  unfold kR at h
  simp only [Bool.or_eq_false_iff, Bool.and_eq_false_iff] at h
  obtain ⟨h1, h2⟩ := h
  have h3 : ¬ 16 ≤ c := fun e => by rw [← Nat.ble_eq] at e; rw [e] at h2; cases h2
  rcases h1 with h1 | h1
  · have : ¬ 2 ≤ c := fun e => by rw [← Nat.ble_eq] at e; rw [e] at h1; cases h1
    omega
  · have : ¬ c < m + 2 := fun e => by
      have : Nat.blt c (m + 2) = true := by unfold Nat.blt; rw [Nat.ble_eq]; omega
      rw [this] at h1; cases h1
    omega
theorem kR_true {m c : Nat} (h : kR m c = true) : (2 ≤ c ∧ c < m + 2) ∨ 16 ≤ c := by
  unfold kR at h
  simp only [Bool.or_eq_true, Bool.and_eq_true, Nat.ble_eq] at h
  rcases h with ⟨h1, h2⟩ | h
  · left
    refine ⟨h1, ?_⟩
    unfold Nat.blt at h2
    rw [Nat.ble_eq] at h2; omega
  · exact .inr h
theorem putR_hi (m : Nat) (h g : AHeap) (x : Nat) : putR m h g (x + 16) = g (x + 16) := by unfold putR; rw [kR_hi]; rfl
theorem putR_yes {m : Nat} {h g : AHeap} {c : Nat} (hc : kR m c = true) : putR m h g c = g c := by unfold putR; rw [hc]; rfl
theorem putR_no {m : Nat} {h g : AHeap} {c : Nat} (hc : kR m c = false) : putR m h g c = h c := by unfold putR; rw [hc]; rfl
abbrev RH (L : List AObj) (F : Nat → AObj) : AHeap := fam (nb (.free :: .free :: L)) F
section
variable {m : Nat} {L L' : List AObj} {F F' : Nat → AObj} {h : AHeap}
theorem RH_low (F : Nat → AObj) (hL : L.length = m) (hm : m ≤ 14) {i : Nat} (hi : i < m) : RH L F (2 + i) = some (nth L i) := by
  show fam (nb _) F (2 + i) = _
  rw [fam_lo _ _ (by omega)]
  unfold nb
  congr 1
  rw [Nat.add_comm 2 i]; rfl
theorem nth_eachR {p : AObj → Prop} (h : ∀ o ∈ L, p o) (hf : p .free) : ∀ i, p (nth L i) := by
  induction L with
  | nil => intro i; exact hf
  | cons o L ih =>
    intro i
    cases i with
    | zero => exact h o (List.mem_cons.2 (.inl rfl))
    | succ i => exact ih (fun q hq => h q (List.mem_cons.2 (.inr hq))) i
theorem RH_avoid (hL : L.length = m) (hm : m ≤ 14) (hA : ∀ o ∈ L, o.avoid (kR m) = true) (hF : ∀ x, (F x).avoid (kR m) = true) {c : Nat} (hc : kR m c = true) : ∃ q, RH L F c = some q ∧ q.avoid (kR m) = true := by
  rcases kR_true hc with h | h
  · obtain ⟨i, rfl⟩ : ∃ i, c = 2 + i := ⟨c - 2, by omega⟩
    exact ⟨_, RH_low F hL hm (by omega), nth_eachR hA rfl i⟩
  · obtain ⟨x, rfl⟩ : ∃ x, c = x + 16 := ⟨c - 16, by omega⟩
    exact ⟨_, fam_hi _ _ _, hF x⟩
theorem RH_of (hL : L.length = m) (hm : m ≤ 14) (h1 : LowR h 2 L) (h2 : ∀ x, h (x + 16) = some (F x)) {c : Nat} (hc : kR m c = true) : h c = RH L F c := by
  rcases kR_true hc with hh | hh
  · obtain ⟨i, rfl⟩ : ∃ i, c = 2 + i := ⟨c - 2, by omega⟩
    rw [RH_low F hL hm (by omega)]
    exact h1.get (by omega)
  · obtain ⟨x, rfl⟩ : ∃ x, c = x + 16 := ⟨c - 16, by omega⟩
    rw [h2]
    exact (fam_hi _ _ _).symm
theorem hresK_RH (hL : L.length = m) (hm : m ≤ 14) (h1 : LowR h 2 L) (h2 : ∀ x, h (x + 16) = some (F x)) : hresK h (kR m) = RH L F := funext fun c => by
  unfold hresK
  cases e : kR m c with
  | true => exact RH_of hL hm h1 h2 e
  | false =>
    rcases kR_false e with rfl | rfl | hc
    · rfl
    · rfl
    · show some AObj.free = fam (nb (.free :: .free :: L)) F c
      rw [fam_lo _ _ (by omega)]
      show some AObj.free = some (nth (.free :: .free :: L) c)
      rw [nth_past (by show L.length + 1 + 1 ≤ c; omega)]
theorem o_callRH {P : Program} {o : Oper} {e : AEnv} {g : FuncId} {fn : Func} {args : Array Operand} {tys : Array TypeId} {xs : List AV} {r : AV} (m : Nat) (L L' : List AObj) {F : Nat → AObj} (F' : Nat → AObj)
    (ho : o.op = .call { callee := .value (.func g), args := args, argTypes := tys }) (hf : P.funcs[g]? = some fn) (hn : (fn.name == "runtime.NumGoroutine") = false) (hb : fn.body.isSome = true) (hx : lookAll e args.toList = some xs)
    (hxa : xs.all (AV.avoid (kR m)) = true) (hL : L.length = m) (hL' : L'.length = m) (hm : m ≤ 14) (hA : ∀ o ∈ L, o.avoid (kR m) = true) (hA' : ∀ o ∈ L', o.avoid (kR m) = true) (h1 : LowR h 2 L) (h2 : ∀ x, h (x + 16) = some (F x)) (hF : ∀ x, (F x).avoid (kR m) = true) (hF' : ∀ x, (F' x).avoid (kR m) = true) (hra : r.avoid (kR m) = true)
    (hcall : ACall P g xs (RH L F) (fun r' h' => r' = r ∧ HSub (putR m hNone (RH L' F')) h')) : OCall P o e h (putR m h (RH L' F')) r :=
  o_callK (hw := putR m hNone (RH L' F')) (kR m) ho hf hn hb hx hxa (fun b hb => by rw [RH_of hL hm h1 h2 hb]; exact RH_avoid hL hm hA hF hb) (hresK_RH hL hm h1 h2) (fun b hb => putR_no hb)
    (fun b hb => by obtain ⟨q, q1, q2⟩ := RH_avoid (L := L') (F := F') hL' hm hA' hF' hb; exact ⟨q, (putR_yes hb).trans q1, (putR_yes hb).trans q1, q2⟩) hra hcall
theorem o_callRF {P : Program} {o : Oper} {e : AEnv} {g : FuncId} {fn : Func} {x : Operand} {args : Array Operand} {tys : Array TypeId} {fs xs cs : List AV} {r : AV} (m : Nat) (L L' : List AObj) {F : Nat → AObj} (F' : Nat → AObj)
    (ho : o.op = .call { callee := .value x, args := args, argTypes := tys }) (hfn : look e x = some (.fn (.func g) fs cs)) (hf : P.funcs[g]? = some fn) (hn : (fn.name == "runtime.NumGoroutine") = false) (hb : fn.body.isSome = true) (hx : lookAll e args.toList = some xs)
    (hxa : (fs ++ xs ++ cs).all (AV.avoid (kR m)) = true) (hL : L.length = m) (hL' : L'.length = m) (hm : m ≤ 14) (hA : ∀ o ∈ L, o.avoid (kR m) = true) (hA' : ∀ o ∈ L', o.avoid (kR m) = true) (h1 : LowR h 2 L) (h2 : ∀ x, h (x + 16) = some (F x)) (hF : ∀ x, (F x).avoid (kR m) = true) (hF' : ∀ x, (F' x).avoid (kR m) = true) (hra : r.avoid (kR m) = true)
    (hcall : ACall P g (fs ++ xs ++ cs) (RH L F) (fun r' h' => r' = r ∧ HSub (putR m hNone (RH L' F')) h')) : OCall P o e h (putR m h (RH L' F')) r :=
  o_callFK (hw := putR m hNone (RH L' F')) (kR m) ho hfn hf hn hb hx hxa (fun b hb => by rw [RH_of hL hm h1 h2 hb]; exact RH_avoid hL hm hA hF hb) (hresK_RH hL hm h1 h2) (fun b hb => putR_no hb)
    (fun b hb => by obtain ⟨q, q1, q2⟩ := RH_avoid (L := L') (F := F') hL' hm hA' hF' hb; exact ⟨q, (putR_yes hb).trans q1, (putR_yes hb).trans q1, q2⟩) hra hcall
theorem rh_sub (hL : L.length = m) (hm : m ≤ 14) (h1 : LowR h 2 L) (h2 : ∀ x, h (x + 16) = some (F x)) : HSub (putR m hNone (RH L F)) h := fun c o ho => by
  cases e : kR m c with
  | true => rw [putR_yes e] at ho; rw [RH_of hL hm h1 h2 e]; exact ho
  | false => rw [putR_no e] at ho; cases ho
end
structure CoreB (C : Core) : Prop where
  w0 : 0 ≤ C.words
  w1 : C.words ≤ 32768
  n0 : 1 ≤ C.funcs.length
  n1 : C.funcs.length ≤ 64
  fn : ∀ g ∈ C.funcs, 0 ≤ g.params ∧ g.params ≤ 6 ∧ g.params ≤ g.slots ∧ 0 ≤ g.first ∧ g.first + g.slots ≤ C.words
theorem CoreR.b {C : Core} (h : CoreR C) : CoreB C := ⟨h.w0, h.w1, h.n0, h.n1, h.fn⟩
def bRow (i : Nat) (x : Block) : List AV := [slA (i + 16) (x.ins.map Tac.cells), .int .i64 x.fin, .int .i64 x.v, .int .i64 x.to, .int .i64 x.els]
def bRows (l : List Block) : List (List AV) := l.zipIdx.map fun p => bRow p.2 p.1
def bIns (l : List Block) (i : Nat) : List Tac := ((l[i]?).map Block.ins).getD []
def bFam (l : List Block) : Nat → AObj := fun i => slO 8 ((bIns l i).map Tac.cells)
abbrev bCell (C : Core) (w : Bool) (b : Bd) : List AV := [.lst false (C.funcs.map CFn.cells), .int .i64 C.words, .bool w, .int .i64 b.regs, .ref 3 b.blocks.length 0 b.blocks.length, .int .i64 (b.now : Int)]
abbrev bL (C : Core) (w : Bool) (b : Bd) : List AObj := [.row false 6 [bCell C w b], .row false 5 (bRows b.blocks)]
theorem bRows_len (l : List Block) : (bRows l).length = l.length := by simp [bRows]
theorem bRows_get {l : List Block} {i : Nat} {x : Block} (h : l[i]? = some x) : (bRows l)[i]? = some (bRow i x) := by
  unfold bRows
  rw [List.getElem?_map, zipIdx_get h]; rfl
theorem bRows_set {l : List Block} {i : Nat} {x : Block} {g : Block → Block} (h : l[i]? = some x) : (bRows l).set i (bRow i (g x)) = bRows (l.modify i g) := by
  refine List.ext_getElem? fun j => ?_
  rw [List.getElem?_set, bRows_len]
  have hi := (List.getElem?_eq_some_iff.1 h).1
  by_cases hj : i = j
  · subst hj
    rw [if_pos rfl, if_pos hi]
    refine (bRows_get ?_).symm
    rw [List.getElem?_modify, h]; simp
  · rw [if_neg hj]
    cases e : l[j]? with
    | none =>
      rw [List.getElem?_eq_none (by rw [bRows_len]; exact List.getElem?_eq_none_iff.1 e), List.getElem?_eq_none (by rw [bRows_len, List.length_modify]; exact List.getElem?_eq_none_iff.1 e)]
    | some y =>
      rw [bRows_get e, bRows_get (x := y) (by rw [List.getElem?_modify, e]; simp [hj])]
theorem bRows_snoc (l : List Block) (x : Block) : bRows (l ++ [x]) = bRows l ++ [bRow l.length x] := by
  refine List.ext_getElem? fun j => ?_
  by_cases hj : j < l.length
  · obtain ⟨y, hy⟩ := get_of_lt hj
    rw [bRows_get (x := y) (by rw [List.getElem?_append_left hj]; exact hy), List.getElem?_append_left (by rw [bRows_len]; exact hj), bRows_get hy]
  · by_cases hj2 : j = l.length
    · subst hj2
      rw [bRows_get (x := x) (by rw [List.getElem?_append_right (Nat.le_refl _), Nat.sub_self]; rfl), List.getElem?_append_right (by rw [bRows_len]; omega), bRows_len, Nat.sub_self]; rfl
    · rw [List.getElem?_eq_none (by rw [bRows_len, List.length_append]; simp; omega), List.getElem?_eq_none (by rw [List.length_append, bRows_len]; simp; omega)]
theorem bIns_at {l : List Block} {i : Nat} {x : Block} (h : l[i]? = some x) : bIns l i = x.ins := by unfold bIns; rw [h]; rfl
theorem bFam_at {l : List Block} {i : Nat} {x : Block} (h : l[i]? = some x) : bFam l i = slO 8 (x.ins.map Tac.cells) := by unfold bFam; rw [bIns_at h]
theorem bFam_same {l l' : List Block} (h : ∀ i, bIns l' i = bIns l i) : bFam l' = bFam l := funext fun i => by unfold bFam; rw [h]
theorem bIns_snoc {l : List Block} {x : Block} (hx : x.ins = []) (i : Nat) : bIns (l ++ [x]) i = bIns l i := by
  unfold bIns
  by_cases hj : i < l.length
  · rw [List.getElem?_append_left hj]
  · rw [List.getElem?_eq_none (l := l) (by omega)]
    by_cases hj2 : i = l.length
    · subst hj2
      rw [List.getElem?_append_right (Nat.le_refl _), Nat.sub_self]
      show ((some x).map Block.ins).getD [] = _
      exact hx
    · rw [List.getElem?_eq_none (by rw [List.length_append]; simp; omega)]
theorem bIns_upd {l : List Block} {k : Nat} {g : Block → Block} (hg : ∀ x, (g x).ins = x.ins) (i : Nat) : bIns (l.modify k g) i = bIns l i := by
  unfold bIns
  rw [List.getElem?_modify]
  cases l[i]? with
  | none => rfl
  | some x => by_cases h : k = i <;> simp [h, hg]
theorem bFam_put {l : List Block} {k : Nat} {x : Block} {t : Tac} (h : l[k]? = some x) (y : Nat) : bFam (l.modify k fun x => x.mid (x.ins ++ [t])) y = if y = k then slO 8 (x.ins.map Tac.cells ++ [t.cells]) else bFam l y := by
  unfold bFam bIns
  rw [List.getElem?_modify]
  by_cases hy : y = k
  · subst hy
    rw [if_pos rfl, h]
    simp [Block.mid]
  · rw [if_neg hy]
    cases l[y]? with
    | none => rfl
    | some z => simp [Ne.symm hy]
theorem bRow_avoid {k : Nat → Bool} (hk : ∀ x, k (x + 16) = true) (i : Nat) (x : Block) : (bRow i x).all (AV.avoid k) = true := by
  simp only [bRow, List.all_cons, List.all_nil, Bool.and_true, Bool.and_eq_true]
  exact ⟨slA_avoid _ (hk _), rfl, rfl, rfl, rfl⟩
theorem bRows_avoid {k : Nat → Bool} (hk : ∀ x, k (x + 16) = true) (l : List Block) : (AObj.row false 5 (bRows l)).avoid k = true := by
  show (bRows l).all (fun cs => cs.all (AV.avoid k)) = true
  refine List.all_eq_true.2 fun cs hc => ?_
  obtain ⟨p, _, rfl⟩ := List.mem_map.1 hc
  exact bRow_avoid hk _ _
theorem bFam_avoid {k : Nat → Bool} (l : List Block) (x : Nat) : (bFam l x).avoid k = true := slO_avoid _ _
theorem bL_avoid (C : Core) (w : Bool) (b : Bd) : ∀ o ∈ bL C w b, o.avoid (kR 2) = true := fun o ho => by
  simp only [bL, List.mem_cons, List.not_mem_nil, or_false] at ho
  rcases ho with rfl | rfl
  · rfl
  · exact bRows_avoid (kR_hi 2) _
theorem bIns_none {l : List Block} {i : Nat} (h : l.length ≤ i) : bIns l i = [] := by unfold bIns; rw [List.getElem?_eq_none h]; rfl
theorem tacs_len8 (l : List Tac) : ∀ cs ∈ l.map Tac.cells, cs.length = 8 := fun cs hc => by
  obtain ⟨t, _, rfl⟩ := List.mem_map.1 hc; rfl
theorem tacs_pure8 (l : List Tac) : ∀ cs ∈ l.map Tac.cells, cs.all AV.isPure1 = true := fun cs hc => by
  obtain ⟨t, _, rfl⟩ := List.mem_map.1 hc; rfl
theorem bCell_put (C : Core) (w : Bool) (b : Bd) (t : Tac) : bCell C w (b.put t) = [.lst false (C.funcs.map CFn.cells), .int .i64 C.words, .bool w, .int .i64 (max b.regs (t.d + 1)), .ref 3 b.blocks.length 0 b.blocks.length, .int .i64 (b.now : Int)] := by
  have e : (b.put t).blocks.length = b.blocks.length := List.length_modify ..
  show ([AV.lst false (C.funcs.map CFn.cells), AV.int .i64 C.words, AV.bool w, AV.int .i64 (max b.regs (t.d + 1)), AV.ref 3 (b.put t).blocks.length 0 (b.put t).blocks.length, AV.int .i64 (b.now : Int)] : List AV) = _
  rw [e]
theorem bRow_put {b : Bd} {x : Block} (t : Tac) (hx : b.blocks[b.now]? = some x) : (bRows b.blocks).set b.now ((bRow b.now x).set 0 (slA (b.now + 16) (x.ins.map Tac.cells ++ [t.cells]))) = bRows (b.put t).blocks := by
  have h := bRows_set (g := fun x => x.mid (x.ins ++ [t])) hx
  refine Eq.trans ?_ h
  congr 1
  show [slA (b.now + 16) (x.ins.map Tac.cells ++ [t.cells]), _, _, _, _] = [slA (b.now + 16) ((x.ins ++ [t]).map Tac.cells), _, _, _, _]
  rw [List.map_append]; rfl
theorem bRow_putR {b : Bd} {x : Block} (t : Tac) (hx : b.blocks[b.now]? = some x) : (bRows b.blocks).set b.now ((bRow b.now x).set 0 (.ref (b.now + 16) ((x.ins.map Tac.cells).length + 1) 0 ((x.ins.map Tac.cells).length + 1))) = bRows (b.put t).blocks := by
  rw [← bRow_put t hx, slA_snoc]
theorem bFam_putR {b : Bd} {x : Block} {t : Tac} (h : b.blocks[b.now]? = some x) (y : Nat) : bFam (b.put t).blocks y = if y = b.now then .row true 8 (x.ins.map Tac.cells ++ [t.cells]) else bFam b.blocks y := by
  rw [← slO_snoc]; exact bFam_put h y
def Wkb (x y : AV) : Prop := (x.cell1 = true → y.cell1 = true) ∧ ∀ H ι v, Rel H ι x v → Rel H ι y v
theorem Wkb.refl (x : AV) : Wkb x x := ⟨fun h => h, fun _ _ _ h => h⟩
theorem Wkb.nil (b : Nat) : Wkb .nil (slA b []) := ⟨fun _ => rfl, fun H ι v h => by
  rw [h.nil_inv]; exact .lst0 _ _ _ _ (fun _ => rfl) (Nat.zero_le _) (fun _ => rfl) trivial⟩
theorem wkb_snoc {es : List (List AV)} {f v t l x : AV} (b : Nat) : ∀ (i : Nat) (ds ds' : List AV), (es ++ [[.nil, f, v, t, l]])[i]? = some ds → (es ++ [[slA b [], f, v, t, l]])[i]? = some ds' → ds'.length = ds.length ∧ ∀ (j : Nat) (a c : AV), ds[j]? = some a → ds'[j]? = some c → (a.cell1 = true → c.cell1 = true) ∧ ∀ H ι v, Rel H ι a v → Rel H ι c v := fun i ds ds' h1 h2 => by
  rcases Nat.lt_or_ge i es.length with hi | hi
  · rw [List.getElem?_append_left hi] at h1 h2
    rw [h1] at h2; cases h2
    exact ⟨rfl, fun j a c g1 g2 => by rw [g1] at g2; cases g2; exact Wkb.refl a⟩
  · rw [List.getElem?_append_right hi] at h1 h2
    cases e : i - es.length with
    | zero =>
      rw [e] at h1 h2
      cases h1; cases h2
      refine ⟨rfl, fun j a c g1 g2 => ?_⟩
      cases j with
      | zero => cases g1; cases g2; exact Wkb.nil b
      | succ j =>
        have : [AV.nil, f, v, t, l][j + 1]? = [slA b [], f, v, t, l][j + 1]? := rfl
        rw [this, g2] at g1; cases g1; exact Wkb.refl _
    | succ k => rw [e] at h1; simp at h1
theorem bCell_upd (C : Core) (w : Bool) (b : Bd) (g : Block → Block) : bCell C w (b.upd g) = bCell C w b := by
  have e : (b.upd g).blocks.length = b.blocks.length := List.length_modify ..
  show ([AV.lst false (C.funcs.map CFn.cells), AV.int .i64 C.words, AV.bool w, AV.int .i64 b.regs, AV.ref 3 (b.upd g).blocks.length 0 (b.upd g).blocks.length, AV.int .i64 (b.now : Int)] : List AV) = _
  rw [e]
theorem bFam_upd (b : Bd) {g : Block → Block} (hg : ∀ x, (g x).ins = x.ins) : bFam (b.upd g).blocks = bFam b.blocks := bFam_same fun i => bIns_upd hg i
theorem bFam_jump (b : Bd) (to : Nat) : bFam (b.jump to).blocks = bFam b.blocks := bFam_upd b (g := fun x => { x with fin := 1, to := (to : Int) }) fun _ => rfl
theorem bFam_fork (b : Bd) (v to els : Nat) : bFam (b.fork v to els).blocks = bFam b.blocks := bFam_upd b (g := fun x => { x with fin := 2, v := (v : Int), to := (to : Int), els := (els : Int) }) fun _ => rfl
theorem bFam_ret (b : Bd) : bFam b.ret.blocks = bFam b.blocks := bFam_upd b (g := fun x => { x with fin := 3 }) fun _ => rfl
theorem bFam_open (b : Bd) : bFam b.opened.blocks = bFam b.blocks := bFam_same fun i => bIns_snoc rfl i
theorem bRow_open (b : Bd) : bRows b.blocks ++ [bRow b.blocks.length blk0] = bRows b.opened.blocks := (bRows_snoc _ _).symm
theorem bCell_open (C : Core) (w : Bool) (b : Bd) : bCell C w b.opened = [.lst false (C.funcs.map CFn.cells), .int .i64 C.words, .bool w, .int .i64 b.regs, .ref 3 (b.blocks.length + 1) 0 (b.blocks.length + 1), .int .i64 (b.now : Int)] := by
  show ([AV.lst false (C.funcs.map CFn.cells), AV.int .i64 C.words, AV.bool w, AV.int .i64 b.regs, AV.ref 3 b.opened.blocks.length 0 b.opened.blocks.length, AV.int .i64 (b.now : Int)] : List AV) = _
  rw [opened_len]
section
variable {b : Bd} {x : Block} (hx : b.blocks[b.now]? = some x)
include hx
theorem bRow_jump (to : Nat) : ((bRows b.blocks).set b.now ((bRow b.now x).set 1 (.int .i64 1))).set b.now (((bRow b.now x).set 1 (.int .i64 1)).set 3 (.int .i64 (to : Int))) = bRows (b.jump to).blocks := by
  rw [List.set_set]
  exact bRows_set (g := fun x => { x with fin := 1, to := (to : Int) }) hx
theorem bRow_fork (v to els : Nat) : ((((bRows b.blocks).set b.now ((bRow b.now x).set 1 (.int .i64 2))).set b.now (((bRow b.now x).set 1 (.int .i64 2)).set 2 (.int .i64 (v : Int)))).set b.now ((((bRow b.now x).set 1 (.int .i64 2)).set 2 (.int .i64 (v : Int))).set 3 (.int .i64 (to : Int)))).set b.now (((((bRow b.now x).set 1 (.int .i64 2)).set 2 (.int .i64 (v : Int))).set 3 (.int .i64 (to : Int))).set 4 (.int .i64 (els : Int))) = bRows (b.fork v to els).blocks := by
  rw [List.set_set, List.set_set, List.set_set]
  exact bRows_set (g := fun x => { x with fin := 2, v := (v : Int), to := (to : Int), els := (els : Int) }) hx
theorem bRow_ret : (bRows b.blocks).set b.now ((bRow b.now x).set 1 (.int .i64 3)) = bRows b.ret.blocks := bRows_set (g := fun x => { x with fin := 3 }) hx
end
def Bd.cnt (b : Bd) : Nat := b.blocks.length + (b.blocks.map fun x => x.ins.length).sum
theorem cnt_ins {b : Bd} {i : Nat} {x : Block} (h : b.blocks[i]? = some x) : x.ins.length ≤ b.cnt := by
  have := le_sum (p := fun x : Block => x.ins.length) (List.mem_of_getElem? h)
  unfold Bd.cnt; omega
theorem cnt_len (b : Bd) : b.blocks.length ≤ b.cnt := by unfold Bd.cnt; omega
theorem sum_modify {l : List Block} {k : Nat} {x : Block} {g : Block → Block} (h : l[k]? = some x) : ((l.modify k g).map fun x => x.ins.length).sum + x.ins.length = (l.map fun x => x.ins.length).sum + (g x).ins.length := by
  induction l generalizing k with
  | nil => simp at h
  | cons y l ih =>
    cases k with
    | zero => simp at h; subst h; simp [List.modify]; omega
    | succ k =>
      have := ih (k := k) (by simpa using h)
      simp only [List.modify_succ_cons, List.map_cons, List.sum_cons]
      omega
theorem cnt_put {b : Bd} {x : Block} (t : Tac) (h : b.blocks[b.now]? = some x) : (b.put t).cnt = b.cnt + 1 := by
  have h1 : ((b.blocks.modify b.now fun x => x.mid (x.ins ++ [t])).map fun x => x.ins.length).sum + x.ins.length = (b.blocks.map fun x => x.ins.length).sum + (x.mid (x.ins ++ [t])).ins.length := sum_modify (g := fun x => x.mid (x.ins ++ [t])) h
  have h2 : (b.put t).blocks.length = b.blocks.length := List.length_modify ..
  unfold Bd.cnt
  rw [h2]
  show _ + ((b.blocks.modify b.now fun x => x.mid (x.ins ++ [t])).map fun x => x.ins.length).sum = _
  have h3 : (x.mid (x.ins ++ [t])).ins.length = x.ins.length + 1 := by simp [Block.mid]
  omega
theorem cnt_upd {b : Bd} {g : Block → Block} (hg : ∀ x, (g x).ins = x.ins) : (b.upd g).cnt = b.cnt := by
  have h2 : (b.upd g).blocks.length = b.blocks.length := List.length_modify ..
  unfold Bd.cnt
  rw [h2]
  congr 1
  show ((b.blocks.modify b.now g).map fun x => x.ins.length).sum = _
  have key : ∀ (l : List Block) (k : Nat), (l.modify k g).map (fun x => x.ins.length) = l.map fun x => x.ins.length := fun l => by
    induction l with
    | nil => intro k; simp
    | cons y l ih =>
      intro k
      cases k with
      | zero => simp [List.modify, hg]
      | succ k => simp [List.modify_succ_cons, ih]
  rw [key]
theorem cnt_open (b : Bd) : b.opened.cnt = b.cnt + 1 := by
  unfold Bd.cnt
  rw [opened_len]
  show _ + ((b.blocks ++ [blk0]).map fun x => x.ins.length).sum = _
  simp; omega
theorem fam_eq {F G : Nat → AObj} (h : F = G) (x : Nat) : some (F x) = some (G x) := by rw [h]
abbrev r8 : AObj := .row false 1 [[.ptr 2 1 0 0]]
abbrev bL5 (C : Core) (w : Bool) (b : Bd) (o4 o5 o6 : AObj) : List AObj := [.row false 6 [bCell C w b], .row false 5 (bRows b.blocks), o4, o5, o6]
abbrev bL8 (C : Core) (w : Bool) (b : Bd) (o4 o5 o6 o9 : AObj) : List AObj := [.row false 6 [bCell C w b], .row false 5 (bRows b.blocks), o4, o5, o6, .free, r8, o9]
structure Ext (o4 o5 o6 : AObj) : Prop where
  a5 : o4.avoid (kR 5) = true ∧ o5.avoid (kR 5) = true ∧ o6.avoid (kR 5) = true
  a8 : o4.avoid (kR 8) = true ∧ o5.avoid (kR 8) = true ∧ o6.avoid (kR 8) = true
theorem bL5_avoid (C : Core) (w : Bool) (b : Bd) {o4 o5 o6 : AObj} (h : Ext o4 o5 o6) : ∀ o ∈ bL5 C w b o4 o5 o6, o.avoid (kR 5) = true := fun o ho => by
  simp only [bL5, List.mem_cons, List.not_mem_nil, or_false] at ho
  rcases ho with rfl | rfl | rfl | rfl | rfl
  · rfl
  · exact bRows_avoid (kR_hi 5) _
  · exact h.a5.1
  · exact h.a5.2.1
  · exact h.a5.2.2
theorem bL8_avoid (C : Core) (w : Bool) (b : Bd) {o4 o5 o6 o9 : AObj} (h : Ext o4 o5 o6) (h9 : o9.avoid (kR 8) = true) : ∀ o ∈ bL8 C w b o4 o5 o6 o9, o.avoid (kR 8) = true := fun o ho => by
  simp only [bL8, List.mem_cons, List.not_mem_nil, or_false] at ho
  rcases ho with rfl | rfl | rfl | rfl | rfl | rfl | rfl | rfl
  · rfl
  · exact bRows_avoid (kR_hi 8) _
  · exact h.a8.1
  · exact h.a8.2.1
  · exact h.a8.2.2
  · rfl
  · rfl
  · exact h9
def rL (N : Nat) : List Nat := 2 :: 3 :: famL (fun x => x + 16) N
def rW (o2 o3 : AObj) (F : Nat → AObj) (N : Nat) : List (Nat × AObj) := (2, o2) :: (3, o3) :: famW (fun x => x + 16) F N
theorem rL_lo (N : Nat) : mem (rL N) 2 = true ∧ mem (rL N) 3 = true := ⟨mem_iff.2 (by simp [rL]), mem_iff.2 (by simp [rL])⟩
theorem rL_hi {N x : Nat} (h : x < N) : mem (rL N) (x + 16) = true := mem_iff.2 (by unfold rL; exact List.mem_cons_of_mem _ (List.mem_cons_of_mem _ (famL_mem.2 ⟨x, h, rfl⟩)))
theorem rL_mem {N b : Nat} (h : b ∈ rL N) : b = 2 ∨ b = 3 ∨ ∃ x, x < N ∧ b = x + 16 := by
  unfold rL at h
  rcases List.mem_cons.1 h with h | h
  · exact .inl h
  rcases List.mem_cons.1 h with h | h
  · exact .inr (.inl h)
  · exact .inr (.inr (famL_mem.1 h))
theorem rW_lo {h : AHeap} {o2 o3 : AObj} {F : Nat → AObj} {N c : Nat} (hc : c < 16) : hputs h (rW o2 o3 F N) c = if c = 2 then some o2 else if c = 3 then some o3 else h c := by
  show hputs (hput (hput h 2 o2) 3 o3) (famW (fun x => x + 16) F N) c = _
  rw [famW_out _ (fun i _ => by omega)]
  by_cases h2 : c = 2
  · subst h2; rfl
  · by_cases h3 : c = 3
    · subst h3; rfl
    · rw [if_neg h2, if_neg h3, hput_ne _ _ h3, hput_ne _ _ h2]
theorem rW_lo' {h : AHeap} {o2 o3 : AObj} {F : Nat → AObj} {N c : Nat} (hc : c < 16) (h2 : c ≠ 2) (h3 : c ≠ 3) : hputs h (rW o2 o3 F N) c = h c := by rw [rW_lo hc, if_neg h2, if_neg h3]
theorem rW_hi {h : AHeap} {o2 o3 : AObj} {F F' : Nat → AObj} {N : Nat} (hh : ∀ x, h (x + 16) = some (F x)) (h1 : ∀ x, N ≤ x → F x = .free) (h2 : ∀ x, N ≤ x → F' x = .free) (x : Nat) : hputs h (rW o2 o3 F' N) (x + 16) = some (F' x) := by
  show hputs (hput (hput h 2 o2) 3 o3) (famW (fun x => x + 16) F' N) (x + 16) = _
  by_cases hx : x < N
  · exact famW_in (fun i j e => by omega) _ hx
  · rw [famW_out _ (fun i hi => by omega), hput_ne _ _ (by omega), hput_ne _ _ (by omega), hh, h1 x (by omega), h2 x (by omega)]
theorem bFam_free {l : List Block} {x : Nat} (h : l.length ≤ x) : bFam l x = .free := by unfold bFam; rw [bIns_none h]; rfl
theorem bRows_avoidL {l : List Block} {N : Nat} (h : l.length ≤ N) : (AObj.row false 5 (bRows l)).avoid (mem (rL N)) = true := by
  show (bRows l).all (fun cs => cs.all (AV.avoid (mem (rL N)))) = true
  refine List.all_eq_true.2 fun cs hc => ?_
  obtain ⟨i, hi⟩ := List.mem_iff_getElem?.1 hc
  have hil := (List.getElem?_eq_some_iff.1 hi).1
  rw [bRows_len] at hil
  obtain ⟨x, hx⟩ := get_of_lt hil
  rw [bRows_get hx] at hi
  cases hi
  simp only [bRow, List.all_cons, List.all_nil, Bool.and_true, Bool.and_eq_true]
  exact ⟨slA_avoid _ (rL_hi (by omega)), rfl, rfl, rfl, rfl⟩
theorem o_callRL {P : Program} {o : Oper} {e : AEnv} {h : AHeap} {g : FuncId} {fn : Func} {args : Array Operand} {tys : Array TypeId} {xs : List AV} {r : AV} (C : Core) (w : Bool) (b b' : Bd) (N : Nat) (hN : b.blocks.length ≤ N) (hN' : b'.blocks.length ≤ N)
    (ho : o.op = .call { callee := .value (.func g), args := args, argTypes := tys }) (hf : P.funcs[g]? = some fn) (hn : (fn.name == "runtime.NumGoroutine") = false) (hb : fn.body.isSome = true) (hx : lookAll e args.toList = some xs)
    (hxa : xs.all (AV.avoid (mem (rL N))) = true) (h1 : LowR h 2 (bL C w b)) (h2 : ∀ x, h (x + 16) = some (bFam b.blocks x)) (hra : r.avoid (mem (rL N)) = true)
    (hcall : ACall P g xs (RH (bL C w b) (bFam b.blocks)) (fun r' h' => r' = r ∧ HSub (putR 2 hNone (RH (bL C w b') (bFam b'.blocks))) h')) :
    OLoc P o e h (rL N) (rW (.row false 6 [bCell C w b']) (.row false 5 (bRows b'.blocks)) (bFam b'.blocks) N) (some r) := by
  refine o_call (hc := RH (bL C w b) (bFam b.blocks)) (hw := putR 2 hNone (RH (bL C w b') (bFam b'.blocks))) (rL N) (rW (.row false 6 [bCell C w b']) (.row false 5 (bRows b'.blocks)) (bFam b'.blocks) N) ho hf hn hb hx hxa (AllL.of fun c hc => ?_) ?_ ?_ (AllL.of fun c hc => ?_) hra hcall
  · rcases rL_mem hc with rfl | rfl | ⟨x, hx, rfl⟩
    · exact ⟨_, h1.1, rfl⟩
    · exact ⟨_, h1.2.1, bRows_avoidL hN⟩
    · exact ⟨_, h2 x, slO_avoid _ _⟩
  · show (rW _ _ _ N).all (fun p => mem (rL N) p.1) = true
    unfold rW
    rw [List.all_cons, List.all_cons, Bool.and_eq_true, Bool.and_eq_true]
    exact ⟨(rL_lo N).1, (rL_lo N).2, famW_all _ _ _ _ fun i hi => rL_hi hi⟩
  · funext c
    unfold hres
    cases hm : mem (rL N) c with
    | true =>
      rcases rL_mem (mem_iff.1 hm) with rfl | rfl | ⟨x, hx, rfl⟩
      · exact h1.1
      · exact h1.2.1
      · exact (h2 x).trans (fam_hi _ _ _).symm
    | false =>
      show some AObj.free = RH (bL C w b) (bFam b.blocks) c
      by_cases hc : c < 16
      · have c2 : c ≠ 2 := fun e => by subst e; rw [(rL_lo N).1] at hm; cases hm
        have c3 : c ≠ 3 := fun e => by subst e; rw [(rL_lo N).2] at hm; cases hm
        show _ = fam (nb _) _ c
        rw [fam_lo _ _ hc]
        unfold nb
        congr 1
        match c, c2, c3 with
        | 0, _, _ => rfl
        | 1, _, _ => rfl
        | 2, h, _ => exact absurd rfl h
        | 3, _, h => exact absurd rfl h
        | c + 4, _, _ => rfl
      · obtain ⟨x, rfl⟩ : ∃ x, c = x + 16 := ⟨c - 16, by omega⟩
        have hxN : N ≤ x := by
          rcases Nat.lt_or_ge x N with hx | hx
          · rw [rL_hi hx] at hm; cases hm
          · exact hx
        exact ((fam_hi _ _ _).trans (congrArg some (bFam_free (Nat.le_trans hN hxN)))).symm
  · rcases rL_mem hc with rfl | rfl | ⟨x, hx, rfl⟩
    · exact ⟨_, putR_yes rfl, rW_lo (by omega), rfl⟩
    · exact ⟨_, putR_yes rfl, rW_lo (by omega), bRows_avoidL hN'⟩
    · exact ⟨_, (putR_hi _ _ _ x).trans (fam_hi _ _ _), rW_hi h2 (fun y hy => bFam_free (Nat.le_trans hN hy)) (fun y hy => bFam_free (Nat.le_trans hN' hy)) x, slO_avoid _ _⟩
def clsB (b : Nat) : Nat := if b = 3 then 2 else if b < 16 then b else 2
theorem rL_cls (N : Nat) : clsIn clsB (rL N) [2] := fun b hb => by
  rcases rL_mem hb with rfl | rfl | ⟨x, hx, rfl⟩
  · simp [clsB]
  · simp [clsB]
  · have : clsB (x + 16) = 2 := by unfold clsB; rw [if_neg (by omega), if_neg (by omega)]
    rw [this]; simp
theorem rW_cls (o2 o3 : AObj) (F : Nat → AObj) (N : Nat) : clsIn clsB ((rW o2 o3 F N).map (·.1)) [2] := fun b hb => by
  refine rL_cls N b ?_
  unfold rW at hb
  unfold rL
  rw [List.map_cons, List.map_cons] at hb
  rcases List.mem_cons.1 hb with hb | hb
  · exact List.mem_cons.2 (.inl hb)
  rcases List.mem_cons.1 hb with hb | hb
  · exact List.mem_cons_of_mem _ (List.mem_cons.2 (.inl hb))
  · refine List.mem_cons_of_mem _ (List.mem_cons_of_mem _ ?_)
    obtain ⟨p, hp, rfl⟩ := List.mem_map.1 hb
    unfold famW at hp
    obtain ⟨i, hi, rfl⟩ := List.mem_map.1 hp
    exact famL_mem.2 ⟨i, List.mem_range.1 hi, rfl⟩
theorem cnt_put_le (b : Bd) (t : Tac) : (b.put t).cnt ≤ b.cnt + 1 := by
  cases h : b.blocks[b.now]? with
  | some x => rw [cnt_put t h]; omega
  | none =>
    have e : (b.put t).blocks = b.blocks := by
      show b.blocks.modify b.now _ = b.blocks
      refine List.ext_getElem? fun i => ?_
      rw [List.getElem?_modify]
      by_cases hi : b.now = i
      · subst hi; rw [h]; rfl
      · cases b.blocks[i]? <;> simp [hi]
    unfold Bd.cnt; rw [e]; omega
theorem cnt_go (b : Bd) (n : Nat) : (b.go n).cnt = b.cnt := rfl
theorem cnt_jump (b : Bd) (to : Nat) : (b.jump to).cnt = b.cnt := cnt_upd (b := b) (g := fun x => { x with fin := 1, to := (to : Int) }) fun _ => rfl
theorem cnt_fork (b : Bd) (v to els : Nat) : (b.fork v to els).cnt = b.cnt := cnt_upd (b := b) (g := fun x => { x with fin := 2, v := (v : Int), to := (to : Int), els := (els : Int) }) fun _ => rfl
theorem cnt_ret (b : Bd) : b.ret.cnt = b.cnt := cnt_upd (b := b) (g := fun x => { x with fin := 3 }) fun _ => rfl
theorem cnt_args (b : Bd) (first : Int) (d : Nat) : ∀ n, (b.args first d n).cnt ≤ b.cnt + n
  | 0 => Nat.le_refl _
  | n + 1 => by rw [Bd.args]; have := cnt_put_le (b.args first d n) (iStore (first + n) (d + n)); have := cnt_args b first d n; omega
theorem cnt_called (b : Bd) (C : Core) (g : Int) (n d : Nat) : (b.called C g n d).cnt ≤ b.cnt + n + 1 := by
  unfold Bd.called
  have := cnt_put_le (b.args (C.first g) d n) (iCall g)
  have := cnt_args b (C.first g) d n
  omega
theorem cnt_not (b : Bd) (d : Nat) : (b.not d).cnt ≤ b.cnt + 2 := by
  unfold Bd.not
  have := cnt_put_le (b.put (iNum (d + 1) 0)) (iBin 15 d d (d + 1))
  have := cnt_put_le b (iNum (d + 1) 0)
  omega
theorem cnt_truth (b : Bd) (e : CE) (d : Nat) : (b.truth e d).cnt ≤ b.cnt + 3 := by
  unfold Bd.truth
  cases e.flagged with
  | true => show b.cnt ≤ _; omega
  | false =>
    show ((b.not d).put _).cnt ≤ _
    have := cnt_put_le (b.not d) (iBin 15 d d (d + 1))
    have := cnt_not b d
    omega
theorem cnt_either0 (b : Bd) (k : Int) (d : Nat) : (b.either0 k d).cnt = b.cnt + 2 := by
  unfold Bd.either0
  cases k == 8 with
  | true => show (Bd.fork _ _ _ _).cnt = _; rw [cnt_fork, cnt_open, cnt_open]
  | false => show (Bd.fork _ _ _ _).cnt = _; rw [cnt_fork, cnt_open, cnt_open]
theorem cnt_inside (b : Bd) (i to : Nat) (f : Bd → Bd) : (b.inside i to f).cnt = (f (b.go i)).cnt := by
  unfold Bd.inside; rw [cnt_go, cnt_jump]
section
variable {C : Core}
theorem cnt_exprs {m : Nat} {l : List CE} (hI : ∀ e ∈ l, ∀ d b, (e.build C d b).cnt + 1 ≤ b.cnt + 11 * e.parts) : ∀ (d : Nat) (b : Bd), (CE.buildL C l d b).cnt + l.length ≤ b.cnt + 11 * CE.partsL l := by
  induction l with
  | nil => intro d b; rw [CE.buildL, List.length_nil]; omega
  | cons e l ih =>
    intro d b
    rw [CE.buildL, CE.partsL, List.length_cons]
    have h1 := ih (fun x hx => hI x (List.mem_cons.2 (.inr hx))) (d + 1) (e.build C d b)
    have h2 := hI e (List.mem_cons.2 (.inl rfl)) d b
    omega
theorem cnt_expr : ∀ (m : Nat) (e : CE), e.parts ≤ m → ∀ d b, (e.build C d b).cnt + 1 ≤ b.cnt + 11 * e.parts
  | 0, e, hm => absurd hm (by have := parts_kids e; omega)
  | m + 1, .mk k o n s z kids, hm => by
    rw [CE.parts] at hm
    have hI : ∀ e ∈ kids, ∀ d b, (e.build C d b).cnt + 1 ≤ b.cnt + 11 * e.parts := fun e he => cnt_expr m e (by have := parts_mem he; omega)
    intro d b
    have hL := cnt_exprs (m := 0) hI d b
    have hlen := partsL_len kids
    rw [CE.build, CE.parts]
    by_cases k1 : k = 1
    · rw [if_pos k1]; have := cnt_put_le b (iNum d n); omega
    rw [if_neg k1]
    by_cases k2 : k = 2
    · rw [if_pos k2]; have := cnt_put_le b (iLoad d s); omega
    rw [if_neg k2]
    by_cases k3 : k = 3
    · rw [if_pos k3]; have := cnt_put_le (CE.buildL C kids d b) (iALoad d d s z); omega
    rw [if_neg k3]
    by_cases k4 : k = 4
    · rw [if_pos k4]
      have h1 := cnt_put_le ((CE.buildL C kids d b).called C s kids.length d) (iLoad d C.words)
      have h2 := cnt_called (CE.buildL C kids d b) C s kids.length d
      omega
    rw [if_neg k4]
    by_cases k5 : k = 5
    · rw [if_pos k5]; have := cnt_put_le b (iGet d); omega
    rw [if_neg k5]
    by_cases k6 : k = 6
    · rw [if_pos k6]; have := cnt_put_le (CE.buildL C kids d b) (iBin o d d (d + 1)); omega
    rw [if_neg k6]
    by_cases k7 : k = 7
    · rw [if_pos k7]; have := cnt_not (CE.buildL C kids d b) d; omega
    rw [if_neg k7]
    by_cases k8 : k = 8 ∨ k = 9
    · rw [if_pos k8]
      cases kids with
      | nil => rw [CE.buildE]; omega
      | cons e l =>
        have h1 := hI e (List.mem_cons.2 (.inl rfl)) d b
        have h2 := cnt_truth (e.build C d b) e d
        rw [CE.buildE, CE.partsL]
        cases l with
        | nil => rw [CE.buildR, CE.partsL]; omega
        | cons y l =>
          rw [CE.buildR, CE.partsL, cnt_go, cnt_inside]
          have h3 := cnt_truth (y.build C d ((((e.build C d b).truth e d).either0 k d).go ((e.build C d b).truth e d).blocks.length)) y d
          have h4 := hI y (List.mem_cons.2 (.inr (List.mem_cons.2 (.inl rfl)))) d ((((e.build C d b).truth e d).either0 k d).go ((e.build C d b).truth e d).blocks.length)
          rw [cnt_go, cnt_either0] at h4
          omega
    · rw [if_neg k8]; omega
end
section
variable {C : Core} {e x y : CE} {d : Nat} {b : Bd}
theorem bk1 (hk : e.kind = 1) : e.build C d b = b.put (iNum d e.num) := by
  cases e; simp only [CE.kind] at hk; subst hk; rw [CE.build, if_pos rfl]; rfl
theorem bk2 (hk : e.kind = 2) : e.build C d b = b.put (iLoad d e.slot) := by
  cases e; simp only [CE.kind] at hk; subst hk; rw [CE.build, if_neg (by decide), if_pos rfl]; rfl
theorem kids_one {l : List CE} (h : l.length = 1) (hx : l[0]? = some x) : l = [x] := by
  obtain ⟨a, rfl⟩ := len_one h
  simp at hx; rw [hx]
theorem kids_two {l : List CE} (h : l.length = 2) (hx : l[0]? = some x) (hy : l[1]? = some y) : l = [x, y] := by
  obtain ⟨a, c, rfl⟩ := len_two h
  simp at hx hy; rw [hx, hy]
theorem bk3 (hk : e.kind = 3) (hl : e.kids.length = 1) (hx : e.kids[0]? = some x) : e.build C d b = (x.build C d b).put (iALoad d d e.slot e.size) := by
  cases e with
  | mk k o n s z kids =>
  simp only [CE.kind] at hk
  subst hk
  have := kids_one hl hx
  simp only [CE.kids] at this
  subst this
  rw [CE.build, if_neg (by decide), if_neg (by decide), if_pos rfl, CE.buildL, CE.buildL]; rfl
theorem bk4 (hk : e.kind = 4) : e.build C d b = ((CE.buildL C e.kids d b).called C e.slot e.kids.length d).put (iLoad d C.words) := by
  cases e; simp only [CE.kind] at hk; subst hk; rw [CE.build, if_neg (by decide), if_neg (by decide), if_neg (by decide), if_pos rfl]; rfl
theorem bk5 (hk : e.kind = 5) : e.build C d b = b.put (iGet d) := by
  cases e; simp only [CE.kind] at hk; subst hk; rw [CE.build, if_neg (by decide), if_neg (by decide), if_neg (by decide), if_neg (by decide), if_pos rfl]
theorem bk6 (hk : e.kind = 6) (hl : e.kids.length = 2) (hx : e.kids[0]? = some x) (hy : e.kids[1]? = some y) : e.build C d b = (y.build C (d + 1) (x.build C d b)).put (iBin e.op d d (d + 1)) := by
  cases e with
  | mk k o n s z kids =>
  simp only [CE.kind] at hk
  subst hk
  have := kids_two hl hx hy
  simp only [CE.kids] at this
  subst this
  rw [CE.build, if_neg (by decide), if_neg (by decide), if_neg (by decide), if_neg (by decide), if_neg (by decide), if_pos rfl, CE.buildL, CE.buildL, CE.buildL]; rfl
theorem bk7 (hk : e.kind = 7) (hl : e.kids.length = 1) (hx : e.kids[0]? = some x) : e.build C d b = (x.build C d b).not d := by
  cases e with
  | mk k o n s z kids =>
  simp only [CE.kind] at hk
  subst hk
  have := kids_one hl hx
  simp only [CE.kids] at this
  subst this
  rw [CE.build, if_neg (by decide), if_neg (by decide), if_neg (by decide), if_neg (by decide), if_neg (by decide), if_neg (by decide), if_pos rfl, CE.buildL, CE.buildL]
def eitherB (C : Core) (k : Int) (x y : CE) (d : Nat) (b : Bd) : Bd := ((((x.build C d b).truth x d).either0 k d).inside ((x.build C d b).truth x d).blocks.length (((x.build C d b).truth x d).blocks.length + 1) fun z => (y.build C d z).truth y d).go (((x.build C d b).truth x d).blocks.length + 1)
theorem bk89 (hk : e.kind = 8 ∨ e.kind = 9) (hl : e.kids.length = 2) (hx : e.kids[0]? = some x) (hy : e.kids[1]? = some y) : e.build C d b = eitherB C e.kind x y d b := by
  cases e with
  | mk k o n s z kids =>
  simp only [CE.kind] at hk ⊢
  have := kids_two hl hx hy
  simp only [CE.kids] at this
  subst this
  have h1 : k ≠ 1 ∧ k ≠ 2 ∧ k ≠ 3 ∧ k ≠ 4 ∧ k ≠ 5 ∧ k ≠ 6 ∧ k ≠ 7 := by omega
  rw [CE.build, if_neg h1.1, if_neg h1.2.1, if_neg h1.2.2.1, if_neg h1.2.2.2.1, if_neg h1.2.2.2.2.1, if_neg h1.2.2.2.2.2.1, if_neg h1.2.2.2.2.2.2, if_pos hk, CE.buildE, CE.buildR]; rfl
theorem truth_yes {b : Bd} {d : Nat} (h : e.flagged = true) : b.truth e d = b := by unfold Bd.truth; rw [h]; rfl
theorem truth_no {b : Bd} {d : Nat} (h : e.flagged = false) : b.truth e d = (b.not d).put (iBin 15 d d (d + 1)) := by unfold Bd.truth; rw [h]; rfl
end
theorem buildL_snoc {C : Core} (x : CE) : ∀ (l : List CE) (d : Nat) (b : Bd), CE.buildL C (l ++ [x]) d b = x.build C (d + l.length) (CE.buildL C l d b)
  | [], d, b => by rw [List.nil_append, CE.buildL, CE.buildL, CE.buildL]; rfl
  | y :: l, d, b => by
    rw [List.cons_append, CE.buildL, CE.buildL, buildL_snoc x l, List.length_cons]
    congr 1; omega
theorem buildL_take {C : Core} {l : List CE} {k : Nat} {x : CE} (h : l[k]? = some x) (d : Nat) (b : Bd) : CE.buildL C (l.take (k + 1)) d b = x.build C (d + k) (CE.buildL C (l.take k) d b) := by
  have hk := (List.getElem?_eq_some_iff.1 h).1
  rw [take_succ_eq h, buildL_snoc, List.length_take, Nat.min_eq_left (by omega)]
theorem args_pl {b : Bd} (h : Pl b) (first : Int) (d : Nat) : ∀ n, Pl (b.args first d n)
  | 0 => h
  | n + 1 => (codes_put (args_pl h first d n) _).pl
theorem okL_take {C : Core} {n : Nat} : ∀ {l : List CE} (k : Nat), CE.okL C n l → CE.okL C n (l.take k)
  | [], k, h => by rw [List.take_nil]; exact h
  | e :: l, 0, h => trivial
  | e :: l, k + 1, h => by rw [CE.okL] at h; rw [List.take_succ_cons, CE.okL]; exact ⟨h.1, okL_take k h.2⟩
theorem eok_kids {C : Core} {n : Nat} {e : CE} (h : e.ok C n) : CE.okL C n e.kids := by cases e; rw [CE.ok] at h; exact h.1
theorem either0_pl {b : Bd} (h : Pl b) (k : Int) (d : Nat) : Pl ((b.either0 k d).go b.blocks.length) := by
  have hlt := h.lt
  have key : ∀ v to els : Nat, (b.opened.opened.fork v to els).blocks[b.blocks.length]? = some blk0 := fun v to els => by
    show (b.opened.opened.upd _).blocks[b.blocks.length]? = _
    rw [upd_ne (show b.blocks.length ≠ b.opened.opened.now by show b.blocks.length ≠ b.now; omega), opened_old (by rw [opened_len]; omega), opened_at]
  refine ⟨blk0, ?_, rfl, rfl, rfl, rfl⟩
  show (b.either0 k d).blocks[b.blocks.length]? = _
  unfold Bd.either0
  cases k == 8 with
  | true => exact key _ _ _
  | false => exact key _ _ _
theorem partsL_takes {l : List CE} {k : Nat} {x : CE} (h : l[k]? = some x) : CE.partsL (l.take k) + x.parts ≤ CE.partsL l ∧ k ≤ CE.partsL (l.take k) := by
  have h1 := partsL_take h
  have h2 := partsL_le (l := l) (k + 1)
  have h3 := partsL_len (l.take k)
  rw [List.length_take, Nat.min_eq_left (by have := (List.getElem?_eq_some_iff.1 h).1; omega)] at h3
  omega
theorem Pl.cur {b : Bd} (h : Pl b) : ∃ x, b.blocks[b.now]? = some x := by
  obtain ⟨x, hx, _⟩ := h
  exact ⟨x, hx⟩
theorem cnt_leave (b : Bd) (C : Core) (w : Bool) : (b.leave C w).cnt ≤ b.cnt + 2 := by
  unfold Bd.leave
  rw [cnt_ret]
  cases w with
  | true =>
    show ((b.put (iNum 0 0)).put (iStore C.words 0)).cnt ≤ _
    have := cnt_put_le (b.put (iNum 0 0)) (iStore C.words 0)
    have := cnt_put_le b (iNum 0 0)
    omega
  | false => show b.cnt ≤ _; omega
theorem cnt_next (b : Bd) : b.next.cnt = b.cnt + 1 := by unfold Bd.next; rw [cnt_go, cnt_open]
section
variable {C : Core} {w : Bool}
theorem cnt_stmts {l : List CS} (hI : ∀ e ∈ l, ∀ b, (e.build C w b).cnt + 1 ≤ b.cnt + 11 * e.parts) : ∀ (b : Bd), (CS.buildL C w l b).cnt + l.length ≤ b.cnt + 11 * CS.partsL l := by
  induction l with
  | nil => intro b; rw [CS.buildL, List.length_nil]; omega
  | cons e l ih =>
    intro b
    rw [CS.buildL, CS.partsL, List.length_cons]
    have h1 := ih (fun x hx => hI x (List.mem_cons.2 (.inr hx))) (e.build C w b)
    have h2 := hI e (List.mem_cons.2 (.inl rfl)) b
    omega
theorem cnt_stmt : ∀ (m : Nat) (e : CS), e.parts ≤ m → ∀ b, (e.build C w b).cnt + 1 ≤ b.cnt + 11 * e.parts
  | 0, e, hm => absurd hm (by have := sparts_es e; omega)
  | m + 1, .mk k s z es thn els, hm => by
    rw [CS.parts] at hm
    have hT : ∀ b, (CS.buildL C w thn b).cnt + thn.length ≤ b.cnt + 11 * CS.partsL thn := cnt_stmts fun e he => cnt_stmt m e z32q
    have hL : ∀ b, (CS.buildL C w els b).cnt + els.length ≤ b.cnt + 11 * CS.partsL els := cnt_stmts fun e he => cnt_stmt m e z33q
    intro b
    have hE : ∀ b, (CE.buildL C es 0 b).cnt + es.length ≤ b.cnt + 11 * CE.partsL es := fun b => cnt_exprs (m := 0) (fun e _ => cnt_expr e.parts e (Nat.le_refl _)) 0 b
    have hEb := hE b
    rw [CS.build, CS.parts]
    by_cases k1 : k = 1
    · rw [if_pos k1]; have := cnt_put_le (CE.buildL C es 0 b) (iStore s 0); omega
    rw [if_neg k1]
    by_cases k2 : k = 2
    · rw [if_pos k2]; have := cnt_put_le (CE.buildL C es 0 b) (iAStore 0 1 s z); omega
    rw [if_neg k2]
    by_cases k3 : k = 3
    · rw [if_pos k3]; have := cnt_put_le (CE.buildL C es 0 b) (iPut 0); omega
    rw [if_neg k3]
    by_cases k6 : k = 6
    · rw [if_pos k6]; have := cnt_called (CE.buildL C es 0 b) C s es.length 0; omega
    rw [if_neg k6]
    by_cases k7 : k = 7
    · rw [if_pos k7, cnt_next]
      by_cases he : es = []
      · rw [if_pos he]; have := cnt_leave b C w; omega
      · rw [if_neg he]; have := cnt_put_le (CE.buildL C es 0 b) (iStore C.words 0); omega
    rw [if_neg k7]
    by_cases k4 : k = 4
    · rw [if_pos k4]
      dsimp only
      rw [cnt_go, cnt_inside]
      have h1 := hT ((if els = [] then (((CE.buildL C es 0 b).opened.opened).fork 0 (CE.buildL C es 0 b).blocks.length ((CE.buildL C es 0 b).blocks.length + 1)) else (((CE.buildL C es 0 b).opened.opened.opened.inside ((CE.buildL C es 0 b).blocks.length + 2) ((CE.buildL C es 0 b).blocks.length + 1) fun x => CS.buildL C w els x).fork 0 (CE.buildL C es 0 b).blocks.length ((CE.buildL C es 0 b).blocks.length + 2))).go (CE.buildL C es 0 b).blocks.length)
      rw [cnt_go] at h1
      by_cases he : els = []
      · rw [if_pos he] at h1 ⊢
        rw [cnt_fork, cnt_open, cnt_open] at h1
        omega
      · rw [if_neg he] at h1 ⊢
        rw [cnt_fork, cnt_inside] at h1
        have h2 := hL ((CE.buildL C es 0 b).opened.opened.opened.go ((CE.buildL C es 0 b).blocks.length + 2))
        rw [cnt_go, cnt_open, cnt_open, cnt_open] at h2
        omega
    rw [if_neg k4]
    by_cases k5 : k = 5
    · rw [if_pos k5]
      dsimp only
      rw [cnt_go, cnt_inside]
      have h1 := hT (((CE.buildL C es 0 ((b.opened.opened.opened.inside b.now b.blocks.length fun x => x).go b.blocks.length)).fork 0 (b.blocks.length + 1) (b.blocks.length + 2)).go (b.blocks.length + 1))
      rw [cnt_go, cnt_fork] at h1
      have h2 := hE ((b.opened.opened.opened.inside b.now b.blocks.length fun x => x).go b.blocks.length)
      rw [cnt_go, cnt_inside, cnt_go, cnt_open, cnt_open, cnt_open] at h2
      omega
    · rw [if_neg k5]; omega
theorem sbuildL_snoc (x : CS) : ∀ (l : List CS) (b : Bd), CS.buildL C w (l ++ [x]) b = x.build C w (CS.buildL C w l b)
  | [], b => by rw [List.nil_append, CS.buildL, CS.buildL, CS.buildL]
  | y :: l, b => by rw [List.cons_append, CS.buildL, CS.buildL, sbuildL_snoc x l]
theorem sbuildL_take {l : List CS} {k : Nat} {x : CS} (h : l[k]? = some x) (b : Bd) : CS.buildL C w (l.take (k + 1)) b = x.build C w (CS.buildL C w (l.take k) b) := by
  rw [take_succ_eq h, sbuildL_snoc]
end
section
variable {C : Core} {w : Bool} {e : CS} {x y : CE} {b : Bd}
theorem sbk1 (hk : e.kind = 1) (hl : e.es.length = 1) (hx : e.es[0]? = some x) : e.build C w b = (x.build C 0 b).put (iStore e.slot 0) := by
  cases e with
  | mk k s z es thn els =>
  simp only [CS.kind] at hk
  subst hk
  have := kids_one hl hx
  simp only [CS.es] at this
  subst this
  rw [CS.build, if_pos rfl, CE.buildL, CE.buildL]; rfl
theorem sbk2 (hk : e.kind = 2) (hl : e.es.length = 2) (hx : e.es[0]? = some x) (hy : e.es[1]? = some y) : e.build C w b = (y.build C 1 (x.build C 0 b)).put (iAStore 0 1 e.slot e.size) := by
  cases e with
  | mk k s z es thn els =>
  simp only [CS.kind] at hk
  subst hk
  have := kids_two hl hx hy
  simp only [CS.es] at this
  subst this
  rw [CS.build, if_neg (by decide), if_pos rfl, CE.buildL, CE.buildL, CE.buildL]; rfl
theorem sbk3 (hk : e.kind = 3) (hl : e.es.length = 1) (hx : e.es[0]? = some x) : e.build C w b = (x.build C 0 b).put (iPut 0) := by
  cases e with
  | mk k s z es thn els =>
  simp only [CS.kind] at hk
  subst hk
  have := kids_one hl hx
  simp only [CS.es] at this
  subst this
  rw [CS.build, if_neg (by decide), if_neg (by decide), if_pos rfl, CE.buildL, CE.buildL]
theorem sbk6 (hk : e.kind = 6) : e.build C w b = (CE.buildL C e.es 0 b).called C e.slot e.es.length 0 := by
  cases e; simp only [CS.kind] at hk; subst hk; rw [CS.build, if_neg (by decide), if_neg (by decide), if_neg (by decide), if_pos rfl]; rfl
theorem sbk7a (hk : e.kind = 7) (hl : e.es.length = 1) (hx : e.es[0]? = some x) : e.build C w b = ((x.build C 0 b).put (iStore C.words 0)).next := by
  cases e with
  | mk k s z es thn els =>
  simp only [CS.kind] at hk
  subst hk
  have := kids_one hl hx
  simp only [CS.es] at this
  subst this
  rw [CS.build, if_neg (by decide), if_neg (by decide), if_neg (by decide), if_neg (by decide), if_pos rfl, if_neg (by simp), CE.buildL, CE.buildL]
theorem sbk7b (hk : e.kind = 7) (hl : e.es.length = 0) : e.build C w b = (b.leave C w).next := by
  cases e with
  | mk k s z es thn els =>
  simp only [CS.kind] at hk
  subst hk
  simp only [CS.es] at hl
  rw [CS.build, if_neg (by decide), if_neg (by decide), if_neg (by decide), if_neg (by decide), if_pos rfl, if_pos (List.length_eq_zero_iff.1 hl)]
end
theorem sok_3 {C : Core} {n : Nat} {w : Bool} {e : CS} (h : e.ok C n w) (hk : e.kind = 3 ∨ e.kind = 4) : e.es.length = 1 := by
  cases e with
  | mk k sl z es thn els =>
  rw [CS.ok] at h
  simp only [CS.kind] at hk
  simp only [CS.es]
  obtain ⟨_, _, _, h2⟩ := h
  rcases h2 with h2 | h2 | h2 | h2 | h2 | h2 | h2 <;> first | exact h2.2 | omega
theorem sok_7 {C : Core} {n : Nat} {w : Bool} {e : CS} (h : e.ok C n w) (hk : e.kind = 7) : e.es.length = 0 ∨ e.es.length = 1 := by
  cases e with
  | mk k sl z es thn els =>
  rw [CS.ok] at h
  simp only [CS.kind] at hk
  simp only [CS.es]
  obtain ⟨_, _, _, h2⟩ := h
  rcases h2 with h2 | h2 | h2 | h2 | h2 | h2 | h2
  · omega
  · omega
  · omega
  · omega
  · omega
  · omega
  · rcases h2.2 with e | e
    · exact .inl (by rw [e]; rfl)
    · exact .inr e.1
theorem sok_esL {C : Core} {n : Nat} {w : Bool} {e : CS} (h : e.ok C n w) : CE.okL C n e.es := by cases e; rw [CS.ok] at h; exact h.1
section
variable {C : Core} {w : Bool} {e : CS} {x : CE} {b : Bd}
def elseB (C : Core) (w : Bool) (els : List CS) (b1 : Bd) : Bd := if els = [] then b1.opened.opened else b1.opened.opened.opened.inside (b1.blocks.length + 2) (b1.blocks.length + 1) fun x => CS.buildL C w els x
def elseN (els : List CS) (b1 : Bd) : Nat := if els = [] then b1.blocks.length + 1 else b1.blocks.length + 2
theorem sbk4 (hk : e.kind = 4) (hl : e.es.length = 1) (hx : e.es[0]? = some x) : e.build C w b = (((elseB C w e.els (x.build C 0 b)).fork 0 (x.build C 0 b).blocks.length (elseN e.els (x.build C 0 b))).inside (x.build C 0 b).blocks.length ((x.build C 0 b).blocks.length + 1) fun z => CS.buildL C w e.thn z).go ((x.build C 0 b).blocks.length + 1) := by
  cases e with
  | mk k s z es thn els =>
  simp only [CS.kind] at hk
  subst hk
  have := kids_one hl hx
  simp only [CS.es] at this
  subst this
  rw [CS.build, if_neg (by decide), if_neg (by decide), if_neg (by decide), if_neg (by decide), if_neg (by decide), if_pos rfl, CE.buildL, CE.buildL]
  dsimp only
  unfold elseB elseN
  simp only [CS.els, CS.thn]
  cases els with
  | nil => rfl
  | cons a l => rfl
theorem sbk5 (hk : e.kind = 5) (hl : e.es.length = 1) (hx : e.es[0]? = some x) : e.build C w b = (((x.build C 0 ((b.opened.opened.opened.inside b.now b.blocks.length fun z => z).go b.blocks.length)).fork 0 (b.blocks.length + 1) (b.blocks.length + 2)).inside (b.blocks.length + 1) b.blocks.length fun z => CS.buildL C w e.thn z).go (b.blocks.length + 2) := by
  cases e with
  | mk k s z es thn els =>
  simp only [CS.kind] at hk
  subst hk
  have := kids_one hl hx
  simp only [CS.es] at this
  subst this
  rw [CS.build, if_neg (by decide), if_neg (by decide), if_neg (by decide), if_neg (by decide), if_neg (by decide), if_neg (by decide), if_pos rfl]
  dsimp only
  rw [CE.buildL, CE.buildL]; rfl
end
theorem bL5_free (C : Core) (w : Bool) (b : Bd) (F : Nat → AObj) : RH (bL5 C w b .free .free .free) F = RH (bL C w b) F := funext fun c => by
  by_cases hc : c < 16
  · show fam (nb _) F c = fam (nb _) F c
    rw [fam_lo _ _ hc, fam_lo _ _ hc]
    unfold nb
    congr 1
    match c with
    | 0 => rfl
    | 1 => rfl
    | 2 => rfl
    | 3 => rfl
    | 4 => rfl
    | 5 => rfl
    | 6 => rfl
    | c + 7 => rfl
  · obtain ⟨x, rfl⟩ : ∃ x, c = x + 16 := ⟨c - 16, by omega⟩
    exact (fam_hi _ _ _).trans (fam_hi _ _ _).symm
theorem kR_le {c : Nat} (h : kR 2 c = true) : kR 5 c = true := by
  rcases kR_true h with h | h
  · have : c = 2 ∨ c = 3 := by omega
    rcases this with rfl | rfl <;> rfl
  · obtain ⟨x, rfl⟩ : ∃ x, c = x + 16 := ⟨c - 16, by omega⟩
    exact kR_hi 5 x
theorem putR_less {h h' : AHeap} (hh : HSub (putR 5 hNone h) h') : HSub (putR 2 hNone h) h' := fun c o ho => by
  cases e : kR 2 c with
  | true => rw [putR_yes e] at ho; exact hh c o (by rw [putR_yes (kR_le e)]; exact ho)
  | false => rw [putR_no e] at ho; cases ho
theorem blk0_pl {b : Bd} {i : Nat} (h : b.blocks[i]? = some blk0) : Pl (b.go i) := ⟨blk0, h, rfl, rfl, rfl, rfl⟩
theorem open2_at (b : Bd) : b.opened.opened.blocks[b.blocks.length]? = some blk0 := by rw [opened_old (by rw [opened_len]; omega), opened_at]
theorem open2_at1 (b : Bd) : b.opened.opened.blocks[b.blocks.length + 1]? = some blk0 := by
  have := opened_at b.opened
  rwa [opened_len] at this
theorem open3_at (b : Bd) : b.opened.opened.opened.blocks[b.blocks.length]? = some blk0 := by rw [opened_old (by rw [opened_len, opened_len]; omega), open2_at]
theorem open3_at1 (b : Bd) : b.opened.opened.opened.blocks[b.blocks.length + 1]? = some blk0 := by rw [opened_old (by rw [opened_len, opened_len]; omega), open2_at1]
theorem open3_at2 (b : Bd) : b.opened.opened.opened.blocks[b.blocks.length + 2]? = some blk0 := by
  have := opened_at b.opened.opened
  rwa [opened_len, opened_len] at this
section
variable {C : Core} {n : Nat} {w : Bool}
theorem stmts_pl {l : List CS} (hok : CS.okL C n w l) {b : Bd} (h : Pl b) : Pl (CS.buildL C w l b) := (codes_stmts l (fun st _ => codes_stmt st.parts st (Nat.le_refl _)) hok b h).pl
theorem sokL_take : ∀ {l : List CS} (k : Nat), CS.okL C n w l → CS.okL C n w (l.take k)
  | [], k, h => by rw [List.take_nil]; exact h
  | e :: l, 0, h => trivial
  | e :: l, k + 1, h => by rw [CS.okL] at h; rw [List.take_succ_cons, CS.okL]; exact ⟨h.1, sokL_take k h.2⟩
theorem elseB_ok {els : List CS} (hok : CS.okL C n w els) {b : Bd} (h : Pl b) : (elseB C w els b).now = b.now ∧ (∃ x, (elseB C w els b).blocks[b.now]? = some x) ∧ (elseB C w els b).blocks[b.blocks.length]? = some blk0 ∧ (elseB C w els b).cnt ≤ b.cnt + 3 + 11 * CS.partsL els := by
  have hlt := h.lt
  obtain ⟨x, hx⟩ := h.cur
  unfold elseB
  by_cases he : els = []
  · rw [if_pos he]
    refine ⟨rfl, ⟨x, by rw [opened_old (by rw [opened_len]; omega), opened_old hlt]; exact hx⟩, open2_at b, ?_⟩
    rw [cnt_open, cnt_open]; omega
  · rw [if_neg he]
    have hi := inside_ok (to := b.blocks.length + 1) (f := fun z => CS.buildL C w els z) (open3_at2 b) (codes_stmts els (fun st _ => codes_stmt st.parts st (Nat.le_refl _)) hok _ (blk0_pl (open3_at2 b)))
    have hl3 : b.opened.opened.opened.blocks.length = b.blocks.length + 3 := by rw [opened_len, opened_len, opened_len]
    refine ⟨hi.now, ⟨x, ?_⟩, ?_, ?_⟩
    · rw [hi.old b.now (by omega) (by omega), opened_old (by rw [opened_len, opened_len]; omega), opened_old (by rw [opened_len]; omega), opened_old hlt]; exact hx
    · rw [hi.old b.blocks.length (by omega) (by omega), open3_at]
    · rw [cnt_inside]
      have := cnt_stmts (C := C) (w := w) (l := els) (fun e _ => cnt_stmt e.parts e (Nat.le_refl _)) (b.opened.opened.opened.go (b.blocks.length + 2))
      rw [cnt_go, cnt_open, cnt_open, cnt_open] at this
      omega
end
theorem forked_pl {q : Bd} {i v to els : Nat} (h : q.blocks[i]? = some blk0) (hn : i ≠ q.now) : Pl ((q.fork v to els).go i) := blk0_pl (by
  show (q.upd _).blocks[i]? = _
  rw [upd_ne hn]; exact h)
theorem jumped_at {q : Bd} {i to : Nat} (h : q.blocks[i]? = some blk0) (hn : i ≠ q.now) : (q.jump to).blocks[i]? = some blk0 := by
  show (q.upd _).blocks[i]? = _
  rw [upd_ne hn]; exact h
theorem bytes_eqB (a b : List UInt8) : ((⟨a.toArray⟩ : ByteArray) == ⟨b.toArray⟩) = (a == b) := by
  show (a.toArray == b.toArray) = (a == b)
  simp
structure NoI (t : Bd) (to : Int) (q : Nat × Bd × Int) : Prop where
  eq : Bd.noughtG q.1 q.2.1 q.2.2 (to - q.2.2).toNat = t
  gas : (to - q.2.2).toNat ≤ q.1
  pos : 0 < q.1
theorem chunkN_spec {n : Nat} (h : 64 < n) : 8 ≤ chunkN n ∧ chunkN n ≤ n ∧ chunkN n ≤ 4096 := by
  unfold chunkN
  have h1 : min n 4096 ≤ n := Nat.min_le_left _ _
  have h2 : min n 4096 ≤ 4096 := Nat.min_le_right _ _
  have h3 : 64 ≤ min n 4096 := by rw [Nat.le_min]; omega
  omega
theorem NoI.next {t : Bd} {to : Int} {q : Nat × Bd × Int} (h : NoI t to q) (hn : 64 < (to - q.2.2).toNat) : NoI t to (q.1 - 1, q.2.1.chunk q.2.2 (chunkN (to - q.2.2).toNat), q.2.2 + chunkN (to - q.2.2).toNat) ∧ (to - (q.2.2 + chunkN (to - q.2.2).toNat)).toNat < (to - q.2.2).toNat := by
  obtain ⟨g, b, a⟩ := q
  obtain ⟨e1, e2, e3⟩ := h
  dsimp only at e1 e2 e3 hn ⊢
  obtain ⟨c1, c2, c3⟩ := chunkN_spec hn
  have hsub : (to - (a + (chunkN (to - a).toNat : Int))).toNat = (to - a).toNat - chunkN (to - a).toNat := by omega
  cases g with
  | zero => omega
  | succ g =>
    refine ⟨⟨?_, by dsimp only; omega, by dsimp only; omega⟩, by omega⟩
    dsimp only
    rw [← e1, Bd.noughtG, if_pos hn, hsub]; rfl
theorem NoI.last {t : Bd} {to : Int} {q : Nat × Bd × Int} (h : NoI t to q) (hn : ¬ 64 < (to - q.2.2).toNat) : t = q.2.1.zeros q.2.2 (to - q.2.2).toNat := by
  obtain ⟨g, b, a⟩ := q
  obtain ⟨e1, e2, e3⟩ := h
  dsimp only at e1 e2 e3 hn ⊢
  cases g with
  | zero => omega
  | succ g => rw [← e1, Bd.noughtG, if_neg hn]
def Bd.Cur (b : Bd) : Prop := ∃ x, b.blocks[b.now]? = some x
theorem Bd.Cur.put {b : Bd} (h : b.Cur) (t : Tac) : (b.put t).Cur := by obtain ⟨x, hx⟩ := h; exact ⟨_, put_at hx⟩
theorem Bd.Cur.cnt {b : Bd} (h : b.Cur) (t : Tac) : (b.put t).cnt = b.cnt + 1 := by obtain ⟨x, hx⟩ := h; exact cnt_put t hx
theorem Bd.Cur.opened {b : Bd} (h : b.Cur) : b.opened.Cur := by
  obtain ⟨x, hx⟩ := h
  exact ⟨x, by show b.opened.blocks[b.now]? = _; rw [opened_old (List.getElem?_eq_some_iff.1 hx).1]; exact hx⟩
theorem opened_new (b : Bd) : b.opened.blocks[b.blocks.length]? = some blk0 := by
  show (b.blocks ++ [blk0])[b.blocks.length]? = _
  rw [List.getElem?_append_right (Nat.le_refl _), Nat.sub_self]; rfl
theorem cur_chunk2 {b : Bd} (h : b.Cur) : b.chunk2.Cur := by
  obtain ⟨x, hx⟩ := h
  have hlt := (List.getElem?_eq_some_iff.1 hx).1
  exact ⟨blk0, jumped_at (q := b.opened) (opened_new b) z45q⟩
theorem cnt_chunk2 (b : Bd) : b.chunk2.cnt = b.cnt + 1 := by
  unfold Bd.chunk2
  rw [cnt_go, cnt_jump, cnt_open]
theorem cur_chunk3 {b : Bd} (h : b.Cur) (l : Nat) : (b.chunk3 l).Cur := by
  obtain ⟨x, hx⟩ := h
  have hlt := (List.getElem?_eq_some_iff.1 hx).1
  obtain ⟨y, hy, _⟩ := forked_pl (q := b.opened) (v := 4) (to := l) (els := b.blocks.length) (opened_new b) z45q
  exact ⟨y, hy⟩
theorem cnt_chunk3 (b : Bd) (l : Nat) : (b.chunk3 l).cnt = b.cnt + 1 := by
  unfold Bd.chunk3
  rw [cnt_go, cnt_fork, cnt_open]
theorem cur_astores {b : Bd} (h : b.Cur) (a z : Int) : ∀ n, (b.astores a z n).Cur
  | 0 => h
  | n + 1 => (cur_astores h a z n).put _
theorem cnt_astores {b : Bd} (h : b.Cur) (a z : Int) : ∀ n, (b.astores a z n).cnt = b.cnt + n
  | 0 => rfl
  | n + 1 => by rw [Bd.astores, (cur_astores h a z n).cnt, cnt_astores h a z n]; omega
theorem cur_zeros {b : Bd} (h : b.Cur) (a : Int) : ∀ n, (b.zeros a n).Cur
  | 0 => h
  | n + 1 => (cur_zeros h a n).put _
theorem cnt_zeros {b : Bd} (h : b.Cur) (a : Int) : ∀ n, (b.zeros a n).cnt = b.cnt + n
  | 0 => rfl
  | n + 1 => by rw [Bd.zeros, (cur_zeros h a n).cnt, cnt_zeros h a n]; omega
theorem cur_chunk {b : Bd} (h : b.Cur) (a : Int) (n : Nat) : (b.chunk a n).Cur ∧ (b.chunk a n).cnt = b.cnt + 15 := by
  have h1 : (b.chunk1 n).Cur := ((h.put _).put _).put _
  have c1 : (b.chunk1 n).cnt = b.cnt + 3 := by unfold Bd.chunk1; rw [((h.put _).put _).cnt, (h.put _).cnt, h.cnt]
  have h2 := cur_chunk2 h1
  have c2 := cnt_chunk2 (b.chunk1 n)
  have h3 := cur_astores h2 a (n - 7) 8
  have c3 := cnt_astores h2 a (n - 7) 8
  have h4 := (h3.put (iBin 4 1 1 2)).put (iBin 14 4 1 3)
  have c4 := (h3.put (iBin 4 1 1 2)).cnt (iBin 14 4 1 3)
  have c5 := h3.cnt (iBin 4 1 1 2)
  refine ⟨cur_chunk3 h4 _, ?_⟩
  unfold Bd.chunk
  rw [cnt_chunk3]
  omega
structure NoW (t : Bd) (to : Int) (K : Nat) (q : Nat × Bd × Int) : Prop where
  i : NoI t to q
  cur : q.2.1.Cur
  cnt : q.2.1.cnt + (to - q.2.2).toNat ≤ K
  a0 : 0 ≤ q.2.2
  a1 : q.2.2 ≤ to
theorem NoW.next {t : Bd} {to : Int} {K : Nat} {q : Nat × Bd × Int} (h : NoW t to K q) (hn : 64 < (to - q.2.2).toNat) : NoW t to K (q.1 - 1, q.2.1.chunk q.2.2 (chunkN (to - q.2.2).toNat), q.2.2 + chunkN (to - q.2.2).toNat) := by
  have h1 := h.i.next hn
  have h2 := cur_chunk h.cur q.2.2 (chunkN (to - q.2.2).toNat)
  have h3 := chunkN_ok hn
  have h4 := h.cnt
  have h5 := h.a0
  have h6 := h.a1
  refine ⟨h1.1, h2.1, ?_, ?_, ?_⟩ <;> dsimp only
  · rw [h2.2]; omega
  · omega
  · omega
theorem NoW.first {b : Bd} (h : b.Cur) {a to : Int} (ha : 0 ≤ a) (hto : a < to) : NoW (b.nought a (to - a).toNat) to (b.cnt + 1 + (to - a).toNat) ((to - a).toNat, b.put (iNum 0 0), a) :=
  ⟨⟨by unfold Bd.nought; rw [if_neg (by omega)], Nat.le_refl _, by show 0 < (to - a).toNat; omega⟩, h.put _, by show (b.put (iNum 0 0)).cnt + _ ≤ _; rw [h.cnt]; exact Nat.le_refl _, ha, by show a ≤ to; omega⟩
theorem cnt_nought {b : Bd} (h : b.Cur) {a : Int} (n : Nat) : (b.nought a n).cnt ≤ b.cnt + 1 + n ∧ (b.nought a n).Cur := by
  unfold Bd.nought
  by_cases hn : n = 0
  · rw [if_pos hn]; exact ⟨by omega, h⟩
  · rw [if_neg hn]
    have key : ∀ (g : Nat) (b : Bd) (a : Int) (n : Nat), b.Cur → (Bd.noughtG g b a n).cnt ≤ b.cnt + n ∧ (Bd.noughtG g b a n).Cur := fun g => by
      induction g with
      | zero => intro b a n h; rw [Bd.noughtG]; exact ⟨by omega, h⟩
      | succ g ih =>
        intro b a n h
        rw [Bd.noughtG]
        by_cases h64 : 64 < n
        · rw [if_pos h64]
          have h1 := cur_chunk h a (chunkN n)
          have h2 := ih _ (a + chunkN n) (n - chunkN n) h1.1
          have h3 := chunkN_ok h64
          exact ⟨by omega, h2.2⟩
        · rw [if_neg h64]
          exact ⟨by rw [cnt_zeros h]; exact Nat.le_refl _, cur_zeros h a n⟩
    have h1 := key n (b.put (iNum 0 0)) a n (h.put _)
    rw [h.cnt] at h1
    exact h1
def Bd.wd (b : Bd) : Prop := ∀ x ∈ b.blocks, insW x.ins
theorem wd_upd {b : Bd} (h : b.wd) {g : Block → Block} (hg : ∀ x, (g x).ins = x.ins) : (b.upd g).wd := fun y hy => by
  rcases mem_modify hy with ⟨x, hx, rfl⟩ | hy
  · rw [hg]; exact h x (List.mem_of_getElem? hx)
  · exact h y hy
theorem wd_put {b : Bd} (h : b.wd) {t : Tac} (ht : isW t.n) : (b.put t).wd := fun y hy => by
  rcases mem_modify (b := b) (g := fun x => x.mid (x.ins ++ [t])) hy with ⟨x, hx, rfl⟩ | hy
  · intro u hu
    have hu : u ∈ x.ins ++ [t] := hu
    rcases List.mem_append.1 hu with hu | hu
    · exact h x (List.mem_of_getElem? hx) u hu
    · rw [List.mem_singleton] at hu; subst hu; exact ht
  · exact h y hy
theorem wd_put0 {b : Bd} (h : b.wd) {t : Tac} (ht : t.n = 0) : (b.put t).wd := wd_put h (by rw [ht]; exact isW_zero)
theorem wd_open {b : Bd} (h : b.wd) : b.opened.wd := fun y hy => by
  have hy : y ∈ b.blocks ++ [blk0] := hy
  rcases List.mem_append.1 hy with hy | hy
  · exact h y hy
  · rw [List.mem_singleton] at hy; subst hy; intro t ht; cases ht
theorem wd_go {b : Bd} (h : b.wd) (n : Nat) : (b.go n).wd := h
theorem wd_jump {b : Bd} (h : b.wd) (to : Nat) : (b.jump to).wd := wd_upd (g := fun x => { x with fin := 1, to := (to : Int) }) h fun _ => rfl
theorem wd_fork {b : Bd} (h : b.wd) (v to els : Nat) : (b.fork v to els).wd := wd_upd (g := fun x => { x with fin := 2, v := (v : Int), to := (to : Int), els := (els : Int) }) h fun _ => rfl
theorem wd_ret {b : Bd} (h : b.wd) : b.ret.wd := wd_upd (g := fun x => { x with fin := 3 }) h fun _ => rfl
theorem wd_inside {b : Bd} (h : b.wd) (i to : Nat) {f : Bd → Bd} (hf : ∀ c, Bd.wd c → (f c).wd) : (b.inside i to f).wd := wd_go (wd_jump (hf _ (wd_go h i)) to) _
theorem wd_args {b : Bd} (h : b.wd) (first : Int) (d : Nat) : ∀ n, (b.args first d n).wd
  | 0 => h
  | n + 1 => wd_put0 (wd_args h first d n) rfl
theorem wd_called {b : Bd} (h : b.wd) (C : Core) (g : Int) (n d : Nat) : (b.called C g n d).wd := wd_put0 (wd_args h _ d n) rfl
theorem wd_not {b : Bd} (h : b.wd) (d : Nat) : (b.not d).wd := wd_put0 (wd_put0 h rfl) rfl
theorem wd_truth {b : Bd} (h : b.wd) (e : CE) (d : Nat) : (b.truth e d).wd := by
  unfold Bd.truth
  cases e.flagged with
  | true => exact h
  | false => exact wd_put0 (wd_not h d) rfl
theorem wd_either0 {b : Bd} (h : b.wd) (k : Int) (d : Nat) : (b.either0 k d).wd := by
  unfold Bd.either0
  cases k == 8 with
  | true => exact wd_fork (wd_open (wd_open h)) _ _ _
  | false => exact wd_fork (wd_open (wd_open h)) _ _ _
section
variable {C : Core}
theorem wd_exprs {l : List CE} (hI : ∀ e ∈ l, ∀ d b, Bd.wd b → (e.build C d b).wd) : ∀ (d : Nat) (b : Bd), b.wd → (CE.buildL C l d b).wd := by
  induction l with
  | nil => intro d b h; rw [CE.buildL]; exact h
  | cons e l ih =>
    intro d b h
    rw [CE.buildL]
    exact ih (fun x hx => hI x (List.mem_cons.2 (.inr hx))) (d + 1) _ (hI e (List.mem_cons.2 (.inl rfl)) d b h)
theorem wd_expr : ∀ (m : Nat) (e : CE), e.parts ≤ m → e.Ok → ∀ d b, Bd.wd b → (e.build C d b).wd
  | 0, e, hm, _ => absurd hm (by have := parts_kids e; omega)
  | m + 1, .mk k o n s z kids, hm, hk => by
    rw [CE.parts] at hm
    cases hk with
    | mk _ _ hn _ _ _ hks =>
    have hI : ∀ e ∈ kids, ∀ d b, Bd.wd b → (e.build C d b).wd := fun e he => wd_expr m e (by have := parts_mem he; omega) (hks e he)
    intro d b h
    have hL := wd_exprs hI d b h
    rw [CE.build]
    by_cases k1 : k = 1
    · rw [if_pos k1]; exact wd_put h hn
    rw [if_neg k1]
    by_cases k2 : k = 2
    · rw [if_pos k2]; exact wd_put0 h rfl
    rw [if_neg k2]
    by_cases k3 : k = 3
    · rw [if_pos k3]; exact wd_put0 hL rfl
    rw [if_neg k3]
    by_cases k4 : k = 4
    · rw [if_pos k4]; exact wd_put0 (wd_called hL C _ _ _) rfl
    rw [if_neg k4]
    by_cases k5 : k = 5
    · rw [if_pos k5]; exact wd_put0 h rfl
    rw [if_neg k5]
    by_cases k6 : k = 6
    · rw [if_pos k6]; exact wd_put0 hL rfl
    rw [if_neg k6]
    by_cases k7 : k = 7
    · rw [if_pos k7]; exact wd_not hL d
    rw [if_neg k7]
    by_cases k8 : k = 8 ∨ k = 9
    · rw [if_pos k8]
      cases kids with
      | nil => rw [CE.buildE]; exact h
      | cons e l =>
        have h1 := wd_truth (hI e (List.mem_cons.2 (.inl rfl)) d b h) e d
        rw [CE.buildE]
        cases l with
        | nil => rw [CE.buildR]; exact h1
        | cons y l =>
          rw [CE.buildR]
          exact wd_go (wd_inside (wd_either0 h1 k d) _ _ fun c hc => wd_truth (hI y (List.mem_cons.2 (.inr (List.mem_cons.2 (.inl rfl)))) d c hc) y d) _
    · rw [if_neg k8]; exact h
end
theorem wd_leave {b : Bd} (h : b.wd) (C : Core) (w : Bool) : (b.leave C w).wd := by
  unfold Bd.leave
  cases w with
  | true => exact wd_ret (wd_put0 (wd_put0 h rfl) rfl)
  | false => exact wd_ret h
theorem wd_next {b : Bd} (h : b.wd) : b.next.wd := wd_go (wd_open h) _
section
variable {C : Core} {w : Bool}
theorem wd_stmts {l : List CS} (hI : ∀ e ∈ l, ∀ b, Bd.wd b → (e.build C w b).wd) : ∀ (b : Bd), b.wd → (CS.buildL C w l b).wd := by
  induction l with
  | nil => intro b h; rw [CS.buildL]; exact h
  | cons e l ih =>
    intro b h
    rw [CS.buildL]
    exact ih (fun x hx => hI x (List.mem_cons.2 (.inr hx))) _ (hI e (List.mem_cons.2 (.inl rfl)) b h)
theorem wd_stmt : ∀ (m : Nat) (e : CS), e.parts ≤ m → e.Ok → ∀ b, Bd.wd b → (e.build C w b).wd
  | 0, e, hm, _ => absurd hm (by have := sparts_es e; omega)
  | m + 1, .mk k s z es thn els, hm, hk => by
    rw [CS.parts] at hm
    cases hk with
    | mk _ _ _ _ hes _ hth _ hel =>
    have hT : ∀ b, Bd.wd b → (CS.buildL C w thn b).wd := wd_stmts fun e he => wd_stmt m e z32q (hth e he)
    have hL : ∀ b, Bd.wd b → (CS.buildL C w els b).wd := wd_stmts fun e he => wd_stmt m e z33q (hel e he)
    have hE : ∀ b, Bd.wd b → (CE.buildL C es 0 b).wd := fun b h => wd_exprs (fun e he => wd_expr e.parts e (Nat.le_refl _) (hes e he)) 0 b h
    intro b h
    have h1 := hE b h
    rw [CS.build]
    by_cases k1 : k = 1
    · rw [if_pos k1]; exact wd_put0 h1 rfl
    rw [if_neg k1]
    by_cases k2 : k = 2
    · rw [if_pos k2]; exact wd_put0 h1 rfl
    rw [if_neg k2]
    by_cases k3 : k = 3
    · rw [if_pos k3]; exact wd_put0 h1 rfl
    rw [if_neg k3]
    by_cases k6 : k = 6
    · rw [if_pos k6]; exact wd_called h1 C _ _ _
    rw [if_neg k6]
    by_cases k7 : k = 7
    · rw [if_pos k7]
      by_cases he : es = []
      · rw [if_pos he]; exact wd_next (wd_leave h C w)
      · rw [if_neg he]; exact wd_next (wd_put0 h1 rfl)
    rw [if_neg k7]
    by_cases k4 : k = 4
    · rw [if_pos k4]
      dsimp only
      by_cases he : els = []
      · rw [if_pos he]
        exact wd_go (wd_inside (wd_fork (wd_open (wd_open h1)) _ _ _) _ _ hT) _
      · rw [if_neg he]
        exact wd_go (wd_inside (wd_fork (wd_inside (wd_open (wd_open (wd_open h1))) _ _ hL) _ _ _) _ _ hT) _
    rw [if_neg k4]
    by_cases k5 : k = 5
    · rw [if_pos k5]
      dsimp only
      exact wd_go (wd_inside (wd_fork (hE _ (wd_go (wd_inside (wd_open (wd_open (wd_open h))) _ _ fun _ h => h) _)) _ _ _) _ _ hT) _
    · rw [if_neg k5]; exact h
end
theorem wd_zeros {b : Bd} (h : b.wd) (a : Int) : ∀ n, (b.zeros a n).wd
  | 0 => h
  | n + 1 => wd_put0 (wd_zeros h a n) rfl
theorem wd_astores {b : Bd} (h : b.wd) (a z : Int) : ∀ n, (b.astores a z n).wd
  | 0 => h
  | n + 1 => wd_put0 (wd_astores h a z n) rfl
theorem wd_chunk {b : Bd} (h : b.wd) (a : Int) {n : Nat} (hn : n ≤ 4096) : (b.chunk a n).wd := by
  have h1 : (b.chunk1 n).wd := wd_put (wd_put (wd_put0 h rfl) (by exact ⟨by decide, by decide⟩)) (by show isW (n : Int); exact ⟨by omega, by omega⟩)
  exact wd_go (wd_fork (wd_open (wd_put0 (wd_put0 (wd_astores (wd_go (wd_jump (wd_open h1) _) _) a _ 8) rfl) rfl)) _ _ _) _
theorem wd_noughtG : ∀ (g : Nat) {b : Bd} (h : b.wd) (a : Int) (n : Nat), (Bd.noughtG g b a n).wd
  | 0, b, h, a, n => by rw [Bd.noughtG]; exact h
  | g + 1, b, h, a, n => by
    rw [Bd.noughtG]
    by_cases h64 : 64 < n
    · rw [if_pos h64]; exact wd_noughtG g (wd_chunk h a (chunkN_ok h64).2.2.1) _ _
    · rw [if_neg h64]; exact wd_zeros h a n
theorem wd_nought {b : Bd} (h : b.wd) (a : Int) (n : Nat) : (b.nought a n).wd := by
  unfold Bd.nought
  by_cases hn : n = 0
  · rw [if_pos hn]; exact h
  · rw [if_neg hn]; exact wd_noughtG n (wd_put0 h rfl) a n
theorem wd0 : bd0.wd := fun x hx => by
  have hx : x ∈ [blk0] := hx
  rw [List.mem_singleton] at hx; subst hx; intro t ht; cases ht
theorem wd_fn {C : Core} {fn : CFn} (h : fn.Ok) (last : Bool) : (fnBd C fn last).wd := by
  unfold fnBd
  refine wd_leave (wd_stmts (fun e he => wd_stmt e.parts e (Nat.le_refl _) (h.body e he)) _ ?_) C fn.word
  cases last with
  | true => exact wd0
  | false => exact wd_nought wd0 _ _
theorem cnt0 : bd0.cnt = 1 := rfl
theorem cur0 : bd0.Cur := ⟨_, rfl⟩
theorem cnt_fn (C : Core) (fn : CFn) (last : Bool) {n : Nat} (hn : (fn.slots - fn.params).toNat ≤ n) : (fnBd C fn last).cnt ≤ 11 * CS.partsL fn.body + n + 4 := by
  unfold fnBd
  have h1 := cnt_leave (CS.buildL C fn.word fn.body (bif last then bd0 else bd0.nought (fn.first + fn.params) (fn.slots - fn.params).toNat)) C fn.word
  have h2 := cnt_stmts (C := C) (w := fn.word) (l := fn.body) (fun e _ => cnt_stmt e.parts e (Nat.le_refl _)) (bif last then bd0 else bd0.nought (fn.first + fn.params) (fn.slots - fn.params).toNat)
  have h3 : (bif last then bd0 else bd0.nought (fn.first + fn.params) (fn.slots - fn.params).toNat).cnt ≤ 2 + n := by
    cases last with
    | true => show bd0.cnt ≤ _; rw [cnt0]; omega
    | false =>
      have := (cnt_nought cur0 (a := fn.first + fn.params) (fn.slots - fn.params).toNat).1
      rw [cnt0] at this
      show (bd0.nought _ _).cnt ≤ _
      omega
  omega
theorem build_insW {C : Core} (h : C.Ok) : C.build.insW := fun f hf x hx => by
  obtain ⟨i, hi⟩ := List.mem_iff_getElem?.1 hf
  obtain ⟨fn, h1, rfl⟩ := build_of hi
  exact wd_fn (h.funcs fn (List.mem_of_getElem? h1)) _ x hx
theorem build_ins {C : Core} {N : Nat} (hN : ∀ fn ∈ C.funcs, 11 * CS.partsL fn.body + (fn.slots - fn.params).toNat + 4 ≤ N) : ∀ f ∈ C.build.funcs, ∀ x ∈ f.blocks, x.ins.length ≤ N := fun f hf x hx => by
  obtain ⟨i, hi⟩ := List.mem_iff_getElem?.1 hf
  obtain ⟨fn, h1, rfl⟩ := build_of hi
  obtain ⟨j, hj⟩ := List.mem_iff_getElem?.1 hx
  have h2 := cnt_ins (b := fnBd C fn (i + 1 == C.funcs.length)) hj
  have h3 := cnt_fn C fn (i + 1 == C.funcs.length) (Nat.le_refl (fn.slots - fn.params).toNat)
  have h4 := hN fn (List.mem_of_getElem? h1)
  omega
def Rs (fuel : Int) (c c' : CM) : Prop := (c.m.steps : Int) ≤ max fuel 0 → (c'.m.steps : Int) ≤ max fuel 0
theorem Rs.refl (fuel : Int) (c : CM) : Rs fuel c c := fun h => h
theorem Rs.trans {fuel : Int} {a b c : CM} (h1 : Rs fuel a b) (h2 : Rs fuel b c) : Rs fuel a c := fun h => h2 (h1 h)
section
variable {fuel : Int} {call : CallC} {s : ByteArray}
end
structure Lit (C : Core) : Prop where
  ok : C.Ok
  fit : CoreFit C
  r : C.right = true
  parts : C.parts ≤ 300
  w0 : 0 ≤ C.words
  w1 : C.words ≤ 400
theorem little_lit {C : Core} (hC : C.Ok) (h : C.little = true) : Lit C := by
  unfold Core.little at h
  rw [Bool.and_eq_true] at h
  have h2 : C.words ≤ 400 := of_decide_eq_true h.2
  have hf := fair_fit hC (by decide) (by decide) h.1
  have h1 := h.1
  unfold Core.fair at h1
  simp only [Bool.and_eq_true, decide_eq_true_eq] at h1
  have hp := few_parts (by decide) h1.1
  exact ⟨hC, hf, h1.2.2, by omega, (right_core h1.2.2).w0, h2⟩
theorem Lit.k {C : Core} (h : Lit C) : C.k ≤ 5608 := by
  have h1 := h.parts
  have h2 := h.w0
  have h3 := h.w1
  unfold Core.k
  omega
theorem Lit.ins {C : Core} (h : Lit C) : ∀ f ∈ C.build.funcs, ∀ x ∈ f.blocks, x.ins.length ≤ 5000 := build_ins fun fn hf => by
  have h1 := parts_body hf
  have h2 := h.parts
  obtain ⟨f1, f2, f3, f4, f5⟩ := (right_core h.r).fn fn hf
  have h3 := h.w1
  omega
section
variable {P : Program} {T : Nat → Option TyI} {o : Oper} {e : AEnv} {h : AHeap}
theorem q_min {t t' : TypeId} {x y : Operand} {k k' : IntKind} {m n : Int} (ho : o.op = .call { callee := .builtin .min, args := #[x, y], argTypes := #[t, t'] }) (hx : look e x = some (.int k m)) (hy : look e y = some (.int k' n)) : QLoc P o e h [] (.int k (min m n)) := by
  intro H ι a w s hs h1 h2
  have hx' : look s.env x = some (.int k m) := by rw [h1 x z43q, hx]
  have hy' : look s.env y = some (.int k' n) := by rw [h1 y z43q, hy]
  have hvx := (look_rel hs hx').int_inv
  have hvy := (look_rel hs hy').int_inv
  refine ⟨.int k (min m n), .int _ _ _, ?_⟩
  have e1 : (if n < m then n else m) = min m n := by
    rw [Int.min_def]
    split <;> split <;> omega
  have key : (Builtin.min_ #[t, t'] o.type #[.int k m, .int k' n]).run P w = .ok (.int k (min m n)) w := by
    show (List.foldlM Builtin.min2 (Value.int k m) [Value.int k' n]).run P w = _
    simp only [List.foldlM, Builtin.min2, Sem.run_bind, Sem.run_pure, Result.andThen_ok, e1]
  simp only [execOp, ho, resolve, invoke, builtin, Sem.run_bind, Sem.run_pure, Result.andThen_ok, List.map_toArray, List.map_cons, List.map_nil, hvx, hvy, key]
end
theorem chunk_quo {x : Int} (h : 64 < x.toNat) : evalBin .quo (.int .i64 (min x 4096)) (.int .i64 8) = some (.int .i64 ((min x.toNat 4096 / 8 : Nat) : Int)) := by
  have e : min x 4096 = ((min x.toNat 4096 : Nat) : Int) := by omega
  rw [e]
  refine ebin_quo (b := 8) (by decide) (wrap_i64 (by omega) (by omega))
theorem chunk_mul {x : Nat} : evalBin .mul (.int .i64 ((min x 4096 / 8 : Nat) : Int)) (.int .i64 8) = some (.int .i64 (chunkN x : Int)) := by
  simp only [evalBin, evalInt, isShift, cond_false, if_true]
  rw [wrap_i64 (by omega) (by omega)]
  unfold chunkN
  congr 2
theorem nought_nil (b : Bd) (a : Int) {n : Nat} (h : n = 0) : b.nought a n = b := by unfold Bd.nought; rw [if_pos h]
theorem Mach.Le.trans {a b c : Mach} (h1 : a.Le b) (h2 : b.Le c) : a.Le c := ⟨h2.words.trans h1.words, h2.out.trans h1.out, h2.read.trans h1.read, h2.fin.trans h1.fin, Nat.le_trans h2.steps h1.steps⟩
theorem Mach.Sim.trans {a b c : Mach} (h1 : a.Sim b) (h2 : b.Sim c) : a.Sim c := by
  rcases h1 with h1 | h1
  · exact .inl h1
  · rcases h2 with h2 | h2
    · exact .inl (h1.fin.symm.trans h2)
    · exact .inr (h1.trans h2)
section
variable {call call' : Int → Mach → Mach} {s : ByteArray} {fuel : Int}
def Tac.low (t : Tac) : Prop := (setsOp t.op = true → 0 ≤ t.d) ∧ (use1 t.op = true ∨ use2 t.op = true → 0 ≤ t.a) ∧ (use2 t.op = true → 0 ≤ t.b)
structure Fine (ok : Int → Prop) (f : BFunc) : Prop where
  ins : ∀ x ∈ f.blocks, ∀ t ∈ x.ins, (t.op = 10 → ok t.base) ∧ t.low ∧ (t.op = 3 → 4 ≤ t.k ∧ t.k ≤ 15)
  fin : ∀ x ∈ f.blocks, (x.fin = 1 ∨ x.fin = 2 ∨ x.fin = 3) ∧ (x.fin = 2 → 0 ≤ x.v)
end
structure BFunc.sane (f : BFunc) : Prop where
  regs : 0 ≤ f.regs
  low : ∀ x ∈ f.blocks, ∀ t ∈ x.ins, t.inR f.regs
  fin : ∀ x ∈ f.blocks, x.fin = 2 → 0 ≤ x.v ∧ x.v < f.regs
  next : ∀ x ∈ f.blocks, ∀ d ∈ x.nexts, 0 ≤ d ∧ d < f.blocks.length
abbrev BB := Nat → Nat → Bool
def SoundI (f : BFunc) (I : BB) : Prop := ∀ b v, I b v = true → LiveIn f v b
def SoundO (f : BFunc) (O : BB) : Prop := ∀ b v, O b v = true → ∃ x, f.blocks[b]? = some x ∧ outB f x v = true
def ClosedAt (f : BFunc) (R : Nat) (I O : BB) (b : Nat) : Prop := ∀ x, f.blocks[b]? = some x → ∀ v, v < R → (∀ d ∈ x.nexts, I d.toNat v = true → O b v = true) ∧ (need v x.ins (endz x v || O b v) = true → I b v = true)
def falses (n R : Nat) (I : BB) : Nat := ((List.range n).map fun b => ((List.range R).map fun v => if I b v then 0 else 1).sum).sum
def putBB (I : BB) (b v : Nat) (z : Bool) : BB := fun b' v' => if b' = b ∧ v' = v then z else I b' v'
theorem sum_lt {n : Nat} {p q : Nat → Nat} (h : ∀ k, k < n → p k ≤ q k) {j : Nat} (hj : j < n) (hlt : p j < q j) : ((List.range n).map p).sum < ((List.range n).map q).sum := by
  induction n with
  | zero => omega
  | succ n ih =>
    rw [List.range_succ, List.map_append, List.map_append, List.sum_append, List.sum_append]
    simp only [List.map_cons, List.map_nil, List.sum_cons, List.sum_nil]
    have hle : ∀ m, m ≤ n → ((List.range m).map p).sum ≤ ((List.range m).map q).sum := by
      intro m
      induction m with
      | zero => intro _; exact Nat.le_refl _
      | succ m im =>
        intro hm
        rw [List.range_succ, List.map_append, List.map_append, List.sum_append, List.sum_append]
        simp only [List.map_cons, List.map_nil, List.sum_cons, List.sum_nil]
        have := im (by omega); have := h m (by omega); omega
    have h1 := h n (by omega)
    by_cases hjn : j = n
    · subst hjn; have := hle j (Nat.le_refl _); omega
    · have := ih (fun k hk => h k (by omega)) (by omega); omega
theorem falses_put {n R : Nat} {I : BB} {b v : Nat} (hb : b < n) (hv : v < R) (h : I b v = false) : falses n R (putBB I b v true) < falses n R I := by
  unfold falses
  have hp : ∀ b' v', (if putBB I b v true b' v' then 0 else 1) ≤ (if I b' v' then 0 else 1 : Nat) := fun b' v' => by
    unfold putBB
    split
    · simp
    · split <;> simp_all
  have hsum : ∀ (m : Nat) (p q : Nat → Nat), (∀ k, p k ≤ q k) → ((List.range m).map p).sum ≤ ((List.range m).map q).sum := fun m p q hpq => by
    induction m with
    | zero => exact Nat.le_refl _
    | succ m im =>
      rw [List.range_succ, List.map_append, List.map_append, List.sum_append, List.sum_append]
      simp only [List.map_cons, List.map_nil, List.sum_cons, List.sum_nil]
      have := hpq m; omega
  refine sum_lt (fun k _ => hsum R _ _ (hp k)) hb ?_
  refine sum_lt (fun k _ => hp b k) hv ?_
  unfold putBB
  simp [h]
theorem soundO_put {f : BFunc} {I O : BB} (hI : SoundI f I) (hO : SoundO f O) {b v : Nat} {x : Block} {d : Int} (hx : f.blocks[b]? = some x) (hd : d ∈ x.nexts) : SoundO f (putBB O b v (O b v || I d.toNat v)) := by
  intro b' v' h
  unfold putBB at h
  split at h
  · rename_i e
    obtain ⟨rfl, rfl⟩ := e
    rw [Bool.or_eq_true] at h
    rcases h with h | h
    · exact hO _ _ h
    · exact ⟨x, hx, outB_iff.2 ⟨d, hd, hI _ _ h⟩⟩
  · exact hO _ _ h
theorem soundI_put {f : BFunc} {I : BB} (hI : SoundI f I) {b v : Nat} (h : LiveIn f v b) : SoundI f (putBB I b v true) := by
  intro b' v' h'
  unfold putBB at h'
  split at h'
  · rename_i e
    obtain ⟨rfl, rfl⟩ := e
    exact h
  · exact hI _ _ h'
section
variable {P : Program} {T : Nat → Option TyI} {o : Oper} {e : AEnv} {h : AHeap}
end
def outerC (q n R : Nat) : List (List AV) := (List.range n).map fun b => [AV.ref (2 * b + q + 16) R 0 R]
theorem outerC_avoid (k0 q n R : Nat) : (AObj.row false 1 (outerC q n R)).avoid (kf k0) = true := by
  simp only [AObj.avoid, List.all_eq_true]
  intro cs h
  unfold outerC at h
  obtain ⟨b, _, rfl⟩ := List.mem_map.1 h
  intro x hx
  simp only [List.mem_singleton] at hx
  subst hx
  exact kf_hi _ _
theorem putBB_row (I : BB) (b v : Nat) (z : Bool) : putBB I b v z b = fun u => if u = v then z else I b u := by
  funext u; unfold putBB; simp
theorem putBB_ne {I : BB} {b b' : Nat} (v : Nat) (z : Bool) (h : b' ≠ b) : putBB I b v z b' = I b' := by
  funext u; unfold putBB; simp [h]
def b2n (b : Bool) : Nat := bif b then 1 else 0
structure RG where
  I : BB
  O : BB
  more : Bool
structure RInv (f : BFunc) (R : Nat) (g : RG) : Prop where
  si : SoundI f g.I
  so : SoundO f g.O
  cl : g.more = false → ∀ b, b < f.blocks.length → ClosedAt f R g.I g.O b
theorem RInv.first (f : BFunc) (R : Nat) : RInv f R ⟨fun _ _ => false, fun _ _ => false, true⟩ := ⟨fun _ _ h => (by cases h), fun _ _ h => (by cases h), fun h => (by cases h)⟩
def rmu (f : BFunc) (R : Nat) (g : RG) : Nat := falses f.blocks.length R g.I + b2n g.more
structure MInv (f : BFunc) (R B : Nat) (g : RG) (k : Nat) : Prop where
  si : SoundI f g.I
  so : SoundO f g.O
  kn : k ≤ f.blocks.length
  cl : g.more = false → ∀ b, k ≤ b → b < f.blocks.length → ClosedAt f R g.I g.O b
  bud : falses f.blocks.length R g.I + b2n g.more ≤ B
theorem MInv.first {f : BFunc} {R : Nat} {g : RG} (h : RInv f R g) : MInv f R (falses f.blocks.length R g.I) ⟨g.I, g.O, false⟩ f.blocks.length :=
  ⟨h.si, h.so, Nat.le_refl _, fun _ b h1 h2 => absurd h1 (by omega), Nat.le_refl _⟩
theorem MInv.last {f : BFunc} {R : Nat} {g g' : RG} (hm : g.more = true) (h : MInv f R (falses f.blocks.length R g.I) g' 0) : RInv f R g' ∧ rmu f R g' < rmu f R g := by
  refine ⟨⟨h.si, h.so, fun e b hb => h.cl e b (Nat.zero_le _) hb⟩, ?_⟩
  have := h.bud
  unfold rmu
  rw [hm]
  show _ < _ + 1
  omega
structure OInv (f : BFunc) (R : Nat) (I O0 : BB) (b : Nat) (x : Block) (O : BB) (j v : Nat) : Prop where
  so : SoundO f O
  ne : ∀ b', b' ≠ b → O b' = O0 b'
  js : ∀ j', j' < j → ∀ d, x.nexts[j']? = some d → ∀ u, u < R → I d.toNat u = true → O b u = true
  vs : ∀ d, x.nexts[j]? = some d → ∀ u, u < v → I d.toNat u = true → O b u = true
theorem OInv.first {f : BFunc} {R : Nat} {I O : BB} {b : Nat} {x : Block} (h : SoundO f O) : OInv f R I O b x O 0 0 := ⟨h, fun _ _ => rfl, fun _ h => absurd h (by omega), fun _ _ _ h => absurd h (by omega)⟩
theorem OInv.step {f : BFunc} {R : Nat} {I O0 : BB} {b : Nat} {x : Block} {O : BB} {j v : Nat} (hI : SoundI f I) (hx : f.blocks[b]? = some x) {d : Int} (hd : x.nexts[j]? = some d) (h : OInv f R I O0 b x O j v) : OInv f R I O0 b x (putBB O b v (O b v || I d.toNat v)) j (v + 1) := by
  have hmono : ∀ u, O b u = true → putBB O b v (O b v || I d.toNat v) b u = true := fun u hu => by
    rw [putBB_row]
    show (if u = v then _ else _) = true
    by_cases e : u = v
    · subst e; rw [if_pos rfl, hu]; rfl
    · rw [if_neg e]; exact hu
  refine ⟨soundO_put hI h.so hx (List.mem_of_getElem? hd), fun b' hb => by rw [putBB_ne _ _ hb]; exact h.ne b' hb, fun j' hj d' hd' u hu hi => hmono u (h.js j' hj d' hd' u hu hi), fun d' hd' u hu hi => ?_⟩
  rw [hd] at hd'; cases hd'
  by_cases e : u = v
  · subst e
    rw [putBB_row]
    show (if u = u then _ else _) = true
    rw [if_pos rfl, hi, Bool.or_true]
  · exact hmono u (h.vs d hd u (by omega) hi)
theorem OInv.next {f : BFunc} {R : Nat} {I O0 : BB} {b : Nat} {x : Block} {O : BB} {j v : Nat} (h : OInv f R I O0 b x O j v) (hv : R ≤ v) : OInv f R I O0 b x O (j + 1) 0 := by
  refine ⟨h.so, h.ne, fun j' hj d hd u hu hi => ?_, fun _ _ _ hu => absurd hu (by omega)⟩
  by_cases e : j' = j
  · subst e; exact h.vs d hd u (by omega) hi
  · exact h.js j' (by omega) d hd u hu hi
structure AInv (f : BFunc) (R B : Nat) (g : RG) (b : Nat) (p : Nat → Bool) (I : BB) (more : Bool) (v : Nat) : Prop where
  si : SoundI f I
  ms : more = false → g.more = false ∧ I = g.I
  bud : falses f.blocks.length R I + b2n more ≤ B
  us : ∀ u, u < v → p u = true → I b u = true
theorem AInv.first {f : BFunc} {R B : Nat} {g : RG} {k b : Nat} {p : Nat → Bool} (h : MInv f R B g k) : AInv f R B g b p g.I g.more 0 := ⟨h.si, fun e => ⟨e, rfl⟩, h.bud, fun _ h => absurd h (by omega)⟩
theorem AInv.skip {f : BFunc} {R B : Nat} {g : RG} {b : Nat} {p : Nat → Bool} {I : BB} {more : Bool} {v : Nat} (h : AInv f R B g b p I more v) (hp : (p v && !I b v) = false) : AInv f R B g b p I more (v + 1) := by
  refine ⟨h.si, h.ms, h.bud, fun u hu e => ?_⟩
  by_cases eu : u = v
  · subst eu
    rw [e] at hp
    simpa using hp
  · exact h.us u (by omega) e
theorem AInv.put {f : BFunc} {R B : Nat} {g : RG} {b : Nat} {p : Nat → Bool} {I : BB} {more : Bool} {v : Nat} (h : AInv f R B g b p I more v) (hp : (p v && !I b v) = true) (hb : b < f.blocks.length) (hv : v < R) (hl : p v = true → LiveIn f v b) : AInv f R B g b p (putBB I b v true) true (v + 1) := by
  simp only [Bool.and_eq_true, Bool.not_eq_true'] at hp
  have hf := falses_put (I := I) hb hv hp.2
  refine ⟨soundI_put h.si (hl hp.1), (fun e => by cases e), ?_, fun u hu e => ?_⟩
  · have := h.bud
    show _ + 1 ≤ B
    omega
  · rw [putBB_row]
    show (if u = v then _ else _) = true
    by_cases eu : u = v
    · rw [if_pos eu]
    · rw [if_neg eu]; exact h.us u (by omega) e
theorem MInv.next {f : BFunc} {R B : Nat} {g : RG} {b : Nat} {x : Block} {O I : BB} {more : Bool} {j v v' : Nat} (h : MInv f R B g (b + 1)) (hx : f.blocks[b]? = some x) (hO : OInv f R g.I g.O b x O j v) (hj : x.nexts.length ≤ j)
    (hA : AInv f R B g b (fun v => need v x.ins (endz x v || O b v)) I more v') (hv : R ≤ v') : MInv f R B ⟨I, O, more⟩ b := by
  refine ⟨hA.si, hO.so, by have := h.kn; omega, fun e b' h1 h2 => ?_, hA.bud⟩
  obtain ⟨m1, m2⟩ := hA.ms e
  show ClosedAt f R I O b'
  by_cases eb : b' = b
  · subst eb
    intro y hy u hu
    rw [hx] at hy; cases hy
    refine ⟨fun d hd hi => ?_, fun hn => hA.us u (by omega) hn⟩
    obtain ⟨j', hj'⟩ := List.getElem?_of_mem hd
    have := (List.getElem?_eq_some_iff.1 hj').1
    exact hO.js j' (by omega) d hj' u hu (m2 ▸ hi)
  · have := h.cl m1 b' (by omega) h2
    intro y hy u hu
    have hh := this y hy u hu
    rw [hO.ne b' eb, m2]
    exact hh
theorem Ghost.endCell {n : Nat} {e : AEnv} {h : AHeap} (b0 j b : Nat) {sz0 sz : Nat} {cs : List AV} {es : List (List AV)} (hb0 : h b0 = some (.row false sz0 [cs])) (hj : cs[j]? = some (slA b es)) (hb : h b = some (slO sz es)) (hne : b0 ≠ b) :
    Ghost ⟨n, e, h⟩ ⟨n, e, hput (hrm h b) b0 (.row false sz0 [cs.set j (.lst false es)])⟩ := by
  cases hes : es.isEmpty with
  | false =>
    have e1 : slA b es = .ref b es.length 0 es.length := by simp [slA, hes, jAV]
    have e2 : slO sz es = .row true sz es := by simp [slO, hes, jObj]
    rw [e1] at hj
    rw [e2] at hb
    have := Ghost.freezeCell (n := n) (e := e) b0 0 j b hb0 rfl hj hb rfl hne
    rwa [List.drop_zero, List.take_length] at this
  | true =>
    have e0 : es = [] := List.isEmpty_iff.1 hes
    subst e0
    have hj' : cs[j]? = some (.lst true []) := hj
    refine (Ghost.weakRowF b0 (es' := [cs.set j (.lst false [])]) hb0 rfl ?_).trans (.of_sub ⟨rfl, fun _ _ h => h, fun c x hx => ?_⟩)
    · intro i ds ds' h1 h2
      cases i with
      | zero =>
        simp only [List.getElem?_cons_zero, Option.some.injEq] at h1 h2
        subst h1; subst h2
        refine ⟨by simp, fun k x y hx hy => ?_⟩
        rw [List.getElem?_set] at hy
        by_cases hk : j = k
        · subst hk
          rw [hj'] at hx; cases hx
          have hlt := (List.getElem?_eq_some_iff.1 hj').1
          rw [if_pos rfl, if_pos hlt] at hy; cases hy
          exact ⟨fun _ => rfl, fun H ι v h => rel_unex h⟩
        · rw [if_neg hk, hx] at hy; cases hy
          exact ⟨fun h => h, fun _ _ _ h => h⟩
      | succ i => simp at h1
    · have h1 : hput (hrm h b) b0 (.row false sz0 [cs.set j (.lst false [])]) c = some x := hx
      show hput h b0 _ c = some x
      by_cases hc : c = b0
      · subst hc; rw [hput_same] at h1 ⊢; exact h1
      · rw [hput_ne _ _ hc] at h1 ⊢
        by_cases hcb : c = b
        · subst hcb
          have : hrm h c c = some x := h1
          unfold hrm at this
          rw [show Nat.beq c c = true from Nat.beq_refl c] at this
          cases this
        · rwa [hrm_ne _ hcb] at h1
def encN (p : Nat → Bool) : Nat → Nat
  | 0 => 0
  | n + 1 => encN p n + (if p n then 2 ^ n else 0)
def wd (p : Nat → Bool) : Nat := encN p 64
theorem Ghost.endAt {n : Nat} {e : AEnv} {h : AHeap} (b0 i j b : Nat) {sz0 sz : Nat} {es0 : List (List AV)} {cs : List AV} {es : List (List AV)} (hb0 : h b0 = some (.row false sz0 es0)) (hi : es0[i]? = some cs) (hj : cs[j]? = some (slA b es)) (hb : h b = some (slO sz es)) (hne : b0 ≠ b) :
    Ghost ⟨n, e, h⟩ ⟨n, e, hput (hrm h b) b0 (.row false sz0 (es0.set i (cs.set j (.lst false es))))⟩ := by
  cases hes : es.isEmpty with
  | false =>
    have e1 : slA b es = .ref b es.length 0 es.length := by simp [slA, hes, jAV]
    have e2 : slO sz es = .row true sz es := by simp [slO, hes, jObj]
    rw [e1] at hj
    rw [e2] at hb
    have := Ghost.freezeCell (n := n) (e := e) b0 i j b hb0 hi hj hb rfl hne
    rwa [List.drop_zero, List.take_length] at this
  | true =>
    have e0 : es = [] := List.isEmpty_iff.1 hes
    subst e0
    have hj' : cs[j]? = some (.lst true []) := hj
    have hilt : i < es0.length := (List.getElem?_eq_some_iff.1 hi).1
    refine (Ghost.weakRowF b0 (es' := es0.set i (cs.set j (.lst false []))) hb0 (by simp) ?_).trans (.of_sub ⟨rfl, fun _ _ h => h, fun c x hx => ?_⟩)
    · intro q ds ds' h1 h2
      by_cases hq : i = q
      · subst hq
        rw [hi] at h1; cases h1
        rw [List.getElem?_set_self hilt] at h2; cases h2
        refine ⟨by simp, fun k x y hx hy => ?_⟩
        rw [List.getElem?_set] at hy
        by_cases hk : j = k
        · subst hk
          rw [hj'] at hx; cases hx
          have hlt := (List.getElem?_eq_some_iff.1 hj').1
          rw [if_pos rfl, if_pos hlt] at hy; cases hy
          exact ⟨fun _ => rfl, fun H ι v h => rel_unex h⟩
        · rw [if_neg hk, hx] at hy; cases hy
          exact ⟨fun h => h, fun _ _ _ h => h⟩
      · rw [List.getElem?_set_ne hq, h1] at h2; cases h2
        exact ⟨rfl, fun k x y hx hy => by rw [hx] at hy; cases hy; exact ⟨fun h => h, fun _ _ _ h => h⟩⟩
    · have h1 : hput (hrm h b) b0 (.row false sz0 (es0.set i (cs.set j (.lst false [])))) c = some x := hx
      show hput h b0 _ c = some x
      by_cases hc : c = b0
      · subst hc; rw [hput_same] at h1 ⊢; exact h1
      · rw [hput_ne _ _ hc] at h1 ⊢
        by_cases hcb : c = b
        · subst hcb
          rw [hrm_same] at h1; cases h1
        · rwa [hrm_ne _ hcb] at h1
def fFree : Nat → AObj := fun _ => .free
def kB (b : Nat) : Bool := decide (b < 6) && (!(b == 2) && !(b == 3))
abbrev hB (o0 o1 o4 o5 : AObj) : AHeap := fam (nb [o0, o1, .free, .free, o4, o5]) fFree
theorem hB_free (o0 o1 o4 o5 : AObj) (b : Nat) (hb : kB b = false) : hB o0 o1 o4 o5 b = some .free := by
  by_cases h16 : b < 16
  · rcases (by omega : b = 0 ∨ b = 1 ∨ b = 2 ∨ b = 3 ∨ b = 4 ∨ b = 5 ∨ b = 6 ∨ b = 7 ∨ b = 8 ∨ b = 9 ∨ b = 10 ∨ b = 11 ∨ b = 12 ∨ b = 13 ∨ b = 14 ∨ b = 15) with rfl | rfl | rfl | rfl | rfl | rfl | rfl | rfl | rfl | rfl | rfl | rfl | rfl | rfl | rfl | rfl <;> first | rfl | cases hb
  · obtain ⟨x, rfl⟩ : ∃ x, b = x + 16 := ⟨b - 16, by omega⟩
    exact fam_hi _ _ _
theorem hB_drop {h : AHeap} {o0 o1 o4 o5 : AObj} (h0 : h 0 = some o0) (h1 : h 1 = some o1) (h4 : h 4 = some o4) (h5 : h 5 = some o5) (a0 : o0.avoid kB = true) (a1 : o1.avoid kB = true) (a4 : o4.avoid kB = true) (a5 : o5.avoid kB = true) : HDropK kB (hB o0 o1 o4 o5) h := fun b o ho => by
  cases hk : kB b with
  | false => rw [hB_free _ _ _ _ b hk] at ho; cases ho; exact .inr ⟨rfl, rfl⟩
  | true =>
    left
    have hb : b = 0 ∨ b = 1 ∨ b = 4 ∨ b = 5 := by
      unfold kB at hk
      simp at hk
      omega
    rcases hb with rfl | rfl | rfl | rfl
    · cases ho; exact ⟨h0, fun _ => ⟨rfl, a0⟩⟩
    · cases ho; exact ⟨h1, fun _ => ⟨rfl, a1⟩⟩
    · cases ho; exact ⟨h4, fun _ => ⟨rfl, a4⟩⟩
    · cases ho; exact ⟨h5, fun _ => ⟨rfl, a5⟩⟩
def bHalf (l : List Block) (k : Nat) : List (List AV) := l.zipIdx.map fun p => if p.2 < k then p.1.cells else bRow p.2 p.1
theorem bHalf_get {l : List Block} {i : Nat} {x : Block} (h : l[i]? = some x) (k : Nat) : (bHalf l k)[i]? = some (if i < k then x.cells else bRow i x) := by
  unfold bHalf
  rw [List.getElem?_map, zipIdx_get h]; rfl
theorem bHalf_len (l : List Block) (k : Nat) : (bHalf l k).length = l.length := by simp [bHalf]
theorem bHalf_zero (l : List Block) : bHalf l 0 = bRows l := by
  unfold bHalf bRows
  exact List.map_congr_left fun p _ => if_neg (Nat.not_lt_zero _)
theorem bHalf_all (l : List Block) : bHalf l l.length = l.map Block.cells := by
  refine List.ext_getElem? fun j => ?_
  by_cases hj : j < l.length
  · obtain ⟨x, hx⟩ := get_of_lt hj
    rw [bHalf_get hx, if_pos hj, List.getElem?_map, hx]; rfl
  · rw [List.getElem?_eq_none (by rw [bHalf_len]; omega), List.getElem?_eq_none (by rw [List.length_map]; omega)]
theorem bHalf_set {l : List Block} {k : Nat} {x : Block} (h : l[k]? = some x) : (bHalf l k).set k ((bRow k x).set 0 (insAV x.ins)) = bHalf l (k + 1) := by
  refine List.ext_getElem? fun j => ?_
  rw [List.getElem?_set, bHalf_len]
  have hk := (List.getElem?_eq_some_iff.1 h).1
  by_cases hj : k = j
  · subst hj
    rw [if_pos rfl, if_pos hk, bHalf_get h, if_pos (by omega)]; rfl
  · rw [if_neg hj]
    by_cases hl : j < l.length
    · obtain ⟨y, hy⟩ := get_of_lt hl
      rw [bHalf_get hy, bHalf_get hy]
      by_cases h2 : j < k
      · rw [if_pos h2, if_pos (by omega)]
      · rw [if_neg h2, if_neg (by omega)]
    · rw [List.getElem?_eq_none (by rw [bHalf_len]; omega), List.getElem?_eq_none (by rw [bHalf_len]; omega)]
theorem Ghost.endB {n0 : Nat} {e : AEnv} {l : List Block} : ∀ (k : Nat) (h : AHeap), k ≤ l.length → h 3 = some (.row false 5 (bRows l)) → (∀ x, h (x + 16) = some (bFam l x)) →
    ∃ h', Ghost ⟨n0, e, h⟩ ⟨n0, e, h'⟩ ∧ h' 3 = some (.row false 5 (bHalf l k)) ∧ (∀ c, c ≠ 3 → (∀ b, b < k → c ≠ b + 16) → h' c = h c)
  | 0, h, _, h1, h2 => ⟨h, .of_sub (Sub.refl _), by rw [h1, bHalf_zero], fun _ _ _ => rfl⟩
  | k + 1, h, hk, h1, h2 => by
    obtain ⟨h', g1, g2, g3⟩ := Ghost.endB (n0 := n0) (e := e) k h (by omega) h1 h2
    obtain ⟨x, hx⟩ := get_of_lt (show k < l.length by omega)
    have hr : h' (k + 16) = some (slO 8 (x.ins.map Tac.cells)) := by rw [g3 _ (by omega) (fun b hb => by omega), h2 k, bFam_at hx]
    have g := Ghost.endAt (n := n0) (e := e) 3 k 0 (k + 16) g2 (show _ = some (bRow k x) by rw [bHalf_get hx, if_neg (Nat.lt_irrefl k)]) (show _ = some (slA (k + 16) (x.ins.map Tac.cells)) from rfl) hr (by omega)
    refine ⟨_, g1.trans g, ?_, fun c hc hb => ?_⟩
    · rw [hput_same]
      congr 2
      exact bHalf_set hx
    · rw [hput_ne _ _ hc, hrm_ne _ (hb k (by omega))]
      exact g3 c hc (fun b hb' => hb b (by omega))
def hCut (h : AHeap) : AHeap := fun c => if c < 16 then (if c = 3 then none else h c) else none
theorem Ghost.endBd {n : Nat} {e : AEnv} {h : AHeap} (C : Core) (w : Bool) (b : Bd) (h2 : h 2 = some (.row false 6 [bCell C w b])) (h3 : h 3 = some (.row false 5 (bRows b.blocks))) (hF : ∀ x, h (x + 16) = some (bFam b.blocks x)) :
    Ghost ⟨n, e, h⟩ ⟨n, e, hput (hCut h) 2 (.row false 6 [[.lst false (C.funcs.map CFn.cells), .int .i64 C.words, .bool w, .int .i64 b.regs, blocksAV b.blocks, .int .i64 (b.now : Int)]])⟩ := by
  obtain ⟨h', g1, g2, g3⟩ := Ghost.endB (n0 := n) (e := e) (l := b.blocks) b.blocks.length h (Nat.le_refl _) h3 hF
  rw [bHalf_all] at g2
  have h2' : h' 2 = some (.row false 6 [bCell C w b]) := by rw [g3 2 (by decide) (fun b hb => by omega)]; exact h2
  have p1 : ∀ cs ∈ b.blocks.map Block.cells, cs.all AV.isPure1 = true := fun cs hc => by
    obtain ⟨x, _, rfl⟩ := List.mem_map.1 hc; rfl
  have g4 := Ghost.plain (n := n) (e := e) 3 g2 p1
  have g5 := Ghost.freezeCell (n := n) (e := e) (h := hput h' 3 (.row true 5 (b.blocks.map Block.cells))) 2 0 4 3 (m := b.blocks.length) (off := 0) (len := b.blocks.length) ((hput_ne _ _ (by decide)).trans h2') rfl rfl (hput_same _ _ _) (List.length_map _).symm (by decide)
  have e1 : ((b.blocks.map Block.cells).drop 0).take b.blocks.length = b.blocks.map Block.cells := by rw [List.drop_zero, List.take_of_length_le (by rw [List.length_map]; exact Nat.le_refl _)]
  rw [e1] at g5
  refine ((g1.trans g4).trans g5).trans (.of_sub ⟨rfl, fun _ _ h => h, fun c x hx => ?_⟩)
  have hx : hput (hCut h) 2 _ c = some x := hx
  show hput _ 2 _ c = some x
  by_cases hc : c = 2
  · subst hc; rw [hput_same] at hx ⊢; exact hx
  · rw [hput_ne _ _ hc] at hx ⊢
    unfold hCut at hx
    by_cases h16 : c < 16
    · rw [if_pos h16] at hx
      by_cases hc3 : c = 3
      · rw [if_pos hc3] at hx; cases hx
      · rw [if_neg hc3] at hx
        rw [hrm_ne _ hc3, hput_ne _ _ hc3, g3 c hc3 (fun b hb => by omega)]
        exact hx
    · rw [if_neg h16] at hx; cases hx
def mW (C : Core) (k : Nat) : Int := if (C.funcs.take k).any CFn.word then C.words + 1 else C.words
theorem mW_zero (C : Core) : mW C 0 = C.words := rfl
theorem mW_yes {C : Core} {k : Nat} {g : CFn} (h : C.funcs[k]? = some g) (hw : g.word = true) : mW C (k + 1) = C.words + 1 := by
  unfold mW; rw [take_succ_eq h, List.any_append]; simp [hw]
theorem mW_no {C : Core} {k : Nat} {g : CFn} (h : C.funcs[k]? = some g) (hw : g.word = false) : mW C (k + 1) = mW C k := by
  unfold mW; rw [take_succ_eq h, List.any_append]; simp [hw]
theorem mW_all {C : Core} {k : Nat} (h : C.funcs.length ≤ k) : mW C k = C.m := by unfold mW Core.m; rw [List.take_of_length_le h]
theorem build_len (C : Core) : C.build.funcs.length = C.funcs.length := by simp [Core.build]
abbrev bT (C : Core) (k : Nat) : List (List AV) := (C.build.funcs.take k).map BFunc.cells
theorem bT_len (C : Core) (k : Nat) : (bT C k).length ≤ C.funcs.length := by unfold bT; rw [List.length_map, List.length_take, build_len]; omega
theorem bT_len2 (C : Core) (k : Nat) : ∀ cs ∈ bT C k, cs.length = 2 := fun cs h => by
  obtain ⟨x, _, rfl⟩ := List.mem_map.1 h; rfl
theorem bT_pure (C : Core) (k : Nat) : ∀ cs ∈ bT C k, cs.all AV.isPure1 = true := fun cs h => by
  obtain ⟨x, _, rfl⟩ := List.mem_map.1 h; rfl
theorem bT_next {C : Core} {k : Nat} {g : CFn} (h : C.funcs[k]? = some g) : bT C k ++ [(fnBuild C g (k + 1 == C.funcs.length)).cells] = bT C (k + 1) := by
  unfold bT; rw [take_succ_eq (build_get h), List.map_append]; rfl
theorem bT_all {C : Core} {k : Nat} (h : C.funcs.length ≤ k) : bT C k = C.build.funcs.map BFunc.cells := by unfold bT; rw [List.take_of_length_le (by rw [build_len]; exact h)]
def fnStart (C : Core) (g : CFn) (last : Bool) : Bd := bif last then bd0 else bd0.nought (g.first + g.params) (g.slots - g.params).toNat
theorem fnStart_pl (C : Core) (g : CFn) (last : Bool) : Pl (fnStart C g last) := by
  unfold fnStart; cases last
  · exact (codes_nought pl0 _ _).pl
  · exact pl0
theorem fnStart_cnt (C : Core) (g : CFn) (last : Bool) : (fnStart C g last).cnt ≤ 2 + (g.slots - g.params).toNat := by
  unfold fnStart; cases last
  · have := (cnt_nought cur0 (a := g.first + g.params) (g.slots - g.params).toNat).1
    rw [cnt0] at this
    show (bd0.nought _ _).cnt ≤ _
    omega
  · show bd0.cnt ≤ _; rw [cnt0]; omega
theorem rowF_avoid {k : Nat → Bool} {m : Int} {b : Nat} {es : List (List AV)} (h : k b = true) : (AObj.row false 2 [[.int .i64 m, slA b es]]).avoid k = true := by
  show (List.all [_, _] (AV.avoid k) && true) = true
  simp only [List.all_cons, List.all_nil, Bool.and_true, Bool.and_eq_true]
  exact ⟨rfl, slA_avoid _ h⟩
theorem wk_made (m : Int) (b : Nat) : ∀ (i : Nat) (ds ds' : List AV), [[AV.int .i64 m, .nil]][i]? = some ds → [[AV.int .i64 m, slA b []]][i]? = some ds' → ds'.length = ds.length ∧ ∀ (j : Nat) (a c : AV), ds[j]? = some a → ds'[j]? = some c → (a.cell1 = true → c.cell1 = true) ∧ ∀ H ι v, Rel H ι a v → Rel H ι c v := fun i ds ds' h1 h2 => by
  cases i with
  | succ i => simp at h1
  | zero =>
    cases h1; cases h2
    refine ⟨rfl, fun j a c g1 g2 => ?_⟩
    match j, g1, g2 with
    | 0, g1, g2 => cases g1; cases g2; exact Wkb.refl _
    | 1, g1, g2 => cases g1; cases g2; exact Wkb.nil b
    | j + 2, g1, g2 => simp at g1
section
variable {P : Program} {T : Nat → Option TyI} {o : Oper} {e : AEnv} {h : AHeap}
theorem QLoc.weakN {R : List Nat} {x y : AV} (h0 : QLoc P o e h R x) (hxy : ∀ H ι v, Rel H ι x v → Rel H ι y v) : QLoc P o e h R y := fun H ι a w s hs g1 g2 => by
  obtain ⟨v, h1, h2⟩ := h0 H ι a w s hs g1 g2
  exact ⟨v, hxy _ _ _ h1, h2⟩
end
def fixN : AV → AV
  | .nil => .lst false []
  | x => x
theorem fix_rel {H : Know} {ι : Lay} {x : AV} {v : Value} (h : Rel H ι x v) : Rel H ι (fixN x) v := by
  cases x with
  | nil => exact nil_empty h
  | _ => exact h
theorem agg_fix {H : Know} {ι : Lay} {cs ds : List AV} {v : Value} (h : Rel H ι (.agg cs) v) (e : cs.map fixN = ds) : Rel H ι (.agg ds) v := by
  subst e
  obtain ⟨us, rfl, hl, hr⟩ := h.agg_inv
  refine .agg _ _ _ (by rw [List.length_map]; exact hl) fun j x u h1 h2 => ?_
  rw [List.getElem?_map] at h1
  cases hc : cs[j]? with
  | none => rw [hc] at h1; cases h1
  | some y => rw [hc] at h1; cases h1; exact fix_rel (hr j y u hc h2)
structure Bld (C : Core) : Prop where
  ok : C.Ok
  fit : CoreFit C
  r : CoreB C
  parts : C.parts ≤ 100000
theorem Lit.bld {C : Core} (h : Lit C) : Bld C := ⟨h.ok, h.fit, (right_core h.r).b, by have := h.parts; omega⟩
theorem Bld.okL {C : Core} (h : Bld C) (i : Nat) (g : CFn) (hg : C.funcs[i]? = some g) : CS.okL C i g.word g.body := (h.fit.ok.fn i g hg).body
theorem Bld.partsL {C : Core} (h : Bld C) (g : CFn) (hg : g ∈ C.funcs) : CS.partsL g.body ≤ 1000000 := by have := parts_body hg; have := h.parts; omega
theorem Bld.fn {C : Core} (h : Bld C) (g : CFn) (hg : g ∈ C.funcs) : 11 * CS.partsL g.body + (g.slots - g.params).toNat + 4 ≤ 2000000 := by
  have h1 := parts_body hg
  have h2 := h.parts
  obtain ⟨f1, f2, f3, f4, f5⟩ := h.r.fn g hg
  have h3 := h.r.w1
  omega
theorem Bld.ins {C : Core} (h : Bld C) : ∀ f ∈ C.build.funcs, ∀ x ∈ f.blocks, x.ins.length ≤ 2000000 := build_ins h.fn
theorem Bld.ins2 {C : Core} (h : Bld C) : ∀ f ∈ C.build.funcs, ∀ x ∈ f.blocks, x.ins.length ≤ maxLen := fun f hf x hx => by
  have := h.ins f hf x hx
  simp only [maxLen]; omega
theorem Bld.blocks {C : Core} (h : Bld C) : ∀ f ∈ C.build.funcs, f.blocks.length ≤ 2000000 := fun f hf => by
  obtain ⟨i, hi⟩ := List.mem_iff_getElem?.1 hf
  obtain ⟨fn, h1, rfl⟩ := build_of hi
  have h2 := cnt_len (fnBd C fn (i + 1 == C.funcs.length))
  have h3 := cnt_fn C fn (i + 1 == C.funcs.length) (Nat.le_refl (fn.slots - fn.params).toNat)
  have h4 := h.fn fn (List.mem_of_getElem? h1)
  show (fnBd C fn (i + 1 == C.funcs.length)).blocks.length ≤ _
  omega
theorem Bld.right {C : Core} (h : Bld C) : C.build.right = true := build_right h.fit
theorem Bld.w {C : Core} (h : Bld C) : C.build.insW := build_insW h.ok
theorem Bld.funcs {C : Core} (h : Bld C) : C.build.funcs.length ≤ 64 := by rw [build_len]; exact h.r.n1
theorem Bld.kle {C : Core} (h : Bld C) : C.k ≤ 10000000 := by
  have h1 := h.parts
  have h2 := h.r.w0
  have h3 := h.r.w1
  unfold Core.k
  omega
theorem fuel_nat (n k : Nat) : ((n : Int) + 1) * (k : Int) = (((n + 1) * k : Nat) : Int) := by
  rw [Int.natCast_mul]; rfl
theorem fuel_le {n k : Nat} (hn : n ≤ 100000) (hk : k ≤ 10000000) : ((n : Int) + 1) * (k : Int) ≤ 9223372036854775807 := by
  rw [fuel_nat]
  have : (n + 1) * k ≤ 100001 * 10000000 := Nat.mul_le_mul (by omega) hk
  omega
theorem Bld.ends {C : Core} (h : Bld C) {s : ByteArray} {fuel : Int} (h5 : (crun C s fuel).fin ≠ 5) {n : Nat} (hn : (crun C s fuel).steps ≤ n) : (mrun C.build s ((((n : Nat) : Int) + 1) * (C.k : Int))).fin = (crun C s fuel).fin ∧ (mrun C.build s ((((n : Nat) : Int) + 1) * (C.k : Int))).out = (crun C s fuel).out := by
  have := build_run h.fit (s := s) (fuel := fuel) rfl h5 ((n + 1) * C.k) (Nat.mul_le_mul_right _ (by omega))
  rw [← fuel_nat] at this
  exact this
theorem ends_true {x y : Mach} (h1 : x.fin = y.fin) (h2 : x.out = y.out) : (x.fin == y.fin && (x.out == y.out)) = true := by rw [h1, h2]; simp
def aliveC : Core := ⟨0, [⟨0, 0, 0, false, [sPut (eNum 65)]⟩]⟩
theorem eNum_Ok {n : Int} (h : isW n) : (eNum n).Ok := .mk ⟨by decide, by decide⟩ ⟨by decide, by decide⟩ h ⟨by decide, by decide⟩ ⟨by decide, by decide⟩ (by decide) (fun e he => by cases he)
theorem isI_zero : isI 0 := ⟨by decide, by decide⟩
theorem rb : 100000000 ≤ reachBytes := by decide
theorem isI_of {n : Int} (h0 : -1000000 ≤ n) (h1 : n ≤ 1000000) : isI n := ⟨by omega, by omega⟩
theorem oneE_Ok {e : CE} (h : e.Ok) : ∀ x ∈ [e], x.Ok := fun x hx => by rw [List.mem_singleton] at hx; subst hx; exact h
theorem sPut_Ok {e : CE} (h : e.Ok) : (sPut e).Ok := .mk (isI_of (by decide) (by decide)) isI_zero isI_zero (Nat.le_trans (by show 1 * 64 ≤ 100000000; decide) rb) (oneE_Ok h) (by decide) (fun e he => by cases he) (by decide) (fun e he => by cases he)
theorem oneC_Ok {w : Int} (h0 : 0 ≤ w) (h1 : w ≤ 1000000) {body : List CS} (hl : body.length ≤ 1000000) (hb : ∀ s ∈ body, s.Ok) : (oneC w body).Ok where
  words := isI_of (by show -1000000 ≤ w; omega) h1
  len := by show 1 * 56 ≤ _; decide
  funcs := fun f hf => by
    have hf : f ∈ [(⟨0, 0, 0, false, body⟩ : CFn)] := hf
    rw [List.mem_singleton] at hf; subst hf
    have := rb
    exact ⟨isI_zero, isI_zero, isI_zero, by show body.length * 96 ≤ _; omega, hb⟩
theorem oneC_r {w : Int} (h0 : 0 ≤ w) (h1 : w ≤ 32768) (body : List CS) : CoreB (oneC w body) where
  w0 := h0
  w1 := h1
  n0 := Nat.le_refl _
  n1 := by show 1 ≤ 64; decide
  fn := fun g hg => by
    have hg : g ∈ [(⟨0, 0, 0, false, body⟩ : CFn)] := hg
    rw [List.mem_singleton] at hg; subst hg
    exact ⟨Int.le_refl 0, (by decide : (0 : Int) ≤ 6), Int.le_refl 0, Int.le_refl 0, (by omega : (0 : Int) + 0 ≤ w)⟩
theorem alive_bld : Bld aliveC where
  ok := oneC_Ok (by decide) (by decide) (by decide) (fun s hs => by rw [List.mem_singleton] at hs; subst hs; exact sPut_Ok (eNum_Ok ⟨by decide, by decide⟩))
  fit := one_fit (by decide) (by decide) (fun st hs => by rw [List.mem_singleton] at hs; subst hs; exact sPut_ok (eNum_ok ⟨by decide, by decide⟩)) (fun st hs => by rw [List.mem_singleton] at hs; subst hs; decide)
  r := oneC_r (by decide) (by decide) _
  parts := by decide
theorem alive_run (s : ByteArray) : (crun aliveC s 0).fin = 1 ∧ (crun aliveC s 0).out = [65] ∧ (crun aliveC s 0).steps = 0 := ⟨rfl, rfl, rfl⟩
theorem alive_ends (s : ByteArray) : (mrun aliveC.build s ((0 + 1) * (aliveC.k : Int))).fin = 1 ∧ (mrun aliveC.build s ((0 + 1) * (aliveC.k : Int))).out = [65] := by
  have h1 := alive_run s
  have h2 := alive_bld.ends (s := s) (fuel := 0) (n := 0) (by rw [h1.1]; decide) (by rw [h1.2.2]; decide)
  rw [h1.1, h1.2.1] at h2
  exact h2
theorem eloops_eq (e : CE) : e.loops = (if e.kind = 4 then 1 else 0) + CE.loopsL e.kids := by cases e; rw [CE.loops]; rfl
theorem egets_eq (e : CE) : e.gets = (if e.kind = 5 then 1 else 0) + CE.getsL e.kids := by cases e; rw [CE.gets]; rfl
theorem sloops_eq (e : CS) : e.loops = (if e.kind = 5 ∨ e.kind = 6 then 1 else 0) + CE.loopsL e.es + CS.loopsL e.thn + CS.loopsL e.els := by cases e; rw [CS.loops]; rfl
theorem sgets_eq (e : CS) : e.gets = CE.getsL e.es + CS.getsL e.thn + CS.getsL e.els := by cases e; rw [CS.gets]; rfl
theorem eloopsL_snoc (x : CE) : ∀ l : List CE, CE.loopsL (l ++ [x]) = CE.loopsL l + x.loops
  | [] => by rw [List.nil_append, CE.loopsL, CE.loopsL, CE.loopsL]; omega
  | y :: l => by rw [List.cons_append, CE.loopsL, CE.loopsL, eloopsL_snoc x l]; omega
theorem egetsL_snoc (x : CE) : ∀ l : List CE, CE.getsL (l ++ [x]) = CE.getsL l + x.gets
  | [] => by rw [List.nil_append, CE.getsL, CE.getsL, CE.getsL]; omega
  | y :: l => by rw [List.cons_append, CE.getsL, CE.getsL, egetsL_snoc x l]; omega
theorem sloopsL_snoc (x : CS) : ∀ l : List CS, CS.loopsL (l ++ [x]) = CS.loopsL l + x.loops
  | [] => by rw [List.nil_append, CS.loopsL, CS.loopsL, CS.loopsL]; omega
  | y :: l => by rw [List.cons_append, CS.loopsL, CS.loopsL, sloopsL_snoc x l]; omega
theorem sgetsL_snoc (x : CS) : ∀ l : List CS, CS.getsL (l ++ [x]) = CS.getsL l + x.gets
  | [] => by rw [List.nil_append, CS.getsL, CS.getsL, CS.getsL]; omega
  | y :: l => by rw [List.cons_append, CS.getsL, CS.getsL, sgetsL_snoc x l]; omega
theorem eloopsL_take {l : List CE} {k : Nat} {x : CE} (h : l[k]? = some x) : CE.loopsL (l.take (k + 1)) = CE.loopsL (l.take k) + x.loops := by rw [take_succ_eq h, eloopsL_snoc]
theorem egetsL_take {l : List CE} {k : Nat} {x : CE} (h : l[k]? = some x) : CE.getsL (l.take (k + 1)) = CE.getsL (l.take k) + x.gets := by rw [take_succ_eq h, egetsL_snoc]
theorem sloopsL_take {l : List CS} {k : Nat} {x : CS} (h : l[k]? = some x) : CS.loopsL (l.take (k + 1)) = CS.loopsL (l.take k) + x.loops := by rw [take_succ_eq h, sloopsL_snoc]
theorem sgetsL_take {l : List CS} {k : Nat} {x : CS} (h : l[k]? = some x) : CS.getsL (l.take (k + 1)) = CS.getsL (l.take k) + x.gets := by rw [take_succ_eq h, sgetsL_snoc]
theorem ewalks_le : ∀ (n : Nat) (l : List CE), CE.partsL l ≤ n → CE.loopsL l ≤ CE.partsL l ∧ CE.getsL l ≤ CE.partsL l
  | _, [], _ => by rw [CE.loopsL, CE.getsL]; exact ⟨Nat.zero_le _, Nat.zero_le _⟩
  | 0, e :: l, h => by rw [CE.partsL, parts_kids] at h; omega
  | n + 1, e :: l, h => by
    rw [CE.partsL, parts_kids] at h
    have h1 := ewalks_le n e.kids (by omega)
    have h2 := ewalks_le n l (by omega)
    rw [CE.loopsL, CE.getsL, CE.partsL, eloops_eq, egets_eq, parts_kids]
    constructor <;> split <;> omega
theorem swalks_le : ∀ (n : Nat) (l : List CS), CS.partsL l ≤ n → CS.loopsL l ≤ CS.partsL l ∧ CS.getsL l ≤ CS.partsL l
  | _, [], _ => by rw [CS.loopsL, CS.getsL]; exact ⟨Nat.zero_le _, Nat.zero_le _⟩
  | 0, e :: l, h => by rw [CS.partsL, sparts_es] at h; omega
  | n + 1, e :: l, h => by
    rw [CS.partsL, sparts_es] at h
    have h0 := ewalks_le _ e.es (Nat.le_refl _)
    have h1 := swalks_le n e.thn (by omega)
    have h2 := swalks_le n e.els (by omega)
    have h3 := swalks_le n l (by omega)
    rw [CS.loopsL, CS.getsL, CS.partsL, sloops_eq, sgets_eq, sparts_es]
    constructor
    · split <;> omega
    · omega
theorem ewalk_take {l : List CE} {k : Nat} {x : CE} (h : l[k]? = some x) : CE.loopsL (l.take (k + 1)) ≤ CE.partsL l ∧ CE.getsL (l.take (k + 1)) ≤ CE.partsL l := by
  have h1 := ewalks_le _ (l.take (k + 1)) (Nat.le_refl _)
  have h2 := partsL_le (l := l) (k + 1)
  omega
theorem swalk_take {l : List CS} {k : Nat} {x : CS} (h : l[k]? = some x) : CS.loopsL (l.take (k + 1)) ≤ CS.partsL l ∧ CS.getsL (l.take (k + 1)) ≤ CS.partsL l := by
  have h1 := swalks_le _ (l.take (k + 1)) (Nat.le_refl _)
  have h2 := spartsL_le (l := l) (k + 1)
  omega
theorem last_of {C : Core} (h : CoreB C) : ∃ g, C.funcs[C.funcs.length - 1]? = some g := get_of_lt (by have := h.n0; omega)
section
variable {P : Program} {T : Nat → Option TyI} {o : Oper} {e : AEnv} {h : AHeap}
end
section
variable {P : Program} {T : Nat → Option TyI} {o : Oper} {e : AEnv} {h : AHeap}
end
theorem ends_none {C : Core} (hB : Bld C) {g : CFn} (hg : C.funcs[C.funcs.length - 1]? = some g) (h0 : CS.loopsL g.body = 0) (s : ByteArray) : (crun C s 0).fin ≠ 5 ∧ (mrun C.build s ((0 + 1) * (C.k : Int))).fin = (crun C s 0).fin ∧ (mrun C.build s ((0 + 1) * (C.k : Int))).out = (crun C s 0).out := by
  obtain ⟨q1, q2, q3⟩ := crun_quiet hg h0 (s := s) (s' := s) (fun i _ => ⟨rfl, rfl⟩) 0
  exact ⟨q2, hB.ends (fuel := 0) (n := 0) q2 (by omega)⟩
theorem neqNum {x y : Int} (h : x ≠ y) : evalBin .neq (.int .i64 x) (.int .i64 y) = some (.bool true) := by
  simp [evalBin, evalInt, isShift, h]
variable {P : Program} {T : Nat → Option TyI} {ops : Array Oper} {rest : List Oper} {n : Nat} {e : AEnv} {h : AHeap} {o : Oper} {K : AState → Prop} {acc : List (List Nat × List Nat)} {R : List Nat} {W : List (Nat × AObj)} {r p : AV}
theorem aq (d : Nat) (hq : QLoc P o e h R r) (hr : AOps P ops rest ⟨n, eput e d r, h⟩ K) (hd : o.dst = some d := by exact rfl) (hb : Nat.blt d n = true := by exact rfl) (hg : guardIs ops o e = some true := by exact rfl) : AOps P ops (o :: rest) ⟨n, e, h⟩ K := AOps.s d hd hb hg hq hr
theorem ax (d : Nat) (hq : OLoc P o e h R W (some r)) (hr : AOps P ops rest ⟨n, eput e d r, (hputs h W)⟩ K) (hd : o.dst = some d := by exact rfl) (hb : Nat.blt d n = true := by exact rfl) (hg : guardIs ops o e = some true := by exact rfl) : AOps P ops (o :: rest) ⟨n, e, h⟩ K := AOps.x d hd hb hg hq hr
theorem ak (d : Nat) (hr : AOps P ops rest ⟨n, eput e d (.tup []), h⟩ K) (hd : o.dst = some d := by exact rfl) (hb : Nat.blt d n = true := by exact rfl) (hg : guardIs ops o e = some false := by exact rfl) : AOps P ops (o :: rest) ⟨n, e, h⟩ K := AOps.k d hd hb hg hr
theorem am (d : Nat) {x : Operand} (hr : AOps P ops rest ⟨n, eput e d r, h⟩ K) (hd : o.dst = some d := by exact rfl) (hb : Nat.blt d n = true := by exact rfl) (hg : guardIs ops o e = some true := by exact rfl) (ho : o.op = .move x := by exact rfl) (hx : look e x = some r := by exact rfl) : AOps P ops (o :: rest) ⟨n, e, h⟩ K := AOps.s d hd hb hg (q_move (.inl ho) hx) hr
theorem aa (d : Nat) {x : Operand} (hr : AOps P ops rest ⟨n, eput e d r, h⟩ K) (hd : o.dst = some d := by exact rfl) (hb : Nat.blt d n = true := by exact rfl) (hg : guardIs ops o e = some true := by exact rfl) (ho : o.op = .assign x := by exact rfl) (hx : look e x = some r := by exact rfl) : AOps P ops (o :: rest) ⟨n, e, h⟩ K := AOps.s d hd hb hg (q_move (.inr ho) hx) hr
theorem al (d : Nat) {t : TypeId} {x : Operand} {i : TyI} {cs : List AV} (hT : TOk P T) (hr : AOps P ops rest ⟨n, eput e d r, h⟩ K) (hd : o.dst = some d := by exact rfl) (hb : Nat.blt d n = true := by exact rfl) (hg : guardIs ops o e = some true := by exact rfl) (ho : o.op = .load t x := by exact rfl) (hx : look e x = some p := by exact rfl) (hi : T t = some i := by exact rfl) (hp : PtsTo h p R cs := by first | exact .loc _ | exact .ptr _ _ _ _ _ _ _ _ rfl rfl rfl) (hl : loadAV i cs = some r := by exact rfl) : AOps P ops (o :: rest) ⟨n, e, h⟩ K := AOps.s d hd hb hg (q_load hT ho hx hi hp hl) hr
theorem af (d : Nat) {t : TypeId} {x : Operand} {f off u : Nat} {i : TyI} {fs : List (Nat × Nat)} (hT : TOk P T) (hr : AOps P ops rest ⟨n, eput e d r, h⟩ K) (hd : o.dst = some d := by exact rfl) (hb : Nat.blt d n = true := by exact rfl) (hg : guardIs ops o e = some true := by exact rfl) (ho : o.op = .fieldAddr t x f := by exact rfl) (hx : look e x = some p := by exact rfl) (hi : T t = some i := by exact rfl) (hk : i.k = .struct fs := by exact rfl) (hf : fs[f]? = some (off, u) := by exact rfl) (hm : moveAV p off = some r := by exact rfl) : AOps P ops (o :: rest) ⟨n, e, h⟩ K := AOps.s d hd hb hg (q_fieldAddr hT ho hx hi hk hf hm) hr
theorem dq (d : Nat) (hq : QLoc P o e h R r) (hr : DOps P ops n rest (eput e d r) h (acc ++ [(R, [])]) K) (hd : o.dst = some d := by exact rfl) (hb : Nat.blt d n = true := by exact rfl) (hg : guardIs ops o e = some true := by exact rfl) : DOps P ops n (o :: rest) e h acc K := DOps.s d hd hb hg hq hr
theorem dx (d : Nat) (hq : OLoc P o e h R W (some r)) (hr : DOps P ops n rest (eput e d r) (hputs h W) (acc ++ [(R, W.map (·.1))]) K) (hd : o.dst = some d := by exact rfl) (hb : Nat.blt d n = true := by exact rfl) (hg : guardIs ops o e = some true := by exact rfl) : DOps P ops n (o :: rest) e h acc K := DOps.x d hd hb hg hq hr
theorem dm (d : Nat) {x : Operand} (hr : DOps P ops n rest (eput e d r) h (acc ++ [([], [])]) K) (hd : o.dst = some d := by exact rfl) (hb : Nat.blt d n = true := by exact rfl) (hg : guardIs ops o e = some true := by exact rfl) (ho : o.op = .move x := by exact rfl) (hx : look e x = some r := by exact rfl) : DOps P ops n (o :: rest) e h acc K := DOps.s d hd hb hg (q_move (.inl ho) hx) hr
theorem da (d : Nat) {x : Operand} (hr : DOps P ops n rest (eput e d r) h (acc ++ [([], [])]) K) (hd : o.dst = some d := by exact rfl) (hb : Nat.blt d n = true := by exact rfl) (hg : guardIs ops o e = some true := by exact rfl) (ho : o.op = .assign x := by exact rfl) (hx : look e x = some r := by exact rfl) : DOps P ops n (o :: rest) e h acc K := DOps.s d hd hb hg (q_move (.inr ho) hx) hr
theorem dl (d : Nat) {t : TypeId} {x : Operand} {i : TyI} {cs : List AV} (hT : TOk P T) (hr : DOps P ops n rest (eput e d r) h (acc ++ [(R, [])]) K) (hd : o.dst = some d := by exact rfl) (hb : Nat.blt d n = true := by exact rfl) (hg : guardIs ops o e = some true := by exact rfl) (ho : o.op = .load t x := by exact rfl) (hx : look e x = some p := by exact rfl) (hi : T t = some i := by exact rfl) (hp : PtsTo h p R cs := by first | exact .loc _ | exact .ptr _ _ _ _ _ _ _ _ rfl rfl rfl) (hl : loadAV i cs = some r := by exact rfl) : DOps P ops n (o :: rest) e h acc K := DOps.s d hd hb hg (q_load hT ho hx hi hp hl) hr
theorem df (d : Nat) {t : TypeId} {x : Operand} {f off u : Nat} {i : TyI} {fs : List (Nat × Nat)} (hT : TOk P T) (hr : DOps P ops n rest (eput e d r) h (acc ++ [([], [])]) K) (hd : o.dst = some d := by exact rfl) (hb : Nat.blt d n = true := by exact rfl) (hg : guardIs ops o e = some true := by exact rfl) (ho : o.op = .fieldAddr t x f := by exact rfl) (hx : look e x = some p := by exact rfl) (hi : T t = some i := by exact rfl) (hk : i.k = .struct fs := by exact rfl) (hf : fs[f]? = some (off, u) := by exact rfl) (hm : moveAV p off = some r := by exact rfl) : DOps P ops n (o :: rest) e h acc K := DOps.s d hd hb hg (q_fieldAddr hT ho hx hi hk hf hm) hr
theorem an {s : AState} (h : K s) : AOps P ops [] s K := AOps.nil h
theorem asr {id : Nat} {os : Array Oper} {c : Code} {s : AState} {Q : Exit → AState → Prop} (h : AOps P os os.toList s (fun s' => AGo P c s' Q)) : AGo P (.seq (.region id os false) c) s Q := AGo.seq (AGo.region h)
theorem act {t : Nat} {x y : Code} {s : AState} {Q : Exit → AState → Prop} (h : AGo P x s Q) (he : s.env t = some (.bool true) := by exact rfl) : AGo P (.cond (.tmp t) x y) s Q := AGo.cond_true true he rfl h
theorem acf {t : Nat} {x y : Code} {s : AState} {Q : Exit → AState → Prop} (h : AGo P y s Q) (he : s.env t = some (.bool false) := by exact rfl) : AGo P (.cond (.tmp t) x y) s Q := AGo.cond_false false he rfl h
theorem apf {d : Nat} {c x y : Operand} (hr : AOps P ops rest ⟨n, eput e d p, h⟩ K) (hd : o.dst = some d := by exact rfl) (hb : Nat.blt d n = true := by exact rfl) (hg : guardIs ops o e = some true := by exact rfl) (ho : o.op = .pick c x y := by exact rfl) (hc : look e c = some (.bool false) := by exact rfl) (hx : look e y = some p := by exact rfl) : AOps P ops (o :: rest) ⟨n, e, h⟩ K := AOps.s d hd hb hg (q_pick_false false ho hc rfl hx) hr
theorem apt {d : Nat} {c x y : Operand} (hr : AOps P ops rest ⟨n, eput e d p, h⟩ K) (hd : o.dst = some d := by exact rfl) (hb : Nat.blt d n = true := by exact rfl) (hg : guardIs ops o e = some true := by exact rfl) (ho : o.op = .pick c x y := by exact rfl) (hc : look e c = some (.bool true) := by exact rfl) (hx : look e x = some p := by exact rfl) : AOps P ops (o :: rest) ⟨n, e, h⟩ K := AOps.s d hd hb hg (q_pick_true true ho hc rfl hx) hr
theorem aqb {d : Nat} {op : BinOp} {t t' : TypeId} {x y : Operand} {q : AV} (hr : AOps P ops rest ⟨n, eput e d r, h⟩ K) (hd : o.dst = some d := by exact rfl) (hb : Nat.blt d n = true := by exact rfl) (hg : guardIs ops o e = some true := by exact rfl) (ho : o.op = .binOp op t x y t' := by exact rfl) (hx : look e x = some p := by exact rfl) (hy : look e y = some q := by exact rfl) (hv : evalBin op p q = some r := by exact rfl) : AOps P ops (o :: rest) ⟨n, e, h⟩ K := AOps.s d hd hb hg (q_bin ho hx hy hv) hr
end Go.Proofs.Ytmfihmkopmgelaa.Sv

namespace Go.Proofs.Ytmfihmkopmgelaa.Sv
open Go
set_option maxRecDepth 100000 in
theorem bopen_ok (C : Core) (w : Bool) (b : Bd) (hl : b.blocks.length ≤ 1000000000) : ACall Try.prog 28 [.ptr 2 1 0 0] (RH (bL C w b) (bFam (b).blocks)) (fun r h' => r = .int .i64 (b.blocks.length : Int) ∧ HSub (putR 2 hNone (RH (bL C w b.opened) (bFam (b.opened).blocks))) h') := by
 refine ACall.of_body (n := 19) tok Try.func28 rfl rfl ?_
 refine asr ?_
 refine aa 2 ?_
 refine an ?_
 refine asr ?_
 refine am 3 ?_
 refine am 4 ?_
 refine aq 5 (q_nilCheck rfl rfl rfl) ?_
 refine af 6 tok ?_
 refine al 7 tok ?_
 refine aq 8 (q_build tok rfl rfl rfl rfl rfl (by decide) rfl rfl rfl) ?_
 refine ax 9 (o_lit' tok rfl rfl rfl rfl rfl rfl (by decide) rfl rfl rfl rfl rfl rfl) ?_
 refine ax 10 (o_append tok (n := b.blocks.length) (m := 1) rfl rfl rfl rfl rfl rfl rfl rfl rfl (by rw [bRows_len]) rfl rfl (Nat.zero_lt_succ _) (.lst _ _) z41q (by intro h; cases h) rfl (by rw [bRows_len]; show (_ + 1) * 56 ≤ _; omega) (by rw [bRows_len]; show _ + 1 ≤ _; simp only [maxLen]; omega)) ?_
 refine aq 11 (q_nilCheck rfl rfl rfl) ?_
 refine af 12 tok ?_
 refine AOps.w rfl rfl (o_store tok rfl rfl rfl rfl rfl rfl rfl rfl rfl (by decide) rfl z40q) ?_
 refine an ?_
 refine AGo.seq ?_
 refine AGo.ghost (Ghost.weakRowF 3 (es' := bRows b.blocks ++ [bRow b.blocks.length blk0]) rfl (by simp [partVals]) (wkb_snoc (x := .nil) (b.blocks.length + 16))) ?_
 refine AGo.region ?_
 refine am 13 ?_
 refine aq 14 (q_nilCheck rfl rfl rfl) ?_
 refine af 15 tok ?_
 refine al 16 tok ?_
 refine aq 17 (q_len tok rfl rfl rfl rfl rfl) ?_
 refine aq 18 (q_bin (r := .int .i64 (b.blocks.length : Int)) rfl rfl rfl z26q) ?_
 refine aa 2 ?_
 refine an ?_
 refine AGo.ret ?_
 exact ⟨[_], ⟨rfl, trivial⟩, rfl, (rh_sub rfl (by decide) ⟨(by (try simp only [hputs]); exact congrArg (fun c => some (AObj.row false 6 [c])) (bCell_open C w b).symm), (by (try simp only [hputs]); exact congrArg (fun c => some (AObj.row false 5 c)) (bRow_open b)), trivial⟩ (fun x_ => by (try simp only [hputs]); (try dsimp only); (repeat (first | refine hput_skip (by exact beq_false_of_ne (by omega)) ?_ | refine hrm_skip (by omega) ?_)); exact (fam_hi _ _ _).trans (fam_eq (bFam_open b).symm x_)))⟩
set_option maxRecDepth 100000 in
theorem bjump_ok (C : Core) (w : Bool) (b : Bd) (x : Block) (hx : b.blocks[b.now]? = some x) (to : Nat) : ACall Try.prog 45 [.ptr 2 1 0 0, .int .i64 (to : Int)] (RH (bL C w b) (bFam (b).blocks)) (fun r h' => r = .tup [] ∧ HSub (putR 2 hNone (RH (bL C w (b.jump to)) (bFam ((b.jump to)).blocks))) h') := by
 have hnow := (List.getElem?_eq_some_iff.1 hx).1
 refine ACall.of_body (n := 21) tok Try.func45 rfl rfl ?_
 refine AGo.seq ?_
 refine AGo.draw mix ?_
 refine dm 5 ?_
 refine dq 6 (q_nilCheck rfl rfl rfl) ?_
 refine df 7 tok ?_
 refine dl 8 tok ?_
 refine dm 9 ?_
 refine dq 10 (q_nilCheck rfl rfl rfl) ?_
 refine df 11 tok ?_
 refine dl 12 tok ?_
 refine dq 13 (q_index_ref tok rfl rfl rfl rfl rfl rfl rfl (by rw [bRows_len]) rfl (Int.natCast_nonneg _) (by omega)) ?_
 refine da 4 ?_
 refine DOps.nil (by kernel_rfl) ?_
 refine AGo.region ?_
 refine am 14 ?_
 refine am 15 ?_
 refine am 16 ?_
 refine aq 17 (q_nilCheck rfl rfl rfl) ?_
 refine af 18 tok ?_
 refine AOps.w rfl rfl (o_store tok rfl rfl rfl rfl rfl rfl (by rw [bRows_len]) z36q rfl (by decide) rfl z40q) ?_
 refine aq 19 (q_nilCheck rfl rfl rfl) ?_
 refine af 20 tok ?_
 refine AOps.w rfl rfl (o_store tok rfl rfl rfl rfl rfl rfl (by rw [List.length_set, bRows_len]) (get_set_self z36q) rfl (by decide) rfl z40q) ?_
 refine an ?_
 exact ⟨[], trivial, rfl, (rh_sub rfl (by decide) ⟨(by (try simp only [hputs]); exact congrArg (fun c => some (AObj.row false 6 [c])) (bCell_upd C w b _).symm), (by (try simp only [hputs]); refine Eq.trans ?_ (congrArg (fun c => some (AObj.row false 5 c)) (bRow_jump hx to)); first | rfl | (rw [(show 0 + ((b.now : Nat) : Int).toNat = b.now by omega)]; rfl)), trivial⟩ (fun x_ => by (try simp only [hputs]); (try dsimp only); (repeat (first | refine hput_skip (by exact beq_false_of_ne (by omega)) ?_ | refine hrm_skip (by omega) ?_)); exact (fam_hi _ _ _).trans (fam_eq (bFam_jump b to).symm x_)))⟩
set_option maxRecDepth 100000 in
theorem bfork_ok (C : Core) (w : Bool) (b : Bd) (x : Block) (hx : b.blocks[b.now]? = some x) (v to els : Nat) : ACall Try.prog 48 [.ptr 2 1 0 0, .int .i64 (v : Int), .int .i64 (to : Int), .int .i64 (els : Int)] (RH (bL C w b) (bFam (b).blocks)) (fun r h' => r = .tup [] ∧ HSub (putR 2 hNone (RH (bL C w (b.fork v to els)) (bFam ((b.fork v to els)).blocks))) h') := by
 have hnow := (List.getElem?_eq_some_iff.1 hx).1
 refine ACall.of_body (n := 33) tok Try.func48 rfl rfl ?_
 refine AGo.seq ?_
 refine AGo.draw mix ?_
 refine dm 9 ?_
 refine dq 10 (q_nilCheck rfl rfl rfl) ?_
 refine df 11 tok ?_
 refine dl 12 tok ?_
 refine dm 13 ?_
 refine dq 14 (q_nilCheck rfl rfl rfl) ?_
 refine df 15 tok ?_
 refine dl 16 tok ?_
 refine dq 17 (q_index_ref tok rfl rfl rfl rfl rfl rfl rfl (by rw [bRows_len]) rfl (Int.natCast_nonneg _) (by omega)) ?_
 refine da 8 ?_
 refine DOps.nil (by kernel_rfl) ?_
 refine AGo.region ?_
 refine am 18 ?_
 refine am 19 ?_
 refine am 20 ?_
 refine am 21 ?_
 refine am 22 ?_
 refine am 23 ?_
 refine am 24 ?_
 refine aq 25 (q_nilCheck rfl rfl rfl) ?_
 refine af 26 tok ?_
 refine AOps.w rfl rfl (o_store tok rfl rfl rfl rfl rfl rfl (by rw [bRows_len]) z36q rfl (by decide) rfl z40q) ?_
 refine aq 27 (q_nilCheck rfl rfl rfl) ?_
 refine af 28 tok ?_
 refine AOps.w rfl rfl (o_store tok rfl rfl rfl rfl rfl rfl (by rw [List.length_set, bRows_len]) (get_set_self z36q) rfl (by decide) rfl z40q) ?_
 refine aq 29 (q_nilCheck rfl rfl rfl) ?_
 refine af 30 tok ?_
 refine AOps.w rfl rfl (o_store tok rfl rfl rfl rfl rfl rfl (by rw [List.length_set, List.length_set, bRows_len]) (get_set_self (get_set_self z36q)) rfl (by decide) rfl z40q) ?_
 refine aq 31 (q_nilCheck rfl rfl rfl) ?_
 refine af 32 tok ?_
 refine AOps.w rfl rfl (o_store tok rfl rfl rfl rfl rfl rfl (by rw [List.length_set, List.length_set, List.length_set, bRows_len]) (get_set_self (get_set_self (get_set_self z36q))) rfl (by decide) rfl z40q) ?_
 refine an ?_
 exact ⟨[], trivial, rfl, (rh_sub rfl (by decide) ⟨(by (try simp only [hputs]); exact congrArg (fun c => some (AObj.row false 6 [c])) (bCell_upd C w b _).symm), (by (try simp only [hputs]); refine Eq.trans ?_ (congrArg (fun c => some (AObj.row false 5 c)) (bRow_fork hx v to els)); first | rfl | (rw [(show 0 + ((b.now : Nat) : Int).toNat = b.now by omega)]; rfl)), trivial⟩ (fun x_ => by (try simp only [hputs]); (try dsimp only); (repeat (first | refine hput_skip (by exact beq_false_of_ne (by omega)) ?_ | refine hrm_skip (by omega) ?_)); exact (fam_hi _ _ _).trans (fam_eq (bFam_fork b v to els).symm x_)))⟩
set_option maxRecDepth 100000 in
theorem bput_ok (C : Core) (w : Bool) (b : Bd) (x : Block) (hx : b.blocks[b.now]? = some x) (t : Tac) (ht : 0 ≤ t.d) (ht2 : t.d ≤ 1000000000) (hl : x.ins.length ≤ 1000000000) : ACall Try.prog 46 [.ptr 2 1 0 0, .agg t.cells] (RH (bL C w b) (bFam (b).blocks)) (fun r h' => r = .tup [] ∧ HSub (putR 2 hNone (RH (bL C w (b.put t)) (bFam ((b.put t)).blocks))) h') := by
 have hnow := (List.getElem?_eq_some_iff.1 hx).1
 refine ACall.of_body (n := 35) tok Try.func46 rfl rfl ?_
 refine asr ?_
 refine ax 3 (o_box (sz := 8) 0 rfl rfl rfl rfl (Nat.zero_lt_succ _) rfl) ?_
 refine an ?_
 refine AGo.seq ?_
 refine AGo.draw mix ?_
 refine dm 5 ?_
 refine dm 6 ?_
 refine dq 7 (q_nilCheck rfl rfl rfl) ?_
 refine df 8 tok ?_
 refine dl 9 tok ?_
 refine df 10 tok ?_
 refine dl 11 tok ?_
 refine dq 12 (q_bin (r := .int .i64 (t.d + 1)) rfl rfl rfl z29q) ?_
 refine dq 13 (q_max rfl rfl rfl) ?_
 refine dq 14 (q_nilCheck rfl rfl rfl) ?_
 refine df 15 tok ?_
 refine DOps.w rfl rfl (o_store tok rfl rfl rfl rfl rfl rfl rfl rfl rfl (by decide) rfl z40q) ?_
 refine DOps.nil (by kernel_rfl) ?_
 refine AGo.seq ?_
 refine AGo.draw mix ?_
 refine dm 16 ?_
 refine dq 17 (q_nilCheck rfl rfl rfl) ?_
 refine df 18 tok ?_
 refine dl 19 tok ?_
 refine dm 20 ?_
 refine dq 21 (q_nilCheck rfl rfl rfl) ?_
 refine df 22 tok ?_
 refine dl 23 tok ?_
 refine dq 24 (q_index_ref tok rfl rfl rfl rfl rfl rfl rfl (by rw [bRows_len]) rfl (Int.natCast_nonneg _) (by omega)) ?_
 refine da 4 ?_
 refine DOps.nil (by kernel_rfl) ?_
 refine AGo.draw mix ?_
 refine dm 25 ?_
 refine dm 26 ?_
 refine dq 27 (q_nilCheck rfl rfl rfl) ?_
 refine df 28 tok ?_
 refine dq 29 (q_load tok rfl rfl rfl (.ptr _ _ _ _ _ _ _ _ rfl (by rw [bRows_len]) z36q) rfl) ?_
 refine dl 30 tok ?_
 refine dx 31 (o_lit' tok rfl rfl rfl rfl rfl rfl (by decide) rfl rfl rfl rfl rfl rfl) ?_
 refine dx 32 (o_append1R tok (b := b.now + 16) (es := x.ins.map Tac.cells) (x0 := t.cells) rfl rfl rfl rfl rfl rfl rfl rfl (by (try simp only [hputs]); (repeat (first | refine hput_skip (by exact beq_false_of_ne (by omega)) ?_ | refine hrm_skip (by omega) ?_)); exact (fam_hi _ _ _).trans (congrArg some (bFam_at hx))) rfl rfl (Nat.zero_lt_succ _) (tacs_len8 _) (tacs_pure8 _) rfl rfl (by rw [List.length_map]; show _ * 64 ≤ _; omega) (by rw [List.length_map]; simp only [maxLen]; omega)) ?_
 refine dq 33 (q_nilCheck rfl rfl rfl) ?_
 refine df 34 tok ?_
 refine DOps.w rfl rfl (o_store tok (es := bRows b.blocks) (cs := bRow b.now x) rfl rfl rfl rfl rfl z15q (by rw [bRows_len]) z36q rfl (by decide) rfl (by intro h; cases h)) ?_
 refine DOps.nil (by kernel_rfl) ?_
 exact ⟨[], trivial, rfl, (rh_sub rfl (by decide) ⟨(by (try simp only [hputs]); first | exact congrArg (fun c => some (AObj.row false 6 [c])) (bCell_put C w b t).symm | ((try simp only [hputs]); (try dsimp only); repeat (first | refine hput_skip (by exact beq_false_of_ne (by omega)) ?_ | refine hrm_skip (by omega) ?_); exact congrArg (fun c => some (AObj.row false 6 [c])) (bCell_put C w b t).symm)), (by (try simp only [hputs]); first | exact congrArg (fun c => some (AObj.row false 5 c)) (bRow_putR t hx) | (refine Eq.trans ?_ (congrArg (fun c => some (AObj.row false 5 c)) (bRow_putR t hx)); rw [show 0 + ((b.now : Nat) : Int).toNat = b.now by omega]; rfl)), trivial⟩ (fun x_ => by (try simp only [hputs]); (repeat (first | refine hput_skip (by exact beq_false_of_ne (by omega)) ?_ | refine hrm_skip (by omega) ?_)); exact (hput_hi (fun y_ => by (try simp only [hputs]); repeat (first | exact fam_hi _ _ _ | refine hput_skip (by exact beq_false_of_ne (by omega)) ?_ | refine hrm_skip (by omega) ?_)) _ _ x_).trans (congrArg some (bFam_putR hx x_).symm)))⟩
set_option maxRecDepth 100000 in
theorem bnum_ok (C : Core) (w : Bool) (b : Bd) (x : Block) (hx : b.blocks[b.now]? = some x) (hc : b.cnt ≤ 1000000000) (d : Nat) (n : Int) (hd : d ≤ 1000000000) : ACall Try.prog 44 [.ptr 2 1 0 0, .int .i64 (d : Int), .int .u32 n] (RH (bL C w b) (bFam (b).blocks)) (fun r h' => r = .tup [] ∧ HSub (putR 2 hNone (RH (bL C w (b.put (iNum d n))) (bFam ((b.put (iNum d n))).blocks))) h') := by
 refine ACall.of_body (n := 11) tok Try.func44 rfl rfl ?_
 refine AGo.region ?_
 refine am 6 ?_
 refine am 7 ?_
 refine am 8 ?_
 refine aq 9 (q_build tok rfl rfl rfl rfl rfl (by decide) rfl rfl rfl) ?_
 refine AOps.call 10 (hn := putR 2 _ (RH (bL C w (b.put (iNum d n))) (bFam ((b.put (iNum d n))).blocks))) (r := .tup []) rfl rfl rfl (o_callRH 2 (bL C w b) (bL C w (b.put (iNum d n))) (bFam ((b.put (iNum d n))).blocks) rfl Try.func46 (by kernel_rfl) rfl rfl rfl rfl rfl (by decide) (bL_avoid C w _) (bL_avoid C w _) z30q z8q (fun x => bFam_avoid _ x) (fun x => bFam_avoid _ x) rfl (bput_ok C w b x hx (iNum d n) (Int.natCast_nonneg d) (by show (d : Int) ≤ 1000000000; omega) (by have := cnt_ins hx; omega))) ?_
 refine an ?_
 exact ⟨[], trivial, rfl, (rh_sub rfl (by decide) z30q z8q)⟩
set_option maxRecDepth 100000 in
theorem bbin_ok (C : Core) (w : Bool) (b : Bd) (x : Block) (hx : b.blocks[b.now]? = some x) (hc : b.cnt ≤ 1000000000) (op : Int) (d x1 y1 : Nat) (hd : d ≤ 1000000000) : ACall Try.prog 47 [.ptr 2 1 0 0, .int .i64 op, .int .i64 (d : Int), .int .i64 (x1 : Int), .int .i64 (y1 : Int)] (RH (bL C w b) (bFam (b).blocks)) (fun r h' => r = .tup [] ∧ HSub (putR 2 hNone (RH (bL C w (b.put (iBin op d x1 y1))) (bFam ((b.put (iBin op d x1 y1))).blocks))) h') := by
 refine ACall.of_body (n := 17) tok Try.func47 rfl rfl ?_
 refine AGo.region ?_
 refine am 10 ?_
 refine am 11 ?_
 refine am 12 ?_
 refine am 13 ?_
 refine am 14 ?_
 refine aq 15 (q_build tok rfl rfl rfl rfl rfl (by decide) rfl rfl rfl) ?_
 refine AOps.call 16 (hn := putR 2 _ (RH (bL C w (b.put (iBin op d x1 y1))) (bFam ((b.put (iBin op d x1 y1))).blocks))) (r := .tup []) rfl rfl rfl (o_callRH 2 (bL C w b) (bL C w (b.put (iBin op d x1 y1))) (bFam ((b.put (iBin op d x1 y1))).blocks) rfl Try.func46 (by kernel_rfl) rfl rfl rfl rfl rfl (by decide) (bL_avoid C w _) (bL_avoid C w _) z30q z8q (fun x => bFam_avoid _ x) (fun x => bFam_avoid _ x) rfl (bput_ok C w b x hx (iBin op d x1 y1) (Int.natCast_nonneg d) (by show (d : Int) ≤ 1000000000; omega) (by have := cnt_ins hx; omega))) ?_
 refine an ?_
 exact ⟨[], trivial, rfl, (rh_sub rfl (by decide) z30q z8q)⟩
set_option maxRecDepth 100000 in
theorem bstore_ok (C : Core) (w : Bool) (b : Bd) (x : Block) (hx : b.blocks[b.now]? = some x) (hc : b.cnt ≤ 1000000000) (wd : Int) (a : Nat) : ACall Try.prog 49 [.ptr 2 1 0 0, .int .i64 wd, .int .i64 (a : Int)] (RH (bL C w b) (bFam (b).blocks)) (fun r h' => r = .tup [] ∧ HSub (putR 2 hNone (RH (bL C w (b.put (iStore wd a))) (bFam ((b.put (iStore wd a))).blocks))) h') := by
 refine ACall.of_body (n := 11) tok Try.func49 rfl rfl ?_
 refine AGo.region ?_
 refine am 6 ?_
 refine am 7 ?_
 refine am 8 ?_
 refine aq 9 (q_build tok rfl rfl rfl rfl rfl (by decide) rfl rfl rfl) ?_
 refine AOps.call 10 (hn := putR 2 _ (RH (bL C w (b.put (iStore wd a))) (bFam ((b.put (iStore wd a))).blocks))) (r := .tup []) rfl rfl rfl (o_callRH 2 (bL C w b) (bL C w (b.put (iStore wd a))) (bFam ((b.put (iStore wd a))).blocks) rfl Try.func46 (by kernel_rfl) rfl rfl rfl rfl rfl (by decide) (bL_avoid C w _) (bL_avoid C w _) z30q z8q (fun x => bFam_avoid _ x) (fun x => bFam_avoid _ x) rfl (bput_ok C w b x hx (iStore wd a) (Int.le_refl 0) (show (0 : Int) ≤ 1000000000 by decide) (by have := cnt_ins hx; omega))) ?_
 refine an ?_
 exact ⟨[], trivial, rfl, (rh_sub rfl (by decide) z30q z8q)⟩
set_option maxRecDepth 100000 in
theorem bleave_ok (C : Core) (w : Bool) (b : Bd) (x : Block) (hx : b.blocks[b.now]? = some x) (hc : b.cnt ≤ 100000000) : ACall Try.prog 31 [.ptr 2 1 0 0] (RH (bL C w b) (bFam (b).blocks)) (fun r h' => r = .tup [] ∧ HSub (putR 2 hNone (RH (bL C w (b.leave C w)) (bFam ((b.leave C w)).blocks))) h') := by
 refine ACall.of_body (n := 24) tok Try.func31 rfl rfl ?_
 refine AGo.seq ?_
 refine asr ?_
 refine am 2 ?_
 refine aq 3 (q_nilCheck rfl rfl rfl) ?_
 refine af 4 tok ?_
 refine al 5 tok ?_
 refine an ?_
 refine AGo.join (γ := Bd × Block) (fun q => ⟨24, (eput eNew 0 (.ptr 2 1 0 0)), (putR 2 hNone (RH (bL C w q.1) (bFam q.1.blocks)))⟩) (fun q => q.1.blocks[q.1.now]? = some q.2 ∧ q.1.ret = b.leave C w) ?_ ?_
 ·
  refine AGo.split 5 rfl (fun hb1 => ?_) (fun hb1 => ?_)
  ·
   refine act ?_
   have hww : w = true := hb1
   refine asr ?_
   refine am 6 ?_
   refine AOps.call 7 (hn := putR 2 _ (RH (bL C w (b.put (iNum 0 0))) (bFam ((b.put (iNum 0 0))).blocks))) (r := .tup []) rfl rfl rfl (o_callRH 2 (bL C w b) (bL C w (b.put (iNum 0 0))) (bFam ((b.put (iNum 0 0))).blocks) rfl Try.func44 (by kernel_rfl) rfl rfl rfl rfl rfl (by decide) (bL_avoid C w _) (bL_avoid C w _) z30q z8q (fun x => bFam_avoid _ x) (fun x => bFam_avoid _ x) rfl (bnum_ok C w b x hx (by omega) 0 0 (by omega))) ?_
   refine an ?_
   refine AGo.region ?_
   refine am 8 ?_
   refine am 9 ?_
   refine aq 10 (q_nilCheck rfl rfl rfl) ?_
   refine af 11 tok ?_
   refine al 12 tok ?_
   refine AOps.call 13 (hn := putR 2 _ (RH (bL C w ((b.put (iNum 0 0)).put (iStore C.words 0))) (bFam (((b.put (iNum 0 0)).put (iStore C.words 0))).blocks))) (r := .tup []) rfl rfl rfl (o_callRH 2 (bL C w (b.put (iNum 0 0))) (bL C w ((b.put (iNum 0 0)).put (iStore C.words 0))) (bFam (((b.put (iNum 0 0)).put (iStore C.words 0))).blocks) rfl Try.func49 (by kernel_rfl) rfl rfl rfl rfl rfl (by decide) (bL_avoid C w _) (bL_avoid C w _) z30q z8q (fun x => bFam_avoid _ x) (fun x => bFam_avoid _ x) rfl (bstore_ok C w (b.put (iNum 0 0)) _ (put_at hx) (by rw [cnt_put _ hx]; omega) C.words 0)) ?_
   refine an ?_
   exact ⟨(((b.put (iNum 0 0)).put (iStore C.words 0)), _), Sub.mk' z34q (rh_sub rfl (by decide) z30q z8q), ⟨put_at (put_at hx), by unfold Bd.leave; rw [hww]; rfl⟩⟩
  ·
   refine acf ?_
   have hww : w = false := hb1
   refine AGo.skip ?_
   exact ⟨(b, x), Sub.mk' z34q (rh_sub rfl (by decide) z30q z8q), ⟨hx, by unfold Bd.leave; rw [hww]; rfl⟩⟩
 intro q hQ
 have hx := hQ.1
 have hnow := (List.getElem?_eq_some_iff.1 hx).1
 rw [← hQ.2]
 refine AGo.draw mix ?_
 refine dm 14 ?_
 refine dq 15 (q_nilCheck rfl rfl rfl) ?_
 refine df 16 tok ?_
 refine dl 17 tok ?_
 refine dm 18 ?_
 refine dq 19 (q_nilCheck rfl rfl rfl) ?_
 refine df 20 tok ?_
 refine dl 21 tok ?_
 refine dq 22 (q_index_ref tok rfl rfl rfl rfl rfl rfl rfl (by rw [bRows_len]) rfl (Int.natCast_nonneg _) (by omega)) ?_
 refine df 23 tok ?_
 refine DOps.w rfl rfl (o_store tok rfl rfl rfl rfl rfl rfl (by rw [bRows_len]) z36q rfl (by decide) rfl z40q) ?_
 refine DOps.nil (by kernel_rfl) ?_
 exact ⟨[], trivial, rfl, (rh_sub rfl (by decide) ⟨(by (try simp only [hputs]); exact congrArg (fun c => some (AObj.row false 6 [c])) (bCell_upd C w q.1 _).symm), (by (try simp only [hputs]); refine Eq.trans ?_ (congrArg (fun c => some (AObj.row false 5 c)) (bRow_ret hx)); first | rfl | (rw [(show 0 + ((q.1.now : Nat) : Int).toNat = q.1.now by omega)]; rfl)), trivial⟩ (fun x_ => by (try simp only [hputs]); (try dsimp only); (repeat (first | refine hput_skip (by exact beq_false_of_ne (by omega)) ?_ | refine hrm_skip (by omega) ?_)); exact (putR_hi _ _ _ x_).trans ((fam_hi _ _ _).trans (fam_eq (bFam_ret q.1).symm x_))))⟩
set_option maxRecDepth 100000 in
theorem bnot_ok (C : Core) (w : Bool) (b : Bd) (x : Block) (hx : b.blocks[b.now]? = some x) (hc : b.cnt ≤ 100000000) (d : Nat) (hd : d ≤ 100000000) : ACall Try.prog 87 [.ptr 2 1 0 0, .int .i64 (d : Int)] (RH (bL C w b) (bFam (b).blocks)) (fun r h' => r = .tup [] ∧ HSub (putR 2 hNone (RH (bL C w (b.not d)) (bFam ((b.not d)).blocks))) h') := by
 refine ACall.of_body (n := 14) tok Try.func87 rfl rfl ?_
 refine asr ?_
 refine am 4 ?_
 refine am 5 ?_
 refine aq 6 (q_bin (r := .int .i64 (((d + 1 : Nat) : Int))) rfl rfl rfl z28q) ?_
 refine AOps.call 7 (hn := putR 2 _ (RH (bL C w (b.put (iNum (d + 1) 0))) (bFam ((b.put (iNum (d + 1) 0))).blocks))) (r := .tup []) rfl rfl rfl (o_callRH 2 (bL C w b) (bL C w (b.put (iNum (d + 1) 0))) (bFam ((b.put (iNum (d + 1) 0))).blocks) rfl Try.func44 (by kernel_rfl) rfl rfl rfl rfl rfl (by decide) (bL_avoid C w _) (bL_avoid C w _) z30q z8q (fun x => bFam_avoid _ x) (fun x => bFam_avoid _ x) rfl (bnum_ok C w b x hx (by omega) (d + 1) 0 (by omega))) ?_
 refine an ?_
 refine AGo.region ?_
 refine am 8 ?_
 refine am 9 ?_
 refine am 10 ?_
 refine am 11 ?_
 refine aq 12 (q_bin (r := .int .i64 (((d + 1 : Nat) : Int))) rfl rfl rfl z28q) ?_
 refine AOps.call 13 (hn := putR 2 _ (RH (bL C w (b.not d)) (bFam ((b.not d)).blocks))) (r := .tup []) rfl rfl rfl (o_callRH 2 (bL C w (b.put (iNum (d + 1) 0))) (bL C w (b.not d)) (bFam ((b.not d)).blocks) rfl Try.func47 (by kernel_rfl) rfl rfl rfl rfl rfl (by decide) (bL_avoid C w _) (bL_avoid C w _) z30q z8q (fun x => bFam_avoid _ x) (fun x => bFam_avoid _ x) rfl (bbin_ok C w (b.put (iNum (d + 1) 0)) _ (put_at hx) (by rw [cnt_put _ hx]; omega) 15 d d (d + 1) (by omega))) ?_
 refine an ?_
 exact ⟨[], trivial, rfl, (rh_sub rfl (by decide) z30q z8q)⟩
set_option maxRecDepth 100000 in
theorem inside1_ok (C : Core) (w : Bool) (b : Bd) (o4 o5 o6 : AObj) (hO : Ext o4 o5 o6) (n : Int) : ACall Try.prog 103 ([] ++ [.int .i64 n] ++ [.ptr 8 1 0 0]) (RH (bL8 C w b o4 o5 o6 .free) (bFam (b).blocks)) (fun r h' => r = .fn (.func 104) [] [.ptr 9 1 0 0, .ptr 8 1 0 0] ∧ HSub (putR 8 hNone (RH (bL8 C w b o4 o5 o6 (.row false 1 [[.int .i64 n]])) (bFam (b).blocks))) h') := by
 refine ACall.of_body (n := 5) tok Try.func103 rfl rfl ?_
 refine asr ?_
 refine ax 2 (o_box (sz := 1) 9 rfl rfl rfl rfl (Nat.zero_lt_succ _) rfl) ?_
 refine AOps.blank 3 rfl rfl rfl rfl ?_
 refine an ?_
 refine asr ?_
 refine aq 4 (q_makeFunc rfl rfl rfl) ?_
 refine aa 3 ?_
 refine an ?_
 refine AGo.ret ?_
 exact ⟨[_], ⟨rfl, trivial⟩, rfl, (rh_sub rfl (by decide) z30q z8q)⟩
set_option maxRecDepth 100000 in
theorem inside2_ok (C : Core) (w : Bool) (b : Bd) (o4 o5 o6 : AObj) (hO : Ext o4 o5 o6) (n : Nat) : ACall Try.prog 104 ([] ++ [] ++ [.ptr 9 1 0 0, .ptr 8 1 0 0]) (RH (bL8 C w b o4 o5 o6 (.row false 1 [[.int .i64 (n : Int)]])) (bFam (b).blocks)) (fun r h' => r = .tup [] ∧ HSub (putR 8 hNone (RH (bL8 C w (b.go n) o4 o5 o6 (.row false 1 [[.int .i64 (n : Int)]])) (bFam (b).blocks))) h') := by
 refine ACall.of_body (n := 6) tok Try.func104 rfl rfl ?_
 refine AGo.region ?_
 refine al 2 tok ?_
 refine al 3 tok ?_
 refine aq 4 (q_nilCheck rfl rfl rfl) ?_
 refine af 5 tok ?_
 refine AOps.w rfl rfl (o_store tok rfl rfl rfl rfl rfl rfl rfl rfl rfl (by decide) rfl z40q) ?_
 refine an ?_
 exact ⟨[], trivial, rfl, (rh_sub rfl (by decide) z30q z8q)⟩
set_option maxHeartbeats 1000000 in
set_option maxRecDepth 100000 in
theorem binside_ok (C : Core) (w : Bool) (b : Bd) (o4 o5 o6 : AObj) (hO : Ext o4 o5 o6) (blk to : Nat) (g : FuncId) (fn : Func) (hg : Try.prog.funcs[g]? = some fn) (hgn : (fn.name == "runtime.NumGoroutine") = false) (hgb : fn.body.isSome = true) (cs : List AV) (hcs : cs.all (AV.avoid (kR 5)) = true) (b1 : Bd) (x1 : Block) (hx1 : b1.blocks[b1.now]? = some x1)
    (hdo : ACall Try.prog g ([] ++ [] ++ cs) (RH (bL5 C w (b.go blk) o4 o5 o6) (bFam (b).blocks)) (fun r h' => r = .tup [] ∧ HSub (putR 5 hNone (RH (bL5 C w b1 o4 o5 o6) (bFam (b1).blocks))) h')) : ACall Try.prog 89 [.ptr 2 1 0 0, .int .i64 (blk : Int), .int .i64 (to : Int), .fn (.func g) [] cs] (RH (bL5 C w b o4 o5 o6) (bFam (b).blocks)) (fun r h' => r = .tup [] ∧ HSub (putR 5 hNone (RH (bL5 C w ((b1.jump to).go b.now) o4 o5 o6) (bFam ((b1.jump to)).blocks))) h') := by
 refine ACall.of_body (n := 26) tok Try.func89 rfl rfl ?_
 refine asr ?_
 refine ax 4 (o_box (sz := 1) 8 rfl rfl rfl rfl (Nat.zero_lt_succ _) rfl) ?_
 refine an ?_
 refine asr ?_
 refine aq 9 (q_makeFunc rfl rfl rfl) ?_
 refine al 10 tok ?_
 refine aq 11 (q_nilCheck rfl rfl rfl) ?_
 refine af 12 tok ?_
 refine al 13 tok ?_
 refine AOps.call 14 (hn := putR 8 _ (RH (bL8 C w b o4 o5 o6 (.row false 1 [[.int .i64 (b.now : Int)]])) (bFam (b).blocks))) (r := .fn (.func 104) [] [.ptr 9 1 0 0, .ptr 8 1 0 0]) rfl rfl rfl (o_callRF 8 (bL8 C w b o4 o5 o6 .free) (bL8 C w b o4 o5 o6 (.row false 1 [[.int .i64 (b.now : Int)]])) (bFam (b).blocks) rfl rfl Try.func103 (by kernel_rfl) rfl rfl rfl rfl rfl (by decide) (bL8_avoid C w _ hO rfl) (bL8_avoid C w _ hO rfl) z30q z8q (fun x => bFam_avoid _ x) (fun x => bFam_avoid _ x) rfl (inside1_ok C w b o4 o5 o6 hO (b.now : Int))) ?_
 refine aa 8 ?_
 refine an ?_
 refine asr ?_
 refine al 15 tok ?_
 refine am 16 ?_
 refine aq 17 (q_nilCheck rfl rfl rfl) ?_
 refine af 18 tok ?_
 refine AOps.w rfl rfl (o_store tok rfl rfl rfl rfl rfl rfl rfl rfl rfl (by decide) rfl z40q) ?_
 refine an ?_
 refine asr ?_
 refine am 19 ?_
 refine AOps.call 20 (hn := putR 5 _ (RH (bL5 C w b1 o4 o5 o6) (bFam (b1).blocks))) (r := .tup []) rfl rfl rfl (o_callRF 5 (bL5 C w (b.go blk) o4 o5 o6) (bL5 C w b1 o4 o5 o6) (bFam (b1).blocks) rfl rfl hg hgn hgb rfl (by simpa using hcs) rfl rfl (by decide) (bL5_avoid C w _ hO) (bL5_avoid C w _ hO) z30q z8q (fun x => bFam_avoid _ x) (fun x => bFam_avoid _ x) rfl (hdo)) ?_
 refine an ?_
 refine asr ?_
 refine al 21 tok ?_
 refine am 22 ?_
 refine AOps.call 23 (hn := putR 2 _ (RH (bL C w (b1.jump to)) (bFam ((b1.jump to)).blocks))) (r := .tup []) rfl rfl rfl (o_callRH 2 (bL C w b1) (bL C w (b1.jump to)) (bFam ((b1.jump to)).blocks) rfl Try.func45 (by kernel_rfl) rfl rfl rfl rfl rfl (by decide) (bL_avoid C w _) (bL_avoid C w _) z30q z8q (fun x => bFam_avoid _ x) (fun x => bFam_avoid _ x) rfl (bjump_ok C w b1 x1 hx1 to)) ?_
 refine an ?_
 refine AGo.region ?_
 refine am 24 ?_
 refine AOps.call 25 (hn := putR 8 _ (RH (bL8 C w ((b1.jump to).go b.now) o4 o5 o6 (.row false 1 [[.int .i64 (b.now : Int)]])) (bFam ((b1.jump to)).blocks))) (r := .tup []) rfl rfl rfl (o_callRF 8 (bL8 C w (b1.jump to) o4 o5 o6 (.row false 1 [[.int .i64 (b.now : Int)]])) (bL8 C w ((b1.jump to).go b.now) o4 o5 o6 (.row false 1 [[.int .i64 (b.now : Int)]])) (bFam ((b1.jump to)).blocks) rfl rfl Try.func104 (by kernel_rfl) rfl rfl rfl rfl rfl (by decide) (bL8_avoid C w _ hO rfl) (bL8_avoid C w _ hO rfl) z30q z8q (fun x => bFam_avoid _ x) (fun x => bFam_avoid _ x) rfl (inside2_ok C w (b1.jump to) o4 o5 o6 hO b.now)) ?_
 refine an ?_
 exact ⟨[], trivial, rfl, (rh_sub rfl (by decide) z30q z8q)⟩
set_option maxHeartbeats 1000000 in
set_option maxRecDepth 100000 in
theorem bcall_step (C : Core) (w : Bool) (b : Bd) (g : Int) (gf : CFn) (l : List CE) (d : Nat) (hg0 : 0 ≤ g) (hgf : C.funcs[g.toNat]? = some gf) (hf0 : 0 ≤ gf.first) (hf1 : gf.first ≤ 1000000) (hl6 : l.length ≤ 6) (hP : ∀ k, k ≤ l.length → Pl (CE.buildL C (l.take k) d b)) (hc : (CE.buildL C l d b).cnt ≤ 90000000) (hd : d ≤ 90000000) (hV : ∀ (k : Nat) (x : CE), l[k]? = some x → ACall Try.prog 64 [.ptr 2 1 0 0, .loc x.row, .int .i64 ((d + k : Nat) : Int)] (RH (bL C w (CE.buildL C (l.take k) d b)) (bFam ((CE.buildL C (l.take k) d b)).blocks)) (fun r h' => r = .tup [] ∧ HSub (putR 2 hNone (RH (bL C w (x.build C (d + k) (CE.buildL C (l.take k) d b))) (bFam ((x.build C (d + k) (CE.buildL C (l.take k) d b))).blocks))) h')) : ACall Try.prog 65 [.ptr 2 1 0 0, .int .i64 g, (.lst false (l.map CE.cells)), .int .i64 (d : Int)] (RH (bL C w b) (bFam (b).blocks)) (fun r h' => r = .tup [] ∧ HSub (putR 2 hNone (RH (bL C w ((CE.buildL C l d b).called C g l.length d)) (bFam (((CE.buildL C l d b).called C g l.length d)).blocks))) h') := by
 have hcf : C.first g = gf.first := fn_first hgf
 have hPl : Pl (CE.buildL C l d b) := by have h := hP l.length (Nat.le_refl _); rwa [List.take_length] at h
 refine ACall.of_body (n := 49) tok Try.func65 rfl rfl ?_
 refine AGo.seq ?_
 refine asr ?_
 refine am 10 ?_
 refine aq 11 (q_len tok rfl rfl rfl rfl rfl) ?_
 refine am 12 ?_
 refine an ?_
 refine AGo.block ?_
 refine AGo.loopK (γ := Nat) (kf 4) (fun k => ⟨49, (eput (eput (eput (eput (eput (eput eNew 0 (.ptr 2 1 0 0)) 1 (.int .i64 g)) 2 (.lst false (l.map CE.cells))) 3 (.int .i64 (d : Int))) 11 (.int .i64 ((l.map CE.cells).length : Int))) 12 (.int .i64 (k : Int))), (fam (nb [.free, .free, (.row false 6 [bCell C w (CE.buildL C (l.take k) d b)]), (.row false 5 (bRows ((CE.buildL C (l.take k) d b)).blocks))]) (bFam ((CE.buildL C (l.take k) d b)).blocks))⟩) (fun k => k ≤ l.length) (fun k => l.length - k) 0 (Sub.mk' z34q (famSub (k0 := 4) rfl (by repeat (first | exact trivial | refine ⟨⟨by first | rfl | (rw [List.take_zero, CE.buildL]; rfl), by first | rfl | exact bRows_avoid (fun x_ => kf_hi 4 x_) _⟩, ?_⟩)) (fun x_ => by rw [List.take_zero, CE.buildL]; exact fam_hi _ _ _) (fun c h1 h2 => by rcases (by omega : c = 4 ∨ c = 5 ∨ c = 6 ∨ c = 7 ∨ c = 8 ∨ c = 9 ∨ c = 10 ∨ c = 11 ∨ c = 12 ∨ c = 13 ∨ c = 14 ∨ c = 15) with rfl | rfl | rfl | rfl | rfl | rfl | rfl | rfl | rfl | rfl | rfl | rfl <;> first | rfl | (try simp only [hputs]; repeat (first | rfl | refine hput_skip (by exact beq_false_of_ne (by omega)) ?_ | refine hrm_skip (by omega) ?_))))) (Nat.zero_le _) (fun g b hb => famFree (k0 := 4) rfl hb) ?_
 intro k hk
 refine asr ?_
 refine aqb ?_
 refine an ?_
 refine AGo.seq ?_
 refine AGo.split 13 rfl (fun hb1 => ?_) (fun hb1 => ?_)
 ·
  refine act ?_
  have hkl : k < l.length := lt_of_idx hb1
  obtain ⟨x, hx⟩ := get_of_lt hkl
  have hbk := buildL_take (C := C) hx d b
  refine AGo.skip ?_
  refine AGo.seq ?_
  refine AGo.block ?_
  refine asr ?_
  refine am 14 ?_
  refine aa 8 ?_
  refine an ?_
  refine AGo.region ?_
  refine am 15 ?_
  refine am 16 ?_
  refine am 17 ?_
  refine aq 18 (q_index_lst tok rfl rfl rfl rfl rfl rfl (Int.natCast_nonneg _) (idxE hx) rfl) ?_
  refine am 19 ?_
  refine am 20 ?_
  refine aq 21 (q_bin (r := .int .i64 (((d + k : Nat) : Int))) rfl rfl rfl z28q) ?_
  refine AOps.call 22 (hn := putR 2 _ (RH (bL C w (x.build C (d + k) (CE.buildL C (l.take k) d b))) (bFam ((x.build C (d + k) (CE.buildL C (l.take k) d b))).blocks))) (r := .tup []) rfl rfl rfl (o_callRH 2 (bL C w (CE.buildL C (l.take k) d b)) (bL C w (x.build C (d + k) (CE.buildL C (l.take k) d b))) (bFam ((x.build C (d + k) (CE.buildL C (l.take k) d b))).blocks) rfl Try.func64 (by kernel_rfl) rfl rfl rfl rfl rfl (by decide) (bL_avoid C w _) (bL_avoid C w _) z30q z8q (fun x => bFam_avoid _ x) (fun x => bFam_avoid _ x) rfl (hV k x hx)) ?_
  refine an ?_
  refine AGo.region ?_
  refine aq 23 (q_inc rfl rfl hkl (by simp only [maxLen]; omega)) ?_
  refine am 12 ?_
  refine an ?_
  exact ⟨k+1, DropK.mk' z31q (famDrop (k0 := 4) rfl (by repeat (first | exact trivial | refine ⟨⟨by first | rfl | (rw [hbk]; first | rfl | exact putR_yes rfl), by first | rfl | exact bRows_avoid (fun x_ => kf_hi 4 x_) _⟩, ?_⟩)) (fun x_ => by rw [hbk]; (try simp only [hputs]); (try dsimp only); first | exact fam_hi _ _ _ | exact (putR_hi _ _ _ x_).trans (fam_hi _ _ _)) (fun x_ => bFam_avoid _ x_)), hkl, by omega⟩
 ·
  refine acf ?_
  have hke : k = l.length := Nat.le_antisymm hk (ge_of_idx hb1)
  refine AGo.exit ?_
  refine AGo.seq ?_
  refine asr ?_
  refine am 24 ?_
  refine aq 25 (q_len tok rfl rfl rfl rfl rfl) ?_
  refine am 26 ?_
  refine an ?_
  refine AGo.block ?_
  refine AGo.loopK (γ := Nat) (kf 4) (fun k => ⟨49, (eput (eput (eput (eput (eput (eput eNew 0 (.ptr 2 1 0 0)) 1 (.int .i64 g)) 2 (.lst false (l.map CE.cells))) 3 (.int .i64 (d : Int))) 25 (.int .i64 ((l.map CE.cells).length : Int))) 26 (.int .i64 (k : Int))), (fam (nb [.free, .free, (.row false 6 [bCell C w ((CE.buildL C l d b).args gf.first d k)]), (.row false 5 (bRows (((CE.buildL C l d b).args gf.first d k)).blocks))]) (bFam (((CE.buildL C l d b).args gf.first d k)).blocks))⟩) (fun k => k ≤ l.length) (fun k => l.length - k) 0 (Sub.mk' z34q (famSub (k0 := 4) rfl (by repeat (first | exact trivial | refine ⟨⟨by first | rfl | (subst hke; rw [List.take_length]; rfl), by first | rfl | exact bRows_avoid (fun x_ => kf_hi 4 x_) _⟩, ?_⟩)) (fun x_ => by subst hke; rw [List.take_length]; exact fam_hi _ _ _) (fun c h1 h2 => by rcases (by omega : c = 4 ∨ c = 5 ∨ c = 6 ∨ c = 7 ∨ c = 8 ∨ c = 9 ∨ c = 10 ∨ c = 11 ∨ c = 12 ∨ c = 13 ∨ c = 14 ∨ c = 15) with rfl | rfl | rfl | rfl | rfl | rfl | rfl | rfl | rfl | rfl | rfl | rfl <;> first | rfl | (try simp only [hputs]; repeat (first | rfl | refine hput_skip (by exact beq_false_of_ne (by omega)) ?_ | refine hrm_skip (by omega) ?_))))) (Nat.zero_le _) (fun g b hb => famFree (k0 := 4) rfl hb) ?_
  intro k hk
  refine asr ?_
  refine aqb ?_
  refine an ?_
  refine AGo.seq ?_
  refine AGo.split 27 rfl (fun hb2 => ?_) (fun hb2 => ?_)
  ·
   refine act ?_
   have hkl : k < l.length := lt_of_idx hb2
   obtain ⟨z, hz⟩ := (args_pl hPl gf.first d k).cur
   refine AGo.skip ?_
   refine AGo.seq ?_
   refine AGo.block ?_
   refine asr ?_
   refine am 28 ?_
   refine aa 9 ?_
   refine an ?_
   refine AGo.region ?_
   refine am 29 ?_
   refine am 30 ?_
   refine aq 31 (q_nilCheck rfl rfl rfl) ?_
   refine af 32 tok ?_
   refine al 33 tok ?_
   refine am 34 ?_
   refine aq 35 (q_index_lst tok rfl rfl rfl rfl rfl rfl hg0 (idx_map2 hgf) rfl) ?_
   refine af 36 tok ?_
   refine al 37 tok ?_
   refine am 38 ?_
   refine aq 39 (q_bin (r := .int .i64 (gf.first + (k : Int))) rfl rfl rfl z29q) ?_
   refine am 40 ?_
   refine am 41 ?_
   refine aq 42 (q_bin (r := .int .i64 (((d + k : Nat) : Int))) rfl rfl rfl z28q) ?_
   refine AOps.call 43 (hn := putR 2 _ (RH (bL C w (((CE.buildL C l d b).args gf.first d k).put (iStore (gf.first + k) (d + k)))) (bFam ((((CE.buildL C l d b).args gf.first d k).put (iStore (gf.first + k) (d + k)))).blocks))) (r := .tup []) rfl rfl rfl (o_callRH 2 (bL C w ((CE.buildL C l d b).args gf.first d k)) (bL C w (((CE.buildL C l d b).args gf.first d k).put (iStore (gf.first + k) (d + k)))) (bFam ((((CE.buildL C l d b).args gf.first d k).put (iStore (gf.first + k) (d + k)))).blocks) rfl Try.func49 (by kernel_rfl) rfl rfl rfl rfl rfl (by decide) (bL_avoid C w _) (bL_avoid C w _) z30q z8q (fun x => bFam_avoid _ x) (fun x => bFam_avoid _ x) rfl (bstore_ok C w ((CE.buildL C l d b).args gf.first d k) z hz (by have := cnt_args (CE.buildL C l d b) gf.first d k; omega) (gf.first + k) (d + k))) ?_
   refine an ?_
   refine AGo.region ?_
   refine aq 44 (q_inc rfl rfl hkl (by simp only [maxLen]; omega)) ?_
   refine am 26 ?_
   refine an ?_
   exact ⟨k+1, DropK.mk' z31q (famDrop (k0 := 4) rfl z21q z23q (fun x_ => bFam_avoid _ x_)), hkl, by omega⟩
  ·
   refine acf ?_
   have hke2 : k = l.length := Nat.le_antisymm hk (ge_of_idx hb2)
   subst hke2
   obtain ⟨z, hz⟩ := (args_pl hPl gf.first d l.length).cur
   refine AGo.exit ?_
   refine AGo.region ?_
   refine am 45 ?_
   refine am 46 ?_
   refine aq 47 (q_build tok rfl rfl rfl rfl rfl (by decide) rfl rfl rfl) ?_
   refine AOps.call 48 (hn := putR 2 _ (RH (bL C w (((CE.buildL C l d b).args gf.first d l.length).put (iCall g))) (bFam ((((CE.buildL C l d b).args gf.first d l.length).put (iCall g))).blocks))) (r := .tup []) rfl rfl rfl (o_callRH 2 (bL C w ((CE.buildL C l d b).args gf.first d l.length)) (bL C w (((CE.buildL C l d b).args gf.first d l.length).put (iCall g))) (bFam ((((CE.buildL C l d b).args gf.first d l.length).put (iCall g))).blocks) rfl Try.func46 (by kernel_rfl) rfl rfl rfl rfl rfl (by decide) (bL_avoid C w _) (bL_avoid C w _) z30q z8q (fun x => bFam_avoid _ x) (fun x => bFam_avoid _ x) rfl (bput_ok C w _ z hz (iCall g) (Int.le_refl 0) (show (0 : Int) ≤ 1000000000 by decide) (by have := cnt_ins hz; have := cnt_args (CE.buildL C l d b) gf.first d l.length; omega))) ?_
   refine an ?_
   have e1 : (CE.buildL C l d b).called C g l.length d = (((CE.buildL C l d b).args gf.first d l.length).put (iCall g)) := by unfold Bd.called; rw [hcf]
   rw [e1]
   exact ⟨[], trivial, rfl, (rh_sub rfl (by decide) z30q z8q)⟩
set_option maxHeartbeats 1000000 in
set_option maxRecDepth 100000 in
theorem btruth_ok (C : Core) (w : Bool) (b : Bd) (e : CE) (d : Nat) (hP : Pl (e.build C d b)) (hc : (e.build C d b).cnt ≤ 90000000) (hd : d ≤ 90000000) (hV : ACall Try.prog 64 [.ptr 2 1 0 0, .loc e.row, .int .i64 (d : Int)] (RH (bL C w b) (bFam (b).blocks)) (fun r h' => r = .tup [] ∧ HSub (putR 2 hNone (RH (bL C w (e.build C d b)) (bFam ((e.build C d b)).blocks))) h')) : ACall Try.prog 101 [.ptr 2 1 0 0, .loc e.row, .int .i64 (d : Int)] (RH (bL C w b) (bFam (b).blocks)) (fun r h' => r = .tup [] ∧ HSub (putR 2 hNone (RH (bL C w ((e.build C d b).truth e d)) (bFam (((e.build C d b).truth e d)).blocks))) h') := by
 obtain ⟨x, hx⟩ := hP.cur
 refine ACall.of_body (n := 48) tok Try.func101 rfl rfl ?_
 refine asr ?_
 refine am 6 ?_
 refine am 7 ?_
 refine am 8 ?_
 refine AOps.call 9 (hn := putR 2 _ (RH (bL C w (e.build C d b)) (bFam ((e.build C d b)).blocks))) (r := .tup []) rfl rfl rfl (o_callRH 2 (bL C w b) (bL C w (e.build C d b)) (bFam ((e.build C d b)).blocks) rfl Try.func64 (by kernel_rfl) rfl rfl rfl rfl rfl (by decide) (bL_avoid C w _) (bL_avoid C w _) z30q z8q (fun x => bFam_avoid _ x) (fun x => bFam_avoid _ x) rfl (hV)) ?_
 refine an ?_
 refine AGo.seq ?_
 refine asr ?_
 refine am 10 ?_
 refine aq 11 (q_nilCheck rfl rfl rfl) ?_
 refine af 12 tok ?_
 refine al 13 tok ?_
 refine an ?_
 refine AGo.block ?_
 refine AGo.seq ?_
 refine asr ?_
 refine aqb ?_
 refine aa 14 ?_
 refine an ?_
 refine AGo.split 14 rfl (fun hb1 => ?_) (fun hb1 => ?_)
 ·
  refine act ?_
  refine AGo.skip ?_
  refine act ?_
  refine AGo.ret ?_
  have hfl : e.flagged = true := by unfold CE.flagged; simp_all
  rw [truth_yes hfl]
  exact ⟨[], trivial, rfl, (rh_sub rfl (by decide) z30q z8q)⟩
 ·
  refine acf ?_
  refine asr ?_
  refine aqb ?_
  refine aa 14 ?_
  refine an ?_
  refine AGo.split 14 rfl (fun hb2 => ?_) (fun hb2 => ?_)
  ·
   refine act ?_
   refine AGo.skip ?_
   refine act ?_
   refine AGo.ret ?_
   have hfl : e.flagged = true := by unfold CE.flagged; simp_all
   rw [truth_yes hfl]
   exact ⟨[], trivial, rfl, (rh_sub rfl (by decide) z30q z8q)⟩
  ·
   refine acf ?_
   refine AGo.region ?_
   refine aqb ?_
   refine aa 14 ?_
   refine an ?_
   refine AGo.split 14 rfl (fun hb3 => ?_) (fun hb3 => ?_)
   ·
    refine act ?_;refine AGo.ret ?_
    have hfl : e.flagged = true := by unfold CE.flagged; simp_all
    rw [truth_yes hfl]
    exact ⟨[], trivial, rfl, (rh_sub rfl (by decide) z30q z8q)⟩
   ·
    refine acf ?_;refine asr ?_;refine aqb ?_;refine aa 18 ?_;refine an ?_;refine AGo.split 18 rfl (fun hb4 => ?_) (fun hb4 => ?_)
    ·
     refine act ?_;refine asr ?_;refine am 20 ?_;refine aq 21 (q_nilCheck rfl rfl rfl) ?_;refine af 22 tok ?_;refine al 23 tok ?_;refine aqb ?_;refine am 25 ?_;refine AOps.split 25 rfl (fun hb5 => ?_) (fun hb5 => ?_)
     ·
      iterate 5 refine ak _ ?_
      refine apt ?_;refine an ?_;refine act ?_;refine AGo.ret ?_
      have hfl : e.flagged = true := by unfold CE.flagged; simp_all
      rw [truth_yes hfl]
      exact ⟨[], trivial, rfl, (rh_sub rfl (by decide) z30q z8q)⟩
     ·
      refine am 26 ?_;refine aq 27 (q_nilCheck rfl rfl rfl) ?_;refine af 28 tok ?_;refine al 29 tok ?_;refine aqb ?_;refine apf ?_;refine an ?_;refine AGo.split 31 rfl (fun hb6 => ?_) (fun hb6 => ?_)
      ·
       refine act ?_;refine AGo.ret ?_
       have hfl : e.flagged = true := by unfold CE.flagged; simp_all
       rw [truth_yes hfl]
       exact ⟨[], trivial, rfl, (rh_sub rfl (by decide) z30q z8q)⟩
      ·
       refine acf ?_;refine AGo.skip ?_;refine asr ?_;refine am 32 ?_;refine am 33 ?_;refine aq 34 (q_bin (r := .int .i64 (((d + 1 : Nat) : Int))) rfl rfl rfl z28q) ?_;refine AOps.call 35 (hn := putR 2 _ (RH (bL C w ((e.build C d b).put (iNum (d + 1) 0))) (bFam (((e.build C d b).put (iNum (d + 1) 0))).blocks))) (r := .tup []) rfl rfl rfl (o_callRH 2 (bL C w (e.build C d b)) (bL C w ((e.build C d b).put (iNum (d + 1) 0))) (bFam (((e.build C d b).put (iNum (d + 1) 0))).blocks) rfl Try.func44 (by kernel_rfl) rfl rfl rfl rfl rfl (by decide) (bL_avoid C w _) (bL_avoid C w _) z30q z8q (fun x => bFam_avoid _ x) (fun x => bFam_avoid _ x) rfl (bnum_ok C w _ x hx (by omega) (d + 1) 0 (by omega))) ?_;refine an ?_;refine asr ?_;refine am 36 ?_;refine am 37 ?_;refine am 38 ?_;refine am 39 ?_;refine aq 40 (q_bin (r := .int .i64 (((d + 1 : Nat) : Int))) rfl rfl rfl z28q) ?_;refine AOps.call 41 (hn := putR 2 _ (RH (bL C w ((e.build C d b).not d)) (bFam (((e.build C d b).not d)).blocks))) (r := .tup []) rfl rfl rfl (o_callRH 2 (bL C w ((e.build C d b).put (iNum (d + 1) 0))) (bL C w ((e.build C d b).not d)) (bFam (((e.build C d b).not d)).blocks) rfl Try.func47 (by kernel_rfl) rfl rfl rfl rfl rfl (by decide) (bL_avoid C w _) (bL_avoid C w _) z30q z8q (fun x => bFam_avoid _ x) (fun x => bFam_avoid _ x) rfl (bbin_ok C w ((e.build C d b).put (iNum (d + 1) 0)) _ (put_at hx) (by rw [cnt_put _ hx]; omega) 15 d d (d + 1) (by omega))) ?_
       refine an ?_;refine AGo.region ?_;refine am 42 ?_;refine am 43 ?_;refine am 44 ?_;refine am 45 ?_;refine aq 46 (q_bin (r := .int .i64 (((d + 1 : Nat) : Int))) rfl rfl rfl z28q) ?_;refine AOps.call 47 (hn := putR 2 _ (RH (bL C w (((e.build C d b).not d).put (iBin 15 d d (d + 1)))) (bFam ((((e.build C d b).not d).put (iBin 15 d d (d + 1)))).blocks))) (r := .tup []) rfl rfl rfl (o_callRH 2 (bL C w ((e.build C d b).not d)) (bL C w (((e.build C d b).not d).put (iBin 15 d d (d + 1)))) (bFam ((((e.build C d b).not d).put (iBin 15 d d (d + 1)))).blocks) rfl Try.func47 (by kernel_rfl) rfl rfl rfl rfl rfl (by decide) (bL_avoid C w _) (bL_avoid C w _) z30q z8q (fun x => bFam_avoid _ x) (fun x => bFam_avoid _ x) rfl (bbin_ok C w ((e.build C d b).not d) _ (put_at (put_at hx)) (by have := cnt_not (e.build C d b) d; omega) 15 d d (d + 1) (by omega))) ?_;refine an ?_
       have hfl : e.flagged = false := by unfold CE.flagged; simp_all
       rw [truth_no hfl]
       exact ⟨[], trivial, rfl, (rh_sub rfl (by decide) z30q z8q)⟩
    ·
     refine acf ?_;refine AGo.skip ?_;refine asr ?_;refine am 32 ?_;refine am 33 ?_;refine aq 34 (q_bin (r := .int .i64 (((d + 1 : Nat) : Int))) rfl rfl rfl z28q) ?_;refine AOps.call 35 (hn := putR 2 _ (RH (bL C w ((e.build C d b).put (iNum (d + 1) 0))) (bFam (((e.build C d b).put (iNum (d + 1) 0))).blocks))) (r := .tup []) rfl rfl rfl (o_callRH 2 (bL C w (e.build C d b)) (bL C w ((e.build C d b).put (iNum (d + 1) 0))) (bFam (((e.build C d b).put (iNum (d + 1) 0))).blocks) rfl Try.func44 (by kernel_rfl) rfl rfl rfl rfl rfl (by decide) (bL_avoid C w _) (bL_avoid C w _) z30q z8q (fun x => bFam_avoid _ x) (fun x => bFam_avoid _ x) rfl (bnum_ok C w _ x hx (by omega) (d + 1) 0 (by omega))) ?_;refine an ?_;refine asr ?_;refine am 36 ?_;refine am 37 ?_;refine am 38 ?_;refine am 39 ?_;refine aq 40 (q_bin (r := .int .i64 (((d + 1 : Nat) : Int))) rfl rfl rfl z28q) ?_;refine AOps.call 41 (hn := putR 2 _ (RH (bL C w ((e.build C d b).not d)) (bFam (((e.build C d b).not d)).blocks))) (r := .tup []) rfl rfl rfl (o_callRH 2 (bL C w ((e.build C d b).put (iNum (d + 1) 0))) (bL C w ((e.build C d b).not d)) (bFam (((e.build C d b).not d)).blocks) rfl Try.func47 (by kernel_rfl) rfl rfl rfl rfl rfl (by decide) (bL_avoid C w _) (bL_avoid C w _) z30q z8q (fun x => bFam_avoid _ x) (fun x => bFam_avoid _ x) rfl (bbin_ok C w ((e.build C d b).put (iNum (d + 1) 0)) _ (put_at hx) (by rw [cnt_put _ hx]; omega) 15 d d (d + 1) (by omega))) ?_
     refine an ?_;refine AGo.region ?_;refine am 42 ?_;refine am 43 ?_;refine am 44 ?_;refine am 45 ?_;refine aq 46 (q_bin (r := .int .i64 (((d + 1 : Nat) : Int))) rfl rfl rfl z28q) ?_;refine AOps.call 47 (hn := putR 2 _ (RH (bL C w (((e.build C d b).not d).put (iBin 15 d d (d + 1)))) (bFam ((((e.build C d b).not d).put (iBin 15 d d (d + 1)))).blocks))) (r := .tup []) rfl rfl rfl (o_callRH 2 (bL C w ((e.build C d b).not d)) (bL C w (((e.build C d b).not d).put (iBin 15 d d (d + 1)))) (bFam ((((e.build C d b).not d).put (iBin 15 d d (d + 1)))).blocks) rfl Try.func47 (by kernel_rfl) rfl rfl rfl rfl rfl (by decide) (bL_avoid C w _) (bL_avoid C w _) z30q z8q (fun x => bFam_avoid _ x) (fun x => bFam_avoid _ x) rfl (bbin_ok C w ((e.build C d b).not d) _ (put_at (put_at hx)) (by have := cnt_not (e.build C d b) d; omega) 15 d d (d + 1) (by omega))) ?_;refine an ?_
     have hfl : e.flagged = false := by unfold CE.flagged; simp_all
     rw [truth_no hfl]
     exact ⟨[], trivial, rfl, (rh_sub rfl (by decide) z30q z8q)⟩
set_option maxHeartbeats 1000000 in
set_option maxRecDepth 100000 in
theorem bvalue_step (C : Core) (w : Bool) (b : Bd) (n : Nat) (e : CE) (d : Nat) (hok : e.ok C n) (hP : Pl b) (hc : b.cnt + 11 * e.parts ≤ 80000000) (hd : d + e.parts ≤ 80000000)
    (hV : ∀ x ∈ e.kids, ∀ (d : Nat) (b : Bd), Pl b → b.cnt + 11 * x.parts ≤ 80000000 → d + x.parts ≤ 80000000 → ACall Try.prog 64 [.ptr 2 1 0 0, .loc x.row, .int .i64 (d : Int)] (RH (bL C w b) (bFam (b).blocks)) (fun r h' => r = .tup [] ∧ HSub (putR 2 hNone (RH (bL C w (x.build C d b)) (bFam ((x.build C d b)).blocks))) h')) (hPx : ∀ x ∈ e.kids, ∀ (d : Nat) (b : Bd), Pl b → Pl (x.build C d b)) (hPc : Pl ((CE.buildL C e.kids d b).called C e.slot e.kids.length d)) (hcall : e.kind = 4 → ACall Try.prog 65 [.ptr 2 1 0 0, .int .i64 e.slot, (.lst false (e.kids.map CE.cells)), .int .i64 (d : Int)] (RH (bL C w b) (bFam (b).blocks)) (fun r h' => r = .tup [] ∧ HSub (putR 2 hNone (RH (bL C w ((CE.buildL C e.kids d b).called C e.slot e.kids.length d)) (bFam (((CE.buildL C e.kids d b).called C e.slot e.kids.length d)).blocks))) h')) (hE : e.kind = 8 ∨ e.kind = 9 → ACall Try.prog 88 [.ptr 2 1 0 0, .loc e.row, .int .i64 (d : Int)] (RH (bL C w b) (bFam (b).blocks)) (fun r h' => r = .tup [] ∧ HSub (putR 2 hNone (RH (bL C w (e.build C d b)) (bFam ((e.build C d b)).blocks))) h')) : ACall Try.prog 64 [.ptr 2 1 0 0, .loc e.row, .int .i64 (d : Int)] (RH (bL C w b) (bFam (b).blocks)) (fun r h' => r = .tup [] ∧ HSub (putR 2 hNone (RH (bL C w (e.build C d b)) (bFam ((e.build C d b)).blocks))) h') := by
 obtain ⟨z0, hz0⟩ := hP.cur
 obtain ⟨zc, hzc⟩ := hPc.cur
 have hpe0 := parts_kids e
 have hlen := partsL_len e.kids
 refine ACall.of_body (n := 128) tok Try.func64 rfl rfl ?_
 refine asr ?_
 refine am 6 ?_
 refine aq 7 (q_nilCheck rfl rfl rfl) ?_
 refine af 8 tok ?_
 refine al 9 tok ?_
 refine an ?_
 refine AGo.block ?_
 refine asr ?_
 refine aqb ?_
 refine aa 10 ?_
 refine an ?_
 refine AGo.split 10 rfl (fun hb1 => ?_) (fun hb1 => ?_)
 ·
  refine act ?_
  have ho : e.kind = 1 := by simpa using hb1
  refine AGo.region ?_
  refine am 12 ?_
  refine am 13 ?_
  refine am 14 ?_
  refine aq 15 (q_nilCheck rfl rfl rfl) ?_
  refine af 16 tok ?_
  refine al 17 tok ?_
  refine AOps.call 18 (hn := putR 2 _ (RH (bL C w (b.put (iNum d e.num))) (bFam ((b.put (iNum d e.num))).blocks))) (r := .tup []) rfl rfl rfl (o_callRH 2 (bL C w b) (bL C w (b.put (iNum d e.num))) (bFam ((b.put (iNum d e.num))).blocks) rfl Try.func44 (by kernel_rfl) rfl rfl rfl rfl rfl (by decide) (bL_avoid C w _) (bL_avoid C w _) z30q z8q (fun x => bFam_avoid _ x) (fun x => bFam_avoid _ x) rfl (bnum_ok C w b z0 hz0 (by omega) d e.num (by omega))) ?_
  refine an ?_
  rw [bk1 ho]
  exact ⟨[], trivial, rfl, (rh_sub rfl (by decide) z30q z8q)⟩
 ·
  refine acf ?_
  have n1 : e.kind ≠ 1 := by simpa using hb1
  refine asr ?_
  refine aqb ?_
  refine aa 19 ?_
  refine an ?_
  refine AGo.split 19 rfl (fun hb2 => ?_) (fun hb2 => ?_)
  ·
   refine act ?_
   have ho : e.kind = 2 := by simpa using hb2
   refine AGo.region ?_
   refine am 21 ?_
   refine am 22 ?_
   refine am 23 ?_
   refine aq 24 (q_nilCheck rfl rfl rfl) ?_
   refine af 25 tok ?_
   refine al 26 tok ?_
   refine aq 27 (q_build tok rfl rfl rfl rfl rfl (by decide) rfl rfl rfl) ?_
   refine AOps.call 28 (hn := putR 2 _ (RH (bL C w (b.put (iLoad d e.slot))) (bFam ((b.put (iLoad d e.slot))).blocks))) (r := .tup []) rfl rfl rfl (o_callRH 2 (bL C w b) (bL C w (b.put (iLoad d e.slot))) (bFam ((b.put (iLoad d e.slot))).blocks) rfl Try.func46 (by kernel_rfl) rfl rfl rfl rfl rfl (by decide) (bL_avoid C w _) (bL_avoid C w _) z30q z8q (fun x => bFam_avoid _ x) (fun x => bFam_avoid _ x) rfl (bput_ok C w b z0 hz0 (iLoad d e.slot) (Int.natCast_nonneg d) (by show (d : Int) ≤ 1000000000; omega) (by have := cnt_ins hz0; omega))) ?_
   refine an ?_
   rw [bk2 ho]
   exact ⟨[], trivial, rfl, (rh_sub rfl (by decide) z30q z8q)⟩
  ·
   refine acf ?_
   have n2 : e.kind ≠ 2 := by simpa using hb2
   refine asr ?_
   refine aqb ?_
   refine aa 29 ?_
   refine an ?_
   refine AGo.split 29 rfl (fun hb3 => ?_) (fun hb3 => ?_)
   ·
    refine act ?_
    have ho : e.kind = 3 := by simpa using hb3
    have hb3 := eok_k3 hok ho
    obtain ⟨x, hx, hxm⟩ := get0 (l := e.kids) (by omega)
    obtain ⟨z, hz⟩ := (hPx x hxm d b hP).cur
    have hcx := cnt_expr (C := C) x.parts x (Nat.le_refl _) d b
    have hpx := parts_mem hxm
    have hpe := parts_kids e
    refine asr ?_;refine am 31 ?_;refine am 32 ?_;refine aq 33 (q_nilCheck rfl rfl rfl) ?_;refine af 34 tok ?_;refine al 35 tok ?_;refine aq 36 (q_index_lst tok rfl rfl rfl rfl rfl rfl (by decide) (idxE0 hx) rfl) ?_;refine am 37 ?_;refine AOps.call 38 (hn := putR 2 _ (RH (bL C w (x.build C d b)) (bFam ((x.build C d b)).blocks))) (r := .tup []) rfl rfl rfl (o_callRH 2 (bL C w b) (bL C w (x.build C d b)) (bFam ((x.build C d b)).blocks) rfl Try.func64 (by kernel_rfl) rfl rfl rfl rfl rfl (by decide) (bL_avoid C w _) (bL_avoid C w _) z30q z8q (fun x => bFam_avoid _ x) (fun x => bFam_avoid _ x) rfl (hV x hxm d b hP (by omega) (by omega))) ?_;refine an ?_;refine AGo.draw mix ?_;refine dm 39 ?_;refine dm 40 ?_;refine dm 41 ?_;refine dm 42 ?_;refine dq 43 (q_nilCheck rfl rfl rfl) ?_;refine df 44 tok ?_;refine dl 45 tok ?_;refine dm 46 ?_;refine dq 47 (q_nilCheck rfl rfl rfl) ?_;refine df 48 tok ?_
    refine dl 49 tok ?_;refine dq 50 (q_build tok rfl rfl rfl rfl rfl (by decide) rfl rfl rfl) ?_;refine dx 51 (o_callRL C w (x.build C d b) ((x.build C d b).put (iALoad d d e.slot e.size)) ((x.build C d b).blocks.length + ((x.build C d b).put (iALoad d d e.slot e.size)).blocks.length) (by omega) (by omega) rfl Try.func46 (by kernel_rfl) rfl rfl rfl z24q z4q rfl (bput_ok C w (x.build C d b) z hz (iALoad d d e.slot e.size) (Int.natCast_nonneg d) (by show (d : Int) ≤ 1000000000; omega) (by have := cnt_ins hz; omega))) ?_;refine DOps.nilC clsB [([],[]), ([],[]), ([],[]), ([],[]), ([],[]), ([],[]), ([],[]), ([],[]), ([],[]), ([],[]), ([],[]), ([],[]), ([2],[2])] z9q (by kernel_rfl) ?_
    rw [bk3 ho hb3.1 hx]
    exact ⟨[], trivial, rfl, (rh_sub rfl (by decide) z24q z4q)⟩
   ·
    refine acf ?_
    have n3 : e.kind ≠ 3 := by simpa using hb3
    refine asr ?_;refine aqb ?_;refine aa 52 ?_;refine an ?_;refine AGo.split 52 rfl (fun hb4 => ?_) (fun hb4 => ?_)
    ·
     refine act ?_
     have ho : e.kind = 4 := by simpa using hb4
     have hb4 := eok_k4 hok ho
     have hcL := cnt_exprs (m := 0) (fun x (hx : x ∈ e.kids) => cnt_expr (C := C) x.parts x (Nat.le_refl _)) d b
     have hcC := cnt_called (CE.buildL C e.kids d b) C e.slot e.kids.length d
     refine AGo.seq ?_;refine AGo.draw mix ?_;refine dm 54 ?_;refine dm 55 ?_;refine dq 56 (q_nilCheck rfl rfl rfl) ?_;refine df 57 tok ?_;refine dl 58 tok ?_;refine dm 59 ?_;refine dq 60 (q_nilCheck rfl rfl rfl) ?_;refine df 61 tok ?_;refine dl 62 tok ?_;refine dm 63 ?_;refine dx 64 (o_callRL C w b ((CE.buildL C e.kids d b).called C e.slot e.kids.length d) (b.blocks.length + ((CE.buildL C e.kids d b).called C e.slot e.kids.length d).blocks.length) (by omega) (by omega) rfl Try.func65 (by kernel_rfl) rfl rfl rfl z24q z4q rfl (hcall ho)) ?_;refine DOps.nilC clsB [([],[]), ([],[]), ([],[]), ([],[]), ([],[]), ([],[]), ([],[]), ([],[]), ([],[]), ([],[]), ([2],[2])] z9q (by kernel_rfl) ?_;refine AGo.region ?_;refine am 65 ?_;refine am 66 ?_;refine am 67 ?_;refine aq 68 (q_nilCheck rfl rfl rfl) ?_;refine af 69 tok ?_;refine aq 70 (q_load tok rfl rfl rfl (.ptr _ _ _ _ _ _ _ _ ((rW_lo (by decide)).trans rfl) rfl rfl) rfl) ?_
     refine aq 71 (q_build tok rfl rfl rfl rfl rfl (by decide) rfl rfl rfl) ?_;refine AOps.call 72 (hn := putR 2 _ (RH (bL C w (((CE.buildL C e.kids d b).called C e.slot e.kids.length d).put (iLoad d C.words))) (bFam ((((CE.buildL C e.kids d b).called C e.slot e.kids.length d).put (iLoad d C.words))).blocks))) (r := .tup []) rfl rfl rfl (o_callRH 2 (bL C w ((CE.buildL C e.kids d b).called C e.slot e.kids.length d)) (bL C w (((CE.buildL C e.kids d b).called C e.slot e.kids.length d).put (iLoad d C.words))) (bFam ((((CE.buildL C e.kids d b).called C e.slot e.kids.length d).put (iLoad d C.words))).blocks) rfl Try.func46 (by kernel_rfl) rfl rfl rfl rfl rfl (by decide) (bL_avoid C w _) (bL_avoid C w _) z24q z4q (fun x => bFam_avoid _ x) (fun x => bFam_avoid _ x) rfl (bput_ok C w ((CE.buildL C e.kids d b).called C e.slot e.kids.length d) zc hzc (iLoad d C.words) (Int.natCast_nonneg d) (by show (d : Int) ≤ 1000000000; omega) (by have := cnt_ins hzc; omega))) ?_
     refine an ?_
     rw [bk4 ho]
     exact ⟨[], trivial, rfl, (rh_sub rfl (by decide) z24q z4q)⟩
    ·
     refine acf ?_
     have n4 : e.kind ≠ 4 := by simpa using hb4
     refine asr ?_;refine aqb ?_;refine aa 73 ?_;refine an ?_;refine AGo.split 73 rfl (fun hb5 => ?_) (fun hb5 => ?_)
     ·
      refine act ?_
      have ho : e.kind = 5 := by simpa using hb5
      refine AGo.region ?_;refine am 75 ?_;refine am 76 ?_;refine aq 77 (q_build tok rfl rfl rfl rfl rfl (by decide) rfl rfl rfl) ?_;refine AOps.call 78 (hn := putR 2 _ (RH (bL C w (b.put (iGet d))) (bFam ((b.put (iGet d))).blocks))) (r := .tup []) rfl rfl rfl (o_callRH 2 (bL C w b) (bL C w (b.put (iGet d))) (bFam ((b.put (iGet d))).blocks) rfl Try.func46 (by kernel_rfl) rfl rfl rfl rfl rfl (by decide) (bL_avoid C w _) (bL_avoid C w _) z30q z8q (fun x => bFam_avoid _ x) (fun x => bFam_avoid _ x) rfl (bput_ok C w b z0 hz0 (iGet d) (Int.natCast_nonneg d) (by show (d : Int) ≤ 1000000000; omega) (by have := cnt_ins hz0; omega))) ?_;refine an ?_
      rw [bk5 ho]
      exact ⟨[], trivial, rfl, (rh_sub rfl (by decide) z30q z8q)⟩
     ·
      refine acf ?_
      have n5 : e.kind ≠ 5 := by simpa using hb5
      have hK := eok_kK hok n1 n2 n3 n4 n5
      refine asr ?_;refine aqb ?_;refine aa 79 ?_;refine an ?_;refine AGo.split 79 rfl (fun hb6 => ?_) (fun hb6 => ?_)
      ·
       refine act ?_
       have ho : e.kind = 6 := by simpa using hb6
       have hl2 : e.kids.length = 2 := by omega
       obtain ⟨x, hx, hxm⟩ := get0 (l := e.kids) (by omega)
       obtain ⟨z, hz⟩ := (hPx x hxm d b hP).cur
       have hcx := cnt_expr (C := C) x.parts x (Nat.le_refl _) d b
       have hpx := parts_mem hxm
       have hpe := parts_kids e
       obtain ⟨y, hy, hym⟩ := get1 (l := e.kids) (by omega)
       have hk2 := kids_two hl2 hx hy
       have hps : CE.partsL e.kids = x.parts + y.parts := by rw [hk2, CE.partsL, CE.partsL, CE.partsL]; omega
       obtain ⟨z2, hz2⟩ := (hPx y hym (d + 1) _ (hPx x hxm d b hP)).cur
       have hcy := cnt_expr (C := C) y.parts y (Nat.le_refl _) (d + 1) (x.build C d b)
       have hpx1 := parts_kids x
       refine asr ?_;refine am 81 ?_;refine am 82 ?_;refine aq 83 (q_nilCheck rfl rfl rfl) ?_;refine af 84 tok ?_;refine al 85 tok ?_;refine aq 86 (q_index_lst tok rfl rfl rfl rfl rfl rfl (by decide) (idxE0 hx) rfl) ?_;refine am 87 ?_;refine AOps.call 88 (hn := putR 2 _ (RH (bL C w (x.build C d b)) (bFam ((x.build C d b)).blocks))) (r := .tup []) rfl rfl rfl (o_callRH 2 (bL C w b) (bL C w (x.build C d b)) (bFam ((x.build C d b)).blocks) rfl Try.func64 (by kernel_rfl) rfl rfl rfl rfl rfl (by decide) (bL_avoid C w _) (bL_avoid C w _) z30q z8q (fun x => bFam_avoid _ x) (fun x => bFam_avoid _ x) rfl (hV x hxm d b hP (by omega) (by omega))) ?_;refine an ?_;refine asr ?_;refine am 89 ?_;refine am 90 ?_;refine aq 91 (q_nilCheck rfl rfl rfl) ?_;refine af 92 tok ?_;refine al 93 tok ?_;refine aq 94 (q_index_lst tok rfl rfl rfl rfl rfl rfl (by decide) (idxE1 hy) rfl) ?_;refine am 95 ?_;refine aq 96 (q_bin (r := .int .i64 (((d + 1 : Nat) : Int))) rfl rfl rfl z28q) ?_
       refine AOps.call 97 (hn := putR 2 _ (RH (bL C w (y.build C (d + 1) (x.build C d b))) (bFam ((y.build C (d + 1) (x.build C d b))).blocks))) (r := .tup []) rfl rfl rfl (o_callRH 2 (bL C w (x.build C d b)) (bL C w (y.build C (d + 1) (x.build C d b))) (bFam ((y.build C (d + 1) (x.build C d b))).blocks) rfl Try.func64 (by kernel_rfl) rfl rfl rfl rfl rfl (by decide) (bL_avoid C w _) (bL_avoid C w _) z30q z8q (fun x => bFam_avoid _ x) (fun x => bFam_avoid _ x) rfl (hV y hym (d + 1) _ (hPx x hxm d b hP) (by omega) (by omega))) ?_;refine an ?_;refine AGo.region ?_;refine am 98 ?_;refine am 99 ?_;refine aq 100 (q_nilCheck rfl rfl rfl) ?_;refine af 101 tok ?_;refine al 102 tok ?_;refine am 103 ?_;refine am 104 ?_;refine am 105 ?_;refine aq 106 (q_bin (r := .int .i64 (((d + 1 : Nat) : Int))) rfl rfl rfl z28q) ?_;refine AOps.call 107 (hn := putR 2 _ (RH (bL C w ((y.build C (d + 1) (x.build C d b)).put (iBin e.op d d (d + 1)))) (bFam (((y.build C (d + 1) (x.build C d b)).put (iBin e.op d d (d + 1)))).blocks))) (r := .tup []) rfl rfl rfl (o_callRH 2 (bL C w (y.build C (d + 1) (x.build C d b))) (bL C w ((y.build C (d + 1) (x.build C d b)).put (iBin e.op d d (d + 1)))) (bFam (((y.build C (d + 1) (x.build C d b)).put (iBin e.op d d (d + 1)))).blocks) rfl Try.func47 (by kernel_rfl) rfl rfl rfl rfl rfl (by decide) (bL_avoid C w _) (bL_avoid C w _) z30q z8q (fun x => bFam_avoid _ x) (fun x => bFam_avoid _ x) rfl (bbin_ok C w (y.build C (d + 1) (x.build C d b)) z2 hz2 (by omega) e.op d d (d + 1) (by omega))) ?_
       refine an ?_
       rw [bk6 ho hl2 hx hy]
       exact ⟨[], trivial, rfl, (rh_sub rfl (by decide) z30q z8q)⟩
      ·
       refine acf ?_;refine asr ?_;refine aqb ?_;refine aa 108 ?_;refine an ?_;refine AGo.split 108 rfl (fun hb7 => ?_) (fun hb7 => ?_)
       ·
        refine act ?_
        have ho : e.kind = 7 := by simpa using hb7
        have hl1 : e.kids.length = 1 := by omega
        obtain ⟨x, hx, hxm⟩ := get0 (l := e.kids) (by omega)
        obtain ⟨z, hz⟩ := (hPx x hxm d b hP).cur
        have hcx := cnt_expr (C := C) x.parts x (Nat.le_refl _) d b
        have hpx := parts_mem hxm
        have hpe := parts_kids e
        refine asr ?_;refine am 110 ?_;refine am 111 ?_;refine aq 112 (q_nilCheck rfl rfl rfl) ?_;refine af 113 tok ?_;refine al 114 tok ?_;refine aq 115 (q_index_lst tok rfl rfl rfl rfl rfl rfl (by decide) (idxE0 hx) rfl) ?_;refine am 116 ?_;refine AOps.call 117 (hn := putR 2 _ (RH (bL C w (x.build C d b)) (bFam ((x.build C d b)).blocks))) (r := .tup []) rfl rfl rfl (o_callRH 2 (bL C w b) (bL C w (x.build C d b)) (bFam ((x.build C d b)).blocks) rfl Try.func64 (by kernel_rfl) rfl rfl rfl rfl rfl (by decide) (bL_avoid C w _) (bL_avoid C w _) z30q z8q (fun x => bFam_avoid _ x) (fun x => bFam_avoid _ x) rfl (hV x hxm d b hP (by omega) (by omega))) ?_;refine an ?_;refine AGo.region ?_;refine am 118 ?_;refine am 119 ?_;refine AOps.call 120 (hn := putR 2 _ (RH (bL C w ((x.build C d b).not d)) (bFam (((x.build C d b).not d)).blocks))) (r := .tup []) rfl rfl rfl (o_callRH 2 (bL C w (x.build C d b)) (bL C w ((x.build C d b).not d)) (bFam (((x.build C d b).not d)).blocks) rfl Try.func87 (by kernel_rfl) rfl rfl rfl rfl rfl (by decide) (bL_avoid C w _) (bL_avoid C w _) z30q z8q (fun x => bFam_avoid _ x) (fun x => bFam_avoid _ x) rfl (bnot_ok C w (x.build C d b) z hz (by omega) d (by omega))) ?_
        refine an ?_
        rw [bk7 ho hl1 hx]
        exact ⟨[], trivial, rfl, (rh_sub rfl (by decide) z30q z8q)⟩
       ·
        refine acf ?_;refine AGo.seq ?_;refine asr ?_;refine aqb ?_;refine aa 121 ?_;refine an ?_;refine AGo.split 121 rfl (fun hb8 => ?_) (fun hb8 => ?_)
        ·
         refine act ?_;refine AGo.skip ?_;refine act ?_;refine AGo.region ?_;refine am 124 ?_;refine am 125 ?_;refine am 126 ?_;refine AOps.call 127 (hn := putR 2 _ (RH (bL C w (e.build C d b)) (bFam ((e.build C d b)).blocks))) (r := .tup []) rfl rfl rfl (o_callRH 2 (bL C w b) (bL C w (e.build C d b)) (bFam ((e.build C d b)).blocks) rfl Try.func88 (by kernel_rfl) rfl rfl rfl rfl rfl (by decide) (bL_avoid C w _) (bL_avoid C w _) z30q z8q (fun x => bFam_avoid _ x) (fun x => bFam_avoid _ x) rfl (hE (by first | exact .inl (by simpa using ‹(e.kind == 8) = true›) | exact .inr (by simpa using ‹(e.kind == 9) = true›)))) ?_;refine an ?_;exact ⟨[], trivial, rfl, (rh_sub rfl (by decide) z30q z8q)⟩
        ·
         refine acf ?_;refine AGo.region ?_;refine aqb ?_;refine aa 121 ?_;refine an ?_;refine AGo.split 121 rfl (fun hb9 => ?_) (fun hb9 => ?_)
         ·
          refine act ?_;refine AGo.region ?_;refine am 124 ?_;refine am 125 ?_;refine am 126 ?_;refine AOps.call 127 (hn := putR 2 _ (RH (bL C w (e.build C d b)) (bFam ((e.build C d b)).blocks))) (r := .tup []) rfl rfl rfl (o_callRH 2 (bL C w b) (bL C w (e.build C d b)) (bFam ((e.build C d b)).blocks) rfl Try.func88 (by kernel_rfl) rfl rfl rfl rfl rfl (by decide) (bL_avoid C w _) (bL_avoid C w _) z30q z8q (fun x => bFam_avoid _ x) (fun x => bFam_avoid _ x) rfl (hE (by first | exact .inl (by simpa using ‹(e.kind == 8) = true›) | exact .inr (by simpa using ‹(e.kind == 9) = true›)))) ?_;refine an ?_;exact ⟨[], trivial, rfl, (rh_sub rfl (by decide) z30q z8q)⟩
         ·
          refine acf ?_;refine AGo.skip ?_;exact absurd hK (by simp_all)
end Go.Proofs.Ytmfihmkopmgelaa.Sv
