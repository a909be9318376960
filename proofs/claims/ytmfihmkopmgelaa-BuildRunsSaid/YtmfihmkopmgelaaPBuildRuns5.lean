/-
  A STATEMENT THAT DOES NOTHING AHEAD OF EACH FUNCTION'S, in plain Lean: own work.
-/
import Derived.Test.YtmfihmkopmgelaaPBuildRuns4
import Derived.Test.YtmfihmkopmgelaaPBuildRuns3
import Derived.Test.YtmfihmkopmgelaaPBuildRuns2
set_option linter.unusedVariables false
set_option linter.unusedSimpArgs false
set_option maxRecDepth 100000
set_option maxHeartbeats 2000000
namespace Go.Proofs.Ytmfihmkopmgelaa.Sv
open Go
abbrev Tc (n : Int) : CE := .mk 1 0 n 0 0 []
abbrev Un (e : CE) : CS := .mk 3 0 0 [e] [] []
theorem W5 {C : Core} {k : Nat} {n : Int} (hn : CD n) : (Tc n).ok C k := by rw [CE.ok]; exact ⟨trivial, .inl ⟨rfl, hn⟩⟩
theorem Wt {C : Core} {k : Nat} {w : Bool} {e : CE} (he : e.ok C k) : (Un e).ok C k w := by
  rw [CS.ok]; exact ⟨⟨he, trivial⟩, trivial, trivial, .inr (.inr (.inl ⟨rfl, rfl⟩))⟩
section
variable {call : BD} {s : ByteArray} {fuel : Int}
end
def Qb (w : Int) (body : List CS) : Core := ⟨w, [⟨0, 0, 0, false, body⟩]⟩
theorem Oz {C : Core} {k : Nat} {w : Bool} : ∀ {l : List CS}, (∀ st ∈ l, st.ok C k w) -> CS.okL C k w l
  | [], _ => trivial
  | st :: l, h => ⟨h st (List.mem_cons.2 (.inl rfl)), Oz fun e he => h e (List.mem_cons.2 (.inr he))⟩
theorem WE {w : Int} (h0 : 0 <= w) (h1 : w <= 1000000) {body : List CS} (hb : ∀ st ∈ body, st.ok (Qb w body) 0 false) (hp : ∀ st ∈ body, st.parts <= 3000) : Fq (Qb w body) := by
  have hg : ∀ (i : Nat) fn, (Qb w body).funcs[i]? = some fn -> i = 0 /\ fn = ⟨0, 0, 0, false, body⟩ := fun i fn h => by
    cases i with
    | zero => exact ⟨rfl, (Option.some.inj h).symm⟩
    | succ i => simp [Qb] at h
  refine ⟨⟨h0, fun e => by simp [Qb] at e, fun i fn h => ?_, fun fn h => ?_⟩, h1, fun fn h st hs => ?_⟩
  . obtain ⟨rfl, rfl⟩ := hg i fn h
    exact ⟨Int.le_refl _, (show (0 : Int) <= 6 by decide), Int.le_refl _, Int.le_refl _, h0, Oz hb⟩
  . rw [(hg _ fn h).2]; exact ⟨rfl, rfl⟩
  . obtain ⟨i, hi⟩ := List.mem_iff_getElem?.1 h
    rw [(hg i fn hi).2] at hs
    exact hp st hs
def inCall (g : CFn) (args : List Int) (w : List Int) (c : CM) : CM := c.put { c.m with words := CB (A8 w g.first g.slots.toNat) g.first args args.length }
theorem Xg {C : Core} {s : ByteArray} {fuel : Int} {k : Nat} {f : Int} {args : List Int} {c c' : CM} {g : CFn} (ht : AD fuel c = (true, c')) (hg : C.funcs[f.toNat]? = some g) :
    BX C s fuel (k + 1) f args c = bif (Ao (BX C s fuel k) s fuel g.body (inCall g args c.m.words c')).over then ((Ao (BX C s fuel k) s fuel g.body (inCall g args c.m.words c')).val, { Ao (BX C s fuel k) s fuel g.body (inCall g args c.m.words c') with over := false }) else (0, Ao (BX C s fuel k) s fuel g.body (inCall g args c.m.words c')) := by
  rw [BX, ht, hg]; rfl
def HW (call : BD) : Prop := ∀ f args c, c.m.steps <= (call f args c).2.m.steps
section
variable {call : BD} {s : ByteArray}
def TM (call : BD) (s : ByteArray) (e : CE) : Prop := ∀ c, c.m.steps <= (e.ev call s c).2.m.steps
theorem Y1 {sl z : Int} {l : List CE} (hI : ∀ e ∈ l, TM call s e) (c : CM) : c.m.steps <= (Dn call s sl z l c).2.m.steps := by
  cases l with
  | nil => rw [Dn]; exact Nat.le_refl _
  | cons e l =>
    rw [Dn]
    have h := hI e (List.mem_cons.2 (.inl rfl)) c
    exact X9
theorem Qw (hcall : HW call) {f : Int} : ∀ {l : List CE}, (∀ e ∈ l, TM call s e) -> ∀ (args : List Int) (c : CM), c.m.steps <= (A5 call s f l args c).2.m.steps
  | [], _, args, c => by rw [A5]; exact hcall _ _ _
  | e :: l, hI, args, c => by
    rw [A5]
    have h := hI e (List.mem_cons.2 (.inl rfl)) c
    generalize e.ev call s c = p at h |-
    obtain ⟨x, c1⟩ := p
    dsimp only at h |-
    cases c1.fin == 0 with
    | false => exact h
    | true => exact Nat.le_trans h (Qw hcall (fun e he => hI e (List.mem_cons.2 (.inr he))) _ c1)
theorem YV {k o : Int} {l : List CE} (hI : ∀ e ∈ l, TM call s e) (x : Int) (c : CM) : c.m.steps <= (Cm call s k o l x c).2.m.steps := by
  cases l with
  | nil => rw [Cm]; exact Nat.le_refl _
  | cons e l =>
    rw [Cm]
    have h := hI e (List.mem_cons.2 (.inl rfl)) c
    exact Yc
theorem YY {k o : Int} {l : List CE} (hI : ∀ e ∈ l, TM call s e) (c : CM) : c.m.steps <= (Cs call s k o l c).2.m.steps := by
  cases l with
  | nil => rw [Cs]; exact Nat.le_refl _
  | cons e l =>
    rw [Cs]
    have h := hI e (List.mem_cons.2 (.inl rfl)) c
    generalize e.ev call s c = p at h |-
    obtain ⟨x, c1⟩ := p
    dsimp only at h |-
    cases c1.fin == 0 with
    | false => exact h
    | true =>
      cases k == 7 with
      | true => exact h
      | false =>
        cases (k == 8 && x == 0) with
        | true => exact h
        | false =>
          cases (k == 9 && !(x == 0)) with
          | true => exact h
          | false => exact Nat.le_trans h (YV (fun e he => hI e (List.mem_cons.2 (.inr he))) x c1)
theorem Vj (hcall : HW call) : ∀ (m : Nat) (e : CE), e.parts <= m -> TM call s e
  | 0, e, hm => by cases e; rw [CE.parts] at hm; omega
  | m + 1, .mk k o n sl z kids, hm => by
    rw [CE.parts] at hm
    have hI : ∀ e ∈ kids, TM call s e := fun e he => Vj hcall m e (by have := AW he; omega)
    intro c
    rw [CE.ev]
    by_cases k1 : k = 1
    . rw [if_pos k1]; exact Nat.le_refl _
    rw [if_neg k1]
    by_cases k2 : k = 2
    . rw [if_pos k2]; exact Nat.le_refl _
    rw [if_neg k2]
    by_cases k3 : k = 3
    . rw [if_pos k3]; exact Y1 hI c
    rw [if_neg k3]
    by_cases k4 : k = 4
    . rw [if_pos k4]; exact Qw hcall hI [] c
    rw [if_neg k4]
    by_cases k5 : k = 5
    . rw [if_pos k5]
      cases decide (c.m.read < s.size) <;> exact Nat.le_refl _
    rw [if_neg k5]
    exact YY hI c
theorem Li (hcall : HW call) (l : List CE) (c : CM) : c.m.steps <= (Bc call s l c).2.m.steps := by
  cases l with
  | nil => exact Nat.le_refl _
  | cons e l => exact Vj hcall e.parts e (Nat.le_refl _) c
theorem H6 {fuel : Int} (c : CM) : c.m.steps <= (AD fuel c).2.m.steps := by
  unfold AD AG
  cases decide ((c.m.steps : Int) >= fuel) with
  | true => exact Nat.le_refl _
  | false => exact Nat.le_succ _
theorem L0 {fuel : Int} {cond : CM -> Int × CM} {body : CM -> CM} (h1 : ∀ c, c.m.steps <= (cond c).2.m.steps) (h2 : ∀ c, c.m.steps <= (body c).m.steps) : ∀ (g : Nat) (c : CM), c.m.steps <= (Bk fuel cond body g c).m.steps
  | 0, c => Nat.le_refl _
  | g + 1, c => by
    rw [Bk]
    cases (c.fin == 0 && !c.over) with
    | false => exact Nat.le_refl _
    | true =>
      cases (AD fuel c).1 with
      | false => exact H6 c
      | true =>
        have h := Nat.le_trans (H6 (fuel := fuel) c) (h1 (AD fuel c).2)
        simp only [cond_true]
        generalize cond (AD fuel c).2 = p at h |-
        obtain ⟨x, c1⟩ := p
        dsimp only at h |-
        cases (c1.fin == 0 && !(x == 0)) with
        | false => exact h
        | true => exact Nat.le_trans h (Nat.le_trans (h2 c1) (L0 h1 h2 g _))
def RU (call : BD) (s : ByteArray) (fuel : Int) (st : CS) : Prop := ∀ c, c.m.steps <= (st.run call s fuel c).m.steps
theorem FZ {fuel : Int} : ∀ {l : List CS}, (∀ st ∈ l, RU call s fuel st) -> ∀ (c : CM), c.m.steps <= (Ao call s fuel l c).m.steps
  | [], _, c => by rw [Ao]; exact Nat.le_refl _
  | st :: l, hI, c => by
    rw [Ao]
    cases (c.fin == 0 && !c.over) with
    | false => exact Nat.le_refl _
    | true => exact Nat.le_trans (hI st (List.mem_cons.2 (.inl rfl)) c) (FZ (fun e he => hI e (List.mem_cons.2 (.inr he))) _)
theorem Kr (hcall : HW call) {fuel : Int} : ∀ (m : Nat) (st : CS), st.parts <= m -> RU call s fuel st
  | 0, st, hm => by cases st; rw [CS.parts] at hm; omega
  | m + 1, .mk k sl z es thn els, hm => by
    rw [CS.parts] at hm
    have hT : ∀ e ∈ thn, RU call s fuel e := fun e he => Kr hcall m e T5
    have hL : ∀ e ∈ els, RU call s fuel e := fun e he => Kr hcall m e T4
    intro c
    rw [CS.run]
    by_cases k6 : k = 6
    . rw [if_pos k6]; exact Qw hcall (fun e he => Vj hcall e.parts e (Nat.le_refl _)) [] c
    rw [if_neg k6]
    by_cases k5 : k = 5
    . rw [if_pos k5]; exact L0 (fun c => Li hcall _ c) (fun c => FZ hT c) _ c
    rw [if_neg k5]
    have h := Li (s := s) hcall es c
    generalize Bc call s es c = p at h |-
    obtain ⟨x, c1⟩ := p
    dsimp only at h |-
    cases c1.fin == 0 with
    | false => exact h
    | true =>
      simp only [cond_true]
      by_cases k7 : k = 7
      . rw [if_pos k7]; exact h
      rw [if_neg k7]
      by_cases k1 : k = 1
      . rw [if_pos k1]; exact h
      rw [if_neg k1]
      by_cases k2 : k = 2
      . rw [if_pos k2]
        have h3 := Nat.le_trans h (Li (s := s) hcall (es.drop 1) c1)
        exact Zm
      rw [if_neg k2]
      by_cases k3 : k = 3
      . rw [if_pos k3]
        cases decide (c1.m.out.length >= 65536) <;> exact h
      rw [if_neg k3]
      cases x == 0 with
      | true => exact Nat.le_trans h (FZ hL c1)
      | false => exact Nat.le_trans h (FZ hT c1)
end
theorem Ny {C : Core} {s : ByteArray} {fuel : Int} : ∀ n, HW (BX C s fuel n)
  | 0 => fun f args c => Nat.le_refl _
  | n + 1 => fun f args c => by
    rw [BX]
    cases (AD fuel c).1 with
    | false => exact H6 c
    | true =>
      simp only [cond_true]
      cases e : C.funcs[f.toNat]? with
      | none => exact Nat.le_refl _
      | some g =>
        dsimp only
        have h := FZ (call := BX C s fuel n) (s := s) (fuel := fuel) (l := g.body) (fun st hs => Kr (Ny n) st.parts st (Nat.le_refl _)) ((AD fuel c).2.put { (AD fuel c).2.m with words := CB (A8 c.m.words g.first g.slots.toNat) g.first args args.length })
        have h2 := Nat.le_trans (H6 (fuel := fuel) c) h
        generalize Ao (BX C s fuel n) s fuel g.body _ = c1 at h2 |-
        cases c1.over <;> exact h2
abbrev CE.row (e : CE) : List AV := [.int .i64 e.kind, .int .i64 e.op, .int .u32 e.num, .int .i64 e.slot, .int .i64 e.size, .lst false (e.kids.map CE.cells)]
abbrev CS.row (e : CS) : List AV := [.int .i64 e.kind, .int .i64 e.slot, .int .i64 e.size, .lst false (e.es.map CE.cells), .lst false (e.thn.map CS.cells), .lst false (e.els.map CS.cells)]
theorem OK {l : List CE} {k : Nat} {x : CE} (h : l[k]? = some x) : (l.map CE.cells)[((k : Nat) : Int).toNat]? = some x.row := by
  rw [Int.toNat_natCast, List.getElem?_map, h]; exact congrArg some (CE.cells_eq x)
theorem Cf {l : List CE} {x : CE} (h : l[0]? = some x) : (l.map CE.cells)[(0 : Int).toNat]? = some x.row := OK (k := 0) h
theorem It {l : List CE} {x : CE} (h : l[1]? = some x) : (l.map CE.cells)[(1 : Int).toNat]? = some x.row := OK (k := 1) h
theorem LV {l : List CS} {k : Nat} {x : CS} (h : l[k]? = some x) : (l.map CS.cells)[((k : Nat) : Int).toNat]? = some x.row := by
  rw [Int.toNat_natCast, List.getElem?_map, h]; exact congrArg some (CS.cells_eq x)
theorem CE.Ok.kidsOk {e : CE} (h : e.Ok) : (∀ x ∈ e.kids, x.Ok) /\ e.kids.length * 64 <= reachBytes := by
  cases h with
  | mk i1 i2 i3 i4 i5 i6 i7 => exact ⟨i7, i6⟩
theorem CS.Ok.esOk {e : CS} (h : e.Ok) : (∀ x ∈ e.es, x.Ok) /\ e.es.length * 64 <= reachBytes := by
  cases h with
  | mk i1 i2 i3 i4 i5 i6 i7 i8 i9 => exact ⟨i5, i4⟩
theorem CS.Ok.thnOk {e : CS} (h : e.Ok) : (∀ x ∈ e.thn, x.Ok) /\ e.thn.length * 96 <= reachBytes := by
  cases h with
  | mk i1 i2 i3 i4 i5 i6 i7 i8 i9 => exact ⟨i7, i6⟩
theorem CS.Ok.elsOk {e : CS} (h : e.Ok) : (∀ x ∈ e.els, x.Ok) /\ e.els.length * 96 <= reachBytes := by
  cases h with
  | mk i1 i2 i3 i4 i5 i6 i7 i8 i9 => exact ⟨i9, i8⟩
theorem Mv {n : Nat} (h : n * 64 <= reachBytes) : n <= maxLen := by simp only [reachBytes] at h; simp only [maxLen]; omega
theorem Is {n : Nat} (h : n * 96 <= reachBytes) : n <= maxLen := by simp only [reachBytes] at h; simp only [maxLen]; omega
theorem Rx {n : Nat} (h : n * 56 <= reachBytes) : n <= maxLen := by simp only [reachBytes] at h; simp only [maxLen]; omega
theorem Hd {α : Type} {l : List α} {k : Nat} {x : α} (h : l[k]? = some x) : l.drop k = x :: l.drop (k + 1) := by
  rw [List.drop_eq_getElem_cons (List.getElem?_eq_some_iff.1 h).1, (List.getElem?_eq_some_iff.1 h).2]
theorem U0 {l : List CE} {k : Nat} {x : CE} (h : l[k]? = some x) {a deep : Int} (h0 : 0 <= a) : CE.leftL (l.drop k) a deep = CE.leftL (l.drop (k + 1)) (DQ x.kids (a - 1) (deep - 1)) deep := by
  rw [Hd h, CE.leftL, decide_eq_true h0, CE.left_eq]; rfl
theorem SP {l : List CE} {k : Nat} (h : l.length <= k) (a deep : Int) : CE.leftL (l.drop k) a deep = a := by rw [List.drop_eq_nil_of_le h, CE.leftL]
theorem SO {l : List CE} {a : Int} (h : ¬ 0 <= a) (deep : Int) : CE.leftL l a deep = a := by
  cases l with
  | nil => rw [CE.leftL]
  | cons e l => rw [CE.leftL, decide_eq_false h]; rfl
theorem SN {l : List CS} {k : Nat} {x : CS} (h : l[k]? = some x) {a deep : Int} (h0 : 0 <= a) : CS.leftL (l.drop k) a deep = CS.leftL (l.drop (k + 1)) (Ct x.els (Ct x.thn (DQ x.es (a - 1) (deep - 1)) (deep - 1)) (deep - 1)) deep := by
  rw [Hd h, CS.leftL, decide_eq_true h0, CS.left_eq]; rfl
theorem Qk {l : List CS} {k : Nat} (h : l.length <= k) (a deep : Int) : CS.leftL (l.drop k) a deep = a := by rw [List.drop_eq_nil_of_le h, CS.leftL]
theorem Qj {l : List CS} {a : Int} (h : ¬ 0 <= a) (deep : Int) : CS.leftL l a deep = a := by
  cases l with
  | nil => rw [CS.leftL]
  | cons e l => rw [CS.leftL, decide_eq_false h]; rfl
theorem SR {l : List CE} {left deep : Int} (h : decide (deep < 0) = true) : DQ l left deep = -1 := by unfold DQ; rw [h]; rfl
theorem SQ {l : List CE} {left deep : Int} (h : decide (deep < 0) = false) : DQ l left deep = CE.leftL l left deep := by unfold DQ; rw [h]; rfl
theorem SM {l : List CS} {left deep : Int} (h : decide (deep < 0) = true) : Ct l left deep = -1 := by unfold Ct; rw [h]; rfl
theorem SL {l : List CS} {left deep : Int} (h : decide (deep < 0) = false) : Ct l left deep = CS.leftL l left deep := by unfold Ct; rw [h]; rfl
theorem Ql {l : List CFn} {k : Nat} {x : CFn} (h : l[k]? = some x) (m : Int) : Fj (l.take (k + 1)) m = Ct x.body (Fj (l.take k) m) 40 := by
  rw [Bw h, Qm]
theorem JF (e : CE) : ∀ l : List CE, CE.partsL (l ++ [e]) = CE.partsL l + e.parts
  | [] => by simp [CE.partsL]
  | x :: l => by rw [List.cons_append, CE.partsL, CE.partsL, JF e l]; omega
theorem JE {l : List CE} {k : Nat} {x : CE} (h : l[k]? = some x) : CE.partsL (l.take (k + 1)) = CE.partsL (l.take k) + x.parts := by rw [Bw h, JF]
theorem Bf (e : CE) : e.parts = 1 + CE.partsL e.kids := by cases e; rw [CE.parts]; rfl
theorem HK (r : List CE) : ∀ l : List CE, CE.partsL (l ++ r) = CE.partsL l + CE.partsL r
  | [] => by simp [CE.partsL]
  | x :: l => by rw [List.cons_append, CE.partsL, CE.partsL, HK r l]; omega
theorem Mn {l : List CE} (k : Nat) : CE.partsL (l.take k) <= CE.partsL l := by
  have := HK (l.drop k) (l.take k)
  rw [List.take_append_drop] at this
  omega
theorem partsL_len : ∀ l : List CE, l.length <= CE.partsL l
  | [] => by simp [CE.partsL]
  | x :: l => by have := partsL_len l; rw [CE.partsL, List.length_cons, Bf]; omega
theorem Ia (e : CS) : ∀ l : List CS, CS.partsL (l ++ [e]) = CS.partsL l + e.parts
  | [] => by simp [CS.partsL]
  | x :: l => by rw [List.cons_append, CS.partsL, CS.partsL, Ia e l]; omega
theorem H9 {l : List CS} {k : Nat} {x : CS} (h : l[k]? = some x) : CS.partsL (l.take (k + 1)) = CS.partsL (l.take k) + x.parts := by rw [Bw h, Ia]
theorem BG (e : CS) : e.parts = 1 + CE.partsL e.es + CS.partsL e.thn + CS.partsL e.els := by cases e; rw [CS.parts]; rfl
theorem Gy (r : List CS) : ∀ l : List CS, CS.partsL (l ++ r) = CS.partsL l + CS.partsL r
  | [] => by simp [CS.partsL]
  | x :: l => by rw [List.cons_append, CS.partsL, CS.partsL, Gy r l]; omega
theorem PS {l : List CS} (k : Nat) : CS.partsL (l.take k) <= CS.partsL l := by
  have := Gy (l.drop k) (l.take k)
  rw [List.take_append_drop] at this
  omega
theorem spartsL_len : ∀ l : List CS, l.length <= CS.partsL l
  | [] => by simp [CS.partsL]
  | x :: l => by have := spartsL_len l; rw [CS.partsL, List.length_cons, BG]; omega
theorem WA (k : Nat) (C : Core) : ((C.funcs.take k).map fun f => CS.partsL f.body).sum <= C.parts := by
  have e : C.parts = ((C.funcs.take k ++ C.funcs.drop k).map fun f => CS.partsL f.body).sum := by rw [List.take_append_drop]; rfl
  rw [e, List.map_append, List.sum_append]
  omega
theorem WX {C : Core} (h0 : 0 <= C.words) (t : Int) : (t + 1) * 8 * ((C.parts : Int) + C.words + 1) = (t + 1) * (C.k : Int) := by
  have e : ((C.words.toNat : Nat) : Int) = C.words := Int.toNat_of_nonneg h0
  unfold Core.k
  rw [Int.mul_assoc]
  congr 1
  rw [Int.natCast_mul, Int.natCast_add, Int.natCast_add, e]; rfl
theorem RD {C : Core} {t : Int} (hp : C.parts <= 1000000) (h0 : 0 <= C.words) (h1 : C.words <= 1000000) (h2 : 0 <= t) (h3 : t <= 100000) : -9223372036854775808 <= (t + 1) * (C.k : Int) /\ (t + 1) * (C.k : Int) <= 9223372036854775807 := by
  have hk : (C.k : Int) <= 100000000 := by unfold Core.k; omega
  have a := Int.mul_nonneg (show 0 <= t + 1 by omega) (Int.natCast_nonneg C.k)
  have b := Int.mul_le_mul (show t + 1 <= 100001 by omega) hk (Int.natCast_nonneg _) (by decide)
  omega
def CE.cnt (e : CE) : Int := bif e.kind == 3 then 1 else bif e.kind == 4 then (e.kids.length : Int) else bif e.kind == 6 then 2 else bif e.kind == 7 then 1 else bif e.kind == 8 || e.kind == 9 then 2 else 0
def CE.most (C : Core) (f : Int) (e : CE) : Bool :=
  bif e.kind == 1 || e.kind == 5 then true
  else bif e.kind == 2 then IT C e.slot 1
  else bif e.kind == 3 then decide (1 <= e.size) && (decide (e.size <= 4096) && IT C e.slot e.size)
  else bif e.kind == 4 then Dy C f e.slot e.kids.length true
  else bif e.kind == 6 then decide (4 <= e.op) && decide (e.op <= 15)
  else e.kind == 7 || (e.kind == 8 || e.kind == 9)
def CS.cnt (w : Bool) (s : CS) : Int := bif s.kind == 2 then 2 else bif s.kind == 6 then (s.es.length : Int) else bif s.kind == 7 && ((s.es.length : Int) == 0 || !w) then 0 else 1
def CS.most (C : Core) (f : Int) (s : CS) : Bool :=
  bif s.kind == 1 then IT C s.slot 1
  else bif s.kind == 2 then decide (1 <= s.size) && (decide (s.size <= 4096) && IT C s.slot s.size)
  else bif s.kind == 6 then Dy C f s.slot s.es.length false
  else s.kind == 3 || (s.kind == 4 || (s.kind == 5 || s.kind == 7))
theorem Ll (C : Core) (f : Int) (e : CE) : e.sort C f = (e.most C f && (e.kids.length : Int) == e.cnt) := by
  obtain ⟨k, o, n, s, z, kids⟩ := e
  unfold CE.sort CE.most CE.cnt CE.kind
  dsimp only
  by_cases k1 : k = 1
  . subst k1; rfl
  by_cases k5 : k = 5
  . subst k5; rfl
  by_cases k2 : k = 2
  . subst k2; rfl
  by_cases k3 : k = 3
  . subst k3
    show (_ && (_ && (_ && _))) = ((_ && (_ && _)) && _)
    rw [Bool.and_assoc, Bool.and_assoc]; rfl
  by_cases k4 : k = 4
  . subst k4
    show Dy C f s (kids.length : Int) true = (Dy C f s (kids.length : Int) true && ((kids.length : Int) == (kids.length : Int)))
    rw [beq_self_eq_true, Bool.and_true]
  by_cases k6 : k = 6
  . subst k6
    show (_ && (_ && _)) = ((_ && _) && _)
    rw [Bool.and_assoc]; rfl
  by_cases k7 : k = 7
  . subst k7; rfl
  by_cases k8 : k = 8
  . subst k8; rfl
  by_cases k9 : k = 9
  . subst k9; rfl
  simp only [show (k == 1) = false from by simpa using k1, show (k == 2) = false from by simpa using k2, show (k == 3) = false from by simpa using k3, show (k == 4) = false from by simpa using k4, show (k == 5) = false from by simpa using k5, show (k == 6) = false from by simpa using k6, show (k == 7) = false from by simpa using k7, show (k == 8) = false from by simpa using k8, show (k == 9) = false from by simpa using k9, Bool.or_self, cond_false, Bool.false_and]
theorem Kl (C : Core) (f : Int) (w : Bool) (e : CS) : e.sort C f w = (e.most C f && (e.es.length : Int) == e.cnt w) := by
  obtain ⟨k, s, z, es, thn, els⟩ := e
  unfold CS.sort CS.most CS.cnt CS.kind
  dsimp only
  by_cases k1 : k = 1
  . subst k1; rfl
  by_cases k2 : k = 2
  . subst k2
    show (_ && (_ && (_ && _))) = ((_ && (_ && _)) && _)
    rw [Bool.and_assoc, Bool.and_assoc]; rfl
  by_cases k3 : k = 3
  . subst k3; rfl
  by_cases k4 : k = 4
  . subst k4; rfl
  by_cases k5 : k = 5
  . subst k5; rfl
  by_cases k6 : k = 6
  . subst k6
    show Dy C f s (es.length : Int) false = (Dy C f s (es.length : Int) false && ((es.length : Int) == (es.length : Int)))
    rw [beq_self_eq_true, Bool.and_true]
  by_cases k7 : k = 7
  . subst k7
    show ((es.length : Int) == 0 || ((es.length : Int) == 1 && w)) = (true && ((es.length : Int) == (bif (true && ((es.length : Int) == 0 || !w)) then 0 else 1)))
    cases h : (es.length : Int) == 0 with
    | true => simp only [Bool.true_or, Bool.true_and, cond_true]; exact h.symm
    | false =>
      cases w with
      | true => simp
      | false => simp; simpa using h
  simp only [show (k == 1) = false from by simpa using k1, show (k == 2) = false from by simpa using k2, show (k == 3) = false from by simpa using k3, show (k == 4) = false from by simpa using k4, show (k == 5) = false from by simpa using k5, show (k == 6) = false from by simpa using k6, show (k == 7) = false from by simpa using k7, Bool.or_self, cond_false, Bool.false_and]
section
variable {C : Core} {f level : Int} {w : Bool}
theorem OX {x : CE} {b : Bool} (h : b = !(decide (level <= 24) && x.bare)) (hb : b = true) : x.right C f level = false := by
  rw [CE.right_eq, <- Bool.and_assoc, show (decide (level <= 24) && x.bare) = false by rw [hb] at h; exact (Bool.not_eq_true' _).mp h.symm]; rfl
theorem Tb {x : CE} {b : Bool} (h : b = !(decide (level <= 24) && x.bare)) (hb : b = false) : level <= 24 /\ x.bare = true := by
  rw [hb] at h; simpa using h
theorem OV {x : CE} (h : x.most C f = false) : x.right C f level = false := by
  rw [CE.right_eq, Ll, h]; simp
theorem QA {x : CE} (h : ((x.kids.length : Int) == x.cnt) = false) : x.right C f level = false := by
  rw [CE.right_eq, Ll, h]; simp
theorem OW {x : CE} (h : CE.rightL C f x.kids (level + 1) = false) : x.right C f level = false := by
  rw [CE.right_eq, h]; simp
theorem Qz {x : CE} (h1 : level <= 24 /\ x.bare = true) (h2 : x.most C f = true) (h3 : ((x.kids.length : Int) == x.cnt) = true) (h4 : CE.rightL C f x.kids (level + 1) = true) : x.right C f level = true := by
  rw [CE.right_eq, Ll, h2, h3, h4, h1.2, decide_eq_true h1.1]; rfl
theorem NZ {x : CS} {b : Bool} (h : b = !(decide (level <= 24) && x.bare)) (hb : b = true) : x.right C f w level = false := by
  rw [CS.right_eq, <- Bool.and_assoc, show (decide (level <= 24) && x.bare) = false by rw [hb] at h; exact (Bool.not_eq_true' _).mp h.symm]; rfl
theorem Sj {x : CS} {b : Bool} (h : b = !(decide (level <= 24) && x.bare)) (hb : b = false) : level <= 24 /\ x.bare = true := by
  rw [hb] at h; simpa using h
theorem NY {x : CS} (h : x.most C f = false) : x.right C f w level = false := by
  rw [CS.right_eq, Kl, h]; simp
theorem PR {x : CS} (h : ((x.es.length : Int) == x.cnt w) = false \/ CE.rightL C f x.es (level + 1) = false \/ CS.rightL C f w x.thn (level + 1) = false \/ CS.rightL C f w x.els (level + 1) = false) : x.right C f w level = false := by
  rw [CS.right_eq, Kl]
  rcases h with h | h | h | h <;> rw [h] <;> simp
theorem PQ {x : CS} (h1 : level <= 24 /\ x.bare = true) (h2 : x.most C f = true) (h3 : ((x.es.length : Int) == x.cnt w) = true) (h4 : CE.rightL C f x.es (level + 1) = true) (h5 : CS.rightL C f w x.thn (level + 1) = true) (h6 : CS.rightL C f w x.els (level + 1) = true) : x.right C f w level = true := by
  rw [CS.right_eq, Kl, h2, h3, h4, h5, h6, h1.2, decide_eq_true h1.1]; rfl
theorem Lp (n : Nat) : decide ((n : Int) > 0) = !((n : Int) == 0) := by
  cases n with
  | zero => rfl
  | succ n => rw [decide_eq_true (by omega), show (((n + 1 : Nat) : Int) == 0) = false by simp; omega]; rfl
theorem lev_not (level : Int) : decide (level <= 24) = !decide (level > 24) := by
  by_cases h : level <= 24
  . rw [decide_eq_true h, decide_eq_false (by omega)]; rfl
  . rw [decide_eq_false h, decide_eq_true (by omega)]; rfl
end
section
variable {C : Core} {n : Nat} {e x y : CE}
theorem Y5 (h : e.ok C n) (hk : e.kind = 2) : 0 <= e.slot /\ e.slot < C.words := by
  cases e with
  | mk k o num s z kids =>
  rw [CE.ok] at h
  simp only [CE.kind] at hk
  simp only [CE.slot]
  exact XY
theorem Vs (h : e.ok C n) (hk : e.kind = 3) : e.kids.length = 1 /\ 1 <= e.size /\ e.size <= 4096 /\ 0 <= e.slot /\ e.slot + e.size <= C.words := by
  cases e with
  | mk k o num s z kids =>
  rw [CE.ok] at h
  simp only [CE.kind] at hk
  simp only [CE.slot, CE.size, CE.kids]
  exact XY
theorem QC (h : e.ok C n) (hk : e.kind = 4) : 0 <= e.slot /\ e.slot < n /\ ∃ g, C.funcs[e.slot.toNat]? = some g /\ g.word = true /\ g.params = e.kids.length /\ e.kids.length <= 6 := by
  cases e with
  | mk k o num s z kids =>
  rw [CE.ok] at h
  simp only [CE.kind] at hk
  simp only [CE.slot, CE.kids]
  exact XY
theorem QB (h : e.ok C n) (h1 : e.kind ≠ 1) (h2 : e.kind ≠ 2) (h3 : e.kind ≠ 3) (h4 : e.kind ≠ 4) (h5 : e.kind ≠ 5) : (e.kind = 7 /\ e.kids.length = 1) \/ (e.kind = 6 /\ 4 <= e.op /\ e.op <= 15 /\ e.kids.length = 2) \/ (e.kind = 8 /\ e.kids.length = 2) \/ (e.kind = 9 /\ e.kids.length = 2) := by
  cases e with
  | mk k o num s z kids =>
  rw [CE.ok] at h
  simp only [CE.kind] at h1 h2 h3 h4 h5
  simp only [CE.kind, CE.op, CE.kids]
  obtain ⟨_, g⟩ := h
  rcases g with g | g | g | g | g | g | g | g | g
  . exact absurd g.1 h1
  . exact absurd g.1 h2
  . exact absurd g.1 h3
  . exact absurd g.1 h4
  . exact absurd g h5
  . exact .inr (.inl ⟨g.1, g.2.2.1, g.2.2.2, g.2.1⟩)
  . exact .inl g
  . exact .inr (.inr (.inl g))
  . exact .inr (.inr (.inr g))
theorem Nt (h : e.ok C n) {x : CE} (hx : x ∈ e.kids) : x.ok C n := by
  cases e with
  | mk k o num s z kids =>
  rw [CE.ok] at h
  exact zt72
variable {cl : BD} {s : ByteArray} {c : CM}
theorem HS {d : CM} (h : (d.m.fin != 0) = true) : (d.fin == 0) = false := by
  show (d.m.fin == 0) = false
  simpa using h
theorem CA {d : CM} (h : (d.m.fin != 0) = false) : (d.fin == 0) = true := by
  show (d.m.fin == 0) = true
  simpa using h
theorem bW (hk : e.kind = 1) : e.ev cl s c = (e.num, c) := by
  cases e; simp only [CE.kind] at hk; subst hk; rw [CE.ev, if_pos rfl]; rfl
theorem bV (hk : e.kind = 2) : e.ev cl s c = (rget c.m.words e.slot, c) := by
  cases e; simp only [CE.kind] at hk; subst hk; rw [CE.ev, if_neg (by decide), if_pos rfl]; rfl
theorem Vm (hk : e.kind = 3) (hx : e.kids[0]? = some x) : e.ev cl s c = bif (x.ev cl s c).2.fin == 0 then (bif decide ((x.ev cl s c).1 >= e.size) then (0, (x.ev cl s c).2.put { (x.ev cl s c).2.m with fin := 3 }) else (rget (x.ev cl s c).2.m.words (e.slot + (x.ev cl s c).1), (x.ev cl s c).2)) else (0, (x.ev cl s c).2) := by
  cases e with
  | mk k o num sl z kids =>
  simp only [CE.kind] at hk
  subst hk
  simp only [CE.kids] at hx
  cases kids with
  | nil => simp at hx
  | cons a l =>
    simp at hx; subst hx
    rw [CE.ev, if_neg (by decide), if_neg (by decide), if_pos rfl, Dn]; rfl
theorem YT (hk : e.kind = 3) (hx : e.kids[0]? = some x) (hf : ((x.ev cl s c).2.m.fin != 0) = true) : e.ev cl s c = (0, (x.ev cl s c).2) := by
  rw [Vm hk hx, show ((x.ev cl s c).2.fin == 0) = false from HS hf]; rfl
theorem YS (hk : e.kind = 3) (hx : e.kids[0]? = some x) (hf : ((x.ev cl s c).2.m.fin != 0) = false) (hz : decide ((x.ev cl s c).1 >= e.size) = true) : e.ev cl s c = (0, (x.ev cl s c).2.put { (x.ev cl s c).2.m with fin := 3 }) := by
  rw [Vm hk hx, show ((x.ev cl s c).2.fin == 0) = true from CA hf, hz]; rfl
theorem YR (hk : e.kind = 3) (hx : e.kids[0]? = some x) (hf : ((x.ev cl s c).2.m.fin != 0) = false) (hz : decide ((x.ev cl s c).1 >= e.size) = false) : e.ev cl s c = (rget (x.ev cl s c).2.m.words (e.slot + (x.ev cl s c).1), (x.ev cl s c).2) := by
  rw [Vm hk hx, show ((x.ev cl s c).2.fin == 0) = true from CA hf, hz]; rfl
theorem XS (hk : e.kind = 4) : e.ev cl s c = A5 cl s e.slot e.kids [] c := by
  cases e; simp only [CE.kind] at hk; subst hk; rw [CE.ev, if_neg (by decide), if_neg (by decide), if_neg (by decide), if_pos rfl]; rfl
theorem YQ (hk : e.kind = 5) (h : c.m.read < s.size) : e.ev cl s c = (((inAt s c.m.read).toNat : Int), c.put { c.m with read := c.m.read + 1 }) := by
  cases e; simp only [CE.kind] at hk; subst hk; rw [CE.ev, if_neg (by decide), if_neg (by decide), if_neg (by decide), if_neg (by decide), if_pos rfl, decide_eq_true h]; rfl
theorem YP (hk : e.kind = 5) (h : ¬ c.m.read < s.size) : e.ev cl s c = (256, c) := by
  cases e; simp only [CE.kind] at hk; subst hk; rw [CE.ev, if_neg (by decide), if_neg (by decide), if_neg (by decide), if_neg (by decide), if_pos rfl, decide_eq_false h]; rfl
theorem Lh (h1 : e.kind ≠ 1) (h2 : e.kind ≠ 2) (h3 : e.kind ≠ 3) (h4 : e.kind ≠ 4) (h5 : e.kind ≠ 5) (hx : e.kids[0]? = some x) : e.ev cl s c = bif (x.ev cl s c).2.fin == 0 then (bif e.kind == 7 then (zf ((x.ev cl s c).1 == 0), (x.ev cl s c).2) else bif e.kind == 8 && (x.ev cl s c).1 == 0 then (0, (x.ev cl s c).2) else bif e.kind == 9 && !((x.ev cl s c).1 == 0) then (1, (x.ev cl s c).2) else Cm cl s e.kind e.op (e.kids.drop 1) (x.ev cl s c).1 (x.ev cl s c).2) else (0, (x.ev cl s c).2) := by
  cases e with
  | mk k o num sl z kids =>
  simp only [CE.kind] at h1 h2 h3 h4 h5
  simp only [CE.kids] at hx
  cases kids with
  | nil => simp at hx
  | cons a l =>
    simp at hx; subst hx
    rw [CE.ev, if_neg h1, if_neg h2, if_neg h3, if_neg h4, if_neg h5, Cs]; rfl
def eK (e : CE) : Prop := e.kind ≠ 1 /\ e.kind ≠ 2 /\ e.kind ≠ 3 /\ e.kind ≠ 4 /\ e.kind ≠ 5
theorem bX (h : eK e) (hx : e.kids[0]? = some x) (hf : ((x.ev cl s c).2.m.fin != 0) = true) : e.ev cl s c = (0, (x.ev cl s c).2) := by
  rw [Lh h.1 h.2.1 h.2.2.1 h.2.2.2.1 h.2.2.2.2 hx, show ((x.ev cl s c).2.fin == 0) = false from HS hf]; rfl
theorem fh (h : eK e) (hx : e.kids[0]? = some x) (hf : ((x.ev cl s c).2.m.fin != 0) = false) (hk : e.kind = 7) : e.ev cl s c = (zf ((x.ev cl s c).1 == 0), (x.ev cl s c).2) := by
  rw [Lh h.1 h.2.1 h.2.2.1 h.2.2.2.1 h.2.2.2.2 hx, show ((x.ev cl s c).2.fin == 0) = true from CA hf, hk]; rfl
theorem ca (h : eK e) (hx : e.kids[0]? = some x) (hf : ((x.ev cl s c).2.m.fin != 0) = false) (hk : e.kind = 8) (hz : ((x.ev cl s c).1 == 0) = true) : e.ev cl s c = (0, (x.ev cl s c).2) := by
  rw [Lh h.1 h.2.1 h.2.2.1 h.2.2.2.1 h.2.2.2.2 hx, show ((x.ev cl s c).2.fin == 0) = true from CA hf, hk, hz]; rfl
theorem bZ (h : eK e) (hx : e.kids[0]? = some x) (hf : ((x.ev cl s c).2.m.fin != 0) = false) (hk : e.kind = 9) (hz : ((x.ev cl s c).1 != 0) = true) : e.ev cl s c = (1, (x.ev cl s c).2) := by
  rw [Lh h.1 h.2.1 h.2.2.1 h.2.2.2.1 h.2.2.2.2 hx, show ((x.ev cl s c).2.fin == 0) = true from CA hf, hk, show ((x.ev cl s c).1 == 0) = false by simpa using hz]; rfl
theorem IA {l : List CE} (hy : l[1]? = some y) : ∃ r, l.drop 1 = y :: r := ⟨l.drop 2, Hd hy⟩
theorem Qu {k o v : Int} {r : List CE} {d : CM} : Cm cl s k o (y :: r) v d = bif k == 8 || k == 9 then (zf (!((y.ev cl s d).1 == 0)), (y.ev cl s d).2) else bif (y.ev cl s d).2.fin == 0 then (bif (BC o v (y.ev cl s d).1).2 == 0 then ((BC o v (y.ev cl s d).1).1, (y.ev cl s d).2) else ((BC o v (y.ev cl s d).1).1, (y.ev cl s d).2.put { (y.ev cl s d).2.m with fin := 2 })) else (0, (y.ev cl s d).2) := by
  rw [Cm]
theorem b9 (h : eK e) (hx : e.kids[0]? = some x) (hy : e.kids[1]? = some y) (hf : ((x.ev cl s c).2.m.fin != 0) = false) (hk : e.kind = 8) (hz : ((x.ev cl s c).1 == 0) = false) : e.ev cl s c = (zf ((y.ev cl s (x.ev cl s c).2).1 != 0), (y.ev cl s (x.ev cl s c).2).2) := by
  obtain ⟨r, hr⟩ := IA hy
  rw [Lh h.1 h.2.1 h.2.2.1 h.2.2.2.1 h.2.2.2.2 hx, show ((x.ev cl s c).2.fin == 0) = true from CA hf, hr, Qu, hk, hz]; rfl
theorem bY (h : eK e) (hx : e.kids[0]? = some x) (hy : e.kids[1]? = some y) (hf : ((x.ev cl s c).2.m.fin != 0) = false) (hk : e.kind = 9) (hz : ((x.ev cl s c).1 != 0) = false) : e.ev cl s c = (zf ((y.ev cl s (x.ev cl s c).2).1 != 0), (y.ev cl s (x.ev cl s c).2).2) := by
  obtain ⟨r, hr⟩ := IA hy
  rw [Lh h.1 h.2.1 h.2.2.1 h.2.2.2.1 h.2.2.2.2 hx, show ((x.ev cl s c).2.fin == 0) = true from CA hf, hr, Qu, hk, show ((x.ev cl s c).1 == 0) = true by simpa using hz]; rfl
theorem YU (h : eK e) (hx : e.kids[0]? = some x) (hy : e.kids[1]? = some y) (hf : ((x.ev cl s c).2.m.fin != 0) = false) (hk : e.kind = 6) : e.ev cl s c = bif (y.ev cl s (x.ev cl s c).2).2.fin == 0 then (bif (BC e.op (x.ev cl s c).1 (y.ev cl s (x.ev cl s c).2).1).2 == 0 then ((BC e.op (x.ev cl s c).1 (y.ev cl s (x.ev cl s c).2).1).1, (y.ev cl s (x.ev cl s c).2).2) else ((BC e.op (x.ev cl s c).1 (y.ev cl s (x.ev cl s c).2).1).1, (y.ev cl s (x.ev cl s c).2).2.put { (y.ev cl s (x.ev cl s c).2).2.m with fin := 2 })) else (0, (y.ev cl s (x.ev cl s c).2).2) := by
  obtain ⟨r, hr⟩ := IA hy
  rw [Lh h.1 h.2.1 h.2.2.1 h.2.2.2.1 h.2.2.2.2 hx, show ((x.ev cl s c).2.fin == 0) = true from CA hf, hr, Qu, hk]; rfl
theorem cd (h : eK e) (hx : e.kids[0]? = some x) (hy : e.kids[1]? = some y) (hf : ((x.ev cl s c).2.m.fin != 0) = false) (hk : e.kind = 6) (hg : ((y.ev cl s (x.ev cl s c).2).2.m.fin != 0) = true) : e.ev cl s c = (0, (y.ev cl s (x.ev cl s c).2).2) := by
  rw [YU h hx hy hf hk, show ((y.ev cl s (x.ev cl s c).2).2.fin == 0) = false from HS hg]; rfl
theorem cc (h : eK e) (hx : e.kids[0]? = some x) (hy : e.kids[1]? = some y) (hf : ((x.ev cl s c).2.m.fin != 0) = false) (hk : e.kind = 6) (hg : ((y.ev cl s (x.ev cl s c).2).2.m.fin != 0) = false) (hz : ((BC e.op (x.ev cl s c).1 (y.ev cl s (x.ev cl s c).2).1).2 != 0) = true) : e.ev cl s c = ((BC e.op (x.ev cl s c).1 (y.ev cl s (x.ev cl s c).2).1).1, (y.ev cl s (x.ev cl s c).2).2.put { (y.ev cl s (x.ev cl s c).2).2.m with fin := 2 }) := by
  rw [YU h hx hy hf hk, show ((y.ev cl s (x.ev cl s c).2).2.fin == 0) = true from CA hg, show ((BC e.op (x.ev cl s c).1 (y.ev cl s (x.ev cl s c).2).1).2 == 0) = false by simpa using hz]; rfl
theorem cb (h : eK e) (hx : e.kids[0]? = some x) (hy : e.kids[1]? = some y) (hf : ((x.ev cl s c).2.m.fin != 0) = false) (hk : e.kind = 6) (hg : ((y.ev cl s (x.ev cl s c).2).2.m.fin != 0) = false) (hz : ((BC e.op (x.ev cl s c).1 (y.ev cl s (x.ev cl s c).2).1).2 != 0) = false) : e.ev cl s c = ((BC e.op (x.ev cl s c).1 (y.ev cl s (x.ev cl s c).2).1).1, (y.ev cl s (x.ev cl s c).2).2) := by
  rw [YU h hx hy hf hk, show ((y.ev cl s (x.ev cl s c).2).2.fin == 0) = true from CA hg, show ((BC e.op (x.ev cl s c).1 (y.ev cl s (x.ev cl s c).2).1).2 == 0) = true by simpa using hz]; rfl
theorem Gu {l : List CE} (h : 0 < l.length) : ∃ x, l[0]? = some x /\ x ∈ l := by
  obtain ⟨x, hx⟩ := At h
  exact ⟨x, hx, List.mem_of_getElem? hx⟩
theorem S0 {l : List CE} (h : 1 < l.length) : ∃ x, l[1]? = some x /\ x ∈ l := by
  obtain ⟨x, hx⟩ := At h
  exact ⟨x, hx, List.mem_of_getElem? hx⟩
end
section
variable {C : Core} {n : Nat} {w : Bool} {e : CS} {x y : CE} {cl : BD} {s : ByteArray} {fuel : Int} {c : CM}
theorem W2 {l : List CE} {k : Nat} {f : Int} {args : List Int} (hx : l[k]? = some x) (hf : ((x.ev cl s c).2.m.fin != 0) = true) : A5 cl s f (l.drop k) args c = (0, (x.ev cl s c).2) := by
  rw [Hd hx, A5]
  dsimp only
  rw [HS hf]; rfl
theorem Y4 {l : List CE} {k : Nat} {f : Int} {args : List Int} (hx : l[k]? = some x) (hf : ((x.ev cl s c).2.m.fin != 0) = false) : A5 cl s f (l.drop k) args c = A5 cl s f (l.drop (k + 1)) (args ++ [(x.ev cl s c).1]) (x.ev cl s c).2 := by
  rw [Hd hx, A5]
  dsimp only
  rw [CA hf]; rfl
theorem Nr {l : List CE} {k : Nat} {f : Int} {args : List Int} (hk : l.length <= k) : A5 cl s f (l.drop k) args c = cl f args c := by
  rw [List.drop_eq_nil_of_le hk, A5]
structure CallI (W : Nat) (cl : BD) (s : ByteArray) (f : Int) (l : List CE) (t : Int × CM) (q : Nat × List Int × CM) : Prop where
  len : q.2.1.length = q.1
  args : Er q.2.1
  good : q.2.2.good W
  eq : A5 cl s f (l.drop q.1) q.2.1 q.2.2 = t
  le : q.1 <= l.length
theorem CallI.next {W : Nat} {f : Int} {l : List CE} {t : Int × CM} {q : Nat × List Int × CM} (h : CallI W cl s f l t q) (hx : l[q.1]? = some x) (hf : ((x.ev cl s q.2.2).2.m.fin != 0) = false) (hg : (x.ev cl s q.2.2).2.good W /\ CD (x.ev cl s q.2.2).1) : CallI W cl s f l t (q.1 + 1, q.2.1 ++ [(x.ev cl s q.2.2).1], (x.ev cl s q.2.2).2) := by
  refine ⟨by rw [List.length_append, h.len]; rfl, fun v hv => ?_, hg.1, (Y4 hx hf).symm.trans h.eq, (List.getElem?_eq_some_iff.1 hx).1⟩
  rcases List.mem_append.1 hv with hv | hv
  . exact h.args v hv
  . rw [List.mem_singleton.1 hv]; exact hg.2
def XD (g : CFn) (d : CM) (k : Nat) : CM := d.put { d.m with words := A8 d.m.words g.first k }
def GW (g : CFn) (args : List Int) (d : CM) (k : Nat) : CM := d.put { d.m with words := CB (A8 d.m.words g.first g.slots.toNat) g.first args k }
theorem PL (fuel : Int) (c : CM) : (AD fuel c).2.m.words = c.m.words := by
  unfold AD AG
  cases decide ((c.m.steps : Int) >= fuel) <;> rfl
theorem Xf {m : Nat} {f : Int} {args : List Int} (ht : (AD fuel c).1 = false) : BX C s fuel (m + 1) f args c = (0, (AD fuel c).2) := by rw [BX, ht]; rfl
theorem VC {m : Nat} {f : Int} {args : List Int} {g : CFn} (ht : (AD fuel c).1 = true) (hg : C.funcs[f.toNat]? = some g) : BX C s fuel (m + 1) f args c = bif (Ao (BX C s fuel m) s fuel g.body (GW g args (AD fuel c).2 args.length)).over then ((Ao (BX C s fuel m) s fuel g.body (GW g args (AD fuel c).2 args.length)).val, { Ao (BX C s fuel m) s fuel g.body (GW g args (AD fuel c).2 args.length) with over := false }) else (0, Ao (BX C s fuel m) s fuel g.body (GW g args (AD fuel c).2 args.length)) := by
  rw [Xg (c' := (AD fuel c).2) (Prod.ext ht rfl) hg]
  unfold inCall GW
  rw [PL]
theorem Kd {W : Nat} {g : CFn} {d : CM} (h : d.good W) (k : Nat) : (XD g d k).good W := ⟨⟨by show (A8 d.m.words g.first k).length = W; rw [DE]; exact h.m.len, HY h.m.words _ _, h.m.out⟩, h.val⟩
theorem LG {W : Nat} {g : CFn} {d : CM} {args : List Int} (h : d.good W) (ha : Er args) (k : Nat) : (GW g args d k).good W := ⟨⟨by show (CB (A8 d.m.words g.first g.slots.toNat) g.first args k).length = W; rw [Ec, DE]; exact h.m.len, Kb (HY h.m.words _ _) _ ha _, h.m.out⟩, h.val⟩
theorem Vv {g : CFn} (hg : C.funcs[C.funcs.length - 1]? = some g) (h : ((Ao (BX C s fuel (C.funcs.length - 1)) s fuel g.body (c0 C)).m.fin == 0) = true) : Fy C s fuel = { (Ao (BX C s fuel (C.funcs.length - 1)) s fuel g.body (c0 C)).m with fin := 1 } := by
  unfold Fy
  rw [hg]
  dsimp only
  rw [h]; rfl
theorem Xa {g : CFn} (hg : C.funcs[C.funcs.length - 1]? = some g) (h : ((Ao (BX C s fuel (C.funcs.length - 1)) s fuel g.body (c0 C)).m.fin == 0) = false) : Fy C s fuel = (Ao (BX C s fuel (C.funcs.length - 1)) s fuel g.body (c0 C)).m := by
  unfold Fy
  rw [hg]
  dsimp only
  rw [h]; rfl
theorem Kt {st : CS} {l : List CS} {k : Nat} (hx : l[k]? = some st) (h0 : (c.m.fin == 0) = true) (h1 : c.over = false) : Ao cl s fuel (l.drop k) c = Ao cl s fuel (l.drop (k + 1)) (st.run cl s fuel c) := by
  rw [Hd hx, Ao, show (c.fin == 0) = true from h0, h1]; rfl
theorem Sm {l : List CS} {k : Nat} (hk : l.length <= k) : Ao cl s fuel (l.drop k) c = c := by rw [List.drop_eq_nil_of_le hk, Ao]
theorem Sl {l : List CS} (h : (c.m.fin == 0) = false) : Ao cl s fuel l c = c := I1 fun h2 => by
  have e : c.m.fin = 0 := h2.1
  rw [e] at h; cases h
theorem PW {l : List CS} (h : c.over = true) : Ao cl s fuel l c = c := I1 fun h2 => by rw [h] at h2; cases h2.2
theorem Um (h : e.ok C n w) (hk : e.kind = 1) : e.es.length = 1 /\ 0 <= e.slot /\ e.slot < C.words := by
  cases e with
  | mk k sl z es thn els =>
  rw [CS.ok] at h
  simp only [CS.kind] at hk
  simp only [CS.slot, CS.es]
  exact TX
theorem Ul (h : e.ok C n w) (hk : e.kind = 2) : e.es.length = 2 /\ 1 <= e.size /\ e.size <= 4096 /\ 0 <= e.slot /\ e.slot + e.size <= C.words := by
  cases e with
  | mk k sl z es thn els =>
  rw [CS.ok] at h
  simp only [CS.kind] at hk
  simp only [CS.slot, CS.size, CS.es]
  exact TX
theorem XI (h : e.ok C n w) (hk : e.kind = 5) : e.es.length = 1 := by
  cases e with
  | mk k sl z es thn els =>
  rw [CS.ok] at h
  simp only [CS.kind] at hk
  simp only [CS.es]
  exact TX
theorem XH (h : e.ok C n w) (hk : e.kind = 6) : 0 <= e.slot /\ e.slot < n /\ ∃ g, C.funcs[e.slot.toNat]? = some g /\ g.word = false /\ g.params = e.es.length /\ e.es.length <= 6 := by
  cases e with
  | mk k sl z es thn els =>
  rw [CS.ok] at h
  simp only [CS.kind] at hk
  simp only [CS.slot, CS.es]
  exact TX
theorem Rj (h : e.ok C n w) (h5 : e.kind ≠ 5) (h6 : e.kind ≠ 6) (h7 : e.kind ≠ 7) : 0 < e.es.length /\ (e.kind = 1 \/ e.kind = 2 \/ e.kind = 3 \/ e.kind = 4) := by
  cases e with
  | mk k sl z es thn els =>
  rw [CS.ok] at h
  simp only [CS.kind] at h5 h6 h7
  simp only [CS.kind, CS.es]
  obtain ⟨_, _, _, h2⟩ := h
  rcases h2 with h2 | h2 | h2 | h2 | h2 | h2 | h2
  . exact ⟨by omega, .inl h2.1⟩
  . exact ⟨by omega, .inr (.inl h2.1)⟩
  . exact ⟨by omega, .inr (.inr (.inl h2.1))⟩
  . exact ⟨by omega, .inr (.inr (.inr h2.1))⟩
  . exact absurd h2.1 h5
  . exact absurd h2.1 h6
  . exact absurd h2.1 h7
theorem FY (h : e.ok C n w) {x : CE} (hx : x ∈ e.es) : x.ok C n := by
  cases e with
  | mk k sl z es thn els =>
  rw [CS.ok] at h
  exact zt72
theorem sokL_mem {l : List CS} (ho : CS.okL C n w l) {x : CS} (hx : x ∈ l) : x.ok C n w := by
  induction l with
  | nil => cases hx
  | cons a l ih =>
    rw [CS.okL] at ho
    rcases List.mem_cons.1 hx with rfl | hx
    . exact ho.1
    . exact ih ho.2 hx
theorem Ib (h : e.ok C n w) : CS.okL C n w e.thn := by cases e; rw [CS.ok] at h; exact h.2.1
theorem Ic (h : e.ok C n w) : CS.okL C n w e.els := by cases e; rw [CS.ok] at h; exact h.2.2.1
theorem CK {l : List CE} (hx : l[0]? = some x) : Bc cl s l c = x.ev cl s c := by
  cases l with
  | nil => simp at hx
  | cons a l => simp at hx; subst hx; rfl
theorem Uo (hk : e.kind = 6) : e.run cl s fuel c = (A5 cl s e.slot e.es [] c).2 := by
  cases e; simp only [CS.kind] at hk; subst hk; rw [CS.run, if_pos rfl]; rfl
theorem Up (hk : e.kind = 5) : e.run cl s fuel c = Bk fuel (Bc cl s e.es) (fun c => Ao cl s fuel e.thn c) (fuel.toNat + 1) c := by
  cases e; simp only [CS.kind] at hk; subst hk; rw [CS.run, if_neg (by decide), if_pos rfl]; rfl
theorem Hs (h5 : e.kind ≠ 5) (h6 : e.kind ≠ 6) : e.run cl s fuel c = (match Bc cl s e.es c with
    | (x, c1) => bif c1.fin == 0 then
        (if e.kind = 7 then { c1 with over := true, val := x }
        else if e.kind = 1 then c1.put { c1.m with words := AK c1.m.words e.slot x }
        else if e.kind = 2 then (match Bc cl s (e.es.drop 1) c1 with
          | (y, c2) => bif c2.fin == 0 then (bif decide (x >= e.size) then c2.put { c2.m with fin := 3 } else c2.put { c2.m with words := AK c2.m.words (e.slot + x) y }) else c2)
        else if e.kind = 3 then (bif decide (c1.m.out.length >= 65536) then c1.put { c1.m with fin := 4 } else c1.put { c1.m with out := c1.m.out ++ [byteOf x] })
        else (bif x == 0 then Ao cl s fuel e.els c1 else Ao cl s fuel e.thn c1))
      else c1) := by
  cases e with
  | mk k sl z es thn els =>
  simp only [CS.kind] at h5 h6
  rw [CS.run, if_neg h6, if_neg h5]; rfl
theorem Uq (h5 : e.kind ≠ 5) (h6 : e.kind ≠ 6) (hx : e.es[0]? = some x) (hf : ((x.ev cl s c).2.m.fin != 0) = true) : e.run cl s fuel c = (x.ev cl s c).2 := by
  rw [Hs h5 h6, CK hx]
  dsimp only
  rw [HS hf]; rfl
theorem Yo (hk : e.kind = 7) (hx : e.es[0]? = some x) (hf : ((x.ev cl s c).2.m.fin == 0) = true) : e.run cl s fuel c = { (x.ev cl s c).2 with over := true, val := (x.ev cl s c).1 } := by
  rw [Hs (by omega) (by omega), CK hx]
  dsimp only
  rw [show ((x.ev cl s c).2.fin == 0) = true from hf, cond_true, if_pos hk]
theorem Yn (hk : e.kind = 7) (hx : e.es[0]? = some x) (hf : ((x.ev cl s c).2.m.fin == 0) = false) : e.run cl s fuel c = (x.ev cl s c).2 := by
  rw [Hs (by omega) (by omega), CK hx]
  dsimp only
  rw [show ((x.ev cl s c).2.fin == 0) = false from hf]; rfl
theorem Yp (hk : e.kind = 7) (hx : e.es.length = 0) (hf : (c.m.fin == 0) = true) : e.run cl s fuel c = { c with over := true, val := 0 } := by
  rw [Hs (by omega) (by omega), List.length_eq_zero_iff.1 hx]
  show (bif c.fin == 0 then _ else _ : CM) = _
  rw [show (c.fin == 0) = true from hf, cond_true, if_pos hk]
theorem bD (hk : e.kind = 1) (hx : e.es[0]? = some x) (hf : ((x.ev cl s c).2.m.fin != 0) = false) : e.run cl s fuel c = (x.ev cl s c).2.put { (x.ev cl s c).2.m with words := AK (x.ev cl s c).2.m.words e.slot (x.ev cl s c).1 } := by
  rw [Hs (by omega) (by omega), CK hx]
  dsimp only
  rw [CA hf, cond_true, if_neg (by omega), if_pos hk]
theorem Uu (hk : e.kind = 2) (hx : e.es[0]? = some x) (hy : e.es[1]? = some y) (hf : ((x.ev cl s c).2.m.fin != 0) = false) : e.run cl s fuel c = bif (y.ev cl s (x.ev cl s c).2).2.fin == 0 then (bif decide ((x.ev cl s c).1 >= e.size) then (y.ev cl s (x.ev cl s c).2).2.put { (y.ev cl s (x.ev cl s c).2).2.m with fin := 3 } else (y.ev cl s (x.ev cl s c).2).2.put { (y.ev cl s (x.ev cl s c).2).2.m with words := AK (y.ev cl s (x.ev cl s c).2).2.m.words (e.slot + (x.ev cl s c).1) (y.ev cl s (x.ev cl s c).2).1 }) else (y.ev cl s (x.ev cl s c).2).2 := by
  rw [Hs (by omega) (by omega), CK hx]
  dsimp only
  obtain ⟨r, hr⟩ := IA hy
  rw [CA hf, cond_true, if_neg (by omega), if_neg (by omega), if_pos hk, hr]; rfl
theorem Yu (hk : e.kind = 2) (hx : e.es[0]? = some x) (hy : e.es[1]? = some y) (hf : ((x.ev cl s c).2.m.fin != 0) = false) (hg : ((y.ev cl s (x.ev cl s c).2).2.m.fin != 0) = true) : e.run cl s fuel c = (y.ev cl s (x.ev cl s c).2).2 := by
  rw [Uu hk hx hy hf, HS hg]; rfl
theorem Yt (hk : e.kind = 2) (hx : e.es[0]? = some x) (hy : e.es[1]? = some y) (hf : ((x.ev cl s c).2.m.fin != 0) = false) (hg : ((y.ev cl s (x.ev cl s c).2).2.m.fin != 0) = false) (hz : decide ((x.ev cl s c).1 >= e.size) = true) : e.run cl s fuel c = (y.ev cl s (x.ev cl s c).2).2.put { (y.ev cl s (x.ev cl s c).2).2.m with fin := 3 } := by
  rw [Uu hk hx hy hf, CA hg, hz]; rfl
theorem Ys (hk : e.kind = 2) (hx : e.es[0]? = some x) (hy : e.es[1]? = some y) (hf : ((x.ev cl s c).2.m.fin != 0) = false) (hg : ((y.ev cl s (x.ev cl s c).2).2.m.fin != 0) = false) (hz : decide ((x.ev cl s c).1 >= e.size) = false) : e.run cl s fuel c = (y.ev cl s (x.ev cl s c).2).2.put { (y.ev cl s (x.ev cl s c).2).2.m with words := AK (y.ev cl s (x.ev cl s c).2).2.m.words (e.slot + (x.ev cl s c).1) (y.ev cl s (x.ev cl s c).2).1 } := by
  rw [Uu hk hx hy hf, CA hg, hz]; rfl
theorem Yr (hk : e.kind = 3) (hx : e.es[0]? = some x) (hf : ((x.ev cl s c).2.m.fin != 0) = false) (ho : (x.ev cl s c).2.m.out.length >= 65536) : e.run cl s fuel c = (x.ev cl s c).2.put { (x.ev cl s c).2.m with fin := 4 } := by
  rw [Hs (by omega) (by omega), CK hx]
  dsimp only
  rw [CA hf, cond_true, if_neg (by omega), if_neg (by omega), if_neg (by omega), if_pos hk, decide_eq_true ho]; rfl
theorem Yq (hk : e.kind = 3) (hx : e.es[0]? = some x) (hf : ((x.ev cl s c).2.m.fin != 0) = false) (ho : ¬ (x.ev cl s c).2.m.out.length >= 65536) : e.run cl s fuel c = (x.ev cl s c).2.put { (x.ev cl s c).2.m with out := (x.ev cl s c).2.m.out ++ [byteOf (x.ev cl s c).1] } := by
  rw [Hs (by omega) (by omega), CK hx]
  dsimp only
  rw [CA hf, cond_true, if_neg (by omega), if_neg (by omega), if_neg (by omega), if_pos hk, decide_eq_false ho]; rfl
theorem Us (hk : e.kind = 4) (hx : e.es[0]? = some x) (hf : ((x.ev cl s c).2.m.fin != 0) = false) (hz : ((x.ev cl s c).1 != 0) = true) : e.run cl s fuel c = Ao cl s fuel e.thn (x.ev cl s c).2 := by
  rw [Hs (by omega) (by omega), CK hx]
  dsimp only
  rw [CA hf, cond_true, if_neg (by omega), if_neg (by omega), if_neg (by omega), if_neg (by omega), show ((x.ev cl s c).1 == 0) = false by simpa using hz]; rfl
theorem Ur (hk : e.kind = 4) (hx : e.es[0]? = some x) (hf : ((x.ev cl s c).2.m.fin != 0) = false) (hz : ((x.ev cl s c).1 != 0) = false) : e.run cl s fuel c = Ao cl s fuel e.els (x.ev cl s c).2 := by
  rw [Hs (by omega) (by omega), CK hx]
  dsimp only
  rw [CA hf, cond_true, if_neg (by omega), if_neg (by omega), if_neg (by omega), if_neg (by omega), show ((x.ev cl s c).1 == 0) = true by simpa using hz]; rfl
structure WhI (W : Nat) (fuel : Int) (cond : CM -> Int × CM) (body : CM -> CM) (t : CM) (q : Nat × CM) : Prop where
  good : q.2.good W
  eq : Bk fuel cond body q.1 q.2 = t
  gas : fuel.toNat + 1 <= q.1 + q.2.m.steps
  pos : 0 < q.1
section
variable {W : Nat} {cond : CM -> Int × CM} {body : CM -> CM} {t : CM} {q : Nat × CM}
theorem WhI.stop (h : WhI W fuel cond body t q) (hf : (q.2.m.fin == 0) = false \/ q.2.over = true) : t = q.2 := by
  obtain ⟨g, d⟩ := q
  cases g with
  | zero => exact absurd (show 0 < 0 from h.pos) (Nat.lt_irrefl 0)
  | succ g =>
    rw [<- h.eq, Bk]
    rcases hf with hf | hf
    . rw [show (d.fin == 0) = false from hf]; rfl
    . rw [show d.over = true from hf]; cases (d.fin == 0) <;> rfl
theorem WhI.notick (h : WhI W fuel cond body t q) (h0 : (q.2.m.fin == 0) = true) (h1 : q.2.over = false) (ht : (AD fuel q.2).1 = false) : t = (AD fuel q.2).2 := by
  obtain ⟨g, d⟩ := q
  cases g with
  | zero => exact absurd (show 0 < 0 from h.pos) (Nat.lt_irrefl 0)
  | succ g =>
    rw [<- h.eq, Bk, show (d.fin == 0) = true from h0, show d.over = false from h1, ht]; rfl
theorem WhI.last (h : WhI W fuel cond body t q) (h0 : (q.2.m.fin == 0) = true) (h1 : q.2.over = false) (ht : (AD fuel q.2).1 = true) (hz : ((cond (AD fuel q.2).2).2.m.fin != 0) = true \/ ((cond (AD fuel q.2).2).1 == 0) = true) : t = (cond (AD fuel q.2).2).2 := by
  obtain ⟨g, d⟩ := q
  cases g with
  | zero => exact absurd (show 0 < 0 from h.pos) (Nat.lt_irrefl 0)
  | succ g =>
    rw [<- h.eq, Bk, show (d.fin == 0) = true from h0, show d.over = false from h1, ht]
    dsimp only
    rw [show ((cond (AD fuel d).2).2.fin == 0 && !(cond (AD fuel d).2).1 == 0) = false by
      rcases hz with hz | hz
      . rw [HS hz]; rfl
      . rw [show ((cond (AD fuel d).2).1 == 0) = true from hz]; cases ((cond (AD fuel d).2).2.fin == 0) <;> rfl]; rfl
theorem WhI.lastE {l : List CE} (h : WhI W fuel (Bc cl s l) body t q) (hx : l[0]? = some x) (h0 : (q.2.m.fin == 0) = true) (h1 : q.2.over = false) (ht : (AD fuel q.2).1 = true) (hz : ((x.ev cl s (AD fuel q.2).2).2.m.fin != 0) = true \/ ((x.ev cl s (AD fuel q.2).2).1 == 0) = true) : t = (x.ev cl s (AD fuel q.2).2).2 := by
  have e := h.last h0 h1 ht (by rw [CK hx]; exact hz)
  rwa [CK hx] at e
theorem WhI.next (h : WhI W fuel cond body t q) (h0 : (q.2.m.fin == 0) = true) (h1 : q.2.over = false) (ht : (AD fuel q.2).1 = true) (hz : ((cond (AD fuel q.2).2).2.m.fin != 0) = false) (hz2 : ((cond (AD fuel q.2).2).1 == 0) = false)
    (hg : (body (cond (AD fuel q.2).2).2).good W) (hu1 : ∀ c, c.m.steps <= (cond c).2.m.steps) (hu2 : ∀ c, c.m.steps <= (body c).m.steps) : WhI W fuel cond body t (q.1 - 1, body (cond (AD fuel q.2).2).2) /\ q.1 - 1 < q.1 := by
  obtain ⟨g, d⟩ := q
  cases g with
  | zero => exact absurd (show 0 < 0 from h.pos) (Nat.lt_irrefl 0)
  | succ g =>
    have hgas := h.gas
    dsimp only at hgas hg h0 h1 ht hz hz2
    obtain ⟨e1, e2⟩ := DC (show (AG fuel d.m).1 = true from ht)
    have e3 : (AD fuel d).2.m.steps = d.m.steps + 1 := by show (AG fuel d.m).2.steps = _; rw [e2]
    have e4 := hu1 (AD fuel d).2
    have e5 := hu2 (cond (AD fuel d).2).2
    refine ⟨⟨hg, ?_, ?_, ?_⟩, ?_⟩
    . rw [<- h.eq]
      show Bk fuel cond body (g + 1 - 1) _ = Bk fuel cond body (g + 1) d
      rw [Bk, show (d.fin == 0) = true from h0, show d.over = false from h1, ht]
      dsimp only
      rw [show ((cond (AD fuel d).2).2.fin == 0 && !(cond (AD fuel d).2).1 == 0) = true by rw [CA hz, hz2]; rfl]; rfl
    . show fuel.toNat + 1 <= g + 1 - 1 + (body (cond (AD fuel d).2).2).m.steps
      omega
    . show 0 < g + 1 - 1
      omega
    . show g + 1 - 1 < g + 1
      omega
end
end
def LowR (h : Ab) : Nat -> List AObj -> Prop
  | _, [] => True
  | i, o :: L => h i = some o /\ LowR h (i + 1) L
theorem LowR.get {h : Ab} : ∀ {L : List AObj} {i c : Nat}, LowR h i L -> c < L.length -> h (i + c) = some (SF L c)
  | o :: L, i, 0, hl, _ => hl.1
  | o :: L, i, c + 1, hl, hc => by
    have := LowR.get hl.2 (c := c) (by simp at hc; omega)
    rw [show i + (c + 1) = i + 1 + c by omega]; exact this
theorem OB : ∀ {L : List AObj} {c : Nat}, L.length <= c -> SF L c = .free
  | [], _, _ => rfl
  | _ :: L, 0, h => by simp at h
  | _ :: L, c + 1, h => OB (L := L) (by simp at h; omega)
def kR (m : Nat) : Nat -> Bool := fun c => (Nat.ble 2 c && Nat.blt c (m + 2)) || Nat.ble 16 c
def AE (m : Nat) (h g : Ab) : Ab := fun c => bif kR m c then g c else h c
theorem OJ (m x : Nat) : kR m (x + 16) = true := by
  unfold kR; rw [show Nat.ble 16 (x + 16) = true by rw [Nat.ble_eq]; omega]; simp
theorem U2 {m c : Nat} (h : kR m c = false) : c = 0 \/ c = 1 \/ (m + 2 <= c /\ c < 16) := by
  unfold kR at h
  simp only [Bool.or_eq_false_iff, Bool.and_eq_false_iff] at h
  obtain ⟨h1, h2⟩ := h
  have h3 : ¬ 16 <= c := fun e => by rw [<- Nat.ble_eq] at e; rw [e] at h2; cases h2
  rcases h1 with h1 | h1
  . have : ¬ 2 <= c := fun e => by rw [<- Nat.ble_eq] at e; rw [e] at h1; cases h1
    omega
  . have : ¬ c < m + 2 := fun e => by
      have : Nat.blt c (m + 2) = true := by unfold Nat.blt; rw [Nat.ble_eq]; omega
      rw [this] at h1; cases h1
    omega
theorem Nm {m c : Nat} (h : kR m c = true) : (2 <= c /\ c < m + 2) \/ 16 <= c := by
  unfold kR at h
  simp only [Bool.or_eq_true, Bool.and_eq_true, Nat.ble_eq] at h
  rcases h with ⟨h1, h2⟩ | h
  . left
    refine ⟨h1, ?_⟩
    unfold Nat.blt at h2
    rw [Nat.ble_eq] at h2; omega
  . exact .inr h
theorem BE (m : Nat) (h g : Ab) (x : Nat) : AE m h g (x + 16) = g (x + 16) := by unfold AE; rw [OJ]; rfl
theorem Bv {m : Nat} {h g : Ab} {c : Nat} (hc : kR m c = true) : AE m h g c = g c := by unfold AE; rw [hc]; rfl
theorem J3 {m : Nat} {h g : Ab} {c : Nat} (hc : kR m c = false) : AE m h g c = h c := by unfold AE; rw [hc]; rfl
abbrev RH (L : List AObj) (F : Nat -> AObj) : Ab := fam (nb (.free :: .free :: L)) F
section
variable {m : Nat} {L L' : List AObj} {F F' : Nat -> AObj} {h : Ab}
theorem VU (F : Nat -> AObj) (hL : L.length = m) (hm : m <= 14) {i : Nat} (hi : i < m) : RH L F (2 + i) = some (SF L i) := by
  show fam (nb _) F (2 + i) = _
  rw [GO _ _ (by omega)]
  unfold nb
  congr 1
  rw [Nat.add_comm 2 i]; rfl
theorem SE {p : AObj -> Prop} (h : ∀ o ∈ L, p o) (hf : p .free) : ∀ i, p (SF L i) := by
  induction L with
  | nil => intro i; exact hf
  | cons o L ih =>
    intro i
    cases i with
    | zero => exact h o (List.mem_cons.2 (.inl rfl))
    | succ i => exact ih (fun q hq => h q (List.mem_cons.2 (.inr hq))) i
theorem IP (hL : L.length = m) (hm : m <= 14) (hA : ∀ o ∈ L, o.avoid (kR m) = true) (hF : ∀ x, (F x).avoid (kR m) = true) {c : Nat} (hc : kR m c = true) : ∃ q, RH L F c = some q /\ q.avoid (kR m) = true := by
  rcases Nm hc with h | h
  . obtain ⟨i, rfl⟩ : ∃ i, c = 2 + i := ⟨c - 2, by omega⟩
    exact ⟨_, VU F hL hm (by omega), SE hA rfl i⟩
  . obtain ⟨x, rfl⟩ : ∃ x, c = x + 16 := ⟨c - 16, by omega⟩
    exact ⟨_, AJ _ _ _, hF x⟩
theorem RW (hL : L.length = m) (hm : m <= 14) (h1 : LowR h 2 L) (h2 : ∀ x, h (x + 16) = some (F x)) {c : Nat} (hc : kR m c = true) : h c = RH L F c := by
  rcases Nm hc with hh | hh
  . obtain ⟨i, rfl⟩ : ∃ i, c = 2 + i := ⟨c - 2, by omega⟩
    rw [VU F hL hm (by omega)]
    exact h1.get (by omega)
  . obtain ⟨x, rfl⟩ : ∃ x, c = x + 16 := ⟨c - 16, by omega⟩
    rw [h2]
    exact (AJ _ _ _).symm
theorem OL (hL : L.length = m) (hm : m <= 14) (h1 : LowR h 2 L) (h2 : ∀ x, h (x + 16) = some (F x)) : EE h (kR m) = RH L F := funext fun c => by
  unfold EE
  cases e : kR m c with
  | true => exact RW hL hm h1 h2 e
  | false =>
    rcases U2 e with rfl | rfl | hc
    . rfl
    . rfl
    . show some AObj.free = fam (nb (.free :: .free :: L)) F c
      rw [GO _ _ (by omega)]
      show some AObj.free = some (SF (.free :: .free :: L) c)
      rw [OB (by show L.length + 1 + 1 <= c; omega)]
theorem Av {P : Program} {o : Oper} {e : Az} {g : FuncId} {fn : Func} {args : Array Operand} {tys : Array TypeId} {xs : List AV} {r : AV} (m : Nat) (L L' : List AObj) {F : Nat -> AObj} (F' : Nat -> AObj)
    (ho : o.op = .call { callee := .value (.func g), args := args, argTypes := tys }) (hf : P.funcs[g]? = some fn) (hn : (fn.name == "runtime.NumGoroutine") = false) (hb : fn.body.isSome = true) (hx : Ba e args.toList = some xs)
    (hxa : xs.all (AV.avoid (kR m)) = true) (hL : L.length = m) (hL' : L'.length = m) (hm : m <= 14) (hA : ∀ o ∈ L, o.avoid (kR m) = true) (hA' : ∀ o ∈ L', o.avoid (kR m) = true) (h1 : LowR h 2 L) (h2 : ∀ x, h (x + 16) = some (F x)) (hF : ∀ x, (F x).avoid (kR m) = true) (hF' : ∀ x, (F' x).avoid (kR m) = true) (hra : r.avoid (kR m) = true)
    (hcall : ACall P g xs (RH L F) (fun r' h' => r' = r /\ HSub (AE m hNone (RH L' F')) h')) : MU P o e h (AE m h (RH L' F')) r :=
  WL (hw := AE m hNone (RH L' F')) (kR m) ho hf hn hb hx hxa (fun b hb => by rw [RW hL hm h1 h2 hb]; exact IP hL hm hA hF hb) (OL hL hm h1 h2) (fun b hb => J3 hb)
    (fun b hb => by obtain ⟨q, q1, q2⟩ := IP (L := L') (F := F') hL' hm hA' hF' hb; exact ⟨q, (Bv hb).trans q1, (Bv hb).trans q1, q2⟩) hra hcall
theorem KL {P : Program} {o : Oper} {e : Az} {g : FuncId} {fn : Func} {x : Operand} {args : Array Operand} {tys : Array TypeId} {fs xs cs : List AV} {r : AV} (m : Nat) (L L' : List AObj) {F : Nat -> AObj} (F' : Nat -> AObj)
    (ho : o.op = .call { callee := .value x, args := args, argTypes := tys }) (hfn : Aq e x = some (.fn (.func g) fs cs)) (hf : P.funcs[g]? = some fn) (hn : (fn.name == "runtime.NumGoroutine") = false) (hb : fn.body.isSome = true) (hx : Ba e args.toList = some xs)
    (hxa : (fs ++ xs ++ cs).all (AV.avoid (kR m)) = true) (hL : L.length = m) (hL' : L'.length = m) (hm : m <= 14) (hA : ∀ o ∈ L, o.avoid (kR m) = true) (hA' : ∀ o ∈ L', o.avoid (kR m) = true) (h1 : LowR h 2 L) (h2 : ∀ x, h (x + 16) = some (F x)) (hF : ∀ x, (F x).avoid (kR m) = true) (hF' : ∀ x, (F' x).avoid (kR m) = true) (hra : r.avoid (kR m) = true)
    (hcall : ACall P g (fs ++ xs ++ cs) (RH L F) (fun r' h' => r' = r /\ HSub (AE m hNone (RH L' F')) h')) : MU P o e h (AE m h (RH L' F')) r :=
  UK (hw := AE m hNone (RH L' F')) (kR m) ho hfn hf hn hb hx hxa (fun b hb => by rw [RW hL hm h1 h2 hb]; exact IP hL hm hA hF hb) (OL hL hm h1 h2) (fun b hb => J3 hb)
    (fun b hb => by obtain ⟨q, q1, q2⟩ := IP (L := L') (F := F') hL' hm hA' hF' hb; exact ⟨q, (Bv hb).trans q1, (Bv hb).trans q1, q2⟩) hra hcall
theorem BT (hL : L.length = m) (hm : m <= 14) (h1 : LowR h 2 L) (h2 : ∀ x, h (x + 16) = some (F x)) : HSub (AE m hNone (RH L F)) h := fun c o ho => by
  cases e : kR m c with
  | true => rw [Bv e] at ho; rw [RW hL hm h1 h2 e]; exact ho
  | false => rw [J3 e] at ho; cases ho
end
structure JX (C : Core) : Prop where
  w0 : 0 <= C.words
  w1 : C.words <= 32768
  n0 : 1 <= C.funcs.length
  n1 : C.funcs.length <= 64
  fn : ∀ g ∈ C.funcs, 0 <= g.params /\ g.params <= 6 /\ g.params <= g.slots /\ 0 <= g.first /\ g.first + g.slots <= C.words
theorem CoreR.b {C : Core} (h : CoreR C) : JX C := ⟨h.w0, h.w1, h.n0, h.n1, h.fn⟩
def Fd (i : Nat) (x : Block) : List AV := [HF (i + 16) (x.ins.map Tac.cells), .int .i64 x.fin, .int .i64 x.v, .int .i64 x.to, .int .i64 x.els]
def Br (l : List Block) : List (List AV) := l.zipIdx.map fun p => Fd p.2 p.1
def IL (l : List Block) (i : Nat) : List Tac := ((l[i]?).map Block.ins).getD []
def Ak (l : List Block) : Nat -> AObj := fun i => Mc 8 ((IL l i).map Tac.cells)
abbrev DJ (C : Core) (w : Bool) (b : Bd) : List AV := [.lst false (C.funcs.map CFn.cells), .int .i64 C.words, .bool w, .int .i64 b.regs, .ref 3 b.blocks.length 0 b.blocks.length, .int .i64 (b.now : Int)]
abbrev bL (C : Core) (w : Bool) (b : Bd) : List AObj := [.row false 6 [DJ C w b], .row false 5 (Br b.blocks)]
theorem A1 (l : List Block) : (Br l).length = l.length := by simp [Br]
theorem DI {l : List Block} {i : Nat} {x : Block} (h : l[i]? = some x) : (Br l)[i]? = some (Fd i x) := by
  unfold Br
  rw [List.getElem?_map, CF h]; rfl
theorem Hj {l : List Block} {i : Nat} {x : Block} {g : Block -> Block} (h : l[i]? = some x) : (Br l).set i (Fd i (g x)) = Br (l.modify i g) := by
  refine List.ext_getElem? fun j => ?_
  rw [List.getElem?_set, A1]
  have hi := (List.getElem?_eq_some_iff.1 h).1
  by_cases hj : i = j
  . subst hj
    rw [if_pos rfl, if_pos hi]
    refine (DI ?_).symm
    rw [List.getElem?_modify, h]; simp
  . rw [if_neg hj]
    cases e : l[j]? with
    | none =>
      rw [List.getElem?_eq_none (by rw [A1]; exact List.getElem?_eq_none_iff.1 e), List.getElem?_eq_none (by rw [A1, List.length_modify]; exact List.getElem?_eq_none_iff.1 e)]
    | some y =>
      rw [DI e, DI (x := y) (by rw [List.getElem?_modify, e]; simp [hj])]
theorem QT (l : List Block) (x : Block) : Br (l ++ [x]) = Br l ++ [Fd l.length x] := by
  refine List.ext_getElem? fun j => ?_
  by_cases hj : j < l.length
  . obtain ⟨y, hy⟩ := At hj
    rw [DI (x := y) (by rw [List.getElem?_append_left hj]; exact hy), List.getElem?_append_left (by rw [A1]; exact hj), DI hy]
  . by_cases hj2 : j = l.length
    . subst hj2
      rw [DI (x := x) (by rw [List.getElem?_append_right (Nat.le_refl _), Nat.sub_self]; rfl), List.getElem?_append_right (by rw [A1]; omega), A1, Nat.sub_self]; rfl
    . rw [List.getElem?_eq_none (by rw [A1, List.length_append]; simp; omega), List.getElem?_eq_none (by rw [List.length_append, A1]; simp; omega)]
theorem Xp {l : List Block} {i : Nat} {x : Block} (h : l[i]? = some x) : IL l i = x.ins := by unfold IL; rw [h]; rfl
theorem RO {l : List Block} {i : Nat} {x : Block} (h : l[i]? = some x) : Ak l i = Mc 8 (x.ins.map Tac.cells) := by unfold Ak; rw [Xp h]
theorem MS {l l' : List Block} (h : ∀ i, IL l' i = IL l i) : Ak l' = Ak l := funext fun i => by unfold Ak; rw [h]
theorem Ts {l : List Block} {x : Block} (hx : x.ins = []) (i : Nat) : IL (l ++ [x]) i = IL l i := by
  unfold IL
  by_cases hj : i < l.length
  . rw [List.getElem?_append_left hj]
  . rw [List.getElem?_eq_none (l := l) (by omega)]
    by_cases hj2 : i = l.length
    . subst hj2
      rw [List.getElem?_append_right (Nat.le_refl _), Nat.sub_self]
      show ((some x).map Block.ins).getD [] = _
      exact hx
    . rw [List.getElem?_eq_none (by rw [List.length_append]; simp; omega)]
theorem VQ {l : List Block} {k : Nat} {g : Block -> Block} (hg : ∀ x, (g x).ins = x.ins) (i : Nat) : IL (l.modify k g) i = IL l i := by
  unfold IL
  rw [List.getElem?_modify]
  cases l[i]? with
  | none => rfl
  | some x => by_cases h : k = i <;> simp [h, hg]
theorem VS {l : List Block} {k : Nat} {x : Block} {t : Tac} (h : l[k]? = some x) (y : Nat) : Ak (l.modify k fun x => x.mid (x.ins ++ [t])) y = if y = k then Mc 8 (x.ins.map Tac.cells ++ [t.cells]) else Ak l y := by
  unfold Ak IL
  rw [List.getElem?_modify]
  by_cases hy : y = k
  . subst hy
    rw [if_pos rfl, h]
    simp [Block.mid]
  . rw [if_neg hy]
    cases l[y]? with
    | none => rfl
    | some z => simp [Ne.symm hy]
theorem QU {k : Nat -> Bool} (hk : ∀ x, k (x + 16) = true) (i : Nat) (x : Block) : (Fd i x).all (AV.avoid k) = true := by
  simp only [Fd, List.all_cons, List.all_nil, Bool.and_true, Bool.and_eq_true]
  exact ⟨FC _ (hk _), rfl, rfl, rfl, rfl⟩
theorem B8 {k : Nat -> Bool} (hk : ∀ x, k (x + 16) = true) (l : List Block) : (AObj.row false 5 (Br l)).avoid k = true := by
  show (Br l).all (fun cs => cs.all (AV.avoid k)) = true
  refine List.all_eq_true.2 fun cs hc => ?_
  obtain ⟨p, _, rfl⟩ := List.mem_map.1 hc
  exact QU hk _ _
theorem Aa {k : Nat -> Bool} (l : List Block) (x : Nat) : (Ak l x).avoid k = true := Db _ _
theorem Ag (C : Core) (w : Bool) (b : Bd) : ∀ o ∈ bL C w b, o.avoid (kR 2) = true := fun o ho => by
  simp only [bL, List.mem_cons, List.not_mem_nil, or_false] at ho
  rcases ho with rfl | rfl
  . rfl
  . exact B8 (OJ 2) _
theorem Tt {l : List Block} {i : Nat} (h : l.length <= i) : IL l i = [] := by unfold IL; rw [List.getElem?_eq_none h]; rfl
theorem Sf (l : List Tac) : ∀ cs ∈ l.map Tac.cells, cs.length = 8 := fun cs hc => by
  obtain ⟨t, _, rfl⟩ := List.mem_map.1 hc; rfl
theorem PN (l : List Tac) : ∀ cs ∈ l.map Tac.cells, cs.all AV.isPure1 = true := fun cs hc => by
  obtain ⟨t, _, rfl⟩ := List.mem_map.1 hc; rfl
theorem MT (C : Core) (w : Bool) (b : Bd) (t : Tac) : DJ C w (b.put t) = [.lst false (C.funcs.map CFn.cells), .int .i64 C.words, .bool w, .int .i64 (max b.regs (t.d + 1)), .ref 3 b.blocks.length 0 b.blocks.length, .int .i64 (b.now : Int)] := by
  have e : (b.put t).blocks.length = b.blocks.length := List.length_modify ..
  show ([AV.lst false (C.funcs.map CFn.cells), AV.int .i64 C.words, AV.bool w, AV.int .i64 (max b.regs (t.d + 1)), AV.ref 3 (b.put t).blocks.length 0 (b.put t).blocks.length, AV.int .i64 (b.now : Int)] : List AV) = _
  rw [e]
theorem VP {b : Bd} {x : Block} (t : Tac) (hx : b.blocks[b.now]? = some x) : (Br b.blocks).set b.now ((Fd b.now x).set 0 (HF (b.now + 16) (x.ins.map Tac.cells ++ [t.cells]))) = Br (b.put t).blocks := by
  have h := Hj (g := fun x => x.mid (x.ins ++ [t])) hx
  refine Eq.trans ?_ h
  congr 1
  show [HF (b.now + 16) (x.ins.map Tac.cells ++ [t.cells]), _, _, _, _] = [HF (b.now + 16) ((x.ins ++ [t]).map Tac.cells), _, _, _, _]
  rw [List.map_append]; rfl
theorem MR {b : Bd} {x : Block} (t : Tac) (hx : b.blocks[b.now]? = some x) : (Br b.blocks).set b.now ((Fd b.now x).set 0 (.ref (b.now + 16) ((x.ins.map Tac.cells).length + 1) 0 ((x.ins.map Tac.cells).length + 1))) = Br (b.put t).blocks := by
  rw [<- VP t hx, N1]
theorem Tw {b : Bd} {x : Block} {t : Tac} (h : b.blocks[b.now]? = some x) (y : Nat) : Ak (b.put t).blocks y = if y = b.now then .row true 8 (x.ins.map Tac.cells ++ [t.cells]) else Ak b.blocks y := by
  rw [<- N0]; exact VS h y
def Wkb (x y : AV) : Prop := (x.cell1 = true -> y.cell1 = true) /\ ∀ H ι v, Rel H ι x v -> Rel H ι y v
theorem Wkb.refl (x : AV) : Wkb x x := ⟨fun h => h, fun _ _ _ h => h⟩
theorem Wkb.nil (b : Nat) : Wkb .nil (HF b []) := ⟨fun _ => rfl, fun H ι v h => by
  rw [h.nil_inv]; exact .lst0 _ _ _ _ (fun _ => rfl) (Nat.zero_le _) (fun _ => rfl) trivial⟩
theorem T8 {es : List (List AV)} {f v t l x : AV} (b : Nat) : ∀ (i : Nat) (ds ds' : List AV), (es ++ [[.nil, f, v, t, l]])[i]? = some ds -> (es ++ [[HF b [], f, v, t, l]])[i]? = some ds' -> ds'.length = ds.length /\ ∀ (j : Nat) (a c : AV), ds[j]? = some a -> ds'[j]? = some c -> (a.cell1 = true -> c.cell1 = true) /\ ∀ H ι v, Rel H ι a v -> Rel H ι c v := fun i ds ds' h1 h2 => by
  rcases Nat.lt_or_ge i es.length with hi | hi
  . rw [List.getElem?_append_left hi] at h1 h2
    rw [h1] at h2; cases h2
    exact ⟨rfl, fun j a c g1 g2 => by rw [g1] at g2; cases g2; exact Wkb.refl a⟩
  . rw [List.getElem?_append_right hi] at h1 h2
    cases e : i - es.length with
    | zero =>
      rw [e] at h1 h2
      cases h1; cases h2
      refine ⟨rfl, fun j a c g1 g2 => ?_⟩
      cases j with
      | zero => cases g1; cases g2; exact Wkb.nil b
      | succ j =>
        have : [AV.nil, f, v, t, l][j + 1]? = [HF b [], f, v, t, l][j + 1]? := rfl
        rw [this, g2] at g1; cases g1; exact Wkb.refl _
    | succ k => rw [e] at h1; simp at h1
theorem bCell_upd (C : Core) (w : Bool) (b : Bd) (g : Block -> Block) : DJ C w (b.upd g) = DJ C w b := by
  have e : (b.upd g).blocks.length = b.blocks.length := List.length_modify ..
  show ([AV.lst false (C.funcs.map CFn.cells), AV.int .i64 C.words, AV.bool w, AV.int .i64 b.regs, AV.ref 3 (b.upd g).blocks.length 0 (b.upd g).blocks.length, AV.int .i64 (b.now : Int)] : List AV) = _
  rw [e]
theorem LD (b : Bd) {g : Block -> Block} (hg : ∀ x, (g x).ins = x.ins) : Ak (b.upd g).blocks = Ak b.blocks := MS fun i => VQ hg i
theorem Ty (b : Bd) (to : Nat) : Ak (b.jump to).blocks = Ak b.blocks := LD b (g := fun x => { x with fin := 1, to := (to : Int) }) fun _ => rfl
theorem Tz (b : Bd) (v to els : Nat) : Ak (b.fork v to els).blocks = Ak b.blocks := LD b (g := fun x => { x with fin := 2, v := (v : Int), to := (to : Int), els := (els : Int) }) fun _ => rfl
theorem VR (b : Bd) : Ak b.ret.blocks = Ak b.blocks := LD b (g := fun x => { x with fin := 3 }) fun _ => rfl
theorem Tx (b : Bd) : Ak b.opened.blocks = Ak b.blocks := MS fun i => Ts rfl i
theorem Tp (b : Bd) : Br b.blocks ++ [Fd b.blocks.length blk0] = Br b.opened.blocks := (QT _ _).symm
theorem QW (C : Core) (w : Bool) (b : Bd) : DJ C w b.opened = [.lst false (C.funcs.map CFn.cells), .int .i64 C.words, .bool w, .int .i64 b.regs, .ref 3 (b.blocks.length + 1) 0 (b.blocks.length + 1), .int .i64 (b.now : Int)] := by
  show ([AV.lst false (C.funcs.map CFn.cells), AV.int .i64 C.words, AV.bool w, AV.int .i64 b.regs, AV.ref 3 b.opened.blocks.length 0 b.opened.blocks.length, AV.int .i64 (b.now : Int)] : List AV) = _
  rw [Ai]
section
variable {b : Bd} {x : Block} (hx : b.blocks[b.now]? = some x)
include hx
theorem Tq (to : Nat) : ((Br b.blocks).set b.now ((Fd b.now x).set 1 (.int .i64 1))).set b.now (((Fd b.now x).set 1 (.int .i64 1)).set 3 (.int .i64 (to : Int))) = Br (b.jump to).blocks := by
  rw [List.set_set]
  exact Hj (g := fun x => { x with fin := 1, to := (to : Int) }) hx
theorem Tr (v to els : Nat) : ((((Br b.blocks).set b.now ((Fd b.now x).set 1 (.int .i64 2))).set b.now (((Fd b.now x).set 1 (.int .i64 2)).set 2 (.int .i64 (v : Int)))).set b.now ((((Fd b.now x).set 1 (.int .i64 2)).set 2 (.int .i64 (v : Int))).set 3 (.int .i64 (to : Int)))).set b.now (((((Fd b.now x).set 1 (.int .i64 2)).set 2 (.int .i64 (v : Int))).set 3 (.int .i64 (to : Int))).set 4 (.int .i64 (els : Int))) = Br (b.fork v to els).blocks := by
  rw [List.set_set, List.set_set, List.set_set]
  exact Hj (g := fun x => { x with fin := 2, v := (v : Int), to := (to : Int), els := (els : Int) }) hx
theorem VO : (Br b.blocks).set b.now ((Fd b.now x).set 1 (.int .i64 3)) = Br b.ret.blocks := Hj (g := fun x => { x with fin := 3 }) hx
end
def Bd.cnt (b : Bd) : Nat := b.blocks.length + (b.blocks.map fun x => x.ins.length).sum
theorem Dx {b : Bd} {i : Nat} {x : Block} (h : b.blocks[i]? = some x) : x.ins.length <= b.cnt := by
  have := Qn (p := fun x : Block => x.ins.length) (List.mem_of_getElem? h)
  unfold Bd.cnt; omega
theorem Gh (b : Bd) : b.blocks.length <= b.cnt := by unfold Bd.cnt; omega
theorem PO {l : List Block} {k : Nat} {x : Block} {g : Block -> Block} (h : l[k]? = some x) : ((l.modify k g).map fun x => x.ins.length).sum + x.ins.length = (l.map fun x => x.ins.length).sum + (g x).ins.length := by
  induction l generalizing k with
  | nil => simp at h
  | cons y l ih =>
    cases k with
    | zero => simp at h; subst h; simp [List.modify]; omega
    | succ k =>
      have := ih (k := k) (by simpa using h)
      simp only [List.modify_succ_cons, List.map_cons, List.sum_cons]
      omega
theorem ID {b : Bd} {x : Block} (t : Tac) (h : b.blocks[b.now]? = some x) : (b.put t).cnt = b.cnt + 1 := by
  have h1 : ((b.blocks.modify b.now fun x => x.mid (x.ins ++ [t])).map fun x => x.ins.length).sum + x.ins.length = (b.blocks.map fun x => x.ins.length).sum + (x.mid (x.ins ++ [t])).ins.length := PO (g := fun x => x.mid (x.ins ++ [t])) h
  have h2 : (b.put t).blocks.length = b.blocks.length := List.length_modify ..
  unfold Bd.cnt
  rw [h2]
  show _ + ((b.blocks.modify b.now fun x => x.mid (x.ins ++ [t])).map fun x => x.ins.length).sum = _
  have h3 : (x.mid (x.ins ++ [t])).ins.length = x.ins.length + 1 := by simp [Block.mid]
  omega
theorem Nw {b : Bd} {g : Block -> Block} (hg : ∀ x, (g x).ins = x.ins) : (b.upd g).cnt = b.cnt := by
  have h2 : (b.upd g).blocks.length = b.blocks.length := List.length_modify ..
  unfold Bd.cnt
  rw [h2]
  congr 1
  show ((b.blocks.modify b.now g).map fun x => x.ins.length).sum = _
  have key : ∀ (l : List Block) (k : Nat), (l.modify k g).map (fun x => x.ins.length) = l.map fun x => x.ins.length := fun l => by
    induction l with
    | nil => intro k; simp
    | cons y l ih =>
      intro k
      cases k with
      | zero => simp [List.modify, hg]
      | succ k => simp [List.modify_succ_cons, ih]
  rw [key]
theorem AU (b : Bd) : b.opened.cnt = b.cnt + 1 := by
  unfold Bd.cnt
  rw [Ai]
  show _ + ((b.blocks ++ [blk0]).map fun x => x.ins.length).sum = _
  simp; omega
theorem Np {F G : Nat -> AObj} (h : F = G) (x : Nat) : some (F x) = some (G x) := by rw [h]
abbrev r8 : AObj := .row false 1 [[.ptr 2 1 0 0]]
abbrev FA (C : Core) (w : Bool) (b : Bd) (o4 o5 o6 : AObj) : List AObj := [.row false 6 [DJ C w b], .row false 5 (Br b.blocks), o4, o5, o6]
abbrev TS (C : Core) (w : Bool) (b : Bd) (o4 o5 o6 o9 : AObj) : List AObj := [.row false 6 [DJ C w b], .row false 5 (Br b.blocks), o4, o5, o6, .free, r8, o9]
structure XU (o4 o5 o6 : AObj) : Prop where
  a5 : o4.avoid (kR 5) = true /\ o5.avoid (kR 5) = true /\ o6.avoid (kR 5) = true
  a8 : o4.avoid (kR 8) = true /\ o5.avoid (kR 8) = true /\ o6.avoid (kR 8) = true
theorem CV (C : Core) (w : Bool) (b : Bd) {o4 o5 o6 : AObj} (h : XU o4 o5 o6) : ∀ o ∈ FA C w b o4 o5 o6, o.avoid (kR 5) = true := fun o ho => by
  simp only [FA, List.mem_cons, List.not_mem_nil, or_false] at ho
  rcases ho with rfl | rfl | rfl | rfl | rfl
  . rfl
  . exact B8 (OJ 5) _
  . exact h.a5.1
  . exact h.a5.2.1
  . exact h.a5.2.2
theorem Hk (C : Core) (w : Bool) (b : Bd) {o4 o5 o6 o9 : AObj} (h : XU o4 o5 o6) (h9 : o9.avoid (kR 8) = true) : ∀ o ∈ TS C w b o4 o5 o6 o9, o.avoid (kR 8) = true := fun o ho => by
  simp only [TS, List.mem_cons, List.not_mem_nil, or_false] at ho
  rcases ho with rfl | rfl | rfl | rfl | rfl | rfl | rfl | rfl
  . rfl
  . exact B8 (OJ 8) _
  . exact h.a8.1
  . exact h.a8.2.1
  . exact h.a8.2.2
  . rfl
  . rfl
  . exact h9
def rL (N : Nat) : List Nat := 2 :: 3 :: YO (fun x => x + 16) N
def rW (o2 o3 : AObj) (F : Nat -> AObj) (N : Nat) : List (Nat × AObj) := (2, o2) :: (3, o3) :: famW (fun x => x + 16) F N
theorem Rr (N : Nat) : mem (rL N) 2 = true /\ mem (rL N) 3 = true := ⟨mem_iff.2 (by simp [rL]), mem_iff.2 (by simp [rL])⟩
theorem Uy {N x : Nat} (h : x < N) : mem (rL N) (x + 16) = true := mem_iff.2 (by unfold rL; exact List.mem_cons_of_mem _ (List.mem_cons_of_mem _ (famL_mem.2 ⟨x, h, rfl⟩)))
theorem Nc {N b : Nat} (h : b ∈ rL N) : b = 2 \/ b = 3 \/ ∃ x, x < N /\ b = x + 16 := by
  unfold rL at h
  rcases List.mem_cons.1 h with h | h
  . exact .inl h
  rcases List.mem_cons.1 h with h | h
  . exact .inr (.inl h)
  . exact .inr (.inr (famL_mem.1 h))
theorem Ht {h : Ab} {o2 o3 : AObj} {F : Nat -> AObj} {N c : Nat} (hc : c < 16) : hputs h (rW o2 o3 F N) c = if c = 2 then some o2 else if c = 3 then some o3 else h c := by
  show hputs (hput (hput h 2 o2) 3 o3) (famW (fun x => x + 16) F N) c = _
  rw [GP _ (fun i _ => by omega)]
  by_cases h2 : c = 2
  . subst h2; rfl
  . by_cases h3 : c = 3
    . subst h3; rfl
    . rw [if_neg h2, if_neg h3, Aj _ _ h3, Aj _ _ h2]
theorem EZ {h : Ab} {o2 o3 : AObj} {F : Nat -> AObj} {N c : Nat} (hc : c < 16) (h2 : c ≠ 2) (h3 : c ≠ 3) : hputs h (rW o2 o3 F N) c = h c := by rw [Ht hc, if_neg h2, if_neg h3]
theorem KD {h : Ab} {o2 o3 : AObj} {F F' : Nat -> AObj} {N : Nat} (hh : ∀ x, h (x + 16) = some (F x)) (h1 : ∀ x, N <= x -> F x = .free) (h2 : ∀ x, N <= x -> F' x = .free) (x : Nat) : hputs h (rW o2 o3 F' N) (x + 16) = some (F' x) := by
  show hputs (hput (hput h 2 o2) 3 o3) (famW (fun x => x + 16) F' N) (x + 16) = _
  by_cases hx : x < N
  . exact RI (fun i j e => by omega) _ hx
  . rw [GP _ (fun i hi => by omega), Aj _ _ (by omega), Aj _ _ (by omega), hh, h1 x (by omega), h2 x (by omega)]
theorem BQ {l : List Block} {x : Nat} (h : l.length <= x) : Ak l x = .free := by unfold Ak; rw [Tt h]; rfl
theorem IK {l : List Block} {N : Nat} (h : l.length <= N) : (AObj.row false 5 (Br l)).avoid (mem (rL N)) = true := by
  show (Br l).all (fun cs => cs.all (AV.avoid (mem (rL N)))) = true
  refine List.all_eq_true.2 fun cs hc => ?_
  obtain ⟨i, hi⟩ := List.mem_iff_getElem?.1 hc
  have hil := (List.getElem?_eq_some_iff.1 hi).1
  rw [A1] at hil
  obtain ⟨x, hx⟩ := At hil
  rw [DI hx] at hi
  cases hi
  simp only [Fd, List.all_cons, List.all_nil, Bool.and_true, Bool.and_eq_true]
  exact ⟨FC _ (Uy (by omega)), rfl, rfl, rfl, rfl⟩
theorem BK {P : Program} {o : Oper} {e : Az} {h : Ab} {g : FuncId} {fn : Func} {args : Array Operand} {tys : Array TypeId} {xs : List AV} {r : AV} (C : Core) (w : Bool) (b b' : Bd) (N : Nat) (hN : b.blocks.length <= N) (hN' : b'.blocks.length <= N)
    (ho : o.op = .call { callee := .value (.func g), args := args, argTypes := tys }) (hf : P.funcs[g]? = some fn) (hn : (fn.name == "runtime.NumGoroutine") = false) (hb : fn.body.isSome = true) (hx : Ba e args.toList = some xs)
    (hxa : xs.all (AV.avoid (mem (rL N))) = true) (h1 : LowR h 2 (bL C w b)) (h2 : ∀ x, h (x + 16) = some (Ak b.blocks x)) (hra : r.avoid (mem (rL N)) = true)
    (hcall : ACall P g xs (RH (bL C w b) (Ak b.blocks)) (fun r' h' => r' = r /\ HSub (AE 2 hNone (RH (bL C w b') (Ak b'.blocks))) h')) :
    OLoc P o e h (rL N) (rW (.row false 6 [DJ C w b']) (.row false 5 (Br b'.blocks)) (Ak b'.blocks) N) (some r) := by
  refine Nj (hc := RH (bL C w b) (Ak b.blocks)) (hw := AE 2 hNone (RH (bL C w b') (Ak b'.blocks))) (rL N) (rW (.row false 6 [DJ C w b']) (.row false 5 (Br b'.blocks)) (Ak b'.blocks) N) ho hf hn hb hx hxa (AllL.of fun c hc => ?_) ?_ ?_ (AllL.of fun c hc => ?_) hra hcall
  . rcases Nc hc with rfl | rfl | ⟨x, hx, rfl⟩
    . exact ⟨_, h1.1, rfl⟩
    . exact ⟨_, h1.2.1, IK hN⟩
    . exact ⟨_, h2 x, Db _ _⟩
  . show (rW _ _ _ N).all (fun p => mem (rL N) p.1) = true
    unfold rW
    rw [List.all_cons, List.all_cons, Bool.and_eq_true, Bool.and_eq_true]
    exact ⟨(Rr N).1, (Rr N).2, Vh _ _ _ _ fun i hi => Uy hi⟩
  . funext c
    unfold hres
    cases hm : mem (rL N) c with
    | true =>
      rcases Nc (mem_iff.1 hm) with rfl | rfl | ⟨x, hx, rfl⟩
      . exact h1.1
      . exact h1.2.1
      . exact (h2 x).trans (AJ _ _ _).symm
    | false =>
      show some AObj.free = RH (bL C w b) (Ak b.blocks) c
      by_cases hc : c < 16
      . have c2 : c ≠ 2 := fun e => by subst e; rw [(Rr N).1] at hm; cases hm
        have c3 : c ≠ 3 := fun e => by subst e; rw [(Rr N).2] at hm; cases hm
        show _ = fam (nb _) _ c
        rw [GO _ _ hc]
        unfold nb
        congr 1
        match c, c2, c3 with
        | 0, _, _ => rfl
        | 1, _, _ => rfl
        | 2, h, _ => exact absurd rfl h
        | 3, _, h => exact absurd rfl h
        | c + 4, _, _ => rfl
      . obtain ⟨x, rfl⟩ : ∃ x, c = x + 16 := ⟨c - 16, by omega⟩
        have hxN : N <= x := by
          rcases Nat.lt_or_ge x N with hx | hx
          . rw [Uy hx] at hm; cases hm
          . exact hx
        exact ((AJ _ _ _).trans (congrArg some (BQ (Nat.le_trans hN hxN)))).symm
  . rcases Nc hc with rfl | rfl | ⟨x, hx, rfl⟩
    . exact ⟨_, Bv rfl, Ht (by omega), rfl⟩
    . exact ⟨_, Bv rfl, Ht (by omega), IK hN'⟩
    . exact ⟨_, (BE _ _ _ x).trans (AJ _ _ _), KD h2 (fun y hy => BQ (Nat.le_trans hN hy)) (fun y hy => BQ (Nat.le_trans hN' hy)) x, Db _ _⟩
def FQ (b : Nat) : Nat := if b = 3 then 2 else if b < 16 then b else 2
theorem P4 (N : Nat) : Hy FQ (rL N) [2] := fun b hb => by
  rcases Nc hb with rfl | rfl | ⟨x, hx, rfl⟩
  . simp [FQ]
  . simp [FQ]
  . have : FQ (x + 16) = 2 := by unfold FQ; rw [if_neg (by omega), if_neg (by omega)]
    rw [this]; simp
theorem Ux (o2 o3 : AObj) (F : Nat -> AObj) (N : Nat) : Hy FQ ((rW o2 o3 F N).map (·.1)) [2] := fun b hb => by
  refine P4 N b ?_
  unfold rW at hb
  unfold rL
  rw [List.map_cons, List.map_cons] at hb
  rcases List.mem_cons.1 hb with hb | hb
  . exact List.mem_cons.2 (.inl hb)
  rcases List.mem_cons.1 hb with hb | hb
  . exact List.mem_cons_of_mem _ (List.mem_cons.2 (.inl hb))
  . refine List.mem_cons_of_mem _ (List.mem_cons_of_mem _ ?_)
    obtain ⟨p, hp, rfl⟩ := List.mem_map.1 hb
    unfold famW at hp
    obtain ⟨i, hi, rfl⟩ := List.mem_map.1 hp
    exact famL_mem.2 ⟨i, List.mem_range.1 hi, rfl⟩
theorem Bg (b : Bd) (t : Tac) : (b.put t).cnt <= b.cnt + 1 := by
  cases h : b.blocks[b.now]? with
  | some x => rw [ID t h]; omega
  | none =>
    have e : (b.put t).blocks = b.blocks := by
      show b.blocks.modify b.now _ = b.blocks
      refine List.ext_getElem? fun i => ?_
      rw [List.getElem?_modify]
      by_cases hi : b.now = i
      . subst hi; rw [h]; rfl
      . cases b.blocks[i]? <;> simp [hi]
    unfold Bd.cnt; rw [e]; omega
theorem BV (b : Bd) (n : Nat) : (b.go n).cnt = b.cnt := rfl
theorem IE (b : Bd) (to : Nat) : (b.jump to).cnt = b.cnt := Nw (b := b) (g := fun x => { x with fin := 1, to := (to : Int) }) fun _ => rfl
theorem Eo (b : Bd) (v to els : Nat) : (b.fork v to els).cnt = b.cnt := Nw (b := b) (g := fun x => { x with fin := 2, v := (v : Int), to := (to : Int), els := (els : Int) }) fun _ => rfl
theorem Xb (b : Bd) : b.ret.cnt = b.cnt := Nw (b := b) (g := fun x => { x with fin := 3 }) fun _ => rfl
theorem IF (b : Bd) (first : Int) (d : Nat) : ∀ n, (b.args first d n).cnt <= b.cnt + n
  | 0 => Nat.le_refl _
  | n + 1 => by rw [Bd.args]; have := Bg (b.args first d n) (AM (first + n) (d + n)); have := IF b first d n; omega
theorem HU (b : Bd) (C : Core) (g : Int) (n d : Nat) : (b.called C g n d).cnt <= b.cnt + n + 1 := by
  unfold Bd.called
  have := Bg (b.args (C.first g) d n) (ED g)
  have := IF b (C.first g) d n
  omega
theorem Nx (b : Bd) (d : Nat) : (b.not d).cnt <= b.cnt + 2 := by
  unfold Bd.not
  have := Bg (b.put (AT (d + 1) 0)) (AS 15 d d (d + 1))
  have := Bg b (AT (d + 1) 0)
  omega
theorem Jk (b : Bd) (e : CE) (d : Nat) : (b.truth e d).cnt <= b.cnt + 3 := by
  unfold Bd.truth
  cases e.flagged with
  | true => show b.cnt <= _; omega
  | false =>
    show ((b.not d).put _).cnt <= _
    have := Bg (b.not d) (AS 15 d d (d + 1))
    have := Nx b d
    omega
theorem JS (b : Bd) (k : Int) (d : Nat) : (b.either0 k d).cnt = b.cnt + 2 := by
  unfold Bd.either0
  cases k == 8 with
  | true => show (Bd.fork _ _ _ _).cnt = _; rw [Eo, AU, AU]
  | false => show (Bd.fork _ _ _ _).cnt = _; rw [Eo, AU, AU]
theorem Ea (b : Bd) (i to : Nat) (f : Bd -> Bd) : (b.inside i to f).cnt = (f (b.go i)).cnt := by
  unfold Bd.inside; rw [BV, IE]
section
variable {C : Core}
theorem Hg {m : Nat} {l : List CE} (hI : ∀ e ∈ l, ∀ d b, (e.build C d b).cnt + 1 <= b.cnt + 11 * e.parts) : ∀ (d : Nat) (b : Bd), (CE.buildL C l d b).cnt + l.length <= b.cnt + 11 * CE.partsL l := by
  induction l with
  | nil => intro d b; rw [CE.buildL, List.length_nil]; omega
  | cons e l ih =>
    intro d b
    rw [CE.buildL, CE.partsL, List.length_cons]
    have h1 := ih (fun x hx => hI x (List.mem_cons.2 (.inr hx))) (d + 1) (e.build C d b)
    have h2 := hI e (List.mem_cons.2 (.inl rfl)) d b
    omega
theorem BW : ∀ (m : Nat) (e : CE), e.parts <= m -> ∀ d b, (e.build C d b).cnt + 1 <= b.cnt + 11 * e.parts
  | 0, e, hm => absurd hm (by have := Bf e; omega)
  | m + 1, .mk k o n s z kids, hm => by
    rw [CE.parts] at hm
    have hI : ∀ e ∈ kids, ∀ d b, (e.build C d b).cnt + 1 <= b.cnt + 11 * e.parts := fun e he => BW m e (by have := AW he; omega)
    intro d b
    have hL := Hg (m := 0) hI d b
    have hlen := partsL_len kids
    rw [CE.build, CE.parts]
    by_cases k1 : k = 1
    . rw [if_pos k1]; have := Bg b (AT d n); omega
    rw [if_neg k1]
    by_cases k2 : k = 2
    . rw [if_pos k2]; have := Bg b (Dk d s); omega
    rw [if_neg k2]
    by_cases k3 : k = 3
    . rw [if_pos k3]; have := Bg (CE.buildL C kids d b) (Gc d d s z); omega
    rw [if_neg k3]
    by_cases k4 : k = 4
    . rw [if_pos k4]
      have h1 := Bg ((CE.buildL C kids d b).called C s kids.length d) (Dk d C.words)
      have h2 := HU (CE.buildL C kids d b) C s kids.length d
      omega
    rw [if_neg k4]
    by_cases k5 : k = 5
    . rw [if_pos k5]; have := Bg b (K8 d); omega
    rw [if_neg k5]
    by_cases k6 : k = 6
    . rw [if_pos k6]; have := Bg (CE.buildL C kids d b) (AS o d d (d + 1)); omega
    rw [if_neg k6]
    by_cases k7 : k = 7
    . rw [if_pos k7]; have := Nx (CE.buildL C kids d b) d; omega
    rw [if_neg k7]
    by_cases k8 : k = 8 \/ k = 9
    . rw [if_pos k8]
      cases kids with
      | nil => rw [DL]; omega
      | cons e l =>
        have h1 := hI e (List.mem_cons.2 (.inl rfl)) d b
        have h2 := Jk (e.build C d b) e d
        rw [DL, CE.partsL]
        cases l with
        | nil => rw [DK, CE.partsL]; omega
        | cons y l =>
          rw [DK, CE.partsL, BV, Ea]
          have h3 := Jk (y.build C d ((((e.build C d b).truth e d).either0 k d).go ((e.build C d b).truth e d).blocks.length)) y d
          have h4 := hI y (List.mem_cons.2 (.inr (List.mem_cons.2 (.inl rfl)))) d ((((e.build C d b).truth e d).either0 k d).go ((e.build C d b).truth e d).blocks.length)
          rw [BV, JS] at h4
          omega
    . rw [if_neg k8]; omega
end
section
variable {C : Core} {e x y : CE} {d : Nat} {b : Bd}
theorem fU (hk : e.kind = 1) : e.build C d b = b.put (AT d e.num) := by
  cases e; simp only [CE.kind] at hk; subst hk; rw [CE.build, if_pos rfl]; rfl
theorem fS (hk : e.kind = 2) : e.build C d b = b.put (Dk d e.slot) := by
  cases e; simp only [CE.kind] at hk; subst hk; rw [CE.build, if_neg (by decide), if_pos rfl]; rfl
theorem E4 {l : List CE} (h : l.length = 1) (hx : l[0]? = some x) : l = [x] := by
  obtain ⟨a, rfl⟩ := CY h
  simp at hx; rw [hx]
theorem FO {l : List CE} (h : l.length = 2) (hx : l[0]? = some x) (hy : l[1]? = some y) : l = [x, y] := by
  obtain ⟨a, c, rfl⟩ := len_two h
  simp at hx hy; rw [hx, hy]
theorem fR (hk : e.kind = 3) (hl : e.kids.length = 1) (hx : e.kids[0]? = some x) : e.build C d b = (x.build C d b).put (Gc d d e.slot e.size) := by
  cases e with
  | mk k o n s z kids =>
  simp only [CE.kind] at hk
  subst hk
  have := E4 hl hx
  simp only [CE.kids] at this
  subst this
  rw [CE.build, if_neg (by decide), if_neg (by decide), if_pos rfl, CE.buildL, CE.buildL]; rfl
theorem fQ (hk : e.kind = 4) : e.build C d b = ((CE.buildL C e.kids d b).called C e.slot e.kids.length d).put (Dk d C.words) := by
  cases e; simp only [CE.kind] at hk; subst hk; rw [CE.build, if_neg (by decide), if_neg (by decide), if_neg (by decide), if_pos rfl]; rfl
theorem fP (hk : e.kind = 5) : e.build C d b = b.put (K8 d) := by
  cases e; simp only [CE.kind] at hk; subst hk; rw [CE.build, if_neg (by decide), if_neg (by decide), if_neg (by decide), if_neg (by decide), if_pos rfl]
theorem fO (hk : e.kind = 6) (hl : e.kids.length = 2) (hx : e.kids[0]? = some x) (hy : e.kids[1]? = some y) : e.build C d b = (y.build C (d + 1) (x.build C d b)).put (AS e.op d d (d + 1)) := by
  cases e with
  | mk k o n s z kids =>
  simp only [CE.kind] at hk
  subst hk
  have := FO hl hx hy
  simp only [CE.kids] at this
  subst this
  rw [CE.build, if_neg (by decide), if_neg (by decide), if_neg (by decide), if_neg (by decide), if_neg (by decide), if_pos rfl, CE.buildL, CE.buildL, CE.buildL]; rfl
theorem fN (hk : e.kind = 7) (hl : e.kids.length = 1) (hx : e.kids[0]? = some x) : e.build C d b = (x.build C d b).not d := by
  cases e with
  | mk k o n s z kids =>
  simp only [CE.kind] at hk
  subst hk
  have := E4 hl hx
  simp only [CE.kids] at this
  subst this
  rw [CE.build, if_neg (by decide), if_neg (by decide), if_neg (by decide), if_neg (by decide), if_neg (by decide), if_neg (by decide), if_pos rfl, CE.buildL, CE.buildL]
def W4 (C : Core) (k : Int) (x y : CE) (d : Nat) (b : Bd) : Bd := ((((x.build C d b).truth x d).either0 k d).inside ((x.build C d b).truth x d).blocks.length (((x.build C d b).truth x d).blocks.length + 1) fun z => (y.build C d z).truth y d).go (((x.build C d b).truth x d).blocks.length + 1)
theorem fi (hk : e.kind = 8 \/ e.kind = 9) (hl : e.kids.length = 2) (hx : e.kids[0]? = some x) (hy : e.kids[1]? = some y) : e.build C d b = W4 C e.kind x y d b := by
  cases e with
  | mk k o n s z kids =>
  simp only [CE.kind] at hk |-
  have := FO hl hx hy
  simp only [CE.kids] at this
  subst this
  have h1 : k ≠ 1 /\ k ≠ 2 /\ k ≠ 3 /\ k ≠ 4 /\ k ≠ 5 /\ k ≠ 6 /\ k ≠ 7 := by omega
  rw [CE.build, if_neg h1.1, if_neg h1.2.1, if_neg h1.2.2.1, if_neg h1.2.2.2.1, if_neg h1.2.2.2.2.1, if_neg h1.2.2.2.2.2.1, if_neg h1.2.2.2.2.2.2, if_pos hk, DL, DK]; rfl
theorem Se {b : Bd} {d : Nat} (h : e.flagged = true) : b.truth e d = b := by unfold Bd.truth; rw [h]; rfl
theorem Ui {b : Bd} {d : Nat} (h : e.flagged = false) : b.truth e d = (b.not d).put (AS 15 d d (d + 1)) := by unfold Bd.truth; rw [h]; rfl
end
theorem JU {C : Core} (x : CE) : ∀ (l : List CE) (d : Nat) (b : Bd), CE.buildL C (l ++ [x]) d b = x.build C (d + l.length) (CE.buildL C l d b)
  | [], d, b => by rw [List.nil_append, CE.buildL, CE.buildL, CE.buildL]; rfl
  | y :: l, d, b => by
    rw [List.cons_append, CE.buildL, CE.buildL, JU x l, List.length_cons]
    congr 1; omega
theorem Pc {C : Core} {l : List CE} {k : Nat} {x : CE} (h : l[k]? = some x) (d : Nat) (b : Bd) : CE.buildL C (l.take (k + 1)) d b = x.build C (d + k) (CE.buildL C (l.take k) d b) := by
  have hk := (List.getElem?_eq_some_iff.1 h).1
  rw [Bw h, JU, List.length_take, Nat.min_eq_left (by omega)]
theorem NE {b : Bd} (h : Pl b) (first : Int) (d : Nat) : ∀ n, Pl (b.args first d n)
  | 0 => h
  | n + 1 => (codes_put (NE h first d n) _).pl
theorem OA {C : Core} {n : Nat} : ∀ {l : List CE} (k : Nat), CE.okL C n l -> CE.okL C n (l.take k)
  | [], k, h => by rw [List.take_nil]; exact h
  | e :: l, 0, h => trivial
  | e :: l, k + 1, h => by rw [CE.okL] at h; rw [List.take_succ_cons, CE.okL]; exact ⟨h.1, OA k h.2⟩
theorem OY {C : Core} {n : Nat} {e : CE} (h : e.ok C n) : CE.okL C n e.kids := by cases e; rw [CE.ok] at h; exact h.1
theorem QF {b : Bd} (h : Pl b) (k : Int) (d : Nat) : Pl ((b.either0 k d).go b.blocks.length) := by
  have hlt := h.lt
  have key : ∀ v to els : Nat, (b.opened.opened.fork v to els).blocks[b.blocks.length]? = some blk0 := fun v to els => by
    show (b.opened.opened.upd _).blocks[b.blocks.length]? = _
    rw [Cw (show b.blocks.length ≠ b.opened.opened.now by show b.blocks.length ≠ b.now; omega), AF (by rw [Ai]; omega), CU]
  refine ⟨blk0, ?_, rfl, rfl, rfl, rfl⟩
  show (b.either0 k d).blocks[b.blocks.length]? = _
  unfold Bd.either0
  cases k == 8 with
  | true => exact key _ _ _
  | false => exact key _ _ _
theorem Ng {l : List CE} {k : Nat} {x : CE} (h : l[k]? = some x) : CE.partsL (l.take k) + x.parts <= CE.partsL l /\ k <= CE.partsL (l.take k) := by
  have h1 := JE h
  have h2 := Mn (l := l) (k + 1)
  have h3 := partsL_len (l.take k)
  rw [List.length_take, Nat.min_eq_left (by have := (List.getElem?_eq_some_iff.1 h).1; omega)] at h3
  omega
theorem Pl.cur {b : Bd} (h : Pl b) : ∃ x, b.blocks[b.now]? = some x := by
  obtain ⟨x, hx, _⟩ := h
  exact ⟨x, hx⟩
theorem Jl (b : Bd) (C : Core) (w : Bool) : (b.leave C w).cnt <= b.cnt + 2 := by
  unfold Bd.leave
  rw [Xb]
  cases w with
  | true =>
    show ((b.put (AT 0 0)).put (AM C.words 0)).cnt <= _
    have := Bg (b.put (AT 0 0)) (AM C.words 0)
    have := Bg b (AT 0 0)
    omega
  | false => show b.cnt <= _; omega
theorem Vw (b : Bd) : b.next.cnt = b.cnt + 1 := by unfold Bd.next; rw [BV, AU]
section
variable {C : Core} {w : Bool}
theorem D9 {l : List CS} (hI : ∀ e ∈ l, ∀ b, (e.build C w b).cnt + 1 <= b.cnt + 11 * e.parts) : ∀ (b : Bd), (CS.buildL C w l b).cnt + l.length <= b.cnt + 11 * CS.partsL l := by
  induction l with
  | nil => intro b; rw [CS.buildL, List.length_nil]; omega
  | cons e l ih =>
    intro b
    rw [CS.buildL, CS.partsL, List.length_cons]
    have h1 := ih (fun x hx => hI x (List.mem_cons.2 (.inr hx))) (e.build C w b)
    have h2 := hI e (List.mem_cons.2 (.inl rfl)) b
    omega
theorem Fa : ∀ (m : Nat) (e : CS), e.parts <= m -> ∀ b, (e.build C w b).cnt + 1 <= b.cnt + 11 * e.parts
  | 0, e, hm => absurd hm (by have := BG e; omega)
  | m + 1, .mk k s z es thn els, hm => by
    rw [CS.parts] at hm
    have hT : ∀ b, (CS.buildL C w thn b).cnt + thn.length <= b.cnt + 11 * CS.partsL thn := D9 fun e he => Fa m e T5
    have hL : ∀ b, (CS.buildL C w els b).cnt + els.length <= b.cnt + 11 * CS.partsL els := D9 fun e he => Fa m e T4
    intro b
    have hE : ∀ b, (CE.buildL C es 0 b).cnt + es.length <= b.cnt + 11 * CE.partsL es := fun b => Hg (m := 0) (fun e _ => BW e.parts e (Nat.le_refl _)) 0 b
    have hEb := hE b
    rw [CS.build, CS.parts]
    by_cases k1 : k = 1
    . rw [if_pos k1]; have := Bg (CE.buildL C es 0 b) (AM s 0); omega
    rw [if_neg k1]
    by_cases k2 : k = 2
    . rw [if_pos k2]; have := Bg (CE.buildL C es 0 b) (BF 0 1 s z); omega
    rw [if_neg k2]
    by_cases k3 : k = 3
    . rw [if_pos k3]; have := Bg (CE.buildL C es 0 b) (Jg 0); omega
    rw [if_neg k3]
    by_cases k6 : k = 6
    . rw [if_pos k6]; have := HU (CE.buildL C es 0 b) C s es.length 0; omega
    rw [if_neg k6]
    by_cases k7 : k = 7
    . rw [if_pos k7, Vw]
      by_cases he : es = []
      . rw [if_pos he]; have := Jl b C w; omega
      . rw [if_neg he]; have := Bg (CE.buildL C es 0 b) (AM C.words 0); omega
    rw [if_neg k7]
    by_cases k4 : k = 4
    . rw [if_pos k4]
      dsimp only
      rw [BV, Ea]
      have h1 := hT ((if els = [] then (((CE.buildL C es 0 b).opened.opened).fork 0 (CE.buildL C es 0 b).blocks.length ((CE.buildL C es 0 b).blocks.length + 1)) else (((CE.buildL C es 0 b).opened.opened.opened.inside ((CE.buildL C es 0 b).blocks.length + 2) ((CE.buildL C es 0 b).blocks.length + 1) fun x => CS.buildL C w els x).fork 0 (CE.buildL C es 0 b).blocks.length ((CE.buildL C es 0 b).blocks.length + 2))).go (CE.buildL C es 0 b).blocks.length)
      rw [BV] at h1
      by_cases he : els = []
      . rw [if_pos he] at h1 |-
        rw [Eo, AU, AU] at h1
        omega
      . rw [if_neg he] at h1 |-
        rw [Eo, Ea] at h1
        have h2 := hL ((CE.buildL C es 0 b).opened.opened.opened.go ((CE.buildL C es 0 b).blocks.length + 2))
        rw [BV, AU, AU, AU] at h2
        omega
    rw [if_neg k4]
    by_cases k5 : k = 5
    . rw [if_pos k5]
      dsimp only
      rw [BV, Ea]
      have h1 := hT (((CE.buildL C es 0 ((b.opened.opened.opened.inside b.now b.blocks.length fun x => x).go b.blocks.length)).fork 0 (b.blocks.length + 1) (b.blocks.length + 2)).go (b.blocks.length + 1))
      rw [BV, Eo] at h1
      have h2 := hE ((b.opened.opened.opened.inside b.now b.blocks.length fun x => x).go b.blocks.length)
      rw [BV, Ea, BV, AU, AU, AU] at h2
      omega
    . rw [if_neg k5]; omega
theorem Ie (x : CS) : ∀ (l : List CS) (b : Bd), CS.buildL C w (l ++ [x]) b = x.build C w (CS.buildL C w l b)
  | [], b => by rw [List.nil_append, CS.buildL, CS.buildL, CS.buildL]
  | y :: l, b => by rw [List.cons_append, CS.buildL, CS.buildL, Ie x l]
theorem M9 {l : List CS} {k : Nat} {x : CS} (h : l[k]? = some x) (b : Bd) : CS.buildL C w (l.take (k + 1)) b = x.build C w (CS.buildL C w (l.take k) b) := by
  rw [Bw h, Ie]
end
section
variable {C : Core} {w : Bool} {e : CS} {x y : CE} {b : Bd}
theorem fe (hk : e.kind = 1) (hl : e.es.length = 1) (hx : e.es[0]? = some x) : e.build C w b = (x.build C 0 b).put (AM e.slot 0) := by
  cases e with
  | mk k s z es thn els =>
  simp only [CS.kind] at hk
  subst hk
  have := E4 hl hx
  simp only [CS.es] at this
  subst this
  rw [CS.build, if_pos rfl, CE.buildL, CE.buildL]; rfl
theorem fd (hk : e.kind = 2) (hl : e.es.length = 2) (hx : e.es[0]? = some x) (hy : e.es[1]? = some y) : e.build C w b = (y.build C 1 (x.build C 0 b)).put (BF 0 1 e.slot e.size) := by
  cases e with
  | mk k s z es thn els =>
  simp only [CS.kind] at hk
  subst hk
  have := FO hl hx hy
  simp only [CS.es] at this
  subst this
  rw [CS.build, if_neg (by decide), if_pos rfl, CE.buildL, CE.buildL, CE.buildL]; rfl
theorem fc (hk : e.kind = 3) (hl : e.es.length = 1) (hx : e.es[0]? = some x) : e.build C w b = (x.build C 0 b).put (Jg 0) := by
  cases e with
  | mk k s z es thn els =>
  simp only [CS.kind] at hk
  subst hk
  have := E4 hl hx
  simp only [CS.es] at this
  subst this
  rw [CS.build, if_neg (by decide), if_neg (by decide), if_pos rfl, CE.buildL, CE.buildL]
theorem e9 (hk : e.kind = 6) : e.build C w b = (CE.buildL C e.es 0 b).called C e.slot e.es.length 0 := by
  cases e; simp only [CS.kind] at hk; subst hk; rw [CS.build, if_neg (by decide), if_neg (by decide), if_neg (by decide), if_pos rfl]; rfl
theorem bC (hk : e.kind = 7) (hl : e.es.length = 1) (hx : e.es[0]? = some x) : e.build C w b = ((x.build C 0 b).put (AM C.words 0)).next := by
  cases e with
  | mk k s z es thn els =>
  simp only [CS.kind] at hk
  subst hk
  have := E4 hl hx
  simp only [CS.es] at this
  subst this
  rw [CS.build, if_neg (by decide), if_neg (by decide), if_neg (by decide), if_neg (by decide), if_pos rfl, if_neg (by simp), CE.buildL, CE.buildL]
theorem bB (hk : e.kind = 7) (hl : e.es.length = 0) : e.build C w b = (b.leave C w).next := by
  cases e with
  | mk k s z es thn els =>
  simp only [CS.kind] at hk
  subst hk
  simp only [CS.es] at hl
  rw [CS.build, if_neg (by decide), if_neg (by decide), if_neg (by decide), if_neg (by decide), if_pos rfl, if_pos (List.length_eq_zero_iff.1 hl)]
end
theorem XJ {C : Core} {n : Nat} {w : Bool} {e : CS} (h : e.ok C n w) (hk : e.kind = 3 \/ e.kind = 4) : e.es.length = 1 := by
  cases e with
  | mk k sl z es thn els =>
  rw [CS.ok] at h
  simp only [CS.kind] at hk
  simp only [CS.es]
  exact TX
theorem bv {C : Core} {n : Nat} {w : Bool} {e : CS} (h : e.ok C n w) (hk : e.kind = 7) : e.es.length = 0 \/ e.es.length = 1 := by
  cases e with
  | mk k sl z es thn els =>
  rw [CS.ok] at h
  simp only [CS.kind] at hk
  simp only [CS.es]
  obtain ⟨_, _, _, h2⟩ := h
  rcases h2 with h2 | h2 | h2 | h2 | h2 | h2 | h2
  . omega
  . omega
  . omega
  . omega
  . omega
  . omega
  . rcases h2.2 with e | e
    . exact .inl (by rw [e]; rfl)
    . exact .inr e.1
theorem Wq {C : Core} {n : Nat} {w : Bool} {e : CS} (h : e.ok C n w) : CE.okL C n e.es := by cases e; rw [CS.ok] at h; exact h.1
section
variable {C : Core} {w : Bool} {e : CS} {x : CE} {b : Bd}
def Fl (C : Core) (w : Bool) (els : List CS) (b1 : Bd) : Bd := if els = [] then b1.opened.opened else b1.opened.opened.opened.inside (b1.blocks.length + 2) (b1.blocks.length + 1) fun x => CS.buildL C w els x
def Cj (els : List CS) (b1 : Bd) : Nat := if els = [] then b1.blocks.length + 1 else b1.blocks.length + 2
theorem fb (hk : e.kind = 4) (hl : e.es.length = 1) (hx : e.es[0]? = some x) : e.build C w b = (((Fl C w e.els (x.build C 0 b)).fork 0 (x.build C 0 b).blocks.length (Cj e.els (x.build C 0 b))).inside (x.build C 0 b).blocks.length ((x.build C 0 b).blocks.length + 1) fun z => CS.buildL C w e.thn z).go ((x.build C 0 b).blocks.length + 1) := by
  cases e with
  | mk k s z es thn els =>
  simp only [CS.kind] at hk
  subst hk
  have := E4 hl hx
  simp only [CS.es] at this
  subst this
  rw [CS.build, if_neg (by decide), if_neg (by decide), if_neg (by decide), if_neg (by decide), if_neg (by decide), if_pos rfl, CE.buildL, CE.buildL]
  dsimp only
  unfold Fl Cj
  simp only [CS.els, CS.thn]
  cases els with
  | nil => rfl
  | cons a l => rfl
theorem fa (hk : e.kind = 5) (hl : e.es.length = 1) (hx : e.es[0]? = some x) : e.build C w b = (((x.build C 0 ((b.opened.opened.opened.inside b.now b.blocks.length fun z => z).go b.blocks.length)).fork 0 (b.blocks.length + 1) (b.blocks.length + 2)).inside (b.blocks.length + 1) b.blocks.length fun z => CS.buildL C w e.thn z).go (b.blocks.length + 2) := by
  cases e with
  | mk k s z es thn els =>
  simp only [CS.kind] at hk
  subst hk
  have := E4 hl hx
  simp only [CS.es] at this
  subst this
  rw [CS.build, if_neg (by decide), if_neg (by decide), if_neg (by decide), if_neg (by decide), if_neg (by decide), if_neg (by decide), if_pos rfl]
  dsimp only
  rw [CE.buildL, CE.buildL]; rfl
end
theorem Pj (C : Core) (w : Bool) (b : Bd) (F : Nat -> AObj) : RH (FA C w b .free .free .free) F = RH (bL C w b) F := funext fun c => by
  by_cases hc : c < 16
  . show fam (nb _) F c = fam (nb _) F c
    rw [GO _ _ hc, GO _ _ hc]
    unfold nb
    congr 1
    match c with
    | 0 => rfl
    | 1 => rfl
    | 2 => rfl
    | 3 => rfl
    | 4 => rfl
    | 5 => rfl
    | 6 => rfl
    | c + 7 => rfl
  . obtain ⟨x, rfl⟩ : ∃ x, c = x + 16 := ⟨c - 16, by omega⟩
    exact (AJ _ _ _).trans (AJ _ _ _).symm
theorem bM {c : Nat} (h : kR 2 c = true) : kR 5 c = true := by
  rcases Nm h with h | h
  . have : c = 2 \/ c = 3 := by omega
    rcases this with rfl | rfl <;> rfl
  . obtain ⟨x, rfl⟩ : ∃ x, c = x + 16 := ⟨c - 16, by omega⟩
    exact OJ 5 x
theorem Sw {h h' : Ab} (hh : HSub (AE 5 hNone h) h') : HSub (AE 2 hNone h) h' := fun c o ho => by
  cases e : kR 2 c with
  | true => rw [Bv e] at ho; exact hh c o (by rw [Bv (bM e)]; exact ho)
  | false => rw [J3 e] at ho; cases ho
theorem Ka {b : Bd} {i : Nat} (h : b.blocks[i]? = some blk0) : Pl (b.go i) := ⟨blk0, h, rfl, rfl, rfl, rfl⟩
theorem Oy (b : Bd) : b.opened.opened.blocks[b.blocks.length]? = some blk0 := by rw [AF (by rw [Ai]; omega), CU]
theorem SB (b : Bd) : b.opened.opened.blocks[b.blocks.length + 1]? = some blk0 := by
  have := CU b.opened
  rwa [Ai] at this
theorem open3_at (b : Bd) : b.opened.opened.opened.blocks[b.blocks.length]? = some blk0 := by rw [AF (by rw [Ai, Ai]; omega), Oy]
theorem SA (b : Bd) : b.opened.opened.opened.blocks[b.blocks.length + 1]? = some blk0 := by rw [AF (by rw [Ai, Ai]; omega), SB]
theorem I8 (b : Bd) : b.opened.opened.opened.blocks[b.blocks.length + 2]? = some blk0 := by
  exact Q8
section
variable {C : Core} {n : Nat} {w : Bool}
theorem Gx {l : List CS} (hok : CS.okL C n w l) {b : Bd} (h : Pl b) : Pl (CS.buildL C w l b) := (BU l (fun st _ => Cr st.parts st (Nat.le_refl _)) hok b h).pl
theorem Mb : ∀ {l : List CS} (k : Nat), CS.okL C n w l -> CS.okL C n w (l.take k)
  | [], k, h => by rw [List.take_nil]; exact h
  | e :: l, 0, h => trivial
  | e :: l, k + 1, h => by rw [CS.okL] at h; rw [List.take_succ_cons, CS.okL]; exact ⟨h.1, Mb k h.2⟩
theorem Vt {els : List CS} (hok : CS.okL C n w els) {b : Bd} (h : Pl b) : (Fl C w els b).now = b.now /\ (∃ x, (Fl C w els b).blocks[b.now]? = some x) /\ (Fl C w els b).blocks[b.blocks.length]? = some blk0 /\ (Fl C w els b).cnt <= b.cnt + 3 + 11 * CS.partsL els := by
  have hlt := h.lt
  obtain ⟨x, hx⟩ := h.cur
  unfold Fl
  by_cases he : els = []
  . rw [if_pos he]
    refine ⟨rfl, ⟨x, by rw [AF (by rw [Ai]; omega), AF hlt]; exact hx⟩, Oy b, ?_⟩
    rw [AU, AU]; omega
  . rw [if_neg he]
    have hi := EP (to := b.blocks.length + 1) (f := fun z => CS.buildL C w els z) (I8 b) (BU els (fun st _ => Cr st.parts st (Nat.le_refl _)) hok _ (Ka (I8 b)))
    have hl3 : b.opened.opened.opened.blocks.length = b.blocks.length + 3 := by rw [Ai, Ai, Ai]
    refine ⟨hi.now, ⟨x, ?_⟩, ?_, ?_⟩
    . rw [hi.old b.now (by omega) (by omega), AF (by rw [Ai, Ai]; omega), AF (by rw [Ai]; omega), AF hlt]; exact hx
    . rw [hi.old b.blocks.length (by omega) (by omega), open3_at]
    . rw [Ea]
      have := D9 (C := C) (w := w) (l := els) (fun e _ => Fa e.parts e (Nat.le_refl _)) (b.opened.opened.opened.go (b.blocks.length + 2))
      rw [BV, AU, AU, AU] at this
      omega
end
theorem forked_pl {q : Bd} {i v to els : Nat} (h : q.blocks[i]? = some blk0) (hn : i ≠ q.now) : Pl ((q.fork v to els).go i) := Ka (by
  show (q.upd _).blocks[i]? = _
  rw [Cw hn]; exact h)
theorem Je {q : Bd} {i to : Nat} (h : q.blocks[i]? = some blk0) (hn : i ≠ q.now) : (q.jump to).blocks[i]? = some blk0 := by
  show (q.upd _).blocks[i]? = _
  rw [Cw hn]; exact h
theorem MN (a b : List UInt8) : ((⟨a.toArray⟩ : ByteArray) == ⟨b.toArray⟩) = (a == b) := by
  show (a.toArray == b.toArray) = (a == b)
  simp
structure NoI (t : Bd) (to : Int) (q : Nat × Bd × Int) : Prop where
  eq : Bh q.1 q.2.1 q.2.2 (to - q.2.2).toNat = t
  gas : (to - q.2.2).toNat <= q.1
  pos : 0 < q.1
theorem O4 {n : Nat} (h : 64 < n) : 8 <= chunkN n /\ chunkN n <= n /\ chunkN n <= 4096 := by
  unfold chunkN
  have h1 : min n 4096 <= n := Nat.min_le_left _ _
  have h2 : min n 4096 <= 4096 := Nat.min_le_right _ _
  have h3 : 64 <= min n 4096 := by rw [Nat.le_min]; omega
  omega
theorem NoI.next {t : Bd} {to : Int} {q : Nat × Bd × Int} (h : NoI t to q) (hn : 64 < (to - q.2.2).toNat) : NoI t to (q.1 - 1, q.2.1.chunk q.2.2 (chunkN (to - q.2.2).toNat), q.2.2 + chunkN (to - q.2.2).toNat) /\ (to - (q.2.2 + chunkN (to - q.2.2).toNat)).toNat < (to - q.2.2).toNat := by
  obtain ⟨g, b, a⟩ := q
  obtain ⟨e1, e2, e3⟩ := h
  dsimp only at e1 e2 e3 hn |-
  obtain ⟨c1, c2, c3⟩ := O4 hn
  have hsub : (to - (a + (chunkN (to - a).toNat : Int))).toNat = (to - a).toNat - chunkN (to - a).toNat := by omega
  cases g with
  | zero => omega
  | succ g =>
    refine ⟨⟨?_, by dsimp only; omega, by dsimp only; omega⟩, by omega⟩
    dsimp only
    rw [<- e1, Bh, if_pos hn, hsub]; rfl
theorem NoI.last {t : Bd} {to : Int} {q : Nat × Bd × Int} (h : NoI t to q) (hn : ¬ 64 < (to - q.2.2).toNat) : t = q.2.1.zeros q.2.2 (to - q.2.2).toNat := by
  obtain ⟨g, b, a⟩ := q
  obtain ⟨e1, e2, e3⟩ := h
  dsimp only at e1 e2 e3 hn |-
  cases g with
  | zero => omega
  | succ g => rw [<- e1, Bh, if_neg hn]
def Bd.Cur (b : Bd) : Prop := ∃ x, b.blocks[b.now]? = some x
theorem Bd.Cur.put {b : Bd} (h : b.Cur) (t : Tac) : (b.put t).Cur := by obtain ⟨x, hx⟩ := h; exact ⟨_, Ey hx⟩
theorem Bd.Cur.cnt {b : Bd} (h : b.Cur) (t : Tac) : (b.put t).cnt = b.cnt + 1 := by obtain ⟨x, hx⟩ := h; exact ID t hx
theorem Bd.Cur.opened {b : Bd} (h : b.Cur) : b.opened.Cur := by
  obtain ⟨x, hx⟩ := h
  exact ⟨x, by show b.opened.blocks[b.now]? = _; rw [AF (List.getElem?_eq_some_iff.1 hx).1]; exact hx⟩
theorem KI (b : Bd) : b.opened.blocks[b.blocks.length]? = some blk0 := by
  show (b.blocks ++ [blk0])[b.blocks.length]? = _
  rw [List.getElem?_append_right (Nat.le_refl _), Nat.sub_self]; rfl
theorem Lq {b : Bd} (h : b.Cur) : b.chunk2.Cur := by
  obtain ⟨x, hx⟩ := h
  have hlt := (List.getElem?_eq_some_iff.1 hx).1
  exact ⟨blk0, Je (q := b.opened) (KI b) NM⟩
theorem Lv (b : Bd) : b.chunk2.cnt = b.cnt + 1 := by
  unfold Bd.chunk2
  rw [BV, IE, AU]
theorem QG {b : Bd} (h : b.Cur) (l : Nat) : (b.chunk3 l).Cur := by
  obtain ⟨x, hx⟩ := h
  have hlt := (List.getElem?_eq_some_iff.1 hx).1
  obtain ⟨y, hy, _⟩ := forked_pl (q := b.opened) (v := 4) (to := l) (els := b.blocks.length) (KI b) NM
  exact ⟨y, hy⟩
theorem QJ (b : Bd) (l : Nat) : (b.chunk3 l).cnt = b.cnt + 1 := by
  unfold Bd.chunk3
  rw [BV, Eo, AU]
theorem En {b : Bd} (h : b.Cur) (a z : Int) : ∀ n, (b.astores a z n).Cur
  | 0 => h
  | n + 1 => (En h a z n).put _
theorem Fm {b : Bd} (h : b.Cur) (a z : Int) : ∀ n, (b.astores a z n).cnt = b.cnt + n
  | 0 => rfl
  | n + 1 => by rw [Bd.astores, (En h a z n).cnt, Fm h a z n]; omega
theorem He {b : Bd} (h : b.Cur) (a : Int) : ∀ n, (b.zeros a n).Cur
  | 0 => h
  | n + 1 => (He h a n).put _
theorem Jj {b : Bd} (h : b.Cur) (a : Int) : ∀ n, (b.zeros a n).cnt = b.cnt + n
  | 0 => rfl
  | n + 1 => by rw [Bd.zeros, (He h a n).cnt, Jj h a n]; omega
theorem ML {b : Bd} (h : b.Cur) (a : Int) (n : Nat) : (b.chunk a n).Cur /\ (b.chunk a n).cnt = b.cnt + 15 := by
  have h1 : (b.chunk1 n).Cur := ((h.put _).put _).put _
  have c1 : (b.chunk1 n).cnt = b.cnt + 3 := by unfold Bd.chunk1; rw [((h.put _).put _).cnt, (h.put _).cnt, h.cnt]
  have h2 := Lq h1
  have c2 := Lv (b.chunk1 n)
  have h3 := En h2 a (n - 7) 8
  have c3 := Fm h2 a (n - 7) 8
  have h4 := (h3.put (AS 4 1 1 2)).put (AS 14 4 1 3)
  have c4 := (h3.put (AS 4 1 1 2)).cnt (AS 14 4 1 3)
  have c5 := h3.cnt (AS 4 1 1 2)
  refine ⟨QG h4 _, ?_⟩
  unfold Bd.chunk
  rw [QJ]
  omega
structure NoW (t : Bd) (to : Int) (K : Nat) (q : Nat × Bd × Int) : Prop where
  i : NoI t to q
  cur : q.2.1.Cur
  cnt : q.2.1.cnt + (to - q.2.2).toNat <= K
  a0 : 0 <= q.2.2
  a1 : q.2.2 <= to
theorem NoW.next {t : Bd} {to : Int} {K : Nat} {q : Nat × Bd × Int} (h : NoW t to K q) (hn : 64 < (to - q.2.2).toNat) : NoW t to K (q.1 - 1, q.2.1.chunk q.2.2 (chunkN (to - q.2.2).toNat), q.2.2 + chunkN (to - q.2.2).toNat) := by
  have h1 := h.i.next hn
  have h2 := ML h.cur q.2.2 (chunkN (to - q.2.2).toNat)
  have h3 := ER hn
  have h4 := h.cnt
  have h5 := h.a0
  have h6 := h.a1
  refine ⟨h1.1, h2.1, ?_, ?_, ?_⟩ <;> dsimp only
  . rw [h2.2]; omega
  . omega
  . omega
theorem NoW.first {b : Bd} (h : b.Cur) {a to : Int} (ha : 0 <= a) (hto : a < to) : NoW (b.nought a (to - a).toNat) to (b.cnt + 1 + (to - a).toNat) ((to - a).toNat, b.put (AT 0 0), a) :=
  ⟨⟨by unfold Bd.nought; rw [if_neg (by omega)], Nat.le_refl _, by show 0 < (to - a).toNat; omega⟩, h.put _, by show (b.put (AT 0 0)).cnt + _ <= _; rw [h.cnt]; exact Nat.le_refl _, ha, by show a <= to; omega⟩
theorem Lu {b : Bd} (h : b.Cur) {a : Int} (n : Nat) : (b.nought a n).cnt <= b.cnt + 1 + n /\ (b.nought a n).Cur := by
  unfold Bd.nought
  by_cases hn : n = 0
  . rw [if_pos hn]; exact ⟨by omega, h⟩
  . rw [if_neg hn]
    have key : ∀ (g : Nat) (b : Bd) (a : Int) (n : Nat), b.Cur -> (Bh g b a n).cnt <= b.cnt + n /\ (Bh g b a n).Cur := fun g => by
      induction g with
      | zero => intro b a n h; rw [Bh]; exact ⟨by omega, h⟩
      | succ g ih =>
        intro b a n h
        rw [Bh]
        by_cases h64 : 64 < n
        . rw [if_pos h64]
          have h1 := ML h a (chunkN n)
          have h2 := ih _ (a + chunkN n) (n - chunkN n) h1.1
          have h3 := ER h64
          exact ⟨by omega, h2.2⟩
        . rw [if_neg h64]
          exact ⟨by rw [Jj h]; exact Nat.le_refl _, He h a n⟩
    have h1 := key n (b.put (AT 0 0)) a n (h.put _)
    rw [h.cnt] at h1
    exact h1
def Bd.wd (b : Bd) : Prop := ∀ x ∈ b.blocks, U6 x.ins
theorem PH {b : Bd} (h : b.wd) {g : Block -> Block} (hg : ∀ x, (g x).ins = x.ins) : (b.upd g).wd := fun y hy => by
  rcases D7 hy with ⟨x, hx, rfl⟩ | hy
  . rw [hg]; exact h x (List.mem_of_getElem? hx)
  . exact h y hy
theorem M3 {b : Bd} (h : b.wd) {t : Tac} (ht : CD t.n) : (b.put t).wd := fun y hy => by
  rcases D7 (b := b) (g := fun x => x.mid (x.ins ++ [t])) hy with ⟨x, hx, rfl⟩ | hy
  . intro u hu
    have hu : u ∈ x.ins ++ [t] := hu
    rcases List.mem_append.1 hu with hu | hu
    . exact h x (List.mem_of_getElem? hx) u hu
    . rw [List.mem_singleton] at hu; subst hu; exact ht
  . exact h y hy
theorem BJ {b : Bd} (h : b.wd) {t : Tac} (ht : t.n = 0) : (b.put t).wd := M3 h (by rw [ht]; exact isW_zero)
theorem CG {b : Bd} (h : b.wd) : b.opened.wd := fun y hy => by
  have hy : y ∈ b.blocks ++ [blk0] := hy
  rcases List.mem_append.1 hy with hy | hy
  . exact h y hy
  . rw [List.mem_singleton] at hy; subst hy; intro t ht; cases ht
theorem Hp {b : Bd} (h : b.wd) (n : Nat) : (b.go n).wd := h
theorem Rc {b : Bd} (h : b.wd) (to : Nat) : (b.jump to).wd := PH (g := fun x => { x with fin := 1, to := (to : Int) }) h fun _ => rfl
theorem G1 {b : Bd} (h : b.wd) (v to els : Nat) : (b.fork v to els).wd := PH (g := fun x => { x with fin := 2, v := (v : Int), to := (to : Int), els := (els : Int) }) h fun _ => rfl
theorem T9 {b : Bd} (h : b.wd) : b.ret.wd := PH (g := fun x => { x with fin := 3 }) h fun _ => rfl
theorem EJ {b : Bd} (h : b.wd) (i to : Nat) {f : Bd -> Bd} (hf : ∀ c, Bd.wd c -> (f c).wd) : (b.inside i to f).wd := Hp (Rc (hf _ (Hp h i)) to) _
theorem Re {b : Bd} (h : b.wd) (first : Int) (d : Nat) : ∀ n, (b.args first d n).wd
  | 0 => h
  | n + 1 => BJ (Re h first d n) rfl
theorem L2 {b : Bd} (h : b.wd) (C : Core) (g : Int) (n d : Nat) : (b.called C g n d).wd := BJ (Re h _ d n) rfl
theorem Ua {b : Bd} (h : b.wd) (d : Nat) : (b.not d).wd := BJ (BJ h rfl) rfl
theorem NQ {b : Bd} (h : b.wd) (e : CE) (d : Nat) : (b.truth e d).wd := by
  unfold Bd.truth
  cases e.flagged with
  | true => exact h
  | false => exact BJ (Ua h d) rfl
theorem PI {b : Bd} (h : b.wd) (k : Int) (d : Nat) : (b.either0 k d).wd := by
  unfold Bd.either0
  cases k == 8 with
  | true => exact G1 (CG (CG h)) _ _ _
  | false => exact G1 (CG (CG h)) _ _ _
section
variable {C : Core}
theorem NS {l : List CE} (hI : ∀ e ∈ l, ∀ d b, Bd.wd b -> (e.build C d b).wd) : ∀ (d : Nat) (b : Bd), b.wd -> (CE.buildL C l d b).wd := by
  induction l with
  | nil => intro d b h; rw [CE.buildL]; exact h
  | cons e l ih =>
    intro d b h
    rw [CE.buildL]
    exact ih (fun x hx => hI x (List.mem_cons.2 (.inr hx))) (d + 1) _ (hI e (List.mem_cons.2 (.inl rfl)) d b h)
theorem Rd : ∀ (m : Nat) (e : CE), e.parts <= m -> e.Ok -> ∀ d b, Bd.wd b -> (e.build C d b).wd
  | 0, e, hm, _ => absurd hm (by have := Bf e; omega)
  | m + 1, .mk k o n s z kids, hm, hk => by
    rw [CE.parts] at hm
    cases hk with
    | mk _ _ hn _ _ _ hks =>
    have hI : ∀ e ∈ kids, ∀ d b, Bd.wd b -> (e.build C d b).wd := fun e he => Rd m e (by have := AW he; omega) (hks e he)
    intro d b h
    have hL := NS hI d b h
    rw [CE.build]
    by_cases k1 : k = 1
    . rw [if_pos k1]; exact M3 h hn
    rw [if_neg k1]
    by_cases k2 : k = 2
    . rw [if_pos k2]; exact BJ h rfl
    rw [if_neg k2]
    by_cases k3 : k = 3
    . rw [if_pos k3]; exact BJ hL rfl
    rw [if_neg k3]
    by_cases k4 : k = 4
    . rw [if_pos k4]; exact BJ (L2 hL C _ _ _) rfl
    rw [if_neg k4]
    by_cases k5 : k = 5
    . rw [if_pos k5]; exact BJ h rfl
    rw [if_neg k5]
    by_cases k6 : k = 6
    . rw [if_pos k6]; exact BJ hL rfl
    rw [if_neg k6]
    by_cases k7 : k = 7
    . rw [if_pos k7]; exact Ua hL d
    rw [if_neg k7]
    by_cases k8 : k = 8 \/ k = 9
    . rw [if_pos k8]
      cases kids with
      | nil => rw [DL]; exact h
      | cons e l =>
        have h1 := NQ (hI e (List.mem_cons.2 (.inl rfl)) d b h) e d
        rw [DL]
        cases l with
        | nil => rw [DK]; exact h1
        | cons y l =>
          rw [DK]
          exact Hp (EJ (PI h1 k d) _ _ fun c hc => NQ (hI y (List.mem_cons.2 (.inr (List.mem_cons.2 (.inl rfl)))) d c hc) y d) _
    . rw [if_neg k8]; exact h
end
theorem NR {b : Bd} (h : b.wd) (C : Core) (w : Bool) : (b.leave C w).wd := by
  unfold Bd.leave
  cases w with
  | true => exact T9 (BJ (BJ h rfl) rfl)
  | false => exact T9 h
theorem Rb {b : Bd} (h : b.wd) : b.next.wd := Hp (CG h) _
section
variable {C : Core} {w : Bool}
theorem Kf {l : List CS} (hI : ∀ e ∈ l, ∀ b, Bd.wd b -> (e.build C w b).wd) : ∀ (b : Bd), b.wd -> (CS.buildL C w l b).wd := by
  induction l with
  | nil => intro b h; rw [CS.buildL]; exact h
  | cons e l ih =>
    intro b h
    rw [CS.buildL]
    exact ih (fun x hx => hI x (List.mem_cons.2 (.inr hx))) _ (hI e (List.mem_cons.2 (.inl rfl)) b h)
theorem M2 : ∀ (m : Nat) (e : CS), e.parts <= m -> e.Ok -> ∀ b, Bd.wd b -> (e.build C w b).wd
  | 0, e, hm, _ => absurd hm (by have := BG e; omega)
  | m + 1, .mk k s z es thn els, hm, hk => by
    rw [CS.parts] at hm
    cases hk with
    | mk _ _ _ _ hes _ hth _ hel =>
    have hT : ∀ b, Bd.wd b -> (CS.buildL C w thn b).wd := Kf fun e he => M2 m e T5 (hth e he)
    have hL : ∀ b, Bd.wd b -> (CS.buildL C w els b).wd := Kf fun e he => M2 m e T4 (hel e he)
    have hE : ∀ b, Bd.wd b -> (CE.buildL C es 0 b).wd := fun b h => NS (fun e he => Rd e.parts e (Nat.le_refl _) (hes e he)) 0 b h
    intro b h
    have h1 := hE b h
    rw [CS.build]
    by_cases k1 : k = 1
    . rw [if_pos k1]; exact BJ h1 rfl
    rw [if_neg k1]
    by_cases k2 : k = 2
    . rw [if_pos k2]; exact BJ h1 rfl
    rw [if_neg k2]
    by_cases k3 : k = 3
    . rw [if_pos k3]; exact BJ h1 rfl
    rw [if_neg k3]
    by_cases k6 : k = 6
    . rw [if_pos k6]; exact L2 h1 C _ _ _
    rw [if_neg k6]
    by_cases k7 : k = 7
    . rw [if_pos k7]
      by_cases he : es = []
      . rw [if_pos he]; exact Rb (NR h C w)
      . rw [if_neg he]; exact Rb (BJ h1 rfl)
    rw [if_neg k7]
    by_cases k4 : k = 4
    . rw [if_pos k4]
      dsimp only
      by_cases he : els = []
      . rw [if_pos he]
        exact Hp (EJ (G1 (CG (CG h1)) _ _ _) _ _ hT) _
      . rw [if_neg he]
        exact Hp (EJ (G1 (EJ (CG (CG (CG h1))) _ _ hL) _ _ _) _ _ hT) _
    rw [if_neg k4]
    by_cases k5 : k = 5
    . rw [if_pos k5]
      dsimp only
      exact Hp (EJ (G1 (hE _ (Hp (EJ (CG (CG (CG h))) _ _ fun _ h => h) _)) _ _ _) _ _ hT) _
    . rw [if_neg k5]; exact h
end
theorem NP {b : Bd} (h : b.wd) (a : Int) : ∀ n, (b.zeros a n).wd
  | 0 => h
  | n + 1 => BJ (NP h a n) rfl
theorem Kh {b : Bd} (h : b.wd) (a z : Int) : ∀ n, (b.astores a z n).wd
  | 0 => h
  | n + 1 => BJ (Kh h a z n) rfl
theorem Ub {b : Bd} (h : b.wd) (a : Int) {n : Nat} (hn : n <= 4096) : (b.chunk a n).wd := by
  have h1 : (b.chunk1 n).wd := M3 (M3 (BJ h rfl) (by exact ⟨by decide, by decide⟩)) (by show CD (n : Int); exact ⟨by omega, by omega⟩)
  exact Hp (G1 (CG (BJ (BJ (Kh (Hp (Rc (CG h1) _) _) a _ 8) rfl) rfl)) _ _ _) _
theorem Kg : ∀ (g : Nat) {b : Bd} (h : b.wd) (a : Int) (n : Nat), (Bh g b a n).wd
  | 0, b, h, a, n => by rw [Bh]; exact h
  | g + 1, b, h, a, n => by
    rw [Bh]
    by_cases h64 : 64 < n
    . rw [if_pos h64]; exact Kg g (Ub h a (ER h64).2.2.1) _ _
    . rw [if_neg h64]; exact NP h a n
theorem Sa {b : Bd} (h : b.wd) (a : Int) (n : Nat) : (b.nought a n).wd := by
  unfold Bd.nought
  by_cases hn : n = 0
  . rw [if_pos hn]; exact h
  . rw [if_neg hn]; exact Kg n (BJ h rfl) a n
theorem fx : bd0.wd := fun x hx => by
  have hx : x ∈ [blk0] := hx
  rw [List.mem_singleton] at hx; subst hx; intro t ht; cases ht
theorem ZX {C : Core} {fn : CFn} (h : fn.Ok) (last : Bool) : (GN C fn last).wd := by
  unfold GN
  refine NR (Kf (fun e he => M2 e.parts e (Nat.le_refl _) (h.body e he)) _ ?_) C fn.word
  cases last with
  | true => exact fx
  | false => exact Sa fx _ _
theorem Vy : bd0.cnt = 1 := rfl
theorem Y7 : bd0.Cur := ⟨_, rfl⟩
theorem Vx (C : Core) (fn : CFn) (last : Bool) {n : Nat} (hn : (fn.slots - fn.params).toNat <= n) : (GN C fn last).cnt <= 11 * CS.partsL fn.body + n + 4 := by
  unfold GN
  have h1 := Jl (CS.buildL C fn.word fn.body (bif last then bd0 else bd0.nought (fn.first + fn.params) (fn.slots - fn.params).toNat)) C fn.word
  have h2 := D9 (C := C) (w := fn.word) (l := fn.body) (fun e _ => Fa e.parts e (Nat.le_refl _)) (bif last then bd0 else bd0.nought (fn.first + fn.params) (fn.slots - fn.params).toNat)
  have h3 : (bif last then bd0 else bd0.nought (fn.first + fn.params) (fn.slots - fn.params).toNat).cnt <= 2 + n := by
    cases last with
    | true => show bd0.cnt <= _; rw [Vy]; omega
    | false =>
      have := (Lu Y7 (a := fn.first + fn.params) (fn.slots - fn.params).toNat).1
      rw [Vy] at this
      show (bd0.nought _ _).cnt <= _
      omega
  omega
theorem QO {C : Core} (h : C.Ok) : C.build.insW := fun f hf x hx => by
  obtain ⟨i, hi⟩ := List.mem_iff_getElem?.1 hf
  obtain ⟨fn, h1, rfl⟩ := II hi
  exact ZX (h.funcs fn (List.mem_of_getElem? h1)) _ x hx
theorem MO {C : Core} {N : Nat} (hN : ∀ fn ∈ C.funcs, 11 * CS.partsL fn.body + (fn.slots - fn.params).toNat + 4 <= N) : ∀ f ∈ C.build.funcs, ∀ x ∈ f.blocks, x.ins.length <= N := fun f hf x hx => by
  obtain ⟨i, hi⟩ := List.mem_iff_getElem?.1 hf
  obtain ⟨fn, h1, rfl⟩ := II hi
  obtain ⟨j, hj⟩ := List.mem_iff_getElem?.1 hx
  have h2 := Dx (b := GN C fn (i + 1 == C.funcs.length)) hj
  have h3 := Vx C fn (i + 1 == C.funcs.length) (Nat.le_refl (fn.slots - fn.params).toNat)
  have h4 := hN fn (List.mem_of_getElem? h1)
  omega
def Rs (fuel : Int) (c c' : CM) : Prop := (c.m.steps : Int) <= max fuel 0 -> (c'.m.steps : Int) <= max fuel 0
theorem Rs.refl (fuel : Int) (c : CM) : Rs fuel c c := fun h => h
theorem Rs.trans {fuel : Int} {a b c : CM} (h1 : Rs fuel a b) (h2 : Rs fuel b c) : Rs fuel a c := fun h => h2 (h1 h)
def LM (fuel : Int) (call : BD) : Prop := ∀ f args c, Rs fuel c (call f args c).2
section
variable {fuel : Int} {call : BD} {s : ByteArray}
def TN (fuel : Int) (call : BD) (s : ByteArray) (e : CE) : Prop := ∀ c, Rs fuel c (e.ev call s c).2
theorem Y2 {sl z : Int} {l : List CE} (hI : ∀ e ∈ l, TN fuel call s e) (c : CM) : Rs fuel c (Dn call s sl z l c).2 := by
  cases l with
  | nil => rw [Dn]; exact Rs.refl _ _
  | cons e l =>
    rw [Dn]
    have h := hI e (List.mem_cons.2 (.inl rfl)) c
    exact X9
theorem Qx (hcall : LM fuel call) {f : Int} : ∀ {l : List CE}, (∀ e ∈ l, TN fuel call s e) -> ∀ (args : List Int) (c : CM), Rs fuel c (A5 call s f l args c).2
  | [], _, args, c => by rw [A5]; exact hcall _ _ _
  | e :: l, hI, args, c => by
    rw [A5]
    have h := hI e (List.mem_cons.2 (.inl rfl)) c
    generalize e.ev call s c = p at h |-
    obtain ⟨x, c1⟩ := p
    dsimp only at h |-
    cases c1.fin == 0 with
    | false => exact h
    | true => exact Rs.trans h (Qx hcall (fun e he => hI e (List.mem_cons.2 (.inr he))) _ c1)
theorem YW {k o : Int} {l : List CE} (hI : ∀ e ∈ l, TN fuel call s e) (x : Int) (c : CM) : Rs fuel c (Cm call s k o l x c).2 := by
  cases l with
  | nil => rw [Cm]; exact Rs.refl _ _
  | cons e l =>
    rw [Cm]
    have h := hI e (List.mem_cons.2 (.inl rfl)) c
    exact Yc
theorem YZ {k o : Int} {l : List CE} (hI : ∀ e ∈ l, TN fuel call s e) (c : CM) : Rs fuel c (Cs call s k o l c).2 := by
  cases l with
  | nil => rw [Cs]; exact Rs.refl _ _
  | cons e l =>
    rw [Cs]
    have h := hI e (List.mem_cons.2 (.inl rfl)) c
    generalize e.ev call s c = p at h |-
    obtain ⟨x, c1⟩ := p
    dsimp only at h |-
    cases c1.fin == 0 with
    | false => exact h
    | true =>
      cases k == 7 with
      | true => exact h
      | false =>
        cases (k == 8 && x == 0) with
        | true => exact h
        | false =>
          cases (k == 9 && !(x == 0)) with
          | true => exact h
          | false => exact Rs.trans h (YW (fun e he => hI e (List.mem_cons.2 (.inr he))) x c1)
theorem Vk (hcall : LM fuel call) : ∀ (m : Nat) (e : CE), e.parts <= m -> TN fuel call s e
  | 0, e, hm => by cases e; rw [CE.parts] at hm; omega
  | m + 1, .mk k o n sl z kids, hm => by
    rw [CE.parts] at hm
    have hI : ∀ e ∈ kids, TN fuel call s e := fun e he => Vk hcall m e (by have := AW he; omega)
    intro c
    rw [CE.ev]
    by_cases k1 : k = 1
    . rw [if_pos k1]; exact Rs.refl _ _
    rw [if_neg k1]
    by_cases k2 : k = 2
    . rw [if_pos k2]; exact Rs.refl _ _
    rw [if_neg k2]
    by_cases k3 : k = 3
    . rw [if_pos k3]; exact Y2 hI c
    rw [if_neg k3]
    by_cases k4 : k = 4
    . rw [if_pos k4]; exact Qx hcall hI [] c
    rw [if_neg k4]
    by_cases k5 : k = 5
    . rw [if_pos k5]
      cases decide (c.m.read < s.size) <;> exact Rs.refl _ _
    rw [if_neg k5]
    exact YZ hI c
theorem Qv (hcall : LM fuel call) (l : List CE) (c : CM) : Rs fuel c (Bc call s l c).2 := by
  cases l with
  | nil => exact Rs.refl _ _
  | cons e l => exact Vk hcall e.parts e (Nat.le_refl _) c
theorem H7 (c : CM) : Rs fuel c (AD fuel c).2 := by
  unfold AD AG
  cases h : decide ((c.m.steps : Int) >= fuel) with
  | true => exact Rs.refl _ _
  | false =>
    have h := of_decide_eq_false h
    intro h1
    show ((c.m.steps + 1 : Nat) : Int) <= max fuel 0
    omega
theorem L1 {cond : CM -> Int × CM} {body : CM -> CM} (h1 : ∀ c, Rs fuel c (cond c).2) (h2 : ∀ c, Rs fuel c (body c)) : ∀ (g : Nat) (c : CM), Rs fuel c (Bk fuel cond body g c)
  | 0, c => Rs.refl _ _
  | g + 1, c => by
    rw [Bk]
    cases (c.fin == 0 && !c.over) with
    | false => exact Rs.refl _ _
    | true =>
      cases (AD fuel c).1 with
      | false => exact H7 c
      | true =>
        have h := Rs.trans (H7 (fuel := fuel) c) (h1 (AD fuel c).2)
        simp only [cond_true]
        generalize cond (AD fuel c).2 = p at h |-
        obtain ⟨x, c1⟩ := p
        dsimp only at h |-
        cases (c1.fin == 0 && !(x == 0)) with
        | false => exact h
        | true => exact Rs.trans h (Rs.trans (h2 c1) (L1 h1 h2 g _))
def RV (call : BD) (s : ByteArray) (fuel : Int) (st : CS) : Prop := ∀ c, Rs fuel c (st.run call s fuel c)
theorem G5 : ∀ {l : List CS}, (∀ st ∈ l, RV call s fuel st) -> ∀ (c : CM), Rs fuel c (Ao call s fuel l c)
  | [], _, c => by rw [Ao]; exact Rs.refl _ _
  | st :: l, hI, c => by
    rw [Ao]
    cases (c.fin == 0 && !c.over) with
    | false => exact Rs.refl _ _
    | true => exact Rs.trans (hI st (List.mem_cons.2 (.inl rfl)) c) (G5 (fun e he => hI e (List.mem_cons.2 (.inr he))) _)
theorem Na (hcall : LM fuel call) : ∀ (m : Nat) (st : CS), st.parts <= m -> RV call s fuel st
  | 0, st, hm => by cases st; rw [CS.parts] at hm; omega
  | m + 1, .mk k sl z es thn els, hm => by
    rw [CS.parts] at hm
    have hT : ∀ e ∈ thn, RV call s fuel e := fun e he => Na hcall m e T5
    have hL : ∀ e ∈ els, RV call s fuel e := fun e he => Na hcall m e T4
    intro c
    rw [CS.run]
    by_cases k6 : k = 6
    . rw [if_pos k6]; exact Qx hcall (fun e he => Vk hcall e.parts e (Nat.le_refl _)) [] c
    rw [if_neg k6]
    by_cases k5 : k = 5
    . rw [if_pos k5]; exact L1 (fun c => Qv hcall _ c) (fun c => G5 hT c) _ c
    rw [if_neg k5]
    have h := Qv (s := s) hcall es c
    generalize Bc call s es c = p at h |-
    obtain ⟨x, c1⟩ := p
    dsimp only at h |-
    cases c1.fin == 0 with
    | false => exact h
    | true =>
      simp only [cond_true]
      by_cases k7 : k = 7
      . rw [if_pos k7]; exact h
      rw [if_neg k7]
      by_cases k1 : k = 1
      . rw [if_pos k1]; exact h
      rw [if_neg k1]
      by_cases k2 : k = 2
      . rw [if_pos k2]
        have h3 := Rs.trans h (Qv (s := s) hcall (es.drop 1) c1)
        exact Zm
      rw [if_neg k2]
      by_cases k3 : k = 3
      . rw [if_pos k3]
        cases decide (c1.m.out.length >= 65536) <;> exact h
      rw [if_neg k3]
      cases x == 0 with
      | true => exact Rs.trans h (G5 hL c1)
      | false => exact Rs.trans h (G5 hT c1)
end
theorem RN {C : Core} {s : ByteArray} {fuel : Int} : ∀ n, LM fuel (BX C s fuel n)
  | 0 => fun f args c => Rs.refl _ _
  | n + 1 => fun f args c => by
    rw [BX]
    cases (AD fuel c).1 with
    | false => exact H7 c
    | true =>
      simp only [cond_true]
      cases e : C.funcs[f.toNat]? with
      | none => exact Rs.refl _ _
      | some g =>
        dsimp only
        have h := G5 (call := BX C s fuel n) (s := s) (fuel := fuel) (l := g.body) (fun st hs => Na (RN n) st.parts st (Nat.le_refl _)) ((AD fuel c).2.put { (AD fuel c).2.m with words := CB (A8 c.m.words g.first g.slots.toNat) g.first args args.length })
        have h2 := Rs.trans (H7 (fuel := fuel) c) h
        generalize Ao (BX C s fuel n) s fuel g.body _ = c1 at h2 |-
        cases c1.over <;> exact h2
theorem W8 (C : Core) (s : ByteArray) (fuel : Int) : ((Fy C s fuel).steps : Int) <= max fuel 0 := by
  unfold Fy
  cases e : C.funcs[C.funcs.length - 1]? with
  | none => show ((0 : Nat) : Int) <= _; omega
  | some g =>
    dsimp only
    have h : Rs fuel (c0 C) _ := G5 (call := BX C s fuel (C.funcs.length - 1)) (s := s) (l := g.body) (fun st hs => Na (RN _) st.parts st (Nat.le_refl _)) (c0 C)
    have h2 := h (by show ((0 : Nat) : Int) <= _; omega)
    generalize Ao (BX C s fuel (C.funcs.length - 1)) s fuel g.body (c0 C) = c1 at h2 |-
    cases c1.m.fin == 0 <;> exact h2
structure Lit (C : Core) : Prop where
  ok : C.Ok
  fit : Fq C
  r : C.right = true
  parts : C.parts <= 300
  w0 : 0 <= C.words
  w1 : C.words <= 400
theorem Qi {C : Core} (hC : C.Ok) (h : C.little = true) : Lit C := by
  unfold Core.little at h
  rw [Bool.and_eq_true] at h
  have h2 : C.words <= 400 := of_decide_eq_true h.2
  have hf := Vi hC (by decide) (by decide) h.1
  have h1 := h.1
  unfold Core.fair at h1
  simp only [Bool.and_eq_true, decide_eq_true_eq] at h1
  have hp := MF (by decide) h1.1
  exact ⟨hC, hf, h1.2.2, by omega, (D3 h1.2.2).w0, h2⟩
theorem Lit.k {C : Core} (h : Lit C) : C.k <= 5608 := by
  have h1 := h.parts
  have h2 := h.w0
  have h3 := h.w1
  unfold Core.k
  omega
theorem Lit.ins {C : Core} (h : Lit C) : ∀ f ∈ C.build.funcs, ∀ x ∈ f.blocks, x.ins.length <= 5000 := MO fun fn hf => by
  have h1 := E1 hf
  have h2 := h.parts
  obtain ⟨f1, f2, f3, f4, f5⟩ := (D3 h.r).fn fn hf
  have h3 := h.w1
  omega
section
variable {P : Program} {T : Nat -> Option AC} {o : Oper} {e : Az} {h : Ab}
theorem bG {t t' : TypeId} {x y : Operand} {k k' : IntKind} {m n : Int} (ho : o.op = .call { callee := .builtin .min, args := #[x, y], argTypes := #[t, t'] }) (hx : Aq e x = some (.int k m)) (hy : Aq e y = some (.int k' n)) : QLoc P o e h [] (.int k (min m n)) := by
  intro H ι a w s hs h1 h2
  have hx' : Aq s.env x = some (.int k m) := by rw [h1 x FB, hx]
  have hy' : Aq s.env y = some (.int k' n) := by rw [h1 y FB, hy]
  have hvx := (Ap hs hx').int_inv
  have hvy := (Ap hs hy').int_inv
  refine ⟨.int k (min m n), .int _ _ _, ?_⟩
  have e1 : (if n < m then n else m) = min m n := by
    rw [Int.min_def]
    split <;> split <;> omega
  have key : (Builtin.min_ #[t, t'] o.type #[.int k m, .int k' n]).run P w = .ok (.int k (min m n)) w := by
    show (List.foldlM Builtin.min2 (Value.int k m) [Value.int k' n]).run P w = _
    simp only [List.foldlM, Builtin.min2, Sem.run_bind, Sem.run_pure, Result.andThen_ok, e1]
  simp only [execOp, ho, resolve, invoke, builtin, Sem.run_bind, Sem.run_pure, Result.andThen_ok, List.map_toArray, List.map_cons, List.map_nil, hvx, hvy, key]
end
theorem Tg {x : Int} (h : 64 < x.toNat) : A3 .quo (.int .i64 (min x 4096)) (.int .i64 8) = some (.int .i64 ((min x.toNat 4096 / 8 : Nat) : Int)) := by
  have e : min x 4096 = ((min x.toNat 4096 : Nat) : Int) := by omega
  rw [e]
  refine Iz (b := 8) (by decide) (Bz (by omega) (by omega))
theorem Th {x : Nat} : A3 .mul (.int .i64 ((min x 4096 / 8 : Nat) : Int)) (.int .i64 8) = some (.int .i64 (chunkN x : Int)) := by
  simp only [A3, BA, isShift, cond_false, if_true]
  rw [Bz (by omega) (by omega)]
  unfold chunkN
  congr 2
theorem Qf (b : Bd) (a : Int) {n : Nat} (h : n = 0) : b.nought a n = b := by unfold Bd.nought; rw [if_pos h]
section
variable {call call' : Int -> Mach -> Mach} {s : ByteArray} {fuel : Int}
end
abbrev BB := Nat -> Nat -> Bool
def LI (f : BFunc) (I : BB) : Prop := ∀ b v, I b v = true -> Gj f v b
def Q2 (f : BFunc) (O : BB) : Prop := ∀ b v, O b v = true -> ∃ x, f.blocks[b]? = some x /\ WC f x v = true
def Nq (n R : Nat) (I : BB) : Nat := ((List.range n).map fun b => ((List.range R).map fun v => if I b v then 0 else 1).sum).sum
def putBB (I : BB) (b v : Nat) (z : Bool) : BB := fun b' v' => if b' = b /\ v' = v then z else I b' v'
theorem Uk {n : Nat} {p q : Nat -> Nat} (h : ∀ k, k < n -> p k <= q k) {j : Nat} (hj : j < n) (hlt : p j < q j) : ((List.range n).map p).sum < ((List.range n).map q).sum := by
  induction n with
  | zero => omega
  | succ n ih =>
    rw [List.range_succ, List.map_append, List.map_append, List.sum_append, List.sum_append]
    simp only [List.map_cons, List.map_nil, List.sum_cons, List.sum_nil]
    have hle : ∀ m, m <= n -> ((List.range m).map p).sum <= ((List.range m).map q).sum := by
      intro m
      induction m with
      | zero => intro _; exact Nat.le_refl _
      | succ m im =>
        intro hm
        rw [List.range_succ, List.map_append, List.map_append, List.sum_append, List.sum_append]
        simp only [List.map_cons, List.map_nil, List.sum_cons, List.sum_nil]
        have := im (by omega); have := h m (by omega); omega
    have h1 := h n (by omega)
    by_cases hjn : j = n
    . subst hjn; have := hle j (Nat.le_refl _); omega
    . have := ih (fun k hk => h k (by omega)) (by omega); omega
theorem Qt {n R : Nat} {I : BB} {b v : Nat} (hb : b < n) (hv : v < R) (h : I b v = false) : Nq n R (putBB I b v true) < Nq n R I := by
  unfold Nq
  have hp : ∀ b' v', (if putBB I b v true b' v' then 0 else 1) <= (if I b' v' then 0 else 1 : Nat) := fun b' v' => by
    unfold putBB
    split
    . simp
    . split <;> simp_all
  have hsum : ∀ (m : Nat) (p q : Nat -> Nat), (∀ k, p k <= q k) -> ((List.range m).map p).sum <= ((List.range m).map q).sum := fun m p q hpq => by
    induction m with
    | zero => exact Nat.le_refl _
    | succ m im =>
      rw [List.range_succ, List.map_append, List.map_append, List.sum_append, List.sum_append]
      simp only [List.map_cons, List.map_nil, List.sum_cons, List.sum_nil]
      have := hpq m; omega
  refine Uk (fun k _ => hsum R _ _ (hp k)) hb ?_
  refine Uk (fun k _ => hp b k) hv ?_
  unfold putBB
  simp [h]
theorem PT {f : BFunc} {I O : BB} (hI : LI f I) (hO : Q2 f O) {b v : Nat} {x : Block} {d : Int} (hx : f.blocks[b]? = some x) (hd : d ∈ x.nexts) : Q2 f (putBB O b v (O b v || I d.toNat v)) := by
  intro b' v' h
  unfold putBB at h
  split at h
  . rename_i e
    obtain ⟨rfl, rfl⟩ := e
    rw [Bool.or_eq_true] at h
    rcases h with h | h
    . exact hO _ _ h
    . exact ⟨x, hx, outB_iff.2 ⟨d, hd, hI _ _ h⟩⟩
  . exact hO _ _ h
theorem PU {f : BFunc} {I : BB} (hI : LI f I) {b v : Nat} (h : Gj f v b) : LI f (putBB I b v true) := by
  intro b' v' h'
  unfold putBB at h'
  split at h'
  . rename_i e
    obtain ⟨rfl, rfl⟩ := e
    exact h
  . exact hI _ _ h'
def outerC (q n R : Nat) : List (List AV) := (List.range n).map fun b => [AV.ref (2 * b + q + 16) R 0 R]
theorem In (k0 q n R : Nat) : (AObj.row false 1 (outerC q n R)).avoid (kf k0) = true := by
  simp only [AObj.avoid, List.all_eq_true]
  intro cs h
  unfold outerC at h
  obtain ⟨b, _, rfl⟩ := List.mem_map.1 h
  intro x hx
  simp only [List.mem_singleton] at hx
  subst hx
  exact kf_hi _ _
theorem putBB_row (I : BB) (b v : Nat) (z : Bool) : putBB I b v z b = fun u => if u = v then z else I b u := by
  funext u; unfold putBB; simp
theorem UB {I : BB} {b b' : Nat} (v : Nat) (z : Bool) (h : b' ≠ b) : putBB I b v z b' = I b' := by
  funext u; unfold putBB; simp [h]
def fW (b : Bool) : Nat := bif b then 1 else 0
structure RG where
  I : BB
  O : BB
  more : Bool
structure OInv (f : BFunc) (R : Nat) (I O0 : BB) (b : Nat) (x : Block) (O : BB) (j v : Nat) : Prop where
  so : Q2 f O
  ne : ∀ b', b' ≠ b -> O b' = O0 b'
  js : ∀ j', j' < j -> ∀ d, x.nexts[j']? = some d -> ∀ u, u < R -> I d.toNat u = true -> O b u = true
  vs : ∀ d, x.nexts[j]? = some d -> ∀ u, u < v -> I d.toNat u = true -> O b u = true
theorem OInv.step {f : BFunc} {R : Nat} {I O0 : BB} {b : Nat} {x : Block} {O : BB} {j v : Nat} (hI : LI f I) (hx : f.blocks[b]? = some x) {d : Int} (hd : x.nexts[j]? = some d) (h : OInv f R I O0 b x O j v) : OInv f R I O0 b x (putBB O b v (O b v || I d.toNat v)) j (v + 1) := by
  have hmono : ∀ u, O b u = true -> putBB O b v (O b v || I d.toNat v) b u = true := fun u hu => by
    rw [putBB_row]
    show (if u = v then _ else _) = true
    by_cases e : u = v
    . subst e; rw [if_pos rfl, hu]; rfl
    . rw [if_neg e]; exact hu
  refine ⟨PT hI h.so hx (List.mem_of_getElem? hd), fun b' hb => by rw [UB _ _ hb]; exact h.ne b' hb, fun j' hj d' hd' u hu hi => hmono u (h.js j' hj d' hd' u hu hi), fun d' hd' u hu hi => ?_⟩
  rw [hd] at hd'; cases hd'
  by_cases e : u = v
  . subst e
    rw [putBB_row]
    show (if u = u then _ else _) = true
    rw [if_pos rfl, hi, Bool.or_true]
  . exact hmono u (h.vs d hd u (by omega) hi)
structure AInv (f : BFunc) (R B : Nat) (g : RG) (b : Nat) (p : Nat -> Bool) (I : BB) (more : Bool) (v : Nat) : Prop where
  si : LI f I
  ms : more = false -> g.more = false /\ I = g.I
  bud : Nq f.blocks.length R I + fW more <= B
  us : ∀ u, u < v -> p u = true -> I b u = true
theorem AInv.skip {f : BFunc} {R B : Nat} {g : RG} {b : Nat} {p : Nat -> Bool} {I : BB} {more : Bool} {v : Nat} (h : AInv f R B g b p I more v) (hp : (p v && !I b v) = false) : AInv f R B g b p I more (v + 1) := by
  refine ⟨h.si, h.ms, h.bud, fun u hu e => ?_⟩
  by_cases eu : u = v
  . subst eu
    rw [e] at hp
    simpa using hp
  . exact h.us u (by omega) e
theorem AInv.put {f : BFunc} {R B : Nat} {g : RG} {b : Nat} {p : Nat -> Bool} {I : BB} {more : Bool} {v : Nat} (h : AInv f R B g b p I more v) (hp : (p v && !I b v) = true) (hb : b < f.blocks.length) (hv : v < R) (hl : p v = true -> Gj f v b) : AInv f R B g b p (putBB I b v true) true (v + 1) := by
  simp only [Bool.and_eq_true, Bool.not_eq_true'] at hp
  have hf := Qt (I := I) hb hv hp.2
  refine ⟨PU h.si (hl hp.1), (fun e => by cases e), ?_, fun u hu e => ?_⟩
  . have := h.bud
    show _ + 1 <= B
    omega
  . rw [putBB_row]
    show (if u = v then _ else _) = true
    by_cases eu : u = v
    . rw [if_pos eu]
    . rw [if_neg eu]; exact h.us u (by omega) e
theorem Ghost.endCell {n : Nat} {e : Az} {h : Ab} (b0 j b : Nat) {sz0 sz : Nat} {cs : List AV} {es : List (List AV)} (hb0 : h b0 = some (.row false sz0 [cs])) (hj : cs[j]? = some (HF b es)) (hb : h b = some (Mc sz es)) (hne : b0 ≠ b) :
    Ghost ⟨n, e, h⟩ ⟨n, e, hput (hrm h b) b0 (.row false sz0 [cs.set j (.lst false es)])⟩ := by
  cases hes : es.isEmpty with
  | false =>
    have e1 : HF b es = .ref b es.length 0 es.length := by simp [HF, hes, Ry]
    have e2 : Mc sz es = .row true sz es := by simp [Mc, hes, K4]
    rw [e1] at hj
    rw [e2] at hb
    have := Ghost.freezeCell (n := n) (e := e) b0 0 j b hb0 rfl hj hb rfl hne
    rwa [List.drop_zero, List.take_length] at this
  | true =>
    have e0 : es = [] := List.isEmpty_iff.1 hes
    subst e0
    have hj' : cs[j]? = some (.lst true []) := hj
    refine (DW b0 (es' := [cs.set j (.lst false [])]) hb0 rfl ?_).trans (.of_sub ⟨rfl, fun _ _ h => h, fun c x hx => ?_⟩)
    . intro i ds ds' h1 h2
      cases i with
      | zero =>
        simp only [List.getElem?_cons_zero, Option.some.injEq] at h1 h2
        subst h1; subst h2
        exact Zy
      | succ i => simp at h1
    . have h1 : hput (hrm h b) b0 (.row false sz0 [cs.set j (.lst false [])]) c = some x := hx
      show hput h b0 _ c = some x
      by_cases hc : c = b0
      . subst hc; rw [AA] at h1 |-; exact h1
      . rw [Aj _ _ hc] at h1 |-
        by_cases hcb : c = b
        . subst hcb
          have : hrm h c c = some x := h1
          unfold hrm at this
          rw [show Nat.beq c c = true from Nat.beq_refl c] at this
          cases this
        . rwa [Fv _ hcb] at h1
def encN (p : Nat -> Bool) : Nat -> Nat
  | 0 => 0
  | n + 1 => encN p n + (if p n then 2 ^ n else 0)
def wd (p : Nat -> Bool) : Nat := encN p 64
theorem Pr {n : Nat} {e : Az} {h : Ab} (b0 i j b : Nat) {sz0 sz : Nat} {es0 : List (List AV)} {cs : List AV} {es : List (List AV)} (hb0 : h b0 = some (.row false sz0 es0)) (hi : es0[i]? = some cs) (hj : cs[j]? = some (HF b es)) (hb : h b = some (Mc sz es)) (hne : b0 ≠ b) :
    Ghost ⟨n, e, h⟩ ⟨n, e, hput (hrm h b) b0 (.row false sz0 (es0.set i (cs.set j (.lst false es))))⟩ := by
  cases hes : es.isEmpty with
  | false =>
    have e1 : HF b es = .ref b es.length 0 es.length := by simp [HF, hes, Ry]
    have e2 : Mc sz es = .row true sz es := by simp [Mc, hes, K4]
    rw [e1] at hj
    rw [e2] at hb
    have := Ghost.freezeCell (n := n) (e := e) b0 i j b hb0 hi hj hb rfl hne
    rwa [List.drop_zero, List.take_length] at this
  | true =>
    have e0 : es = [] := List.isEmpty_iff.1 hes
    subst e0
    have hj' : cs[j]? = some (.lst true []) := hj
    have hilt : i < es0.length := (List.getElem?_eq_some_iff.1 hi).1
    refine (DW b0 (es' := es0.set i (cs.set j (.lst false []))) hb0 (by simp) ?_).trans (.of_sub ⟨rfl, fun _ _ h => h, fun c x hx => ?_⟩)
    . intro q ds ds' h1 h2
      by_cases hq : i = q
      . subst hq
        rw [hi] at h1; cases h1
        rw [List.getElem?_set_self hilt] at h2; cases h2
        exact Zy
      . rw [List.getElem?_set_ne hq, h1] at h2; cases h2
        exact ⟨rfl, fun k x y hx hy => by rw [hx] at hy; cases hy; exact ⟨fun h => h, fun _ _ _ h => h⟩⟩
    . have h1 : hput (hrm h b) b0 (.row false sz0 (es0.set i (cs.set j (.lst false [])))) c = some x := hx
      show hput h b0 _ c = some x
      by_cases hc : c = b0
      . subst hc; rw [AA] at h1 |-; exact h1
      . rw [Aj _ _ hc] at h1 |-
        by_cases hcb : c = b
        . subst hcb
          rw [GM] at h1; cases h1
        . rwa [Fv _ hcb] at h1
def fFree : Nat -> AObj := fun _ => .free
def kB (b : Nat) : Bool := decide (b < 6) && (!(b == 2) && !(b == 3))
abbrev hB (o0 o1 o4 o5 : AObj) : Ab := fam (nb [o0, o1, .free, .free, o4, o5]) fFree
theorem RB (o0 o1 o4 o5 : AObj) (b : Nat) (hb : kB b = false) : hB o0 o1 o4 o5 b = some .free := by
  by_cases h16 : b < 16
  . rcases (by omega : b = 0 \/ b = 1 \/ b = 2 \/ b = 3 \/ b = 4 \/ b = 5 \/ b = 6 \/ b = 7 \/ b = 8 \/ b = 9 \/ b = 10 \/ b = 11 \/ b = 12 \/ b = 13 \/ b = 14 \/ b = 15) with rfl | rfl | rfl | rfl | rfl | rfl | rfl | rfl | rfl | rfl | rfl | rfl | rfl | rfl | rfl | rfl <;> first | rfl | cases hb
  . obtain ⟨x, rfl⟩ : ∃ x, b = x + 16 := ⟨b - 16, by omega⟩
    exact AJ _ _ _
theorem WV {h : Ab} {o0 o1 o4 o5 : AObj} (h0 : h 0 = some o0) (h1 : h 1 = some o1) (h4 : h 4 = some o4) (h5 : h 5 = some o5) (a0 : o0.avoid kB = true) (a1 : o1.avoid kB = true) (a4 : o4.avoid kB = true) (a5 : o5.avoid kB = true) : HDropK kB (hB o0 o1 o4 o5) h := fun b o ho => by
  cases hk : kB b with
  | false => rw [RB _ _ _ _ b hk] at ho; cases ho; exact .inr ⟨rfl, rfl⟩
  | true =>
    left
    have hb : b = 0 \/ b = 1 \/ b = 4 \/ b = 5 := by
      unfold kB at hk
      simp at hk
      omega
    rcases hb with rfl | rfl | rfl | rfl
    . cases ho; exact ⟨h0, fun _ => ⟨rfl, a0⟩⟩
    . cases ho; exact ⟨h1, fun _ => ⟨rfl, a1⟩⟩
    . cases ho; exact ⟨h4, fun _ => ⟨rfl, a4⟩⟩
    . cases ho; exact ⟨h5, fun _ => ⟨rfl, a5⟩⟩
def HA (l : List Block) (k : Nat) : List (List AV) := l.zipIdx.map fun p => if p.2 < k then p.1.cells else Fd p.2 p.1
theorem FSq {l : List Block} {i : Nat} {x : Block} (h : l[i]? = some x) (k : Nat) : (HA l k)[i]? = some (if i < k then x.cells else Fd i x) := by
  unfold HA
  rw [List.getElem?_map, CF h]; rfl
theorem Hl (l : List Block) (k : Nat) : (HA l k).length = l.length := by simp [HA]
theorem QV (l : List Block) : HA l 0 = Br l := by
  unfold HA Br
  exact List.map_congr_left fun p _ => if_neg (Nat.not_lt_zero _)
theorem Tv (l : List Block) : HA l l.length = l.map Block.cells := by
  refine List.ext_getElem? fun j => ?_
  by_cases hj : j < l.length
  . obtain ⟨x, hx⟩ := At hj
    rw [FSq hx, if_pos hj, List.getElem?_map, hx]; rfl
  . rw [List.getElem?_eq_none (by rw [Hl]; omega), List.getElem?_eq_none (by rw [List.length_map]; omega)]
theorem Tu {l : List Block} {k : Nat} {x : Block} (h : l[k]? = some x) : (HA l k).set k ((Fd k x).set 0 (U7 x.ins)) = HA l (k + 1) := by
  refine List.ext_getElem? fun j => ?_
  rw [List.getElem?_set, Hl]
  have hk := (List.getElem?_eq_some_iff.1 h).1
  by_cases hj : k = j
  . subst hj
    rw [if_pos rfl, if_pos hk, FSq h, if_pos (by omega)]; rfl
  . rw [if_neg hj]
    by_cases hl : j < l.length
    . obtain ⟨y, hy⟩ := At hl
      rw [FSq hy, FSq hy]
      by_cases h2 : j < k
      . rw [if_pos h2, if_pos (by omega)]
      . rw [if_neg h2, if_neg (by omega)]
    . rw [List.getElem?_eq_none (by rw [Hl]; omega), List.getElem?_eq_none (by rw [Hl]; omega)]
theorem LL {n0 : Nat} {e : Az} {l : List Block} : ∀ (k : Nat) (h : Ab), k <= l.length -> h 3 = some (.row false 5 (Br l)) -> (∀ x, h (x + 16) = some (Ak l x)) ->
    ∃ h', Ghost ⟨n0, e, h⟩ ⟨n0, e, h'⟩ /\ h' 3 = some (.row false 5 (HA l k)) /\ (∀ c, c ≠ 3 -> (∀ b, b < k -> c ≠ b + 16) -> h' c = h c)
  | 0, h, _, h1, h2 => ⟨h, .of_sub (Sub.refl _), by rw [h1, QV], fun _ _ _ => rfl⟩
  | k + 1, h, hk, h1, h2 => by
    obtain ⟨h', g1, g2, g3⟩ := LL (n0 := n0) (e := e) k h (by omega) h1 h2
    obtain ⟨x, hx⟩ := At (show k < l.length by omega)
    have hr : h' (k + 16) = some (Mc 8 (x.ins.map Tac.cells)) := by rw [g3 _ (by omega) (fun b hb => by omega), h2 k, RO hx]
    have g := Pr (n := n0) (e := e) 3 k 0 (k + 16) g2 (show _ = some (Fd k x) by rw [FSq hx, if_neg (Nat.lt_irrefl k)]) (show _ = some (HF (k + 16) (x.ins.map Tac.cells)) from rfl) hr (by omega)
    refine ⟨_, g1.trans g, ?_, fun c hc hb => ?_⟩
    . rw [AA]
      congr 2
      exact Tu hx
    . rw [Aj _ _ hc, Fv _ (hb k (by omega))]
      exact g3 c hc (fun b hb' => hb b (by omega))
def YJ (h : Ab) : Ab := fun c => if c < 16 then (if c = 3 then none else h c) else none
theorem Pq {n : Nat} {e : Az} {h : Ab} (C : Core) (w : Bool) (b : Bd) (h2 : h 2 = some (.row false 6 [DJ C w b])) (h3 : h 3 = some (.row false 5 (Br b.blocks))) (hF : ∀ x, h (x + 16) = some (Ak b.blocks x)) :
    Ghost ⟨n, e, h⟩ ⟨n, e, hput (YJ h) 2 (.row false 6 [[.lst false (C.funcs.map CFn.cells), .int .i64 C.words, .bool w, .int .i64 b.regs, LC b.blocks, .int .i64 (b.now : Int)]])⟩ := by
  obtain ⟨h', g1, g2, g3⟩ := LL (n0 := n) (e := e) (l := b.blocks) b.blocks.length h (Nat.le_refl _) h3 hF
  rw [Tv] at g2
  have h2' : h' 2 = some (.row false 6 [DJ C w b]) := by rw [g3 2 (by decide) (fun b hb => by omega)]; exact h2
  have p1 : ∀ cs ∈ b.blocks.map Block.cells, cs.all AV.isPure1 = true := fun cs hc => by
    obtain ⟨x, _, rfl⟩ := List.mem_map.1 hc; rfl
  have g4 := Ghost.plain (n := n) (e := e) 3 g2 p1
  have g5 := Ghost.freezeCell (n := n) (e := e) (h := hput h' 3 (.row true 5 (b.blocks.map Block.cells))) 2 0 4 3 (m := b.blocks.length) (off := 0) (len := b.blocks.length) ((Aj _ _ (by decide)).trans h2') rfl rfl (AA _ _ _) (List.length_map _).symm (by decide)
  have e1 : ((b.blocks.map Block.cells).drop 0).take b.blocks.length = b.blocks.map Block.cells := by rw [List.drop_zero, List.take_of_length_le (by rw [List.length_map]; exact Nat.le_refl _)]
  rw [e1] at g5
  refine ((g1.trans g4).trans g5).trans (.of_sub ⟨rfl, fun _ _ h => h, fun c x hx => ?_⟩)
  have hx : hput (YJ h) 2 _ c = some x := hx
  show hput _ 2 _ c = some x
  by_cases hc : c = 2
  . subst hc; rw [AA] at hx |-; exact hx
  . rw [Aj _ _ hc] at hx |-
    unfold YJ at hx
    by_cases h16 : c < 16
    . rw [if_pos h16] at hx
      by_cases hc3 : c = 3
      . rw [if_pos hc3] at hx; cases hx
      . rw [if_neg hc3] at hx
        rw [Fv _ hc3, Aj _ _ hc3, g3 c hc3 (fun b hb => by omega)]
        exact hx
    . rw [if_neg h16] at hx; cases hx
def mW (C : Core) (k : Nat) : Int := if (C.funcs.take k).any CFn.word then C.words + 1 else C.words
theorem WP (C : Core) : mW C 0 = C.words := rfl
theorem YF {C : Core} {k : Nat} {g : CFn} (h : C.funcs[k]? = some g) (hw : g.word = true) : mW C (k + 1) = C.words + 1 := by
  unfold mW; rw [Bw h, List.any_append]; simp [hw]
theorem bK {C : Core} {k : Nat} {g : CFn} (h : C.funcs[k]? = some g) (hw : g.word = false) : mW C (k + 1) = mW C k := by
  unfold mW; rw [Bw h, List.any_append]; simp [hw]
theorem YG {C : Core} {k : Nat} (h : C.funcs.length <= k) : mW C k = C.m := by unfold mW Core.m; rw [List.take_of_length_le h]
theorem Jm (C : Core) : C.build.funcs.length = C.funcs.length := by simp [Core.build]
abbrev bT (C : Core) (k : Nat) : List (List AV) := (C.build.funcs.take k).map BFunc.cells
theorem VN (C : Core) (k : Nat) : (bT C k).length <= C.funcs.length := by unfold bT; rw [List.length_map, List.length_take, Jm]; omega
theorem Xo (C : Core) (k : Nat) : ∀ cs ∈ bT C k, cs.length = 2 := fun cs h => by
  obtain ⟨x, _, rfl⟩ := List.mem_map.1 h; rfl
theorem Xm (C : Core) (k : Nat) : ∀ cs ∈ bT C k, cs.all AV.isPure1 = true := fun cs h => by
  obtain ⟨x, _, rfl⟩ := List.mem_map.1 h; rfl
theorem Xn {C : Core} {k : Nat} {g : CFn} (h : C.funcs[k]? = some g) : bT C k ++ [(Cv C g (k + 1 == C.funcs.length)).cells] = bT C (k + 1) := by
  unfold bT; rw [Bw (Jn h), List.map_append]; rfl
theorem Y8 {C : Core} {k : Nat} (h : C.funcs.length <= k) : bT C k = C.build.funcs.map BFunc.cells := by unfold bT; rw [List.take_of_length_le (by rw [Jm]; exact h)]
def Gd (C : Core) (g : CFn) (last : Bool) : Bd := bif last then bd0 else bd0.nought (g.first + g.params) (g.slots - g.params).toNat
theorem fnStart_pl (C : Core) (g : CFn) (last : Bool) : Pl (Gd C g last) := by
  unfold Gd; cases last
  . exact (Gf pl0 _ _).pl
  . exact pl0
theorem OT (C : Core) (g : CFn) (last : Bool) : (Gd C g last).cnt <= 2 + (g.slots - g.params).toNat := by
  unfold Gd; cases last
  . have := (Lu Y7 (a := g.first + g.params) (g.slots - g.params).toNat).1
    rw [Vy] at this
    show (bd0.nought _ _).cnt <= _
    omega
  . show bd0.cnt <= _; rw [Vy]; omega
theorem F1 {k : Nat -> Bool} {m : Int} {b : Nat} {es : List (List AV)} (h : k b = true) : (AObj.row false 2 [[.int .i64 m, HF b es]]).avoid k = true := by
  show (List.all [_, _] (AV.avoid k) && true) = true
  simp only [List.all_cons, List.all_nil, Bool.and_true, Bool.and_eq_true]
  exact ⟨rfl, FC _ h⟩
theorem Wm (m : Int) (b : Nat) : ∀ (i : Nat) (ds ds' : List AV), [[AV.int .i64 m, .nil]][i]? = some ds -> [[AV.int .i64 m, HF b []]][i]? = some ds' -> ds'.length = ds.length /\ ∀ (j : Nat) (a c : AV), ds[j]? = some a -> ds'[j]? = some c -> (a.cell1 = true -> c.cell1 = true) /\ ∀ H ι v, Rel H ι a v -> Rel H ι c v := fun i ds ds' h1 h2 => by
  cases i with
  | succ i => simp at h1
  | zero =>
    cases h1; cases h2
    refine ⟨rfl, fun j a c g1 g2 => ?_⟩
    match j, g1, g2 with
    | 0, g1, g2 => cases g1; cases g2; exact Wkb.refl _
    | 1, g1, g2 => cases g1; cases g2; exact Wkb.nil b
    | j + 2, g1, g2 => simp at g1
section
variable {P : Program} {T : Nat -> Option AC} {o : Oper} {e : Az} {h : Ab}
theorem LJ {R : List Nat} {x y : AV} (h0 : QLoc P o e h R x) (hxy : ∀ H ι v, Rel H ι x v -> Rel H ι y v) : QLoc P o e h R y := fun H ι a w s hs g1 g2 => by
  obtain ⟨v, h1, h2⟩ := h0 H ι a w s hs g1 g2
  exact ⟨v, hxy _ _ _ h1, h2⟩
end
def bP : AV -> AV
  | .nil => .lst false []
  | x => x
theorem WY {H : AB} {ι : A2} {x : AV} {v : Value} (h : Rel H ι x v) : Rel H ι (bP x) v := by
  cases x with
  | nil => exact SH h
  | _ => exact h
theorem RR {H : AB} {ι : A2} {cs ds : List AV} {v : Value} (h : Rel H ι (.agg cs) v) (e : cs.map bP = ds) : Rel H ι (.agg ds) v := by
  subst e
  obtain ⟨us, rfl, hl, hr⟩ := h.agg_inv
  refine .agg _ _ _ (by rw [List.length_map]; exact hl) fun j x u h1 h2 => ?_
  rw [List.getElem?_map] at h1
  cases hc : cs[j]? with
  | none => rw [hc] at h1; cases h1
  | some y => rw [hc] at h1; cases h1; exact WY (hr j y u hc h2)
structure Bld (C : Core) : Prop where
  ok : C.Ok
  fit : Fq C
  r : JX C
  parts : C.parts <= 100000
theorem Lit.bld {C : Core} (h : Lit C) : Bld C := ⟨h.ok, h.fit, (D3 h.r).b, by have := h.parts; omega⟩
theorem Bld.okL {C : Core} (h : Bld C) (i : Nat) (g : CFn) (hg : C.funcs[i]? = some g) : CS.okL C i g.word g.body := (h.fit.ok.fn i g hg).body
theorem Bld.partsL {C : Core} (h : Bld C) (g : CFn) (hg : g ∈ C.funcs) : CS.partsL g.body <= 1000000 := by have := E1 hg; have := h.parts; omega
theorem Bld.fn {C : Core} (h : Bld C) (g : CFn) (hg : g ∈ C.funcs) : 11 * CS.partsL g.body + (g.slots - g.params).toNat + 4 <= 2000000 := by
  have h1 := E1 hg
  have h2 := h.parts
  obtain ⟨f1, f2, f3, f4, f5⟩ := h.r.fn g hg
  have h3 := h.r.w1
  omega
theorem Bld.ins {C : Core} (h : Bld C) : ∀ f ∈ C.build.funcs, ∀ x ∈ f.blocks, x.ins.length <= 2000000 := MO h.fn
theorem Bld.ins2 {C : Core} (h : Bld C) : ∀ f ∈ C.build.funcs, ∀ x ∈ f.blocks, x.ins.length <= maxLen := fun f hf x hx => by
  have := h.ins f hf x hx
  simp only [maxLen]; omega
theorem Bld.blocks {C : Core} (h : Bld C) : ∀ f ∈ C.build.funcs, f.blocks.length <= 2000000 := fun f hf => by
  obtain ⟨i, hi⟩ := List.mem_iff_getElem?.1 hf
  obtain ⟨fn, h1, rfl⟩ := II hi
  have h2 := Gh (GN C fn (i + 1 == C.funcs.length))
  have h3 := Vx C fn (i + 1 == C.funcs.length) (Nat.le_refl (fn.slots - fn.params).toNat)
  have h4 := h.fn fn (List.mem_of_getElem? h1)
  show (GN C fn (i + 1 == C.funcs.length)).blocks.length <= _
  omega
theorem Bld.right {C : Core} (h : Bld C) : C.build.right = true := Pa h.fit
theorem Bld.w {C : Core} (h : Bld C) : C.build.insW := QO h.ok
theorem Bld.funcs {C : Core} (h : Bld C) : C.build.funcs.length <= 64 := by rw [Jm]; exact h.r.n1
theorem Bld.kle {C : Core} (h : Bld C) : C.k <= 10000000 := by
  have h1 := h.parts
  have h2 := h.r.w0
  have h3 := h.r.w1
  unfold Core.k
  omega
theorem Lc (n k : Nat) : ((n : Int) + 1) * (k : Int) = (((n + 1) * k : Nat) : Int) := by
  rw [Int.natCast_mul]; rfl
theorem WW {n k : Nat} (hn : n <= 100000) (hk : k <= 10000000) : ((n : Int) + 1) * (k : Int) <= 9223372036854775807 := by
  rw [Lc]
  have : (n + 1) * k <= 100001 * 10000000 := Nat.mul_le_mul (by omega) hk
  omega
theorem Bld.ends {C : Core} (h : Bld C) {s : ByteArray} {fuel : Int} (h5 : (Fy C s fuel).fin ≠ 5) {n : Nat} (hn : (Fy C s fuel).steps <= n) : (Fu C.build s ((((n : Nat) : Int) + 1) * (C.k : Int))).fin = (Fy C s fuel).fin /\ (Fu C.build s ((((n : Nat) : Int) + 1) * (C.k : Int))).out = (Fy C s fuel).out := by
  have := Tk h.fit (s := s) (fuel := fuel) rfl h5 ((n + 1) * C.k) (Nat.mul_le_mul_right _ (by omega))
  rw [<- Lc] at this
  exact this
theorem ends_true {x y : Mach} (h1 : x.fin = y.fin) (h2 : x.out = y.out) : (x.fin == y.fin && (x.out == y.out)) = true := by rw [h1, h2]; simp
def aliveC : Core := ⟨0, [⟨0, 0, 0, false, [Un (Tc 65)]⟩]⟩
theorem W6 {n : Int} (h : CD n) : (Tc n).Ok := .mk ⟨by decide, by decide⟩ ⟨by decide, by decide⟩ h ⟨by decide, by decide⟩ ⟨by decide, by decide⟩ (by decide) (fun e he => by cases he)
theorem isI_zero : IR 0 := ⟨by decide, by decide⟩
theorem rb : 100000000 <= reachBytes := by decide
theorem U5 {n : Int} (h0 : -1000000 <= n) (h1 : n <= 1000000) : IR n := ⟨by omega, by omega⟩
theorem WG {e : CE} (h : e.Ok) : ∀ x ∈ [e], x.Ok := fun x hx => by rw [List.mem_singleton] at hx; subst hx; exact h
theorem Wu {e : CE} (h : e.Ok) : (Un e).Ok := .mk (U5 (by decide) (by decide)) isI_zero isI_zero (Nat.le_trans (by show 1 * 64 <= 100000000; decide) rb) (WG h) (by decide) (fun e he => by cases he) (by decide) (fun e he => by cases he)
theorem WH {w : Int} (h0 : 0 <= w) (h1 : w <= 1000000) {body : List CS} (hl : body.length <= 1000000) (hb : ∀ s ∈ body, s.Ok) : (Qb w body).Ok where
  words := U5 (by show -1000000 <= w; omega) h1
  len := by show 1 * 56 <= _; decide
  funcs := fun f hf => by
    have hf : f ∈ [(⟨0, 0, 0, false, body⟩ : CFn)] := hf
    rw [List.mem_singleton] at hf; subst hf
    have := rb
    exact ⟨isI_zero, isI_zero, isI_zero, by show body.length * 96 <= _; omega, hb⟩
theorem Yy {w : Int} (h0 : 0 <= w) (h1 : w <= 32768) (body : List CS) : JX (Qb w body) where
  w0 := h0
  w1 := h1
  n0 := Nat.le_refl _
  n1 := by show 1 <= 64; decide
  fn := fun g hg => by
    have hg : g ∈ [(⟨0, 0, 0, false, body⟩ : CFn)] := hg
    rw [List.mem_singleton] at hg; subst hg
    exact ⟨Int.le_refl 0, (by decide : (0 : Int) <= 6), Int.le_refl 0, Int.le_refl 0, (by omega : (0 : Int) + 0 <= w)⟩
theorem alive_bld : Bld aliveC where
  ok := WH (by decide) (by decide) (by decide) (fun s hs => by rw [List.mem_singleton] at hs; subst hs; exact Wu (W6 ⟨by decide, by decide⟩))
  fit := WE (by decide) (by decide) (fun st hs => by rw [List.mem_singleton] at hs; subst hs; exact Wt (W5 ⟨by decide, by decide⟩)) (fun st hs => by rw [List.mem_singleton] at hs; subst hs; decide)
  r := Yy (by decide) (by decide) _
  parts := by decide
theorem TG (s : ByteArray) : (Fy aliveC s 0).fin = 1 /\ (Fy aliveC s 0).out = [65] /\ (Fy aliveC s 0).steps = 0 := ⟨rfl, rfl, rfl⟩
theorem LH (s : ByteArray) : (Fu aliveC.build s ((0 + 1) * (aliveC.k : Int))).fin = 1 /\ (Fu aliveC.build s ((0 + 1) * (aliveC.k : Int))).out = [65] := by
  have h1 := TG s
  have h2 := alive_bld.ends (s := s) (fuel := 0) (n := 0) (by rw [h1.1]; decide) (by rw [h1.2.2]; decide)
  rw [h1.1, h1.2.1] at h2
  exact h2
theorem Lit.kle {C : Core} (h : Lit C) : C.k <= 5608 := by
  have h1 := h.parts
  have h2 := h.w0
  have h3 := h.w1
  unfold Core.k
  omega
theorem CN (C : Core) (w : Bool) (b : Bd) (hl : b.blocks.length <= 1000000000) : ACall Try.prog 28 [.ptr 2 1 0 0] (RH (bL C w b) (Ak (b).blocks)) (fun r h' => r = .int .i64 (b.blocks.length : Int) /\ HSub (AE 2 hNone (RH (bL C w b.opened) (Ak (b.opened).blocks))) h') := by
 refine ACall.of_body (n := 19) Am Try.func28 rfl rfl ?_;refine wk 12 ?_;refine ax 9 (D4 Am rfl rfl rfl rfl rfl rfl (by decide) rfl rfl rfl rfl rfl rfl) ?_;refine ax 10 (E2 Am (n := b.blocks.length) (m := 1) rfl rfl rfl rfl rfl rfl rfl rfl rfl (by rw [A1]) rfl rfl (Nat.zero_lt_succ _) (.lst _ _) (by intro cs h; simp [partVals] at h; subst h; rfl) (by intro h; cases h) rfl (by rw [A1]; show (_ + 1) * 56 <= _; omega) (by rw [A1]; show _ + 1 <= _; simp only [maxLen]; omega)) ?_;refine wk 5 ?_;refine AGo.ghost (DW 3 (es' := Br b.blocks ++ [Fd b.blocks.length blk0]) rfl (by simp [partVals]) (T8 (x := .nil) (b.blocks.length + 16))) ?_;refine wk 6 ?_;refine aq 18 (AI (r := .int .i64 (b.blocks.length : Int)) rfl rfl rfl Wj) ?_;refine wk 3 ?_;exact ⟨[_], ⟨rfl, trivial⟩, rfl, (BT rfl (by decide) ⟨(by (try simp only [hputs]); exact congrArg (fun c => some (AObj.row false 6 [c])) (QW C w b).symm), (by (try simp only [hputs]); exact congrArg (fun c => some (AObj.row false 5 c)) (Tp b)), trivial⟩ (fun x_ => by (try simp only [hputs]); (try dsimp only); (repeat (first | refine Aw (by exact Af (by omega)) ?_ | refine AP (by omega) ?_)); exact (AJ _ _ _).trans (Np (Tx b).symm x_)))⟩
theorem Pg (C : Core) (w : Bool) (b : Bd) (x : Block) (hx : b.blocks[b.now]? = some x) (to : Nat) : ACall Try.prog 45 [.ptr 2 1 0 0, .int .i64 (to : Int)] (RH (bL C w b) (Ak (b).blocks)) (fun r h' => r = .tup [] /\ HSub (AE 2 hNone (RH (bL C w (b.jump to)) (Ak ((b.jump to)).blocks))) h') := by
 have hnow := (List.getElem?_eq_some_iff.1 hx).1
 refine ACall.of_body (n := 21) Am Try.func45 rfl rfl ?_;refine wk 10 ?_;refine dq 13 (Ah Am rfl rfl rfl rfl rfl rfl rfl (by rw [A1]) rfl (Int.natCast_nonneg _) (by omega)) ?_;refine wk 8 ?_;refine AOps.w rfl rfl (o_store Am rfl rfl rfl rfl rfl rfl (by rw [A1]) MX rfl (by decide) rfl Eu) ?_;refine wk 2 ?_;refine AOps.w rfl rfl (o_store Am rfl rfl rfl rfl rfl rfl (by rw [List.length_set, A1]) (B6 MX) rfl (by decide) rfl Eu) ?_;refine an ?_;exact ⟨[], trivial, rfl, (BT rfl (by decide) ⟨(by (try simp only [hputs]); exact congrArg (fun c => some (AObj.row false 6 [c])) (bCell_upd C w b _).symm), (by (try simp only [hputs]); refine Eq.trans ?_ (congrArg (fun c => some (AObj.row false 5 c)) (Tq hx to)); first | rfl | (rw [(show 0 + ((b.now : Nat) : Int).toNat = b.now by omega)]; rfl)), trivial⟩ (fun x_ => by (try simp only [hputs]); (try dsimp only); (repeat (first | refine Aw (by exact Af (by omega)) ?_ | refine AP (by omega) ?_)); exact (AJ _ _ _).trans (Np (Ty b to).symm x_)))⟩
theorem GV (C : Core) (w : Bool) (b : Bd) (x : Block) (hx : b.blocks[b.now]? = some x) (v to els : Nat) : ACall Try.prog 48 [.ptr 2 1 0 0, .int .i64 (v : Int), .int .i64 (to : Int), .int .i64 (els : Int)] (RH (bL C w b) (Ak (b).blocks)) (fun r h' => r = .tup [] /\ HSub (AE 2 hNone (RH (bL C w (b.fork v to els)) (Ak ((b.fork v to els)).blocks))) h') := by
 have hnow := (List.getElem?_eq_some_iff.1 hx).1
 refine ACall.of_body (n := 33) Am Try.func48 rfl rfl ?_;refine wk 10 ?_;refine dq 17 (Ah Am rfl rfl rfl rfl rfl rfl rfl (by rw [A1]) rfl (Int.natCast_nonneg _) (by omega)) ?_;refine wk 12 ?_;refine AOps.w rfl rfl (o_store Am rfl rfl rfl rfl rfl rfl (by rw [A1]) MX rfl (by decide) rfl Eu) ?_;refine wk 2 ?_;refine AOps.w rfl rfl (o_store Am rfl rfl rfl rfl rfl rfl (by rw [List.length_set, A1]) (B6 MX) rfl (by decide) rfl Eu) ?_;refine wk 2 ?_;refine AOps.w rfl rfl (o_store Am rfl rfl rfl rfl rfl rfl (by rw [List.length_set, List.length_set, A1]) (B6 (B6 MX)) rfl (by decide) rfl Eu) ?_;refine wk 2 ?_;refine AOps.w rfl rfl (o_store Am rfl rfl rfl rfl rfl rfl (by rw [List.length_set, List.length_set, List.length_set, A1]) (B6 (B6 (B6 MX))) rfl (by decide) rfl Eu) ?_;refine an ?_
 exact ⟨[], trivial, rfl, (BT rfl (by decide) ⟨(by (try simp only [hputs]); exact congrArg (fun c => some (AObj.row false 6 [c])) (bCell_upd C w b _).symm), (by (try simp only [hputs]); refine Eq.trans ?_ (congrArg (fun c => some (AObj.row false 5 c)) (Tr hx v to els)); first | rfl | (rw [(show 0 + ((b.now : Nat) : Int).toNat = b.now by omega)]; rfl)), trivial⟩ (fun x_ => by (try simp only [hputs]); (try dsimp only); (repeat (first | refine Aw (by exact Af (by omega)) ?_ | refine AP (by omega) ?_)); exact (AJ _ _ _).trans (Np (Tz b v to els).symm x_)))⟩
theorem DT (C : Core) (w : Bool) (b : Bd) (x : Block) (hx : b.blocks[b.now]? = some x) (t : Tac) (ht : 0 <= t.d) (ht2 : t.d <= 1000000000) (hl : x.ins.length <= 1000000000) : ACall Try.prog 46 [.ptr 2 1 0 0, .agg t.cells] (RH (bL C w b) (Ak (b).blocks)) (fun r h' => r = .tup [] /\ HSub (AE 2 hNone (RH (bL C w (b.put t)) (Ak ((b.put t)).blocks))) h') := by
 have hnow := (List.getElem?_eq_some_iff.1 hx).1
 refine ACall.of_body (n := 35) Am Try.func46 rfl rfl ?_;refine HV ?_;refine ax 3 (F9 8 0) ?_;refine wk 10 ?_;refine dq 12 (AI (r := .int .i64 (t.d + 1)) rfl rfl rfl Dz) ?_;refine dq 13 (XL rfl rfl rfl) ?_;refine wk 14 ?_;refine dq 24 (Ah Am rfl rfl rfl rfl rfl rfl rfl (by rw [A1]) rfl (Int.natCast_nonneg _) (by omega)) ?_;refine wk 7 ?_;refine dq 29 (Ar Am rfl rfl rfl (.ptr _ _ _ _ _ _ _ _ rfl (by rw [A1]) MX) rfl) ?_;refine wk 1 ?_;refine dx 31 (D4 Am rfl rfl rfl rfl rfl rfl (by decide) rfl rfl rfl rfl rfl rfl) ?_;refine dx 32 (Qe Am (b := b.now + 16) (es := x.ins.map Tac.cells) (x0 := t.cells) rfl rfl rfl rfl rfl rfl rfl rfl (by (try simp only [hputs]); (repeat (first | refine Aw (by exact Af (by omega)) ?_ | refine AP (by omega) ?_)); exact (AJ _ _ _).trans (congrArg some (RO hx))) rfl rfl (Nat.zero_lt_succ _) (Sf _) (PN _) rfl rfl (by rw [List.length_map]; show _ * 64 <= _; omega) (by rw [List.length_map]; simp only [maxLen]; omega)) ?_
 refine wk 2 ?_;refine DOps.w rfl rfl (o_store Am (es := Br b.blocks) (cs := Fd b.now x) rfl rfl rfl rfl rfl Yg (by rw [A1]) MX rfl (by decide) rfl (by intro h; cases h)) ?_;refine wk 1 ?_;exact ⟨[], trivial, rfl, (BT rfl (by decide) ⟨(by (try simp only [hputs]); first | exact congrArg (fun c => some (AObj.row false 6 [c])) (MT C w b t).symm | ((try simp only [hputs]); (try dsimp only); repeat (first | refine Aw (by exact Af (by omega)) ?_ | refine AP (by omega) ?_); exact congrArg (fun c => some (AObj.row false 6 [c])) (MT C w b t).symm)), (by (try simp only [hputs]); first | exact congrArg (fun c => some (AObj.row false 5 c)) (MR t hx) | (refine Eq.trans ?_ (congrArg (fun c => some (AObj.row false 5 c)) (MR t hx)); rw [show 0 + ((b.now : Nat) : Int).toNat = b.now by omega]; rfl)), trivial⟩ (fun x_ => by (try simp only [hputs]); (repeat (first | refine Aw (by exact Af (by omega)) ?_ | refine AP (by omega) ?_)); exact (WS (fun y_ => by (try simp only [hputs]); repeat (first | exact AJ _ _ _ | refine Aw (by exact Af (by omega)) ?_ | refine AP (by omega) ?_)) _ _ x_).trans (congrArg some (Tw hx x_).symm)))⟩
theorem Fo (C : Core) (w : Bool) (b : Bd) (x : Block) (hx : b.blocks[b.now]? = some x) (hc : b.cnt <= 1000000000) (d : Nat) (n : Int) (hd : d <= 1000000000) : ACall Try.prog 44 [.ptr 2 1 0 0, .int .i64 (d : Int), .int .u32 n] (RH (bL C w b) (Ak (b).blocks)) (fun r h' => r = .tup [] /\ HSub (AE 2 hNone (RH (bL C w (b.put (AT d n))) (Ak ((b.put (AT d n))).blocks))) h') := by
 refine ACall.of_body (n := 11) Am Try.func44 rfl rfl ?_;refine wk 5 ?_;refine AOps.call 10 (hn := AE 2 _ (RH (bL C w (b.put (AT d n))) (Ak ((b.put (AT d n))).blocks))) (r := .tup []) rfl rfl rfl (Av 2 (bL C w b) (bL C w (b.put (AT d n))) (Ak ((b.put (AT d n))).blocks) rfl Try.func46 (by kernel_rfl) rfl rfl rfl rfl rfl (by decide) (Ag C w _) (Ag C w _) Bs C8 (fun x => Aa _ x) (fun x => Aa _ x) rfl (DT C w b x hx (AT d n) (Int.natCast_nonneg d) (by show (d : Int) <= 1000000000; omega) (by have := Dx hx; omega))) ?_;refine an ?_;exact J0
theorem Hi (C : Core) (w : Bool) (b : Bd) (x : Block) (hx : b.blocks[b.now]? = some x) (hc : b.cnt <= 1000000000) (op : Int) (d x1 y1 : Nat) (hd : d <= 1000000000) : ACall Try.prog 47 [.ptr 2 1 0 0, .int .i64 op, .int .i64 (d : Int), .int .i64 (x1 : Int), .int .i64 (y1 : Int)] (RH (bL C w b) (Ak (b).blocks)) (fun r h' => r = .tup [] /\ HSub (AE 2 hNone (RH (bL C w (b.put (AS op d x1 y1))) (Ak ((b.put (AS op d x1 y1))).blocks))) h') := by
 refine ACall.of_body (n := 17) Am Try.func47 rfl rfl ?_;refine wk 7 ?_;refine AOps.call 16 (hn := AE 2 _ (RH (bL C w (b.put (AS op d x1 y1))) (Ak ((b.put (AS op d x1 y1))).blocks))) (r := .tup []) rfl rfl rfl (Av 2 (bL C w b) (bL C w (b.put (AS op d x1 y1))) (Ak ((b.put (AS op d x1 y1))).blocks) rfl Try.func46 (by kernel_rfl) rfl rfl rfl rfl rfl (by decide) (Ag C w _) (Ag C w _) Bs C8 (fun x => Aa _ x) (fun x => Aa _ x) rfl (DT C w b x hx (AS op d x1 y1) (Int.natCast_nonneg d) (by show (d : Int) <= 1000000000; omega) (by have := Dx hx; omega))) ?_;refine an ?_;exact J0
theorem FR (C : Core) (w : Bool) (b : Bd) (x : Block) (hx : b.blocks[b.now]? = some x) (hc : b.cnt <= 1000000000) (wd : Int) (a : Nat) : ACall Try.prog 49 [.ptr 2 1 0 0, .int .i64 wd, .int .i64 (a : Int)] (RH (bL C w b) (Ak (b).blocks)) (fun r h' => r = .tup [] /\ HSub (AE 2 hNone (RH (bL C w (b.put (AM wd a))) (Ak ((b.put (AM wd a))).blocks))) h') := by
 refine ACall.of_body (n := 11) Am Try.func49 rfl rfl ?_;refine wk 5 ?_;refine AOps.call 10 (hn := AE 2 _ (RH (bL C w (b.put (AM wd a))) (Ak ((b.put (AM wd a))).blocks))) (r := .tup []) rfl rfl rfl (Av 2 (bL C w b) (bL C w (b.put (AM wd a))) (Ak ((b.put (AM wd a))).blocks) rfl Try.func46 (by kernel_rfl) rfl rfl rfl rfl rfl (by decide) (Ag C w _) (Ag C w _) Bs C8 (fun x => Aa _ x) (fun x => Aa _ x) rfl (DT C w b x hx (AM wd a) (Int.le_refl 0) (show (0 : Int) <= 1000000000 by decide) (by have := Dx hx; omega))) ?_
 refine an ?_;exact J0
theorem MQ (C : Core) (w : Bool) (b : Bd) (x : Block) (hx : b.blocks[b.now]? = some x) (hc : b.cnt <= 100000000) : ACall Try.prog 31 [.ptr 2 1 0 0] (RH (bL C w b) (Ak (b).blocks)) (fun r h' => r = .tup [] /\ HSub (AE 2 hNone (RH (bL C w (b.leave C w)) (Ak ((b.leave C w)).blocks))) h') := by
 refine ACall.of_body (n := 24) Am Try.func31 rfl rfl ?_;refine wk 8 ?_;refine AGo.join (γ := Bd × Block) (fun q => ⟨24, (Ad Bt 0 (.ptr 2 1 0 0)), (AE 2 hNone (RH (bL C w q.1) (Ak q.1.blocks)))⟩) (fun q => q.1.blocks[q.1.now]? = some q.2 /\ q.1.ret = b.leave C w) ?_ ?_
 .
  refine asp 5 (fun hb1 => ?_) fun hb1 => ?_
  .
   refine act ?_
   have hww : w = true := hb1
   refine wk 3 ?_;refine AOps.call 7 (hn := AE 2 _ (RH (bL C w (b.put (AT 0 0))) (Ak ((b.put (AT 0 0))).blocks))) (r := .tup []) rfl rfl rfl (Av 2 (bL C w b) (bL C w (b.put (AT 0 0))) (Ak ((b.put (AT 0 0))).blocks) rfl Try.func44 (by kernel_rfl) rfl rfl rfl rfl rfl (by decide) (Ag C w _) (Ag C w _) Bs C8 (fun x => Aa _ x) (fun x => Aa _ x) rfl (Fo C w b x hx (by omega) 0 0 (by omega))) ?_;refine wk 7 ?_;refine AOps.call 13 (hn := AE 2 _ (RH (bL C w ((b.put (AT 0 0)).put (AM C.words 0))) (Ak (((b.put (AT 0 0)).put (AM C.words 0))).blocks))) (r := .tup []) rfl rfl rfl (Av 2 (bL C w (b.put (AT 0 0))) (bL C w ((b.put (AT 0 0)).put (AM C.words 0))) (Ak (((b.put (AT 0 0)).put (AM C.words 0))).blocks) rfl Try.func49 (by kernel_rfl) rfl rfl rfl rfl rfl (by decide) (Ag C w _) (Ag C w _) Bs C8 (fun x => Aa _ x) (fun x => Aa _ x) rfl (FR C w (b.put (AT 0 0)) _ (Ey hx) (by rw [ID _ hx]; omega) C.words 0)) ?_
   refine an ?_;exact ⟨(((b.put (AT 0 0)).put (AM C.words 0)), _), Sub.mk' BH (BT rfl (by decide) Bs C8), ⟨Ey (Ey hx), by unfold Bd.leave; rw [hww]; rfl⟩⟩
  refine BM ?_
  have hww : w = false := hb1
  refine V4 ?_;exact ⟨(b, x), Sub.mk' BH (BT rfl (by decide) Bs C8), ⟨hx, by unfold Bd.leave; rw [hww]; rfl⟩⟩
 intro q hQ
 have hx := hQ.1
 have hnow := (List.getElem?_eq_some_iff.1 hx).1
 rw [<- hQ.2]
 refine wk 9 ?_;refine dq 22 (Ah Am rfl rfl rfl rfl rfl rfl rfl (by rw [A1]) rfl (Int.natCast_nonneg _) (by omega)) ?_;refine wk 1 ?_;refine DOps.w rfl rfl (o_store Am rfl rfl rfl rfl rfl rfl (by rw [A1]) MX rfl (by decide) rfl Eu) ?_;refine wk 1 ?_;exact ⟨[], trivial, rfl, (BT rfl (by decide) ⟨(by (try simp only [hputs]); exact congrArg (fun c => some (AObj.row false 6 [c])) (bCell_upd C w q.1 _).symm), (by (try simp only [hputs]); refine Eq.trans ?_ (congrArg (fun c => some (AObj.row false 5 c)) (VO hx)); first | rfl | (rw [(show 0 + ((q.1.now : Nat) : Int).toNat = q.1.now by omega)]; rfl)), trivial⟩ (fun x_ => by (try simp only [hputs]); (try dsimp only); (repeat (first | refine Aw (by exact Af (by omega)) ?_ | refine AP (by omega) ?_)); exact (BE _ _ _ x_).trans ((AJ _ _ _).trans (Np (VR q.1).symm x_))))⟩
theorem Xl (C : Core) (w : Bool) (b : Bd) (x : Block) (hx : b.blocks[b.now]? = some x) (hc : b.cnt <= 100000000) (d : Nat) (hd : d <= 100000000) : ACall Try.prog 87 [.ptr 2 1 0 0, .int .i64 (d : Int)] (RH (bL C w b) (Ak (b).blocks)) (fun r h' => r = .tup [] /\ HSub (AE 2 hNone (RH (bL C w (b.not d)) (Ak ((b.not d)).blocks))) h') := by
 refine ACall.of_body (n := 14) Am Try.func87 rfl rfl ?_;refine wk 4 ?_;refine aq 6 (AI (r := .int .i64 (((d + 1 : Nat) : Int))) rfl rfl rfl MY) ?_;refine AOps.call 7 (hn := AE 2 _ (RH (bL C w (b.put (AT (d + 1) 0))) (Ak ((b.put (AT (d + 1) 0))).blocks))) (r := .tup []) rfl rfl rfl (Av 2 (bL C w b) (bL C w (b.put (AT (d + 1) 0))) (Ak ((b.put (AT (d + 1) 0))).blocks) rfl Try.func44 (by kernel_rfl) rfl rfl rfl rfl rfl (by decide) (Ag C w _) (Ag C w _) Bs C8 (fun x => Aa _ x) (fun x => Aa _ x) rfl (Fo C w b x hx (by omega) (d + 1) 0 (by omega))) ?_;refine wk 6 ?_;refine aq 12 (AI (r := .int .i64 (((d + 1 : Nat) : Int))) rfl rfl rfl MY) ?_;refine AOps.call 13 (hn := AE 2 _ (RH (bL C w (b.not d)) (Ak ((b.not d)).blocks))) (r := .tup []) rfl rfl rfl (Av 2 (bL C w (b.put (AT (d + 1) 0))) (bL C w (b.not d)) (Ak ((b.not d)).blocks) rfl Try.func47 (by kernel_rfl) rfl rfl rfl rfl rfl (by decide) (Ag C w _) (Ag C w _) Bs C8 (fun x => Aa _ x) (fun x => Aa _ x) rfl (Hi C w (b.put (AT (d + 1) 0)) _ (Ey hx) (by rw [ID _ hx]; omega) 15 d d (d + 1) (by omega))) ?_
 refine an ?_;exact J0
theorem Qp (C : Core) (w : Bool) (b : Bd) (o4 o5 o6 : AObj) (hO : XU o4 o5 o6) (n : Int) : ACall Try.prog 103 ([] ++ [.int .i64 n] ++ [.ptr 8 1 0 0]) (RH (TS C w b o4 o5 o6 .free) (Ak (b).blocks)) (fun r h' => r = .fn (.func 104) [] [.ptr 9 1 0 0, .ptr 8 1 0 0] /\ HSub (AE 8 hNone (RH (TS C w b o4 o5 o6 (.row false 1 [[.int .i64 n]])) (Ak (b).blocks))) h') := by
 refine ACall.of_body (n := 5) Am Try.func103 rfl rfl ?_;refine HV ?_;refine ax 2 (F9 1 9) ?_;refine Q6 3 rfl rfl rfl rfl ?_;refine wk 3 ?_;refine aq 4 (DB rfl rfl rfl) ?_;refine wk 3 ?_;exact ⟨[_], ⟨rfl, trivial⟩, rfl, (BT rfl (by decide) Bs C8)⟩
theorem Qo (C : Core) (w : Bool) (b : Bd) (o4 o5 o6 : AObj) (hO : XU o4 o5 o6) (n : Nat) : ACall Try.prog 104 ([] ++ [] ++ [.ptr 9 1 0 0, .ptr 8 1 0 0]) (RH (TS C w b o4 o5 o6 (.row false 1 [[.int .i64 (n : Int)]])) (Ak (b).blocks)) (fun r h' => r = .tup [] /\ HSub (AE 8 hNone (RH (TS C w (b.go n) o4 o5 o6 (.row false 1 [[.int .i64 (n : Int)]])) (Ak (b).blocks))) h') := by
 refine ACall.of_body (n := 6) Am Try.func104 rfl rfl ?_;refine wk 7 ?_;exact J0
theorem Fc (C : Core) (w : Bool) (b : Bd) (o4 o5 o6 : AObj) (hO : XU o4 o5 o6) (blk to : Nat) (g : FuncId) (fn : Func) (hg : Try.prog.funcs[g]? = some fn) (hgn : (fn.name == "runtime.NumGoroutine") = false) (hgb : fn.body.isSome = true) (cs : List AV) (hcs : cs.all (AV.avoid (kR 5)) = true) (b1 : Bd) (x1 : Block) (hx1 : b1.blocks[b1.now]? = some x1)
    (hdo : ACall Try.prog g ([] ++ [] ++ cs) (RH (FA C w (b.go blk) o4 o5 o6) (Ak (b).blocks)) (fun r h' => r = .tup [] /\ HSub (AE 5 hNone (RH (FA C w b1 o4 o5 o6) (Ak (b1).blocks))) h')) : ACall Try.prog 89 [.ptr 2 1 0 0, .int .i64 (blk : Int), .int .i64 (to : Int), .fn (.func g) [] cs] (RH (FA C w b o4 o5 o6) (Ak (b).blocks)) (fun r h' => r = .tup [] /\ HSub (AE 5 hNone (RH (FA C w ((b1.jump to).go b.now) o4 o5 o6) (Ak ((b1.jump to)).blocks))) h') := by
 refine ACall.of_body (n := 26) Am Try.func89 rfl rfl ?_;refine HV ?_;refine ax 4 (F9 1 8) ?_;refine wk 3 ?_;refine aq 9 (DB rfl rfl rfl) ?_;refine wk 4 ?_;refine AOps.call 14 (hn := AE 8 _ (RH (TS C w b o4 o5 o6 (.row false 1 [[.int .i64 (b.now : Int)]])) (Ak (b).blocks))) (r := .fn (.func 104) [] [.ptr 9 1 0 0, .ptr 8 1 0 0]) rfl rfl rfl (KL 8 (TS C w b o4 o5 o6 .free) (TS C w b o4 o5 o6 (.row false 1 [[.int .i64 (b.now : Int)]])) (Ak (b).blocks) rfl rfl Try.func103 (by kernel_rfl) rfl rfl rfl rfl rfl (by decide) (Hk C w _ hO rfl) (Hk C w _ hO rfl) Bs C8 (fun x => Aa _ x) (fun x => Aa _ x) rfl (Qp C w b o4 o5 o6 hO (b.now : Int))) ?_;refine wk 13 ?_;refine AOps.call 20 (hn := AE 5 _ (RH (FA C w b1 o4 o5 o6) (Ak (b1).blocks))) (r := .tup []) rfl rfl rfl (KL 5 (FA C w (b.go blk) o4 o5 o6) (FA C w b1 o4 o5 o6) (Ak (b1).blocks) rfl rfl hg hgn hgb rfl (by simpa using hcs) rfl rfl (by decide) (CV C w _ hO) (CV C w _ hO) Bs C8 (fun x => Aa _ x) (fun x => Aa _ x) rfl (hdo)) ?_
 refine wk 5 ?_;refine AOps.call 23 (hn := AE 2 _ (RH (bL C w (b1.jump to)) (Ak ((b1.jump to)).blocks))) (r := .tup []) rfl rfl rfl (Av 2 (bL C w b1) (bL C w (b1.jump to)) (Ak ((b1.jump to)).blocks) rfl Try.func45 (by kernel_rfl) rfl rfl rfl rfl rfl (by decide) (Ag C w _) (Ag C w _) Bs C8 (fun x => Aa _ x) (fun x => Aa _ x) rfl (Pg C w b1 x1 hx1 to)) ?_;refine wk 3 ?_;refine AOps.call 25 (hn := AE 8 _ (RH (TS C w ((b1.jump to).go b.now) o4 o5 o6 (.row false 1 [[.int .i64 (b.now : Int)]])) (Ak ((b1.jump to)).blocks))) (r := .tup []) rfl rfl rfl (KL 8 (TS C w (b1.jump to) o4 o5 o6 (.row false 1 [[.int .i64 (b.now : Int)]])) (TS C w ((b1.jump to).go b.now) o4 o5 o6 (.row false 1 [[.int .i64 (b.now : Int)]])) (Ak ((b1.jump to)).blocks) rfl rfl Try.func104 (by kernel_rfl) rfl rfl rfl rfl rfl (by decide) (Hk C w _ hO rfl) (Hk C w _ hO rfl) Bs C8 (fun x => Aa _ x) (fun x => Aa _ x) rfl (Qo C w (b1.jump to) o4 o5 o6 hO b.now)) ?_
 refine an ?_;exact J0
theorem bcall_step (C : Core) (w : Bool) (b : Bd) (g : Int) (gf : CFn) (l : List CE) (d : Nat) (hg0 : 0 <= g) (hgf : C.funcs[g.toNat]? = some gf) (hf0 : 0 <= gf.first) (hf1 : gf.first <= 1000000) (hl6 : l.length <= 6) (hP : ∀ k, k <= l.length -> Pl (CE.buildL C (l.take k) d b)) (hc : (CE.buildL C l d b).cnt <= 90000000) (hd : d <= 90000000) (hV : ∀ (k : Nat) (x : CE), l[k]? = some x -> ACall Try.prog 64 [.ptr 2 1 0 0, .loc x.row, .int .i64 ((d + k : Nat) : Int)] (RH (bL C w (CE.buildL C (l.take k) d b)) (Ak ((CE.buildL C (l.take k) d b)).blocks)) (fun r h' => r = .tup [] /\ HSub (AE 2 hNone (RH (bL C w (x.build C (d + k) (CE.buildL C (l.take k) d b))) (Ak ((x.build C (d + k) (CE.buildL C (l.take k) d b))).blocks))) h')) : ACall Try.prog 65 [.ptr 2 1 0 0, .int .i64 g, (.lst false (l.map CE.cells)), .int .i64 (d : Int)] (RH (bL C w b) (Ak (b).blocks)) (fun r h' => r = .tup [] /\ HSub (AE 2 hNone (RH (bL C w ((CE.buildL C l d b).called C g l.length d)) (Ak (((CE.buildL C l d b).called C g l.length d)).blocks))) h') := by
 have hcf : C.first g = gf.first := Iy hgf
 have hPl : Pl (CE.buildL C l d b) := by have h := hP l.length (Nat.le_refl _); rwa [List.take_length] at h
 refine ACall.of_body (n := 49) Am Try.func65 rfl rfl ?_;refine wk 8 ?_;refine Dj (γ := Nat) (kf 4) (fun k => ⟨49, (Ad (Ad (Ad (Ad (Ad (Ad Bt 0 (.ptr 2 1 0 0)) 1 (.int .i64 g)) 2 (.lst false (l.map CE.cells))) 3 (.int .i64 (d : Int))) 11 (.int .i64 ((l.map CE.cells).length : Int))) 12 (.int .i64 (k : Int))), (fam (nb [.free, .free, (.row false 6 [DJ C w (CE.buildL C (l.take k) d b)]), (.row false 5 (Br ((CE.buildL C (l.take k) d b)).blocks))]) (Ak ((CE.buildL C (l.take k) d b)).blocks))⟩) (fun k => k <= l.length) (fun k => l.length - k) 0 (Sub.mk' BH (EA (k0 := 4) rfl (by repeat (first | exact trivial | refine ⟨⟨by first | rfl | (rw [List.take_zero, CE.buildL]; rfl), by first | rfl | exact B8 (fun x_ => kf_hi 4 x_) _⟩, ?_⟩)) (fun x_ => by rw [List.take_zero, CE.buildL]; exact AJ _ _ _) (fun c h1 h2 => by rcases (by omega : c = 4 \/ c = 5 \/ c = 6 \/ c = 7 \/ c = 8 \/ c = 9 \/ c = 10 \/ c = 11 \/ c = 12 \/ c = 13 \/ c = 14 \/ c = 15) with rfl | rfl | rfl | rfl | rfl | rfl | rfl | rfl | rfl | rfl | rfl | rfl <;> first | rfl | (try simp only [hputs]; repeat (first | rfl | refine Aw (by exact Af (by omega)) ?_ | refine AP (by omega) ?_))))) (Nat.zero_le _) (fun g b hb => Fk (k0 := 4) rfl hb) ?_
 intro k hk
 refine wk 5 ?_;refine asp 13 (fun hb1 => ?_) fun hb1 => ?_
 .
  refine act ?_
  have hkl : k < l.length := Bi hb1
  obtain ⟨x, hx⟩ := At hkl
  have hbk := Pc (C := C) hx d b
  refine wk 12 ?_;refine aq 18 (Ae Am rfl rfl rfl rfl rfl rfl (Int.natCast_nonneg _) (OK hx) rfl) ?_;refine wk 2 ?_;refine aq 21 (AI (r := .int .i64 (((d + k : Nat) : Int))) rfl rfl rfl MY) ?_;refine AOps.call 22 (hn := AE 2 _ (RH (bL C w (x.build C (d + k) (CE.buildL C (l.take k) d b))) (Ak ((x.build C (d + k) (CE.buildL C (l.take k) d b))).blocks))) (r := .tup []) rfl rfl rfl (Av 2 (bL C w (CE.buildL C (l.take k) d b)) (bL C w (x.build C (d + k) (CE.buildL C (l.take k) d b))) (Ak ((x.build C (d + k) (CE.buildL C (l.take k) d b))).blocks) rfl Try.func64 (by kernel_rfl) rfl rfl rfl rfl rfl (by decide) (Ag C w _) (Ag C w _) Bs C8 (fun x => Aa _ x) (fun x => Aa _ x) rfl (hV k x hx)) ?_;refine wk 2 ?_;refine aq 23 (Cc rfl rfl hkl (by simp only [maxLen]; omega)) ?_;exact ZB
 refine BM ?_
 have hke : k = l.length := Nat.le_antisymm hk (Bj hb1)
 refine wk 9 ?_;refine Dj (γ := Nat) (kf 4) (fun k => ⟨49, (Ad (Ad (Ad (Ad (Ad (Ad Bt 0 (.ptr 2 1 0 0)) 1 (.int .i64 g)) 2 (.lst false (l.map CE.cells))) 3 (.int .i64 (d : Int))) 25 (.int .i64 ((l.map CE.cells).length : Int))) 26 (.int .i64 (k : Int))), (fam (nb [.free, .free, (.row false 6 [DJ C w ((CE.buildL C l d b).args gf.first d k)]), (.row false 5 (Br (((CE.buildL C l d b).args gf.first d k)).blocks))]) (Ak (((CE.buildL C l d b).args gf.first d k)).blocks))⟩) (fun k => k <= l.length) (fun k => l.length - k) 0 (Sub.mk' BH (EA (k0 := 4) rfl (by repeat (first | exact trivial | refine ⟨⟨by first | rfl | (subst hke; rw [List.take_length]; rfl), by first | rfl | exact B8 (fun x_ => kf_hi 4 x_) _⟩, ?_⟩)) (fun x_ => by subst hke; rw [List.take_length]; exact AJ _ _ _) (fun c h1 h2 => by rcases (by omega : c = 4 \/ c = 5 \/ c = 6 \/ c = 7 \/ c = 8 \/ c = 9 \/ c = 10 \/ c = 11 \/ c = 12 \/ c = 13 \/ c = 14 \/ c = 15) with rfl | rfl | rfl | rfl | rfl | rfl | rfl | rfl | rfl | rfl | rfl | rfl <;> first | rfl | (try simp only [hputs]; repeat (first | rfl | refine Aw (by exact Af (by omega)) ?_ | refine AP (by omega) ?_))))) (Nat.zero_le _) (fun g b hb => Fk (k0 := 4) rfl hb) ?_
 intro k hk
 refine wk 5 ?_;refine asp 27 (fun hb2 => ?_) fun hb2 => ?_
 .
  refine act ?_
  have hkl : k < l.length := Bi hb2
  obtain ⟨z, hz⟩ := (NE hPl gf.first d k).cur
  refine wk 15 ?_;refine aq 35 (Ae Am rfl rfl rfl rfl rfl rfl hg0 (Ds hgf) rfl) ?_;refine wk 3 ?_;refine aq 39 (AI (r := .int .i64 (gf.first + (k : Int))) rfl rfl rfl Dz) ?_;refine wk 2 ?_;refine aq 42 (AI (r := .int .i64 (((d + k : Nat) : Int))) rfl rfl rfl MY) ?_;refine AOps.call 43 (hn := AE 2 _ (RH (bL C w (((CE.buildL C l d b).args gf.first d k).put (AM (gf.first + k) (d + k)))) (Ak ((((CE.buildL C l d b).args gf.first d k).put (AM (gf.first + k) (d + k)))).blocks))) (r := .tup []) rfl rfl rfl (Av 2 (bL C w ((CE.buildL C l d b).args gf.first d k)) (bL C w (((CE.buildL C l d b).args gf.first d k).put (AM (gf.first + k) (d + k)))) (Ak ((((CE.buildL C l d b).args gf.first d k).put (AM (gf.first + k) (d + k)))).blocks) rfl Try.func49 (by kernel_rfl) rfl rfl rfl rfl rfl (by decide) (Ag C w _) (Ag C w _) Bs C8 (fun x => Aa _ x) (fun x => Aa _ x) rfl (FR C w ((CE.buildL C l d b).args gf.first d k) z hz (by have := IF (CE.buildL C l d b) gf.first d k; omega) (gf.first + k) (d + k))) ?_
  refine wk 2 ?_;refine aq 44 (Cc rfl rfl hkl (by simp only [maxLen]; omega)) ?_;refine wk 2 ?_;exact ⟨k+1, DropK.mk' PB (Hc (k0 := 4) rfl MZ PC (fun x_ => Aa _ x_)), hkl, by omega⟩
 refine BM ?_
 have hke2 : k = l.length := Nat.le_antisymm hk (Bj hb2)
 subst hke2
 obtain ⟨z, hz⟩ := (NE hPl gf.first d l.length).cur
 refine wk 5 ?_;refine AOps.call 48 (hn := AE 2 _ (RH (bL C w (((CE.buildL C l d b).args gf.first d l.length).put (ED g))) (Ak ((((CE.buildL C l d b).args gf.first d l.length).put (ED g))).blocks))) (r := .tup []) rfl rfl rfl (Av 2 (bL C w ((CE.buildL C l d b).args gf.first d l.length)) (bL C w (((CE.buildL C l d b).args gf.first d l.length).put (ED g))) (Ak ((((CE.buildL C l d b).args gf.first d l.length).put (ED g))).blocks) rfl Try.func46 (by kernel_rfl) rfl rfl rfl rfl rfl (by decide) (Ag C w _) (Ag C w _) Bs C8 (fun x => Aa _ x) (fun x => Aa _ x) rfl (DT C w _ z hz (ED g) (Int.le_refl 0) (show (0 : Int) <= 1000000000 by decide) (by have := Dx hz; have := IF (CE.buildL C l d b) gf.first d l.length; omega))) ?_
 refine an ?_
 have e1 : (CE.buildL C l d b).called C g l.length d = (((CE.buildL C l d b).args gf.first d l.length).put (ED g)) := by unfold Bd.called; rw [hcf]
 rw [e1]
 exact J0
theorem MP (C : Core) (w : Bool) (b : Bd) (e : CE) (d : Nat) (hP : Pl (e.build C d b)) (hc : (e.build C d b).cnt <= 90000000) (hd : d <= 90000000) (hV : ACall Try.prog 64 [.ptr 2 1 0 0, .loc e.row, .int .i64 (d : Int)] (RH (bL C w b) (Ak (b).blocks)) (fun r h' => r = .tup [] /\ HSub (AE 2 hNone (RH (bL C w (e.build C d b)) (Ak ((e.build C d b)).blocks))) h')) : ACall Try.prog 101 [.ptr 2 1 0 0, .loc e.row, .int .i64 (d : Int)] (RH (bL C w b) (Ak (b).blocks)) (fun r h' => r = .tup [] /\ HSub (AE 2 hNone (RH (bL C w ((e.build C d b).truth e d)) (Ak (((e.build C d b).truth e d)).blocks))) h') := by
 obtain ⟨x, hx⟩ := hP.cur
 refine ACall.of_body (n := 48) Am Try.func101 rfl rfl ?_;refine wk 5 ?_;refine AOps.call 9 (hn := AE 2 _ (RH (bL C w (e.build C d b)) (Ak ((e.build C d b)).blocks))) (r := .tup []) rfl rfl rfl (Av 2 (bL C w b) (bL C w (e.build C d b)) (Ak ((e.build C d b)).blocks) rfl Try.func64 (by kernel_rfl) rfl rfl rfl rfl rfl (by decide) (Ag C w _) (Ag C w _) Bs C8 (fun x => Aa _ x) (fun x => Aa _ x) rfl (hV)) ?_;refine wk 16 ?_;refine asp 14 (fun hb1 => ?_) fun hb1 => ?_
 .
  refine wk 4 ?_;exact TW
 refine wk 6 ?_;refine asp 14 (fun hb2 => ?_) fun hb2 => ?_
 .
  refine wk 4 ?_;exact TW
 refine wk 5 ?_;refine asp 14 (fun hb3 => ?_) fun hb3 => ?_
 .
  refine wk 2 ?_;exact TW
 refine wk 6 ?_;refine asp 18 (fun hb4 => ?_) fun hb4 => ?_
 .
  refine wk 9 ?_;refine A7 25 (fun hb5 => ?_) fun hb5 => ?_
  .
   refine wk 9 ?_;exact TW
  refine wk 7 ?_;refine asp 31 (fun hb6 => ?_) fun hb6 => ?_
  .
   refine wk 2 ?_;exact TW
  exact ZS
 exact ZS
theorem O9 (C : Core) (w : Bool) (b : Bd) (n : Nat) (e : CE) (d : Nat) (hok : e.ok C n) (hP : Pl b) (hc : b.cnt + 11 * e.parts <= 80000000) (hd : d + e.parts <= 80000000)
    (hV : ∀ x ∈ e.kids, ∀ (d : Nat) (b : Bd), Pl b -> b.cnt + 11 * x.parts <= 80000000 -> d + x.parts <= 80000000 -> ACall Try.prog 64 [.ptr 2 1 0 0, .loc x.row, .int .i64 (d : Int)] (RH (bL C w b) (Ak (b).blocks)) (fun r h' => r = .tup [] /\ HSub (AE 2 hNone (RH (bL C w (x.build C d b)) (Ak ((x.build C d b)).blocks))) h')) (hPx : ∀ x ∈ e.kids, ∀ (d : Nat) (b : Bd), Pl b -> Pl (x.build C d b)) (hPc : Pl ((CE.buildL C e.kids d b).called C e.slot e.kids.length d)) (hcall : e.kind = 4 -> ACall Try.prog 65 [.ptr 2 1 0 0, .int .i64 e.slot, (.lst false (e.kids.map CE.cells)), .int .i64 (d : Int)] (RH (bL C w b) (Ak (b).blocks)) (fun r h' => r = .tup [] /\ HSub (AE 2 hNone (RH (bL C w ((CE.buildL C e.kids d b).called C e.slot e.kids.length d)) (Ak (((CE.buildL C e.kids d b).called C e.slot e.kids.length d)).blocks))) h')) (hE : e.kind = 8 \/ e.kind = 9 -> ACall Try.prog 88 [.ptr 2 1 0 0, .loc e.row, .int .i64 (d : Int)] (RH (bL C w b) (Ak (b).blocks)) (fun r h' => r = .tup [] /\ HSub (AE 2 hNone (RH (bL C w (e.build C d b)) (Ak ((e.build C d b)).blocks))) h')) : ACall Try.prog 64 [.ptr 2 1 0 0, .loc e.row, .int .i64 (d : Int)] (RH (bL C w b) (Ak (b).blocks)) (fun r h' => r = .tup [] /\ HSub (AE 2 hNone (RH (bL C w (e.build C d b)) (Ak ((e.build C d b)).blocks))) h') := by
 obtain ⟨z0, hz0⟩ := hP.cur
 obtain ⟨zc, hzc⟩ := hPc.cur
 have hpe0 := Bf e
 have hlen := partsL_len e.kids
 refine ACall.of_body (n := 128) Am Try.func64 rfl rfl ?_;refine wk 13 ?_;refine asp 10 (fun hb1 => ?_) fun hb1 => ?_
 .
  refine act ?_
  have ho : e.kind = 1 := by simpa using hb1
  refine wk 7 ?_;refine AOps.call 18 (hn := AE 2 _ (RH (bL C w (b.put (AT d e.num))) (Ak ((b.put (AT d e.num))).blocks))) (r := .tup []) rfl rfl rfl (Av 2 (bL C w b) (bL C w (b.put (AT d e.num))) (Ak ((b.put (AT d e.num))).blocks) rfl Try.func44 (by kernel_rfl) rfl rfl rfl rfl rfl (by decide) (Ag C w _) (Ag C w _) Bs C8 (fun x => Aa _ x) (fun x => Aa _ x) rfl (Fo C w b z0 hz0 (by omega) d e.num (by omega))) ?_;refine an ?_
  rw [fU ho]
  exact J0
 refine BM ?_
 have n1 : e.kind ≠ 1 := by simpa using hb1
 refine wk 5 ?_;refine asp 19 (fun hb2 => ?_) fun hb2 => ?_
 .
  refine act ?_
  have ho : e.kind = 2 := by simpa using hb2
  refine wk 8 ?_;refine AOps.call 28 (hn := AE 2 _ (RH (bL C w (b.put (Dk d e.slot))) (Ak ((b.put (Dk d e.slot))).blocks))) (r := .tup []) rfl rfl rfl (Av 2 (bL C w b) (bL C w (b.put (Dk d e.slot))) (Ak ((b.put (Dk d e.slot))).blocks) rfl Try.func46 (by kernel_rfl) rfl rfl rfl rfl rfl (by decide) (Ag C w _) (Ag C w _) Bs C8 (fun x => Aa _ x) (fun x => Aa _ x) rfl (DT C w b z0 hz0 (Dk d e.slot) (Int.natCast_nonneg d) (by show (d : Int) <= 1000000000; omega) (by have := Dx hz0; omega))) ?_;refine an ?_
  rw [fS ho]
  exact J0
 refine BM ?_
 have n2 : e.kind ≠ 2 := by simpa using hb2
 refine wk 5 ?_;refine asp 29 (fun hb3 => ?_) fun hb3 => ?_
 .
  refine act ?_
  have ho : e.kind = 3 := by simpa using hb3
  have hb3 := Vs hok ho
  obtain ⟨x, hx, hxm⟩ := Gu (l := e.kids) (by omega)
  obtain ⟨z, hz⟩ := (hPx x hxm d b hP).cur
  have hcx := BW (C := C) x.parts x (Nat.le_refl _) d b
  have hpx := AW hxm
  have hpe := Bf e
  refine wk 7 ?_;refine aq 36 (Ae Am rfl rfl rfl rfl rfl rfl (by decide) (Cf hx) rfl) ?_;refine wk 1 ?_;refine AOps.call 38 (hn := AE 2 _ (RH (bL C w (x.build C d b)) (Ak ((x.build C d b)).blocks))) (r := .tup []) rfl rfl rfl (Av 2 (bL C w b) (bL C w (x.build C d b)) (Ak ((x.build C d b)).blocks) rfl Try.func64 (by kernel_rfl) rfl rfl rfl rfl rfl (by decide) (Ag C w _) (Ag C w _) Bs C8 (fun x => Aa _ x) (fun x => Aa _ x) rfl (hV x hxm d b hP (by omega) (by omega))) ?_;refine wk 14 ?_;refine dx 51 (BK C w (x.build C d b) ((x.build C d b).put (Gc d d e.slot e.size)) ((x.build C d b).blocks.length + ((x.build C d b).put (Gc d d e.slot e.size)).blocks.length) (by omega) (by omega) rfl Try.func46 (by kernel_rfl) rfl rfl rfl Wl cB rfl (DT C w (x.build C d b) z hz (Gc d d e.slot e.size) (Int.natCast_nonneg d) (by show (d : Int) <= 1000000000; omega) (by have := Dx hz; omega))) ?_
  refine B0 FQ [([],[]), ([],[]), ([],[]), ([],[]), ([],[]), ([],[]), ([],[]), ([],[]), ([],[]), ([],[]), ([],[]), ([],[]), ([2],[2])] Q9 (by kernel_rfl) ?_
  rw [fR ho hb3.1 hx]
  exact ZH
 refine BM ?_
 have n3 : e.kind ≠ 3 := by simpa using hb3
 refine wk 5 ?_;refine asp 52 (fun hb4 => ?_) fun hb4 => ?_
 .
  refine act ?_
  have ho : e.kind = 4 := by simpa using hb4
  have hb4 := QC hok ho
  have hcL := Hg (m := 0) (fun x (hx : x ∈ e.kids) => BW (C := C) x.parts x (Nat.le_refl _)) d b
  have hcC := HU (CE.buildL C e.kids d b) C e.slot e.kids.length d
  refine wk 12 ?_;refine dx 64 (BK C w b ((CE.buildL C e.kids d b).called C e.slot e.kids.length d) (b.blocks.length + ((CE.buildL C e.kids d b).called C e.slot e.kids.length d).blocks.length) (by omega) (by omega) rfl Try.func65 (by kernel_rfl) rfl rfl rfl Wl cB rfl (hcall ho)) ?_;refine B0 FQ [([],[]), ([],[]), ([],[]), ([],[]), ([],[]), ([],[]), ([],[]), ([],[]), ([],[]), ([],[]), ([2],[2])] Q9 (by kernel_rfl) ?_;refine wk 6 ?_;refine aq 70 (Ar Am rfl rfl rfl (.ptr _ _ _ _ _ _ _ _ ((Ht (by decide)).trans rfl) rfl rfl) rfl) ?_;refine wk 1 ?_;refine AOps.call 72 (hn := AE 2 _ (RH (bL C w (((CE.buildL C e.kids d b).called C e.slot e.kids.length d).put (Dk d C.words))) (Ak ((((CE.buildL C e.kids d b).called C e.slot e.kids.length d).put (Dk d C.words))).blocks))) (r := .tup []) rfl rfl rfl (Av 2 (bL C w ((CE.buildL C e.kids d b).called C e.slot e.kids.length d)) (bL C w (((CE.buildL C e.kids d b).called C e.slot e.kids.length d).put (Dk d C.words))) (Ak ((((CE.buildL C e.kids d b).called C e.slot e.kids.length d).put (Dk d C.words))).blocks) rfl Try.func46 (by kernel_rfl) rfl rfl rfl rfl rfl (by decide) (Ag C w _) (Ag C w _) Wl cB (fun x => Aa _ x) (fun x => Aa _ x) rfl (DT C w ((CE.buildL C e.kids d b).called C e.slot e.kids.length d) zc hzc (Dk d C.words) (Int.natCast_nonneg d) (by show (d : Int) <= 1000000000; omega) (by have := Dx hzc; omega))) ?_
  refine an ?_
  rw [fQ ho]
  exact ZH
 refine BM ?_
 have n4 : e.kind ≠ 4 := by simpa using hb4
 refine wk 5 ?_;refine asp 73 (fun hb5 => ?_) fun hb5 => ?_
 .
  refine act ?_
  have ho : e.kind = 5 := by simpa using hb5
  refine wk 4 ?_;refine AOps.call 78 (hn := AE 2 _ (RH (bL C w (b.put (K8 d))) (Ak ((b.put (K8 d))).blocks))) (r := .tup []) rfl rfl rfl (Av 2 (bL C w b) (bL C w (b.put (K8 d))) (Ak ((b.put (K8 d))).blocks) rfl Try.func46 (by kernel_rfl) rfl rfl rfl rfl rfl (by decide) (Ag C w _) (Ag C w _) Bs C8 (fun x => Aa _ x) (fun x => Aa _ x) rfl (DT C w b z0 hz0 (K8 d) (Int.natCast_nonneg d) (by show (d : Int) <= 1000000000; omega) (by have := Dx hz0; omega))) ?_;refine an ?_
  rw [fP ho]
  exact J0
 refine BM ?_
 have n5 : e.kind ≠ 5 := by simpa using hb5
 have hK := QB hok n1 n2 n3 n4 n5
 refine wk 5 ?_;refine asp 79 (fun hb6 => ?_) fun hb6 => ?_
 .
  refine act ?_
  have ho : e.kind = 6 := by simpa using hb6
  have hl2 : e.kids.length = 2 := by omega
  obtain ⟨x, hx, hxm⟩ := Gu (l := e.kids) (by omega)
  obtain ⟨z, hz⟩ := (hPx x hxm d b hP).cur
  have hcx := BW (C := C) x.parts x (Nat.le_refl _) d b
  have hpx := AW hxm
  have hpe := Bf e
  obtain ⟨y, hy, hym⟩ := S0 (l := e.kids) (by omega)
  have hk2 := FO hl2 hx hy
  have hps : CE.partsL e.kids = x.parts + y.parts := by rw [hk2, CE.partsL, CE.partsL, CE.partsL]; omega
  obtain ⟨z2, hz2⟩ := (hPx y hym (d + 1) _ (hPx x hxm d b hP)).cur
  have hcy := BW (C := C) y.parts y (Nat.le_refl _) (d + 1) (x.build C d b)
  have hpx1 := Bf x
  refine wk 7 ?_;refine aq 86 (Ae Am rfl rfl rfl rfl rfl rfl (by decide) (Cf hx) rfl) ?_;refine wk 1 ?_;refine AOps.call 88 (hn := AE 2 _ (RH (bL C w (x.build C d b)) (Ak ((x.build C d b)).blocks))) (r := .tup []) rfl rfl rfl (Av 2 (bL C w b) (bL C w (x.build C d b)) (Ak ((x.build C d b)).blocks) rfl Try.func64 (by kernel_rfl) rfl rfl rfl rfl rfl (by decide) (Ag C w _) (Ag C w _) Bs C8 (fun x => Aa _ x) (fun x => Aa _ x) rfl (hV x hxm d b hP (by omega) (by omega))) ?_;refine wk 8 ?_;refine aq 94 (Ae Am rfl rfl rfl rfl rfl rfl (by decide) (It hy) rfl) ?_;refine wk 1 ?_;refine aq 96 (AI (r := .int .i64 (((d + 1 : Nat) : Int))) rfl rfl rfl MY) ?_;refine AOps.call 97 (hn := AE 2 _ (RH (bL C w (y.build C (d + 1) (x.build C d b))) (Ak ((y.build C (d + 1) (x.build C d b))).blocks))) (r := .tup []) rfl rfl rfl (Av 2 (bL C w (x.build C d b)) (bL C w (y.build C (d + 1) (x.build C d b))) (Ak ((y.build C (d + 1) (x.build C d b))).blocks) rfl Try.func64 (by kernel_rfl) rfl rfl rfl rfl rfl (by decide) (Ag C w _) (Ag C w _) Bs C8 (fun x => Aa _ x) (fun x => Aa _ x) rfl (hV y hym (d + 1) _ (hPx x hxm d b hP) (by omega) (by omega))) ?_
  refine wk 10 ?_;refine aq 106 (AI (r := .int .i64 (((d + 1 : Nat) : Int))) rfl rfl rfl MY) ?_;refine AOps.call 107 (hn := AE 2 _ (RH (bL C w ((y.build C (d + 1) (x.build C d b)).put (AS e.op d d (d + 1)))) (Ak (((y.build C (d + 1) (x.build C d b)).put (AS e.op d d (d + 1)))).blocks))) (r := .tup []) rfl rfl rfl (Av 2 (bL C w (y.build C (d + 1) (x.build C d b))) (bL C w ((y.build C (d + 1) (x.build C d b)).put (AS e.op d d (d + 1)))) (Ak (((y.build C (d + 1) (x.build C d b)).put (AS e.op d d (d + 1)))).blocks) rfl Try.func47 (by kernel_rfl) rfl rfl rfl rfl rfl (by decide) (Ag C w _) (Ag C w _) Bs C8 (fun x => Aa _ x) (fun x => Aa _ x) rfl (Hi C w (y.build C (d + 1) (x.build C d b)) z2 hz2 (by omega) e.op d d (d + 1) (by omega))) ?_;refine an ?_
  rw [fO ho hl2 hx hy]
  exact J0
 refine wk 6 ?_;refine asp 108 (fun hb7 => ?_) fun hb7 => ?_
 .
  refine act ?_
  have ho : e.kind = 7 := by simpa using hb7
  have hl1 : e.kids.length = 1 := by omega
  obtain ⟨x, hx, hxm⟩ := Gu (l := e.kids) (by omega)
  obtain ⟨z, hz⟩ := (hPx x hxm d b hP).cur
  have hcx := BW (C := C) x.parts x (Nat.le_refl _) d b
  have hpx := AW hxm
  have hpe := Bf e
  refine wk 7 ?_;refine aq 115 (Ae Am rfl rfl rfl rfl rfl rfl (by decide) (Cf hx) rfl) ?_;refine wk 1 ?_;refine AOps.call 117 (hn := AE 2 _ (RH (bL C w (x.build C d b)) (Ak ((x.build C d b)).blocks))) (r := .tup []) rfl rfl rfl (Av 2 (bL C w b) (bL C w (x.build C d b)) (Ak ((x.build C d b)).blocks) rfl Try.func64 (by kernel_rfl) rfl rfl rfl rfl rfl (by decide) (Ag C w _) (Ag C w _) Bs C8 (fun x => Aa _ x) (fun x => Aa _ x) rfl (hV x hxm d b hP (by omega) (by omega))) ?_;refine wk 4 ?_;refine AOps.call 120 (hn := AE 2 _ (RH (bL C w ((x.build C d b).not d)) (Ak (((x.build C d b).not d)).blocks))) (r := .tup []) rfl rfl rfl (Av 2 (bL C w (x.build C d b)) (bL C w ((x.build C d b).not d)) (Ak (((x.build C d b).not d)).blocks) rfl Try.func87 (by kernel_rfl) rfl rfl rfl rfl rfl (by decide) (Ag C w _) (Ag C w _) Bs C8 (fun x => Aa _ x) (fun x => Aa _ x) rfl (Xl C w (x.build C d b) z hz (by omega) d (by omega))) ?_
  refine an ?_
  rw [fN ho hl1 hx]
  exact J0
 refine wk 7 ?_;refine asp 121 (fun hb8 => ?_) fun hb8 => ?_
 .
  refine wk 7 ?_;exact ZL
 refine wk 5 ?_;refine asp 121 (fun hb9 => ?_) fun hb9 => ?_
 .
  refine wk 5 ?_;exact ZL
 refine wk 2 ?_;exact absurd hK (by simp_all)
theorem QE (C : Core) (w : Bool) (b : Bd) (e y : CE) (d : Nat) (hy : e.kids[1]? = some y) (hT : ACall Try.prog 101 [.ptr 2 1 0 0, .loc y.row, .int .i64 (d : Int)] (RH (bL C w b) (Ak (b).blocks)) (fun r h' => r = .tup [] /\ HSub (AE 2 hNone (RH (bL C w ((y.build C d b).truth y d)) (Ak (((y.build C d b).truth y d)).blocks))) h')) : ACall Try.prog 102 ([] ++ [] ++ [.ptr 4 1 0 0, .ptr 5 1 0 0, .ptr 6 1 0 0]) (RH (FA C w b (.row false 1 [[.ptr 2 1 0 0]]) (.row false 1 [[.loc e.row]]) (.row false 1 [[.int .i64 (d : Int)]])) (Ak (b).blocks)) (fun r h' => r = .tup [] /\ HSub (AE 5 hNone (RH (FA C w ((y.build C d b).truth y d) (.row false 1 [[.ptr 2 1 0 0]]) (.row false 1 [[.loc e.row]]) (.row false 1 [[.int .i64 (d : Int)]])) (Ak (((y.build C d b).truth y d)).blocks))) h') := by
 refine ACall.of_body (n := 11) Am Try.func102 rfl rfl ?_;refine wk 6 ?_;refine dq 8 (Ae Am rfl rfl rfl rfl rfl rfl (by decide) (It hy) rfl) ?_;refine wk 1 ?_;refine dx 10 (BK C w b ((y.build C d b).truth y d) (b.blocks.length + ((y.build C d b).truth y d).blocks.length) (by omega) (by omega) rfl Try.func101 (by kernel_rfl) rfl rfl rfl Da GZ rfl (hT)) ?_;refine B0 FQ [([4],[]), ([5],[]), ([],[]), ([],[]), ([],[]), ([],[]), ([6],[]), ([2],[2])] Q9 (by kernel_rfl) ?_;exact Xy
theorem beither_step (C : Core) (w : Bool) (b : Bd) (e x y : CE) (d : Nat) (hk : e.kind = 8 \/ e.kind = 9) (hl : e.kids.length = 2) (hx : e.kids[0]? = some x) (hy : e.kids[1]? = some y) (z1 : Block) (hz1 : ((x.build C d b).truth x d).blocks[((x.build C d b).truth x d).now]? = some z1) (hc : ((x.build C d b).truth x d).cnt <= 90000000) (hT : ACall Try.prog 101 [.ptr 2 1 0 0, .loc x.row, .int .i64 (d : Int)] (RH (bL C w b) (Ak (b).blocks)) (fun r h' => r = .tup [] /\ HSub (AE 2 hNone (RH (bL C w ((x.build C d b).truth x d)) (Ak (((x.build C d b).truth x d)).blocks))) h')) (x1 : Block)
    (hx1 : ∀ q, q = ((x.build C d b).truth x d).either0 e.kind d -> ((y.build C d (q.go ((x.build C d b).truth x d).blocks.length)).truth y d).blocks[((y.build C d (q.go ((x.build C d b).truth x d).blocks.length)).truth y d).now]? = some x1) (hTy : ∀ q, q = ((x.build C d b).truth x d).either0 e.kind d -> ACall Try.prog 101 [.ptr 2 1 0 0, .loc y.row, .int .i64 (d : Int)] (RH (bL C w (q.go ((x.build C d b).truth x d).blocks.length)) (Ak ((q.go ((x.build C d b).truth x d).blocks.length)).blocks)) (fun r h' => r = .tup [] /\ HSub (AE 2 hNone (RH (bL C w ((y.build C d (q.go ((x.build C d b).truth x d).blocks.length)).truth y d)) (Ak (((y.build C d (q.go ((x.build C d b).truth x d).blocks.length)).truth y d)).blocks))) h')) : ACall Try.prog 88 [.ptr 2 1 0 0, .loc e.row, .int .i64 (d : Int)] (RH (bL C w b) (Ak (b).blocks)) (fun r h' => r = .tup [] /\ HSub (AE 2 hNone (RH (bL C w (e.build C d b)) (Ak ((e.build C d b)).blocks))) h') := by
 have hO : XU (.row false 1 [[.ptr 2 1 0 0]]) (.row false 1 [[.loc e.row]]) (.row false 1 [[.int .i64 (d : Int)]]) := ⟨⟨rfl, rfl, rfl⟩, rfl, rfl, rfl⟩
 have hlo := Gh ((x.build C d b).truth x d)
 have hol := Ai ((x.build C d b).truth x d)
 refine ACall.of_body (n := 44) Am Try.func88 rfl rfl ?_;refine HV ?_;refine ax 3 (F9 1 4) ?_;refine ax 4 (F9 1 5) ?_;refine ax 5 (F9 1 6) ?_;refine wk 8 ?_;refine dq 13 (Ae Am rfl rfl rfl rfl rfl rfl (by decide) (Cf hx) rfl) ?_;refine wk 1 ?_;refine dx 15 (BK C w b ((x.build C d b).truth x d) (b.blocks.length + ((x.build C d b).truth x d).blocks.length) (by omega) (by omega) rfl Try.func101 (by kernel_rfl) rfl rfl rfl Da GZ rfl (hT)) ?_;refine B0 FQ [([4],[]), ([5],[]), ([],[]), ([],[]), ([],[]), ([],[]), ([6],[]), ([2],[2])] Q9 (by kernel_rfl) ?_;refine asq ?_;refine AGo.sub (s' := ⟨44, (Ad (Ad (Ad Bt 3 (.ptr 4 1 0 0)) 4 (.ptr 5 1 0 0)) 5 (.ptr 6 1 0 0)), (AE 5 hNone (RH (FA C w ((x.build C d b).truth x d) (.row false 1 [[.ptr 2 1 0 0]]) (.row false 1 [[.loc e.row]]) (.row false 1 [[.int .i64 (d : Int)]])) (Ak (((x.build C d b).truth x d)).blocks)))⟩) (Sub.mk' BH (BT rfl (by decide) Da GZ)) ?_
 refine wk 2 ?_;refine dx 17 (BK C w ((x.build C d b).truth x d) (((x.build C d b).truth x d).opened) (((x.build C d b).truth x d).blocks.length + (((x.build C d b).truth x d).opened).blocks.length) (by omega) (by omega) rfl Try.func28 (by kernel_rfl) rfl rfl rfl Da GZ rfl (CN C w _ (by omega))) ?_;refine dq 18 (Ar Am rfl rfl rfl (.ptr _ _ _ _ _ _ _ _ ((Ht (by decide)).trans rfl) rfl rfl) rfl) ?_;refine dx 19 (BK C w (((x.build C d b).truth x d).opened) (((x.build C d b).truth x d).opened.opened) ((((x.build C d b).truth x d).opened).blocks.length + (((x.build C d b).truth x d).opened.opened).blocks.length) (by omega) (by omega) rfl Try.func28 (by kernel_rfl) rfl rfl rfl Da GZ rfl (CN C w _ (by omega))) ?_;refine wk 2 ?_;refine B0 FQ [([4],[]), ([2],[2]), ([4],[]), ([2],[2]), ([],[]), ([],[])] Q9 (by kernel_rfl) ?_;refine wk 2 ?_;refine AGo.sub (s' := ⟨44, (Ad (Ad (Ad (Ad (Ad Bt 3 (.ptr 4 1 0 0)) 4 (.ptr 5 1 0 0)) 5 (.ptr 6 1 0 0)) 6 (.int .i64 (((x.build C d b).truth x d).blocks.length : Int))) 7 (.int .i64 ((((x.build C d b).truth x d).blocks.length + 1 : Nat) : Int))), (AE 5 hNone (RH (FA C w (((x.build C d b).truth x d).opened.opened) (.row false 1 [[.ptr 2 1 0 0]]) (.row false 1 [[.loc e.row]]) (.row false 1 [[.int .i64 (d : Int)]])) (Ak ((((x.build C d b).truth x d).opened.opened)).blocks)))⟩) (Sub.mk' (by repeat (first | exact ESub.new _ | refine ESub.put ?_ (by first | rfl | (rw [<- hol]; rfl)))) (BT rfl (by decide) Da GZ)) ?_
 have hz2 : (((x.build C d b).truth x d).opened.opened).blocks[(((x.build C d b).truth x d).opened.opened).now]? = some z1 := by
   have hl1 := (List.getElem?_eq_some_iff.1 hz1).1
   rw [show (((x.build C d b).truth x d).opened.opened).now = ((x.build C d b).truth x d).now from rfl, AF (by rw [Ai]; omega), AF hl1]; exact hz1
 refine wk 7 ?_;refine AGo.join (γ := Bd) (fun q => ⟨44, (Ad (Ad (Ad (Ad (Ad Bt 3 (.ptr 4 1 0 0)) 4 (.ptr 5 1 0 0)) 5 (.ptr 6 1 0 0)) 6 (.int .i64 (((x.build C d b).truth x d).blocks.length : Int))) 7 (.int .i64 ((((x.build C d b).truth x d).blocks.length + 1 : Nat) : Int))), (AE 5 hNone (RH (FA C w q (.row false 1 [[.ptr 2 1 0 0]]) (.row false 1 [[.loc e.row]]) (.row false 1 [[.int .i64 (d : Int)]])) (Ak (q).blocks)))⟩) (fun q => q = ((x.build C d b).truth x d).either0 e.kind d) ?_ ?_
 .
  refine asp 24 (fun hb1 => ?_) fun hb1 => ?_
  .
   refine act ?_
   have hk8 : (e.kind == 8) = true := hb1
   refine wk 5 ?_;refine AOps.call 29 (hn := AE 2 _ (RH (bL C w ((((x.build C d b).truth x d).opened.opened).fork d ((x.build C d b).truth x d).blocks.length (((x.build C d b).truth x d).blocks.length + 1))) (Ak (((((x.build C d b).truth x d).opened.opened).fork d ((x.build C d b).truth x d).blocks.length (((x.build C d b).truth x d).blocks.length + 1))).blocks))) (r := .tup []) rfl rfl rfl (Av 2 (bL C w (((x.build C d b).truth x d).opened.opened)) (bL C w ((((x.build C d b).truth x d).opened.opened).fork d ((x.build C d b).truth x d).blocks.length (((x.build C d b).truth x d).blocks.length + 1))) (Ak (((((x.build C d b).truth x d).opened.opened).fork d ((x.build C d b).truth x d).blocks.length (((x.build C d b).truth x d).blocks.length + 1))).blocks) rfl Try.func48 (by kernel_rfl) rfl rfl rfl rfl rfl (by decide) (Ag C w _) (Ag C w _) Bs C8 (fun x => Aa _ x) (fun x => Aa _ x) rfl (GV C w (((x.build C d b).truth x d).opened.opened) z1 hz2 d ((x.build C d b).truth x d).blocks.length (((x.build C d b).truth x d).blocks.length + 1))) ?_
   refine an ?_;exact ⟨((((x.build C d b).truth x d).opened.opened).fork d ((x.build C d b).truth x d).blocks.length (((x.build C d b).truth x d).blocks.length + 1)), Sub.mk' BH (BT rfl (by decide) Da GZ), (by unfold Bd.either0; rw [hk8]; rfl)⟩
  refine BM ?_
  have hk8 : (e.kind == 8) = false := hb1
  refine wk 5 ?_;refine AOps.call 34 (hn := AE 2 _ (RH (bL C w ((((x.build C d b).truth x d).opened.opened).fork d (((x.build C d b).truth x d).blocks.length + 1) ((x.build C d b).truth x d).blocks.length)) (Ak (((((x.build C d b).truth x d).opened.opened).fork d (((x.build C d b).truth x d).blocks.length + 1) ((x.build C d b).truth x d).blocks.length)).blocks))) (r := .tup []) rfl rfl rfl (Av 2 (bL C w (((x.build C d b).truth x d).opened.opened)) (bL C w ((((x.build C d b).truth x d).opened.opened).fork d (((x.build C d b).truth x d).blocks.length + 1) ((x.build C d b).truth x d).blocks.length)) (Ak (((((x.build C d b).truth x d).opened.opened).fork d (((x.build C d b).truth x d).blocks.length + 1) ((x.build C d b).truth x d).blocks.length)).blocks) rfl Try.func48 (by kernel_rfl) rfl rfl rfl rfl rfl (by decide) (Ag C w _) (Ag C w _) Bs C8 (fun x => Aa _ x) (fun x => Aa _ x) rfl (GV C w (((x.build C d b).truth x d).opened.opened) z1 hz2 d (((x.build C d b).truth x d).blocks.length + 1) ((x.build C d b).truth x d).blocks.length)) ?_
  refine an ?_;exact ⟨((((x.build C d b).truth x d).opened.opened).fork d (((x.build C d b).truth x d).blocks.length + 1) ((x.build C d b).truth x d).blocks.length), Sub.mk' BH (BT rfl (by decide) Da GZ), (by unfold Bd.either0; rw [hk8]; rfl)⟩
 intro q hq
 have hx1 := hx1 q hq
 have hTy := hTy q hq
 refine wk 5 ?_;refine aq 38 (DB rfl rfl rfl) ?_;refine AOps.call 39 (hn := AE 5 _ (RH (FA C w ((((y.build C d (q.go ((x.build C d b).truth x d).blocks.length)).truth y d).jump (((x.build C d b).truth x d).blocks.length + 1)).go q.now) (.row false 1 [[.ptr 2 1 0 0]]) (.row false 1 [[.loc e.row]]) (.row false 1 [[.int .i64 (d : Int)]])) (Ak ((((y.build C d (q.go ((x.build C d b).truth x d).blocks.length)).truth y d).jump (((x.build C d b).truth x d).blocks.length + 1))).blocks))) (r := .tup []) rfl rfl rfl (Av 5 (FA C w q (.row false 1 [[.ptr 2 1 0 0]]) (.row false 1 [[.loc e.row]]) (.row false 1 [[.int .i64 (d : Int)]])) (FA C w ((((y.build C d (q.go ((x.build C d b).truth x d).blocks.length)).truth y d).jump (((x.build C d b).truth x d).blocks.length + 1)).go q.now) (.row false 1 [[.ptr 2 1 0 0]]) (.row false 1 [[.loc e.row]]) (.row false 1 [[.int .i64 (d : Int)]])) (Ak (((y.build C d (q.go ((x.build C d b).truth x d).blocks.length)).truth y d).jump (((x.build C d b).truth x d).blocks.length + 1)).blocks) rfl Try.func89 (by kernel_rfl) rfl rfl rfl rfl rfl (by decide) (CV C w _ hO) (CV C w _ hO) Bs C8 (fun x => Aa _ x) (fun x => Aa _ x) rfl (Fc C w q (.row false 1 [[.ptr 2 1 0 0]]) (.row false 1 [[.loc e.row]]) (.row false 1 [[.int .i64 (d : Int)]]) hO ((x.build C d b).truth x d).blocks.length (((x.build C d b).truth x d).blocks.length + 1) 102 _ Try.func102 (by kernel_rfl) rfl [.ptr 4 1 0 0, .ptr 5 1 0 0, .ptr 6 1 0 0] rfl ((y.build C d (q.go ((x.build C d b).truth x d).blocks.length)).truth y d) x1 hx1 (QE C w (q.go ((x.build C d b).truth x d).blocks.length) e y d hy hTy))) ?_
 refine wk 8 ?_
 have e1 : e.build C d b = ((((y.build C d (q.go ((x.build C d b).truth x d).blocks.length)).truth y d).jump (((x.build C d b).truth x d).blocks.length + 1)).go q.now).go (((x.build C d b).truth x d).blocks.length + 1) := by rw [fi hk hl hx hy, hq]; rfl
 rw [e1]
 exact Xy
theorem Pi (C : Core) (w : Bool) (n : Nat) (hr : JX C) {b : Bd} {g : Int} {gf : CFn} {l : List CE} {d : Nat} (hg0 : 0 <= g) (hgf : C.funcs[g.toNat]? = some gf) (hl6 : l.length <= 6) (hok : CE.okL C n l) (hP : Pl b) (hc : b.cnt + 11 * CE.partsL l <= 80000000) (hd : d + CE.partsL l <= 80000000)
    (hV : ∀ x ∈ l, ∀ (d : Nat) (b : Bd), Pl b -> b.cnt + 11 * x.parts <= 80000000 -> d + x.parts <= 80000000 -> ACall Try.prog 64 [.ptr 2 1 0 0, .loc x.row, .int .i64 (d : Int)] (RH (bL C w b) (Ak (b).blocks)) (fun r h' => r = .tup [] /\ HSub (AE 2 hNone (RH (bL C w (x.build C d b)) (Ak ((x.build C d b)).blocks))) h')) :
    ACall Try.prog 65 [.ptr 2 1 0 0, .int .i64 g, (.lst false (l.map CE.cells)), .int .i64 (d : Int)] (RH (bL C w b) (Ak (b).blocks)) (fun r h' => r = .tup [] /\ HSub (AE 2 hNone (RH (bL C w ((CE.buildL C l d b).called C g l.length d)) (Ak (((CE.buildL C l d b).called C g l.length d)).blocks))) h') := by
  obtain ⟨f1, f2, f3, f4, f5⟩ := hr.fn gf (List.mem_of_getElem? hgf)
  have hw := hr.w1
  have hcnt : ∀ k, (CE.buildL C (l.take k) d b).cnt + (l.take k).length <= b.cnt + 11 * CE.partsL (l.take k) := fun k => Hg (m := 0) (fun e _ => BW e.parts e (Nat.le_refl _)) d b
  have hPk : ∀ k, Pl (CE.buildL C (l.take k) d b) := fun k => (C6 (OA k hok) d b hP).pl
  have hct := hcnt l.length
  rw [List.take_length] at hct
  refine bcall_step C w b g gf l d hg0 hgf f4 (by omega) hl6 (fun k _ => hPk k) (by omega) (by omega) fun k x hx => ?_
  have hp := Ng hx
  have hc2 := hcnt k
  exact hV x (List.mem_of_getElem? hx) (d + k) _ (hPk k) (by omega) (by omega)
theorem EG (C : Core) (w : Bool) (n : Nat) (hr : JX C) : ∀ (m : Nat) (e : CE), e.parts <= m -> e.ok C n -> ∀ (d : Nat) (b : Bd), Pl b -> b.cnt + 11 * e.parts <= 80000000 -> d + e.parts <= 80000000 -> ACall Try.prog 64 [.ptr 2 1 0 0, .loc e.row, .int .i64 (d : Int)] (RH (bL C w b) (Ak (b).blocks)) (fun r h' => r = .tup [] /\ HSub (AE 2 hNone (RH (bL C w (e.build C d b)) (Ak ((e.build C d b)).blocks))) h')
  | 0, e, hm, _, _, _, _, _, _ => absurd hm (by have := Bf e; omega)
  | m + 1, e, hm, ho, d, b, hP, hc, hd => by
    have hpe := Bf e
    have hV : ∀ x ∈ e.kids, ∀ (d : Nat) (b : Bd), Pl b -> b.cnt + 11 * x.parts <= 80000000 -> d + x.parts <= 80000000 -> ACall Try.prog 64 [.ptr 2 1 0 0, .loc x.row, .int .i64 (d : Int)] (RH (bL C w b) (Ak (b).blocks)) (fun r h' => r = .tup [] /\ HSub (AE 2 hNone (RH (bL C w (x.build C d b)) (Ak ((x.build C d b)).blocks))) h') := fun x hx => EG C w n hr m x (by have := AW hx; omega) (Nt ho hx)
    have hPx : ∀ x ∈ e.kids, ∀ (d : Nat) (b : Bd), Pl b -> Pl (x.build C d b) := fun x hx d b hb => (BP x.parts x (Nat.le_refl _) (Nt ho hx) d b hb).pl
    refine O9 C w b n e d ho hP hc hd hV hPx (Gg (C6 (OY ho) d b hP).pl C e.slot e.kids.length d).pl (fun h4 => ?_) (fun h89 => ?_)
    . obtain ⟨g0, g1, fn, g2, _, g3, g4⟩ := QC ho h4
      exact Pi C w n hr g0 g2 g4 (OY ho) hP (by omega) (by omega) hV
    . have hl2 : e.kids.length = 2 := by
        have := QB ho (by omega) (by omega) (by omega) (by omega) (by omega)
        omega
      obtain ⟨x, hx, hxm⟩ := Gu (l := e.kids) (by omega)
      obtain ⟨y, hy, hym⟩ := S0 (l := e.kids) (by omega)
      have hps : CE.partsL e.kids = x.parts + y.parts := by rw [FO hl2 hx hy, CE.partsL, CE.partsL, CE.partsL]; omega
      have hpx := Bf x
      have hpy := Bf y
      have hP1 := hPx x hxm d b hP
      have hP2 : Pl ((x.build C d b).truth x d) := (C5 hP1 x d).pl
      obtain ⟨z1, hz1⟩ := hP2.cur
      have c1 := BW (C := C) x.parts x (Nat.le_refl _) d b
      have c2 := Jk (x.build C d b) x d
      have hQ := QF hP2 e.kind d
      have hQ2 := hPx y hym d _ hQ
      have hQ3 : Pl ((y.build C d ((((x.build C d b).truth x d).either0 e.kind d).go ((x.build C d b).truth x d).blocks.length)).truth y d) := (C5 hQ2 y d).pl
      obtain ⟨x1, hx1⟩ := hQ3.cur
      have c3 := JS ((x.build C d b).truth x d) e.kind d
      have c4 := BW (C := C) y.parts y (Nat.le_refl _) d ((((x.build C d b).truth x d).either0 e.kind d).go ((x.build C d b).truth x d).blocks.length)
      rw [BV] at c4
      exact beither_step C w b e x y d h89 hl2 hx hy z1 hz1 (by omega) (MP C w b x d hP1 (by omega) (by omega) (hV x hxm d b hP (by omega) (by omega))) x1 (fun q hq => by rw [hq]; exact hx1)
        fun q hq => by rw [hq]; exact MP C w _ y d hQ2 (by omega) (by omega) (hV y hym d _ hQ (by rw [BV]; omega) (by omega))
theorem Pd (C : Core) (w : Bool) (b : Bd) (l : List CS) (hlen : l.length <= maxLen) (hS : ∀ (k : Nat) (x : CS), l[k]? = some x -> ACall Try.prog 50 [.ptr 2 1 0 0, .loc x.row] (RH (bL C w (CS.buildL C w (l.take k) b)) (Ak ((CS.buildL C w (l.take k) b)).blocks)) (fun r h' => r = .tup [] /\ HSub (AE 2 hNone (RH (bL C w (x.build C w (CS.buildL C w (l.take k) b))) (Ak ((x.build C w (CS.buildL C w (l.take k) b))).blocks))) h')) : ACall Try.prog 30 [.ptr 2 1 0 0, (.lst false (l.map CS.cells))] (RH (bL C w b) (Ak (b).blocks)) (fun r h' => r = .tup [] /\ HSub (AE 2 hNone (RH (bL C w (CS.buildL C w l b)) (Ak ((CS.buildL C w l b)).blocks))) h') := by
 refine ACall.of_body (n := 16) Am Try.func30 rfl rfl ?_;refine wk 7 ?_;refine Dj (γ := Nat) (kf 4) (fun k => ⟨16, (Ad (Ad (Ad (Ad Bt 0 (.ptr 2 1 0 0)) 1 (.lst false (l.map CS.cells))) 6 (.int .i64 ((l.map CS.cells).length : Int))) 7 (.int .i64 (k : Int))), (fam (nb [.free, .free, (.row false 6 [DJ C w (CS.buildL C w (l.take k) b)]), (.row false 5 (Br ((CS.buildL C w (l.take k) b)).blocks))]) (Ak ((CS.buildL C w (l.take k) b)).blocks))⟩) (fun k => k <= l.length) (fun k => l.length - k) 0 (Sub.mk' BH (EA (k0 := 4) rfl (by repeat (first | exact trivial | refine ⟨⟨by first | rfl | (rw [List.take_zero, CS.buildL]; rfl), by first | rfl | exact B8 (fun x_ => kf_hi 4 x_) _⟩, ?_⟩)) (fun x_ => by rw [List.take_zero, CS.buildL]; exact AJ _ _ _) (fun c h1 h2 => by rcases (by omega : c = 4 \/ c = 5 \/ c = 6 \/ c = 7 \/ c = 8 \/ c = 9 \/ c = 10 \/ c = 11 \/ c = 12 \/ c = 13 \/ c = 14 \/ c = 15) with rfl | rfl | rfl | rfl | rfl | rfl | rfl | rfl | rfl | rfl | rfl | rfl <;> first | rfl | (try simp only [hputs]; repeat (first | rfl | refine Aw (by exact Af (by omega)) ?_ | refine AP (by omega) ?_))))) (Nat.zero_le _) (fun g b hb => Fk (k0 := 4) rfl hb) ?_
 intro k hk
 refine wk 5 ?_;refine asp 8 (fun hb1 => ?_) fun hb1 => ?_
 .
  refine act ?_
  have hkl : k < l.length := Bi hb1
  obtain ⟨x, hx⟩ := At hkl
  have hbk := M9 (C := C) (w := w) hx b
  refine wk 12 ?_;refine aq 13 (Ae Am rfl rfl rfl rfl rfl rfl (Int.natCast_nonneg _) (LV hx) rfl) ?_;refine AOps.call 14 (hn := AE 2 _ (RH (bL C w (x.build C w (CS.buildL C w (l.take k) b))) (Ak ((x.build C w (CS.buildL C w (l.take k) b))).blocks))) (r := .tup []) rfl rfl rfl (Av 2 (bL C w (CS.buildL C w (l.take k) b)) (bL C w (x.build C w (CS.buildL C w (l.take k) b))) (Ak ((x.build C w (CS.buildL C w (l.take k) b))).blocks) rfl Try.func50 (by kernel_rfl) rfl rfl rfl rfl rfl (by decide) (Ag C w _) (Ag C w _) Bs C8 (fun x => Aa _ x) (fun x => Aa _ x) rfl (hS k x hx)) ?_;refine wk 2 ?_;refine aq 15 (Cc rfl rfl hkl hlen) ?_;exact ZB
 refine BM ?_
 have hke : k = l.length := Nat.le_antisymm hk (Bj hb1)
 refine wk 1 ?_
 subst hke
 rw [List.take_length]
 exact J0
theorem QL (C : Core) (w : Bool) (b : Bd) (e : CS) (hT : ACall Try.prog 30 [.ptr 2 1 0 0, (.lst false (e.els.map CS.cells))] (RH (bL C w b) (Ak (b).blocks)) (fun r h' => r = .tup [] /\ HSub (AE 2 hNone (RH (bL C w (CS.buildL C w e.els b)) (Ak ((CS.buildL C w e.els b)).blocks))) h')) : ACall Try.prog 90 ([] ++ [] ++ [.ptr 4 1 0 0, .ptr 5 1 0 0]) (RH (FA C w b (.row false 1 [[.ptr 2 1 0 0]]) (.row false 1 [[.loc e.row]]) .free) (Ak (b).blocks)) (fun r h' => r = .tup [] /\ HSub (AE 5 hNone (RH (FA C w (CS.buildL C w e.els b) (.row false 1 [[.ptr 2 1 0 0]]) (.row false 1 [[.loc e.row]]) .free) (Ak ((CS.buildL C w e.els b)).blocks))) h') := by
 refine ACall.of_body (n := 8) Am Try.func90 rfl rfl ?_;refine wk 6 ?_;refine dx 7 (BK C w b (CS.buildL C w e.els b) (b.blocks.length + (CS.buildL C w e.els b).blocks.length) (by omega) (by omega) rfl Try.func30 (by kernel_rfl) rfl rfl rfl Da GZ rfl (hT)) ?_;refine B0 FQ [([4],[]), ([5],[]), ([],[]), ([],[]), ([],[]), ([2],[2])] Q9 (by kernel_rfl) ?_;exact Xy
theorem QK (C : Core) (w : Bool) (b : Bd) (e : CS) (hT : ACall Try.prog 30 [.ptr 2 1 0 0, (.lst false (e.thn.map CS.cells))] (RH (bL C w b) (Ak (b).blocks)) (fun r h' => r = .tup [] /\ HSub (AE 2 hNone (RH (bL C w (CS.buildL C w e.thn b)) (Ak ((CS.buildL C w e.thn b)).blocks))) h')) : ACall Try.prog 91 ([] ++ [] ++ [.ptr 4 1 0 0, .ptr 5 1 0 0]) (RH (FA C w b (.row false 1 [[.ptr 2 1 0 0]]) (.row false 1 [[.loc e.row]]) .free) (Ak (b).blocks)) (fun r h' => r = .tup [] /\ HSub (AE 5 hNone (RH (FA C w (CS.buildL C w e.thn b) (.row false 1 [[.ptr 2 1 0 0]]) (.row false 1 [[.loc e.row]]) .free) (Ak ((CS.buildL C w e.thn b)).blocks))) h') := by
 refine ACall.of_body (n := 8) Am Try.func91 rfl rfl ?_;exact ZP
theorem UX (C : Core) (w : Bool) (b : Bd) (e : CS) (hT : ACall Try.prog 30 [.ptr 2 1 0 0, (.lst false (e.thn.map CS.cells))] (RH (bL C w b) (Ak (b).blocks)) (fun r h' => r = .tup [] /\ HSub (AE 2 hNone (RH (bL C w (CS.buildL C w e.thn b)) (Ak ((CS.buildL C w e.thn b)).blocks))) h')) : ACall Try.prog 93 ([] ++ [] ++ [.ptr 4 1 0 0, .ptr 5 1 0 0]) (RH (FA C w b (.row false 1 [[.ptr 2 1 0 0]]) (.row false 1 [[.loc e.row]]) .free) (Ak (b).blocks)) (fun r h' => r = .tup [] /\ HSub (AE 5 hNone (RH (FA C w (CS.buildL C w e.thn b) (.row false 1 [[.ptr 2 1 0 0]]) (.row false 1 [[.loc e.row]]) .free) (Ak ((CS.buildL C w e.thn b)).blocks))) h') := by
 refine ACall.of_body (n := 8) Am Try.func93 rfl rfl ?_;exact ZP
theorem QP (C : Core) (w : Bool) (b : Bd) (n : Nat) (hr : JX C) (e : CS) (hok : e.ok C n w) (hP : Pl b) (hc : b.cnt + 11 * e.parts <= 70000000) (hpm : e.parts <= 70000000) (h4 : e.kind = 4 -> ACall Try.prog 66 [.ptr 2 1 0 0, .loc e.row] (RH (bL C w b) (Ak (b).blocks)) (fun r h' => r = .tup [] /\ HSub (AE 2 hNone (RH (bL C w (e.build C w b)) (Ak ((e.build C w b)).blocks))) h')) (h5 : e.kind = 5 -> ACall Try.prog 67 [.ptr 2 1 0 0, .loc e.row] (RH (bL C w b) (Ak (b).blocks)) (fun r h' => r = .tup [] /\ HSub (AE 2 hNone (RH (bL C w (e.build C w b)) (Ak ((e.build C w b)).blocks))) h')) : ACall Try.prog 50 [.ptr 2 1 0 0, .loc e.row] (RH (bL C w b) (Ak (b).blocks)) (fun r h' => r = .tup [] /\ HSub (AE 2 hNone (RH (bL C w (e.build C w b)) (Ak ((e.build C w b)).blocks))) h') := by
 have hpe := BG e
 refine ACall.of_body (n := 112) Am Try.func50 rfl rfl ?_;refine wk 13 ?_;refine asp 8 (fun hb1 => ?_) fun hb1 => ?_
 .
  refine act ?_
  have ho : e.kind = 1 := by simpa using hb1
  have hb1 := Um hok ho
  obtain ⟨x, hx, hxm⟩ := Gu (l := e.es) (by omega)
  have hxo := FY hok hxm
  have hPx : Pl (x.build C 0 b) := (BP x.parts x (Nat.le_refl _) hxo 0 b hP).pl
  obtain ⟨z, hz⟩ := hPx.cur
  have hcx := BW (C := C) x.parts x (Nat.le_refl _) 0 b
  have hpx := AW hxm
  refine wk 7 ?_;refine aq 15 (Ae Am rfl rfl rfl rfl rfl rfl (by decide) (Cf hx) rfl) ?_;refine AOps.call 16 (hn := AE 2 _ (RH (bL C w (x.build C 0 b)) (Ak ((x.build C 0 b)).blocks))) (r := .tup []) rfl rfl rfl (Av 2 (bL C w b) (bL C w (x.build C 0 b)) (Ak ((x.build C 0 b)).blocks) rfl Try.func64 (by kernel_rfl) rfl rfl rfl rfl rfl (by decide) (Ag C w _) (Ag C w _) Bs C8 (fun x => Aa _ x) (fun x => Aa _ x) rfl (EG C w n hr x.parts x (Nat.le_refl _) hxo 0 b hP (by omega) (by omega))) ?_;refine wk 7 ?_;refine AOps.call 22 (hn := AE 2 _ (RH (bL C w ((x.build C 0 b).put (AM e.slot 0))) (Ak (((x.build C 0 b).put (AM e.slot 0))).blocks))) (r := .tup []) rfl rfl rfl (Av 2 (bL C w (x.build C 0 b)) (bL C w ((x.build C 0 b).put (AM e.slot 0))) (Ak (((x.build C 0 b).put (AM e.slot 0))).blocks) rfl Try.func49 (by kernel_rfl) rfl rfl rfl rfl rfl (by decide) (Ag C w _) (Ag C w _) Bs C8 (fun x => Aa _ x) (fun x => Aa _ x) rfl (FR C w (x.build C 0 b) z hz (by omega) e.slot 0)) ?_
  refine an ?_
  rw [fe ho hb1.1 hx]
  exact J0
 refine BM ?_
 have n1 : e.kind ≠ 1 := by simpa using hb1
 refine wk 5 ?_;refine asp 23 (fun hb2 => ?_) fun hb2 => ?_
 .
  refine act ?_
  have ho : e.kind = 2 := by simpa using hb2
  have hb2 := Ul hok ho
  obtain ⟨x, hx, hxm⟩ := Gu (l := e.es) (by omega)
  have hxo := FY hok hxm
  have hPx : Pl (x.build C 0 b) := (BP x.parts x (Nat.le_refl _) hxo 0 b hP).pl
  obtain ⟨z, hz⟩ := hPx.cur
  have hcx := BW (C := C) x.parts x (Nat.le_refl _) 0 b
  have hpx := AW hxm
  obtain ⟨y, hy, hym⟩ := S0 (l := e.es) (by omega)
  have hyo := FY hok hym
  have hps : CE.partsL e.es = x.parts + y.parts := by rw [FO hb2.1 hx hy, CE.partsL, CE.partsL, CE.partsL]; omega
  obtain ⟨z2, hz2⟩ := (BP y.parts y (Nat.le_refl _) hyo 1 _ hPx).pl.cur
  have hcy := BW (C := C) y.parts y (Nat.le_refl _) 1 (x.build C 0 b)
  refine wk 7 ?_;refine aq 30 (Ae Am rfl rfl rfl rfl rfl rfl (by decide) (Cf hx) rfl) ?_;refine AOps.call 31 (hn := AE 2 _ (RH (bL C w (x.build C 0 b)) (Ak ((x.build C 0 b)).blocks))) (r := .tup []) rfl rfl rfl (Av 2 (bL C w b) (bL C w (x.build C 0 b)) (Ak ((x.build C 0 b)).blocks) rfl Try.func64 (by kernel_rfl) rfl rfl rfl rfl rfl (by decide) (Ag C w _) (Ag C w _) Bs C8 (fun x => Aa _ x) (fun x => Aa _ x) rfl (EG C w n hr x.parts x (Nat.le_refl _) hxo 0 b hP (by omega) (by omega))) ?_;refine wk 8 ?_;refine aq 37 (Ae Am rfl rfl rfl rfl rfl rfl (by decide) (It hy) rfl) ?_;refine AOps.call 38 (hn := AE 2 _ (RH (bL C w (y.build C 1 (x.build C 0 b))) (Ak ((y.build C 1 (x.build C 0 b))).blocks))) (r := .tup []) rfl rfl rfl (Av 2 (bL C w (x.build C 0 b)) (bL C w (y.build C 1 (x.build C 0 b))) (Ak ((y.build C 1 (x.build C 0 b))).blocks) rfl Try.func64 (by kernel_rfl) rfl rfl rfl rfl rfl (by decide) (Ag C w _) (Ag C w _) Bs C8 (fun x => Aa _ x) (fun x => Aa _ x) rfl (EG C w n hr y.parts y (Nat.le_refl _) hyo 1 _ hPx (by omega) (by omega))) ?_
  refine wk 12 ?_;refine dx 49 (BK C w (y.build C 1 (x.build C 0 b)) ((y.build C 1 (x.build C 0 b)).put (BF 0 1 e.slot e.size)) ((y.build C 1 (x.build C 0 b)).blocks.length + ((y.build C 1 (x.build C 0 b)).put (BF 0 1 e.slot e.size)).blocks.length) (by omega) (by omega) rfl Try.func46 (by kernel_rfl) rfl rfl rfl Da GZ rfl (DT C w (y.build C 1 (x.build C 0 b)) z2 hz2 (BF 0 1 e.slot e.size) (Int.le_refl 0) (show (0 : Int) <= 1000000000 by decide) (by have := Dx hz2; omega))) ?_
  refine B0 FQ [([],[]), ([],[]), ([],[]), ([],[]), ([],[]), ([],[]), ([],[]), ([],[]), ([],[]), ([],[]), ([2],[2])] Q9 (by kernel_rfl) ?_
  rw [fd ho hb2.1 hx hy]
  exact Xy
 refine BM ?_
 have n2 : e.kind ≠ 2 := by simpa using hb2
 refine wk 5 ?_;refine asp 50 (fun hb3 => ?_) fun hb3 => ?_
 .
  refine act ?_
  have ho : e.kind = 3 := by simpa using hb3
  have hb3 := XJ hok (.inl ho)
  obtain ⟨x, hx, hxm⟩ := Gu (l := e.es) (by omega)
  have hxo := FY hok hxm
  have hPx : Pl (x.build C 0 b) := (BP x.parts x (Nat.le_refl _) hxo 0 b hP).pl
  obtain ⟨z, hz⟩ := hPx.cur
  have hcx := BW (C := C) x.parts x (Nat.le_refl _) 0 b
  have hpx := AW hxm
  refine wk 7 ?_;refine aq 57 (Ae Am rfl rfl rfl rfl rfl rfl (by decide) (Cf hx) rfl) ?_;refine AOps.call 58 (hn := AE 2 _ (RH (bL C w (x.build C 0 b)) (Ak ((x.build C 0 b)).blocks))) (r := .tup []) rfl rfl rfl (Av 2 (bL C w b) (bL C w (x.build C 0 b)) (Ak ((x.build C 0 b)).blocks) rfl Try.func64 (by kernel_rfl) rfl rfl rfl rfl rfl (by decide) (Ag C w _) (Ag C w _) Bs C8 (fun x => Aa _ x) (fun x => Aa _ x) rfl (EG C w n hr x.parts x (Nat.le_refl _) hxo 0 b hP (by omega) (by omega))) ?_;refine wk 4 ?_;refine AOps.call 61 (hn := AE 2 _ (RH (bL C w ((x.build C 0 b).put (Jg 0))) (Ak (((x.build C 0 b).put (Jg 0))).blocks))) (r := .tup []) rfl rfl rfl (Av 2 (bL C w (x.build C 0 b)) (bL C w ((x.build C 0 b).put (Jg 0))) (Ak (((x.build C 0 b).put (Jg 0))).blocks) rfl Try.func46 (by kernel_rfl) rfl rfl rfl rfl rfl (by decide) (Ag C w _) (Ag C w _) Bs C8 (fun x => Aa _ x) (fun x => Aa _ x) rfl (DT C w (x.build C 0 b) z hz (Jg 0) (Int.le_refl 0) (show (0 : Int) <= 1000000000 by decide) (by have := Dx hz; omega))) ?_
  refine an ?_
  rw [fc ho hb3 hx]
  exact J0
 refine BM ?_
 have n3 : e.kind ≠ 3 := by simpa using hb3
 refine wk 5 ?_;refine asp 62 (fun hb4 => ?_) fun hb4 => ?_
 .
  refine act ?_
  have ho : e.kind = 6 := by simpa using hb4
  have hb6 := XH hok ho
  obtain ⟨gf, hb6b⟩ := hb6.2.2
  have hlen := partsL_len e.es
  refine wk 10 ?_;refine dx 73 (BK C w b ((CE.buildL C e.es 0 b).called C e.slot e.es.length 0) (b.blocks.length + ((CE.buildL C e.es 0 b).called C e.slot e.es.length 0).blocks.length) (by omega) (by omega) rfl Try.func65 (by kernel_rfl) rfl rfl rfl Da GZ rfl (Pi C w n hr (d := 0) hb6.1 hb6b.1 hb6b.2.2.2 (Wq hok) hP (by omega) (by omega) (fun x hx => EG C w n hr x.parts x (Nat.le_refl _) (FY hok hx)))) ?_;refine B0 FQ [([],[]), ([],[]), ([],[]), ([],[]), ([],[]), ([],[]), ([],[]), ([],[]), ([],[]), ([2],[2])] Q9 (by kernel_rfl) ?_
  rw [e9 ho]
  exact Xy
 refine BM ?_
 have n6 : e.kind ≠ 6 := by simpa using hb4
 refine wk 5 ?_;refine asp 74 (fun hb5 => ?_) fun hb5 => ?_
 .
  refine act ?_
  have ho : e.kind = 7 := by simpa using hb5
  have hb7 := bv hok ho
  obtain ⟨z0, hz0⟩ := hP.cur
  refine wk 10 ?_;refine AGo.join (γ := Bd) (fun q => ⟨112, (Ad Bt 0 (.ptr 2 1 0 0)), (AE 2 hNone (RH (bL C w q) (Ak q.blocks)))⟩) (fun q => q.next = e.build C w b /\ q.cnt <= 80000000) ?_ ?_
  .
   refine asp 81 (fun hb6 => ?_) fun hb6 => ?_
   .
    refine act ?_
    have hl1 : e.es.length = 1 := by have h := hb6; simp at h; omega
    obtain ⟨x, hx, hxm⟩ := Gu (l := e.es) (by omega)
    have hxo := FY hok hxm
    have hPx : Pl (x.build C 0 b) := (BP x.parts x (Nat.le_refl _) hxo 0 b hP).pl
    obtain ⟨z, hz⟩ := hPx.cur
    have hcx := BW (C := C) x.parts x (Nat.le_refl _) 0 b
    have hpx := AW hxm
    refine wk 7 ?_;refine aq 87 (Ae Am rfl rfl rfl rfl rfl rfl (by decide) (Cf hx) rfl) ?_;refine AOps.call 88 (hn := AE 2 _ (RH (bL C w (x.build C 0 b)) (Ak ((x.build C 0 b)).blocks))) (r := .tup []) rfl rfl rfl (Av 2 (bL C w b) (bL C w (x.build C 0 b)) (Ak ((x.build C 0 b)).blocks) rfl Try.func64 (by kernel_rfl) rfl rfl rfl rfl rfl (by decide) (Ag C w _) (Ag C w _) Bs C8 (fun x => Aa _ x) (fun x => Aa _ x) rfl (EG C w n hr x.parts x (Nat.le_refl _) hxo 0 b hP (by omega) (by omega))) ?_;refine wk 7 ?_;refine AOps.call 94 (hn := AE 2 _ (RH (bL C w ((x.build C 0 b).put (AM C.words 0))) (Ak (((x.build C 0 b).put (AM C.words 0))).blocks))) (r := .tup []) rfl rfl rfl (Av 2 (bL C w (x.build C 0 b)) (bL C w ((x.build C 0 b).put (AM C.words 0))) (Ak (((x.build C 0 b).put (AM C.words 0))).blocks) rfl Try.func49 (by kernel_rfl) rfl rfl rfl rfl rfl (by decide) (Ag C w _) (Ag C w _) Bs C8 (fun x => Aa _ x) (fun x => Aa _ x) rfl (FR C w (x.build C 0 b) z hz (by omega) C.words 0)) ?_
    refine an ?_;exact ⟨((x.build C 0 b).put (AM C.words 0)), Sub.mk' BH (BT rfl (by decide) Bs C8), ⟨(bC ho hl1 hx).symm, by have := Bg (x.build C 0 b) (AM C.words 0); omega⟩⟩
   refine BM ?_
   have hl0 : e.es.length = 0 := by have h := hb6; simp at h; simp [h]
   refine wk 2 ?_;refine AOps.call 96 (hn := AE 2 _ (RH (bL C w (b.leave C w)) (Ak ((b.leave C w)).blocks))) (r := .tup []) rfl rfl rfl (Av 2 (bL C w b) (bL C w (b.leave C w)) (Ak ((b.leave C w)).blocks) rfl Try.func31 (by kernel_rfl) rfl rfl rfl rfl rfl (by decide) (Ag C w _) (Ag C w _) Bs C8 (fun x => Aa _ x) (fun x => Aa _ x) rfl (MQ C w b z0 hz0 (by omega))) ?_;refine an ?_;exact ⟨(b.leave C w), Sub.mk' BH (BT rfl (by decide) Bs C8), ⟨(bB ho hl0).symm, by have := Jl b C w; omega⟩⟩
  intro q hQ
  refine wk 3 ?_;refine AOps.call 99 (hn := AE 2 _ (RH (bL C w q.opened) (Ak (q.opened).blocks))) (r := .int .i64 (q.blocks.length : Int)) rfl rfl rfl (Av 2 (bL C w q) (bL C w q.opened) (Ak (q.opened).blocks) rfl Try.func28 (by kernel_rfl) rfl rfl rfl rfl rfl (by decide) (Ag C w _) (Ag C w _) Bs C8 (fun x => Aa _ x) (fun x => Aa _ x) rfl (CN C w q (by have := Gh q; omega))) ?_;refine wk 4 ?_
  rw [<- hQ.1]
  exact J0
 refine BM ?_
 have n7 : e.kind ≠ 7 := by simpa using hb5
 refine wk 5 ?_;refine asp 102 (fun hb7 => ?_) fun hb7 => ?_
 .
  refine act ?_
  have ho : e.kind = 4 := by simpa using hb7
  refine wk 3 ?_;refine AOps.call 106 (hn := AE 2 _ (RH (bL C w (e.build C w b)) (Ak ((e.build C w b)).blocks))) (r := .tup []) rfl rfl rfl (Av 2 (bL C w b) (bL C w (e.build C w b)) (Ak ((e.build C w b)).blocks) rfl Try.func66 (by kernel_rfl) rfl rfl rfl rfl rfl (by decide) (Ag C w _) (Ag C w _) Bs C8 (fun x => Aa _ x) (fun x => Aa _ x) rfl (h4 ho)) ?_;refine an ?_;exact J0
 refine BM ?_
 have n4 : e.kind ≠ 4 := by simpa using hb7
 refine wk 5 ?_;refine asp 107 (fun hb8 => ?_) fun hb8 => ?_
 .
  refine act ?_
  have ho : e.kind = 5 := by simpa using hb8
  refine wk 3 ?_;refine AOps.call 111 (hn := AE 2 _ (RH (bL C w (e.build C w b)) (Ak ((e.build C w b)).blocks))) (r := .tup []) rfl rfl rfl (Av 2 (bL C w b) (bL C w (e.build C w b)) (Ak ((e.build C w b)).blocks) rfl Try.func67 (by kernel_rfl) rfl rfl rfl rfl rfl (by decide) (Ag C w _) (Ag C w _) Bs C8 (fun x => Aa _ x) (fun x => Aa _ x) rfl (h5 ho)) ?_;refine an ?_;exact J0
 refine BM ?_
 have n5 : e.kind ≠ 5 := by simpa using hb8
 refine V4 ?_;exact absurd (Rj hok n5 n6 n7).2 (by omega)
end Go.Proofs.Ytmfihmkopmgelaa.Sv
