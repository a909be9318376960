/-
  EXPRESSIONS FIND THEIR VALUES: own work.
-/
import Derived.Test.YtmfihmkopmgelaaPBuildRuns3
set_option linter.unusedVariables false
set_option linter.unusedSimpArgs false
set_option maxRecDepth 100000
set_option maxHeartbeats 2000000
namespace Go.Proofs.Ytmfihmkopmgelaa.Sv
open Go
theorem SW {n : Nat} (h : n < 4294967296) : CD (n : Int) := ⟨by omega, by omega⟩
theorem U3 (b : Bool) : CD (zf b) := by cases b <;> exact ⟨by decide, by decide⟩
theorem U4 (b : UInt8) : CD ((b.toNat : Nat) : Int) := SW (by have := b.toNat_lt; omega)
section
variable {X : Cx}
theorem EvOk.ins {parts d : Nat} {a b : BI} {regs : List Int} {c : CM} {m : Mach} {p : Int × CM} {t : Tac} {m' : Mach} (ht : InsAt X.F.blocks a t) (hm : ∀ call, AL call X.s t regs { m with steps := m.steps + 1 } = (AK regs (d : Int) p.1, m'))
    (hd : d < regs.length) (hs : m'.steps = m.steps + 1) (hst : p.2.m.steps = c.m.steps) (hr : RelM X.W X.M p.2.m m') (ho : p.2.over = false) (hv : CD p.1) (hp : 1 <= parts) (hb : b = nx a) : EvOk X parts d a b regs c m p := by
  refine ⟨by omega, fun _ => ⟨ho, hv, AK regs (d : Int) p.1, m', ?_, hr, by unfold AK; exact List.length_set, Cn hd, fun j hj => A0 (by omega), by rw [hst]; omega⟩, fun h _ => absurd (show p.2.fin = 0 from hr.cfin) h⟩
  rw [hb]
  exact BL ht hm hr.fin hs
theorem EvOk.pre {n1 n2 d : Nat} {a a1 b : BI} {regs r1 : List Int} {c c1 : CM} {m m1 : Mach} {p : Int × CM} (h : EvOk X n2 d a1 b r1 c1 m1 p) (hg : Goes X.cl X.s X.F a regs m a1 r1 m1) (hl : r1.length = regs.length) (hle : c.m.steps <= c1.m.steps)
    (hj : ∀ j : Nat, j < d -> rget r1 (j : Int) = rget regs (j : Int)) (hk : m1.steps + X.K * c.m.steps <= m.steps + n1 + X.K * c1.m.steps) {n : Nat} (hn : n1 + n2 <= n) : EvOk X n d a b regs c m p := by
  refine ⟨Nat.le_trans hle h.le, fun h0 => ?_, fun h0 h5 => ?_⟩
  . obtain ⟨e1, e2, r', m', g1, g2, g3, g4, g5, g6⟩ := h.go h0
    exact ⟨e1, e2, r', m', hg.trans g1, g2, g3.trans hl, g4, fun j h => (g5 j h).trans (hj j h), by omega⟩
  . obtain ⟨m', g1, g2, g3, g4⟩ := h.stop h0 h5
    exact ⟨m', hg.stops g1, g2, g3, by omega⟩
theorem EvOk.ended {n1 n d d' : Nat} {a b b' : BI} {regs : List Int} {c : CM} {m : Mach} {p : Int × CM} (h : EvOk X n1 d a b regs c m p) (hf : p.2.fin ≠ 0) (hn : n1 <= n) (x : Int) : EvOk X n d' a b' regs c m (x, p.2) := by
  refine ⟨h.le, fun h0 => absurd h0 hf, fun h0 h5 => ?_⟩
  obtain ⟨m', g1, g2, g3, g4⟩ := h.stop h0 h5
  refine ⟨m', g1, g2, g3, ?_⟩
  dsimp only
  omega
theorem cJ (x y : Int) : BC 15 x y = (zf (x == y), 0) := by
  unfold BC
  simp only [show ((15 : Int) == 4) = false from rfl, show ((15 : Int) == 5) = false from rfl, show ((15 : Int) == 6) = false from rfl, show ((15 : Int) == 7) = false from rfl, show ((15 : Int) == 8) = false from rfl, show ((15 : Int) == 9) = false from rfl, show ((15 : Int) == 10) = false from rfl, show ((15 : Int) == 11) = false from rfl, show ((15 : Int) == 12) = false from rfl, show ((15 : Int) == 13) = false from rfl, show ((15 : Int) == 14) = false from rfl, show ((15 : Int) == 15) = true from rfl, Bool.false_or, Bool.or_true, Bool.or_false, cond_true, cond_false]
  unfold C0 zf
  simp only [show ((15 : Int) == 14) = false from rfl, show ((15 : Int) == 15) = true from rfl, Bool.false_and, Bool.true_and, Bool.false_or]
theorem cK {o x y : Int} (h : o = 14 \/ o = 15) : (BC o x y).1 = 0 \/ (BC o x y).1 = 1 := by
  rcases h with rfl | rfl
  . unfold BC
    simp only [show ((14 : Int) == 4) = false from rfl, show ((14 : Int) == 5) = false from rfl, show ((14 : Int) == 6) = false from rfl, show ((14 : Int) == 7) = false from rfl, show ((14 : Int) == 8) = false from rfl, show ((14 : Int) == 9) = false from rfl, show ((14 : Int) == 10) = false from rfl, show ((14 : Int) == 11) = false from rfl, show ((14 : Int) == 12) = false from rfl, show ((14 : Int) == 13) = false from rfl, show ((14 : Int) == 14) = true from rfl, Bool.false_or, Bool.true_or, Bool.or_false, cond_true, cond_false]
    unfold C0
    cases (((14 : Int) == 14 && decide (x < y)) || ((14 : Int) == 15 && x == y)) <;> simp
  . rw [cJ]
    unfold zf
    cases (x == y) <;> simp
theorem OC (hX : Gv X) {a b : BI} {d : Nat} {regs : List Int} {c : CM} {m : Mach} (h : RX X.F.blocks a d b) (hl : (regs.length : Int) = X.F.regs) (hr : RelM X.W X.M c.m m) :
    ∃ regs', Goes X.cl X.s X.F a regs m b regs' { m with steps := m.steps + 2 } /\ regs'.length = regs.length /\ rget regs' (d : Int) = zf (rget regs (d : Int) == 0) /\ rget regs' ((d + 1 : Nat) : Int) = 0 /\ (∀ j : Nat, j < d -> rget regs' (j : Int) = rget regs (j : Int)) := by
  obtain ⟨h1, h2, rfl⟩ := h
  have l1 := (h1.reg hX rfl).2
  have l2 := (h2.reg hX rfl).2
  have e1 : ((d : Int) + 1) = ((d + 1 : Nat) : Int) := by omega
  have hd1 : d + 1 < regs.length := by have : ((d : Int) + 1) < X.F.regs := l1; omega
  have g1 := BL (C := X.cl) (s := X.s) (f := X.F) (regs := regs) (m := m) (r' := AK regs ((d + 1 : Nat) : Int) 0) (m' := { m with steps := m.steps + 1 }) h1 (fun _ => rfl) hr.fin rfl
  have e2 : rget (AK regs ((d + 1 : Nat) : Int) 0) (d : Int) = rget regs (d : Int) := A0 (by omega)
  have e3 : rget (AK regs ((d + 1 : Nat) : Int) 0) ((d + 1 : Nat) : Int) = 0 := Cn hd1
  refine ⟨AK (AK regs ((d + 1 : Nat) : Int) 0) (d : Int) (zf (rget regs (d : Int) == 0)), g1.trans (BL h2 (fun call => ?_) hr.fin rfl), by unfold AK; rw [List.length_set, List.length_set], ?_, ?_, fun j hj => ?_⟩
  . rw [FL, e2, e3, cJ]; rfl
  . exact Cn (by unfold AK; rw [List.length_set]; omega)
  . rw [A0 (by omega)]; exact e3
  . rw [A0 (by omega), A0 (by omega)]
theorem PK (hX : Gv X) {e : CE} {a b : BI} {d : Nat} {regs : List Int} {c : CM} {m : Mach} (h : EH X.F.blocks e a d b) (hl : (regs.length : Int) = X.F.regs) (hr : RelM X.W X.M c.m m) (hf : e.flagged = true -> rget regs (d : Int) = 0 \/ rget regs (d : Int) = 1) :
    ∃ regs' k, k <= 3 /\ Goes X.cl X.s X.F a regs m b regs' { m with steps := m.steps + k } /\ regs'.length = regs.length /\ rget regs' (d : Int) = zf (!(rget regs (d : Int) == 0)) /\ (∀ j : Nat, j < d -> rget regs' (j : Int) = rget regs (j : Int)) := by
  unfold EH at h
  cases e1 : e.flagged with
  | true =>
    rw [e1, if_pos rfl] at h
    subst h
    refine ⟨regs, 0, by omega, Goes.refl _ _ _, rfl, ?_, fun _ _ => rfl⟩
    rcases hf e1 with h | h <;> rw [h] <;> rfl
  | false =>
    rw [e1, if_neg (by decide)] at h
    obtain ⟨a1, h1, h2, rfl⟩ := h
    obtain ⟨r1, g1, g2, g3, g4, g5⟩ := OC hX h1 hl hr
    have l2 := (h2.reg hX rfl).2
    have hd : d < r1.length := by have : (d : Int) < X.F.regs := l2; omega
    refine ⟨AK r1 (d : Int) (zf (!(rget regs (d : Int) == 0))), 3, by omega, g1.trans (BL h2 (fun call => ?_) hr.fin rfl), by unfold AK; rw [List.length_set]; exact g2, Cn hd, fun j hj => by rw [A0 (by omega)]; exact g5 j hj⟩
    rw [FL, g3, g4, cJ]
    cases rget regs (d : Int) == 0 <;> rfl
theorem Qs {call : BD} {s : ByteArray} {k o n sl z : Int} {kids : List CE} {c : CM} (h : (CE.mk k o n sl z kids).flagged = true) : ((CE.mk k o n sl z kids).ev call s c).1 = 0 \/ ((CE.mk k o n sl z kids).ev call s c).1 = 1 := by
  have hz : ∀ b : Bool, zf b = 0 \/ zf b = 1 := fun b => by cases b <;> simp [zf]
  have hk : k = 7 \/ k = 8 \/ k = 9 \/ (k = 6 /\ (o = 14 \/ o = 15)) := by simpa [CE.flagged, CE.kind, CE.op] using h
  have e : (CE.mk k o n sl z kids).ev call s c = Cs call s k o kids c := by
    rw [CE.ev]
    rw [if_neg (by omega), if_neg (by omega), if_neg (by omega), if_neg (by omega), if_neg (by omega)]
  rw [e]
  cases kids with
  | nil => rw [Cs]; exact .inl rfl
  | cons e1 l =>
    rw [Cs]
    dsimp only
    cases (CE.ev call s e1 c).2.fin == 0 with
    | false => exact .inl rfl
    | true =>
      simp only [cond_true]
      cases h7 : k == 7 with
      | true => exact hz _
      | false =>
        simp only [cond_false]
        cases k == 8 && (CE.ev call s e1 c).1 == 0 with
        | true => exact .inl rfl
        | false =>
          simp only [cond_false]
          cases k == 9 && !((CE.ev call s e1 c).1 == 0) with
          | true => exact .inr rfl
          | false =>
            simp only [cond_false]
            cases l with
            | nil => rw [Cm]; exact .inl rfl
            | cons e2 l =>
              rw [Cm]
              dsimp only
              rcases hk with h | h | h | ⟨h, h2⟩
              . subst h; cases h7
              . subst h; exact hz _
              . subst h; exact hz _
              . subst h
                simp only [show ((6 : Int) == 8) = false from rfl, show ((6 : Int) == 9) = false from rfl, Bool.or_false, cond_false]
                cases (CE.ev call s e2 (CE.ev call s e1 c).2).2.fin == 0 with
                | false => exact .inl rfl
                | true =>
                  simp only [cond_true]
                  cases (BC o (CE.ev call s e1 c).1 (CE.ev call s e2 (CE.ev call s e1 c).2).1).2 == 0 <;> exact cK h2
end
def DX (call : BD) (s : ByteArray) : List CE -> CM -> List Int × CM
  | [], c => ([], c)
  | e :: l, c => bif (e.ev call s c).2.fin == 0 then ((e.ev call s c).1 :: (DX call s l (e.ev call s c).2).1, (DX call s l (e.ev call s c).2).2) else ([], (e.ev call s c).2)
theorem Jv {call : BD} {s : ByteArray} {f : Int} : ∀ (l : List CE) (args : List Int) (c : CM), c.fin = 0 -> A5 call s f l args c = bif (DX call s l c).2.fin == 0 then call f (args ++ (DX call s l c).1) (DX call s l c).2 else (0, (DX call s l c).2)
  | [], args, c, h => by
    rw [A5, DX, List.append_nil]
    dsimp only
    rw [h]; rfl
  | e :: l, args, c, h => by
    rw [A5, DX]
    dsimp only
    cases e1 : (CE.ev call s e c).2.fin == 0 with
    | true =>
      simp only [cond_true]
      rw [Jv l _ _ (by simpa using e1), List.append_assoc]; rfl
    | false =>
      simp only [cond_false, e1]
structure fo (X : Cx) (l : List CE) (d : Nat) (a b : BI) (regs : List Int) (c : CM) (m : Mach) (q : List Int × CM) : Prop where
  le : c.m.steps <= q.2.m.steps
  go : q.2.fin = 0 -> q.2.over = false /\ q.1.length = l.length /\ (∀ x ∈ q.1, CD x) /\ ∃ regs' m', Goes X.cl X.s X.F a regs m b regs' m' /\ RelM X.W X.M q.2.m m' /\ regs'.length = regs.length /\ (∀ (i : Nat) (x : Int), q.1[i]? = some x -> rget regs' ((d + i : Nat) : Int) = x) /\ (∀ j : Nat, j < d -> rget regs' (j : Int) = rget regs (j : Int)) /\ m'.steps + X.K * c.m.steps <= m.steps + 8 * CE.partsL l + X.K * q.2.m.steps
  stop : q.2.fin ≠ 0 -> q.2.fin ≠ 5 -> ∃ m', Fp X.cl X.s X.F a regs m m' /\ m'.fin = q.2.fin /\ m'.out = q.2.m.out /\ m'.steps + X.K * c.m.steps <= m.steps + 8 * CE.partsL l + X.K * q.2.m.steps
section
variable {X : Cx}
theorem Yl : ∀ (l : List CE), (∀ e ∈ l, TJ X e) -> ∀ (d : Nat) (a b : BI) (regs : List Int) (c : CM) (m : Mach), CE.codeL X.C X.F.blocks l d a b -> CE.okL X.C X.n l -> (regs.length : Int) = X.F.regs -> c.over = false -> RelM X.W X.M c.m m -> fo X l d a b regs c m (DX X.call X.s l c)
  | [], _, d, a, b, regs, c, m, hc, _, _, ho, hr => by
    rw [CE.codeL] at hc
    subst hc
    rw [DX]
    refine ⟨Nat.le_refl _, fun _ => ⟨ho, rfl, fun x hx => by simp at hx, regs, m, Goes.refl _ _ _, hr, rfl, fun i x h => by simp at h, fun _ _ => rfl, by rw [CE.partsL]; dsimp only; omega⟩, fun h _ => absurd (show c.fin = 0 from hr.cfin) h⟩
  | e :: l, hI, d, a, b, regs, c, m, hc, hok, hl, ho, hr => by
    rw [CE.codeL] at hc
    obtain ⟨a1, h1, h2⟩ := hc
    rw [CE.okL] at hok
    have k1 := hI e (List.mem_cons.2 (.inl rfl)) d a a1 regs c m h1 hok.1 hl ho hr
    rw [DX]
    generalize e.ev X.call X.s c = p at k1 |-
    obtain ⟨x, c1⟩ := p
    dsimp only
    cases e1 : c1.fin == 0 with
    | false =>
      simp only [cond_false]
      have hne : c1.fin ≠ 0 := by simpa using e1
      refine ⟨k1.le, fun h => absurd h hne, fun _ h5 => ?_⟩
      obtain ⟨m', g1, g2, g3, g4⟩ := k1.stop hne h5
      exact ⟨m', g1, g2, g3, by rw [CE.partsL]; dsimp only at g4 |-; omega⟩
    | true =>
      simp only [cond_true]
      obtain ⟨o1, v1, r1, m1, g1, g2, g3, g4, g5, g6⟩ := k1.go (by simpa using e1)
      dsimp only at o1 v1 g2 g4 g6
      have k2 := Yl l (fun e he => hI e (List.mem_cons.2 (.inr he))) (d + 1) a1 b r1 c1 m1 h2 hok.2 (by rw [g3]; exact hl) o1 g2
      generalize DX X.call X.s l c1 = q at k2 |-
      obtain ⟨xs, c2⟩ := q
      have le1 := k1.le
      have le2 := k2.le
      dsimp only at le1 le2
      refine ⟨Nat.le_trans le1 le2, fun h => ?_, fun h h5 => ?_⟩
      . obtain ⟨o2, n2, v2, r2, m2, f1, f2, f3, f4, f5, f6⟩ := k2.go h
        dsimp only at o2 n2 v2 f2 f4 f6 |-
        refine ⟨o2, by rw [List.length_cons, List.length_cons, n2], fun y hy => ?_, r2, m2, g1.trans f1, f2, f3.trans g3, fun i y hy => ?_, fun j hj => (f5 j (by omega)).trans (g5 j hj), ?_⟩
        . rcases List.mem_cons.1 hy with rfl | hy
          . exact v1
          . exact v2 y hy
        . cases i with
          | zero =>
            simp at hy; subst hy
            rw [Nat.add_zero, f5 d (by omega)]
            exact g4
          | succ i =>
            have := f4 i y (by simpa using hy)
            rw [show d + (i + 1) = d + 1 + i by omega]; exact this
        . rw [CE.partsL]; omega
      . obtain ⟨m2, f1, f2, f3, f4⟩ := k2.stop h h5
        dsimp only at f4 |-
        exact ⟨m2, g1.stops f1, f2, f3, by rw [CE.partsL]; omega⟩
theorem L9 {a : BI} {first : Int} {d : Nat} {regs args : List Int} {m : Mach} (h0 : m.fin = 0) : ∀ (n : Nat), (∀ i, i < n -> InsAt X.F.blocks (a.1, a.2 + i) (AM (first + i) (d + i))) -> (∀ i, i < n -> rget regs ((d + i : Nat) : Int) = rget args (i : Int)) ->
    Goes X.cl X.s X.F a regs m (a.1, a.2 + n) regs { m with words := CB m.words first args n, steps := m.steps + n }
  | 0, _, _ => Goes.refl _ _ _
  | n + 1, h1, h2 => by
    have ih := L9 h0 n (fun i hi => h1 i (by omega)) (fun i hi => h2 i (by omega))
    refine ih.trans (BL (h1 n (by omega)) (fun call => ?_) h0 rfl)
    rw [Ga, h2 n (by omega)]; rfl
theorem Iy {C : Core} {g : Int} {fn : CFn} (h : C.funcs[g.toNat]? = some fn) : C.first g = fn.first := by
  unfold Core.first; rw [h]; rfl
theorem bO {g : Int} (h : 0 <= g) : ((g.toNat : Nat) : Int) = g := by omega
theorem OP {xs : List Int} {regs : List Int} {d : Nat} (h : ∀ (i : Nat) (x : Int), xs[i]? = some x -> rget regs ((d + i : Nat) : Int) = x) : ∀ i, i < xs.length -> rget regs ((d + i : Nat) : Int) = rget xs (i : Int) := fun i hi => by
  obtain ⟨x, hx⟩ := At hi
  rw [h i x hx]
  unfold rget
  rw [Int.toNat_natCast, hx]; rfl
structure ft (X : Cx) (n : Nat) (a b : BI) (regs : List Int) (c : CM) (m : Mach) (w : Bool) (p : Int × CM) : Prop where
  le : c.m.steps <= p.2.m.steps
  go : p.2.fin = 0 -> p.2.over = false /\ CD p.1 /\ ∃ m', Goes X.cl X.s X.F a regs m b regs m' /\ RelM X.W X.M p.2.m m' /\ (w = true -> rget m'.words X.C.words = p.1) /\ m'.steps + X.K * c.m.steps <= m.steps + n + 1 + X.K * p.2.m.steps
  stop : p.2.fin ≠ 0 -> p.2.fin ≠ 5 -> ∃ m', Fp X.cl X.s X.F a regs m m' /\ m'.fin = p.2.fin /\ m'.out = p.2.m.out /\ m'.steps + X.K * c.m.steps <= m.steps + n + 1 + X.K * p.2.m.steps
theorem bA (hX : Gv X) {g : Int} {fn : CFn} (hg : 0 <= g) (hg2 : g < X.n) (hfn : X.C.funcs[g.toNat]? = some fn) {args : List Int} {a b : BI} {d : Nat} {regs : List Int} {c : CM} {m : Mach} (hn : (args.length : Int) = fn.params) (hw : ∀ x ∈ args, CD x) (ho : c.over = false) (hr : RelM X.W X.M c.m m)
    (hc : IQ X.F.blocks a (X.C.first g) g args.length d b) (hv : ∀ i, i < args.length -> rget regs ((d + i : Nat) : Int) = rget args (i : Int)) : ft X args.length a b regs c m fn.word (X.call g args c) := by
  obtain ⟨h1, h2, rfl⟩ := hc
  rw [Iy hfn] at h1
  have s1 := L9 hr.fin args.length h1 hv
  have co := hX.call g.toNat fn args c m { m with words := CB m.words fn.first args args.length, steps := m.steps + args.length + 1 } (by omega) hfn hn hw ho hr rfl rfl rfl hr.fin
  rw [bO hg] at co
  refine ⟨co.le, fun h => ?_, fun h h5 => ?_⟩
  . obtain ⟨o, v, m', k1, k2, k3, k4, k5⟩ := co.go h
    dsimp only at k2 k5
    exact ⟨o, v, m', s1.trans (SZ h2 (fun fu hfu => k1 fu hfu) k3.fin k2), k3, k4, by omega⟩
  . obtain ⟨m', k1, k2, k3, k4, k5⟩ := co.stop h h5
    dsimp only at k2 k5
    exact ⟨m', s1.stops (PP h2 (fun fu hfu => k1 fu hfu) (by rw [k3]; exact h) k2), k3, k4, by omega⟩
end
section
variable {X : Cx}
theorem EvOk.fail {k d : Nat} {a b : BI} {regs r' : List Int} {c : CM} {m m' : Mach} {p : Int × CM} {t : Tac} (ht : InsAt X.F.blocks a t) (hm : ∀ call, AL call X.s t regs { m with steps := m.steps + 1 } = (r', m')) (hf : m'.fin = p.2.fin) (h0 : p.2.fin ≠ 0) (hs : m'.steps = m.steps + 1) (ho : m'.out = p.2.m.out) (hst : p.2.m.steps = c.m.steps) (hk : 1 <= k) :
    EvOk X k d a b regs c m p :=
  ⟨by omega, fun h => absurd h h0, fun _ _ => ⟨m', Ma ht hm (by rw [hf]; exact h0) hs, hf, ho, by rw [hst]; omega⟩⟩
theorem AW {e : CE} : ∀ {l : List CE}, e ∈ l -> e.parts <= CE.partsL l
  | x :: l, h => by
    rw [CE.partsL]
    rcases List.mem_cons.1 h with rfl | h
    . omega
    . have := AW h; omega
theorem CY {l : List CE} (h : l.length = 1) : ∃ e, l = [e] := by
  cases l with
  | nil => cases h
  | cons e l => cases l with
    | nil => exact ⟨e, rfl⟩
    | cons e2 l => simp at h
theorem len_two {l : List CE} (h : l.length = 2) : ∃ e f, l = [e, f] := by
  cases l with
  | nil => cases h
  | cons e l => cases l with
    | nil => simp at h
    | cons e2 l => cases l with
      | nil => exact ⟨e, e2, rfl⟩
      | cons e3 l => simp at h
theorem flag_of {call : BD} {s : ByteArray} {e : CE} {c : CM} (h : e.flagged = true) : (e.ev call s c).1 = 0 \/ (e.ev call s c).1 = 1 := by
  cases e with
  | mk k o n sl z kids => exact Qs h
theorem EvOk.truth (hX : Gv X) {k d : Nat} {a a1 b : BI} {regs : List Int} {c : CM} {m : Mach} {e : CE} {p : Int × CM} (h : EvOk X k d a a1 regs c m p) (hl : (regs.length : Int) = X.F.regs) (ht : EH X.F.blocks e a1 d b) (hf : e.flagged = true -> p.1 = 0 \/ p.1 = 1) (h0 : p.2.fin = 0) :
    p.2.over = false /\ ∃ regs' m', Goes X.cl X.s X.F a regs m b regs' m' /\ RelM X.W X.M p.2.m m' /\ regs'.length = regs.length /\ rget regs' (d : Int) = zf (!(p.1 == 0)) /\ (∀ j : Nat, j < d -> rget regs' (j : Int) = rget regs (j : Int)) /\ m'.steps + X.K * c.m.steps <= m.steps + (k + 3) + X.K * p.2.m.steps := by
  obtain ⟨o1, v1, r1, m1, g1, g2, g3, g4, g5, g6⟩ := h.go h0
  obtain ⟨r2, j, hj, f1, f2, f3, f4⟩ := PK (c := p.2) hX ht (by rw [g3]; exact hl) g2 (fun e => by rw [g4]; exact hf e)
  exact ⟨o1, r2, _, g1.trans f1, g2.step _ _, f2.trans g3, by rw [f3, g4], fun i hi => (f4 i hi).trans (g5 i hi), by dsimp only; omega⟩
theorem Sq (hX : Gv X) {e : CE} (hI : TJ X e) {d r h : Nat} {a1 a2 : BI} {regs : List Int} {c : CM} {m : Mach} (hc : e.code X.C X.F.blocks d (r, 0) a1) (ht : EH X.F.blocks e a1 d a2) (hj : By X.F.blocks a2 1 0 h 0) (hok : e.ok X.C X.n) (hl : (regs.length : Int) = X.F.regs) (ho : c.over = false) (hr : RelM X.W X.M c.m m) :
    EvOk X (8 * e.parts + 4) d (r, 0) (h, 0) regs c m (zf (!((e.ev X.call X.s c).1 == 0)), (e.ev X.call X.s c).2) := by
  have k1 := hI d (r, 0) a1 regs c m hc hok hl ho hr
  have hf : e.flagged = true -> (e.ev X.call X.s c).1 = 0 \/ (e.ev X.call X.s c).1 = 1 := flag_of
  generalize e.ev X.call X.s c = p at k1 hf |-
  refine ⟨k1.le, fun h0 => ?_, fun h0 h5 => ?_⟩
  . obtain ⟨o1, r1, m1, g1, g2, g3, g4, g5, g6⟩ := k1.truth hX hl ht hf h0
    exact ⟨o1, U3 _, r1, _, g1.trans (FP hj), g2.step _ _, g3, g4, g5, by dsimp only at g6 |-; omega⟩
  . obtain ⟨m', g1, g2, g3, g4⟩ := k1.stop h0 h5
    exact ⟨m', g1, g2, g3, by dsimp only at g4 |-; omega⟩
theorem ends_eq {G : List Block} {k : Int} {a : BI} {d r h : Nat} (he : if k = 8 then By G a 2 d r h else By G a 2 d h r) : (k = 8 /\ By G a 2 d r h) \/ (k ≠ 8 /\ By G a 2 d h r) := by
  by_cases e : k = 8
  . rw [if_pos e] at he; exact .inl ⟨e, he⟩
  . rw [if_neg e] at he; exact .inr ⟨e, he⟩
theorem Rz {W M : Nat} {c m : Mach} (h : RelM W M c m) (z : Int) : CD (rget c.words z) := C2 h.ok z
theorem bz (hX : Gv X) : ∀ (n : Nat) (e : CE), e.parts <= n -> TJ X e
  | 0, e, h => by cases e; rw [CE.parts] at h; omega
  | n + 1, e, hn => by
    cases e with
    | mk k o num sl z kids =>
    rw [CE.parts] at hn
    have hI : ∀ e ∈ kids, TJ X e := fun e he => bz hX n e (by have := AW he; omega)
    intro d a b regs c m hc hok hl ho hr
    rw [CE.code] at hc
    rw [CE.ok] at hok
    obtain ⟨hkids, hk⟩ := hok
    rw [CE.ev]
    rw [CE.parts]
    have hW := hX.w
    rcases hk with ⟨rfl, hw⟩ | ⟨rfl, h0, h1⟩ | ⟨rfl, h1, z1, z2, s0, s1⟩ | ⟨rfl, s0, s1, fn, hfn, hwd, hpar, h6⟩ | rfl | ⟨rfl, h2, o1, o2⟩ | ⟨rfl, h1⟩ | ⟨rfl, h2⟩ | ⟨rfl, h2⟩
    . rw [if_pos rfl] at hc |-
      have hd := (hc.1.reg hX rfl).2
      exact EvOk.ins (m' := { m with steps := m.steps + 1 }) hc.1 (fun _ => rfl) (by have : (d : Int) < X.F.regs := hd; omega) rfl rfl (hr.step c.m.steps _) ho hw (by omega) hc.2
    . rw [if_neg (by decide), if_pos rfl] at hc |-
      have hd := (hc.1.reg hX rfl).2
      exact EvOk.ins (m' := { m with steps := m.steps + 1 }) hc.1 (fun _ => by rw [Mo]; exact congrArg (fun v => (AK regs (d : Int) v, _)) (hr.get h0 (by omega))) (by have : (d : Int) < X.F.regs := hd; omega) rfl rfl (hr.step c.m.steps _) ho (Rz hr sl) (by omega) hc.2
    . obtain ⟨e, rfl⟩ := CY h1
      rw [if_neg (by decide), if_neg (by decide), if_pos rfl] at hc |-
      obtain ⟨a1, c1, c2, rfl⟩ := hc
      simp only [CE.codeL] at c1
      obtain ⟨a1', c1, rfl⟩ := c1
      simp only [CE.okL] at hkids
      have k1 := hI e (List.mem_singleton.2 rfl) d a _ regs c m c1 hkids.1 hl ho hr
      rw [Dn]
      simp only [CE.partsL, Nat.add_zero]
      generalize e.ev X.call X.s c = p at k1 |-
      obtain ⟨x, c1'⟩ := p
      dsimp only
      cases e1 : c1'.fin == 0 with
      | false => exact k1.ended (by simpa using e1) (by omega) 0
      | true =>
        simp only [cond_true]
        obtain ⟨ov, v1, r1, m1, g1, g2, g3, g4, g5, g6⟩ := k1.go (by simpa using e1)
        dsimp only at ov v1 g2 g4 g6
        have hd := (c2.reg hX rfl).2
        have le1 := k1.le
        refine EvOk.pre (n1 := 8 * e.parts) (n2 := 8) ?_ g1 g3 le1 g5 g6 (by omega)
        by_cases hx : x >= z
        . rw [decide_eq_true hx, cond_true]
          exact EvOk.fail (m' := { m1 with steps := m1.steps + 1, fin := 3 }) c2 (fun _ => by rw [KQ, g4, decide_eq_true hx]; rfl) rfl (by show (3 : Int) ≠ 0; decide) rfl g2.out rfl (by omega)
        . rw [decide_eq_false hx, cond_false]
          refine EvOk.ins (m' := { m1 with steps := m1.steps + 1 }) c2 (fun _ => ?_) (by have : (d : Int) < X.F.regs := hd; omega) rfl rfl (g2.step c1'.m.steps _) ov (Rz g2 _) (by omega) rfl
          rw [KQ, g4, decide_eq_false hx, cond_false]
          exact congrArg (fun v => (AK r1 (d : Int) v, _)) (g2.get (by have := v1.1; omega) (by omega))
    . rw [if_neg (by decide), if_neg (by decide), if_neg (by decide), if_pos rfl] at hc |-
      obtain ⟨a1, a2, c1, c2, c3, rfl⟩ := hc
      have k1 := Yl kids hI d a a1 regs c m c1 hkids hl ho hr
      rw [Jv _ _ _ hr.cfin, List.nil_append]
      generalize DX X.call X.s kids c = q at k1 |-
      obtain ⟨xs, c1'⟩ := q
      have le1 := k1.le
      dsimp only at le1 |-
      cases e1 : c1'.fin == 0 with
      | false =>
        simp only [cond_false]
        have hne : c1'.fin ≠ 0 := by simpa using e1
        refine ⟨le1, fun h => absurd h hne, fun h h5 => ?_⟩
        obtain ⟨m', g1, g2, g3, g4⟩ := k1.stop h h5
        exact ⟨m', g1, g2, g3, by dsimp only at g4 |-; omega⟩
      | true =>
        simp only [cond_true]
        obtain ⟨ov, n1, v1, r1, m1, g1, g2, g3, g4, g5, g6⟩ := k1.go (by simpa using e1)
        dsimp only at ov n1 v1 g2 g4 g6
        rw [<- n1] at c2
        have k2 := bA hX s0 s1 hfn (by rw [n1]; exact hpar.symm) v1 ov g2 c2 (OP g4)
        have le2 := k2.le
        have hd := (c3.reg hX rfl).2
        generalize X.call sl xs c1' = p at k2 le2 |-
        obtain ⟨x, c2'⟩ := p
        dsimp only at le2
        refine ⟨by dsimp only; omega, fun h => ?_, fun h h5 => ?_⟩
        . obtain ⟨o2, v2, m2, f1, f2, f3, f4⟩ := k2.go h
          dsimp only at o2 v2 f2 f3 f4 |-
          have hdl : d < r1.length := by have : (d : Int) < X.F.regs := hd; omega
          exact ⟨o2, v2, AK r1 (d : Int) x, { m2 with steps := m2.steps + 1 }, (g1.trans f1).trans (BL c3 (fun _ => by rw [Mo, <- f3 hwd]) f2.fin rfl), f2.step _ _, by unfold AK; rw [List.length_set]; exact g3, Cn hdl, fun j hj => by rw [A0 (by omega)]; exact g5 j hj, by dsimp only; omega⟩
        . obtain ⟨m2, f1, f2, f3, f4⟩ := k2.stop h h5
          dsimp only at f4 |-
          exact ⟨m2, g1.stops f1, f2, f3, by omega⟩
    . rw [if_neg (by decide), if_neg (by decide), if_neg (by decide), if_neg (by decide), if_pos rfl] at hc |-
      have hd := (hc.1.reg hX rfl).2
      have hdl : d < regs.length := by have : (d : Int) < X.F.regs := hd; omega
      by_cases hrd : c.m.read < X.s.size
      . rw [decide_eq_true hrd, cond_true]
        refine EvOk.ins (m' := { m with steps := m.steps + 1, read := m.read + 1 }) hc.1 (fun _ => ?_) hdl rfl rfl ⟨hr.clen, hr.len, hr.w, hr.ok, hr.out, ?_, hr.fin, hr.cfin⟩ ho (U4 _) (by omega) hc.2
        . rw [OE]
          dsimp only
          rw [hr.read, decide_eq_true hrd]; rfl
        . show m.read + 1 = c.m.read + 1
          rw [hr.read]
      . rw [decide_eq_false hrd, cond_false]
        refine EvOk.ins (m' := { m with steps := m.steps + 1 }) hc.1 (fun _ => ?_) hdl rfl rfl (hr.step c.m.steps _) ho ⟨by show (0 : Int) <= 256; decide, by show (256 : Int) < 4294967296; decide⟩ (by omega) hc.2
        rw [OE]
        dsimp only
        rw [hr.read, decide_eq_false hrd]; rfl
    . obtain ⟨e1, e2, rfl⟩ := len_two h2
      rw [if_neg (by decide), if_neg (by decide), if_neg (by decide), if_neg (by decide), if_neg (by decide)] at hc |-
      rw [if_pos rfl] at hc
      obtain ⟨a3, c1, c2, rfl⟩ := hc
      simp only [CE.codeL] at c1
      obtain ⟨a1, c1, a2, c1', rfl⟩ := c1
      simp only [CE.okL] at hkids
      have k1 := hI e1 (by simp) d a a1 regs c m c1 hkids.1 hl ho hr
      rw [Cs]
      simp only [CE.partsL, Nat.add_zero]
      generalize e1.ev X.call X.s c = p at k1 |-
      obtain ⟨x, d1⟩ := p
      dsimp only
      cases f1 : d1.fin == 0 with
      | false => exact k1.ended (by simpa using f1) (by omega) 0
      | true =>
        simp only [cond_true, show ((6 : Int) == 7) = false from rfl, show ((6 : Int) == 8) = false from rfl, show ((6 : Int) == 9) = false from rfl, Bool.false_and, cond_false]
        obtain ⟨ov, v1, r1, m1, g1, g2, g3, g4, g5, g6⟩ := k1.go (by simpa using f1)
        dsimp only at ov v1 g2 g4 g6
        have le1 := k1.le
        refine EvOk.pre (n1 := 8 * e1.parts) (n2 := 8 + 8 * e2.parts) ?_ g1 g3 le1 g5 g6 (by omega)
        rw [Cm]
        have k2 := hI e2 (by simp) (d + 1) a1 _ r1 d1 m1 c1' hkids.2.1 (by rw [g3]; exact hl) ov g2
        generalize e2.ev X.call X.s d1 = q at k2 |-
        obtain ⟨y, d2⟩ := q
        dsimp only
        simp only [show ((6 : Int) == 8) = false from rfl, show ((6 : Int) == 9) = false from rfl, Bool.or_false, cond_false]
        cases f2 : d2.fin == 0 with
        | false => exact k2.ended (by simpa using f2) (by omega) 0
        | true =>
          simp only [cond_true]
          obtain ⟨ov2, v2, r2, m2, j1, j2, j3, j4, j5, j6⟩ := k2.go (by simpa using f2)
          dsimp only at ov2 v2 j2 j4 j6
          have le2 := k2.le
          have hxd : rget r2 (d : Int) = x := (j5 d (by omega)).trans g4
          have hd := (c2.reg hX rfl).2
          refine EvOk.pre (n1 := 8 * e2.parts) (n2 := 8) ?_ j1 j3 le2 (fun j hj => j5 j (by omega)) j6 (by omega)
          cases hz : (BC o x y).2 == 0 with
          | true =>
            simp only [cond_true]
            have hmm : ∀ call, AL call X.s (AS o d d (d + 1)) r2 { m2 with steps := m2.steps + 1 } = (AK r2 (d : Int) (BC o x y).1, { m2 with steps := m2.steps + 1 }) := fun _ => by rw [FL, hxd, j4, hz]; rfl
            exact EvOk.ins c2 hmm (by have : (d : Int) < X.F.regs := hd; omega) rfl rfl (j2.step d2.m.steps _) ov2 (G2 v1 v2) (by omega) rfl
          | false =>
            simp only [cond_false]
            have hmm : ∀ call, AL call X.s (AS o d d (d + 1)) r2 { m2 with steps := m2.steps + 1 } = (r2, { m2 with steps := m2.steps + 1, fin := 2 }) := fun _ => by rw [FL, hxd, j4, hz]; rfl
            exact EvOk.fail c2 hmm rfl (by show (2 : Int) ≠ 0; decide) rfl j2.out rfl (by omega)
    . obtain ⟨e, rfl⟩ := CY h1
      rw [if_neg (by decide), if_neg (by decide), if_neg (by decide), if_neg (by decide), if_neg (by decide)] at hc |-
      rw [if_neg (by decide), if_pos rfl] at hc
      obtain ⟨a1, c1, c2⟩ := hc
      simp only [CE.codeL] at c1
      obtain ⟨a1', c1, rfl⟩ := c1
      simp only [CE.okL] at hkids
      have k1 := hI e (List.mem_singleton.2 rfl) d a _ regs c m c1 hkids.1 hl ho hr
      rw [Cs]
      simp only [CE.partsL, Nat.add_zero]
      generalize e.ev X.call X.s c = p at k1 |-
      obtain ⟨x, d1⟩ := p
      dsimp only
      cases f1 : d1.fin == 0 with
      | false => exact k1.ended (by simpa using f1) (by omega) 0
      | true =>
        simp only [cond_true, show ((7 : Int) == 7) = true from rfl]
        obtain ⟨ov, v1, r1, m1, g1, g2, g3, g4, g5, g6⟩ := k1.go (by simpa using f1)
        dsimp only at ov v1 g2 g4 g6
        obtain ⟨r2, j1, j2, j3, j4, j5⟩ := OC hX c2 (by rw [g3]; exact hl) g2
        refine ⟨k1.le, fun _ => ⟨ov, U3 _, r2, _, g1.trans j1, g2.step _ _, j2.trans g3, by rw [j3, g4], fun j hj => (j5 j hj).trans (g5 j hj), by dsimp only; omega⟩, fun h => absurd (by simpa using f1) h⟩
    all_goals
      obtain ⟨e1, e2, rfl⟩ := len_two h2
      rw [if_neg (by decide), if_neg (by decide), if_neg (by decide), if_neg (by decide), if_neg (by decide)] at hc |-
      rw [if_neg (by decide), if_neg (by decide), if_pos (by decide)] at hc
      rw [LO] at hc
      obtain ⟨a1, a2, c1, c2, hc⟩ := hc
      rw [LN] at hc
      obtain ⟨r, h, a3, a4, c3, c4, c5, c6, rfl⟩ := hc
      simp only [CE.okL] at hkids
      have k1 := hI e1 (by simp) d a a1 regs c m c1 hkids.1 hl ho hr
      have hf1 : e1.flagged = true -> (e1.ev X.call X.s c).1 = 0 \/ (e1.ev X.call X.s c).1 = 1 := flag_of
      rw [Cs]
      simp only [CE.partsL, Nat.add_zero]
      generalize e1.ev X.call X.s c = p at k1 hf1 |-
      obtain ⟨x, d1⟩ := p
      dsimp only at hf1 |-
      cases f1 : d1.fin == 0 with
      | false => exact k1.ended (by simpa using f1) (by omega) 0
      | true =>
        have f0 : d1.fin = 0 := by simpa using f1
        obtain ⟨ov, r1, m1, g1, g2, g3, g4, g5, g6⟩ := k1.truth hX hl c2 hf1 f0
        dsimp only at ov g2 g4 g6
        have le1 := k1.le
        dsimp only at le1
        rcases ends_eq c3 with ⟨e8, he⟩ | ⟨e8, he⟩ <;> first | exact absurd rfl e8 | exact absurd e8 (by decide) | skip
        have gf := Hb (C := X.cl) (s := X.s) (f := X.F) (regs := r1) (m := m1) he
        rw [g4] at gf
        have hR := Sq hX (hI e2 (by simp)) c4 c5 c6 hkids.2.1 (regs := r1) (c := d1) (m := { m1 with steps := m1.steps + 1 }) (by rw [g3]; exact hl) ov (g2.step d1.m.steps _)
        cases hx : x == 0 with
        | true =>
          rw [hx] at gf g4
          rw [show zf (!true) = 0 from rfl, if_pos rfl] at gf
          rw [show zf (!true) = 0 from rfl] at g4
          simp only [hx, cond_true, cond_false, show ((8 : Int) == 7) = false from rfl, show ((8 : Int) == 8) = true from rfl, show ((9 : Int) == 7) = false from rfl, show ((9 : Int) == 8) = false from rfl, show ((9 : Int) == 9) = true from rfl, show ((8 : Int) == 9) = false from rfl, Bool.true_and, Bool.false_and, Bool.not_true, Bool.and_false, Bool.not_false]
          first
          | exact ⟨le1, fun _ => ⟨ov, ⟨by dsimp only; omega, by dsimp only; omega⟩, r1, _, g1.trans gf, g2.step d1.m.steps _, g3, g4, g5, by dsimp only; omega⟩, fun h => absurd f0 h⟩
          | exact EvOk.pre (n1 := 8 * e1.parts + 4) hR (g1.trans gf) g3 le1 g5 (by dsimp only; omega) (by omega)
          | (rw [Cm]; simp only [show ((9 : Int) == 8) = false from rfl, show ((9 : Int) == 9) = true from rfl, show ((8 : Int) == 8) = true from rfl, Bool.or_true, Bool.true_or, cond_true]; exact EvOk.pre (n1 := 8 * e1.parts + 4) hR (g1.trans gf) g3 le1 g5 (by dsimp only; omega) (by omega))
        | false =>
          rw [hx] at gf g4
          rw [show zf (!false) = 1 from rfl, if_neg (by decide)] at gf
          rw [show zf (!false) = 1 from rfl] at g4
          simp only [hx, cond_true, cond_false, show ((8 : Int) == 7) = false from rfl, show ((8 : Int) == 8) = true from rfl, show ((9 : Int) == 7) = false from rfl, show ((9 : Int) == 8) = false from rfl, show ((9 : Int) == 9) = true from rfl, show ((8 : Int) == 9) = false from rfl, Bool.true_and, Bool.false_and, Bool.not_true, Bool.and_false, Bool.not_false]
          first
          | exact ⟨le1, fun _ => ⟨ov, ⟨by dsimp only; omega, by dsimp only; omega⟩, r1, _, g1.trans gf, g2.step d1.m.steps _, g3, g4, g5, by dsimp only; omega⟩, fun h => absurd f0 h⟩
          | (rw [Cm]; simp only [show ((9 : Int) == 8) = false from rfl, show ((9 : Int) == 9) = true from rfl, show ((8 : Int) == 8) = true from rfl, Bool.or_true, Bool.true_or, cond_true]; exact EvOk.pre (n1 := 8 * e1.parts + 4) hR (g1.trans gf) g3 le1 g5 (by dsimp only; omega) (by omega))
end
def Gk (c : Core) (w : Bool) (G : List Block) (a : BI) : Prop := if w = true then InsAt G a (AT 0 0) /\ InsAt G (nx a) (AM c.words 0) /\ By G (nx (nx a)) 3 0 0 0 else By G a 3 0 0 0
mutual
def CS.code (c : Core) (w : Bool) (G : List Block) : CS -> BI -> BI -> Prop
  | .mk k s z es thn els, a, b =>
    if k = 1 then ∃ a1, CE.codeL c G es 0 a a1 /\ InsAt G a1 (AM s 0) /\ b = nx a1
    else if k = 2 then ∃ a1, CE.codeL c G es 0 a a1 /\ InsAt G a1 (BF 0 1 s z) /\ b = nx a1
    else if k = 3 then ∃ a1, CE.codeL c G es 0 a a1 /\ InsAt G a1 (Jg 0) /\ b = nx a1
    else if k = 6 then ∃ a1, CE.codeL c G es 0 a a1 /\ IQ G a1 (c.first s) s es.length 0 b
    else if k = 7 then (if es = [] then Gk c w G a else ∃ a1, CE.codeL c G es 0 a a1 /\ InsAt G a1 (AM c.words 0) /\ By G (nx a1) 3 0 0 0)
    else if k = 4 then ∃ (a1 : BI) (t h o : Nat) (a2 a3 : BI), CE.codeL c G es 0 a a1 /\ By G a1 2 0 t o /\ CS.codeL c w G thn (t, 0) a2 /\ By G a2 1 0 h 0 /\ (if els = [] then o = h else CS.codeL c w G els (o, 0) a3 /\ By G a3 1 0 h 0) /\ b = (h, 0)
    else if k = 5 then ∃ (g t h : Nat) (a1 a2 : BI), By G a 1 0 g 0 /\ CE.codeL c G es 0 (g, 0) a1 /\ By G a1 2 0 t h /\ CS.codeL c w G thn (t, 0) a2 /\ By G a2 1 0 g 0 /\ b = (h, 0)
    else False
def CS.codeL (c : Core) (w : Bool) (G : List Block) : List CS -> BI -> BI -> Prop
  | [], a, b => b = a
  | s :: l, a, b => ∃ a1, s.code c w G a a1 /\ CS.codeL c w G l a1 b
end
mutual
def CS.ok (C : Core) (n : Nat) (w : Bool) : CS -> Prop
  | .mk k s z es thn els => CE.okL C n es /\ CS.okL C n w thn /\ CS.okL C n w els /\
    ((k = 1 /\ es.length = 1 /\ 0 <= s /\ s < C.words) \/ (k = 2 /\ es.length = 2 /\ 1 <= z /\ z <= 4096 /\ 0 <= s /\ s + z <= C.words) \/ (k = 3 /\ es.length = 1) \/ (k = 4 /\ es.length = 1) \/ (k = 5 /\ es.length = 1) \/
     (k = 6 /\ 0 <= s /\ s < n /\ ∃ g, C.funcs[s.toNat]? = some g /\ g.word = false /\ g.params = es.length /\ es.length <= 6) \/ (k = 7 /\ (es = [] \/ (es.length = 1 /\ w = true))))
def CS.okL (C : Core) (n : Nat) (w : Bool) : List CS -> Prop
  | [] => True
  | s :: l => s.ok C n w /\ CS.okL C n w l
end
structure StOk (X : Cx) (w : Bool) (k : Nat) (a b : BI) (regs : List Int) (c : CM) (m : Mach) (p : CM) : Prop where
  le : c.m.steps <= p.m.steps
  go : p.fin = 0 -> p.over = false -> ∃ regs' m', Goes X.cl X.s X.F a regs m b regs' m' /\ RelM X.W X.M p.m m' /\ regs'.length = regs.length /\ m'.steps + X.K * c.m.steps <= m.steps + k + X.K * p.m.steps
  ret : p.fin = 0 -> p.over = true -> CD p.val /\ ∃ m', Fp X.cl X.s X.F a regs m m' /\ RelM X.W X.M p.m m' /\ (w = true -> rget m'.words X.C.words = p.val) /\ m'.steps + X.K * c.m.steps <= m.steps + k + X.K * p.m.steps
  stop : p.fin ≠ 0 -> p.fin ≠ 5 -> ∃ m', Fp X.cl X.s X.F a regs m m' /\ m'.fin = p.fin /\ m'.out = p.m.out /\ m'.steps + X.K * c.m.steps <= m.steps + k + X.K * p.m.steps
def VT (X : Cx) (w : Bool) (fuel : Int) (st : CS) : Prop := ∀ (a b : BI) (regs : List Int) (c : CM) (m : Mach), st.code X.C w X.F.blocks a b -> st.ok X.C X.n w -> 8 * st.parts <= X.K -> (regs.length : Int) = X.F.regs -> c.over = false -> RelM X.W X.M c.m m -> StOk X w (8 * st.parts) a b regs c m (st.run X.call X.s fuel c)
section
variable {X : Cx} {w : Bool} {fuel : Int}
theorem StOk.pre {n1 n2 n : Nat} {a a1 b : BI} {regs r1 : List Int} {c c1 p : CM} {m m1 : Mach} (h : StOk X w n2 a1 b r1 c1 m1 p) (hg : Goes X.cl X.s X.F a regs m a1 r1 m1) (hl : r1.length = regs.length) (hle : c.m.steps <= c1.m.steps)
    (hk : m1.steps + X.K * c.m.steps <= m.steps + n1 + X.K * c1.m.steps) (hn : n1 + n2 <= n) : StOk X w n a b regs c m p := by
  refine ⟨Nat.le_trans hle h.le, fun h0 h1 => ?_, fun h0 h1 => ?_, fun h0 h5 => ?_⟩
  . obtain ⟨r', m', g1, g2, g3, g4⟩ := h.go h0 h1
    exact ⟨r', m', hg.trans g1, g2, g3.trans hl, by omega⟩
  . obtain ⟨v, m', g1, g2, g3, g4⟩ := h.ret h0 h1
    exact ⟨v, m', hg.stops g1, g2, g3, by omega⟩
  . obtain ⟨m', g1, g2, g3, g4⟩ := h.stop h0 h5
    exact ⟨m', hg.stops g1, g2, g3, by omega⟩
theorem StOk.ended {k n d : Nat} {a a1 b : BI} {regs : List Int} {c : CM} {m : Mach} {p : Int × CM} (h : EvOk X k d a a1 regs c m p) (hf : p.2.fin ≠ 0) (hn : k <= n) : StOk X w n a b regs c m p.2 := by
  refine ⟨h.le, fun h0 => absurd h0 hf, fun h0 => absurd h0 hf, fun h0 h5 => ?_⟩
  obtain ⟨m', g1, g2, g3, g4⟩ := h.stop h0 h5
  exact ⟨m', g1, g2, g3, by omega⟩
theorem StOk.ins {k : Nat} {a b : BI} {regs : List Int} {c p : CM} {m m' : Mach} {t : Tac} (ht : InsAt X.F.blocks a t) (hm : ∀ call, AL call X.s t regs { m with steps := m.steps + 1 } = (regs, m')) (hs : m'.steps = m.steps + 1) (hst : p.m.steps = c.m.steps) (hr : RelM X.W X.M p.m m') (ho : p.over = false) (hk : 1 <= k) (hb : b = nx a) : StOk X w k a b regs c m p := by
  refine ⟨by omega, fun _ _ => ⟨regs, m', ?_, hr, rfl, by rw [hst]; omega⟩, fun _ h => (by rw [ho] at h; cases h), fun h _ => absurd (show p.fin = 0 from hr.cfin) h⟩
  rw [hb]
  exact BL ht hm hr.fin hs
theorem StOk.fail {k : Nat} {a b : BI} {regs r' : List Int} {c p : CM} {m m' : Mach} {t : Tac} (ht : InsAt X.F.blocks a t) (hm : ∀ call, AL call X.s t regs { m with steps := m.steps + 1 } = (r', m')) (hf : m'.fin = p.fin) (h0 : p.fin ≠ 0) (hs : m'.steps = m.steps + 1) (ho : m'.out = p.m.out) (hst : p.m.steps = c.m.steps) (hk : 1 <= k) : StOk X w k a b regs c m p :=
  ⟨by omega, fun h => absurd h h0, fun h => absurd h h0, fun _ _ => ⟨m', Ma ht hm (by rw [hf]; exact h0) hs, hf, ho, by rw [hst]; omega⟩⟩
theorem JK (hX : Gv X) {a : BI} {regs : List Int} {c : CM} {m : Mach} (h : Gk X.C w X.F.blocks a) (hl : (regs.length : Int) = X.F.regs) (hr : RelM X.W X.M c.m m) (hw : w = true -> X.W < X.M) :
    ∃ m', Fp X.cl X.s X.F a regs m m' /\ RelM X.W X.M c.m m' /\ (w = true -> rget m'.words X.C.words = 0) /\ m'.steps <= m.steps + 3 := by
  unfold Gk at h
  cases w with
  | false =>
    rw [if_neg (by decide)] at h
    exact ⟨_, IY h, hr.step c.m.steps _, fun e => by (cases e), by dsimp only; omega⟩
  | true =>
    rw [if_pos rfl] at h
    obtain ⟨h1, h2, h3⟩ := h
    have hd := (h1.reg hX rfl).2
    have hM := hw rfl
    have hWw := hX.w
    have hdl : 0 < regs.length := by have : ((0 : Nat) : Int) < X.F.regs := hd; omega
    have g1 := BL (C := X.cl) (s := X.s) (f := X.F) (regs := regs) (m := m) (r' := AK regs ((0 : Nat) : Int) 0) (m' := { m with steps := m.steps + 1 }) h1 (fun _ => rfl) hr.fin rfl
    have hm2 : ∀ call, AL call X.s (AM X.C.words 0) (AK regs ((0 : Nat) : Int) 0) { m with steps := m.steps + 2 } = (AK regs ((0 : Nat) : Int) 0, { m with words := AK m.words X.C.words 0, steps := m.steps + 2 }) := fun _ => by
      rw [Ga, Cn hdl]
    have g2 := BL (C := X.cl) (s := X.s) (f := X.F) (m := { m with steps := m.steps + 1 }) h2 hm2 hr.fin rfl
    have hlen := hr.len
    refine ⟨_, (g1.trans g2).stops (IY h3), ⟨hr.clen, by show (m.words.set X.C.words.toNat 0).length = _; rw [List.length_set]; exact hlen, fun j hj => ?_, hr.ok, hr.out, hr.read, hr.fin, hr.cfin⟩, fun _ => ?_, by dsimp only; omega⟩
    . show (m.words.set X.C.words.toNat 0)[j]? = _
      rw [List.getElem?_set_ne (by omega)]
      exact hr.w j hj
    . show rget (m.words.set X.C.words.toNat 0) X.C.words = 0
      unfold rget
      rw [List.getElem?_set_self (by omega)]; rfl
theorem PM (hX : Gv X) {a : BI} {regs : List Int} {c : CM} {m : Mach} (h1 : InsAt X.F.blocks a (AM X.C.words 0)) (h2 : By X.F.blocks (nx a) 3 0 0 0) (hr : RelM X.W X.M c.m m) (hM : X.W < X.M) :
    ∃ m', Fp X.cl X.s X.F a regs m m' /\ RelM X.W X.M c.m m' /\ rget m'.words X.C.words = rget regs 0 /\ m'.steps <= m.steps + 2 := by
  have hWw := hX.w
  have hlen := hr.len
  have g2 := BL (C := X.cl) (s := X.s) (f := X.F) (regs := regs) (r' := regs) (m := m) (m' := { m with words := AK m.words X.C.words (rget regs 0), steps := m.steps + 1 }) h1 (fun _ => rfl) hr.fin rfl
  refine ⟨_, g2.stops (IY h2), ⟨hr.clen, by show (m.words.set X.C.words.toNat _).length = _; rw [List.length_set]; exact hlen, fun j hj => ?_, hr.ok, hr.out, hr.read, hr.fin, hr.cfin⟩, ?_, by dsimp only; omega⟩
  . show (m.words.set X.C.words.toNat _)[j]? = _
    rw [List.getElem?_set_ne (by omega)]
    exact hr.w j hj
  . show rget (m.words.set X.C.words.toNat _) X.C.words = _
    unfold rget
    rw [List.getElem?_set_self (by omega)]; rfl
theorem bw (hX : Gv X) {es : CE} {thn : List CS} {g t h : Nat} {a1 a2 : BI} (hI : TJ X es) (hb : ∀ (a b : BI) (regs : List Int) (c : CM) (m : Mach), CS.codeL X.C w X.F.blocks thn a b -> (regs.length : Int) = X.F.regs -> c.over = false -> RelM X.W X.M c.m m -> StOk X w (8 * CS.partsL thn) a b regs c m (Ao X.call X.s fuel thn c))
    (hok : es.ok X.C X.n) (c1 : es.code X.C X.F.blocks 0 (g, 0) a1) (c2 : By X.F.blocks a1 2 0 t h) (c3 : CS.codeL X.C w X.F.blocks thn (t, 0) a2) (c4 : By X.F.blocks a2 1 0 g 0) (hK : 8 * (es.parts + CS.partsL thn) + 2 <= X.K) :
    ∀ (gas : Nat) (regs : List Int) (c : CM) (m : Mach), (regs.length : Int) = X.F.regs -> c.over = false -> RelM X.W X.M c.m m -> StOk X w 0 (g, 0) (h, 0) regs c m (Bk fuel (es.ev X.call X.s) (Ao X.call X.s fuel thn) gas c)
  | 0, regs, c, m, hl, ho, hr => by
    rw [Bk]
    exact ⟨Nat.le_refl _, fun h0 => (by cases h0), fun h0 => (by cases h0), fun _ h5 => absurd rfl h5⟩
  | gas + 1, regs, c, m, hl, ho, hr => by
    rw [Bk]
    rw [show c.fin = 0 from hr.cfin, ho]
    simp only [show ((0 : Int) == 0) = true from rfl, Bool.not_false, Bool.and_self, cond_true]
    unfold AD
    unfold AG
    cases ht : decide ((c.m.steps : Int) >= fuel) with
    | true =>
      simp only [cond_true, cond_false]
      exact ⟨Nat.le_refl _, fun h0 => (by cases h0), fun h0 => (by cases h0), fun _ h5 => absurd rfl h5⟩
    | false =>
      simp only [cond_true, cond_false]
      have hr1 : RelM X.W X.M (c.put { c.m with steps := c.m.steps + 1 }).m m := hr.step _ m.steps
      have k1 := hI 0 (g, 0) a1 regs (c.put { c.m with steps := c.m.steps + 1 }) m c1 hok hl ho hr1
      have hmul : X.K * (c.m.steps + 1) = X.K * c.m.steps + X.K := Nat.mul_succ _ _
      have hs1 : (c.put { c.m with steps := c.m.steps + 1 }).m.steps = c.m.steps + 1 := rfl
      generalize es.ev X.call X.s (c.put { c.m with steps := c.m.steps + 1 }) = p at k1 |-
      generalize c.put { c.m with steps := c.m.steps + 1 } = c' at k1 hr1 hs1
      obtain ⟨x, d1⟩ := p
      have le1 := k1.le
      dsimp only at le1 |-
      rw [<- hs1] at hmul
      have hle : c.m.steps <= c'.m.steps := by omega
      cases f1 : d1.fin == 0 with
      | false =>
        simp only [Bool.false_and, cond_false]
        have hne : d1.fin ≠ 0 := by simpa using f1
        have := StOk.ended (w := w) (b := (h, 0)) k1 hne (Nat.le_refl _)
        refine ⟨by omega, fun h0 => absurd h0 hne, fun h0 => absurd h0 hne, fun h0 h5 => ?_⟩
        obtain ⟨m', g1, g2, g3, g4⟩ := this.stop h0 h5
        exact ⟨m', g1, g2, g3, by dsimp only at g4; omega⟩
      | true =>
        obtain ⟨ov, v1, r1, m1, g1, g2, g3, g4, g5, g6⟩ := k1.go (by simpa using f1)
        dsimp only at ov v1 g2 g4 g6
        have gf := Hb (C := X.cl) (s := X.s) (f := X.F) (regs := r1) (m := m1) (v := 0) c2
        rw [g4] at gf
        by_cases hx : x = 0
        . subst hx
          rw [if_pos rfl] at gf
          simp only [show ((0 : Int) == 0) = true from rfl, Bool.not_true, Bool.and_false, cond_false]
          refine ⟨by omega, fun _ _ => ⟨r1, _, g1.trans gf, g2.step d1.m.steps _, g3, by dsimp only; omega⟩, fun _ h1 => (by rw [ov] at h1; cases h1), fun h0 => absurd (by simpa using f1) h0⟩
        . rw [if_neg hx] at gf
          rw [show (x == 0) = false by simpa using hx]
          simp only [Bool.not_false, Bool.and_true, cond_true]
          have k2 := hb (t, 0) a2 r1 d1 { m1 with steps := m1.steps + 1 } c3 (by rw [g3]; exact hl) ov (g2.step d1.m.steps _)
          generalize Ao X.call X.s fuel thn d1 = d2 at k2 |-
          have le2 := k2.le
          by_cases h2 : d2.fin = 0 /\ d2.over = false
          . obtain ⟨r2, m2, j1, j2, j3, j4⟩ := k2.go h2.1 h2.2
            dsimp only at j4
            have ih := bw hX hI hb hok c1 c2 c3 c4 hK gas r2 d2 { m2 with steps := m2.steps + 1 } (by rw [j3, g3]; exact hl) h2.2 (j2.step d2.m.steps _)
            exact StOk.pre (n1 := 0) ih (((g1.trans gf).trans j1).trans (FP c4)) (j3.trans g3) (by omega) (by dsimp only; omega) (by omega)
          . have e : Bk fuel (es.ev X.call X.s) (Ao X.call X.s fuel thn) gas d2 = d2 \/ (Bk fuel (es.ev X.call X.s) (Ao X.call X.s fuel thn) gas d2).fin = 5 /\ d2.m.steps <= (Bk fuel (es.ev X.call X.s) (Ao X.call X.s fuel thn) gas d2).m.steps := by
              cases gas with
              | zero => rw [Bk]; exact .inr ⟨rfl, Nat.le_refl _⟩
              | succ gas =>
                left
                rw [Bk]
                have : (d2.fin == 0 && !d2.over) = false := by
                  cases ho2 : d2.over with
                  | true => simp
                  | false =>
                    have : d2.fin ≠ 0 := fun e => h2 ⟨e, ho2⟩
                    simp [this]
                rw [this]; rfl
            rcases e with e | ⟨e, e2⟩
            . rw [e]
              refine ⟨by omega, fun h0 h1 => absurd ⟨h0, h1⟩ h2, fun h0 h1 => ?_, fun h0 h5 => ?_⟩
              . obtain ⟨v, m2, j1, j2, j3, j4⟩ := k2.ret h0 h1
                exact ⟨v, m2, (g1.trans gf).stops j1, j2, j3, by dsimp only at j4; omega⟩
              . obtain ⟨m2, j1, j2, j3, j4⟩ := k2.stop h0 h5
                exact ⟨m2, (g1.trans gf).stops j1, j2, j3, by dsimp only at j4; omega⟩
            . exact ⟨by omega, fun h0 => (by rw [e] at h0; cases h0), fun h0 => (by rw [e] at h0; cases h0), fun _ h5 => absurd e h5⟩
end
section
variable {X : Cx} {w : Bool} {fuel : Int}
theorem I1 {call : BD} {s : ByteArray} {l : List CS} {c : CM} (h : ¬ (c.fin = 0 /\ c.over = false)) : Ao call s fuel l c = c := by
  cases l with
  | nil => rw [Ao]
  | cons st l =>
    rw [Ao]
    have : (c.fin == 0 && !c.over) = false := by
      cases ho : c.over with
      | true => simp
      | false =>
        have : c.fin ≠ 0 := fun e => h ⟨e, ho⟩
        simp [this]
    rw [this]; rfl
theorem StOk.over_or {k n : Nat} {a b b' : BI} {regs : List Int} {c p : CM} {m : Mach} (h : StOk X w k a b regs c m p) (hn : ¬ (p.fin = 0 /\ p.over = false)) (hk : k <= n) : StOk X w n a b' regs c m p := by
  refine ⟨h.le, fun h0 h1 => absurd ⟨h0, h1⟩ hn, fun h0 h1 => ?_, fun h0 h5 => ?_⟩
  . obtain ⟨v, m', g1, g2, g3, g4⟩ := h.ret h0 h1
    exact ⟨v, m', g1, g2, g3, by omega⟩
  . obtain ⟨m', g1, g2, g3, g4⟩ := h.stop h0 h5
    exact ⟨m', g1, g2, g3, by omega⟩
theorem N3 : ∀ (l : List CS), (∀ st ∈ l, VT X w fuel st) -> ∀ (a b : BI) (regs : List Int) (c : CM) (m : Mach), CS.codeL X.C w X.F.blocks l a b -> CS.okL X.C X.n w l -> 8 * CS.partsL l <= X.K -> (regs.length : Int) = X.F.regs -> c.over = false -> RelM X.W X.M c.m m -> StOk X w (8 * CS.partsL l) a b regs c m (Ao X.call X.s fuel l c)
  | [], _, a, b, regs, c, m, hc, _, _, _, ho, hr => by
    rw [CS.codeL] at hc
    subst hc
    rw [Ao]
    exact ⟨Nat.le_refl _, fun _ _ => ⟨regs, m, Goes.refl _ _ _, hr, rfl, by omega⟩, fun _ h => (by rw [ho] at h; cases h), fun h => absurd (show c.fin = 0 from hr.cfin) h⟩
  | st :: l, hI, a, b, regs, c, m, hc, hok, hK, hl, ho, hr => by
    rw [CS.codeL] at hc
    obtain ⟨a1, h1, h2⟩ := hc
    rw [CS.okL] at hok
    rw [CS.partsL] at hK |-
    have k1 := hI st (List.mem_cons.2 (.inl rfl)) a a1 regs c m h1 hok.1 (by omega) hl ho hr
    rw [Ao, show c.fin = 0 from hr.cfin, ho]
    simp only [show ((0 : Int) == 0) = true from rfl, Bool.not_false, Bool.and_self, cond_true]
    generalize st.run X.call X.s fuel c = p at k1 |-
    by_cases hp : p.fin = 0 /\ p.over = false
    . obtain ⟨r1, m1, g1, g2, g3, g4⟩ := k1.go hp.1 hp.2
      exact StOk.pre (n1 := 8 * st.parts) (N3 l (fun st hs => hI st (List.mem_cons.2 (.inr hs))) a1 b r1 p m1 h2 hok.2 (by omega) (by rw [g3]; exact hl) hp.2 g2) g1 g3 k1.le g4 (by omega)
    . rw [I1 hp]
      exact k1.over_or hp (by omega)
theorem AO {st : CS} : ∀ {l : List CS}, st ∈ l -> st.parts <= CS.partsL l
  | x :: l, h => by
    rw [CS.partsL]
    rcases List.mem_cons.1 h with rfl | h
    . omega
    . have := AO h; omega
theorem EQ {C : Core} {G : List Block} {e : CE} {d : Nat} {a b : BI} (h : CE.codeL C G [e] d a b) : e.code C G d a b := by
  rw [CE.codeL] at h
  obtain ⟨a1, h1, h2⟩ := h
  rw [CE.codeL] at h2
  subst h2; exact h1
theorem Tf {C : Core} {G : List Block} {e f : CE} {d : Nat} {a b : BI} (h : CE.codeL C G [e, f] d a b) : ∃ a1, e.code C G d a a1 /\ f.code C G (d + 1) a1 b := by
  rw [CE.codeL] at h
  obtain ⟨a1, h1, h2⟩ := h
  exact ⟨a1, h1, EQ h2⟩
theorem Wr (hX : Gv X) (hM : w = true -> X.W < X.M) : ∀ (n : Nat) (st : CS), st.parts <= n -> VT X w fuel st
  | 0, st, h => by cases st; rw [CS.parts] at h; omega
  | n + 1, st, hn => by
    cases st with
    | mk k s z es thn els =>
    rw [CS.parts] at hn
    have hE : ∀ e ∈ es, TJ X e := fun e _ => bz hX e.parts e (Nat.le_refl _)
    have hT : ∀ s ∈ thn, VT X w fuel s := fun s hs => Wr hX hM n s (by have := AO hs; omega)
    have hL : ∀ s ∈ els, VT X w fuel s := fun s hs => Wr hX hM n s (by have := AO hs; omega)
    intro a b regs c m hc hok hK hl ho hr
    rw [CS.code] at hc
    rw [CS.ok] at hok
    rw [CS.parts] at hK |-
    obtain ⟨hes, hthn, hels, hk⟩ := hok
    rw [CS.run]
    have hW := hX.w
    rcases hk with ⟨rfl, h1, s0, s1⟩ | ⟨rfl, h2, z1, z2, s0, s1⟩ | ⟨rfl, h1⟩ | ⟨rfl, h1⟩ | ⟨rfl, h1⟩ | ⟨rfl, s0, s1, fn, hfn, hwd, hpar, h6⟩ | ⟨rfl, h1⟩
    . obtain ⟨e, rfl⟩ := CY h1
      rw [if_pos rfl] at hc
      rw [if_neg (by decide), if_neg (by decide)]
      obtain ⟨a1, c1, c2, rfl⟩ := hc
      simp only [CE.okL] at hes
      have k1 := hE e (by simp) 0 a a1 regs c m (EQ c1) hes.1 hl ho hr
      rw [Bc]
      simp only [CE.partsL, Nat.add_zero]
      simp only [CE.partsL, Nat.add_zero] at hK
      generalize e.ev X.call X.s c = p at k1 |-
      obtain ⟨x, d1⟩ := p
      dsimp only
      cases f1 : d1.fin == 0 with
      | false => exact StOk.ended k1 (by simpa using f1) (by omega)
      | true =>
        rw [cond_true]
        rw [if_neg (by decide), if_pos trivial]
        obtain ⟨ov, v1, r1, m1, g1, g2, g3, g4, g5, g6⟩ := k1.go (by simpa using f1)
        dsimp only at ov v1 g2 g4 g6
        refine StOk.pre (n1 := 8 * e.parts) (n2 := 8) ?_ g1 g3 k1.le g6 (by omega)
        exact StOk.ins (m' := { m1 with words := AK m1.words s x, steps := m1.steps + 1 }) c2 (fun _ => by rw [Ga, g4]) rfl rfl (g2.put s0 (by omega) v1 d1.m.steps _) ov (by omega) rfl
    . obtain ⟨e1, e2, rfl⟩ := len_two h2
      rw [if_neg (by decide), if_pos rfl] at hc
      rw [if_neg (by decide), if_neg (by decide)]
      obtain ⟨a2, c1, c2, rfl⟩ := hc
      obtain ⟨a1, c1, c1'⟩ := Tf c1
      simp only [CE.okL] at hes
      have k1 := hE e1 (by simp) 0 a a1 regs c m c1 hes.1 hl ho hr
      rw [Bc]
      simp only [CE.partsL, Nat.add_zero]
      simp only [CE.partsL, Nat.add_zero] at hK
      generalize e1.ev X.call X.s c = p at k1 |-
      obtain ⟨x, d1⟩ := p
      dsimp only
      cases f1 : d1.fin == 0 with
      | false => exact StOk.ended k1 (by simpa using f1) (by omega)
      | true =>
        rw [cond_true]
        rw [if_neg (by decide), if_neg (by decide), if_pos trivial]
        obtain ⟨ov, v1, r1, m1, g1, g2, g3, g4, g5, g6⟩ := k1.go (by simpa using f1)
        dsimp only at ov v1 g2 g4 g6
        refine StOk.pre (n1 := 8 * e1.parts) (n2 := 8 * e2.parts + 8) ?_ g1 g3 k1.le g6 (by omega)
        have k2 := hE e2 (by simp) 1 a1 a2 r1 d1 m1 c1' hes.2.1 (by rw [g3]; exact hl) ov g2
        rw [List.drop_succ_cons, List.drop_zero, Bc]
        generalize e2.ev X.call X.s d1 = q at k2 |-
        obtain ⟨y, d2⟩ := q
        dsimp only
        cases f2 : d2.fin == 0 with
        | false => exact StOk.ended k2 (by simpa using f2) (by omega)
        | true =>
          simp only [cond_true]
          obtain ⟨ov2, v2, r2, m2, j1, j2, j3, j4, j5, j6⟩ := k2.go (by simpa using f2)
          dsimp only at ov2 v2 j2 j4 j6
          have hx0 : rget r2 ((0 : Nat) : Int) = x := (j5 0 (by omega)).trans g4
          refine StOk.pre (n1 := 8 * e2.parts) (n2 := 8) ?_ j1 j3 k2.le j6 (by omega)
          by_cases hx : x >= z
          . rw [decide_eq_true hx, cond_true]
            have hmm : ∀ call, AL call X.s (BF 0 1 s z) r2 { m2 with steps := m2.steps + 1 } = (r2, { m2 with steps := m2.steps + 1, fin := 3 }) := fun _ => by rw [GK, hx0, decide_eq_true hx]; rfl
            exact StOk.fail c2 hmm rfl (by show (3 : Int) ≠ 0; decide) rfl j2.out rfl (by omega)
          . rw [decide_eq_false hx, cond_false]
            have hmm : ∀ call, AL call X.s (BF 0 1 s z) r2 { m2 with steps := m2.steps + 1 } = (r2, { m2 with words := AK m2.words (s + x) y, steps := m2.steps + 1 }) := fun _ => by rw [GK, hx0, j4, decide_eq_false hx]; rfl
            exact StOk.ins c2 hmm rfl rfl (j2.put (by have := v1.1; omega) (by omega) v2 d2.m.steps _) ov2 (by omega) rfl
    . obtain ⟨e, rfl⟩ := CY h1
      rw [if_neg (by decide), if_neg (by decide), if_pos rfl] at hc
      rw [if_neg (by decide), if_neg (by decide)]
      obtain ⟨a1, c1, c2, rfl⟩ := hc
      simp only [CE.okL] at hes
      have k1 := hE e (by simp) 0 a a1 regs c m (EQ c1) hes.1 hl ho hr
      rw [Bc]
      simp only [CE.partsL, Nat.add_zero]
      simp only [CE.partsL, Nat.add_zero] at hK
      generalize e.ev X.call X.s c = p at k1 |-
      obtain ⟨x, d1⟩ := p
      dsimp only
      cases f1 : d1.fin == 0 with
      | false => exact StOk.ended k1 (by simpa using f1) (by omega)
      | true =>
        rw [cond_true]
        rw [if_neg (by decide), if_neg (by decide), if_neg (by decide), if_pos trivial]
        obtain ⟨ov, v1, r1, m1, g1, g2, g3, g4, g5, g6⟩ := k1.go (by simpa using f1)
        dsimp only at ov v1 g2 g4 g6
        refine StOk.pre (n1 := 8 * e.parts) (n2 := 8) ?_ g1 g3 k1.le g6 (by omega)
        have hout := g2.out
        by_cases hx : d1.m.out.length >= 65536
        . rw [decide_eq_true hx, cond_true]
          have hmm : ∀ call, AL call X.s (Jg 0) r1 { m1 with steps := m1.steps + 1 } = (r1, { m1 with steps := m1.steps + 1, fin := 4 }) := fun _ => by
            rw [OD]; dsimp only; rw [hout, decide_eq_true hx]; rfl
          exact StOk.fail c2 hmm rfl (by show (4 : Int) ≠ 0; decide) rfl hout rfl (by omega)
        . rw [decide_eq_false hx, cond_false]
          have hmm : ∀ call, AL call X.s (Jg 0) r1 { m1 with steps := m1.steps + 1 } = (r1, { m1 with out := d1.m.out ++ [byteOf x], steps := m1.steps + 1 }) := fun _ => by
            rw [OD]; dsimp only; rw [hout, decide_eq_false hx, g4]; rfl
          exact StOk.ins c2 hmm rfl rfl ⟨g2.clen, g2.len, g2.w, g2.ok, rfl, g2.read, g2.fin, g2.cfin⟩ ov (by omega) rfl
    . obtain ⟨e, rfl⟩ := CY h1
      rw [if_neg (by decide), if_neg (by decide), if_neg (by decide), if_neg (by decide), if_neg (by decide), if_pos rfl] at hc
      rw [if_neg (by decide), if_neg (by decide)]
      obtain ⟨a1, t, h, o, a2, a3, c1, c2, c3, c4, c5, rfl⟩ := hc
      simp only [CE.okL] at hes
      have k1 := hE e (by simp) 0 a a1 regs c m (EQ c1) hes.1 hl ho hr
      rw [Bc]
      simp only [CE.partsL, Nat.add_zero]
      simp only [CE.partsL, Nat.add_zero] at hK
      generalize e.ev X.call X.s c = p at k1 |-
      obtain ⟨x, d1⟩ := p
      dsimp only
      cases f1 : d1.fin == 0 with
      | false => exact StOk.ended k1 (by simpa using f1) (by omega)
      | true =>
        rw [cond_true]
        rw [if_neg (by decide), if_neg (by decide), if_neg (by decide), if_neg (by decide)]
        obtain ⟨ov, v1, r1, m1, g1, g2, g3, g4, g5, g6⟩ := k1.go (by simpa using f1)
        dsimp only at ov v1 g2 g4 g6
        have gf := Hb (C := X.cl) (s := X.s) (f := X.F) (regs := r1) (m := m1) (v := 0) c2
        rw [g4] at gf
        have side : ∀ (l : List CS) (i : Nat) (j : BI), (∀ s ∈ l, VT X w fuel s) -> CS.codeL X.C w X.F.blocks l (i, 0) j -> CS.okL X.C X.n w l -> 8 * CS.partsL l <= X.K -> By X.F.blocks j 1 0 h 0 -> StOk X w (8 * CS.partsL l + 1) (i, 0) (h, 0) r1 d1 { m1 with steps := m1.steps + 1 } (Ao X.call X.s fuel l d1) := fun l i j hI hcl hokl hKl hj => by
          have k2 := N3 l hI (i, 0) j r1 d1 { m1 with steps := m1.steps + 1 } hcl hokl hKl (by rw [g3]; exact hl) ov (g2.step d1.m.steps _)
          generalize Ao X.call X.s fuel l d1 = p at k2 |-
          by_cases hp : p.fin = 0 /\ p.over = false
          . obtain ⟨r2, m2, j1, j2, j3, j4⟩ := k2.go hp.1 hp.2
            exact ⟨k2.le, fun _ _ => ⟨r2, _, j1.trans (FP hj), j2.step p.m.steps _, j3, by dsimp only at j4 |-; omega⟩, fun _ h1 => (by rw [hp.2] at h1; cases h1), fun h0 => absurd hp.1 h0⟩
          . exact k2.over_or hp (by omega)
        by_cases hx : x = 0
        . subst hx
          rw [if_pos rfl] at gf
          simp only [show ((0 : Int) == 0) = true from rfl, cond_true]
          by_cases hel : els = []
          . rw [if_pos hel] at c5
            subst c5; subst hel
            rw [Ao]
            exact ⟨k1.le, fun _ _ => ⟨r1, _, g1.trans gf, g2.step d1.m.steps _, g3, by dsimp only; omega⟩, fun _ h1 => (by rw [ov] at h1; cases h1), fun h0 => absurd (by simpa using f1) h0⟩
          . rw [if_neg hel] at c5
            exact StOk.pre (n1 := 8 * e.parts + 1) (side els o a3 hL c5.1 hels (by omega) c5.2) (g1.trans gf) g3 k1.le (by dsimp only; omega) (by omega)
        . rw [if_neg hx] at gf
          rw [show (x == 0) = false by simpa using hx]
          simp only [cond_false]
          exact StOk.pre (n1 := 8 * e.parts + 1) (side thn t a2 hT c3 hthn (by omega) c4) (g1.trans gf) g3 k1.le (by dsimp only; omega) (by omega)
    . obtain ⟨e, rfl⟩ := CY h1
      rw [if_neg (by decide), if_neg (by decide), if_neg (by decide), if_neg (by decide), if_neg (by decide), if_neg (by decide), if_pos rfl] at hc
      rw [if_neg (by decide), if_pos rfl]
      obtain ⟨g, t, h, a1, a2, c1, c2, c3, c4, c5, rfl⟩ := hc
      simp only [CE.okL] at hes
      simp only [CE.partsL, Nat.add_zero]
      simp only [CE.partsL, Nat.add_zero] at hK
      have e1 : Bc X.call X.s [e] = e.ev X.call X.s := funext fun c => by rw [Bc]
      rw [e1]
      have g0 := FP (C := X.cl) (s := X.s) (f := X.F) (regs := regs) (m := m) c1
      have k1 := bw (fuel := fuel) hX (hE e (by simp)) (fun a b regs c m h1 h2 h3 h4 => N3 thn hT a b regs c m h1 hthn (by omega) h2 h3 h4) hes.1 (EQ c2) c3 c4 c5 (by omega) (fuel.toNat + 1) regs c { m with steps := m.steps + 1 } hl ho (hr.step c.m.steps _)
      exact StOk.pre (n1 := 1) k1 g0 rfl (Nat.le_refl _) (by dsimp only; omega) (by omega)
    . rw [if_neg (by decide), if_neg (by decide), if_neg (by decide), if_pos rfl] at hc
      rw [if_pos rfl]
      obtain ⟨a1, c1, c2⟩ := hc
      have k1 := Yl es hE 0 a a1 regs c m c1 hes hl ho hr
      rw [Jv _ _ _ hr.cfin, List.nil_append]
      generalize DX X.call X.s es c = q at k1 |-
      obtain ⟨xs, c1'⟩ := q
      have le1 := k1.le
      dsimp only at le1 |-
      cases e1 : c1'.fin == 0 with
      | false =>
        simp only [cond_false]
        have hne : c1'.fin ≠ 0 := by simpa using e1
        refine ⟨le1, fun h => absurd h hne, fun h => absurd h hne, fun h h5 => ?_⟩
        obtain ⟨m', g1, g2, g3, g4⟩ := k1.stop h h5
        exact ⟨m', g1, g2, g3, by dsimp only at g4 |-; omega⟩
      | true =>
        simp only [cond_true]
        obtain ⟨ov, n1, v1, r1, m1, g1, g2, g3, g4, g5, g6⟩ := k1.go (by simpa using e1)
        dsimp only at ov n1 v1 g2 g4 g6
        rw [<- n1] at c2
        have k2 := bA hX s0 s1 hfn (by rw [n1]; exact hpar.symm) v1 ov g2 c2 (OP g4)
        have le2 := k2.le
        generalize X.call s xs c1' = p at k2 le2 |-
        obtain ⟨x, c2'⟩ := p
        dsimp only at le2 |-
        refine ⟨by omega, fun h _ => ?_, fun h h1 => ?_, fun h h5 => ?_⟩
        . obtain ⟨o2, v2, m2, f1, f2, f3, f4⟩ := k2.go h
          dsimp only at o2 v2 f2 f3 f4
          exact ⟨r1, m2, g1.trans f1, f2, g3, by omega⟩
        . obtain ⟨o2, _⟩ := k2.go h
          dsimp only at o2
          rw [o2] at h1; cases h1
        . obtain ⟨m2, f1, f2, f3, f4⟩ := k2.stop h h5
          dsimp only at f4
          exact ⟨m2, g1.stops f1, f2, f3, by omega⟩
    . rw [if_neg (by decide), if_neg (by decide), if_neg (by decide), if_neg (by decide), if_pos rfl] at hc
      rw [if_neg (by decide), if_neg (by decide)]
      by_cases he : es = []
      . subst he
        rw [if_pos rfl] at hc
        rw [Bc]
        dsimp only
        rw [show c.fin = 0 from hr.cfin]
        rw [show ((0 : Int) == 0) = true from rfl, cond_true, if_pos rfl]
        obtain ⟨m', g1, g2, g3, g4⟩ := JK hX hc hl hr hM
        exact ⟨Nat.le_refl _, fun _ h => (by cases h), fun _ _ => ⟨⟨by dsimp only; omega, by dsimp only; omega⟩, m', g1, g2, g3, by dsimp only; omega⟩, fun h => absurd (show c.fin = 0 from hr.cfin) h⟩
      . rw [if_neg he] at hc
        obtain ⟨h1, hw⟩ := h1.resolve_left he
        obtain ⟨e, rfl⟩ := CY h1
        obtain ⟨a1, c1, c2, c3⟩ := hc
        simp only [CE.okL] at hes
        have k1 := hE e (by simp) 0 a a1 regs c m (EQ c1) hes.1 hl ho hr
        rw [Bc]
        simp only [CE.partsL, Nat.add_zero]
        simp only [CE.partsL, Nat.add_zero] at hK
        generalize e.ev X.call X.s c = p at k1 |-
        obtain ⟨x, d1⟩ := p
        dsimp only
        cases f1 : d1.fin == 0 with
        | false => exact StOk.ended k1 (by simpa using f1) (by omega)
        | true =>
          rw [cond_true]
          rw [if_pos trivial]
          obtain ⟨ov, v1, r1, m1, g1, g2, g3, g4, g5, g6⟩ := k1.go (by simpa using f1)
          dsimp only at ov v1 g2 g4 g6
          obtain ⟨m', j1, j2, j3, j4⟩ := PM (regs := r1) hX c2 c3 g2 (hM hw)
          have le1 := k1.le
          exact ⟨le1, fun _ h => (by cases h), fun _ _ => ⟨v1, m', g1.stops j1, j2, fun _ => j3.trans g4, by dsimp only; omega⟩, fun h => absurd (show d1.fin = 0 by simpa using f1) h⟩
end
def Bd.zeros (b : Bd) (a : Int) : Nat -> Bd
  | 0 => b
  | n + 1 => (b.zeros a n).put (AM (a + n) 0)
def Bd.astores (b : Bd) (a : Int) (z : Int) : Nat -> Bd
  | 0 => b
  | n + 1 => (b.astores a z n).put (BF 1 0 (a + n) z)
def Bd.chunk1 (b : Bd) (n : Nat) : Bd := ((b.put (AT 1 0)).put (AT 2 8)).put (AT 3 n)
def Bd.chunk2 (b : Bd) : Bd := (b.opened.jump b.blocks.length).go b.blocks.length
def Bd.chunk3 (b : Bd) (l : Nat) : Bd := (b.opened.fork 4 l b.blocks.length).go b.blocks.length
def Bd.chunk (b : Bd) (a : Int) (n : Nat) : Bd := ((((b.chunk1 n).chunk2.astores a (n - 7) 8).put (AS 4 1 1 2)).put (AS 14 4 1 3)).chunk3 (b.chunk1 n).blocks.length
def chunkN (n : Nat) : Nat := min n 4096 / 8 * 8
def Bh : Nat -> Bd -> Int -> Nat -> Bd
  | 0, b, _, _ => b
  | g + 1, b, a, n => if 64 < n then Bh g (b.chunk a (chunkN n)) (a + chunkN n) (n - chunkN n) else b.zeros a n
def Bd.nought (b : Bd) (a : Int) (n : Nat) : Bd := if n = 0 then b else Bh n (b.put (AT 0 0)) a n
def RS (G : List Block) (a : BI) (first : Int) (n : Nat) (b : BI) : Prop := (∀ i, i < n -> InsAt G (a.1, a.2 + i) (AM (first + i) 0)) /\ b = (a.1, a.2 + n)
def NI (G : List Block) (a : BI) (first : Int) (n : Nat) (b : BI) : Prop := InsAt G a (AT 1 0) /\ InsAt G (nx a) (AT 2 8) /\ InsAt G (nx (nx a)) (AT 3 n) /\ ∃ l h : Nat, By G (nx (nx (nx a))) 1 0 l 0 /\
  (∀ k, k < 8 -> InsAt G (l, k) (BF 1 0 (first + k) (n - 7))) /\ InsAt G (l, 8) (AS 4 1 1 2) /\ InsAt G (l, 9) (AS 14 4 1 3) /\ By G (l, 10) 2 ((4 : Nat) : Int) l h /\ b = (h, 0)
def EI (G : List Block) : Nat -> BI -> Int -> Nat -> BI -> Prop
  | 0, a, _, _, b => b = a
  | g + 1, a, first, n, b => if 64 < n then ∃ a1, NI G a first (chunkN n) a1 /\ EI G g a1 (first + chunkN n) (n - chunkN n) b else RS G a first n b
def Fe (G : List Block) (a : BI) (first : Int) (n : Nat) (b : BI) : Prop := if n = 0 then b = a else InsAt G a (AT 0 0) /\ EI G n (nx a) first n b
theorem DE (w : List Int) (a : Int) : ∀ n, (A8 w a n).length = w.length
  | 0 => rfl
  | n + 1 => by rw [A8]; unfold AK; rw [List.length_set, DE w a n]
theorem GY {w : List Int} {a : Int} (ha : 0 <= a) (j : Nat) : ∀ n : Nat, (A8 w a n)[j]? = if a <= j /\ (j : Int) < a + n /\ j < w.length then some 0 else w[j]?
  | 0 => by rw [A8, if_neg (by omega)]
  | n + 1 => by
    rw [A8]
    unfold AK
    rw [List.getElem?_set, DE, GY ha j n]
    by_cases h : (a + n).toNat = j
    . rw [if_pos h]
      by_cases h2 : j < w.length
      . rw [if_pos (by omega), if_pos (by omega)]
      . rw [if_neg (by omega), if_neg (by omega), List.getElem?_eq_none (by omega)]
    . rw [if_neg h]
      by_cases h2 : a <= j /\ (j : Int) < a + n /\ j < w.length
      . rw [if_pos h2, if_pos (by omega)]
      . rw [if_neg h2, if_neg (by omega)]
theorem LY {w : List Int} {a : Int} (n : Nat) : ∀ k : Nat, A8 (A8 w a n) (a + n) k = A8 w a (n + k)
  | 0 => rfl
  | k + 1 => by
    rw [A8, LY n k]
    show _ = AK (A8 w a (n + k)) (a + ((n + k : Nat) : Int)) 0
    congr 1
    omega
theorem Ec (w : List Int) (a : Int) (l : List Int) : ∀ n, (CB w a l n).length = w.length
  | 0 => rfl
  | n + 1 => by rw [CB]; unfold AK; rw [List.length_set, Ec w a l n]
theorem Hm {w : List Int} {a : Int} {l : List Int} (ha : 0 <= a) (j : Nat) : ∀ n : Nat, (CB w a l n)[j]? = if a <= j /\ (j : Int) < a + n /\ j < w.length then some (rget l (j - a)) else w[j]?
  | 0 => by rw [CB, if_neg (by omega)]
  | n + 1 => by
    rw [CB]
    unfold AK
    rw [List.getElem?_set, Ec, Hm ha j n]
    by_cases h : (a + n).toNat = j
    . rw [if_pos h]
      by_cases h2 : j < w.length
      . rw [if_pos (by omega), if_pos (by omega)]
        congr 2
        omega
      . rw [if_neg (by omega), if_neg (by omega), List.getElem?_eq_none (by omega)]
    . rw [if_neg h]
      by_cases h2 : a <= j /\ (j : Int) < a + n /\ j < w.length
      . rw [if_pos h2, if_pos (by omega)]
      . rw [if_neg h2, if_neg (by omega)]
section
variable {X : Cx}
theorem NL {a : BI} {first : Int} {regs : List Int} {m : Mach} (h0 : m.fin = 0) (hz : rget regs ((0 : Nat) : Int) = 0) : ∀ (n : Nat), (∀ i, i < n -> InsAt X.F.blocks (a.1, a.2 + i) (AM (first + i) 0)) ->
    Goes X.cl X.s X.F a regs m (a.1, a.2 + n) regs { m with words := A8 m.words first n, steps := m.steps + n }
  | 0, _ => Goes.refl _ _ _
  | n + 1, h1 => by
    have ih := NL h0 hz n (fun i hi => h1 i (by omega))
    refine ih.trans (BL (h1 n (by omega)) (fun call => ?_) h0 rfl)
    rw [Ga, hz]; rfl
theorem LF {l r n : Nat} {first : Int} {regs : List Int} {m : Mach} (h0 : m.fin = 0) (hz : rget regs ((0 : Nat) : Int) = 0) (h1 : rget regs ((1 : Nat) : Int) = ((8 * r : Nat) : Int)) (hr : 8 * r + 8 <= n) (w0 : List Int) (hw : m.words = A8 w0 first (8 * r)) : ∀ (k : Nat), k <= 8 -> (∀ i, i < 8 -> InsAt X.F.blocks (l, i) (BF 1 0 (first + i) (n - 7))) ->
    Goes X.cl X.s X.F (l, 0) regs m (l, k) regs { m with words := A8 w0 first (8 * r + k), steps := m.steps + k }
  | 0, _, _ => by
    have := Goes.refl (C := X.cl) (s := X.s) (f := X.F) (l, 0) regs m
    rw [Nat.add_zero, <- hw]; exact this
  | k + 1, hk, hi => by
    have ih := LF h0 hz h1 hr w0 hw k (by omega) hi
    refine ih.trans (BL (hi k (by omega)) (fun call => ?_) h0 rfl)
    rw [GK, h1, hz, decide_eq_false (by omega), cond_false]
    show (regs, _) = (regs, _)
    congr 1
    show Mach.mk _ _ _ _ _ = Mach.mk _ _ _ _ _
    congr 1
    show AK (A8 w0 first (8 * r + k)) _ 0 = AK (A8 w0 first (8 * r + k)) (first + ((8 * r + k : Nat) : Int)) 0
    congr 1
    omega
theorem TH {x y : Nat} (h : x + y < 4294967296) : BC 4 (x : Int) (y : Int) = (((x + y : Nat) : Int), 0) := by
  unfold BC
  simp only [show ((4 : Int) == 4) = true from rfl, cond_true]
  rw [IntKind.wrap_u32]
  congr 1
  omega
theorem UW (x y : Int) : BC 14 x y = (zf (decide (x < y)), 0) := by
  unfold BC
  simp only [show ((14 : Int) == 4) = false from rfl, show ((14 : Int) == 5) = false from rfl, show ((14 : Int) == 6) = false from rfl, show ((14 : Int) == 7) = false from rfl, show ((14 : Int) == 8) = false from rfl, show ((14 : Int) == 9) = false from rfl, show ((14 : Int) == 10) = false from rfl, show ((14 : Int) == 11) = false from rfl, show ((14 : Int) == 12) = false from rfl, show ((14 : Int) == 13) = false from rfl, show ((14 : Int) == 14) = true from rfl, Bool.false_or, Bool.true_or, Bool.or_false, cond_true, cond_false]
  unfold C0 zf
  simp only [show ((14 : Int) == 14) = true from rfl, show ((14 : Int) == 15) = false from rfl, Bool.false_and, Bool.true_and, Bool.or_false]
theorem Me (hX : Gv X) {l h n q : Nat} {first : Int} (hn : n = 8 * q) (hn2 : n <= 4096) (h1 : ∀ i, i < 8 -> InsAt X.F.blocks (l, i) (BF 1 0 (first + i) (n - 7))) (h2 : InsAt X.F.blocks (l, 8) (AS 4 1 1 2)) (h3 : InsAt X.F.blocks (l, 9) (AS 14 4 1 3)) (h4 : By X.F.blocks (l, 10) 2 ((4 : Nat) : Int) l h) (w0 : List Int) :
    ∀ (g r : Nat) (regs : List Int) (m : Mach), r + g = q -> 0 < g -> (regs.length : Int) = X.F.regs -> m.fin = 0 -> rget regs ((0 : Nat) : Int) = 0 -> rget regs ((1 : Nat) : Int) = ((8 * r : Nat) : Int) -> rget regs ((2 : Nat) : Int) = ((8 : Nat) : Int) -> rget regs ((3 : Nat) : Int) = (n : Int) -> m.words = A8 w0 first (8 * r) ->
    ∃ regs', Goes X.cl X.s X.F (l, 0) regs m (h, 0) regs' { m with words := A8 w0 first n, steps := m.steps + 11 * g } /\ regs'.length = regs.length /\ rget regs' ((0 : Nat) : Int) = 0
  | 0, _, _, _, _, h, _, _, _, _, _, _, _ => absurd h (by omega)
  | g + 1, r, regs, m, hq, _, hl, h0, z0, z1, z2, z3, hw => by
    have hreg := (h3.reg hX rfl).2
    have hl4 : 4 < regs.length := by have : ((4 : Nat) : Int) < X.F.regs := hreg; omega
    have g1 := LF (X := X) h0 z0 z1 (by omega) w0 hw 8 (Nat.le_refl _) h1
    have e1 : 8 * r + 8 = 8 * (r + 1) := by omega
    rw [e1] at g1
    have hm2 : ∀ call, AL call X.s (AS 4 1 1 2) regs { m with words := A8 w0 first (8 * (r + 1)), steps := m.steps + 9 } = (AK regs ((1 : Nat) : Int) ((8 * (r + 1) : Nat) : Int), { m with words := A8 w0 first (8 * (r + 1)), steps := m.steps + 9 }) := fun _ => by
      rw [FL, z1, z2, TH (by omega)]
      rw [show 8 * r + 8 = 8 * (r + 1) by omega]; rfl
    have g2 := BL (C := X.cl) (s := X.s) (f := X.F) (m := { m with words := A8 w0 first (8 * (r + 1)), steps := m.steps + 8 }) h2 hm2 h0 rfl
    have y1 : rget (AK regs ((1 : Nat) : Int) ((8 * (r + 1) : Nat) : Int)) ((1 : Nat) : Int) = ((8 * (r + 1) : Nat) : Int) := Cn (by omega)
    have y3 : rget (AK regs ((1 : Nat) : Int) ((8 * (r + 1) : Nat) : Int)) ((3 : Nat) : Int) = (n : Int) := (A0 (by omega)).trans z3
    have hm3 : ∀ call, AL call X.s (AS 14 4 1 3) (AK regs ((1 : Nat) : Int) ((8 * (r + 1) : Nat) : Int)) { m with words := A8 w0 first (8 * (r + 1)), steps := m.steps + 10 } = (AK (AK regs ((1 : Nat) : Int) ((8 * (r + 1) : Nat) : Int)) ((4 : Nat) : Int) (zf (decide (((8 * (r + 1) : Nat) : Int) < (n : Int)))), { m with words := A8 w0 first (8 * (r + 1)), steps := m.steps + 10 }) := fun _ => by
      rw [FL, y1, y3, UW]; rfl
    have g3 := BL (C := X.cl) (s := X.s) (f := X.F) (m := { m with words := A8 w0 first (8 * (r + 1)), steps := m.steps + 9 }) h3 hm3 h0 rfl
    have g4 := Hb (C := X.cl) (s := X.s) (f := X.F) (regs := AK (AK regs ((1 : Nat) : Int) ((8 * (r + 1) : Nat) : Int)) ((4 : Nat) : Int) (zf (decide (((8 * (r + 1) : Nat) : Int) < (n : Int))))) (m := { m with words := A8 w0 first (8 * (r + 1)), steps := m.steps + 10 }) h4
    have y4 : rget (AK (AK regs ((1 : Nat) : Int) ((8 * (r + 1) : Nat) : Int)) ((4 : Nat) : Int) (zf (decide (((8 * (r + 1) : Nat) : Int) < (n : Int))))) ((4 : Nat) : Int) = zf (decide (((8 * (r + 1) : Nat) : Int) < (n : Int))) := Cn (by unfold AK; rw [List.length_set]; omega)
    rw [y4] at g4
    have g5 := ((g1.trans g2).trans g3).trans g4
    have hlen : (AK (AK regs ((1 : Nat) : Int) ((8 * (r + 1) : Nat) : Int)) ((4 : Nat) : Int) (zf (decide (((8 * (r + 1) : Nat) : Int) < (n : Int))))).length = regs.length := by unfold AK; rw [List.length_set, List.length_set]
    by_cases hg : g = 0
    . subst hg
      have hd : decide (((8 * (r + 1) : Nat) : Int) < (n : Int)) = false := decide_eq_false (by omega)
      have en : n = 8 * (r + 1) := by omega
      rw [hd, show zf false = 0 from rfl, if_pos rfl] at g5
      rw [hd, show zf false = 0 from rfl] at hlen
      refine ⟨_, ?_, hlen, ?_⟩
      . rw [en]; exact g5
      . rw [A0 (by omega), A0 (by omega)]; exact z0
    . have hd : decide (((8 * (r + 1) : Nat) : Int) < (n : Int)) = true := decide_eq_true (by omega)
      rw [hd, show zf true = 1 from rfl, if_neg (by decide)] at g5
      rw [hd, show zf true = 1 from rfl] at hlen
      obtain ⟨r2, k1, k2, k3⟩ := Me hX hn hn2 h1 h2 h3 h4 w0 g (r + 1) (AK (AK regs ((1 : Nat) : Int) ((8 * (r + 1) : Nat) : Int)) ((4 : Nat) : Int) 1) { m with words := A8 w0 first (8 * (r + 1)), steps := m.steps + 11 } (by omega) (by omega) (by rw [hlen]; exact hl) h0
        ((A0 (by omega)).trans ((A0 (by omega)).trans z0)) ((A0 (by omega)).trans y1) ((A0 (by omega)).trans ((A0 (by omega)).trans z2)) ((A0 (by omega)).trans y3) rfl
      refine ⟨r2, ?_, k2.trans hlen, k3⟩
      have k4 := g5.trans k1
      rw [show m.steps + 11 * (g + 1) = m.steps + 11 + 11 * g by omega]
      exact k4
theorem VA (hX : Gv X) {a b : BI} {n : Nat} {first : Int} {regs : List Int} {m : Mach} (h : NI X.F.blocks a first n b) (h8 : n % 8 = 0) (hn0 : 0 < n) (hn : n <= 4096) (hl : (regs.length : Int) = X.F.regs) (h0 : m.fin = 0) (hz : rget regs ((0 : Nat) : Int) = 0) :
    ∃ regs', Goes X.cl X.s X.F a regs m b regs' { m with words := A8 m.words first n, steps := m.steps + (4 + 11 * (n / 8)) } /\ regs'.length = regs.length /\ rget regs' ((0 : Nat) : Int) = 0 := by
  obtain ⟨i1, i2, i3, l, h, e1, i4, i5, i6, e2, rfl⟩ := h
  have hreg := (i6.reg hX rfl).2
  have hl4 : 4 < regs.length := by have : ((4 : Nat) : Int) < X.F.regs := hreg; omega
  have g1 := BL (C := X.cl) (s := X.s) (f := X.F) (regs := regs) (r' := AK regs ((1 : Nat) : Int) 0) (m := m) (m' := { m with steps := m.steps + 1 }) i1 (fun _ => rfl) h0 rfl
  have g2 := BL (C := X.cl) (s := X.s) (f := X.F) (regs := AK regs ((1 : Nat) : Int) 0) (r' := AK (AK regs ((1 : Nat) : Int) 0) ((2 : Nat) : Int) 8) (m := { m with steps := m.steps + 1 }) (m' := { m with steps := m.steps + 2 }) i2 (fun _ => rfl) h0 rfl
  have g3 := BL (C := X.cl) (s := X.s) (f := X.F) (regs := AK (AK regs ((1 : Nat) : Int) 0) ((2 : Nat) : Int) 8) (r' := AK (AK (AK regs ((1 : Nat) : Int) 0) ((2 : Nat) : Int) 8) ((3 : Nat) : Int) (n : Int)) (m := { m with steps := m.steps + 2 }) (m' := { m with steps := m.steps + 3 }) i3 (fun _ => rfl) h0 rfl
  have g4 := FP (C := X.cl) (s := X.s) (f := X.F) (regs := AK (AK (AK regs ((1 : Nat) : Int) 0) ((2 : Nat) : Int) 8) ((3 : Nat) : Int) (n : Int)) (m := { m with steps := m.steps + 3 }) e1
  have hlen : ∀ x y z : Int, (AK (AK (AK regs ((1 : Nat) : Int) x) ((2 : Nat) : Int) y) ((3 : Nat) : Int) z).length = regs.length := fun x y z => by unfold AK; rw [List.length_set, List.length_set, List.length_set]
  have l1 : ∀ x : Int, (AK regs ((1 : Nat) : Int) x).length = regs.length := fun x => by unfold AK; rw [List.length_set]
  have l2 : ∀ x y : Int, (AK (AK regs ((1 : Nat) : Int) x) ((2 : Nat) : Int) y).length = regs.length := fun x y => by unfold AK; rw [List.length_set, List.length_set]
  obtain ⟨r2, k1, k2, k3⟩ := Me hX (q := n / 8) (by omega) hn i4 i5 i6 e2 m.words (n / 8) 0 (AK (AK (AK regs ((1 : Nat) : Int) 0) ((2 : Nat) : Int) 8) ((3 : Nat) : Int) (n : Int)) { m with steps := m.steps + 4 } (by omega) (by omega) (by rw [hlen]; exact hl) h0
    ((A0 (by omega)).trans ((A0 (by omega)).trans ((A0 (by omega)).trans hz))) ((A0 (by omega)).trans ((A0 (by omega)).trans (Cn (by omega)))) ((A0 (by omega)).trans (Cn (by rw [l1]; omega))) (Cn (by rw [l2]; omega)) rfl
  refine ⟨r2, ?_, k2.trans (hlen _ _ _), k3⟩
  have k4 := (((g1.trans g2).trans g3).trans g4).trans k1
  rw [show m.steps + (4 + 11 * (n / 8)) = m.steps + 4 + 11 * (n / 8) by omega]
  exact k4
theorem ER {n : Nat} (h : 64 < n) : chunkN n % 8 = 0 /\ 64 <= chunkN n /\ chunkN n <= 4096 /\ chunkN n <= n := by
  unfold chunkN
  omega
theorem KM (hX : Gv X) : ∀ (g : Nat) (a b : BI) (first : Int) (n : Nat) (regs : List Int) (m : Mach), n <= g -> EI X.F.blocks g a first n b -> (regs.length : Int) = X.F.regs -> m.fin = 0 -> rget regs ((0 : Nat) : Int) = 0 ->
    ∃ regs' k, k <= 2 * n /\ Goes X.cl X.s X.F a regs m b regs' { m with words := A8 m.words first n, steps := m.steps + k } /\ regs'.length = regs.length
  | 0, a, b, first, n, regs, m, hg, h, hl, h0, hz => by
    rw [EI] at h
    subst h
    obtain rfl : n = 0 := by omega
    exact ⟨regs, 0, by omega, Goes.refl _ _ _, rfl⟩
  | g + 1, a, b, first, n, regs, m, hg, h, hl, h0, hz => by
    rw [EI] at h
    by_cases hn : 64 < n
    . rw [if_pos hn] at h
      obtain ⟨a1, h1, h2⟩ := h
      obtain ⟨c1, c2, c3, c4⟩ := ER hn
      obtain ⟨r1, k1, k2, k3⟩ := VA hX h1 c1 (by omega) c3 hl h0 hz
      obtain ⟨r2, k, j1, j2, j3⟩ := KM hX g a1 b (first + chunkN n) (n - chunkN n) r1 { m with words := A8 m.words first (chunkN n), steps := m.steps + (4 + 11 * (chunkN n / 8)) } (by omega) h2 (by rw [k2]; exact hl) h0 k3
      refine ⟨r2, 4 + 11 * (chunkN n / 8) + k, by omega, ?_, j3.trans k2⟩
      have := k1.trans j2
      dsimp only at this
      rw [LY, show chunkN n + (n - chunkN n) = n by omega] at this
      rw [<- Nat.add_assoc m.steps]
      exact this
    . rw [if_neg hn] at h
      obtain ⟨h1, rfl⟩ := h
      exact ⟨regs, n, by omega, NL h0 hz n h1, rfl⟩
theorem SG (hX : Gv X) {a b : BI} {first : Int} {n : Nat} {regs : List Int} {m : Mach} (h : Fe X.F.blocks a first n b) (hl : (regs.length : Int) = X.F.regs) (h0 : m.fin = 0) :
    ∃ regs' k, k <= 2 * n + 1 /\ Goes X.cl X.s X.F a regs m b regs' { m with words := A8 m.words first n, steps := m.steps + k } /\ regs'.length = regs.length := by
  unfold Fe at h
  by_cases hn : n = 0
  . rw [if_pos hn] at h
    subst h; subst hn
    exact ⟨regs, 0, by omega, Goes.refl _ _ _, rfl⟩
  . rw [if_neg hn] at h
    obtain ⟨h1, h2⟩ := h
    have hreg := (h1.reg hX rfl).2
    have hl0 : 0 < regs.length := by have : ((0 : Nat) : Int) < X.F.regs := hreg; omega
    have g1 := BL (C := X.cl) (s := X.s) (f := X.F) (regs := regs) (r' := AK regs ((0 : Nat) : Int) 0) (m := m) (m' := { m with steps := m.steps + 1 }) h1 (fun _ => rfl) h0 rfl
    have l1 : (AK regs ((0 : Nat) : Int) 0).length = regs.length := by unfold AK; rw [List.length_set]
    obtain ⟨r2, k, j1, j2, j3⟩ := KM hX n (nx a) b first n (AK regs ((0 : Nat) : Int) 0) { m with steps := m.steps + 1 } (Nat.le_refl _) h2 (by rw [l1]; exact hl) h0 (Cn hl0)
    refine ⟨r2, 1 + k, by omega, ?_, j3.trans l1⟩
    rw [<- Nat.add_assoc m.steps]
    exact g1.trans j2
end
def cq (C : Core) (G : List Block) (fn : CFn) (last : Bool) : Prop := ∃ a1 a2 : BI, (if last = true then a1 = (0, 0) else Fe G (0, 0) (fn.first + fn.params) (fn.slots - fn.params).toNat a1) /\ CS.codeL C fn.word G fn.body a1 a2 /\ Gk C fn.word G a2
structure fp (C : Core) (i : Nat) (fn : CFn) : Prop where
  p0 : 0 <= fn.params
  p6 : fn.params <= 6
  ps : fn.params <= fn.slots
  f0 : 0 <= fn.first
  f1 : fn.first + fn.slots <= C.words
  body : CS.okL C i fn.word fn.body
structure Jt (C : Core) : Prop where
  w0 : 0 <= C.words
  ne : C.funcs ≠ []
  fn : ∀ (i : Nat) (fn : CFn), C.funcs[i]? = some fn -> fp C i fn
  last : ∀ fn, C.funcs[C.funcs.length - 1]? = some fn -> fn.word = false /\ fn.params = 0
structure V0 (C : Core) (B : Blocks) (M : Nat) : Prop where
  words : B.words = (M : Int)
  wm : C.words <= M
  told : ∀ fn ∈ C.funcs, fn.word = true -> C.words < M
  len : B.funcs.length = C.funcs.length
  fn : ∀ (i : Nat) (fn : CFn), C.funcs[i]? = some fn -> ∃ F, B.funcs[i]? = some F /\ cq C F.blocks fn (i + 1 == C.funcs.length) /\ 0 <= F.regs /\ ∀ x ∈ F.blocks, ∀ t ∈ x.ins, setsOp t.op = true -> 0 <= t.d /\ t.d < F.regs
theorem HY {w : List Int} (h : Er w) (a : Int) : ∀ n, Er (A8 w a n)
  | 0 => h
  | n + 1 => D2 (HY h a n) _ ⟨by decide, by decide⟩
theorem Kb {w : List Int} (h : Er w) (a : Int) {l : List Int} (hl : Er l) : ∀ n, Er (CB w a l n)
  | 0 => h
  | n + 1 => D2 (Kb h a hl n) _ (C2 hl _)
theorem Ow {l : List CFn} {fn : CFn} (h : fn ∈ l) : CS.partsL fn.body <= (l.map fun f => CS.partsL f.body).sum := by
  induction l with
  | nil => cases h
  | cons a l ih =>
    rw [List.map_cons, List.sum_cons]
    rcases List.mem_cons.1 h with rfl | h
    . omega
    . have := ih h; omega
def Core.k (C : Core) : Nat := 8 * (C.parts + C.words.toNat + 1)
def YE (C : Core) (B : Blocks) (s : ByteArray) (fuel : Int) (M n g : Nat) (F : BFunc) : Cx := ⟨C, s, F, ⟨fun fu => mfun B s fu n, fun fu i m => D6 n i m⟩, BX C s fuel n, g, C.words.toNat, M, C.k⟩
section
variable {C : Core} {B : Blocks} {s : ByteArray} {fuel : Int} {M : Nat}
theorem QN {W : Nat} {cw w0 : List Int} {first params slots : Int} {args : List Int} (hc : cw.length = W) (hw : ∀ j : Nat, j < W -> w0[j]? = cw[j]?) (hm : W <= w0.length) (f0 : 0 <= first) (p0 : 0 <= params) (ps : params <= slots) (f1 : first + slots <= (W : Int)) (hn : (args.length : Int) = params) :
    ∀ j : Nat, j < W -> (A8 (CB w0 first args args.length) (first + params) (slots - params).toNat)[j]? = (CB (A8 cw first slots.toNat) first args args.length)[j]? := fun j hj => by
  rw [GY (by omega), Hm f0, Hm f0, GY f0, Ec, DE]
  have := hw j hj
  by_cases h1 : first <= j /\ (j : Int) < first + args.length
  . rw [if_neg (by omega), if_pos ⟨h1.1, h1.2, by omega⟩, if_pos ⟨h1.1, h1.2, by omega⟩]
  . by_cases h2 : first + params <= j /\ (j : Int) < first + slots
    . rw [if_pos (by omega), if_neg (by omega), if_pos (by omega)]
    . rw [if_neg (by omega), if_neg (by omega), if_neg (by omega), if_neg (by omega)]
      exact this
theorem Pe {X : Cx} {w : Bool} (hX : Gv X) (hM : w = true -> X.W < X.M) {k : Nat} {a a2 : BI} {regs : List Int} {c p : CM} {m : Mach} (h : StOk X w k a a2 regs c m p) (hl : (regs.length : Int) = X.F.regs) (hlv : Gk X.C w X.F.blocks a2) :
    (p.fin = 0 -> ∃ m', Fp X.cl X.s X.F a regs m m' /\ RelM X.W X.M p.m m' /\ (w = true -> rget m'.words X.C.words = if p.over = true then p.val else 0) /\ (p.over = true -> CD p.val) /\ m'.steps + X.K * c.m.steps <= m.steps + k + 3 + X.K * p.m.steps) /\
    (p.fin ≠ 0 -> p.fin ≠ 5 -> ∃ m', Fp X.cl X.s X.F a regs m m' /\ m'.fin = p.fin /\ m'.out = p.m.out /\ m'.steps + X.K * c.m.steps <= m.steps + k + 3 + X.K * p.m.steps) := by
  refine ⟨fun h0 => ?_, fun h0 h5 => ?_⟩
  . cases ho : p.over with
    | false =>
      obtain ⟨r1, m1, g1, g2, g3, g4⟩ := h.go h0 ho
      obtain ⟨m2, j1, j2, j3, j4⟩ := JK hX hlv (by rw [g3]; exact hl) g2 hM
      exact ⟨m2, g1.stops j1, j2, fun e => by rw [if_neg (by decide)]; exact j3 e, fun e => (by cases e), by omega⟩
    | true =>
      obtain ⟨v, m2, j1, j2, j3, j4⟩ := h.ret h0 ho
      exact ⟨m2, j1, j2, fun e => by rw [if_pos rfl]; exact j3 e, fun _ => v, by omega⟩
  . obtain ⟨m2, j1, j2, j3, j4⟩ := h.stop h0 h5
    exact ⟨m2, j1, j2, j3, by omega⟩
theorem bx (hC : Jt C) (hB : V0 C B M) : ∀ (n : Nat), n + 1 <= C.funcs.length -> ∀ (g : Nat) (fn : CFn) (args : List Int) (c : CM) (m0 m : Mach) (F0 : BFunc), g < n -> C.funcs[g]? = some fn -> (args.length : Int) = fn.params -> (∀ x ∈ args, CD x) -> c.over = false -> RelM C.words.toNat M c.m m0 ->
    m.words = CB m0.words fn.first args args.length -> m.out = m0.out -> m.read = m0.read -> m.fin = 0 -> CallOut (YE C B s fuel M n 0 F0) g fn c m (BX C s fuel n g args c)
  | 0, _, g, _, _, _, _, _, _, h, _, _, _, _, _, _, _, _, _ => absurd h (by omega)
  | n + 1, hn, g, fn, args, c, m0, m, F0, hg, hfn, hlen, hwa, ho, hr, hw, hout, hread, hfin => by
    obtain ⟨F, hF, hat, hr0, hregs⟩ := hB.fn g fn hfn
    have hfo := hC.fn g fn hfn
    have hnl : (g + 1 == C.funcs.length) = false := by rw [beq_eq_false_iff_ne]; omega
    rw [hnl] at hat
    obtain ⟨a1, a2, h1, h2, h3⟩ := hat
    rw [if_neg (by decide)] at h1
    have hX : Gv (YE C B s fuel M n g F) := ⟨by show C.words = ((C.words.toNat : Nat) : Int); have := hC.w0; omega, by show C.words.toNat <= M; have := hB.wm; omega, fun fn hfn hw => by show C.words.toNat < M; have := hB.told fn hfn hw; have := hC.w0; omega, hregs,
      fun g' fn' args' c' m0' m' hg' hfn' hl' hw' ho' hr' hm' e1 e2 e3 => have h := bx hC hB n (by omega) g' fn' args' c' m0' m' F (by have : g' < g := hg'; omega) hfn' hl' hw' ho' hr' hm' e1 e2 e3; ⟨h.le, h.go, h.stop⟩⟩
    have hM : fn.word = true -> C.words.toNat < M := fun e => by have := hB.told fn (List.mem_of_getElem? hfn) e; have := hC.w0; omega
    have hmf : ∀ fu : Nat, mfun B s fu (n + 1) g m = LP (fun i m => mfun B s fu n i m) s fu F (0, 0) (List.replicate F.regs.toNat 0) m := fun fu => by
      show (match B.funcs[((g : Nat) : Int).toNat]? with
        | none => m
        | some f => Dd (mfun B s fu n) s fu f (((fu : Nat) : Int).toNat + 1) 0 (List.replicate f.regs.toNat 0) m) = _
      rw [Int.toNat_natCast, hF]
      exact Qg (i := 0) (fun i m => D6 n i m)
    have hrl : (((List.replicate F.regs.toNat (0 : Int)).length : Nat) : Int) = F.regs := by rw [List.length_replicate]; omega
    have hpt := Ow (List.mem_of_getElem? hfn)
    have hKk : C.k = 8 * (C.parts + C.words.toNat + 1) := rfl
    have hCp : C.parts = (C.funcs.map fun f => CS.partsL f.body).sum := rfl
    have f1 := hfo.f1
    have hw0 := hC.w0
    have p0 := hfo.p0
    have ps := hfo.ps
    have f0 := hfo.f0
    show CallOut _ g fn c m (bif (AD fuel c).1 then _ else _)
    unfold AD AG
    cases ht : decide ((c.m.steps : Int) >= fuel) with
    | true =>
      simp only [cond_true, cond_false]
      exact ⟨Nat.le_refl _, fun h => (by cases h), fun _ h => absurd rfl h⟩
    | false =>
      simp only [cond_true, cond_false]
      rw [Int.toNat_natCast, hfn]
      dsimp only
      obtain ⟨r1, k, hk, g1, g2⟩ := SG (regs := List.replicate F.regs.toNat 0) (m := m) hX h1 hrl hfin
      generalize hce : (c.put { c.m with steps := c.m.steps + 1 }).put { (c.put { c.m with steps := c.m.steps + 1 }).m with words := CB (A8 c.m.words fn.first fn.slots.toNat) fn.first args args.length } = c1
      have hcs : c1.m.steps = c.m.steps + 1 := by rw [<- hce]; rfl
      have hm0 := hr.len
      have hWM : C.words.toNat <= M := by have := hB.wm; omega
      have hr1 : RelM C.words.toNat M c1.m { m with words := A8 m.words (fn.first + fn.params) (fn.slots - fn.params).toNat, steps := m.steps + k } := by
        rw [<- hce]
        refine ⟨?_, ?_, fun j hj => ?_, Kb (HY hr.ok _ _) _ hwa _, hout.trans hr.out, hread.trans hr.read, hfin, hr.cfin⟩
        . show (CB (A8 c.m.words fn.first fn.slots.toNat) fn.first args args.length).length = _
          rw [Ec, DE]; exact hr.clen
        . show (A8 m.words (fn.first + fn.params) (fn.slots - fn.params).toNat).length = _
          rw [DE, hw, Ec]; exact hm0
        . show (A8 m.words (fn.first + fn.params) (fn.slots - fn.params).toNat)[j]? = _
          rw [hw]
          exact QN hr.clen hr.w (by omega) f0 p0 ps (by omega) hlen j hj
      have ho1 : c1.over = false := by rw [<- hce]; exact ho
      have k1 := N3 (w := fn.word) (fuel := fuel) fn.body (fun st _ => Wr hX hM st.parts st (Nat.le_refl _)) a1 a2 r1 c1 { m with words := A8 m.words (fn.first + fn.params) (fn.slots - fn.params).toNat, steps := m.steps + k } h2 hfo.body (by show _ <= C.k; omega) (by rw [g2]; exact hrl) ho1 hr1
      have le1 := k1.le
      obtain ⟨b1, b2⟩ := Pe hX hM k1 (by rw [g2]; exact hrl) h3
      generalize hpe : Ao (YE C B s fuel M n g F).call (YE C B s fuel M n g F).s fuel fn.body c1 = p at le1 b1 b2
      have hpe2 : Ao (BX C s fuel n) s fuel fn.body c1 = p := hpe
      rw [hpe2]
      have hmul : C.k * (c.m.steps + 1) = C.k * c.m.steps + C.k := Nat.mul_succ _ _
      rw [<- hcs] at hmul
      have hq : ∀ (q : Int × CM), q = (bif p.over then (p.val, { p with over := false }) else (0, p)) -> q.2.m = p.m /\ q.2.over = false /\ q.1 = if p.over = true then p.val else 0 := fun q hq => by
        subst hq
        cases hov : p.over with
        | true => exact ⟨rfl, rfl, rfl⟩
        | false => exact ⟨rfl, hov, rfl⟩
      obtain ⟨q1, q2, q3⟩ := hq _ rfl
      generalize (bif p.over then (p.val, { p with over := false }) else (0, p)) = q at q1 q2 q3
      have qf : q.2.fin = p.fin := congrArg Mach.fin q1
      refine ⟨by rw [q1]; omega, fun h => ?_, fun h h5 => ?_⟩
      . obtain ⟨m', s1, s2, s3, s4, s5⟩ := b1 (by rw [<- qf]; exact h)
        dsimp only at s5
        refine ⟨q2, ?_, m', fun fu hfu => (hmf fu).trans ((g1.stops s1).eq fu hfu), (g1.stops s1).le, by rw [q1]; exact s2, fun e => by rw [q3]; exact s3 e, ?_⟩
        . rw [q3]
          cases hov : p.over with
          | true => rw [if_pos rfl]; exact s4 hov
          | false => rw [if_neg (by decide)]; exact ⟨by decide, by decide⟩
        . rw [q1]
          show m'.steps + C.k * c.m.steps <= m.steps + C.k * p.m.steps
          have s5' : m'.steps + C.k * c1.m.steps <= m.steps + k + 8 * CS.partsL fn.body + 3 + C.k * p.m.steps := s5
          clear b1 b2 k1 s5 s3 s4 s2 s1
          omega
      . obtain ⟨m', s1, s2, s3, s4⟩ := b2 (by rw [<- qf]; exact h) (by rw [<- qf]; exact h5)
        dsimp only at s4
        refine ⟨m', fun fu hfu => (hmf fu).trans ((g1.stops s1).eq fu hfu), (g1.stops s1).le, by rw [qf]; exact s2, by rw [q1]; exact s3, ?_⟩
        rw [q1]
        show m'.steps + C.k * c.m.steps <= m.steps + C.k * p.m.steps
        have s5' : m'.steps + C.k * c1.m.steps <= m.steps + k + 8 * CS.partsL fn.body + 3 + C.k * p.m.steps := s4
        clear b1 b2 k1 s4 s3 s2 s1
        omega
theorem Tj (hC : Jt C) (hB : V0 C B M) {r : Mach} (hr : Fy C s fuel = r) (h5 : r.fin ≠ 5) (fu : Nat) (hfu : (r.steps + 1) * C.k <= fu) : (Fu B s fu).fin = r.fin /\ (Fu B s fu).out = r.out := by
  have hne : 0 < C.funcs.length := List.length_pos_iff.2 hC.ne
  obtain ⟨fn, hfn⟩ := At (l := C.funcs) (k := C.funcs.length - 1) (by omega)
  obtain ⟨F, hF, hat, hr0, hregs⟩ := hB.fn _ fn hfn
  have hfo := hC.fn _ fn hfn
  obtain ⟨hwd, hpar⟩ := hC.last fn hfn
  have hnl : (C.funcs.length - 1 + 1 == C.funcs.length) = true := by rw [beq_iff_eq]; omega
  rw [hnl] at hat
  obtain ⟨a1, a2, h1, h2, h3⟩ := hat
  rw [if_pos rfl] at h1
  subst h1
  have hX : Gv (YE C B s fuel M (C.funcs.length - 1) (C.funcs.length - 1) F) := ⟨by show C.words = ((C.words.toNat : Nat) : Int); have := hC.w0; omega, by show C.words.toNat <= M; have := hB.wm; omega, fun fn hfn hw => by show C.words.toNat < M; have := hB.told fn hfn hw; have := hC.w0; omega, hregs,
    fun g' fn' args' c' m0' m' hg' hfn' hl' hw' ho' hr' hm' e1 e2 e3 => have h := bx hC hB (C.funcs.length - 1) (by omega) g' fn' args' c' m0' m' F hg' hfn' hl' hw' ho' hr' hm' e1 e2 e3; ⟨h.le, h.go, h.stop⟩⟩
  have hrl : (((List.replicate F.regs.toNat (0 : Int)).length : Nat) : Int) = F.regs := by rw [List.length_replicate]; omega
  have hpt := Ow (List.mem_of_getElem? hfn)
  have hKk : C.k = 8 * (C.parts + C.words.toNat + 1) := rfl
  have hCp : C.parts = (C.funcs.map fun f => CS.partsL f.body).sum := rfl
  have hw0 := hC.w0
  have hBw := hB.words
  have hWM : C.words.toNat <= M := by have := hB.wm; omega
  have hrel : RelM C.words.toNat M (c0 C).m (m0 B) := by
    refine ⟨by show (List.replicate C.words.toNat (0 : Int)).length = _; rw [List.length_replicate], by show (List.replicate B.words.toNat (0 : Int)).length = _; rw [List.length_replicate]; omega, fun j hj => ?_, Ep _, rfl, rfl, rfl, rfl⟩
    show (List.replicate B.words.toNat (0 : Int))[j]? = (List.replicate C.words.toNat (0 : Int))[j]?
    rw [List.getElem?_replicate, List.getElem?_replicate, if_pos (by omega), if_pos (by omega)]
  have hM : fn.word = true -> C.words.toNat < M := fun e => by rw [hwd] at e; cases e
  have k1 := N3 (w := fn.word) (fuel := fuel) fn.body (fun st _ => Wr hX hM st.parts st (Nat.le_refl _)) (0, 0) a2 (List.replicate F.regs.toNat 0) (c0 C) (m0 B) h2 hfo.body (by show _ <= C.k; omega) hrl rfl hrel
  obtain ⟨b1, b2⟩ := Pe hX hM k1 hrl h3
  unfold Fy at hr
  rw [hfn] at hr
  dsimp only at hr
  generalize hpe : Ao (YE C B s fuel M (C.funcs.length - 1) (C.funcs.length - 1) F).call (YE C B s fuel M (C.funcs.length - 1) (C.funcs.length - 1) F).s fuel fn.body (c0 C) = p at b1 b2
  have hpe2 : Ao (BX C s fuel (C.funcs.length - 1)) s fuel fn.body (c0 C) = p := hpe
  rw [hpe2] at hr
  have hst : r.steps = p.m.steps /\ r.out = p.m.out := by
    rw [<- hr]
    cases p.m.fin == 0 <;> exact ⟨rfl, rfl⟩
  have hmul : (r.steps + 1) * C.k = C.k * p.m.steps + C.k := by rw [hst.1, Nat.add_mul, Nat.one_mul, Nat.mul_comm]
  have hmr : Fu B s fu = (bif (LP (fun i m => mfun B s fu (C.funcs.length - 1) i m) s fu F (0, 0) (List.replicate F.regs.toNat 0) (m0 B)).fin == 0 then { LP (fun i m => mfun B s fu (C.funcs.length - 1) i m) s fu F (0, 0) (List.replicate F.regs.toNat 0) (m0 B) with fin := 1 } else LP (fun i m => mfun B s fu (C.funcs.length - 1) i m) s fu F (0, 0) (List.replicate F.regs.toNat 0) (m0 B)) := by
    have e : mfun B s fu B.funcs.length ((B.funcs.length : Int) - 1) (m0 B) = LP (fun i m => mfun B s fu (C.funcs.length - 1) i m) s fu F (0, 0) (List.replicate F.regs.toNat 0) (m0 B) := by
      obtain ⟨n, hn⟩ : ∃ n, C.funcs.length = n + 1 := ⟨C.funcs.length - 1, by omega⟩
      rw [hB.len, hn]
      rw [hn] at hF
      show (match B.funcs[(((n + 1 : Nat) : Int) - 1).toNat]? with
        | none => m0 B
        | some f => Dd (mfun B s fu n) s fu f (((fu : Nat) : Int).toNat + 1) 0 (List.replicate f.regs.toNat 0) (m0 B)) = _
      rw [show (((n + 1 : Nat) : Int) - 1).toNat = n + 1 - 1 by omega, hF]
      exact Qg (i := 0) (fun i m => D6 n i m)
    unfold Fu
    have hf0 : Cq (fu : Int) = (fu : Int) := by unfold Cq; rw [decide_eq_false (by omega)]; rfl
    rw [hf0, e]
  have hz : (m0 B).steps = 0 := rfl
  have hc0 : (c0 C).m.steps = 0 := rfl
  by_cases hp : p.fin = 0
  . obtain ⟨m', s1, s2, s3, s4, s5⟩ := b1 hp
    have s5' : m'.steps + C.k * (c0 C).m.steps <= (m0 B).steps + 8 * CS.partsL fn.body + 3 + C.k * p.m.steps := s5
    rw [hc0, hz, Nat.mul_zero] at s5'
    have hle : m'.steps <= fu := by
      clear b1 b2 k1 s5 s4 s3 s2 s1 hmr
      omega
    have := s1.eq fu hle
    have e2 : LP (fun i m => mfun B s fu (C.funcs.length - 1) i m) s fu F (0, 0) (List.replicate F.regs.toNat 0) (m0 B) = m' := this
    have hrf : r.fin = 1 := by
      have hp' : p.m.fin = 0 := hp
      rw [<- hr, hp']; rfl
    rw [hmr, e2, s2.fin, hst.2, hrf]
    exact ⟨rfl, s2.out⟩
  . have hrp : r = p.m := by
      have hp' : p.m.fin ≠ 0 := hp
      rw [<- hr, show (p.m.fin == 0) = false by simpa using hp']; rfl
    have h5' : p.fin ≠ 5 := by show p.m.fin ≠ 5; rw [<- hrp]; exact h5
    obtain ⟨m', s1, s2, s3, s4⟩ := b2 hp h5'
    have s5' : m'.steps + C.k * (c0 C).m.steps <= (m0 B).steps + 8 * CS.partsL fn.body + 3 + C.k * p.m.steps := s4
    rw [hc0, hz, Nat.mul_zero] at s5'
    have hle : m'.steps <= fu := by
      clear b1 b2 k1 s4 s3 s2 s1 hmr
      omega
    have e2 : LP (fun i m => mfun B s fu (C.funcs.length - 1) i m) s fu F (0, 0) (List.replicate F.regs.toNat 0) (m0 B) = m' := s1.eq fu hle
    rw [hmr, e2, show (m'.fin == 0) = false by rw [s2]; simpa using hp, hrp]
    exact ⟨s2, s3⟩
end
def Bd.il (b : Bd) : Nat := ((b.blocks[b.now]?).map fun x => x.ins.length).getD 0
abbrev Bd.pos (b : Bd) : BI := (b.now, b.il)
def Pl (b : Bd) : Prop := ∃ x, b.blocks[b.now]? = some x /\ x.fin = 3 /\ x.v = 0 /\ x.to = 0 /\ x.els = 0
structure Fr (b b' : Bd) : Prop where
  len : b.blocks.length <= b'.blocks.length
  now : b'.now = b.now \/ b.blocks.length <= b'.now
  old : ∀ j x, j ≠ b.now -> b.blocks[j]? = some x -> b'.blocks[j]? = some x
  cur : ∀ x, b.blocks[b.now]? = some x -> ∃ y, b'.blocks[b.now]? = some y /\ x.ins <+: y.ins
def Fit (b : Bd) (G : List Block) (P : Nat -> Prop) : Prop := ∀ j x, b.blocks[j]? = some x -> ∃ y, G[j]? = some y /\ x.ins <+: y.ins /\ (¬ P j -> y = x)
structure Op (P : Nat -> Prop) (b b' : Bd) : Prop where
  now : P b'.now
  new : ∀ j, b.blocks.length <= j -> j < b'.blocks.length -> j ≠ b'.now -> ¬ P j
  cur : b'.now ≠ b.now -> ¬ P b.now
structure Codes (R : List Block -> BI -> BI -> Prop) (b b' : Bd) : Prop where
  fr : Fr b b'
  pl : Pl b'
  code : ∀ G P, Fit b' G P -> Op P b b' -> R G b.pos b'.pos
theorem Pl.lt {b : Bd} (h : Pl b) : b.now < b.blocks.length := by
  obtain ⟨x, h, _⟩ := h
  exact (List.getElem?_eq_some_iff.1 h).1
theorem Fr.refl (b : Bd) : Fr b b := ⟨Nat.le_refl _, .inl rfl, fun _ _ _ h => h, fun x h => ⟨x, h, List.prefix_refl _⟩⟩
theorem Fr.trans {b b1 b2 : Bd} (h1 : Fr b b1) (h2 : Fr b1 b2) (hb : b.now < b.blocks.length) : Fr b b2 := by
  refine ⟨Nat.le_trans h1.len h2.len, ?_, fun j x hj hx => ?_, fun x hx => ?_⟩
  . rcases h2.now with e | e
    . rw [e]; exact h1.now
    . exact .inr (Nat.le_trans h1.len e)
  . have hjl := (List.getElem?_eq_some_iff.1 hx).1
    refine h2.old j x (fun e => ?_) (h1.old j x hj hx)
    rcases h1.now with e2 | e2
    . exact hj (e.trans e2)
    . omega
  . obtain ⟨y, hy, hp⟩ := h1.cur x hx
    by_cases e : b.now = b1.now
    . obtain ⟨z, hz, hq⟩ := h2.cur y (by rw [<- e]; exact hy)
      exact ⟨z, by rw [e]; exact hz, hp.trans hq⟩
    . exact ⟨y, h2.old _ y e hy, hp⟩
theorem Fit.back {b1 b2 : Bd} {G : List Block} {P : Nat -> Prop} (h : Fit b2 G P) (hf : Fr b1 b2) : Fit b1 G (fun j => j = b1.now \/ P j) := fun j x hx => by
  by_cases e : j = b1.now
  . subst e
    obtain ⟨y, hy, hp⟩ := hf.cur x hx
    obtain ⟨z, hz, hq, _⟩ := h _ y hy
    exact ⟨z, hz, hp.trans hq, fun hn => absurd (.inl rfl) hn⟩
  . obtain ⟨z, hz, hq, hr⟩ := h j x (hf.old j x e hx)
    exact ⟨z, hz, hq, fun hn => hr fun hp => hn (.inr hp)⟩
theorem Codes.seq {R1 R2 : List Block -> BI -> BI -> Prop} {b b1 b2 : Bd} (hb : b.now < b.blocks.length) (h1 : Codes R1 b b1) (h2 : Codes R2 b1 b2) : Codes (fun G a c => ∃ m, R1 G a m /\ R2 G m c) b b2 := by
  refine ⟨h1.fr.trans h2.fr hb, h2.pl, fun G P hF hO => ?_⟩
  have l1 := h1.pl.lt
  have n1 := h1.fr.now
  have n2 := h2.fr.now
  have k1 := h1.fr.len
  have k2 := h2.fr.len
  refine ⟨b1.pos, h1.code G _ (hF.back h2.fr) ⟨.inl rfl, fun j h1 h2 h3 hn => ?_, fun hne hn => ?_⟩, h2.code G P hF ⟨hO.now, fun j h1 h2 h3 => hO.new j (by omega) h2 h3, fun hne => ?_⟩⟩
  . rcases hn with hn | hn
    . exact h3 hn
    . exact hO.new j h1 (by omega) (fun e => by omega) hn
  . rcases hn with hn | hn
    . exact hne hn.symm
    . exact hO.cur (fun e => by omega) hn
  . rcases n1 with e | e
    . rw [e]; exact hO.cur (by omega)
    . exact hO.new _ e (by omega) (Ne.symm hne)
theorem Codes.mono {R R' : List Block -> BI -> BI -> Prop} {b b' : Bd} (h : Codes R b b') (hR : ∀ G a c, R G a c -> R' G a c) : Codes R' b b' := ⟨h.fr, h.pl, fun G P hF hO => hR G _ _ (h.code G P hF hO)⟩
theorem Codes.refl {b : Bd} (h : Pl b) : Codes (fun _ a c => c = a) b b := ⟨Fr.refl b, h, fun _ _ _ _ => rfl⟩
theorem IV {b : Bd} {g : Block -> Block} {x : Block} (h : b.blocks[b.now]? = some x) : (b.upd g).blocks[b.now]? = some (g x) := by
  show (b.blocks.modify b.now g)[b.now]? = _
  rw [List.getElem?_modify, h]; simp
theorem Cw {b : Bd} {g : Block -> Block} {j : Nat} (h : j ≠ b.now) : (b.upd g).blocks[j]? = b.blocks[j]? := by
  show (b.blocks.modify b.now g)[j]? = _
  rw [List.getElem?_modify]
  cases b.blocks[j]? with
  | none => rfl
  | some x => simp [Ne.symm h]
theorem B4 (b : Bd) (g : Block -> Block) : (b.upd g).blocks.length = b.blocks.length := List.length_modify ..
theorem E6 {b : Bd} {x : Block} (h : b.blocks[b.now]? = some x) : b.il = x.ins.length := by unfold Bd.il; rw [h]; rfl
theorem Ey {b : Bd} {x : Block} {t : Tac} (h : b.blocks[b.now]? = some x) : (b.put t).blocks[b.now]? = some (x.mid (x.ins ++ [t])) := IV h
theorem codes_put {b : Bd} (h : Pl b) (t : Tac) : Codes (fun G a c => InsAt G a t /\ c = nx a) b (b.put t) := by
  obtain ⟨x, hx, h1⟩ := h
  refine ⟨⟨Nat.le_of_eq (B4 b _).symm, .inl rfl, fun j y hj hy => (Cw hj).trans hy, fun y hy => ?_⟩, ⟨_, Ey hx, h1⟩, fun G P hF hO => ?_⟩
  . rw [hx] at hy; cases hy
    exact ⟨_, Ey hx, List.prefix_append _ _⟩
  . obtain ⟨y, hy, hp, _⟩ := hF _ _ (Ey hx)
    refine ⟨⟨y, hy, ?_⟩, ?_⟩
    . show y.ins[b.il]? = _
      rw [E6 hx]
      obtain ⟨l, hl⟩ := hp
      rw [<- hl]
      show (x.ins ++ [t] ++ l)[x.ins.length]? = _
      rw [List.append_assoc, List.getElem?_append_right (Nat.le_refl _), Nat.sub_self]; rfl
    . show ((b.put t).now, (b.put t).il) = _
      rw [E6 (Ey hx)]
      show (b.now, (x.ins ++ [t]).length) = (b.now, b.il + 1)
      rw [E6 hx, List.length_append]; rfl
theorem Ai (b : Bd) : b.opened.blocks.length = b.blocks.length + 1 := by simp [Bd.opened]
theorem CU (b : Bd) : b.opened.blocks[b.blocks.length]? = some blk0 := by
  show (b.blocks ++ [blk0])[_]? = _
  rw [List.getElem?_append_right (Nat.le_refl _), Nat.sub_self]; rfl
theorem AF {b : Bd} {j : Nat} (h : j < b.blocks.length) : b.opened.blocks[j]? = b.blocks[j]? := List.getElem?_append_left h
structure VX (R : List Block -> BI -> BI -> Prop) (b b' : Bd) (i to : Nat) : Prop where
  now : b'.now = b.now
  len : b.blocks.length <= b'.blocks.length
  old : ∀ j, j ≠ i -> j < b.blocks.length -> b'.blocks[j]? = b.blocks[j]?
  code : ∀ G P, Fit b' G P -> ¬ P i -> (∀ j, b.blocks.length <= j -> j < b'.blocks.length -> ¬ P j) -> ∃ a, R G (i, 0) a /\ By G a 1 0 to 0
theorem EP {R : List Block -> BI -> BI -> Prop} {b : Bd} {i to : Nat} {f : Bd -> Bd} (hi : b.blocks[i]? = some blk0) (hf : Codes R (b.go i) (f (b.go i))) : VX R b (b.inside i to f) i to := by
  unfold Bd.inside
  generalize hbi : f (b.go i) = bi at hf
  obtain ⟨x, hx, e3, ev, et, ee⟩ := hf.pl
  have hlen : b.blocks.length <= bi.blocks.length := hf.fr.len
  have hnow : bi.now = i \/ b.blocks.length <= bi.now := hf.fr.now
  have hblk : ((bi.jump to).go b.now).blocks = (bi.jump to).blocks := rfl
  have hjl : (bi.jump to).blocks.length = bi.blocks.length := B4 bi _
  have hjat : (bi.jump to).blocks[bi.now]? = some { x with fin := 1, to := (to : Int) } := IV hx
  refine ⟨rfl, by rw [hblk, hjl]; exact hlen, fun j hj hjl2 => ?_, fun G P hF hP hN => ?_⟩
  . rw [hblk]
    refine (Cw (by omega)).trans ?_
    obtain ⟨y, hy⟩ := At hjl2
    rw [hy]
    exact hf.fr.old j y hj hy
  . have hF' : Fit (bi.jump to) G P := hF
    have hnP : ¬ P bi.now := by
      rcases hnow with e | e
      . rw [e]; exact hP
      . exact hN _ e (by rw [hblk, hjl]; exact hf.pl.lt)
    have hil : (b.go i).il = 0 := by unfold Bd.il; rw [show (b.go i).blocks[(b.go i).now]? = some blk0 from hi]; rfl
    have hc := hf.code G (fun j => j = bi.now \/ P j) (fun j y hy => ?_) ⟨.inl rfl, fun j h1 h2 h3 hn => ?_, fun hne hn => ?_⟩
    . refine ⟨bi.pos, ?_, ?_⟩
      . have e : (b.go i).pos = (i, 0) := by show (i, (b.go i).il) = _; rw [hil]
        rw [<- e]; exact hc
      . obtain ⟨z, hz, _, hq⟩ := hF' _ _ hjat
        have hz2 := hq hnP
        subst hz2
        exact ⟨_, hz, (E6 hx).symm, rfl, ev, rfl, ee⟩
    . by_cases e : j = bi.now
      . subst e
        rw [hx] at hy; cases hy
        obtain ⟨z, hz, hp, _⟩ := hF' _ _ hjat
        exact ⟨z, hz, hp, fun hn => absurd (.inl rfl) hn⟩
      . obtain ⟨z, hz, hp, hq⟩ := hF' j y ((Cw e).trans hy)
        exact ⟨z, hz, hp, fun hn => hq fun h => hn (.inr h)⟩
    . rcases hn with hn | hn
      . exact h3 hn
      . exact hN j h1 (by rw [hblk, hjl]; exact h2) hn
    . rcases hn with hn | hn
      . exact hne hn.symm
      . exact hP hn
theorem J9 {b : Bd} {v to els : Nat} {x : Block} (h : b.blocks[b.now]? = some x) : (b.fork v to els).blocks[b.now]? = some { x with fin := 2, v := (v : Int), to := (to : Int), els := (els : Int) } := IV h
theorem jump_at {b : Bd} {to : Nat} {x : Block} (h : b.blocks[b.now]? = some x) : (b.jump to).blocks[b.now]? = some { x with fin := 1, to := (to : Int) } := IV h
theorem codes_not {b : Bd} (h : Pl b) (d : Nat) : Codes (fun G a c => RX G a d c) b (b.not d) := by
  have h1 := codes_put h (AT (d + 1) 0)
  have h2 := codes_put h1.pl (AS 15 d d (d + 1))
  refine (h1.seq h.lt h2).mono fun G a c hm => ?_
  obtain ⟨m, ⟨i1, rfl⟩, i2, rfl⟩ := hm
  exact ⟨i1, i2, rfl⟩
theorem C5 {b : Bd} (h : Pl b) (e : CE) (d : Nat) : Codes (fun G a c => EH G e a d c) b (b.truth e d) := by
  unfold Bd.truth
  cases he : e.flagged with
  | true =>
    simp only [cond_true]
    refine (Codes.refl h).mono fun G a c hm => ?_
    unfold EH
    rw [he, if_pos rfl]; exact hm
  | false =>
    simp only [cond_false]
    have h1 := codes_not h d
    have h2 := codes_put h1.pl (AS 15 d d (d + 1))
    refine (h1.seq h.lt h2).mono fun G a c hm => ?_
    obtain ⟨m, i1, i2, rfl⟩ := hm
    unfold EH
    rw [he, if_neg (by decide)]
    exact ⟨m, i1, i2, rfl⟩
theorem Lt {b : Bd} (h : Pl b) (first : Int) (d : Nat) : ∀ n : Nat, Codes (fun G a c => (∀ i, i < n -> InsAt G (a.1, a.2 + i) (AM (first + i) (d + i))) /\ c = (a.1, a.2 + n)) b (b.args first d n)
  | 0 => (Codes.refl h).mono fun G a c hm => ⟨fun i hi => absurd hi (by omega), hm⟩
  | n + 1 => by
    have ih := Lt h first d n
    have h2 := codes_put ih.pl (AM (first + n) (d + n))
    exact Ya
theorem Gg {b : Bd} (h : Pl b) (C : Core) (g : Int) (n d : Nat) : Codes (fun G a c => IQ G a (C.first g) g n d c) b (b.called C g n d) := by
  have h1 := Lt h (C.first g) d n
  have h2 := codes_put h1.pl (ED g)
  refine (h1.seq h.lt h2).mono fun G a c hm => ?_
  obtain ⟨m, ⟨i1, rfl⟩, i2, rfl⟩ := hm
  exact ⟨i1, i2, rfl⟩
theorem GS {b : Bd} (h : Pl b) {k : Int} {d : Nat} {R : List Block -> BI -> BI -> Prop} {f : Bd -> Bd} (hf : ∀ b0, Pl b0 -> Codes R b0 (f b0)) :
    Codes (fun G a c => ∃ (r h : Nat) (a2 : BI), (if k = 8 then By G a 2 d r h else By G a 2 d h r) /\ R G (r, 0) a2 /\ By G a2 1 0 h 0 /\ c = (h, 0)) b (((b.either0 k d).inside b.blocks.length (b.blocks.length + 1) f).go (b.blocks.length + 1)) := by
  obtain ⟨x, hx, e3, ev, et, ee⟩ := h
  have hlt := (List.getElem?_eq_some_iff.1 hx).1
  generalize hb1 : b.either0 k d = b1
  have hnow : b1.now = b.now := by rw [<- hb1]; unfold Bd.either0; cases k == 8 <;> rfl
  have hlen : b1.blocks.length = b.blocks.length + 2 := by
    rw [<- hb1]; unfold Bd.either0
    cases k == 8
    . show (Bd.upd b.opened.opened _).blocks.length = _
      rw [B4, Ai, Ai]
    . show (Bd.upd b.opened.opened _).blocks.length = _
      rw [B4, Ai, Ai]
  have hne : ∀ j, j ≠ b.now -> b1.blocks[j]? = b.opened.opened.blocks[j]? := fun j hj => by
    rw [<- hb1]; unfold Bd.either0
    cases k == 8
    . exact Cw hj
    . exact Cw hj
  have hx2 : b.opened.opened.blocks[b.now]? = some x := by
    rw [AF (by rw [Ai]; omega), AF hlt]; exact hx
  have hn : b1.blocks[b.blocks.length]? = some blk0 := by
    rw [hne _ (by omega), AF (by rw [Ai]; omega)]
    exact CU b
  have hn1 : b1.blocks[b.blocks.length + 1]? = some blk0 := by
    rw [hne _ (by omega)]
    have := CU b.opened
    rwa [Ai] at this
  have hcur : ∃ y : Block, b1.blocks[b.now]? = some y /\ y.ins = x.ins /\ (if k = 8 then (y.fin = 2 /\ y.v = (d : Int) /\ y.to = (b.blocks.length : Int) /\ y.els = ((b.blocks.length + 1 : Nat) : Int)) else (y.fin = 2 /\ y.v = (d : Int) /\ y.to = ((b.blocks.length + 1 : Nat) : Int) /\ y.els = (b.blocks.length : Int))) := by
    rw [<- hb1]; unfold Bd.either0
    by_cases hk : k = 8
    . rw [show (k == 8) = true by simpa using hk]
      refine ⟨_, J9 (b := b.opened.opened) hx2, rfl, ?_⟩
      rw [if_pos hk]
      exact ⟨rfl, rfl, rfl, rfl⟩
    . rw [show (k == 8) = false by simpa using hk]
      refine ⟨_, J9 (b := b.opened.opened) hx2, rfl, ?_⟩
      rw [if_neg hk]
      exact ⟨rfl, rfl, rfl, rfl⟩
  obtain ⟨y, hy, hyi, hye⟩ := hcur
  have hin := EP (to := b.blocks.length + 1) hn (hf (b1.go b.blocks.length) ⟨blk0, hn, rfl, rfl, rfl, rfl⟩)
  generalize b1.inside b.blocks.length (b.blocks.length + 1) f = b2 at hin |-
  have hl2 := hin.len
  have hgo : (b2.go (b.blocks.length + 1)).blocks = b2.blocks := rfl
  refine ⟨⟨by rw [hgo]; omega, .inr (by show b.blocks.length <= b.blocks.length + 1; omega), fun j z hj hz => ?_, fun z hz => ?_⟩, ⟨blk0, ?_, rfl, rfl, rfl, rfl⟩, fun G P hF hO => ?_⟩
  . have hjl := (List.getElem?_eq_some_iff.1 hz).1
    rw [hgo, hin.old j (by omega) (by omega), hne j hj, AF (by rw [Ai]; omega), AF hjl]
    exact hz
  . rw [hx] at hz; cases hz
    refine ⟨y, ?_, by rw [hyi]; exact List.prefix_refl _⟩
    rw [hgo, hin.old _ (by omega) (by omega)]; exact hy
  . show b2.blocks[b.blocks.length + 1]? = _
    rw [hin.old _ (by omega) (by omega)]; exact hn1
  . have hF2 : Fit b2 G P := hF
    have hnew := hO.new
    have hnow2 : (b2.go (b.blocks.length + 1)).now = b.blocks.length + 1 := rfl
    rw [hnow2, hgo] at hnew
    obtain ⟨a2, k1, k2⟩ := hin.code G P hF2 (hnew _ (Nat.le_refl _) (by omega) (by omega)) (fun j h1 h2 => hnew j (by omega) h2 (by omega))
    have hPn : ¬ P b.now := hO.cur (by rw [hnow2]; omega)
    obtain ⟨z, hz, _, hq⟩ := hF2 b.now y (by rw [hin.old _ (by omega) (by omega)]; exact hy)
    have hzy := hq hPn
    subst hzy
    refine ⟨b.blocks.length, b.blocks.length + 1, a2, ?_, k1, k2, ?_⟩
    . have hil : z.ins.length = b.il := by rw [hyi, E6 hx]
      by_cases hk : k = 8
      . rw [if_pos hk] at hye |-
        exact ⟨z, hz, hil, hye⟩
      . rw [if_neg hk] at hye |-
        exact ⟨z, hz, hil, hye⟩
    . show (b.blocks.length + 1, Bd.il _) = (b.blocks.length + 1, 0)
      rw [E6 (b := b2.go (b.blocks.length + 1)) (x := blk0) (by show b2.blocks[b.blocks.length + 1]? = _; rw [hin.old _ (by omega) (by omega)]; exact hn1)]
      rfl
section
variable {C : Core} {n : Nat}
def Q4 (C : Core) (n : Nat) (e : CE) : Prop := e.ok C n -> ∀ (d : Nat) (b : Bd), Pl b -> Codes (fun G a c => e.code C G d a c) b (e.build C d b)
theorem HT : ∀ (l : List CE), (∀ e ∈ l, Q4 C n e) -> CE.okL C n l -> ∀ (d : Nat) (b : Bd), Pl b -> Codes (fun G a c => CE.codeL C G l d a c) b (CE.buildL C l d b)
  | [], _, _, d, b, hb => by
    rw [CE.buildL]
    exact (Codes.refl hb).mono fun G a c h => by rw [CE.codeL]; exact h
  | e :: l, hI, hok, d, b, hb => by
    rw [CE.buildL]
    rw [CE.okL] at hok
    have h1 := hI e (List.mem_cons.2 (.inl rfl)) hok.1 d b hb
    have h2 := HT l (fun e he => hI e (List.mem_cons.2 (.inr he))) hok.2 (d + 1) (e.build C d b) h1.pl
    refine (h1.seq hb.lt h2).mono fun G a c h => ?_
    rw [CE.codeL]
    exact h
theorem BP : ∀ (m : Nat) (e : CE), e.parts <= m -> Q4 C n e
  | 0, e, h => by cases e; rw [CE.parts] at h; omega
  | m + 1, e, hm => by
    cases e with
    | mk k o num sl z kids =>
    rw [CE.parts] at hm
    have hI : ∀ e ∈ kids, Q4 C n e := fun e he => BP m e (by have := AW he; omega)
    intro hok d b hb
    rw [CE.ok] at hok
    obtain ⟨hkids, hk⟩ := hok
    have hL := HT kids hI hkids d b hb
    rcases hk with ⟨rfl, hw⟩ | ⟨rfl, h0, h1⟩ | ⟨rfl, h1, z1, z2, s0, s1⟩ | ⟨rfl, s0, s1, fn, hfn, hwd, hpar, h6⟩ | rfl | ⟨rfl, h2, o1, o2⟩ | ⟨rfl, h1⟩ | ⟨rfl, h2⟩ | ⟨rfl, h2⟩
    . rw [CE.build, if_pos rfl]
      exact (codes_put hb _).mono fun G a c h => by rw [CE.code, if_pos rfl]; exact h
    . rw [CE.build, if_neg (by decide), if_pos rfl]
      exact (codes_put hb _).mono fun G a c h => by rw [CE.code, if_neg (by decide), if_pos rfl]; exact h
    . rw [CE.build, if_neg (by decide), if_neg (by decide), if_pos rfl]
      exact (hL.seq hb.lt (codes_put hL.pl _)).mono fun G a c h => by rw [CE.code, if_neg (by decide), if_neg (by decide), if_pos rfl]; exact h
    . rw [CE.build, if_neg (by decide), if_neg (by decide), if_neg (by decide), if_pos rfl]
      have h2 := Gg hL.pl C sl kids.length d
      refine (hL.seq hb.lt (h2.seq hL.pl.lt (codes_put h2.pl _))).mono fun G a c h => ?_
      rw [CE.code, if_neg (by decide), if_neg (by decide), if_neg (by decide), if_pos rfl]
      obtain ⟨a1, i1, a2, i2, i3⟩ := h
      exact ⟨a1, a2, i1, i2, i3⟩
    . rw [CE.build, if_neg (by decide), if_neg (by decide), if_neg (by decide), if_neg (by decide), if_pos rfl]
      exact (codes_put hb _).mono fun G a c h => by rw [CE.code, if_neg (by decide), if_neg (by decide), if_neg (by decide), if_neg (by decide), if_pos rfl]; exact h
    . rw [CE.build, if_neg (by decide), if_neg (by decide), if_neg (by decide), if_neg (by decide), if_neg (by decide), if_pos rfl]
      exact (hL.seq hb.lt (codes_put hL.pl _)).mono fun G a c h => by rw [CE.code, if_neg (by decide), if_neg (by decide), if_neg (by decide), if_neg (by decide), if_neg (by decide), if_pos rfl]; exact h
    . rw [CE.build, if_neg (by decide), if_neg (by decide), if_neg (by decide), if_neg (by decide), if_neg (by decide), if_neg (by decide), if_pos rfl]
      exact (hL.seq hb.lt (codes_not hL.pl _)).mono fun G a c h => by rw [CE.code, if_neg (by decide), if_neg (by decide), if_neg (by decide), if_neg (by decide), if_neg (by decide), if_neg (by decide), if_pos rfl]; exact h
    all_goals
      obtain ⟨e1, e2, rfl⟩ := len_two h2
      rw [CE.build, if_neg (by decide), if_neg (by decide), if_neg (by decide), if_neg (by decide), if_neg (by decide), if_neg (by decide), if_neg (by decide), if_pos (by decide), DL, DK]
      rw [CE.okL, CE.okL] at hkids
      have h1 := hI e1 (by simp) hkids.1 d b hb
      have h3 := C5 h1.pl e1 d
      have h4 := h1.seq hb.lt h3
      have h5 := GS (k := 8) (d := d) h4.pl (fun b0 hb0 => (hI e2 (by simp) hkids.2.1 d b0 hb0).seq hb0.lt (C5 (hI e2 (by simp) hkids.2.1 d b0 hb0).pl e2 d))
      have h6 := GS (k := 9) (d := d) h4.pl (fun b0 hb0 => (hI e2 (by simp) hkids.2.1 d b0 hb0).seq hb0.lt (C5 (hI e2 (by simp) hkids.2.1 d b0 hb0).pl e2 d))
      first
      | refine (h4.seq hb.lt h5).mono fun G a c h => ?_
      | refine (h4.seq hb.lt h6).mono fun G a c h => ?_
      rw [CE.code, if_neg (by decide), if_neg (by decide), if_neg (by decide), if_neg (by decide), if_neg (by decide), if_neg (by decide), if_neg (by decide), if_pos (by decide), LO]
      obtain ⟨m2, ⟨m1, i1, i2⟩, r, h, a4, i3, ⟨a3, i4, i5⟩, i6, i7⟩ := h
      refine ⟨m1, m2, i1, i2, ?_⟩
      rw [LN]
      exact ⟨r, h, a3, a4, i3, i4, i5, i6, i7⟩
end
theorem GT {b : Bd} (h : Pl b) {g : Block -> Block} {fin v to els : Int} (hg : ∀ x : Block, x.fin = 3 -> x.v = 0 -> x.to = 0 -> x.els = 0 -> (g x).ins = x.ins /\ (g x).fin = fin /\ (g x).v = v /\ (g x).to = to /\ (g x).els = els) :
    Codes (fun G a c => By G a fin v to els /\ c = (b.blocks.length, 0)) b ((b.opened.upd g).go b.blocks.length) := by
  obtain ⟨x, hx, e3, ev, et, ee⟩ := h
  have hlt := (List.getElem?_eq_some_iff.1 hx).1
  obtain ⟨g1, g2⟩ := hg x e3 ev et ee
  have hx1 : b.opened.blocks[b.opened.now]? = some x := (AF hlt).trans hx
  have hcur : (b.opened.upd g).blocks[b.now]? = some (g x) := IV (b := b.opened) hx1
  have hnew : (b.opened.upd g).blocks[b.blocks.length]? = some blk0 := (Cw (b := b.opened) NM).trans (CU b)
  have hl : (b.opened.upd g).blocks.length = b.blocks.length + 1 := (B4 b.opened g).trans (Ai b)
  refine ⟨⟨by show _ <= (b.opened.upd g).blocks.length; omega, .inr (Nat.le_refl _), fun j y hj hy => ?_, fun y hy => ?_⟩, ⟨blk0, hnew, rfl, rfl, rfl, rfl⟩, fun G P hF hO => ?_⟩
  . have hjl := (List.getElem?_eq_some_iff.1 hy).1
    exact ((Cw (b := b.opened) hj).trans (AF hjl)).trans hy
  . rw [hx] at hy; cases hy
    exact ⟨g x, hcur, by rw [g1]; exact List.prefix_refl _⟩
  . have hPn : ¬ P b.now := hO.cur NM
    obtain ⟨z, hz, _, hq⟩ := hF b.now (g x) hcur
    have := hq hPn
    subst this
    refine ⟨⟨_, hz, by rw [g1]; exact (E6 hx).symm, g2⟩, ?_⟩
    show (b.blocks.length, Bd.il _) = (b.blocks.length, 0)
    rw [E6 (b := (b.opened.upd g).go b.blocks.length) (x := blk0) hnew]
    rfl
theorem JG {α : Type} {l : List α} {i : Nat} {x : α} {g : α -> α} (h : l[i]? = some x) (hg : g x = x) : l.modify i g = l := by
  refine List.ext_getElem? fun j => ?_
  rw [List.getElem?_modify]
  by_cases e : i = j
  . subst e
    rw [h]; simp [hg]
  . cases l[j]? <;> simp [e]
theorem Ig {b : Bd} (h : Pl b) : b.ret = b := by
  obtain ⟨x, hx, e3, _⟩ := h
  unfold Bd.ret Bd.upd
  rw [JG hx (by rw [<- e3])]
theorem Ls {b : Bd} (h : Pl b) : Codes (fun G a c => By G a 3 0 0 0) b b.next := by
  have := GT h (g := fun x => x) (fin := 3) (v := 0) (to := 0) (els := 0) (fun x h1 h2 h3 h4 => ⟨rfl, h1, h2, h3, h4⟩)
  have e : (b.opened.upd fun x => x).go b.blocks.length = b.next := by
    obtain ⟨x, hx, _⟩ := h
    have hlt := (List.getElem?_eq_some_iff.1 hx).1
    have hm : b.opened.blocks.modify b.opened.now (fun x => x) = b.opened.blocks := JG (x := x) ((AF hlt).trans hx) rfl
    unfold Bd.next Bd.upd
    rw [hm]
  rw [e] at this
  exact this.mono fun G a c h => h.1
theorem JQ {b : Bd} (h : Pl b) (C : Core) (w : Bool) : Codes (fun G a c => if w = true then InsAt G a (AT 0 0) /\ InsAt G (nx a) (AM C.words 0) /\ c = nx (nx a) else c = a) b (b.leave C w) := by
  unfold Bd.leave
  cases w with
  | false =>
    simp only [cond_false]
    rw [Ig h]
    exact (Codes.refl h).mono fun G a c e => by rw [if_neg (by decide)]; exact e
  | true =>
    simp only [cond_true]
    have h1 := codes_put h (AT 0 0)
    have h2 := codes_put h1.pl (AM C.words 0)
    rw [Ig h2.pl]
    refine (h1.seq h.lt h2).mono fun G a c hm => ?_
    obtain ⟨m, ⟨i1, rfl⟩, i2, rfl⟩ := hm
    rw [if_pos trivial]
    exact ⟨i1, i2, rfl⟩
theorem OI {C : Core} {w : Bool} {G : List Block} {a c : BI} (h : if w = true then InsAt G a (AT 0 0) /\ InsAt G (nx a) (AM C.words 0) /\ c = nx (nx a) else c = a) (he : By G c 3 0 0 0) : Gk C w G a := by
  unfold Gk
  cases w with
  | false => rw [if_neg (by decide)] at h |-; subst h; exact he
  | true => rw [if_pos rfl] at h |-; obtain ⟨h1, h2, rfl⟩ := h; exact ⟨h1, h2, he⟩
theorem Nv {b : Bd} (h : Pl b) {RT RE : List Block -> BI -> BI -> Prop} {fT fE : Bd -> Bd} (hT : ∀ b0, Pl b0 -> Codes RT b0 (fT b0)) (hE : ∀ b0, Pl b0 -> Codes RE b0 (fE b0)) :
    Codes (fun G a c => ∃ (t h o : Nat) (a2 a3 : BI), By G a 2 0 t o /\ RT G (t, 0) a2 /\ By G a2 1 0 h 0 /\ (RE G (o, 0) a3 /\ By G a3 1 0 h 0) /\ c = (h, 0)) b
      (((((b.opened.opened.opened).inside (b.blocks.length + 2) (b.blocks.length + 1) fE).fork 0 b.blocks.length (b.blocks.length + 2)).inside b.blocks.length (b.blocks.length + 1) fT).go (b.blocks.length + 1)) := by
  obtain ⟨x, hx, e3, ev, et, ee⟩ := h
  have hlt := (List.getElem?_eq_some_iff.1 hx).1
  have l3 : b.opened.opened.opened.blocks.length = b.blocks.length + 3 := by rw [Ai, Ai, Ai]
  have o3 : ∀ j, j < b.blocks.length -> b.opened.opened.opened.blocks[j]? = b.blocks[j]? := fun j hj => by
    rw [AF (by rw [Ai, Ai]; omega), AF (by rw [Ai]; omega), AF hj]
  have n0 : b.opened.opened.opened.blocks[b.blocks.length]? = some blk0 := by
    exact V5
  have n1 : b.opened.opened.opened.blocks[b.blocks.length + 1]? = some blk0 := by
    exact XZ
  have n2 : b.opened.opened.opened.blocks[b.blocks.length + 2]? = some blk0 := by
    exact Q8
  have hnow3 : b.opened.opened.opened.now = b.now := rfl
  generalize b.opened.opened.opened = b3 at l3 o3 n0 n1 n2 hnow3 |-
  have iE := EP (to := b.blocks.length + 1) n2 (hE (b3.go (b.blocks.length + 2)) ⟨blk0, n2, rfl, rfl, rfl, rfl⟩)
  generalize b3.inside (b.blocks.length + 2) (b.blocks.length + 1) fE = b4 at iE |-
  have hl4 := iE.len
  have hnow4 : b4.now = b.now := iE.now.trans hnow3
  have x4 : b4.blocks[b.now]? = some x := by rw [iE.old _ (by omega) (by omega), o3 _ hlt]; exact hx
  have x5 : (b4.fork 0 b.blocks.length (b.blocks.length + 2)).blocks[b.now]? = some { x with fin := 2, v := 0, to := (b.blocks.length : Int), els := ((b.blocks.length + 2 : Nat) : Int) } := by
    have := J9 (b := b4) (v := 0) (to := b.blocks.length) (els := b.blocks.length + 2) (x := x) (by rw [hnow4]; exact x4)
    rw [hnow4] at this; exact this
  have o5 : ∀ j, j ≠ b.now -> (b4.fork 0 b.blocks.length (b.blocks.length + 2)).blocks[j]? = b4.blocks[j]? := fun j hj => Cw (by rw [hnow4]; exact hj)
  have l5 : (b4.fork 0 b.blocks.length (b.blocks.length + 2)).blocks.length = b4.blocks.length := B4 b4 _
  have hnow5 : (b4.fork 0 b.blocks.length (b.blocks.length + 2)).now = b.now := hnow4
  generalize b4.fork 0 b.blocks.length (b.blocks.length + 2) = b5 at x5 o5 l5 hnow5 |-
  have n5 : b5.blocks[b.blocks.length]? = some blk0 := by rw [o5 _ (by omega), iE.old _ (by omega) (by omega)]; exact n0
  have iT := EP (to := b.blocks.length + 1) n5 (hT (b5.go b.blocks.length) ⟨blk0, n5, rfl, rfl, rfl, rfl⟩)
  generalize b5.inside b.blocks.length (b.blocks.length + 1) fT = b6 at iT |-
  have hl6 := iT.len
  have hgo : (b6.go (b.blocks.length + 1)).blocks = b6.blocks := rfl
  have n6 : b6.blocks[b.blocks.length + 1]? = some blk0 := by rw [iT.old _ (by omega) (by omega), o5 _ (by omega), iE.old _ (by omega) (by omega)]; exact n1
  refine ⟨⟨by rw [hgo]; omega, .inr (by show b.blocks.length <= b.blocks.length + 1; omega), fun j z hj hz => ?_, fun z hz => ?_⟩, ⟨blk0, n6, rfl, rfl, rfl, rfl⟩, fun G P hF hO => ?_⟩
  . have hjl := (List.getElem?_eq_some_iff.1 hz).1
    rw [hgo, iT.old j (by omega) (by omega), o5 j hj, iE.old j (by omega) (by omega), o3 j hjl]
    exact hz
  . rw [hx] at hz; cases hz
    have h6 := iT.old b.now (by omega) (by omega)
    rw [x5] at h6
    exact ⟨_, h6, List.prefix_refl _⟩
  . have hF6 : Fit b6 G P := hF
    have hnew := hO.new
    have hnow2 : (b6.go (b.blocks.length + 1)).now = b.blocks.length + 1 := rfl
    rw [hnow2, hgo] at hnew
    have hPn : ¬ P b.now := hO.cur (by rw [hnow2]; omega)
    obtain ⟨a2, k1, k2⟩ := iT.code G P hF6 (hnew _ (Nat.le_refl _) (by omega) (by omega)) (fun j h1 h2 => hnew j (by omega) h2 (by omega))
    have hF4 : Fit b4 G (fun j => j = b.now \/ (j = b.blocks.length \/ P j)) := fun j y hy => by
      have hjl := (List.getElem?_eq_some_iff.1 hy).1
      by_cases e1 : j = b.now
      . subst e1
        rw [x4] at hy; cases hy
        obtain ⟨z, hz, hp, _⟩ := hF6 b.now _ (by rw [iT.old _ (by omega) (by omega)]; exact x5)
        exact ⟨z, hz, hp, fun hn => absurd (.inl rfl) hn⟩
      . by_cases e2 : j = b.blocks.length
        . subst e2
          have : y = blk0 := by
            rw [iE.old _ (by omega) (by omega), n0] at hy
            exact (Option.some.inj hy).symm
          subst this
          obtain ⟨u, hu⟩ := At (l := b6.blocks) (k := b.blocks.length) (by omega)
          obtain ⟨z, hz, _⟩ := hF6 _ u hu
          exact ⟨z, hz, List.nil_prefix, fun hn => absurd (.inr (.inl rfl)) hn⟩
        . obtain ⟨z, hz, hp, hq⟩ := hF6 j y (by rw [iT.old _ e2 (by omega), o5 _ e1]; exact hy)
          exact ⟨z, hz, hp, fun hn => hq fun h => hn (.inr (.inr h))⟩
    obtain ⟨a3, j1, j2⟩ := iE.code G _ hF4 (fun hn => by
      rcases hn with hn | hn | hn
      . omega
      . omega
      . exact hnew _ (by omega) (by omega) (by omega) hn) (fun j h1 h2 hn => by
      rcases hn with hn | hn | hn
      . omega
      . omega
      . exact hnew j (by omega) (by omega) (by omega) hn)
    obtain ⟨z, hz, _, hq⟩ := hF6 b.now _ (by rw [iT.old _ (by omega) (by omega)]; exact x5)
    have := hq hPn
    subst this
    refine ⟨b.blocks.length, b.blocks.length + 1, b.blocks.length + 2, a2, a3, ⟨_, hz, (E6 hx).symm, rfl, rfl, rfl, rfl⟩, k1, k2, ⟨j1, j2⟩, ?_⟩
    show (b.blocks.length + 1, Bd.il _) = (b.blocks.length + 1, 0)
    rw [E6 (b := b6.go (b.blocks.length + 1)) (x := blk0) n6]
    rfl
theorem QI {b : Bd} (h : Pl b) {RC RT : List Block -> BI -> BI -> Prop} {fC fT : Bd -> Bd} (hC : ∀ b0, Pl b0 -> Codes RC b0 (fC b0)) (hT : ∀ b0, Pl b0 -> Codes RT b0 (fT b0)) :
    Codes (fun G a c => ∃ (g t h : Nat) (a1 a2 : BI), By G a 1 0 g 0 /\ RC G (g, 0) a1 /\ By G a1 2 0 t h /\ RT G (t, 0) a2 /\ By G a2 1 0 g 0 /\ c = (h, 0)) b
      ((((fC (((b.opened.opened.opened).inside b.now b.blocks.length fun x => x).go b.blocks.length)).fork 0 (b.blocks.length + 1) (b.blocks.length + 2)).inside (b.blocks.length + 1) b.blocks.length fT).go (b.blocks.length + 2)) := by
  obtain ⟨x, hx, e3, ev, et, ee⟩ := h
  have hlt := (List.getElem?_eq_some_iff.1 hx).1
  have l3 : b.opened.opened.opened.blocks.length = b.blocks.length + 3 := by rw [Ai, Ai, Ai]
  have o3 : ∀ j, j < b.blocks.length -> b.opened.opened.opened.blocks[j]? = b.blocks[j]? := fun j hj => by
    rw [AF (by rw [Ai, Ai]; omega), AF (by rw [Ai]; omega), AF hj]
  have n0 : b.opened.opened.opened.blocks[b.blocks.length]? = some blk0 := by
    exact V5
  have n1 : b.opened.opened.opened.blocks[b.blocks.length + 1]? = some blk0 := by
    exact XZ
  have n2 : b.opened.opened.opened.blocks[b.blocks.length + 2]? = some blk0 := by
    exact Q8
  have eB : ((b.opened.opened.opened).inside b.now b.blocks.length fun x => x).go b.blocks.length = (b.opened.opened.opened.jump b.blocks.length).go b.blocks.length := rfl
  rw [eB]
  have hnow3 : b.opened.opened.opened.now = b.now := rfl
  have xj : (b.opened.opened.opened.jump b.blocks.length).blocks[b.now]? = some { x with fin := 1, to := (b.blocks.length : Int) } := jump_at (b := b.opened.opened.opened) ((o3 _ hlt).trans hx)
  have oj : ∀ j, j ≠ b.now -> (b.opened.opened.opened.jump b.blocks.length).blocks[j]? = b.opened.opened.opened.blocks[j]? := fun j hj => Cw hj
  have lj : (b.opened.opened.opened.jump b.blocks.length).blocks.length = b.blocks.length + 3 := (B4 _ _).trans l3
  generalize b.opened.opened.opened.jump b.blocks.length = bj at xj oj lj |-
  have j0 : bj.blocks[b.blocks.length]? = some blk0 := by rw [oj _ (by omega)]; exact n0
  have j1 : bj.blocks[b.blocks.length + 1]? = some blk0 := by rw [oj _ (by omega)]; exact n1
  have j2 : bj.blocks[b.blocks.length + 2]? = some blk0 := by rw [oj _ (by omega)]; exact n2
  have oj2 : ∀ j, j ≠ b.now -> j < b.blocks.length -> bj.blocks[j]? = b.blocks[j]? := fun j h1 h2 => by rw [oj j h1, o3 j h2]
  have cC := hC (bj.go b.blocks.length) ⟨blk0, j0, rfl, rfl, rfl, rfl⟩
  generalize fC (bj.go b.blocks.length) = bc at cC |-
  obtain ⟨y, hy, y3, yv, yt, ye⟩ := cC.pl
  have lc : b.blocks.length + 3 <= bc.blocks.length := by have := cC.fr.len; have e : (bj.go b.blocks.length).blocks.length = bj.blocks.length := rfl; omega
  have hcn : bc.now = b.blocks.length \/ b.blocks.length + 3 <= bc.now := by
    have := cC.fr.now
    have e : (bj.go b.blocks.length).blocks.length = bj.blocks.length := rfl
    rw [e, lj] at this; exact this
  have hcl := (List.getElem?_eq_some_iff.1 hy).1
  have oc : ∀ j, j ≠ b.blocks.length -> j < b.blocks.length + 3 -> bc.blocks[j]? = bj.blocks[j]? := fun j h1 h2 => by
    obtain ⟨z, hz⟩ := At (l := bj.blocks) (k := j) (by omega)
    rw [hz]; exact cC.fr.old j z h1 hz
  have yf : (bc.fork 0 (b.blocks.length + 1) (b.blocks.length + 2)).blocks[bc.now]? = some { y with fin := 2, v := 0, to := ((b.blocks.length + 1 : Nat) : Int), els := ((b.blocks.length + 2 : Nat) : Int) } := J9 hy
  have of_ : ∀ j, j ≠ bc.now -> (bc.fork 0 (b.blocks.length + 1) (b.blocks.length + 2)).blocks[j]? = bc.blocks[j]? := fun j hj => Cw hj
  have lf : (bc.fork 0 (b.blocks.length + 1) (b.blocks.length + 2)).blocks.length = bc.blocks.length := B4 bc _
  generalize bc.fork 0 (b.blocks.length + 1) (b.blocks.length + 2) = bf at yf of_ lf |-
  have f1 : bf.blocks[b.blocks.length + 1]? = some blk0 := by rw [of_ _ (by omega), oc _ (by omega) (by omega)]; exact j1
  have f2 : bf.blocks[b.blocks.length + 2]? = some blk0 := by rw [of_ _ (by omega), oc _ (by omega) (by omega)]; exact j2
  have iT := EP (to := b.blocks.length) f1 (hT (bf.go (b.blocks.length + 1)) ⟨blk0, f1, rfl, rfl, rfl, rfl⟩)
  generalize bf.inside (b.blocks.length + 1) b.blocks.length fT = b6 at iT |-
  have hl6 := iT.len
  have hgo : (b6.go (b.blocks.length + 2)).blocks = b6.blocks := rfl
  have n6 : b6.blocks[b.blocks.length + 2]? = some blk0 := by rw [iT.old _ (by omega) (by omega)]; exact f2
  have x6 : b6.blocks[b.now]? = some { x with fin := 1, to := (b.blocks.length : Int) } := by rw [iT.old _ (by omega) (by omega), of_ _ (by omega), oc _ (by omega) (by omega)]; exact xj
  refine ⟨⟨by rw [hgo]; omega, .inr (by show b.blocks.length <= b.blocks.length + 2; omega), fun j z hj hz => ?_, fun z hz => ?_⟩, ⟨blk0, n6, rfl, rfl, rfl, rfl⟩, fun G P hF hO => ?_⟩
  . have hjl := (List.getElem?_eq_some_iff.1 hz).1
    rw [hgo, iT.old j (by omega) (by omega), of_ j (by omega), oc j (by omega) (by omega), oj2 j hj hjl]
    exact hz
  . rw [hx] at hz; cases hz
    exact ⟨_, x6, List.prefix_refl _⟩
  . have hF6 : Fit b6 G P := hF
    have hnew := hO.new
    have hnow2 : (b6.go (b.blocks.length + 2)).now = b.blocks.length + 2 := rfl
    rw [hnow2, hgo] at hnew
    have hPn : ¬ P b.now := hO.cur (by rw [hnow2]; omega)
    obtain ⟨a2, k1, k2⟩ := iT.code G P hF6 (hnew _ (by omega) (by omega) (by omega)) (fun j h1 h2 => hnew j (by omega) h2 (by omega))
    have hPc : ¬ P bc.now := hnew _ (by omega) (by omega) (by omega)
    have y6 : b6.blocks[bc.now]? = some { y with fin := 2, v := 0, to := ((b.blocks.length + 1 : Nat) : Int), els := ((b.blocks.length + 2 : Nat) : Int) } := by rw [iT.old _ (by omega) (by omega)]; exact yf
    have hFc : Fit bc G (fun j => j = bc.now \/ (j = b.blocks.length + 1 \/ P j)) := fun j u hu => by
      have hjl := (List.getElem?_eq_some_iff.1 hu).1
      by_cases e1 : j = bc.now
      . subst e1
        rw [hy] at hu; cases hu
        obtain ⟨z, hz, hp, _⟩ := hF6 bc.now _ y6
        exact ⟨z, hz, hp, fun hn => absurd (.inl rfl) hn⟩
      . by_cases e2 : j = b.blocks.length + 1
        . subst e2
          have : u = blk0 := by
            rw [oc _ (by omega) (by omega), j1] at hu
            exact (Option.some.inj hu).symm
          subst this
          obtain ⟨u, hu⟩ := At (l := b6.blocks) (k := b.blocks.length + 1) (by omega)
          obtain ⟨z, hz, _⟩ := hF6 _ u hu
          exact ⟨z, hz, List.nil_prefix, fun hn => absurd (.inr (.inl rfl)) hn⟩
        . obtain ⟨z, hz, hp, hq⟩ := hF6 j u (by rw [iT.old _ e2 (by omega), of_ _ e1]; exact hu)
          exact ⟨z, hz, hp, fun hn => hq fun h => hn (.inr (.inr h))⟩
    have lgo : (bj.go b.blocks.length).blocks.length = b.blocks.length + 3 := lj
    have kc := cC.code G _ hFc ⟨.inl rfl, fun j h1 h2 h3 hn => by
      rw [lgo] at h1
      rcases hn with hn | hn | hn
      . exact h3 hn
      . omega
      . exact hnew j (by omega) (by omega) (by omega) hn, fun hne hn => by
      have hne2 : bc.now ≠ b.blocks.length := hne
      have hn2 : b.blocks.length = bc.now \/ (b.blocks.length = b.blocks.length + 1 \/ P b.blocks.length) := hn
      rcases hn2 with hn | hn | hn
      . omega
      . omega
      . exact hnew _ (Nat.le_refl _) (by omega) (by omega) hn⟩
    have ilj : (bj.go b.blocks.length).il = 0 := (E6 (b := bj.go b.blocks.length) (x := blk0) j0).trans rfl
    have epos : (bj.go b.blocks.length).pos = (b.blocks.length, 0) := by show (b.blocks.length, Bd.il _) = _; rw [ilj]
    rw [epos] at kc
    obtain ⟨z, hz, _, hq⟩ := hF6 b.now _ x6
    have := hq hPn
    subst this
    obtain ⟨z2, hz2, _, hq2⟩ := hF6 bc.now _ y6
    have := hq2 hPc
    subst this
    refine ⟨b.blocks.length, b.blocks.length + 1, b.blocks.length + 2, bc.pos, a2, ⟨_, hz, (E6 hx).symm, rfl, ev, rfl, ee⟩, kc, ⟨_, hz2, (E6 hy).symm, rfl, rfl, rfl, rfl⟩, k1, k2, ?_⟩
    show (b.blocks.length + 2, Bd.il _) = (b.blocks.length + 2, 0)
    rw [E6 (b := b6.go (b.blocks.length + 2)) (x := blk0) n6]
    rfl
section
variable {C : Core} {n : Nat} {w : Bool}
def NH (C : Core) (n : Nat) (w : Bool) (st : CS) : Prop := st.ok C n w -> ∀ (b : Bd), Pl b -> Codes (fun G a c => st.code C w G a c) b (st.build C w b)
theorem BU : ∀ (l : List CS), (∀ st ∈ l, NH C n w st) -> CS.okL C n w l -> ∀ (b : Bd), Pl b -> Codes (fun G a c => CS.codeL C w G l a c) b (CS.buildL C w l b)
  | [], _, _, b, hb => by
    rw [CS.buildL]
    exact (Codes.refl hb).mono fun G a c h => by rw [CS.codeL]; exact h
  | st :: l, hI, hok, b, hb => by
    rw [CS.buildL]
    rw [CS.okL] at hok
    have h1 := hI st (List.mem_cons.2 (.inl rfl)) hok.1 b hb
    have h2 := BU l (fun st he => hI st (List.mem_cons.2 (.inr he))) hok.2 (st.build C w b) h1.pl
    refine (h1.seq hb.lt h2).mono fun G a c h => ?_
    rw [CS.codeL]
    exact h
theorem C6 {l : List CE} (hok : CE.okL C n l) (d : Nat) (b : Bd) (hb : Pl b) : Codes (fun G a c => CE.codeL C G l d a c) b (CE.buildL C l d b) :=
  HT l (fun e _ => BP e.parts e (Nat.le_refl _)) hok d b hb
theorem Cr : ∀ (m : Nat) (st : CS), st.parts <= m -> NH C n w st
  | 0, st, h => by cases st; rw [CS.parts] at h; omega
  | m + 1, st, hm => by
    cases st with
    | mk k s z es thn els =>
    rw [CS.parts] at hm
    have hT : ∀ st ∈ thn, NH C n w st := fun st hs => Cr m st (by have := AO hs; omega)
    have hL : ∀ st ∈ els, NH C n w st := fun st hs => Cr m st (by have := AO hs; omega)
    intro hok b hb
    rw [CS.ok] at hok
    obtain ⟨hes, hthn, hels, hk⟩ := hok
    have hE := C6 hes 0 b hb
    rcases hk with ⟨rfl, h1, s0, s1⟩ | ⟨rfl, h2, z1, z2, s0, s1⟩ | ⟨rfl, h1⟩ | ⟨rfl, h1⟩ | ⟨rfl, h1⟩ | ⟨rfl, s0, s1, fn, hfn, hwd, hpar, h6⟩ | ⟨rfl, h1⟩
    . rw [CS.build, if_pos rfl]
      exact (hE.seq hb.lt (codes_put hE.pl _)).mono fun G a c h => by rw [CS.code, if_pos rfl]; exact h
    . rw [CS.build, if_neg (by decide), if_pos rfl]
      exact (hE.seq hb.lt (codes_put hE.pl _)).mono fun G a c h => by rw [CS.code, if_neg (by decide), if_pos rfl]; exact h
    . rw [CS.build, if_neg (by decide), if_neg (by decide), if_pos rfl]
      exact (hE.seq hb.lt (codes_put hE.pl _)).mono fun G a c h => by rw [CS.code, if_neg (by decide), if_neg (by decide), if_pos rfl]; exact h
    . rw [CS.build, if_neg (by decide), if_neg (by decide), if_neg (by decide), if_neg (by decide), if_neg (by decide), if_pos rfl]
      dsimp only
      have fT : ∀ b0, Pl b0 -> Codes (fun G a c => CS.codeL C w G thn a c) b0 (CS.buildL C w thn b0) := fun b0 h0 => BU thn hT hthn b0 h0
      have fE : ∀ b0, Pl b0 -> Codes (fun G a c => CS.codeL C w G els a c) b0 (CS.buildL C w els b0) := fun b0 h0 => BU els hL hels b0 h0
      by_cases he : els = []
      . rw [if_pos he]
        have h2 := GS (k := 8) (d := 0) hE.pl fT
        refine (hE.seq hb.lt h2).mono fun G a c h => ?_
        rw [CS.code, if_neg (by decide), if_neg (by decide), if_neg (by decide), if_neg (by decide), if_neg (by decide), if_pos rfl]
        obtain ⟨a1, i1, r, h, a2, i2, i3, i4, i5⟩ := h
        rw [if_pos rfl] at i2
        exact ⟨a1, r, h, h, a2, a2, i1, i2, i3, i4, by rw [if_pos he], i5⟩
      . rw [if_neg he]
        have h2 := Nv hE.pl fT fE
        refine (hE.seq hb.lt h2).mono fun G a c h => ?_
        rw [CS.code, if_neg (by decide), if_neg (by decide), if_neg (by decide), if_neg (by decide), if_neg (by decide), if_pos rfl]
        obtain ⟨a1, i1, t, h, o, a2, a3, i2, i3, i4, i5, i6⟩ := h
        exact ⟨a1, t, h, o, a2, a3, i1, i2, i3, i4, by rw [if_neg he]; exact i5, i6⟩
    . rw [CS.build, if_neg (by decide), if_neg (by decide), if_neg (by decide), if_neg (by decide), if_neg (by decide), if_neg (by decide), if_pos rfl]
      dsimp only
      have h2 := QI hb (fun b0 h0 => C6 hes 0 b0 h0) (fun b0 h0 => BU thn hT hthn b0 h0)
      refine h2.mono fun G a c h => ?_
      rw [CS.code, if_neg (by decide), if_neg (by decide), if_neg (by decide), if_neg (by decide), if_neg (by decide), if_neg (by decide), if_pos rfl]
      exact h
    . rw [CS.build, if_neg (by decide), if_neg (by decide), if_neg (by decide), if_pos rfl]
      refine (hE.seq hb.lt (Gg hE.pl C s es.length 0)).mono fun G a c h => ?_
      rw [CS.code, if_neg (by decide), if_neg (by decide), if_neg (by decide), if_pos rfl]; exact h
    . rw [CS.build, if_neg (by decide), if_neg (by decide), if_neg (by decide), if_neg (by decide), if_pos rfl]
      by_cases he : es = []
      . rw [if_pos he]
        have h2 := JQ hb C w
        refine (h2.seq hb.lt (Ls h2.pl)).mono fun G a c h => ?_
        rw [CS.code, if_neg (by decide), if_neg (by decide), if_neg (by decide), if_neg (by decide), if_pos rfl, if_pos he]
        obtain ⟨m, i1, i2⟩ := h
        exact OI i1 i2
      . rw [if_neg he]
        have h2 := codes_put hE.pl (AM C.words 0)
        refine (hE.seq hb.lt (h2.seq hE.pl.lt (Ls h2.pl))).mono fun G a c h => ?_
        rw [CS.code, if_neg (by decide), if_neg (by decide), if_neg (by decide), if_neg (by decide), if_pos rfl, if_neg he]
        obtain ⟨a1, i1, a2, ⟨i2, rfl⟩, i3⟩ := h
        exact ⟨a1, i1, i2, i3⟩
theorem JP {b : Bd} (h : Pl b) (first : Int) : ∀ n : Nat, Codes (fun G a c => RS G a first n c) b (b.zeros first n)
  | 0 => (Codes.refl h).mono fun G a c hm => ⟨fun i hi => absurd hi (by omega), hm⟩
  | n + 1 => by
    have ih := JP h first n
    have h2 := codes_put ih.pl (AM (first + n) 0)
    exact Ya
theorem Hx {b : Bd} (h : Pl b) (first z : Int) : ∀ n : Nat, Codes (fun G a c => (∀ i, i < n -> InsAt G (a.1, a.2 + i) (BF 1 0 (first + i) z)) /\ c = (a.1, a.2 + n)) b (b.astores first z n)
  | 0 => (Codes.refl h).mono fun G a c hm => ⟨fun i hi => absurd hi (by omega), hm⟩
  | n + 1 => by
    have ih := Hx h first z n
    have h2 := codes_put ih.pl (BF 1 0 (first + n) z)
    exact Ya
theorem JR {b : Bd} (h : Pl b) (first : Int) (n : Nat) : Codes (fun G a c => NI G a first n c) b (b.chunk first n) := by
  have p1 := codes_put h (AT 1 0)
  have p2 := codes_put p1.pl (AT 2 8)
  have p3 := codes_put p2.pl (AT 3 n)
  have p4 := GT p3.pl (g := fun x => { x with fin := 1, to := ((b.chunk1 n).blocks.length : Int) }) (fin := 1) (v := 0) (to := ((b.chunk1 n).blocks.length : Int)) (els := 0) (fun x h1 h2 h3 h4 => ⟨rfl, rfl, h2, rfl, h4⟩)
  have p5 := Hx p4.pl first (n - 7) 8
  have p6 := codes_put p5.pl (AS 4 1 1 2)
  have p7 := codes_put p6.pl (AS 14 4 1 3)
  have p8 := GT p7.pl (g := fun x => { x with fin := 2, v := ((4 : Nat) : Int), to := ((b.chunk1 n).blocks.length : Int), els := ((((((b.chunk1 n).chunk2.astores first (n - 7) 8).put (AS 4 1 1 2)).put (AS 14 4 1 3)).blocks.length : Nat) : Int) }) (fin := 2) (v := ((4 : Nat) : Int)) (to := ((b.chunk1 n).blocks.length : Int)) (els := ((((((b.chunk1 n).chunk2.astores first (n - 7) 8).put (AS 4 1 1 2)).put (AS 14 4 1 3)).blocks.length : Nat) : Int)) (fun x h1 h2 h3 h4 => ⟨rfl, rfl, rfl, rfl, rfl⟩)
  have q := p1.seq h.lt (p2.seq p1.pl.lt (p3.seq p2.pl.lt (p4.seq p3.pl.lt (p5.seq p4.pl.lt (p6.seq p5.pl.lt (p7.seq p6.pl.lt p8))))))
  refine Codes.mono (b := b) (b' := b.chunk first n) q fun G a c hm => ?_
  obtain ⟨m1, ⟨i1, rfl⟩, m2, ⟨i2, rfl⟩, m3, ⟨i3, rfl⟩, m4, ⟨i4, rfl⟩, m5, ⟨i5, rfl⟩, m6, ⟨i6, rfl⟩, m7, ⟨i7, rfl⟩, i8, rfl⟩ := hm
  exact ⟨i1, i2, i3, _, _, i4, fun k hk => by have := i5 k hk; rw [Nat.zero_add] at this; exact this, i6, i7, i8, rfl⟩
theorem Hw : ∀ (g : Nat) {b : Bd} (h : Pl b) (first : Int) (n : Nat), Codes (fun G a c => EI G g a first n c) b (Bh g b first n)
  | 0, b, h, first, n => by
    rw [Bh]
    exact (Codes.refl h).mono fun G a c e => by rw [EI]; exact e
  | g + 1, b, h, first, n => by
    rw [Bh]
    by_cases hn : 64 < n
    . rw [if_pos hn]
      have h1 := JR h first (chunkN n)
      exact (h1.seq h.lt (Hw g h1.pl _ _)).mono fun G a c e => by rw [EI, if_pos hn]; exact e
    . rw [if_neg hn]
      exact (JP h first n).mono fun G a c e => by rw [EI, if_neg hn]; exact e
theorem Gf {b : Bd} (h : Pl b) (first : Int) (n : Nat) : Codes (fun G a c => Fe G a first n c) b (b.nought first n) := by
  unfold Bd.nought
  by_cases hn : n = 0
  . rw [if_pos hn]
    exact (Codes.refl h).mono fun G a c e => by unfold Fe; rw [if_pos hn]; exact e
  . rw [if_neg hn]
    have h1 := codes_put h (AT 0 0)
    refine (h1.seq h.lt (Hw n h1.pl first n)).mono fun G a c e => ?_
    unfold Fe
    rw [if_neg hn]
    obtain ⟨m, ⟨i1, rfl⟩, i2⟩ := e
    exact ⟨i1, i2⟩
end
def bd0 : Bd := ⟨0, [blk0], 0⟩
def GN (C : Core) (fn : CFn) (last : Bool) : Bd := (CS.buildL C fn.word fn.body (bif last then bd0 else bd0.nought (fn.first + fn.params) (fn.slots - fn.params).toNat)).leave C fn.word
def Cv (C : Core) (fn : CFn) (last : Bool) : BFunc := ⟨(GN C fn last).regs, (GN C fn last).blocks⟩
def Core.m (C : Core) : Int := if C.funcs.any CFn.word then C.words + 1 else C.words
def Core.build (C : Core) : Blocks := ⟨C.m, C.funcs.zipIdx.map fun p => Cv C p.1 (p.2 + 1 == C.funcs.length)⟩
theorem pl0 : Pl bd0 := ⟨blk0, rfl, rfl, rfl, rfl, rfl⟩
theorem O3 {C : Core} {n : Nat} {fn : CFn} (hok : CS.okL C n fn.word fn.body) (last : Bool) : Pl (GN C fn last) /\ cq C (GN C fn last).blocks fn last := by
  have h1 : Codes (fun G a c => if last = true then c = a else Fe G a (fn.first + fn.params) (fn.slots - fn.params).toNat c) bd0 (bif last then bd0 else bd0.nought (fn.first + fn.params) (fn.slots - fn.params).toNat) := by
    cases last with
    | true => exact (Codes.refl pl0).mono fun G a c e => by rw [if_pos rfl]; exact e
    | false => exact (Gf pl0 _ _).mono fun G a c e => by rw [if_neg (by decide)]; exact e
  have h2 := BU (C := C) (n := n) (w := fn.word) fn.body (fun st _ => Cr st.parts st (Nat.le_refl _)) hok _ h1.pl
  have h3 := JQ h2.pl C fn.word
  have q := h1.seq pl0.lt (h2.seq h1.pl.lt h3)
  refine ⟨h3.pl, ?_⟩
  have hpl : Pl (GN C fn last) := h3.pl
  obtain ⟨x, hx, e3, ev, et, ee⟩ := hpl
  have hc := q.code (GN C fn last).blocks (fun j => j = (GN C fn last).now) (fun j y hy => ⟨y, hy, List.prefix_refl _, fun _ => rfl⟩) ⟨rfl, fun j _ _ h => h, fun h e => h e.symm⟩
  obtain ⟨a1, i1, a2, i2, i3⟩ := hc
  have hp : bd0.pos = (0, 0) := rfl
  rw [hp] at i1
  refine ⟨a1, a2, ?_, i2, OI i3 ⟨x, hx, (E6 hx).symm, e3, ev, et, ee⟩⟩
  cases last with
  | true => rw [if_pos rfl] at i1 |-; exact i1
  | false => rw [if_neg (by decide)] at i1 |-; exact i1
theorem Ch {t : Tac} {i regs M : Int} (ho : (decide (1 <= t.op) && decide (t.op <= 10)) = true) (hd : setsOp t.op = true -> 0 <= t.d /\ t.d < regs) (hu : ∀ u ∈ t.uses, 0 <= u /\ u < regs) (hr : t.rest i M = true) (hs : t = t.want) : t.fits i regs M = true := by
  unfold Tac.fits
  rw [Bool.and_eq_true] at ho
  rw [ho.1, ho.2, hr, (NF t t.want).2 hs]
  have h1 : (!setsOp t.op || AY t.d regs) = true := by
    cases e : setsOp t.op with
    | false => rfl
    | true =>
      have := hd e
      simp [AY, this.1, this.2]
  have h2 : (t.uses.all fun r => AY r regs) = true := List.all_eq_true.2 fun u hu' => by
    have := hu u hu'
    simp [AY, this.1, this.2]
  rw [h1, h2]; rfl
theorem MD {t : Tac} {i regs regs' M : Int} (h : t.fits i regs M = true) (hr : regs <= regs') : t.fits i regs' M = true := by
  simp only [Tac.fits, Bool.and_eq_true, Bool.or_eq_true, Bool.not_eq_true', List.all_eq_true, AY, decide_eq_true_eq] at h |-
  obtain ⟨h1, h2, h3, h4, h5⟩ := h
  refine ⟨h1, h2, h3.imp id fun h => ⟨h.1, by omega⟩, fun u hu => ⟨(h4 u hu).1, by have := (h4 u hu).2; omega⟩, h5⟩
theorem Jh {x : Block} {n n' r r' : Int} (h : x.ends n r = true) (hn : n <= n') (hr : r <= r') : x.ends n' r' = true := by
  unfold Block.ends at h |-
  cases e1 : x.fin == 1 with
  | true =>
    rw [e1] at h
    simp only [cond_true, Bool.and_eq_true, AY, decide_eq_true_eq] at h |-
    exact ⟨⟨h.1.1, by omega⟩, h.2⟩
  | false =>
    cases e2 : x.fin == 2 with
    | true =>
      rw [e1, e2] at h
      simp only [cond_true, cond_false, Bool.and_eq_true, AY, decide_eq_true_eq] at h |-
      exact ⟨⟨h.1.1, by omega⟩, ⟨h.2.1.1, by omega⟩, h.2.2.1, by omega⟩
    | false =>
      rw [e1, e2] at h
      simpa using h
structure Inv (i M : Int) (b : Bd) : Prop where
  r0 : 0 <= b.regs
  ins : ∀ x ∈ b.blocks, ∀ t ∈ x.ins, t.fits i b.regs M = true
  ends : ∀ x ∈ b.blocks, x.ends b.blocks.length b.regs = true
structure Res (i M lo hi : Int) (b b' : Bd) : Prop where
  inv : Inv i M b'
  regs : b.regs <= b'.regs
  lo : lo <= b'.regs
  hi : b'.regs <= max b.regs hi
  len : b.blocks.length <= b'.blocks.length
section
variable {i M : Int} {C : Core} {n : Nat}
theorem D7 {b : Bd} {g : Block -> Block} {y : Block} (h : y ∈ (b.upd g).blocks) : (∃ x, b.blocks[b.now]? = some x /\ y = g x) \/ y ∈ b.blocks := by
  obtain ⟨j, hj⟩ := List.mem_iff_getElem?.1 h
  by_cases e : j = b.now
  . subst e
    have hl := (List.getElem?_eq_some_iff.1 hj).1
    rw [B4] at hl
    obtain ⟨x, hx⟩ := At hl
    rw [IV hx] at hj
    exact .inl ⟨x, hx, (Option.some.inj hj).symm⟩
  . rw [Cw e] at hj
    exact .inr (List.mem_of_getElem? hj)
theorem Dw {b : Bd} {t : Tac} (h : Inv i M b) (hd : 0 <= t.d) (ht : t.fits i (max b.regs (t.d + 1)) M = true) : Res i M (t.d + 1) (t.d + 1) b (b.put t) := by
  have hr : (b.put t).regs = max b.regs (t.d + 1) := rfl
  have hl : (b.put t).blocks.length = b.blocks.length := B4 b _
  have hb := h.r0
  refine ⟨⟨by rw [hr]; omega, fun y hy u hu => ?_, fun y hy => ?_⟩, by rw [hr]; omega, by rw [hr]; omega, by rw [hr]; omega, by rw [hl]; exact Nat.le_refl _⟩
  . rw [hr]
    rcases D7 (b := b) hy with ⟨x, hx, rfl⟩ | hy
    . rcases List.mem_append.1 (show u ∈ x.ins ++ [t] from hu) with hu | hu
      . exact MD (h.ins x (List.mem_of_getElem? hx) u hu) (by omega)
      . rw [List.mem_singleton.1 hu]; exact ht
    . exact MD (h.ins y hy u hu) (by omega)
  . rw [hr, hl]
    rcases D7 (b := b) hy with ⟨x, hx, rfl⟩ | hy
    . exact Jh (x := x) (h.ends x (List.mem_of_getElem? hx)) (by omega) (by omega)
    . exact Jh (h.ends y hy) (by omega) (by omega)
theorem Ce {b : Bd} (h : Inv i M b) : Inv i M b.opened := by
  refine ⟨h.r0, fun y hy u hu => ?_, fun y hy => ?_⟩
  . rcases List.mem_append.1 (show y ∈ b.blocks ++ [blk0] from hy) with hy | hy
    . exact h.ins y hy u hu
    . rw [List.mem_singleton.1 hy] at hu; cases hu
  . rw [Ai]
    rcases List.mem_append.1 (show y ∈ b.blocks ++ [blk0] from hy) with hy | hy
    . exact Jh (h.ends y hy) (by omega) (Int.le_refl _)
    . rw [List.mem_singleton.1 hy]; rfl
theorem RA {b : Bd} {g : Block -> Block} (h : Inv i M b) (hi : ∀ x, b.blocks[b.now]? = some x -> (g x).ins = x.ins) (he : ∀ x, b.blocks[b.now]? = some x -> (g x).ends b.blocks.length b.regs = true) : Inv i M (b.upd g) := by
  refine ⟨h.r0, fun y hy u hu => ?_, fun y hy => ?_⟩
  . rcases D7 hy with ⟨x, hx, rfl⟩ | hy
    . rw [hi x hx] at hu
      exact h.ins x (List.mem_of_getElem? hx) u hu
    . exact h.ins y hy u hu
  . rw [B4]
    rcases D7 hy with ⟨x, hx, rfl⟩ | hy
    . exact he x hx
    . exact h.ends y hy
theorem K6 {b : Bd} (h : Inv i M b) (hp : Pl b) {to : Nat} (ht : to < b.blocks.length) : Inv i M (b.jump to) := by
  obtain ⟨x0, hx0, e3, ev, et, ee⟩ := hp
  refine RA h (fun x hx => rfl) fun x hx => ?_
  rw [hx0] at hx; cases hx
  unfold Block.ends
  simp only [show ((1 : Int) == 1) = true from rfl, cond_true, ev, ee, AY]
  simp; omega
theorem GL {b : Bd} (h : Inv i M b) {v to els : Nat} (hv : (v : Int) < b.regs) (ht : to < b.blocks.length) (he : els < b.blocks.length) : Inv i M (b.fork v to els) := by
  refine RA h (fun x hx => rfl) fun x hx => ?_
  unfold Block.ends
  simp only [show ((2 : Int) == 1) = false from rfl, show ((2 : Int) == 2) = true from rfl, cond_true, cond_false, AY]
  simp; omega
theorem E5 {b : Bd} (h : Inv i M b) (k : Nat) : Inv i M (b.go k) := ⟨h.r0, h.ins, h.ends⟩
theorem Res.refl {b : Bd} (h : Inv i M b) {lo hi : Int} (hl : lo <= b.regs) : Res i M lo hi b b := ⟨h, Int.le_refl _, hl, by omega, Nat.le_refl _⟩
theorem Res.trans {lo1 hi1 lo2 hi2 lo hi : Int} {b b1 b2 : Bd} (h1 : Res i M lo1 hi1 b b1) (h2 : Res i M lo2 hi2 b1 b2) (hl : lo <= b2.regs) (h : hi1 <= hi) (h' : hi2 <= hi) : Res i M lo hi b b2 := by
  have a1 := h1.regs
  have a2 := h2.regs
  have a3 := h1.hi
  have a4 := h2.hi
  exact ⟨h2.inv, by omega, hl, by omega, Nat.le_trans h1.len h2.len⟩
theorem Rn {b : Bd} (h : Inv i M b) (d : Nat) (hd : (d : Int) < b.regs) : Res i M (d + 1) (d + 2) b (b.not d) := by
  have r1 := Dw (t := AT (d + 1) 0) h (by show (0 : Int) <= ((d + 1 : Nat) : Int); omega) (Ch rfl (fun _ => by show (0 : Int) <= ((d + 1 : Nat) : Int) /\ ((d + 1 : Nat) : Int) < max b.regs (((d + 1 : Nat) : Int) + 1); omega) (fun u hu => by cases hu) rfl rfl)
  have l1 := r1.lo
  have l1' : ((d + 1 : Nat) : Int) + 1 <= (b.put (AT (d + 1) 0)).regs := l1
  have r2 := Dw (t := AS 15 d d (d + 1)) r1.inv (by show (0 : Int) <= (d : Int); omega) (Ch rfl (fun _ => by show (0 : Int) <= (d : Int) /\ (d : Int) < max _ ((d : Int) + 1); omega) (fun u hu => by
    have hu2 : u = (d : Int) \/ u = ((d + 1 : Nat) : Int) := by
      have : u ∈ [(d : Int), ((d + 1 : Nat) : Int)] := hu
      simpa using this
    show 0 <= u /\ u < max _ ((d : Int) + 1)
    omega) rfl rfl)
  have l2 := r2.lo
  exact r1.trans r2 (by have : (d : Int) + 1 <= _ := l2; exact this) (by show ((d + 1 : Nat) : Int) + 1 <= (d : Int) + 2; omega) (by show (d : Int) + 1 <= (d : Int) + 2; omega)
theorem Ro {b : Bd} (h : Inv i M b) {op : Int} (d : Nat) (ho : 4 <= op /\ op <= 15) (hd : (d : Int) + 1 < b.regs) : Res i M (d + 1) (d + 1) b (b.put (AS op d d (d + 1))) :=
  Dw (t := AS op d d (d + 1)) h (by show (0 : Int) <= (d : Int); omega) (Ch rfl (fun _ => by show (0 : Int) <= (d : Int) /\ (d : Int) < max _ ((d : Int) + 1); omega) (fun u hu => by
    have hu2 : u = (d : Int) \/ u = ((d + 1 : Nat) : Int) := by
      have : u ∈ [(d : Int), ((d + 1 : Nat) : Int)] := hu
      simpa using this
    show 0 <= u /\ u < max _ ((d : Int) + 1)
    omega) (by
    show (decide (4 <= op) && decide (op <= 15)) = true
    rw [decide_eq_true ho.1, decide_eq_true ho.2]; rfl) rfl)
theorem UN {b : Bd} (d : Nat) (h : (d : Int) < b.regs) : (d : Int) + 1 < (b.not d).regs := by
  show (d : Int) + 1 < max (max b.regs (((d + 1 : Nat) : Int) + 1)) ((d : Int) + 1)
  omega
theorem Mj {b : Bd} (h : Inv i M b) (e : CE) (d : Nat) (hd : (d : Int) < b.regs) : Res i M (d + 1) (d + 2) b (b.truth e d) := by
  unfold Bd.truth
  cases e.flagged with
  | true => simp only [cond_true]; exact Res.refl h (by omega)
  | false =>
    simp only [cond_false]
    have r1 := Rn h d hd
    have r2 := Ro (op := 15) r1.inv d ⟨by decide, by decide⟩ (UN d hd)
    exact r1.trans r2 r2.lo (Int.le_refl _) (by omega)
theorem FE {b : Bd} (h : Inv i M b) {w : Int} {a : Nat} (hw : 0 <= w /\ w < M) (ha : (a : Int) < b.regs) : Res i M 0 1 b (b.put (AM w a)) := by
  have := Dw (t := AM w a) h (by show (0 : Int) <= 0; omega) (Ch rfl (fun e => by cases e) (fun u hu => by
    have hu2 : u = (a : Int) := by
      have : u ∈ [(a : Int)] := hu
      simpa using this
    show 0 <= u /\ u < max _ ((0 : Int) + 1)
    omega) (by
    show AY w M = true
    simp [AY, hw.1, hw.2]) rfl)
  exact ⟨this.inv, this.regs, by have := this.inv.r0; exact this, this.hi, this.len⟩
theorem Oe {b : Bd} (h : Inv i M b) {first : Int} (d : Nat) : ∀ (n : Nat), 0 <= first -> first + n <= M -> (d + n : Nat) <= b.regs -> Res i M 0 1 b (b.args first d n)
  | 0, _, _, _ => Res.refl h h.r0
  | n + 1, h0, h1, h2 => by
    have ih := Oe h d n h0 (by omega) (by omega)
    have hr := ih.regs
    have r2 := FE (w := first + n) (a := d + n) ih.inv ⟨by omega, by omega⟩ (by omega)
    exact ih.trans r2 r2.lo (Int.le_refl _) (Int.le_refl _)
theorem Ky {b : Bd} (h : Inv i M b) {g : Int} {k d : Nat} (hg : 0 <= g /\ g < i) (h0 : 0 <= C.first g) (h1 : C.first g + k <= M) (h2 : (d + k : Nat) <= b.regs) : Res i M 0 1 b (b.called C g k d) := by
  have r1 := Oe h d k h0 h1 h2
  have r2 := Dw (t := ED g) r1.inv (by show (0 : Int) <= 0; omega) (Ch rfl (fun e => by cases e) (fun u hu => by cases hu) (by
    show AY g i = true
    simp [AY, hg.1, hg.2]) rfl)
  exact r1.trans r2 r2.inv.r0 (Int.le_refl _) (by show (0 : Int) + 1 <= 1; omega)
theorem F3 {b : Bd} {k to : Nat} {f : Bd -> Bd} {hi : Int} (hb : Inv i M b) (hf : Res i M 0 hi (b.go k) (f (b.go k))) (hp : Pl (f (b.go k))) (ht : to < b.blocks.length) : Res i M 0 hi b (b.inside k to f) := by
  have hl := hf.len
  have hr := hf.regs
  have h2 := hf.hi
  have hgl : (b.go k).blocks.length = b.blocks.length := rfl
  have hgr : (b.go k).regs = b.regs := rfl
  have := K6 hf.inv hp (to := to) (by omega)
  have hll : ((f (b.go k)).jump to).blocks.length = (f (b.go k)).blocks.length := B4 _ _
  exact ⟨E5 this _, hr, hf.inv.r0, h2, by show _ <= ((f (b.go k)).jump to).blocks.length; omega⟩
structure Pp (C : Core) (n : Nat) (M : Int) : Prop where
  w0 : 0 <= C.words
  wm : C.words <= M
  told : ∀ fn ∈ C.funcs, fn.word = true -> C.words < M
  fn : ∀ (g : Nat) (fn : CFn), C.funcs[g]? = some fn -> 0 <= fn.first /\ fn.first + fn.params <= C.words
theorem res_right {b : Bd} (h : Inv i M b) (hp : Pl b) {k : Int} {d : Nat} {hi : Int} (hd : (d : Int) < b.regs) (hhi : (d : Int) + 1 <= hi) {f : Bd -> Bd} (hf : ∀ b0, Pl b0 -> Inv i M b0 -> b.regs <= b0.regs -> Res i M 0 hi b0 (f b0) /\ Pl (f b0)) :
    Res i M (d + 1) hi b (((b.either0 k d).inside b.blocks.length (b.blocks.length + 1) f).go (b.blocks.length + 1)) := by
  have i2 := Ce (Ce h)
  have l2 : b.opened.opened.blocks.length = b.blocks.length + 2 := by rw [Ai, Ai]
  have hb1 : Inv i M (b.either0 k d) := by
    unfold Bd.either0
    cases k == 8
    . exact GL i2 (v := d) hd (by omega) (by omega)
    . exact GL i2 (v := d) hd (by omega) (by omega)
  have l1 : (b.either0 k d).blocks.length = b.blocks.length + 2 := by
    unfold Bd.either0
    cases k == 8
    . exact (B4 b.opened.opened _).trans l2
    . exact (B4 b.opened.opened _).trans l2
  have hr1 : (b.either0 k d).regs = b.regs := by unfold Bd.either0; cases k == 8 <;> rfl
  have hlt := hp.lt
  have n1 : (b.either0 k d).blocks[b.blocks.length]? = some blk0 := by
    have e : b.opened.opened.blocks[b.blocks.length]? = some blk0 := (AF (by rw [Ai]; omega)).trans (CU b)
    unfold Bd.either0
    cases k == 8
    . exact (Cw (b := b.opened.opened) NM).trans e
    . exact (Cw (b := b.opened.opened) NM).trans e
  obtain ⟨f1, f2⟩ := hf ((b.either0 k d).go b.blocks.length) ⟨blk0, n1, rfl, rfl, rfl, rfl⟩ (E5 hb1 _) (by show b.regs <= (b.either0 k d).regs; omega)
  have r := F3 hb1 f1 f2 (to := b.blocks.length + 1) (by omega)
  have a1 := r.regs
  have a2 := r.hi
  have a3 := r.len
  exact ⟨E5 r.inv _, by show b.regs <= _; exact (show b.regs <= ((b.either0 k d).inside b.blocks.length (b.blocks.length + 1) f).regs from by omega), by show (d : Int) + 1 <= ((b.either0 k d).inside b.blocks.length (b.blocks.length + 1) f).regs; omega, by show ((b.either0 k d).inside b.blocks.length (b.blocks.length + 1) f).regs <= _; omega, by show b.blocks.length <= ((b.either0 k d).inside b.blocks.length (b.blocks.length + 1) f).blocks.length; omega⟩
def Za (C : Core) (n : Nat) (M : Int) (e : CE) : Prop := e.ok C n -> ∀ (d : Nat) (b : Bd), Pl b -> Inv n M b -> Res n M (d + 1) (d + e.parts + 1) b (e.build C d b)
theorem Kx : ∀ (l : List CE), (∀ e ∈ l, Za C n M e) -> CE.okL C n l -> ∀ (d : Nat) (b : Bd), Pl b -> Inv n M b -> Res n M (if l = [] then 0 else d + l.length) (d + CE.partsL l + 1) b (CE.buildL C l d b)
  | [], _, _, d, b, hp, hb => by
    rw [CE.buildL, if_pos rfl]
    exact Res.refl hb hb.r0
  | e :: l, hI, hok, d, b, hp, hb => by
    rw [CE.buildL, if_neg (by simp)]
    rw [CE.okL] at hok
    rw [CE.partsL]
    have r1 := hI e (List.mem_cons.2 (.inl rfl)) hok.1 d b hp hb
    have p1 := (BP e.parts e (Nat.le_refl _) hok.1 d b hp).pl
    have r2 := Kx l (fun e he => hI e (List.mem_cons.2 (.inr he))) hok.2 (d + 1) (e.build C d b) p1 r1.inv
    have a1 := r1.lo
    have a2 := r2.regs
    have a3 := r2.lo
    refine r1.trans r2 ?_ (by omega) ?_
    . rw [List.length_cons]
      by_cases hl : l = []
      . subst hl; simp at a2 |-; omega
      . rw [if_neg hl] at a3; omega
    . have : ∀ e : CE, 1 <= e.parts := fun e => by cases e; rw [CE.parts]; omega
      have := this e
      omega
theorem Oc (hN : Pp C n M) : ∀ (m : Nat) (e : CE), e.parts <= m -> Za C n M e
  | 0, e, h => by cases e; rw [CE.parts] at h; omega
  | m + 1, e, hm => by
    cases e with
    | mk k o num sl z kids =>
    rw [CE.parts] at hm
    have hI : ∀ e ∈ kids, Za C n M e := fun e he => Oc hN m e (by have := AW he; omega)
    intro hok d b hp hb
    rw [CE.ok] at hok
    rw [CE.parts]
    obtain ⟨hkids, hk⟩ := hok
    have w0 := hN.w0
    have wm := hN.wm
    have hL := Kx kids hI hkids d b hp hb
    have pL := (C6 hkids d b hp).pl
    have hone : ∀ (b : Bd) (t : Tac), Inv n M b -> t.d = (d : Int) -> t.fits n (max b.regs (t.d + 1)) M = true -> Res n M (d + 1) (d + 1) b (b.put t) := fun b t h1 h2 h3 => by
      have := Dw h1 (by omega) h3
      rw [h2] at this; exact this
    rcases hk with ⟨rfl, hw⟩ | ⟨rfl, h0, h1⟩ | ⟨rfl, h1, z1, z2, s0, s1⟩ | ⟨rfl, s0, s1, fn, hfn, hwd, hpar, h6⟩ | rfl | ⟨rfl, h2, o1, o2⟩ | ⟨rfl, h1⟩ | ⟨rfl, h2⟩ | ⟨rfl, h2⟩
    . rw [CE.build, if_pos rfl]
      have r := hone b (AT d num) hb rfl (Ch rfl (fun _ => by show (0 : Int) <= (d : Int) /\ (d : Int) < max _ ((d : Int) + 1); omega) (fun u hu => by cases hu) rfl rfl)
      exact (Res.refl hb hb.r0 (hi := 0)).trans r r.lo (by omega) (by omega)
    . rw [CE.build, if_neg (by decide), if_pos rfl]
      have r := hone b (Dk d sl) hb rfl (Ch rfl (fun _ => by show (0 : Int) <= (d : Int) /\ (d : Int) < max _ ((d : Int) + 1); omega) (fun u hu => by cases hu) (by show AY sl M = true; simp [AY, h0]; omega) rfl)
      exact (Res.refl hb hb.r0 (hi := 0)).trans r r.lo (by omega) (by omega)
    . rw [CE.build, if_neg (by decide), if_neg (by decide), if_pos rfl]
      obtain ⟨e, rfl⟩ := CY h1
      have a1 := hL.lo
      rw [if_neg (by simp)] at a1
      have r := hone _ (Gc d d sl z) hL.inv rfl (Ch rfl (fun _ => by show (0 : Int) <= (d : Int) /\ (d : Int) < max _ ((d : Int) + 1); omega) (fun u hu => by
        have hu2 : u = (d : Int) := by
          have : u ∈ [(d : Int)] := hu
          simpa using this
        show 0 <= u /\ u < max _ ((d : Int) + 1)
        omega) (by
        show (decide (1 <= z) && (decide (z <= 4096) && (decide (0 <= sl) && decide (sl <= M - z)))) = true
        rw [decide_eq_true z1, decide_eq_true z2, decide_eq_true s0, decide_eq_true (by omega)]; rfl) rfl)
      exact hL.trans r r.lo (by omega) (by omega)
    . rw [CE.build, if_neg (by decide), if_neg (by decide), if_neg (by decide), if_pos rfl]
      have a1 := hL.lo
      have f1 := hN.fn sl.toNat fn hfn
      have ef : C.first sl = fn.first := Iy hfn
      have htold := hN.told fn (List.mem_of_getElem? hfn) hwd
      have hlen : (d + kids.length : Nat) <= (CE.buildL C kids d b).regs \/ kids.length = 0 := by
        by_cases hkn : kids = []
        . subst hkn; exact .inr rfl
        . rw [if_neg hkn] at a1; left; omega
      have hb0 := hL.inv.r0
      by_cases hz : kids.length = 0
      . have hk0 : kids = [] := List.length_eq_zero_iff.1 hz
        subst hk0
        have r2 : Res n M 0 1 (CE.buildL C [] d b) ((CE.buildL C [] d b).called C sl 0 d) := by
          have r3 := Dw (t := ED sl) hL.inv (by show (0 : Int) <= 0; omega) (Ch rfl (fun e => by cases e) (fun u hu => by cases hu) (by
            show AY sl n = true
            simp [AY, s0, s1]) rfl)
          exact ⟨r3.inv, r3.regs, r3.inv.r0, by have := r3.hi; exact this, r3.len⟩
        have r := hone _ (Dk d C.words) r2.inv rfl (Ch rfl (fun _ => by show (0 : Int) <= (d : Int) /\ (d : Int) < max _ ((d : Int) + 1); omega) (fun u hu => by cases hu) (by show AY C.words M = true; simp [AY, w0, htold]) rfl)
        exact (hL.trans r2 r2.lo (hi := d + 1 + 1) (by rw [CE.partsL]; omega) (by omega)).trans r r.lo (by rw [CE.partsL]; omega) (by omega)
      . have h3 := hlen.resolve_right hz
        have r2 := Ky (C := C) (g := sl) (k := kids.length) (d := d) hL.inv ⟨s0, s1⟩ (by rw [ef]; exact f1.1) (by rw [ef]; omega) h3
        have r := hone _ (Dk d C.words) r2.inv rfl (Ch rfl (fun _ => by show (0 : Int) <= (d : Int) /\ (d : Int) < max _ ((d : Int) + 1); omega) (fun u hu => by cases hu) (by show AY C.words M = true; simp [AY, w0, htold]) rfl)
        exact (hL.trans r2 r2.lo (hi := d + CE.partsL kids + 1) (by omega) (by omega)).trans r r.lo (by omega) (by omega)
    . rw [CE.build, if_neg (by decide), if_neg (by decide), if_neg (by decide), if_neg (by decide), if_pos rfl]
      have r := hone b (K8 d) hb rfl (Ch rfl (fun _ => by show (0 : Int) <= (d : Int) /\ (d : Int) < max _ ((d : Int) + 1); omega) (fun u hu => by cases hu) rfl rfl)
      exact (Res.refl hb hb.r0 (hi := 0)).trans r r.lo (by omega) (by omega)
    . rw [CE.build, if_neg (by decide), if_neg (by decide), if_neg (by decide), if_neg (by decide), if_neg (by decide), if_pos rfl]
      obtain ⟨e1, e2, rfl⟩ := len_two h2
      have a1 := hL.lo
      rw [if_neg (by simp)] at a1
      have a2 : (d : Int) + 2 <= (CE.buildL C [e1, e2] d b).regs := a1
      have r := Ro (op := o) hL.inv d ⟨o1, o2⟩ (by omega)
      exact hL.trans r r.lo (by omega) (by omega)
    . rw [CE.build, if_neg (by decide), if_neg (by decide), if_neg (by decide), if_neg (by decide), if_neg (by decide), if_neg (by decide), if_pos rfl]
      obtain ⟨e, rfl⟩ := CY h1
      have a1 := hL.lo
      rw [if_neg (by simp)] at a1
      have a2 : (d : Int) + 1 <= (CE.buildL C [e] d b).regs := a1
      have he : 1 <= CE.partsL [e] := by rw [CE.partsL]; cases e; rw [CE.parts]; omega
      have r := Rn hL.inv d (by omega)
      exact hL.trans r r.lo (by omega) (by omega)
    all_goals
      obtain ⟨e1, e2, rfl⟩ := len_two h2
      rw [CE.build, if_neg (by decide), if_neg (by decide), if_neg (by decide), if_neg (by decide), if_neg (by decide), if_neg (by decide), if_neg (by decide), if_pos (by decide), DL, DK]
      rw [CE.okL, CE.okL] at hkids
      have q1 : 1 <= e1.parts := by cases e1; rw [CE.parts]; omega
      have q2 : 1 <= e2.parts := by cases e2; rw [CE.parts]; omega
      have r1 := hI e1 (by simp) hkids.1 d b hp hb
      have p1 := (BP e1.parts e1 (Nat.le_refl _) hkids.1 d b hp).pl
      have lo1 := r1.lo
      have r2 := Mj r1.inv e1 d (by omega)
      have p2 := (C5 p1 e1 d).pl
      have lo2 := r2.lo
      have hR : ∀ b0, Pl b0 -> Inv n M b0 -> _ -> Res n M 0 (d + e2.parts + 2) b0 ((e2.build C d b0).truth e2 d) /\ Pl ((e2.build C d b0).truth e2 d) := fun b0 hp0 hb0 (_ : True) => by
        have s1 := hI e2 (by simp) hkids.2.1 d b0 hp0 hb0
        have lo3 := s1.lo
        have s2 := Mj s1.inv e2 d (by omega)
        have pl2 := (BP e2.parts e2 (Nat.le_refl _) hkids.2.1 d b0 hp0).pl
        exact ⟨s1.trans s2 s2.inv.r0 (by omega) (by omega), (C5 pl2 e2 d).pl⟩
      simp only [CE.partsL]
      first
      | (have r3 := res_right (k := 8) (d := d) (hi := d + e2.parts + 2) r2.inv p2 (by omega) (by omega) (f := fun x => (e2.build C d x).truth e2 d) (fun b0 h1 h2 _ => hR b0 h1 h2 trivial); exact (r1.trans r2 lo2 (hi := d + e1.parts + 2) (by omega) (by omega)).trans r3 r3.lo (by omega) (by omega))
      | (have r3 := res_right (k := 9) (d := d) (hi := d + e2.parts + 2) r2.inv p2 (by omega) (by omega) (f := fun x => (e2.build C d x).truth e2 d) (fun b0 h1 h2 _ => hR b0 h1 h2 trivial); exact (r1.trans r2 lo2 (hi := d + e1.parts + 2) (by omega) (by omega)).trans r3 r3.lo (by omega) (by omega))
end
section
variable {M : Int} {C : Core} {n : Nat} {w : Bool}
theorem Ml (hN : Pp C n M) {l : List CE} (hok : CE.okL C n l) (d : Nat) (b : Bd) (hp : Pl b) (hb : Inv n M b) : Res n M (if l = [] then 0 else d + l.length) (d + CE.partsL l + 1) b (CE.buildL C l d b) :=
  Kx l (fun e _ => Oc hN e.parts e (Nat.le_refl _)) hok d b hp hb
theorem Sz (st : CS) : 1 <= st.parts := by cases st; rw [CS.parts]; omega
theorem Mk {b : Bd} (hN : Pp C n M) (hw : w = true -> C.words < M) (hp : Pl b) (hb : Inv n M b) : Res n M 0 1 b (b.leave C w) := by
  unfold Bd.leave
  cases w with
  | false =>
    simp only [cond_false]
    rw [Ig hp]
    exact Res.refl hb hb.r0
  | true =>
    simp only [cond_true]
    have h1 := codes_put hp (AT 0 0)
    have h2 := codes_put h1.pl (AM C.words 0)
    rw [Ig h2.pl]
    have r1 := Dw (t := AT 0 0) hb (by show (0 : Int) <= 0; omega) (Ch rfl (fun _ => by show (0 : Int) <= 0 /\ (0 : Int) < max _ ((0 : Int) + 1); omega) (fun u hu => by cases hu) rfl rfl)
    have l1 : (0 : Int) + 1 <= (b.put (AT 0 0)).regs := r1.lo
    have r2 := FE (w := C.words) (a := 0) r1.inv ⟨hN.w0, hw rfl⟩ (by show (0 : Int) < _; omega)
    exact r1.trans r2 r2.lo (by show (0 : Int) + 1 <= 1; omega) (Int.le_refl _)
theorem Ob {b : Bd} (hb : Inv n M b) : Res n M 0 0 b b.next := ⟨E5 (Ce hb) _, Int.le_refl _, hb.r0, by show b.regs <= _; omega, by show _ <= b.opened.blocks.length; rw [Ai]; omega⟩
theorem So {b : Blocks} (h1 : 0 <= b.words) (h2 : b.words <= 1048576) (h3 : b.funcs ≠ []) (h4 : ∀ (i : Nat) (f : BFunc), b.funcs[i]? = some f -> f.one (i : Int) b.words = true) : b.right = true := by
  unfold Blocks.right
  rw [decide_eq_true h1, decide_eq_true h2]
  have : b.funcs.isEmpty = false := by simpa using h3
  rw [this]
  simp only [Bool.not_false, Bool.true_and]
  refine List.all_eq_true.2 fun p hp => ?_
  obtain ⟨i, hi⟩ := List.mem_iff_getElem?.1 hp
  rw [List.getElem?_zipIdx] at hi
  cases e : b.funcs[i]? with
  | none => rw [e] at hi; simp at hi
  | some f =>
    rw [e] at hi
    simp at hi
    subst hi
    exact h4 i f e
def ResS (C : Core) (n : Nat) (M : Int) (w : Bool) (st : CS) : Prop := st.ok C n w -> ∀ (b : Bd), Pl b -> Inv n M b -> Res n M 0 (st.parts + 1) b (st.build C w b)
theorem FF (B : Int) : ∀ (l : List CS), (∀ st ∈ l, ResS C n M w st) -> (∀ st ∈ l, (st.parts : Int) + 1 <= B) -> CS.okL C n w l -> ∀ (b : Bd), Pl b -> Inv n M b -> Res n M 0 B b (CS.buildL C w l b)
  | [], _, _, _, b, hp, hb => by
    rw [CS.buildL]
    exact Res.refl hb hb.r0
  | st :: l, hI, hB, hok, b, hp, hb => by
    rw [CS.buildL]
    rw [CS.okL] at hok
    have r1 := hI st (List.mem_cons.2 (.inl rfl)) hok.1 b hp hb
    have p1 := (Cr st.parts st (Nat.le_refl _) hok.1 b hp).pl
    have r2 := FF B l (fun st he => hI st (List.mem_cons.2 (.inr he))) (fun st he => hB st (List.mem_cons.2 (.inr he))) hok.2 (st.build C w b) p1 r1.inv
    exact r1.trans r2 r2.lo (hB st (List.mem_cons.2 (.inl rfl))) (Int.le_refl _)
theorem P0 {b : Bd} (hb : Inv n M b) (hp : Pl b) {hi : Int} (h0 : 0 < b.regs) {RT RE : List Block -> BI -> BI -> Prop} {fT fE : Bd -> Bd} (hT : ∀ b0, Pl b0 -> Codes RT b0 (fT b0)) (hE : ∀ b0, Pl b0 -> Codes RE b0 (fE b0)) (rT : ∀ b0, Pl b0 -> Inv n M b0 -> Res n M 0 hi b0 (fT b0)) (rE : ∀ b0, Pl b0 -> Inv n M b0 -> Res n M 0 hi b0 (fE b0)) :
    Res n M 0 hi b (((((b.opened.opened.opened).inside (b.blocks.length + 2) (b.blocks.length + 1) fE).fork 0 b.blocks.length (b.blocks.length + 2)).inside b.blocks.length (b.blocks.length + 1) fT).go (b.blocks.length + 1)) := by
  have hlt := hp.lt
  have i3 := Ce (Ce (Ce hb))
  have l3 : b.opened.opened.opened.blocks.length = b.blocks.length + 3 := by rw [Ai, Ai, Ai]
  have n0 : b.opened.opened.opened.blocks[b.blocks.length]? = some blk0 := by
    exact V5
  have n2 : b.opened.opened.opened.blocks[b.blocks.length + 2]? = some blk0 := by
    exact Q8
  have hr3 : b.opened.opened.opened.regs = b.regs := rfl
  have hn3 : b.opened.opened.opened.now = b.now := rfl
  generalize b.opened.opened.opened = b3 at i3 l3 n0 n2 hr3 hn3 |-
  have pl2 : Pl (b3.go (b.blocks.length + 2)) := ⟨blk0, n2, rfl, rfl, rfl, rfl⟩
  have cE := hE _ pl2
  have r4 := F3 i3 (rE _ pl2 (E5 i3 _)) cE.pl (to := b.blocks.length + 1) (by omega)
  have iE := EP (to := b.blocks.length + 1) n2 cE
  generalize b3.inside (b.blocks.length + 2) (b.blocks.length + 1) fE = b4 at r4 iE |-
  have l4 := r4.len
  have g4 := r4.regs
  have k4 := r4.hi
  have hn4 : b4.now = b.now := iE.now.trans hn3
  have i5 := GL r4.inv (v := 0) (to := b.blocks.length) (els := b.blocks.length + 2) (by show (0 : Int) < _; omega) (by omega) (by omega)
  have n5 : (b4.fork 0 b.blocks.length (b.blocks.length + 2)).blocks[b.blocks.length]? = some blk0 := (Cw (b := b4) (by rw [hn4]; omega)).trans ((iE.old _ (by omega) (by omega)).trans n0)
  have l5 : (b4.fork 0 b.blocks.length (b.blocks.length + 2)).blocks.length = b4.blocks.length := B4 b4 _
  have g5 : (b4.fork 0 b.blocks.length (b.blocks.length + 2)).regs = b4.regs := rfl
  generalize b4.fork 0 b.blocks.length (b.blocks.length + 2) = b5 at i5 n5 l5 g5 |-
  have pl5 : Pl (b5.go b.blocks.length) := ⟨blk0, n5, rfl, rfl, rfl, rfl⟩
  have cT := hT _ pl5
  have r6 := F3 i5 (rT _ pl5 (E5 i5 _)) cT.pl (to := b.blocks.length + 1) (by omega)
  generalize b5.inside b.blocks.length (b.blocks.length + 1) fT = b6 at r6 |-
  exact XC
theorem Uw {b : Bd} (hb : Inv n M b) (hp : Pl b) {hi : Int} {RC RT : List Block -> BI -> BI -> Prop} {fC fT : Bd -> Bd} (hC : ∀ b0, Pl b0 -> Codes RC b0 (fC b0)) (hT : ∀ b0, Pl b0 -> Codes RT b0 (fT b0)) (rC : ∀ b0, Pl b0 -> Inv n M b0 -> Res n M 1 hi b0 (fC b0)) (rT : ∀ b0, Pl b0 -> Inv n M b0 -> Res n M 0 hi b0 (fT b0)) :
    Res n M 0 hi b ((((fC (((b.opened.opened.opened).inside b.now b.blocks.length fun x => x).go b.blocks.length)).fork 0 (b.blocks.length + 1) (b.blocks.length + 2)).inside (b.blocks.length + 1) b.blocks.length fT).go (b.blocks.length + 2)) := by
  obtain ⟨x, hx, e3, ev, et, ee⟩ := hp
  have hlt := (List.getElem?_eq_some_iff.1 hx).1
  have i3 := Ce (Ce (Ce hb))
  have l3 : b.opened.opened.opened.blocks.length = b.blocks.length + 3 := by rw [Ai, Ai, Ai]
  have n0 : b.opened.opened.opened.blocks[b.blocks.length]? = some blk0 := by
    exact V5
  have n1 : b.opened.opened.opened.blocks[b.blocks.length + 1]? = some blk0 := by
    exact XZ
  have x3 : b.opened.opened.opened.blocks[b.now]? = some x := by
    rw [AF (by rw [Ai, Ai]; omega), AF (by rw [Ai]; omega), AF hlt]; exact hx
  have eB : ((b.opened.opened.opened).inside b.now b.blocks.length fun x => x).go b.blocks.length = (b.opened.opened.opened.jump b.blocks.length).go b.blocks.length := rfl
  rw [eB]
  have ij := K6 i3 ⟨x, x3, e3, ev, et, ee⟩ (to := b.blocks.length) (by omega)
  have j0 : (b.opened.opened.opened.jump b.blocks.length).blocks[b.blocks.length]? = some blk0 := (Cw (b := b.opened.opened.opened) NM).trans n0
  have j1 : (b.opened.opened.opened.jump b.blocks.length).blocks[b.blocks.length + 1]? = some blk0 := (Cw (b := b.opened.opened.opened) (by show b.blocks.length + 1 ≠ b.now; omega)).trans n1
  have lj : (b.opened.opened.opened.jump b.blocks.length).blocks.length = b.blocks.length + 3 := (B4 _ _).trans l3
  have gj : (b.opened.opened.opened.jump b.blocks.length).regs = b.regs := rfl
  generalize b.opened.opened.opened.jump b.blocks.length = bj at ij j0 j1 lj gj |-
  have plj : Pl (bj.go b.blocks.length) := ⟨blk0, j0, rfl, rfl, rfl, rfl⟩
  have cC := hC _ plj
  have rc := rC _ plj (E5 ij _)
  have lgo : (bj.go b.blocks.length).blocks.length = b.blocks.length + 3 := lj
  have ggo : (bj.go b.blocks.length).regs = b.regs := gj
  generalize fC (bj.go b.blocks.length) = bc at cC rc |-
  have c1 := rc.len
  have c2 := rc.regs
  have c3 := rc.hi
  have c4 := rc.lo
  have hcn : bc.now = b.blocks.length \/ b.blocks.length + 3 <= bc.now := by
    have := cC.fr.now
    rw [lgo] at this; exact this
  have ic := GL rc.inv (v := 0) (to := b.blocks.length + 1) (els := b.blocks.length + 2) (by show (0 : Int) < _; omega) (by omega) (by omega)
  have f1 : (bc.fork 0 (b.blocks.length + 1) (b.blocks.length + 2)).blocks[b.blocks.length + 1]? = some blk0 := (Cw (b := bc) (by omega)).trans (cC.fr.old _ _ (by show b.blocks.length + 1 ≠ b.blocks.length; omega) j1)
  have lf : (bc.fork 0 (b.blocks.length + 1) (b.blocks.length + 2)).blocks.length = bc.blocks.length := B4 bc _
  have gf : (bc.fork 0 (b.blocks.length + 1) (b.blocks.length + 2)).regs = bc.regs := rfl
  generalize bc.fork 0 (b.blocks.length + 1) (b.blocks.length + 2) = bf at ic f1 lf gf |-
  have plf : Pl (bf.go (b.blocks.length + 1)) := ⟨blk0, f1, rfl, rfl, rfl, rfl⟩
  have cT := hT _ plf
  have r6 := F3 ic (rT _ plf (E5 ic _)) cT.pl (to := b.blocks.length) (by omega)
  generalize bf.inside (b.blocks.length + 1) b.blocks.length fT = b6 at r6 |-
  exact XC
theorem Kw (hN : Pp C n M) (hw : w = true -> C.words < M) : ∀ (m : Nat) (st : CS), st.parts <= m -> ResS C n M w st
  | 0, st, h => by have := Sz st; omega
  | m + 1, st, hm => by
    cases st with
    | mk k s z es thn els =>
    rw [CS.parts] at hm
    have hT : ∀ st ∈ thn, ResS C n M w st := fun st hs => Kw hN hw m st (by have := AO hs; omega)
    have hL : ∀ st ∈ els, ResS C n M w st := fun st hs => Kw hN hw m st (by have := AO hs; omega)
    intro hok b hp hb
    rw [CS.ok] at hok
    rw [CS.parts]
    obtain ⟨hes, hthn, hels, hk⟩ := hok
    have hE := Ml hN hes 0 b hp hb
    have pE := (C6 hes 0 b hp).pl
    have w0 := hN.w0
    have wm := hN.wm
    have lo1 := hE.lo
    have hput : ∀ (b : Bd) (t : Tac), Inv n M b -> t.d = 0 -> t.fits n (max b.regs (t.d + 1)) M = true -> Res n M 0 1 b (b.put t) := fun b t h1 h2 h3 => by
      have := Dw h1 (by omega) h3
      exact ⟨this.inv, this.regs, this.inv.r0, by have h4 := this.hi; rw [h2] at h4; exact h4, this.len⟩
    rcases hk with ⟨rfl, h1, s0, s1⟩ | ⟨rfl, h2, z1, z2, s0, s1⟩ | ⟨rfl, h1⟩ | ⟨rfl, h1⟩ | ⟨rfl, h1⟩ | ⟨rfl, s0, s1, fn, hfn, hwd, hpar, h6⟩ | ⟨rfl, h1⟩
    . rw [CS.build, if_pos rfl]
      obtain ⟨e, rfl⟩ := CY h1
      rw [if_neg (by simp)] at lo1
      have lo2 : (1 : Int) <= (CE.buildL C [e] 0 b).regs := lo1
      have r2 := FE (w := s) (a := 0) hE.inv ⟨s0, by omega⟩ (by show (0 : Int) < _; omega)
      exact hE.trans r2 r2.lo (by omega) (by omega)
    . rw [CS.build, if_neg (by decide), if_pos rfl]
      obtain ⟨e1, e2, rfl⟩ := len_two h2
      rw [if_neg (by simp)] at lo1
      have lo2 : (2 : Int) <= (CE.buildL C [e1, e2] 0 b).regs := lo1
      have r2 := hput _ (BF 0 1 s z) hE.inv rfl (Ch rfl (fun e => by cases e) (fun u hu => by
        have hu2 : u = 0 \/ u = 1 := by
          have : u ∈ [(0 : Int), 1] := hu
          simpa using this
        show 0 <= u /\ u < max _ ((0 : Int) + 1)
        omega) (by
        show (decide (1 <= z) && (decide (z <= 4096) && (decide (0 <= s) && decide (s <= M - z)))) = true
        rw [decide_eq_true z1, decide_eq_true z2, decide_eq_true s0, decide_eq_true (by omega)]; rfl) rfl)
      exact hE.trans r2 r2.lo (by omega) (by omega)
    . rw [CS.build, if_neg (by decide), if_neg (by decide), if_pos rfl]
      obtain ⟨e, rfl⟩ := CY h1
      rw [if_neg (by simp)] at lo1
      have lo2 : (1 : Int) <= (CE.buildL C [e] 0 b).regs := lo1
      have r2 := hput _ (Jg 0) hE.inv rfl (Ch rfl (fun e => by cases e) (fun u hu => by
        have hu2 : u = 0 := by
          have : u ∈ [(0 : Int)] := hu
          simpa using this
        show 0 <= u /\ u < max _ ((0 : Int) + 1)
        omega) rfl rfl)
      exact hE.trans r2 r2.lo (by omega) (by omega)
    . rw [CS.build, if_neg (by decide), if_neg (by decide), if_neg (by decide), if_neg (by decide), if_neg (by decide), if_pos rfl]
      dsimp only
      obtain ⟨e, rfl⟩ := CY h1
      rw [if_neg (by simp)] at lo1
      have lo2 : (1 : Int) <= (CE.buildL C [e] 0 b).regs := lo1
      have fT : ∀ b0, Pl b0 -> Codes (fun G a c => CS.codeL C w G thn a c) b0 (CS.buildL C w thn b0) := fun b0 h0 => BU thn (fun st _ => Cr st.parts st (Nat.le_refl _)) hthn b0 h0
      have fE : ∀ b0, Pl b0 -> Codes (fun G a c => CS.codeL C w G els a c) b0 (CS.buildL C w els b0) := fun b0 h0 => BU els (fun st _ => Cr st.parts st (Nat.le_refl _)) hels b0 h0
      have rT : ∀ b0, Pl b0 -> Inv n M b0 -> Res n M 0 ((1 + CE.partsL [e] + CS.partsL thn + CS.partsL els : Nat) + 1) b0 (CS.buildL C w thn b0) := fun b0 h0 h1 => FF _ thn hT (fun st hs => by have := AO hs; omega) hthn b0 h0 h1
      have rE : ∀ b0, Pl b0 -> Inv n M b0 -> Res n M 0 ((1 + CE.partsL [e] + CS.partsL thn + CS.partsL els : Nat) + 1) b0 (CS.buildL C w els b0) := fun b0 h0 h1 => FF _ els hL (fun st hs => by have := AO hs; omega) hels b0 h0 h1
      by_cases he : els = []
      . rw [if_pos he]
        have r2 := res_right (k := 8) (d := 0) (hi := ((1 + CE.partsL [e] + CS.partsL thn + CS.partsL els : Nat) + 1)) hE.inv pE (by show (0 : Int) < _; omega) (by omega) (f := fun x => CS.buildL C w thn x) (fun b0 h0 h1 _ => ⟨rT b0 h0 h1, (fT b0 h0).pl⟩)
        exact hE.trans r2 r2.inv.r0 (by omega) (Int.le_refl _)
      . rw [if_neg he]
        have r2 := P0 hE.inv pE (by omega) fT fE rT rE
        exact hE.trans r2 r2.lo (by omega) (Int.le_refl _)
    . rw [CS.build, if_neg (by decide), if_neg (by decide), if_neg (by decide), if_neg (by decide), if_neg (by decide), if_neg (by decide), if_pos rfl]
      dsimp only
      obtain ⟨e, rfl⟩ := CY h1
      have rT : ∀ b0, Pl b0 -> Inv n M b0 -> Res n M 0 ((1 + CE.partsL [e] + CS.partsL thn + CS.partsL els : Nat) + 1) b0 (CS.buildL C w thn b0) := fun b0 h0 h1 => FF _ thn hT (fun st hs => by have := AO hs; omega) hthn b0 h0 h1
      have rC : ∀ b0, Pl b0 -> Inv n M b0 -> Res n M 1 ((1 + CE.partsL [e] + CS.partsL thn + CS.partsL els : Nat) + 1) b0 (CE.buildL C [e] 0 b0) := fun b0 h0 h1 => by
        have r := Ml hN hes 0 b0 h0 h1
        have l1 := r.lo
        rw [if_neg (by simp)] at l1
        have l2 : (1 : Int) <= (CE.buildL C [e] 0 b0).regs := l1
        have l3 := r.hi
        exact ⟨r.inv, r.regs, l2, by omega, r.len⟩
      exact Uw hb hp (fun b0 h0 => C6 hes 0 b0 h0) (fun b0 h0 => BU thn (fun st _ => Cr st.parts st (Nat.le_refl _)) hthn b0 h0) rC rT
    . rw [CS.build, if_neg (by decide), if_neg (by decide), if_neg (by decide), if_pos rfl]
      have f1 := hN.fn s.toNat fn hfn
      have ef : C.first s = fn.first := Iy hfn
      have hb0 := hE.inv.r0
      have h3 : (0 + es.length : Nat) <= (CE.buildL C es 0 b).regs := by
        by_cases hkn : es = []
        . subst hkn; show ((0 : Nat) : Int) <= _; omega
        . rw [if_neg hkn] at lo1; omega
      have r2 := Ky (C := C) (g := s) (k := es.length) (d := 0) hE.inv ⟨s0, s1⟩ (by rw [ef]; exact f1.1) (by rw [ef]; omega) h3
      exact hE.trans r2 r2.lo (by omega) (by omega)
    . rw [CS.build, if_neg (by decide), if_neg (by decide), if_neg (by decide), if_neg (by decide), if_pos rfl]
      by_cases he : es = []
      . rw [if_pos he]
        have r1 := Mk hN hw hp hb
        have r2 := Ob r1.inv
        exact r1.trans r2 r2.lo (by omega) (by omega)
      . rw [if_neg he]
        obtain ⟨h1, hwt⟩ := h1.resolve_left he
        rw [if_neg he] at lo1
        have r2 := FE (w := C.words) (a := 0) hE.inv ⟨w0, hw hwt⟩ (by show (0 : Int) < _; omega)
        have r3 := Ob r2.inv
        exact (hE.trans r2 r2.lo (hi := ((0 : Nat) : Int) + CE.partsL es + 1) (Int.le_refl _) (by omega)).trans r3 r3.lo (by omega) (by omega)
theorem Mi {b : Bd} (h : Inv n M b) {first : Int} (h0 : 0 <= first) (hr : 0 < b.regs) : ∀ (k : Nat), first + k <= M -> Res n M 0 1 b (b.zeros first k)
  | 0, _ => Res.refl h h.r0
  | k + 1, h1 => by
    have ih := Mi h h0 hr k (by omega)
    have hg := ih.regs
    have r2 := FE (w := first + k) (a := 0) ih.inv ⟨by omega, by omega⟩ (by show (0 : Int) < _; omega)
    exact ih.trans r2 r2.lo (Int.le_refl _) (Int.le_refl _)
theorem JB {b : Bd} (h : Inv n M b) {first z : Int} (h0 : 0 <= first) (z1 : 1 <= z /\ z <= 4096) (hr : 1 < b.regs) : ∀ (k : Nat), first + k + z <= M + 1 -> Res n M 0 1 b (b.astores first z k)
  | 0, _ => Res.refl h h.r0
  | k + 1, h1 => by
    have ih := JB h h0 z1 hr k (by omega)
    have hg := ih.regs
    have r2 := Dw (t := BF 1 0 (first + k) z) ih.inv (by show (0 : Int) <= 0; omega) (Ch rfl (fun e => by cases e) (fun u hu => by
        have hu2 : u = 1 \/ u = 0 := by
          have : u ∈ [(1 : Int), 0] := hu
          simpa using this
        show 0 <= u /\ u < max _ ((0 : Int) + 1)
        omega) (by
        show (decide (1 <= z) && (decide (z <= 4096) && (decide (0 <= first + k) && decide (first + k <= M - z)))) = true
        rw [decide_eq_true z1.1, decide_eq_true z1.2, decide_eq_true (by omega), decide_eq_true (by omega)]; rfl) rfl)
    exact ih.trans r2 r2.inv.r0 (Int.le_refl _) (by show (0 : Int) + 1 <= 1; omega)
theorem J1 {b : Bd} (h : Inv n M b) (d : Nat) (v : Int) : Res n M (d + 1) (d + 1) b (b.put (AT d v)) :=
  Dw (t := AT d v) h (by show (0 : Int) <= (d : Int); omega) (Ch rfl (fun _ => by show (0 : Int) <= (d : Int) /\ (d : Int) < max _ ((d : Int) + 1); omega) (fun u hu => by cases hu) rfl rfl)
theorem Od {b : Bd} (h : Inv n M b) {op : Int} (d x y : Nat) (ho : 4 <= op /\ op <= 15) (hx : (x : Int) < b.regs) (hy : (y : Int) < b.regs) : Res n M (d + 1) (d + 1) b (b.put (AS op d x y)) :=
  Dw (t := AS op d x y) h (by show (0 : Int) <= (d : Int); omega) (Ch rfl (fun _ => by show (0 : Int) <= (d : Int) /\ (d : Int) < max _ ((d : Int) + 1); omega) (fun u hu => by
    have hu2 : u = (x : Int) \/ u = (y : Int) := by
      have : u ∈ [(x : Int), (y : Int)] := hu
      simpa using this
    show 0 <= u /\ u < max _ ((d : Int) + 1)
    omega) (by
    show (decide (4 <= op) && decide (op <= 15)) = true
    rw [decide_eq_true ho.1, decide_eq_true ho.2]; rfl) rfl)
theorem Sr {b : Bd} (h : Inv n M b) (hp : Pl b) (hr : 0 < b.regs) {first : Int} {k : Nat} (h0 : 0 <= first) (hk : 8 <= k /\ k <= 4096) (h1 : first + k <= M) : Res n M 0 5 b (b.chunk first k) := by
  have r1 := J1 h 1 0
  have r2 := J1 r1.inv 2 8
  have r3 := J1 r2.inv 3 k
  have p3 : Pl (b.chunk1 k) := (codes_put (codes_put (codes_put hp _).pl _).pl _).pl
  have r3' : Res n M 4 4 b (b.chunk1 k) := (r1.trans r2 r2.lo (hi := 3) (by omega) (by omega)).trans r3 (by have : ((3 : Nat) : Int) + 1 <= _ := r3.lo; exact this) (by omega) (by omega)
  unfold Bd.chunk
  generalize b.chunk1 k = b1 at r3' p3 |-
  have g1 := r3'.lo
  have x1 := p3.lt
  have i4 : Inv n M b1.chunk2 := by
    obtain ⟨x, hx, e3, ev, et, ee⟩ := p3
    exact E5 (K6 (Ce r3'.inv) ⟨x, (AF x1).trans hx, e3, ev, et, ee⟩ (by rw [Ai]; omega)) _
  have l4 : b1.chunk2.blocks.length = b1.blocks.length + 1 := (B4 b1.opened _).trans (Ai b1)
  have g4 : b1.chunk2.regs = b1.regs := rfl
  have r5 := JB i4 (first := first) (z := k - 7) h0 (by omega) (by omega) 8 (by omega)
  have a5 := r5.regs
  have r6 := Od r5.inv (op := 4) 1 1 2 ⟨by decide, by decide⟩ (by show (1 : Int) < _; omega) (by show (2 : Int) < _; omega)
  have a6 := r6.regs
  have r7 := Od r6.inv (op := 14) 4 1 3 ⟨by decide, by decide⟩ (by show (1 : Int) < _; omega) (by show (3 : Int) < _; omega)
  have a7 : ((4 : Nat) : Int) + 1 <= _ := r7.lo
  have b5 := r5.hi
  have b6 := r6.hi
  have b7 := r7.hi
  have c5 := r5.len
  have c6 := r6.len
  have c7 := r7.len
  have d7 := r7.regs
  generalize ((b1.chunk2.astores first (k - 7) 8).put (AS 4 1 1 2)).put (AS 14 4 1 3) = b7' at r7 a7 b7 c7 d7 |-
  have i8 := GL (Ce r7.inv) (v := 4) (to := b1.blocks.length) (els := b7'.blocks.length) (by show ((4 : Nat) : Int) < b7'.regs; omega) (by rw [Ai]; omega) (by rw [Ai]; omega)
  have l8 : (b7'.opened.fork 4 b1.blocks.length b7'.blocks.length).blocks.length = b7'.blocks.length + 1 := (B4 b7'.opened _).trans (Ai b7')
  have h3 := r3'.hi
  have h3r := r3'.regs
  have h3l := r3'.len
  exact ⟨E5 i8 _, by show b.regs <= b7'.regs; omega, i8.r0, by show b7'.regs <= _; omega, by show _ <= (b7'.opened.fork 4 b1.blocks.length b7'.blocks.length).blocks.length; omega⟩
theorem JA : ∀ (g : Nat) {b : Bd} (h : Inv n M b) (hp : Pl b) (hr : 0 < b.regs) {first : Int} (k : Nat), 0 <= first -> first + k <= M -> Res n M 0 5 b (Bh g b first k)
  | 0, b, h, hp, hr, first, k, _, _ => by rw [Bh]; exact Res.refl h h.r0
  | g + 1, b, h, hp, hr, first, k, h0, h1 => by
    rw [Bh]
    by_cases hk : 64 < k
    . rw [if_pos hk]
      obtain ⟨c1, c2, c3, c4⟩ := ER hk
      have r1 := Sr h hp hr h0 (k := chunkN k) ⟨by omega, c3⟩ (by omega)
      have g1 := r1.regs
      have r2 := JA g r1.inv (JR hp _ _).pl (by omega) (first := first + chunkN k) (k - chunkN k) (by omega) (by omega)
      exact r1.trans r2 r2.lo (Int.le_refl _) (Int.le_refl _)
    . rw [if_neg hk]
      have r := Mi h h0 hr k h1
      have h4 := r.hi
      exact ⟨r.inv, r.regs, r.lo, by omega, r.len⟩
theorem PY {b : Bd} (h : Inv n M b) (hp : Pl b) {first : Int} {k : Nat} (h0 : 0 <= first) (h1 : first + k <= M) : Res n M 0 5 b (b.nought first k) := by
  unfold Bd.nought
  by_cases hk : k = 0
  . rw [if_pos hk]; exact Res.refl h h.r0
  . rw [if_neg hk]
    have r1 := J1 h 0 0
    have l1 : ((0 : Nat) : Int) + 1 <= _ := r1.lo
    have r2 := JA k r1.inv (codes_put hp _).pl (by omega) k h0 h1
    exact r1.trans r2 r2.lo (by show ((0 : Nat) : Int) + 1 <= 5; omega) (Int.le_refl _)
end
structure Fq (C : Core) : Prop where
  ok : Jt C
  words : C.words <= 1000000
  parts : ∀ fn ∈ C.funcs, ∀ st ∈ fn.body, st.parts <= 3000
theorem bN {i M : Int} : Inv i M bd0 := by
  have key : ∀ x ∈ bd0.blocks, x = blk0 := fun x hx => by simpa [bd0] using hx
  refine ⟨Int.le_refl _, fun x hx t ht => ?_, fun x hx => ?_⟩
  . rw [key x hx] at ht; cases ht
  . rw [key x hx]; rfl
theorem QH {C : Core} (h : 0 <= C.words) : C.words <= C.m /\ C.m <= C.words + 1 /\ ∀ fn ∈ C.funcs, fn.word = true -> C.words < C.m := by
  unfold Core.m
  refine ⟨by split <;> omega, by split <;> omega, fun fn hfn hw => ?_⟩
  rw [if_pos (List.any_eq_true.2 ⟨fn, hfn, hw⟩)]; omega
theorem WN {C : Core} (h : Jt C) (n : Nat) : Pp C n C.m := by
  obtain ⟨h1, h2, h3⟩ := QH h.w0
  exact ⟨h.w0, h1, h3, fun g fn hfn => ⟨(h.fn g fn hfn).f0, by have := (h.fn g fn hfn).f1; have := (h.fn g fn hfn).ps; omega⟩⟩
theorem PZ {C : Core} (h : Fq C) {g : Nat} {fn : CFn} (hfn : C.funcs[g]? = some fn) (last : Bool) : Inv g C.m (GN C fn last) /\ (GN C fn last).regs <= 4000 := by
  have hN := WN h.ok g
  have hfo := h.ok.fn g fn hfn
  have hw : fn.word = true -> C.words < C.m := hN.told fn (List.mem_of_getElem? hfn)
  have f0 := hfo.f0
  have f1 := hfo.f1
  have ps := hfo.ps
  have p0 := hfo.p0
  have wm := hN.wm
  have r1 : Res g C.m 0 5 bd0 (bif last then bd0 else bd0.nought (fn.first + fn.params) (fn.slots - fn.params).toNat) := by
    cases last with
    | true => exact Res.refl bN (Int.le_refl _)
    | false => exact PY bN pl0 (by omega) (by omega)
  have p1 : Pl (bif last then bd0 else bd0.nought (fn.first + fn.params) (fn.slots - fn.params).toNat) := by
    cases last with
    | true => exact pl0
    | false => exact (Gf pl0 _ _).pl
  have r2 := FF (w := fn.word) 3001 fn.body (fun st _ => Kw hN hw st.parts st (Nat.le_refl _)) (fun st hs => by have := h.parts fn (List.mem_of_getElem? hfn) st hs; omega) hfo.body _ p1 r1.inv
  have p2 := (BU (C := C) (n := g) (w := fn.word) fn.body (fun st _ => Cr st.parts st (Nat.le_refl _)) hfo.body _ p1).pl
  have r3 := Mk hN hw p2 r2.inv
  have a1 := r1.hi
  have a2 := r2.hi
  have a3 := r3.hi
  have e0 : bd0.regs = 0 := rfl
  refine ⟨r3.inv, ?_⟩
  show (Bd.leave _ C fn.word).regs <= 4000
  omega
theorem Jn {C : Core} {g : Nat} {fn : CFn} (h : C.funcs[g]? = some fn) : C.build.funcs[g]? = some (Cv C fn (g + 1 == C.funcs.length)) := by
  show (C.funcs.zipIdx.map _)[g]? = _
  rw [List.getElem?_map, CF h]; rfl
theorem II {C : Core} {g : Nat} {F : BFunc} (h : C.build.funcs[g]? = some F) : ∃ fn, C.funcs[g]? = some fn /\ F = Cv C fn (g + 1 == C.funcs.length) := by
  have hl := (List.getElem?_eq_some_iff.1 h).1
  have hl2 : g < C.funcs.length := by
    have e : C.build.funcs.length = C.funcs.length := by show (C.funcs.zipIdx.map _).length = _; simp
    omega
  obtain ⟨fn, hfn⟩ := At hl2
  rw [Jn hfn] at h
  exact ⟨fn, hfn, (Option.some.inj h).symm⟩
theorem Pa {C : Core} (h : Fq C) : C.build.right = true := by
  obtain ⟨h1, h2, h3⟩ := QH h.ok.w0
  have w0 := h.ok.w0
  have w1 := h.words
  refine So (show 0 <= C.m by omega) (show C.m <= 1048576 by omega) ?_ fun g F hF => ?_
  . intro e
    have : C.funcs.length = 0 := by
      have := congrArg List.length e
      have e2 : C.build.funcs.length = C.funcs.length := by show (C.funcs.zipIdx.map _).length = _; simp
      rw [e2] at this; exact this
    exact h.ok.ne (List.length_eq_zero_iff.1 this)
  . obtain ⟨fn, hfn, rfl⟩ := II hF
    obtain ⟨i1, i2⟩ := PZ h hfn (g + 1 == C.funcs.length)
    have hpl := (O3 (h.ok.fn g fn hfn).body (g + 1 == C.funcs.length)).1
    unfold BFunc.one
    rw [decide_eq_true (show 0 <= (Cv C fn (g + 1 == C.funcs.length)).regs from i1.r0), decide_eq_true (show (Cv C fn (g + 1 == C.funcs.length)).regs <= 4000 from i2)]
    have hne : (Cv C fn (g + 1 == C.funcs.length)).blocks ≠ [] := fun e => by
      have := hpl.lt
      have e2 : (GN C fn (g + 1 == C.funcs.length)).blocks = [] := e
      rw [e2] at this; simp at this
    have hall : ((Cv C fn (g + 1 == C.funcs.length)).blocks.all fun x => x.ok (Cv C fn (g + 1 == C.funcs.length)).blocks.length (Cv C fn (g + 1 == C.funcs.length)).regs g C.m) = true := List.all_eq_true.2 fun x hx => by
      unfold Block.ok
      rw [Bool.and_eq_true]
      exact ⟨i1.ends x hx, List.all_eq_true.2 fun t ht => i1.ins x hx t ht⟩
    show (true && (true && (!List.isEmpty (Cv C fn (g + 1 == C.funcs.length)).blocks && ((Cv C fn (g + 1 == C.funcs.length)).blocks.all fun x => x.ok (Cv C fn (g + 1 == C.funcs.length)).blocks.length (Cv C fn (g + 1 == C.funcs.length)).regs g C.m)))) = true
    rw [hall]
    cases hb : (Cv C fn (g + 1 == C.funcs.length)).blocks with
    | nil => exact absurd hb hne
    | cons x l => rfl
theorem Pb {C : Core} (h : Fq C) : V0 C C.build C.m.toNat := by
  obtain ⟨h1, h2, h3⟩ := QH h.ok.w0
  have w0 := h.ok.w0
  refine ⟨by show C.m = _; omega, by omega, fun fn hfn hw => by have := h3 fn hfn hw; omega, by show (C.funcs.zipIdx.map _).length = _; simp, fun g fn hfn => ⟨_, Jn hfn, (O3 (h.ok.fn g fn hfn).body _).2, (PZ h hfn _).1.r0, fun x hx t ht hs => ?_⟩⟩
  have := (PZ h hfn (g + 1 == C.funcs.length)).1.ins x hx t ht
  have ht2 := (Ve this).1 hs
  exact ht2
theorem Tk {C : Core} (h : Fq C) {s : ByteArray} {fuel : Int} {r : Mach} (hr : Fy C s fuel = r) (h5 : r.fin ≠ 5) (fu : Nat) (hfu : (r.steps + 1) * C.k <= fu) : (Fu C.build s fu).fin = r.fin /\ (Fu C.build s fu).out = r.out :=
  Tj h.ok (Pb h) hr h5 fu hfu
end Go.Proofs.Ytmfihmkopmgelaa.Sv
namespace Go.Proofs.Ytmfihmkopmgelaa.Sv
open Go Go.ChangeShapes Go.WideShapes Go.ChangeAt Go.RowKit
mutual
def CE.cells : CE -> List AV
  | .mk k o n s z kids => [.int .i64 k, .int .i64 o, .int .u32 n, .int .i64 s, .int .i64 z, .lst false (CE.cellsL kids)]
def CE.cellsL : List CE -> List (List AV)
  | [] => []
  | e :: l => e.cells :: CE.cellsL l
end
mutual
def CS.cells : CS -> List AV
  | .mk k s z es thn els => [.int .i64 k, .int .i64 s, .int .i64 z, .lst false (es.map CE.cells), .lst false (CS.cellsL thn), .lst false (CS.cellsL els)]
def CS.cellsL : List CS -> List (List AV)
  | [] => []
  | e :: l => e.cells :: CS.cellsL l
end
def CFn.cells (f : CFn) : List AV := [.int .i64 f.params, .int .i64 f.slots, .int .i64 f.first, .bool f.word, .lst false (f.body.map CS.cells)]
def Core.cells (c : Core) : List AV := [.int .i64 c.words, .lst false (c.funcs.map CFn.cells)]
theorem CE.cellsL_map : ∀ l : List CE, CE.cellsL l = l.map CE.cells
  | [] => by rw [CE.cellsL]; rfl
  | e :: l => by rw [CE.cellsL, CE.cellsL_map l]; rfl
theorem CS.cellsL_map : ∀ l : List CS, CS.cellsL l = l.map CS.cells
  | [] => by rw [CS.cellsL]; rfl
  | e :: l => by rw [CS.cellsL, CS.cellsL_map l]; rfl
theorem CE.cells_eq (e : CE) : e.cells = [.int .i64 e.kind, .int .i64 e.op, .int .u32 e.num, .int .i64 e.slot, .int .i64 e.size, .lst false (e.kids.map CE.cells)] := by
  cases e; rw [CE.cells, CE.cellsL_map]; rfl
theorem CS.cells_eq (e : CS) : e.cells = [.int .i64 e.kind, .int .i64 e.slot, .int .i64 e.size, .lst false (e.es.map CE.cells), .lst false (e.thn.map CS.cells), .lst false (e.els.map CS.cells)] := by
  cases e; rw [CS.cells, CS.cellsL_map, CS.cellsL_map]; rfl
inductive CE.Ok : CE -> Prop
  | mk {k o n s z : Int} {kids : List CE} : IR k -> IR o -> CD n -> IR s -> IR z -> kids.length * 64 <= reachBytes -> (∀ e ∈ kids, CE.Ok e) -> CE.Ok (.mk k o n s z kids)
inductive CS.Ok : CS -> Prop
  | mk {k s z : Int} {es : List CE} {thn els : List CS} : IR k -> IR s -> IR z -> es.length * 64 <= reachBytes -> (∀ e ∈ es, CE.Ok e) -> thn.length * 96 <= reachBytes -> (∀ e ∈ thn, CS.Ok e) -> els.length * 96 <= reachBytes -> (∀ e ∈ els, CS.Ok e) -> CS.Ok (.mk k s z es thn els)
structure CFn.Ok (f : CFn) : Prop where
  params : IR f.params
  slots : IR f.slots
  first : IR f.first
  len : f.body.length * 96 <= reachBytes
  body : ∀ s ∈ f.body, s.Ok
structure Core.Ok (c : Core) : Prop where
  words : IR c.words
  len : c.funcs.length * 56 <= reachBytes
  funcs : ∀ f ∈ c.funcs, f.Ok
section
variable {H : Type} {enc : TypeId × Value -> H} {P : Program} {W : World} {T : Nat -> Option AC}
theorem MK {t s p q : Nat} (hT : Ck P T) {i j0 j1 j2 : AC} (hi : T t = some i) (hk : i.k = .struct [(0, p), (1, p), (2, q), (3, p), (4, p), (5, s)]) (hs : i.size = 6) (hb : i.bytes = 64) (h0 : T s = some j0) (k0 : j0.k = .slice t) (s0 : j0.size = 1)
    (h1 : T p = some j1) (k1 : j1.k = .int .i64) (s1 : j1.size = 1) (h2 : T q = some j2) (k2 : j2.k = .int .u32) (s2 : j2.size = 1) : ∀ m, DecB m enc P W t CE.cells CE.Ok
  | 0 => fun fuel hm cs x h hw => by
    have : fuel = 0 := by omega
    subst this; simp [DataW.trod] at h
  | m + 1 => fun fuel hm cs x h hw => by
    obtain ⟨hl, hp⟩ := Hr hT hi hk hm h hw
    rw [hs] at hl
    have ih := (MK hT hi hk hs hb h0 k0 s0 h1 k1 s1 h2 k2 s2 m).less (Nat.sub_le m 1)
    have hs5 : DecB m enc P W s (fun l : List CE => [.lst false (l.map CE.cells)]) (fun l => l.length * i.bytes <= reachBytes /\ ∀ a ∈ l, CE.Ok a) := (DecB.slice' hT h0 k0 hi (by omega) ih).less (by omega)
    obtain ⟨x0, a0, b0⟩ := hp 0 _ _ rfl ((CO hT h1 k1).bound _)
    obtain ⟨x1, a1, b1⟩ := hp 1 _ _ rfl ((CO hT h1 k1).bound _)
    obtain ⟨x2, a2, b2⟩ := hp 2 _ _ rfl ((CO hT h2 k2).bound _)
    obtain ⟨x3, a3, b3⟩ := hp 3 _ _ rfl ((CO hT h1 k1).bound _)
    obtain ⟨x4, a4, b4⟩ := hp 4 _ _ rfl ((CO hT h1 k1).bound _)
    obtain ⟨x5, a5, b5⟩ := hp 5 _ _ rfl hs5
    have c0 := Gi hT h1 s1 (Reads.nil W cs) a0 (by omega)
    have c1 := Gi hT h1 s1 c0 a1 (by omega)
    have c2 := Gi hT h2 s2 c1 a2 (by omega)
    have c3 := Gi hT h1 s1 c2 a3 (by omega)
    have c4 := Gi hT h1 s1 c3 a4 (by omega)
    have c5 := Gi hT h0 s0 c4 a5 (by omega)
    rw [hb] at b5
    refine ⟨.mk x0 x1 x2 x3 x4 x5, ?_, .mk (EV b0) (EV b1) (Yi b2) (EV b3) (EV b4) b5.1 b5.2⟩
    rw [CE.cells_eq]
    exact c5.all hl
theorem MJ {t s s2 u p : Nat} (hT : Ck P T) {i j0 j1 j2 j3 : AC} (hi : T t = some i) (hk : i.k = .struct [(0, p), (1, p), (2, p), (3, u), (4, s), (5, s)]) (hs : i.size = 6) (hb : i.bytes = 96) (h0 : T s = some j0) (k0 : j0.k = .slice t) (s0 : j0.size = 1)
    (h1 : T p = some j1) (k1 : j1.k = .int .i64) (s1 : j1.size = 1) (h2 : T u = some j2) (k2 : j2.k = .slice s2) (z2 : j2.size = 1) (h3 : T s2 = some j3) (z3 : j3.size = 6) (b3 : j3.bytes = 64) (hE : ∀ m, DecB m enc P W s2 CE.cells CE.Ok) : ∀ m, DecB m enc P W t CS.cells CS.Ok
  | 0 => fun fuel hm cs x h hw => by
    have : fuel = 0 := by omega
    subst this; simp [DataW.trod] at h
  | m + 1 => fun fuel hm cs x h hw => by
    obtain ⟨hl, hp⟩ := Hr hT hi hk hm h hw
    rw [hs] at hl
    have ih := (MJ hT hi hk hs hb h0 k0 s0 h1 k1 s1 h2 k2 z2 h3 z3 b3 hE m).less (Nat.sub_le m 1)
    have hsS : DecB m enc P W s (fun l : List CS => [.lst false (l.map CS.cells)]) (fun l => l.length * i.bytes <= reachBytes /\ ∀ a ∈ l, CS.Ok a) := (DecB.slice' hT h0 k0 hi (by omega) ih).less (by omega)
    have hsE : DecB m enc P W u (fun l : List CE => [.lst false (l.map CE.cells)]) (fun l => l.length * j3.bytes <= reachBytes /\ ∀ a ∈ l, CE.Ok a) := (DecB.slice' hT h2 k2 h3 (by omega) (hE m)).less (by omega)
    obtain ⟨x0, a0, b0⟩ := hp 0 _ _ rfl ((CO hT h1 k1).bound _)
    obtain ⟨x1, a1, b1⟩ := hp 1 _ _ rfl ((CO hT h1 k1).bound _)
    obtain ⟨x2, a2, b2⟩ := hp 2 _ _ rfl ((CO hT h1 k1).bound _)
    obtain ⟨x3, a3, b3'⟩ := hp 3 _ _ rfl hsE
    obtain ⟨x4, a4, b4⟩ := hp 4 _ _ rfl hsS
    obtain ⟨x5, a5, b5⟩ := hp 5 _ _ rfl hsS
    have c0 := Gi hT h1 s1 (Reads.nil W cs) a0 (by omega)
    have c1 := Gi hT h1 s1 c0 a1 (by omega)
    have c2 := Gi hT h1 s1 c1 a2 (by omega)
    have c3 := Gi hT h2 z2 c2 a3 (by omega)
    have c4 := Gi hT h0 s0 c3 a4 (by omega)
    have c5 := Gi hT h0 s0 c4 a5 (by omega)
    rw [hb] at b4 b5
    rw [b3] at b3'
    refine ⟨.mk x0 x1 x2 x3 x4 x5, ?_, .mk (EV b0) (EV b1) (EV b2) b3'.1 b3'.2 b4.1 b4.2 b5.1 b5.2⟩
    rw [CS.cells_eq]
    exact c5.all hl
theorem W7 {t p q s u : Nat} (hT : Ck P T) {i j1 j2 j3 j4 : AC} (hi : T t = some i) (hk : i.k = .struct [(0, p), (1, p), (2, p), (3, q), (4, s)]) (hs : i.size = 5) (h1 : T p = some j1) (k1 : j1.k = .int .i64) (s1 : j1.size = 1)
    (h4 : T q = some j4) (k4 : j4.k = .bool) (s4 : j4.size = 1) (h2 : T s = some j2) (k2 : j2.k = .slice u) (s2 : j2.size = 1) (h3 : T u = some j3) (s3 : j3.size = 6) (b3 : j3.bytes = 96) (hd : Dec enc P W u CS.cells CS.Ok) :
    Dec enc P W t CFn.cells CFn.Ok := fun fuel cs x h hw => by
  obtain ⟨hl, hp⟩ := H8 hT hi hk h hw
  rw [hs] at hl
  obtain ⟨x0, a0, b0⟩ := hp 0 _ _ rfl (CO hT h1 k1)
  obtain ⟨x1, a1, b1⟩ := hp 1 _ _ rfl (CO hT h1 k1)
  obtain ⟨x2, a2, b2⟩ := hp 2 _ _ rfl (CO hT h1 k1)
  obtain ⟨x3, a3, b3'⟩ := hp 3 _ _ rfl (TP hT h4 k4)
  obtain ⟨x4, a4, b4⟩ := hp 4 _ _ rfl (Dec.slice' hT h2 k2 h3 (by omega) hd)
  have c0 := Gi hT h1 s1 (Reads.nil W cs) a0 (by omega)
  have c1 := Gi hT h1 s1 c0 a1 (by omega)
  have c2 := Gi hT h1 s1 c1 a2 (by omega)
  have c3 := Gi hT h4 s4 c2 a3 (by omega)
  have c4 := Gi hT h2 s2 c3 a4 (by omega)
  rw [b3] at b4
  exact ⟨⟨x0, x1, x2, x3, x4⟩, c4.all hl, ⟨EV b0, EV b1, EV b2, b4.1, b4.2⟩⟩
theorem Vu {t p s u : Nat} (hT : Ck P T) {i j1 j2 j3 : AC} (hi : T t = some i) (hk : i.k = .struct [(0, p), (1, s)]) (hs : i.size = 2) (h1 : T p = some j1) (k1 : j1.k = .int .i64) (s1 : j1.size = 1)
    (h2 : T s = some j2) (k2 : j2.k = .slice u) (s2 : j2.size = 1) (h3 : T u = some j3) (s3 : j3.size = 5) (b3 : j3.bytes = 56) (hd : Dec enc P W u CFn.cells CFn.Ok) :
    Dec enc P W t Core.cells Core.Ok := fun fuel cs x h hw => by
  obtain ⟨hl, hp⟩ := H8 hT hi hk h hw
  rw [hs] at hl
  obtain ⟨x0, a0, b0⟩ := hp 0 _ _ rfl (CO hT h1 k1)
  obtain ⟨x1, a1, b1⟩ := hp 1 _ _ rfl (Dec.slice' hT h2 k2 h3 (by omega) hd)
  have c0 := Gi hT h1 s1 (Reads.nil W cs) a0 (by omega)
  have c1 := Gi hT h2 s2 c0 a1 (by omega)
  rw [b3] at b1
  exact ⟨⟨x0, x1⟩, c1.all hl, ⟨EV b0, b1.1, b1.2⟩⟩
end
end Go.Proofs.Ytmfihmkopmgelaa.Sv
namespace Go.Proofs.Ytmfihmkopmgelaa
open Go.ChangeShapes Go.WideShapes Go.ChangeAt Go.RowKit Sv
section
variable {H : Type} {enc : TypeId × Value -> H} {W : World}
theorem decExprB (m : Nat) : DecB m enc Try.prog W 43 CE.cells CE.Ok := MK (s := 41) (p := 3) (q := 40) Am rfl rfl rfl rfl rfl rfl rfl rfl rfl rfl rfl rfl rfl m
theorem decStmtB (m : Nat) : DecB m enc Try.prog W 47 CS.cells CS.Ok := MJ (s := 45) (s2 := 43) (u := 41) (p := 3) Am rfl rfl rfl rfl rfl rfl rfl rfl rfl rfl rfl rfl rfl rfl rfl rfl decExprB m
theorem decCFn : Dec enc Try.prog W 50 CFn.cells CFn.Ok := W7 (p := 3) (q := 4) (s := 45) (u := 47) Am rfl rfl rfl rfl rfl rfl rfl rfl rfl rfl rfl rfl rfl rfl rfl (VY decStmtB)
theorem decCore : Dec enc Try.prog W 24 Core.cells Core.Ok := Vu (p := 3) (s := 22) (u := 50) Am rfl rfl rfl rfl rfl rfl rfl rfl rfl rfl rfl rfl decCFn
end
end Go.Proofs.Ytmfihmkopmgelaa
namespace Go.Proofs.Ytmfihmkopmgelaa.Sv
open Go
section
variable {P : Program} {o : Oper} {e : Az} {h : Ab}
theorem UK {f : FuncId} {fn : Func} {x : Operand} {args : Array Operand} {tys : Array TypeId} {fs xs cs : List AV} {r : AV} {hc hw hn : Ab} (κ : Nat -> Bool) (ho : o.op = .call { callee := .value x, args := args, argTypes := tys }) (hfn : Aq e x = some (.fn (.func f) fs cs)) (hf : P.funcs[f]? = some fn) (hnm : (fn.name == "runtime.NumGoroutine") = false) (hb : fn.body.isSome = true)
    (hx : Ba e args.toList = some xs) (hxa : (fs ++ xs ++ cs).all (AV.avoid κ) = true) (hL : ∀ b, κ b = true -> ∃ q, h b = some q /\ q.avoid κ = true) (hres' : EE h κ = hc) (hW : ∀ b, κ b = false -> hn b = h b)
    (hk : ∀ b, κ b = true -> ∃ q, hw b = some q /\ hn b = some q /\ q.avoid κ = true) (hra : r.avoid κ = true)
    (hcall : ACall P f (fs ++ xs ++ cs) hc (fun r' h' => r' = r /\ HSub hw h')) : MU P o e h hn r := by
  intro H ι a w n Q hs
  have hvf := Ap hs hfn
  obtain ⟨us, vs, hve, k1, k2, k3, k4⟩ := hvf.fn_inv
  have hraa := Ft (Ft ⟨k1, k3⟩ (CH hs hx)) ⟨k2, k4⟩
  have hra' : RelAll H (lcut ι κ) (fs ++ xs ++ cs) (us ++ args.map a.eval ++ vs) := ⟨hraa.1, fun j x v h1 h2 => Df (hraa.2 j x v h1 h2) (DU hxa h1)⟩
  have hrc : HeapRel H (lcut ι κ) (EE h κ) w := by
    exact ZK
  have hcalls := hcall H (lcut ι κ) w _ hra' (hres' ▸ hrc)
  have hexec : (execOp a.eval o).run P w = .ok (.enter f (us ++ args.map a.eval ++ vs)) w := by
    simp only [execOp, ho, resolve, hve, Deferred.ofValue, invoke, Sem.run_bind, Sem.run_pure, Result.andThen_ok, Cp hf hnm hb]
  exact ZI
end
section
variable {P : Program} {T : Nat -> Option AC} {o : Oper} {e : Az} {h : Ab}
theorem XL {t t' : TypeId} {x y : Operand} {k k' : IntKind} {m n : Int} (ho : o.op = .call { callee := .builtin .max, args := #[x, y], argTypes := #[t, t'] }) (hx : Aq e x = some (.int k m)) (hy : Aq e y = some (.int k' n)) : QLoc P o e h [] (.int k (max m n)) := by
  intro H ι a w s hs h1 h2
  have hx' : Aq s.env x = some (.int k m) := by rw [h1 x FB, hx]
  have hy' : Aq s.env y = some (.int k' n) := by rw [h1 y FB, hy]
  have hvx := (Ap hs hx').int_inv
  have hvy := (Ap hs hy').int_inv
  refine ⟨.int k (max m n), .int _ _ _, ?_⟩
  have e1 : (if n > m then n else m) = max m n := by
    rw [Int.max_def]
    split <;> split <;> omega
  have key : (Builtin.max_ #[t, t'] o.type #[.int k m, .int k' n]).run P w = .ok (.int k (max m n)) w := by
    show (List.foldlM Builtin.max2 (Value.int k m) [Value.int k' n]).run P w = _
    simp only [List.foldlM, Builtin.max2, Sem.run_bind, Sem.run_pure, Result.andThen_ok, e1]
  simp only [execOp, ho, resolve, invoke, builtin, Sem.run_bind, Sem.run_pure, Result.andThen_ok, List.map_toArray, List.map_cons, List.map_nil, hvx, hvy, key]
end
section
variable {P : Program}
theorem Q6 {ops : Array Oper} {o : Oper} {rest : List Oper} {n : Nat} {e : Az} {h : Ab} {K : Al -> Prop} (d : Nat) {v : Value} (hd : o.dst = some d) (ho : o.op = .assign (.const v)) (hg : o.guard = none) (he : e d = none) (hr : AOps P ops rest ⟨n, e, h⟩ K) : AOps P ops (o :: rest) ⟨n, e, h⟩ K := by
  intro H ι a w hs
  unfold wpList
  rw [if_pos (by simp [Region.wanted, hg])]
  refine .inl ?_
  unfold Oper.wp
  simp only [execOp, ho, Sem.run_pure]
  refine hr H ι _ w ?_
  rw [hd]
  refine ⟨by simp [Act.put, hs.n], hs.d, fun t x hx => ?_, hs.heap⟩
  have hne : d ≠ t := fun e2 => by subst e2; rw [show e d = some x from hx] at he; cases he
  obtain ⟨v', e1, e2⟩ := hs.env t x hx
  exact ⟨v', by simp only [Act.put]; rw [Array.getElem?_setIfInBounds_ne hne]; exact e1, e2⟩
end
mutual
def CE.left : CE -> Int -> Int -> Int
  | .mk _ _ _ _ _ kids, left, deep => bif decide (deep - 1 < 0) then -1 else CE.leftL kids (left - 1) (deep - 1)
def CE.leftL : List CE -> Int -> Int -> Int
  | [], left, _ => left
  | e :: l, left, deep => bif decide (left >= 0) then CE.leftL l (e.left left deep) deep else left
end
def DQ (l : List CE) (left deep : Int) : Int := bif decide (deep < 0) then -1 else CE.leftL l left deep
mutual
def CS.left : CS -> Int -> Int -> Int
  | .mk _ _ _ es thn els, left, deep => bif decide (deep - 1 < 0) then -1 else CS.leftL els (CS.leftL thn (CE.leftL es (left - 1) (deep - 1)) (deep - 1)) (deep - 1)
def CS.leftL : List CS -> Int -> Int -> Int
  | [], left, _ => left
  | e :: l, left, deep => bif decide (left >= 0) then CS.leftL l (e.left left deep) deep else left
end
def Ct (l : List CS) (left deep : Int) : Int := bif decide (deep < 0) then -1 else CS.leftL l left deep
theorem CE.left_eq (e : CE) (left deep : Int) : e.left left deep = DQ e.kids (left - 1) (deep - 1) := by cases e; rw [CE.left]; rfl
theorem CS.left_eq (e : CS) (left deep : Int) : e.left left deep = Ct e.els (Ct e.thn (DQ e.es (left - 1) (deep - 1)) (deep - 1)) (deep - 1) := by
  cases e; rw [CS.left]; unfold Ct DQ
  cases decide (deep - 1 < 0) <;> rfl
def Xu (left r : Int) : Prop := -1 <= r /\ r <= left
theorem Jc {l : List CE} (hI : ∀ e ∈ l, ∀ left deep, 0 <= left -> Xu left (e.left left deep)) : ∀ (left deep : Int), -1 <= left -> Xu left (CE.leftL l left deep) := by
  induction l with
  | nil => intro left deep h; rw [CE.leftL]; exact ⟨h, Int.le_refl _⟩
  | cons e l ih =>
    intro left deep h
    rw [CE.leftL]
    exact Zr
theorem K0 : ∀ (m : Nat) (e : CE), e.parts <= m -> ∀ left deep, 0 <= left -> Xu left (e.left left deep)
  | 0, e, h => by cases e; rw [CE.parts] at h; omega
  | m + 1, .mk k o n s z kids, h => by
    intro left deep h0
    rw [CE.parts] at h
    rw [CE.left]
    by_cases hd : deep - 1 < 0
    . rw [decide_eq_true hd]; exact ⟨Int.le_refl _, by show (-1 : Int) <= left; omega⟩
    . rw [decide_eq_false hd]
      have := Jc (l := kids) (fun e he => K0 m e (by have := AW he; omega)) (left - 1) (deep - 1) (by omega)
      exact ⟨this.1, by have := this.2; show CE.leftL _ _ _ <= left; omega⟩
theorem Jd (l : List CE) {left deep : Int} (h : -1 <= left) : Xu left (DQ l left deep) := by
  unfold DQ
  cases decide (deep < 0) with
  | true => exact ⟨Int.le_refl _, h⟩
  | false => exact Jc (fun e _ => K0 _ e (Nat.le_refl _)) left deep h
theorem HP {l : List CS} (hI : ∀ e ∈ l, ∀ left deep, 0 <= left -> Xu left (e.left left deep)) : ∀ (left deep : Int), -1 <= left -> Xu left (CS.leftL l left deep) := by
  induction l with
  | nil => intro left deep h; rw [CS.leftL]; exact ⟨h, Int.le_refl _⟩
  | cons e l ih =>
    intro left deep h
    rw [CS.leftL]
    exact Zr
theorem IZ : ∀ (m : Nat) (e : CS), e.parts <= m -> ∀ left deep, 0 <= left -> Xu left (e.left left deep)
  | 0, e, h => by cases e; rw [CS.parts] at h; omega
  | m + 1, .mk k s z es thn els, h => by
    intro left deep h0
    rw [CS.parts] at h
    rw [CS.left]
    by_cases hd : deep - 1 < 0
    . rw [decide_eq_true hd]; exact ⟨Int.le_refl _, by show (-1 : Int) <= left; omega⟩
    . rw [decide_eq_false hd]
      have h1 := Jc (l := es) (fun e _ => K0 _ e (Nat.le_refl _)) (left - 1) (deep - 1) (by omega)
      have h2 := HP (l := thn) (fun e he => IZ m e (by have := AO he; omega)) _ (deep - 1) h1.1
      have h3 := HP (l := els) (fun e he => IZ m e (by have := AO he; omega)) _ (deep - 1) h2.1
      exact ⟨h3.1, by have a1 := h1.2; have a2 := h2.2; have a3 := h3.2; show CS.leftL _ _ _ <= left; omega⟩
theorem G9 (l : List CS) {left deep : Int} (h : -1 <= left) : Xu left (Ct l left deep) := by
  unfold Ct
  cases decide (deep < 0) with
  | true => exact ⟨Int.le_refl _, h⟩
  | false => exact HP (fun e _ => IZ _ e (Nat.le_refl _)) left deep h
theorem JI {l : List CE} (hI : ∀ e ∈ l, ∀ left deep, 0 <= left -> 0 <= e.left left deep -> (e.parts : Int) + e.left left deep <= left) : ∀ (left deep : Int), 0 <= CE.leftL l left deep -> (CE.partsL l : Int) + CE.leftL l left deep <= left := by
  induction l with
  | nil => intro left deep h; rw [CE.leftL, CE.partsL]; omega
  | cons e l ih =>
    intro left deep h
    rw [CE.leftL] at h |-
    rw [CE.partsL]
    exact Zs
theorem KZ : ∀ (m : Nat) (e : CE), e.parts <= m -> ∀ left deep, 0 <= left -> 0 <= e.left left deep -> (e.parts : Int) + e.left left deep <= left
  | 0, e, h => by cases e; rw [CE.parts] at h; omega
  | m + 1, .mk k o n s z kids, h => by
    intro left deep h0 h1
    rw [CE.parts] at h |-
    rw [CE.left] at h1 |-
    by_cases hd : deep - 1 < 0
    . rw [decide_eq_true hd, cond_true] at h1; omega
    . rw [decide_eq_false hd] at h1 |-
      simp only [cond_false] at h1 |-
      have := JI (l := kids) (fun e he => KZ m e (by have := AW he; omega)) (left - 1) (deep - 1) h1
      omega
theorem Gb {l : List CS} (hI : ∀ e ∈ l, ∀ left deep, 0 <= left -> 0 <= e.left left deep -> (e.parts : Int) + e.left left deep <= left) : ∀ (left deep : Int), 0 <= CS.leftL l left deep -> (CS.partsL l : Int) + CS.leftL l left deep <= left := by
  induction l with
  | nil => intro left deep h; rw [CS.leftL, CS.partsL]; omega
  | cons e l ih =>
    intro left deep h
    rw [CS.leftL] at h |-
    rw [CS.partsL]
    exact Zs
theorem Gz : ∀ (m : Nat) (e : CS), e.parts <= m -> ∀ left deep, 0 <= left -> 0 <= e.left left deep -> (e.parts : Int) + e.left left deep <= left
  | 0, e, h => by cases e; rw [CS.parts] at h; omega
  | m + 1, .mk k s z es thn els, h => by
    intro left deep h0 h1
    rw [CS.parts] at h |-
    rw [CS.left] at h1 |-
    by_cases hd : deep - 1 < 0
    . rw [decide_eq_true hd, cond_true] at h1; omega
    . rw [decide_eq_false hd] at h1 |-
      simp only [cond_false] at h1 |-
      have h3 := Gb (l := els) (fun e he => Gz m e (by have := AO he; omega)) _ _ h1
      have h2 := Gb (l := thn) (fun e he => Gz m e (by have := AO he; omega)) _ _ (show 0 <= CS.leftL thn (CE.leftL es (left - 1) (deep - 1)) (deep - 1) by omega)
      have h4 := JI (l := es) (fun e _ => KZ _ e (Nat.le_refl _)) _ _ (show 0 <= CE.leftL es (left - 1) (deep - 1) by omega)
      omega
theorem OG {l : List CS} {left deep : Int} (h : 0 <= Ct l left deep) : (CS.partsL l : Int) + Ct l left deep <= left := by
  unfold Ct at h |-
  by_cases hd : deep < 0
  . rw [decide_eq_true hd, cond_true] at h; omega
  . rw [decide_eq_false hd] at h |-
    exact Gb (fun e _ => Gz _ e (Nat.le_refl _)) _ _ h
def Fj (l : List CFn) (left : Int) : Int := l.foldl (fun a f => Ct f.body a 40) left
theorem Qm (l : List CFn) (f : CFn) (left : Int) : Fj (l ++ [f]) left = Ct f.body (Fj l left) 40 := by unfold Fj; rw [List.foldl_append]; rfl
theorem Ha : ∀ (l : List CFn) {left : Int}, -1 <= left -> Xu left (Fj l left)
  | [], left, h => ⟨h, Int.le_refl _⟩
  | f :: l, left, h => by
    have h1 := G9 f.body (deep := 40) h
    have h2 := Ha l h1.1
    exact ⟨h2.1, Int.le_trans h2.2 h1.2⟩
theorem JJ : ∀ (l : List CFn) {left : Int}, -1 <= left -> 0 <= Fj l left -> ((l.map fun f => CS.partsL f.body).sum : Int) + Fj l left <= left
  | [], left, h, h0 => by show (0 : Int) + left <= left; omega
  | f :: l, left, h, h0 => by
    have i1 := G9 f.body (deep := 40) h
    have h2 := JJ l i1.1 h0
    have i2 := Ha l i1.1
    have h1 := OG (l := f.body) (left := left) (deep := 40) (by have := i2.2; have h0' : 0 <= Fj l (Ct f.body left 40) := h0; omega)
    have e : Fj (f :: l) left = Fj l (Ct f.body left 40) := rfl
    rw [e, List.map_cons, List.sum_cons]
    omega
def Core.few (C : Core) (most : Int) : Bool := decide (C.funcs.length <= 100) && decide (0 <= Fj C.funcs most)
def IT (C : Core) (a n : Int) : Bool := decide (0 <= a) && (decide (0 <= n) && (decide (a <= C.words) && decide (n <= C.words - a)))
def Dy (C : Core) (f g args : Int) (word : Bool) : Bool := decide (0 <= g) && (decide (g < f) && (match C.funcs[g.toNat]? with
  | some h => h.word == word && h.params == args
  | none => false))
def CE.bare (e : CE) : Bool := (e.kind == 1 || e.num == 0) && ((e.kind == 6 || e.op == 0) && ((e.kind == 3 || e.size == 0) && (e.kind == 2 || (e.kind == 3 || (e.kind == 4 || e.slot == 0)))))
def CE.sort (C : Core) (f : Int) (e : CE) : Bool :=
  bif e.kind == 1 || e.kind == 5 then (e.kids.length : Int) == 0
  else bif e.kind == 2 then IT C e.slot 1 && (e.kids.length : Int) == 0
  else bif e.kind == 3 then decide (1 <= e.size) && (decide (e.size <= 4096) && (IT C e.slot e.size && (e.kids.length : Int) == 1))
  else bif e.kind == 4 then Dy C f e.slot e.kids.length true
  else bif e.kind == 6 then decide (4 <= e.op) && (decide (e.op <= 15) && (e.kids.length : Int) == 2)
  else bif e.kind == 7 then (e.kids.length : Int) == 1
  else bif e.kind == 8 || e.kind == 9 then (e.kids.length : Int) == 2
  else false
mutual
def CE.right (C : Core) (f : Int) : CE -> Int -> Bool
  | .mk k o n s z kids, level => decide (level <= 24) && (CE.bare (.mk k o n s z kids) && (CE.sort C f (.mk k o n s z kids) && CE.rightL C f kids (level + 1)))
def CE.rightL (C : Core) (f : Int) : List CE -> Int -> Bool
  | [], _ => true
  | e :: l, level => e.right C f level && CE.rightL C f l level
end
def CS.bare (s : CS) : Bool := (s.kind == 2 || s.size == 0) && ((s.kind == 1 || (s.kind == 2 || (s.kind == 6 || s.slot == 0))) && ((s.kind == 4 || (s.els.length : Int) == 0) && (s.kind == 4 || (s.kind == 5 || (s.thn.length : Int) == 0))))
def CS.sort (C : Core) (f : Int) (w : Bool) (s : CS) : Bool :=
  bif s.kind == 1 then IT C s.slot 1 && (s.es.length : Int) == 1
  else bif s.kind == 2 then decide (1 <= s.size) && (decide (s.size <= 4096) && (IT C s.slot s.size && (s.es.length : Int) == 2))
  else bif s.kind == 3 || (s.kind == 4 || s.kind == 5) then (s.es.length : Int) == 1
  else bif s.kind == 6 then Dy C f s.slot s.es.length false
  else bif s.kind == 7 then (s.es.length : Int) == 0 || ((s.es.length : Int) == 1 && w)
  else false
mutual
def CS.right (C : Core) (f : Int) (w : Bool) : CS -> Int -> Bool
  | .mk k s z es thn els, level => decide (level <= 24) && (CS.bare (.mk k s z es thn els) && (CS.sort C f w (.mk k s z es thn els) && (CE.rightL C f es (level + 1) && (CS.rightL C f w thn (level + 1) && CS.rightL C f w els (level + 1)))))
def CS.rightL (C : Core) (f : Int) (w : Bool) : List CS -> Int -> Bool
  | [], _ => true
  | e :: l, level => e.right C f w level && CS.rightL C f w l level
end
def CFn.fits (C : Core) (g : CFn) : Bool := decide (0 <= g.params) && (decide (g.params <= 6) && (decide (g.params <= g.slots) && IT C g.first g.slots))
def Core.right (C : Core) : Bool :=
  decide (0 <= C.words) && (decide (C.words <= 32768) && (decide (1 <= C.funcs.length) && (decide (C.funcs.length <= 64) && (C.funcs.all (fun g => g.fits C) && ((C.funcs.zipIdx.all fun p => CS.rightL C (p.2 : Int) p.1.word p.1.body 1) && (match C.funcs[C.funcs.length - 1]? with
    | some g => g.params == 0 && !g.word
    | none => false))))))
def Core.fair (C : Core) (most : Int) : Bool := C.few most && (decide (C.words <= 9000) && C.right)
def Core.little (C : Core) : Bool := C.fair 300 && decide (C.words <= 400)
theorem CE.right_eq (C : Core) (f : Int) (e : CE) (level : Int) : e.right C f level = (decide (level <= 24) && (e.bare && (e.sort C f && CE.rightL C f e.kids (level + 1)))) := by cases e; rw [CE.right]; rfl
theorem CS.right_eq (C : Core) (f : Int) (w : Bool) (e : CS) (level : Int) : e.right C f w level = (decide (level <= 24) && (e.bare && (e.sort C f w && (CE.rightL C f e.es (level + 1) && (CS.rightL C f w e.thn (level + 1) && CS.rightL C f w e.els (level + 1)))))) := by cases e; rw [CS.right]; rfl
theorem CE.rightL_all (C : Core) (f : Int) (level : Int) : ∀ l : List CE, CE.rightL C f l level = l.all fun e => e.right C f level
  | [] => by rw [CE.rightL]; rfl
  | e :: l => by rw [CE.rightL, CE.rightL_all C f level l]; rfl
theorem CS.rightL_all (C : Core) (f : Int) (w : Bool) (level : Int) : ∀ l : List CS, CS.rightL C f w l level = l.all fun e => e.right C f w level
  | [] => by rw [CS.rightL]; rfl
  | e :: l => by rw [CS.rightL, CS.rightL_all C f w level l]; rfl
section
variable {C : Core} {n : Nat}
theorem Gw {a z : Int} (h : IT C a z = true) : 0 <= a /\ 0 <= z /\ a + z <= C.words := by
  simp only [IT, Bool.and_eq_true, decide_eq_true_eq] at h
  omega
theorem calleeC_iff {f g args : Int} {w : Bool} (h : Dy C f g args w = true) : 0 <= g /\ g < f /\ ∃ fn, C.funcs[g.toNat]? = some fn /\ fn.word = w /\ fn.params = args := by
  simp only [Dy, Bool.and_eq_true, decide_eq_true_eq] at h
  obtain ⟨h1, h2, h3⟩ := h
  refine ⟨h1, h2, ?_⟩
  cases e : C.funcs[g.toNat]? with
  | none => rw [e] at h3; cases h3
  | some fn =>
    rw [e] at h3
    simp only [Bool.and_eq_true, beq_iff_eq] at h3
    exact ⟨fn, rfl, h3.1, h3.2⟩
theorem ok_list {P : CE -> Prop} (hp : ∀ e, P e -> e.ok C n) : ∀ {l : List CE}, (∀ e ∈ l, P e) -> CE.okL C n l
  | [], _ => trivial
  | e :: l, h => ⟨hp e (h e (List.mem_cons.2 (.inl rfl))), ok_list hp fun e he => h e (List.mem_cons.2 (.inr he))⟩
theorem ok_listS {w : Bool} {P : CS -> Prop} (hp : ∀ e, P e -> e.ok C n w) : ∀ {l : List CS}, (∀ e ∈ l, P e) -> CS.okL C n w l
  | [], _ => trivial
  | e :: l, h => ⟨hp e (h e (List.mem_cons.2 (.inl rfl))), ok_listS hp fun e he => h e (List.mem_cons.2 (.inr he))⟩
theorem Kv (h6 : ∀ fn ∈ C.funcs, fn.params <= 6) : ∀ (m : Nat) (e : CE), e.parts <= m -> e.Ok -> ∀ level, e.right C n level = true -> e.ok C n
  | 0, e, hm, _, _, _ => by cases e; rw [CE.parts] at hm; omega
  | m + 1, .mk k o num s z kids, hm, hok, level, h => by
    rw [CE.parts] at hm
    rw [CE.right_eq] at h
    simp only [Bool.and_eq_true, CE.rightL_all, List.all_eq_true] at h
    obtain ⟨_, hb, hs, hk⟩ := h
    cases hok with
    | mk i1 i2 i3 i4 i5 i6 i7 =>
    rw [CE.ok]
    refine ⟨ok_list (fun e he => he) fun e he => Kv h6 m e (by have := AW he; omega) (i7 e he) _ (hk e he), ?_⟩
    simp only [CE.sort, CE.kind, CE.op, CE.slot, CE.size, CE.kids] at hs
    by_cases k15 : k = 1 \/ k = 5
    . rcases k15 with rfl | rfl
      . exact .inl ⟨rfl, i3⟩
      . exact .inr (.inr (.inr (.inr (.inl rfl))))
    have k1 : k ≠ 1 := fun e => k15 (.inl e)
    have k5 : k ≠ 5 := fun e => k15 (.inr e)
    by_cases k2 : k = 2
    . subst k2
      simp only [Bool.and_eq_true, cond_true, cond_false, beq_iff_eq, show ((2 : Int) == 1 || (2 : Int) == 5) = false from rfl, show ((2 : Int) == 2) = true from rfl] at hs
      have := Gw hs.1
      exact .inr (.inl ⟨rfl, this.1, by omega⟩)
    by_cases k3 : k = 3
    . subst k3
      simp only [Bool.and_eq_true, cond_true, cond_false, beq_iff_eq, decide_eq_true_eq, show ((3 : Int) == 1 || (3 : Int) == 5) = false from rfl, show ((3 : Int) == 2) = false from rfl, show ((3 : Int) == 3) = true from rfl] at hs
      have := Gw hs.2.2.1
      exact .inr (.inr (.inl ⟨rfl, by omega, of_decide_eq_true hs.1, of_decide_eq_true hs.2.1, this.1, this.2.2⟩))
    by_cases k4 : k = 4
    . subst k4
      simp only [cond_true, cond_false, show ((4 : Int) == 1 || (4 : Int) == 5) = false from rfl, show ((4 : Int) == 2) = false from rfl, show ((4 : Int) == 3) = false from rfl, show ((4 : Int) == 4) = true from rfl] at hs
      obtain ⟨a1, a2, fn, a3, a4, a5⟩ := calleeC_iff hs
      have := h6 fn (List.mem_of_getElem? a3)
      exact .inr (.inr (.inr (.inl ⟨rfl, a1, a2, fn, a3, a4, a5, by omega⟩)))
    by_cases k6 : k = 6
    . subst k6
      simp only [Bool.and_eq_true, cond_true, cond_false, beq_iff_eq, decide_eq_true_eq, show ((6 : Int) == 1 || (6 : Int) == 5) = false from rfl, show ((6 : Int) == 2) = false from rfl, show ((6 : Int) == 3) = false from rfl, show ((6 : Int) == 4) = false from rfl, show ((6 : Int) == 6) = true from rfl] at hs
      exact .inr (.inr (.inr (.inr (.inr (.inl ⟨rfl, by omega, of_decide_eq_true hs.1, of_decide_eq_true hs.2.1⟩)))))
    by_cases k7 : k = 7
    . subst k7
      simp only [cond_true, cond_false, beq_iff_eq, show ((7 : Int) == 1 || (7 : Int) == 5) = false from rfl, show ((7 : Int) == 2) = false from rfl, show ((7 : Int) == 3) = false from rfl, show ((7 : Int) == 4) = false from rfl, show ((7 : Int) == 6) = false from rfl, show ((7 : Int) == 7) = true from rfl] at hs
      exact .inr (.inr (.inr (.inr (.inr (.inr (.inl ⟨rfl, by omega⟩))))))
    by_cases k89 : k = 8 \/ k = 9
    . rcases k89 with rfl | rfl
      . simp only [cond_true, cond_false, beq_iff_eq, show ((8 : Int) == 1 || (8 : Int) == 5) = false from rfl, show ((8 : Int) == 2) = false from rfl, show ((8 : Int) == 3) = false from rfl, show ((8 : Int) == 4) = false from rfl, show ((8 : Int) == 6) = false from rfl, show ((8 : Int) == 7) = false from rfl, show ((8 : Int) == 8 || (8 : Int) == 9) = true from rfl] at hs
        exact .inr (.inr (.inr (.inr (.inr (.inr (.inr (.inl ⟨rfl, by omega⟩)))))))
      . simp only [cond_true, cond_false, beq_iff_eq, show ((9 : Int) == 1 || (9 : Int) == 5) = false from rfl, show ((9 : Int) == 2) = false from rfl, show ((9 : Int) == 3) = false from rfl, show ((9 : Int) == 4) = false from rfl, show ((9 : Int) == 6) = false from rfl, show ((9 : Int) == 7) = false from rfl, show ((9 : Int) == 8 || (9 : Int) == 9) = true from rfl] at hs
        exact .inr (.inr (.inr (.inr (.inr (.inr (.inr (.inr ⟨rfl, by omega⟩)))))))
    . exfalso
      have k8 : k ≠ 8 := fun e => k89 (.inl e)
      have k9 : k ≠ 9 := fun e => k89 (.inr e)
      simp [k1, k2, k3, k4, k5, k6, k7, k8, k9] at hs
theorem right_okL (h6 : ∀ fn ∈ C.funcs, fn.params <= 6) {l : List CE} (hl : ∀ e ∈ l, e.Ok) {level : Int} (h : CE.rightL C n l level = true) : CE.okL C n l := by
  rw [CE.rightL_all, List.all_eq_true] at h
  exact ok_list (fun e he => he) fun e he => Kv h6 _ e (Nat.le_refl _) (hl e he) level (h e he)
theorem HH (h6 : ∀ fn ∈ C.funcs, fn.params <= 6) {w : Bool} : ∀ (m : Nat) (e : CS), e.parts <= m -> e.Ok -> ∀ level, e.right C n w level = true -> e.ok C n w
  | 0, e, hm, _, _, _ => by cases e; rw [CS.parts] at hm; omega
  | m + 1, .mk k s z es thn els, hm, hok, level, h => by
    rw [CS.parts] at hm
    rw [CS.right_eq] at h
    simp only [Bool.and_eq_true] at h
    obtain ⟨_, hb, hs, hE, hT, hL⟩ := h
    rw [CS.rightL_all, List.all_eq_true] at hT hL
    cases hok with
    | mk i1 i2 i3 i4 i5 i6 i7 i8 i9 =>
    rw [CS.ok]
    refine ⟨right_okL h6 i5 hE, ok_listS (fun e he => he) fun e he => HH h6 m e (by have h2 := AO he; have h3 : CS.partsL thn + 1 <= m + 1 := (by omega); omega) (i7 e he) _ (hT e he), ok_listS (fun e he => he) fun e he => HH h6 m e (by have h2 := AO he; have h3 : CS.partsL els + 1 <= m + 1 := (by omega); omega) (i9 e he) _ (hL e he), ?_⟩
    simp only [CS.sort, CS.kind, CS.slot, CS.size, CS.es] at hs
    by_cases k1 : k = 1
    . subst k1
      simp only [Bool.and_eq_true, cond_true, beq_iff_eq, show ((1 : Int) == 1) = true from rfl] at hs
      have := Gw hs.1
      exact .inl ⟨rfl, by omega, this.1, by omega⟩
    by_cases k2 : k = 2
    . subst k2
      simp only [Bool.and_eq_true, cond_true, cond_false, beq_iff_eq, decide_eq_true_eq, show ((2 : Int) == 1) = false from rfl, show ((2 : Int) == 2) = true from rfl] at hs
      have := Gw hs.2.2.1
      exact .inr (.inl ⟨rfl, by omega, of_decide_eq_true hs.1, of_decide_eq_true hs.2.1, this.1, this.2.2⟩)
    by_cases k3 : k = 3
    . subst k3
      simp only [cond_true, cond_false, beq_iff_eq, show ((3 : Int) == 1) = false from rfl, show ((3 : Int) == 2) = false from rfl, show ((3 : Int) == 3 || ((3 : Int) == 4 || (3 : Int) == 5)) = true from rfl] at hs
      exact .inr (.inr (.inl ⟨rfl, by omega⟩))
    by_cases k4 : k = 4
    . subst k4
      simp only [cond_true, cond_false, beq_iff_eq, show ((4 : Int) == 1) = false from rfl, show ((4 : Int) == 2) = false from rfl, show ((4 : Int) == 3 || ((4 : Int) == 4 || (4 : Int) == 5)) = true from rfl] at hs
      exact .inr (.inr (.inr (.inl ⟨rfl, by omega⟩)))
    by_cases k5 : k = 5
    . subst k5
      simp only [cond_true, cond_false, beq_iff_eq, show ((5 : Int) == 1) = false from rfl, show ((5 : Int) == 2) = false from rfl, show ((5 : Int) == 3 || ((5 : Int) == 4 || (5 : Int) == 5)) = true from rfl] at hs
      exact .inr (.inr (.inr (.inr (.inl ⟨rfl, by omega⟩))))
    by_cases k6 : k = 6
    . subst k6
      simp only [cond_true, cond_false, show ((6 : Int) == 1) = false from rfl, show ((6 : Int) == 2) = false from rfl, show ((6 : Int) == 3 || ((6 : Int) == 4 || (6 : Int) == 5)) = false from rfl, show ((6 : Int) == 6) = true from rfl] at hs
      obtain ⟨a1, a2, fn, a3, a4, a5⟩ := calleeC_iff hs
      have := h6 fn (List.mem_of_getElem? a3)
      exact .inr (.inr (.inr (.inr (.inr (.inl ⟨rfl, a1, a2, fn, a3, a4, a5, by omega⟩)))))
    by_cases k7 : k = 7
    . subst k7
      simp only [Bool.and_eq_true, Bool.or_eq_true, cond_true, cond_false, beq_iff_eq, show ((7 : Int) == 1) = false from rfl, show ((7 : Int) == 2) = false from rfl, show ((7 : Int) == 3 || ((7 : Int) == 4 || (7 : Int) == 5)) = false from rfl, show ((7 : Int) == 6) = false from rfl, show ((7 : Int) == 7) = true from rfl] at hs
      refine .inr (.inr (.inr (.inr (.inr (.inr ⟨rfl, ?_⟩)))))
      rcases hs with e | ⟨e, hw⟩
      . exact .inl (List.length_eq_zero_iff.1 (by omega))
      . exact .inr ⟨by omega, hw⟩
    . exfalso
      simp [k1, k2, k3, k4, k5, k6, k7] at hs
theorem right_okSL (h6 : ∀ fn ∈ C.funcs, fn.params <= 6) {w : Bool} {l : List CS} (hl : ∀ e ∈ l, e.Ok) {level : Int} (h : CS.rightL C n w l level = true) : CS.okL C n w l := by
  rw [CS.rightL_all, List.all_eq_true] at h
  exact ok_listS (fun e he => he) fun e he => HH h6 _ e (Nat.le_refl _) (hl e he) level (h e he)
end
structure CoreR (C : Core) : Prop where
  w0 : 0 <= C.words
  w1 : C.words <= 32768
  n0 : 1 <= C.funcs.length
  n1 : C.funcs.length <= 64
  fn : ∀ g ∈ C.funcs, 0 <= g.params /\ g.params <= 6 /\ g.params <= g.slots /\ 0 <= g.first /\ g.first + g.slots <= C.words
  body : ∀ (i : Nat) g, C.funcs[i]? = some g -> CS.rightL C (i : Int) g.word g.body 1 = true
  last : ∀ g, C.funcs[C.funcs.length - 1]? = some g -> g.params = 0 /\ g.word = false
theorem D3 {C : Core} (h : C.right = true) : CoreR C := by
  simp only [Core.right, Bool.and_eq_true, decide_eq_true_eq, List.all_eq_true] at h
  obtain ⟨h1, h2, h3, h4, h5, h6, h7⟩ := h
  refine ⟨h1, h2, h3, h4, fun g hg => ?_, fun i g hg => h6 (g, i) (List.mem_of_getElem? (CF hg)), fun g hg => ?_⟩
  . have := h5 g hg
    simp only [CFn.fits, Bool.and_eq_true, decide_eq_true_eq] at this
    obtain ⟨a1, a2, a3, a4⟩ := this
    have := Gw a4
    exact ⟨a1, a2, a3, this.1, this.2.2⟩
  . rw [hg] at h7
    simp only [Bool.and_eq_true, beq_iff_eq, Bool.not_eq_true'] at h7
    exact h7
theorem core_ok {C : Core} (hC : C.Ok) (h : C.right = true) : Jt C := by
  have hr := D3 h
  have h6 : ∀ fn ∈ C.funcs, fn.params <= 6 := fun fn hfn => (hr.fn fn hfn).2.1
  refine ⟨hr.w0, fun e => ?_, fun i fn hfn => ?_, fun fn hfn => ⟨(hr.last fn hfn).2, (hr.last fn hfn).1⟩⟩
  . have := hr.n0; rw [e] at this; simp at this
  . have hm := List.mem_of_getElem? hfn
    obtain ⟨a1, a2, a3, a4, a5⟩ := hr.fn fn hm
    exact ⟨a1, a2, a3, a4, a5, right_okSL h6 (hC.funcs fn hm).body (hr.body i fn hfn)⟩
theorem MF {C : Core} {most : Int} (h0 : -1 <= most) (h : C.few most = true) : (C.parts : Int) <= most := by
  simp only [Core.few, Bool.and_eq_true, decide_eq_true_eq] at h
  have := JJ C.funcs h0 h.2
  unfold Core.parts
  omega
theorem E1 {C : Core} {fn : CFn} (h : fn ∈ C.funcs) : CS.partsL fn.body <= C.parts := Qn (p := fun f : CFn => CS.partsL f.body) h
theorem Vi {C : Core} (hC : C.Ok) {most : Int} (h0 : -1 <= most) (h1 : most <= 3000) (h : C.fair most = true) : Fq C := by
  simp only [Core.fair, Bool.and_eq_true, decide_eq_true_eq] at h
  refine ⟨core_ok hC h.2.2, by have := h.2.1; omega, fun fn hfn st hst => ?_⟩
  have a1 := MF h0 h.1
  have a2 := E1 hfn
  have a3 := AO hst
  omega
structure CM.good (W : Nat) (c : CM) : Prop where
  m : c.m.good W
  val : CD c.val
def C7 (W : Nat) (call : BD) : Prop := ∀ f args c, CM.good W c -> Er args -> (call f args c).2.good W /\ CD (call f args c).1
theorem CM.good.fin {W : Nat} {c : CM} (h : c.good W) (n : Int) : (c.put { c.m with fin := n }).good W := ⟨⟨h.m.len, h.m.words, h.m.out⟩, h.val⟩
theorem CM.good.set {W : Nat} {c : CM} (h : c.good W) (z : Int) {v : Int} (hv : CD v) : (c.put { c.m with words := AK c.m.words z v }).good W := ⟨⟨by show (AK c.m.words z v).length = W; rw [B7]; exact h.m.len, D2 h.m.words z hv, h.m.out⟩, h.val⟩
theorem isW_one : CD 1 := ⟨by decide, by decide⟩
theorem ZT (b : Bool) : CD (zf b) := by cases b; exact isW_zero; exact isW_one
section
variable {W : Nat} {call : BD} {s : ByteArray}
def Js (W : Nat) (call : BD) (s : ByteArray) (e : CE) : Prop := ∀ c, CM.good W c -> (e.ev call s c).2.good W /\ CD (e.ev call s c).1
theorem Vp {sl z : Int} {l : List CE} (hI : ∀ e ∈ l, Js W call s e) {c : CM} (hc : c.good W) : (Dn call s sl z l c).2.good W /\ CD (Dn call s sl z l c).1 := by
  cases l with
  | nil => rw [Dn]; exact ⟨hc, isW_zero⟩
  | cons e l =>
    rw [Dn]
    have h := hI e (List.mem_cons.2 (.inl rfl)) c hc
    generalize e.ev call s c = p at h |-
    obtain ⟨i, c1⟩ := p
    dsimp only at h |-
    cases c1.fin == 0 with
    | false => exact ⟨h.1, isW_zero⟩
    | true =>
      cases decide (i >= z) with
      | true => exact ⟨h.1.fin 3, isW_zero⟩
      | false => exact ⟨h.1, C2 h.1.m.words _⟩
theorem Lk (hcall : C7 W call) {f : Int} : ∀ {l : List CE}, (∀ e ∈ l, Js W call s e) -> ∀ (args : List Int) {c : CM}, Er args -> c.good W -> (A5 call s f l args c).2.good W /\ CD (A5 call s f l args c).1
  | [], _, args, c, ha, hc => by rw [A5]; exact hcall _ _ _ hc ha
  | e :: l, hI, args, c, ha, hc => by
    rw [A5]
    have h := hI e (List.mem_cons.2 (.inl rfl)) c hc
    generalize e.ev call s c = p at h |-
    obtain ⟨x, c1⟩ := p
    dsimp only at h |-
    cases c1.fin == 0 with
    | false => exact ⟨h.1, isW_zero⟩
    | true => exact Lk hcall (fun e he => hI e (List.mem_cons.2 (.inr he))) _ (fun v hv => by
        rcases List.mem_append.1 hv with hv | hv
        . exact ha v hv
        . rw [List.mem_singleton.1 hv]; exact h.2) h.1
theorem Vn {k o : Int} {l : List CE} (hI : ∀ e ∈ l, Js W call s e) {x : Int} (hx : CD x) {c : CM} (hc : c.good W) : (Cm call s k o l x c).2.good W /\ CD (Cm call s k o l x c).1 := by
  cases l with
  | nil => rw [Cm]; exact ⟨hc, isW_zero⟩
  | cons e l =>
    rw [Cm]
    have h := hI e (List.mem_cons.2 (.inl rfl)) c hc
    generalize e.ev call s c = p at h |-
    obtain ⟨y, c1⟩ := p
    dsimp only at h |-
    cases (k == 8 || k == 9) with
    | true => exact ⟨h.1, ZT _⟩
    | false =>
      cases c1.fin == 0 with
      | false => exact ⟨h.1, isW_zero⟩
      | true =>
        cases (BC o x y).2 == 0 with
        | true => exact ⟨h.1, G2 hx h.2⟩
        | false => exact ⟨h.1.fin 2, G2 hx h.2⟩
theorem Vo {k o : Int} {l : List CE} (hI : ∀ e ∈ l, Js W call s e) {c : CM} (hc : c.good W) : (Cs call s k o l c).2.good W /\ CD (Cs call s k o l c).1 := by
  cases l with
  | nil => rw [Cs]; exact ⟨hc, isW_zero⟩
  | cons e l =>
    rw [Cs]
    have h := hI e (List.mem_cons.2 (.inl rfl)) c hc
    generalize e.ev call s c = p at h |-
    obtain ⟨x, c1⟩ := p
    dsimp only at h |-
    cases c1.fin == 0 with
    | false => exact ⟨h.1, isW_zero⟩
    | true =>
      cases k == 7 with
      | true => exact ⟨h.1, ZT _⟩
      | false =>
        cases (k == 8 && x == 0) with
        | true => exact ⟨h.1, isW_zero⟩
        | false =>
          cases (k == 9 && !(x == 0)) with
          | true => exact ⟨h.1, isW_one⟩
          | false => exact Vn (fun e he => hI e (List.mem_cons.2 (.inr he))) h.2 h.1
theorem CJ (hcall : C7 W call) : ∀ (m : Nat) (e : CE), e.parts <= m -> e.Ok -> Js W call s e
  | 0, e, hm, _ => by cases e; rw [CE.parts] at hm; omega
  | m + 1, .mk k o n sl z kids, hm, hok => by
    rw [CE.parts] at hm
    cases hok with
    | mk i1 i2 i3 i4 i5 i6 i7 =>
    have hI : ∀ e ∈ kids, Js W call s e := fun e he => CJ hcall m e (by have := AW he; omega) (i7 e he)
    intro c hc
    rw [CE.ev]
    by_cases k1 : k = 1
    . rw [if_pos k1]; exact ⟨hc, i3⟩
    rw [if_neg k1]
    by_cases k2 : k = 2
    . rw [if_pos k2]; exact ⟨hc, C2 hc.m.words _⟩
    rw [if_neg k2]
    by_cases k3 : k = 3
    . rw [if_pos k3]; exact Vp hI hc
    rw [if_neg k3]
    by_cases k4 : k = 4
    . rw [if_pos k4]; exact Lk hcall hI [] (fun v hv => by cases hv) hc
    rw [if_neg k4]
    by_cases k5 : k = 5
    . rw [if_pos k5]
      cases decide (c.m.read < s.size) with
      | true => exact ⟨⟨⟨hc.m.len, hc.m.words, hc.m.out⟩, hc.val⟩, Lz _⟩
      | false => exact ⟨hc, show CD 256 from ⟨by decide, by decide⟩⟩
    rw [if_neg k5]
    exact Vo hI hc
theorem Lj (hcall : C7 W call) {l : List CE} (hl : ∀ e ∈ l, e.Ok) {c : CM} (hc : c.good W) : (Bc call s l c).2.good W /\ CD (Bc call s l c).1 := by
  cases l with
  | nil => exact ⟨hc, isW_zero⟩
  | cons e l => exact CJ hcall e.parts e (Nat.le_refl _) (hl e (List.mem_cons.2 (.inl rfl))) c hc
theorem C1 {fuel : Int} {c : CM} (hc : c.good W) : (AD fuel c).2.good W := ⟨DD hc.m, hc.val⟩
theorem Jw {fuel : Int} {cond : CM -> Int × CM} {body : CM -> CM} (h1 : ∀ c, CM.good W c -> (cond c).2.good W) (h2 : ∀ c, CM.good W c -> (body c).good W) : ∀ (g : Nat) {c : CM}, c.good W -> (Bk fuel cond body g c).good W
  | 0, c, hc => hc.fin 5
  | g + 1, c, hc => by
    rw [Bk]
    cases (c.fin == 0 && !c.over) with
    | false => exact hc
    | true =>
      cases (AD fuel c).1 with
      | false => exact C1 hc
      | true =>
        have h := h1 _ (C1 (fuel := fuel) hc)
        simp only [cond_true]
        generalize cond (AD fuel c).2 = p at h |-
        obtain ⟨x, c1⟩ := p
        dsimp only at h |-
        cases (c1.fin == 0 && !(x == 0)) with
        | false => exact h
        | true => exact Jw h1 h2 g (h2 _ h)
def IN (W : Nat) (call : BD) (s : ByteArray) (fuel : Int) (st : CS) : Prop := ∀ c, CM.good W c -> (st.run call s fuel c).good W
theorem EM {fuel : Int} : ∀ {l : List CS}, (∀ st ∈ l, IN W call s fuel st) -> ∀ {c : CM}, c.good W -> (Ao call s fuel l c).good W
  | [], _, c, hc => by rw [Ao]; exact hc
  | st :: l, hI, c, hc => by
    rw [Ao]
    cases (c.fin == 0 && !c.over) with
    | false => exact hc
    | true => exact EM (fun e he => hI e (List.mem_cons.2 (.inr he))) (hI st (List.mem_cons.2 (.inl rfl)) c hc)
theorem GD (hcall : C7 W call) {fuel : Int} : ∀ (m : Nat) (st : CS), st.parts <= m -> st.Ok -> IN W call s fuel st
  | 0, st, hm, _ => by cases st; rw [CS.parts] at hm; omega
  | m + 1, .mk k sl z es thn els, hm, hok => by
    rw [CS.parts] at hm
    cases hok with
    | mk i1 i2 i3 i4 i5 i6 i7 i8 i9 =>
    have hT : ∀ e ∈ thn, IN W call s fuel e := fun e he => GD hcall m e T5 (i7 e he)
    have hL : ∀ e ∈ els, IN W call s fuel e := fun e he => GD hcall m e T4 (i9 e he)
    intro c hc
    rw [CS.run]
    by_cases k6 : k = 6
    . rw [if_pos k6]; exact (Lk hcall (fun e he => CJ hcall e.parts e (Nat.le_refl _) (i5 e he)) [] (fun v hv => by cases hv) hc).1
    rw [if_neg k6]
    by_cases k5 : k = 5
    . rw [if_pos k5]; exact Jw (fun c hc => (Lj hcall i5 hc).1) (fun c hc => EM hT hc) _ hc
    rw [if_neg k5]
    have h := Lj (s := s) hcall i5 hc
    generalize Bc call s es c = p at h |-
    obtain ⟨x, c1⟩ := p
    dsimp only at h |-
    cases c1.fin == 0 with
    | false => exact h.1
    | true =>
      simp only [cond_true]
      by_cases k7 : k = 7
      . rw [if_pos k7]; exact ⟨h.1.m, h.2⟩
      rw [if_neg k7]
      by_cases k1 : k = 1
      . rw [if_pos k1]; exact h.1.set _ h.2
      rw [if_neg k1]
      by_cases k2 : k = 2
      . rw [if_pos k2]
        have h3 := Lj (s := s) hcall (l := es.drop 1) (fun e he => i5 e (List.mem_of_mem_drop he)) h.1
        generalize Bc call s (es.drop 1) c1 = q at h3 |-
        obtain ⟨y, c2⟩ := q
        dsimp only at h3 |-
        cases c2.fin == 0 with
        | false => exact h3.1
        | true =>
          cases decide (x >= z) with
          | true => exact h3.1.fin 3
          | false => exact h3.1.set _ h3.2
      rw [if_neg k2]
      by_cases k3 : k = 3
      . rw [if_pos k3]
        by_cases ho : c1.m.out.length >= 65536
        . rw [decide_eq_true ho]; exact h.1.fin 4
        . rw [decide_eq_false ho]
          exact ⟨⟨h.1.m.len, h.1.m.words, by show (c1.m.out ++ [byteOf x]).length <= 65536; rw [List.length_append]; simp; omega⟩, h.1.val⟩
      rw [if_neg k3]
      cases x == 0 with
      | true => exact EM hL h.1
      | false => exact EM hT h.1
end
theorem Hh {C : Core} (hC : C.Ok) {s : ByteArray} {fuel : Int} {W : Nat} : ∀ n, C7 W (BX C s fuel n)
  | 0 => fun f args c hc ha => by rw [BX]; exact ⟨hc, isW_zero⟩
  | n + 1 => fun f args c hc ha => by
    rw [BX]
    cases (AD fuel c).1 with
    | false => exact ⟨C1 hc, isW_zero⟩
    | true =>
      simp only [cond_true]
      cases e : C.funcs[f.toNat]? with
      | none => exact ⟨hc, isW_zero⟩
      | some g =>
        have hg := hC.funcs g (List.mem_of_getElem? e)
        have ht := C1 (fuel := fuel) hc
        dsimp only
        have h := EM (W := W) (call := BX C s fuel n) (s := s) (fuel := fuel) (l := g.body) (fun st hs => GD (Hh hC n) st.parts st (Nat.le_refl _) (hg.body st hs)) (c := (AD fuel c).2.put { (AD fuel c).2.m with words := CB (A8 c.m.words g.first g.slots.toNat) g.first args args.length })
          ⟨⟨by show (CB (A8 c.m.words g.first g.slots.toNat) g.first args args.length).length = W; rw [Ec, DE]; exact hc.m.len, Kb (HY hc.m.words _ _) _ ha _, ht.m.out⟩, ht.val⟩
        generalize Ao (BX C s fuel n) s fuel g.body _ = c1 at h |-
        cases c1.over with
        | true => exact ⟨⟨h.m, h.val⟩, h.val⟩
        | false => exact ⟨h, isW_zero⟩
structure Quiet (g p : Nat) (c c1 : CM) : Prop where
  steps : c1.m.steps = c.m.steps
  fin : c.fin ≠ 5 -> c1.fin ≠ 5
  le : c.m.read <= c1.m.read
  read : c1.m.read <= c.m.read + g
theorem Quiet.refl (g p : Nat) (c : CM) : Quiet g p c c := ⟨rfl, id, Nat.le_refl _, Nat.le_add_right _ _⟩
theorem Quiet.trans {g1 g2 g p : Nat} {c c1 c2 : CM} (h1 : Quiet g1 p c c1) (h2 : Quiet g2 p c1 c2) (h : g1 + g2 <= g) : Quiet g p c c2 := ⟨h2.steps.trans h1.steps, fun h => h2.fin (h1.fin h), Nat.le_trans h1.le h2.le, by have := h1.read; have := h2.read; omega⟩
theorem Quiet.more {g g' p : Nat} {c c1 : CM} (h : Quiet g p c c1) (hg : g <= g') : Quiet g' p c c1 := ⟨h.steps, h.fin, h.le, by have := h.read; omega⟩
theorem Quiet.put {g p : Nat} {c c1 : CM} (h : Quiet g p c c1) {m : Mach} (h1 : m.steps = c1.m.steps) (h2 : m.read = c1.m.read) (h3 : c1.fin ≠ 5 -> m.fin ≠ 5) : Quiet g p c (c1.put m) := ⟨h1.trans h.steps, fun h0 => h3 (h.fin h0), by show c.m.read <= m.read; rw [h2]; exact h.le, by show m.read <= _; rw [h2]; exact h.read⟩
section
variable {call call' : BD} {s s' : ByteArray} {p : Nat}
variable {fuel : Int}
end
end Go.Proofs.Ytmfihmkopmgelaa.Sv
