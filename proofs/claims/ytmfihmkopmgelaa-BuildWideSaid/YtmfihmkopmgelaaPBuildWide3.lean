/-
  ALL EXPRESSIONS FIND THEIR VALUES: own work.
  STATEMENTS DO WHAT THEY MEAN: own work.
  ALL STATEMENTS DO WHAT THEY MEAN: own work.
  WORDS BECOME 0, a few one by one, many in rounds: own work.
  FUNCTIONS, AND WHOLE PROGRAMS, END AS THEIR BLOCKS DO: own work.
  WHAT IS BUILT IS THE CODE: how a function that is being built grows. Own work.
  WHAT IS BUILT IS THE CODE OF EXPRESSIONS: own work.
  WHAT IS BUILT IS THE CODE OF STATEMENTS, AND OF PROGRAMS: own work.
  WHAT IS BUILT IS THE CODE, STATEMENT BY STATEMENT, FUNCTION BY FUNCTION: own work.
  WHAT IS BUILT MAY BE: own work.
  WHAT IS BUILT MAY BE, AND ENDS AS THE PROGRAM DOES: own work.
  PROGRAMS WITHOUT NAMES AS ARGUMENTS: own work, over no program.
  WHICH PROGRAMS WITHOUT NAMES MAY BE, AND HOW GREAT THEY ARE, in plain Lean: own work.
  WHAT MAY BE IS BUILT WELL: own work.
  WHAT A RUN OF A PROGRAM WITHOUT NAMES LEAVES AS IT IS: own work.
  PROGRAMS WITHOUT LOOPS AND CALLS, in plain Lean: own work.
  A STATEMENT THAT DOES NOTHING AHEAD OF EACH FUNCTION'S, in plain Lean: own work.
  THREE PROGRAMS OF THE LAWS, in plain Lean: own work.
  TWO MORE PROGRAMS OF THE LAWS, in plain Lean: own work.
  A RUN OF A PROGRAM WITHOUT NAMES HAS NO FEWER TICKS BEHIND IT; and what its walk needs: own work.
  WHAT WALKS OVER PROGRAMS WITHOUT NAMES NEED: own work.
  WHAT MAY BE, ONE BY ONE: own work.
  THE RUN OF A PROGRAM WITHOUT NAMES: its rows, and its steps as the walk wants them. Own work.
  CALLS AND STATEMENTS, as the walk wants them: own work.
  CALLS OF WHAT SEES SOME NAMED ROWS AND A FAMILY: own work.
  THE BUILDER'S ROWS, step by step: own work.
  THE BUILDER'S ROWS WHERE FUNCTIONS ARE HANDED ABOUT: own work.
  CALLS OF WHAT SEES THE BUILDER'S ROWS, told by lists of rows (for regions in no order): own work.
-/
import Derived.Test.YtmfihmkopmgelaaPBuildWide2
namespace Go.Proofs.Ytmfihmkopmgelaa.Sv
open Go
section
variable {X : Cx}
theorem EvOk.fail {k d : Nat} {a b : Pos} {regs r' : List Int} {c : CM} {m m' : Mach} {p : Int × CM} {t : Tac} (ht : InsAt X.F.blocks a t) (hm : ∀ call, mone call X.s t regs { m with steps := m.steps + 1 } = (r', m')) (hf : m'.fin = p.2.fin) (h0 : p.2.fin ≠ 0) (hs : m'.steps = m.steps + 1) (ho : m'.out = p.2.m.out) (hst : p.2.m.steps = c.m.steps) (hk : 1 ≤ k) :
    EvOk X k d a b regs c m p :=
  ⟨by omega, fun h => absurd h h0, fun _ _ => ⟨m', stops_ins ht hm (by rw [hf]; exact h0) hs, hf, ho, by rw [hst]; omega⟩⟩
theorem parts_mem {e : CE} : ∀ {l : List CE}, e ∈ l → e.parts ≤ CE.partsL l
  | x :: l, h => by
    rw [CE.partsL]
    rcases List.mem_cons.1 h with rfl | h
    · omega
    · have := parts_mem h; omega
theorem len_one {l : List CE} (h : l.length = 1) : ∃ e, l = [e] := by
  cases l with
  | nil => cases h
  | cons e l => cases l with
    | nil => exact ⟨e, rfl⟩
    | cons e2 l => simp at h
theorem len_two {l : List CE} (h : l.length = 2) : ∃ e f, l = [e, f] := by
  cases l with
  | nil => cases h
  | cons e l => cases l with
    | nil => simp at h
    | cons e2 l => cases l with
      | nil => exact ⟨e, e2, rfl⟩
      | cons e3 l => simp at h
theorem flag_of {call : CallC} {s : ByteArray} {e : CE} {c : CM} (h : e.flagged = true) : (e.ev call s c).1 = 0 ∨ (e.ev call s c).1 = 1 := by
  cases e with
  | mk k o n sl z kids => exact flagged_ev h
theorem EvOk.truth (hX : CxOk X) {k d : Nat} {a a1 b : Pos} {regs : List Int} {c : CM} {m : Mach} {e : CE} {p : Int × CM} (h : EvOk X k d a a1 regs c m p) (hl : (regs.length : Int) = X.F.regs) (ht : TruthAt X.F.blocks e a1 d b) (hf : e.flagged = true → p.1 = 0 ∨ p.1 = 1) (h0 : p.2.fin = 0) :
    p.2.over = false ∧ ∃ regs' m', Goes X.cl X.s X.F a regs m b regs' m' ∧ RelM X.W X.M p.2.m m' ∧ regs'.length = regs.length ∧ rget regs' (d : Int) = zf (!(p.1 == 0)) ∧ (∀ j : Nat, j < d → rget regs' (j : Int) = rget regs (j : Int)) ∧ m'.steps + X.K * c.m.steps ≤ m.steps + (k + 3) + X.K * p.2.m.steps := by
  obtain ⟨o1, v1, r1, m1, g1, g2, g3, g4, g5, g6⟩ := h.go h0
  obtain ⟨r2, j, hj, f1, f2, f3, f4⟩ := truth_goes (c := p.2) hX ht (by rw [g3]; exact hl) g2 (fun e => by rw [g4]; exact hf e)
  exact ⟨o1, r2, _, g1.trans f1, g2.step _ _, f2.trans g3, by rw [f3, g4], fun i hi => (f4 i hi).trans (g5 i hi), by dsimp only; omega⟩
theorem rightX_ok (hX : CxOk X) {e : CE} (hI : SimE X e) {d r h : Nat} {a1 a2 : Pos} {regs : List Int} {c : CM} {m : Mach} (hc : e.code X.C X.F.blocks d (r, 0) a1) (ht : TruthAt X.F.blocks e a1 d a2) (hj : EndAt X.F.blocks a2 1 0 h 0) (hok : e.ok X.C X.n) (hl : (regs.length : Int) = X.F.regs) (ho : c.over = false) (hr : RelM X.W X.M c.m m) :
    EvOk X (8 * e.parts + 4) d (r, 0) (h, 0) regs c m (zf (!((e.ev X.call X.s c).1 == 0)), (e.ev X.call X.s c).2) := by
  have k1 := hI d (r, 0) a1 regs c m hc hok hl ho hr
  have hf : e.flagged = true → (e.ev X.call X.s c).1 = 0 ∨ (e.ev X.call X.s c).1 = 1 := flag_of
  generalize e.ev X.call X.s c = p at k1 hf ⊢
  refine ⟨k1.le, fun h0 => ?_, fun h0 h5 => ?_⟩
  · obtain ⟨o1, r1, m1, g1, g2, g3, g4, g5, g6⟩ := k1.truth hX hl ht hf h0
    exact ⟨o1, isW_zf _, r1, _, g1.trans (goes_jump hj), g2.step _ _, g3, g4, g5, by dsimp only at g6 ⊢; omega⟩
  · obtain ⟨m', g1, g2, g3, g4⟩ := k1.stop h0 h5
    exact ⟨m', g1, g2, g3, by dsimp only at g4 ⊢; omega⟩
theorem ends_eq {G : List Block} {k : Int} {a : Pos} {d r h : Nat} (he : if k = 8 then EndAt G a 2 d r h else EndAt G a 2 d h r) : (k = 8 ∧ EndAt G a 2 d r h) ∨ (k ≠ 8 ∧ EndAt G a 2 d h r) := by
  by_cases e : k = 8
  · rw [if_pos e] at he; exact .inl ⟨e, he⟩
  · rw [if_neg e] at he; exact .inr ⟨e, he⟩
theorem isW_rel {W M : Nat} {c m : Mach} (h : RelM W M c m) (z : Int) : isW (rget c.words z) := rget_w h.ok z
theorem simE (hX : CxOk X) : ∀ (n : Nat) (e : CE), e.parts ≤ n → SimE X e
  | 0, e, h => by cases e; rw [CE.parts] at h; omega
  | n + 1, e, hn => by
    cases e with
    | mk k o num sl z kids =>
    rw [CE.parts] at hn
    have hI : ∀ e ∈ kids, SimE X e := fun e he => simE hX n e (by have := parts_mem he; omega)
    intro d a b regs c m hc hok hl ho hr
    rw [CE.code] at hc
    rw [CE.ok] at hok
    obtain ⟨hkids, hk⟩ := hok
    rw [CE.ev]
    rw [CE.parts]
    have hW := hX.w
    rcases hk with ⟨rfl, hw⟩ | ⟨rfl, h0, h1⟩ | ⟨rfl, h1, z1, z2, s0, s1⟩ | ⟨rfl, s0, s1, fn, hfn, hwd, hpar, h6⟩ | rfl | ⟨rfl, h2, o1, o2⟩ | ⟨rfl, h1⟩ | ⟨rfl, h2⟩ | ⟨rfl, h2⟩
    · rw [if_pos rfl] at hc ⊢
      have hd := (hc.1.reg hX rfl).2
      exact EvOk.ins (m' := { m with steps := m.steps + 1 }) hc.1 (fun _ => rfl) (by have : (d : Int) < X.F.regs := hd; omega) rfl rfl (hr.step c.m.steps _) ho hw (by omega) hc.2
    · rw [if_neg (by decide), if_pos rfl] at hc ⊢
      have hd := (hc.1.reg hX rfl).2
      exact EvOk.ins (m' := { m with steps := m.steps + 1 }) hc.1 (fun _ => by rw [mone_load]; exact congrArg (fun v => (rset regs (d : Int) v, _)) (hr.get h0 (by omega))) (by have : (d : Int) < X.F.regs := hd; omega) rfl rfl (hr.step c.m.steps _) ho (isW_rel hr sl) (by omega) hc.2
    · obtain ⟨e, rfl⟩ := len_one h1
      rw [if_neg (by decide), if_neg (by decide), if_pos rfl] at hc ⊢
      obtain ⟨a1, c1, c2, rfl⟩ := hc
      simp only [CE.codeL] at c1
      obtain ⟨a1', c1, rfl⟩ := c1
      simp only [CE.okL] at hkids
      have k1 := hI e (List.mem_singleton.2 rfl) d a _ regs c m c1 hkids.1 hl ho hr
      rw [CE.evI]
      simp only [CE.partsL, Nat.add_zero]
      generalize e.ev X.call X.s c = p at k1 ⊢
      obtain ⟨x, c1'⟩ := p
      dsimp only
      cases e1 : c1'.fin == 0 with
      | false => exact k1.ended (by simpa using e1) (by omega) 0
      | true =>
        simp only [cond_true]
        obtain ⟨ov, v1, r1, m1, g1, g2, g3, g4, g5, g6⟩ := k1.go (by simpa using e1)
        dsimp only at ov v1 g2 g4 g6
        have hd := (c2.reg hX rfl).2
        have le1 := k1.le
        refine EvOk.pre (n1 := 8 * e.parts) (n2 := 8) ?_ g1 g3 le1 g5 g6 (by omega)
        by_cases hx : x ≥ z
        · rw [decide_eq_true hx, cond_true]
          exact EvOk.fail (m' := { m1 with steps := m1.steps + 1, fin := 3 }) c2 (fun _ => by rw [mone_aload, g4, decide_eq_true hx]; rfl) rfl (by show (3 : Int) ≠ 0; decide) rfl g2.out rfl (by omega)
        · rw [decide_eq_false hx, cond_false]
          refine EvOk.ins (m' := { m1 with steps := m1.steps + 1 }) c2 (fun _ => ?_) (by have : (d : Int) < X.F.regs := hd; omega) rfl rfl (g2.step c1'.m.steps _) ov (isW_rel g2 _) (by omega) rfl
          rw [mone_aload, g4, decide_eq_false hx, cond_false]
          exact congrArg (fun v => (rset r1 (d : Int) v, _)) (g2.get (by have := v1.1; omega) (by omega))
    · rw [if_neg (by decide), if_neg (by decide), if_neg (by decide), if_pos rfl] at hc ⊢
      obtain ⟨a1, a2, c1, c2, c3, rfl⟩ := hc
      have k1 := simL kids hI d a a1 regs c m c1 hkids hl ho hr
      rw [CE.evC_eq _ _ _ hr.cfin, List.nil_append]
      generalize CE.evL X.call X.s kids c = q at k1 ⊢
      obtain ⟨xs, c1'⟩ := q
      have le1 := k1.le
      dsimp only at le1 ⊢
      cases e1 : c1'.fin == 0 with
      | false =>
        simp only [cond_false]
        have hne : c1'.fin ≠ 0 := by simpa using e1
        refine ⟨le1, fun h => absurd h hne, fun h h5 => ?_⟩
        obtain ⟨m', g1, g2, g3, g4⟩ := k1.stop h h5
        exact ⟨m', g1, g2, g3, by dsimp only at g4 ⊢; omega⟩
      | true =>
        simp only [cond_true]
        obtain ⟨ov, n1, v1, r1, m1, g1, g2, g3, g4, g5, g6⟩ := k1.go (by simpa using e1)
        dsimp only at ov n1 v1 g2 g4 g6
        rw [← n1] at c2
        have k2 := simC hX s0 s1 hfn (by rw [n1]; exact hpar.symm) v1 ov g2 c2 (get_args g4)
        have le2 := k2.le
        have hd := (c3.reg hX rfl).2
        generalize X.call sl xs c1' = p at k2 le2 ⊢
        obtain ⟨x, c2'⟩ := p
        dsimp only at le2
        refine ⟨by dsimp only; omega, fun h => ?_, fun h h5 => ?_⟩
        · obtain ⟨o2, v2, m2, f1, f2, f3, f4⟩ := k2.go h
          dsimp only at o2 v2 f2 f3 f4 ⊢
          have hdl : d < r1.length := by have : (d : Int) < X.F.regs := hd; omega
          exact ⟨o2, v2, rset r1 (d : Int) x, { m2 with steps := m2.steps + 1 }, (g1.trans f1).trans (goes_ins c3 (fun _ => by rw [mone_load, ← f3 hwd]) f2.fin rfl), f2.step _ _, by unfold rset; rw [List.length_set]; exact g3, rget_same hdl, fun j hj => by rw [rget_other (by omega)]; exact g5 j hj, by dsimp only; omega⟩
        · obtain ⟨m2, f1, f2, f3, f4⟩ := k2.stop h h5
          dsimp only at f4 ⊢
          exact ⟨m2, g1.stops f1, f2, f3, by omega⟩
    · rw [if_neg (by decide), if_neg (by decide), if_neg (by decide), if_neg (by decide), if_pos rfl] at hc ⊢
      have hd := (hc.1.reg hX rfl).2
      have hdl : d < regs.length := by have : (d : Int) < X.F.regs := hd; omega
      by_cases hrd : c.m.read < X.s.size
      · rw [decide_eq_true hrd, cond_true]
        refine EvOk.ins (m' := { m with steps := m.steps + 1, read := m.read + 1 }) hc.1 (fun _ => ?_) hdl rfl rfl ⟨hr.clen, hr.len, hr.w, hr.ok, hr.out, ?_, hr.fin, hr.cfin⟩ ho (isW_byte _) (by omega) hc.2
        · rw [mone_get]
          dsimp only
          rw [hr.read, decide_eq_true hrd]; rfl
        · show m.read + 1 = c.m.read + 1
          rw [hr.read]
      · rw [decide_eq_false hrd, cond_false]
        refine EvOk.ins (m' := { m with steps := m.steps + 1 }) hc.1 (fun _ => ?_) hdl rfl rfl (hr.step c.m.steps _) ho ⟨by show (0 : Int) ≤ 256; decide, by show (256 : Int) < 4294967296; decide⟩ (by omega) hc.2
        rw [mone_get]
        dsimp only
        rw [hr.read, decide_eq_false hrd]; rfl
    · obtain ⟨e1, e2, rfl⟩ := len_two h2
      rw [if_neg (by decide), if_neg (by decide), if_neg (by decide), if_neg (by decide), if_neg (by decide)] at hc ⊢
      rw [if_pos rfl] at hc
      obtain ⟨a3, c1, c2, rfl⟩ := hc
      simp only [CE.codeL] at c1
      obtain ⟨a1, c1, a2, c1', rfl⟩ := c1
      simp only [CE.okL] at hkids
      have k1 := hI e1 (by simp) d a a1 regs c m c1 hkids.1 hl ho hr
      rw [CE.evK]
      simp only [CE.partsL, Nat.add_zero]
      generalize e1.ev X.call X.s c = p at k1 ⊢
      obtain ⟨x, d1⟩ := p
      dsimp only
      cases f1 : d1.fin == 0 with
      | false => exact k1.ended (by simpa using f1) (by omega) 0
      | true =>
        simp only [cond_true, show ((6 : Int) == 7) = false from rfl, show ((6 : Int) == 8) = false from rfl, show ((6 : Int) == 9) = false from rfl, Bool.false_and, cond_false]
        obtain ⟨ov, v1, r1, m1, g1, g2, g3, g4, g5, g6⟩ := k1.go (by simpa using f1)
        dsimp only at ov v1 g2 g4 g6
        have le1 := k1.le
        refine EvOk.pre (n1 := 8 * e1.parts) (n2 := 8 + 8 * e2.parts) ?_ g1 g3 le1 g5 g6 (by omega)
        rw [CE.evR]
        have k2 := hI e2 (by simp) (d + 1) a1 _ r1 d1 m1 c1' hkids.2.1 (by rw [g3]; exact hl) ov g2
        generalize e2.ev X.call X.s d1 = q at k2 ⊢
        obtain ⟨y, d2⟩ := q
        dsimp only
        simp only [show ((6 : Int) == 8) = false from rfl, show ((6 : Int) == 9) = false from rfl, Bool.or_false, cond_false]
        cases f2 : d2.fin == 0 with
        | false => exact k2.ended (by simpa using f2) (by omega) 0
        | true =>
          simp only [cond_true]
          obtain ⟨ov2, v2, r2, m2, j1, j2, j3, j4, j5, j6⟩ := k2.go (by simpa using f2)
          dsimp only at ov2 v2 j2 j4 j6
          have le2 := k2.le
          have hxd : rget r2 (d : Int) = x := (j5 d (by omega)).trans g4
          have hd := (c2.reg hX rfl).2
          refine EvOk.pre (n1 := 8 * e2.parts) (n2 := 8) ?_ j1 j3 le2 (fun j hj => j5 j (by omega)) j6 (by omega)
          cases hz : (wapp o x y).2 == 0 with
          | true =>
            simp only [cond_true]
            have hmm : ∀ call, mone call X.s (iBin o d d (d + 1)) r2 { m2 with steps := m2.steps + 1 } = (rset r2 (d : Int) (wapp o x y).1, { m2 with steps := m2.steps + 1 }) := fun _ => by rw [mone_bin, hxd, j4, hz]; rfl
            exact EvOk.ins c2 hmm (by have : (d : Int) < X.F.regs := hd; omega) rfl rfl (j2.step d2.m.steps _) ov2 (wapp_word v1 v2) (by omega) rfl
          | false =>
            simp only [cond_false]
            have hmm : ∀ call, mone call X.s (iBin o d d (d + 1)) r2 { m2 with steps := m2.steps + 1 } = (r2, { m2 with steps := m2.steps + 1, fin := 2 }) := fun _ => by rw [mone_bin, hxd, j4, hz]; rfl
            exact EvOk.fail c2 hmm rfl (by show (2 : Int) ≠ 0; decide) rfl j2.out rfl (by omega)
    · obtain ⟨e, rfl⟩ := len_one h1
      rw [if_neg (by decide), if_neg (by decide), if_neg (by decide), if_neg (by decide), if_neg (by decide)] at hc ⊢
      rw [if_neg (by decide), if_pos rfl] at hc
      obtain ⟨a1, c1, c2⟩ := hc
      simp only [CE.codeL] at c1
      obtain ⟨a1', c1, rfl⟩ := c1
      simp only [CE.okL] at hkids
      have k1 := hI e (List.mem_singleton.2 rfl) d a _ regs c m c1 hkids.1 hl ho hr
      rw [CE.evK]
      simp only [CE.partsL, Nat.add_zero]
      generalize e.ev X.call X.s c = p at k1 ⊢
      obtain ⟨x, d1⟩ := p
      dsimp only
      cases f1 : d1.fin == 0 with
      | false => exact k1.ended (by simpa using f1) (by omega) 0
      | true =>
        simp only [cond_true, show ((7 : Int) == 7) = true from rfl]
        obtain ⟨ov, v1, r1, m1, g1, g2, g3, g4, g5, g6⟩ := k1.go (by simpa using f1)
        dsimp only at ov v1 g2 g4 g6
        obtain ⟨r2, j1, j2, j3, j4, j5⟩ := not_goes hX c2 (by rw [g3]; exact hl) g2
        refine ⟨k1.le, fun _ => ⟨ov, isW_zf _, r2, _, g1.trans j1, g2.step _ _, j2.trans g3, by rw [j3, g4], fun j hj => (j5 j hj).trans (g5 j hj), by dsimp only; omega⟩, fun h => absurd (by simpa using f1) h⟩
    all_goals
      obtain ⟨e1, e2, rfl⟩ := len_two h2
      rw [if_neg (by decide), if_neg (by decide), if_neg (by decide), if_neg (by decide), if_neg (by decide)] at hc ⊢
      rw [if_neg (by decide), if_neg (by decide), if_pos (by decide)] at hc
      rw [CE.codeX] at hc
      obtain ⟨a1, a2, c1, c2, hc⟩ := hc
      rw [CE.codeY] at hc
      obtain ⟨r, h, a3, a4, c3, c4, c5, c6, rfl⟩ := hc
      simp only [CE.okL] at hkids
      have k1 := hI e1 (by simp) d a a1 regs c m c1 hkids.1 hl ho hr
      have hf1 : e1.flagged = true → (e1.ev X.call X.s c).1 = 0 ∨ (e1.ev X.call X.s c).1 = 1 := flag_of
      rw [CE.evK]
      simp only [CE.partsL, Nat.add_zero]
      generalize e1.ev X.call X.s c = p at k1 hf1 ⊢
      obtain ⟨x, d1⟩ := p
      dsimp only at hf1 ⊢
      cases f1 : d1.fin == 0 with
      | false => exact k1.ended (by simpa using f1) (by omega) 0
      | true =>
        have f0 : d1.fin = 0 := by simpa using f1
        obtain ⟨ov, r1, m1, g1, g2, g3, g4, g5, g6⟩ := k1.truth hX hl c2 hf1 f0
        dsimp only at ov g2 g4 g6
        have le1 := k1.le
        dsimp only at le1
        rcases ends_eq c3 with ⟨e8, he⟩ | ⟨e8, he⟩ <;> first | exact absurd rfl e8 | exact absurd e8 (by decide) | skip
        have gf := goes_fork (C := X.cl) (s := X.s) (f := X.F) (regs := r1) (m := m1) he
        rw [g4] at gf
        have hR := rightX_ok hX (hI e2 (by simp)) c4 c5 c6 hkids.2.1 (regs := r1) (c := d1) (m := { m1 with steps := m1.steps + 1 }) (by rw [g3]; exact hl) ov (g2.step d1.m.steps _)
        cases hx : x == 0 with
        | true =>
          rw [hx] at gf g4
          rw [show zf (!true) = 0 from rfl, if_pos rfl] at gf
          rw [show zf (!true) = 0 from rfl] at g4
          simp only [hx, cond_true, cond_false, show ((8 : Int) == 7) = false from rfl, show ((8 : Int) == 8) = true from rfl, show ((9 : Int) == 7) = false from rfl, show ((9 : Int) == 8) = false from rfl, show ((9 : Int) == 9) = true from rfl, show ((8 : Int) == 9) = false from rfl, Bool.true_and, Bool.false_and, Bool.not_true, Bool.and_false, Bool.not_false]
          first
          | exact ⟨le1, fun _ => ⟨ov, ⟨by dsimp only; omega, by dsimp only; omega⟩, r1, _, g1.trans gf, g2.step d1.m.steps _, g3, g4, g5, by dsimp only; omega⟩, fun h => absurd f0 h⟩
          | exact EvOk.pre (n1 := 8 * e1.parts + 4) hR (g1.trans gf) g3 le1 g5 (by dsimp only; omega) (by omega)
          | (rw [CE.evR]; simp only [show ((9 : Int) == 8) = false from rfl, show ((9 : Int) == 9) = true from rfl, show ((8 : Int) == 8) = true from rfl, Bool.or_true, Bool.true_or, cond_true]; exact EvOk.pre (n1 := 8 * e1.parts + 4) hR (g1.trans gf) g3 le1 g5 (by dsimp only; omega) (by omega))
        | false =>
          rw [hx] at gf g4
          rw [show zf (!false) = 1 from rfl, if_neg (by decide)] at gf
          rw [show zf (!false) = 1 from rfl] at g4
          simp only [hx, cond_true, cond_false, show ((8 : Int) == 7) = false from rfl, show ((8 : Int) == 8) = true from rfl, show ((9 : Int) == 7) = false from rfl, show ((9 : Int) == 8) = false from rfl, show ((9 : Int) == 9) = true from rfl, show ((8 : Int) == 9) = false from rfl, Bool.true_and, Bool.false_and, Bool.not_true, Bool.and_false, Bool.not_false]
          first
          | exact ⟨le1, fun _ => ⟨ov, ⟨by dsimp only; omega, by dsimp only; omega⟩, r1, _, g1.trans gf, g2.step d1.m.steps _, g3, g4, g5, by dsimp only; omega⟩, fun h => absurd f0 h⟩
          | (rw [CE.evR]; simp only [show ((9 : Int) == 8) = false from rfl, show ((9 : Int) == 9) = true from rfl, show ((8 : Int) == 8) = true from rfl, Bool.or_true, Bool.true_or, cond_true]; exact EvOk.pre (n1 := 8 * e1.parts + 4) hR (g1.trans gf) g3 le1 g5 (by dsimp only; omega) (by omega))
end
def LeaveAt (c : Core) (w : Bool) (G : List Block) (a : Pos) : Prop := if w = true then InsAt G a (iNum 0 0) ∧ InsAt G (nx a) (iStore c.words 0) ∧ EndAt G (nx (nx a)) 3 0 0 0 else EndAt G a 3 0 0 0
mutual
def CS.code (c : Core) (w : Bool) (G : List Block) : CS → Pos → Pos → Prop
  | .mk k s z es thn els, a, b =>
    if k = 1 then ∃ a1, CE.codeL c G es 0 a a1 ∧ InsAt G a1 (iStore s 0) ∧ b = nx a1
    else if k = 2 then ∃ a1, CE.codeL c G es 0 a a1 ∧ InsAt G a1 (iAStore 0 1 s z) ∧ b = nx a1
    else if k = 3 then ∃ a1, CE.codeL c G es 0 a a1 ∧ InsAt G a1 (iPut 0) ∧ b = nx a1
    else if k = 6 then ∃ a1, CE.codeL c G es 0 a a1 ∧ CalledAt G a1 (c.first s) s es.length 0 b
    else if k = 7 then (if es = [] then LeaveAt c w G a else ∃ a1, CE.codeL c G es 0 a a1 ∧ InsAt G a1 (iStore c.words 0) ∧ EndAt G (nx a1) 3 0 0 0)
    else if k = 4 then ∃ (a1 : Pos) (t h o : Nat) (a2 a3 : Pos), CE.codeL c G es 0 a a1 ∧ EndAt G a1 2 0 t o ∧ CS.codeL c w G thn (t, 0) a2 ∧ EndAt G a2 1 0 h 0 ∧ (if els = [] then o = h else CS.codeL c w G els (o, 0) a3 ∧ EndAt G a3 1 0 h 0) ∧ b = (h, 0)
    else if k = 5 then ∃ (g t h : Nat) (a1 a2 : Pos), EndAt G a 1 0 g 0 ∧ CE.codeL c G es 0 (g, 0) a1 ∧ EndAt G a1 2 0 t h ∧ CS.codeL c w G thn (t, 0) a2 ∧ EndAt G a2 1 0 g 0 ∧ b = (h, 0)
    else False
def CS.codeL (c : Core) (w : Bool) (G : List Block) : List CS → Pos → Pos → Prop
  | [], a, b => b = a
  | s :: l, a, b => ∃ a1, s.code c w G a a1 ∧ CS.codeL c w G l a1 b
end
mutual
def CS.ok (C : Core) (n : Nat) (w : Bool) : CS → Prop
  | .mk k s z es thn els => CE.okL C n es ∧ CS.okL C n w thn ∧ CS.okL C n w els ∧
    ((k = 1 ∧ es.length = 1 ∧ 0 ≤ s ∧ s < C.words) ∨ (k = 2 ∧ es.length = 2 ∧ 1 ≤ z ∧ z ≤ 4096 ∧ 0 ≤ s ∧ s + z ≤ C.words) ∨ (k = 3 ∧ es.length = 1) ∨ (k = 4 ∧ es.length = 1) ∨ (k = 5 ∧ es.length = 1) ∨
     (k = 6 ∧ 0 ≤ s ∧ s < n ∧ ∃ g, C.funcs[s.toNat]? = some g ∧ g.word = false ∧ g.params = es.length ∧ es.length ≤ 6) ∨ (k = 7 ∧ (es = [] ∨ (es.length = 1 ∧ w = true))))
def CS.okL (C : Core) (n : Nat) (w : Bool) : List CS → Prop
  | [] => True
  | s :: l => s.ok C n w ∧ CS.okL C n w l
end
structure StOk (X : Cx) (w : Bool) (k : Nat) (a b : Pos) (regs : List Int) (c : CM) (m : Mach) (p : CM) : Prop where
  le : c.m.steps ≤ p.m.steps
  go : p.fin = 0 → p.over = false → ∃ regs' m', Goes X.cl X.s X.F a regs m b regs' m' ∧ RelM X.W X.M p.m m' ∧ regs'.length = regs.length ∧ m'.steps + X.K * c.m.steps ≤ m.steps + k + X.K * p.m.steps
  ret : p.fin = 0 → p.over = true → isW p.val ∧ ∃ m', Stops X.cl X.s X.F a regs m m' ∧ RelM X.W X.M p.m m' ∧ (w = true → rget m'.words X.C.words = p.val) ∧ m'.steps + X.K * c.m.steps ≤ m.steps + k + X.K * p.m.steps
  stop : p.fin ≠ 0 → p.fin ≠ 5 → ∃ m', Stops X.cl X.s X.F a regs m m' ∧ m'.fin = p.fin ∧ m'.out = p.m.out ∧ m'.steps + X.K * c.m.steps ≤ m.steps + k + X.K * p.m.steps
def SimS (X : Cx) (w : Bool) (fuel : Int) (st : CS) : Prop := ∀ (a b : Pos) (regs : List Int) (c : CM) (m : Mach), st.code X.C w X.F.blocks a b → st.ok X.C X.n w → 8 * st.parts ≤ X.K → (regs.length : Int) = X.F.regs → c.over = false → RelM X.W X.M c.m m → StOk X w (8 * st.parts) a b regs c m (st.run X.call X.s fuel c)
section
variable {X : Cx} {w : Bool} {fuel : Int}
theorem StOk.pre {n1 n2 n : Nat} {a a1 b : Pos} {regs r1 : List Int} {c c1 p : CM} {m m1 : Mach} (h : StOk X w n2 a1 b r1 c1 m1 p) (hg : Goes X.cl X.s X.F a regs m a1 r1 m1) (hl : r1.length = regs.length) (hle : c.m.steps ≤ c1.m.steps)
    (hk : m1.steps + X.K * c.m.steps ≤ m.steps + n1 + X.K * c1.m.steps) (hn : n1 + n2 ≤ n) : StOk X w n a b regs c m p := by
  refine ⟨Nat.le_trans hle h.le, fun h0 h1 => ?_, fun h0 h1 => ?_, fun h0 h5 => ?_⟩
  · obtain ⟨r', m', g1, g2, g3, g4⟩ := h.go h0 h1
    exact ⟨r', m', hg.trans g1, g2, g3.trans hl, by omega⟩
  · obtain ⟨v, m', g1, g2, g3, g4⟩ := h.ret h0 h1
    exact ⟨v, m', hg.stops g1, g2, g3, by omega⟩
  · obtain ⟨m', g1, g2, g3, g4⟩ := h.stop h0 h5
    exact ⟨m', hg.stops g1, g2, g3, by omega⟩
theorem StOk.ended {k n d : Nat} {a a1 b : Pos} {regs : List Int} {c : CM} {m : Mach} {p : Int × CM} (h : EvOk X k d a a1 regs c m p) (hf : p.2.fin ≠ 0) (hn : k ≤ n) : StOk X w n a b regs c m p.2 := by
  refine ⟨h.le, fun h0 => absurd h0 hf, fun h0 => absurd h0 hf, fun h0 h5 => ?_⟩
  obtain ⟨m', g1, g2, g3, g4⟩ := h.stop h0 h5
  exact ⟨m', g1, g2, g3, by omega⟩
theorem StOk.ins {k : Nat} {a b : Pos} {regs : List Int} {c p : CM} {m m' : Mach} {t : Tac} (ht : InsAt X.F.blocks a t) (hm : ∀ call, mone call X.s t regs { m with steps := m.steps + 1 } = (regs, m')) (hs : m'.steps = m.steps + 1) (hst : p.m.steps = c.m.steps) (hr : RelM X.W X.M p.m m') (ho : p.over = false) (hk : 1 ≤ k) (hb : b = nx a) : StOk X w k a b regs c m p := by
  refine ⟨by omega, fun _ _ => ⟨regs, m', ?_, hr, rfl, by rw [hst]; omega⟩, fun _ h => (by rw [ho] at h; cases h), fun h _ => absurd (show p.fin = 0 from hr.cfin) h⟩
  rw [hb]
  exact goes_ins ht hm hr.fin hs
theorem StOk.fail {k : Nat} {a b : Pos} {regs r' : List Int} {c p : CM} {m m' : Mach} {t : Tac} (ht : InsAt X.F.blocks a t) (hm : ∀ call, mone call X.s t regs { m with steps := m.steps + 1 } = (r', m')) (hf : m'.fin = p.fin) (h0 : p.fin ≠ 0) (hs : m'.steps = m.steps + 1) (ho : m'.out = p.m.out) (hst : p.m.steps = c.m.steps) (hk : 1 ≤ k) : StOk X w k a b regs c m p :=
  ⟨by omega, fun h => absurd h h0, fun h => absurd h h0, fun _ _ => ⟨m', stops_ins ht hm (by rw [hf]; exact h0) hs, hf, ho, by rw [hst]; omega⟩⟩
theorem leave_stops (hX : CxOk X) {a : Pos} {regs : List Int} {c : CM} {m : Mach} (h : LeaveAt X.C w X.F.blocks a) (hl : (regs.length : Int) = X.F.regs) (hr : RelM X.W X.M c.m m) (hw : w = true → X.W < X.M) :
    ∃ m', Stops X.cl X.s X.F a regs m m' ∧ RelM X.W X.M c.m m' ∧ (w = true → rget m'.words X.C.words = 0) ∧ m'.steps ≤ m.steps + 3 := by
  unfold LeaveAt at h
  cases w with
  | false =>
    rw [if_neg (by decide)] at h
    exact ⟨_, stops_ret h, hr.step c.m.steps _, fun e => by (cases e), by dsimp only; omega⟩
  | true =>
    rw [if_pos rfl] at h
    obtain ⟨h1, h2, h3⟩ := h
    have hd := (h1.reg hX rfl).2
    have hM := hw rfl
    have hWw := hX.w
    have hdl : 0 < regs.length := by have : ((0 : Nat) : Int) < X.F.regs := hd; omega
    have g1 := goes_ins (C := X.cl) (s := X.s) (f := X.F) (regs := regs) (m := m) (r' := rset regs ((0 : Nat) : Int) 0) (m' := { m with steps := m.steps + 1 }) h1 (fun _ => rfl) hr.fin rfl
    have hm2 : ∀ call, mone call X.s (iStore X.C.words 0) (rset regs ((0 : Nat) : Int) 0) { m with steps := m.steps + 2 } = (rset regs ((0 : Nat) : Int) 0, { m with words := rset m.words X.C.words 0, steps := m.steps + 2 }) := fun _ => by
      rw [mone_store, rget_same hdl]
    have g2 := goes_ins (C := X.cl) (s := X.s) (f := X.F) (m := { m with steps := m.steps + 1 }) h2 hm2 hr.fin rfl
    have hlen := hr.len
    refine ⟨_, (g1.trans g2).stops (stops_ret h3), ⟨hr.clen, by show (m.words.set X.C.words.toNat 0).length = _; rw [List.length_set]; exact hlen, fun j hj => ?_, hr.ok, hr.out, hr.read, hr.fin, hr.cfin⟩, fun _ => ?_, by dsimp only; omega⟩
    · show (m.words.set X.C.words.toNat 0)[j]? = _
      rw [List.getElem?_set_ne (by omega)]
      exact hr.w j hj
    · show rget (m.words.set X.C.words.toNat 0) X.C.words = 0
      unfold rget
      rw [List.getElem?_set_self (by omega)]; rfl
theorem tell_stops (hX : CxOk X) {a : Pos} {regs : List Int} {c : CM} {m : Mach} (h1 : InsAt X.F.blocks a (iStore X.C.words 0)) (h2 : EndAt X.F.blocks (nx a) 3 0 0 0) (hr : RelM X.W X.M c.m m) (hM : X.W < X.M) :
    ∃ m', Stops X.cl X.s X.F a regs m m' ∧ RelM X.W X.M c.m m' ∧ rget m'.words X.C.words = rget regs 0 ∧ m'.steps ≤ m.steps + 2 := by
  have hWw := hX.w
  have hlen := hr.len
  have g2 := goes_ins (C := X.cl) (s := X.s) (f := X.F) (regs := regs) (r' := regs) (m := m) (m' := { m with words := rset m.words X.C.words (rget regs 0), steps := m.steps + 1 }) h1 (fun _ => rfl) hr.fin rfl
  refine ⟨_, g2.stops (stops_ret h2), ⟨hr.clen, by show (m.words.set X.C.words.toNat _).length = _; rw [List.length_set]; exact hlen, fun j hj => ?_, hr.ok, hr.out, hr.read, hr.fin, hr.cfin⟩, ?_, by dsimp only; omega⟩
  · show (m.words.set X.C.words.toNat _)[j]? = _
    rw [List.getElem?_set_ne (by omega)]
    exact hr.w j hj
  · show rget (m.words.set X.C.words.toNat _) X.C.words = _
    unfold rget
    rw [List.getElem?_set_self (by omega)]; rfl
theorem simW (hX : CxOk X) {es : CE} {thn : List CS} {g t h : Nat} {a1 a2 : Pos} (hI : SimE X es) (hb : ∀ (a b : Pos) (regs : List Int) (c : CM) (m : Mach), CS.codeL X.C w X.F.blocks thn a b → (regs.length : Int) = X.F.regs → c.over = false → RelM X.W X.M c.m m → StOk X w (8 * CS.partsL thn) a b regs c m (CS.runL X.call X.s fuel thn c))
    (hok : es.ok X.C X.n) (c1 : es.code X.C X.F.blocks 0 (g, 0) a1) (c2 : EndAt X.F.blocks a1 2 0 t h) (c3 : CS.codeL X.C w X.F.blocks thn (t, 0) a2) (c4 : EndAt X.F.blocks a2 1 0 g 0) (hK : 8 * (es.parts + CS.partsL thn) + 2 ≤ X.K) :
    ∀ (gas : Nat) (regs : List Int) (c : CM) (m : Mach), (regs.length : Int) = X.F.regs → c.over = false → RelM X.W X.M c.m m → StOk X w 0 (g, 0) (h, 0) regs c m (whileC fuel (es.ev X.call X.s) (CS.runL X.call X.s fuel thn) gas c)
  | 0, regs, c, m, hl, ho, hr => by
    rw [whileC]
    exact ⟨Nat.le_refl _, fun h0 => (by cases h0), fun h0 => (by cases h0), fun _ h5 => absurd rfl h5⟩
  | gas + 1, regs, c, m, hl, ho, hr => by
    rw [whileC]
    rw [show c.fin = 0 from hr.cfin, ho]
    simp only [show ((0 : Int) == 0) = true from rfl, Bool.not_false, Bool.and_self, cond_true]
    unfold tickC
    unfold mstep
    cases ht : decide ((c.m.steps : Int) ≥ fuel) with
    | true =>
      simp only [cond_true, cond_false]
      exact ⟨Nat.le_refl _, fun h0 => (by cases h0), fun h0 => (by cases h0), fun _ h5 => absurd rfl h5⟩
    | false =>
      simp only [cond_true, cond_false]
      have hr1 : RelM X.W X.M (c.put { c.m with steps := c.m.steps + 1 }).m m := hr.step _ m.steps
      have k1 := hI 0 (g, 0) a1 regs (c.put { c.m with steps := c.m.steps + 1 }) m c1 hok hl ho hr1
      have hmul : X.K * (c.m.steps + 1) = X.K * c.m.steps + X.K := Nat.mul_succ _ _
      have hs1 : (c.put { c.m with steps := c.m.steps + 1 }).m.steps = c.m.steps + 1 := rfl
      generalize es.ev X.call X.s (c.put { c.m with steps := c.m.steps + 1 }) = p at k1 ⊢
      generalize c.put { c.m with steps := c.m.steps + 1 } = c' at k1 hr1 hs1
      obtain ⟨x, d1⟩ := p
      have le1 := k1.le
      dsimp only at le1 ⊢
      rw [← hs1] at hmul
      have hle : c.m.steps ≤ c'.m.steps := by omega
      cases f1 : d1.fin == 0 with
      | false =>
        simp only [Bool.false_and, cond_false]
        have hne : d1.fin ≠ 0 := by simpa using f1
        have := StOk.ended (w := w) (b := (h, 0)) k1 hne (Nat.le_refl _)
        refine ⟨by omega, fun h0 => absurd h0 hne, fun h0 => absurd h0 hne, fun h0 h5 => ?_⟩
        obtain ⟨m', g1, g2, g3, g4⟩ := this.stop h0 h5
        exact ⟨m', g1, g2, g3, by dsimp only at g4; omega⟩
      | true =>
        obtain ⟨ov, v1, r1, m1, g1, g2, g3, g4, g5, g6⟩ := k1.go (by simpa using f1)
        dsimp only at ov v1 g2 g4 g6
        have gf := goes_fork (C := X.cl) (s := X.s) (f := X.F) (regs := r1) (m := m1) (v := 0) c2
        rw [g4] at gf
        by_cases hx : x = 0
        · subst hx
          rw [if_pos rfl] at gf
          simp only [show ((0 : Int) == 0) = true from rfl, Bool.not_true, Bool.and_false, cond_false]
          refine ⟨by omega, fun _ _ => ⟨r1, _, g1.trans gf, g2.step d1.m.steps _, g3, by dsimp only; omega⟩, fun _ h1 => (by rw [ov] at h1; cases h1), fun h0 => absurd (by simpa using f1) h0⟩
        · rw [if_neg hx] at gf
          rw [show (x == 0) = false by simpa using hx]
          simp only [Bool.not_false, Bool.and_true, cond_true]
          have k2 := hb (t, 0) a2 r1 d1 { m1 with steps := m1.steps + 1 } c3 (by rw [g3]; exact hl) ov (g2.step d1.m.steps _)
          generalize CS.runL X.call X.s fuel thn d1 = d2 at k2 ⊢
          have le2 := k2.le
          by_cases h2 : d2.fin = 0 ∧ d2.over = false
          · obtain ⟨r2, m2, j1, j2, j3, j4⟩ := k2.go h2.1 h2.2
            dsimp only at j4
            have ih := simW hX hI hb hok c1 c2 c3 c4 hK gas r2 d2 { m2 with steps := m2.steps + 1 } (by rw [j3, g3]; exact hl) h2.2 (j2.step d2.m.steps _)
            exact StOk.pre (n1 := 0) ih (((g1.trans gf).trans j1).trans (goes_jump c4)) (j3.trans g3) (by omega) (by dsimp only; omega) (by omega)
          · have e : whileC fuel (es.ev X.call X.s) (CS.runL X.call X.s fuel thn) gas d2 = d2 ∨ (whileC fuel (es.ev X.call X.s) (CS.runL X.call X.s fuel thn) gas d2).fin = 5 ∧ d2.m.steps ≤ (whileC fuel (es.ev X.call X.s) (CS.runL X.call X.s fuel thn) gas d2).m.steps := by
              cases gas with
              | zero => rw [whileC]; exact .inr ⟨rfl, Nat.le_refl _⟩
              | succ gas =>
                left
                rw [whileC]
                have : (d2.fin == 0 && !d2.over) = false := by
                  cases ho2 : d2.over with
                  | true => simp
                  | false =>
                    have : d2.fin ≠ 0 := fun e => h2 ⟨e, ho2⟩
                    simp [this]
                rw [this]; rfl
            rcases e with e | ⟨e, e2⟩
            · rw [e]
              refine ⟨by omega, fun h0 h1 => absurd ⟨h0, h1⟩ h2, fun h0 h1 => ?_, fun h0 h5 => ?_⟩
              · obtain ⟨v, m2, j1, j2, j3, j4⟩ := k2.ret h0 h1
                exact ⟨v, m2, (g1.trans gf).stops j1, j2, j3, by dsimp only at j4; omega⟩
              · obtain ⟨m2, j1, j2, j3, j4⟩ := k2.stop h0 h5
                exact ⟨m2, (g1.trans gf).stops j1, j2, j3, by dsimp only at j4; omega⟩
            · exact ⟨by omega, fun h0 => (by rw [e] at h0; cases h0), fun h0 => (by rw [e] at h0; cases h0), fun _ h5 => absurd e h5⟩
end
section
variable {X : Cx} {w : Bool} {fuel : Int}
theorem runL_stop {call : CallC} {s : ByteArray} {l : List CS} {c : CM} (h : ¬ (c.fin = 0 ∧ c.over = false)) : CS.runL call s fuel l c = c := by
  cases l with
  | nil => rw [CS.runL]
  | cons st l =>
    rw [CS.runL]
    have : (c.fin == 0 && !c.over) = false := by
      cases ho : c.over with
      | true => simp
      | false =>
        have : c.fin ≠ 0 := fun e => h ⟨e, ho⟩
        simp [this]
    rw [this]; rfl
theorem StOk.over_or {k n : Nat} {a b b' : Pos} {regs : List Int} {c p : CM} {m : Mach} (h : StOk X w k a b regs c m p) (hn : ¬ (p.fin = 0 ∧ p.over = false)) (hk : k ≤ n) : StOk X w n a b' regs c m p := by
  refine ⟨h.le, fun h0 h1 => absurd ⟨h0, h1⟩ hn, fun h0 h1 => ?_, fun h0 h5 => ?_⟩
  · obtain ⟨v, m', g1, g2, g3, g4⟩ := h.ret h0 h1
    exact ⟨v, m', g1, g2, g3, by omega⟩
  · obtain ⟨m', g1, g2, g3, g4⟩ := h.stop h0 h5
    exact ⟨m', g1, g2, g3, by omega⟩
theorem simSL : ∀ (l : List CS), (∀ st ∈ l, SimS X w fuel st) → ∀ (a b : Pos) (regs : List Int) (c : CM) (m : Mach), CS.codeL X.C w X.F.blocks l a b → CS.okL X.C X.n w l → 8 * CS.partsL l ≤ X.K → (regs.length : Int) = X.F.regs → c.over = false → RelM X.W X.M c.m m → StOk X w (8 * CS.partsL l) a b regs c m (CS.runL X.call X.s fuel l c)
  | [], _, a, b, regs, c, m, hc, _, _, _, ho, hr => by
    rw [CS.codeL] at hc
    subst hc
    rw [CS.runL]
    exact ⟨Nat.le_refl _, fun _ _ => ⟨regs, m, Goes.refl _ _ _, hr, rfl, by omega⟩, fun _ h => (by rw [ho] at h; cases h), fun h => absurd (show c.fin = 0 from hr.cfin) h⟩
  | st :: l, hI, a, b, regs, c, m, hc, hok, hK, hl, ho, hr => by
    rw [CS.codeL] at hc
    obtain ⟨a1, h1, h2⟩ := hc
    rw [CS.okL] at hok
    rw [CS.partsL] at hK ⊢
    have k1 := hI st (List.mem_cons.2 (.inl rfl)) a a1 regs c m h1 hok.1 (by omega) hl ho hr
    rw [CS.runL, show c.fin = 0 from hr.cfin, ho]
    simp only [show ((0 : Int) == 0) = true from rfl, Bool.not_false, Bool.and_self, cond_true]
    generalize st.run X.call X.s fuel c = p at k1 ⊢
    by_cases hp : p.fin = 0 ∧ p.over = false
    · obtain ⟨r1, m1, g1, g2, g3, g4⟩ := k1.go hp.1 hp.2
      exact StOk.pre (n1 := 8 * st.parts) (simSL l (fun st hs => hI st (List.mem_cons.2 (.inr hs))) a1 b r1 p m1 h2 hok.2 (by omega) (by rw [g3]; exact hl) hp.2 g2) g1 g3 k1.le g4 (by omega)
    · rw [runL_stop hp]
      exact k1.over_or hp (by omega)
theorem sparts_mem {st : CS} : ∀ {l : List CS}, st ∈ l → st.parts ≤ CS.partsL l
  | x :: l, h => by
    rw [CS.partsL]
    rcases List.mem_cons.1 h with rfl | h
    · omega
    · have := sparts_mem h; omega
theorem codeL_one {C : Core} {G : List Block} {e : CE} {d : Nat} {a b : Pos} (h : CE.codeL C G [e] d a b) : e.code C G d a b := by
  rw [CE.codeL] at h
  obtain ⟨a1, h1, h2⟩ := h
  rw [CE.codeL] at h2
  subst h2; exact h1
theorem codeL_two {C : Core} {G : List Block} {e f : CE} {d : Nat} {a b : Pos} (h : CE.codeL C G [e, f] d a b) : ∃ a1, e.code C G d a a1 ∧ f.code C G (d + 1) a1 b := by
  rw [CE.codeL] at h
  obtain ⟨a1, h1, h2⟩ := h
  exact ⟨a1, h1, codeL_one h2⟩
theorem simS (hX : CxOk X) (hM : w = true → X.W < X.M) : ∀ (n : Nat) (st : CS), st.parts ≤ n → SimS X w fuel st
  | 0, st, h => by cases st; rw [CS.parts] at h; omega
  | n + 1, st, hn => by
    cases st with
    | mk k s z es thn els =>
    rw [CS.parts] at hn
    have hE : ∀ e ∈ es, SimE X e := fun e _ => simE hX e.parts e (Nat.le_refl _)
    have hT : ∀ s ∈ thn, SimS X w fuel s := fun s hs => simS hX hM n s (by have := sparts_mem hs; omega)
    have hL : ∀ s ∈ els, SimS X w fuel s := fun s hs => simS hX hM n s (by have := sparts_mem hs; omega)
    intro a b regs c m hc hok hK hl ho hr
    rw [CS.code] at hc
    rw [CS.ok] at hok
    rw [CS.parts] at hK ⊢
    obtain ⟨hes, hthn, hels, hk⟩ := hok
    rw [CS.run]
    have hW := hX.w
    rcases hk with ⟨rfl, h1, s0, s1⟩ | ⟨rfl, h2, z1, z2, s0, s1⟩ | ⟨rfl, h1⟩ | ⟨rfl, h1⟩ | ⟨rfl, h1⟩ | ⟨rfl, s0, s1, fn, hfn, hwd, hpar, h6⟩ | ⟨rfl, h1⟩
    · obtain ⟨e, rfl⟩ := len_one h1
      rw [if_pos rfl] at hc
      rw [if_neg (by decide), if_neg (by decide)]
      obtain ⟨a1, c1, c2, rfl⟩ := hc
      simp only [CE.okL] at hes
      have k1 := hE e (by simp) 0 a a1 regs c m (codeL_one c1) hes.1 hl ho hr
      rw [CE.evH]
      simp only [CE.partsL, Nat.add_zero]
      simp only [CE.partsL, Nat.add_zero] at hK
      generalize e.ev X.call X.s c = p at k1 ⊢
      obtain ⟨x, d1⟩ := p
      dsimp only
      cases f1 : d1.fin == 0 with
      | false => exact StOk.ended k1 (by simpa using f1) (by omega)
      | true =>
        rw [cond_true]
        rw [if_neg (by decide), if_pos trivial]
        obtain ⟨ov, v1, r1, m1, g1, g2, g3, g4, g5, g6⟩ := k1.go (by simpa using f1)
        dsimp only at ov v1 g2 g4 g6
        refine StOk.pre (n1 := 8 * e.parts) (n2 := 8) ?_ g1 g3 k1.le g6 (by omega)
        exact StOk.ins (m' := { m1 with words := rset m1.words s x, steps := m1.steps + 1 }) c2 (fun _ => by rw [mone_store, g4]) rfl rfl (g2.put s0 (by omega) v1 d1.m.steps _) ov (by omega) rfl
    · obtain ⟨e1, e2, rfl⟩ := len_two h2
      rw [if_neg (by decide), if_pos rfl] at hc
      rw [if_neg (by decide), if_neg (by decide)]
      obtain ⟨a2, c1, c2, rfl⟩ := hc
      obtain ⟨a1, c1, c1'⟩ := codeL_two c1
      simp only [CE.okL] at hes
      have k1 := hE e1 (by simp) 0 a a1 regs c m c1 hes.1 hl ho hr
      rw [CE.evH]
      simp only [CE.partsL, Nat.add_zero]
      simp only [CE.partsL, Nat.add_zero] at hK
      generalize e1.ev X.call X.s c = p at k1 ⊢
      obtain ⟨x, d1⟩ := p
      dsimp only
      cases f1 : d1.fin == 0 with
      | false => exact StOk.ended k1 (by simpa using f1) (by omega)
      | true =>
        rw [cond_true]
        rw [if_neg (by decide), if_neg (by decide), if_pos trivial]
        obtain ⟨ov, v1, r1, m1, g1, g2, g3, g4, g5, g6⟩ := k1.go (by simpa using f1)
        dsimp only at ov v1 g2 g4 g6
        refine StOk.pre (n1 := 8 * e1.parts) (n2 := 8 * e2.parts + 8) ?_ g1 g3 k1.le g6 (by omega)
        have k2 := hE e2 (by simp) 1 a1 a2 r1 d1 m1 c1' hes.2.1 (by rw [g3]; exact hl) ov g2
        rw [List.drop_succ_cons, List.drop_zero, CE.evH]
        generalize e2.ev X.call X.s d1 = q at k2 ⊢
        obtain ⟨y, d2⟩ := q
        dsimp only
        cases f2 : d2.fin == 0 with
        | false => exact StOk.ended k2 (by simpa using f2) (by omega)
        | true =>
          simp only [cond_true]
          obtain ⟨ov2, v2, r2, m2, j1, j2, j3, j4, j5, j6⟩ := k2.go (by simpa using f2)
          dsimp only at ov2 v2 j2 j4 j6
          have hx0 : rget r2 ((0 : Nat) : Int) = x := (j5 0 (by omega)).trans g4
          refine StOk.pre (n1 := 8 * e2.parts) (n2 := 8) ?_ j1 j3 k2.le j6 (by omega)
          by_cases hx : x ≥ z
          · rw [decide_eq_true hx, cond_true]
            have hmm : ∀ call, mone call X.s (iAStore 0 1 s z) r2 { m2 with steps := m2.steps + 1 } = (r2, { m2 with steps := m2.steps + 1, fin := 3 }) := fun _ => by rw [mone_astore, hx0, decide_eq_true hx]; rfl
            exact StOk.fail c2 hmm rfl (by show (3 : Int) ≠ 0; decide) rfl j2.out rfl (by omega)
          · rw [decide_eq_false hx, cond_false]
            have hmm : ∀ call, mone call X.s (iAStore 0 1 s z) r2 { m2 with steps := m2.steps + 1 } = (r2, { m2 with words := rset m2.words (s + x) y, steps := m2.steps + 1 }) := fun _ => by rw [mone_astore, hx0, j4, decide_eq_false hx]; rfl
            exact StOk.ins c2 hmm rfl rfl (j2.put (by have := v1.1; omega) (by omega) v2 d2.m.steps _) ov2 (by omega) rfl
    · obtain ⟨e, rfl⟩ := len_one h1
      rw [if_neg (by decide), if_neg (by decide), if_pos rfl] at hc
      rw [if_neg (by decide), if_neg (by decide)]
      obtain ⟨a1, c1, c2, rfl⟩ := hc
      simp only [CE.okL] at hes
      have k1 := hE e (by simp) 0 a a1 regs c m (codeL_one c1) hes.1 hl ho hr
      rw [CE.evH]
      simp only [CE.partsL, Nat.add_zero]
      simp only [CE.partsL, Nat.add_zero] at hK
      generalize e.ev X.call X.s c = p at k1 ⊢
      obtain ⟨x, d1⟩ := p
      dsimp only
      cases f1 : d1.fin == 0 with
      | false => exact StOk.ended k1 (by simpa using f1) (by omega)
      | true =>
        rw [cond_true]
        rw [if_neg (by decide), if_neg (by decide), if_neg (by decide), if_pos trivial]
        obtain ⟨ov, v1, r1, m1, g1, g2, g3, g4, g5, g6⟩ := k1.go (by simpa using f1)
        dsimp only at ov v1 g2 g4 g6
        refine StOk.pre (n1 := 8 * e.parts) (n2 := 8) ?_ g1 g3 k1.le g6 (by omega)
        have hout := g2.out
        by_cases hx : d1.m.out.length ≥ 65536
        · rw [decide_eq_true hx, cond_true]
          have hmm : ∀ call, mone call X.s (iPut 0) r1 { m1 with steps := m1.steps + 1 } = (r1, { m1 with steps := m1.steps + 1, fin := 4 }) := fun _ => by
            rw [mone_put]; dsimp only; rw [hout, decide_eq_true hx]; rfl
          exact StOk.fail c2 hmm rfl (by show (4 : Int) ≠ 0; decide) rfl hout rfl (by omega)
        · rw [decide_eq_false hx, cond_false]
          have hmm : ∀ call, mone call X.s (iPut 0) r1 { m1 with steps := m1.steps + 1 } = (r1, { m1 with out := d1.m.out ++ [byteOf x], steps := m1.steps + 1 }) := fun _ => by
            rw [mone_put]; dsimp only; rw [hout, decide_eq_false hx, g4]; rfl
          exact StOk.ins c2 hmm rfl rfl ⟨g2.clen, g2.len, g2.w, g2.ok, rfl, g2.read, g2.fin, g2.cfin⟩ ov (by omega) rfl
    · obtain ⟨e, rfl⟩ := len_one h1
      rw [if_neg (by decide), if_neg (by decide), if_neg (by decide), if_neg (by decide), if_neg (by decide), if_pos rfl] at hc
      rw [if_neg (by decide), if_neg (by decide)]
      obtain ⟨a1, t, h, o, a2, a3, c1, c2, c3, c4, c5, rfl⟩ := hc
      simp only [CE.okL] at hes
      have k1 := hE e (by simp) 0 a a1 regs c m (codeL_one c1) hes.1 hl ho hr
      rw [CE.evH]
      simp only [CE.partsL, Nat.add_zero]
      simp only [CE.partsL, Nat.add_zero] at hK
      generalize e.ev X.call X.s c = p at k1 ⊢
      obtain ⟨x, d1⟩ := p
      dsimp only
      cases f1 : d1.fin == 0 with
      | false => exact StOk.ended k1 (by simpa using f1) (by omega)
      | true =>
        rw [cond_true]
        rw [if_neg (by decide), if_neg (by decide), if_neg (by decide), if_neg (by decide)]
        obtain ⟨ov, v1, r1, m1, g1, g2, g3, g4, g5, g6⟩ := k1.go (by simpa using f1)
        dsimp only at ov v1 g2 g4 g6
        have gf := goes_fork (C := X.cl) (s := X.s) (f := X.F) (regs := r1) (m := m1) (v := 0) c2
        rw [g4] at gf
        have side : ∀ (l : List CS) (i : Nat) (j : Pos), (∀ s ∈ l, SimS X w fuel s) → CS.codeL X.C w X.F.blocks l (i, 0) j → CS.okL X.C X.n w l → 8 * CS.partsL l ≤ X.K → EndAt X.F.blocks j 1 0 h 0 → StOk X w (8 * CS.partsL l + 1) (i, 0) (h, 0) r1 d1 { m1 with steps := m1.steps + 1 } (CS.runL X.call X.s fuel l d1) := fun l i j hI hcl hokl hKl hj => by
          have k2 := simSL l hI (i, 0) j r1 d1 { m1 with steps := m1.steps + 1 } hcl hokl hKl (by rw [g3]; exact hl) ov (g2.step d1.m.steps _)
          generalize CS.runL X.call X.s fuel l d1 = p at k2 ⊢
          by_cases hp : p.fin = 0 ∧ p.over = false
          · obtain ⟨r2, m2, j1, j2, j3, j4⟩ := k2.go hp.1 hp.2
            exact ⟨k2.le, fun _ _ => ⟨r2, _, j1.trans (goes_jump hj), j2.step p.m.steps _, j3, by dsimp only at j4 ⊢; omega⟩, fun _ h1 => (by rw [hp.2] at h1; cases h1), fun h0 => absurd hp.1 h0⟩
          · exact k2.over_or hp (by omega)
        by_cases hx : x = 0
        · subst hx
          rw [if_pos rfl] at gf
          simp only [show ((0 : Int) == 0) = true from rfl, cond_true]
          by_cases hel : els = []
          · rw [if_pos hel] at c5
            subst c5; subst hel
            rw [CS.runL]
            exact ⟨k1.le, fun _ _ => ⟨r1, _, g1.trans gf, g2.step d1.m.steps _, g3, by dsimp only; omega⟩, fun _ h1 => (by rw [ov] at h1; cases h1), fun h0 => absurd (by simpa using f1) h0⟩
          · rw [if_neg hel] at c5
            exact StOk.pre (n1 := 8 * e.parts + 1) (side els o a3 hL c5.1 hels (by omega) c5.2) (g1.trans gf) g3 k1.le (by dsimp only; omega) (by omega)
        · rw [if_neg hx] at gf
          rw [show (x == 0) = false by simpa using hx]
          simp only [cond_false]
          exact StOk.pre (n1 := 8 * e.parts + 1) (side thn t a2 hT c3 hthn (by omega) c4) (g1.trans gf) g3 k1.le (by dsimp only; omega) (by omega)
    · obtain ⟨e, rfl⟩ := len_one h1
      rw [if_neg (by decide), if_neg (by decide), if_neg (by decide), if_neg (by decide), if_neg (by decide), if_neg (by decide), if_pos rfl] at hc
      rw [if_neg (by decide), if_pos rfl]
      obtain ⟨g, t, h, a1, a2, c1, c2, c3, c4, c5, rfl⟩ := hc
      simp only [CE.okL] at hes
      simp only [CE.partsL, Nat.add_zero]
      simp only [CE.partsL, Nat.add_zero] at hK
      have e1 : CE.evH X.call X.s [e] = e.ev X.call X.s := funext fun c => by rw [CE.evH]
      rw [e1]
      have g0 := goes_jump (C := X.cl) (s := X.s) (f := X.F) (regs := regs) (m := m) c1
      have k1 := simW (fuel := fuel) hX (hE e (by simp)) (fun a b regs c m h1 h2 h3 h4 => simSL thn hT a b regs c m h1 hthn (by omega) h2 h3 h4) hes.1 (codeL_one c2) c3 c4 c5 (by omega) (fuel.toNat + 1) regs c { m with steps := m.steps + 1 } hl ho (hr.step c.m.steps _)
      exact StOk.pre (n1 := 1) k1 g0 rfl (Nat.le_refl _) (by dsimp only; omega) (by omega)
    · rw [if_neg (by decide), if_neg (by decide), if_neg (by decide), if_pos rfl] at hc
      rw [if_pos rfl]
      obtain ⟨a1, c1, c2⟩ := hc
      have k1 := simL es hE 0 a a1 regs c m c1 hes hl ho hr
      rw [CE.evC_eq _ _ _ hr.cfin, List.nil_append]
      generalize CE.evL X.call X.s es c = q at k1 ⊢
      obtain ⟨xs, c1'⟩ := q
      have le1 := k1.le
      dsimp only at le1 ⊢
      cases e1 : c1'.fin == 0 with
      | false =>
        simp only [cond_false]
        have hne : c1'.fin ≠ 0 := by simpa using e1
        refine ⟨le1, fun h => absurd h hne, fun h => absurd h hne, fun h h5 => ?_⟩
        obtain ⟨m', g1, g2, g3, g4⟩ := k1.stop h h5
        exact ⟨m', g1, g2, g3, by dsimp only at g4 ⊢; omega⟩
      | true =>
        simp only [cond_true]
        obtain ⟨ov, n1, v1, r1, m1, g1, g2, g3, g4, g5, g6⟩ := k1.go (by simpa using e1)
        dsimp only at ov n1 v1 g2 g4 g6
        rw [← n1] at c2
        have k2 := simC hX s0 s1 hfn (by rw [n1]; exact hpar.symm) v1 ov g2 c2 (get_args g4)
        have le2 := k2.le
        generalize X.call s xs c1' = p at k2 le2 ⊢
        obtain ⟨x, c2'⟩ := p
        dsimp only at le2 ⊢
        refine ⟨by omega, fun h _ => ?_, fun h h1 => ?_, fun h h5 => ?_⟩
        · obtain ⟨o2, v2, m2, f1, f2, f3, f4⟩ := k2.go h
          dsimp only at o2 v2 f2 f3 f4
          exact ⟨r1, m2, g1.trans f1, f2, g3, by omega⟩
        · obtain ⟨o2, _⟩ := k2.go h
          dsimp only at o2
          rw [o2] at h1; cases h1
        · obtain ⟨m2, f1, f2, f3, f4⟩ := k2.stop h h5
          dsimp only at f4
          exact ⟨m2, g1.stops f1, f2, f3, by omega⟩
    · rw [if_neg (by decide), if_neg (by decide), if_neg (by decide), if_neg (by decide), if_pos rfl] at hc
      rw [if_neg (by decide), if_neg (by decide)]
      by_cases he : es = []
      · subst he
        rw [if_pos rfl] at hc
        rw [CE.evH]
        dsimp only
        rw [show c.fin = 0 from hr.cfin]
        rw [show ((0 : Int) == 0) = true from rfl, cond_true, if_pos rfl]
        obtain ⟨m', g1, g2, g3, g4⟩ := leave_stops hX hc hl hr hM
        exact ⟨Nat.le_refl _, fun _ h => (by cases h), fun _ _ => ⟨⟨by dsimp only; omega, by dsimp only; omega⟩, m', g1, g2, g3, by dsimp only; omega⟩, fun h => absurd (show c.fin = 0 from hr.cfin) h⟩
      · rw [if_neg he] at hc
        obtain ⟨h1, hw⟩ := h1.resolve_left he
        obtain ⟨e, rfl⟩ := len_one h1
        obtain ⟨a1, c1, c2, c3⟩ := hc
        simp only [CE.okL] at hes
        have k1 := hE e (by simp) 0 a a1 regs c m (codeL_one c1) hes.1 hl ho hr
        rw [CE.evH]
        simp only [CE.partsL, Nat.add_zero]
        simp only [CE.partsL, Nat.add_zero] at hK
        generalize e.ev X.call X.s c = p at k1 ⊢
        obtain ⟨x, d1⟩ := p
        dsimp only
        cases f1 : d1.fin == 0 with
        | false => exact StOk.ended k1 (by simpa using f1) (by omega)
        | true =>
          rw [cond_true]
          rw [if_pos trivial]
          obtain ⟨ov, v1, r1, m1, g1, g2, g3, g4, g5, g6⟩ := k1.go (by simpa using f1)
          dsimp only at ov v1 g2 g4 g6
          obtain ⟨m', j1, j2, j3, j4⟩ := tell_stops (regs := r1) hX c2 c3 g2 (hM hw)
          have le1 := k1.le
          exact ⟨le1, fun _ h => (by cases h), fun _ _ => ⟨v1, m', g1.stops j1, j2, fun _ => j3.trans g4, by dsimp only; omega⟩, fun h => absurd (show d1.fin = 0 by simpa using f1) h⟩
end
def Bd.zeros (b : Bd) (a : Int) : Nat → Bd
  | 0 => b
  | n + 1 => (b.zeros a n).put (iStore (a + n) 0)
def Bd.astores (b : Bd) (a : Int) (z : Int) : Nat → Bd
  | 0 => b
  | n + 1 => (b.astores a z n).put (iAStore 1 0 (a + n) z)
def Bd.chunk1 (b : Bd) (n : Nat) : Bd := ((b.put (iNum 1 0)).put (iNum 2 8)).put (iNum 3 n)
def Bd.chunk2 (b : Bd) : Bd := (b.opened.jump b.blocks.length).go b.blocks.length
def Bd.chunk3 (b : Bd) (l : Nat) : Bd := (b.opened.fork 4 l b.blocks.length).go b.blocks.length
def Bd.chunk (b : Bd) (a : Int) (n : Nat) : Bd := ((((b.chunk1 n).chunk2.astores a (n - 7) 8).put (iBin 4 1 1 2)).put (iBin 14 4 1 3)).chunk3 (b.chunk1 n).blocks.length
def chunkN (n : Nat) : Nat := min n 4096 / 8 * 8
def Bd.noughtG : Nat → Bd → Int → Nat → Bd
  | 0, b, _, _ => b
  | g + 1, b, a, n => if 64 < n then Bd.noughtG g (b.chunk a (chunkN n)) (a + chunkN n) (n - chunkN n) else b.zeros a n
def Bd.nought (b : Bd) (a : Int) (n : Nat) : Bd := if n = 0 then b else Bd.noughtG n (b.put (iNum 0 0)) a n
def ZerosAt (G : List Block) (a : Pos) (first : Int) (n : Nat) (b : Pos) : Prop := (∀ i, i < n → InsAt G (a.1, a.2 + i) (iStore (first + i) 0)) ∧ b = (a.1, a.2 + n)
def ChunkAt (G : List Block) (a : Pos) (first : Int) (n : Nat) (b : Pos) : Prop := InsAt G a (iNum 1 0) ∧ InsAt G (nx a) (iNum 2 8) ∧ InsAt G (nx (nx a)) (iNum 3 n) ∧ ∃ l h : Nat, EndAt G (nx (nx (nx a))) 1 0 l 0 ∧
  (∀ k, k < 8 → InsAt G (l, k) (iAStore 1 0 (first + k) (n - 7))) ∧ InsAt G (l, 8) (iBin 4 1 1 2) ∧ InsAt G (l, 9) (iBin 14 4 1 3) ∧ EndAt G (l, 10) 2 ((4 : Nat) : Int) l h ∧ b = (h, 0)
def NoughtG (G : List Block) : Nat → Pos → Int → Nat → Pos → Prop
  | 0, a, _, _, b => b = a
  | g + 1, a, first, n, b => if 64 < n then ∃ a1, ChunkAt G a first (chunkN n) a1 ∧ NoughtG G g a1 (first + chunkN n) (n - chunkN n) b else ZerosAt G a first n b
def NoughtAt (G : List Block) (a : Pos) (first : Int) (n : Nat) (b : Pos) : Prop := if n = 0 then b = a else InsAt G a (iNum 0 0) ∧ NoughtG G n (nx a) first n b
theorem zeroW_len (w : List Int) (a : Int) : ∀ n, (zeroW w a n).length = w.length
  | 0 => rfl
  | n + 1 => by rw [zeroW]; unfold rset; rw [List.length_set, zeroW_len w a n]
theorem zeroW_get {w : List Int} {a : Int} (ha : 0 ≤ a) (j : Nat) : ∀ n : Nat, (zeroW w a n)[j]? = if a ≤ j ∧ (j : Int) < a + n ∧ j < w.length then some 0 else w[j]?
  | 0 => by rw [zeroW, if_neg (by omega)]
  | n + 1 => by
    rw [zeroW]
    unfold rset
    rw [List.getElem?_set, zeroW_len, zeroW_get ha j n]
    by_cases h : (a + n).toNat = j
    · rw [if_pos h]
      by_cases h2 : j < w.length
      · rw [if_pos (by omega), if_pos (by omega)]
      · rw [if_neg (by omega), if_neg (by omega), List.getElem?_eq_none (by omega)]
    · rw [if_neg h]
      by_cases h2 : a ≤ j ∧ (j : Int) < a + n ∧ j < w.length
      · rw [if_pos h2, if_pos (by omega)]
      · rw [if_neg h2, if_neg (by omega)]
theorem zeroW_app {w : List Int} {a : Int} (n : Nat) : ∀ k : Nat, zeroW (zeroW w a n) (a + n) k = zeroW w a (n + k)
  | 0 => rfl
  | k + 1 => by
    rw [zeroW, zeroW_app n k]
    show _ = rset (zeroW w a (n + k)) (a + ((n + k : Nat) : Int)) 0
    congr 1
    omega
theorem argsW_len (w : List Int) (a : Int) (l : List Int) : ∀ n, (argsW w a l n).length = w.length
  | 0 => rfl
  | n + 1 => by rw [argsW]; unfold rset; rw [List.length_set, argsW_len w a l n]
theorem argsW_get {w : List Int} {a : Int} {l : List Int} (ha : 0 ≤ a) (j : Nat) : ∀ n : Nat, (argsW w a l n)[j]? = if a ≤ j ∧ (j : Int) < a + n ∧ j < w.length then some (rget l (j - a)) else w[j]?
  | 0 => by rw [argsW, if_neg (by omega)]
  | n + 1 => by
    rw [argsW]
    unfold rset
    rw [List.getElem?_set, argsW_len, argsW_get ha j n]
    by_cases h : (a + n).toNat = j
    · rw [if_pos h]
      by_cases h2 : j < w.length
      · rw [if_pos (by omega), if_pos (by omega)]
        congr 2
        omega
      · rw [if_neg (by omega), if_neg (by omega), List.getElem?_eq_none (by omega)]
    · rw [if_neg h]
      by_cases h2 : a ≤ j ∧ (j : Int) < a + n ∧ j < w.length
      · rw [if_pos h2, if_pos (by omega)]
      · rw [if_neg h2, if_neg (by omega)]
section
variable {X : Cx}
theorem zeros_go {a : Pos} {first : Int} {regs : List Int} {m : Mach} (h0 : m.fin = 0) (hz : rget regs ((0 : Nat) : Int) = 0) : ∀ (n : Nat), (∀ i, i < n → InsAt X.F.blocks (a.1, a.2 + i) (iStore (first + i) 0)) →
    Goes X.cl X.s X.F a regs m (a.1, a.2 + n) regs { m with words := zeroW m.words first n, steps := m.steps + n }
  | 0, _ => Goes.refl _ _ _
  | n + 1, h1 => by
    have ih := zeros_go h0 hz n (fun i hi => h1 i (by omega))
    refine ih.trans (goes_ins (h1 n (by omega)) (fun call => ?_) h0 rfl)
    rw [mone_store, hz]; rfl
theorem astores_go {l r n : Nat} {first : Int} {regs : List Int} {m : Mach} (h0 : m.fin = 0) (hz : rget regs ((0 : Nat) : Int) = 0) (h1 : rget regs ((1 : Nat) : Int) = ((8 * r : Nat) : Int)) (hr : 8 * r + 8 ≤ n) (w0 : List Int) (hw : m.words = zeroW w0 first (8 * r)) : ∀ (k : Nat), k ≤ 8 → (∀ i, i < 8 → InsAt X.F.blocks (l, i) (iAStore 1 0 (first + i) (n - 7))) →
    Goes X.cl X.s X.F (l, 0) regs m (l, k) regs { m with words := zeroW w0 first (8 * r + k), steps := m.steps + k }
  | 0, _, _ => by
    have := Goes.refl (C := X.cl) (s := X.s) (f := X.F) (l, 0) regs m
    rw [Nat.add_zero, ← hw]; exact this
  | k + 1, hk, hi => by
    have ih := astores_go h0 hz h1 hr w0 hw k (by omega) hi
    refine ih.trans (goes_ins (hi k (by omega)) (fun call => ?_) h0 rfl)
    rw [mone_astore, h1, hz, decide_eq_false (by omega), cond_false]
    show (regs, _) = (regs, _)
    congr 1
    show Mach.mk _ _ _ _ _ = Mach.mk _ _ _ _ _
    congr 1
    show rset (zeroW w0 first (8 * r + k)) _ 0 = rset (zeroW w0 first (8 * r + k)) (first + ((8 * r + k : Nat) : Int)) 0
    congr 1
    omega
theorem add_small {x y : Nat} (h : x + y < 4294967296) : wapp 4 (x : Int) (y : Int) = (((x + y : Nat) : Int), 0) := by
  unfold wapp
  simp only [show ((4 : Int) == 4) = true from rfl, cond_true]
  rw [IntKind.wrap_u32]
  congr 1
  omega
theorem lt_small (x y : Int) : wapp 14 x y = (zf (decide (x < y)), 0) := by
  unfold wapp
  simp only [show ((14 : Int) == 4) = false from rfl, show ((14 : Int) == 5) = false from rfl, show ((14 : Int) == 6) = false from rfl, show ((14 : Int) == 7) = false from rfl, show ((14 : Int) == 8) = false from rfl, show ((14 : Int) == 9) = false from rfl, show ((14 : Int) == 10) = false from rfl, show ((14 : Int) == 11) = false from rfl, show ((14 : Int) == 12) = false from rfl, show ((14 : Int) == 13) = false from rfl, show ((14 : Int) == 14) = true from rfl, Bool.false_or, Bool.true_or, Bool.or_false, cond_true, cond_false]
  unfold wcompare zf
  simp only [show ((14 : Int) == 14) = true from rfl, show ((14 : Int) == 15) = false from rfl, Bool.false_and, Bool.true_and, Bool.or_false]
theorem rounds_go (hX : CxOk X) {l h n q : Nat} {first : Int} (hn : n = 8 * q) (hn2 : n ≤ 4096) (h1 : ∀ i, i < 8 → InsAt X.F.blocks (l, i) (iAStore 1 0 (first + i) (n - 7))) (h2 : InsAt X.F.blocks (l, 8) (iBin 4 1 1 2)) (h3 : InsAt X.F.blocks (l, 9) (iBin 14 4 1 3)) (h4 : EndAt X.F.blocks (l, 10) 2 ((4 : Nat) : Int) l h) (w0 : List Int) :
    ∀ (g r : Nat) (regs : List Int) (m : Mach), r + g = q → 0 < g → (regs.length : Int) = X.F.regs → m.fin = 0 → rget regs ((0 : Nat) : Int) = 0 → rget regs ((1 : Nat) : Int) = ((8 * r : Nat) : Int) → rget regs ((2 : Nat) : Int) = ((8 : Nat) : Int) → rget regs ((3 : Nat) : Int) = (n : Int) → m.words = zeroW w0 first (8 * r) →
    ∃ regs', Goes X.cl X.s X.F (l, 0) regs m (h, 0) regs' { m with words := zeroW w0 first n, steps := m.steps + 11 * g } ∧ regs'.length = regs.length ∧ rget regs' ((0 : Nat) : Int) = 0
  | 0, _, _, _, _, h, _, _, _, _, _, _, _ => absurd h (by omega)
  | g + 1, r, regs, m, hq, _, hl, h0, z0, z1, z2, z3, hw => by
    have hreg := (h3.reg hX rfl).2
    have hl4 : 4 < regs.length := by have : ((4 : Nat) : Int) < X.F.regs := hreg; omega
    have g1 := astores_go (X := X) h0 z0 z1 (by omega) w0 hw 8 (Nat.le_refl _) h1
    have e1 : 8 * r + 8 = 8 * (r + 1) := by omega
    rw [e1] at g1
    have hm2 : ∀ call, mone call X.s (iBin 4 1 1 2) regs { m with words := zeroW w0 first (8 * (r + 1)), steps := m.steps + 9 } = (rset regs ((1 : Nat) : Int) ((8 * (r + 1) : Nat) : Int), { m with words := zeroW w0 first (8 * (r + 1)), steps := m.steps + 9 }) := fun _ => by
      rw [mone_bin, z1, z2, add_small (by omega)]
      rw [show 8 * r + 8 = 8 * (r + 1) by omega]; rfl
    have g2 := goes_ins (C := X.cl) (s := X.s) (f := X.F) (m := { m with words := zeroW w0 first (8 * (r + 1)), steps := m.steps + 8 }) h2 hm2 h0 rfl
    have y1 : rget (rset regs ((1 : Nat) : Int) ((8 * (r + 1) : Nat) : Int)) ((1 : Nat) : Int) = ((8 * (r + 1) : Nat) : Int) := rget_same (by omega)
    have y3 : rget (rset regs ((1 : Nat) : Int) ((8 * (r + 1) : Nat) : Int)) ((3 : Nat) : Int) = (n : Int) := (rget_other (by omega)).trans z3
    have hm3 : ∀ call, mone call X.s (iBin 14 4 1 3) (rset regs ((1 : Nat) : Int) ((8 * (r + 1) : Nat) : Int)) { m with words := zeroW w0 first (8 * (r + 1)), steps := m.steps + 10 } = (rset (rset regs ((1 : Nat) : Int) ((8 * (r + 1) : Nat) : Int)) ((4 : Nat) : Int) (zf (decide (((8 * (r + 1) : Nat) : Int) < (n : Int)))), { m with words := zeroW w0 first (8 * (r + 1)), steps := m.steps + 10 }) := fun _ => by
      rw [mone_bin, y1, y3, lt_small]; rfl
    have g3 := goes_ins (C := X.cl) (s := X.s) (f := X.F) (m := { m with words := zeroW w0 first (8 * (r + 1)), steps := m.steps + 9 }) h3 hm3 h0 rfl
    have g4 := goes_fork (C := X.cl) (s := X.s) (f := X.F) (regs := rset (rset regs ((1 : Nat) : Int) ((8 * (r + 1) : Nat) : Int)) ((4 : Nat) : Int) (zf (decide (((8 * (r + 1) : Nat) : Int) < (n : Int))))) (m := { m with words := zeroW w0 first (8 * (r + 1)), steps := m.steps + 10 }) h4
    have y4 : rget (rset (rset regs ((1 : Nat) : Int) ((8 * (r + 1) : Nat) : Int)) ((4 : Nat) : Int) (zf (decide (((8 * (r + 1) : Nat) : Int) < (n : Int))))) ((4 : Nat) : Int) = zf (decide (((8 * (r + 1) : Nat) : Int) < (n : Int))) := rget_same (by unfold rset; rw [List.length_set]; omega)
    rw [y4] at g4
    have g5 := ((g1.trans g2).trans g3).trans g4
    have hlen : (rset (rset regs ((1 : Nat) : Int) ((8 * (r + 1) : Nat) : Int)) ((4 : Nat) : Int) (zf (decide (((8 * (r + 1) : Nat) : Int) < (n : Int))))).length = regs.length := by unfold rset; rw [List.length_set, List.length_set]
    by_cases hg : g = 0
    · subst hg
      have hd : decide (((8 * (r + 1) : Nat) : Int) < (n : Int)) = false := decide_eq_false (by omega)
      have en : n = 8 * (r + 1) := by omega
      rw [hd, show zf false = 0 from rfl, if_pos rfl] at g5
      rw [hd, show zf false = 0 from rfl] at hlen
      refine ⟨_, ?_, hlen, ?_⟩
      · rw [en]; exact g5
      · rw [rget_other (by omega), rget_other (by omega)]; exact z0
    · have hd : decide (((8 * (r + 1) : Nat) : Int) < (n : Int)) = true := decide_eq_true (by omega)
      rw [hd, show zf true = 1 from rfl, if_neg (by decide)] at g5
      rw [hd, show zf true = 1 from rfl] at hlen
      obtain ⟨r2, k1, k2, k3⟩ := rounds_go hX hn hn2 h1 h2 h3 h4 w0 g (r + 1) (rset (rset regs ((1 : Nat) : Int) ((8 * (r + 1) : Nat) : Int)) ((4 : Nat) : Int) 1) { m with words := zeroW w0 first (8 * (r + 1)), steps := m.steps + 11 } (by omega) (by omega) (by rw [hlen]; exact hl) h0
        ((rget_other (by omega)).trans ((rget_other (by omega)).trans z0)) ((rget_other (by omega)).trans y1) ((rget_other (by omega)).trans ((rget_other (by omega)).trans z2)) ((rget_other (by omega)).trans y3) rfl
      refine ⟨r2, ?_, k2.trans hlen, k3⟩
      have k4 := g5.trans k1
      rw [show m.steps + 11 * (g + 1) = m.steps + 11 + 11 * g by omega]
      exact k4
theorem chunk_go (hX : CxOk X) {a b : Pos} {n : Nat} {first : Int} {regs : List Int} {m : Mach} (h : ChunkAt X.F.blocks a first n b) (h8 : n % 8 = 0) (hn0 : 0 < n) (hn : n ≤ 4096) (hl : (regs.length : Int) = X.F.regs) (h0 : m.fin = 0) (hz : rget regs ((0 : Nat) : Int) = 0) :
    ∃ regs', Goes X.cl X.s X.F a regs m b regs' { m with words := zeroW m.words first n, steps := m.steps + (4 + 11 * (n / 8)) } ∧ regs'.length = regs.length ∧ rget regs' ((0 : Nat) : Int) = 0 := by
  obtain ⟨i1, i2, i3, l, h, e1, i4, i5, i6, e2, rfl⟩ := h
  have hreg := (i6.reg hX rfl).2
  have hl4 : 4 < regs.length := by have : ((4 : Nat) : Int) < X.F.regs := hreg; omega
  have g1 := goes_ins (C := X.cl) (s := X.s) (f := X.F) (regs := regs) (r' := rset regs ((1 : Nat) : Int) 0) (m := m) (m' := { m with steps := m.steps + 1 }) i1 (fun _ => rfl) h0 rfl
  have g2 := goes_ins (C := X.cl) (s := X.s) (f := X.F) (regs := rset regs ((1 : Nat) : Int) 0) (r' := rset (rset regs ((1 : Nat) : Int) 0) ((2 : Nat) : Int) 8) (m := { m with steps := m.steps + 1 }) (m' := { m with steps := m.steps + 2 }) i2 (fun _ => rfl) h0 rfl
  have g3 := goes_ins (C := X.cl) (s := X.s) (f := X.F) (regs := rset (rset regs ((1 : Nat) : Int) 0) ((2 : Nat) : Int) 8) (r' := rset (rset (rset regs ((1 : Nat) : Int) 0) ((2 : Nat) : Int) 8) ((3 : Nat) : Int) (n : Int)) (m := { m with steps := m.steps + 2 }) (m' := { m with steps := m.steps + 3 }) i3 (fun _ => rfl) h0 rfl
  have g4 := goes_jump (C := X.cl) (s := X.s) (f := X.F) (regs := rset (rset (rset regs ((1 : Nat) : Int) 0) ((2 : Nat) : Int) 8) ((3 : Nat) : Int) (n : Int)) (m := { m with steps := m.steps + 3 }) e1
  have hlen : ∀ x y z : Int, (rset (rset (rset regs ((1 : Nat) : Int) x) ((2 : Nat) : Int) y) ((3 : Nat) : Int) z).length = regs.length := fun x y z => by unfold rset; rw [List.length_set, List.length_set, List.length_set]
  have l1 : ∀ x : Int, (rset regs ((1 : Nat) : Int) x).length = regs.length := fun x => by unfold rset; rw [List.length_set]
  have l2 : ∀ x y : Int, (rset (rset regs ((1 : Nat) : Int) x) ((2 : Nat) : Int) y).length = regs.length := fun x y => by unfold rset; rw [List.length_set, List.length_set]
  obtain ⟨r2, k1, k2, k3⟩ := rounds_go hX (q := n / 8) (by omega) hn i4 i5 i6 e2 m.words (n / 8) 0 (rset (rset (rset regs ((1 : Nat) : Int) 0) ((2 : Nat) : Int) 8) ((3 : Nat) : Int) (n : Int)) { m with steps := m.steps + 4 } (by omega) (by omega) (by rw [hlen]; exact hl) h0
    ((rget_other (by omega)).trans ((rget_other (by omega)).trans ((rget_other (by omega)).trans hz))) ((rget_other (by omega)).trans ((rget_other (by omega)).trans (rget_same (by omega)))) ((rget_other (by omega)).trans (rget_same (by rw [l1]; omega))) (rget_same (by rw [l2]; omega)) rfl
  refine ⟨r2, ?_, k2.trans (hlen _ _ _), k3⟩
  have k4 := (((g1.trans g2).trans g3).trans g4).trans k1
  rw [show m.steps + (4 + 11 * (n / 8)) = m.steps + 4 + 11 * (n / 8) by omega]
  exact k4
theorem chunkN_ok {n : Nat} (h : 64 < n) : chunkN n % 8 = 0 ∧ 64 ≤ chunkN n ∧ chunkN n ≤ 4096 ∧ chunkN n ≤ n := by
  unfold chunkN
  omega
theorem noughtG_go (hX : CxOk X) : ∀ (g : Nat) (a b : Pos) (first : Int) (n : Nat) (regs : List Int) (m : Mach), n ≤ g → NoughtG X.F.blocks g a first n b → (regs.length : Int) = X.F.regs → m.fin = 0 → rget regs ((0 : Nat) : Int) = 0 →
    ∃ regs' k, k ≤ 2 * n ∧ Goes X.cl X.s X.F a regs m b regs' { m with words := zeroW m.words first n, steps := m.steps + k } ∧ regs'.length = regs.length
  | 0, a, b, first, n, regs, m, hg, h, hl, h0, hz => by
    rw [NoughtG] at h
    subst h
    obtain rfl : n = 0 := by omega
    exact ⟨regs, 0, by omega, Goes.refl _ _ _, rfl⟩
  | g + 1, a, b, first, n, regs, m, hg, h, hl, h0, hz => by
    rw [NoughtG] at h
    by_cases hn : 64 < n
    · rw [if_pos hn] at h
      obtain ⟨a1, h1, h2⟩ := h
      obtain ⟨c1, c2, c3, c4⟩ := chunkN_ok hn
      obtain ⟨r1, k1, k2, k3⟩ := chunk_go hX h1 c1 (by omega) c3 hl h0 hz
      obtain ⟨r2, k, j1, j2, j3⟩ := noughtG_go hX g a1 b (first + chunkN n) (n - chunkN n) r1 { m with words := zeroW m.words first (chunkN n), steps := m.steps + (4 + 11 * (chunkN n / 8)) } (by omega) h2 (by rw [k2]; exact hl) h0 k3
      refine ⟨r2, 4 + 11 * (chunkN n / 8) + k, by omega, ?_, j3.trans k2⟩
      have := k1.trans j2
      dsimp only at this
      rw [zeroW_app, show chunkN n + (n - chunkN n) = n by omega] at this
      rw [← Nat.add_assoc m.steps]
      exact this
    · rw [if_neg hn] at h
      obtain ⟨h1, rfl⟩ := h
      exact ⟨regs, n, by omega, zeros_go h0 hz n h1, rfl⟩
theorem nought_go (hX : CxOk X) {a b : Pos} {first : Int} {n : Nat} {regs : List Int} {m : Mach} (h : NoughtAt X.F.blocks a first n b) (hl : (regs.length : Int) = X.F.regs) (h0 : m.fin = 0) :
    ∃ regs' k, k ≤ 2 * n + 1 ∧ Goes X.cl X.s X.F a regs m b regs' { m with words := zeroW m.words first n, steps := m.steps + k } ∧ regs'.length = regs.length := by
  unfold NoughtAt at h
  by_cases hn : n = 0
  · rw [if_pos hn] at h
    subst h; subst hn
    exact ⟨regs, 0, by omega, Goes.refl _ _ _, rfl⟩
  · rw [if_neg hn] at h
    obtain ⟨h1, h2⟩ := h
    have hreg := (h1.reg hX rfl).2
    have hl0 : 0 < regs.length := by have : ((0 : Nat) : Int) < X.F.regs := hreg; omega
    have g1 := goes_ins (C := X.cl) (s := X.s) (f := X.F) (regs := regs) (r' := rset regs ((0 : Nat) : Int) 0) (m := m) (m' := { m with steps := m.steps + 1 }) h1 (fun _ => rfl) h0 rfl
    have l1 : (rset regs ((0 : Nat) : Int) 0).length = regs.length := by unfold rset; rw [List.length_set]
    obtain ⟨r2, k, j1, j2, j3⟩ := noughtG_go hX n (nx a) b first n (rset regs ((0 : Nat) : Int) 0) { m with steps := m.steps + 1 } (Nat.le_refl _) h2 (by rw [l1]; exact hl) h0 (rget_same hl0)
    refine ⟨r2, 1 + k, by omega, ?_, j3.trans l1⟩
    rw [← Nat.add_assoc m.steps]
    exact g1.trans j2
end
def FnAt (C : Core) (G : List Block) (fn : CFn) (last : Bool) : Prop := ∃ a1 a2 : Pos, (if last = true then a1 = (0, 0) else NoughtAt G (0, 0) (fn.first + fn.params) (fn.slots - fn.params).toNat a1) ∧ CS.codeL C fn.word G fn.body a1 a2 ∧ LeaveAt C fn.word G a2
structure FnOk (C : Core) (i : Nat) (fn : CFn) : Prop where
  p0 : 0 ≤ fn.params
  p6 : fn.params ≤ 6
  ps : fn.params ≤ fn.slots
  f0 : 0 ≤ fn.first
  f1 : fn.first + fn.slots ≤ C.words
  body : CS.okL C i fn.word fn.body
structure CoreOk (C : Core) : Prop where
  w0 : 0 ≤ C.words
  ne : C.funcs ≠ []
  fn : ∀ (i : Nat) (fn : CFn), C.funcs[i]? = some fn → FnOk C i fn
  last : ∀ fn, C.funcs[C.funcs.length - 1]? = some fn → fn.word = false ∧ fn.params = 0
structure Built (C : Core) (B : Blocks) (M : Nat) : Prop where
  words : B.words = (M : Int)
  wm : C.words ≤ M
  told : ∀ fn ∈ C.funcs, fn.word = true → C.words < M
  len : B.funcs.length = C.funcs.length
  fn : ∀ (i : Nat) (fn : CFn), C.funcs[i]? = some fn → ∃ F, B.funcs[i]? = some F ∧ FnAt C F.blocks fn (i + 1 == C.funcs.length) ∧ 0 ≤ F.regs ∧ ∀ x ∈ F.blocks, ∀ t ∈ x.ins, setsOp t.op = true → 0 ≤ t.d ∧ t.d < F.regs
theorem zeroW_w {w : List Int} (h : allR w) (a : Int) : ∀ n, allR (zeroW w a n)
  | 0 => h
  | n + 1 => rset_w (zeroW_w h a n) _ ⟨by decide, by decide⟩
theorem argsW_w {w : List Int} (h : allR w) (a : Int) {l : List Int} (hl : allR l) : ∀ n, allR (argsW w a l n)
  | 0 => h
  | n + 1 => rset_w (argsW_w h a hl n) _ (rget_w hl _)
theorem parts_fn {l : List CFn} {fn : CFn} (h : fn ∈ l) : CS.partsL fn.body ≤ (l.map fun f => CS.partsL f.body).sum := by
  induction l with
  | nil => cases h
  | cons a l ih =>
    rw [List.map_cons, List.sum_cons]
    rcases List.mem_cons.1 h with rfl | h
    · omega
    · have := ih h; omega
def Core.k (C : Core) : Nat := 8 * (C.parts + C.words.toNat + 1)
def mkX (C : Core) (B : Blocks) (s : ByteArray) (fuel : Int) (M n g : Nat) (F : BFunc) : Cx := ⟨C, s, F, ⟨fun fu => mfun B s fu n, fun fu i m => mfun_steps n i m⟩, cfun C s fuel n, g, C.words.toNat, M, C.k⟩
section
variable {C : Core} {B : Blocks} {s : ByteArray} {fuel : Int} {M : Nat}
theorem call_words {W : Nat} {cw w0 : List Int} {first params slots : Int} {args : List Int} (hc : cw.length = W) (hw : ∀ j : Nat, j < W → w0[j]? = cw[j]?) (hm : W ≤ w0.length) (f0 : 0 ≤ first) (p0 : 0 ≤ params) (ps : params ≤ slots) (f1 : first + slots ≤ (W : Int)) (hn : (args.length : Int) = params) :
    ∀ j : Nat, j < W → (zeroW (argsW w0 first args args.length) (first + params) (slots - params).toNat)[j]? = (argsW (zeroW cw first slots.toNat) first args args.length)[j]? := fun j hj => by
  rw [zeroW_get (by omega), argsW_get f0, argsW_get f0, zeroW_get f0, argsW_len, zeroW_len]
  have := hw j hj
  by_cases h1 : first ≤ j ∧ (j : Int) < first + args.length
  · rw [if_neg (by omega), if_pos ⟨h1.1, h1.2, by omega⟩, if_pos ⟨h1.1, h1.2, by omega⟩]
  · by_cases h2 : first + params ≤ j ∧ (j : Int) < first + slots
    · rw [if_pos (by omega), if_neg (by omega), if_pos (by omega)]
    · rw [if_neg (by omega), if_neg (by omega), if_neg (by omega), if_neg (by omega)]
      exact this
theorem body_end {X : Cx} {w : Bool} (hX : CxOk X) (hM : w = true → X.W < X.M) {k : Nat} {a a2 : Pos} {regs : List Int} {c p : CM} {m : Mach} (h : StOk X w k a a2 regs c m p) (hl : (regs.length : Int) = X.F.regs) (hlv : LeaveAt X.C w X.F.blocks a2) :
    (p.fin = 0 → ∃ m', Stops X.cl X.s X.F a regs m m' ∧ RelM X.W X.M p.m m' ∧ (w = true → rget m'.words X.C.words = if p.over = true then p.val else 0) ∧ (p.over = true → isW p.val) ∧ m'.steps + X.K * c.m.steps ≤ m.steps + k + 3 + X.K * p.m.steps) ∧
    (p.fin ≠ 0 → p.fin ≠ 5 → ∃ m', Stops X.cl X.s X.F a regs m m' ∧ m'.fin = p.fin ∧ m'.out = p.m.out ∧ m'.steps + X.K * c.m.steps ≤ m.steps + k + 3 + X.K * p.m.steps) := by
  refine ⟨fun h0 => ?_, fun h0 h5 => ?_⟩
  · cases ho : p.over with
    | false =>
      obtain ⟨r1, m1, g1, g2, g3, g4⟩ := h.go h0 ho
      obtain ⟨m2, j1, j2, j3, j4⟩ := leave_stops hX hlv (by rw [g3]; exact hl) g2 hM
      exact ⟨m2, g1.stops j1, j2, fun e => by rw [if_neg (by decide)]; exact j3 e, fun e => (by cases e), by omega⟩
    | true =>
      obtain ⟨v, m2, j1, j2, j3, j4⟩ := h.ret h0 ho
      exact ⟨m2, j1, j2, fun e => by rw [if_pos rfl]; exact j3 e, fun _ => v, by omega⟩
  · obtain ⟨m2, j1, j2, j3, j4⟩ := h.stop h0 h5
    exact ⟨m2, j1, j2, j3, by omega⟩
theorem simF (hC : CoreOk C) (hB : Built C B M) : ∀ (n : Nat), n + 1 ≤ C.funcs.length → ∀ (g : Nat) (fn : CFn) (args : List Int) (c : CM) (m0 m : Mach) (F0 : BFunc), g < n → C.funcs[g]? = some fn → (args.length : Int) = fn.params → (∀ x ∈ args, isW x) → c.over = false → RelM C.words.toNat M c.m m0 →
    m.words = argsW m0.words fn.first args args.length → m.out = m0.out → m.read = m0.read → m.fin = 0 → CallOut (mkX C B s fuel M n 0 F0) g fn c m (cfun C s fuel n g args c)
  | 0, _, g, _, _, _, _, _, _, h, _, _, _, _, _, _, _, _, _ => absurd h (by omega)
  | n + 1, hn, g, fn, args, c, m0, m, F0, hg, hfn, hlen, hwa, ho, hr, hw, hout, hread, hfin => by
    obtain ⟨F, hF, hat, hr0, hregs⟩ := hB.fn g fn hfn
    have hfo := hC.fn g fn hfn
    have hnl : (g + 1 == C.funcs.length) = false := by rw [beq_eq_false_iff_ne]; omega
    rw [hnl] at hat
    obtain ⟨a1, a2, h1, h2, h3⟩ := hat
    rw [if_neg (by decide)] at h1
    have hX : CxOk (mkX C B s fuel M n g F) := ⟨by show C.words = ((C.words.toNat : Nat) : Int); have := hC.w0; omega, by show C.words.toNat ≤ M; have := hB.wm; omega, fun fn hfn hw => by show C.words.toNat < M; have := hB.told fn hfn hw; have := hC.w0; omega, hregs,
      fun g' fn' args' c' m0' m' hg' hfn' hl' hw' ho' hr' hm' e1 e2 e3 => have h := simF hC hB n (by omega) g' fn' args' c' m0' m' F (by have : g' < g := hg'; omega) hfn' hl' hw' ho' hr' hm' e1 e2 e3; ⟨h.le, h.go, h.stop⟩⟩
    have hM : fn.word = true → C.words.toNat < M := fun e => by have := hB.told fn (List.mem_of_getElem? hfn) e; have := hC.w0; omega
    have hmf : ∀ fu : Nat, mfun B s fu (n + 1) g m = xAt (fun i m => mfun B s fu n i m) s fu F (0, 0) (List.replicate F.regs.toNat 0) m := fun fu => by
      show (match B.funcs[((g : Nat) : Int).toNat]? with
        | none => m
        | some f => mblk (mfun B s fu n) s fu f (((fu : Nat) : Int).toNat + 1) 0 (List.replicate f.regs.toNat 0) m) = _
      rw [Int.toNat_natCast, hF]
      exact mblk_x (i := 0) (fun i m => mfun_steps n i m)
    have hrl : (((List.replicate F.regs.toNat (0 : Int)).length : Nat) : Int) = F.regs := by rw [List.length_replicate]; omega
    have hpt := parts_fn (List.mem_of_getElem? hfn)
    have hKk : C.k = 8 * (C.parts + C.words.toNat + 1) := rfl
    have hCp : C.parts = (C.funcs.map fun f => CS.partsL f.body).sum := rfl
    have f1 := hfo.f1
    have hw0 := hC.w0
    have p0 := hfo.p0
    have ps := hfo.ps
    have f0 := hfo.f0
    show CallOut _ g fn c m (bif (tickC fuel c).1 then _ else _)
    unfold tickC mstep
    cases ht : decide ((c.m.steps : Int) ≥ fuel) with
    | true =>
      simp only [cond_true, cond_false]
      exact ⟨Nat.le_refl _, fun h => (by cases h), fun _ h => absurd rfl h⟩
    | false =>
      simp only [cond_true, cond_false]
      rw [Int.toNat_natCast, hfn]
      dsimp only
      obtain ⟨r1, k, hk, g1, g2⟩ := nought_go (regs := List.replicate F.regs.toNat 0) (m := m) hX h1 hrl hfin
      generalize hce : (c.put { c.m with steps := c.m.steps + 1 }).put { (c.put { c.m with steps := c.m.steps + 1 }).m with words := argsW (zeroW c.m.words fn.first fn.slots.toNat) fn.first args args.length } = c1
      have hcs : c1.m.steps = c.m.steps + 1 := by rw [← hce]; rfl
      have hm0 := hr.len
      have hWM : C.words.toNat ≤ M := by have := hB.wm; omega
      have hr1 : RelM C.words.toNat M c1.m { m with words := zeroW m.words (fn.first + fn.params) (fn.slots - fn.params).toNat, steps := m.steps + k } := by
        rw [← hce]
        refine ⟨?_, ?_, fun j hj => ?_, argsW_w (zeroW_w hr.ok _ _) _ hwa _, hout.trans hr.out, hread.trans hr.read, hfin, hr.cfin⟩
        · show (argsW (zeroW c.m.words fn.first fn.slots.toNat) fn.first args args.length).length = _
          rw [argsW_len, zeroW_len]; exact hr.clen
        · show (zeroW m.words (fn.first + fn.params) (fn.slots - fn.params).toNat).length = _
          rw [zeroW_len, hw, argsW_len]; exact hm0
        · show (zeroW m.words (fn.first + fn.params) (fn.slots - fn.params).toNat)[j]? = _
          rw [hw]
          exact call_words hr.clen hr.w (by omega) f0 p0 ps (by omega) hlen j hj
      have ho1 : c1.over = false := by rw [← hce]; exact ho
      have k1 := simSL (w := fn.word) (fuel := fuel) fn.body (fun st _ => simS hX hM st.parts st (Nat.le_refl _)) a1 a2 r1 c1 { m with words := zeroW m.words (fn.first + fn.params) (fn.slots - fn.params).toNat, steps := m.steps + k } h2 hfo.body (by show _ ≤ C.k; omega) (by rw [g2]; exact hrl) ho1 hr1
      have le1 := k1.le
      obtain ⟨b1, b2⟩ := body_end hX hM k1 (by rw [g2]; exact hrl) h3
      generalize hpe : CS.runL (mkX C B s fuel M n g F).call (mkX C B s fuel M n g F).s fuel fn.body c1 = p at le1 b1 b2
      have hpe2 : CS.runL (cfun C s fuel n) s fuel fn.body c1 = p := hpe
      rw [hpe2]
      have hmul : C.k * (c.m.steps + 1) = C.k * c.m.steps + C.k := Nat.mul_succ _ _
      rw [← hcs] at hmul
      have hq : ∀ (q : Int × CM), q = (bif p.over then (p.val, { p with over := false }) else (0, p)) → q.2.m = p.m ∧ q.2.over = false ∧ q.1 = if p.over = true then p.val else 0 := fun q hq => by
        subst hq
        cases hov : p.over with
        | true => exact ⟨rfl, rfl, rfl⟩
        | false => exact ⟨rfl, hov, rfl⟩
      obtain ⟨q1, q2, q3⟩ := hq _ rfl
      generalize (bif p.over then (p.val, { p with over := false }) else (0, p)) = q at q1 q2 q3
      have qf : q.2.fin = p.fin := congrArg Mach.fin q1
      refine ⟨by rw [q1]; omega, fun h => ?_, fun h h5 => ?_⟩
      · obtain ⟨m', s1, s2, s3, s4, s5⟩ := b1 (by rw [← qf]; exact h)
        dsimp only at s5
        refine ⟨q2, ?_, m', fun fu hfu => (hmf fu).trans ((g1.stops s1).eq fu hfu), (g1.stops s1).le, by rw [q1]; exact s2, fun e => by rw [q3]; exact s3 e, ?_⟩
        · rw [q3]
          cases hov : p.over with
          | true => rw [if_pos rfl]; exact s4 hov
          | false => rw [if_neg (by decide)]; exact ⟨by decide, by decide⟩
        · rw [q1]
          show m'.steps + C.k * c.m.steps ≤ m.steps + C.k * p.m.steps
          have s5' : m'.steps + C.k * c1.m.steps ≤ m.steps + k + 8 * CS.partsL fn.body + 3 + C.k * p.m.steps := s5
          clear b1 b2 k1 s5 s3 s4 s2 s1
          omega
      · obtain ⟨m', s1, s2, s3, s4⟩ := b2 (by rw [← qf]; exact h) (by rw [← qf]; exact h5)
        dsimp only at s4
        refine ⟨m', fun fu hfu => (hmf fu).trans ((g1.stops s1).eq fu hfu), (g1.stops s1).le, by rw [qf]; exact s2, by rw [q1]; exact s3, ?_⟩
        rw [q1]
        show m'.steps + C.k * c.m.steps ≤ m.steps + C.k * p.m.steps
        have s5' : m'.steps + C.k * c1.m.steps ≤ m.steps + k + 8 * CS.partsL fn.body + 3 + C.k * p.m.steps := s4
        clear b1 b2 k1 s4 s3 s2 s1
        omega
theorem built_run (hC : CoreOk C) (hB : Built C B M) {r : Mach} (hr : crun C s fuel = r) (h5 : r.fin ≠ 5) (fu : Nat) (hfu : (r.steps + 1) * C.k ≤ fu) : (mrun B s fu).fin = r.fin ∧ (mrun B s fu).out = r.out := by
  have hne : 0 < C.funcs.length := List.length_pos_iff.2 hC.ne
  obtain ⟨fn, hfn⟩ := get_of_lt (l := C.funcs) (k := C.funcs.length - 1) (by omega)
  obtain ⟨F, hF, hat, hr0, hregs⟩ := hB.fn _ fn hfn
  have hfo := hC.fn _ fn hfn
  obtain ⟨hwd, hpar⟩ := hC.last fn hfn
  have hnl : (C.funcs.length - 1 + 1 == C.funcs.length) = true := by rw [beq_iff_eq]; omega
  rw [hnl] at hat
  obtain ⟨a1, a2, h1, h2, h3⟩ := hat
  rw [if_pos rfl] at h1
  subst h1
  have hX : CxOk (mkX C B s fuel M (C.funcs.length - 1) (C.funcs.length - 1) F) := ⟨by show C.words = ((C.words.toNat : Nat) : Int); have := hC.w0; omega, by show C.words.toNat ≤ M; have := hB.wm; omega, fun fn hfn hw => by show C.words.toNat < M; have := hB.told fn hfn hw; have := hC.w0; omega, hregs,
    fun g' fn' args' c' m0' m' hg' hfn' hl' hw' ho' hr' hm' e1 e2 e3 => have h := simF hC hB (C.funcs.length - 1) (by omega) g' fn' args' c' m0' m' F hg' hfn' hl' hw' ho' hr' hm' e1 e2 e3; ⟨h.le, h.go, h.stop⟩⟩
  have hrl : (((List.replicate F.regs.toNat (0 : Int)).length : Nat) : Int) = F.regs := by rw [List.length_replicate]; omega
  have hpt := parts_fn (List.mem_of_getElem? hfn)
  have hKk : C.k = 8 * (C.parts + C.words.toNat + 1) := rfl
  have hCp : C.parts = (C.funcs.map fun f => CS.partsL f.body).sum := rfl
  have hw0 := hC.w0
  have hBw := hB.words
  have hWM : C.words.toNat ≤ M := by have := hB.wm; omega
  have hrel : RelM C.words.toNat M (c0 C).m (m0 B) := by
    refine ⟨by show (List.replicate C.words.toNat (0 : Int)).length = _; rw [List.length_replicate], by show (List.replicate B.words.toNat (0 : Int)).length = _; rw [List.length_replicate]; omega, fun j hj => ?_, allR_rep _, rfl, rfl, rfl, rfl⟩
    show (List.replicate B.words.toNat (0 : Int))[j]? = (List.replicate C.words.toNat (0 : Int))[j]?
    rw [List.getElem?_replicate, List.getElem?_replicate, if_pos (by omega), if_pos (by omega)]
  have hM : fn.word = true → C.words.toNat < M := fun e => by rw [hwd] at e; cases e
  have k1 := simSL (w := fn.word) (fuel := fuel) fn.body (fun st _ => simS hX hM st.parts st (Nat.le_refl _)) (0, 0) a2 (List.replicate F.regs.toNat 0) (c0 C) (m0 B) h2 hfo.body (by show _ ≤ C.k; omega) hrl rfl hrel
  obtain ⟨b1, b2⟩ := body_end hX hM k1 hrl h3
  unfold crun at hr
  rw [hfn] at hr
  dsimp only at hr
  generalize hpe : CS.runL (mkX C B s fuel M (C.funcs.length - 1) (C.funcs.length - 1) F).call (mkX C B s fuel M (C.funcs.length - 1) (C.funcs.length - 1) F).s fuel fn.body (c0 C) = p at b1 b2
  have hpe2 : CS.runL (cfun C s fuel (C.funcs.length - 1)) s fuel fn.body (c0 C) = p := hpe
  rw [hpe2] at hr
  have hst : r.steps = p.m.steps ∧ r.out = p.m.out := by
    rw [← hr]
    cases p.m.fin == 0 <;> exact ⟨rfl, rfl⟩
  have hmul : (r.steps + 1) * C.k = C.k * p.m.steps + C.k := by rw [hst.1, Nat.add_mul, Nat.one_mul, Nat.mul_comm]
  have hmr : mrun B s fu = (bif (xAt (fun i m => mfun B s fu (C.funcs.length - 1) i m) s fu F (0, 0) (List.replicate F.regs.toNat 0) (m0 B)).fin == 0 then { xAt (fun i m => mfun B s fu (C.funcs.length - 1) i m) s fu F (0, 0) (List.replicate F.regs.toNat 0) (m0 B) with fin := 1 } else xAt (fun i m => mfun B s fu (C.funcs.length - 1) i m) s fu F (0, 0) (List.replicate F.regs.toNat 0) (m0 B)) := by
    have e : mfun B s fu B.funcs.length ((B.funcs.length : Int) - 1) (m0 B) = xAt (fun i m => mfun B s fu (C.funcs.length - 1) i m) s fu F (0, 0) (List.replicate F.regs.toNat 0) (m0 B) := by
      obtain ⟨n, hn⟩ : ∃ n, C.funcs.length = n + 1 := ⟨C.funcs.length - 1, by omega⟩
      rw [hB.len, hn]
      rw [hn] at hF
      show (match B.funcs[(((n + 1 : Nat) : Int) - 1).toNat]? with
        | none => m0 B
        | some f => mblk (mfun B s fu n) s fu f (((fu : Nat) : Int).toNat + 1) 0 (List.replicate f.regs.toNat 0) (m0 B)) = _
      rw [show (((n + 1 : Nat) : Int) - 1).toNat = n + 1 - 1 by omega, hF]
      exact mblk_x (i := 0) (fun i m => mfun_steps n i m)
    unfold mrun
    have hf0 : fuel0 (fu : Int) = (fu : Int) := by unfold fuel0; rw [decide_eq_false (by omega)]; rfl
    rw [hf0, e]
  have hz : (m0 B).steps = 0 := rfl
  have hc0 : (c0 C).m.steps = 0 := rfl
  by_cases hp : p.fin = 0
  · obtain ⟨m', s1, s2, s3, s4, s5⟩ := b1 hp
    have s5' : m'.steps + C.k * (c0 C).m.steps ≤ (m0 B).steps + 8 * CS.partsL fn.body + 3 + C.k * p.m.steps := s5
    rw [hc0, hz, Nat.mul_zero] at s5'
    have hle : m'.steps ≤ fu := by
      clear b1 b2 k1 s5 s4 s3 s2 s1 hmr
      omega
    have := s1.eq fu hle
    have e2 : xAt (fun i m => mfun B s fu (C.funcs.length - 1) i m) s fu F (0, 0) (List.replicate F.regs.toNat 0) (m0 B) = m' := this
    have hrf : r.fin = 1 := by
      have hp' : p.m.fin = 0 := hp
      rw [← hr, hp']; rfl
    rw [hmr, e2, s2.fin, hst.2, hrf]
    exact ⟨rfl, s2.out⟩
  · have hrp : r = p.m := by
      have hp' : p.m.fin ≠ 0 := hp
      rw [← hr, show (p.m.fin == 0) = false by simpa using hp']; rfl
    have h5' : p.fin ≠ 5 := by show p.m.fin ≠ 5; rw [← hrp]; exact h5
    obtain ⟨m', s1, s2, s3, s4⟩ := b2 hp h5'
    have s5' : m'.steps + C.k * (c0 C).m.steps ≤ (m0 B).steps + 8 * CS.partsL fn.body + 3 + C.k * p.m.steps := s4
    rw [hc0, hz, Nat.mul_zero] at s5'
    have hle : m'.steps ≤ fu := by
      clear b1 b2 k1 s4 s3 s2 s1 hmr
      omega
    have e2 : xAt (fun i m => mfun B s fu (C.funcs.length - 1) i m) s fu F (0, 0) (List.replicate F.regs.toNat 0) (m0 B) = m' := s1.eq fu hle
    rw [hmr, e2, show (m'.fin == 0) = false by rw [s2]; simpa using hp, hrp]
    exact ⟨s2, s3⟩
end
def Bd.at_ (b : Bd) : Option Block := b.blocks[b.now]?
def Bd.il (b : Bd) : Nat := ((b.blocks[b.now]?).map fun x => x.ins.length).getD 0
abbrev Bd.pos (b : Bd) : Pos := (b.now, b.il)
def Pl (b : Bd) : Prop := ∃ x, b.blocks[b.now]? = some x ∧ x.fin = 3 ∧ x.v = 0 ∧ x.to = 0 ∧ x.els = 0
structure Fr (b b' : Bd) : Prop where
  len : b.blocks.length ≤ b'.blocks.length
  now : b'.now = b.now ∨ b.blocks.length ≤ b'.now
  old : ∀ j x, j ≠ b.now → b.blocks[j]? = some x → b'.blocks[j]? = some x
  cur : ∀ x, b.blocks[b.now]? = some x → ∃ y, b'.blocks[b.now]? = some y ∧ x.ins <+: y.ins
def Fit (b : Bd) (G : List Block) (P : Nat → Prop) : Prop := ∀ j x, b.blocks[j]? = some x → ∃ y, G[j]? = some y ∧ x.ins <+: y.ins ∧ (¬ P j → y = x)
structure Op (P : Nat → Prop) (b b' : Bd) : Prop where
  now : P b'.now
  new : ∀ j, b.blocks.length ≤ j → j < b'.blocks.length → j ≠ b'.now → ¬ P j
  cur : b'.now ≠ b.now → ¬ P b.now
structure Codes (R : List Block → Pos → Pos → Prop) (b b' : Bd) : Prop where
  fr : Fr b b'
  pl : Pl b'
  code : ∀ G P, Fit b' G P → Op P b b' → R G b.pos b'.pos
theorem Pl.lt {b : Bd} (h : Pl b) : b.now < b.blocks.length := by
  obtain ⟨x, h, _⟩ := h
  exact (List.getElem?_eq_some_iff.1 h).1
theorem Fr.refl (b : Bd) : Fr b b := ⟨Nat.le_refl _, .inl rfl, fun _ _ _ h => h, fun x h => ⟨x, h, List.prefix_refl _⟩⟩
theorem Fr.trans {b b1 b2 : Bd} (h1 : Fr b b1) (h2 : Fr b1 b2) (hb : b.now < b.blocks.length) : Fr b b2 := by
  refine ⟨Nat.le_trans h1.len h2.len, ?_, fun j x hj hx => ?_, fun x hx => ?_⟩
  · rcases h2.now with e | e
    · rw [e]; exact h1.now
    · exact .inr (Nat.le_trans h1.len e)
  · have hjl := (List.getElem?_eq_some_iff.1 hx).1
    refine h2.old j x (fun e => ?_) (h1.old j x hj hx)
    rcases h1.now with e2 | e2
    · exact hj (e.trans e2)
    · omega
  · obtain ⟨y, hy, hp⟩ := h1.cur x hx
    by_cases e : b.now = b1.now
    · obtain ⟨z, hz, hq⟩ := h2.cur y (by rw [← e]; exact hy)
      exact ⟨z, by rw [e]; exact hz, hp.trans hq⟩
    · exact ⟨y, h2.old _ y e hy, hp⟩
theorem Fit.back {b1 b2 : Bd} {G : List Block} {P : Nat → Prop} (h : Fit b2 G P) (hf : Fr b1 b2) : Fit b1 G (fun j => j = b1.now ∨ P j) := fun j x hx => by
  by_cases e : j = b1.now
  · subst e
    obtain ⟨y, hy, hp⟩ := hf.cur x hx
    obtain ⟨z, hz, hq, _⟩ := h _ y hy
    exact ⟨z, hz, hp.trans hq, fun hn => absurd (.inl rfl) hn⟩
  · obtain ⟨z, hz, hq, hr⟩ := h j x (hf.old j x e hx)
    exact ⟨z, hz, hq, fun hn => hr fun hp => hn (.inr hp)⟩
theorem Codes.seq {R1 R2 : List Block → Pos → Pos → Prop} {b b1 b2 : Bd} (hb : b.now < b.blocks.length) (h1 : Codes R1 b b1) (h2 : Codes R2 b1 b2) : Codes (fun G a c => ∃ m, R1 G a m ∧ R2 G m c) b b2 := by
  refine ⟨h1.fr.trans h2.fr hb, h2.pl, fun G P hF hO => ?_⟩
  have l1 := h1.pl.lt
  have n1 := h1.fr.now
  have n2 := h2.fr.now
  have k1 := h1.fr.len
  have k2 := h2.fr.len
  refine ⟨b1.pos, h1.code G _ (hF.back h2.fr) ⟨.inl rfl, fun j h1 h2 h3 hn => ?_, fun hne hn => ?_⟩, h2.code G P hF ⟨hO.now, fun j h1 h2 h3 => hO.new j (by omega) h2 h3, fun hne => ?_⟩⟩
  · rcases hn with hn | hn
    · exact h3 hn
    · exact hO.new j h1 (by omega) (fun e => by omega) hn
  · rcases hn with hn | hn
    · exact hne hn.symm
    · exact hO.cur (fun e => by omega) hn
  · rcases n1 with e | e
    · rw [e]; exact hO.cur (by omega)
    · exact hO.new _ e (by omega) (Ne.symm hne)
theorem Codes.mono {R R' : List Block → Pos → Pos → Prop} {b b' : Bd} (h : Codes R b b') (hR : ∀ G a c, R G a c → R' G a c) : Codes R' b b' := ⟨h.fr, h.pl, fun G P hF hO => hR G _ _ (h.code G P hF hO)⟩
theorem Codes.refl {b : Bd} (h : Pl b) : Codes (fun _ a c => c = a) b b := ⟨Fr.refl b, h, fun _ _ _ _ => rfl⟩
theorem upd_at {b : Bd} {g : Block → Block} {x : Block} (h : b.blocks[b.now]? = some x) : (b.upd g).blocks[b.now]? = some (g x) := by
  show (b.blocks.modify b.now g)[b.now]? = _
  rw [List.getElem?_modify, h]; simp
theorem upd_ne {b : Bd} {g : Block → Block} {j : Nat} (h : j ≠ b.now) : (b.upd g).blocks[j]? = b.blocks[j]? := by
  show (b.blocks.modify b.now g)[j]? = _
  rw [List.getElem?_modify]
  cases b.blocks[j]? with
  | none => rfl
  | some x => simp [Ne.symm h]
theorem upd_len (b : Bd) (g : Block → Block) : (b.upd g).blocks.length = b.blocks.length := List.length_modify ..
theorem il_of {b : Bd} {x : Block} (h : b.blocks[b.now]? = some x) : b.il = x.ins.length := by unfold Bd.il; rw [h]; rfl
theorem put_at {b : Bd} {x : Block} {t : Tac} (h : b.blocks[b.now]? = some x) : (b.put t).blocks[b.now]? = some (x.mid (x.ins ++ [t])) := upd_at h
theorem codes_put {b : Bd} (h : Pl b) (t : Tac) : Codes (fun G a c => InsAt G a t ∧ c = nx a) b (b.put t) := by
  obtain ⟨x, hx, h1⟩ := h
  refine ⟨⟨Nat.le_of_eq (upd_len b _).symm, .inl rfl, fun j y hj hy => (upd_ne hj).trans hy, fun y hy => ?_⟩, ⟨_, put_at hx, h1⟩, fun G P hF hO => ?_⟩
  · rw [hx] at hy; cases hy
    exact ⟨_, put_at hx, List.prefix_append _ _⟩
  · obtain ⟨y, hy, hp, _⟩ := hF _ _ (put_at hx)
    refine ⟨⟨y, hy, ?_⟩, ?_⟩
    · show y.ins[b.il]? = _
      rw [il_of hx]
      obtain ⟨l, hl⟩ := hp
      rw [← hl]
      show (x.ins ++ [t] ++ l)[x.ins.length]? = _
      rw [List.append_assoc, List.getElem?_append_right (Nat.le_refl _), Nat.sub_self]; rfl
    · show ((b.put t).now, (b.put t).il) = _
      rw [il_of (put_at hx)]
      show (b.now, (x.ins ++ [t]).length) = (b.now, b.il + 1)
      rw [il_of hx, List.length_append]; rfl
theorem opened_len (b : Bd) : b.opened.blocks.length = b.blocks.length + 1 := by simp [Bd.opened]
theorem opened_at (b : Bd) : b.opened.blocks[b.blocks.length]? = some blk0 := by
  show (b.blocks ++ [blk0])[_]? = _
  rw [List.getElem?_append_right (Nat.le_refl _), Nat.sub_self]; rfl
theorem opened_old {b : Bd} {j : Nat} (h : j < b.blocks.length) : b.opened.blocks[j]? = b.blocks[j]? := List.getElem?_append_left h
structure InsideOk (R : List Block → Pos → Pos → Prop) (b b' : Bd) (i to : Nat) : Prop where
  now : b'.now = b.now
  len : b.blocks.length ≤ b'.blocks.length
  old : ∀ j, j ≠ i → j < b.blocks.length → b'.blocks[j]? = b.blocks[j]?
  code : ∀ G P, Fit b' G P → ¬ P i → (∀ j, b.blocks.length ≤ j → j < b'.blocks.length → ¬ P j) → ∃ a, R G (i, 0) a ∧ EndAt G a 1 0 to 0
theorem inside_ok {R : List Block → Pos → Pos → Prop} {b : Bd} {i to : Nat} {f : Bd → Bd} (hi : b.blocks[i]? = some blk0) (hf : Codes R (b.go i) (f (b.go i))) : InsideOk R b (b.inside i to f) i to := by
  unfold Bd.inside
  generalize hbi : f (b.go i) = bi at hf
  obtain ⟨x, hx, e3, ev, et, ee⟩ := hf.pl
  have hlen : b.blocks.length ≤ bi.blocks.length := hf.fr.len
  have hnow : bi.now = i ∨ b.blocks.length ≤ bi.now := hf.fr.now
  have hblk : ((bi.jump to).go b.now).blocks = (bi.jump to).blocks := rfl
  have hjl : (bi.jump to).blocks.length = bi.blocks.length := upd_len bi _
  have hjat : (bi.jump to).blocks[bi.now]? = some { x with fin := 1, to := (to : Int) } := upd_at hx
  refine ⟨rfl, by rw [hblk, hjl]; exact hlen, fun j hj hjl2 => ?_, fun G P hF hP hN => ?_⟩
  · rw [hblk]
    refine (upd_ne (by omega)).trans ?_
    obtain ⟨y, hy⟩ := get_of_lt hjl2
    rw [hy]
    exact hf.fr.old j y hj hy
  · have hF' : Fit (bi.jump to) G P := hF
    have hnP : ¬ P bi.now := by
      rcases hnow with e | e
      · rw [e]; exact hP
      · exact hN _ e (by rw [hblk, hjl]; exact hf.pl.lt)
    have hil : (b.go i).il = 0 := by unfold Bd.il; rw [show (b.go i).blocks[(b.go i).now]? = some blk0 from hi]; rfl
    have hc := hf.code G (fun j => j = bi.now ∨ P j) (fun j y hy => ?_) ⟨.inl rfl, fun j h1 h2 h3 hn => ?_, fun hne hn => ?_⟩
    · refine ⟨bi.pos, ?_, ?_⟩
      · have e : (b.go i).pos = (i, 0) := by show (i, (b.go i).il) = _; rw [hil]
        rw [← e]; exact hc
      · obtain ⟨z, hz, _, hq⟩ := hF' _ _ hjat
        have hz2 := hq hnP
        subst hz2
        exact ⟨_, hz, (il_of hx).symm, rfl, ev, rfl, ee⟩
    · by_cases e : j = bi.now
      · subst e
        rw [hx] at hy; cases hy
        obtain ⟨z, hz, hp, _⟩ := hF' _ _ hjat
        exact ⟨z, hz, hp, fun hn => absurd (.inl rfl) hn⟩
      · obtain ⟨z, hz, hp, hq⟩ := hF' j y ((upd_ne e).trans hy)
        exact ⟨z, hz, hp, fun hn => hq fun h => hn (.inr h)⟩
    · rcases hn with hn | hn
      · exact h3 hn
      · exact hN j h1 (by rw [hblk, hjl]; exact h2) hn
    · rcases hn with hn | hn
      · exact hne hn.symm
      · exact hP hn
theorem fork_at {b : Bd} {v to els : Nat} {x : Block} (h : b.blocks[b.now]? = some x) : (b.fork v to els).blocks[b.now]? = some { x with fin := 2, v := (v : Int), to := (to : Int), els := (els : Int) } := upd_at h
theorem jump_at {b : Bd} {to : Nat} {x : Block} (h : b.blocks[b.now]? = some x) : (b.jump to).blocks[b.now]? = some { x with fin := 1, to := (to : Int) } := upd_at h
theorem codes_not {b : Bd} (h : Pl b) (d : Nat) : Codes (fun G a c => NotAt G a d c) b (b.not d) := by
  have h1 := codes_put h (iNum (d + 1) 0)
  have h2 := codes_put h1.pl (iBin 15 d d (d + 1))
  refine (h1.seq h.lt h2).mono fun G a c hm => ?_
  obtain ⟨m, ⟨i1, rfl⟩, i2, rfl⟩ := hm
  exact ⟨i1, i2, rfl⟩
theorem codes_truth {b : Bd} (h : Pl b) (e : CE) (d : Nat) : Codes (fun G a c => TruthAt G e a d c) b (b.truth e d) := by
  unfold Bd.truth
  cases he : e.flagged with
  | true =>
    simp only [cond_true]
    refine (Codes.refl h).mono fun G a c hm => ?_
    unfold TruthAt
    rw [he, if_pos rfl]; exact hm
  | false =>
    simp only [cond_false]
    have h1 := codes_not h d
    have h2 := codes_put h1.pl (iBin 15 d d (d + 1))
    refine (h1.seq h.lt h2).mono fun G a c hm => ?_
    obtain ⟨m, i1, i2, rfl⟩ := hm
    unfold TruthAt
    rw [he, if_neg (by decide)]
    exact ⟨m, i1, i2, rfl⟩
theorem codes_args {b : Bd} (h : Pl b) (first : Int) (d : Nat) : ∀ n : Nat, Codes (fun G a c => (∀ i, i < n → InsAt G (a.1, a.2 + i) (iStore (first + i) (d + i))) ∧ c = (a.1, a.2 + n)) b (b.args first d n)
  | 0 => (Codes.refl h).mono fun G a c hm => ⟨fun i hi => absurd hi (by omega), hm⟩
  | n + 1 => by
    have ih := codes_args h first d n
    have h2 := codes_put ih.pl (iStore (first + n) (d + n))
    refine (ih.seq h.lt h2).mono fun G a c hm => ?_
    obtain ⟨m, ⟨i1, rfl⟩, i2, rfl⟩ := hm
    refine ⟨fun i hi => ?_, rfl⟩
    by_cases e : i = n
    · subst e; exact i2
    · exact i1 i (by omega)
theorem codes_called {b : Bd} (h : Pl b) (C : Core) (g : Int) (n d : Nat) : Codes (fun G a c => CalledAt G a (C.first g) g n d c) b (b.called C g n d) := by
  have h1 := codes_args h (C.first g) d n
  have h2 := codes_put h1.pl (iCall g)
  refine (h1.seq h.lt h2).mono fun G a c hm => ?_
  obtain ⟨m, ⟨i1, rfl⟩, i2, rfl⟩ := hm
  exact ⟨i1, i2, rfl⟩
theorem codes_right {b : Bd} (h : Pl b) {k : Int} {d : Nat} {R : List Block → Pos → Pos → Prop} {f : Bd → Bd} (hf : ∀ b0, Pl b0 → Codes R b0 (f b0)) :
    Codes (fun G a c => ∃ (r h : Nat) (a2 : Pos), (if k = 8 then EndAt G a 2 d r h else EndAt G a 2 d h r) ∧ R G (r, 0) a2 ∧ EndAt G a2 1 0 h 0 ∧ c = (h, 0)) b (((b.either0 k d).inside b.blocks.length (b.blocks.length + 1) f).go (b.blocks.length + 1)) := by
  obtain ⟨x, hx, e3, ev, et, ee⟩ := h
  have hlt := (List.getElem?_eq_some_iff.1 hx).1
  generalize hb1 : b.either0 k d = b1
  have hnow : b1.now = b.now := by rw [← hb1]; unfold Bd.either0; cases k == 8 <;> rfl
  have hlen : b1.blocks.length = b.blocks.length + 2 := by
    rw [← hb1]; unfold Bd.either0
    cases k == 8
    · show (Bd.upd b.opened.opened _).blocks.length = _
      rw [upd_len, opened_len, opened_len]
    · show (Bd.upd b.opened.opened _).blocks.length = _
      rw [upd_len, opened_len, opened_len]
  have hne : ∀ j, j ≠ b.now → b1.blocks[j]? = b.opened.opened.blocks[j]? := fun j hj => by
    rw [← hb1]; unfold Bd.either0
    cases k == 8
    · exact upd_ne hj
    · exact upd_ne hj
  have hx2 : b.opened.opened.blocks[b.now]? = some x := by
    rw [opened_old (by rw [opened_len]; omega), opened_old hlt]; exact hx
  have hn : b1.blocks[b.blocks.length]? = some blk0 := by
    rw [hne _ (by omega), opened_old (by rw [opened_len]; omega)]
    exact opened_at b
  have hn1 : b1.blocks[b.blocks.length + 1]? = some blk0 := by
    rw [hne _ (by omega)]
    have := opened_at b.opened
    rwa [opened_len] at this
  have hcur : ∃ y : Block, b1.blocks[b.now]? = some y ∧ y.ins = x.ins ∧ (if k = 8 then (y.fin = 2 ∧ y.v = (d : Int) ∧ y.to = (b.blocks.length : Int) ∧ y.els = ((b.blocks.length + 1 : Nat) : Int)) else (y.fin = 2 ∧ y.v = (d : Int) ∧ y.to = ((b.blocks.length + 1 : Nat) : Int) ∧ y.els = (b.blocks.length : Int))) := by
    rw [← hb1]; unfold Bd.either0
    by_cases hk : k = 8
    · rw [show (k == 8) = true by simpa using hk]
      refine ⟨_, fork_at (b := b.opened.opened) hx2, rfl, ?_⟩
      rw [if_pos hk]
      exact ⟨rfl, rfl, rfl, rfl⟩
    · rw [show (k == 8) = false by simpa using hk]
      refine ⟨_, fork_at (b := b.opened.opened) hx2, rfl, ?_⟩
      rw [if_neg hk]
      exact ⟨rfl, rfl, rfl, rfl⟩
  obtain ⟨y, hy, hyi, hye⟩ := hcur
  have hin := inside_ok (to := b.blocks.length + 1) hn (hf (b1.go b.blocks.length) ⟨blk0, hn, rfl, rfl, rfl, rfl⟩)
  generalize b1.inside b.blocks.length (b.blocks.length + 1) f = b2 at hin ⊢
  have hl2 := hin.len
  have hgo : (b2.go (b.blocks.length + 1)).blocks = b2.blocks := rfl
  refine ⟨⟨by rw [hgo]; omega, .inr (by show b.blocks.length ≤ b.blocks.length + 1; omega), fun j z hj hz => ?_, fun z hz => ?_⟩, ⟨blk0, ?_, rfl, rfl, rfl, rfl⟩, fun G P hF hO => ?_⟩
  · have hjl := (List.getElem?_eq_some_iff.1 hz).1
    rw [hgo, hin.old j (by omega) (by omega), hne j hj, opened_old (by rw [opened_len]; omega), opened_old hjl]
    exact hz
  · rw [hx] at hz; cases hz
    refine ⟨y, ?_, by rw [hyi]; exact List.prefix_refl _⟩
    rw [hgo, hin.old _ (by omega) (by omega)]; exact hy
  · show b2.blocks[b.blocks.length + 1]? = _
    rw [hin.old _ (by omega) (by omega)]; exact hn1
  · have hF2 : Fit b2 G P := hF
    have hnew := hO.new
    have hnow2 : (b2.go (b.blocks.length + 1)).now = b.blocks.length + 1 := rfl
    rw [hnow2, hgo] at hnew
    obtain ⟨a2, k1, k2⟩ := hin.code G P hF2 (hnew _ (Nat.le_refl _) (by omega) (by omega)) (fun j h1 h2 => hnew j (by omega) h2 (by omega))
    have hPn : ¬ P b.now := hO.cur (by rw [hnow2]; omega)
    obtain ⟨z, hz, _, hq⟩ := hF2 b.now y (by rw [hin.old _ (by omega) (by omega)]; exact hy)
    have hzy := hq hPn
    subst hzy
    refine ⟨b.blocks.length, b.blocks.length + 1, a2, ?_, k1, k2, ?_⟩
    · have hil : z.ins.length = b.il := by rw [hyi, il_of hx]
      by_cases hk : k = 8
      · rw [if_pos hk] at hye ⊢
        exact ⟨z, hz, hil, hye⟩
      · rw [if_neg hk] at hye ⊢
        exact ⟨z, hz, hil, hye⟩
    · show (b.blocks.length + 1, Bd.il _) = (b.blocks.length + 1, 0)
      rw [il_of (b := b2.go (b.blocks.length + 1)) (x := blk0) (by show b2.blocks[b.blocks.length + 1]? = _; rw [hin.old _ (by omega) (by omega)]; exact hn1)]
      rfl
section
variable {C : Core} {n : Nat}
def CodesE (C : Core) (n : Nat) (e : CE) : Prop := e.ok C n → ∀ (d : Nat) (b : Bd), Pl b → Codes (fun G a c => e.code C G d a c) b (e.build C d b)
theorem codes_list : ∀ (l : List CE), (∀ e ∈ l, CodesE C n e) → CE.okL C n l → ∀ (d : Nat) (b : Bd), Pl b → Codes (fun G a c => CE.codeL C G l d a c) b (CE.buildL C l d b)
  | [], _, _, d, b, hb => by
    rw [CE.buildL]
    exact (Codes.refl hb).mono fun G a c h => by rw [CE.codeL]; exact h
  | e :: l, hI, hok, d, b, hb => by
    rw [CE.buildL]
    rw [CE.okL] at hok
    have h1 := hI e (List.mem_cons.2 (.inl rfl)) hok.1 d b hb
    have h2 := codes_list l (fun e he => hI e (List.mem_cons.2 (.inr he))) hok.2 (d + 1) (e.build C d b) h1.pl
    refine (h1.seq hb.lt h2).mono fun G a c h => ?_
    rw [CE.codeL]
    exact h
theorem codes_expr : ∀ (m : Nat) (e : CE), e.parts ≤ m → CodesE C n e
  | 0, e, h => by cases e; rw [CE.parts] at h; omega
  | m + 1, e, hm => by
    cases e with
    | mk k o num sl z kids =>
    rw [CE.parts] at hm
    have hI : ∀ e ∈ kids, CodesE C n e := fun e he => codes_expr m e (by have := parts_mem he; omega)
    intro hok d b hb
    rw [CE.ok] at hok
    obtain ⟨hkids, hk⟩ := hok
    have hL := codes_list kids hI hkids d b hb
    rcases hk with ⟨rfl, hw⟩ | ⟨rfl, h0, h1⟩ | ⟨rfl, h1, z1, z2, s0, s1⟩ | ⟨rfl, s0, s1, fn, hfn, hwd, hpar, h6⟩ | rfl | ⟨rfl, h2, o1, o2⟩ | ⟨rfl, h1⟩ | ⟨rfl, h2⟩ | ⟨rfl, h2⟩
    · rw [CE.build, if_pos rfl]
      exact (codes_put hb _).mono fun G a c h => by rw [CE.code, if_pos rfl]; exact h
    · rw [CE.build, if_neg (by decide), if_pos rfl]
      exact (codes_put hb _).mono fun G a c h => by rw [CE.code, if_neg (by decide), if_pos rfl]; exact h
    · rw [CE.build, if_neg (by decide), if_neg (by decide), if_pos rfl]
      exact (hL.seq hb.lt (codes_put hL.pl _)).mono fun G a c h => by rw [CE.code, if_neg (by decide), if_neg (by decide), if_pos rfl]; exact h
    · rw [CE.build, if_neg (by decide), if_neg (by decide), if_neg (by decide), if_pos rfl]
      have h2 := codes_called hL.pl C sl kids.length d
      refine (hL.seq hb.lt (h2.seq hL.pl.lt (codes_put h2.pl _))).mono fun G a c h => ?_
      rw [CE.code, if_neg (by decide), if_neg (by decide), if_neg (by decide), if_pos rfl]
      obtain ⟨a1, i1, a2, i2, i3⟩ := h
      exact ⟨a1, a2, i1, i2, i3⟩
    · rw [CE.build, if_neg (by decide), if_neg (by decide), if_neg (by decide), if_neg (by decide), if_pos rfl]
      exact (codes_put hb _).mono fun G a c h => by rw [CE.code, if_neg (by decide), if_neg (by decide), if_neg (by decide), if_neg (by decide), if_pos rfl]; exact h
    · rw [CE.build, if_neg (by decide), if_neg (by decide), if_neg (by decide), if_neg (by decide), if_neg (by decide), if_pos rfl]
      exact (hL.seq hb.lt (codes_put hL.pl _)).mono fun G a c h => by rw [CE.code, if_neg (by decide), if_neg (by decide), if_neg (by decide), if_neg (by decide), if_neg (by decide), if_pos rfl]; exact h
    · rw [CE.build, if_neg (by decide), if_neg (by decide), if_neg (by decide), if_neg (by decide), if_neg (by decide), if_neg (by decide), if_pos rfl]
      exact (hL.seq hb.lt (codes_not hL.pl _)).mono fun G a c h => by rw [CE.code, if_neg (by decide), if_neg (by decide), if_neg (by decide), if_neg (by decide), if_neg (by decide), if_neg (by decide), if_pos rfl]; exact h
    all_goals
      obtain ⟨e1, e2, rfl⟩ := len_two h2
      rw [CE.build, if_neg (by decide), if_neg (by decide), if_neg (by decide), if_neg (by decide), if_neg (by decide), if_neg (by decide), if_neg (by decide), if_pos (by decide), CE.buildE, CE.buildR]
      rw [CE.okL, CE.okL] at hkids
      have h1 := hI e1 (by simp) hkids.1 d b hb
      have h3 := codes_truth h1.pl e1 d
      have h4 := h1.seq hb.lt h3
      have h5 := codes_right (k := 8) (d := d) h4.pl (fun b0 hb0 => (hI e2 (by simp) hkids.2.1 d b0 hb0).seq hb0.lt (codes_truth (hI e2 (by simp) hkids.2.1 d b0 hb0).pl e2 d))
      have h6 := codes_right (k := 9) (d := d) h4.pl (fun b0 hb0 => (hI e2 (by simp) hkids.2.1 d b0 hb0).seq hb0.lt (codes_truth (hI e2 (by simp) hkids.2.1 d b0 hb0).pl e2 d))
      first
      | refine (h4.seq hb.lt h5).mono fun G a c h => ?_
      | refine (h4.seq hb.lt h6).mono fun G a c h => ?_
      rw [CE.code, if_neg (by decide), if_neg (by decide), if_neg (by decide), if_neg (by decide), if_neg (by decide), if_neg (by decide), if_neg (by decide), if_pos (by decide), CE.codeX]
      obtain ⟨m2, ⟨m1, i1, i2⟩, r, h, a4, i3, ⟨a3, i4, i5⟩, i6, i7⟩ := h
      refine ⟨m1, m2, i1, i2, ?_⟩
      rw [CE.codeY]
      exact ⟨r, h, a3, a4, i3, i4, i5, i6, i7⟩
end
theorem codes_fresh {b : Bd} (h : Pl b) {g : Block → Block} {fin v to els : Int} (hg : ∀ x : Block, x.fin = 3 → x.v = 0 → x.to = 0 → x.els = 0 → (g x).ins = x.ins ∧ (g x).fin = fin ∧ (g x).v = v ∧ (g x).to = to ∧ (g x).els = els) :
    Codes (fun G a c => EndAt G a fin v to els ∧ c = (b.blocks.length, 0)) b ((b.opened.upd g).go b.blocks.length) := by
  obtain ⟨x, hx, e3, ev, et, ee⟩ := h
  have hlt := (List.getElem?_eq_some_iff.1 hx).1
  obtain ⟨g1, g2⟩ := hg x e3 ev et ee
  have hx1 : b.opened.blocks[b.opened.now]? = some x := (opened_old hlt).trans hx
  have hcur : (b.opened.upd g).blocks[b.now]? = some (g x) := upd_at (b := b.opened) hx1
  have hnew : (b.opened.upd g).blocks[b.blocks.length]? = some blk0 := (upd_ne (b := b.opened) z34q).trans (opened_at b)
  have hl : (b.opened.upd g).blocks.length = b.blocks.length + 1 := (upd_len b.opened g).trans (opened_len b)
  refine ⟨⟨by show _ ≤ (b.opened.upd g).blocks.length; omega, .inr (Nat.le_refl _), fun j y hj hy => ?_, fun y hy => ?_⟩, ⟨blk0, hnew, rfl, rfl, rfl, rfl⟩, fun G P hF hO => ?_⟩
  · have hjl := (List.getElem?_eq_some_iff.1 hy).1
    exact ((upd_ne (b := b.opened) hj).trans (opened_old hjl)).trans hy
  · rw [hx] at hy; cases hy
    exact ⟨g x, hcur, by rw [g1]; exact List.prefix_refl _⟩
  · have hPn : ¬ P b.now := hO.cur z34q
    obtain ⟨z, hz, _, hq⟩ := hF b.now (g x) hcur
    have := hq hPn
    subst this
    refine ⟨⟨_, hz, by rw [g1]; exact (il_of hx).symm, g2⟩, ?_⟩
    show (b.blocks.length, Bd.il _) = (b.blocks.length, 0)
    rw [il_of (b := (b.opened.upd g).go b.blocks.length) (x := blk0) hnew]
    rfl
theorem modify_self {α : Type} {l : List α} {i : Nat} {x : α} {g : α → α} (h : l[i]? = some x) (hg : g x = x) : l.modify i g = l := by
  refine List.ext_getElem? fun j => ?_
  rw [List.getElem?_modify]
  by_cases e : i = j
  · subst e
    rw [h]; simp [hg]
  · cases l[j]? <;> simp [e]
theorem ret_self {b : Bd} (h : Pl b) : b.ret = b := by
  obtain ⟨x, hx, e3, _⟩ := h
  unfold Bd.ret Bd.upd
  rw [modify_self hx (by rw [← e3])]
theorem codes_next {b : Bd} (h : Pl b) : Codes (fun G a c => EndAt G a 3 0 0 0) b b.next := by
  have := codes_fresh h (g := fun x => x) (fin := 3) (v := 0) (to := 0) (els := 0) (fun x h1 h2 h3 h4 => ⟨rfl, h1, h2, h3, h4⟩)
  have e : (b.opened.upd fun x => x).go b.blocks.length = b.next := by
    obtain ⟨x, hx, _⟩ := h
    have hlt := (List.getElem?_eq_some_iff.1 hx).1
    have hm : b.opened.blocks.modify b.opened.now (fun x => x) = b.opened.blocks := modify_self (x := x) ((opened_old hlt).trans hx) rfl
    unfold Bd.next Bd.upd
    rw [hm]
  rw [e] at this
  exact this.mono fun G a c h => h.1
theorem codes_leave {b : Bd} (h : Pl b) (C : Core) (w : Bool) : Codes (fun G a c => if w = true then InsAt G a (iNum 0 0) ∧ InsAt G (nx a) (iStore C.words 0) ∧ c = nx (nx a) else c = a) b (b.leave C w) := by
  unfold Bd.leave
  cases w with
  | false =>
    simp only [cond_false]
    rw [ret_self h]
    exact (Codes.refl h).mono fun G a c e => by rw [if_neg (by decide)]; exact e
  | true =>
    simp only [cond_true]
    have h1 := codes_put h (iNum 0 0)
    have h2 := codes_put h1.pl (iStore C.words 0)
    rw [ret_self h2.pl]
    refine (h1.seq h.lt h2).mono fun G a c hm => ?_
    obtain ⟨m, ⟨i1, rfl⟩, i2, rfl⟩ := hm
    rw [if_pos trivial]
    exact ⟨i1, i2, rfl⟩
theorem leave_of {C : Core} {w : Bool} {G : List Block} {a c : Pos} (h : if w = true then InsAt G a (iNum 0 0) ∧ InsAt G (nx a) (iStore C.words 0) ∧ c = nx (nx a) else c = a) (he : EndAt G c 3 0 0 0) : LeaveAt C w G a := by
  unfold LeaveAt
  cases w with
  | false => rw [if_neg (by decide)] at h ⊢; subst h; exact he
  | true => rw [if_pos rfl] at h ⊢; obtain ⟨h1, h2, rfl⟩ := h; exact ⟨h1, h2, he⟩
theorem codes_choice {b : Bd} (h : Pl b) {RT RE : List Block → Pos → Pos → Prop} {fT fE : Bd → Bd} (hT : ∀ b0, Pl b0 → Codes RT b0 (fT b0)) (hE : ∀ b0, Pl b0 → Codes RE b0 (fE b0)) :
    Codes (fun G a c => ∃ (t h o : Nat) (a2 a3 : Pos), EndAt G a 2 0 t o ∧ RT G (t, 0) a2 ∧ EndAt G a2 1 0 h 0 ∧ (RE G (o, 0) a3 ∧ EndAt G a3 1 0 h 0) ∧ c = (h, 0)) b
      (((((b.opened.opened.opened).inside (b.blocks.length + 2) (b.blocks.length + 1) fE).fork 0 b.blocks.length (b.blocks.length + 2)).inside b.blocks.length (b.blocks.length + 1) fT).go (b.blocks.length + 1)) := by
  obtain ⟨x, hx, e3, ev, et, ee⟩ := h
  have hlt := (List.getElem?_eq_some_iff.1 hx).1
  have l3 : b.opened.opened.opened.blocks.length = b.blocks.length + 3 := by rw [opened_len, opened_len, opened_len]
  have o3 : ∀ j, j < b.blocks.length → b.opened.opened.opened.blocks[j]? = b.blocks[j]? := fun j hj => by
    rw [opened_old (by rw [opened_len, opened_len]; omega), opened_old (by rw [opened_len]; omega), opened_old hj]
  have n0 : b.opened.opened.opened.blocks[b.blocks.length]? = some blk0 := by
    rw [opened_old (by rw [opened_len, opened_len]; omega), opened_old (by rw [opened_len]; omega)]; exact opened_at b
  have n1 : b.opened.opened.opened.blocks[b.blocks.length + 1]? = some blk0 := by
    rw [opened_old (by rw [opened_len, opened_len]; omega)]
    have := opened_at b.opened
    rwa [opened_len] at this
  have n2 : b.opened.opened.opened.blocks[b.blocks.length + 2]? = some blk0 := by
    have := opened_at b.opened.opened
    rwa [opened_len, opened_len] at this
  have hnow3 : b.opened.opened.opened.now = b.now := rfl
  generalize b.opened.opened.opened = b3 at l3 o3 n0 n1 n2 hnow3 ⊢
  have iE := inside_ok (to := b.blocks.length + 1) n2 (hE (b3.go (b.blocks.length + 2)) ⟨blk0, n2, rfl, rfl, rfl, rfl⟩)
  generalize b3.inside (b.blocks.length + 2) (b.blocks.length + 1) fE = b4 at iE ⊢
  have hl4 := iE.len
  have hnow4 : b4.now = b.now := iE.now.trans hnow3
  have x4 : b4.blocks[b.now]? = some x := by rw [iE.old _ (by omega) (by omega), o3 _ hlt]; exact hx
  have x5 : (b4.fork 0 b.blocks.length (b.blocks.length + 2)).blocks[b.now]? = some { x with fin := 2, v := 0, to := (b.blocks.length : Int), els := ((b.blocks.length + 2 : Nat) : Int) } := by
    have := fork_at (b := b4) (v := 0) (to := b.blocks.length) (els := b.blocks.length + 2) (x := x) (by rw [hnow4]; exact x4)
    rw [hnow4] at this; exact this
  have o5 : ∀ j, j ≠ b.now → (b4.fork 0 b.blocks.length (b.blocks.length + 2)).blocks[j]? = b4.blocks[j]? := fun j hj => upd_ne (by rw [hnow4]; exact hj)
  have l5 : (b4.fork 0 b.blocks.length (b.blocks.length + 2)).blocks.length = b4.blocks.length := upd_len b4 _
  have hnow5 : (b4.fork 0 b.blocks.length (b.blocks.length + 2)).now = b.now := hnow4
  generalize b4.fork 0 b.blocks.length (b.blocks.length + 2) = b5 at x5 o5 l5 hnow5 ⊢
  have n5 : b5.blocks[b.blocks.length]? = some blk0 := by rw [o5 _ (by omega), iE.old _ (by omega) (by omega)]; exact n0
  have iT := inside_ok (to := b.blocks.length + 1) n5 (hT (b5.go b.blocks.length) ⟨blk0, n5, rfl, rfl, rfl, rfl⟩)
  generalize b5.inside b.blocks.length (b.blocks.length + 1) fT = b6 at iT ⊢
  have hl6 := iT.len
  have hgo : (b6.go (b.blocks.length + 1)).blocks = b6.blocks := rfl
  have n6 : b6.blocks[b.blocks.length + 1]? = some blk0 := by rw [iT.old _ (by omega) (by omega), o5 _ (by omega), iE.old _ (by omega) (by omega)]; exact n1
  refine ⟨⟨by rw [hgo]; omega, .inr (by show b.blocks.length ≤ b.blocks.length + 1; omega), fun j z hj hz => ?_, fun z hz => ?_⟩, ⟨blk0, n6, rfl, rfl, rfl, rfl⟩, fun G P hF hO => ?_⟩
  · have hjl := (List.getElem?_eq_some_iff.1 hz).1
    rw [hgo, iT.old j (by omega) (by omega), o5 j hj, iE.old j (by omega) (by omega), o3 j hjl]
    exact hz
  · rw [hx] at hz; cases hz
    have h6 := iT.old b.now (by omega) (by omega)
    rw [x5] at h6
    exact ⟨_, h6, List.prefix_refl _⟩
  · have hF6 : Fit b6 G P := hF
    have hnew := hO.new
    have hnow2 : (b6.go (b.blocks.length + 1)).now = b.blocks.length + 1 := rfl
    rw [hnow2, hgo] at hnew
    have hPn : ¬ P b.now := hO.cur (by rw [hnow2]; omega)
    obtain ⟨a2, k1, k2⟩ := iT.code G P hF6 (hnew _ (Nat.le_refl _) (by omega) (by omega)) (fun j h1 h2 => hnew j (by omega) h2 (by omega))
    have hF4 : Fit b4 G (fun j => j = b.now ∨ (j = b.blocks.length ∨ P j)) := fun j y hy => by
      have hjl := (List.getElem?_eq_some_iff.1 hy).1
      by_cases e1 : j = b.now
      · subst e1
        rw [x4] at hy; cases hy
        obtain ⟨z, hz, hp, _⟩ := hF6 b.now _ (by rw [iT.old _ (by omega) (by omega)]; exact x5)
        exact ⟨z, hz, hp, fun hn => absurd (.inl rfl) hn⟩
      · by_cases e2 : j = b.blocks.length
        · subst e2
          have : y = blk0 := by
            rw [iE.old _ (by omega) (by omega), n0] at hy
            exact (Option.some.inj hy).symm
          subst this
          obtain ⟨u, hu⟩ := get_of_lt (l := b6.blocks) (k := b.blocks.length) (by omega)
          obtain ⟨z, hz, _⟩ := hF6 _ u hu
          exact ⟨z, hz, List.nil_prefix, fun hn => absurd (.inr (.inl rfl)) hn⟩
        · obtain ⟨z, hz, hp, hq⟩ := hF6 j y (by rw [iT.old _ e2 (by omega), o5 _ e1]; exact hy)
          exact ⟨z, hz, hp, fun hn => hq fun h => hn (.inr (.inr h))⟩
    obtain ⟨a3, j1, j2⟩ := iE.code G _ hF4 (fun hn => by
      rcases hn with hn | hn | hn
      · omega
      · omega
      · exact hnew _ (by omega) (by omega) (by omega) hn) (fun j h1 h2 hn => by
      rcases hn with hn | hn | hn
      · omega
      · omega
      · exact hnew j (by omega) (by omega) (by omega) hn)
    obtain ⟨z, hz, _, hq⟩ := hF6 b.now _ (by rw [iT.old _ (by omega) (by omega)]; exact x5)
    have := hq hPn
    subst this
    refine ⟨b.blocks.length, b.blocks.length + 1, b.blocks.length + 2, a2, a3, ⟨_, hz, (il_of hx).symm, rfl, rfl, rfl, rfl⟩, k1, k2, ⟨j1, j2⟩, ?_⟩
    show (b.blocks.length + 1, Bd.il _) = (b.blocks.length + 1, 0)
    rw [il_of (b := b6.go (b.blocks.length + 1)) (x := blk0) n6]
    rfl
theorem codes_loop {b : Bd} (h : Pl b) {RC RT : List Block → Pos → Pos → Prop} {fC fT : Bd → Bd} (hC : ∀ b0, Pl b0 → Codes RC b0 (fC b0)) (hT : ∀ b0, Pl b0 → Codes RT b0 (fT b0)) :
    Codes (fun G a c => ∃ (g t h : Nat) (a1 a2 : Pos), EndAt G a 1 0 g 0 ∧ RC G (g, 0) a1 ∧ EndAt G a1 2 0 t h ∧ RT G (t, 0) a2 ∧ EndAt G a2 1 0 g 0 ∧ c = (h, 0)) b
      ((((fC (((b.opened.opened.opened).inside b.now b.blocks.length fun x => x).go b.blocks.length)).fork 0 (b.blocks.length + 1) (b.blocks.length + 2)).inside (b.blocks.length + 1) b.blocks.length fT).go (b.blocks.length + 2)) := by
  obtain ⟨x, hx, e3, ev, et, ee⟩ := h
  have hlt := (List.getElem?_eq_some_iff.1 hx).1
  have l3 : b.opened.opened.opened.blocks.length = b.blocks.length + 3 := by rw [opened_len, opened_len, opened_len]
  have o3 : ∀ j, j < b.blocks.length → b.opened.opened.opened.blocks[j]? = b.blocks[j]? := fun j hj => by
    rw [opened_old (by rw [opened_len, opened_len]; omega), opened_old (by rw [opened_len]; omega), opened_old hj]
  have n0 : b.opened.opened.opened.blocks[b.blocks.length]? = some blk0 := by
    rw [opened_old (by rw [opened_len, opened_len]; omega), opened_old (by rw [opened_len]; omega)]; exact opened_at b
  have n1 : b.opened.opened.opened.blocks[b.blocks.length + 1]? = some blk0 := by
    rw [opened_old (by rw [opened_len, opened_len]; omega)]
    have := opened_at b.opened
    rwa [opened_len] at this
  have n2 : b.opened.opened.opened.blocks[b.blocks.length + 2]? = some blk0 := by
    have := opened_at b.opened.opened
    rwa [opened_len, opened_len] at this
  have eB : ((b.opened.opened.opened).inside b.now b.blocks.length fun x => x).go b.blocks.length = (b.opened.opened.opened.jump b.blocks.length).go b.blocks.length := rfl
  rw [eB]
  have hnow3 : b.opened.opened.opened.now = b.now := rfl
  have xj : (b.opened.opened.opened.jump b.blocks.length).blocks[b.now]? = some { x with fin := 1, to := (b.blocks.length : Int) } := jump_at (b := b.opened.opened.opened) ((o3 _ hlt).trans hx)
  have oj : ∀ j, j ≠ b.now → (b.opened.opened.opened.jump b.blocks.length).blocks[j]? = b.opened.opened.opened.blocks[j]? := fun j hj => upd_ne hj
  have lj : (b.opened.opened.opened.jump b.blocks.length).blocks.length = b.blocks.length + 3 := (upd_len _ _).trans l3
  generalize b.opened.opened.opened.jump b.blocks.length = bj at xj oj lj ⊢
  have j0 : bj.blocks[b.blocks.length]? = some blk0 := by rw [oj _ (by omega)]; exact n0
  have j1 : bj.blocks[b.blocks.length + 1]? = some blk0 := by rw [oj _ (by omega)]; exact n1
  have j2 : bj.blocks[b.blocks.length + 2]? = some blk0 := by rw [oj _ (by omega)]; exact n2
  have oj2 : ∀ j, j ≠ b.now → j < b.blocks.length → bj.blocks[j]? = b.blocks[j]? := fun j h1 h2 => by rw [oj j h1, o3 j h2]
  have cC := hC (bj.go b.blocks.length) ⟨blk0, j0, rfl, rfl, rfl, rfl⟩
  generalize fC (bj.go b.blocks.length) = bc at cC ⊢
  obtain ⟨y, hy, y3, yv, yt, ye⟩ := cC.pl
  have lc : b.blocks.length + 3 ≤ bc.blocks.length := by have := cC.fr.len; have e : (bj.go b.blocks.length).blocks.length = bj.blocks.length := rfl; omega
  have hcn : bc.now = b.blocks.length ∨ b.blocks.length + 3 ≤ bc.now := by
    have := cC.fr.now
    have e : (bj.go b.blocks.length).blocks.length = bj.blocks.length := rfl
    rw [e, lj] at this; exact this
  have hcl := (List.getElem?_eq_some_iff.1 hy).1
  have oc : ∀ j, j ≠ b.blocks.length → j < b.blocks.length + 3 → bc.blocks[j]? = bj.blocks[j]? := fun j h1 h2 => by
    obtain ⟨z, hz⟩ := get_of_lt (l := bj.blocks) (k := j) (by omega)
    rw [hz]; exact cC.fr.old j z h1 hz
  have yf : (bc.fork 0 (b.blocks.length + 1) (b.blocks.length + 2)).blocks[bc.now]? = some { y with fin := 2, v := 0, to := ((b.blocks.length + 1 : Nat) : Int), els := ((b.blocks.length + 2 : Nat) : Int) } := fork_at hy
  have of_ : ∀ j, j ≠ bc.now → (bc.fork 0 (b.blocks.length + 1) (b.blocks.length + 2)).blocks[j]? = bc.blocks[j]? := fun j hj => upd_ne hj
  have lf : (bc.fork 0 (b.blocks.length + 1) (b.blocks.length + 2)).blocks.length = bc.blocks.length := upd_len bc _
  generalize bc.fork 0 (b.blocks.length + 1) (b.blocks.length + 2) = bf at yf of_ lf ⊢
  have f1 : bf.blocks[b.blocks.length + 1]? = some blk0 := by rw [of_ _ (by omega), oc _ (by omega) (by omega)]; exact j1
  have f2 : bf.blocks[b.blocks.length + 2]? = some blk0 := by rw [of_ _ (by omega), oc _ (by omega) (by omega)]; exact j2
  have iT := inside_ok (to := b.blocks.length) f1 (hT (bf.go (b.blocks.length + 1)) ⟨blk0, f1, rfl, rfl, rfl, rfl⟩)
  generalize bf.inside (b.blocks.length + 1) b.blocks.length fT = b6 at iT ⊢
  have hl6 := iT.len
  have hgo : (b6.go (b.blocks.length + 2)).blocks = b6.blocks := rfl
  have n6 : b6.blocks[b.blocks.length + 2]? = some blk0 := by rw [iT.old _ (by omega) (by omega)]; exact f2
  have x6 : b6.blocks[b.now]? = some { x with fin := 1, to := (b.blocks.length : Int) } := by rw [iT.old _ (by omega) (by omega), of_ _ (by omega), oc _ (by omega) (by omega)]; exact xj
  refine ⟨⟨by rw [hgo]; omega, .inr (by show b.blocks.length ≤ b.blocks.length + 2; omega), fun j z hj hz => ?_, fun z hz => ?_⟩, ⟨blk0, n6, rfl, rfl, rfl, rfl⟩, fun G P hF hO => ?_⟩
  · have hjl := (List.getElem?_eq_some_iff.1 hz).1
    rw [hgo, iT.old j (by omega) (by omega), of_ j (by omega), oc j (by omega) (by omega), oj2 j hj hjl]
    exact hz
  · rw [hx] at hz; cases hz
    exact ⟨_, x6, List.prefix_refl _⟩
  · have hF6 : Fit b6 G P := hF
    have hnew := hO.new
    have hnow2 : (b6.go (b.blocks.length + 2)).now = b.blocks.length + 2 := rfl
    rw [hnow2, hgo] at hnew
    have hPn : ¬ P b.now := hO.cur (by rw [hnow2]; omega)
    obtain ⟨a2, k1, k2⟩ := iT.code G P hF6 (hnew _ (by omega) (by omega) (by omega)) (fun j h1 h2 => hnew j (by omega) h2 (by omega))
    have hPc : ¬ P bc.now := hnew _ (by omega) (by omega) (by omega)
    have y6 : b6.blocks[bc.now]? = some { y with fin := 2, v := 0, to := ((b.blocks.length + 1 : Nat) : Int), els := ((b.blocks.length + 2 : Nat) : Int) } := by rw [iT.old _ (by omega) (by omega)]; exact yf
    have hFc : Fit bc G (fun j => j = bc.now ∨ (j = b.blocks.length + 1 ∨ P j)) := fun j u hu => by
      have hjl := (List.getElem?_eq_some_iff.1 hu).1
      by_cases e1 : j = bc.now
      · subst e1
        rw [hy] at hu; cases hu
        obtain ⟨z, hz, hp, _⟩ := hF6 bc.now _ y6
        exact ⟨z, hz, hp, fun hn => absurd (.inl rfl) hn⟩
      · by_cases e2 : j = b.blocks.length + 1
        · subst e2
          have : u = blk0 := by
            rw [oc _ (by omega) (by omega), j1] at hu
            exact (Option.some.inj hu).symm
          subst this
          obtain ⟨u, hu⟩ := get_of_lt (l := b6.blocks) (k := b.blocks.length + 1) (by omega)
          obtain ⟨z, hz, _⟩ := hF6 _ u hu
          exact ⟨z, hz, List.nil_prefix, fun hn => absurd (.inr (.inl rfl)) hn⟩
        · obtain ⟨z, hz, hp, hq⟩ := hF6 j u (by rw [iT.old _ e2 (by omega), of_ _ e1]; exact hu)
          exact ⟨z, hz, hp, fun hn => hq fun h => hn (.inr (.inr h))⟩
    have lgo : (bj.go b.blocks.length).blocks.length = b.blocks.length + 3 := lj
    have kc := cC.code G _ hFc ⟨.inl rfl, fun j h1 h2 h3 hn => by
      rw [lgo] at h1
      rcases hn with hn | hn | hn
      · exact h3 hn
      · omega
      · exact hnew j (by omega) (by omega) (by omega) hn, fun hne hn => by
      have hne2 : bc.now ≠ b.blocks.length := hne
      have hn2 : b.blocks.length = bc.now ∨ (b.blocks.length = b.blocks.length + 1 ∨ P b.blocks.length) := hn
      rcases hn2 with hn | hn | hn
      · omega
      · omega
      · exact hnew _ (Nat.le_refl _) (by omega) (by omega) hn⟩
    have ilj : (bj.go b.blocks.length).il = 0 := (il_of (b := bj.go b.blocks.length) (x := blk0) j0).trans rfl
    have epos : (bj.go b.blocks.length).pos = (b.blocks.length, 0) := by show (b.blocks.length, Bd.il _) = _; rw [ilj]
    rw [epos] at kc
    obtain ⟨z, hz, _, hq⟩ := hF6 b.now _ x6
    have := hq hPn
    subst this
    obtain ⟨z2, hz2, _, hq2⟩ := hF6 bc.now _ y6
    have := hq2 hPc
    subst this
    refine ⟨b.blocks.length, b.blocks.length + 1, b.blocks.length + 2, bc.pos, a2, ⟨_, hz, (il_of hx).symm, rfl, ev, rfl, ee⟩, kc, ⟨_, hz2, (il_of hy).symm, rfl, rfl, rfl, rfl⟩, k1, k2, ?_⟩
    show (b.blocks.length + 2, Bd.il _) = (b.blocks.length + 2, 0)
    rw [il_of (b := b6.go (b.blocks.length + 2)) (x := blk0) n6]
    rfl
section
variable {C : Core} {n : Nat} {w : Bool}
def CodesS (C : Core) (n : Nat) (w : Bool) (st : CS) : Prop := st.ok C n w → ∀ (b : Bd), Pl b → Codes (fun G a c => st.code C w G a c) b (st.build C w b)
theorem codes_stmts : ∀ (l : List CS), (∀ st ∈ l, CodesS C n w st) → CS.okL C n w l → ∀ (b : Bd), Pl b → Codes (fun G a c => CS.codeL C w G l a c) b (CS.buildL C w l b)
  | [], _, _, b, hb => by
    rw [CS.buildL]
    exact (Codes.refl hb).mono fun G a c h => by rw [CS.codeL]; exact h
  | st :: l, hI, hok, b, hb => by
    rw [CS.buildL]
    rw [CS.okL] at hok
    have h1 := hI st (List.mem_cons.2 (.inl rfl)) hok.1 b hb
    have h2 := codes_stmts l (fun st he => hI st (List.mem_cons.2 (.inr he))) hok.2 (st.build C w b) h1.pl
    refine (h1.seq hb.lt h2).mono fun G a c h => ?_
    rw [CS.codeL]
    exact h
theorem codes_exprs {l : List CE} (hok : CE.okL C n l) (d : Nat) (b : Bd) (hb : Pl b) : Codes (fun G a c => CE.codeL C G l d a c) b (CE.buildL C l d b) :=
  codes_list l (fun e _ => codes_expr e.parts e (Nat.le_refl _)) hok d b hb
theorem codes_stmt : ∀ (m : Nat) (st : CS), st.parts ≤ m → CodesS C n w st
  | 0, st, h => by cases st; rw [CS.parts] at h; omega
  | m + 1, st, hm => by
    cases st with
    | mk k s z es thn els =>
    rw [CS.parts] at hm
    have hT : ∀ st ∈ thn, CodesS C n w st := fun st hs => codes_stmt m st (by have := sparts_mem hs; omega)
    have hL : ∀ st ∈ els, CodesS C n w st := fun st hs => codes_stmt m st (by have := sparts_mem hs; omega)
    intro hok b hb
    rw [CS.ok] at hok
    obtain ⟨hes, hthn, hels, hk⟩ := hok
    have hE := codes_exprs hes 0 b hb
    rcases hk with ⟨rfl, h1, s0, s1⟩ | ⟨rfl, h2, z1, z2, s0, s1⟩ | ⟨rfl, h1⟩ | ⟨rfl, h1⟩ | ⟨rfl, h1⟩ | ⟨rfl, s0, s1, fn, hfn, hwd, hpar, h6⟩ | ⟨rfl, h1⟩
    · rw [CS.build, if_pos rfl]
      exact (hE.seq hb.lt (codes_put hE.pl _)).mono fun G a c h => by rw [CS.code, if_pos rfl]; exact h
    · rw [CS.build, if_neg (by decide), if_pos rfl]
      exact (hE.seq hb.lt (codes_put hE.pl _)).mono fun G a c h => by rw [CS.code, if_neg (by decide), if_pos rfl]; exact h
    · rw [CS.build, if_neg (by decide), if_neg (by decide), if_pos rfl]
      exact (hE.seq hb.lt (codes_put hE.pl _)).mono fun G a c h => by rw [CS.code, if_neg (by decide), if_neg (by decide), if_pos rfl]; exact h
    · rw [CS.build, if_neg (by decide), if_neg (by decide), if_neg (by decide), if_neg (by decide), if_neg (by decide), if_pos rfl]
      dsimp only
      have fT : ∀ b0, Pl b0 → Codes (fun G a c => CS.codeL C w G thn a c) b0 (CS.buildL C w thn b0) := fun b0 h0 => codes_stmts thn hT hthn b0 h0
      have fE : ∀ b0, Pl b0 → Codes (fun G a c => CS.codeL C w G els a c) b0 (CS.buildL C w els b0) := fun b0 h0 => codes_stmts els hL hels b0 h0
      by_cases he : els = []
      · rw [if_pos he]
        have h2 := codes_right (k := 8) (d := 0) hE.pl fT
        refine (hE.seq hb.lt h2).mono fun G a c h => ?_
        rw [CS.code, if_neg (by decide), if_neg (by decide), if_neg (by decide), if_neg (by decide), if_neg (by decide), if_pos rfl]
        obtain ⟨a1, i1, r, h, a2, i2, i3, i4, i5⟩ := h
        rw [if_pos rfl] at i2
        exact ⟨a1, r, h, h, a2, a2, i1, i2, i3, i4, by rw [if_pos he], i5⟩
      · rw [if_neg he]
        have h2 := codes_choice hE.pl fT fE
        refine (hE.seq hb.lt h2).mono fun G a c h => ?_
        rw [CS.code, if_neg (by decide), if_neg (by decide), if_neg (by decide), if_neg (by decide), if_neg (by decide), if_pos rfl]
        obtain ⟨a1, i1, t, h, o, a2, a3, i2, i3, i4, i5, i6⟩ := h
        exact ⟨a1, t, h, o, a2, a3, i1, i2, i3, i4, by rw [if_neg he]; exact i5, i6⟩
    · rw [CS.build, if_neg (by decide), if_neg (by decide), if_neg (by decide), if_neg (by decide), if_neg (by decide), if_neg (by decide), if_pos rfl]
      dsimp only
      have h2 := codes_loop hb (fun b0 h0 => codes_exprs hes 0 b0 h0) (fun b0 h0 => codes_stmts thn hT hthn b0 h0)
      refine h2.mono fun G a c h => ?_
      rw [CS.code, if_neg (by decide), if_neg (by decide), if_neg (by decide), if_neg (by decide), if_neg (by decide), if_neg (by decide), if_pos rfl]
      exact h
    · rw [CS.build, if_neg (by decide), if_neg (by decide), if_neg (by decide), if_pos rfl]
      refine (hE.seq hb.lt (codes_called hE.pl C s es.length 0)).mono fun G a c h => ?_
      rw [CS.code, if_neg (by decide), if_neg (by decide), if_neg (by decide), if_pos rfl]; exact h
    · rw [CS.build, if_neg (by decide), if_neg (by decide), if_neg (by decide), if_neg (by decide), if_pos rfl]
      by_cases he : es = []
      · rw [if_pos he]
        have h2 := codes_leave hb C w
        refine (h2.seq hb.lt (codes_next h2.pl)).mono fun G a c h => ?_
        rw [CS.code, if_neg (by decide), if_neg (by decide), if_neg (by decide), if_neg (by decide), if_pos rfl, if_pos he]
        obtain ⟨m, i1, i2⟩ := h
        exact leave_of i1 i2
      · rw [if_neg he]
        have h2 := codes_put hE.pl (iStore C.words 0)
        refine (hE.seq hb.lt (h2.seq hE.pl.lt (codes_next h2.pl))).mono fun G a c h => ?_
        rw [CS.code, if_neg (by decide), if_neg (by decide), if_neg (by decide), if_neg (by decide), if_pos rfl, if_neg he]
        obtain ⟨a1, i1, a2, ⟨i2, rfl⟩, i3⟩ := h
        exact ⟨a1, i1, i2, i3⟩
theorem codes_zeros {b : Bd} (h : Pl b) (first : Int) : ∀ n : Nat, Codes (fun G a c => ZerosAt G a first n c) b (b.zeros first n)
  | 0 => (Codes.refl h).mono fun G a c hm => ⟨fun i hi => absurd hi (by omega), hm⟩
  | n + 1 => by
    have ih := codes_zeros h first n
    have h2 := codes_put ih.pl (iStore (first + n) 0)
    refine (ih.seq h.lt h2).mono fun G a c hm => ?_
    obtain ⟨m, ⟨i1, rfl⟩, i2, rfl⟩ := hm
    refine ⟨fun i hi => ?_, rfl⟩
    by_cases e : i = n
    · subst e; exact i2
    · exact i1 i (by omega)
theorem codes_astores {b : Bd} (h : Pl b) (first z : Int) : ∀ n : Nat, Codes (fun G a c => (∀ i, i < n → InsAt G (a.1, a.2 + i) (iAStore 1 0 (first + i) z)) ∧ c = (a.1, a.2 + n)) b (b.astores first z n)
  | 0 => (Codes.refl h).mono fun G a c hm => ⟨fun i hi => absurd hi (by omega), hm⟩
  | n + 1 => by
    have ih := codes_astores h first z n
    have h2 := codes_put ih.pl (iAStore 1 0 (first + n) z)
    refine (ih.seq h.lt h2).mono fun G a c hm => ?_
    obtain ⟨m, ⟨i1, rfl⟩, i2, rfl⟩ := hm
    refine ⟨fun i hi => ?_, rfl⟩
    by_cases e : i = n
    · subst e; exact i2
    · exact i1 i (by omega)
theorem codes_chunk {b : Bd} (h : Pl b) (first : Int) (n : Nat) : Codes (fun G a c => ChunkAt G a first n c) b (b.chunk first n) := by
  have p1 := codes_put h (iNum 1 0)
  have p2 := codes_put p1.pl (iNum 2 8)
  have p3 := codes_put p2.pl (iNum 3 n)
  have p4 := codes_fresh p3.pl (g := fun x => { x with fin := 1, to := ((b.chunk1 n).blocks.length : Int) }) (fin := 1) (v := 0) (to := ((b.chunk1 n).blocks.length : Int)) (els := 0) (fun x h1 h2 h3 h4 => ⟨rfl, rfl, h2, rfl, h4⟩)
  have p5 := codes_astores p4.pl first (n - 7) 8
  have p6 := codes_put p5.pl (iBin 4 1 1 2)
  have p7 := codes_put p6.pl (iBin 14 4 1 3)
  have p8 := codes_fresh p7.pl (g := fun x => { x with fin := 2, v := ((4 : Nat) : Int), to := ((b.chunk1 n).blocks.length : Int), els := ((((((b.chunk1 n).chunk2.astores first (n - 7) 8).put (iBin 4 1 1 2)).put (iBin 14 4 1 3)).blocks.length : Nat) : Int) }) (fin := 2) (v := ((4 : Nat) : Int)) (to := ((b.chunk1 n).blocks.length : Int)) (els := ((((((b.chunk1 n).chunk2.astores first (n - 7) 8).put (iBin 4 1 1 2)).put (iBin 14 4 1 3)).blocks.length : Nat) : Int)) (fun x h1 h2 h3 h4 => ⟨rfl, rfl, rfl, rfl, rfl⟩)
  have q := p1.seq h.lt (p2.seq p1.pl.lt (p3.seq p2.pl.lt (p4.seq p3.pl.lt (p5.seq p4.pl.lt (p6.seq p5.pl.lt (p7.seq p6.pl.lt p8))))))
  refine Codes.mono (b := b) (b' := b.chunk first n) q fun G a c hm => ?_
  obtain ⟨m1, ⟨i1, rfl⟩, m2, ⟨i2, rfl⟩, m3, ⟨i3, rfl⟩, m4, ⟨i4, rfl⟩, m5, ⟨i5, rfl⟩, m6, ⟨i6, rfl⟩, m7, ⟨i7, rfl⟩, i8, rfl⟩ := hm
  exact ⟨i1, i2, i3, _, _, i4, fun k hk => by have := i5 k hk; rw [Nat.zero_add] at this; exact this, i6, i7, i8, rfl⟩
theorem codes_noughtG : ∀ (g : Nat) {b : Bd} (h : Pl b) (first : Int) (n : Nat), Codes (fun G a c => NoughtG G g a first n c) b (Bd.noughtG g b first n)
  | 0, b, h, first, n => by
    rw [Bd.noughtG]
    exact (Codes.refl h).mono fun G a c e => by rw [NoughtG]; exact e
  | g + 1, b, h, first, n => by
    rw [Bd.noughtG]
    by_cases hn : 64 < n
    · rw [if_pos hn]
      have h1 := codes_chunk h first (chunkN n)
      exact (h1.seq h.lt (codes_noughtG g h1.pl _ _)).mono fun G a c e => by rw [NoughtG, if_pos hn]; exact e
    · rw [if_neg hn]
      exact (codes_zeros h first n).mono fun G a c e => by rw [NoughtG, if_neg hn]; exact e
theorem codes_nought {b : Bd} (h : Pl b) (first : Int) (n : Nat) : Codes (fun G a c => NoughtAt G a first n c) b (b.nought first n) := by
  unfold Bd.nought
  by_cases hn : n = 0
  · rw [if_pos hn]
    exact (Codes.refl h).mono fun G a c e => by unfold NoughtAt; rw [if_pos hn]; exact e
  · rw [if_neg hn]
    have h1 := codes_put h (iNum 0 0)
    refine (h1.seq h.lt (codes_noughtG n h1.pl first n)).mono fun G a c e => ?_
    unfold NoughtAt
    rw [if_neg hn]
    obtain ⟨m, ⟨i1, rfl⟩, i2⟩ := e
    exact ⟨i1, i2⟩
end
def bd0 : Bd := ⟨0, [blk0], 0⟩
def fnBd (C : Core) (fn : CFn) (last : Bool) : Bd := (CS.buildL C fn.word fn.body (bif last then bd0 else bd0.nought (fn.first + fn.params) (fn.slots - fn.params).toNat)).leave C fn.word
def fnBuild (C : Core) (fn : CFn) (last : Bool) : BFunc := ⟨(fnBd C fn last).regs, (fnBd C fn last).blocks⟩
def Core.m (C : Core) : Int := if C.funcs.any CFn.word then C.words + 1 else C.words
def Core.build (C : Core) : Blocks := ⟨C.m, C.funcs.zipIdx.map fun p => fnBuild C p.1 (p.2 + 1 == C.funcs.length)⟩
theorem pl0 : Pl bd0 := ⟨blk0, rfl, rfl, rfl, rfl, rfl⟩
theorem codes_fn {C : Core} {n : Nat} {fn : CFn} (hok : CS.okL C n fn.word fn.body) (last : Bool) : Pl (fnBd C fn last) ∧ FnAt C (fnBd C fn last).blocks fn last := by
  have h1 : Codes (fun G a c => if last = true then c = a else NoughtAt G a (fn.first + fn.params) (fn.slots - fn.params).toNat c) bd0 (bif last then bd0 else bd0.nought (fn.first + fn.params) (fn.slots - fn.params).toNat) := by
    cases last with
    | true => exact (Codes.refl pl0).mono fun G a c e => by rw [if_pos rfl]; exact e
    | false => exact (codes_nought pl0 _ _).mono fun G a c e => by rw [if_neg (by decide)]; exact e
  have h2 := codes_stmts (C := C) (n := n) (w := fn.word) fn.body (fun st _ => codes_stmt st.parts st (Nat.le_refl _)) hok _ h1.pl
  have h3 := codes_leave h2.pl C fn.word
  have q := h1.seq pl0.lt (h2.seq h1.pl.lt h3)
  refine ⟨h3.pl, ?_⟩
  have hpl : Pl (fnBd C fn last) := h3.pl
  obtain ⟨x, hx, e3, ev, et, ee⟩ := hpl
  have hc := q.code (fnBd C fn last).blocks (fun j => j = (fnBd C fn last).now) (fun j y hy => ⟨y, hy, List.prefix_refl _, fun _ => rfl⟩) ⟨rfl, fun j _ _ h => h, fun h e => h e.symm⟩
  obtain ⟨a1, i1, a2, i2, i3⟩ := hc
  have hp : bd0.pos = (0, 0) := rfl
  rw [hp] at i1
  refine ⟨a1, a2, ?_, i2, leave_of i3 ⟨x, hx, (il_of hx).symm, e3, ev, et, ee⟩⟩
  cases last with
  | true => rw [if_pos rfl] at i1 ⊢; exact i1
  | false => rw [if_neg (by decide)] at i1 ⊢; exact i1
theorem fits_of {t : Tac} {i regs M : Int} (ho : (decide (1 ≤ t.op) && decide (t.op ≤ 10)) = true) (hd : setsOp t.op = true → 0 ≤ t.d ∧ t.d < regs) (hu : ∀ u ∈ t.uses, 0 ≤ u ∧ u < regs) (hr : t.rest i M = true) (hs : t = t.want) : t.fits i regs M = true := by
  unfold Tac.fits
  rw [Bool.and_eq_true] at ho
  rw [ho.1, ho.2, hr, (Tac.same_iff t t.want).2 hs]
  have h1 : (!setsOp t.op || within t.d regs) = true := by
    cases e : setsOp t.op with
    | false => rfl
    | true =>
      have := hd e
      simp [within, this.1, this.2]
  have h2 : (t.uses.all fun r => within r regs) = true := List.all_eq_true.2 fun u hu' => by
    have := hu u hu'
    simp [within, this.1, this.2]
  rw [h1, h2]; rfl
theorem fits_mono {t : Tac} {i regs regs' M : Int} (h : t.fits i regs M = true) (hr : regs ≤ regs') : t.fits i regs' M = true := by
  simp only [Tac.fits, Bool.and_eq_true, Bool.or_eq_true, Bool.not_eq_true', List.all_eq_true, within, decide_eq_true_eq] at h ⊢
  obtain ⟨h1, h2, h3, h4, h5⟩ := h
  refine ⟨h1, h2, h3.imp id fun h => ⟨h.1, by omega⟩, fun u hu => ⟨(h4 u hu).1, by have := (h4 u hu).2; omega⟩, h5⟩
theorem ends_mono {x : Block} {n n' r r' : Int} (h : x.ends n r = true) (hn : n ≤ n') (hr : r ≤ r') : x.ends n' r' = true := by
  unfold Block.ends at h ⊢
  cases e1 : x.fin == 1 with
  | true =>
    rw [e1] at h
    simp only [cond_true, Bool.and_eq_true, within, decide_eq_true_eq] at h ⊢
    exact ⟨⟨h.1.1, by omega⟩, h.2⟩
  | false =>
    cases e2 : x.fin == 2 with
    | true =>
      rw [e1, e2] at h
      simp only [cond_true, cond_false, Bool.and_eq_true, within, decide_eq_true_eq] at h ⊢
      exact ⟨⟨h.1.1, by omega⟩, ⟨h.2.1.1, by omega⟩, h.2.2.1, by omega⟩
    | false =>
      rw [e1, e2] at h
      simpa using h
structure Inv (i M : Int) (b : Bd) : Prop where
  r0 : 0 ≤ b.regs
  ins : ∀ x ∈ b.blocks, ∀ t ∈ x.ins, t.fits i b.regs M = true
  ends : ∀ x ∈ b.blocks, x.ends b.blocks.length b.regs = true
structure Res (i M lo hi : Int) (b b' : Bd) : Prop where
  inv : Inv i M b'
  regs : b.regs ≤ b'.regs
  lo : lo ≤ b'.regs
  hi : b'.regs ≤ max b.regs hi
  len : b.blocks.length ≤ b'.blocks.length
section
variable {i M : Int} {C : Core} {n : Nat}
theorem mem_modify {b : Bd} {g : Block → Block} {y : Block} (h : y ∈ (b.upd g).blocks) : (∃ x, b.blocks[b.now]? = some x ∧ y = g x) ∨ y ∈ b.blocks := by
  obtain ⟨j, hj⟩ := List.mem_iff_getElem?.1 h
  by_cases e : j = b.now
  · subst e
    have hl := (List.getElem?_eq_some_iff.1 hj).1
    rw [upd_len] at hl
    obtain ⟨x, hx⟩ := get_of_lt hl
    rw [upd_at hx] at hj
    exact .inl ⟨x, hx, (Option.some.inj hj).symm⟩
  · rw [upd_ne e] at hj
    exact .inr (List.mem_of_getElem? hj)
theorem inv_put {b : Bd} {t : Tac} (h : Inv i M b) (hd : 0 ≤ t.d) (ht : t.fits i (max b.regs (t.d + 1)) M = true) : Res i M (t.d + 1) (t.d + 1) b (b.put t) := by
  have hr : (b.put t).regs = max b.regs (t.d + 1) := rfl
  have hl : (b.put t).blocks.length = b.blocks.length := upd_len b _
  have hb := h.r0
  refine ⟨⟨by rw [hr]; omega, fun y hy u hu => ?_, fun y hy => ?_⟩, by rw [hr]; omega, by rw [hr]; omega, by rw [hr]; omega, by rw [hl]; exact Nat.le_refl _⟩
  · rw [hr]
    rcases mem_modify (b := b) hy with ⟨x, hx, rfl⟩ | hy
    · rcases List.mem_append.1 (show u ∈ x.ins ++ [t] from hu) with hu | hu
      · exact fits_mono (h.ins x (List.mem_of_getElem? hx) u hu) (by omega)
      · rw [List.mem_singleton.1 hu]; exact ht
    · exact fits_mono (h.ins y hy u hu) (by omega)
  · rw [hr, hl]
    rcases mem_modify (b := b) hy with ⟨x, hx, rfl⟩ | hy
    · exact ends_mono (x := x) (h.ends x (List.mem_of_getElem? hx)) (by omega) (by omega)
    · exact ends_mono (h.ends y hy) (by omega) (by omega)
theorem inv_opened {b : Bd} (h : Inv i M b) : Inv i M b.opened := by
  refine ⟨h.r0, fun y hy u hu => ?_, fun y hy => ?_⟩
  · rcases List.mem_append.1 (show y ∈ b.blocks ++ [blk0] from hy) with hy | hy
    · exact h.ins y hy u hu
    · rw [List.mem_singleton.1 hy] at hu; cases hu
  · rw [opened_len]
    rcases List.mem_append.1 (show y ∈ b.blocks ++ [blk0] from hy) with hy | hy
    · exact ends_mono (h.ends y hy) (by omega) (Int.le_refl _)
    · rw [List.mem_singleton.1 hy]; rfl
theorem inv_upd {b : Bd} {g : Block → Block} (h : Inv i M b) (hi : ∀ x, b.blocks[b.now]? = some x → (g x).ins = x.ins) (he : ∀ x, b.blocks[b.now]? = some x → (g x).ends b.blocks.length b.regs = true) : Inv i M (b.upd g) := by
  refine ⟨h.r0, fun y hy u hu => ?_, fun y hy => ?_⟩
  · rcases mem_modify hy with ⟨x, hx, rfl⟩ | hy
    · rw [hi x hx] at hu
      exact h.ins x (List.mem_of_getElem? hx) u hu
    · exact h.ins y hy u hu
  · rw [upd_len]
    rcases mem_modify hy with ⟨x, hx, rfl⟩ | hy
    · exact he x hx
    · exact h.ends y hy
theorem inv_jump {b : Bd} (h : Inv i M b) (hp : Pl b) {to : Nat} (ht : to < b.blocks.length) : Inv i M (b.jump to) := by
  obtain ⟨x0, hx0, e3, ev, et, ee⟩ := hp
  refine inv_upd h (fun x hx => rfl) fun x hx => ?_
  rw [hx0] at hx; cases hx
  unfold Block.ends
  simp only [show ((1 : Int) == 1) = true from rfl, cond_true, ev, ee, within]
  simp; omega
theorem inv_fork {b : Bd} (h : Inv i M b) {v to els : Nat} (hv : (v : Int) < b.regs) (ht : to < b.blocks.length) (he : els < b.blocks.length) : Inv i M (b.fork v to els) := by
  refine inv_upd h (fun x hx => rfl) fun x hx => ?_
  unfold Block.ends
  simp only [show ((2 : Int) == 1) = false from rfl, show ((2 : Int) == 2) = true from rfl, cond_true, cond_false, within]
  simp; omega
theorem inv_go {b : Bd} (h : Inv i M b) (k : Nat) : Inv i M (b.go k) := ⟨h.r0, h.ins, h.ends⟩
theorem Res.refl {b : Bd} (h : Inv i M b) {lo hi : Int} (hl : lo ≤ b.regs) : Res i M lo hi b b := ⟨h, Int.le_refl _, hl, by omega, Nat.le_refl _⟩
theorem Res.trans {lo1 hi1 lo2 hi2 lo hi : Int} {b b1 b2 : Bd} (h1 : Res i M lo1 hi1 b b1) (h2 : Res i M lo2 hi2 b1 b2) (hl : lo ≤ b2.regs) (h : hi1 ≤ hi) (h' : hi2 ≤ hi) : Res i M lo hi b b2 := by
  have a1 := h1.regs
  have a2 := h2.regs
  have a3 := h1.hi
  have a4 := h2.hi
  exact ⟨h2.inv, by omega, hl, by omega, Nat.le_trans h1.len h2.len⟩
theorem res_not {b : Bd} (h : Inv i M b) (d : Nat) (hd : (d : Int) < b.regs) : Res i M (d + 1) (d + 2) b (b.not d) := by
  have r1 := inv_put (t := iNum (d + 1) 0) h (by show (0 : Int) ≤ ((d + 1 : Nat) : Int); omega) (fits_of rfl (fun _ => by show (0 : Int) ≤ ((d + 1 : Nat) : Int) ∧ ((d + 1 : Nat) : Int) < max b.regs (((d + 1 : Nat) : Int) + 1); omega) (fun u hu => by cases hu) rfl rfl)
  have l1 := r1.lo
  have l1' : ((d + 1 : Nat) : Int) + 1 ≤ (b.put (iNum (d + 1) 0)).regs := l1
  have r2 := inv_put (t := iBin 15 d d (d + 1)) r1.inv (by show (0 : Int) ≤ (d : Int); omega) (fits_of rfl (fun _ => by show (0 : Int) ≤ (d : Int) ∧ (d : Int) < max _ ((d : Int) + 1); omega) (fun u hu => by
    have hu2 : u = (d : Int) ∨ u = ((d + 1 : Nat) : Int) := by
      have : u ∈ [(d : Int), ((d + 1 : Nat) : Int)] := hu
      simpa using this
    show 0 ≤ u ∧ u < max _ ((d : Int) + 1)
    omega) rfl rfl)
  have l2 := r2.lo
  exact r1.trans r2 (by have : (d : Int) + 1 ≤ _ := l2; exact this) (by show ((d + 1 : Nat) : Int) + 1 ≤ (d : Int) + 2; omega) (by show (d : Int) + 1 ≤ (d : Int) + 2; omega)
theorem res_bin {b : Bd} (h : Inv i M b) {op : Int} (d : Nat) (ho : 4 ≤ op ∧ op ≤ 15) (hd : (d : Int) + 1 < b.regs) : Res i M (d + 1) (d + 1) b (b.put (iBin op d d (d + 1))) :=
  inv_put (t := iBin op d d (d + 1)) h (by show (0 : Int) ≤ (d : Int); omega) (fits_of rfl (fun _ => by show (0 : Int) ≤ (d : Int) ∧ (d : Int) < max _ ((d : Int) + 1); omega) (fun u hu => by
    have hu2 : u = (d : Int) ∨ u = ((d + 1 : Nat) : Int) := by
      have : u ∈ [(d : Int), ((d + 1 : Nat) : Int)] := hu
      simpa using this
    show 0 ≤ u ∧ u < max _ ((d : Int) + 1)
    omega) (by
    show (decide (4 ≤ op) && decide (op ≤ 15)) = true
    rw [decide_eq_true ho.1, decide_eq_true ho.2]; rfl) rfl)
theorem not_regs {b : Bd} (d : Nat) (h : (d : Int) < b.regs) : (d : Int) + 1 < (b.not d).regs := by
  show (d : Int) + 1 < max (max b.regs (((d + 1 : Nat) : Int) + 1)) ((d : Int) + 1)
  omega
theorem res_truth {b : Bd} (h : Inv i M b) (e : CE) (d : Nat) (hd : (d : Int) < b.regs) : Res i M (d + 1) (d + 2) b (b.truth e d) := by
  unfold Bd.truth
  cases e.flagged with
  | true => simp only [cond_true]; exact Res.refl h (by omega)
  | false =>
    simp only [cond_false]
    have r1 := res_not h d hd
    have r2 := res_bin (op := 15) r1.inv d ⟨by decide, by decide⟩ (not_regs d hd)
    exact r1.trans r2 r2.lo (Int.le_refl _) (by omega)
theorem res_store {b : Bd} (h : Inv i M b) {w : Int} {a : Nat} (hw : 0 ≤ w ∧ w < M) (ha : (a : Int) < b.regs) : Res i M 0 1 b (b.put (iStore w a)) := by
  have := inv_put (t := iStore w a) h (by show (0 : Int) ≤ 0; omega) (fits_of rfl (fun e => by cases e) (fun u hu => by
    have hu2 : u = (a : Int) := by
      have : u ∈ [(a : Int)] := hu
      simpa using this
    show 0 ≤ u ∧ u < max _ ((0 : Int) + 1)
    omega) (by
    show within w M = true
    simp [within, hw.1, hw.2]) rfl)
  exact ⟨this.inv, this.regs, by have := this.inv.r0; exact this, this.hi, this.len⟩
theorem res_args {b : Bd} (h : Inv i M b) {first : Int} (d : Nat) : ∀ (n : Nat), 0 ≤ first → first + n ≤ M → (d + n : Nat) ≤ b.regs → Res i M 0 1 b (b.args first d n)
  | 0, _, _, _ => Res.refl h h.r0
  | n + 1, h0, h1, h2 => by
    have ih := res_args h d n h0 (by omega) (by omega)
    have hr := ih.regs
    have r2 := res_store (w := first + n) (a := d + n) ih.inv ⟨by omega, by omega⟩ (by omega)
    exact ih.trans r2 r2.lo (Int.le_refl _) (Int.le_refl _)
theorem res_called {b : Bd} (h : Inv i M b) {g : Int} {k d : Nat} (hg : 0 ≤ g ∧ g < i) (h0 : 0 ≤ C.first g) (h1 : C.first g + k ≤ M) (h2 : (d + k : Nat) ≤ b.regs) : Res i M 0 1 b (b.called C g k d) := by
  have r1 := res_args h d k h0 h1 h2
  have r2 := inv_put (t := iCall g) r1.inv (by show (0 : Int) ≤ 0; omega) (fits_of rfl (fun e => by cases e) (fun u hu => by cases hu) (by
    show within g i = true
    simp [within, hg.1, hg.2]) rfl)
  exact r1.trans r2 r2.inv.r0 (Int.le_refl _) (by show (0 : Int) + 1 ≤ 1; omega)
theorem res_inside {b : Bd} {k to : Nat} {f : Bd → Bd} {hi : Int} (hb : Inv i M b) (hf : Res i M 0 hi (b.go k) (f (b.go k))) (hp : Pl (f (b.go k))) (ht : to < b.blocks.length) : Res i M 0 hi b (b.inside k to f) := by
  have hl := hf.len
  have hr := hf.regs
  have h2 := hf.hi
  have hgl : (b.go k).blocks.length = b.blocks.length := rfl
  have hgr : (b.go k).regs = b.regs := rfl
  have := inv_jump hf.inv hp (to := to) (by omega)
  have hll : ((f (b.go k)).jump to).blocks.length = (f (b.go k)).blocks.length := upd_len _ _
  exact ⟨inv_go this _, hr, hf.inv.r0, h2, by show _ ≤ ((f (b.go k)).jump to).blocks.length; omega⟩
structure NeedE (C : Core) (n : Nat) (M : Int) : Prop where
  w0 : 0 ≤ C.words
  wm : C.words ≤ M
  told : ∀ fn ∈ C.funcs, fn.word = true → C.words < M
  fn : ∀ (g : Nat) (fn : CFn), C.funcs[g]? = some fn → 0 ≤ fn.first ∧ fn.first + fn.params ≤ C.words
theorem res_right {b : Bd} (h : Inv i M b) (hp : Pl b) {k : Int} {d : Nat} {hi : Int} (hd : (d : Int) < b.regs) (hhi : (d : Int) + 1 ≤ hi) {f : Bd → Bd} (hf : ∀ b0, Pl b0 → Inv i M b0 → b.regs ≤ b0.regs → Res i M 0 hi b0 (f b0) ∧ Pl (f b0)) :
    Res i M (d + 1) hi b (((b.either0 k d).inside b.blocks.length (b.blocks.length + 1) f).go (b.blocks.length + 1)) := by
  have i2 := inv_opened (inv_opened h)
  have l2 : b.opened.opened.blocks.length = b.blocks.length + 2 := by rw [opened_len, opened_len]
  have hb1 : Inv i M (b.either0 k d) := by
    unfold Bd.either0
    cases k == 8
    · exact inv_fork i2 (v := d) hd (by omega) (by omega)
    · exact inv_fork i2 (v := d) hd (by omega) (by omega)
  have l1 : (b.either0 k d).blocks.length = b.blocks.length + 2 := by
    unfold Bd.either0
    cases k == 8
    · exact (upd_len b.opened.opened _).trans l2
    · exact (upd_len b.opened.opened _).trans l2
  have hr1 : (b.either0 k d).regs = b.regs := by unfold Bd.either0; cases k == 8 <;> rfl
  have hlt := hp.lt
  have n1 : (b.either0 k d).blocks[b.blocks.length]? = some blk0 := by
    have e : b.opened.opened.blocks[b.blocks.length]? = some blk0 := (opened_old (by rw [opened_len]; omega)).trans (opened_at b)
    unfold Bd.either0
    cases k == 8
    · exact (upd_ne (b := b.opened.opened) z34q).trans e
    · exact (upd_ne (b := b.opened.opened) z34q).trans e
  obtain ⟨f1, f2⟩ := hf ((b.either0 k d).go b.blocks.length) ⟨blk0, n1, rfl, rfl, rfl, rfl⟩ (inv_go hb1 _) (by show b.regs ≤ (b.either0 k d).regs; omega)
  have r := res_inside hb1 f1 f2 (to := b.blocks.length + 1) (by omega)
  have a1 := r.regs
  have a2 := r.hi
  have a3 := r.len
  exact ⟨inv_go r.inv _, by show b.regs ≤ _; have : b.regs ≤ ((b.either0 k d).inside b.blocks.length (b.blocks.length + 1) f).regs := by omega
                            exact this, by show (d : Int) + 1 ≤ ((b.either0 k d).inside b.blocks.length (b.blocks.length + 1) f).regs; omega, by show ((b.either0 k d).inside b.blocks.length (b.blocks.length + 1) f).regs ≤ _; omega, by show b.blocks.length ≤ ((b.either0 k d).inside b.blocks.length (b.blocks.length + 1) f).blocks.length; omega⟩
def ResE (C : Core) (n : Nat) (M : Int) (e : CE) : Prop := e.ok C n → ∀ (d : Nat) (b : Bd), Pl b → Inv n M b → Res n M (d + 1) (d + e.parts + 1) b (e.build C d b)
theorem res_list : ∀ (l : List CE), (∀ e ∈ l, ResE C n M e) → CE.okL C n l → ∀ (d : Nat) (b : Bd), Pl b → Inv n M b → Res n M (if l = [] then 0 else d + l.length) (d + CE.partsL l + 1) b (CE.buildL C l d b)
  | [], _, _, d, b, hp, hb => by
    rw [CE.buildL, if_pos rfl]
    exact Res.refl hb hb.r0
  | e :: l, hI, hok, d, b, hp, hb => by
    rw [CE.buildL, if_neg (by simp)]
    rw [CE.okL] at hok
    rw [CE.partsL]
    have r1 := hI e (List.mem_cons.2 (.inl rfl)) hok.1 d b hp hb
    have p1 := (codes_expr e.parts e (Nat.le_refl _) hok.1 d b hp).pl
    have r2 := res_list l (fun e he => hI e (List.mem_cons.2 (.inr he))) hok.2 (d + 1) (e.build C d b) p1 r1.inv
    have a1 := r1.lo
    have a2 := r2.regs
    have a3 := r2.lo
    refine r1.trans r2 ?_ (by omega) ?_
    · rw [List.length_cons]
      by_cases hl : l = []
      · subst hl; simp at a2 ⊢; omega
      · rw [if_neg hl] at a3; omega
    · have : ∀ e : CE, 1 ≤ e.parts := fun e => by cases e; rw [CE.parts]; omega
      have := this e
      omega
theorem res_expr (hN : NeedE C n M) : ∀ (m : Nat) (e : CE), e.parts ≤ m → ResE C n M e
  | 0, e, h => by cases e; rw [CE.parts] at h; omega
  | m + 1, e, hm => by
    cases e with
    | mk k o num sl z kids =>
    rw [CE.parts] at hm
    have hI : ∀ e ∈ kids, ResE C n M e := fun e he => res_expr hN m e (by have := parts_mem he; omega)
    intro hok d b hp hb
    rw [CE.ok] at hok
    rw [CE.parts]
    obtain ⟨hkids, hk⟩ := hok
    have w0 := hN.w0
    have wm := hN.wm
    have hL := res_list kids hI hkids d b hp hb
    have pL := (codes_exprs hkids d b hp).pl
    have hone : ∀ (b : Bd) (t : Tac), Inv n M b → t.d = (d : Int) → t.fits n (max b.regs (t.d + 1)) M = true → Res n M (d + 1) (d + 1) b (b.put t) := fun b t h1 h2 h3 => by
      have := inv_put h1 (by omega) h3
      rw [h2] at this; exact this
    rcases hk with ⟨rfl, hw⟩ | ⟨rfl, h0, h1⟩ | ⟨rfl, h1, z1, z2, s0, s1⟩ | ⟨rfl, s0, s1, fn, hfn, hwd, hpar, h6⟩ | rfl | ⟨rfl, h2, o1, o2⟩ | ⟨rfl, h1⟩ | ⟨rfl, h2⟩ | ⟨rfl, h2⟩
    · rw [CE.build, if_pos rfl]
      have r := hone b (iNum d num) hb rfl (fits_of rfl (fun _ => by show (0 : Int) ≤ (d : Int) ∧ (d : Int) < max _ ((d : Int) + 1); omega) (fun u hu => by cases hu) rfl rfl)
      exact (Res.refl hb hb.r0 (hi := 0)).trans r r.lo (by omega) (by omega)
    · rw [CE.build, if_neg (by decide), if_pos rfl]
      have r := hone b (iLoad d sl) hb rfl (fits_of rfl (fun _ => by show (0 : Int) ≤ (d : Int) ∧ (d : Int) < max _ ((d : Int) + 1); omega) (fun u hu => by cases hu) (by show within sl M = true; simp [within, h0]; omega) rfl)
      exact (Res.refl hb hb.r0 (hi := 0)).trans r r.lo (by omega) (by omega)
    · rw [CE.build, if_neg (by decide), if_neg (by decide), if_pos rfl]
      obtain ⟨e, rfl⟩ := len_one h1
      have a1 := hL.lo
      rw [if_neg (by simp)] at a1
      have r := hone _ (iALoad d d sl z) hL.inv rfl (fits_of rfl (fun _ => by show (0 : Int) ≤ (d : Int) ∧ (d : Int) < max _ ((d : Int) + 1); omega) (fun u hu => by
        have hu2 : u = (d : Int) := by
          have : u ∈ [(d : Int)] := hu
          simpa using this
        show 0 ≤ u ∧ u < max _ ((d : Int) + 1)
        omega) (by
        show (decide (1 ≤ z) && (decide (z ≤ 4096) && (decide (0 ≤ sl) && decide (sl ≤ M - z)))) = true
        rw [decide_eq_true z1, decide_eq_true z2, decide_eq_true s0, decide_eq_true (by omega)]; rfl) rfl)
      exact hL.trans r r.lo (by omega) (by omega)
    · rw [CE.build, if_neg (by decide), if_neg (by decide), if_neg (by decide), if_pos rfl]
      have a1 := hL.lo
      have f1 := hN.fn sl.toNat fn hfn
      have ef : C.first sl = fn.first := fn_first hfn
      have htold := hN.told fn (List.mem_of_getElem? hfn) hwd
      have hlen : (d + kids.length : Nat) ≤ (CE.buildL C kids d b).regs ∨ kids.length = 0 := by
        by_cases hkn : kids = []
        · subst hkn; exact .inr rfl
        · rw [if_neg hkn] at a1; left; omega
      have hb0 := hL.inv.r0
      by_cases hz : kids.length = 0
      · have hk0 : kids = [] := List.length_eq_zero_iff.1 hz
        subst hk0
        have r2 : Res n M 0 1 (CE.buildL C [] d b) ((CE.buildL C [] d b).called C sl 0 d) := by
          have r3 := inv_put (t := iCall sl) hL.inv (by show (0 : Int) ≤ 0; omega) (fits_of rfl (fun e => by cases e) (fun u hu => by cases hu) (by
            show within sl n = true
            simp [within, s0, s1]) rfl)
          exact ⟨r3.inv, r3.regs, r3.inv.r0, by have := r3.hi; exact this, r3.len⟩
        have r := hone _ (iLoad d C.words) r2.inv rfl (fits_of rfl (fun _ => by show (0 : Int) ≤ (d : Int) ∧ (d : Int) < max _ ((d : Int) + 1); omega) (fun u hu => by cases hu) (by show within C.words M = true; simp [within, w0, htold]) rfl)
        exact (hL.trans r2 r2.lo (hi := d + 1 + 1) (by rw [CE.partsL]; omega) (by omega)).trans r r.lo (by rw [CE.partsL]; omega) (by omega)
      · have h3 := hlen.resolve_right hz
        have r2 := res_called (C := C) (g := sl) (k := kids.length) (d := d) hL.inv ⟨s0, s1⟩ (by rw [ef]; exact f1.1) (by rw [ef]; omega) h3
        have r := hone _ (iLoad d C.words) r2.inv rfl (fits_of rfl (fun _ => by show (0 : Int) ≤ (d : Int) ∧ (d : Int) < max _ ((d : Int) + 1); omega) (fun u hu => by cases hu) (by show within C.words M = true; simp [within, w0, htold]) rfl)
        exact (hL.trans r2 r2.lo (hi := d + CE.partsL kids + 1) (by omega) (by omega)).trans r r.lo (by omega) (by omega)
    · rw [CE.build, if_neg (by decide), if_neg (by decide), if_neg (by decide), if_neg (by decide), if_pos rfl]
      have r := hone b (iGet d) hb rfl (fits_of rfl (fun _ => by show (0 : Int) ≤ (d : Int) ∧ (d : Int) < max _ ((d : Int) + 1); omega) (fun u hu => by cases hu) rfl rfl)
      exact (Res.refl hb hb.r0 (hi := 0)).trans r r.lo (by omega) (by omega)
    · rw [CE.build, if_neg (by decide), if_neg (by decide), if_neg (by decide), if_neg (by decide), if_neg (by decide), if_pos rfl]
      obtain ⟨e1, e2, rfl⟩ := len_two h2
      have a1 := hL.lo
      rw [if_neg (by simp)] at a1
      have a2 : (d : Int) + 2 ≤ (CE.buildL C [e1, e2] d b).regs := a1
      have r := res_bin (op := o) hL.inv d ⟨o1, o2⟩ (by omega)
      exact hL.trans r r.lo (by omega) (by omega)
    · rw [CE.build, if_neg (by decide), if_neg (by decide), if_neg (by decide), if_neg (by decide), if_neg (by decide), if_neg (by decide), if_pos rfl]
      obtain ⟨e, rfl⟩ := len_one h1
      have a1 := hL.lo
      rw [if_neg (by simp)] at a1
      have a2 : (d : Int) + 1 ≤ (CE.buildL C [e] d b).regs := a1
      have he : 1 ≤ CE.partsL [e] := by rw [CE.partsL]; cases e; rw [CE.parts]; omega
      have r := res_not hL.inv d (by omega)
      exact hL.trans r r.lo (by omega) (by omega)
    all_goals
      obtain ⟨e1, e2, rfl⟩ := len_two h2
      rw [CE.build, if_neg (by decide), if_neg (by decide), if_neg (by decide), if_neg (by decide), if_neg (by decide), if_neg (by decide), if_neg (by decide), if_pos (by decide), CE.buildE, CE.buildR]
      rw [CE.okL, CE.okL] at hkids
      have q1 : 1 ≤ e1.parts := by cases e1; rw [CE.parts]; omega
      have q2 : 1 ≤ e2.parts := by cases e2; rw [CE.parts]; omega
      have r1 := hI e1 (by simp) hkids.1 d b hp hb
      have p1 := (codes_expr e1.parts e1 (Nat.le_refl _) hkids.1 d b hp).pl
      have lo1 := r1.lo
      have r2 := res_truth r1.inv e1 d (by omega)
      have p2 := (codes_truth p1 e1 d).pl
      have lo2 := r2.lo
      have hR : ∀ b0, Pl b0 → Inv n M b0 → _ → Res n M 0 (d + e2.parts + 2) b0 ((e2.build C d b0).truth e2 d) ∧ Pl ((e2.build C d b0).truth e2 d) := fun b0 hp0 hb0 (_ : True) => by
        have s1 := hI e2 (by simp) hkids.2.1 d b0 hp0 hb0
        have lo3 := s1.lo
        have s2 := res_truth s1.inv e2 d (by omega)
        have pl2 := (codes_expr e2.parts e2 (Nat.le_refl _) hkids.2.1 d b0 hp0).pl
        exact ⟨s1.trans s2 s2.inv.r0 (by omega) (by omega), (codes_truth pl2 e2 d).pl⟩
      simp only [CE.partsL]
      first
      | (have r3 := res_right (k := 8) (d := d) (hi := d + e2.parts + 2) r2.inv p2 (by omega) (by omega) (f := fun x => (e2.build C d x).truth e2 d) (fun b0 h1 h2 _ => hR b0 h1 h2 trivial); exact (r1.trans r2 lo2 (hi := d + e1.parts + 2) (by omega) (by omega)).trans r3 r3.lo (by omega) (by omega))
      | (have r3 := res_right (k := 9) (d := d) (hi := d + e2.parts + 2) r2.inv p2 (by omega) (by omega) (f := fun x => (e2.build C d x).truth e2 d) (fun b0 h1 h2 _ => hR b0 h1 h2 trivial); exact (r1.trans r2 lo2 (hi := d + e1.parts + 2) (by omega) (by omega)).trans r3 r3.lo (by omega) (by omega))
end
section
variable {M : Int} {C : Core} {n : Nat} {w : Bool}
theorem res_exprs (hN : NeedE C n M) {l : List CE} (hok : CE.okL C n l) (d : Nat) (b : Bd) (hp : Pl b) (hb : Inv n M b) : Res n M (if l = [] then 0 else d + l.length) (d + CE.partsL l + 1) b (CE.buildL C l d b) :=
  res_list l (fun e _ => res_expr hN e.parts e (Nat.le_refl _)) hok d b hp hb
theorem parts_pos (st : CS) : 1 ≤ st.parts := by cases st; rw [CS.parts]; omega
theorem res_leave {b : Bd} (hN : NeedE C n M) (hw : w = true → C.words < M) (hp : Pl b) (hb : Inv n M b) : Res n M 0 1 b (b.leave C w) := by
  unfold Bd.leave
  cases w with
  | false =>
    simp only [cond_false]
    rw [ret_self hp]
    exact Res.refl hb hb.r0
  | true =>
    simp only [cond_true]
    have h1 := codes_put hp (iNum 0 0)
    have h2 := codes_put h1.pl (iStore C.words 0)
    rw [ret_self h2.pl]
    have r1 := inv_put (t := iNum 0 0) hb (by show (0 : Int) ≤ 0; omega) (fits_of rfl (fun _ => by show (0 : Int) ≤ 0 ∧ (0 : Int) < max _ ((0 : Int) + 1); omega) (fun u hu => by cases hu) rfl rfl)
    have l1 : (0 : Int) + 1 ≤ (b.put (iNum 0 0)).regs := r1.lo
    have r2 := res_store (w := C.words) (a := 0) r1.inv ⟨hN.w0, hw rfl⟩ (by show (0 : Int) < _; omega)
    exact r1.trans r2 r2.lo (by show (0 : Int) + 1 ≤ 1; omega) (Int.le_refl _)
theorem res_next {b : Bd} (hb : Inv n M b) : Res n M 0 0 b b.next := ⟨inv_go (inv_opened hb) _, Int.le_refl _, hb.r0, by show b.regs ≤ _; omega, by show _ ≤ b.opened.blocks.length; rw [opened_len]; omega⟩
theorem right_of' {b : Blocks} (h1 : 0 ≤ b.words) (h2 : b.words ≤ 1048576) (h3 : b.funcs ≠ []) (h4 : ∀ (i : Nat) (f : BFunc), b.funcs[i]? = some f → f.one (i : Int) b.words = true) : b.right = true := by
  unfold Blocks.right
  rw [decide_eq_true h1, decide_eq_true h2]
  have : b.funcs.isEmpty = false := by simpa using h3
  rw [this]
  simp only [Bool.not_false, Bool.true_and]
  refine List.all_eq_true.2 fun p hp => ?_
  obtain ⟨i, hi⟩ := List.mem_iff_getElem?.1 hp
  rw [List.getElem?_zipIdx] at hi
  cases e : b.funcs[i]? with
  | none => rw [e] at hi; simp at hi
  | some f =>
    rw [e] at hi
    simp at hi
    subst hi
    exact h4 i f e
def ResS (C : Core) (n : Nat) (M : Int) (w : Bool) (st : CS) : Prop := st.ok C n w → ∀ (b : Bd), Pl b → Inv n M b → Res n M 0 (st.parts + 1) b (st.build C w b)
theorem res_stmts (B : Int) : ∀ (l : List CS), (∀ st ∈ l, ResS C n M w st) → (∀ st ∈ l, (st.parts : Int) + 1 ≤ B) → CS.okL C n w l → ∀ (b : Bd), Pl b → Inv n M b → Res n M 0 B b (CS.buildL C w l b)
  | [], _, _, _, b, hp, hb => by
    rw [CS.buildL]
    exact Res.refl hb hb.r0
  | st :: l, hI, hB, hok, b, hp, hb => by
    rw [CS.buildL]
    rw [CS.okL] at hok
    have r1 := hI st (List.mem_cons.2 (.inl rfl)) hok.1 b hp hb
    have p1 := (codes_stmt st.parts st (Nat.le_refl _) hok.1 b hp).pl
    have r2 := res_stmts B l (fun st he => hI st (List.mem_cons.2 (.inr he))) (fun st he => hB st (List.mem_cons.2 (.inr he))) hok.2 (st.build C w b) p1 r1.inv
    exact r1.trans r2 r2.lo (hB st (List.mem_cons.2 (.inl rfl))) (Int.le_refl _)
theorem res_choice {b : Bd} (hb : Inv n M b) (hp : Pl b) {hi : Int} (h0 : 0 < b.regs) {RT RE : List Block → Pos → Pos → Prop} {fT fE : Bd → Bd} (hT : ∀ b0, Pl b0 → Codes RT b0 (fT b0)) (hE : ∀ b0, Pl b0 → Codes RE b0 (fE b0)) (rT : ∀ b0, Pl b0 → Inv n M b0 → Res n M 0 hi b0 (fT b0)) (rE : ∀ b0, Pl b0 → Inv n M b0 → Res n M 0 hi b0 (fE b0)) :
    Res n M 0 hi b (((((b.opened.opened.opened).inside (b.blocks.length + 2) (b.blocks.length + 1) fE).fork 0 b.blocks.length (b.blocks.length + 2)).inside b.blocks.length (b.blocks.length + 1) fT).go (b.blocks.length + 1)) := by
  have hlt := hp.lt
  have i3 := inv_opened (inv_opened (inv_opened hb))
  have l3 : b.opened.opened.opened.blocks.length = b.blocks.length + 3 := by rw [opened_len, opened_len, opened_len]
  have n0 : b.opened.opened.opened.blocks[b.blocks.length]? = some blk0 := by
    rw [opened_old (by rw [opened_len, opened_len]; omega), opened_old (by rw [opened_len]; omega)]; exact opened_at b
  have n2 : b.opened.opened.opened.blocks[b.blocks.length + 2]? = some blk0 := by
    have := opened_at b.opened.opened
    rwa [opened_len, opened_len] at this
  have hr3 : b.opened.opened.opened.regs = b.regs := rfl
  have hn3 : b.opened.opened.opened.now = b.now := rfl
  generalize b.opened.opened.opened = b3 at i3 l3 n0 n2 hr3 hn3 ⊢
  have pl2 : Pl (b3.go (b.blocks.length + 2)) := ⟨blk0, n2, rfl, rfl, rfl, rfl⟩
  have cE := hE _ pl2
  have r4 := res_inside i3 (rE _ pl2 (inv_go i3 _)) cE.pl (to := b.blocks.length + 1) (by omega)
  have iE := inside_ok (to := b.blocks.length + 1) n2 cE
  generalize b3.inside (b.blocks.length + 2) (b.blocks.length + 1) fE = b4 at r4 iE ⊢
  have l4 := r4.len
  have g4 := r4.regs
  have k4 := r4.hi
  have hn4 : b4.now = b.now := iE.now.trans hn3
  have i5 := inv_fork r4.inv (v := 0) (to := b.blocks.length) (els := b.blocks.length + 2) (by show (0 : Int) < _; omega) (by omega) (by omega)
  have n5 : (b4.fork 0 b.blocks.length (b.blocks.length + 2)).blocks[b.blocks.length]? = some blk0 := (upd_ne (b := b4) (by rw [hn4]; omega)).trans ((iE.old _ (by omega) (by omega)).trans n0)
  have l5 : (b4.fork 0 b.blocks.length (b.blocks.length + 2)).blocks.length = b4.blocks.length := upd_len b4 _
  have g5 : (b4.fork 0 b.blocks.length (b.blocks.length + 2)).regs = b4.regs := rfl
  generalize b4.fork 0 b.blocks.length (b.blocks.length + 2) = b5 at i5 n5 l5 g5 ⊢
  have pl5 : Pl (b5.go b.blocks.length) := ⟨blk0, n5, rfl, rfl, rfl, rfl⟩
  have cT := hT _ pl5
  have r6 := res_inside i5 (rT _ pl5 (inv_go i5 _)) cT.pl (to := b.blocks.length + 1) (by omega)
  generalize b5.inside b.blocks.length (b.blocks.length + 1) fT = b6 at r6 ⊢
  have l6 := r6.len
  have g6 := r6.regs
  have k6 := r6.hi
  exact ⟨inv_go r6.inv _, by show b.regs ≤ b6.regs; omega, r6.inv.r0, by show b6.regs ≤ _; omega, by show _ ≤ b6.blocks.length; omega⟩
theorem res_loop {b : Bd} (hb : Inv n M b) (hp : Pl b) {hi : Int} {RC RT : List Block → Pos → Pos → Prop} {fC fT : Bd → Bd} (hC : ∀ b0, Pl b0 → Codes RC b0 (fC b0)) (hT : ∀ b0, Pl b0 → Codes RT b0 (fT b0)) (rC : ∀ b0, Pl b0 → Inv n M b0 → Res n M 1 hi b0 (fC b0)) (rT : ∀ b0, Pl b0 → Inv n M b0 → Res n M 0 hi b0 (fT b0)) :
    Res n M 0 hi b ((((fC (((b.opened.opened.opened).inside b.now b.blocks.length fun x => x).go b.blocks.length)).fork 0 (b.blocks.length + 1) (b.blocks.length + 2)).inside (b.blocks.length + 1) b.blocks.length fT).go (b.blocks.length + 2)) := by
  obtain ⟨x, hx, e3, ev, et, ee⟩ := hp
  have hlt := (List.getElem?_eq_some_iff.1 hx).1
  have i3 := inv_opened (inv_opened (inv_opened hb))
  have l3 : b.opened.opened.opened.blocks.length = b.blocks.length + 3 := by rw [opened_len, opened_len, opened_len]
  have n0 : b.opened.opened.opened.blocks[b.blocks.length]? = some blk0 := by
    rw [opened_old (by rw [opened_len, opened_len]; omega), opened_old (by rw [opened_len]; omega)]; exact opened_at b
  have n1 : b.opened.opened.opened.blocks[b.blocks.length + 1]? = some blk0 := by
    rw [opened_old (by rw [opened_len, opened_len]; omega)]
    have := opened_at b.opened
    rwa [opened_len] at this
  have x3 : b.opened.opened.opened.blocks[b.now]? = some x := by
    rw [opened_old (by rw [opened_len, opened_len]; omega), opened_old (by rw [opened_len]; omega), opened_old hlt]; exact hx
  have eB : ((b.opened.opened.opened).inside b.now b.blocks.length fun x => x).go b.blocks.length = (b.opened.opened.opened.jump b.blocks.length).go b.blocks.length := rfl
  rw [eB]
  have ij := inv_jump i3 ⟨x, x3, e3, ev, et, ee⟩ (to := b.blocks.length) (by omega)
  have j0 : (b.opened.opened.opened.jump b.blocks.length).blocks[b.blocks.length]? = some blk0 := (upd_ne (b := b.opened.opened.opened) z34q).trans n0
  have j1 : (b.opened.opened.opened.jump b.blocks.length).blocks[b.blocks.length + 1]? = some blk0 := (upd_ne (b := b.opened.opened.opened) (by show b.blocks.length + 1 ≠ b.now; omega)).trans n1
  have lj : (b.opened.opened.opened.jump b.blocks.length).blocks.length = b.blocks.length + 3 := (upd_len _ _).trans l3
  have gj : (b.opened.opened.opened.jump b.blocks.length).regs = b.regs := rfl
  generalize b.opened.opened.opened.jump b.blocks.length = bj at ij j0 j1 lj gj ⊢
  have plj : Pl (bj.go b.blocks.length) := ⟨blk0, j0, rfl, rfl, rfl, rfl⟩
  have cC := hC _ plj
  have rc := rC _ plj (inv_go ij _)
  have lgo : (bj.go b.blocks.length).blocks.length = b.blocks.length + 3 := lj
  have ggo : (bj.go b.blocks.length).regs = b.regs := gj
  generalize fC (bj.go b.blocks.length) = bc at cC rc ⊢
  have c1 := rc.len
  have c2 := rc.regs
  have c3 := rc.hi
  have c4 := rc.lo
  have hcn : bc.now = b.blocks.length ∨ b.blocks.length + 3 ≤ bc.now := by
    have := cC.fr.now
    rw [lgo] at this; exact this
  have ic := inv_fork rc.inv (v := 0) (to := b.blocks.length + 1) (els := b.blocks.length + 2) (by show (0 : Int) < _; omega) (by omega) (by omega)
  have f1 : (bc.fork 0 (b.blocks.length + 1) (b.blocks.length + 2)).blocks[b.blocks.length + 1]? = some blk0 := (upd_ne (b := bc) (by omega)).trans (cC.fr.old _ _ (by show b.blocks.length + 1 ≠ b.blocks.length; omega) j1)
  have lf : (bc.fork 0 (b.blocks.length + 1) (b.blocks.length + 2)).blocks.length = bc.blocks.length := upd_len bc _
  have gf : (bc.fork 0 (b.blocks.length + 1) (b.blocks.length + 2)).regs = bc.regs := rfl
  generalize bc.fork 0 (b.blocks.length + 1) (b.blocks.length + 2) = bf at ic f1 lf gf ⊢
  have plf : Pl (bf.go (b.blocks.length + 1)) := ⟨blk0, f1, rfl, rfl, rfl, rfl⟩
  have cT := hT _ plf
  have r6 := res_inside ic (rT _ plf (inv_go ic _)) cT.pl (to := b.blocks.length) (by omega)
  generalize bf.inside (b.blocks.length + 1) b.blocks.length fT = b6 at r6 ⊢
  have l6 := r6.len
  have g6 := r6.regs
  have k6 := r6.hi
  exact ⟨inv_go r6.inv _, by show b.regs ≤ b6.regs; omega, r6.inv.r0, by show b6.regs ≤ _; omega, by show _ ≤ b6.blocks.length; omega⟩
theorem res_stmt (hN : NeedE C n M) (hw : w = true → C.words < M) : ∀ (m : Nat) (st : CS), st.parts ≤ m → ResS C n M w st
  | 0, st, h => by have := parts_pos st; omega
  | m + 1, st, hm => by
    cases st with
    | mk k s z es thn els =>
    rw [CS.parts] at hm
    have hT : ∀ st ∈ thn, ResS C n M w st := fun st hs => res_stmt hN hw m st (by have := sparts_mem hs; omega)
    have hL : ∀ st ∈ els, ResS C n M w st := fun st hs => res_stmt hN hw m st (by have := sparts_mem hs; omega)
    intro hok b hp hb
    rw [CS.ok] at hok
    rw [CS.parts]
    obtain ⟨hes, hthn, hels, hk⟩ := hok
    have hE := res_exprs hN hes 0 b hp hb
    have pE := (codes_exprs hes 0 b hp).pl
    have w0 := hN.w0
    have wm := hN.wm
    have lo1 := hE.lo
    have hput : ∀ (b : Bd) (t : Tac), Inv n M b → t.d = 0 → t.fits n (max b.regs (t.d + 1)) M = true → Res n M 0 1 b (b.put t) := fun b t h1 h2 h3 => by
      have := inv_put h1 (by omega) h3
      exact ⟨this.inv, this.regs, this.inv.r0, by have h4 := this.hi; rw [h2] at h4; exact h4, this.len⟩
    rcases hk with ⟨rfl, h1, s0, s1⟩ | ⟨rfl, h2, z1, z2, s0, s1⟩ | ⟨rfl, h1⟩ | ⟨rfl, h1⟩ | ⟨rfl, h1⟩ | ⟨rfl, s0, s1, fn, hfn, hwd, hpar, h6⟩ | ⟨rfl, h1⟩
    · rw [CS.build, if_pos rfl]
      obtain ⟨e, rfl⟩ := len_one h1
      rw [if_neg (by simp)] at lo1
      have lo2 : (1 : Int) ≤ (CE.buildL C [e] 0 b).regs := lo1
      have r2 := res_store (w := s) (a := 0) hE.inv ⟨s0, by omega⟩ (by show (0 : Int) < _; omega)
      exact hE.trans r2 r2.lo (by omega) (by omega)
    · rw [CS.build, if_neg (by decide), if_pos rfl]
      obtain ⟨e1, e2, rfl⟩ := len_two h2
      rw [if_neg (by simp)] at lo1
      have lo2 : (2 : Int) ≤ (CE.buildL C [e1, e2] 0 b).regs := lo1
      have r2 := hput _ (iAStore 0 1 s z) hE.inv rfl (fits_of rfl (fun e => by cases e) (fun u hu => by
        have hu2 : u = 0 ∨ u = 1 := by
          have : u ∈ [(0 : Int), 1] := hu
          simpa using this
        show 0 ≤ u ∧ u < max _ ((0 : Int) + 1)
        omega) (by
        show (decide (1 ≤ z) && (decide (z ≤ 4096) && (decide (0 ≤ s) && decide (s ≤ M - z)))) = true
        rw [decide_eq_true z1, decide_eq_true z2, decide_eq_true s0, decide_eq_true (by omega)]; rfl) rfl)
      exact hE.trans r2 r2.lo (by omega) (by omega)
    · rw [CS.build, if_neg (by decide), if_neg (by decide), if_pos rfl]
      obtain ⟨e, rfl⟩ := len_one h1
      rw [if_neg (by simp)] at lo1
      have lo2 : (1 : Int) ≤ (CE.buildL C [e] 0 b).regs := lo1
      have r2 := hput _ (iPut 0) hE.inv rfl (fits_of rfl (fun e => by cases e) (fun u hu => by
        have hu2 : u = 0 := by
          have : u ∈ [(0 : Int)] := hu
          simpa using this
        show 0 ≤ u ∧ u < max _ ((0 : Int) + 1)
        omega) rfl rfl)
      exact hE.trans r2 r2.lo (by omega) (by omega)
    · rw [CS.build, if_neg (by decide), if_neg (by decide), if_neg (by decide), if_neg (by decide), if_neg (by decide), if_pos rfl]
      dsimp only
      obtain ⟨e, rfl⟩ := len_one h1
      rw [if_neg (by simp)] at lo1
      have lo2 : (1 : Int) ≤ (CE.buildL C [e] 0 b).regs := lo1
      have fT : ∀ b0, Pl b0 → Codes (fun G a c => CS.codeL C w G thn a c) b0 (CS.buildL C w thn b0) := fun b0 h0 => codes_stmts thn (fun st _ => codes_stmt st.parts st (Nat.le_refl _)) hthn b0 h0
      have fE : ∀ b0, Pl b0 → Codes (fun G a c => CS.codeL C w G els a c) b0 (CS.buildL C w els b0) := fun b0 h0 => codes_stmts els (fun st _ => codes_stmt st.parts st (Nat.le_refl _)) hels b0 h0
      have rT : ∀ b0, Pl b0 → Inv n M b0 → Res n M 0 ((1 + CE.partsL [e] + CS.partsL thn + CS.partsL els : Nat) + 1) b0 (CS.buildL C w thn b0) := fun b0 h0 h1 => res_stmts _ thn hT (fun st hs => by have := sparts_mem hs; omega) hthn b0 h0 h1
      have rE : ∀ b0, Pl b0 → Inv n M b0 → Res n M 0 ((1 + CE.partsL [e] + CS.partsL thn + CS.partsL els : Nat) + 1) b0 (CS.buildL C w els b0) := fun b0 h0 h1 => res_stmts _ els hL (fun st hs => by have := sparts_mem hs; omega) hels b0 h0 h1
      by_cases he : els = []
      · rw [if_pos he]
        have r2 := res_right (k := 8) (d := 0) (hi := ((1 + CE.partsL [e] + CS.partsL thn + CS.partsL els : Nat) + 1)) hE.inv pE (by show (0 : Int) < _; omega) (by omega) (f := fun x => CS.buildL C w thn x) (fun b0 h0 h1 _ => ⟨rT b0 h0 h1, (fT b0 h0).pl⟩)
        exact hE.trans r2 r2.inv.r0 (by omega) (Int.le_refl _)
      · rw [if_neg he]
        have r2 := res_choice hE.inv pE (by omega) fT fE rT rE
        exact hE.trans r2 r2.lo (by omega) (Int.le_refl _)
    · rw [CS.build, if_neg (by decide), if_neg (by decide), if_neg (by decide), if_neg (by decide), if_neg (by decide), if_neg (by decide), if_pos rfl]
      dsimp only
      obtain ⟨e, rfl⟩ := len_one h1
      have rT : ∀ b0, Pl b0 → Inv n M b0 → Res n M 0 ((1 + CE.partsL [e] + CS.partsL thn + CS.partsL els : Nat) + 1) b0 (CS.buildL C w thn b0) := fun b0 h0 h1 => res_stmts _ thn hT (fun st hs => by have := sparts_mem hs; omega) hthn b0 h0 h1
      have rC : ∀ b0, Pl b0 → Inv n M b0 → Res n M 1 ((1 + CE.partsL [e] + CS.partsL thn + CS.partsL els : Nat) + 1) b0 (CE.buildL C [e] 0 b0) := fun b0 h0 h1 => by
        have r := res_exprs hN hes 0 b0 h0 h1
        have l1 := r.lo
        rw [if_neg (by simp)] at l1
        have l2 : (1 : Int) ≤ (CE.buildL C [e] 0 b0).regs := l1
        have l3 := r.hi
        exact ⟨r.inv, r.regs, l2, by omega, r.len⟩
      exact res_loop hb hp (fun b0 h0 => codes_exprs hes 0 b0 h0) (fun b0 h0 => codes_stmts thn (fun st _ => codes_stmt st.parts st (Nat.le_refl _)) hthn b0 h0) rC rT
    · rw [CS.build, if_neg (by decide), if_neg (by decide), if_neg (by decide), if_pos rfl]
      have f1 := hN.fn s.toNat fn hfn
      have ef : C.first s = fn.first := fn_first hfn
      have hb0 := hE.inv.r0
      have h3 : (0 + es.length : Nat) ≤ (CE.buildL C es 0 b).regs := by
        by_cases hkn : es = []
        · subst hkn; show ((0 : Nat) : Int) ≤ _; omega
        · rw [if_neg hkn] at lo1; omega
      have r2 := res_called (C := C) (g := s) (k := es.length) (d := 0) hE.inv ⟨s0, s1⟩ (by rw [ef]; exact f1.1) (by rw [ef]; omega) h3
      exact hE.trans r2 r2.lo (by omega) (by omega)
    · rw [CS.build, if_neg (by decide), if_neg (by decide), if_neg (by decide), if_neg (by decide), if_pos rfl]
      by_cases he : es = []
      · rw [if_pos he]
        have r1 := res_leave hN hw hp hb
        have r2 := res_next r1.inv
        exact r1.trans r2 r2.lo (by omega) (by omega)
      · rw [if_neg he]
        obtain ⟨h1, hwt⟩ := h1.resolve_left he
        rw [if_neg he] at lo1
        have r2 := res_store (w := C.words) (a := 0) hE.inv ⟨w0, hw hwt⟩ (by show (0 : Int) < _; omega)
        have r3 := res_next r2.inv
        exact (hE.trans r2 r2.lo (hi := ((0 : Nat) : Int) + CE.partsL es + 1) (Int.le_refl _) (by omega)).trans r3 r3.lo (by omega) (by omega)
theorem res_zeros {b : Bd} (h : Inv n M b) {first : Int} (h0 : 0 ≤ first) (hr : 0 < b.regs) : ∀ (k : Nat), first + k ≤ M → Res n M 0 1 b (b.zeros first k)
  | 0, _ => Res.refl h h.r0
  | k + 1, h1 => by
    have ih := res_zeros h h0 hr k (by omega)
    have hg := ih.regs
    have r2 := res_store (w := first + k) (a := 0) ih.inv ⟨by omega, by omega⟩ (by show (0 : Int) < _; omega)
    exact ih.trans r2 r2.lo (Int.le_refl _) (Int.le_refl _)
theorem res_astores {b : Bd} (h : Inv n M b) {first z : Int} (h0 : 0 ≤ first) (z1 : 1 ≤ z ∧ z ≤ 4096) (hr : 1 < b.regs) : ∀ (k : Nat), first + k + z ≤ M + 1 → Res n M 0 1 b (b.astores first z k)
  | 0, _ => Res.refl h h.r0
  | k + 1, h1 => by
    have ih := res_astores h h0 z1 hr k (by omega)
    have hg := ih.regs
    have r2 := inv_put (t := iAStore 1 0 (first + k) z) ih.inv (by show (0 : Int) ≤ 0; omega) (fits_of rfl (fun e => by cases e) (fun u hu => by
        have hu2 : u = 1 ∨ u = 0 := by
          have : u ∈ [(1 : Int), 0] := hu
          simpa using this
        show 0 ≤ u ∧ u < max _ ((0 : Int) + 1)
        omega) (by
        show (decide (1 ≤ z) && (decide (z ≤ 4096) && (decide (0 ≤ first + k) && decide (first + k ≤ M - z)))) = true
        rw [decide_eq_true z1.1, decide_eq_true z1.2, decide_eq_true (by omega), decide_eq_true (by omega)]; rfl) rfl)
    exact ih.trans r2 r2.inv.r0 (Int.le_refl _) (by show (0 : Int) + 1 ≤ 1; omega)
theorem res_num {b : Bd} (h : Inv n M b) (d : Nat) (v : Int) : Res n M (d + 1) (d + 1) b (b.put (iNum d v)) :=
  inv_put (t := iNum d v) h (by show (0 : Int) ≤ (d : Int); omega) (fits_of rfl (fun _ => by show (0 : Int) ≤ (d : Int) ∧ (d : Int) < max _ ((d : Int) + 1); omega) (fun u hu => by cases hu) rfl rfl)
theorem res_bin3 {b : Bd} (h : Inv n M b) {op : Int} (d x y : Nat) (ho : 4 ≤ op ∧ op ≤ 15) (hx : (x : Int) < b.regs) (hy : (y : Int) < b.regs) : Res n M (d + 1) (d + 1) b (b.put (iBin op d x y)) :=
  inv_put (t := iBin op d x y) h (by show (0 : Int) ≤ (d : Int); omega) (fits_of rfl (fun _ => by show (0 : Int) ≤ (d : Int) ∧ (d : Int) < max _ ((d : Int) + 1); omega) (fun u hu => by
    have hu2 : u = (x : Int) ∨ u = (y : Int) := by
      have : u ∈ [(x : Int), (y : Int)] := hu
      simpa using this
    show 0 ≤ u ∧ u < max _ ((d : Int) + 1)
    omega) (by
    show (decide (4 ≤ op) && decide (op ≤ 15)) = true
    rw [decide_eq_true ho.1, decide_eq_true ho.2]; rfl) rfl)
theorem res_chunk {b : Bd} (h : Inv n M b) (hp : Pl b) (hr : 0 < b.regs) {first : Int} {k : Nat} (h0 : 0 ≤ first) (hk : 8 ≤ k ∧ k ≤ 4096) (h1 : first + k ≤ M) : Res n M 0 5 b (b.chunk first k) := by
  have r1 := res_num h 1 0
  have r2 := res_num r1.inv 2 8
  have r3 := res_num r2.inv 3 k
  have p3 : Pl (b.chunk1 k) := (codes_put (codes_put (codes_put hp _).pl _).pl _).pl
  have r3' : Res n M 4 4 b (b.chunk1 k) := (r1.trans r2 r2.lo (hi := 3) (by omega) (by omega)).trans r3 (by have : ((3 : Nat) : Int) + 1 ≤ _ := r3.lo; exact this) (by omega) (by omega)
  unfold Bd.chunk
  generalize b.chunk1 k = b1 at r3' p3 ⊢
  have g1 := r3'.lo
  have x1 := p3.lt
  have i4 : Inv n M b1.chunk2 := by
    obtain ⟨x, hx, e3, ev, et, ee⟩ := p3
    exact inv_go (inv_jump (inv_opened r3'.inv) ⟨x, (opened_old x1).trans hx, e3, ev, et, ee⟩ (by rw [opened_len]; omega)) _
  have l4 : b1.chunk2.blocks.length = b1.blocks.length + 1 := (upd_len b1.opened _).trans (opened_len b1)
  have g4 : b1.chunk2.regs = b1.regs := rfl
  have r5 := res_astores i4 (first := first) (z := k - 7) h0 (by omega) (by omega) 8 (by omega)
  have a5 := r5.regs
  have r6 := res_bin3 r5.inv (op := 4) 1 1 2 ⟨by decide, by decide⟩ (by show (1 : Int) < _; omega) (by show (2 : Int) < _; omega)
  have a6 := r6.regs
  have r7 := res_bin3 r6.inv (op := 14) 4 1 3 ⟨by decide, by decide⟩ (by show (1 : Int) < _; omega) (by show (3 : Int) < _; omega)
  have a7 : ((4 : Nat) : Int) + 1 ≤ _ := r7.lo
  have b5 := r5.hi
  have b6 := r6.hi
  have b7 := r7.hi
  have c5 := r5.len
  have c6 := r6.len
  have c7 := r7.len
  have d7 := r7.regs
  generalize ((b1.chunk2.astores first (k - 7) 8).put (iBin 4 1 1 2)).put (iBin 14 4 1 3) = b7' at r7 a7 b7 c7 d7 ⊢
  have i8 := inv_fork (inv_opened r7.inv) (v := 4) (to := b1.blocks.length) (els := b7'.blocks.length) (by show ((4 : Nat) : Int) < b7'.regs; omega) (by rw [opened_len]; omega) (by rw [opened_len]; omega)
  have l8 : (b7'.opened.fork 4 b1.blocks.length b7'.blocks.length).blocks.length = b7'.blocks.length + 1 := (upd_len b7'.opened _).trans (opened_len b7')
  have h3 := r3'.hi
  have h3r := r3'.regs
  have h3l := r3'.len
  exact ⟨inv_go i8 _, by show b.regs ≤ b7'.regs; omega, i8.r0, by show b7'.regs ≤ _; omega, by show _ ≤ (b7'.opened.fork 4 b1.blocks.length b7'.blocks.length).blocks.length; omega⟩
theorem res_noughtG : ∀ (g : Nat) {b : Bd} (h : Inv n M b) (hp : Pl b) (hr : 0 < b.regs) {first : Int} (k : Nat), 0 ≤ first → first + k ≤ M → Res n M 0 5 b (Bd.noughtG g b first k)
  | 0, b, h, hp, hr, first, k, _, _ => by rw [Bd.noughtG]; exact Res.refl h h.r0
  | g + 1, b, h, hp, hr, first, k, h0, h1 => by
    rw [Bd.noughtG]
    by_cases hk : 64 < k
    · rw [if_pos hk]
      obtain ⟨c1, c2, c3, c4⟩ := chunkN_ok hk
      have r1 := res_chunk h hp hr h0 (k := chunkN k) ⟨by omega, c3⟩ (by omega)
      have g1 := r1.regs
      have r2 := res_noughtG g r1.inv (codes_chunk hp _ _).pl (by omega) (first := first + chunkN k) (k - chunkN k) (by omega) (by omega)
      exact r1.trans r2 r2.lo (Int.le_refl _) (Int.le_refl _)
    · rw [if_neg hk]
      have r := res_zeros h h0 hr k h1
      have h4 := r.hi
      exact ⟨r.inv, r.regs, r.lo, by omega, r.len⟩
theorem res_nought {b : Bd} (h : Inv n M b) (hp : Pl b) {first : Int} {k : Nat} (h0 : 0 ≤ first) (h1 : first + k ≤ M) : Res n M 0 5 b (b.nought first k) := by
  unfold Bd.nought
  by_cases hk : k = 0
  · rw [if_pos hk]; exact Res.refl h h.r0
  · rw [if_neg hk]
    have r1 := res_num h 0 0
    have l1 : ((0 : Nat) : Int) + 1 ≤ _ := r1.lo
    have r2 := res_noughtG k r1.inv (codes_put hp _).pl (by omega) k h0 h1
    exact r1.trans r2 r2.lo (by show ((0 : Nat) : Int) + 1 ≤ 5; omega) (Int.le_refl _)
end
structure CoreFit (C : Core) : Prop where
  ok : CoreOk C
  words : C.words ≤ 1000000
  parts : ∀ fn ∈ C.funcs, ∀ st ∈ fn.body, st.parts ≤ 3000
theorem inv0 {i M : Int} : Inv i M bd0 := by
  have key : ∀ x ∈ bd0.blocks, x = blk0 := fun x hx => by simpa [bd0] using hx
  refine ⟨Int.le_refl _, fun x hx t ht => ?_, fun x hx => ?_⟩
  · rw [key x hx] at ht; cases ht
  · rw [key x hx]; rfl
theorem core_m {C : Core} (h : 0 ≤ C.words) : C.words ≤ C.m ∧ C.m ≤ C.words + 1 ∧ ∀ fn ∈ C.funcs, fn.word = true → C.words < C.m := by
  unfold Core.m
  refine ⟨by split <;> omega, by split <;> omega, fun fn hfn hw => ?_⟩
  rw [if_pos (List.any_eq_true.2 ⟨fn, hfn, hw⟩)]; omega
theorem need_of {C : Core} (h : CoreOk C) (n : Nat) : NeedE C n C.m := by
  obtain ⟨h1, h2, h3⟩ := core_m h.w0
  exact ⟨h.w0, h1, h3, fun g fn hfn => ⟨(h.fn g fn hfn).f0, by have := (h.fn g fn hfn).f1; have := (h.fn g fn hfn).ps; omega⟩⟩
theorem res_fn {C : Core} (h : CoreFit C) {g : Nat} {fn : CFn} (hfn : C.funcs[g]? = some fn) (last : Bool) : Inv g C.m (fnBd C fn last) ∧ (fnBd C fn last).regs ≤ 4000 := by
  have hN := need_of h.ok g
  have hfo := h.ok.fn g fn hfn
  have hw : fn.word = true → C.words < C.m := hN.told fn (List.mem_of_getElem? hfn)
  have f0 := hfo.f0
  have f1 := hfo.f1
  have ps := hfo.ps
  have p0 := hfo.p0
  have wm := hN.wm
  have r1 : Res g C.m 0 5 bd0 (bif last then bd0 else bd0.nought (fn.first + fn.params) (fn.slots - fn.params).toNat) := by
    cases last with
    | true => exact Res.refl inv0 (Int.le_refl _)
    | false => exact res_nought inv0 pl0 (by omega) (by omega)
  have p1 : Pl (bif last then bd0 else bd0.nought (fn.first + fn.params) (fn.slots - fn.params).toNat) := by
    cases last with
    | true => exact pl0
    | false => exact (codes_nought pl0 _ _).pl
  have r2 := res_stmts (w := fn.word) 3001 fn.body (fun st _ => res_stmt hN hw st.parts st (Nat.le_refl _)) (fun st hs => by have := h.parts fn (List.mem_of_getElem? hfn) st hs; omega) hfo.body _ p1 r1.inv
  have p2 := (codes_stmts (C := C) (n := g) (w := fn.word) fn.body (fun st _ => codes_stmt st.parts st (Nat.le_refl _)) hfo.body _ p1).pl
  have r3 := res_leave hN hw p2 r2.inv
  have a1 := r1.hi
  have a2 := r2.hi
  have a3 := r3.hi
  have e0 : bd0.regs = 0 := rfl
  refine ⟨r3.inv, ?_⟩
  show (Bd.leave _ C fn.word).regs ≤ 4000
  omega
theorem build_get {C : Core} {g : Nat} {fn : CFn} (h : C.funcs[g]? = some fn) : C.build.funcs[g]? = some (fnBuild C fn (g + 1 == C.funcs.length)) := by
  show (C.funcs.zipIdx.map _)[g]? = _
  rw [List.getElem?_map, zipIdx_get h]; rfl
theorem build_of {C : Core} {g : Nat} {F : BFunc} (h : C.build.funcs[g]? = some F) : ∃ fn, C.funcs[g]? = some fn ∧ F = fnBuild C fn (g + 1 == C.funcs.length) := by
  have hl := (List.getElem?_eq_some_iff.1 h).1
  have hl2 : g < C.funcs.length := by
    have e : C.build.funcs.length = C.funcs.length := by show (C.funcs.zipIdx.map _).length = _; simp
    omega
  obtain ⟨fn, hfn⟩ := get_of_lt hl2
  rw [build_get hfn] at h
  exact ⟨fn, hfn, (Option.some.inj h).symm⟩
theorem build_right {C : Core} (h : CoreFit C) : C.build.right = true := by
  obtain ⟨h1, h2, h3⟩ := core_m h.ok.w0
  have w0 := h.ok.w0
  have w1 := h.words
  refine right_of' (show 0 ≤ C.m by omega) (show C.m ≤ 1048576 by omega) ?_ fun g F hF => ?_
  · intro e
    have : C.funcs.length = 0 := by
      have := congrArg List.length e
      have e2 : C.build.funcs.length = C.funcs.length := by show (C.funcs.zipIdx.map _).length = _; simp
      rw [e2] at this; exact this
    exact h.ok.ne (List.length_eq_zero_iff.1 this)
  · obtain ⟨fn, hfn, rfl⟩ := build_of hF
    obtain ⟨i1, i2⟩ := res_fn h hfn (g + 1 == C.funcs.length)
    have hpl := (codes_fn (h.ok.fn g fn hfn).body (g + 1 == C.funcs.length)).1
    unfold BFunc.one
    rw [decide_eq_true (show 0 ≤ (fnBuild C fn (g + 1 == C.funcs.length)).regs from i1.r0), decide_eq_true (show (fnBuild C fn (g + 1 == C.funcs.length)).regs ≤ 4000 from i2)]
    have hne : (fnBuild C fn (g + 1 == C.funcs.length)).blocks ≠ [] := fun e => by
      have := hpl.lt
      have e2 : (fnBd C fn (g + 1 == C.funcs.length)).blocks = [] := e
      rw [e2] at this; simp at this
    have hall : ((fnBuild C fn (g + 1 == C.funcs.length)).blocks.all fun x => x.ok (fnBuild C fn (g + 1 == C.funcs.length)).blocks.length (fnBuild C fn (g + 1 == C.funcs.length)).regs g C.m) = true := List.all_eq_true.2 fun x hx => by
      unfold Block.ok
      rw [Bool.and_eq_true]
      exact ⟨i1.ends x hx, List.all_eq_true.2 fun t ht => i1.ins x hx t ht⟩
    show (true && (true && (!List.isEmpty (fnBuild C fn (g + 1 == C.funcs.length)).blocks && ((fnBuild C fn (g + 1 == C.funcs.length)).blocks.all fun x => x.ok (fnBuild C fn (g + 1 == C.funcs.length)).blocks.length (fnBuild C fn (g + 1 == C.funcs.length)).regs g C.m)))) = true
    rw [hall]
    cases hb : (fnBuild C fn (g + 1 == C.funcs.length)).blocks with
    | nil => exact absurd hb hne
    | cons x l => rfl
theorem build_built {C : Core} (h : CoreFit C) : Built C C.build C.m.toNat := by
  obtain ⟨h1, h2, h3⟩ := core_m h.ok.w0
  have w0 := h.ok.w0
  refine ⟨by show C.m = _; omega, by omega, fun fn hfn hw => by have := h3 fn hfn hw; omega, by show (C.funcs.zipIdx.map _).length = _; simp, fun g fn hfn => ⟨_, build_get hfn, (codes_fn (h.ok.fn g fn hfn).body _).2, (res_fn h hfn _).1.r0, fun x hx t ht hs => ?_⟩⟩
  have := (res_fn h hfn (g + 1 == C.funcs.length)).1.ins x hx t ht
  have ht2 := (fits_inR this).1 hs
  exact ht2
theorem build_run {C : Core} (h : CoreFit C) {s : ByteArray} {fuel : Int} {r : Mach} (hr : crun C s fuel = r) (h5 : r.fin ≠ 5) (fu : Nat) (hfu : (r.steps + 1) * C.k ≤ fu) : (mrun C.build s fu).fin = r.fin ∧ (mrun C.build s fu).out = r.out :=
  built_run h.ok (build_built h) hr h5 fu hfu
end Go.Proofs.Ytmfihmkopmgelaa.Sv

namespace Go.Proofs.Ytmfihmkopmgelaa.Sv
open Go Go.ChangeShapes Go.WideShapes Go.ChangeAt Go.RowKit
mutual
def CE.cells : CE → List AV
  | .mk k o n s z kids => [.int .i64 k, .int .i64 o, .int .u32 n, .int .i64 s, .int .i64 z, .lst false (CE.cellsL kids)]
def CE.cellsL : List CE → List (List AV)
  | [] => []
  | e :: l => e.cells :: CE.cellsL l
end
mutual
def CS.cells : CS → List AV
  | .mk k s z es thn els => [.int .i64 k, .int .i64 s, .int .i64 z, .lst false (es.map CE.cells), .lst false (CS.cellsL thn), .lst false (CS.cellsL els)]
def CS.cellsL : List CS → List (List AV)
  | [] => []
  | e :: l => e.cells :: CS.cellsL l
end
def CFn.cells (f : CFn) : List AV := [.int .i64 f.params, .int .i64 f.slots, .int .i64 f.first, .bool f.word, .lst false (f.body.map CS.cells)]
def Core.cells (c : Core) : List AV := [.int .i64 c.words, .lst false (c.funcs.map CFn.cells)]
theorem CE.cellsL_map : ∀ l : List CE, CE.cellsL l = l.map CE.cells
  | [] => by rw [CE.cellsL]; rfl
  | e :: l => by rw [CE.cellsL, CE.cellsL_map l]; rfl
theorem CS.cellsL_map : ∀ l : List CS, CS.cellsL l = l.map CS.cells
  | [] => by rw [CS.cellsL]; rfl
  | e :: l => by rw [CS.cellsL, CS.cellsL_map l]; rfl
theorem CE.cells_eq (e : CE) : e.cells = [.int .i64 e.kind, .int .i64 e.op, .int .u32 e.num, .int .i64 e.slot, .int .i64 e.size, .lst false (e.kids.map CE.cells)] := by
  cases e; rw [CE.cells, CE.cellsL_map]; rfl
theorem CS.cells_eq (e : CS) : e.cells = [.int .i64 e.kind, .int .i64 e.slot, .int .i64 e.size, .lst false (e.es.map CE.cells), .lst false (e.thn.map CS.cells), .lst false (e.els.map CS.cells)] := by
  cases e; rw [CS.cells, CS.cellsL_map, CS.cellsL_map]; rfl
inductive CE.Ok : CE → Prop
  | mk {k o n s z : Int} {kids : List CE} : isI k → isI o → isW n → isI s → isI z → kids.length * 64 ≤ reachBytes → (∀ e ∈ kids, CE.Ok e) → CE.Ok (.mk k o n s z kids)
inductive CS.Ok : CS → Prop
  | mk {k s z : Int} {es : List CE} {thn els : List CS} : isI k → isI s → isI z → es.length * 64 ≤ reachBytes → (∀ e ∈ es, CE.Ok e) → thn.length * 96 ≤ reachBytes → (∀ e ∈ thn, CS.Ok e) → els.length * 96 ≤ reachBytes → (∀ e ∈ els, CS.Ok e) → CS.Ok (.mk k s z es thn els)
structure CFn.Ok (f : CFn) : Prop where
  params : isI f.params
  slots : isI f.slots
  first : isI f.first
  len : f.body.length * 96 ≤ reachBytes
  body : ∀ s ∈ f.body, s.Ok
structure Core.Ok (c : Core) : Prop where
  words : isI c.words
  len : c.funcs.length * 56 ≤ reachBytes
  funcs : ∀ f ∈ c.funcs, f.Ok
section
variable {H : Type} {enc : TypeId × Value → H} {P : Program} {W : World} {T : Nat → Option TyI}
end
end Go.Proofs.Ytmfihmkopmgelaa.Sv

namespace Go.Proofs.Ytmfihmkopmgelaa.Sv
open Go
def winC (C : Core) (a n : Int) : Bool := decide (0 ≤ a) && (decide (0 ≤ n) && (decide (a ≤ C.words) && decide (n ≤ C.words - a)))
def calleeC (C : Core) (f g args : Int) (word : Bool) : Bool := decide (0 ≤ g) && (decide (g < f) && (match C.funcs[g.toNat]? with
  | some h => h.word == word && h.params == args
  | none => false))
def CE.bare (e : CE) : Bool := (e.kind == 1 || e.num == 0) && ((e.kind == 6 || e.op == 0) && ((e.kind == 3 || e.size == 0) && (e.kind == 2 || (e.kind == 3 || (e.kind == 4 || e.slot == 0)))))
def CE.sort (C : Core) (f : Int) (e : CE) : Bool :=
  bif e.kind == 1 || e.kind == 5 then (e.kids.length : Int) == 0
  else bif e.kind == 2 then winC C e.slot 1 && (e.kids.length : Int) == 0
  else bif e.kind == 3 then decide (1 ≤ e.size) && (decide (e.size ≤ 4096) && (winC C e.slot e.size && (e.kids.length : Int) == 1))
  else bif e.kind == 4 then calleeC C f e.slot e.kids.length true
  else bif e.kind == 6 then decide (4 ≤ e.op) && (decide (e.op ≤ 15) && (e.kids.length : Int) == 2)
  else bif e.kind == 7 then (e.kids.length : Int) == 1
  else bif e.kind == 8 || e.kind == 9 then (e.kids.length : Int) == 2
  else false
mutual
def CE.right (C : Core) (f : Int) : CE → Int → Bool
  | .mk k o n s z kids, level => decide (level ≤ 24) && (CE.bare (.mk k o n s z kids) && (CE.sort C f (.mk k o n s z kids) && CE.rightL C f kids (level + 1)))
def CE.rightL (C : Core) (f : Int) : List CE → Int → Bool
  | [], _ => true
  | e :: l, level => e.right C f level && CE.rightL C f l level
end
def CS.bare (s : CS) : Bool := (s.kind == 2 || s.size == 0) && ((s.kind == 1 || (s.kind == 2 || (s.kind == 6 || s.slot == 0))) && ((s.kind == 4 || (s.els.length : Int) == 0) && (s.kind == 4 || (s.kind == 5 || (s.thn.length : Int) == 0))))
def CS.sort (C : Core) (f : Int) (w : Bool) (s : CS) : Bool :=
  bif s.kind == 1 then winC C s.slot 1 && (s.es.length : Int) == 1
  else bif s.kind == 2 then decide (1 ≤ s.size) && (decide (s.size ≤ 4096) && (winC C s.slot s.size && (s.es.length : Int) == 2))
  else bif s.kind == 3 || (s.kind == 4 || s.kind == 5) then (s.es.length : Int) == 1
  else bif s.kind == 6 then calleeC C f s.slot s.es.length false
  else bif s.kind == 7 then (s.es.length : Int) == 0 || ((s.es.length : Int) == 1 && w)
  else false
mutual
def CS.right (C : Core) (f : Int) (w : Bool) : CS → Int → Bool
  | .mk k s z es thn els, level => decide (level ≤ 24) && (CS.bare (.mk k s z es thn els) && (CS.sort C f w (.mk k s z es thn els) && (CE.rightL C f es (level + 1) && (CS.rightL C f w thn (level + 1) && CS.rightL C f w els (level + 1)))))
def CS.rightL (C : Core) (f : Int) (w : Bool) : List CS → Int → Bool
  | [], _ => true
  | e :: l, level => e.right C f w level && CS.rightL C f w l level
end
def CFn.fits (C : Core) (g : CFn) : Bool := decide (0 ≤ g.params) && (decide (g.params ≤ 6) && (decide (g.params ≤ g.slots) && winC C g.first g.slots))
def Core.right (C : Core) : Bool :=
  decide (0 ≤ C.words) && (decide (C.words ≤ 32768) && (decide (1 ≤ C.funcs.length) && (decide (C.funcs.length ≤ 64) && (C.funcs.all (fun g => g.fits C) && ((C.funcs.zipIdx.all fun p => CS.rightL C (p.2 : Int) p.1.word p.1.body 1) && (match C.funcs[C.funcs.length - 1]? with
    | some g => g.params == 0 && !g.word
    | none => false))))))
section
variable {C : Core} {n : Nat}
theorem winC_iff {a z : Int} (h : winC C a z = true) : 0 ≤ a ∧ 0 ≤ z ∧ a + z ≤ C.words := by
  simp only [winC, Bool.and_eq_true, decide_eq_true_eq] at h
  omega
end
structure CoreR (C : Core) : Prop where
  w0 : 0 ≤ C.words
  w1 : C.words ≤ 32768
  n0 : 1 ≤ C.funcs.length
  n1 : C.funcs.length ≤ 64
  fn : ∀ g ∈ C.funcs, 0 ≤ g.params ∧ g.params ≤ 6 ∧ g.params ≤ g.slots ∧ 0 ≤ g.first ∧ g.first + g.slots ≤ C.words
  body : ∀ (i : Nat) g, C.funcs[i]? = some g → CS.rightL C (i : Int) g.word g.body 1 = true
  last : ∀ g, C.funcs[C.funcs.length - 1]? = some g → g.params = 0 ∧ g.word = false
theorem right_core {C : Core} (h : C.right = true) : CoreR C := by
  simp only [Core.right, Bool.and_eq_true, decide_eq_true_eq, List.all_eq_true] at h
  obtain ⟨h1, h2, h3, h4, h5, h6, h7⟩ := h
  refine ⟨h1, h2, h3, h4, fun g hg => ?_, fun i g hg => h6 (g, i) (List.mem_of_getElem? (zipIdx_get hg)), fun g hg => ?_⟩
  · have := h5 g hg
    simp only [CFn.fits, Bool.and_eq_true, decide_eq_true_eq] at this
    obtain ⟨a1, a2, a3, a4⟩ := this
    have := winC_iff a4
    exact ⟨a1, a2, a3, this.1, this.2.2⟩
  · rw [hg] at h7
    simp only [Bool.and_eq_true, beq_iff_eq, Bool.not_eq_true'] at h7
    exact h7
theorem parts_body {C : Core} {fn : CFn} (h : fn ∈ C.funcs) : CS.partsL fn.body ≤ C.parts := le_sum (p := fun f : CFn => CS.partsL f.body) h
structure CM.good (W : Nat) (c : CM) : Prop where
  m : c.m.good W
  val : isW c.val
theorem CM.good.fin {W : Nat} {c : CM} (h : c.good W) (n : Int) : (c.put { c.m with fin := n }).good W := ⟨⟨h.m.len, h.m.words, h.m.out⟩, h.val⟩
theorem CM.good.set {W : Nat} {c : CM} (h : c.good W) (z : Int) {v : Int} (hv : isW v) : (c.put { c.m with words := rset c.m.words z v }).good W := ⟨⟨by show (rset c.m.words z v).length = W; rw [rset_length]; exact h.m.len, rset_w h.m.words z hv, h.m.out⟩, h.val⟩
theorem isW_one : isW 1 := ⟨by decide, by decide⟩
section
variable {W : Nat} {call : CallC} {s : ByteArray}
end
structure Quiet (g p : Nat) (c c1 : CM) : Prop where
  steps : c1.m.steps = c.m.steps
  fin : c.fin ≠ 5 → c1.fin ≠ 5
  le : c.m.read ≤ c1.m.read
  read : c1.m.read ≤ c.m.read + g
theorem Quiet.refl (g p : Nat) (c : CM) : Quiet g p c c := ⟨rfl, id, Nat.le_refl _, Nat.le_add_right _ _⟩
theorem Quiet.trans {g1 g2 g p : Nat} {c c1 c2 : CM} (h1 : Quiet g1 p c c1) (h2 : Quiet g2 p c1 c2) (h : g1 + g2 ≤ g) : Quiet g p c c2 := ⟨h2.steps.trans h1.steps, fun h => h2.fin (h1.fin h), Nat.le_trans h1.le h2.le, by have := h1.read; have := h2.read; omega⟩
theorem Quiet.more {g g' p : Nat} {c c1 : CM} (h : Quiet g p c c1) (hg : g ≤ g') : Quiet g' p c c1 := ⟨h.steps, h.fin, h.le, by have := h.read; omega⟩
theorem Quiet.put {g p : Nat} {c c1 : CM} (h : Quiet g p c c1) {m : Mach} (h1 : m.steps = c1.m.steps) (h2 : m.read = c1.m.read) (h3 : c1.fin ≠ 5 → m.fin ≠ 5) : Quiet g p c (c1.put m) := ⟨h1.trans h.steps, fun h0 => h3 (h.fin h0), by show c.m.read ≤ m.read; rw [h2]; exact h.le, by show m.read ≤ _; rw [h2]; exact h.read⟩
section
variable {call call' : CallC} {s s' : ByteArray} {p : Nat}
variable {fuel : Int}
end
abbrev eNum (n : Int) : CE := .mk 1 0 n 0 0 []
abbrev sPut (e : CE) : CS := .mk 3 0 0 [e] [] []
theorem eNum_ok {C : Core} {k : Nat} {n : Int} (hn : isW n) : (eNum n).ok C k := by rw [CE.ok]; exact ⟨trivial, .inl ⟨rfl, hn⟩⟩
theorem sPut_ok {C : Core} {k : Nat} {w : Bool} {e : CE} (he : e.ok C k) : (sPut e).ok C k w := by
  rw [CS.ok]; exact ⟨⟨he, trivial⟩, trivial, trivial, .inr (.inr (.inl ⟨rfl, rfl⟩))⟩
section
variable {call : CallC} {s : ByteArray} {fuel : Int}
theorem ev_num (n : Int) (c : CM) : (eNum n).ev call s c = (n, c) := by rw [CE.ev, if_pos rfl]
def CM.outs (c : CM) (x : Int) : CM := c.put { c.m with out := c.m.out ++ [byteOf x] }
theorem run_put {e : CE} {x : Int} {c c1 : CM} (h : e.ev call s c = (x, c1)) (h0 : c1.fin = 0) (ho : c1.m.out.length < 65536) : (sPut e).run call s fuel c = c1.outs x := by
  rw [CS.run, if_neg (by decide), if_neg (by decide)]
  show (match CE.ev call s e c with | (x, c1) => _) = _
  rw [h]
  dsimp only
  rw [h0, show ((0 : Int) == 0) = true from rfl, cond_true, if_neg (by decide), if_neg (by decide), if_neg (by decide), if_pos rfl, decide_eq_false (by omega)]
  rfl
theorem runL_go {st : CS} {l : List CS} {c : CM} (h0 : c.fin = 0) (h1 : c.over = false) : CS.runL call s fuel (st :: l) c = CS.runL call s fuel l (st.run call s fuel c) := by
  rw [CS.runL, h0, h1]; rfl
theorem runL_nil (c : CM) : CS.runL call s fuel [] c = c := by rw [CS.runL]
end
theorem outs_out (c : CM) (x : Int) : (c.outs x).m.out = c.m.out ++ [byteOf x] := rfl
def eWide (n : Int) : Nat → CE
  | 0 => eNum n
  | i + 1 => .mk 6 4 0 0 0 [eNum 1, eWide n i]
def wsum (n : Int) : Nat → Int
  | 0 => n
  | i + 1 => (wsum n i + 1) % 4294967296
theorem wsum_w {n : Int} (h : isW n) : ∀ i, isW (wsum n i)
  | 0 => h
  | i + 1 => ⟨Int.emod_nonneg _ (by decide), Int.emod_lt_of_pos _ (by decide)⟩
theorem wapp_one {x : Int} (h : isW x) : wapp 4 1 x = ((x + 1) % 4294967296, 0) := by
  obtain ⟨h0, h1⟩ := h
  have e : x = ((x.toNat : Nat) : Int) := by omega
  rw [e, show (1 : Int) = ((1 : Nat) : Int) from rfl, wapp_add]
  congr 1
  omega
theorem wide_ev {call : CallC} {s : ByteArray} {c : CM} (h0 : c.fin = 0) {n : Int} (hn : isW n) : ∀ i, (eWide n i).ev call s c = (wsum n i, c)
  | 0 => ev_num n c
  | i + 1 => by
    rw [eWide, CE.ev, if_neg (by decide), if_neg (by decide), if_neg (by decide), if_neg (by decide), if_neg (by decide), CE.evK, ev_num]
    dsimp only
    rw [h0]
    show CE.evR call s 6 4 [eWide n i] 1 c = _
    rw [CE.evR, wide_ev h0 hn i]
    dsimp only
    rw [h0, wapp_one (wsum_w hn i)]
    rfl
theorem wide_parts (n : Int) : ∀ i, (eWide n i).parts = 1 + 2 * i
  | 0 => by simp [eWide, CE.parts, CE.partsL]
  | i + 1 => by
    rw [eWide, CE.parts, CE.partsL, CE.partsL, CE.partsL, wide_parts n i]
    simp [CE.parts, CE.partsL]; omega
theorem wide_okE {C : Core} {k : Nat} {n : Int} (hn : isW n) : ∀ i, (eWide n i).ok C k
  | 0 => eNum_ok hn
  | i + 1 => by rw [eWide, CE.ok]; exact ⟨⟨eNum_ok isW_one, wide_okE hn i, trivial⟩, .inr (.inr (.inr (.inr (.inr (.inl ⟨rfl, rfl, by decide, by decide⟩)))))⟩
def oneC (w : Int) (body : List CS) : Core := ⟨w, [⟨0, 0, 0, false, body⟩]⟩
def wideC (n : Int) (many : Nat) : Core := oneC 0 (List.replicate many (sPut (eWide n 20)))
theorem okSL_all {C : Core} {k : Nat} {w : Bool} : ∀ {l : List CS}, (∀ st ∈ l, st.ok C k w) → CS.okL C k w l
  | [], _ => trivial
  | st :: l, h => ⟨h st (List.mem_cons.2 (.inl rfl)), okSL_all fun e he => h e (List.mem_cons.2 (.inr he))⟩
theorem one_fit {w : Int} (h0 : 0 ≤ w) (h1 : w ≤ 1000000) {body : List CS} (hb : ∀ st ∈ body, st.ok (oneC w body) 0 false) (hp : ∀ st ∈ body, st.parts ≤ 3000) : CoreFit (oneC w body) := by
  have hg : ∀ (i : Nat) fn, (oneC w body).funcs[i]? = some fn → i = 0 ∧ fn = ⟨0, 0, 0, false, body⟩ := fun i fn h => by
    cases i with
    | zero => exact ⟨rfl, (Option.some.inj h).symm⟩
    | succ i => simp [oneC] at h
  refine ⟨⟨h0, fun e => by simp [oneC] at e, fun i fn h => ?_, fun fn h => ?_⟩, h1, fun fn h st hs => ?_⟩
  · obtain ⟨rfl, rfl⟩ := hg i fn h
    exact ⟨Int.le_refl _, (show (0 : Int) ≤ 6 by decide), Int.le_refl _, Int.le_refl _, h0, okSL_all hb⟩
  · rw [(hg _ fn h).2]; exact ⟨rfl, rfl⟩
  · obtain ⟨i, hi⟩ := List.mem_iff_getElem?.1 h
    rw [(hg i fn hi).2] at hs
    exact hp st hs
theorem wide_fit {n : Int} (hn : isW n) (many : Nat) : CoreFit (wideC n many) := by
  refine one_fit (Int.le_refl _) (by decide) (fun st hs => ?_) fun st hs => ?_
  · rw [List.eq_of_mem_replicate hs]; exact sPut_ok (wide_okE hn 20)
  · rw [List.eq_of_mem_replicate hs]
    show (sPut (eWide n 20)).parts ≤ 3000
    rw [CS.parts, CE.partsL, CE.partsL, wide_parts]; simp [CS.partsL]
theorem puts_run {call : CallC} {s : ByteArray} {fuel n : Int} (hn : isW n) : ∀ (k : Nat) {c : CM}, c.fin = 0 → c.over = false → c.m.out.length + k ≤ 65536 → (CS.runL call s fuel (List.replicate k (sPut (eWide n 20))) c).m.fin = 0 ∧ (CS.runL call s fuel (List.replicate k (sPut (eWide n 20))) c).m.out = c.m.out ++ List.replicate k (byteOf (wsum n 20))
  | 0, c, h0, _, _ => by rw [List.replicate_zero, runL_nil]; exact ⟨h0, by simp⟩
  | k + 1, c, h0, h1, hl => by
    rw [List.replicate_succ, runL_go h0 h1, run_put (wide_ev h0 hn 20) h0 (by omega)]
    obtain ⟨g1, g2⟩ := puts_run (call := call) (s := s) (fuel := fuel) hn k (c := c.outs (wsum n 20)) h0 h1 (by rw [outs_out, List.length_append]; simp; omega)
    refine ⟨g1, g2.trans ?_⟩
    rw [outs_out, List.append_assoc, List.replicate_succ]; rfl
theorem one_get (w : Int) (body : List CS) : (oneC w body).funcs[(oneC w body).funcs.length - 1]? = some ⟨0, 0, 0, false, body⟩ := rfl
theorem wide_run {n : Int} (hn : isW n) {many : Nat} (hm : many ≤ 256) (s : ByteArray) (fuel : Int) : (crun (wideC n many) s fuel).fin = 1 ∧ (crun (wideC n many) s fuel).out = List.replicate many (byteOf (wsum n 20)) := by
  unfold crun
  rw [show (wideC n many).funcs[(wideC n many).funcs.length - 1]? = _ from one_get _ _]
  dsimp only
  obtain ⟨g1, g2⟩ := puts_run (call := cfun (wideC n many) s fuel ((wideC n many).funcs.length - 1)) (s := s) (fuel := fuel) hn many (c := c0 (wideC n many)) rfl rfl (by show 0 + many ≤ 65536; omega)
  rw [g1]
  exact ⟨rfl, g2.trans (List.nil_append _)⟩
structure LocI (n : Int) (j : Nat) (c : CM) : Prop where
  fin : c.fin = 0
  over : c.over = false
  len : c.m.words.length = n.toNat
  out : c.m.out = List.replicate j 0
  steps : c.m.steps = j
  last : 0 < j → rget c.m.words (n - 1) = 7
section
variable {call : CallC} {s : ByteArray}
end
abbrev CE.row (e : CE) : List AV := [.int .i64 e.kind, .int .i64 e.op, .int .u32 e.num, .int .i64 e.slot, .int .i64 e.size, .lst false (e.kids.map CE.cells)]
abbrev CS.row (e : CS) : List AV := [.int .i64 e.kind, .int .i64 e.slot, .int .i64 e.size, .lst false (e.es.map CE.cells), .lst false (e.thn.map CS.cells), .lst false (e.els.map CS.cells)]
theorem idxE {l : List CE} {k : Nat} {x : CE} (h : l[k]? = some x) : (l.map CE.cells)[((k : Nat) : Int).toNat]? = some x.row := by
  rw [Int.toNat_natCast, List.getElem?_map, h]; exact congrArg some (CE.cells_eq x)
theorem idxE0 {l : List CE} {x : CE} (h : l[0]? = some x) : (l.map CE.cells)[(0 : Int).toNat]? = some x.row := idxE (k := 0) h
theorem idxE1 {l : List CE} {x : CE} (h : l[1]? = some x) : (l.map CE.cells)[(1 : Int).toNat]? = some x.row := idxE (k := 1) h
theorem idxS {l : List CS} {k : Nat} {x : CS} (h : l[k]? = some x) : (l.map CS.cells)[((k : Nat) : Int).toNat]? = some x.row := by
  rw [Int.toNat_natCast, List.getElem?_map, h]; exact congrArg some (CS.cells_eq x)
theorem CE.Ok.kidsOk {e : CE} (h : e.Ok) : (∀ x ∈ e.kids, x.Ok) ∧ e.kids.length * 64 ≤ reachBytes := by
  cases h with
  | mk i1 i2 i3 i4 i5 i6 i7 => exact ⟨i7, i6⟩
theorem CS.Ok.esOk {e : CS} (h : e.Ok) : (∀ x ∈ e.es, x.Ok) ∧ e.es.length * 64 ≤ reachBytes := by
  cases h with
  | mk i1 i2 i3 i4 i5 i6 i7 i8 i9 => exact ⟨i5, i4⟩
theorem CS.Ok.thnOk {e : CS} (h : e.Ok) : (∀ x ∈ e.thn, x.Ok) ∧ e.thn.length * 96 ≤ reachBytes := by
  cases h with
  | mk i1 i2 i3 i4 i5 i6 i7 i8 i9 => exact ⟨i7, i6⟩
theorem CS.Ok.elsOk {e : CS} (h : e.Ok) : (∀ x ∈ e.els, x.Ok) ∧ e.els.length * 96 ≤ reachBytes := by
  cases h with
  | mk i1 i2 i3 i4 i5 i6 i7 i8 i9 => exact ⟨i9, i8⟩
theorem len64 {n : Nat} (h : n * 64 ≤ reachBytes) : n ≤ maxLen := by simp only [reachBytes] at h; simp only [maxLen]; omega
theorem len96 {n : Nat} (h : n * 96 ≤ reachBytes) : n ≤ maxLen := by simp only [reachBytes] at h; simp only [maxLen]; omega
theorem len56 {n : Nat} (h : n * 56 ≤ reachBytes) : n ≤ maxLen := by simp only [reachBytes] at h; simp only [maxLen]; omega
theorem drop_at {α : Type} {l : List α} {k : Nat} {x : α} (h : l[k]? = some x) : l.drop k = x :: l.drop (k + 1) := by
  rw [List.drop_eq_getElem_cons (List.getElem?_eq_some_iff.1 h).1, (List.getElem?_eq_some_iff.1 h).2]
theorem partsL_snoc (e : CE) : ∀ l : List CE, CE.partsL (l ++ [e]) = CE.partsL l + e.parts
  | [] => by simp [CE.partsL]
  | x :: l => by rw [List.cons_append, CE.partsL, CE.partsL, partsL_snoc e l]; omega
theorem partsL_take {l : List CE} {k : Nat} {x : CE} (h : l[k]? = some x) : CE.partsL (l.take (k + 1)) = CE.partsL (l.take k) + x.parts := by rw [take_succ_eq h, partsL_snoc]
theorem parts_kids (e : CE) : e.parts = 1 + CE.partsL e.kids := by cases e; rw [CE.parts]; rfl
theorem partsL_app (r : List CE) : ∀ l : List CE, CE.partsL (l ++ r) = CE.partsL l + CE.partsL r
  | [] => by simp [CE.partsL]
  | x :: l => by rw [List.cons_append, CE.partsL, CE.partsL, partsL_app r l]; omega
theorem partsL_le {l : List CE} (k : Nat) : CE.partsL (l.take k) ≤ CE.partsL l := by
  have := partsL_app (l.drop k) (l.take k)
  rw [List.take_append_drop] at this
  omega
theorem partsL_len : ∀ l : List CE, l.length ≤ CE.partsL l
  | [] => by simp [CE.partsL]
  | x :: l => by have := partsL_len l; rw [CE.partsL, List.length_cons, parts_kids]; omega
theorem spartsL_snoc (e : CS) : ∀ l : List CS, CS.partsL (l ++ [e]) = CS.partsL l + e.parts
  | [] => by simp [CS.partsL]
  | x :: l => by rw [List.cons_append, CS.partsL, CS.partsL, spartsL_snoc e l]; omega
theorem spartsL_take {l : List CS} {k : Nat} {x : CS} (h : l[k]? = some x) : CS.partsL (l.take (k + 1)) = CS.partsL (l.take k) + x.parts := by rw [take_succ_eq h, spartsL_snoc]
theorem sparts_es (e : CS) : e.parts = 1 + CE.partsL e.es + CS.partsL e.thn + CS.partsL e.els := by cases e; rw [CS.parts]; rfl
theorem spartsL_app (r : List CS) : ∀ l : List CS, CS.partsL (l ++ r) = CS.partsL l + CS.partsL r
  | [] => by simp [CS.partsL]
  | x :: l => by rw [List.cons_append, CS.partsL, CS.partsL, spartsL_app r l]; omega
theorem spartsL_le {l : List CS} (k : Nat) : CS.partsL (l.take k) ≤ CS.partsL l := by
  have := spartsL_app (l.drop k) (l.take k)
  rw [List.take_append_drop] at this
  omega
theorem spartsL_len : ∀ l : List CS, l.length ≤ CS.partsL l
  | [] => by simp [CS.partsL]
  | x :: l => by have := spartsL_len l; rw [CS.partsL, List.length_cons, sparts_es]; omega
theorem psum_le (k : Nat) (C : Core) : ((C.funcs.take k).map fun f => CS.partsL f.body).sum ≤ C.parts := by
  have e : C.parts = ((C.funcs.take k ++ C.funcs.drop k).map fun f => CS.partsL f.body).sum := by rw [List.take_append_drop]; rfl
  rw [e, List.map_append, List.sum_append]
  omega
theorem fuel_eq {C : Core} (h0 : 0 ≤ C.words) (t : Int) : (t + 1) * 8 * ((C.parts : Int) + C.words + 1) = (t + 1) * (C.k : Int) := by
  have e : ((C.words.toNat : Nat) : Int) = C.words := Int.toNat_of_nonneg h0
  unfold Core.k
  rw [Int.mul_assoc]
  congr 1
  rw [Int.natCast_mul, Int.natCast_add, Int.natCast_add, e]; rfl
theorem fuel_lo {C : Core} {t : Int} (hp : C.parts ≤ 1000000) (h0 : 0 ≤ C.words) (h1 : C.words ≤ 1000000) (h2 : 0 ≤ t) (h3 : t ≤ 100000) : -9223372036854775808 ≤ (t + 1) * (C.k : Int) ∧ (t + 1) * (C.k : Int) ≤ 9223372036854775807 := by
  have hk : (C.k : Int) ≤ 100000000 := by unfold Core.k; omega
  have a := Int.mul_nonneg (show 0 ≤ t + 1 by omega) (Int.natCast_nonneg C.k)
  have b := Int.mul_le_mul (show t + 1 ≤ 100001 by omega) hk (Int.natCast_nonneg _) (by decide)
  omega
def CE.cnt (e : CE) : Int := bif e.kind == 3 then 1 else bif e.kind == 4 then (e.kids.length : Int) else bif e.kind == 6 then 2 else bif e.kind == 7 then 1 else bif e.kind == 8 || e.kind == 9 then 2 else 0
def CS.cnt (w : Bool) (s : CS) : Int := bif s.kind == 2 then 2 else bif s.kind == 6 then (s.es.length : Int) else bif s.kind == 7 && ((s.es.length : Int) == 0 || !w) then 0 else 1
section
variable {C : Core} {f level : Int} {w : Bool}
end
section
variable {C : Core} {n : Nat} {e x y : CE}
theorem eok_k3 (h : e.ok C n) (hk : e.kind = 3) : e.kids.length = 1 ∧ 1 ≤ e.size ∧ e.size ≤ 4096 ∧ 0 ≤ e.slot ∧ e.slot + e.size ≤ C.words := by
  cases e with
  | mk k o num s z kids =>
  rw [CE.ok] at h
  simp only [CE.kind] at hk
  simp only [CE.slot, CE.size, CE.kids]
  obtain ⟨_, h2⟩ := h
  rcases h2 with h2 | h2 | h2 | h2 | h2 | h2 | h2 | h2 | h2 <;> first | exact h2.2 | omega
theorem eok_k4 (h : e.ok C n) (hk : e.kind = 4) : 0 ≤ e.slot ∧ e.slot < n ∧ ∃ g, C.funcs[e.slot.toNat]? = some g ∧ g.word = true ∧ g.params = e.kids.length ∧ e.kids.length ≤ 6 := by
  cases e with
  | mk k o num s z kids =>
  rw [CE.ok] at h
  simp only [CE.kind] at hk
  simp only [CE.slot, CE.kids]
  obtain ⟨_, h2⟩ := h
  rcases h2 with h2 | h2 | h2 | h2 | h2 | h2 | h2 | h2 | h2 <;> first | exact h2.2 | omega
theorem eok_kK (h : e.ok C n) (h1 : e.kind ≠ 1) (h2 : e.kind ≠ 2) (h3 : e.kind ≠ 3) (h4 : e.kind ≠ 4) (h5 : e.kind ≠ 5) : (e.kind = 7 ∧ e.kids.length = 1) ∨ (e.kind = 6 ∧ 4 ≤ e.op ∧ e.op ≤ 15 ∧ e.kids.length = 2) ∨ (e.kind = 8 ∧ e.kids.length = 2) ∨ (e.kind = 9 ∧ e.kids.length = 2) := by
  cases e with
  | mk k o num s z kids =>
  rw [CE.ok] at h
  simp only [CE.kind] at h1 h2 h3 h4 h5
  simp only [CE.kind, CE.op, CE.kids]
  obtain ⟨_, g⟩ := h
  rcases g with g | g | g | g | g | g | g | g | g
  · exact absurd g.1 h1
  · exact absurd g.1 h2
  · exact absurd g.1 h3
  · exact absurd g.1 h4
  · exact absurd g h5
  · exact .inr (.inl ⟨g.1, g.2.2.1, g.2.2.2, g.2.1⟩)
  · exact .inl g
  · exact .inr (.inr (.inl g))
  · exact .inr (.inr (.inr g))
theorem eok_mem (h : e.ok C n) {x : CE} (hx : x ∈ e.kids) : x.ok C n := by
  cases e with
  | mk k o num s z kids =>
  rw [CE.ok] at h
  have key : ∀ {l : List CE}, CE.okL C n l → x ∈ l → x.ok C n := by
    intro l
    induction l with
    | nil => intro _ hx; cases hx
    | cons a l ih =>
      intro ho hx
      rw [CE.okL] at ho
      rcases List.mem_cons.1 hx with rfl | hx
      · exact ho.1
      · exact ih ho.2 hx
  exact key h.1 hx
variable {cl : CallC} {s : ByteArray} {c : CM}
theorem fin_ne {d : CM} (h : (d.m.fin != 0) = true) : (d.fin == 0) = false := by
  show (d.m.fin == 0) = false
  simpa using h
theorem fin_eq {d : CM} (h : (d.m.fin != 0) = false) : (d.fin == 0) = true := by
  show (d.m.fin == 0) = true
  simpa using h
theorem get0 {l : List CE} (h : 0 < l.length) : ∃ x, l[0]? = some x ∧ x ∈ l := by
  obtain ⟨x, hx⟩ := get_of_lt h
  exact ⟨x, hx, List.mem_of_getElem? hx⟩
theorem get1 {l : List CE} (h : 1 < l.length) : ∃ x, l[1]? = some x ∧ x ∈ l := by
  obtain ⟨x, hx⟩ := get_of_lt h
  exact ⟨x, hx, List.mem_of_getElem? hx⟩
end
section
variable {C : Core} {n : Nat} {w : Bool} {e : CS} {x y : CE} {cl : CallC} {s : ByteArray} {fuel : Int} {c : CM}
theorem evC_go {l : List CE} {k : Nat} {f : Int} {args : List Int} (hx : l[k]? = some x) (hf : ((x.ev cl s c).2.m.fin != 0) = false) : CE.evC cl s f (l.drop k) args c = CE.evC cl s f (l.drop (k + 1)) (args ++ [(x.ev cl s c).1]) (x.ev cl s c).2 := by
  rw [drop_at hx, CE.evC]
  dsimp only
  rw [fin_eq hf]; rfl
structure CallI (W : Nat) (cl : CallC) (s : ByteArray) (f : Int) (l : List CE) (t : Int × CM) (q : Nat × List Int × CM) : Prop where
  len : q.2.1.length = q.1
  args : allR q.2.1
  good : q.2.2.good W
  eq : CE.evC cl s f (l.drop q.1) q.2.1 q.2.2 = t
  le : q.1 ≤ l.length
theorem CallI.next {W : Nat} {f : Int} {l : List CE} {t : Int × CM} {q : Nat × List Int × CM} (h : CallI W cl s f l t q) (hx : l[q.1]? = some x) (hf : ((x.ev cl s q.2.2).2.m.fin != 0) = false) (hg : (x.ev cl s q.2.2).2.good W ∧ isW (x.ev cl s q.2.2).1) : CallI W cl s f l t (q.1 + 1, q.2.1 ++ [(x.ev cl s q.2.2).1], (x.ev cl s q.2.2).2) := by
  refine ⟨by rw [List.length_append, h.len]; rfl, fun v hv => ?_, hg.1, (evC_go hx hf).symm.trans h.eq, (List.getElem?_eq_some_iff.1 hx).1⟩
  rcases List.mem_append.1 hv with hv | hv
  · exact h.args v hv
  · rw [List.mem_singleton.1 hv]; exact hg.2
theorem sok_1 (h : e.ok C n w) (hk : e.kind = 1) : e.es.length = 1 ∧ 0 ≤ e.slot ∧ e.slot < C.words := by
  cases e with
  | mk k sl z es thn els =>
  rw [CS.ok] at h
  simp only [CS.kind] at hk
  simp only [CS.slot, CS.es]
  obtain ⟨_, _, _, h2⟩ := h
  rcases h2 with h2 | h2 | h2 | h2 | h2 | h2 | h2 <;> first | exact h2.2 | omega
theorem sok_2 (h : e.ok C n w) (hk : e.kind = 2) : e.es.length = 2 ∧ 1 ≤ e.size ∧ e.size ≤ 4096 ∧ 0 ≤ e.slot ∧ e.slot + e.size ≤ C.words := by
  cases e with
  | mk k sl z es thn els =>
  rw [CS.ok] at h
  simp only [CS.kind] at hk
  simp only [CS.slot, CS.size, CS.es]
  obtain ⟨_, _, _, h2⟩ := h
  rcases h2 with h2 | h2 | h2 | h2 | h2 | h2 | h2 <;> first | exact h2.2 | omega
theorem sok_5 (h : e.ok C n w) (hk : e.kind = 5) : e.es.length = 1 := by
  cases e with
  | mk k sl z es thn els =>
  rw [CS.ok] at h
  simp only [CS.kind] at hk
  simp only [CS.es]
  obtain ⟨_, _, _, h2⟩ := h
  rcases h2 with h2 | h2 | h2 | h2 | h2 | h2 | h2 <;> first | exact h2.2 | omega
theorem sok_6 (h : e.ok C n w) (hk : e.kind = 6) : 0 ≤ e.slot ∧ e.slot < n ∧ ∃ g, C.funcs[e.slot.toNat]? = some g ∧ g.word = false ∧ g.params = e.es.length ∧ e.es.length ≤ 6 := by
  cases e with
  | mk k sl z es thn els =>
  rw [CS.ok] at h
  simp only [CS.kind] at hk
  simp only [CS.slot, CS.es]
  obtain ⟨_, _, _, h2⟩ := h
  rcases h2 with h2 | h2 | h2 | h2 | h2 | h2 | h2 <;> first | exact h2.2 | omega
theorem sok_K (h : e.ok C n w) (h5 : e.kind ≠ 5) (h6 : e.kind ≠ 6) (h7 : e.kind ≠ 7) : 0 < e.es.length ∧ (e.kind = 1 ∨ e.kind = 2 ∨ e.kind = 3 ∨ e.kind = 4) := by
  cases e with
  | mk k sl z es thn els =>
  rw [CS.ok] at h
  simp only [CS.kind] at h5 h6 h7
  simp only [CS.kind, CS.es]
  obtain ⟨_, _, _, h2⟩ := h
  rcases h2 with h2 | h2 | h2 | h2 | h2 | h2 | h2
  · exact ⟨by omega, .inl h2.1⟩
  · exact ⟨by omega, .inr (.inl h2.1)⟩
  · exact ⟨by omega, .inr (.inr (.inl h2.1))⟩
  · exact ⟨by omega, .inr (.inr (.inr h2.1))⟩
  · exact absurd h2.1 h5
  · exact absurd h2.1 h6
  · exact absurd h2.1 h7
theorem sok_es (h : e.ok C n w) {x : CE} (hx : x ∈ e.es) : x.ok C n := by
  cases e with
  | mk k sl z es thn els =>
  rw [CS.ok] at h
  have key : ∀ {l : List CE}, CE.okL C n l → x ∈ l → x.ok C n := by
    intro l
    induction l with
    | nil => intro _ hx; cases hx
    | cons a l ih =>
      intro ho hx
      rw [CE.okL] at ho
      rcases List.mem_cons.1 hx with rfl | hx
      · exact ho.1
      · exact ih ho.2 hx
  exact key h.1 hx
theorem sokL_mem {l : List CS} (ho : CS.okL C n w l) {x : CS} (hx : x ∈ l) : x.ok C n w := by
  induction l with
  | nil => cases hx
  | cons a l ih =>
    rw [CS.okL] at ho
    rcases List.mem_cons.1 hx with rfl | hx
    · exact ho.1
    · exact ih ho.2 hx
theorem sok_thn (h : e.ok C n w) : CS.okL C n w e.thn := by cases e; rw [CS.ok] at h; exact h.2.1
theorem sok_els (h : e.ok C n w) : CS.okL C n w e.els := by cases e; rw [CS.ok] at h; exact h.2.2.1
structure WhI (W : Nat) (fuel : Int) (cond : CM → Int × CM) (body : CM → CM) (t : CM) (q : Nat × CM) : Prop where
  good : q.2.good W
  eq : whileC fuel cond body q.1 q.2 = t
  gas : fuel.toNat + 1 ≤ q.1 + q.2.m.steps
  pos : 0 < q.1
section
variable {W : Nat} {cond : CM → Int × CM} {body : CM → CM} {t : CM} {q : Nat × CM}
theorem WhI.stop (h : WhI W fuel cond body t q) (hf : (q.2.m.fin == 0) = false ∨ q.2.over = true) : t = q.2 := by
  obtain ⟨g, d⟩ := q
  cases g with
  | zero => exact absurd (show 0 < 0 from h.pos) (Nat.lt_irrefl 0)
  | succ g =>
    rw [← h.eq, whileC]
    rcases hf with hf | hf
    · rw [show (d.fin == 0) = false from hf]; rfl
    · rw [show d.over = true from hf]; cases (d.fin == 0) <;> rfl
theorem WhI.last (h : WhI W fuel cond body t q) (h0 : (q.2.m.fin == 0) = true) (h1 : q.2.over = false) (ht : (tickC fuel q.2).1 = true) (hz : ((cond (tickC fuel q.2).2).2.m.fin != 0) = true ∨ ((cond (tickC fuel q.2).2).1 == 0) = true) : t = (cond (tickC fuel q.2).2).2 := by
  obtain ⟨g, d⟩ := q
  cases g with
  | zero => exact absurd (show 0 < 0 from h.pos) (Nat.lt_irrefl 0)
  | succ g =>
    rw [← h.eq, whileC, show (d.fin == 0) = true from h0, show d.over = false from h1, ht]
    dsimp only
    rw [show ((cond (tickC fuel d).2).2.fin == 0 && !(cond (tickC fuel d).2).1 == 0) = false by
      rcases hz with hz | hz
      · rw [fin_ne hz]; rfl
      · rw [show ((cond (tickC fuel d).2).1 == 0) = true from hz]; cases ((cond (tickC fuel d).2).2.fin == 0) <;> rfl]; rfl
theorem WhI.next (h : WhI W fuel cond body t q) (h0 : (q.2.m.fin == 0) = true) (h1 : q.2.over = false) (ht : (tickC fuel q.2).1 = true) (hz : ((cond (tickC fuel q.2).2).2.m.fin != 0) = false) (hz2 : ((cond (tickC fuel q.2).2).1 == 0) = false)
    (hg : (body (cond (tickC fuel q.2).2).2).good W) (hu1 : ∀ c, c.m.steps ≤ (cond c).2.m.steps) (hu2 : ∀ c, c.m.steps ≤ (body c).m.steps) : WhI W fuel cond body t (q.1 - 1, body (cond (tickC fuel q.2).2).2) ∧ q.1 - 1 < q.1 := by
  obtain ⟨g, d⟩ := q
  cases g with
  | zero => exact absurd (show 0 < 0 from h.pos) (Nat.lt_irrefl 0)
  | succ g =>
    have hgas := h.gas
    dsimp only at hgas hg h0 h1 ht hz hz2
    obtain ⟨e1, e2⟩ := mstep_true (show (mstep fuel d.m).1 = true from ht)
    have e3 : (tickC fuel d).2.m.steps = d.m.steps + 1 := by show (mstep fuel d.m).2.steps = _; rw [e2]
    have e4 := hu1 (tickC fuel d).2
    have e5 := hu2 (cond (tickC fuel d).2).2
    refine ⟨⟨hg, ?_, ?_, ?_⟩, ?_⟩
    · rw [← h.eq]
      show whileC fuel cond body (g + 1 - 1) _ = whileC fuel cond body (g + 1) d
      rw [whileC, show (d.fin == 0) = true from h0, show d.over = false from h1, ht]
      dsimp only
      rw [show ((cond (tickC fuel d).2).2.fin == 0 && !(cond (tickC fuel d).2).1 == 0) = true by rw [fin_eq hz, hz2]; rfl]; rfl
    · show fuel.toNat + 1 ≤ g + 1 - 1 + (body (cond (tickC fuel d).2).2).m.steps
      omega
    · show 0 < g + 1 - 1
      omega
    · show g + 1 - 1 < g + 1
      omega
end
end
def LowR (h : AHeap) : Nat → List AObj → Prop
  | _, [] => True
  | i, o :: L => h i = some o ∧ LowR h (i + 1) L
theorem LowR.get {h : AHeap} : ∀ {L : List AObj} {i c : Nat}, LowR h i L → c < L.length → h (i + c) = some (nth L c)
  | o :: L, i, 0, hl, _ => hl.1
  | o :: L, i, c + 1, hl, hc => by
    have := LowR.get hl.2 (c := c) (by simp at hc; omega)
    rw [show i + (c + 1) = i + 1 + c by omega]; exact this
theorem nth_past : ∀ {L : List AObj} {c : Nat}, L.length ≤ c → nth L c = .free
  | [], _, _ => rfl
  | _ :: L, 0, h => by simp at h
  | _ :: L, c + 1, h => nth_past (L := L) (by simp at h; omega)
def kR (m : Nat) : Nat → Bool := fun c => (Nat.ble 2 c && Nat.blt c (m + 2)) || Nat.ble 16 c
def putR (m : Nat) (h g : AHeap) : AHeap := fun c => bif kR m c then g c else h c
theorem kR_hi (m x : Nat) : kR m (x + 16) = true := by
  unfold kR; rw [show Nat.ble 16 (x + 16) = true by rw [Nat.ble_eq]; omega]; simp
theorem kR_false {m c : Nat} (h : kR m c = false) : c = 0 ∨ c = 1 ∨ (m + 2 ≤ c ∧ c < 16) := by
  unfold kR at h
  simp only [Bool.or_eq_false_iff, Bool.and_eq_false_iff] at h
  obtain ⟨h1, h2⟩ := h
  have h3 : ¬ 16 ≤ c := fun e => by rw [← Nat.ble_eq] at e; rw [e] at h2; cases h2
  rcases h1 with h1 | h1
  · have : ¬ 2 ≤ c := fun e => by rw [← Nat.ble_eq] at e; rw [e] at h1; cases h1
    omega
  · have : ¬ c < m + 2 := fun e => by
      have : Nat.blt c (m + 2) = true := by unfold Nat.blt; rw [Nat.ble_eq]; omega
      rw [this] at h1; cases h1
    omega
theorem kR_true {m c : Nat} (h : kR m c = true) : (2 ≤ c ∧ c < m + 2) ∨ 16 ≤ c := by
  unfold kR at h
  simp only [Bool.or_eq_true, Bool.and_eq_true, Nat.ble_eq] at h
  rcases h with ⟨h1, h2⟩ | h
  · left
    refine ⟨h1, ?_⟩
    unfold Nat.blt at h2
    rw [Nat.ble_eq] at h2; omega
  · exact .inr h
theorem putR_hi (m : Nat) (h g : AHeap) (x : Nat) : putR m h g (x + 16) = g (x + 16) := by unfold putR; rw [kR_hi]; rfl
theorem putR_yes {m : Nat} {h g : AHeap} {c : Nat} (hc : kR m c = true) : putR m h g c = g c := by unfold putR; rw [hc]; rfl
theorem putR_no {m : Nat} {h g : AHeap} {c : Nat} (hc : kR m c = false) : putR m h g c = h c := by unfold putR; rw [hc]; rfl
abbrev RH (L : List AObj) (F : Nat → AObj) : AHeap := fam (nb (.free :: .free :: L)) F
section
variable {m : Nat} {L L' : List AObj} {F F' : Nat → AObj} {h : AHeap}
theorem RH_low (F : Nat → AObj) (hL : L.length = m) (hm : m ≤ 14) {i : Nat} (hi : i < m) : RH L F (2 + i) = some (nth L i) := by
  show fam (nb _) F (2 + i) = _
  rw [fam_lo _ _ (by omega)]
  unfold nb
  congr 1
  rw [Nat.add_comm 2 i]; rfl
theorem nth_eachR {p : AObj → Prop} (h : ∀ o ∈ L, p o) (hf : p .free) : ∀ i, p (nth L i) := by
  induction L with
  | nil => intro i; exact hf
  | cons o L ih =>
    intro i
    cases i with
    | zero => exact h o (List.mem_cons.2 (.inl rfl))
    | succ i => exact ih (fun q hq => h q (List.mem_cons.2 (.inr hq))) i
theorem RH_avoid (hL : L.length = m) (hm : m ≤ 14) (hA : ∀ o ∈ L, o.avoid (kR m) = true) (hF : ∀ x, (F x).avoid (kR m) = true) {c : Nat} (hc : kR m c = true) : ∃ q, RH L F c = some q ∧ q.avoid (kR m) = true := by
  rcases kR_true hc with h | h
  · obtain ⟨i, rfl⟩ : ∃ i, c = 2 + i := ⟨c - 2, by omega⟩
    exact ⟨_, RH_low F hL hm (by omega), nth_eachR hA rfl i⟩
  · obtain ⟨x, rfl⟩ : ∃ x, c = x + 16 := ⟨c - 16, by omega⟩
    exact ⟨_, fam_hi _ _ _, hF x⟩
theorem RH_of (hL : L.length = m) (hm : m ≤ 14) (h1 : LowR h 2 L) (h2 : ∀ x, h (x + 16) = some (F x)) {c : Nat} (hc : kR m c = true) : h c = RH L F c := by
  rcases kR_true hc with hh | hh
  · obtain ⟨i, rfl⟩ : ∃ i, c = 2 + i := ⟨c - 2, by omega⟩
    rw [RH_low F hL hm (by omega)]
    exact h1.get (by omega)
  · obtain ⟨x, rfl⟩ : ∃ x, c = x + 16 := ⟨c - 16, by omega⟩
    rw [h2]
    exact (fam_hi _ _ _).symm
theorem hresK_RH (hL : L.length = m) (hm : m ≤ 14) (h1 : LowR h 2 L) (h2 : ∀ x, h (x + 16) = some (F x)) : hresK h (kR m) = RH L F := funext fun c => by
  unfold hresK
  cases e : kR m c with
  | true => exact RH_of hL hm h1 h2 e
  | false =>
    rcases kR_false e with rfl | rfl | hc
    · rfl
    · rfl
    · show some AObj.free = fam (nb (.free :: .free :: L)) F c
      rw [fam_lo _ _ (by omega)]
      show some AObj.free = some (nth (.free :: .free :: L) c)
      rw [nth_past (by show L.length + 1 + 1 ≤ c; omega)]
theorem o_callRH {P : Program} {o : Oper} {e : AEnv} {g : FuncId} {fn : Func} {args : Array Operand} {tys : Array TypeId} {xs : List AV} {r : AV} (m : Nat) (L L' : List AObj) {F : Nat → AObj} (F' : Nat → AObj)
    (ho : o.op = .call { callee := .value (.func g), args := args, argTypes := tys }) (hf : P.funcs[g]? = some fn) (hn : (fn.name == "runtime.NumGoroutine") = false) (hb : fn.body.isSome = true) (hx : lookAll e args.toList = some xs)
    (hxa : xs.all (AV.avoid (kR m)) = true) (hL : L.length = m) (hL' : L'.length = m) (hm : m ≤ 14) (hA : ∀ o ∈ L, o.avoid (kR m) = true) (hA' : ∀ o ∈ L', o.avoid (kR m) = true) (h1 : LowR h 2 L) (h2 : ∀ x, h (x + 16) = some (F x)) (hF : ∀ x, (F x).avoid (kR m) = true) (hF' : ∀ x, (F' x).avoid (kR m) = true) (hra : r.avoid (kR m) = true)
    (hcall : ACall P g xs (RH L F) (fun r' h' => r' = r ∧ HSub (putR m hNone (RH L' F')) h')) : OCall P o e h (putR m h (RH L' F')) r :=
  o_callK (hw := putR m hNone (RH L' F')) (kR m) ho hf hn hb hx hxa (fun b hb => by rw [RH_of hL hm h1 h2 hb]; exact RH_avoid hL hm hA hF hb) (hresK_RH hL hm h1 h2) (fun b hb => putR_no hb)
    (fun b hb => by obtain ⟨q, q1, q2⟩ := RH_avoid (L := L') (F := F') hL' hm hA' hF' hb; exact ⟨q, (putR_yes hb).trans q1, (putR_yes hb).trans q1, q2⟩) hra hcall
theorem o_callRF {P : Program} {o : Oper} {e : AEnv} {g : FuncId} {fn : Func} {x : Operand} {args : Array Operand} {tys : Array TypeId} {fs xs cs : List AV} {r : AV} (m : Nat) (L L' : List AObj) {F : Nat → AObj} (F' : Nat → AObj)
    (ho : o.op = .call { callee := .value x, args := args, argTypes := tys }) (hfn : look e x = some (.fn (.func g) fs cs)) (hf : P.funcs[g]? = some fn) (hn : (fn.name == "runtime.NumGoroutine") = false) (hb : fn.body.isSome = true) (hx : lookAll e args.toList = some xs)
    (hxa : (fs ++ xs ++ cs).all (AV.avoid (kR m)) = true) (hL : L.length = m) (hL' : L'.length = m) (hm : m ≤ 14) (hA : ∀ o ∈ L, o.avoid (kR m) = true) (hA' : ∀ o ∈ L', o.avoid (kR m) = true) (h1 : LowR h 2 L) (h2 : ∀ x, h (x + 16) = some (F x)) (hF : ∀ x, (F x).avoid (kR m) = true) (hF' : ∀ x, (F' x).avoid (kR m) = true) (hra : r.avoid (kR m) = true)
    (hcall : ACall P g (fs ++ xs ++ cs) (RH L F) (fun r' h' => r' = r ∧ HSub (putR m hNone (RH L' F')) h')) : OCall P o e h (putR m h (RH L' F')) r :=
  o_callFK (hw := putR m hNone (RH L' F')) (kR m) ho hfn hf hn hb hx hxa (fun b hb => by rw [RH_of hL hm h1 h2 hb]; exact RH_avoid hL hm hA hF hb) (hresK_RH hL hm h1 h2) (fun b hb => putR_no hb)
    (fun b hb => by obtain ⟨q, q1, q2⟩ := RH_avoid (L := L') (F := F') hL' hm hA' hF' hb; exact ⟨q, (putR_yes hb).trans q1, (putR_yes hb).trans q1, q2⟩) hra hcall
theorem rh_sub (hL : L.length = m) (hm : m ≤ 14) (h1 : LowR h 2 L) (h2 : ∀ x, h (x + 16) = some (F x)) : HSub (putR m hNone (RH L F)) h := fun c o ho => by
  cases e : kR m c with
  | true => rw [putR_yes e] at ho; rw [RH_of hL hm h1 h2 e]; exact ho
  | false => rw [putR_no e] at ho; cases ho
end
structure CoreB (C : Core) : Prop where
  w0 : 0 ≤ C.words
  w1 : C.words ≤ 32768
  n0 : 1 ≤ C.funcs.length
  n1 : C.funcs.length ≤ 64
  fn : ∀ g ∈ C.funcs, 0 ≤ g.params ∧ g.params ≤ 6 ∧ g.params ≤ g.slots ∧ 0 ≤ g.first ∧ g.first + g.slots ≤ C.words
theorem CoreR.b {C : Core} (h : CoreR C) : CoreB C := ⟨h.w0, h.w1, h.n0, h.n1, h.fn⟩
def bRow (i : Nat) (x : Block) : List AV := [slA (i + 16) (x.ins.map Tac.cells), .int .i64 x.fin, .int .i64 x.v, .int .i64 x.to, .int .i64 x.els]
def bRows (l : List Block) : List (List AV) := l.zipIdx.map fun p => bRow p.2 p.1
def bIns (l : List Block) (i : Nat) : List Tac := ((l[i]?).map Block.ins).getD []
def bFam (l : List Block) : Nat → AObj := fun i => slO 8 ((bIns l i).map Tac.cells)
abbrev bCell (C : Core) (w : Bool) (b : Bd) : List AV := [.lst false (C.funcs.map CFn.cells), .int .i64 C.words, .bool w, .int .i64 b.regs, .ref 3 b.blocks.length 0 b.blocks.length, .int .i64 (b.now : Int)]
abbrev bL (C : Core) (w : Bool) (b : Bd) : List AObj := [.row false 6 [bCell C w b], .row false 5 (bRows b.blocks)]
theorem bRows_len (l : List Block) : (bRows l).length = l.length := by simp [bRows]
theorem bRows_get {l : List Block} {i : Nat} {x : Block} (h : l[i]? = some x) : (bRows l)[i]? = some (bRow i x) := by
  unfold bRows
  rw [List.getElem?_map, zipIdx_get h]; rfl
theorem bRows_set {l : List Block} {i : Nat} {x : Block} {g : Block → Block} (h : l[i]? = some x) : (bRows l).set i (bRow i (g x)) = bRows (l.modify i g) := by
  refine List.ext_getElem? fun j => ?_
  rw [List.getElem?_set, bRows_len]
  have hi := (List.getElem?_eq_some_iff.1 h).1
  by_cases hj : i = j
  · subst hj
    rw [if_pos rfl, if_pos hi]
    refine (bRows_get ?_).symm
    rw [List.getElem?_modify, h]; simp
  · rw [if_neg hj]
    cases e : l[j]? with
    | none =>
      rw [List.getElem?_eq_none (by rw [bRows_len]; exact List.getElem?_eq_none_iff.1 e), List.getElem?_eq_none (by rw [bRows_len, List.length_modify]; exact List.getElem?_eq_none_iff.1 e)]
    | some y =>
      rw [bRows_get e, bRows_get (x := y) (by rw [List.getElem?_modify, e]; simp [hj])]
theorem bRows_snoc (l : List Block) (x : Block) : bRows (l ++ [x]) = bRows l ++ [bRow l.length x] := by
  refine List.ext_getElem? fun j => ?_
  by_cases hj : j < l.length
  · obtain ⟨y, hy⟩ := get_of_lt hj
    rw [bRows_get (x := y) (by rw [List.getElem?_append_left hj]; exact hy), List.getElem?_append_left (by rw [bRows_len]; exact hj), bRows_get hy]
  · by_cases hj2 : j = l.length
    · subst hj2
      rw [bRows_get (x := x) (by rw [List.getElem?_append_right (Nat.le_refl _), Nat.sub_self]; rfl), List.getElem?_append_right (by rw [bRows_len]; omega), bRows_len, Nat.sub_self]; rfl
    · rw [List.getElem?_eq_none (by rw [bRows_len, List.length_append]; simp; omega), List.getElem?_eq_none (by rw [List.length_append, bRows_len]; simp; omega)]
theorem bIns_at {l : List Block} {i : Nat} {x : Block} (h : l[i]? = some x) : bIns l i = x.ins := by unfold bIns; rw [h]; rfl
theorem bFam_at {l : List Block} {i : Nat} {x : Block} (h : l[i]? = some x) : bFam l i = slO 8 (x.ins.map Tac.cells) := by unfold bFam; rw [bIns_at h]
theorem bFam_same {l l' : List Block} (h : ∀ i, bIns l' i = bIns l i) : bFam l' = bFam l := funext fun i => by unfold bFam; rw [h]
theorem bIns_snoc {l : List Block} {x : Block} (hx : x.ins = []) (i : Nat) : bIns (l ++ [x]) i = bIns l i := by
  unfold bIns
  by_cases hj : i < l.length
  · rw [List.getElem?_append_left hj]
  · rw [List.getElem?_eq_none (l := l) (by omega)]
    by_cases hj2 : i = l.length
    · subst hj2
      rw [List.getElem?_append_right (Nat.le_refl _), Nat.sub_self]
      show ((some x).map Block.ins).getD [] = _
      exact hx
    · rw [List.getElem?_eq_none (by rw [List.length_append]; simp; omega)]
theorem bIns_upd {l : List Block} {k : Nat} {g : Block → Block} (hg : ∀ x, (g x).ins = x.ins) (i : Nat) : bIns (l.modify k g) i = bIns l i := by
  unfold bIns
  rw [List.getElem?_modify]
  cases l[i]? with
  | none => rfl
  | some x => by_cases h : k = i <;> simp [h, hg]
theorem bFam_put {l : List Block} {k : Nat} {x : Block} {t : Tac} (h : l[k]? = some x) (y : Nat) : bFam (l.modify k fun x => x.mid (x.ins ++ [t])) y = if y = k then slO 8 (x.ins.map Tac.cells ++ [t.cells]) else bFam l y := by
  unfold bFam bIns
  rw [List.getElem?_modify]
  by_cases hy : y = k
  · subst hy
    rw [if_pos rfl, h]
    simp [Block.mid]
  · rw [if_neg hy]
    cases l[y]? with
    | none => rfl
    | some z => simp [Ne.symm hy]
theorem bRow_avoid {k : Nat → Bool} (hk : ∀ x, k (x + 16) = true) (i : Nat) (x : Block) : (bRow i x).all (AV.avoid k) = true := by
  simp only [bRow, List.all_cons, List.all_nil, Bool.and_true, Bool.and_eq_true]
  exact ⟨slA_avoid _ (hk _), rfl, rfl, rfl, rfl⟩
theorem bRows_avoid {k : Nat → Bool} (hk : ∀ x, k (x + 16) = true) (l : List Block) : (AObj.row false 5 (bRows l)).avoid k = true := by
  show (bRows l).all (fun cs => cs.all (AV.avoid k)) = true
  refine List.all_eq_true.2 fun cs hc => ?_
  obtain ⟨p, _, rfl⟩ := List.mem_map.1 hc
  exact bRow_avoid hk _ _
theorem bFam_avoid {k : Nat → Bool} (l : List Block) (x : Nat) : (bFam l x).avoid k = true := slO_avoid _ _
theorem bL_avoid (C : Core) (w : Bool) (b : Bd) : ∀ o ∈ bL C w b, o.avoid (kR 2) = true := fun o ho => by
  simp only [bL, List.mem_cons, List.not_mem_nil, or_false] at ho
  rcases ho with rfl | rfl
  · rfl
  · exact bRows_avoid (kR_hi 2) _
theorem bIns_none {l : List Block} {i : Nat} (h : l.length ≤ i) : bIns l i = [] := by unfold bIns; rw [List.getElem?_eq_none h]; rfl
theorem tacs_len8 (l : List Tac) : ∀ cs ∈ l.map Tac.cells, cs.length = 8 := fun cs hc => by
  obtain ⟨t, _, rfl⟩ := List.mem_map.1 hc; rfl
theorem tacs_pure8 (l : List Tac) : ∀ cs ∈ l.map Tac.cells, cs.all AV.isPure1 = true := fun cs hc => by
  obtain ⟨t, _, rfl⟩ := List.mem_map.1 hc; rfl
theorem bCell_put (C : Core) (w : Bool) (b : Bd) (t : Tac) : bCell C w (b.put t) = [.lst false (C.funcs.map CFn.cells), .int .i64 C.words, .bool w, .int .i64 (max b.regs (t.d + 1)), .ref 3 b.blocks.length 0 b.blocks.length, .int .i64 (b.now : Int)] := by
  have e : (b.put t).blocks.length = b.blocks.length := List.length_modify ..
  show ([AV.lst false (C.funcs.map CFn.cells), AV.int .i64 C.words, AV.bool w, AV.int .i64 (max b.regs (t.d + 1)), AV.ref 3 (b.put t).blocks.length 0 (b.put t).blocks.length, AV.int .i64 (b.now : Int)] : List AV) = _
  rw [e]
theorem bRow_put {b : Bd} {x : Block} (t : Tac) (hx : b.blocks[b.now]? = some x) : (bRows b.blocks).set b.now ((bRow b.now x).set 0 (slA (b.now + 16) (x.ins.map Tac.cells ++ [t.cells]))) = bRows (b.put t).blocks := by
  have h := bRows_set (g := fun x => x.mid (x.ins ++ [t])) hx
  refine Eq.trans ?_ h
  congr 1
  show [slA (b.now + 16) (x.ins.map Tac.cells ++ [t.cells]), _, _, _, _] = [slA (b.now + 16) ((x.ins ++ [t]).map Tac.cells), _, _, _, _]
  rw [List.map_append]; rfl
theorem bRow_putR {b : Bd} {x : Block} (t : Tac) (hx : b.blocks[b.now]? = some x) : (bRows b.blocks).set b.now ((bRow b.now x).set 0 (.ref (b.now + 16) ((x.ins.map Tac.cells).length + 1) 0 ((x.ins.map Tac.cells).length + 1))) = bRows (b.put t).blocks := by
  rw [← bRow_put t hx, slA_snoc]
theorem bFam_putR {b : Bd} {x : Block} {t : Tac} (h : b.blocks[b.now]? = some x) (y : Nat) : bFam (b.put t).blocks y = if y = b.now then .row true 8 (x.ins.map Tac.cells ++ [t.cells]) else bFam b.blocks y := by
  rw [← slO_snoc]; exact bFam_put h y
def Wkb (x y : AV) : Prop := (x.cell1 = true → y.cell1 = true) ∧ ∀ H ι v, Rel H ι x v → Rel H ι y v
theorem Wkb.refl (x : AV) : Wkb x x := ⟨fun h => h, fun _ _ _ h => h⟩
theorem Wkb.nil (b : Nat) : Wkb .nil (slA b []) := ⟨fun _ => rfl, fun H ι v h => by
  rw [h.nil_inv]; exact .lst0 _ _ _ _ (fun _ => rfl) (Nat.zero_le _) (fun _ => rfl) trivial⟩
theorem wkb_snoc {es : List (List AV)} {f v t l x : AV} (b : Nat) : ∀ (i : Nat) (ds ds' : List AV), (es ++ [[.nil, f, v, t, l]])[i]? = some ds → (es ++ [[slA b [], f, v, t, l]])[i]? = some ds' → ds'.length = ds.length ∧ ∀ (j : Nat) (a c : AV), ds[j]? = some a → ds'[j]? = some c → (a.cell1 = true → c.cell1 = true) ∧ ∀ H ι v, Rel H ι a v → Rel H ι c v := fun i ds ds' h1 h2 => by
  rcases Nat.lt_or_ge i es.length with hi | hi
  · rw [List.getElem?_append_left hi] at h1 h2
    rw [h1] at h2; cases h2
    exact ⟨rfl, fun j a c g1 g2 => by rw [g1] at g2; cases g2; exact Wkb.refl a⟩
  · rw [List.getElem?_append_right hi] at h1 h2
    cases e : i - es.length with
    | zero =>
      rw [e] at h1 h2
      cases h1; cases h2
      refine ⟨rfl, fun j a c g1 g2 => ?_⟩
      cases j with
      | zero => cases g1; cases g2; exact Wkb.nil b
      | succ j =>
        have : [AV.nil, f, v, t, l][j + 1]? = [slA b [], f, v, t, l][j + 1]? := rfl
        rw [this, g2] at g1; cases g1; exact Wkb.refl _
    | succ k => rw [e] at h1; simp at h1
theorem bCell_upd (C : Core) (w : Bool) (b : Bd) (g : Block → Block) : bCell C w (b.upd g) = bCell C w b := by
  have e : (b.upd g).blocks.length = b.blocks.length := List.length_modify ..
  show ([AV.lst false (C.funcs.map CFn.cells), AV.int .i64 C.words, AV.bool w, AV.int .i64 b.regs, AV.ref 3 (b.upd g).blocks.length 0 (b.upd g).blocks.length, AV.int .i64 (b.now : Int)] : List AV) = _
  rw [e]
theorem bFam_upd (b : Bd) {g : Block → Block} (hg : ∀ x, (g x).ins = x.ins) : bFam (b.upd g).blocks = bFam b.blocks := bFam_same fun i => bIns_upd hg i
theorem bFam_jump (b : Bd) (to : Nat) : bFam (b.jump to).blocks = bFam b.blocks := bFam_upd b (g := fun x => { x with fin := 1, to := (to : Int) }) fun _ => rfl
theorem bFam_fork (b : Bd) (v to els : Nat) : bFam (b.fork v to els).blocks = bFam b.blocks := bFam_upd b (g := fun x => { x with fin := 2, v := (v : Int), to := (to : Int), els := (els : Int) }) fun _ => rfl
theorem bFam_ret (b : Bd) : bFam b.ret.blocks = bFam b.blocks := bFam_upd b (g := fun x => { x with fin := 3 }) fun _ => rfl
theorem bFam_open (b : Bd) : bFam b.opened.blocks = bFam b.blocks := bFam_same fun i => bIns_snoc rfl i
theorem bRow_open (b : Bd) : bRows b.blocks ++ [bRow b.blocks.length blk0] = bRows b.opened.blocks := (bRows_snoc _ _).symm
theorem bCell_open (C : Core) (w : Bool) (b : Bd) : bCell C w b.opened = [.lst false (C.funcs.map CFn.cells), .int .i64 C.words, .bool w, .int .i64 b.regs, .ref 3 (b.blocks.length + 1) 0 (b.blocks.length + 1), .int .i64 (b.now : Int)] := by
  show ([AV.lst false (C.funcs.map CFn.cells), AV.int .i64 C.words, AV.bool w, AV.int .i64 b.regs, AV.ref 3 b.opened.blocks.length 0 b.opened.blocks.length, AV.int .i64 (b.now : Int)] : List AV) = _
  rw [opened_len]
section
variable {b : Bd} {x : Block} (hx : b.blocks[b.now]? = some x)
include hx
theorem bRow_jump (to : Nat) : ((bRows b.blocks).set b.now ((bRow b.now x).set 1 (.int .i64 1))).set b.now (((bRow b.now x).set 1 (.int .i64 1)).set 3 (.int .i64 (to : Int))) = bRows (b.jump to).blocks := by
  rw [List.set_set]
  exact bRows_set (g := fun x => { x with fin := 1, to := (to : Int) }) hx
theorem bRow_fork (v to els : Nat) : ((((bRows b.blocks).set b.now ((bRow b.now x).set 1 (.int .i64 2))).set b.now (((bRow b.now x).set 1 (.int .i64 2)).set 2 (.int .i64 (v : Int)))).set b.now ((((bRow b.now x).set 1 (.int .i64 2)).set 2 (.int .i64 (v : Int))).set 3 (.int .i64 (to : Int)))).set b.now (((((bRow b.now x).set 1 (.int .i64 2)).set 2 (.int .i64 (v : Int))).set 3 (.int .i64 (to : Int))).set 4 (.int .i64 (els : Int))) = bRows (b.fork v to els).blocks := by
  rw [List.set_set, List.set_set, List.set_set]
  exact bRows_set (g := fun x => { x with fin := 2, v := (v : Int), to := (to : Int), els := (els : Int) }) hx
theorem bRow_ret : (bRows b.blocks).set b.now ((bRow b.now x).set 1 (.int .i64 3)) = bRows b.ret.blocks := bRows_set (g := fun x => { x with fin := 3 }) hx
end
def Bd.cnt (b : Bd) : Nat := b.blocks.length + (b.blocks.map fun x => x.ins.length).sum
theorem cnt_ins {b : Bd} {i : Nat} {x : Block} (h : b.blocks[i]? = some x) : x.ins.length ≤ b.cnt := by
  have := le_sum (p := fun x : Block => x.ins.length) (List.mem_of_getElem? h)
  unfold Bd.cnt; omega
theorem cnt_len (b : Bd) : b.blocks.length ≤ b.cnt := by unfold Bd.cnt; omega
theorem sum_modify {l : List Block} {k : Nat} {x : Block} {g : Block → Block} (h : l[k]? = some x) : ((l.modify k g).map fun x => x.ins.length).sum + x.ins.length = (l.map fun x => x.ins.length).sum + (g x).ins.length := by
  induction l generalizing k with
  | nil => simp at h
  | cons y l ih =>
    cases k with
    | zero => simp at h; subst h; simp [List.modify]; omega
    | succ k =>
      have := ih (k := k) (by simpa using h)
      simp only [List.modify_succ_cons, List.map_cons, List.sum_cons]
      omega
theorem cnt_put {b : Bd} {x : Block} (t : Tac) (h : b.blocks[b.now]? = some x) : (b.put t).cnt = b.cnt + 1 := by
  have h1 : ((b.blocks.modify b.now fun x => x.mid (x.ins ++ [t])).map fun x => x.ins.length).sum + x.ins.length = (b.blocks.map fun x => x.ins.length).sum + (x.mid (x.ins ++ [t])).ins.length := sum_modify (g := fun x => x.mid (x.ins ++ [t])) h
  have h2 : (b.put t).blocks.length = b.blocks.length := List.length_modify ..
  unfold Bd.cnt
  rw [h2]
  show _ + ((b.blocks.modify b.now fun x => x.mid (x.ins ++ [t])).map fun x => x.ins.length).sum = _
  have h3 : (x.mid (x.ins ++ [t])).ins.length = x.ins.length + 1 := by simp [Block.mid]
  omega
theorem cnt_upd {b : Bd} {g : Block → Block} (hg : ∀ x, (g x).ins = x.ins) : (b.upd g).cnt = b.cnt := by
  have h2 : (b.upd g).blocks.length = b.blocks.length := List.length_modify ..
  unfold Bd.cnt
  rw [h2]
  congr 1
  show ((b.blocks.modify b.now g).map fun x => x.ins.length).sum = _
  have key : ∀ (l : List Block) (k : Nat), (l.modify k g).map (fun x => x.ins.length) = l.map fun x => x.ins.length := fun l => by
    induction l with
    | nil => intro k; simp
    | cons y l ih =>
      intro k
      cases k with
      | zero => simp [List.modify, hg]
      | succ k => simp [List.modify_succ_cons, ih]
  rw [key]
theorem cnt_open (b : Bd) : b.opened.cnt = b.cnt + 1 := by
  unfold Bd.cnt
  rw [opened_len]
  show _ + ((b.blocks ++ [blk0]).map fun x => x.ins.length).sum = _
  simp; omega
theorem fam_eq {F G : Nat → AObj} (h : F = G) (x : Nat) : some (F x) = some (G x) := by rw [h]
abbrev r8 : AObj := .row false 1 [[.ptr 2 1 0 0]]
abbrev bL5 (C : Core) (w : Bool) (b : Bd) (o4 o5 o6 : AObj) : List AObj := [.row false 6 [bCell C w b], .row false 5 (bRows b.blocks), o4, o5, o6]
abbrev bL8 (C : Core) (w : Bool) (b : Bd) (o4 o5 o6 o9 : AObj) : List AObj := [.row false 6 [bCell C w b], .row false 5 (bRows b.blocks), o4, o5, o6, .free, r8, o9]
structure Ext (o4 o5 o6 : AObj) : Prop where
  a5 : o4.avoid (kR 5) = true ∧ o5.avoid (kR 5) = true ∧ o6.avoid (kR 5) = true
  a8 : o4.avoid (kR 8) = true ∧ o5.avoid (kR 8) = true ∧ o6.avoid (kR 8) = true
theorem bL5_avoid (C : Core) (w : Bool) (b : Bd) {o4 o5 o6 : AObj} (h : Ext o4 o5 o6) : ∀ o ∈ bL5 C w b o4 o5 o6, o.avoid (kR 5) = true := fun o ho => by
  simp only [bL5, List.mem_cons, List.not_mem_nil, or_false] at ho
  rcases ho with rfl | rfl | rfl | rfl | rfl
  · rfl
  · exact bRows_avoid (kR_hi 5) _
  · exact h.a5.1
  · exact h.a5.2.1
  · exact h.a5.2.2
theorem bL8_avoid (C : Core) (w : Bool) (b : Bd) {o4 o5 o6 o9 : AObj} (h : Ext o4 o5 o6) (h9 : o9.avoid (kR 8) = true) : ∀ o ∈ bL8 C w b o4 o5 o6 o9, o.avoid (kR 8) = true := fun o ho => by
  simp only [bL8, List.mem_cons, List.not_mem_nil, or_false] at ho
  rcases ho with rfl | rfl | rfl | rfl | rfl | rfl | rfl | rfl
  · rfl
  · exact bRows_avoid (kR_hi 8) _
  · exact h.a8.1
  · exact h.a8.2.1
  · exact h.a8.2.2
  · rfl
  · rfl
  · exact h9
def rL (N : Nat) : List Nat := 2 :: 3 :: famL (fun x => x + 16) N
def rW (o2 o3 : AObj) (F : Nat → AObj) (N : Nat) : List (Nat × AObj) := (2, o2) :: (3, o3) :: famW (fun x => x + 16) F N
theorem rL_lo (N : Nat) : mem (rL N) 2 = true ∧ mem (rL N) 3 = true := ⟨mem_iff.2 (by simp [rL]), mem_iff.2 (by simp [rL])⟩
theorem rL_hi {N x : Nat} (h : x < N) : mem (rL N) (x + 16) = true := mem_iff.2 (by unfold rL; exact List.mem_cons_of_mem _ (List.mem_cons_of_mem _ (famL_mem.2 ⟨x, h, rfl⟩)))
theorem rL_mem {N b : Nat} (h : b ∈ rL N) : b = 2 ∨ b = 3 ∨ ∃ x, x < N ∧ b = x + 16 := by
  unfold rL at h
  rcases List.mem_cons.1 h with h | h
  · exact .inl h
  rcases List.mem_cons.1 h with h | h
  · exact .inr (.inl h)
  · exact .inr (.inr (famL_mem.1 h))
theorem rW_lo {h : AHeap} {o2 o3 : AObj} {F : Nat → AObj} {N c : Nat} (hc : c < 16) : hputs h (rW o2 o3 F N) c = if c = 2 then some o2 else if c = 3 then some o3 else h c := by
  show hputs (hput (hput h 2 o2) 3 o3) (famW (fun x => x + 16) F N) c = _
  rw [famW_out _ (fun i _ => by omega)]
  by_cases h2 : c = 2
  · subst h2; rfl
  · by_cases h3 : c = 3
    · subst h3; rfl
    · rw [if_neg h2, if_neg h3, hput_ne _ _ h3, hput_ne _ _ h2]
theorem rW_lo' {h : AHeap} {o2 o3 : AObj} {F : Nat → AObj} {N c : Nat} (hc : c < 16) (h2 : c ≠ 2) (h3 : c ≠ 3) : hputs h (rW o2 o3 F N) c = h c := by rw [rW_lo hc, if_neg h2, if_neg h3]
theorem rW_hi {h : AHeap} {o2 o3 : AObj} {F F' : Nat → AObj} {N : Nat} (hh : ∀ x, h (x + 16) = some (F x)) (h1 : ∀ x, N ≤ x → F x = .free) (h2 : ∀ x, N ≤ x → F' x = .free) (x : Nat) : hputs h (rW o2 o3 F' N) (x + 16) = some (F' x) := by
  show hputs (hput (hput h 2 o2) 3 o3) (famW (fun x => x + 16) F' N) (x + 16) = _
  by_cases hx : x < N
  · exact famW_in (fun i j e => by omega) _ hx
  · rw [famW_out _ (fun i hi => by omega), hput_ne _ _ (by omega), hput_ne _ _ (by omega), hh, h1 x (by omega), h2 x (by omega)]
theorem bFam_free {l : List Block} {x : Nat} (h : l.length ≤ x) : bFam l x = .free := by unfold bFam; rw [bIns_none h]; rfl
theorem bRows_avoidL {l : List Block} {N : Nat} (h : l.length ≤ N) : (AObj.row false 5 (bRows l)).avoid (mem (rL N)) = true := by
  show (bRows l).all (fun cs => cs.all (AV.avoid (mem (rL N)))) = true
  refine List.all_eq_true.2 fun cs hc => ?_
  obtain ⟨i, hi⟩ := List.mem_iff_getElem?.1 hc
  have hil := (List.getElem?_eq_some_iff.1 hi).1
  rw [bRows_len] at hil
  obtain ⟨x, hx⟩ := get_of_lt hil
  rw [bRows_get hx] at hi
  cases hi
  simp only [bRow, List.all_cons, List.all_nil, Bool.and_true, Bool.and_eq_true]
  exact ⟨slA_avoid _ (rL_hi (by omega)), rfl, rfl, rfl, rfl⟩
theorem o_callRL {P : Program} {o : Oper} {e : AEnv} {h : AHeap} {g : FuncId} {fn : Func} {args : Array Operand} {tys : Array TypeId} {xs : List AV} {r : AV} (C : Core) (w : Bool) (b b' : Bd) (N : Nat) (hN : b.blocks.length ≤ N) (hN' : b'.blocks.length ≤ N)
    (ho : o.op = .call { callee := .value (.func g), args := args, argTypes := tys }) (hf : P.funcs[g]? = some fn) (hn : (fn.name == "runtime.NumGoroutine") = false) (hb : fn.body.isSome = true) (hx : lookAll e args.toList = some xs)
    (hxa : xs.all (AV.avoid (mem (rL N))) = true) (h1 : LowR h 2 (bL C w b)) (h2 : ∀ x, h (x + 16) = some (bFam b.blocks x)) (hra : r.avoid (mem (rL N)) = true)
    (hcall : ACall P g xs (RH (bL C w b) (bFam b.blocks)) (fun r' h' => r' = r ∧ HSub (putR 2 hNone (RH (bL C w b') (bFam b'.blocks))) h')) :
    OLoc P o e h (rL N) (rW (.row false 6 [bCell C w b']) (.row false 5 (bRows b'.blocks)) (bFam b'.blocks) N) (some r) := by
  refine o_call (hc := RH (bL C w b) (bFam b.blocks)) (hw := putR 2 hNone (RH (bL C w b') (bFam b'.blocks))) (rL N) (rW (.row false 6 [bCell C w b']) (.row false 5 (bRows b'.blocks)) (bFam b'.blocks) N) ho hf hn hb hx hxa (AllL.of fun c hc => ?_) ?_ ?_ (AllL.of fun c hc => ?_) hra hcall
  · rcases rL_mem hc with rfl | rfl | ⟨x, hx, rfl⟩
    · exact ⟨_, h1.1, rfl⟩
    · exact ⟨_, h1.2.1, bRows_avoidL hN⟩
    · exact ⟨_, h2 x, slO_avoid _ _⟩
  · show (rW _ _ _ N).all (fun p => mem (rL N) p.1) = true
    unfold rW
    rw [List.all_cons, List.all_cons, Bool.and_eq_true, Bool.and_eq_true]
    exact ⟨(rL_lo N).1, (rL_lo N).2, famW_all _ _ _ _ fun i hi => rL_hi hi⟩
  · funext c
    unfold hres
    cases hm : mem (rL N) c with
    | true =>
      rcases rL_mem (mem_iff.1 hm) with rfl | rfl | ⟨x, hx, rfl⟩
      · exact h1.1
      · exact h1.2.1
      · exact (h2 x).trans (fam_hi _ _ _).symm
    | false =>
      show some AObj.free = RH (bL C w b) (bFam b.blocks) c
      by_cases hc : c < 16
      · have c2 : c ≠ 2 := fun e => by subst e; rw [(rL_lo N).1] at hm; cases hm
        have c3 : c ≠ 3 := fun e => by subst e; rw [(rL_lo N).2] at hm; cases hm
        show _ = fam (nb _) _ c
        rw [fam_lo _ _ hc]
        unfold nb
        congr 1
        match c, c2, c3 with
        | 0, _, _ => rfl
        | 1, _, _ => rfl
        | 2, h, _ => exact absurd rfl h
        | 3, _, h => exact absurd rfl h
        | c + 4, _, _ => rfl
      · obtain ⟨x, rfl⟩ : ∃ x, c = x + 16 := ⟨c - 16, by omega⟩
        have hxN : N ≤ x := by
          rcases Nat.lt_or_ge x N with hx | hx
          · rw [rL_hi hx] at hm; cases hm
          · exact hx
        exact ((fam_hi _ _ _).trans (congrArg some (bFam_free (Nat.le_trans hN hxN)))).symm
  · rcases rL_mem hc with rfl | rfl | ⟨x, hx, rfl⟩
    · exact ⟨_, putR_yes rfl, rW_lo (by omega), rfl⟩
    · exact ⟨_, putR_yes rfl, rW_lo (by omega), bRows_avoidL hN'⟩
    · exact ⟨_, (putR_hi _ _ _ x).trans (fam_hi _ _ _), rW_hi h2 (fun y hy => bFam_free (Nat.le_trans hN hy)) (fun y hy => bFam_free (Nat.le_trans hN' hy)) x, slO_avoid _ _⟩
def clsB (b : Nat) : Nat := if b = 3 then 2 else if b < 16 then b else 2
theorem rL_cls (N : Nat) : clsIn clsB (rL N) [2] := fun b hb => by
  rcases rL_mem hb with rfl | rfl | ⟨x, hx, rfl⟩
  · simp [clsB]
  · simp [clsB]
  · have : clsB (x + 16) = 2 := by unfold clsB; rw [if_neg (by omega), if_neg (by omega)]
    rw [this]; simp
theorem rW_cls (o2 o3 : AObj) (F : Nat → AObj) (N : Nat) : clsIn clsB ((rW o2 o3 F N).map (·.1)) [2] := fun b hb => by
  refine rL_cls N b ?_
  unfold rW at hb
  unfold rL
  rw [List.map_cons, List.map_cons] at hb
  rcases List.mem_cons.1 hb with hb | hb
  · exact List.mem_cons.2 (.inl hb)
  rcases List.mem_cons.1 hb with hb | hb
  · exact List.mem_cons_of_mem _ (List.mem_cons.2 (.inl hb))
  · refine List.mem_cons_of_mem _ (List.mem_cons_of_mem _ ?_)
    obtain ⟨p, hp, rfl⟩ := List.mem_map.1 hb
    unfold famW at hp
    obtain ⟨i, hi, rfl⟩ := List.mem_map.1 hp
    exact famL_mem.2 ⟨i, List.mem_range.1 hi, rfl⟩
end Go.Proofs.Ytmfihmkopmgelaa.Sv
