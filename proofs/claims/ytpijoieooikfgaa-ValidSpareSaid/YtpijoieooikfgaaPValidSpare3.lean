/-
  THE PROGRAM'S CHECKER COMPARES TERMS, IN PLAIN LEAN: own work, over no program.
  A BLOCK'S CHECK COMPARES TERMS, IN PLAIN LEAN: own work, over no program.
  THE DOCUMENT'S CHECKER COMPARES TERMS, IN PLAIN LEAN: own work, over no program.
  BOTH CHECKERS ARE ONE, IN PLAIN LEAN; small facts for the walks over the laws: own work, over no program.
  ARGUMENTS OF THE LAWS OF THE CHECKER, IN PLAIN LEAN: own work, over no program.
  How certificates, and pairs and triples of functions, read: own work.
  WHAT A CHECK SAYS, BY ONE RUN OF EACH BLOCK, IN PLAIN LEAN: own work, over no program.
  A FUNCTION IS THE SAME AS ITSELF; ROWS PUT TOGETHER: plain Lean, own work, over no program.
  RUNS THAT HAVE DONE FEWER STEPS END ALIKE, IN PLAIN LEAN: own work, over no program.
  WHAT A RUN DOES, BY ITS EFFECTS, IN PLAIN LEAN: own work, over no program.
  EACH INSTRUCTION DOES WHAT ITS TERMS SAY, IN PLAIN LEAN: own work, over no program.
  WHAT IS CHECKED ENDS ALIKE, IN PLAIN LEAN: own work, over no program.
  A FUNCTION THAT IS CHECKED ENDS ALIKE, IN PLAIN LEAN: own work, over no program.
  A FUNCTION THAT IS CHECKED ENDS WHERE THE OTHER ONE DID, IN PLAIN LEAN: own work, over no program.
  ONE REGISTER MORE; SHAPES THAT ARE UNLIKE: plain Lean, own work, over no program.
  A slice that is copied behind nothing: own work.
  WHAT THE WALKS OF ValidMeans AND ValidShapes ASK, IN PLAIN LEAN: own work, over no program.
  What is put behind nothing, or behind a list, may hold slices: own work.
  Short names for the commonest steps of a walk (what is said of them is found by rfl).
  WALKS: printed by a program of our own from the code's tree.
  WALKS: printed by a program of our own from the code's tree.
  THE CODE'S CHECKS OF INSTRUCTIONS ARE THE DOCUMENT'S, IN PLAIN LEAN: own work, over no program.
  WALKS: printed by a program of our own from the code's tree.
  WALKS: printed by a program of our own from the code's tree.
  WALKS: printed by a program of our own from the code's tree.
  SMALL LEMMAS FOR THE WALKS OF FLOW: own work, over no program.
  WALKS: printed by a program of our own from the code's tree.
-/
import Derived.Test.YtpijoieooikfgaaPValidSpare2
import Derived.Test.YtpijoieooikfgaaPValidSpare1
namespace Go.Proofs.Ytpijoieooikfgaa.Sv
open Go
def VN (R : Nat) (ts : List Tm) : Tm → Int → Prop
  | .old v, n => n = (v : Int) ∧ v < R
  | .own v, n => n = ((R + v : Nat) : Int) ∧ v < R
  | t, n => ∃ i : Nat, ts[i]? = some t ∧ n = ((2 * R + i : Nat) : Int)
def VK (R : Nat) (ts : List Tm) : Tm → List Int → Prop
  | .cst n, k => k = [1, n, 0, 0]
  | .op o a b, k => ∃ x y, VN R ts a x ∧ VN R ts b y ∧ k = [2, o, x, y]
  | .ld b τ, k => k = [3, b, τ, 0]
  | .unk n, k => k = [4, (n : Int) + 1, 0, 0]
  | _, _ => False
structure VT (R : Nat) (ts : List Tm) (K : List (List Int)) : Prop where
  nd : ts.Nodup
  len : K.length = ts.length
  key : ∀ (i : Nat) (t : Tm) (k : List Int), ts[i]? = some t → K[i]? = some k → VK R ts t k
  word : ∀ (n : Int), Tm.cst n ∈ ts → isW n
section
variable {R : Nat} {ts ts' : List Tm} {K : List (List Int)}
theorem VN.ext (hp : ts <+: ts') : ∀ {t : Tm} {n : Int}, VN R ts t n → VN R ts' t n
  | .old _, _, h => h
  | .own _, _, h => h
  | .cst _, _, ⟨i, h1, h2⟩ => ⟨i, pre_get hp h1, h2⟩
  | .op _ _ _, _, ⟨i, h1, h2⟩ => ⟨i, pre_get hp h1, h2⟩
  | .ld _ _, _, ⟨i, h1, h2⟩ => ⟨i, pre_get hp h1, h2⟩
  | .unk _, _, ⟨i, h1, h2⟩ => ⟨i, pre_get hp h1, h2⟩
theorem VK.ext (hp : ts <+: ts') : ∀ {t : Tm} {k : List Int}, VK R ts t k → VK R ts' t k
  | .cst _, _, h => h
  | .op _ _ _, _, ⟨x, y, h1, h2, h3⟩ => ⟨x, y, h1.ext hp, h2.ext hp, h3⟩
  | .ld _ _, _, h => h
  | .unk _, _, h => h
theorem VN.tab {t : Tm} {k : List Int} {n : Int} (hk : VK R ts t k) : VN R ts t n ↔ ∃ i : Nat, ts[i]? = some t ∧ n = ((2 * R + i : Nat) : Int) := by
  cases t with
  | old => exact hk.elim
  | own => exact hk.elim
  | _ => exact Iff.rfl
theorem VN.cls {t : Tm} {n : Int} (h : VN R ts t n) : (∃ v : Nat, t = .old v ∧ n = (v : Int) ∧ v < R) ∨ (∃ v : Nat, t = .own v ∧ n = ((R + v : Nat) : Int) ∧ v < R) ∨ (∃ i : Nat, ts[i]? = some t ∧ n = ((2 * R + i : Nat) : Int)) := by
  cases t with
  | old v => exact .inl ⟨v, rfl, h.1, h.2⟩
  | own v => exact .inr (.inl ⟨v, rfl, h.1, h.2⟩)
  | _ => exact .inr (.inr h)
theorem VN.uniq (hnd : ts.Nodup) (hno : ∀ v, Tm.old v ∉ ts ∧ Tm.own v ∉ ts) {t : Tm} {n m : Int} (h1 : VN R ts t n) (h2 : VN R ts t m) : n = m := by
  cases t with
  | old => exact h1.1.trans h2.1.symm
  | own => exact h1.1.trans h2.1.symm
  | _ =>
    obtain ⟨i, a1, a2⟩ := h1
    obtain ⟨j, b1, b2⟩ := h2
    have := nodup_inj hnd a1 b1
    omega
theorem VN.inj {t s : Tm} {n : Int} (h1 : VN R ts t n) (h2 : VN R ts s n) : t = s := by
  rcases h1.cls with ⟨v, rfl, a1, a2⟩ | ⟨v, rfl, a1, a2⟩ | ⟨i, a1, a2⟩ <;> rcases h2.cls with ⟨u, rfl, b1, b2⟩ | ⟨u, rfl, b1, b2⟩ | ⟨j, b1, b2⟩
  · rw [show v = u by omega]
  · omega
  · omega
  · omega
  · rw [show v = u by omega]
  · omega
  · omega
  · omega
  · have : i = j := by omega
    subst this
    rw [a1] at b1; exact Option.some.inj b1
theorem VT.noreg (h : VT R ts K) (v : Nat) : Tm.old v ∉ ts ∧ Tm.own v ∉ ts := by
  constructor
  · intro hm
    obtain ⟨i, hi⟩ := List.mem_iff_getElem?.1 hm
    obtain ⟨k, hk⟩ := get_of_lt (l := K) (k := i) (by rw [h.len]; exact (List.getElem?_eq_some_iff.1 hi).1)
    exact h.key i _ k hi hk
  · intro hm
    obtain ⟨i, hi⟩ := List.mem_iff_getElem?.1 hm
    obtain ⟨k, hk⟩ := get_of_lt (l := K) (k := i) (by rw [h.len]; exact (List.getElem?_eq_some_iff.1 hi).1)
    exact h.key i _ k hi hk
theorem VT.uniq (h : VT R ts K) {t : Tm} {n m : Int} (h1 : VN R ts t n) (h2 : VN R ts t m) : n = m := VN.uniq h.nd h.noreg h1 h2
theorem VK.uniq (h : VT R ts K) : ∀ {t : Tm} {k k' : List Int}, VK R ts t k → VK R ts t k' → k = k'
  | .cst _, _, _, h1, h2 => h1.trans h2.symm
  | .op _ _ _, _, _, ⟨x, y, a1, a2, a3⟩, ⟨x', y', b1, b2, b3⟩ => by rw [a3, b3, h.uniq a1 b1, h.uniq a2 b2]
  | .ld _ _, _, _, h1, h2 => h1.trans h2.symm
  | .unk _, _, _, h1, h2 => h1.trans h2.symm
theorem VK.inj : ∀ {t s : Tm} {k : List Int}, VK R ts t k → VK R ts s k → t = s
  | .cst n, .cst m, _, h1, h2 => by have := h1.symm.trans h2; simp at this; rw [this]
  | .cst n, .op _ _ _, _, h1, ⟨x, y, _, _, h2⟩ => by have := h1.symm.trans h2; simp at this
  | .cst n, .ld _ _, _, h1, h2 => by have := h1.symm.trans h2; simp at this
  | .cst n, .unk _, _, h1, h2 => by have := h1.symm.trans h2; simp at this
  | .op _ _ _, .cst _, _, ⟨x, y, _, _, h1⟩, h2 => by have := h1.symm.trans h2; simp at this
  | .op o a b, .op o' a' b', _, ⟨x, y, a1, a2, a3⟩, ⟨x', y', b1, b2, b3⟩ => by
    have e := a3.symm.trans b3
    simp only [List.cons.injEq, true_and, and_true] at e
    obtain ⟨e1, e2, e3⟩ := e
    subst e2; subst e3
    rw [e1, VN.inj a1 b1, VN.inj a2 b2]
  | .op _ _ _, .ld _ _, _, ⟨x, y, _, _, h1⟩, h2 => by have := h1.symm.trans h2; simp at this
  | .op _ _ _, .unk _, _, ⟨x, y, _, _, h1⟩, h2 => by have := h1.symm.trans h2; simp at this
  | .ld _ _, .cst _, _, h1, h2 => by have := h1.symm.trans h2; simp at this
  | .ld _ _, .op _ _ _, _, h1, ⟨x, y, _, _, h2⟩ => by have := h1.symm.trans h2; simp at this
  | .ld b τ, .ld b' τ', _, h1, h2 => by have := h1.symm.trans h2; simp at this; rw [this.1, this.2]
  | .ld _ _, .unk _, _, h1, h2 => by have := h1.symm.trans h2; simp at this
  | .unk _, .cst _, _, h1, h2 => by have := h1.symm.trans h2; simp at this
  | .unk _, .op _ _ _, _, h1, ⟨x, y, _, _, h2⟩ => by have := h1.symm.trans h2; simp at this
  | .unk _, .ld _ _, _, h1, h2 => by have := h1.symm.trans h2; simp at this
  | .unk n, .unk m, _, h1, h2 => by
    have := h1.symm.trans h2
    simp only [List.cons.injEq, true_and, and_true] at this
    rw [show n = m by omega]
theorem kidx_none {k : List Int} : ∀ {K : List (List Int)}, kidx k K = none → k ∉ K
  | [], _ => by simp
  | x :: r, h => by
    unfold kidx at h
    cases hx : k == x with
    | true => rw [hx] at h; cases h
    | false =>
      rw [hx] at h
      have h' : kidx k r = none := by simpa using h
      have := kidx_none h'
      simp only [List.mem_cons, not_or]
      exact ⟨by simpa using hx, this⟩
theorem VT.num (h : VT R ts K) {t : Tm} {k : List Int} (hk : VK R ts t k) (hw : ∀ n, t = .cst n → isW n) : ∃ ts', ts <+: ts' ∧ VT R ts' (vnum ((2 * R : Nat) : Int) K k).2 ∧ VN R ts' t (vnum ((2 * R : Nat) : Int) K k).1 := by
  cases e : kidx k K with
  | some i =>
    rw [vnum_old e]
    obtain ⟨h1, h2⟩ := kidx_lt e
    obtain ⟨s, hs⟩ := get_of_lt (l := ts) (k := i) (by rw [← h.len]; exact h1)
    have := VK.inj (h.key i s k hs h2) hk
    subst this
    exact ⟨ts, List.prefix_rfl, h, (VN.tab hk).2 ⟨i, hs, by push_cast; omega⟩⟩
  | none =>
    rw [vnum_new e]
    have hni := kidx_none e
    have hnt : t ∉ ts := fun hm => by
      obtain ⟨i, hi⟩ := List.mem_iff_getElem?.1 hm
      obtain ⟨k', hk'⟩ := get_of_lt (l := K) (k := i) (by rw [h.len]; exact (List.getElem?_eq_some_iff.1 hi).1)
      have := VK.uniq h (h.key i t k' hi hk') hk
      subst this
      exact hni (List.mem_of_getElem? hk')
    have hp : ts <+: ts ++ [t] := List.prefix_append _ _
    refine ⟨ts ++ [t], hp, ⟨?_, ?_, fun i s k' hs hk' => ?_, fun n hn => ?_⟩, ?_⟩
    · rw [List.nodup_append]
      exact ⟨h.nd, by simp, fun a ha b hb => by simp at hb; subst hb; exact fun e => hnt (e ▸ ha)⟩
    · simp [h.len]
    · rw [List.getElem?_append] at hs hk'
      by_cases hi : i < ts.length
      · rw [if_pos hi] at hs
        rw [if_pos (by rw [h.len]; exact hi)] at hk'
        exact (h.key i s k' hs hk').ext hp
      · rw [if_neg hi] at hs
        rw [if_neg (by rw [h.len]; exact hi), h.len] at hk'
        have h0 : i - ts.length = 0 := by
          have := (List.getElem?_eq_some_iff.1 hs).1
          simp at this; omega
        rw [h0] at hs hk'
        simp at hs hk'
        subst hs; subst hk'
        exact hk.ext hp
    · simp only [List.mem_append, List.mem_singleton] at hn
      rcases hn with hn | hn
      · exact h.word n hn
      · exact hw n hn.symm
    · exact (VN.tab (hk.ext hp)).2 ⟨ts.length, by simp, by rw [h.len]; push_cast; omega⟩
theorem VT.cst (h : VT R ts K) {t : Tm} {n : Int} (hn : VN R ts t n) : (∃ c, t = .cst c ∧ isW c ∧ vconst ((2 * R : Nat) : Int) K n = (c, true)) ∨ ((∀ c, t ≠ .cst c) ∧ (vconst ((2 * R : Nat) : Int) K n).2 = false) := by
  rcases hn.cls with ⟨v, rfl, a1, a2⟩ | ⟨v, rfl, a1, a2⟩ | ⟨i, a1, a2⟩
  · exact .inr ⟨fun c => by simp, by rw [vconst_low (by simp; omega)]⟩
  · exact .inr ⟨fun c => by simp, by rw [vconst_low (by simp; omega)]⟩
  · obtain ⟨k, hk⟩ := get_of_lt (l := K) (k := i) (by rw [h.len]; exact (List.getElem?_eq_some_iff.1 a1).1)
    have hkey := h.key i t k a1 hk
    have hv : vconst ((2 * R : Nat) : Int) K n = (IntKind.u32.wrap (rget k 1), rget k 0 == 1) := by
      unfold vconst
      rw [show decide (n < ((2 * R : Nat) : Int)) = false by simp; omega, show (n - ((2 * R : Nat) : Int)).toNat = i by omega, hk]
      rfl
    rw [hv]
    cases t with
    | old => exact hkey.elim
    | own => exact hkey.elim
    | cst c =>
      have hc := h.word c (List.mem_of_getElem? a1)
      have hk' : k = [1, c, 0, 0] := hkey
      subst hk'
      refine .inl ⟨c, rfl, hc, ?_⟩
      show (IntKind.u32.wrap c, true) = _
      rw [IntKind.wrap_u32]
      obtain ⟨h1, h2⟩ := hc
      congr 1; omega
    | op o a b =>
      obtain ⟨x, y, _, _, rfl⟩ := hkey
      exact .inr ⟨fun c => by simp, rfl⟩
    | ld b τ =>
      have hk' : k = [3, b, τ, 0] := hkey
      subst hk'
      exact .inr ⟨fun c => by simp, rfl⟩
    | unk m =>
      have hk' : k = [4, (m : Int) + 1, 0, 0] := hkey
      subst hk'
      exact .inr ⟨fun c => by simp, rfl⟩
end
def VO (R : Nat) (ts : List Tm) : Option Tm → Int → Prop
  | none, n => n = 0
  | some t, n => VN R ts t n
def VE (R : Nat) (ts : List Tm) (e : SE) (k : List Int) : Prop := ∃ x y, VO R ts e.a x ∧ VO R ts e.b y ∧ k = bif e.risk then [1, e.k, x, y, 0, 0] else [2, e.op, e.base, e.size, x, y]
structure VS (R : Nat) (ts : List Tm) (w : VW) (s : SS) : Prop where
  t : VT R ts w.K
  regs : All2 (VN R ts) s.regs w.vals
  effs : All2 (VE R ts) s.effs w.effs
  time : w.time = s.time
section
variable {R : Nat} {ts ts' : List Tm}
theorem VO.ext (hp : ts <+: ts') : ∀ {t : Option Tm} {n : Int}, VO R ts t n → VO R ts' t n
  | none, _, h => h
  | some _, _, h => VN.ext hp h
theorem VE.ext (hp : ts <+: ts') {e : SE} {k : List Int} : VE R ts e k → VE R ts' e k := fun ⟨x, y, h1, h2, h3⟩ => ⟨x, y, h1.ext hp, h2.ext hp, h3⟩
theorem VS.at {w : VW} {s : SS} (h : VS R ts w s) {z : Int} (hz : 0 ≤ z ∧ z < s.regs.length) : VN R ts (tget s.regs z) (rget w.vals z) := by
  have hl := h.regs.len
  obtain ⟨x, hx⟩ := get_of_lt (l := s.regs) (k := z.toNat) (by omega)
  obtain ⟨y, hy⟩ := get_of_lt (l := w.vals) (k := z.toNat) (by omega)
  unfold tget rget
  rw [hx, hy]
  exact h.regs.get hx hy
theorem VS.put {w : VW} {s : SS} (h : VS R ts w s) (z : Int) {t : Tm} {k : List Int} (hk : VK R ts t k) (hw : ∀ n, t = .cst n → isW n) : ∃ ts', ts <+: ts' ∧ VS R ts' (w.put z (vnum ((2 * R : Nat) : Int) w.K k)) (s.put z t) := by
  obtain ⟨ts', hp, h1, h2⟩ := h.t.num hk hw
  exact ⟨ts', hp, h1, (h.regs.mono fun x y hxy => hxy.ext hp).set h2 _, h.effs.mono fun x y hxy => hxy.ext hp, h.time⟩
theorem VS.eff {w : VW} {s : SS} (h : VS R ts w s) {e : SE} {k : List Int} (he : VE R ts e k) : VS R ts { w with effs := w.effs ++ [k] } (s.eff e) := ⟨h.t, h.regs, h.effs.snoc he, h.time⟩
theorem VS.tick {w : VW} {s : SS} (h : VS R ts w s) : VS R ts w.tick s.tick := ⟨h.t, h.regs, h.effs, by show w.time + 1 = s.time + 1; rw [h.time]⟩
theorem VS.get {w : VW} {s : SS} (h : VS R ts w s) (t : Tac) {e : SE} {a : Int} (he : VE R ts e [2, t.op, t.base, t.size, a, 0]) : ∃ ts', ts <+: ts' ∧ VS R ts' ((w.hap t a 0).put t.d (vunk ((2 * R : Nat) : Int) (w.hap t a 0))) (s.get t e) := by
  have h1 : VS R ts (w.hap t a 0) (s.eff e) := h.eff he
  have hlen : (w.hap t a 0).effs.length = s.effs.length + 1 := by
    have := h.effs.len
    show (w.effs ++ [_]).length = _
    simp [this]
  refine h1.put t.d (t := .unk s.effs.length) (k := [4, ((w.hap t a 0).effs.length : Int), 0, 0]) ?_ (fun n e => by cases e)
  show _ = _
  rw [hlen]; push_cast; rfl
theorem VS.risky {w : VW} {s : SS} (h : VS R ts w s) {t : Tac} (hb : 0 ≤ t.b ∧ t.b < s.regs.length) : vrisky ((2 * R : Nat) : Int) w t = trisky t.k (tget s.regs t.b) := by
  unfold vrisky trisky
  congr 1
  rcases h.t.cst (h.at hb) with ⟨c, h1, h2, h3⟩ | ⟨h1, h2⟩
  · rw [h1, h3]; simp [Tm.isZero]
  · rw [h2]
    cases e : tget s.regs t.b with
    | cst c => exact absurd e (h1 c)
    | _ => rfl
theorem wapp_err {k x y : Int} (hk : 4 ≤ k ∧ k ≤ 15) : ((wapp k x y).2 == 0) = !(((k == 7 || k == 8)) && y == 0) := by
  unfold wapp
  have h : k = 4 ∨ k = 5 ∨ k = 6 ∨ k = 7 ∨ k = 8 ∨ k = 9 ∨ k = 10 ∨ k = 11 ∨ k = 12 ∨ k = 13 ∨ k = 14 ∨ k = 15 := by omega
  rcases h with rfl | rfl | rfl | rfl | rfl | rfl | rfl | rfl | rfl | rfl | rfl | rfl <;> first | rfl | (simp only [wdivide]; cases y == 0 <;> rfl)
theorem VS.apply {w : VW} {s : SS} (h : VS R ts w s) {t : Tac} (hk : 4 ≤ t.k ∧ t.k ≤ 15) (ha : 0 ≤ t.a ∧ t.a < s.regs.length) (hb : 0 ≤ t.b ∧ t.b < s.regs.length) :
    ∃ k, vapply ((2 * R : Nat) : Int) w.K t.k (rget w.vals t.a) (rget w.vals t.b) = vnum ((2 * R : Nat) : Int) w.K k ∧ VK R ts (tfold t.k (tget s.regs t.a) (tget s.regs t.b)) k ∧ ∀ n, tfold t.k (tget s.regs t.a) (tget s.regs t.b) = .cst n → isW n := by
  have hna := h.at ha
  have hnb := h.at hb
  have hop : ∀ x y : Tm, VN R ts x (rget w.vals t.a) → VN R ts y (rget w.vals t.b) → VK R ts (.op t.k x y) [2, t.k, rget w.vals t.a, rget w.vals t.b] := fun x y h1 h2 => ⟨_, _, h1, h2, rfl⟩
  rcases h.t.cst hna with ⟨c, h1, h2, h3⟩ | ⟨h1, h2⟩
  · rcases h.t.cst hnb with ⟨d, g1, g2, g3⟩ | ⟨g1, g2⟩
    · rw [h1] at hna ⊢
      rw [g1] at hnb ⊢
      have herr := wapp_err (k := t.k) (x := c) (y := d) hk
      cases hr : trisky t.k (.cst d) with
      | true =>
        have hr' : ((t.k == 7 || t.k == 8) && d == 0) = true := hr
        refine ⟨_, vapply_o3 (by rw [h3, g3, herr, hr']; rfl), ?_, ?_⟩
        · simp only [tfold, hr, cond_true]; exact hop _ _ hna hnb
        · simp only [tfold, hr, cond_true]; intro n e; cases e
      | false =>
        have hr' : ((t.k == 7 || t.k == 8) && d == 0) = false := hr
        refine ⟨_, vapply_c (by rw [h3]) (by rw [g3]) (by rw [h3, g3, herr, hr']; rfl), ?_, ?_⟩
        · simp only [tfold, hr, cond_false]; rw [h3, g3]; rfl
        · simp only [tfold, hr, cond_false]
          intro n e
          cases e
          exact wapp_word h2 g2
    · refine ⟨_, vapply_o2 g2, ?_, ?_⟩
      · cases e2 : tget s.regs t.b with
        | cst d => exact absurd e2 (g1 d)
        | _ => rw [h1] at hna ⊢; rw [e2] at hnb; exact hop _ _ hna hnb
      · intro n e
        cases e2 : tget s.regs t.b with
        | cst d => exact absurd e2 (g1 d)
        | _ => rw [h1, e2] at e; cases e
  · refine ⟨_, vapply_o1 h2, ?_, ?_⟩
    · cases e1 : tget s.regs t.a with
      | cst d => exact absurd e1 (h1 d)
      | _ => rw [e1] at hna; exact hop _ _ hna hnb
    · intro n e
      cases e1 : tget s.regs t.a with
      | cst d => exact absurd e1 (h1 d)
      | _ => rw [e1] at e; cases e
theorem VS.step {w : VW} {s : SS} (h : VS R ts w s) {t : Tac} (ht : TacT t R) (hl : s.regs.length = R) : ∃ ts', ts <+: ts' ∧ VS R ts' (w.step ((2 * R : Nat) : Int) t) (s.step t) := by
  have hd : setsOp t.op = true → 0 ≤ t.d ∧ t.d < s.regs.length := fun e => by rw [hl]; exact ht.d e
  have ha : use1 t.op = true ∨ use2 t.op = true → 0 ≤ t.a ∧ t.a < s.regs.length := fun e => by rw [hl]; exact ht.a e
  have hb : use2 t.op = true → 0 ≤ t.b ∧ t.b < s.regs.length := fun e => by rw [hl]; exact ht.b e
  have hw := ht.want
  have h10 : t.op = 1 ∨ t.op = 2 ∨ t.op = 3 ∨ t.op = 4 ∨ t.op = 5 ∨ t.op = 6 ∨ t.op = 7 ∨ t.op = 8 ∨ t.op = 9 ∨ t.op = 10 := by have := ht.op; omega
  have hsz : arrOp t.op = false → t.size = 0 := fun e => by have := congrArg Tac.size hw; simp only [Tac.want, e, cond_false] at this; exact this
  have hbs : (baseOp t.op || (arrOp t.op || t.op == 10)) = false → t.base = 0 := fun e => by have := congrArg Tac.base hw; simp only [Tac.want, e, cond_false] at this; exact this
  rcases h10 with ho | ho | ho | ho | ho | ho | ho | ho | ho | ho
  · rw [vstep1 ho, show s.step t = s.put t.d (.cst t.n) by unfold SS.step; rw [ho]; rfl]
    exact h.put t.d rfl (fun n e => by cases e; exact ht.n)
  · rw [vstep2 ho, show s.step t = s.put t.d (tget s.regs t.a) by unfold SS.step; rw [ho]; rfl]
    exact ⟨ts, List.prefix_rfl, h.t, h.regs.set (h.at (ha (.inl (by rw [ho]; rfl)))) _, h.effs, h.time⟩
  · rw [vstep3 ho, show s.step t = s.bin t by unfold SS.step; rw [ho]; rfl]
    have ha' := ha (.inr (by rw [ho]; rfl))
    have hb' := hb (by rw [ho]; rfl)
    obtain ⟨k, hk1, hk2, hk3⟩ := h.apply (ht.k ho) ha' hb'
    have hr := h.risky hb'
    have h1 : VS R ts (w.div ((2 * R : Nat) : Int) t) (s.div t) := by
      unfold VW.div SS.div
      rw [hr]
      cases trisky t.k (tget s.regs t.b) with
      | true => exact h.eff ⟨_, _, h.at ha', h.at hb', rfl⟩
      | false => exact h
    unfold VW.bin SS.bin
    rw [hk1]
    have := h1.put t.d hk2 hk3
    rwa [div_K] at this
  · rw [vstep4 ho, show s.step t = s.put t.d (.ld t.base s.time) by unfold SS.step; rw [ho]; rfl]
    exact h.put t.d (by show _ = _; rw [h.time]) (fun n e => by cases e)
  · rw [vstep5 ho, show s.step t = (s.eff ⟨false, 5, 0, t.base, 0, some (tget s.regs t.a), none⟩).tick by unfold SS.step; rw [ho]; rfl]
    refine ⟨ts, List.prefix_rfl, VS.tick (h.eff ⟨_, _, h.at (ha (.inl (by rw [ho]; rfl))), rfl, ?_⟩)⟩
    rw [ho, hsz (by rw [ho]; rfl)]; rfl
  · rw [vstep6 ho, show s.step t = s.get t ⟨false, 6, 0, t.base, t.size, some (tget s.regs t.a), none⟩ by unfold SS.step; rw [ho]; rfl]
    refine h.get t ⟨_, _, h.at (ha (.inl (by rw [ho]; rfl))), rfl, ?_⟩
    rw [ho]; rfl
  · rw [vstep7 ho, show s.step t = (s.eff ⟨false, 7, 0, t.base, t.size, some (tget s.regs t.a), some (tget s.regs t.b)⟩).tick by unfold SS.step; rw [ho]; rfl]
    refine ⟨ts, List.prefix_rfl, VS.tick (h.eff ⟨_, _, h.at (ha (.inr (by rw [ho]; rfl))), h.at (hb (by rw [ho]; rfl)), ?_⟩)⟩
    rw [ho]; rfl
  · rw [vstep8 ho, show s.step t = s.get t ⟨false, 8, 0, 0, 0, none, none⟩ by unfold SS.step; rw [ho]; rfl]
    refine h.get t ⟨_, _, rfl, rfl, ?_⟩
    rw [ho, hsz (by rw [ho]; rfl), hbs (by rw [ho]; rfl)]; rfl
  · rw [vstep9 ho, show s.step t = s.eff ⟨false, 9, 0, 0, 0, some (tget s.regs t.a), none⟩ by unfold SS.step; rw [ho]; rfl]
    refine ⟨ts, List.prefix_rfl, h.eff ⟨_, _, h.at (ha (.inl (by rw [ho]; rfl))), rfl, ?_⟩⟩
    rw [ho, hsz (by rw [ho]; rfl), hbs (by rw [ho]; rfl)]; rfl
  · rw [vstep10 ho, show s.step t = (s.eff ⟨false, 10, 0, t.base, 0, none, none⟩).tick by unfold SS.step; rw [ho]; rfl]
    refine ⟨ts, List.prefix_rfl, VS.tick (h.eff ⟨_, _, rfl, rfl, ?_⟩)⟩
    rw [ho, hsz (by rw [ho]; rfl)]; rfl
end
end Go.Proofs.Ytpijoieooikfgaa.Sv

namespace Go.Proofs.Ytpijoieooikfgaa.Sv
open Go
def symR (R : Nat) : List Tm := (List.range R).map Tm.old
def sideT (row : List Bool) (v : Nat) : Tm := bif (row[v]?).getD false then .old v else .own v
def symO (R : Nat) (row : List Bool) : List Tm := (List.range R).map (sideT row)
def srun (regs : List Tm) (l : List Tac) : SS := l.foldl SS.step ⟨regs, [], 0⟩
def tagree (x y : List Tm) (row : List Bool) : Bool := row.zipIdx.all fun p => !p.1 || decide (tget x (p.2 : Int) = tget y (p.2 : Int))
def tsame (R : Nat) (old new : Block) (c : Cert) (i : Int) (next : List Int) : Bool :=
  decide ((srun (symR R) old.ins).effs = (srun (symO R (c.at' i)) new.ins).effs) && ((!(old.fin == 2) || decide (tget (srun (symR R) old.ins).regs old.v = tget (srun (symO R (c.at' i)) new.ins).regs new.v)) && next.all fun k => tagree (srun (symR R) old.ins).regs (srun (symO R (c.at' i)) new.ins).regs (c.at' k))
theorem All2.map {α β γ : Type} {r : β → γ → Prop} {f : α → β} {g : α → γ} : ∀ {l : List α}, (∀ x ∈ l, r (f x) (g x)) → All2 r (l.map f) (l.map g)
  | [], _ => trivial
  | x :: l, h => ⟨h x (by simp), All2.map fun y hy => h y (by simp [hy])⟩
theorem srun_len (regs : List Tm) (l : List Tac) : (srun regs l).regs.length = regs.length := by
  unfold srun
  suffices h : ∀ s : SS, (l.foldl SS.step s).regs.length = s.regs.length by exact h ⟨regs, [], 0⟩
  induction l with
  | nil => exact fun s => rfl
  | cons t l ih => exact fun s => (ih _).trans (s.step_len t)
theorem srun_wf (regs : List Tm) (l : List Tac) : ∀ e ∈ (srun regs l).effs, e.wf := by
  unfold srun
  suffices h : ∀ s : SS, (∀ e ∈ s.effs, e.wf) → ∀ e ∈ (l.foldl SS.step s).effs, e.wf by exact h ⟨regs, [], 0⟩ (fun e he => by simp at he)
  induction l with
  | nil => exact fun s h => h
  | cons t l ih => exact fun s h => ih _ (SS.step_wf h t)
theorem symR_len (R : Nat) : (symR R).length = R := by simp [symR]
theorem symO_len (R : Nat) (row : List Bool) : (symO R row).length = R := by simp [symO]
section
variable {R : Nat} {ts : List Tm}
theorem VS.fold {l : List Tac} (hl : ∀ t ∈ l, TacT t R) : ∀ {ts : List Tm} {w : VW} {s : SS}, VS R ts w s → s.regs.length = R → ∃ ts', ts <+: ts' ∧ VS R ts' (vfold ((2 * R : Nat) : Int) l w) (l.foldl SS.step s) := by
  induction l with
  | nil => exact fun h _ => ⟨_, List.prefix_rfl, h⟩
  | cons t l ih =>
    intro ts w s h hr
    obtain ⟨ts1, hp1, h1⟩ := h.step (hl t (by simp)) hr
    obtain ⟨ts2, hp2, h2⟩ := ih (fun u hu => hl u (by simp [hu])) h1 ((s.step_len t).trans hr)
    exact ⟨ts2, hp1.trans hp2, h2⟩
theorem VE.uniq {K : List (List Int)} (hK : VT R ts K) {e : SE} {k k' : List Int} (h1 : VE R ts e k) (h2 : VE R ts e k') : k = k' := by
  obtain ⟨x, y, a1, a2, a3⟩ := h1
  obtain ⟨x', y', b1, b2, b3⟩ := h2
  have hu : ∀ {o : Option Tm} {n m : Int}, VO R ts o n → VO R ts o m → n = m := fun {o n m} g1 g2 => by
    cases o with
    | none => exact g1.trans g2.symm
    | some t => exact hK.uniq g1 g2
  rw [a3, b3, hu a1 b1, hu a2 b2]
theorem VE.inj {e e' : SE} {k : List Int} (hw : e.wf) (hw' : e'.wf) (h1 : VE R ts e k) (h2 : VE R ts e' k) : e = e' := by
  obtain ⟨x, y, a1, a2, a3⟩ := h1
  obtain ⟨x', y', b1, b2, b3⟩ := h2
  have hso : ∀ {o o' : Option Tm} {n : Int}, o.isSome → o'.isSome → VO R ts o n → VO R ts o' n → o = o' := fun {o o' n} g1 g2 g3 g4 => by
    cases o with
    | none => cases g1
    | some t => cases o' with
      | none => cases g2
      | some s => rw [VN.inj (R := R) (ts := ts) g3 g4]
  obtain ⟨r, o, k1, ba, si, oa, ob⟩ := e
  obtain ⟨r', o', k1', ba', si', oa', ob'⟩ := e'
  have h3 := a3.symm.trans b3
  rcases hw with ⟨w1, w2, w3, w4, w5, w6⟩ | ⟨w1, w0, w2⟩ <;> rcases hw' with ⟨v1, v2, v3, v4, v5, v6⟩ | ⟨v1, v0, v2⟩ <;> simp only at *
  · subst w1; subst v1; subst w2; subst v2; subst w3; subst v3; subst w4; subst v4
    simp only [cond_true, List.cons.injEq, true_and, and_true] at h3
    obtain ⟨e1, e2, e3⟩ := h3
    subst e1; subst e2; subst e3
    rw [hso w5 v5 a1 b1, hso w6 v6 a2 b2]
  · subst w1; subst v1
    simp at h3
  · subst w1; subst v1
    simp at h3
  · subst w1; subst v1; subst w0; subst v0
    simp only [cond_false, List.cons.injEq, true_and, and_true] at h3
    obtain ⟨e1, e2, e3, e4, e5⟩ := h3
    subst e1; subst e2; subst e3; subst e4; subst e5
    have hfin : oa = oa' → ob = ob' → (⟨false, o, 0, ba, si, oa, ob⟩ : SE) = ⟨false, o, 0, ba, si, oa', ob'⟩ := fun q1 q2 => by rw [q1, q2]
    rcases w2 with ⟨u1, u2, u3, u4⟩ | ⟨u1, u3, u4⟩ | ⟨u1, u3, u4⟩ | ⟨u1, u2, u5, u3, u4⟩ | ⟨u1, u2, u5, u3, u4⟩ | ⟨u1, u2, u3, u4⟩ <;>
      rcases v2 with ⟨q1, q2, q3, q4⟩ | ⟨q1, q3, q4⟩ | ⟨q1, q3, q4⟩ | ⟨q1, q2, q5, q3, q4⟩ | ⟨q1, q2, q5, q3, q4⟩ | ⟨q1, q2, q3, q4⟩ <;> first
        | (exfalso; omega)
        | exact hfin (hso u3 q3 a1 b1) (u4.trans q4.symm)
        | exact hfin (hso u3 q3 a1 b1) (hso u4 q4 a2 b2)
        | exact hfin (u3.trans q3.symm) (u4.trans q4.symm)
end
theorem beq_dec {a b : Int} {p : Prop} [Decidable p] (h : a = b ↔ p) : (a == b) = decide p := by
  rw [Bool.eq_iff_iff, beq_iff_eq, decide_eq_true_iff, h]
theorem All2.at {α β : Type} {r : α → β → Prop} {l : List α} {m : List β} (h : All2 r l m) {i : Nat} (hi : i < l.length) : ∃ x y, l[i]? = some x ∧ m[i]? = some y ∧ r x y := by
  obtain ⟨x, hx⟩ := get_of_lt hi
  obtain ⟨y, hy⟩ := get_of_lt (l := m) (k := i) (by rw [← h.len]; exact hi)
  exact ⟨x, y, hx, hy, h.get hx hy⟩
theorem agree_eq {α : Type} {R : Nat} {rel rel' : Tm → Int → Prop} {xs ys : List Tm} {us vs : List Int} (hu : ∀ t n m, rel t n → rel' t m → n = m) (hi : ∀ t s n, rel t n → rel' s n → t = s) (h1 : All2 rel xs us) (h2 : All2 rel' ys vs) (l1 : xs.length = R) (l2 : ys.length = R) {z z' : Int} (hz : 0 ≤ z ∧ z < R) (hz' : 0 ≤ z' ∧ z' < R) : (rget us z == rget vs z') = decide (tget xs z = tget ys z') := by
  obtain ⟨x, a, x1, a1, r1⟩ := h1.at (i := z.toNat) (by omega)
  obtain ⟨y, b, y1, b1, r2⟩ := h2.at (i := z'.toNat) (by omega)
  refine beq_dec ?_
  unfold rget tget
  rw [x1, a1, y1, b1]
  simp only [Option.getD_some]
  constructor
  · intro e; subst e; exact hi _ _ _ r1 r2
  · intro e; subst e; exact hu _ _ _ r1 r2
theorem all_cong {α : Type} {l : List α} {p q : α → Bool} (h : ∀ x ∈ l, p x = q x) : l.all p = l.all q := by
  induction l with
  | nil => rfl
  | cons x l ih => simp only [List.all_cons, h x (by simp), ih fun y hy => h y (by simp [hy])]
theorem vagree_t {R : Nat} {rel rel' : Tm → Int → Prop} {xs ys : List Tm} {wx wy : VW} {row : List Bool} (hu : ∀ t n m, rel t n → rel' t m → n = m) (hi : ∀ t s n, rel t n → rel' s n → t = s) (h1 : All2 rel xs wx.vals) (h2 : All2 rel' ys wy.vals) (l1 : xs.length = R) (l2 : ys.length = R) (hr : row.length = R) : vagree wx wy row = tagree xs ys row := by
  unfold vagree tagree
  refine all_cong fun p hp => ?_
  obtain ⟨b, j⟩ := p
  obtain ⟨i, hi'⟩ := List.mem_iff_getElem?.1 hp
  rw [List.getElem?_zipIdx, Option.map_eq_some_iff] at hi'
  obtain ⟨b', hb', e⟩ := hi'
  simp only [Nat.zero_add, Prod.mk.injEq] at e
  obtain ⟨rfl, rfl⟩ := e
  have hlt := (List.getElem?_eq_some_iff.1 hb').1
  dsimp only
  rw [agree_eq (α := Unit) (R := R) hu hi h1 h2 l1 l2 (by omega) (by omega)]
theorem vsame_t {R : Nat} {old new : Block} {c : Cert} {i : Int} {next : List Int} (ho : ∀ t ∈ old.ins, TacT t R) (hn : ∀ t ∈ new.ins, TacT t R) (hc : ∀ r ∈ c.same, r.length = R) (hnx : ∀ k ∈ next, 0 ≤ k ∧ k < c.same.length) (hv : old.fin = 2 → (0 ≤ old.v ∧ old.v < R) ∧ (0 ≤ new.v ∧ new.v < R)) :
    vsame R old new c i next = tsame R old new c i next := by
  have h0 : VS R [] ⟨[], idsA R, [], 0⟩ ⟨symR R, [], 0⟩ := ⟨⟨List.nodup_nil, rfl, fun i t k h => by simp at h, fun n h => by simp at h⟩, All2.map fun v hv => ⟨rfl, List.mem_range.1 hv⟩, trivial, rfl⟩
  obtain ⟨ts1, hp1, h1⟩ := VS.fold ho h0 (symR_len R)
  have h2 : VS R ts1 ⟨(vrunA R old).K, idsB R (c.at' i), [], 0⟩ ⟨symO R (c.at' i), [], 0⟩ := ⟨h1.t, All2.map fun v hv => by
    unfold sideT sideB
    have hlt := List.mem_range.1 hv
    cases ((c.at' i)[v]?).getD false with
    | true => exact ⟨rfl, hlt⟩
    | false => exact ⟨rfl, hlt⟩, trivial, rfl⟩
  obtain ⟨ts2, hp2, h3⟩ := VS.fold hn h2 (symO_len R _)
  have hA1 : All2 (VN R ts2) (srun (symR R) old.ins).regs (vrunA R old).vals := h1.regs.mono fun x y h => h.ext hp2
  have hA2 : All2 (VE R ts2) (srun (symR R) old.ins).effs (vrunA R old).effs := h1.effs.mono fun x y h => h.ext hp2
  have hB1 : All2 (VN R ts2) (srun (symO R (c.at' i)) new.ins).regs (vrunB R old new (c.at' i)).vals := h3.regs
  have hB2 : All2 (VE R ts2) (srun (symO R (c.at' i)) new.ins).effs (vrunB R old new (c.at' i)).effs := h3.effs
  have lA := (srun_len (symR R) old.ins).trans (symR_len R)
  have lB := (srun_len (symO R (c.at' i)) new.ins).trans (symO_len R _)
  have hu : ∀ t n m, VN R ts2 t n → VN R ts2 t m → n = m := fun t n m a b => h3.t.uniq a b
  have hi : ∀ t s n, VN R ts2 t n → VN R ts2 s n → t = s := fun t s n a b => VN.inj a b
  unfold vsame tsame
  congr 1
  · exact decide_eq_decide.2 (All2.iff (r := VE R ts2) (r' := VE R ts2) (p := SE.wf) (q := SE.wf) (fun e k k' _ a b => VE.uniq h3.t a b) (fun e e' k p q a b => VE.inj p q a b) (srun_wf _ _) (srun_wf _ _) hA2 hB2)
  congr 1
  · by_cases hf : old.fin = 2
    · rw [agree_eq (α := Unit) (R := R) hu hi hA1 hB1 lA lB (hv hf).1 (hv hf).2]
    · rw [show (old.fin == 2) = false by simpa using hf]; rfl
  · refine all_cong fun k hk => ?_
    have hkr := hnx k hk
    have hrow : (c.at' k).length = R := by
      obtain ⟨r, hr⟩ := get_of_lt (l := c.same) (k := k.toNat) (by omega)
      unfold Cert.at'
      rw [hr]
      exact hc r (List.mem_of_getElem? hr)
    exact vagree_t (R := R) hu hi hA1 hB1 lA lB hrow
end Go.Proofs.Ytpijoieooikfgaa.Sv

namespace Go.Proofs.Ytpijoieooikfgaa.Sv
open Go
def RN (ts : List Tm) (t : Tm) (n : Int) : Prop := ∃ i : Nat, ts[i]? = some t ∧ n = (i : Int)
def RK (ts : List Tm) : Tm → RVal → Prop
  | .cst n, k => k = ⟨1, 0, 0, 0, 0, 0, 0, 0, n⟩
  | .op o a b, k => ∃ x y, RN ts a x ∧ RN ts b y ∧ k = ⟨3, o, x, y, 0, 0, 0, 0, 0⟩
  | .ld b τ, k => k = ⟨4, 0, 0, 0, 0, 0, b, τ, 0⟩
  | .unk n, k => k = runkV n
  | .old v, k => k = RVal.reg v 0
  | .own v, k => k = RVal.reg v 1
structure RT (ts : List Tm) (K : List RVal) : Prop where
  nd : ts.Nodup
  len : K.length = ts.length
  key : ∀ (i : Nat) (t : Tm) (k : RVal), ts[i]? = some t → K[i]? = some k → RK ts t k
  word : ∀ (n : Int), Tm.cst n ∈ ts → isW n
section
variable {ts ts' : List Tm} {K : List RVal}
theorem RN.ext (hp : ts <+: ts') {t : Tm} {n : Int} : RN ts t n → RN ts' t n := fun ⟨i, h1, h2⟩ => ⟨i, pre_get hp h1, h2⟩
theorem RK.ext (hp : ts <+: ts') : ∀ {t : Tm} {k : RVal}, RK ts t k → RK ts' t k
  | .cst _, _, h => h
  | .op _ _ _, _, ⟨x, y, h1, h2, h3⟩ => ⟨x, y, h1.ext hp, h2.ext hp, h3⟩
  | .ld _ _, _, h => h
  | .unk _, _, h => h
  | .old _, _, h => h
  | .own _, _, h => h
theorem RN.uniq (hnd : ts.Nodup) {t : Tm} {n m : Int} (h1 : RN ts t n) (h2 : RN ts t m) : n = m := by
  obtain ⟨i, a1, a2⟩ := h1
  obtain ⟨j, b1, b2⟩ := h2
  have := nodup_inj hnd a1 b1
  omega
theorem RN.inj {t s : Tm} {n : Int} (h1 : RN ts t n) (h2 : RN ts s n) : t = s := by
  obtain ⟨i, a1, a2⟩ := h1
  obtain ⟨j, b1, b2⟩ := h2
  have : i = j := by omega
  subst this
  rw [a1] at b1; exact Option.some.inj b1
theorem RK.uniq (h : ts.Nodup) : ∀ {t : Tm} {k k' : RVal}, RK ts t k → RK ts t k' → k = k'
  | .cst _, _, _, h1, h2 => h1.trans h2.symm
  | .op _ _ _, _, _, ⟨x, y, a1, a2, a3⟩, ⟨x', y', b1, b2, b3⟩ => by rw [a3, b3, RN.uniq h a1 b1, RN.uniq h a2 b2]
  | .ld _ _, _, _, h1, h2 => h1.trans h2.symm
  | .unk _, _, _, h1, h2 => h1.trans h2.symm
  | .old _, _, _, h1, h2 => h1.trans h2.symm
  | .own _, _, _, h1, h2 => h1.trans h2.symm
def tkind : Tm → Int
  | .cst _ => 1
  | .op _ _ _ => 3
  | .ld _ _ => 4
  | .unk _ => 2
  | .old _ => 2
  | .own _ => 2
def tside : Tm → Int
  | .unk _ => 2
  | .own _ => 1
  | _ => 0
theorem RK.kind {t : Tm} {k : RVal} (h : RK ts t k) : k.kind = tkind t ∧ k.side = tside t := by
  cases t with
  | op o a b => obtain ⟨x, y, _, _, rfl⟩ := h; exact ⟨rfl, rfl⟩
  | _ => have h' : k = _ := h; subst h'; exact ⟨rfl, rfl⟩
theorem RK.inj {t s : Tm} {k : RVal} (h1 : RK ts t k) (h2 : RK ts s k) : t = s := by
  have e1 := h1.kind
  have e2 := h2.kind
  have ek : tkind t = tkind s := e1.1.symm.trans e2.1
  have es : tside t = tside s := e1.2.symm.trans e2.2
  cases t <;> cases s <;> first | (exfalso; revert ek; simp only [tkind]; decide) | (exfalso; revert es; simp only [tside]; decide) | skip
  · have e : RVal.reg _ 0 = RVal.reg _ 0 := (show k = _ from h1).symm.trans h2
    simp only [RVal.reg, RVal.mk.injEq, true_and, and_true] at e
    exact congrArg Tm.old (Int.ofNat_inj.1 e)
  · have e : RVal.reg _ 1 = RVal.reg _ 1 := (show k = _ from h1).symm.trans h2
    simp only [RVal.reg, RVal.mk.injEq, true_and, and_true] at e
    exact congrArg Tm.own (Int.ofNat_inj.1 e)
  · have e := (show k = _ from h1).symm.trans h2
    simp only [RVal.mk.injEq, true_and, and_true] at e
    rw [e]
  · obtain ⟨x, y, a1, a2, a3⟩ := h1
    obtain ⟨x', y', b1, b2, b3⟩ := h2
    have e := a3.symm.trans b3
    simp only [RVal.mk.injEq, true_and, and_true] at e
    obtain ⟨q1, q2, q3⟩ := e
    subst q2; subst q3
    rw [q1, RN.inj a1 b1, RN.inj a2 b2]
  · have e := (show k = _ from h1).symm.trans h2
    simp only [RVal.mk.injEq, true_and, and_true] at e
    rw [e.1, e.2]
  · have e : runkV _ = runkV _ := (show k = _ from h1).symm.trans h2
    simp only [runkV, RVal.mk.injEq, true_and, and_true] at e
    exact congrArg Tm.unk (Int.ofNat_inj.1 e)
theorem ridx_no {v : RVal} : ∀ {L : List RVal}, ridx v L = none → v ∉ L
  | [], _ => by simp
  | x :: r, h => by
    unfold ridx at h
    cases hx : x.same v with
    | true => rw [hx] at h; cases h
    | false =>
      rw [hx] at h
      have h' : ridx v r = none := by simpa using h
      have := ridx_no h'
      simp only [List.mem_cons, not_or]
      refine ⟨fun e => ?_, this⟩
      subst e
      rw [(RVal.same_iff v v).2 rfl] at hx; cases hx
theorem RT.num (h : RT ts K) {t : Tm} {k : RVal} (hk : RK ts t k) (hw : ∀ n, t = .cst n → isW n) : ∃ ts', ts <+: ts' ∧ RT ts' (rnum K k).2 ∧ RN ts' t (rnum K k).1 := by
  cases e : ridx k K with
  | some i =>
    rw [rnum_old e]
    obtain ⟨h1, h2⟩ := ridx_lt e
    obtain ⟨s, hs⟩ := get_of_lt (l := ts) (k := i) (by rw [← h.len]; exact h1)
    have := RK.inj (h.key i s k hs h2) hk
    subst this
    exact ⟨ts, List.prefix_rfl, h, i, hs, rfl⟩
  | none =>
    rw [rnum_new e]
    have hni := ridx_no e
    have hnt : t ∉ ts := fun hm => by
      obtain ⟨i, hi⟩ := List.mem_iff_getElem?.1 hm
      obtain ⟨k', hk'⟩ := get_of_lt (l := K) (k := i) (by rw [h.len]; exact (List.getElem?_eq_some_iff.1 hi).1)
      have := RK.uniq h.nd (h.key i t k' hi hk') hk
      subst this
      exact hni (List.mem_of_getElem? hk')
    have hp : ts <+: ts ++ [t] := List.prefix_append _ _
    refine ⟨ts ++ [t], hp, ⟨?_, ?_, fun i s k' hs hk' => ?_, fun n hn => ?_⟩, ?_⟩
    · rw [List.nodup_append]
      exact ⟨h.nd, by simp, fun a ha b hb => by simp at hb; subst hb; exact fun e => hnt (e ▸ ha)⟩
    · simp [h.len]
    · rw [List.getElem?_append] at hs hk'
      by_cases hi : i < ts.length
      · rw [if_pos hi] at hs
        rw [if_pos (by rw [h.len]; exact hi)] at hk'
        exact (h.key i s k' hs hk').ext hp
      · rw [if_neg hi] at hs
        rw [if_neg (by rw [h.len]; exact hi), h.len] at hk'
        have h0 : i - ts.length = 0 := by
          have := (List.getElem?_eq_some_iff.1 hs).1
          simp at this; omega
        rw [h0] at hs hk'
        simp at hs hk'
        subst hs; subst hk'
        exact hk.ext hp
    · simp only [List.mem_append, List.mem_singleton] at hn
      rcases hn with hn | hn
      · exact h.word n hn
      · exact hw n hn.symm
    · exact ⟨ts.length, by simp, by rw [h.len]⟩
theorem RT.cst (h : RT ts K) {t : Tm} {n : Int} (hn : RN ts t n) : (∃ c, t = .cst c ∧ isW c ∧ rconst K n = (c, true)) ∨ ((∀ c, t ≠ .cst c) ∧ (rconst K n).2 = false) := by
  obtain ⟨i, a1, a2⟩ := hn
  obtain ⟨k, hk⟩ := get_of_lt (l := K) (k := i) (by rw [h.len]; exact (List.getElem?_eq_some_iff.1 a1).1)
  have hkey := h.key i t k a1 hk
  have hv : rconst K n = (k.n, k.kind == 1) := by
    unfold rconst rval
    rw [show n.toNat = i by omega, hk]
    rfl
  rw [hv]
  by_cases hc : ∃ c, t = .cst c
  · obtain ⟨c, rfl⟩ := hc
    have hk' : k = ⟨1, 0, 0, 0, 0, 0, 0, 0, c⟩ := hkey
    subst hk'
    exact .inl ⟨c, rfl, h.word c (List.mem_of_getElem? a1), rfl⟩
  · refine .inr ⟨fun c e => hc ⟨c, e⟩, ?_⟩
    rw [hkey.kind.1]
    cases t <;> first | rfl | exact absurd ⟨_, rfl⟩ hc
end
def RO (ts : List Tm) : Option Tm → Int → Prop
  | none, n => n = 0
  | some t, n => RN ts t n
def RE (ts : List Tm) (e : SE) (k : REff) : Prop := ∃ x y, RO ts e.a x ∧ RO ts e.b y ∧ k = ⟨e.op, e.k, e.base, e.size, x, y⟩
structure RS (ts : List Tm) (w : RW) (s : SS) : Prop where
  t : RT ts w.L
  regs : All2 (RN ts) s.regs w.regs
  effs : All2 (RE ts) s.effs w.out
  time : w.time = s.time
section
variable {R : Nat} {ts ts' : List Tm}
theorem RO.ext (hp : ts <+: ts') : ∀ {t : Option Tm} {n : Int}, RO ts t n → RO ts' t n
  | none, _, h => h
  | some _, _, h => RN.ext hp h
theorem RE.ext (hp : ts <+: ts') {e : SE} {k : REff} : RE ts e k → RE ts' e k := fun ⟨x, y, h1, h2, h3⟩ => ⟨x, y, h1.ext hp, h2.ext hp, h3⟩
theorem RS.at {w : RW} {s : SS} (h : RS ts w s) {z : Int} (hz : 0 ≤ z ∧ z < s.regs.length) : RN ts (tget s.regs z) (rget w.regs z) := by
  have hl := h.regs.len
  obtain ⟨x, hx⟩ := get_of_lt (l := s.regs) (k := z.toNat) (by omega)
  obtain ⟨y, hy⟩ := get_of_lt (l := w.regs) (k := z.toNat) (by omega)
  unfold tget rget
  rw [hx, hy]
  exact h.regs.get hx hy
theorem RS.put {w : RW} {s : SS} (h : RS ts w s) (z : Int) {t : Tm} {k : RVal} (hk : RK ts t k) (hw : ∀ n, t = .cst n → isW n) : ∃ ts', ts <+: ts' ∧ RS ts' (w.put z (rnum w.L k)) (s.put z t) := by
  obtain ⟨ts', hp, h1, h2⟩ := h.t.num hk hw
  exact ⟨ts', hp, h1, (h.regs.mono fun x y hxy => hxy.ext hp).set h2 _, h.effs.mono fun x y hxy => hxy.ext hp, h.time⟩
theorem RS.eff {w : RW} {s : SS} (h : RS ts w s) {e : SE} {k : REff} (he : RE ts e k) : RS ts (w.eff k) (s.eff e) := ⟨h.t, h.regs, h.effs.snoc he, h.time⟩
theorem RS.tick {w : RW} {s : SS} (h : RS ts w s) : RS ts w.tick s.tick := ⟨h.t, h.regs, h.effs, by show w.time + 1 = s.time + 1; rw [h.time]⟩
theorem RS.get {w : RW} {s : SS} (h : RS ts w s) (t : Tac) {e : SE} {k : REff} (he : RE ts e k) : ∃ ts', ts <+: ts' ∧ RS ts' (w.get t k) (s.get t e) := by
  have h1 : RS ts (w.eff k) (s.eff e) := h.eff he
  have := h1.put t.d (t := .unk s.effs.length) (k := runkV w.out.length) (by show _ = _; rw [h.effs.len]) (fun n e => by cases e)
  exact this
theorem RS.risky {w : RW} {s : SS} (h : RS ts w s) {t : Tac} (hb : 0 ≤ t.b ∧ t.b < s.regs.length) : rrisky w t = trisky t.k (tget s.regs t.b) := by
  unfold rrisky trisky
  congr 1
  rcases h.t.cst (h.at hb) with ⟨c, h1, h2, h3⟩ | ⟨h1, h2⟩
  · rw [h1, h3]; simp [Tm.isZero]
  · rw [h2]
    cases e : tget s.regs t.b with
    | cst c => exact absurd e (h1 c)
    | _ => rfl
theorem RS.apply {w : RW} {s : SS} (h : RS ts w s) {t : Tac} (ha : 0 ≤ t.a ∧ t.a < s.regs.length) (hb : 0 ≤ t.b ∧ t.b < s.regs.length) :
    RK ts (tfold t.k (tget s.regs t.a) (tget s.regs t.b)) (rapplyV w t) ∧ ∀ n, tfold t.k (tget s.regs t.a) (tget s.regs t.b) = .cst n → isW n := by
  have hna := h.at ha
  have hnb := h.at hb
  have hr := h.risky hb
  have hop : ∀ x y : Tm, RN ts x (rget w.regs t.a) → RN ts y (rget w.regs t.b) → RK ts (.op t.k x y) ⟨3, t.k, rget w.regs t.a, rget w.regs t.b, 0, 0, 0, 0, 0⟩ := fun x y h1 h2 => ⟨_, _, h1, h2, rfl⟩
  rcases h.t.cst hna with ⟨c, h1, h2, h3⟩ | ⟨h1, h2⟩
  · rcases h.t.cst hnb with ⟨d, g1, g2, g3⟩ | ⟨g1, g2⟩
    · rw [g1] at hr
      rw [h1] at hna ⊢
      rw [g1] at hnb ⊢
      cases hk : trisky t.k (.cst d) with
      | true =>
        rw [hk] at hr
        rw [rapplyV_o (by unfold rfold; rw [hr]; simp)]
        simp only [tfold, hk, cond_true]
        exact ⟨hop _ _ hna hnb, fun n e => by cases e⟩
      | false =>
        rw [hk] at hr
        rw [rapplyV_c (by unfold rfold; rw [hr, h3, g3]; rfl), h3, g3]
        simp only [tfold, hk, cond_false]
        exact ⟨rfl, fun n e => by cases e; exact wapp_word h2 g2⟩
    · rw [rapplyV_o (by unfold rfold; rw [g2]; simp)]
      rw [h1] at hna ⊢
      cases e2 : tget s.regs t.b with
      | cst d => exact absurd e2 (g1 d)
      | _ => rw [e2] at hnb; exact ⟨hop _ _ hna hnb, fun n e => by cases e⟩
  · rw [rapplyV_o (by unfold rfold; rw [h2]; rfl)]
    cases e1 : tget s.regs t.a with
    | cst d => exact absurd e1 (h1 d)
    | _ => rw [e1] at hna; exact ⟨hop _ _ hna hnb, fun n e => by cases e⟩
theorem RS.step {w : RW} {s : SS} (h : RS ts w s) {t : Tac} (ht : TacT t R) (hl : s.regs.length = R) : ∃ ts', ts <+: ts' ∧ RS ts' (w.step t) (s.step t) := by
  have ha : use1 t.op = true ∨ use2 t.op = true → 0 ≤ t.a ∧ t.a < s.regs.length := fun e => by rw [hl]; exact ht.a e
  have hb : use2 t.op = true → 0 ≤ t.b ∧ t.b < s.regs.length := fun e => by rw [hl]; exact ht.b e
  have h10 : t.op = 1 ∨ t.op = 2 ∨ t.op = 3 ∨ t.op = 4 ∨ t.op = 5 ∨ t.op = 6 ∨ t.op = 7 ∨ t.op = 8 ∨ t.op = 9 ∨ t.op = 10 := by have := ht.op; omega
  rcases h10 with ho | ho | ho | ho | ho | ho | ho | ho | ho | ho
  · rw [rstep1 ho, show s.step t = s.put t.d (.cst t.n) by unfold SS.step; rw [ho]; rfl]
    exact h.put t.d rfl (fun n e => by cases e; exact ht.n)
  · rw [rstep2 ho, show s.step t = s.put t.d (tget s.regs t.a) by unfold SS.step; rw [ho]; rfl]
    exact ⟨ts, List.prefix_rfl, h.t, h.regs.set (h.at (ha (.inl (by rw [ho]; rfl)))) _, h.effs, h.time⟩
  · rw [rstep3 ho, show s.step t = s.bin t by unfold SS.step; rw [ho]; rfl]
    have ha' := ha (.inr (by rw [ho]; rfl))
    have hb' := hb (by rw [ho]; rfl)
    obtain ⟨hk2, hk3⟩ := h.apply ha' hb'
    have hr := h.risky hb'
    have h1 : RS ts (w.div t) (s.div t) := by
      unfold RW.div SS.div
      rw [hr]
      cases trisky t.k (tget s.regs t.b) with
      | true => exact h.eff ⟨_, _, h.at ha', h.at hb', by rw [ho]⟩
      | false => exact h
    have := h1.put t.d hk2 hk3
    rw [rdiv_L] at this
    exact this
  · rw [rstep4 ho, show s.step t = s.put t.d (.ld t.base s.time) by unfold SS.step; rw [ho]; rfl]
    exact h.put t.d (by show _ = _; rw [h.time]) (fun n e => by cases e)
  · rw [rstep5 ho, show s.step t = (s.eff ⟨false, 5, 0, t.base, 0, some (tget s.regs t.a), none⟩).tick by unfold SS.step; rw [ho]; rfl]
    exact ⟨ts, List.prefix_rfl, RS.tick (h.eff ⟨_, _, h.at (ha (.inl (by rw [ho]; rfl))), rfl, by rw [ho]⟩)⟩
  · rw [rstep6 ho, show s.step t = s.get t ⟨false, 6, 0, t.base, t.size, some (tget s.regs t.a), none⟩ by unfold SS.step; rw [ho]; rfl]
    exact h.get t ⟨_, _, h.at (ha (.inl (by rw [ho]; rfl))), rfl, by rw [ho]⟩
  · rw [rstep7 ho, show s.step t = (s.eff ⟨false, 7, 0, t.base, t.size, some (tget s.regs t.a), some (tget s.regs t.b)⟩).tick by unfold SS.step; rw [ho]; rfl]
    exact ⟨ts, List.prefix_rfl, RS.tick (h.eff ⟨_, _, h.at (ha (.inr (by rw [ho]; rfl))), h.at (hb (by rw [ho]; rfl)), by rw [ho]⟩)⟩
  · rw [rstep8 ho, show s.step t = s.get t ⟨false, 8, 0, 0, 0, none, none⟩ by unfold SS.step; rw [ho]; rfl]
    exact h.get t ⟨_, _, rfl, rfl, by rw [ho]⟩
  · rw [rstep9 ho, show s.step t = s.eff ⟨false, 9, 0, 0, 0, some (tget s.regs t.a), none⟩ by unfold SS.step; rw [ho]; rfl]
    exact ⟨ts, List.prefix_rfl, h.eff ⟨_, _, h.at (ha (.inl (by rw [ho]; rfl))), rfl, by rw [ho]⟩⟩
  · have hn : ∀ k : Int, k ≠ 10 → (t.op == k) = false := fun k hk => by rw [ho]; simpa using Ne.symm hk
    rw [rstep0 (hn 1 (by decide)) (hn 2 (by decide)) (hn 3 (by decide)) (hn 4 (by decide)) (hn 5 (by decide)) (hn 6 (by decide)) (hn 7 (by decide)) (hn 8 (by decide)) (hn 9 (by decide)), show s.step t = (s.eff ⟨false, 10, 0, t.base, 0, none, none⟩).tick by unfold SS.step; rw [ho]; rfl]
    exact ⟨ts, List.prefix_rfl, RS.tick (h.eff ⟨_, _, rfl, rfl, by rw [ho]⟩)⟩
theorem RS.fold {l : List Tac} (hl : ∀ t ∈ l, TacT t R) : ∀ {ts : List Tm} {w : RW} {s : SS}, RS ts w s → s.regs.length = R → ∃ ts', ts <+: ts' ∧ RS ts' (l.foldl RW.step w) (l.foldl SS.step s) := by
  induction l with
  | nil => exact fun h _ => ⟨_, List.prefix_rfl, h⟩
  | cons t l ih =>
    intro ts w s h hr
    obtain ⟨ts1, hp1, h1⟩ := h.step (hl t (by simp)) hr
    obtain ⟨ts2, hp2, h2⟩ := ih (fun u hu => hl u (by simp [hu])) h1 ((s.step_len t).trans hr)
    exact ⟨ts2, hp1.trans hp2, h2⟩
theorem RE.uniq (hK : ts.Nodup) {e : SE} {k k' : REff} (h1 : RE ts e k) (h2 : RE ts e k') : k = k' := by
  obtain ⟨x, y, a1, a2, a3⟩ := h1
  obtain ⟨x', y', b1, b2, b3⟩ := h2
  have hu : ∀ {o : Option Tm} {n m : Int}, RO ts o n → RO ts o m → n = m := fun {o n m} g1 g2 => by
    cases o with
    | none => exact g1.trans g2.symm
    | some t => exact RN.uniq hK g1 g2
  rw [a3, b3, hu a1 b1, hu a2 b2]
theorem RE.inj {e e' : SE} {k : REff} (hw : e.wf) (hw' : e'.wf) (h1 : RE ts e k) (h2 : RE ts e' k) : e = e' := by
  obtain ⟨x, y, a1, a2, a3⟩ := h1
  obtain ⟨x', y', b1, b2, b3⟩ := h2
  have hso : ∀ {o o' : Option Tm} {n : Int}, o.isSome → o'.isSome → RO ts o n → RO ts o' n → o = o' := fun {o o' n} g1 g2 g3 g4 => by
    cases o with
    | none => cases g1
    | some t => cases o' with
      | none => cases g2
      | some s => rw [RN.inj (ts := ts) g3 g4]
  obtain ⟨r, o, k1, ba, si, oa, ob⟩ := e
  obtain ⟨r', o', k1', ba', si', oa', ob'⟩ := e'
  have h3 := a3.symm.trans b3
  simp only [REff.mk.injEq] at h3
  obtain ⟨e1, e2, e3, e4, e5, e6⟩ := h3
  subst e1; subst e2; subst e3; subst e4; subst e5; subst e6
  have hfin : r = r' → oa = oa' → ob = ob' → (⟨r, o, k1, ba, si, oa, ob⟩ : SE) = ⟨r', o, k1, ba, si, oa', ob'⟩ := fun q0 q1 q2 => by rw [q0, q1, q2]
  rcases hw with ⟨w1, w2, w3, w4, w5, w6⟩ | ⟨w1, w0, w2⟩ <;> rcases hw' with ⟨v1, v2, v3, v4, v5, v6⟩ | ⟨v1, v0, v2⟩ <;> simp only at *
  · exact hfin (w1.trans v1.symm) (hso w5 v5 a1 b1) (hso w6 v6 a2 b2)
  · rcases v2 with v2 | v2 | v2 | v2 | v2 | v2 <;> (exfalso; have := v2.1; omega)
  · rcases w2 with w2 | w2 | w2 | w2 | w2 | w2 <;> (exfalso; have := w2.1; omega)
  · have hr := w1.trans v1.symm
    rcases w2 with ⟨u1, u2, u3, u4⟩ | ⟨u1, u3, u4⟩ | ⟨u1, u3, u4⟩ | ⟨u1, u2, u5, u3, u4⟩ | ⟨u1, u2, u5, u3, u4⟩ | ⟨u1, u2, u3, u4⟩ <;>
      rcases v2 with ⟨q1, q2, q3, q4⟩ | ⟨q1, q3, q4⟩ | ⟨q1, q3, q4⟩ | ⟨q1, q2, q5, q3, q4⟩ | ⟨q1, q2, q5, q3, q4⟩ | ⟨q1, q2, q3, q4⟩ <;> first
        | (exfalso; omega)
        | exact hfin hr (hso u3 q3 a1 b1) (u4.trans q4.symm)
        | exact hfin hr (hso u3 q3 a1 b1) (hso u4 q4 a2 b2)
        | exact hfin hr (u3.trans q3.symm) (u4.trans q4.symm)
theorem rinit_t (row : List Bool) : ∀ k, ∃ ts, RT ts (rinit row k).L ∧ All2 (RN ts) ((List.range k).map Tm.old) (rinit row k).xs ∧ All2 (RN ts) ((List.range k).map (sideT row)) (rinit row k).ys
  | 0 => ⟨[], ⟨List.nodup_nil, rfl, fun i t k h => by simp at h, fun n h => by simp at h⟩, trivial, trivial⟩
  | k + 1 => by
    obtain ⟨ts, h1, h2, h3⟩ := rinit_t row k
    obtain ⟨ts1, p1, g1, g2⟩ := h1.num (t := .old k) (k := RVal.reg k 0) rfl (fun n e => by cases e)
    have hk2 : RK ts1 (sideT row k) (RVal.reg k (sideR row k)) := by
      unfold sideT sideR
      cases (row[k]?).getD false <;> rfl
    obtain ⟨ts2, p2, g3, g4⟩ := g1.num (t := sideT row k) (k := RVal.reg k (sideR row k)) hk2 (fun n e => by
      unfold sideT at e
      revert e
      cases (row[k]?).getD false <;> (intro e; cases e))
    refine ⟨ts2, g3, ?_, ?_⟩
    · rw [List.range_succ, List.map_append]
      exact (h2.mono fun x y h => (h.ext p1).ext p2).snoc (g2.ext p2)
    · rw [List.range_succ, List.map_append]
      exact (h3.mono fun x y h => (h.ext p1).ext p2).snoc g4
end
theorem rsame_t {R : Nat} {old new : Block} {c : Cert} {i : Int} {next : List Int} (ho : ∀ t ∈ old.ins, TacT t R) (hn : ∀ t ∈ new.ins, TacT t R) (hc : ∀ r ∈ c.same, r.length = R) (hnx : ∀ k ∈ next, 0 ≤ k ∧ k < c.same.length) (hv : old.fin = 2 → (0 ≤ old.v ∧ old.v < R) ∧ (0 ≤ new.v ∧ new.v < R)) :
    rsame R old new c i next = tsame R old new c i next := by
  obtain ⟨ts0, q1, q2, q3⟩ := rinit_t (c.at' i) R
  have h0 : RS ts0 ⟨(rinit (c.at' i) R).L, (rinit (c.at' i) R).xs, [], 0⟩ ⟨symR R, [], 0⟩ := ⟨q1, q2, trivial, rfl⟩
  obtain ⟨ts1, hp1, h1⟩ := RS.fold ho h0 (symR_len R)
  have h2 : RS ts1 ⟨(rrunA R (c.at' i) old).L, (rinit (c.at' i) R).ys, [], 0⟩ ⟨symO R (c.at' i), [], 0⟩ := ⟨h1.t, q3.mono fun x y h => h.ext hp1, trivial, rfl⟩
  obtain ⟨ts2, hp2, h3⟩ := RS.fold hn h2 (symO_len R _)
  have hA1 : All2 (RN ts2) (srun (symR R) old.ins).regs (rrunA R (c.at' i) old).vw.vals := h1.regs.mono fun x y h => h.ext hp2
  have hA2 : All2 (RE ts2) (srun (symR R) old.ins).effs (rrunA R (c.at' i) old).out := h1.effs.mono fun x y h => h.ext hp2
  have hB1 : All2 (RN ts2) (srun (symO R (c.at' i)) new.ins).regs (rrunB R (c.at' i) old new).vw.vals := h3.regs
  have hB2 : All2 (RE ts2) (srun (symO R (c.at' i)) new.ins).effs (rrunB R (c.at' i) old new).out := h3.effs
  have lA := (srun_len (symR R) old.ins).trans (symR_len R)
  have lB := (srun_len (symO R (c.at' i)) new.ins).trans (symO_len R _)
  have hu : ∀ t n m, RN ts2 t n → RN ts2 t m → n = m := fun t n m a b => RN.uniq h3.t.nd a b
  have hi : ∀ t s n, RN ts2 t n → RN ts2 s n → t = s := fun t s n a b => RN.inj a b
  unfold rsame tsame
  congr 1
  · exact decide_eq_decide.2 (All2.iff (r := RE ts2) (r' := RE ts2) (p := SE.wf) (q := SE.wf) (fun e k k' _ a b => RE.uniq h3.t.nd a b) (fun e e' k p q a b => RE.inj p q a b) (srun_wf _ _) (srun_wf _ _) hA2 hB2)
  congr 1
  · by_cases hf : old.fin = 2
    · rw [show (rget (rrunA R (c.at' i) old).regs old.v == rget (rrunB R (c.at' i) old new).regs new.v) = _ from agree_eq (α := Unit) (R := R) hu hi hA1 hB1 lA lB (hv hf).1 (hv hf).2]
    · rw [show (old.fin == 2) = false by simpa using hf]; rfl
  · refine all_cong fun k hk => ?_
    have hkr := hnx k hk
    have hrow : (c.at' k).length = R := by
      obtain ⟨r, hr⟩ := get_of_lt (l := c.same) (k := k.toNat) (by omega)
      unfold Cert.at'
      rw [hr]
      exact hc r (List.mem_of_getElem? hr)
    exact vagree_t (R := R) hu hi hA1 hB1 lA lB hrow
end Go.Proofs.Ytpijoieooikfgaa.Sv

namespace Go.Proofs.Ytpijoieooikfgaa.Sv
open Go
theorem callOk_eq {t : Tac} (h : t.callOk = true) (h10 : t.op = 10) : t = callTac t.base ∧ 0 ≤ t.base := by
  unfold Tac.callOk at h
  rw [show (t.op != 10) = false by simp [h10], Bool.false_or, Bool.and_eq_true, decide_eq_true_eq] at h
  exact ⟨(Tac.same_iff _ _).1 h.2, h.1⟩
theorem stands_tact {f : BFunc} (h : f.stands = true) {x : Block} (hx : x ∈ f.blocks) {t : Tac} (ht : t ∈ x.ins) (hn : isW t.n) : TacT t f.regs.toNat := by
  have hS := stands_of h
  have hv := hS.tacs x hx t ht hn
  unfold BFunc.stands at h
  rw [Bool.and_eq_true] at h
  obtain ⟨h1, h2⟩ := h
  by_cases h10 : t.op = 10
  · have hok := List.all_eq_true.1 (List.all_eq_true.1 h1 x hx) t ht
    obtain ⟨e, _⟩ := callOk_eq hok h10
    exact ⟨hv, ⟨by omega, by omega⟩, fun e3 => by omega, by rw [e]; rfl⟩
  · simp only [Blocks.right, Bool.and_eq_true, decide_eq_true_eq, List.all_eq_true] at h2
    have h3 := h2.2.2.2 (f.bare, 0) (by simp)
    simp only [BFunc.one, Bool.and_eq_true, List.all_eq_true, BFunc.bare] at h3
    have h4 := h3.2.2.2 x.bare (List.mem_map.2 ⟨x, hx, rfl⟩)
    unfold Block.ok at h4
    rw [Bool.and_eq_true, List.all_eq_true] at h4
    have hf := h4.2 t (List.mem_filter.2 ⟨ht, by simpa using h10⟩)
    simp only [Tac.fits, Bool.and_eq_true, decide_eq_true_eq] at hf
    obtain ⟨f1, f2, f3, f4, f5, f6⟩ := hf
    refine ⟨hv, ⟨f1, f2⟩, fun e3 => ?_, (Tac.same_iff _ _).1 f6⟩
    unfold Tac.rest at f5
    rw [show (t.op == 3) = true by simp [e3]] at f5
    simpa using f5
def tblocks (old new : BFunc) (c : Cert) : Bool := (old.blocks.zip new.blocks).zipIdx.all fun p => tsame old.regs.toNat p.1.1 p.1.2 c (p.2 : Int) p.1.1.nexts
def tcheck (old new : BFunc) (c : Cert) : Bool := vshaped old new && (decide (c.same.length = old.blocks.length) && ((c.same.all fun r => decide ((r.length : Int) = old.regs)) && tblocks old new c))
def BFunc.words (f : BFunc) : Prop := ∀ x ∈ f.blocks, insW x.ins
theorem checks_t {old new : BFunc} {c : Cert} (ho : old.words) (hn : new.words) : vcheck old new c = tcheck old new c ∧ rcheck old new c = tcheck old new c := by
  unfold vcheck rcheck tcheck
  cases hs : vshaped old new with
  | false => exact ⟨rfl, rfl⟩
  | true =>
    have hV := vshaped_of hs
    have hSo := stands_of hV.so
    have hSn := stands_of hV.sn
    simp only [Bool.true_and]
    by_cases h1 : c.same.length = old.blocks.length
    · by_cases h2 : (c.same.all fun r => decide ((r.length : Int) = old.regs)) = true
      · have hR : ((old.regs.toNat : Nat) : Int) = old.regs := Int.toNat_of_nonneg hSo.r0
        have hc : ∀ r ∈ c.same, r.length = old.regs.toNat := fun r hr => by
          have := List.all_eq_true.1 h2 r hr
          simp only [decide_eq_true_eq] at this; omega
        have key : ∀ (p : (Block × Block) × Nat), p ∈ (old.blocks.zip new.blocks).zipIdx → (∀ t ∈ p.1.1.ins, TacT t old.regs.toNat) ∧ (∀ t ∈ p.1.2.ins, TacT t old.regs.toNat) ∧ (∀ k ∈ p.1.1.nexts, 0 ≤ k ∧ k < c.same.length) ∧ (p.1.1.fin = 2 → (0 ≤ p.1.1.v ∧ p.1.1.v < old.regs.toNat) ∧ (0 ≤ p.1.2.v ∧ p.1.2.v < old.regs.toNat)) := by
          rintro ⟨⟨x, y⟩, i⟩ hp
          obtain ⟨j, hj⟩ := List.mem_iff_getElem?.1 hp
          rw [List.getElem?_zipIdx, Option.map_eq_some_iff] at hj
          obtain ⟨q, hq, e⟩ := hj
          obtain ⟨x', y'⟩ := q
          simp only [Nat.zero_add, Prod.mk.injEq] at e
          obtain ⟨⟨rfl, rfl⟩, rfl⟩ := e
          rw [List.getElem?_zip_eq_some] at hq
          obtain ⟨hx, hy⟩ := hq
          have hxm := List.mem_of_getElem? hx
          have hym := List.mem_of_getElem? hy
          have hb := hV.b j x' y' hx hy
          refine ⟨fun t ht => stands_tact hV.so hxm ht (ho x' hxm t ht), fun t ht => ?_, fun k hk => ?_, fun hf => ?_⟩
          · rw [hV.regs]; exact stands_tact hV.sn hym ht (hn y' hym t ht)
          · rw [h1]; exact hSo.next x' hxm k hk
          · dsimp only at hf ⊢
            rw [hR]
            refine ⟨hSo.v x' hxm hf, ?_⟩
            rw [hV.regs]; exact hSn.v y' hym (by rw [← hb.1]; exact hf)
        constructor
        · congr 2
          unfold vblocks tblocks
          refine all_cong fun p hp => ?_
          obtain ⟨k1, k2, k3, k4⟩ := key p hp
          exact vsame_t k1 k2 hc k3 k4
        · unfold rsized
          rw [Bool.and_assoc]
          congr 2
          unfold rblocks tblocks
          refine all_cong fun p hp => ?_
          obtain ⟨k1, k2, k3, k4⟩ := key p hp
          exact rsame_t k1 k2 hc k3 k4
      · have h2' : (c.same.all fun r => decide ((r.length : Int) = old.regs)) = false := by simpa using h2
        unfold rsized
        rw [h2']
        simp
    · unfold rsized
      rw [decide_eq_false h1]
      exact ⟨rfl, rfl⟩
def insSum' (l : List Block) : Nat := (l.map fun x => x.ins.length).sum
def few34 (f : BFunc) (nb ni : Int) : Bool := decide ((f.blocks.length : Int) ≤ nb) && (decide (f.regs ≤ 40) && decide ((insSum' f.blocks : Int) ≤ ni))
theorem insSum_succ' {l : List Block} {k : Nat} {x : Block} (h : l[k]? = some x) : insSum' (l.take (k + 1)) = insSum' (l.take k) + x.ins.length := sum_succ h
theorem insSum_all (l : List Block) (k : Nat) : insSum' (l.take k) ≤ insSum' l := by
  induction l generalizing k with
  | nil => simp [insSum']
  | cons x l ih =>
    cases k with
    | zero => simp [insSum']
    | succ k =>
      have := ih k
      simp only [insSum', List.take_succ_cons, List.map_cons, List.sum_cons] at this ⊢
      omega
theorem ins_le' {l : List Block} {x : Block} (h : x ∈ l) : x.ins.length ≤ insSum' l := by
  induction l with
  | nil => simp at h
  | cons y l ih =>
    simp only [List.mem_cons] at h
    simp only [insSum', List.map_cons, List.sum_cons] at ih ⊢
    rcases h with rfl | h
    · omega
    · have := ih h; omega
theorem few34_of {f : BFunc} {nb ni : Int} (h : few34 f nb ni = true) : (f.blocks.length : Int) ≤ nb ∧ f.regs ≤ 40 ∧ ∀ x ∈ f.blocks, (x.ins.length : Int) ≤ ni := by
  simp only [few34, Bool.and_eq_true, decide_eq_true_eq] at h
  exact ⟨h.1, h.2.1, fun x hx => by have := ins_le' hx; omega⟩
def great34 (c : Cert) : Bool := (c.same.take 21).any (fun r => decide (60 < r.length)) || decide (20 < c.same.length)
theorem great34_of {c : Cert} (h : great34 c = false) : c.same.length ≤ 20 ∧ ∀ r ∈ c.same, r.length ≤ 60 := by
  simp only [great34, Bool.or_eq_false_iff, decide_eq_false_iff_not] at h
  have hl : c.same.length ≤ 20 := by omega
  refine ⟨hl, fun r hr => ?_⟩
  have h1 := h.1
  rw [List.take_of_length_le (by omega), List.any_eq_false] at h1
  have := h1 r hr
  simp only [decide_eq_true_eq] at this
  omega
def oneF (l : List Tac) : BFunc := ⟨3, [⟨l, 3, 0, 0, 0⟩]⟩
def noneC : Cert := ⟨[[false, false, false]]⟩
def tA : Tac := ⟨1, 1, 0, 0, 0, 0, 0, 2⟩
def tB : Tac := ⟨9, 0, 1, 0, 0, 0, 0, 0⟩
def tC : Tac := ⟨1, 0, 0, 0, 0, 0, 0, 5⟩
def tD : Tac := ⟨1, 1, 0, 0, 0, 0, 0, 1⟩
def tE : Tac := ⟨3, 2, 1, 1, 4, 0, 0, 0⟩
def tF : Tac := ⟨9, 0, 2, 0, 0, 0, 0, 0⟩
def tG : Tac := ⟨8, 0, 0, 0, 0, 0, 0, 0⟩
def tH : Tac := ⟨3, 1, 1, 2, 7, 0, 0, 0⟩
theorem one_ins (l : List Tac) (hl : l.length ≤ 10000) (hw : ∀ t ∈ l, 0 ≤ t.n ∧ t.n < 4294967296) : ∀ x ∈ (oneF l).blocks, x.ins.length ≤ 10000 ∧ insW x.ins := fun x hx => by
  have : x = ⟨l, 3, 0, 0, 0⟩ := by simpa [oneF] using hx
  subst this
  exact ⟨hl, fun t ht => hw t ht⟩
theorem aw1 : vcheck (oneF [tA, tB]) (oneF [tC, tA, tB]) noneC = true := by decide +kernel
theorem aw2 : vcheck (oneF [tA, tB]) (oneF [tD, tE, tF]) noneC = true := by decide +kernel
theorem aw3 : vcheck (oneF [tG]) (oneF []) noneC = false := by decide +kernel
theorem aw4 : vcheck (oneF []) (oneF [tG]) noneC = false := by decide +kernel
theorem aw5 : vcheck (oneF [tH]) (oneF []) noneC = false := by decide +kernel
theorem aw6 : vcheck (oneF [tA, tB]) (oneF []) noneC = false := by decide +kernel
theorem aw7 : vcheck (oneF [tG]) (oneF [tG]) (vweak (oneF [tG])) = true := by decide +kernel
theorem aw8 : vcheck (oneF [tA, tB]) (oneF [tA, tB]) ⟨[]⟩ = false := by decide +kernel
theorem great_yes {c : Cert} {k : Nat} {r : List Bool} (hr : c.same[k]? = some r) (hk : k ≤ 20) (h : 60 < r.length) : great34 c = true := by
  unfold great34
  rw [Bool.or_eq_true]
  refine .inl (List.any_eq_true.2 ⟨r, ?_, by simpa using h⟩)
  have : (c.same.take 21)[k]? = some r := by rw [List.getElem?_take, if_pos (by omega)]; exact hr
  exact List.mem_of_getElem? this
theorem great_end {c : Cert} {k : Nat} (hF : (c.same.take k).any (fun r => decide (60 < r.length)) = false) (hk : k ≤ c.same.length) (hk2 : k ≤ 21) (h : c.same.length ≤ k ∨ 20 < k) : great34 c = decide ((((c.same.map fun r => [boolsAV r]).length : Nat) : Int) > 20) := by
  have hl : c.same.take 21 = c.same.take k := by
    rcases h with h | h
    · rw [List.take_of_length_le (by omega), List.take_of_length_le (by omega)]
    · rw [show k = 21 by omega]
  unfold great34
  rw [hl, hF, Bool.false_or, List.length_map]
  exact decide_eq_decide.2 (by omega)
theorem weak_avoid {q : Nat → Bool} {n m k : Nat} (es : List (List Bool)) : (AObj.row false 1 ((es.take k).map rowCell ++ List.replicate (n - m) [AV.nil])).avoid q = true := by
  simp only [AObj.avoid, List.all_append, List.all_map, List.all_replicate, Bool.and_eq_true]
  refine ⟨List.all_eq_true.2 fun x _ => rfl, ?_⟩
  split <;> rfl
theorem weak_avoid2 {q : Nat → Bool} {n m k i : Nat} (es : List (List Bool)) (b : Nat) (hb : q b = true := by rfl) {u v w : Nat} : (AObj.row false 1 (((es.take k).map rowCell ++ List.replicate (n - m) [AV.nil]).set i [.ref b u v w])).avoid q = true := by
  simp only [AObj.avoid, List.all_eq_true]
  intro cs hc
  rcases List.mem_or_eq_of_mem_set hc with hc | rfl
  · simp only [List.mem_append, List.mem_map] at hc
    rcases hc with ⟨x, _, rfl⟩ | hc
    · intro y hy; simp [rowCell] at hy; subst hy; rfl
    · rw [List.eq_of_mem_replicate hc]; intro y hy; simp at hy; subst hy; rfl
  · intro y hy
    simp at hy; subst hy
    exact hb
theorem weak_pure {n k : Nat} {es : List (List Bool)} (hk : n ≤ k) : ∀ cs ∈ (es.take k).map rowCell ++ List.replicate (n - k) [AV.nil], cs.all AV.isPure1 = true := fun cs hc => by
  simp only [List.mem_append, List.mem_map] at hc
  rcases hc with ⟨x, _, rfl⟩ | hc
  · rfl
  · rw [List.eq_of_mem_replicate hc]; rfl
theorem get_set_self0 {es : List (List AV)} {i : Nat} {cs ds : List AV} (h : es[i]? = some cs) : (es.set i ds)[i]? = some ds := by
  have := (List.getElem?_eq_some_iff.1 h).1
  simp [this]
theorem APure.weak {P : Program} {f : FuncId} {xs xs' : List AV} {R : AV → Prop} (h : APure P f xs' R) (hw : ∀ (H : Know) (vs : Array Value), RelAll H noLay xs vs → RelAll H noLay xs' vs) : APure P f xs R := fun H w vs h1 h2 => h H w vs (hw H vs h1) h2
theorem nil_cert {a b : AV} (H : Know) (vs : Array Value) (h : RelAll H noLay [a, b, .agg [.nil]] vs) : RelAll H noLay [a, b, .agg (Cert.mk []).cells] vs := by
  refine ⟨h.1, fun j x v hx hv => ?_⟩
  match j, hx with
  | 0, hx => exact h.2 0 x v hx hv
  | 1, hx => exact h.2 1 x v hx hv
  | 2, hx =>
    simp at hx; subst hx
    have h0 := h.2 2 _ v rfl hv
    obtain ⟨us, rfl, h1, h2⟩ := h0.agg_inv
    refine .agg _ _ _ h1 fun i y u hy hu => ?_
    match i, hy with
    | 0, hy =>
      have e : y = .lst false [] := by simpa [Cert.cells, rowsAV] using hy.symm
      subst e
      rw [(h2 0 .nil u rfl hu).nil_inv]
      exact .lst0 _ _ _ _ (fun h => by cases h) (Nat.zero_le _) (fun _ => rfl) trivial
    | i + 1, hy => simp [Cert.cells] at hy
  | j + 3, hx => simp at hx
end Go.Proofs.Ytpijoieooikfgaa.Sv

namespace Go.Proofs.Ytpijoieooikfgaa.Sv
open Go
structure Cert.Ok (c : Cert) : Prop where
  len : c.same.length * 24 ≤ reachBytes
  rows : ∀ r ∈ c.same, r.length * 1 ≤ reachBytes
theorem Cert.Ok.lenB {c : Cert} (h : c.Ok) : c.same.length ≤ big := by
  have := h.len
  simp only [reachBytes] at this
  simp only [big]; omega
theorem BFunc.Ok.lenB {f : BFunc} (h : f.Ok) : f.blocks.length ≤ big := by
  have := h.len
  simp only [reachBytes] at this
  simp only [big]; omega
theorem BFunc.Ok.insB {f : BFunc} (h : f.Ok) : ∀ x ∈ f.blocks, x.ins.length ≤ big := fun x hx => by
  have := (h.blocks x hx).len
  simp only [reachBytes] at this
  simp only [big]; omega
theorem few_short {f : BFunc} (h : f.Ok) {nb ni : Int} (hb : nb ≤ 1000 := by decide) (hi : ni ≤ 1000 := by decide) (h1 : few34 f nb ni = true) : f.blocks.length ≤ 10000 ∧ ∀ x ∈ f.blocks, x.ins.length ≤ 10000 ∧ insW x.ins := by
  obtain ⟨a1, a2, a3⟩ := few34_of h1
  exact ⟨by omega, fun x hx => ⟨by have := a3 x hx; omega, h.insW hx⟩⟩
end Go.Proofs.Ytpijoieooikfgaa.Sv

namespace Go.Proofs.Ytpijoieooikfgaa
open Go.ChangeShapes Go.WideShapes Go.ChangeAt Go.RowKit Sv
section
variable {H : Type} {enc : TypeId × Value → H} {W : World}
theorem decBools : Dec enc Try.prog W 34 (fun l : List Bool => [boolsAV l]) (fun l => l.length * 1 ≤ reachBytes ∧ ∀ n ∈ l, True) := Dec.slice' (j := ty4) tok rfl rfl rfl (Nat.zero_lt_succ _) (Dec.bool' tok rfl rfl)
theorem decRows : Dec enc Try.prog W 25 (fun l : List (List Bool) => [rowsAV l]) (fun l => l.length * 24 ≤ reachBytes ∧ ∀ r ∈ l, r.length * 1 ≤ reachBytes) := fun fuel cs x h hw => by
  obtain ⟨l, h1, h2⟩ := Dec.slice' (j := ty34) tok rfl rfl rfl (Nat.zero_lt_succ _) decBools fuel cs x h hw
  exact ⟨l, h1, h2.1, fun p hp => (h2.2 p hp).1⟩
theorem decCert : Dec enc Try.prog W 27 Cert.cells Cert.Ok := fun fuel cs x h hw => by
  obtain ⟨hl, hp⟩ := struct_parts tok (i := ty27) rfl rfl h hw
  have hl' : cs.length = 1 := hl
  obtain ⟨x0, a0, b0⟩ := hp 0 _ _ rfl decRows
  have c0 := app1 tok (n := 1) rfl rfl (Reads.nil W cs) a0 (by omega)
  exact ⟨⟨x0⟩, c0.all hl', ⟨b0.1, b0.2⟩⟩
end
end Go.Proofs.Ytpijoieooikfgaa

namespace Go.Proofs.Ytpijoieooikfgaa.Sv
open Go
def Tm.ren (row : List Bool) : Tm → Tm
  | .old v => sideT row v
  | .own v => .own v
  | .cst n => .cst n
  | .op k a b => .op k (a.ren row) (b.ren row)
  | .ld b τ => .ld b τ
  | .unk n => .unk n
def Tm.pure (R : Nat) : Tm → Prop
  | .old v => v < R
  | .own _ => False
  | .op _ a b => a.pure R ∧ b.pure R
  | _ => True
def Tm.inR (row : List Bool) : Tm → Prop
  | .old v => row[v]? = some true
  | .own _ => False
  | .op _ a b => a.inR row ∧ b.inR row
  | _ => True
theorem Tm.ren_iff {R : Nat} {row : List Bool} (hr : row.length = R) : ∀ {t s : Tm}, t.pure R → s.pure R → (s = t.ren row ↔ s = t ∧ t.inR row)
  | .old v, s, ht, hs => by
    have hv : v < row.length := by rw [hr]; exact ht
    obtain ⟨b, hb⟩ := get_of_lt hv
    have e : (Tm.old v).ren row = sideT row v := rfl
    have hi : (Tm.old v).inR row ↔ row[v]? = some true := Iff.rfl
    rw [e, hi, hb]
    unfold sideT
    rw [hb]
    cases b with
    | true => simp
    | false =>
      simp only [Option.getD_some, cond_false, Option.some.injEq, Bool.false_eq_true, and_false, iff_false]
      intro h; subst h; exact hs.elim
  | .own v, s, ht, hs => ht.elim
  | .cst n, s, ht, hs => by simp [Tm.ren, Tm.inR]
  | .ld b τ, s, ht, hs => by simp [Tm.ren, Tm.inR]
  | .unk n, s, ht, hs => by simp [Tm.ren, Tm.inR]
  | .op k a b, s, ht, hs => by
    constructor
    · intro h
      cases s with
      | op k' a' b' =>
        simp only [Tm.ren, Tm.op.injEq] at h
        obtain ⟨h1, h2, h3⟩ := h
        obtain ⟨g1, g2⟩ := (Tm.ren_iff hr ht.1 hs.1).1 h2
        obtain ⟨g3, g4⟩ := (Tm.ren_iff hr ht.2 hs.2).1 h3
        exact ⟨by rw [h1, g1, g3], g2, g4⟩
      | _ => simp [Tm.ren] at h
    · rintro ⟨rfl, h1, h2⟩
      simp only [Tm.ren, Tm.op.injEq, true_and]
      exact ⟨(Tm.ren_iff hr ht.1 ht.1).2 ⟨rfl, h1⟩, (Tm.ren_iff hr ht.2 ht.2).2 ⟨rfl, h2⟩⟩
def oren (row : List Bool) : Option Tm → Option Tm := Option.map (Tm.ren row)
def SE.ren (row : List Bool) (e : SE) : SE := { e with a := oren row e.a, b := oren row e.b }
def opure (R : Nat) : Option Tm → Prop
  | none => True
  | some t => t.pure R
def oinR (row : List Bool) : Option Tm → Prop
  | none => True
  | some t => t.inR row
def SE.pure (R : Nat) (e : SE) : Prop := opure R e.a ∧ opure R e.b
def SE.inR (row : List Bool) (e : SE) : Prop := oinR row e.a ∧ oinR row e.b
theorem oren_iff {R : Nat} {row : List Bool} (hr : row.length = R) {t s : Option Tm} (ht : opure R t) (hs : opure R s) : s = oren row t ↔ s = t ∧ oinR row t := by
  cases t with
  | none => simp [oren, oinR]
  | some t =>
    cases s with
    | none => simp [oren]
    | some s =>
      simp only [oren, Option.map_some, Option.some.injEq]
      exact Tm.ren_iff hr ht hs
theorem SE.ren_iff {R : Nat} {row : List Bool} (hr : row.length = R) {e f : SE} (he : e.pure R) (hf : f.pure R) : f = e.ren row ↔ f = e ∧ e.inR row := by
  have h1 := oren_iff hr he.1 hf.1
  have h2 := oren_iff hr he.2 hf.2
  cases e with
  | mk r o k ba si a b =>
    cases f with
    | mk r' o' k' ba' si' a' b' =>
      simp only [SE.ren, SE.mk.injEq, SE.inR] at h1 h2 ⊢
      rw [h1, h2]
      constructor
      · rintro ⟨e1, e2, e3, e4, e5, ⟨e6, e7⟩, e8, e9⟩; exact ⟨⟨e1, e2, e3, e4, e5, e6, e8⟩, e7, e9⟩
      · rintro ⟨⟨e1, e2, e3, e4, e5, e6, e8⟩, e7, e9⟩; exact ⟨e1, e2, e3, e4, e5, ⟨e6, e7⟩, e8, e9⟩
theorem effs_ren {R : Nat} {row : List Bool} (hr : row.length = R) : ∀ {l m : List SE}, (∀ e ∈ l, e.pure R) → (∀ e ∈ m, e.pure R) → (l = m.map (SE.ren row) ↔ l = m ∧ ∀ e ∈ m, e.inR row)
  | [], [], _, _ => by simp
  | [], e :: m, _, _ => by simp
  | f :: l, [], _, _ => by simp
  | f :: l, e :: m, hl, hm => by
    have ih := effs_ren hr (l := l) (m := m) (fun x hx => hl x (by simp [hx])) (fun x hx => hm x (by simp [hx]))
    have h1 := SE.ren_iff hr (hm e (by simp)) (hl f (by simp))
    simp only [List.map_cons, List.cons.injEq, h1, ih, List.mem_cons, forall_eq_or_imp]
    constructor
    · rintro ⟨⟨e1, e2⟩, e3, e4⟩; exact ⟨⟨e1, e3⟩, e2, e4⟩
    · rintro ⟨⟨e1, e3⟩, e2, e4⟩; exact ⟨⟨e1, e2⟩, e3, e4⟩
def SS.ren (row : List Bool) (s : SS) : SS := ⟨s.regs.map (Tm.ren row), s.effs.map (SE.ren row), s.time⟩
structure SS.pure (R : Nat) (s : SS) : Prop where
  regs : ∀ t ∈ s.regs, t.pure R
  effs : ∀ e ∈ s.effs, e.pure R
theorem tget_ren (row : List Bool) (l : List Tm) (z : Int) : tget (l.map (Tm.ren row)) z = (tget l z).ren row := by
  unfold tget
  rw [List.getElem?_map]
  cases l[z.toNat]? <;> rfl
theorem tset_ren (row : List Bool) (l : List Tm) (z : Int) (t : Tm) : tset (l.map (Tm.ren row)) z (t.ren row) = (tset l z t).map (Tm.ren row) := by
  unfold tset; rw [List.map_set]
theorem side_cases (row : List Bool) (v : Nat) : sideT row v = .old v ∨ sideT row v = .own v := by
  unfold sideT; cases (row[v]?).getD false <;> simp
theorem Tm.isZero_ren (row : List Bool) (t : Tm) : (t.ren row).isZero = t.isZero := by
  cases t with
  | old v => rcases side_cases row v with h | h <;> (show (sideT row v).isZero = true; rw [h]; rfl)
  | _ => rfl
theorem tfold_ren (row : List Bool) (k : Int) (a b : Tm) : tfold k (a.ren row) (b.ren row) = (tfold k a b).ren row := by
  have hop : ∀ x y : Tm, (∀ n, x ≠ .cst n) ∨ (∀ n, y ≠ .cst n) → tfold k x y = .op k x y := fun x y h => by
    cases x <;> cases y <;> first | rfl | (exfalso; rcases h with h | h <;> exact h _ rfl)
  have hne : ∀ t : Tm, (∀ n, t ≠ .cst n) → ∀ n, t.ren row ≠ .cst n := fun t h n e => by
    cases t with
    | old v => rcases side_cases row v with g | g <;> (rw [show (Tm.old v).ren row = sideT row v from rfl, g] at e; cases e)
    | cst m => exact h m rfl
    | _ => cases e
  by_cases ha : ∃ x, a = .cst x
  · obtain ⟨x, rfl⟩ := ha
    by_cases hb : ∃ y, b = .cst y
    · obtain ⟨y, rfl⟩ := hb
      show tfold k (.cst x) (.cst y) = _
      simp only [tfold]
      cases trisky k (.cst y) <;> rfl
    · have hb' : ∀ n, b ≠ .cst n := fun n e => hb ⟨n, e⟩
      rw [hop _ _ (.inr hb'), hop _ _ (.inr (hne b hb'))]; rfl
  · have ha' : ∀ n, a ≠ .cst n := fun n e => ha ⟨n, e⟩
    rw [hop _ _ (.inl ha'), hop _ _ (.inl (hne a ha'))]; rfl
theorem trisky_ren (row : List Bool) (k : Int) (b : Tm) : trisky k (b.ren row) = trisky k b := by unfold trisky; rw [Tm.isZero_ren]
theorem SS.put_ren (row : List Bool) (s : SS) (z : Int) (t : Tm) : (s.ren row).put z (t.ren row) = (s.put z t).ren row := by
  simp only [SS.put, SS.ren, tset_ren]
theorem SS.eff_ren (row : List Bool) (s : SS) (e : SE) : (s.ren row).eff (e.ren row) = (s.eff e).ren row := by
  simp [SS.eff, SS.ren]
theorem SS.get_ren (row : List Bool) (s : SS) (t : Tac) (e : SE) : (s.ren row).get t (e.ren row) = (s.get t e).ren row := by
  unfold SS.get
  rw [SS.eff_ren, ← SS.put_ren]
  simp [SS.ren, Tm.ren]
theorem SS.step_ren (row : List Bool) (s : SS) (t : Tac) : (s.ren row).step t = (s.step t).ren row := by
  have hg : ∀ z, tget (s.ren row).regs z = (tget s.regs z).ren row := fun z => tget_ren row s.regs z
  unfold SS.step
  cases t.op == 1 with
  | true => exact SS.put_ren row s t.d (.cst t.n)
  | false =>
  cases t.op == 2 with
  | true => simp only [cond_true, cond_false]; rw [hg]; exact SS.put_ren row s t.d _
  | false =>
  cases t.op == 3 with
  | true =>
    simp only [cond_true, cond_false]
    unfold SS.bin
    have hd : (s.ren row).div t = (s.div t).ren row := by
      unfold SS.div
      rw [hg, hg, trisky_ren]
      cases trisky t.k (tget s.regs t.b) with
      | true => exact SS.eff_ren row s ⟨true, 3, t.k, 0, 0, some (tget s.regs t.a), some (tget s.regs t.b)⟩
      | false => rfl
    rw [hd, hg, hg, tfold_ren]
    exact SS.put_ren row (s.div t) t.d _
  | false =>
  cases t.op == 4 with
  | true => exact SS.put_ren row s t.d (.ld t.base s.time)
  | false =>
  cases t.op == 5 with
  | true =>
    simp only [cond_true, cond_false]
    rw [hg]
    exact congrArg SS.tick (SS.eff_ren row s ⟨false, 5, 0, t.base, 0, some (tget s.regs t.a), none⟩)
  | false =>
  cases t.op == 6 with
  | true =>
    simp only [cond_true, cond_false]
    rw [hg]
    exact SS.get_ren row s t ⟨false, 6, 0, t.base, t.size, some (tget s.regs t.a), none⟩
  | false =>
  cases t.op == 7 with
  | true =>
    simp only [cond_true, cond_false]
    rw [hg, hg]
    exact congrArg SS.tick (SS.eff_ren row s ⟨false, 7, 0, t.base, t.size, some (tget s.regs t.a), some (tget s.regs t.b)⟩)
  | false =>
  cases t.op == 8 with
  | true => exact SS.get_ren row s t ⟨false, 8, 0, 0, 0, none, none⟩
  | false =>
  cases t.op == 9 with
  | true =>
    simp only [cond_true, cond_false]
    rw [hg]
    exact SS.eff_ren row s ⟨false, 9, 0, 0, 0, some (tget s.regs t.a), none⟩
  | false => exact congrArg SS.tick (SS.eff_ren row s ⟨false, 10, 0, t.base, 0, none, none⟩)
theorem srun_ren (R : Nat) (row : List Bool) (l : List Tac) : srun (symO R row) l = (srun (symR R) l).ren row := by
  have h0 : (⟨symO R row, [], 0⟩ : SS) = (⟨symR R, [], 0⟩ : SS).ren row := by
    simp [SS.ren, symO, symR, Tm.ren]
  unfold srun
  rw [h0]
  generalize (⟨symR R, [], 0⟩ : SS) = s
  induction l generalizing s with
  | nil => rfl
  | cons t l ih => rw [List.foldl_cons, List.foldl_cons, SS.step_ren, ih]
theorem tget_pure {R : Nat} {l : List Tm} (h : ∀ t ∈ l, t.pure R) (z : Int) : (tget l z).pure R := by
  unfold tget
  cases e : l[z.toNat]? with
  | none => exact trivial
  | some t => exact h t (List.mem_of_getElem? e)
theorem tset_pure {R : Nat} {l : List Tm} (h : ∀ t ∈ l, t.pure R) (z : Int) {t : Tm} (ht : t.pure R) : ∀ x ∈ tset l z t, x.pure R := fun x hx => by
  unfold tset at hx
  rcases List.mem_or_eq_of_mem_set hx with hx | rfl
  · exact h x hx
  · exact ht
theorem tfold_pure {R : Nat} {k : Int} {a b : Tm} (ha : a.pure R) (hb : b.pure R) : (tfold k a b).pure R := by
  have hop : (Tm.op k a b).pure R := ⟨ha, hb⟩
  cases a with
  | cst x =>
    cases b with
    | cst y =>
      simp only [tfold]
      cases trisky k (.cst y) with
      | true => exact hop
      | false => exact trivial
    | _ => exact hop
  | _ => exact hop
theorem SS.pure.put_pure {R : Nat} {s : SS} (h : s.pure R) (z : Int) {t : Tm} (ht : t.pure R) : (s.put z t).pure R := ⟨tset_pure h.regs z ht, h.effs⟩
theorem SS.pure.eff_pure {R : Nat} {s : SS} (h : s.pure R) {e : SE} (he : e.pure R) : (s.eff e).pure R := ⟨h.regs, fun x hx => by
  have hx' : x ∈ s.effs ++ [e] := hx
  simp only [List.mem_append, List.mem_singleton] at hx'
  rcases hx' with hx' | rfl
  · exact h.effs x hx'
  · exact he⟩
theorem SS.pure.step_pure {R : Nat} {s : SS} (h : s.pure R) (t : Tac) : (s.step t).pure R := by
  have hg := fun z => tget_pure h.regs z
  have hp := fun (z : Int) (t : Tm) (ht : t.pure R) => h.put_pure z ht
  unfold SS.step
  cases t.op == 1 with
  | true => exact hp _ (.cst t.n) trivial
  | false =>
  cases t.op == 2 with
  | true => exact hp _ _ (hg _)
  | false =>
  cases t.op == 3 with
  | true =>
    have hd : (s.div t).pure R := by
      unfold SS.div
      cases trisky t.k (tget s.regs t.b) with
      | true => exact h.eff_pure ⟨hg _, hg _⟩
      | false => exact h
    exact hd.put_pure _ (tfold_pure (hg _) (hg _))
  | false =>
  cases t.op == 4 with
  | true => exact hp _ (.ld t.base s.time) trivial
  | false =>
  cases t.op == 5 with
  | true => exact ⟨(h.eff_pure (e := ⟨false, 5, 0, t.base, 0, some (tget s.regs t.a), none⟩) ⟨hg _, trivial⟩).regs, (h.eff_pure (e := ⟨false, 5, 0, t.base, 0, some (tget s.regs t.a), none⟩) ⟨hg _, trivial⟩).effs⟩
  | false =>
  cases t.op == 6 with
  | true => exact (h.eff_pure (e := ⟨false, 6, 0, t.base, t.size, some (tget s.regs t.a), none⟩) ⟨hg _, trivial⟩).put_pure _ (t := .unk s.effs.length) trivial
  | false =>
  cases t.op == 7 with
  | true => exact ⟨(h.eff_pure (e := ⟨false, 7, 0, t.base, t.size, some (tget s.regs t.a), some (tget s.regs t.b)⟩) ⟨hg _, hg _⟩).regs, (h.eff_pure (e := ⟨false, 7, 0, t.base, t.size, some (tget s.regs t.a), some (tget s.regs t.b)⟩) ⟨hg _, hg _⟩).effs⟩
  | false =>
  cases t.op == 8 with
  | true => exact (h.eff_pure (e := ⟨false, 8, 0, 0, 0, none, none⟩) ⟨trivial, trivial⟩).put_pure _ (t := .unk s.effs.length) trivial
  | false =>
  cases t.op == 9 with
  | true => exact h.eff_pure ⟨hg _, trivial⟩
  | false => exact ⟨(h.eff_pure (e := ⟨false, 10, 0, t.base, 0, none, none⟩) ⟨trivial, trivial⟩).regs, (h.eff_pure (e := ⟨false, 10, 0, t.base, 0, none, none⟩) ⟨trivial, trivial⟩).effs⟩
theorem srun_pure (R : Nat) (l : List Tac) : (srun (symR R) l).pure R := by
  unfold srun
  have h0 : (⟨symR R, [], 0⟩ : SS).pure R := ⟨fun t ht => by
    simp only [symR, List.mem_map, List.mem_range] at ht
    obtain ⟨v, hv, rfl⟩ := ht
    exact hv, fun e he => by simp at he⟩
  generalize (⟨symR R, [], 0⟩ : SS) = s at *
  induction l generalizing s with
  | nil => exact h0
  | cons t l ih => exact ih _ (h0.step_pure t)
def gsame (R : Nat) (x y : Block) (c : Cert) (i : Int) (next : List Int) : Prop :=
  (srun (symR R) x.ins).effs = (srun (symR R) y.ins).effs ∧ (∀ e ∈ (srun (symR R) y.ins).effs, e.inR (c.at' i)) ∧
  (x.fin = 2 → tget (srun (symR R) x.ins).regs x.v = tget (srun (symR R) y.ins).regs y.v ∧ (tget (srun (symR R) y.ins).regs y.v).inR (c.at' i)) ∧
  ∀ k ∈ next, ∀ j : Nat, (c.at' k)[j]? = some true → tget (srun (symR R) x.ins).regs (j : Int) = tget (srun (symR R) y.ins).regs (j : Int) ∧ (tget (srun (symR R) y.ins).regs (j : Int)).inR (c.at' i)
theorem tagree_iff {x y : List Tm} {row : List Bool} : tagree x y row = true ↔ ∀ j : Nat, row[j]? = some true → tget x (j : Int) = tget y (j : Int) := by
  unfold tagree
  rw [List.all_eq_true]
  constructor
  · intro h j hb
    have := h (true, j) (List.mem_of_getElem? (zipIdx_get hb))
    simpa using this
  · rintro h ⟨b, j⟩ hp
    obtain ⟨i, hi⟩ := List.mem_iff_getElem?.1 hp
    rw [List.getElem?_zipIdx, Option.map_eq_some_iff] at hi
    obtain ⟨b', hb', e⟩ := hi
    simp only [Nat.zero_add, Prod.mk.injEq] at e
    obtain ⟨rfl, rfl⟩ := e
    cases b' with
    | false => rfl
    | true => simpa using h _ hb'
theorem tsame_iff {R : Nat} {x y : Block} {c : Cert} {i : Int} {next : List Int} (hr : (c.at' i).length = R) : tsame R x y c i next = true ↔ gsame R x y c i next := by
  have hx := srun_pure R x.ins
  have hy := srun_pure R y.ins
  unfold tsame gsame
  rw [srun_ren, Bool.and_eq_true, Bool.and_eq_true, decide_eq_true_eq, List.all_eq_true]
  have h1 : (srun (symR R) x.ins).effs = ((srun (symR R) y.ins).ren (c.at' i)).effs ↔ _ := effs_ren hr hx.effs hy.effs
  rw [h1, and_assoc]
  refine and_congr_right fun _ => and_congr_right fun _ => ?_
  have h2 : ∀ z z', tget (srun (symR R) x.ins).regs z = tget ((srun (symR R) y.ins).ren (c.at' i)).regs z' ↔ tget (srun (symR R) x.ins).regs z = tget (srun (symR R) y.ins).regs z' ∧ (tget (srun (symR R) y.ins).regs z').inR (c.at' i) := fun z z' => by
    rw [show ((srun (symR R) y.ins).ren (c.at' i)).regs = (srun (symR R) y.ins).regs.map (Tm.ren (c.at' i)) from rfl, tget_ren]
    exact Tm.ren_iff hr (tget_pure hy.regs _) (tget_pure hx.regs _)
  refine and_congr ?_ (forall_congr' fun k => imp_congr_right fun _ => ?_)
  · rw [Bool.or_eq_true, decide_eq_true_eq, h2]
    by_cases hf : x.fin = 2
    · simp [hf]
    · simp [hf]
  · rw [tagree_iff]
    exact forall_congr' fun j => imp_congr_right fun _ => h2 _ _
structure GCheck (old new : BFunc) (c : Cert) : Prop where
  sh : vshaped old new = true
  len : c.same.length = old.blocks.length
  rows : ∀ r ∈ c.same, (r.length : Int) = old.regs
  b : ∀ (k : Nat) (x y : Block), old.blocks[k]? = some x → new.blocks[k]? = some y → gsame old.regs.toNat x y c (k : Int) x.nexts
theorem cert_row {c : Cert} {R : Nat} (h : ∀ r ∈ c.same, r.length = R) {k : Int} (hk : 0 ≤ k ∧ k < c.same.length) : (c.at' k).length = R := by
  obtain ⟨r, hr⟩ := get_of_lt (l := c.same) (k := k.toNat) (by omega)
  unfold Cert.at'
  rw [hr]
  exact h r (List.mem_of_getElem? hr)
theorem tcheck_iff {old new : BFunc} {c : Cert} : tcheck old new c = true ↔ GCheck old new c := by
  unfold tcheck
  simp only [Bool.and_eq_true, decide_eq_true_eq, List.all_eq_true]
  have key : vshaped old new = true → c.same.length = old.blocks.length → (∀ r ∈ c.same, (r.length : Int) = old.regs) → ∀ (k : Nat) (x : Block), old.blocks[k]? = some x → (c.at' (k : Int)).length = old.regs.toNat := fun hs hl hr k x hx => by
    have h0 := (stands_of (vshaped_of hs).so).r0
    have hk := (List.getElem?_eq_some_iff.1 hx).1
    exact cert_row (fun r h => by have := hr r h; omega) (by omega)
  constructor
  · rintro ⟨h1, h2, h3, h4⟩
    refine ⟨h1, h2, h3, fun k x y hx hy => ?_⟩
    unfold tblocks at h4
    rw [List.all_eq_true] at h4
    exact (tsame_iff (key h1 h2 h3 k x hx)).1 (h4 ((x, y), k) (List.mem_of_getElem? (zipIdx_get (zip_at hx hy))))
  · rintro ⟨h1, h2, h3, h4⟩
    refine ⟨h1, h2, h3, ?_⟩
    unfold tblocks
    rw [List.all_eq_true]
    rintro ⟨⟨x, y⟩, i⟩ hp
    obtain ⟨j, hj⟩ := List.mem_iff_getElem?.1 hp
    rw [List.getElem?_zipIdx, Option.map_eq_some_iff] at hj
    obtain ⟨q, hq, e⟩ := hj
    obtain ⟨x', y'⟩ := q
    simp only [Nat.zero_add, Prod.mk.injEq] at e
    obtain ⟨⟨rfl, rfl⟩, rfl⟩ := e
    rw [List.getElem?_zip_eq_some] at hq
    exact (tsame_iff (key h1 h2 h3 j x' hq.1)).2 (h4 j x' y' hq.1 hq.2)
theorem vcheck_iff {old new : BFunc} {c : Cert} (ho : old.words) (hn : new.words) : vcheck old new c = true ↔ GCheck old new c := by
  rw [(checks_t ho hn).1]; exact tcheck_iff
theorem vshaped_symm {old new : BFunc} (h : vshaped old new = true) : vshaped new old = true := by
  have hV := vshaped_of h
  refine vshaped_yes hV.regs.symm hV.len.symm hV.sn hV.so ?_
  rw [List.all_eq_true]
  rintro ⟨y, x⟩ hp
  obtain ⟨k, hk⟩ := List.mem_iff_getElem?.1 hp
  rw [List.getElem?_zip_eq_some] at hk
  obtain ⟨e1, e2, e3⟩ := hV.b k x y hk.2 hk.1
  simp [shapeB, e1, e2, e3]
theorem nexts_same {x y : Block} (h : x.fin = y.fin ∧ x.to = y.to ∧ x.els = y.els) : x.nexts = y.nexts := by
  unfold Block.nexts; rw [h.1, h.2.1, h.2.2]
theorem GCheck.symm {old new : BFunc} {c : Cert} (h : GCheck old new c) : GCheck new old c := by
  have hV := vshaped_of h.sh
  refine ⟨vshaped_symm h.sh, h.len.trans hV.len, fun r hr => by rw [← hV.regs]; exact h.rows r hr, fun k y x hy hx => ?_⟩
  have hb := hV.b k x y hx hy
  obtain ⟨g1, g2, g3, g4⟩ := h.b k x y hx hy
  rw [← hV.regs]
  refine ⟨g1.symm, by rw [g1]; exact g2, fun hf => ?_, fun q hq j hj => ?_⟩
  · obtain ⟨a1, a2⟩ := g3 (hb.1.trans hf)
    exact ⟨a1.symm, by rw [a1]; exact a2⟩
  · obtain ⟨a1, a2⟩ := g4 q (by rw [nexts_same hb]; exact hq) j hj
    exact ⟨a1.symm, by rw [a1]; exact a2⟩
def andC (c d : Cert) : Cert := ⟨(c.same.zip d.same).map fun p => (p.1.zip p.2).map fun q => q.1 && q.2⟩
theorem andC_at {c d : Cert} {k : Int} {j : Nat} (hk : 0 ≤ k ∧ k < c.same.length) (hl : c.same.length = d.same.length) : ((andC c d).at' k)[j]? = some true ↔ (c.at' k)[j]? = some true ∧ (d.at' k)[j]? = some true := by
  obtain ⟨r, hr⟩ := get_of_lt (l := c.same) (k := k.toNat) (by omega)
  obtain ⟨s, hs⟩ := get_of_lt (l := d.same) (k := k.toNat) (by omega)
  unfold Cert.at' andC
  rw [List.getElem?_map, zip_at hr hs, hr, hs]
  simp only [Option.map_some, Option.getD_some, List.getElem?_map]
  cases e1 : r[j]? with
  | none =>
    have : (r.zip s)[j]? = none := by
      rw [List.getElem?_eq_none_iff] at e1 ⊢
      rw [List.length_zip]; omega
    rw [this]; simp
  | some a =>
    cases e2 : s[j]? with
    | none =>
      have : (r.zip s)[j]? = none := by
        rw [List.getElem?_eq_none_iff] at e2 ⊢
        rw [List.length_zip]; omega
      rw [this]; simp
    | some b => rw [zip_at e1 e2]; simp
theorem Tm.inR_and {r s t : List Bool} (h : ∀ j : Nat, r[j]? = some true → s[j]? = some true → t[j]? = some true) : ∀ {x : Tm}, x.inR r → x.inR s → x.inR t
  | .old v, h1, h2 => h v h1 h2
  | .own _, h1, _ => h1.elim
  | .op _ a b, h1, h2 => ⟨Tm.inR_and h h1.1 h2.1, Tm.inR_and h h1.2 h2.2⟩
  | .cst _, _, _ => trivial
  | .ld _ _, _, _ => trivial
  | .unk _, _, _ => trivial
theorem oinR_and {r s t : List Bool} (h : ∀ j : Nat, r[j]? = some true → s[j]? = some true → t[j]? = some true) {x : Option Tm} (h1 : oinR r x) (h2 : oinR s x) : oinR t x := by
  cases x with
  | none => trivial
  | some x => exact Tm.inR_and h h1 h2
theorem vshaped_trans {a b c : BFunc} (h1 : vshaped a b = true) (h2 : vshaped b c = true) : vshaped a c = true := by
  have hV := vshaped_of h1
  have hW := vshaped_of h2
  refine vshaped_yes (hV.regs.trans hW.regs) (hV.len.trans hW.len) hV.so hW.sn ?_
  rw [List.all_eq_true]
  rintro ⟨x, z⟩ hp
  obtain ⟨k, hk⟩ := List.mem_iff_getElem?.1 hp
  rw [List.getElem?_zip_eq_some] at hk
  obtain ⟨y, hy⟩ := get_of_lt (l := b.blocks) (k := k) (by rw [← hV.len]; exact (List.getElem?_eq_some_iff.1 hk.1).1)
  obtain ⟨e1, e2, e3⟩ := hV.b k x y hk.1 hy
  obtain ⟨f1, f2, f3⟩ := hW.b k y z hy hk.2
  simp [shapeB, e1, e2, e3, f1, f2, f3]
theorem GCheck.trans {a b c : BFunc} {e f : Cert} (h1 : GCheck a b e) (h2 : GCheck b c f) : GCheck a c (andC e f) := by
  have hV := vshaped_of h1.sh
  have hW := vshaped_of h2.sh
  have hS := stands_of hV.so
  have hll : e.same.length = f.same.length := by rw [h1.len, h2.len, hV.len]
  refine ⟨vshaped_trans h1.sh h2.sh, by simp [andC, hll, h2.len, hV.len], fun r hr => ?_, fun k x z hx hz => ?_⟩
  · simp only [andC, List.mem_map] at hr
    obtain ⟨⟨p, q⟩, hpq, rfl⟩ := hr
    have hp := h1.rows p (List.of_mem_zip hpq).1
    have hq := h2.rows q (List.of_mem_zip hpq).2
    rw [← hV.regs] at hq
    simp only [List.length_map, List.length_zip]
    omega
  · have hk := (List.getElem?_eq_some_iff.1 hx).1
    obtain ⟨y, hy⟩ := get_of_lt (l := b.blocks) (k := k) (by rw [← hV.len]; exact hk)
    have hb := hV.b k x y hx hy
    obtain ⟨g1, g2, g3, g4⟩ := h1.b k x y hx hy
    have hq := h2.b k y z hy hz
    rw [← hV.regs] at hq
    obtain ⟨q1, q2, q3, q4⟩ := hq
    have hkk : 0 ≤ (k : Int) ∧ (k : Int) < e.same.length := by rw [h1.len]; omega
    have hand : ∀ j, (e.at' (k : Int))[j]? = some true → (f.at' (k : Int))[j]? = some true → ((andC e f).at' (k : Int))[j]? = some true := fun j u v => (andC_at hkk hll).2 ⟨u, v⟩
    refine ⟨g1.trans q1, fun s hs => ?_, fun hf => ?_, fun m hm j hj => ?_⟩
    · have u1 := g2 s (by rw [q1]; exact hs)
      have u2 := q2 s hs
      exact ⟨oinR_and hand u1.1 u2.1, oinR_and hand u1.2 u2.2⟩
    · obtain ⟨u1, u2⟩ := g3 hf
      obtain ⟨w1, w2⟩ := q3 (hb.1.symm.trans hf)
      exact ⟨u1.trans w1, Tm.inR_and hand (by rw [← w1]; exact u2) w2⟩
    · have hmr := hS.next x (List.mem_of_getElem? hx) m hm
      obtain ⟨j1, j2⟩ := (andC_at (by rw [h1.len]; exact hmr) hll).1 hj
      obtain ⟨u1, u2⟩ := g4 m hm j j1
      obtain ⟨w1, w2⟩ := q4 m (by rw [← nexts_same hb]; exact hm) j j2
      exact ⟨u1.trans w1, Tm.inR_and hand (by rw [← w1]; exact u2) w2⟩
theorem Tm.inR_all {R : Nat} : ∀ {x : Tm}, x.pure R → x.inR (List.replicate R true)
  | .old v, h => by
    show (List.replicate R true)[v]? = some true
    rw [List.getElem?_replicate]; exact if_pos h
  | .own _, h => h.elim
  | .op _ a b, h => ⟨Tm.inR_all h.1, Tm.inR_all h.2⟩
  | .cst _, _ => trivial
  | .ld _ _, _ => trivial
  | .unk _, _ => trivial
theorem oinR_all {R : Nat} {x : Option Tm} (h : opure R x) : oinR (List.replicate R true) x := by
  cases x with
  | none => trivial
  | some x => exact Tm.inR_all h
theorem vshaped_refl {f : BFunc} (h : f.stands = true) : vshaped f f = true := by
  refine vshaped_yes rfl rfl h h ?_
  rw [List.all_eq_true]
  rintro ⟨x, y⟩ hp
  obtain ⟨k, hk⟩ := List.mem_iff_getElem?.1 hp
  rw [List.getElem?_zip_eq_some] at hk
  have : x = y := Option.some.inj (hk.1.symm.trans hk.2)
  subst this
  simp [shapeB]
theorem weak_at {f : BFunc} {k : Int} (hk : 0 ≤ k ∧ k < f.blocks.length) : (vweak f).at' k = List.replicate f.regs.toNat true := by
  unfold Cert.at' vweak
  rw [List.getElem?_replicate, if_pos (by omega)]; rfl
theorem GCheck.self {f : BFunc} (h : f.stands = true) : GCheck f f (vweak f) := by
  have hS := stands_of h
  refine ⟨vshaped_refl h, by simp [vweak], fun r hr => ?_, fun k x y hx hy => ?_⟩
  · rw [List.eq_of_mem_replicate hr]
    have := hS.r0
    simp
    omega
  · have : x = y := Option.some.inj (hx.symm.trans hy)
    subst this
    have hk := (List.getElem?_eq_some_iff.1 hx).1
    have hp := srun_pure f.regs.toNat x.ins
    rw [gsame, weak_at (k := (k : Int)) (by omega)]
    refine ⟨rfl, fun e he => ⟨oinR_all (hp.effs e he).1, oinR_all (hp.effs e he).2⟩, fun _ => ⟨rfl, Tm.inR_all (tget_pure hp.regs _)⟩, fun q _ j _ => ⟨rfl, Tm.inR_all (tget_pure hp.regs _)⟩⟩
end Go.Proofs.Ytpijoieooikfgaa.Sv

namespace Go.Proofs.Ytpijoieooikfgaa.Sv
open Go
theorem words_of {f : BFunc} {n : Nat} (h : ∀ x ∈ f.blocks, x.ins.length ≤ n ∧ insW x.ins) : f.words := fun x hx => (h x hx).2
theorem row_pure (l : List (List Bool)) : ∀ cs ∈ l.map rowCell, cs.all AV.isPure1 = true := fun cs hc => by
  obtain ⟨r, _, rfl⟩ := List.mem_map.1 hc
  have : boolsAV r = .lst false (r.map fun b => [.bool b]) := rfl
  simp [rowCell, this, AV.isPure1, AV.isPure]
theorem sl1_avoid {k : Nat → Bool} {b : Nat} (es : List (List AV)) (h1 : k b = true) : (AObj.row false 1 [[slA b es]]).avoid k = true := by
  have h := slA_avoid es h1
  simp only [AObj.avoid, List.all_cons, List.all_nil, Bool.and_true]
  exact h
theorem check_sized {f g : BFunc} {c : Cert} (hf : f.words) (hg : g.words) (h : vcheck f g c = true) : rsized f c = true := by
  have hG := (vcheck_iff hf hg).1 h
  exact rsized_yes hG.len (by rw [List.all_eq_true]; exact fun r hr => by simpa using hG.rows r hr)
theorem Ghost.endSl {n : Nat} {e : AEnv} {h : AHeap} (b0 b : Nat) {sz : Nat} {es : List (List AV)} (hb0 : h b0 = some (.row false 1 [[slA b es]])) (hb : h b = some (slO sz es)) (hne : b0 ≠ b) :
    Ghost ⟨n, e, h⟩ ⟨n, e, hput (hrm h b) b0 (.row false 1 [[.lst false es]])⟩ := by
  cases hes : es.isEmpty with
  | false =>
    have e1 : slA b es = .ref b es.length 0 es.length := by simp [slA, hes, jAV]
    have e2 : slO sz es = .row true sz es := by simp [slO, hes, jObj]
    rw [e1] at hb0
    rw [e2] at hb
    have := Ghost.freezeCell (n := n) (e := e) b0 0 0 b hb0 rfl rfl hb rfl hne
    rw [List.drop_zero, List.take_length] at this
    exact this
  | true =>
    have e1 : es = [] := List.isEmpty_iff.1 hes
    subst e1
    refine (Ghost.weakRowF b0 (es' := [[.lst false []]]) hb0 rfl (fun i cs cs' h1 h2 => ?_)).trans (.of_sub ⟨rfl, fun _ _ h => h, fun c x hx => ?_⟩)
    · cases i with
      | succ i => simp at h1
      | zero =>
        simp only [List.getElem?_cons_zero, Option.some.injEq] at h1 h2
        subst h1; subst h2
        refine ⟨rfl, fun j x y hx hy => ?_⟩
        cases j with
        | succ j => simp at hx
        | zero =>
          simp only [List.getElem?_cons_zero, Option.some.injEq] at hx hy
          subst hx; subst hy
          exact ⟨fun _ => rfl, fun H ι v hv => rel_unex hv⟩
    · by_cases hc : c = b0
      · subst hc
        have : hput (hrm h b) c (.row false 1 [[.lst false []]]) c = some x := hx
        rw [hput_same] at this; cases this
        exact hput_same _ _ _
      · have h1 : hput (hrm h b) b0 (.row false 1 [[.lst false []]]) c = some x := hx
        rw [hput_ne _ _ hc] at h1
        show hput h b0 _ c = some x
        rw [hput_ne _ _ hc]
        by_cases hcb : c = b
        · subst hcb; rw [hrm_same] at h1; cases h1
        · rwa [hrm_ne _ hcb] at h1
end Go.Proofs.Ytpijoieooikfgaa.Sv

namespace Go.Proofs.Ytpijoieooikfgaa.Sv
open Go
structure Mach.Le (m m' : Mach) : Prop where
  words : m'.words = m.words
  out : m'.out = m.out
  read : m'.read = m.read
  fin : m'.fin = m.fin
  steps : m'.steps ≤ m.steps
def Mach.Sim (x y : Mach) : Prop := x.fin = 5 ∨ x.Le y
theorem Mach.Le.refl (m : Mach) : m.Le m := ⟨rfl, rfl, rfl, rfl, Nat.le_refl _⟩
theorem Mach.Le.put {m m' : Mach} (h : m.Le m') (w : List Int) (o : List UInt8) (r : Nat) (f : Int) : Mach.Le ⟨w, o, r, m.steps, f⟩ ⟨w, o, r, m'.steps, f⟩ := ⟨rfl, rfl, rfl, rfl, h.steps⟩
section
variable {call call' : Int → Mach → Mach} {s : ByteArray} {fuel : Int}
end
end Go.Proofs.Ytpijoieooikfgaa.Sv

namespace Go.Proofs.Ytpijoieooikfgaa.Sv
open Go
structure Core where
  words : List Int
  out : List UInt8
  read : Nat
def Mach.core (m : Mach) : Core := ⟨m.words, m.out, m.read⟩
structure EH where
  mems : List (List Int)
  unks : List Int
  core : Core
def ev (ρ : List Int) (h : EH) : Tm → Int
  | .old v => rget ρ (v : Int)
  | .own _ => 0
  | .cst n => n
  | .op k a b => (wapp k (ev ρ h a) (ev ρ h b)).1
  | .ld b τ => rget ((h.mems[τ.toNat]?).getD []) b
  | .unk n => (h.unks[n]?).getD 0
def Tm.sc (n m : Nat) : Tm → Prop
  | .op _ a b => a.sc n m ∧ b.sc n m
  | .ld _ τ => τ.toNat < m
  | .unk k => k < n
  | _ => True
structure EH.Ext (h h' : EH) : Prop where
  mems : ∃ l, h'.mems = h.mems ++ l
  unks : ∃ l, h'.unks = h.unks ++ l
theorem EH.Ext.refl (h : EH) : h.Ext h := ⟨⟨[], by simp⟩, ⟨[], by simp⟩⟩
theorem Tm.sc_mono {n m n' m' : Nat} (hn : n ≤ n') (hm : m ≤ m') : ∀ {t : Tm}, t.sc n m → t.sc n' m'
  | .op _ a b, h => ⟨Tm.sc_mono hn hm h.1, Tm.sc_mono hn hm h.2⟩
  | .ld _ τ, h => Nat.lt_of_lt_of_le (show τ.toNat < m from h) hm
  | .unk k, h => Nat.lt_of_lt_of_le (show k < n from h) hn
  | .old _, _ => trivial
  | .own _, _ => trivial
  | .cst _, _ => trivial
theorem ev_ext {ρ : List Int} {h h' : EH} (hx : h.Ext h') : ∀ {t : Tm}, t.sc h.unks.length h.mems.length → ev ρ h' t = ev ρ h t
  | .op k a b, hs => by
    show (wapp k (ev ρ h' a) (ev ρ h' b)).1 = _
    rw [ev_ext hx hs.1, ev_ext hx hs.2]; rfl
  | .ld b τ, hs => by
    obtain ⟨l, hl⟩ := hx.mems
    show rget ((h'.mems[τ.toNat]?).getD []) b = rget ((h.mems[τ.toNat]?).getD []) b
    rw [hl, List.getElem?_append_left hs]
  | .unk k, hs => by
    obtain ⟨l, hl⟩ := hx.unks
    show (h'.unks[k]?).getD 0 = (h.unks[k]?).getD 0
    rw [hl, List.getElem?_append_left hs]
  | .old _, _ => rfl
  | .own _, _ => rfl
  | .cst _, _ => rfl
inductive Res where
  | ok (h : EH)
  | stop (f : Int) (c : Core)
def EH.no (h : EH) (c : Core) (u : Int) : EH := ⟨h.mems, h.unks ++ [u], c⟩
theorem EH.ext_no (h : EH) (c : Core) (u : Int) : h.Ext (h.no c u) := ⟨⟨[], by simp [EH.no]⟩, ⟨[u], rfl⟩⟩
section
variable (call : Int → Mach → Mach) (s : ByteArray) (ρ : List Int)
end
section
variable {call call' : Int → Mach → Mach} {s : ByteArray} {ρ ρ' : List Int}
def Res.fuel : Res → Prop
  | .stop f _ => f = 5
  | _ => False
end
structure Inv (ρ : List Int) (S : SS) (regs : List Int) (m : Mach) (h : EH) : Prop where
  len : regs.length = S.regs.length
  reg : ∀ z, rget regs z = ev ρ h (tget S.regs z)
  sc : ∀ t ∈ S.regs, t.sc h.unks.length h.mems.length
  core : h.core = m.core
  un : h.unks.length = S.effs.length
  tm : 0 ≤ S.time ∧ h.mems.length = S.time.toNat + 1
  mem : h.mems[S.time.toNat]? = some m.words
  fin : m.fin = 0
theorem tget_sc {n m : Nat} {l : List Tm} (h : ∀ t ∈ l, t.sc n m) (z : Int) : (tget l z).sc n m := by
  unfold tget
  cases e : l[z.toNat]? with
  | none => exact trivial
  | some t => exact h t (List.mem_of_getElem? e)
theorem get_set {α : Type} (l : List α) (a b : Nat) (v d : α) : ((l.set a v)[b]?).getD d = if a = b ∧ a < l.length then v else (l[b]?).getD d := by
  by_cases h : a = b
  · subst h
    by_cases hl : a < l.length
    · rw [List.getElem?_set_self hl, if_pos ⟨rfl, hl⟩]; rfl
    · rw [if_neg (by intro h; exact hl h.2), List.set_eq_of_length_le (by omega)]
  · rw [List.getElem?_set_ne h, if_neg (by intro g; exact h g.1)]
section
variable {ρ : List Int} {S : SS} {regs : List Int} {m : Mach} {h : EH}
theorem Inv.put (hI : Inv ρ S regs m h) (d : Int) {t : Tm} {v : Int} (ht : t.sc h.unks.length h.mems.length) (hv : v = ev ρ h t) : Inv ρ (S.put d t) (rset regs d v) m h := by
  refine ⟨by simp [rset, SS.put, tset, hI.len], fun z => ?_, fun x hx => ?_, hI.core, hI.un, hI.tm, hI.mem, hI.fin⟩
  · have h1 := hI.reg z
    show ((regs.set d.toNat v)[z.toNat]?).getD 0 = ev ρ h (((S.regs.set d.toNat t)[z.toNat]?).getD (.cst 0))
    rw [get_set, get_set, hI.len]
    split
    · exact hv
    · exact h1
  · have hx' : x ∈ S.regs.set d.toNat t := hx
    rcases List.mem_or_eq_of_mem_set hx' with hx | rfl
    · exact hI.sc x hx
    · exact ht
theorem Inv.no (hI : Inv ρ S regs m h) (e : SE) {c : Core} (u : Int) {m1 : Mach} (hm : m1.core = c) (hf : m1.fin = 0) (hw : c.words = m.words) : Inv ρ (S.eff e) regs m1 (h.no c u) := by
  refine ⟨hI.len, fun z => ?_, fun x hx => ?_, hm.symm, ?_, hI.tm, ?_, hf⟩
  · rw [hI.reg z]; exact (ev_ext (h.ext_no c u) (tget_sc hI.sc z)).symm
  · exact Tm.sc_mono (by simp [EH.no]) (Nat.le_refl _) (hI.sc x hx)
  · show (h.unks ++ [u]).length = (S.effs ++ [e]).length
    simp [hI.un]
  · show h.mems[S.time.toNat]? = some m1.words
    rw [hI.mem, ← hw, ← hm]; rfl
end
end Go.Proofs.Ytpijoieooikfgaa.Sv

namespace Go.Proofs.Ytpijoieooikfgaa.Sv
open Go
section
variable {call call' : Int → Mach → Mach} {s : ByteArray} {ρ : List Int}
end
theorem Inv.steps {ρ : List Int} {S : SS} {regs : List Int} {m m' : Mach} {h : EH} (hI : Inv ρ S regs m h) (hc : m'.core = m.core) (hf : m'.fin = 0) : Inv ρ S regs m' h :=
  ⟨hI.len, hI.reg, hI.sc, hI.core.trans hc.symm, hI.un, hI.tm, by rw [hI.mem]; exact congrArg (fun c : Core => some c.words) hc.symm, hf⟩
end Go.Proofs.Ytpijoieooikfgaa.Sv

namespace Go.Proofs.Ytpijoieooikfgaa.Sv
open Go
section
variable {call call' : Int → Mach → Mach} {s : ByteArray} {fuel fuel' : Int}
end
def insT (l : List Tac) : Prop := ∀ t ∈ l, (1 ≤ t.op ∧ t.op ≤ 10) ∧ (t.op = 3 → 4 ≤ t.k ∧ t.k ≤ 15)
end Go.Proofs.Ytpijoieooikfgaa.Sv

namespace Go.Proofs.Ytpijoieooikfgaa.Sv
open Go
def BFunc.tops (f : BFunc) : Prop := ∀ x ∈ f.blocks, insT x.ins
structure Checked2 (old new : BFunc) (c : Cert) : Prop where
  g : GCheck old new c
  so : Standing old
  sn : Standing new
  to : old.tops
  tn : new.tops
section
variable {call call' : Int → Mach → Mach} {s : ByteArray} {fuel fuel' : Int} {old new : BFunc} {c : Cert} {ok : Int → Prop}
end
end Go.Proofs.Ytpijoieooikfgaa.Sv

namespace Go.Proofs.Ytpijoieooikfgaa.Sv
open Go
section
variable {call call' : Int → Mach → Mach} {s : ByteArray} {fuel fuel' : Int}
variable {old new : BFunc} {c : Cert} {ok : Int → Prop}
end
end Go.Proofs.Ytpijoieooikfgaa.Sv

namespace Go.Proofs.Ytpijoieooikfgaa.Sv
open Go
def moreR (f : BFunc) : BFunc := ⟨f.regs + 1, f.blocks⟩
def extC (b : Bool) (c : Cert) : Cert := ⟨c.same.map fun r => r ++ [b]⟩
theorem within_more {z n : Int} (h : within z n = true) : within z (n + 1) = true := by
  simp only [within, Bool.and_eq_true, decide_eq_true_eq] at h ⊢; omega
theorem ends_more {x : Block} {n r : Int} (h : x.ends n r = true) : x.ends n (r + 1) = true := by
  unfold Block.ends at h ⊢
  cases e1 : x.fin == 1 with
  | true => rw [e1] at h; exact h
  | false =>
    cases e2 : x.fin == 2 with
    | false => rw [e1, e2] at h; exact h
    | true =>
      rw [e1, e2] at h
      simp only [cond_true, cond_false, Bool.and_eq_true] at h ⊢
      exact ⟨h.1, h.2.1, within_more h.2.2⟩
theorem fits_more {t : Tac} {f r w : Int} (h : t.fits f r w = true) : t.fits f (r + 1) w = true := by
  simp only [Tac.fits, Bool.and_eq_true, List.all_eq_true] at h ⊢
  refine ⟨h.1, h.2.1, ?_, fun u hu => within_more (h.2.2.2.1 u hu), h.2.2.2.2⟩
  have h3 := h.2.2.1
  rw [Bool.or_eq_true] at h3 ⊢
  exact h3.imp_right within_more
theorem stands_more {f : BFunc} (h : f.stands = true) (hr : f.regs ≤ 3999) : (moreR f).stands = true := by
  unfold BFunc.stands at h ⊢
  rw [Bool.and_eq_true] at h ⊢
  refine ⟨h.1, ?_⟩
  have h2 := h.2
  simp only [Blocks.right, Bool.and_eq_true, decide_eq_true_eq, List.all_eq_true] at h2 ⊢
  refine ⟨h2.1, h2.2.1, rfl, fun p hp => ?_⟩
  have hp' : p = ((moreR f).bare, 0) := by simpa using hp
  subst hp'
  have h3 := h2.2.2.2 (f.bare, 0) (by simp)
  simp only [BFunc.one, Bool.and_eq_true, decide_eq_true_eq, List.all_eq_true] at h3 ⊢
  obtain ⟨a1, a2, a3, a4⟩ := h3
  have e1 : (moreR f).bare.regs = f.bare.regs + 1 := rfl
  have e2 : f.bare.regs = f.regs := rfl
  have e3 : (moreR f).bare.blocks = f.bare.blocks := rfl
  refine ⟨by rw [e1]; omega, by rw [e1, e2]; omega, a3, fun x hx => ?_⟩
  have h4 := a4 x hx
  rw [e1, e3]
  unfold Block.ok at h4 ⊢
  rw [Bool.and_eq_true, List.all_eq_true] at h4 ⊢
  exact ⟨ends_more h4.1, fun t ht => fits_more (h4.2 t ht)⟩
theorem vshaped_more {f g : BFunc} (h : vshaped f g = true) (hr : f.regs ≤ 3999) : vshaped (moreR f) (moreR g) = true := by
  have hV := vshaped_of h
  refine vshaped_yes (by show f.regs + 1 = g.regs + 1; rw [hV.regs]) hV.len (stands_more hV.so hr) (stands_more hV.sn (by rw [← hV.regs]; exact hr)) ?_
  rw [List.all_eq_true]
  rintro ⟨x, y⟩ hp
  obtain ⟨k, hk⟩ := List.mem_iff_getElem?.1 hp
  rw [List.getElem?_zip_eq_some] at hk
  obtain ⟨e1, e2, e3⟩ := hV.b k x y hk.1 hk.2
  simp [shapeB, e1, e2, e3]
def SS.more (R : Nat) (s : SS) : SS := ⟨s.regs ++ [.old R], s.effs, s.time⟩
theorem tget_more {l : List Tm} {z : Int} (hz : 0 ≤ z ∧ z < l.length) (u : Tm) : tget (l ++ [u]) z = tget l z := by
  unfold tget; rw [List.getElem?_append_left (by omega)]
theorem tset_more {l : List Tm} {z : Int} (hz : 0 ≤ z ∧ z < l.length) (u v : Tm) : tset (l ++ [u]) z v = tset l z v ++ [u] := by
  unfold tset; rw [List.set_append, if_pos (by omega)]
theorem put_more {s : SS} {R : Nat} (hl : s.regs.length = R) {z : Int} (hz : 0 ≤ z ∧ z < R) (v : Tm) : (s.more R).put z v = (s.put z v).more R := by
  simp only [SS.put, SS.more]
  rw [tset_more (by rw [hl]; exact hz)]
theorem eff_more (s : SS) (R : Nat) (e : SE) : (s.more R).eff e = (s.eff e).more R := rfl
theorem step_more {s : SS} {R : Nat} (hl : s.regs.length = R) {t : Tac} (ht : TacV t R) (hop : 1 ≤ t.op ∧ t.op ≤ 10) : (s.more R).step t = (s.step t).more R := by
  have ga : (use1 t.op = true ∨ use2 t.op = true) → tget (s.more R).regs t.a = tget s.regs t.a := fun h => tget_more (by rw [hl]; exact ht.a h) _
  have gb : use2 t.op = true → tget (s.more R).regs t.b = tget s.regs t.b := fun h => tget_more (by rw [hl]; exact ht.b h) _
  have st : ∀ u : SS, ∀ k : Int, t.op = k → u.step t = u.step t := fun _ _ _ => rfl
  by_cases h1 : t.op = 1
  · have e : ∀ u : SS, u.step t = u.put t.d (.cst t.n) := fun u => by unfold SS.step; rw [h1]; rfl
    rw [e, e, put_more hl (ht.d (by rw [h1]; rfl))]
  by_cases h2 : t.op = 2
  · have e : ∀ u : SS, u.step t = u.put t.d (tget u.regs t.a) := fun u => by unfold SS.step; rw [h2]; rfl
    rw [e, e, ga (.inl (by rw [h2]; rfl)), put_more hl (ht.d (by rw [h2]; rfl))]
  by_cases h3 : t.op = 3
  · have e : ∀ u : SS, u.step t = u.bin t := fun u => by unfold SS.step; rw [h3]; rfl
    have a1 := ga (.inr (by rw [h3]; rfl))
    have b1 := gb (by rw [h3]; rfl)
    have hd : (s.more R).div t = (s.div t).more R := by
      unfold SS.div
      rw [a1, b1]
      cases trisky t.k (tget s.regs t.b) <;> rfl
    have hdl : (s.div t).regs.length = R := by
      unfold SS.div
      cases trisky t.k (tget s.regs t.b) <;> exact hl
    rw [e, e]
    unfold SS.bin
    rw [hd, a1, b1, put_more hdl (ht.d (by rw [h3]; rfl))]
  by_cases h4 : t.op = 4
  · have e : ∀ u : SS, u.step t = u.put t.d (.ld t.base u.time) := fun u => by unfold SS.step; rw [h4]; rfl
    rw [e, e, show (s.more R).time = s.time from rfl, put_more hl (ht.d (by rw [h4]; rfl))]
  by_cases h5 : t.op = 5
  · have e : ∀ u : SS, u.step t = (u.eff ⟨false, 5, 0, t.base, 0, some (tget u.regs t.a), none⟩).tick := fun u => by unfold SS.step; rw [h5]; rfl
    rw [e, e, ga (.inl (by rw [h5]; rfl))]; rfl
  by_cases h6 : t.op = 6
  · have e : ∀ u : SS, u.step t = u.get t ⟨false, 6, 0, t.base, t.size, some (tget u.regs t.a), none⟩ := fun u => by unfold SS.step; rw [h6]; rfl
    rw [e, e, ga (.inl (by rw [h6]; rfl))]
    unfold SS.get
    rw [eff_more, put_more (s := s.eff _) hl (ht.d (by rw [h6]; rfl))]; rfl
  by_cases h7 : t.op = 7
  · have e : ∀ u : SS, u.step t = (u.eff ⟨false, 7, 0, t.base, t.size, some (tget u.regs t.a), some (tget u.regs t.b)⟩).tick := fun u => by unfold SS.step; rw [h7]; rfl
    rw [e, e, ga (.inr (by rw [h7]; rfl)), gb (by rw [h7]; rfl)]; rfl
  by_cases h8 : t.op = 8
  · have e : ∀ u : SS, u.step t = u.get t ⟨false, 8, 0, 0, 0, none, none⟩ := fun u => by unfold SS.step; rw [h8]; rfl
    rw [e, e]
    unfold SS.get
    rw [eff_more, put_more (s := s.eff _) hl (ht.d (by rw [h8]; rfl))]; rfl
  by_cases h9 : t.op = 9
  · have e : ∀ u : SS, u.step t = u.eff ⟨false, 9, 0, 0, 0, some (tget u.regs t.a), none⟩ := fun u => by unfold SS.step; rw [h9]; rfl
    rw [e, e, ga (.inl (by rw [h9]; rfl))]; rfl
  have h10 : t.op = 10 := by omega
  have e : ∀ u : SS, u.step t = (u.eff ⟨false, 10, 0, t.base, 0, none, none⟩).tick := fun u => by unfold SS.step; rw [h10]; rfl
  rw [e, e]; rfl
theorem foldl_more {R : Nat} : ∀ (l : List Tac), (∀ t ∈ l, TacV t R ∧ 1 ≤ t.op ∧ t.op ≤ 10) → ∀ s : SS, s.regs.length = R → l.foldl SS.step (s.more R) = (l.foldl SS.step s).more R
  | [], _, s, _ => rfl
  | t :: l, hl, s, hs => by
    rw [List.foldl_cons, List.foldl_cons, step_more hs (hl t (by simp)).1 (hl t (by simp)).2]
    exact foldl_more l (fun t h => hl t (by simp [h])) _ ((SS.step_len s t).trans hs)
theorem srun_more {R : Nat} {l : List Tac} (hl : ∀ t ∈ l, TacV t R ∧ 1 ≤ t.op ∧ t.op ≤ 10) : srun (symR (R + 1)) l = (srun (symR R) l).more R := by
  have e : (⟨symR (R + 1), [], 0⟩ : SS) = SS.more R ⟨symR R, [], 0⟩ := by
    simp [SS.more, symR, List.range_succ]
  unfold srun
  rw [e]
  exact foldl_more l hl _ (symR_len R)
theorem srun_len' {R : Nat} (l : List Tac) : (srun (symR R) l).regs.length = R := by
  have : ∀ (l : List Tac) (s : SS), (l.foldl SS.step s).regs.length = s.regs.length := by
    intro l
    induction l with
    | nil => exact fun s => rfl
    | cons t l ih => exact fun s => by rw [List.foldl_cons, ih, SS.step_len]
  unfold srun
  rw [this]; exact symR_len R
theorem Tm.inR_ext {row : List Bool} (b : Bool) : ∀ {t : Tm}, t.inR row → t.inR (row ++ [b])
  | .old v, h => by
    have h' : row[v]? = some true := h
    show (row ++ [b])[v]? = some true
    rw [List.getElem?_append_left (List.getElem?_eq_some_iff.1 h').1]; exact h'
  | .own _, h => h.elim
  | .op _ _ _, h => ⟨Tm.inR_ext b h.1, Tm.inR_ext b h.2⟩
  | .cst _, _ => trivial
  | .ld _ _, _ => trivial
  | .unk _, _ => trivial
theorem oinR_ext {row : List Bool} (b : Bool) {t : Option Tm} (h : oinR row t) : oinR (row ++ [b]) t := by
  cases t with
  | none => trivial
  | some t => exact Tm.inR_ext b h
theorem ext_at {c : Cert} {k : Int} (b : Bool) (hk : 0 ≤ k ∧ k < c.same.length) : (extC b c).at' k = c.at' k ++ [b] := by
  obtain ⟨r, hr⟩ := get_of_lt (l := c.same) (k := k.toNat) (by omega)
  unfold Cert.at' extC
  rw [List.getElem?_map, hr]; rfl
theorem GCheck.more {f g : BFunc} {c : Cert} (h : GCheck f g c) (hr : f.regs ≤ 3999) (hf : f.words) (hg : g.words) (b : Bool) : GCheck (moreR f) (moreR g) (extC b c) := by
  have hV := vshaped_of h.sh
  have hS := stands_of hV.so
  have hN := stands_of hV.sn
  have hR : (f.regs + 1).toNat = f.regs.toNat + 1 := by have := hS.r0; omega
  have hx' : ∀ (F : BFunc), F.stands = true → F.words → F.regs = f.regs → ∀ x ∈ F.blocks, ∀ t ∈ x.ins, TacV t f.regs.toNat ∧ 1 ≤ t.op ∧ t.op ≤ 10 := fun F h1 h2 h3 x hx t ht => by
    have := stands_tact h1 hx ht (h2 x hx t ht)
    rw [h3] at this
    exact ⟨this.toTacV, this.op⟩
  refine ⟨vshaped_more h.sh hr, by simp [extC, h.len, moreR], fun r hr' => ?_, fun k x y hx hy => ?_⟩
  · obtain ⟨q, hq, rfl⟩ := List.mem_map.1 hr'
    have := h.rows q hq
    show ((q ++ [b]).length : Int) = f.regs + 1
    rw [← this]; simp
  · have hkx : f.blocks[k]? = some x := hx
    have hky : g.blocks[k]? = some y := hy
    have hk := (List.getElem?_eq_some_iff.1 hkx).1
    have hxm := List.mem_of_getElem? hkx
    have hym := List.mem_of_getElem? hky
    obtain ⟨g1, g2, g3, g4⟩ := h.b k x y hkx hky
    have e1 := srun_more (hx' f hV.so hf rfl x hxm)
    have e2 := srun_more (hx' g hV.sn hg hV.regs.symm y hym)
    have hk0 : 0 ≤ (k : Int) ∧ (k : Int) < c.same.length := by rw [h.len]; omega
    have lx := srun_len' (R := f.regs.toNat) x.ins
    have ly := srun_len' (R := f.regs.toNat) y.ins
    have hrl : (c.at' (k : Int)).length = f.regs.toNat := cert_row (fun r h0 => by have := h.rows r h0; omega) hk0
    show gsame (f.regs + 1).toNat x y (extC b c) (k : Int) x.nexts
    rw [hR]
    unfold gsame
    rw [e1, e2, ext_at b hk0]
    refine ⟨g1, fun e he => ⟨oinR_ext b (g2 e he).1, oinR_ext b (g2 e he).2⟩, fun hf2 => ?_, fun q hq j hj => ?_⟩
    · obtain ⟨u1, u2⟩ := g3 hf2
      have hv := hS.v x hxm hf2
      have hvy := hN.v y hym ((hV.b k x y hkx hky).1.symm.trans hf2)
      have t1 : tget ((srun (symR f.regs.toNat) x.ins).more f.regs.toNat).regs x.v = tget (srun (symR f.regs.toNat) x.ins).regs x.v := tget_more (by rw [lx]; omega) _
      have t2 : tget ((srun (symR f.regs.toNat) y.ins).more f.regs.toNat).regs y.v = tget (srun (symR f.regs.toNat) y.ins).regs y.v := tget_more (by rw [ly]; have := hV.regs; omega) _
      rw [t1, t2]
      exact ⟨u1, Tm.inR_ext b u2⟩
    · have hqr := hS.next x hxm q hq
      have hq0 : 0 ≤ q ∧ q < c.same.length := by rw [h.len]; exact hqr
      have hql : (c.at' q).length = f.regs.toNat := cert_row (fun r h0 => by have := h.rows r h0; omega) hq0
      rw [ext_at b hq0] at hj
      by_cases hjr : j < f.regs.toNat
      · rw [List.getElem?_append_left (by omega)] at hj
        obtain ⟨u1, u2⟩ := g4 q hq j hj
        have t1 : tget ((srun (symR f.regs.toNat) x.ins).more f.regs.toNat).regs (j : Int) = tget (srun (symR f.regs.toNat) x.ins).regs (j : Int) := tget_more (by rw [lx]; omega) _
        have t2 : tget ((srun (symR f.regs.toNat) y.ins).more f.regs.toNat).regs (j : Int) = tget (srun (symR f.regs.toNat) y.ins).regs (j : Int) := tget_more (by rw [ly]; omega) _
        rw [t1, t2]
        exact ⟨u1, Tm.inR_ext b u2⟩
      · have hje : j = f.regs.toNat := by
          have := (List.getElem?_eq_some_iff.1 hj).1
          simp only [List.length_append, List.length_cons, List.length_nil] at this
          omega
        subst hje
        have hb : b = true := by
          rw [List.getElem?_append_right (by omega), hql, Nat.sub_self] at hj
          simpa using hj
        subst hb
        have tl : ∀ {l : List Tm} {n : Nat}, l.length = n → tget (l ++ [.old n]) (n : Int) = .old n := fun {l n} hl => by
          unfold tget
          rw [Int.toNat_natCast, List.getElem?_append_right (by omega), hl, Nat.sub_self]; rfl
        have t1 : tget ((srun (symR f.regs.toNat) x.ins).more f.regs.toNat).regs (f.regs.toNat : Int) = .old f.regs.toNat := tl lx
        have t2 : tget ((srun (symR f.regs.toNat) y.ins).more f.regs.toNat).regs (f.regs.toNat : Int) = .old f.regs.toNat := tl ly
        rw [t1, t2]
        refine ⟨rfl, ?_⟩
        show (c.at' (k : Int) ++ [true])[f.regs.toNat]? = some true
        rw [List.getElem?_append_right (by omega), hrl, Nat.sub_self]; rfl
theorem check_more {f g : BFunc} {c : Cert} (hf : f.words) (hg : g.words) (hr : f.regs ≤ 3999) (h : vcheck f g c = true) (b : Bool) : vcheck (moreR f) (moreR g) (extC b c) = true :=
  (vcheck_iff (old := moreR f) (new := moreR g) hf hg).2 (((vcheck_iff hf hg).1 h).more hr hf hg b)
end Go.Proofs.Ytpijoieooikfgaa.Sv

namespace Go.Proofs.Ytpijoieooikfgaa.Sv
open Go
section
variable {P : Program} {T : Nat → Option TyI} {o : Oper} {e : AEnv} {h : AHeap}
end
end Go.Proofs.Ytpijoieooikfgaa.Sv

namespace Go.Proofs.Ytpijoieooikfgaa.Sv
open Go
theorem bools_len (l : List Bool) : ∀ cs ∈ l.map (fun b => [AV.bool b]), cs.length = 1 := fun cs hc => by
  obtain ⟨f, _, rfl⟩ := List.mem_map.1 hc; rfl
theorem bools_pure (l : List Bool) : ∀ cs ∈ l.map (fun b => [AV.bool b]), cs.all AV.isPure1 = true := fun cs hc => by
  obtain ⟨f, _, rfl⟩ := List.mem_map.1 hc; rfl
end Go.Proofs.Ytpijoieooikfgaa.Sv

namespace Go.Proofs.Ytpijoieooikfgaa.Sv
open Go
def slP (sz : Nat) (es : List (List AV)) : AObj := bif es.isEmpty then .free else .row false sz es
section
variable {P : Program} {T : Nat → Option TyI} {o : Oper} {e : AEnv} {h : AHeap}
theorem o_append0 (hT : TOk P T) {t t' : TypeId} {x y : Operand} {i i' j : TyI} {u u' : Nat} {es2 : List (List AV)} {q : AV} {R : List Nat} (b : Nat)
    (ho : o.op = .call { callee := .builtin .append, args := #[x, y], argTypes := #[t, t'] }) (hx : look e x = some (.lst true [])) (hy : look e y = some q) (hi : T t = some i) (hk : i.k = .slice u) (hj : T u = some j) (hi' : T t' = some i') (hk' : i'.k = .slice u')
    (hb : h b = some .free) (hz : j.zero.length = j.size) (hp : 0 < j.size) (hsrc : SrcOf h q R es2) (hu2 : ∀ cs ∈ es2, cs.length = j.size) (hne : 0 < es2.length)
    (hby : es2.length * j.bytes ≤ 140737488355328) (hml : es2.length ≤ maxLen) :
    OLoc P o e h (b :: R) [(b, .row false j.size es2)] (some (.ref b es2.length 0 es2.length)) := by
  refine OLoc.of_new hb (by simp) hp fun H ι a w s hs g1 g2 => ?_
  have hx' : look s.env x = some (.lst true []) := by rw [g1 x (by rw [ho]; simp [Op.operands, Call.operands]), hx]
  have hy' : look s.env y = some q := by rw [g1 y (by rw [ho]; simp [Op.operands, Call.operands]), hy]
  have hsrc' := hsrc.agree (h' := s.h) (fun c hc => g2 c (by simp [hc]))
  obtain ⟨info, d, e1, e2, e3, e4, e5, e6⟩ := tyOf_spec (hT _ _ hi)
  obtain ⟨infou, du, f1, f2, f3, f4, f5, f6⟩ := tyOf_spec (hT _ _ hj)
  obtain ⟨info', d', e1', e2', e3', e4', e5', e6'⟩ := tyOf_spec (hT _ _ hi')
  have hd := tk_slice (P := P) (d := d) (e3 ▸ hk)
  subst hd
  have hd' := tk_slice (P := P) (d := d') (e3' ▸ hk')
  subst hd'
  obtain ⟨z, hz1, hz2⟩ := zero_spec f6 hz hp
  have hzl : z.cells.size = j.size := by rw [← hz]; simpa using (allAV_rel (H := H) (ι := noLay) hz2).1.symm
  have hvx := look_rel hs hx'
  have hvy := look_rel hs hy'
  generalize hva : a.eval x = va at hvx
  generalize hvb : a.eval y = vb at hvy
  have hexec : ∀ (v : Value) (w' : World), (Builtin.append_ #[t, t'] o.type #[va, vb]).run P w = .ok v w' → (execOp a.eval o).run P w = .ok (.value v) w' := fun v w' hrun => by
    simp only [execOp, ho, resolve, invoke, builtin, Sem.run_bind, Sem.run_pure, Result.andThen_ok, List.map_toArray, List.map_cons, List.map_nil, hva, hvb, hrun]
  obtain ⟨news, hsrcw, hnews⟩ := src_of hs.heap hsrc' hvy e2' hp hu2 w rfl
  rw [← f4] at hsrcw
  have hnl : news.length = es2.length * j.size := by rw [hsrcw.newsLen, f4]
  have h63 : ((0 + es2.length : Nat) : Int) ≤ 9223372036854775807 := by
    have := hml; simp only [maxLen] at this; omega
  obtain ⟨base, hv, hold⟩ : ∃ (base : Option Addr), va = .slice base 0 0 ∧ (Builtin.firstCells infou.size 0 (.slice base 0 0)).run P w.drew = .ok ([] : List Value).toArray w.drew := by
    rcases hvx.lst_inv with ⟨_, ad, cap, rfl, h1, h2, h3, h4⟩ | ⟨hne, _⟩
    · have := h1 rfl
      subst this
      refine ⟨ad, rfl, ?_⟩
      cases ad <;> simp [Builtin.firstCells, loadCells, loadCellsFrom]
    · exact absurd rfl hne
  have hfit : Builtin.nextslicecap (0 + es2.length) 0 * infou.bytes ≤ 281474976710656 := growslice_fits (by omega) (by rw [f5, Nat.zero_add]; exact hby)
  have hrun := run_append_grow_src (P := P) w t t' o.type u infou z e2 f1 hz1 base 0 0 [] hold vb es2.length news hsrcw (by omega) h63 hfit
  have hge := grownCap_ge w (0 + es2.length) 0 u
  have hcm : grownCap w (0 + es2.length) 0 u ≤ maxLen := grownCap_le_maxLen w _ 0 u (by omega)
  generalize hcc : grownCap w (0 + es2.length) 0 u = nc at *
  generalize hC : (([] : List Value) ++ news).toArray ++ Builtin.zeroCells z.cells (nc - (0 + es2.length)) = C at *
  have hCs : C.size = nc * j.size := by
    rw [← hC, Array.size_append, size_zeroCells, hzl]
    simp only [List.size_toArray, List.nil_append, hnl, ← Nat.add_mul]
    congr 1; omega
  have hCg : ∀ k, k < news.length → C[k]? = news[k]? := fun k hk => by
    rw [← hC, Array.getElem?_append_left (by simp; omega)]
    simp
  refine ⟨_, C, u, w.drew, rfl, rfl, rfl, ?_, ⟨fun i cs h => hu2 cs (List.mem_of_getElem? h), fun i cs k y h1 h2 => ?_⟩, hexec _ _ (hv ▸ hrun), ?_⟩
  · rw [hCs]; exact Nat.mul_le_mul_right _ (by omega)
  · obtain ⟨v, k1, k2, k3⟩ := hnews i cs k y h1 h2
    exact ⟨v, by rw [hCg _ (List.getElem?_eq_some_iff.1 k1).1]; exact k1, k2, k3⟩
  · have := Rel.refL (H := H) (lput ι b ⟨w.heap.size, j.size, es2.length, C.size⟩) b es2.length 0 es2.length nc _ (lput_same _ _ _) rfl (by omega) (by omega) (by simp [hCs]) hcm
    simpa using this
theorem o_append1S (hT : TOk P T) {t t' : TypeId} {x y : Operand} {i i' j : TyI} {u u' : Nat} {es : List (List AV)} {x0 : List AV} {q : AV} {R : List Nat} {b sz : Nat}
    (ho : o.op = .call { callee := .builtin .append, args := #[x, y], argTypes := #[t, t'] }) (hx : look e x = some (slA b es)) (hy : look e y = some q) (hi : T t = some i) (hk : i.k = .slice u) (hj : T u = some j) (hi' : T t' = some i') (hk' : i'.k = .slice u')
    (hb : h b = some (slP sz es)) (hsz : sz = j.size) (hz : j.zero.length = j.size) (hp : 0 < j.size) (hsrc : SrcOf h q R [x0]) (hu2 : x0.length = sz)
    (hby : (es.length + 1) * j.bytes ≤ 140737488355328) (hml : es.length + 1 ≤ maxLen) :
    OLoc P o e h (b :: R) [(b, .row false sz (es ++ [x0]))] (some (slA b (es ++ [x0]))) := by
  subst hsz
  rw [slA_snoc]
  cases hes : es.isEmpty with
  | true =>
    have e1 : es = [] := List.isEmpty_iff.1 hes
    subst e1
    exact o_append0 hT b ho hx hy hi hk hj hi' hk' hb hz hp hsrc (by intro cs hc; simp at hc; rw [hc]; exact hu2) (by simp) (by simpa using hby) (by simpa using hml)
  | false =>
    have ex : slA b es = .ref b es.length 0 es.length := by simp [slA, hes, jAV]
    have eo : slP j.size es = .row false j.size es := by simp [slP, hes]
    rw [ex] at hx
    rw [eo] at hb
    exact o_append hT ho hx hy hi hk hj hi' hk' hb rfl rfl hz hp hsrc (by intro cs hc; simp at hc; rw [hc]; exact hu2) (by intro h; cases h) (m := 1) rfl hby hml
theorem o_append1R (hT : TOk P T) {t t' : TypeId} {x y : Operand} {i i' j : TyI} {u u' : Nat} {ex2 : Bool} {sz : Nat} {es : List (List AV)} {x0 : List AV} {b : Nat}
    (ho : o.op = .call { callee := .builtin .append, args := #[x, y], argTypes := #[t, t'] }) (hx : look e x = some (slA b es)) (hy : look e y = some (.lst ex2 [x0])) (hi : T t = some i) (hk : i.k = .slice u) (hj : T u = some j) (hi' : T t' = some i') (hk' : i'.k = .slice u')
    (hb : h b = some (slO sz es)) (hsz : sz = j.size) (hz : j.zero.length = j.size) (hp : 0 < j.size)
    (hu : ∀ cs ∈ es, cs.length = sz) (hpu : ∀ cs ∈ es, cs.all AV.isPure1 = true) (hu2 : x0.length = sz) (hpure : x0.all AV.isPure1 = true)
    (hby : (es.length + 1) * j.bytes ≤ 140737488355328) (hml : es.length + 1 ≤ maxLen) :
    OLoc P o e h [b] [(b, .row true sz (es ++ [x0]))] (some (.ref b (es.length + 1) 0 (es.length + 1))) := by
  have := o_append1J hT ho hx hy hi hk hj hi' hk' hb hsz hz hp hu hpu hu2 hpure hby hml
  rwa [slA_snoc, slO_snoc] at this
theorem o_copyJ (hT : TOk P T) {t t' : TypeId} {x y : Operand} {i i' j : TyI} {u u' : Nat} {ex2 : Bool} {es2 : List (List AV)} (b : Nat)
    (ho : o.op = .call { callee := .builtin .append, args := #[x, y], argTypes := #[t, t'] }) (hx : look e x = some (.lst true [])) (hy : look e y = some (.lst ex2 es2)) (hi : T t = some i) (hk : i.k = .slice u) (hj : T u = some j) (hi' : T t' = some i') (hk' : i'.k = .slice u')
    (hb : h b = some .free) (hz : j.zero.length = j.size) (hp : 0 < j.size)
    (hu2 : ∀ cs ∈ es2, cs.length = j.size) (hpure : ∀ cs ∈ es2, cs.all AV.isPure1 = true)
    (hby : es2.length * j.bytes ≤ 140737488355328) (hml : es2.length ≤ maxLen) :
    OLoc P o e h [b] [(b, slO j.size es2)] (some (slA b es2)) := by
  have := o_appendJ (f := true) (es := []) (sz := j.size) hT b ho hx hy hi hk hj hi' hk' hb rfl hz hp (by intro cs h; cases h) (by intro cs h; cases h) hu2 hpure (by simpa using hby) (by simpa using hml)
  simpa [slA, slO] using this
end
theorem Ghost.loosen {n : Nat} {e : AEnv} {h : AHeap} (b : Nat) {sz : Nat} {es : List (List AV)} (hb : h b = some (slO sz es)) : Ghost ⟨n, e, h⟩ ⟨n, e, hput h b (slP sz es)⟩ := by
  cases hes : es.isEmpty with
  | true =>
    have e1 : slO sz es = slP sz es := by simp [slO, slP, hes, jObj]
    refine .of_sub ⟨rfl, fun _ _ h => h, fun c x hx => ?_⟩
    have h1 : hput h b (slP sz es) c = some x := hx
    by_cases hc : c = b
    · subst hc; rw [hput_same] at h1; rw [← h1, ← e1]; exact hb
    · rwa [hput_ne _ _ hc] at h1
  | false =>
    have e1 : slO sz es = .row true sz es := by simp [slO, hes, jObj]
    have e2 : slP sz es = .row false sz es := by simp [slP, hes]
    rw [e1] at hb
    rw [e2]
    intro H ι a w hs
    obtain ⟨r, hl, ⟨r1, r2, r3, r4, r5, r6⟩, r7⟩ := hs.heap.obj b _ hb rfl
    have hlput : lput ι b r = ι := by
      funext c
      by_cases hc : c = b
      · subst hc; rw [lput_same, hl]
      · rw [lput_ne _ _ hc]
    have := hs.heap.upd (w' := w) (o0 := .row true sz es) (o' := .row false sz es) (r' := r) hb rfl (.inr ⟨r, hl, rfl, .inl rfl⟩) (fun hs' => .inr ⟨r, hl, rfl, hs', rfl⟩) (fun _ _ _ => rfl) (Nat.le_refl _) rfl rfl
      ⟨r1, r2, r3, r4, r5, fun hsol => by
        obtain ⟨c, TT, w1, w2, w3⟩ := r6 hsol
        refine ⟨c, TT, w1, w2, w3.1, ?_⟩
        rw [hlput]
        intro k ds q z hk hq
        obtain ⟨v, f1, f2, f3⟩ := w3.2 k ds q z hk hq
        exact ⟨v, f1, f2.mono (fun _ _ h => h) (LLe.none _), f3⟩⟩
    rw [hlput] at this
    exact ⟨H, ι, ⟨hs.n, hs.d, hs.env, this.1⟩, this.2⟩
theorem Ghost.endLast {n : Nat} {e : AEnv} {h : AHeap} (b b2 : Nat) {sz m : Nat} {es es2 : List (List AV)} (hb : h b = some (.row false 1 (es ++ [[.ref b2 m 0 m]]))) (hb2 : h b2 = some (.row true sz es2)) (hm : m = es2.length) (hne : b ≠ b2) (hpe : ∀ cs ∈ es, cs.all AV.isPure1 = true) :
    Ghost ⟨n, e, h⟩ ⟨n, e, hput (hput (hrm h b2) b (.row false 1 (es ++ [[.lst false es2]]))) b (slO 1 (es ++ [[.lst false es2]]))⟩ := by
  have h1 := Ghost.freezeCell (n := n) (e := e) b es.length 0 b2 hb (by rw [List.getElem?_append_right (Nat.le_refl _), Nat.sub_self]; rfl) rfl hb2 hm hne
  have e1 : (es ++ [[AV.ref b2 m 0 m]]).set es.length (([AV.ref b2 m 0 m] : List AV).set 0 (.lst false ((es2.drop 0).take m))) = es ++ [[.lst false es2]] := by
    rw [List.set_append, if_neg (by omega), Nat.sub_self, hm, List.drop_zero, List.take_length]; rfl
  rw [e1] at h1
  refine h1.trans ?_
  rw [slO_snoc]
  refine Ghost.plain b (hput_same _ _ _) fun cs hc => ?_
  simp only [List.mem_append, List.mem_singleton] at hc
  rcases hc with hc | rfl
  · exact hpe cs hc
  · rfl
end Go.Proofs.Ytpijoieooikfgaa.Sv

namespace Go.Proofs.Ytpijoieooikfgaa.Sv
open Go
variable {P : Program} {T : Nat → Option TyI} {ops : Array Oper} {rest : List Oper} {n : Nat} {e : AEnv} {h : AHeap} {o : Oper} {K : AState → Prop} {acc : List (List Nat × List Nat)} {R : List Nat} {W : List (Nat × AObj)} {r p : AV}
theorem aq (d : Nat) (hq : QLoc P o e h R r) (hr : AOps P ops rest ⟨n, eput e d r, h⟩ K) (hd : o.dst = some d := by exact rfl) (hb : Nat.blt d n = true := by exact rfl) (hg : guardIs ops o e = some true := by exact rfl) : AOps P ops (o :: rest) ⟨n, e, h⟩ K := AOps.s d hd hb hg hq hr
theorem ax (d : Nat) (hq : OLoc P o e h R W (some r)) (hr : AOps P ops rest ⟨n, eput e d r, (hputs h W)⟩ K) (hd : o.dst = some d := by exact rfl) (hb : Nat.blt d n = true := by exact rfl) (hg : guardIs ops o e = some true := by exact rfl) : AOps P ops (o :: rest) ⟨n, e, h⟩ K := AOps.x d hd hb hg hq hr
theorem ak (d : Nat) (hr : AOps P ops rest ⟨n, eput e d (.tup []), h⟩ K) (hd : o.dst = some d := by exact rfl) (hb : Nat.blt d n = true := by exact rfl) (hg : guardIs ops o e = some false := by exact rfl) : AOps P ops (o :: rest) ⟨n, e, h⟩ K := AOps.k d hd hb hg hr
theorem am (d : Nat) {x : Operand} (hr : AOps P ops rest ⟨n, eput e d r, h⟩ K) (hd : o.dst = some d := by exact rfl) (hb : Nat.blt d n = true := by exact rfl) (hg : guardIs ops o e = some true := by exact rfl) (ho : o.op = .move x := by exact rfl) (hx : look e x = some r := by exact rfl) : AOps P ops (o :: rest) ⟨n, e, h⟩ K := AOps.s d hd hb hg (q_move (.inl ho) hx) hr
theorem aa (d : Nat) {x : Operand} (hr : AOps P ops rest ⟨n, eput e d r, h⟩ K) (hd : o.dst = some d := by exact rfl) (hb : Nat.blt d n = true := by exact rfl) (hg : guardIs ops o e = some true := by exact rfl) (ho : o.op = .assign x := by exact rfl) (hx : look e x = some r := by exact rfl) : AOps P ops (o :: rest) ⟨n, e, h⟩ K := AOps.s d hd hb hg (q_move (.inr ho) hx) hr
theorem al (d : Nat) {t : TypeId} {x : Operand} {i : TyI} {cs : List AV} (hT : TOk P T) (hr : AOps P ops rest ⟨n, eput e d r, h⟩ K) (hd : o.dst = some d := by exact rfl) (hb : Nat.blt d n = true := by exact rfl) (hg : guardIs ops o e = some true := by exact rfl) (ho : o.op = .load t x := by exact rfl) (hx : look e x = some p := by exact rfl) (hi : T t = some i := by exact rfl) (hp : PtsTo h p R cs := by first | exact .loc _ | exact .ptr _ _ _ _ _ _ _ _ rfl rfl rfl) (hl : loadAV i cs = some r := by exact rfl) : AOps P ops (o :: rest) ⟨n, e, h⟩ K := AOps.s d hd hb hg (q_load hT ho hx hi hp hl) hr
theorem af (d : Nat) {t : TypeId} {x : Operand} {f off u : Nat} {i : TyI} {fs : List (Nat × Nat)} (hT : TOk P T) (hr : AOps P ops rest ⟨n, eput e d r, h⟩ K) (hd : o.dst = some d := by exact rfl) (hb : Nat.blt d n = true := by exact rfl) (hg : guardIs ops o e = some true := by exact rfl) (ho : o.op = .fieldAddr t x f := by exact rfl) (hx : look e x = some p := by exact rfl) (hi : T t = some i := by exact rfl) (hk : i.k = .struct fs := by exact rfl) (hf : fs[f]? = some (off, u) := by exact rfl) (hm : moveAV p off = some r := by exact rfl) : AOps P ops (o :: rest) ⟨n, e, h⟩ K := AOps.s d hd hb hg (q_fieldAddr hT ho hx hi hk hf hm) hr
theorem dq (d : Nat) (hq : QLoc P o e h R r) (hr : DOps P ops n rest (eput e d r) h (acc ++ [(R, [])]) K) (hd : o.dst = some d := by exact rfl) (hb : Nat.blt d n = true := by exact rfl) (hg : guardIs ops o e = some true := by exact rfl) : DOps P ops n (o :: rest) e h acc K := DOps.s d hd hb hg hq hr
theorem dx (d : Nat) (hq : OLoc P o e h R W (some r)) (hr : DOps P ops n rest (eput e d r) (hputs h W) (acc ++ [(R, W.map (·.1))]) K) (hd : o.dst = some d := by exact rfl) (hb : Nat.blt d n = true := by exact rfl) (hg : guardIs ops o e = some true := by exact rfl) : DOps P ops n (o :: rest) e h acc K := DOps.x d hd hb hg hq hr
theorem dk (d : Nat) (hr : DOps P ops n rest (eput e d (.tup [])) h (acc ++ [([], [])]) K) (hd : o.dst = some d := by exact rfl) (hb : Nat.blt d n = true := by exact rfl) (hg : guardIs ops o e = some false := by exact rfl) : DOps P ops n (o :: rest) e h acc K := DOps.u d hd hb hg hr
theorem dm (d : Nat) {x : Operand} (hr : DOps P ops n rest (eput e d r) h (acc ++ [([], [])]) K) (hd : o.dst = some d := by exact rfl) (hb : Nat.blt d n = true := by exact rfl) (hg : guardIs ops o e = some true := by exact rfl) (ho : o.op = .move x := by exact rfl) (hx : look e x = some r := by exact rfl) : DOps P ops n (o :: rest) e h acc K := DOps.s d hd hb hg (q_move (.inl ho) hx) hr
theorem da (d : Nat) {x : Operand} (hr : DOps P ops n rest (eput e d r) h (acc ++ [([], [])]) K) (hd : o.dst = some d := by exact rfl) (hb : Nat.blt d n = true := by exact rfl) (hg : guardIs ops o e = some true := by exact rfl) (ho : o.op = .assign x := by exact rfl) (hx : look e x = some r := by exact rfl) : DOps P ops n (o :: rest) e h acc K := DOps.s d hd hb hg (q_move (.inr ho) hx) hr
theorem dl (d : Nat) {t : TypeId} {x : Operand} {i : TyI} {cs : List AV} (hT : TOk P T) (hr : DOps P ops n rest (eput e d r) h (acc ++ [(R, [])]) K) (hd : o.dst = some d := by exact rfl) (hb : Nat.blt d n = true := by exact rfl) (hg : guardIs ops o e = some true := by exact rfl) (ho : o.op = .load t x := by exact rfl) (hx : look e x = some p := by exact rfl) (hi : T t = some i := by exact rfl) (hp : PtsTo h p R cs := by first | exact .loc _ | exact .ptr _ _ _ _ _ _ _ _ rfl rfl rfl) (hl : loadAV i cs = some r := by exact rfl) : DOps P ops n (o :: rest) e h acc K := DOps.s d hd hb hg (q_load hT ho hx hi hp hl) hr
theorem df (d : Nat) {t : TypeId} {x : Operand} {f off u : Nat} {i : TyI} {fs : List (Nat × Nat)} (hT : TOk P T) (hr : DOps P ops n rest (eput e d r) h (acc ++ [([], [])]) K) (hd : o.dst = some d := by exact rfl) (hb : Nat.blt d n = true := by exact rfl) (hg : guardIs ops o e = some true := by exact rfl) (ho : o.op = .fieldAddr t x f := by exact rfl) (hx : look e x = some p := by exact rfl) (hi : T t = some i := by exact rfl) (hk : i.k = .struct fs := by exact rfl) (hf : fs[f]? = some (off, u) := by exact rfl) (hm : moveAV p off = some r := by exact rfl) : DOps P ops n (o :: rest) e h acc K := DOps.s d hd hb hg (q_fieldAddr hT ho hx hi hk hf hm) hr
end Go.Proofs.Ytpijoieooikfgaa.Sv

namespace Go.Proofs.Ytpijoieooikfgaa.Sv
open Go

end Go.Proofs.Ytpijoieooikfgaa.Sv

namespace Go.Proofs.Ytpijoieooikfgaa.Sv
open Go

set_option maxRecDepth 100000 in
theorem one34_ok (l : List Tac) : APure Try.prog 24 [insAV l] (fun r => r = .agg (oneF l).cells) := by
 refine APure.of_body (n := 7) tok Try.func24 rfl rfl ?_
 refine AGo.seq ?_
 refine AGo.region ?_
 refine ax 2 (o_alloc tok 0 rfl rfl rfl rfl (Nat.zero_lt_succ _) rfl) ?_
 refine AOps.nil ?_
 refine AGo.seq ?_
 refine AGo.region ?_
 refine am 3 ?_
 refine aq 4 (q_build tok rfl rfl rfl rfl rfl (by decide) rfl rfl rfl) ?_
 refine ax 5 (o_lit' tok rfl rfl rfl rfl rfl rfl (by decide) rfl rfl rfl rfl rfl rfl) ?_
 refine aq 6 (q_build tok rfl rfl rfl rfl rfl (by decide) rfl rfl rfl) ?_
 refine AOps.w rfl rfl (o_store tok rfl rfl rfl rfl rfl rfl rfl rfl rfl (by decide) rfl (by first | exact fun _ => rfl | (intro h; cases h))) ?_
 refine AOps.nil ?_
 refine AGo.ret ?_
 refine ⟨[_], ⟨⟨_, _, _, _, rfl, rfl, .ptr _ _ _ _ _ _ _ _ rfl rfl rfl, rfl⟩, trivial⟩, ?_, rfl⟩
 rfl

set_option maxRecDepth 100000 in
theorem none34_ok  : APure Try.prog 25 [] (fun r => r = .agg noneC.cells) := by
 refine APure.of_body (n := 4) tok Try.func25 rfl rfl ?_
 refine AGo.seq ?_
 refine AGo.region ?_
 refine ax 0 (o_alloc tok 0 rfl rfl rfl rfl (Nat.zero_lt_succ _) rfl) ?_
 refine AOps.nil ?_
 refine AGo.seq ?_
 refine AGo.region ?_
 refine ax 1 (o_lit' tok rfl rfl rfl rfl rfl rfl (by decide) rfl rfl rfl rfl rfl rfl) ?_
 refine ax 2 (o_lit' tok rfl rfl rfl rfl rfl rfl (by decide) rfl rfl rfl rfl rfl rfl) ?_
 refine aq 3 (q_build tok rfl rfl rfl rfl rfl (by decide) rfl rfl rfl) ?_
 refine AOps.w rfl rfl (o_store tok rfl rfl rfl rfl rfl rfl rfl rfl rfl (by decide) rfl (by first | exact fun _ => rfl | (intro h; cases h))) ?_
 refine AOps.nil ?_
 refine AGo.ret ?_
 refine ⟨[_], ⟨⟨_, _, _, _, rfl, rfl, .ptr _ _ _ _ _ _ _ _ rfl rfl rfl, rfl⟩, trivial⟩, ?_, rfl⟩
 rfl

set_option maxRecDepth 100000 in
theorem one34n_ok  : APure Try.prog 24 [.nil] (fun r => r = .agg (oneF []).cells) := by
 refine APure.of_body (n := 7) tok Try.func24 rfl rfl ?_
 refine AGo.seq ?_
 refine AGo.ghost (.empty 0 rfl) ?_
 refine AGo.region ?_
 refine ax 2 (o_alloc tok 0 rfl rfl rfl rfl (Nat.zero_lt_succ _) rfl) ?_
 refine AOps.nil ?_
 refine AGo.seq ?_
 refine AGo.region ?_
 refine am 3 ?_
 refine aq 4 (q_build tok rfl rfl rfl rfl rfl (by decide) rfl rfl rfl) ?_
 refine ax 5 (o_lit' tok rfl rfl rfl rfl rfl rfl (by decide) rfl rfl rfl rfl rfl rfl) ?_
 refine aq 6 (q_build tok rfl rfl rfl rfl rfl (by decide) rfl rfl rfl) ?_
 refine AOps.w rfl rfl (o_store tok rfl rfl rfl rfl rfl rfl rfl rfl rfl (by decide) rfl (by first | exact fun _ => rfl | (intro h; cases h))) ?_
 refine AOps.nil ?_
 refine AGo.ret ?_
 refine ⟨[_], ⟨⟨_, _, _, _, rfl, rfl, .ptr _ _ _ _ _ _ _ _ rfl rfl rfl, rfl⟩, trivial⟩, ?_, rfl⟩
 rfl

set_option maxHeartbeats 2000000 in
set_option maxRecDepth 100000 in
theorem vweak_ok (f : BFunc) (hr : 0 ≤ f.regs ∧ f.regs ≤ 10000) (hn : f.blocks.length ≤ 10000) : APure Try.prog 17 [.agg f.cells] (fun r => r = .agg (vweak f).cells) := by
 refine APure.of_body (n := 43) tok Try.func17 rfl rfl ?_
 refine AGo.seq ?_
 refine AGo.region ?_
 refine ax 1 (o_box (sz := 2) 0 rfl rfl rfl rfl (Nat.zero_lt_succ _) rfl) ?_
 refine ax 2 (o_alloc tok 1 rfl rfl rfl rfl (Nat.zero_lt_succ _) rfl) ?_
 refine AOps.nil ?_
 refine AGo.seq ?_
 refine AGo.region ?_
 refine af 6 tok ?_
 refine al 7 tok ?_
 refine aq 8 (q_len tok rfl rfl rfl rfl rfl) ?_
 refine ax 9 (o_makeSlice tok (n := f.blocks.length) (m := f.blocks.length) 2 false rfl rfl rfl (by simp) (by simp) rfl rfl rfl rfl rfl (Nat.zero_lt_succ _) rfl (Nat.le_refl _) (by show 24 * f.blocks.length ≤ _; omega) (by simp only [maxLen]; omega)) ?_
 refine aq 10 (q_build tok rfl rfl rfl rfl rfl (by decide) rfl rfl rfl) ?_
 refine ax 3 (o_alloc tok 3 rfl rfl rfl rfl (Nat.zero_lt_succ _) rfl) ?_
 refine AOps.w rfl rfl (o_store tok rfl rfl rfl rfl rfl rfl rfl rfl rfl (by decide) rfl (by first | exact fun _ => rfl | (intro h; cases h))) ?_
 refine AOps.nil ?_
 refine AGo.seq ?_
 refine AGo.seq ?_
 refine AGo.region ?_
 refine af 11 tok ?_
 refine al 12 tok ?_
 refine aq 13 (q_len tok rfl rfl rfl rfl rfl) ?_
 refine am 14 ?_
 refine AOps.nil ?_
 refine AGo.block ?_
 refine AGo.loopD (γ := Nat) 4 (fun k => ⟨43, (eput (eput (eput (eput (eput eNew 1 (.ptr 0 1 0 0)) 2 (.ptr 1 1 0 0)) 3 (.ptr 3 1 0 0)) 13 (.int .i64 (f.blocks.length : Int))) 14 (.int .i64 (k : Int))), (hput (hput (hput (hput (hFrom 4) 0 (.row false 2 [f.cells])) 1 (.row false 1 [[.nil]])) 3 (.row false 1 [[.ref 2 f.blocks.length 0 f.blocks.length]])) 2 (.row false 1 (((List.replicate f.blocks.length (List.replicate f.regs.toNat true)).take (k)).map rowCell ++ List.replicate (f.blocks.length - (k)) [AV.nil])))⟩) (fun k => k ≤ f.blocks.length) (fun k => f.blocks.length - k) 0 (Sub.mk' (by repeat (first | exact ESub.new _ | refine ESub.put ?_ (by first | rfl | exact congrArg (fun (n : Nat) => some (AV.int .i64 (n : Int))) (by simp)))) (by repeat (first | exact HSub.refl _ | exact HSub.none _ | exact HSub.from_new _ | exact HSub.from_from (by first | decide | omega | (dsimp only; omega)) | refine HSub.put ?_ (by rfl) | refine HSub.from_put ?_ (by first | decide | omega | (dsimp only; omega)) | refine HSub.from_rm ?_ (by decide)))) (Nat.zero_le _) (fun _ => hput_free (hput_free (hput_free (hput_free (fun b hb => hFrom_free hb) rfl) rfl) rfl) rfl) ?_
 intro k hk
 refine AGo.seq ?_
 refine AGo.region ?_
 refine aq 15 (q_bin rfl rfl rfl rfl) ?_
 refine AOps.nil ?_
 refine AGo.seq ?_
 refine AGo.split 15 rfl (fun hb1 => ?_) (fun hb1 => ?_)
 ·
  refine AGo.cond_true true rfl rfl ?_
  have hkl : k < f.blocks.length := by simpa using hb1
  refine AGo.skip ?_
  refine AGo.seq ?_
  refine AGo.block ?_
  refine AGo.seq ?_
  refine AGo.region ?_
  refine am 16 ?_
  refine aa 4 ?_
  refine AOps.nil ?_
  refine AGo.seq ?_
  refine AGo.draw mix ?_
  refine df 17 tok ?_
  refine dl 18 tok ?_
  refine dm 19 ?_
  refine df 20 tok ?_
  refine dl 21 tok ?_
  refine dx 22 (o_makeSlice tok (n := f.regs.toNat) (m := f.regs.toNat) 4 true rfl rfl rfl (by omega) (by omega) rfl rfl rfl rfl rfl (Nat.zero_lt_succ _) rfl (Nat.le_refl _) (by show 1 * f.regs.toNat ≤ _; omega) (by simp only [maxLen]; omega)) ?_
  refine dq 23 (q_index_ref tok rfl rfl rfl rfl rfl rfl rfl (fill_len (by simp : ((List.replicate f.blocks.length (List.replicate f.regs.toNat true))).length = f.blocks.length) (Nat.le_of_lt hkl)) rfl (Int.natCast_nonneg _) (by omega)) ?_
  refine DOps.w rfl rfl (o_store tok rfl rfl rfl rfl rfl rfl (fill_len (by simp : ((List.replicate f.blocks.length (List.replicate f.regs.toNat true))).length = f.blocks.length) (Nat.le_of_lt hkl)) (fill_get (by simp : ((List.replicate f.blocks.length (List.replicate f.regs.toNat true))).length = f.blocks.length) hkl) rfl (by decide) rfl (by first | exact fun _ => rfl | (intro h; cases h))) ?_
  refine DOps.nil (by kernel_rfl) ?_
  refine AGo.seq ?_
  refine AGo.region ?_
  refine af 24 tok ?_
  refine al 25 tok ?_
  refine am 26 ?_
  refine aq 27 (q_index_ref tok rfl rfl rfl rfl rfl rfl rfl (by rw [List.length_set]; exact (fill_len (by simp : ((List.replicate f.blocks.length (List.replicate f.regs.toNat true))).length = f.blocks.length) (Nat.le_of_lt hkl))) rfl (Int.natCast_nonneg _) (by omega)) ?_
  refine aq 28 (q_load tok rfl rfl rfl (.ptr _ _ _ _ _ _ _ _ rfl (by rw [List.length_set]; exact (fill_len (by simp : ((List.replicate f.blocks.length (List.replicate f.regs.toNat true))).length = f.blocks.length) (Nat.le_of_lt hkl))) (get_set_self0 (fill_get (by simp : ((List.replicate f.blocks.length (List.replicate f.regs.toNat true))).length = f.blocks.length) hkl))) rfl) ?_
  refine aq 29 (q_len tok rfl rfl rfl rfl rfl) ?_
  refine am 30 ?_
  refine AOps.nil ?_
  refine AGo.block ?_
  refine AGo.loopD (γ := Nat) 5 (fun j => ⟨43, (eput (eput (eput (eput (eput (eput (eput (eput eNew 1 (.ptr 0 1 0 0)) 2 (.ptr 1 1 0 0)) 3 (.ptr 3 1 0 0)) 13 (.int .i64 (f.blocks.length : Int))) 14 (.int .i64 (k : Int))) 4 (.int .i64 (k : Int))) 29 (.int .i64 (f.regs.toNat : Int))) 30 (.int .i64 (j : Int))), (hput (hput (hput (hput (hput (hFrom 5) 0 (.row false 2 [f.cells])) 1 (.row false 1 [[.nil]])) 3 (.row false 1 [[.ref 2 f.blocks.length 0 f.blocks.length]])) 2 (.row false 1 ((((List.replicate f.blocks.length (List.replicate f.regs.toNat true)).take (k)).map rowCell ++ List.replicate (f.blocks.length - (k)) [AV.nil]).set (0 + ((k : Nat) : Int).toNat) [AV.ref 4 f.regs.toNat 0 f.regs.toNat]))) 4 (.row true 1 (((List.replicate f.regs.toNat true).take (j)).map boolCells ++ List.replicate (f.regs.toNat - (j)) [AV.bool false])))⟩) (fun j => j ≤ f.regs.toNat) (fun j => f.regs.toNat - j) 0 (Sub.mk' (by repeat (first | exact ESub.new _ | refine ESub.put ?_ (by first | rfl | exact congrArg (fun (n : Nat) => some (AV.int .i64 (n : Int))) (by simp)))) (by repeat (first | exact HSub.refl _ | exact HSub.none _ | exact HSub.from_new _ | exact HSub.from_from (by first | decide | omega | (dsimp only; omega)) | refine HSub.put ?_ (by rfl) | refine HSub.from_put ?_ (by first | decide | omega | (dsimp only; omega)) | refine HSub.from_rm ?_ (by decide)))) (Nat.zero_le _) (fun _ => hput_free (hput_free (hput_free (hput_free (hput_free (fun b hb => hFrom_free hb) rfl) rfl) rfl) rfl) rfl) ?_
  intro j hj
  refine AGo.seq ?_
  refine AGo.region ?_
  refine aq 31 (q_bin rfl rfl rfl rfl) ?_
  refine AOps.nil ?_
  refine AGo.seq ?_
  refine AGo.split 31 rfl (fun hb2 => ?_) (fun hb2 => ?_)
  ·
   refine AGo.cond_true true rfl rfl ?_
   have hjl : j < f.regs.toNat := by have h := hb2; simp only [decide_eq_true_eq] at h; omega
   refine AGo.skip ?_
   refine AGo.seq ?_
   refine AGo.block ?_
   refine AGo.seq ?_
   refine AGo.region ?_
   refine am 32 ?_
   refine aa 5 ?_
   refine AOps.nil ?_
   refine AGo.region ?_
   refine af 33 tok ?_
   refine al 34 tok ?_
   refine am 35 ?_
   refine aq 36 (q_index_ref tok rfl rfl rfl rfl rfl rfl rfl (by rw [List.length_set]; exact (fill_len (by simp : ((List.replicate f.blocks.length (List.replicate f.regs.toNat true))).length = f.blocks.length) (Nat.le_of_lt hkl))) rfl (Int.natCast_nonneg _) (by omega)) ?_
   refine aq 37 (q_load tok rfl rfl rfl (.ptr _ _ _ _ _ _ _ _ rfl (by rw [List.length_set]; exact (fill_len (by simp : ((List.replicate f.blocks.length (List.replicate f.regs.toNat true))).length = f.blocks.length) (Nat.le_of_lt hkl))) (get_set_self0 (fill_get (by simp : ((List.replicate f.blocks.length (List.replicate f.regs.toNat true))).length = f.blocks.length) hkl))) rfl) ?_
   refine am 38 ?_
   refine aq 39 (q_index_ref tok rfl rfl rfl rfl rfl rfl rfl (fill_len (by simp : ((List.replicate f.regs.toNat true)).length = f.regs.toNat) (Nat.le_of_lt hjl)) rfl (Int.natCast_nonneg _) (by omega)) ?_
   refine AOps.w rfl rfl (o_store tok rfl rfl rfl rfl rfl rfl (fill_len (by simp : ((List.replicate f.regs.toNat true)).length = f.regs.toNat) (Nat.le_of_lt hjl)) (fill_get (by simp : ((List.replicate f.regs.toNat true)).length = f.regs.toNat) hjl) rfl (by decide) rfl (by first | exact fun _ => rfl | (intro h; cases h))) ?_
   refine AOps.nil ?_
   refine AGo.region ?_
   refine aq 40 (q_inc rfl rfl hjl (show f.regs.toNat ≤ maxLen by simp only [maxLen]; omega)) ?_
   refine am 30 ?_
   refine AOps.nil ?_
   exact ⟨j+1, Drop.mk' (by repeat (first | exact EDrop.new _ _ | refine EDrop.put ?_ (by rfl) (by first | rfl | exact slA_avoid _ rfl | exact vaA_avoid _ rfl))) (by repeat (first | exact HDrop.none _ _ | exact HDrop.tail _ _ | refine HDrop.put ?_ (by first | rfl | exact congrArg (fun es => some (AObj.row true 1 es)) (fill_put (f := boolCells) (x := true) (by simp : ((List.replicate f.regs.toNat true)).length = f.regs.toNat) (by simp [hjl]))) rfl (by first | rfl | exact weak_avoid2 _ _))), hjl, by omega⟩
  ·
   refine AGo.cond_false false rfl rfl ?_
   have hjge : f.regs.toNat ≤ j := by have h := hb2; simp only [decide_eq_false_iff_not] at h; omega
   refine AGo.exit ?_
   refine AGo.ghost (.freezeCell 2 (0 + ((k : Nat) : Int).toNat) 0 4 rfl (get_set_self0 (fill_get (by simp : ((List.replicate f.blocks.length (List.replicate f.regs.toNat true))).length = f.blocks.length) hkl)) rfl rfl (fill_len (by simp : ((List.replicate f.regs.toNat true)).length = f.regs.toNat) hj) (by decide)) ?_
   rw [fill_end (by simp : ((List.replicate f.regs.toNat true)).length = f.regs.toNat) hjge]
   refine AGo.region ?_
   refine aq 41 (q_inc rfl rfl hkl (show f.blocks.length ≤ maxLen by simp only [maxLen]; omega)) ?_
   refine am 14 ?_
   refine AOps.nil ?_
   exact ⟨k+1, Drop.mk' (by repeat (first | exact EDrop.new _ _ | refine EDrop.put ?_ (by rfl) (by first | rfl | exact slA_avoid _ rfl | exact vaA_avoid _ rfl))) (by repeat (first | exact HDrop.none _ _ | exact HDrop.tail _ _ | refine HDrop.put ?_ (by first | rfl | exact congrArg (fun es => some (AObj.row false 1 es)) (by rw [← fill_put (f := rowCell) (z := [AV.nil]) (by simp : ((List.replicate f.blocks.length (List.replicate f.regs.toNat true))).length = f.blocks.length) (by simp [hkl] : ((List.replicate f.blocks.length (List.replicate f.regs.toNat true)))[k]? = some (List.replicate f.regs.toNat true)), List.set_set]; rfl)) rfl (by first | rfl | exact weak_avoid _))), hkl, by omega⟩
 ·
  refine AGo.cond_false false rfl rfl ?_
  have hge : f.blocks.length ≤ k := by simpa using hb1
  refine AGo.exit ?_
  refine AGo.seq ?_
  refine AGo.ghost (.plain 2 rfl (weak_pure hge)) ?_
  refine AGo.ghost (.freezeCell 3 0 0 2 rfl rfl rfl rfl (fill_len (by simp : ((List.replicate f.blocks.length (List.replicate f.regs.toNat true))).length = f.blocks.length) hk) (by decide)) ?_
  rw [fill_end (by simp : ((List.replicate f.blocks.length (List.replicate f.regs.toNat true))).length = f.blocks.length) hge]
  refine AGo.region ?_
  refine al 42 tok ?_
  refine AOps.w rfl rfl (o_store tok rfl rfl rfl rfl rfl rfl rfl rfl rfl (by decide) rfl (by first | exact fun _ => rfl | (intro h; cases h))) ?_
  refine AOps.nil ?_
  refine AGo.ret ?_
  refine ⟨[_], ⟨⟨_, _, _, _, rfl, rfl, .ptr _ _ _ _ _ _ _ _ rfl rfl rfl, rfl⟩, trivial⟩, ?_, rfl⟩
  rfl

end Go.Proofs.Ytpijoieooikfgaa.Sv

namespace Go.Proofs.Ytpijoieooikfgaa.Sv
open Go

def readsN (op : Int) : Int := bif use1 op then 1 else bif use2 op then 2 else 0
def Tac.rest2 (t : Tac) (f words : Int) : Bool :=
  !((t.op != 1 && t.n != 0) || (t.op != 3 && t.k != 0)) && (!(!arrOp t.op && t.size != 0) &&
  (bif t.op == 1 || (t.op == 2 || (t.op == 8 || t.op == 9)) then t.base == 0
   else bif t.op == 3 then t.base == 0 && (decide (t.k ≥ 4) && decide (t.k ≤ 15))
   else bif t.op == 4 || t.op == 5 then decide (t.base ≥ 0) && decide (t.base < words)
   else bif t.op == 6 || t.op == 7 then decide (t.size ≥ 1) && (decide (t.size ≤ 4096) && (decide (t.base ≥ 0) && decide (t.base ≤ words - t.size)))
   else bif t.op == 10 then decide (t.base ≥ 0) && decide (t.base < f) else false))
def Tac.ins2 (t : Tac) (f regs words : Int) : Bool :=
  (bif setsOp t.op then within t.d regs else t.d == 0) &&
  ((bif use1 t.op then within t.a regs && t.b == 0 else bif use2 t.op then within t.a regs && within t.b regs else t.a == 0 && t.b == 0) &&
   t.rest2 f words)
theorem op_cases {op : Int} (h1 : 1 ≤ op) (h2 : op ≤ 10) : op = 1 ∨ op = 2 ∨ op = 3 ∨ op = 4 ∨ op = 5 ∨ op = 6 ∨ op = 7 ∨ op = 8 ∨ op = 9 ∨ op = 10 := by omega
theorem ins2_fits (t : Tac) (f regs words : Int) : t.ins2 f regs words = t.fits f regs words := by
  by_cases h : 1 ≤ t.op ∧ t.op ≤ 10
  · obtain ⟨op, d, a, b, k, base, size, n⟩ := t
    rw [Bool.eq_iff_iff]
    rcases op_cases h.1 h.2 with e | e | e | e | e | e | e | e | e | e <;> (simp only at e; subst e; simp [Tac.ins2, Tac.fits, Tac.rest2, Tac.rest, Tac.same, Tac.want, Tac.uses, setsOp, use1, use2, baseOp, arrOp, within]) <;> (try omega) <;> (constructor <;> (intro h; simp [h]; try omega))
  · rw [fits_op h]
    have h1 : (t.op == 1) = false := (by rw [beq_eq_false_iff_ne]; omega)
    have h2 : (t.op == 2) = false := (by rw [beq_eq_false_iff_ne]; omega)
    have h3 : (t.op == 3) = false := (by rw [beq_eq_false_iff_ne]; omega)
    have h4 : (t.op == 4) = false := (by rw [beq_eq_false_iff_ne]; omega)
    have h5 : (t.op == 5) = false := (by rw [beq_eq_false_iff_ne]; omega)
    have h6 : (t.op == 6) = false := (by rw [beq_eq_false_iff_ne]; omega)
    have h7 : (t.op == 7) = false := (by rw [beq_eq_false_iff_ne]; omega)
    have h8 : (t.op == 8) = false := (by rw [beq_eq_false_iff_ne]; omega)
    have h9 : (t.op == 9) = false := (by rw [beq_eq_false_iff_ne]; omega)
    have h10 : (t.op == 10) = false := (by rw [beq_eq_false_iff_ne]; omega)
    simp [Tac.ins2, Tac.rest2, h1, h2, h3, h4, h5, h6, h7, h8, h9, h10]
theorem reads1 {op : Int} (h : readsN op = 1) : use1 op = true := by
  unfold readsN at h
  cases e : use1 op <;> cases e2 : use2 op <;> simp_all
theorem reads2 {op : Int} (h : readsN op = 2) : use1 op = false ∧ use2 op = true := by
  unfold readsN at h
  cases e : use1 op <;> cases e2 : use2 op <;> simp_all
theorem reads0 {op : Int} (h : readsN op = 0) : use1 op = false ∧ use2 op = false := by
  unfold readsN at h
  cases e : use1 op <;> cases e2 : use2 op <;> simp_all
theorem readsN_or (op : Int) : readsN op = 0 ∨ readsN op = 1 ∨ readsN op = 2 := by
  unfold readsN
  cases e : use1 op <;> cases e2 : use2 op <;> simp_all
end Go.Proofs.Ytpijoieooikfgaa.Sv

namespace Go.Proofs.Ytpijoieooikfgaa.Sv
open Go

set_option maxRecDepth 100000 in
theorem bsetsOp_ok (op : Int) : APure Try.prog 64 [.int .i64 op] (fun r => r = .bool (setsOp op)) := by
 refine APure.of_body (n := 11) tok Try.func64 rfl rfl ?_
 refine AGo.seq ?_
 refine AGo.region ?_
 refine aa 2 ?_
 refine AOps.nil ?_
 refine AGo.seq ?_
 refine AGo.seq ?_
 refine AGo.region ?_
 refine am 3 ?_
 refine AOps.nil ?_
 refine AGo.block ?_
 refine AGo.seq ?_
 refine AGo.seq ?_
 refine AGo.region ?_
 refine aq 5 (q_bin rfl rfl rfl rfl) ?_
 refine aa 4 ?_
 refine AOps.nil ?_
 refine AGo.split 4 rfl (fun hb1 => ?_) (fun hb1 => ?_)
 ·
  refine AGo.cond_true true rfl rfl ?_
  refine AGo.skip ?_
  refine AGo.cond_true true rfl rfl ?_
  refine AGo.seq ?_
  refine AGo.region ?_
  refine aa 2 ?_
  refine AOps.nil ?_
  refine AGo.ret ?_
  refine ⟨[_], ⟨rfl, trivial⟩, ?_, rfl⟩
  show AV.bool _ = AV.bool _
  congr 1
  simp [setsOp, *]
 ·
  refine AGo.cond_false false rfl rfl ?_
  refine AGo.seq ?_
  refine AGo.region ?_
  refine aq 6 (q_bin rfl rfl rfl rfl) ?_
  refine aa 4 ?_
  refine AOps.nil ?_
  refine AGo.split 4 rfl (fun hb2 => ?_) (fun hb2 => ?_)
  ·
   refine AGo.cond_true true rfl rfl ?_
   refine AGo.skip ?_
   refine AGo.cond_true true rfl rfl ?_
   refine AGo.seq ?_
   refine AGo.region ?_
   refine aa 2 ?_
   refine AOps.nil ?_
   refine AGo.ret ?_
   refine ⟨[_], ⟨rfl, trivial⟩, ?_, rfl⟩
   show AV.bool _ = AV.bool _
   congr 1
   simp [setsOp, *]
  ·
   refine AGo.cond_false false rfl rfl ?_
   refine AGo.seq ?_
   refine AGo.region ?_
   refine aq 7 (q_bin rfl rfl rfl rfl) ?_
   refine aa 4 ?_
   refine AOps.nil ?_
   refine AGo.split 4 rfl (fun hb3 => ?_) (fun hb3 => ?_)
   ·
    refine AGo.cond_true true rfl rfl ?_
    refine AGo.skip ?_
    refine AGo.cond_true true rfl rfl ?_
    refine AGo.seq ?_
    refine AGo.region ?_
    refine aa 2 ?_
    refine AOps.nil ?_
    refine AGo.ret ?_
    refine ⟨[_], ⟨rfl, trivial⟩, ?_, rfl⟩
    show AV.bool _ = AV.bool _
    congr 1
    simp [setsOp, *]
   ·
    refine AGo.cond_false false rfl rfl ?_
    refine AGo.seq ?_
    refine AGo.region ?_
    refine aq 8 (q_bin rfl rfl rfl rfl) ?_
    refine aa 4 ?_
    refine AOps.nil ?_
    refine AGo.split 4 rfl (fun hb4 => ?_) (fun hb4 => ?_)
    ·
     refine AGo.cond_true true rfl rfl ?_
     refine AGo.skip ?_
     refine AGo.cond_true true rfl rfl ?_
     refine AGo.seq ?_
     refine AGo.region ?_
     refine aa 2 ?_
     refine AOps.nil ?_
     refine AGo.ret ?_
     refine ⟨[_], ⟨rfl, trivial⟩, ?_, rfl⟩
     show AV.bool _ = AV.bool _
     congr 1
     simp [setsOp, *]
    ·
     refine AGo.cond_false false rfl rfl ?_
     refine AGo.seq ?_
     refine AGo.region ?_
     refine aq 9 (q_bin rfl rfl rfl rfl) ?_
     refine aa 4 ?_
     refine AOps.nil ?_
     refine AGo.split 4 rfl (fun hb5 => ?_) (fun hb5 => ?_)
     ·
      refine AGo.cond_true true rfl rfl ?_
      refine AGo.skip ?_
      refine AGo.cond_true true rfl rfl ?_
      refine AGo.seq ?_
      refine AGo.region ?_
      refine aa 2 ?_
      refine AOps.nil ?_
      refine AGo.ret ?_
      refine ⟨[_], ⟨rfl, trivial⟩, ?_, rfl⟩
      show AV.bool _ = AV.bool _
      congr 1
      simp [setsOp, *]
     ·
      refine AGo.cond_false false rfl rfl ?_
      refine AGo.region ?_
      refine aq 10 (q_bin rfl rfl rfl rfl) ?_
      refine aa 4 ?_
      refine AOps.nil ?_
      refine AGo.split 4 rfl (fun hb6 => ?_) (fun hb6 => ?_)
      ·
       refine AGo.cond_true true rfl rfl ?_
       refine AGo.seq ?_
       refine AGo.region ?_
       refine aa 2 ?_
       refine AOps.nil ?_
       refine AGo.ret ?_
       refine ⟨[_], ⟨rfl, trivial⟩, ?_, rfl⟩
       show AV.bool _ = AV.bool _
       congr 1
       simp [setsOp, *]
      ·
       refine AGo.cond_false false rfl rfl ?_
       refine AGo.skip ?_
       refine AGo.seq ?_
       refine AGo.region ?_
       refine aa 2 ?_
       refine AOps.nil ?_
       refine AGo.ret ?_
       refine ⟨[_], ⟨rfl, trivial⟩, ?_, rfl⟩
       show AV.bool _ = AV.bool _
       congr 1
       simp [setsOp, *]

set_option maxRecDepth 100000 in
theorem breads_ok (op : Int) : APure Try.prog 65 [.int .i64 op] (fun r => r = .int .i64 (readsN op)) := by
 refine APure.of_body (n := 12) tok Try.func65 rfl rfl ?_
 refine AGo.seq ?_
 refine AGo.region ?_
 refine aa 2 ?_
 refine AOps.nil ?_
 refine AGo.seq ?_
 refine AGo.seq ?_
 refine AGo.region ?_
 refine am 3 ?_
 refine AOps.nil ?_
 refine AGo.block ?_
 refine AGo.seq ?_
 refine AGo.seq ?_
 refine AGo.region ?_
 refine aq 5 (q_bin rfl rfl rfl rfl) ?_
 refine aa 4 ?_
 refine AOps.nil ?_
 refine AGo.split 4 rfl (fun hb1 => ?_) (fun hb1 => ?_)
 ·
  refine AGo.cond_true true rfl rfl ?_
  refine AGo.skip ?_
  refine AGo.cond_true true rfl rfl ?_
  refine AGo.seq ?_
  refine AGo.region ?_
  refine aa 2 ?_
  refine AOps.nil ?_
  refine AGo.ret ?_
  refine ⟨[_], ⟨rfl, trivial⟩, ?_, rfl⟩
  show AV.int .i64 _ = AV.int .i64 _
  congr 1
  simp [readsN, use1, use2, *]
 ·
  refine AGo.cond_false false rfl rfl ?_
  refine AGo.seq ?_
  refine AGo.region ?_
  refine aq 6 (q_bin rfl rfl rfl rfl) ?_
  refine aa 4 ?_
  refine AOps.nil ?_
  refine AGo.split 4 rfl (fun hb2 => ?_) (fun hb2 => ?_)
  ·
   refine AGo.cond_true true rfl rfl ?_
   refine AGo.skip ?_
   refine AGo.cond_true true rfl rfl ?_
   refine AGo.seq ?_
   refine AGo.region ?_
   refine aa 2 ?_
   refine AOps.nil ?_
   refine AGo.ret ?_
   refine ⟨[_], ⟨rfl, trivial⟩, ?_, rfl⟩
   show AV.int .i64 _ = AV.int .i64 _
   congr 1
   simp [readsN, use1, use2, *]
  ·
   refine AGo.cond_false false rfl rfl ?_
   refine AGo.seq ?_
   refine AGo.region ?_
   refine aq 7 (q_bin rfl rfl rfl rfl) ?_
   refine aa 4 ?_
   refine AOps.nil ?_
   refine AGo.split 4 rfl (fun hb3 => ?_) (fun hb3 => ?_)
   ·
    refine AGo.cond_true true rfl rfl ?_
    refine AGo.skip ?_
    refine AGo.cond_true true rfl rfl ?_
    refine AGo.seq ?_
    refine AGo.region ?_
    refine aa 2 ?_
    refine AOps.nil ?_
    refine AGo.ret ?_
    refine ⟨[_], ⟨rfl, trivial⟩, ?_, rfl⟩
    show AV.int .i64 _ = AV.int .i64 _
    congr 1
    simp [readsN, use1, use2, *]
   ·
    refine AGo.cond_false false rfl rfl ?_
    refine AGo.region ?_
    refine aq 8 (q_bin rfl rfl rfl rfl) ?_
    refine aa 4 ?_
    refine AOps.nil ?_
    refine AGo.split 4 rfl (fun hb4 => ?_) (fun hb4 => ?_)
    ·
     refine AGo.cond_true true rfl rfl ?_
     refine AGo.seq ?_
     refine AGo.region ?_
     refine aa 2 ?_
     refine AOps.nil ?_
     refine AGo.ret ?_
     refine ⟨[_], ⟨rfl, trivial⟩, ?_, rfl⟩
     show AV.int .i64 _ = AV.int .i64 _
     congr 1
     simp [readsN, use1, use2, *]
    ·
     refine AGo.cond_false false rfl rfl ?_
     refine AGo.seq ?_
     refine AGo.seq ?_
     refine AGo.region ?_
     refine aq 10 (q_bin rfl rfl rfl rfl) ?_
     refine aa 9 ?_
     refine AOps.nil ?_
     refine AGo.split 9 rfl (fun hb5 => ?_) (fun hb5 => ?_)
     ·
      refine AGo.cond_true true rfl rfl ?_
      refine AGo.skip ?_
      refine AGo.cond_true true rfl rfl ?_
      refine AGo.seq ?_
      refine AGo.region ?_
      refine aa 2 ?_
      refine AOps.nil ?_
      refine AGo.ret ?_
      refine ⟨[_], ⟨rfl, trivial⟩, ?_, rfl⟩
      show AV.int .i64 _ = AV.int .i64 _
      congr 1
      simp [readsN, use1, use2, *]
     ·
      refine AGo.cond_false false rfl rfl ?_
      refine AGo.region ?_
      refine aq 11 (q_bin rfl rfl rfl rfl) ?_
      refine aa 9 ?_
      refine AOps.nil ?_
      refine AGo.split 9 rfl (fun hb6 => ?_) (fun hb6 => ?_)
      ·
       refine AGo.cond_true true rfl rfl ?_
       refine AGo.seq ?_
       refine AGo.region ?_
       refine aa 2 ?_
       refine AOps.nil ?_
       refine AGo.ret ?_
       refine ⟨[_], ⟨rfl, trivial⟩, ?_, rfl⟩
       show AV.int .i64 _ = AV.int .i64 _
       congr 1
       simp [readsN, use1, use2, *]
      ·
       refine AGo.cond_false false rfl rfl ?_
       refine AGo.skip ?_
       refine AGo.seq ?_
       refine AGo.region ?_
       refine aa 2 ?_
       refine AOps.nil ?_
       refine AGo.ret ?_
       refine ⟨[_], ⟨rfl, trivial⟩, ?_, rfl⟩
       show AV.int .i64 _ = AV.int .i64 _
       congr 1
       simp [readsN, use1, use2, *]

set_option maxRecDepth 100000 in
theorem breg_ok (words f regs blocks r : Int) : APure Try.prog 63 [(.agg [.int .i64 words, .int .i64 f, .int .i64 regs, .int .i64 blocks]), .int .i64 r] (fun q => q = .bool (within r regs)) := by
 refine APure.of_body (n := 13) tok Try.func63 rfl rfl ?_
 refine AGo.seq ?_
 refine AGo.region ?_
 refine ax 2 (o_box (sz := 4) 0 rfl rfl rfl rfl (Nat.zero_lt_succ _) rfl) ?_
 refine aa 4 ?_
 refine AOps.nil ?_
 refine AGo.seq ?_
 refine AGo.region ?_
 refine am 5 ?_
 refine aq 6 (q_bin rfl rfl rfl rfl) ?_
 refine am 7 ?_
 refine AOps.split 7 rfl (fun hb1 => ?_) (fun hb1 => ?_)
 ·
  refine am 8 ?_
  refine af 9 tok ?_
  refine al 10 tok ?_
  refine aq 11 (q_bin rfl rfl rfl rfl) ?_
  refine aq 12 (q_pick_true true rfl rfl rfl rfl) ?_
  refine aa 4 ?_
  refine AOps.nil ?_
  refine AGo.ret ?_
  refine ⟨[_], ⟨rfl, trivial⟩, ?_, rfl⟩
  show AV.bool _ = AV.bool _
  congr 1
  first | (simp_all [within]; done) | (simp_all [within]; omega)
 ·
  refine ak 8 ?_
  refine ak 9 ?_
  refine ak 10 ?_
  refine ak 11 ?_
  refine aq 12 (q_pick_false false rfl rfl rfl rfl) ?_
  refine aa 4 ?_
  refine AOps.nil ?_
  refine AGo.ret ?_
  refine ⟨[_], ⟨rfl, trivial⟩, ?_, rfl⟩
  show AV.bool _ = AV.bool _
  congr 1
  first | (simp_all [within]; done) | (simp_all [within]; omega)

set_option maxRecDepth 100000 in
theorem bend_ok (words f regs blocks : Int) (x : Block) : APure Try.prog 54 [(.agg [.int .i64 words, .int .i64 f, .int .i64 regs, .int .i64 blocks]), .agg x.cells] (fun q => q = .bool (x.ends blocks regs)) := by
 refine APure.of_body (n := 67) tok Try.func54 rfl rfl ?_
 refine AGo.seq ?_
 refine AGo.region ?_
 refine ax 2 (o_box (sz := 4) 0 rfl rfl rfl rfl (Nat.zero_lt_succ _) rfl) ?_
 refine ax 3 (o_box (sz := 5) 1 rfl rfl rfl rfl (Nat.zero_lt_succ _) rfl) ?_
 refine aa 4 ?_
 refine AOps.nil ?_
 refine AGo.seq ?_
 refine AGo.join (γ := Unit) (fun _u => ⟨67, (eput (eput (eput eNew 2 (.ptr 0 1 0 0)) 3 (.ptr 1 1 0 0)) 5 (.bool (within x.to blocks))), (hput (hput (hFrom 2) 0 (.row false 4 [[.int .i64 words, .int .i64 f, .int .i64 regs, .int .i64 blocks]])) 1 (.row false 5 [x.cells]))⟩) (fun _u => True) ?_ ?_
 ·
  refine AGo.region ?_
  refine af 6 tok ?_
  refine al 7 tok ?_
  refine aq 8 (q_bin rfl rfl rfl rfl) ?_
  refine am 9 ?_
  refine AOps.split 9 rfl (fun hb1 => ?_) (fun hb1 => ?_)
  ·
   refine af 10 tok ?_
   refine al 11 tok ?_
   refine af 12 tok ?_
   refine al 13 tok ?_
   refine aq 14 (q_bin rfl rfl rfl rfl) ?_
   refine aq 15 (q_pick_true true rfl rfl rfl rfl) ?_
   refine aa 5 ?_
   refine AOps.nil ?_
   exact ⟨(), Sub.mk' (by repeat (first | exact ESub.new _ | refine ESub.put ?_ (by first | rfl | exact congrArg (fun c => some (AV.bool c)) (by first | (simp_all [within]; done) | (simp_all [within]; omega))))) (by repeat (first | exact HSub.refl _ | exact HSub.none _ | exact HSub.from_new _ | exact HSub.from_from (by first | decide | omega | (dsimp only; omega)) | refine HSub.put ?_ (by rfl) | refine HSub.from_put ?_ (by first | decide | omega | (dsimp only; omega)) | refine HSub.from_rm ?_ (by decide))), trivial⟩
  ·
   refine ak 10 ?_
   refine ak 11 ?_
   refine ak 12 ?_
   refine ak 13 ?_
   refine ak 14 ?_
   refine aq 15 (q_pick_false false rfl rfl rfl rfl) ?_
   refine aa 5 ?_
   refine AOps.nil ?_
   exact ⟨(), Sub.mk' (by repeat (first | exact ESub.new _ | refine ESub.put ?_ (by first | rfl | exact congrArg (fun c => some (AV.bool c)) (by first | (simp_all [within]; done) | (simp_all [within]; omega))))) (by repeat (first | exact HSub.refl _ | exact HSub.none _ | exact HSub.from_new _ | exact HSub.from_from (by first | decide | omega | (dsimp only; omega)) | refine HSub.put ?_ (by rfl) | refine HSub.from_put ?_ (by first | decide | omega | (dsimp only; omega)) | refine HSub.from_rm ?_ (by decide))), trivial⟩
 intro _u _
 refine AGo.seq ?_
 refine AGo.seq ?_
 refine AGo.region ?_
 refine af 16 tok ?_
 refine al 17 tok ?_
 refine AOps.nil ?_
 refine AGo.block ?_
 refine AGo.seq ?_
 refine AGo.region ?_
 refine aq 19 (q_bin rfl rfl rfl rfl) ?_
 refine aa 18 ?_
 refine AOps.nil ?_
 refine AGo.split 18 rfl (fun hb2 => ?_) (fun hb2 => ?_)
 ·
  refine AGo.cond_true true rfl rfl ?_
  refine AGo.seq ?_
  refine AGo.region ?_
  refine am 20 ?_
  refine am 21 ?_
  refine AOps.split 21 rfl (fun hb3 => ?_) (fun hb3 => ?_)
  ·
   refine af 22 tok ?_
   refine al 23 tok ?_
   refine aq 24 (q_bin rfl rfl rfl rfl) ?_
   refine aq 25 (q_pick_true true rfl rfl rfl rfl) ?_
   refine am 26 ?_
   refine AOps.split 26 rfl (fun hb4 => ?_) (fun hb4 => ?_)
   ·
    refine af 27 tok ?_
    refine al 28 tok ?_
    refine aq 29 (q_bin rfl rfl rfl rfl) ?_
    refine aq 30 (q_pick_true true rfl rfl rfl rfl) ?_
    refine aa 4 ?_
    refine AOps.nil ?_
    refine AGo.ret ?_
    refine ⟨[_], ⟨rfl, trivial⟩, ?_, rfl⟩
    show AV.bool _ = AV.bool _
    congr 1
    first | (simp_all [Block.ends, within]; done) | (simp_all [Block.ends, within]; omega)
   ·
    refine ak 27 ?_
    refine ak 28 ?_
    refine ak 29 ?_
    refine aq 30 (q_pick_false false rfl rfl rfl rfl) ?_
    refine aa 4 ?_
    refine AOps.nil ?_
    refine AGo.ret ?_
    refine ⟨[_], ⟨rfl, trivial⟩, ?_, rfl⟩
    show AV.bool _ = AV.bool _
    congr 1
    first | (simp_all [Block.ends, within]; done) | (simp_all [Block.ends, within]; omega)
  ·
   refine ak 22 ?_
   refine ak 23 ?_
   refine ak 24 ?_
   refine aq 25 (q_pick_false false rfl rfl rfl rfl) ?_
   refine am 26 ?_
   refine ak 27 ?_
   refine ak 28 ?_
   refine ak 29 ?_
   refine aq 30 (q_pick_false false rfl rfl rfl rfl) ?_
   refine aa 4 ?_
   refine AOps.nil ?_
   refine AGo.ret ?_
   refine ⟨[_], ⟨rfl, trivial⟩, ?_, rfl⟩
   show AV.bool _ = AV.bool _
   congr 1
   first | (simp_all [Block.ends, within]; done) | (simp_all [Block.ends, within]; omega)
 ·
  refine AGo.cond_false false rfl rfl ?_
  refine AGo.seq ?_
  refine AGo.region ?_
  refine aq 32 (q_bin rfl rfl rfl rfl) ?_
  refine aa 31 ?_
  refine AOps.nil ?_
  refine AGo.split 31 rfl (fun hb5 => ?_) (fun hb5 => ?_)
  ·
   refine AGo.cond_true true rfl rfl ?_
   refine AGo.seq ?_
   refine AGo.region ?_
   refine am 33 ?_
   refine am 34 ?_
   refine AOps.split 34 rfl (fun hb6 => ?_) (fun hb6 => ?_)
   ·
    refine al 35 tok ?_
    refine af 36 tok ?_
    refine al 37 tok ?_
    refine ax 38 (o_pure rfl Try.func63 (by kernel_rfl) rfl rfl rfl (breg_ok _ _ _ _ _)) ?_
    refine aq 39 (q_pick_true true rfl rfl rfl rfl) ?_
    refine am 40 ?_
    refine AOps.split 40 rfl (fun hb7 => ?_) (fun hb7 => ?_)
    ·
     refine af 41 tok ?_
     refine al 42 tok ?_
     refine aq 43 (q_bin rfl rfl rfl rfl) ?_
     refine aq 44 (q_pick_true true rfl rfl rfl rfl) ?_
     refine am 45 ?_
     refine AOps.split 45 rfl (fun hb8 => ?_) (fun hb8 => ?_)
     ·
      refine af 46 tok ?_
      refine al 47 tok ?_
      refine af 48 tok ?_
      refine al 49 tok ?_
      refine aq 50 (q_bin rfl rfl rfl rfl) ?_
      refine aq 51 (q_pick_true true rfl rfl rfl rfl) ?_
      refine aa 4 ?_
      refine AOps.nil ?_
      refine AGo.ret ?_
      refine ⟨[_], ⟨rfl, trivial⟩, ?_, rfl⟩
      show AV.bool _ = AV.bool _
      congr 1
      first | (simp_all [Block.ends, within]; done) | (simp_all [Block.ends, within]; omega)
     ·
      refine ak 46 ?_
      refine ak 47 ?_
      refine ak 48 ?_
      refine ak 49 ?_
      refine ak 50 ?_
      refine aq 51 (q_pick_false false rfl rfl rfl rfl) ?_
      refine aa 4 ?_
      refine AOps.nil ?_
      refine AGo.ret ?_
      refine ⟨[_], ⟨rfl, trivial⟩, ?_, rfl⟩
      show AV.bool _ = AV.bool _
      congr 1
      first | (simp_all [Block.ends, within]; done) | (simp_all [Block.ends, within]; omega)
    ·
     refine ak 41 ?_
     refine ak 42 ?_
     refine ak 43 ?_
     refine aq 44 (q_pick_false false rfl rfl rfl rfl) ?_
     refine am 45 ?_
     refine ak 46 ?_
     refine ak 47 ?_
     refine ak 48 ?_
     refine ak 49 ?_
     refine ak 50 ?_
     refine aq 51 (q_pick_false false rfl rfl rfl rfl) ?_
     refine aa 4 ?_
     refine AOps.nil ?_
     refine AGo.ret ?_
     refine ⟨[_], ⟨rfl, trivial⟩, ?_, rfl⟩
     show AV.bool _ = AV.bool _
     congr 1
     first | (simp_all [Block.ends, within]; done) | (simp_all [Block.ends, within]; omega)
   ·
    refine ak 35 ?_
    refine ak 36 ?_
    refine ak 37 ?_
    refine ak 38 ?_
    refine aq 39 (q_pick_false false rfl rfl rfl rfl) ?_
    refine am 40 ?_
    refine ak 41 ?_
    refine ak 42 ?_
    refine ak 43 ?_
    refine aq 44 (q_pick_false false rfl rfl rfl rfl) ?_
    refine am 45 ?_
    refine ak 46 ?_
    refine ak 47 ?_
    refine ak 48 ?_
    refine ak 49 ?_
    refine ak 50 ?_
    refine aq 51 (q_pick_false false rfl rfl rfl rfl) ?_
    refine aa 4 ?_
    refine AOps.nil ?_
    refine AGo.ret ?_
    refine ⟨[_], ⟨rfl, trivial⟩, ?_, rfl⟩
    show AV.bool _ = AV.bool _
    congr 1
    first | (simp_all [Block.ends, within]; done) | (simp_all [Block.ends, within]; omega)
  ·
   refine AGo.cond_false false rfl rfl ?_
   refine AGo.seq ?_
   refine AGo.region ?_
   refine aq 53 (q_bin rfl rfl rfl rfl) ?_
   refine aa 52 ?_
   refine AOps.nil ?_
   refine AGo.split 52 rfl (fun hb9 => ?_) (fun hb9 => ?_)
   ·
    refine AGo.cond_true true rfl rfl ?_
    refine AGo.seq ?_
    refine AGo.region ?_
    refine af 54 tok ?_
    refine al 55 tok ?_
    refine aq 56 (q_bin rfl rfl rfl rfl) ?_
    refine am 57 ?_
    refine AOps.split 57 rfl (fun hb10 => ?_) (fun hb10 => ?_)
    ·
     refine af 58 tok ?_
     refine al 59 tok ?_
     refine aq 60 (q_bin rfl rfl rfl rfl) ?_
     refine aq 61 (q_pick_true true rfl rfl rfl rfl) ?_
     refine am 62 ?_
     refine AOps.split 62 rfl (fun hb11 => ?_) (fun hb11 => ?_)
     ·
      refine af 63 tok ?_
      refine al 64 tok ?_
      refine aq 65 (q_bin rfl rfl rfl rfl) ?_
      refine aq 66 (q_pick_true true rfl rfl rfl rfl) ?_
      refine aa 4 ?_
      refine AOps.nil ?_
      refine AGo.ret ?_
      refine ⟨[_], ⟨rfl, trivial⟩, ?_, rfl⟩
      show AV.bool _ = AV.bool _
      congr 1
      first | (simp_all [Block.ends, within]; done) | (simp_all [Block.ends, within]; omega)
     ·
      refine ak 63 ?_
      refine ak 64 ?_
      refine ak 65 ?_
      refine aq 66 (q_pick_false false rfl rfl rfl rfl) ?_
      refine aa 4 ?_
      refine AOps.nil ?_
      refine AGo.ret ?_
      refine ⟨[_], ⟨rfl, trivial⟩, ?_, rfl⟩
      show AV.bool _ = AV.bool _
      congr 1
      first | (simp_all [Block.ends, within]; done) | (simp_all [Block.ends, within]; omega)
    ·
     refine ak 58 ?_
     refine ak 59 ?_
     refine ak 60 ?_
     refine aq 61 (q_pick_false false rfl rfl rfl rfl) ?_
     refine am 62 ?_
     refine ak 63 ?_
     refine ak 64 ?_
     refine ak 65 ?_
     refine aq 66 (q_pick_false false rfl rfl rfl rfl) ?_
     refine aa 4 ?_
     refine AOps.nil ?_
     refine AGo.ret ?_
     refine ⟨[_], ⟨rfl, trivial⟩, ?_, rfl⟩
     show AV.bool _ = AV.bool _
     congr 1
     first | (simp_all [Block.ends, within]; done) | (simp_all [Block.ends, within]; omega)
   ·
    refine AGo.cond_false false rfl rfl ?_
    refine AGo.skip ?_
    refine AGo.seq ?_
    refine AGo.region ?_
    refine aa 4 ?_
    refine AOps.nil ?_
    refine AGo.ret ?_
    refine ⟨[_], ⟨rfl, trivial⟩, ?_, rfl⟩
    show AV.bool _ = AV.bool _
    congr 1
    first | (simp_all [Block.ends, within]; done) | (simp_all [Block.ends, within]; omega)

end Go.Proofs.Ytpijoieooikfgaa.Sv

namespace Go.Proofs.Ytpijoieooikfgaa.Sv
open Go

set_option maxRecDepth 100000 in
theorem brest_ok (words f regs blocks : Int) (t : Tac) (hw : 0 ≤ words) (hw2 : words ≤ 1048576) : APure Try.prog 66 [(.agg [.int .i64 words, .int .i64 f, .int .i64 regs, .int .i64 blocks]), .agg t.cells] (fun q => q = .bool (t.rest2 f words)) := by
 refine APure.of_body (n := 115) tok Try.func66 rfl rfl ?_
 refine AGo.seq ?_
 refine AGo.region ?_
 refine ax 2 (o_box (sz := 4) 0 rfl rfl rfl rfl (Nat.zero_lt_succ _) rfl) ?_
 refine ax 3 (o_box (sz := 8) 1 rfl rfl rfl rfl (Nat.zero_lt_succ _) rfl) ?_
 refine aa 4 ?_
 refine AOps.nil ?_
 refine AGo.seq ?_
 refine AGo.seq ?_
 refine AGo.join (γ := Unit) (fun _u => ⟨115, (eput (eput (eput eNew 2 (.ptr 0 1 0 0)) 3 (.ptr 1 1 0 0)) 23 (.bool ((t.op != 1 && t.n != 0) || (t.op != 3 && t.k != 0)))), (hput (hput (hFrom 2) 0 (.row false 4 [[.int .i64 words, .int .i64 f, .int .i64 regs, .int .i64 blocks]])) 1 (.row false 8 [t.cells]))⟩) (fun _u => True) ?_ ?_
 ·
  refine AGo.region ?_
  refine af 6 tok ?_
  refine al 7 tok ?_
  refine aq 8 (q_bin rfl rfl rfl rfl) ?_
  refine am 9 ?_
  refine AOps.split 9 rfl (fun hb1 => ?_) (fun hb1 => ?_)
  ·
   refine af 10 tok ?_
   refine al 11 tok ?_
   refine aq 12 (q_bin rfl rfl rfl rfl) ?_
   refine aq 13 (q_pick_true true rfl rfl rfl rfl) ?_
   refine am 14 ?_
   refine AOps.split 14 rfl (fun hb2 => ?_) (fun hb2 => ?_)
   ·
    refine ak 15 ?_
    refine ak 16 ?_
    refine ak 17 ?_
    refine ak 18 ?_
    refine ak 19 ?_
    refine ak 20 ?_
    refine ak 21 ?_
    refine ak 22 ?_
    refine aq 23 (q_pick_true true rfl rfl rfl rfl) ?_
    refine AOps.nil ?_
    exact ⟨(), Sub.mk' (by repeat (first | exact ESub.new _ | refine ESub.put ?_ (by first | rfl | exact congrArg (fun c => some (AV.bool c)) (by simp_all [arrOp])))) (by repeat (first | exact HSub.refl _ | exact HSub.none _ | exact HSub.from_new _ | exact HSub.from_from (by first | decide | omega | (dsimp only; omega)) | refine HSub.put ?_ (by rfl) | refine HSub.from_put ?_ (by first | decide | omega | (dsimp only; omega)) | refine HSub.from_rm ?_ (by decide))), trivial⟩
   ·
    refine af 15 tok ?_
    refine al 16 tok ?_
    refine aq 17 (q_bin rfl rfl rfl rfl) ?_
    refine am 18 ?_
    refine AOps.split 18 rfl (fun hb3 => ?_) (fun hb3 => ?_)
    ·
     refine af 19 tok ?_
     refine al 20 tok ?_
     refine aq 21 (q_bin rfl rfl rfl rfl) ?_
     refine aq 22 (q_pick_true true rfl rfl rfl rfl) ?_
     refine aq 23 (q_pick_false false rfl rfl rfl rfl) ?_
     refine AOps.nil ?_
     exact ⟨(), Sub.mk' (by repeat (first | exact ESub.new _ | refine ESub.put ?_ (by first | rfl | exact congrArg (fun c => some (AV.bool c)) (by simp_all [arrOp])))) (by repeat (first | exact HSub.refl _ | exact HSub.none _ | exact HSub.from_new _ | exact HSub.from_from (by first | decide | omega | (dsimp only; omega)) | refine HSub.put ?_ (by rfl) | refine HSub.from_put ?_ (by first | decide | omega | (dsimp only; omega)) | refine HSub.from_rm ?_ (by decide))), trivial⟩
    ·
     refine ak 19 ?_
     refine ak 20 ?_
     refine ak 21 ?_
     refine aq 22 (q_pick_false false rfl rfl rfl rfl) ?_
     refine aq 23 (q_pick_false false rfl rfl rfl rfl) ?_
     refine AOps.nil ?_
     exact ⟨(), Sub.mk' (by repeat (first | exact ESub.new _ | refine ESub.put ?_ (by first | rfl | exact congrArg (fun c => some (AV.bool c)) (by simp_all [arrOp])))) (by repeat (first | exact HSub.refl _ | exact HSub.none _ | exact HSub.from_new _ | exact HSub.from_from (by first | decide | omega | (dsimp only; omega)) | refine HSub.put ?_ (by rfl) | refine HSub.from_put ?_ (by first | decide | omega | (dsimp only; omega)) | refine HSub.from_rm ?_ (by decide))), trivial⟩
  ·
   refine ak 10 ?_
   refine ak 11 ?_
   refine ak 12 ?_
   refine aq 13 (q_pick_false false rfl rfl rfl rfl) ?_
   refine am 14 ?_
   refine af 15 tok ?_
   refine al 16 tok ?_
   refine aq 17 (q_bin rfl rfl rfl rfl) ?_
   refine am 18 ?_
   refine AOps.split 18 rfl (fun hb4 => ?_) (fun hb4 => ?_)
   ·
    refine af 19 tok ?_
    refine al 20 tok ?_
    refine aq 21 (q_bin rfl rfl rfl rfl) ?_
    refine aq 22 (q_pick_true true rfl rfl rfl rfl) ?_
    refine aq 23 (q_pick_false false rfl rfl rfl rfl) ?_
    refine AOps.nil ?_
    exact ⟨(), Sub.mk' (by repeat (first | exact ESub.new _ | refine ESub.put ?_ (by first | rfl | exact congrArg (fun c => some (AV.bool c)) (by simp_all [arrOp])))) (by repeat (first | exact HSub.refl _ | exact HSub.none _ | exact HSub.from_new _ | exact HSub.from_from (by first | decide | omega | (dsimp only; omega)) | refine HSub.put ?_ (by rfl) | refine HSub.from_put ?_ (by first | decide | omega | (dsimp only; omega)) | refine HSub.from_rm ?_ (by decide))), trivial⟩
   ·
    refine ak 19 ?_
    refine ak 20 ?_
    refine ak 21 ?_
    refine aq 22 (q_pick_false false rfl rfl rfl rfl) ?_
    refine aq 23 (q_pick_false false rfl rfl rfl rfl) ?_
    refine AOps.nil ?_
    exact ⟨(), Sub.mk' (by repeat (first | exact ESub.new _ | refine ESub.put ?_ (by first | rfl | exact congrArg (fun c => some (AV.bool c)) (by simp_all [arrOp])))) (by repeat (first | exact HSub.refl _ | exact HSub.none _ | exact HSub.from_new _ | exact HSub.from_from (by first | decide | omega | (dsimp only; omega)) | refine HSub.put ?_ (by rfl) | refine HSub.from_put ?_ (by first | decide | omega | (dsimp only; omega)) | refine HSub.from_rm ?_ (by decide))), trivial⟩
 intro _u _
 refine AGo.split 23 rfl (fun hb5 => ?_) (fun hb5 => ?_)
 ·
  refine AGo.cond_true true rfl rfl ?_
  refine AGo.seq ?_
  refine AGo.region ?_
  refine aa 4 ?_
  refine AOps.nil ?_
  refine AGo.ret ?_
  refine ⟨[_], ⟨rfl, trivial⟩, ?_, rfl⟩
  show AV.bool _ = AV.bool _
  congr 1
  first | (simp_all [Tac.rest2, arrOp]; done) | (simp_all [Tac.rest2, arrOp]; omega)
 ·
  refine AGo.cond_false false rfl rfl ?_
  have hq1 := hb5
  refine AGo.skip ?_
  refine AGo.seq ?_
  refine AGo.join (γ := Unit) (fun _u => ⟨115, (eput (eput (eput eNew 2 (.ptr 0 1 0 0)) 3 (.ptr 1 1 0 0)) 5 (.bool (arrOp t.op))), (hput (hput (hFrom 2) 0 (.row false 4 [[.int .i64 words, .int .i64 f, .int .i64 regs, .int .i64 blocks]])) 1 (.row false 8 [t.cells]))⟩) (fun _u => True) ?_ ?_
  ·
   refine AGo.region ?_
   refine af 24 tok ?_
   refine al 25 tok ?_
   refine aq 26 (q_bin rfl rfl rfl rfl) ?_
   refine am 27 ?_
   refine AOps.split 27 rfl (fun hb6 => ?_) (fun hb6 => ?_)
   ·
    refine ak 28 ?_
    refine ak 29 ?_
    refine ak 30 ?_
    refine aq 31 (q_pick_true true rfl rfl rfl rfl) ?_
    refine aa 5 ?_
    refine AOps.nil ?_
    exact ⟨(), Sub.mk' (by repeat (first | exact ESub.new _ | refine ESub.put ?_ (by first | rfl | exact congrArg (fun c => some (AV.bool c)) (by simp_all [arrOp])))) (by repeat (first | exact HSub.refl _ | exact HSub.none _ | exact HSub.from_new _ | exact HSub.from_from (by first | decide | omega | (dsimp only; omega)) | refine HSub.put ?_ (by rfl) | refine HSub.from_put ?_ (by first | decide | omega | (dsimp only; omega)) | refine HSub.from_rm ?_ (by decide))), trivial⟩
   ·
    refine af 28 tok ?_
    refine al 29 tok ?_
    refine aq 30 (q_bin rfl rfl rfl rfl) ?_
    refine aq 31 (q_pick_false false rfl rfl rfl rfl) ?_
    refine aa 5 ?_
    refine AOps.nil ?_
    exact ⟨(), Sub.mk' (by repeat (first | exact ESub.new _ | refine ESub.put ?_ (by first | rfl | exact congrArg (fun c => some (AV.bool c)) (by simp_all [arrOp])))) (by repeat (first | exact HSub.refl _ | exact HSub.none _ | exact HSub.from_new _ | exact HSub.from_from (by first | decide | omega | (dsimp only; omega)) | refine HSub.put ?_ (by rfl) | refine HSub.from_put ?_ (by first | decide | omega | (dsimp only; omega)) | refine HSub.from_rm ?_ (by decide))), trivial⟩
  intro _u _
  refine AGo.seq ?_
  refine AGo.seq ?_
  refine AGo.join (γ := Unit) (fun _u => ⟨115, (eput (eput (eput eNew 2 (.ptr 0 1 0 0)) 3 (.ptr 1 1 0 0)) 38 (.bool (!arrOp t.op && t.size != 0))), (hput (hput (hFrom 2) 0 (.row false 4 [[.int .i64 words, .int .i64 f, .int .i64 regs, .int .i64 blocks]])) 1 (.row false 8 [t.cells]))⟩) (fun _u => True) ?_ ?_
  ·
   refine AGo.region ?_
   refine am 32 ?_
   refine aq 33 (q_not rfl rfl) ?_
   refine am 34 ?_
   refine AOps.split 34 rfl (fun hb7 => ?_) (fun hb7 => ?_)
   ·
    refine af 35 tok ?_
    refine al 36 tok ?_
    refine aq 37 (q_bin rfl rfl rfl rfl) ?_
    refine aq 38 (q_pick_true true rfl rfl rfl rfl) ?_
    refine AOps.nil ?_
    exact ⟨(), Sub.mk' (by repeat (first | exact ESub.new _ | refine ESub.put ?_ (by first | rfl | exact congrArg (fun c => some (AV.bool c)) (by simp_all [arrOp])))) (by repeat (first | exact HSub.refl _ | exact HSub.none _ | exact HSub.from_new _ | exact HSub.from_from (by first | decide | omega | (dsimp only; omega)) | refine HSub.put ?_ (by rfl) | refine HSub.from_put ?_ (by first | decide | omega | (dsimp only; omega)) | refine HSub.from_rm ?_ (by decide))), trivial⟩
   ·
    refine ak 35 ?_
    refine ak 36 ?_
    refine ak 37 ?_
    refine aq 38 (q_pick_false false rfl rfl rfl rfl) ?_
    refine AOps.nil ?_
    exact ⟨(), Sub.mk' (by repeat (first | exact ESub.new _ | refine ESub.put ?_ (by first | rfl | exact congrArg (fun c => some (AV.bool c)) (by simp_all [arrOp])))) (by repeat (first | exact HSub.refl _ | exact HSub.none _ | exact HSub.from_new _ | exact HSub.from_from (by first | decide | omega | (dsimp only; omega)) | refine HSub.put ?_ (by rfl) | refine HSub.from_put ?_ (by first | decide | omega | (dsimp only; omega)) | refine HSub.from_rm ?_ (by decide))), trivial⟩
  intro _u _
  refine AGo.split 38 rfl (fun hb8 => ?_) (fun hb8 => ?_)
  ·
   refine AGo.cond_true true rfl rfl ?_
   refine AGo.seq ?_
   refine AGo.region ?_
   refine aa 4 ?_
   refine AOps.nil ?_
   refine AGo.ret ?_
   refine ⟨[_], ⟨rfl, trivial⟩, ?_, rfl⟩
   show AV.bool _ = AV.bool _
   congr 1
   first | (simp_all [Tac.rest2, arrOp]; done) | (simp_all [Tac.rest2, arrOp]; omega)
  ·
   refine AGo.cond_false false rfl rfl ?_
   have hq2 := hb8
   refine AGo.skip ?_
   refine AGo.seq ?_
   refine AGo.seq ?_
   refine AGo.region ?_
   refine af 39 tok ?_
   refine al 40 tok ?_
   refine AOps.nil ?_
   refine AGo.block ?_
   refine AGo.seq ?_
   refine AGo.seq ?_
   refine AGo.region ?_
   refine aq 42 (q_bin rfl rfl rfl rfl) ?_
   refine aa 41 ?_
   refine AOps.nil ?_
   refine AGo.split 41 rfl (fun hb9 => ?_) (fun hb9 => ?_)
   ·
    refine AGo.cond_true true rfl rfl ?_
    refine AGo.skip ?_
    refine AGo.cond_true true rfl rfl ?_
    refine AGo.seq ?_
    refine AGo.region ?_
    refine af 46 tok ?_
    refine al 47 tok ?_
    refine aq 48 (q_bin rfl rfl rfl rfl) ?_
    refine aa 4 ?_
    refine AOps.nil ?_
    refine AGo.ret ?_
    refine ⟨[_], ⟨rfl, trivial⟩, ?_, rfl⟩
    show AV.bool _ = AV.bool _
    congr 1
    first | (simp_all [Tac.rest2, arrOp]; done) | (simp_all [Tac.rest2, arrOp]; omega)
   ·
    refine AGo.cond_false false rfl rfl ?_
    refine AGo.seq ?_
    refine AGo.region ?_
    refine aq 43 (q_bin rfl rfl rfl rfl) ?_
    refine aa 41 ?_
    refine AOps.nil ?_
    refine AGo.split 41 rfl (fun hb10 => ?_) (fun hb10 => ?_)
    ·
     refine AGo.cond_true true rfl rfl ?_
     refine AGo.skip ?_
     refine AGo.cond_true true rfl rfl ?_
     refine AGo.seq ?_
     refine AGo.region ?_
     refine af 46 tok ?_
     refine al 47 tok ?_
     refine aq 48 (q_bin rfl rfl rfl rfl) ?_
     refine aa 4 ?_
     refine AOps.nil ?_
     refine AGo.ret ?_
     refine ⟨[_], ⟨rfl, trivial⟩, ?_, rfl⟩
     show AV.bool _ = AV.bool _
     congr 1
     first | (simp_all [Tac.rest2, arrOp]; done) | (simp_all [Tac.rest2, arrOp]; omega)
    ·
     refine AGo.cond_false false rfl rfl ?_
     refine AGo.seq ?_
     refine AGo.region ?_
     refine aq 44 (q_bin rfl rfl rfl rfl) ?_
     refine aa 41 ?_
     refine AOps.nil ?_
     refine AGo.split 41 rfl (fun hb11 => ?_) (fun hb11 => ?_)
     ·
      refine AGo.cond_true true rfl rfl ?_
      refine AGo.skip ?_
      refine AGo.cond_true true rfl rfl ?_
      refine AGo.seq ?_
      refine AGo.region ?_
      refine af 46 tok ?_
      refine al 47 tok ?_
      refine aq 48 (q_bin rfl rfl rfl rfl) ?_
      refine aa 4 ?_
      refine AOps.nil ?_
      refine AGo.ret ?_
      refine ⟨[_], ⟨rfl, trivial⟩, ?_, rfl⟩
      show AV.bool _ = AV.bool _
      congr 1
      first | (simp_all [Tac.rest2, arrOp]; done) | (simp_all [Tac.rest2, arrOp]; omega)
     ·
      refine AGo.cond_false false rfl rfl ?_
      refine AGo.region ?_
      refine aq 45 (q_bin rfl rfl rfl rfl) ?_
      refine aa 41 ?_
      refine AOps.nil ?_
      refine AGo.split 41 rfl (fun hb12 => ?_) (fun hb12 => ?_)
      ·
       refine AGo.cond_true true rfl rfl ?_
       refine AGo.seq ?_
       refine AGo.region ?_
       refine af 46 tok ?_
       refine al 47 tok ?_
       refine aq 48 (q_bin rfl rfl rfl rfl) ?_
       refine aa 4 ?_
       refine AOps.nil ?_
       refine AGo.ret ?_
       refine ⟨[_], ⟨rfl, trivial⟩, ?_, rfl⟩
       show AV.bool _ = AV.bool _
       congr 1
       first | (simp_all [Tac.rest2, arrOp]; done) | (simp_all [Tac.rest2, arrOp]; omega)
      ·
       refine AGo.cond_false false rfl rfl ?_
       refine AGo.seq ?_
       refine AGo.region ?_
       refine aq 50 (q_bin rfl rfl rfl rfl) ?_
       refine aa 49 ?_
       refine AOps.nil ?_
       refine AGo.split 49 rfl (fun hb13 => ?_) (fun hb13 => ?_)
       ·
        refine AGo.cond_true true rfl rfl ?_
        refine AGo.seq ?_
        refine AGo.region ?_
        refine af 51 tok ?_
        refine al 52 tok ?_
        refine aq 53 (q_bin rfl rfl rfl rfl) ?_
        refine am 54 ?_
        refine AOps.split 54 rfl (fun hb14 => ?_) (fun hb14 => ?_)
        ·
         refine af 55 tok ?_
         refine al 56 tok ?_
         refine aq 57 (q_bin rfl rfl rfl rfl) ?_
         refine aq 58 (q_pick_true true rfl rfl rfl rfl) ?_
         refine am 59 ?_
         refine AOps.split 59 rfl (fun hb15 => ?_) (fun hb15 => ?_)
         ·
          refine af 60 tok ?_
          refine al 61 tok ?_
          refine aq 62 (q_bin rfl rfl rfl rfl) ?_
          refine aq 63 (q_pick_true true rfl rfl rfl rfl) ?_
          refine aa 4 ?_
          refine AOps.nil ?_
          refine AGo.ret ?_
          refine ⟨[_], ⟨rfl, trivial⟩, ?_, rfl⟩
          show AV.bool _ = AV.bool _
          congr 1
          first | (simp_all [Tac.rest2, arrOp]; done) | (simp_all [Tac.rest2, arrOp]; omega)
         ·
          refine ak 60 ?_
          refine ak 61 ?_
          refine ak 62 ?_
          refine aq 63 (q_pick_false false rfl rfl rfl rfl) ?_
          refine aa 4 ?_
          refine AOps.nil ?_
          refine AGo.ret ?_
          refine ⟨[_], ⟨rfl, trivial⟩, ?_, rfl⟩
          show AV.bool _ = AV.bool _
          congr 1
          first | (simp_all [Tac.rest2, arrOp]; done) | (simp_all [Tac.rest2, arrOp]; omega)
        ·
         refine ak 55 ?_
         refine ak 56 ?_
         refine ak 57 ?_
         refine aq 58 (q_pick_false false rfl rfl rfl rfl) ?_
         refine am 59 ?_
         refine ak 60 ?_
         refine ak 61 ?_
         refine ak 62 ?_
         refine aq 63 (q_pick_false false rfl rfl rfl rfl) ?_
         refine aa 4 ?_
         refine AOps.nil ?_
         refine AGo.ret ?_
         refine ⟨[_], ⟨rfl, trivial⟩, ?_, rfl⟩
         show AV.bool _ = AV.bool _
         congr 1
         first | (simp_all [Tac.rest2, arrOp]; done) | (simp_all [Tac.rest2, arrOp]; omega)
       ·
        refine AGo.cond_false false rfl rfl ?_
        refine AGo.seq ?_
        refine AGo.seq ?_
        refine AGo.region ?_
        refine aq 65 (q_bin rfl rfl rfl rfl) ?_
        refine aa 64 ?_
        refine AOps.nil ?_
        refine AGo.split 64 rfl (fun hb16 => ?_) (fun hb16 => ?_)
        ·
         refine AGo.cond_true true rfl rfl ?_
         refine AGo.skip ?_
         refine AGo.cond_true true rfl rfl ?_
         refine AGo.seq ?_
         refine AGo.region ?_
         refine af 67 tok ?_
         refine al 68 tok ?_
         refine aq 69 (q_bin rfl rfl rfl rfl) ?_
         refine am 70 ?_
         refine AOps.split 70 rfl (fun hb17 => ?_) (fun hb17 => ?_)
         ·
          refine af 71 tok ?_
          refine al 72 tok ?_
          refine af 73 tok ?_
          refine al 74 tok ?_
          refine aq 75 (q_bin rfl rfl rfl rfl) ?_
          refine aq 76 (q_pick_true true rfl rfl rfl rfl) ?_
          refine aa 4 ?_
          refine AOps.nil ?_
          refine AGo.ret ?_
          refine ⟨[_], ⟨rfl, trivial⟩, ?_, rfl⟩
          show AV.bool _ = AV.bool _
          congr 1
          first | (simp_all [Tac.rest2, arrOp]; done) | (simp_all [Tac.rest2, arrOp]; omega)
         ·
          refine ak 71 ?_
          refine ak 72 ?_
          refine ak 73 ?_
          refine ak 74 ?_
          refine ak 75 ?_
          refine aq 76 (q_pick_false false rfl rfl rfl rfl) ?_
          refine aa 4 ?_
          refine AOps.nil ?_
          refine AGo.ret ?_
          refine ⟨[_], ⟨rfl, trivial⟩, ?_, rfl⟩
          show AV.bool _ = AV.bool _
          congr 1
          first | (simp_all [Tac.rest2, arrOp]; done) | (simp_all [Tac.rest2, arrOp]; omega)
        ·
         refine AGo.cond_false false rfl rfl ?_
         refine AGo.region ?_
         refine aq 66 (q_bin rfl rfl rfl rfl) ?_
         refine aa 64 ?_
         refine AOps.nil ?_
         refine AGo.split 64 rfl (fun hb18 => ?_) (fun hb18 => ?_)
         ·
          refine AGo.cond_true true rfl rfl ?_
          refine AGo.seq ?_
          refine AGo.region ?_
          refine af 67 tok ?_
          refine al 68 tok ?_
          refine aq 69 (q_bin rfl rfl rfl rfl) ?_
          refine am 70 ?_
          refine AOps.split 70 rfl (fun hb19 => ?_) (fun hb19 => ?_)
          ·
           refine af 71 tok ?_
           refine al 72 tok ?_
           refine af 73 tok ?_
           refine al 74 tok ?_
           refine aq 75 (q_bin rfl rfl rfl rfl) ?_
           refine aq 76 (q_pick_true true rfl rfl rfl rfl) ?_
           refine aa 4 ?_
           refine AOps.nil ?_
           refine AGo.ret ?_
           refine ⟨[_], ⟨rfl, trivial⟩, ?_, rfl⟩
           show AV.bool _ = AV.bool _
           congr 1
           first | (simp_all [Tac.rest2, arrOp]; done) | (simp_all [Tac.rest2, arrOp]; omega)
          ·
           refine ak 71 ?_
           refine ak 72 ?_
           refine ak 73 ?_
           refine ak 74 ?_
           refine ak 75 ?_
           refine aq 76 (q_pick_false false rfl rfl rfl rfl) ?_
           refine aa 4 ?_
           refine AOps.nil ?_
           refine AGo.ret ?_
           refine ⟨[_], ⟨rfl, trivial⟩, ?_, rfl⟩
           show AV.bool _ = AV.bool _
           congr 1
           first | (simp_all [Tac.rest2, arrOp]; done) | (simp_all [Tac.rest2, arrOp]; omega)
         ·
          refine AGo.cond_false false rfl rfl ?_
          refine AGo.seq ?_
          refine AGo.seq ?_
          refine AGo.region ?_
          refine aq 78 (q_bin rfl rfl rfl rfl) ?_
          refine aa 77 ?_
          refine AOps.nil ?_
          refine AGo.split 77 rfl (fun hb20 => ?_) (fun hb20 => ?_)
          ·
           refine AGo.cond_true true rfl rfl ?_
           refine AGo.skip ?_
           refine AGo.cond_true true rfl rfl ?_
           refine AGo.seq ?_
           refine AGo.region ?_
           refine af 80 tok ?_
           refine al 81 tok ?_
           refine aq 82 (q_bin rfl rfl rfl rfl) ?_
           refine am 83 ?_
           refine AOps.split 83 rfl (fun hb21 => ?_) (fun hb21 => ?_)
           ·
            refine af 84 tok ?_
            refine al 85 tok ?_
            refine aq 86 (q_bin rfl rfl rfl rfl) ?_
            refine aq 87 (q_pick_true true rfl rfl rfl rfl) ?_
            refine am 88 ?_
            refine AOps.split 88 rfl (fun hb22 => ?_) (fun hb22 => ?_)
            ·
             refine af 89 tok ?_
             refine al 90 tok ?_
             refine aq 91 (q_bin rfl rfl rfl rfl) ?_
             refine aq 92 (q_pick_true true rfl rfl rfl rfl) ?_
             refine am 93 ?_
             refine AOps.split 93 rfl (fun hb23 => ?_) (fun hb23 => ?_)
             ·
              refine af 94 tok ?_
              refine al 95 tok ?_
              refine af 96 tok ?_
              refine al 97 tok ?_
              refine af 98 tok ?_
              refine al 99 tok ?_
              refine aq 100 (q_bin rfl rfl rfl rfl) ?_
              refine aq 101 (q_bin rfl rfl rfl rfl) ?_
              refine aq 102 (q_pick_true true rfl rfl rfl rfl) ?_
              refine aa 4 ?_
              refine AOps.nil ?_
              refine AGo.ret ?_
              refine ⟨[_], ⟨rfl, trivial⟩, ?_, rfl⟩
              show AV.bool _ = AV.bool _
              congr 1
              rcases Decidable.em (1 ≤ t.size ∧ t.size ≤ 4096) with hsz | hsz
              · try rw [wrap_i64 (x := words - t.size) (by omega) (by omega)]
                first | (simp_all [Tac.rest2, arrOp]; done) | (simp_all [Tac.rest2, arrOp]; omega)
              · first | (simp_all [Tac.rest2, arrOp]; done) | (simp_all [Tac.rest2, arrOp]; omega)
             ·
              refine ak 94 ?_
              refine ak 95 ?_
              refine ak 96 ?_
              refine ak 97 ?_
              refine ak 98 ?_
              refine ak 99 ?_
              refine ak 100 ?_
              refine ak 101 ?_
              refine aq 102 (q_pick_false false rfl rfl rfl rfl) ?_
              refine aa 4 ?_
              refine AOps.nil ?_
              refine AGo.ret ?_
              refine ⟨[_], ⟨rfl, trivial⟩, ?_, rfl⟩
              show AV.bool _ = AV.bool _
              congr 1
              rcases Decidable.em (1 ≤ t.size ∧ t.size ≤ 4096) with hsz | hsz
              · try rw [wrap_i64 (x := words - t.size) (by omega) (by omega)]
                first | (simp_all [Tac.rest2, arrOp]; done) | (simp_all [Tac.rest2, arrOp]; omega)
              · first | (simp_all [Tac.rest2, arrOp]; done) | (simp_all [Tac.rest2, arrOp]; omega)
            ·
             refine ak 89 ?_
             refine ak 90 ?_
             refine ak 91 ?_
             refine aq 92 (q_pick_false false rfl rfl rfl rfl) ?_
             refine am 93 ?_
             refine ak 94 ?_
             refine ak 95 ?_
             refine ak 96 ?_
             refine ak 97 ?_
             refine ak 98 ?_
             refine ak 99 ?_
             refine ak 100 ?_
             refine ak 101 ?_
             refine aq 102 (q_pick_false false rfl rfl rfl rfl) ?_
             refine aa 4 ?_
             refine AOps.nil ?_
             refine AGo.ret ?_
             refine ⟨[_], ⟨rfl, trivial⟩, ?_, rfl⟩
             show AV.bool _ = AV.bool _
             congr 1
             rcases Decidable.em (1 ≤ t.size ∧ t.size ≤ 4096) with hsz | hsz
             · try rw [wrap_i64 (x := words - t.size) (by omega) (by omega)]
               first | (simp_all [Tac.rest2, arrOp]; done) | (simp_all [Tac.rest2, arrOp]; omega)
             · first | (simp_all [Tac.rest2, arrOp]; done) | (simp_all [Tac.rest2, arrOp]; omega)
           ·
            refine ak 84 ?_
            refine ak 85 ?_
            refine ak 86 ?_
            refine aq 87 (q_pick_false false rfl rfl rfl rfl) ?_
            refine am 88 ?_
            refine ak 89 ?_
            refine ak 90 ?_
            refine ak 91 ?_
            refine aq 92 (q_pick_false false rfl rfl rfl rfl) ?_
            refine am 93 ?_
            refine ak 94 ?_
            refine ak 95 ?_
            refine ak 96 ?_
            refine ak 97 ?_
            refine ak 98 ?_
            refine ak 99 ?_
            refine ak 100 ?_
            refine ak 101 ?_
            refine aq 102 (q_pick_false false rfl rfl rfl rfl) ?_
            refine aa 4 ?_
            refine AOps.nil ?_
            refine AGo.ret ?_
            refine ⟨[_], ⟨rfl, trivial⟩, ?_, rfl⟩
            show AV.bool _ = AV.bool _
            congr 1
            rcases Decidable.em (1 ≤ t.size ∧ t.size ≤ 4096) with hsz | hsz
            · try rw [wrap_i64 (x := words - t.size) (by omega) (by omega)]
              first | (simp_all [Tac.rest2, arrOp]; done) | (simp_all [Tac.rest2, arrOp]; omega)
            · first | (simp_all [Tac.rest2, arrOp]; done) | (simp_all [Tac.rest2, arrOp]; omega)
          ·
           refine AGo.cond_false false rfl rfl ?_
           refine AGo.region ?_
           refine aq 79 (q_bin rfl rfl rfl rfl) ?_
           refine aa 77 ?_
           refine AOps.nil ?_
           refine AGo.split 77 rfl (fun hb24 => ?_) (fun hb24 => ?_)
           ·
            refine AGo.cond_true true rfl rfl ?_
            refine AGo.seq ?_
            refine AGo.region ?_
            refine af 80 tok ?_
            refine al 81 tok ?_
            refine aq 82 (q_bin rfl rfl rfl rfl) ?_
            refine am 83 ?_
            refine AOps.split 83 rfl (fun hb25 => ?_) (fun hb25 => ?_)
            ·
             refine af 84 tok ?_
             refine al 85 tok ?_
             refine aq 86 (q_bin rfl rfl rfl rfl) ?_
             refine aq 87 (q_pick_true true rfl rfl rfl rfl) ?_
             refine am 88 ?_
             refine AOps.split 88 rfl (fun hb26 => ?_) (fun hb26 => ?_)
             ·
              refine af 89 tok ?_
              refine al 90 tok ?_
              refine aq 91 (q_bin rfl rfl rfl rfl) ?_
              refine aq 92 (q_pick_true true rfl rfl rfl rfl) ?_
              refine am 93 ?_
              refine AOps.split 93 rfl (fun hb27 => ?_) (fun hb27 => ?_)
              ·
               refine af 94 tok ?_
               refine al 95 tok ?_
               refine af 96 tok ?_
               refine al 97 tok ?_
               refine af 98 tok ?_
               refine al 99 tok ?_
               refine aq 100 (q_bin rfl rfl rfl rfl) ?_
               refine aq 101 (q_bin rfl rfl rfl rfl) ?_
               refine aq 102 (q_pick_true true rfl rfl rfl rfl) ?_
               refine aa 4 ?_
               refine AOps.nil ?_
               refine AGo.ret ?_
               refine ⟨[_], ⟨rfl, trivial⟩, ?_, rfl⟩
               show AV.bool _ = AV.bool _
               congr 1
               rcases Decidable.em (1 ≤ t.size ∧ t.size ≤ 4096) with hsz | hsz
               · try rw [wrap_i64 (x := words - t.size) (by omega) (by omega)]
                 first | (simp_all [Tac.rest2, arrOp]; done) | (simp_all [Tac.rest2, arrOp]; omega)
               · first | (simp_all [Tac.rest2, arrOp]; done) | (simp_all [Tac.rest2, arrOp]; omega)
              ·
               refine ak 94 ?_
               refine ak 95 ?_
               refine ak 96 ?_
               refine ak 97 ?_
               refine ak 98 ?_
               refine ak 99 ?_
               refine ak 100 ?_
               refine ak 101 ?_
               refine aq 102 (q_pick_false false rfl rfl rfl rfl) ?_
               refine aa 4 ?_
               refine AOps.nil ?_
               refine AGo.ret ?_
               refine ⟨[_], ⟨rfl, trivial⟩, ?_, rfl⟩
               show AV.bool _ = AV.bool _
               congr 1
               rcases Decidable.em (1 ≤ t.size ∧ t.size ≤ 4096) with hsz | hsz
               · try rw [wrap_i64 (x := words - t.size) (by omega) (by omega)]
                 first | (simp_all [Tac.rest2, arrOp]; done) | (simp_all [Tac.rest2, arrOp]; omega)
               · first | (simp_all [Tac.rest2, arrOp]; done) | (simp_all [Tac.rest2, arrOp]; omega)
             ·
              refine ak 89 ?_
              refine ak 90 ?_
              refine ak 91 ?_
              refine aq 92 (q_pick_false false rfl rfl rfl rfl) ?_
              refine am 93 ?_
              refine ak 94 ?_
              refine ak 95 ?_
              refine ak 96 ?_
              refine ak 97 ?_
              refine ak 98 ?_
              refine ak 99 ?_
              refine ak 100 ?_
              refine ak 101 ?_
              refine aq 102 (q_pick_false false rfl rfl rfl rfl) ?_
              refine aa 4 ?_
              refine AOps.nil ?_
              refine AGo.ret ?_
              refine ⟨[_], ⟨rfl, trivial⟩, ?_, rfl⟩
              show AV.bool _ = AV.bool _
              congr 1
              rcases Decidable.em (1 ≤ t.size ∧ t.size ≤ 4096) with hsz | hsz
              · try rw [wrap_i64 (x := words - t.size) (by omega) (by omega)]
                first | (simp_all [Tac.rest2, arrOp]; done) | (simp_all [Tac.rest2, arrOp]; omega)
              · first | (simp_all [Tac.rest2, arrOp]; done) | (simp_all [Tac.rest2, arrOp]; omega)
            ·
             refine ak 84 ?_
             refine ak 85 ?_
             refine ak 86 ?_
             refine aq 87 (q_pick_false false rfl rfl rfl rfl) ?_
             refine am 88 ?_
             refine ak 89 ?_
             refine ak 90 ?_
             refine ak 91 ?_
             refine aq 92 (q_pick_false false rfl rfl rfl rfl) ?_
             refine am 93 ?_
             refine ak 94 ?_
             refine ak 95 ?_
             refine ak 96 ?_
             refine ak 97 ?_
             refine ak 98 ?_
             refine ak 99 ?_
             refine ak 100 ?_
             refine ak 101 ?_
             refine aq 102 (q_pick_false false rfl rfl rfl rfl) ?_
             refine aa 4 ?_
             refine AOps.nil ?_
             refine AGo.ret ?_
             refine ⟨[_], ⟨rfl, trivial⟩, ?_, rfl⟩
             show AV.bool _ = AV.bool _
             congr 1
             rcases Decidable.em (1 ≤ t.size ∧ t.size ≤ 4096) with hsz | hsz
             · try rw [wrap_i64 (x := words - t.size) (by omega) (by omega)]
               first | (simp_all [Tac.rest2, arrOp]; done) | (simp_all [Tac.rest2, arrOp]; omega)
             · first | (simp_all [Tac.rest2, arrOp]; done) | (simp_all [Tac.rest2, arrOp]; omega)
           ·
            refine AGo.cond_false false rfl rfl ?_
            refine AGo.seq ?_
            refine AGo.region ?_
            refine aq 104 (q_bin rfl rfl rfl rfl) ?_
            refine aa 103 ?_
            refine AOps.nil ?_
            refine AGo.split 103 rfl (fun hb28 => ?_) (fun hb28 => ?_)
            ·
             refine AGo.cond_true true rfl rfl ?_
             refine AGo.seq ?_
             refine AGo.region ?_
             refine af 105 tok ?_
             refine al 106 tok ?_
             refine aq 107 (q_bin rfl rfl rfl rfl) ?_
             refine am 108 ?_
             refine AOps.split 108 rfl (fun hb29 => ?_) (fun hb29 => ?_)
             ·
              refine af 109 tok ?_
              refine al 110 tok ?_
              refine af 111 tok ?_
              refine al 112 tok ?_
              refine aq 113 (q_bin rfl rfl rfl rfl) ?_
              refine aq 114 (q_pick_true true rfl rfl rfl rfl) ?_
              refine aa 4 ?_
              refine AOps.nil ?_
              refine AGo.ret ?_
              refine ⟨[_], ⟨rfl, trivial⟩, ?_, rfl⟩
              show AV.bool _ = AV.bool _
              congr 1
              first | (simp_all [Tac.rest2, arrOp]; done) | (simp_all [Tac.rest2, arrOp]; omega)
             ·
              refine ak 109 ?_
              refine ak 110 ?_
              refine ak 111 ?_
              refine ak 112 ?_
              refine ak 113 ?_
              refine aq 114 (q_pick_false false rfl rfl rfl rfl) ?_
              refine aa 4 ?_
              refine AOps.nil ?_
              refine AGo.ret ?_
              refine ⟨[_], ⟨rfl, trivial⟩, ?_, rfl⟩
              show AV.bool _ = AV.bool _
              congr 1
              first | (simp_all [Tac.rest2, arrOp]; done) | (simp_all [Tac.rest2, arrOp]; omega)
            ·
             refine AGo.cond_false false rfl rfl ?_
             refine AGo.skip ?_
             refine AGo.seq ?_
             refine AGo.region ?_
             refine aa 4 ?_
             refine AOps.nil ?_
             refine AGo.ret ?_
             refine ⟨[_], ⟨rfl, trivial⟩, ?_, rfl⟩
             show AV.bool _ = AV.bool _
             congr 1
             first | (simp_all [Tac.rest2, arrOp]; done) | (simp_all [Tac.rest2, arrOp]; omega)

set_option maxRecDepth 100000 in
theorem bins_ok (words f regs blocks : Int) (t : Tac) (hw : 0 ≤ words) (hw2 : words ≤ 1048576) : APure Try.prog 55 [(.agg [.int .i64 words, .int .i64 f, .int .i64 regs, .int .i64 blocks]), .agg t.cells] (fun q => q = .bool (t.fits f regs words)) := by
 rw [← ins2_fits]
 refine APure.of_body (n := 58) tok Try.func55 rfl rfl ?_
 refine AGo.seq ?_
 refine AGo.region ?_
 refine ax 2 (o_box (sz := 4) 0 rfl rfl rfl rfl (Nat.zero_lt_succ _) rfl) ?_
 refine ax 3 (o_box (sz := 8) 1 rfl rfl rfl rfl (Nat.zero_lt_succ _) rfl) ?_
 refine aa 4 ?_
 refine AOps.nil ?_
 refine AGo.seq ?_
 refine AGo.seq ?_
 refine AGo.region ?_
 refine af 5 tok ?_
 refine al 6 tok ?_
 refine ax 7 (o_pure rfl Try.func64 (by kernel_rfl) rfl rfl rfl (bsetsOp_ok _)) ?_
 refine AOps.nil ?_
 refine AGo.join (γ := Unit) (fun _u => ⟨58, (eput (eput eNew 2 (.ptr 0 1 0 0)) 3 (.ptr 1 1 0 0)), (hput (hput (hFrom 2) 0 (.row false 4 [[.int .i64 words, .int .i64 f, .int .i64 regs, .int .i64 blocks]])) 1 (.row false 8 [t.cells]))⟩) (fun _u => (bif setsOp t.op then within t.d regs else t.d == 0) = true) ?_ ?_
 ·
  refine AGo.split 7 rfl (fun hb1 => ?_) (fun hb1 => ?_)
  ·
   refine AGo.cond_true true rfl rfl ?_
   refine AGo.seq ?_
   refine AGo.region ?_
   refine al 8 tok ?_
   refine af 9 tok ?_
   refine al 10 tok ?_
   refine ax 11 (o_pure rfl Try.func63 (by kernel_rfl) rfl rfl rfl (breg_ok _ _ _ _ _)) ?_
   refine aq 12 (q_not rfl rfl) ?_
   refine AOps.nil ?_
   refine AGo.split 12 rfl (fun hb2 => ?_) (fun hb2 => ?_)
   ·
    refine AGo.cond_true true rfl rfl ?_
    refine AGo.seq ?_
    refine AGo.region ?_
    refine aa 4 ?_
    refine AOps.nil ?_
    refine AGo.ret ?_
    refine ⟨[_], ⟨rfl, trivial⟩, ?_, rfl⟩
    show AV.bool _ = AV.bool _
    congr 1
    simp_all [Tac.ins2]
   ·
    refine AGo.cond_false false rfl rfl ?_
    refine AGo.skip ?_
    exact ⟨(), Sub.mk' (by repeat (first | exact ESub.new _ | refine ESub.put ?_ (by rfl))) (by repeat (first | exact HSub.refl _ | exact HSub.none _ | exact HSub.from_new _ | exact HSub.from_from (by first | decide | omega | (dsimp only; omega)) | refine HSub.put ?_ (by rfl) | refine HSub.from_put ?_ (by first | decide | omega | (dsimp only; omega)) | refine HSub.from_rm ?_ (by decide))), (by simp_all)⟩
  ·
   refine AGo.cond_false false rfl rfl ?_
   refine AGo.seq ?_
   refine AGo.region ?_
   refine af 13 tok ?_
   refine al 14 tok ?_
   refine aq 15 (q_bin rfl rfl rfl rfl) ?_
   refine AOps.nil ?_
   refine AGo.split 15 rfl (fun hb3 => ?_) (fun hb3 => ?_)
   ·
    refine AGo.cond_true true rfl rfl ?_
    refine AGo.seq ?_
    refine AGo.region ?_
    refine aa 4 ?_
    refine AOps.nil ?_
    refine AGo.ret ?_
    refine ⟨[_], ⟨rfl, trivial⟩, ?_, rfl⟩
    show AV.bool _ = AV.bool _
    congr 1
    simp_all [Tac.ins2]
   ·
    refine AGo.cond_false false rfl rfl ?_
    refine AGo.skip ?_
    exact ⟨(), Sub.mk' (by repeat (first | exact ESub.new _ | refine ESub.put ?_ (by rfl))) (by repeat (first | exact HSub.refl _ | exact HSub.none _ | exact HSub.from_new _ | exact HSub.from_from (by first | decide | omega | (dsimp only; omega)) | refine HSub.put ?_ (by rfl) | refine HSub.from_put ?_ (by first | decide | omega | (dsimp only; omega)) | refine HSub.from_rm ?_ (by decide))), (by simp_all)⟩
 intro _u hq1
 refine AGo.seq ?_
 refine AGo.seq ?_
 refine AGo.region ?_
 refine af 16 tok ?_
 refine al 17 tok ?_
 refine ax 18 (o_pure rfl Try.func65 (by kernel_rfl) rfl rfl rfl (breads_ok _)) ?_
 refine AOps.nil ?_
 refine AGo.join (γ := Unit) (fun _u => ⟨58, (eput (eput eNew 2 (.ptr 0 1 0 0)) 3 (.ptr 1 1 0 0)), (hput (hput (hFrom 2) 0 (.row false 4 [[.int .i64 words, .int .i64 f, .int .i64 regs, .int .i64 blocks]])) 1 (.row false 8 [t.cells]))⟩) (fun _u => (bif use1 t.op then within t.a regs && t.b == 0 else bif use2 t.op then within t.a regs && within t.b regs else t.a == 0 && t.b == 0) = true) ?_ ?_
 ·
  refine AGo.block ?_
  refine AGo.seq ?_
  refine AGo.region ?_
  refine aq 20 (q_bin rfl rfl rfl rfl) ?_
  refine aa 19 ?_
  refine AOps.nil ?_
  refine AGo.split 19 rfl (fun hb4 => ?_) (fun hb4 => ?_)
  ·
   refine AGo.cond_true true rfl rfl ?_
   have hrd : readsN t.op = 0 := by simpa using hb4
   have hu : use1 t.op = false ∧ use2 t.op = false := reads0 hrd
   refine AGo.seq ?_
   refine AGo.region ?_
   refine af 21 tok ?_
   refine al 22 tok ?_
   refine aq 23 (q_bin rfl rfl rfl rfl) ?_
   refine am 24 ?_
   refine AOps.split 24 rfl (fun hb5 => ?_) (fun hb5 => ?_)
   ·
    refine ak 25 ?_
    refine ak 26 ?_
    refine ak 27 ?_
    refine aq 28 (q_pick_true true rfl rfl rfl rfl) ?_
    refine AOps.nil ?_
    refine AGo.cond_true true rfl rfl ?_
    refine AGo.seq ?_
    refine AGo.region ?_
    refine aa 4 ?_
    refine AOps.nil ?_
    refine AGo.ret ?_
    refine ⟨[_], ⟨rfl, trivial⟩, ?_, rfl⟩
    show AV.bool _ = AV.bool _
    congr 1
    simp_all [Tac.ins2]
   ·
    refine af 25 tok ?_
    refine al 26 tok ?_
    refine aq 27 (q_bin rfl rfl rfl rfl) ?_
    refine aq 28 (q_pick_false false rfl rfl rfl rfl) ?_
    refine AOps.nil ?_
    refine AGo.split 28 rfl (fun hb6 => ?_) (fun hb6 => ?_)
    ·
     refine AGo.cond_true true rfl rfl ?_
     refine AGo.seq ?_
     refine AGo.region ?_
     refine aa 4 ?_
     refine AOps.nil ?_
     refine AGo.ret ?_
     refine ⟨[_], ⟨rfl, trivial⟩, ?_, rfl⟩
     show AV.bool _ = AV.bool _
     congr 1
     simp_all [Tac.ins2]
    ·
     refine AGo.cond_false false rfl rfl ?_
     refine AGo.skip ?_
     exact ⟨(), Sub.mk' (by repeat (first | exact ESub.new _ | refine ESub.put ?_ (by rfl))) (by repeat (first | exact HSub.refl _ | exact HSub.none _ | exact HSub.from_new _ | exact HSub.from_from (by first | decide | omega | (dsimp only; omega)) | refine HSub.put ?_ (by rfl) | refine HSub.from_put ?_ (by first | decide | omega | (dsimp only; omega)) | refine HSub.from_rm ?_ (by decide))), (by first | (simp_all; done) | (exfalso; have := readsN_or t.op; simp_all))⟩
  ·
   refine AGo.cond_false false rfl rfl ?_
   refine AGo.seq ?_
   refine AGo.region ?_
   refine aq 30 (q_bin rfl rfl rfl rfl) ?_
   refine aa 29 ?_
   refine AOps.nil ?_
   refine AGo.split 29 rfl (fun hb7 => ?_) (fun hb7 => ?_)
   ·
    refine AGo.cond_true true rfl rfl ?_
    have hrd : readsN t.op = 1 := by simpa using hb7
    have hu : use1 t.op = true := reads1 hrd
    refine AGo.seq ?_
    refine AGo.region ?_
    refine al 31 tok ?_
    refine af 32 tok ?_
    refine al 33 tok ?_
    refine ax 34 (o_pure rfl Try.func63 (by kernel_rfl) rfl rfl rfl (breg_ok _ _ _ _ _)) ?_
    refine aq 35 (q_not rfl rfl) ?_
    refine am 36 ?_
    refine AOps.split 36 rfl (fun hb8 => ?_) (fun hb8 => ?_)
    ·
     refine ak 37 ?_
     refine ak 38 ?_
     refine ak 39 ?_
     refine aq 40 (q_pick_true true rfl rfl rfl rfl) ?_
     refine AOps.nil ?_
     refine AGo.cond_true true rfl rfl ?_
     refine AGo.seq ?_
     refine AGo.region ?_
     refine aa 4 ?_
     refine AOps.nil ?_
     refine AGo.ret ?_
     refine ⟨[_], ⟨rfl, trivial⟩, ?_, rfl⟩
     show AV.bool _ = AV.bool _
     congr 1
     simp_all [Tac.ins2]
    ·
     refine af 37 tok ?_
     refine al 38 tok ?_
     refine aq 39 (q_bin rfl rfl rfl rfl) ?_
     refine aq 40 (q_pick_false false rfl rfl rfl rfl) ?_
     refine AOps.nil ?_
     refine AGo.split 40 rfl (fun hb9 => ?_) (fun hb9 => ?_)
     ·
      refine AGo.cond_true true rfl rfl ?_
      refine AGo.seq ?_
      refine AGo.region ?_
      refine aa 4 ?_
      refine AOps.nil ?_
      refine AGo.ret ?_
      refine ⟨[_], ⟨rfl, trivial⟩, ?_, rfl⟩
      show AV.bool _ = AV.bool _
      congr 1
      simp_all [Tac.ins2]
     ·
      refine AGo.cond_false false rfl rfl ?_
      refine AGo.skip ?_
      exact ⟨(), Sub.mk' (by repeat (first | exact ESub.new _ | refine ESub.put ?_ (by rfl))) (by repeat (first | exact HSub.refl _ | exact HSub.none _ | exact HSub.from_new _ | exact HSub.from_from (by first | decide | omega | (dsimp only; omega)) | refine HSub.put ?_ (by rfl) | refine HSub.from_put ?_ (by first | decide | omega | (dsimp only; omega)) | refine HSub.from_rm ?_ (by decide))), (by first | (simp_all; done) | (exfalso; have := readsN_or t.op; simp_all))⟩
   ·
    refine AGo.cond_false false rfl rfl ?_
    refine AGo.seq ?_
    refine AGo.region ?_
    refine aq 42 (q_bin rfl rfl rfl rfl) ?_
    refine aa 41 ?_
    refine AOps.nil ?_
    refine AGo.split 41 rfl (fun hb10 => ?_) (fun hb10 => ?_)
    ·
     refine AGo.cond_true true rfl rfl ?_
     have hrd : readsN t.op = 2 := by simpa using hb10
     have hu : use1 t.op = false ∧ use2 t.op = true := reads2 hrd
     refine AGo.seq ?_
     refine AGo.region ?_
     refine al 43 tok ?_
     refine af 44 tok ?_
     refine al 45 tok ?_
     refine ax 46 (o_pure rfl Try.func63 (by kernel_rfl) rfl rfl rfl (breg_ok _ _ _ _ _)) ?_
     refine aq 47 (q_not rfl rfl) ?_
     refine am 48 ?_
     refine AOps.split 48 rfl (fun hb11 => ?_) (fun hb11 => ?_)
     ·
      refine ak 49 ?_
      refine ak 50 ?_
      refine ak 51 ?_
      refine ak 52 ?_
      refine ak 53 ?_
      refine aq 54 (q_pick_true true rfl rfl rfl rfl) ?_
      refine AOps.nil ?_
      refine AGo.cond_true true rfl rfl ?_
      refine AGo.seq ?_
      refine AGo.region ?_
      refine aa 4 ?_
      refine AOps.nil ?_
      refine AGo.ret ?_
      refine ⟨[_], ⟨rfl, trivial⟩, ?_, rfl⟩
      show AV.bool _ = AV.bool _
      congr 1
      simp_all [Tac.ins2]
     ·
      refine al 49 tok ?_
      refine af 50 tok ?_
      refine al 51 tok ?_
      refine ax 52 (o_pure rfl Try.func63 (by kernel_rfl) rfl rfl rfl (breg_ok _ _ _ _ _)) ?_
      refine aq 53 (q_not rfl rfl) ?_
      refine aq 54 (q_pick_false false rfl rfl rfl rfl) ?_
      refine AOps.nil ?_
      refine AGo.split 54 rfl (fun hb12 => ?_) (fun hb12 => ?_)
      ·
       refine AGo.cond_true true rfl rfl ?_
       refine AGo.seq ?_
       refine AGo.region ?_
       refine aa 4 ?_
       refine AOps.nil ?_
       refine AGo.ret ?_
       refine ⟨[_], ⟨rfl, trivial⟩, ?_, rfl⟩
       show AV.bool _ = AV.bool _
       congr 1
       simp_all [Tac.ins2]
      ·
       refine AGo.cond_false false rfl rfl ?_
       refine AGo.skip ?_
       exact ⟨(), Sub.mk' (by repeat (first | exact ESub.new _ | refine ESub.put ?_ (by rfl))) (by repeat (first | exact HSub.refl _ | exact HSub.none _ | exact HSub.from_new _ | exact HSub.from_from (by first | decide | omega | (dsimp only; omega)) | refine HSub.put ?_ (by rfl) | refine HSub.from_put ?_ (by first | decide | omega | (dsimp only; omega)) | refine HSub.from_rm ?_ (by decide))), (by first | (simp_all; done) | (exfalso; have := readsN_or t.op; simp_all))⟩
    ·
     refine AGo.cond_false false rfl rfl ?_
     refine AGo.skip ?_
     exact ⟨(), Sub.mk' (by repeat (first | exact ESub.new _ | refine ESub.put ?_ (by rfl))) (by repeat (first | exact HSub.refl _ | exact HSub.none _ | exact HSub.from_new _ | exact HSub.from_from (by first | decide | omega | (dsimp only; omega)) | refine HSub.put ?_ (by rfl) | refine HSub.from_put ?_ (by first | decide | omega | (dsimp only; omega)) | refine HSub.from_rm ?_ (by decide))), (by first | (simp_all; done) | (exfalso; have := readsN_or t.op; simp_all))⟩
 intro _u hq2
 refine AGo.seq ?_
 refine AGo.region ?_
 refine al 55 tok ?_
 refine al 56 tok ?_
 refine ax 57 (o_pure rfl Try.func66 (by kernel_rfl) rfl rfl rfl (brest_ok _ _ _ _ _ (by assumption) (by assumption))) ?_
 refine aa 4 ?_
 refine AOps.nil ?_
 refine AGo.ret ?_
 refine ⟨[_], ⟨rfl, trivial⟩, ?_, rfl⟩
 show AV.bool _ = AV.bool _
 congr 1
 simp [Tac.ins2, hq1, hq2]

end Go.Proofs.Ytpijoieooikfgaa.Sv

namespace Go.Proofs.Ytpijoieooikfgaa.Sv
open Go

set_option maxRecDepth 100000 in
theorem bright_ok (b : Blocks) : APure Try.prog 44 [.agg b.cells] (fun r => r = .bool b.right) := by
 refine APure.of_body (n := 80) tok Try.func44 rfl rfl ?_
 refine AGo.seq ?_
 refine AGo.slot 0 rfl (fun H ι v => rel_prog) (fun hfit => ?_)
 refine AGo.region ?_
 refine ax 1 (o_box (sz := 2) 0 rfl rfl rfl rfl (Nat.zero_lt_succ _) rfl) ?_
 refine aa 2 ?_
 refine AOps.nil ?_
 refine AGo.seq ?_
 refine AGo.seq ?_
 refine AGo.region ?_
 refine af 10 tok ?_
 refine al 11 tok ?_
 refine aq 12 (q_bin rfl rfl rfl rfl) ?_
 refine am 13 ?_
 refine AOps.split 13 rfl (fun hb1 => ?_) (fun hb1 => ?_)
 ·
  refine ak 14 ?_
  refine ak 15 ?_
  refine ak 16 ?_
  refine aq 17 (q_pick_true true rfl rfl rfl rfl) ?_
  refine am 18 ?_
  refine ak 19 ?_
  refine ak 20 ?_
  refine ak 21 ?_
  refine ak 22 ?_
  refine aq 23 (q_pick_true true rfl rfl rfl rfl) ?_
  refine AOps.nil ?_
  refine AGo.cond_true true rfl rfl ?_
  refine AGo.seq ?_
  refine AGo.region ?_
  refine aa 2 ?_
  refine AOps.nil ?_
  refine AGo.ret ?_
  refine ⟨[_], ⟨rfl, trivial⟩, ?_, rfl⟩
  show AV.bool _ = AV.bool _
  congr 1
  exact (right_bad (by simp only [decide_eq_false_iff_not, decide_eq_true_eq, List.length_map] at *; omega)).symm
 ·
  refine af 14 tok ?_
  refine al 15 tok ?_
  refine aq 16 (q_bin rfl rfl rfl rfl) ?_
  refine aq 17 (q_pick_false false rfl rfl rfl rfl) ?_
  refine am 18 ?_
  refine AOps.split 18 rfl (fun hb2 => ?_) (fun hb2 => ?_)
  ·
   refine ak 19 ?_
   refine ak 20 ?_
   refine ak 21 ?_
   refine ak 22 ?_
   refine aq 23 (q_pick_true true rfl rfl rfl rfl) ?_
   refine AOps.nil ?_
   refine AGo.cond_true true rfl rfl ?_
   refine AGo.seq ?_
   refine AGo.region ?_
   refine aa 2 ?_
   refine AOps.nil ?_
   refine AGo.ret ?_
   refine ⟨[_], ⟨rfl, trivial⟩, ?_, rfl⟩
   show AV.bool _ = AV.bool _
   congr 1
   exact (right_bad (by simp only [decide_eq_false_iff_not, decide_eq_true_eq, List.length_map] at *; omega)).symm
  ·
   refine af 19 tok ?_
   refine al 20 tok ?_
   refine aq 21 (q_len tok rfl rfl rfl rfl rfl) ?_
   refine aq 22 (q_bin rfl rfl rfl rfl) ?_
   refine aq 23 (q_pick_false false rfl rfl rfl rfl) ?_
   refine AOps.nil ?_
   refine AGo.split 23 rfl (fun hb3 => ?_) (fun hb3 => ?_)
   ·
    refine AGo.cond_true true rfl rfl ?_
    refine AGo.seq ?_
    refine AGo.region ?_
    refine aa 2 ?_
    refine AOps.nil ?_
    refine AGo.ret ?_
    refine ⟨[_], ⟨rfl, trivial⟩, ?_, rfl⟩
    show AV.bool _ = AV.bool _
    congr 1
    exact (right_bad (by simp only [decide_eq_false_iff_not, decide_eq_true_eq, List.length_map] at *; omega)).symm
   ·
    refine AGo.cond_false false rfl rfl ?_
    have h0 : 0 ≤ b.words ∧ b.words ≤ 1048576 ∧ b.funcs.length ≠ 0 := by simp only [decide_eq_false_iff_not, decide_eq_true_eq, List.length_map] at *; omega
    refine AGo.skip ?_
    refine AGo.seq ?_
    refine AGo.seq ?_
    refine AGo.region ?_
    refine af 24 tok ?_
    refine al 25 tok ?_
    refine aq 26 (q_len tok rfl rfl rfl rfl rfl) ?_
    refine am 27 ?_
    refine AOps.nil ?_
    refine AGo.block ?_
    refine AGo.loopD (γ := Nat) 1 (fun k => ⟨80, (eput (eput (eput (eput eNew 1 (.ptr 0 1 0 0)) 25 (funcsAV b.funcs)) 26 (.int .i64 (b.funcs.length : Int))) 27 (.int .i64 (k : Int))), (hput (hFrom 1) 0 (.row false 2 [b.cells]))⟩) (fun k => (b.funcs.zipIdx.take k).all (fun p => p.1.one (p.2 : Int) b.words) = true) (fun k => b.funcs.length - k) 0 (Sub.mk' (by repeat (first | exact ESub.new _ | refine ESub.put ?_ (by first | rfl | exact congrArg (fun (n : Nat) => some (AV.int .i64 (n : Int))) (by simp)))) (by repeat (first | exact HSub.refl _ | exact HSub.none _ | exact HSub.from_new _ | exact HSub.from_from (by first | decide | omega | (dsimp only; omega)) | refine HSub.put ?_ (by rfl) | refine HSub.from_put ?_ (by first | decide | omega | (dsimp only; omega)) | refine HSub.from_rm ?_ (by decide)))) rfl (fun _ => hput_free (fun b hb => hFrom_free hb) rfl) ?_
    intro k hk
    refine AGo.seq ?_
    refine AGo.region ?_
    refine aq 28 (q_bin rfl rfl rfl rfl) ?_
    refine AOps.nil ?_
    refine AGo.seq ?_
    refine AGo.split 28 rfl (fun hb4 => ?_) (fun hb4 => ?_)
    ·
     refine AGo.cond_true true rfl rfl ?_
     have hkl : k < b.funcs.length := by simpa using hb4
     obtain ⟨f, hf⟩ := get_of_lt hkl
     refine AGo.skip ?_
     refine AGo.seq ?_
     refine AGo.block ?_
     refine AGo.seq ?_
     refine AGo.region ?_
     refine am 29 ?_
     refine aq 30 (q_index_lst tok rfl rfl rfl rfl rfl rfl (Int.natCast_nonneg _) (idx_map (by assumption)) rfl) ?_
     refine al 31 tok ?_
     refine ax 4 (o_alloc tok 1 rfl rfl rfl rfl (Nat.zero_lt_succ _) rfl) ?_
     refine aa 3 ?_
     refine AOps.w rfl rfl (o_store tok rfl rfl rfl rfl rfl rfl rfl rfl rfl (by decide) rfl (by first | exact fun _ => rfl | (intro h; cases h))) ?_
     refine AOps.nil ?_
     refine AGo.seq ?_
     refine AGo.seq ?_
     refine AGo.slot 31 rfl (fun H ι v => rel_bfunc) (fun hfit2 => ?_)
     refine AGo.region ?_
     refine af 32 tok ?_
     refine al 33 tok ?_
     refine aq 34 (q_bin rfl rfl rfl rfl) ?_
     refine am 35 ?_
     refine AOps.split 35 rfl (fun hb5 => ?_) (fun hb5 => ?_)
     ·
      refine ak 36 ?_
      refine ak 37 ?_
      refine ak 38 ?_
      refine aq 39 (q_pick_true true rfl rfl rfl rfl) ?_
      refine am 40 ?_
      refine ak 41 ?_
      refine ak 42 ?_
      refine ak 43 ?_
      refine ak 44 ?_
      refine aq 45 (q_pick_true true rfl rfl rfl rfl) ?_
      refine AOps.nil ?_
      refine AGo.cond_true true rfl rfl ?_
      refine AGo.seq ?_
      refine AGo.region ?_
      refine aa 2 ?_
      refine AOps.nil ?_
      refine AGo.ret ?_
      refine ⟨[_], ⟨rfl, trivial⟩, ?_, rfl⟩
      show AV.bool _ = AV.bool _
      congr 1
      rw [right_all h0.1 h0.2.1 h0.2.2, all_bad (zipIdx_get hf) (by show f.one _ _ = false; exact one_bad (by simp only [decide_eq_false_iff_not, decide_eq_true_eq, List.length_map] at *; omega))]
     ·
      refine af 36 tok ?_
      refine al 37 tok ?_
      refine aq 38 (q_bin rfl rfl rfl rfl) ?_
      refine aq 39 (q_pick_false false rfl rfl rfl rfl) ?_
      refine am 40 ?_
      refine AOps.split 40 rfl (fun hb6 => ?_) (fun hb6 => ?_)
      ·
       refine ak 41 ?_
       refine ak 42 ?_
       refine ak 43 ?_
       refine ak 44 ?_
       refine aq 45 (q_pick_true true rfl rfl rfl rfl) ?_
       refine AOps.nil ?_
       refine AGo.cond_true true rfl rfl ?_
       refine AGo.seq ?_
       refine AGo.region ?_
       refine aa 2 ?_
       refine AOps.nil ?_
       refine AGo.ret ?_
       refine ⟨[_], ⟨rfl, trivial⟩, ?_, rfl⟩
       show AV.bool _ = AV.bool _
       congr 1
       rw [right_all h0.1 h0.2.1 h0.2.2, all_bad (zipIdx_get hf) (by show f.one _ _ = false; exact one_bad (by simp only [decide_eq_false_iff_not, decide_eq_true_eq, List.length_map] at *; omega))]
      ·
       refine af 41 tok ?_
       refine al 42 tok ?_
       refine aq 43 (q_len tok rfl rfl rfl rfl rfl) ?_
       refine aq 44 (q_bin rfl rfl rfl rfl) ?_
       refine aq 45 (q_pick_false false rfl rfl rfl rfl) ?_
       refine AOps.nil ?_
       refine AGo.split 45 rfl (fun hb7 => ?_) (fun hb7 => ?_)
       ·
        refine AGo.cond_true true rfl rfl ?_
        refine AGo.seq ?_
        refine AGo.region ?_
        refine aa 2 ?_
        refine AOps.nil ?_
        refine AGo.ret ?_
        refine ⟨[_], ⟨rfl, trivial⟩, ?_, rfl⟩
        show AV.bool _ = AV.bool _
        congr 1
        rw [right_all h0.1 h0.2.1 h0.2.2, all_bad (zipIdx_get hf) (by show f.one _ _ = false; exact one_bad (by simp only [decide_eq_false_iff_not, decide_eq_true_eq, List.length_map] at *; omega))]
       ·
        refine AGo.cond_false false rfl rfl ?_
        have hf0 : 0 ≤ f.regs ∧ f.regs ≤ 4000 ∧ f.blocks.length ≠ 0 := by simp only [decide_eq_false_iff_not, decide_eq_true_eq, List.length_map] at *; omega
        refine AGo.skip ?_
        refine AGo.seq ?_
        refine AGo.region ?_
        refine af 46 tok ?_
        refine al 47 tok ?_
        refine am 48 ?_
        refine af 49 tok ?_
        refine al 50 tok ?_
        refine af 51 tok ?_
        refine al 52 tok ?_
        refine aq 53 (q_len tok rfl rfl rfl rfl rfl) ?_
        refine aq 54 (q_build tok rfl rfl rfl rfl rfl (by decide) rfl rfl rfl) ?_
        refine ax 5 (o_alloc tok 2 rfl rfl rfl rfl (Nat.zero_lt_succ _) rfl) ?_
        refine AOps.w rfl rfl (o_store tok rfl rfl rfl rfl rfl rfl rfl rfl rfl (by decide) rfl (by first | exact fun _ => rfl | (intro h; cases h))) ?_
        refine AOps.nil ?_
        refine AGo.seq ?_
        refine AGo.region ?_
        refine af 55 tok ?_
        refine al 56 tok ?_
        refine aq 57 (q_len tok rfl rfl rfl rfl rfl) ?_
        refine am 58 ?_
        refine AOps.nil ?_
        refine AGo.block ?_
        refine AGo.loopD (γ := Nat) 3 (fun j => ⟨80, (eput (eput (eput (eput (eput (eput (eput (eput (eput eNew 1 (.ptr 0 1 0 0)) 25 (funcsAV b.funcs)) 26 (.int .i64 (b.funcs.length : Int))) 27 (.int .i64 (k : Int))) 4 (.ptr 1 1 0 0)) 5 (.ptr 2 1 0 0)) 56 (blocksAV f.blocks)) 57 (.int .i64 (f.blocks.length : Int))) 58 (.int .i64 (j : Int))), (hput (hput (hput (hFrom 3) 0 (.row false 2 [b.cells])) 1 (.row false 2 [f.cells])) 2 (.row false 4 [[.int .i64 b.words, .int .i64 (k : Int), .int .i64 f.regs, .int .i64 (f.blocks.length : Int)]]))⟩) (fun j => (f.blocks.take j).all (fun x => x.ok f.blocks.length f.regs (k : Int) b.words) = true) (fun j => f.blocks.length - j) 0 (Sub.mk' (by repeat (first | exact ESub.new _ | refine ESub.put ?_ (by first | rfl | exact congrArg (fun (n : Nat) => some (AV.int .i64 (n : Int))) (by simp)))) (by repeat (first | exact HSub.refl _ | exact HSub.none _ | exact HSub.from_new _ | exact HSub.from_from (by first | decide | omega | (dsimp only; omega)) | refine HSub.put ?_ (by first | rfl | exact congrArg (fun (n : Nat) => some (AObj.row false 4 [[.int .i64 b.words, .int .i64 (k : Int), .int .i64 f.regs, .int .i64 (n : Int)]])) (List.length_map ..)) | refine HSub.from_put ?_ (by first | decide | omega | (dsimp only; omega)) | refine HSub.from_rm ?_ (by decide)))) rfl (fun _ => hput_free (hput_free (hput_free (fun b hb => hFrom_free hb) rfl) rfl) rfl) ?_
        intro j hj
        refine AGo.seq ?_
        refine AGo.region ?_
        refine aq 59 (q_bin rfl rfl rfl rfl) ?_
        refine AOps.nil ?_
        refine AGo.seq ?_
        refine AGo.split 59 rfl (fun hb8 => ?_) (fun hb8 => ?_)
        ·
         refine AGo.cond_true true rfl rfl ?_
         have hjl : j < f.blocks.length := by simpa using hb8
         obtain ⟨x, hx⟩ := get_of_lt hjl
         refine AGo.skip ?_
         refine AGo.seq ?_
         refine AGo.block ?_
         refine AGo.seq ?_
         refine AGo.region ?_
         refine aq 60 (q_index_lst tok rfl rfl rfl rfl rfl rfl (Int.natCast_nonneg _) (idx_map (by assumption)) rfl) ?_
         refine al 61 tok ?_
         refine ax 7 (o_alloc tok 3 rfl rfl rfl rfl (Nat.zero_lt_succ _) rfl) ?_
         refine AOps.w rfl rfl (o_store tok rfl rfl rfl rfl rfl rfl rfl rfl rfl (by decide) rfl (by first | exact fun _ => rfl | (intro h; cases h))) ?_
         refine AOps.nil ?_
         refine AGo.seq ?_
         refine AGo.seq ?_
         refine AGo.region ?_
         refine al 62 tok ?_
         refine al 63 tok ?_
         refine ax 64 (o_pure rfl Try.func54 (by kernel_rfl) rfl rfl rfl (bend_ok _ _ _ _ x)) ?_
         refine aq 65 (q_not rfl rfl) ?_
         refine AOps.nil ?_
         refine AGo.split 65 rfl (fun hb9 => ?_) (fun hb9 => ?_)
         ·
          refine AGo.cond_true true rfl rfl ?_
          have hends : x.ends f.blocks.length f.regs = false := by simpa using hb9
          refine AGo.seq ?_
          refine AGo.region ?_
          refine aa 2 ?_
          refine AOps.nil ?_
          refine AGo.ret ?_
          refine ⟨[_], ⟨rfl, trivial⟩, ?_, rfl⟩
          show AV.bool _ = AV.bool _
          congr 1
          rw [right_all h0.1 h0.2.1 h0.2.2, all_bad (zipIdx_get hf) (by show f.one _ _ = false; rw [one_all hf0.1 hf0.2.1 hf0.2.2, all_bad hx (by simp [Block.ok, hends])])]
         ·
          refine AGo.cond_false false rfl rfl ?_
          have hends : x.ends f.blocks.length f.regs = true := by simpa using hb9
          refine AGo.skip ?_
          refine AGo.seq ?_
          refine AGo.region ?_
          refine af 66 tok ?_
          refine al 67 tok ?_
          refine aq 68 (q_len tok rfl rfl rfl rfl rfl) ?_
          refine am 69 ?_
          refine AOps.nil ?_
          refine AGo.block ?_
          refine AGo.loopD (γ := Nat) 4 (fun i => ⟨80, (eput (eput (eput (eput (eput (eput (eput (eput (eput (eput (eput (eput (eput eNew 1 (.ptr 0 1 0 0)) 25 (funcsAV b.funcs)) 26 (.int .i64 (b.funcs.length : Int))) 27 (.int .i64 (k : Int))) 4 (.ptr 1 1 0 0)) 5 (.ptr 2 1 0 0)) 56 (blocksAV f.blocks)) 57 (.int .i64 (f.blocks.length : Int))) 58 (.int .i64 (j : Int))) 7 (.ptr 3 1 0 0)) 67 (insAV x.ins)) 68 (.int .i64 (x.ins.length : Int))) 69 (.int .i64 (i : Int))), (hput (hput (hput (hput (hFrom 4) 0 (.row false 2 [b.cells])) 1 (.row false 2 [f.cells])) 2 (.row false 4 [[.int .i64 b.words, .int .i64 (k : Int), .int .i64 f.regs, .int .i64 (f.blocks.length : Int)]])) 3 (.row false 5 [x.cells]))⟩) (fun i => (x.ins.take i).all (fun t => t.fits (k : Int) f.regs b.words) = true) (fun i => x.ins.length - i) 0 (Sub.mk' (by repeat (first | exact ESub.new _ | refine ESub.put ?_ (by first | rfl | exact congrArg (fun (n : Nat) => some (AV.int .i64 (n : Int))) (by simp)))) (by repeat (first | exact HSub.refl _ | exact HSub.none _ | exact HSub.from_new _ | exact HSub.from_from (by first | decide | omega | (dsimp only; omega)) | refine HSub.put ?_ (by rfl) | refine HSub.from_put ?_ (by first | decide | omega | (dsimp only; omega)) | refine HSub.from_rm ?_ (by decide)))) rfl (fun _ => hput_free (hput_free (hput_free (hput_free (fun b hb => hFrom_free hb) rfl) rfl) rfl) rfl) ?_
          intro i hi
          refine AGo.seq ?_
          refine AGo.region ?_
          refine aq 70 (q_bin rfl rfl rfl rfl) ?_
          refine AOps.nil ?_
          refine AGo.seq ?_
          refine AGo.split 70 rfl (fun hb10 => ?_) (fun hb10 => ?_)
          ·
           refine AGo.cond_true true rfl rfl ?_
           have hil : i < x.ins.length := by simpa using hb10
           obtain ⟨u, hu⟩ := get_of_lt hil
           refine AGo.skip ?_
           refine AGo.seq ?_
           refine AGo.block ?_
           refine AGo.seq ?_
           refine AGo.region ?_
           refine aq 71 (q_index_lst tok rfl rfl rfl rfl rfl rfl (Int.natCast_nonneg _) (idx_map (by assumption)) rfl) ?_
           refine al 72 tok ?_
           refine ax 9 (o_alloc tok 4 rfl rfl rfl rfl (Nat.zero_lt_succ _) rfl) ?_
           refine AOps.w rfl rfl (o_store tok rfl rfl rfl rfl rfl rfl rfl rfl rfl (by decide) rfl (by first | exact fun _ => rfl | (intro h; cases h))) ?_
           refine AOps.nil ?_
           refine AGo.seq ?_
           refine AGo.region ?_
           refine al 73 tok ?_
           refine al 74 tok ?_
           refine ax 75 (o_pure rfl Try.func55 (by kernel_rfl) rfl rfl rfl (bins_ok _ _ _ _ u h0.1 h0.2.1)) ?_
           refine aq 76 (q_not rfl rfl) ?_
           refine AOps.nil ?_
           refine AGo.split 76 rfl (fun hb11 => ?_) (fun hb11 => ?_)
           ·
            refine AGo.cond_true true rfl rfl ?_
            have hbw := hb11
            refine AGo.seq ?_
            refine AGo.region ?_
            refine aa 2 ?_
            refine AOps.nil ?_
            refine AGo.ret ?_
            refine ⟨[_], ⟨rfl, trivial⟩, ?_, rfl⟩
            show AV.bool _ = AV.bool _
            congr 1
            rw [right_all h0.1 h0.2.1 h0.2.2, all_bad (zipIdx_get hf) (by show f.one _ _ = false; rw [one_all hf0.1 hf0.2.1 hf0.2.2, all_bad hx (by simp only [Block.ok, all_bad (p := fun t => Tac.fits t (k : Int) f.regs b.words) hu (by simpa using hbw), Bool.and_false])])]
           ·
            refine AGo.cond_false false rfl rfl ?_
            have hbw := hb11
            refine AGo.skip ?_
            refine AGo.region ?_
            refine aq 77 (q_inc rfl rfl hil (hfit2.2 x (List.mem_of_getElem? hx))) ?_
            refine am 69 ?_
            refine AOps.nil ?_
            exact ⟨i+1, Drop.mk' (by repeat (first | exact EDrop.new _ _ | refine EDrop.put ?_ (by rfl) (by first | rfl | exact slA_avoid _ rfl | exact vaA_avoid _ rfl))) (by repeat (first | exact HDrop.none _ _ | exact HDrop.tail _ _ | refine HDrop.put ?_ (by rfl) rfl (by first | rfl | exact slO_avoid _ _ | exact vaO_avoid _ | exact tab_avoid _ _ rfl rfl | exact wlk_avoid _ _ _ rfl rfl rfl))), all_succ hu hi (by simpa using hbw), by omega⟩
          ·
           refine AGo.cond_false false rfl rfl ?_
           have hins := all_end hi (by simpa using hb10)
           refine AGo.exit ?_
           refine AGo.region ?_
           refine aq 78 (q_inc rfl rfl hjl hfit2.1) ?_
           refine am 58 ?_
           refine AOps.nil ?_
           exact ⟨j+1, Drop.mk' (by repeat (first | exact EDrop.new _ _ | refine EDrop.put ?_ (by rfl) (by first | rfl | exact slA_avoid _ rfl | exact vaA_avoid _ rfl))) (by repeat (first | exact HDrop.none _ _ | exact HDrop.tail _ _ | refine HDrop.put ?_ (by rfl) rfl (by first | rfl | exact slO_avoid _ _ | exact vaO_avoid _ | exact tab_avoid _ _ rfl rfl | exact wlk_avoid _ _ _ rfl rfl rfl))), all_succ hx hj (by simp [Block.ok, hends, hins]), by omega⟩
        ·
         refine AGo.cond_false false rfl rfl ?_
         have hall := all_end hj (by simpa using hb8)
         refine AGo.exit ?_
         refine AGo.region ?_
         refine aq 79 (q_inc rfl rfl hkl hfit.1) ?_
         refine am 27 ?_
         refine AOps.nil ?_
         exact ⟨k+1, Drop.mk' (by repeat (first | exact EDrop.new _ _ | refine EDrop.put ?_ (by rfl) (by first | rfl | exact slA_avoid _ rfl | exact vaA_avoid _ rfl))) (by repeat (first | exact HDrop.none _ _ | exact HDrop.tail _ _ | refine HDrop.put ?_ (by rfl) rfl (by first | rfl | exact slO_avoid _ _ | exact vaO_avoid _ | exact tab_avoid _ _ rfl rfl | exact wlk_avoid _ _ _ rfl rfl rfl))), all_succ (zipIdx_get hf) hk (by show f.one _ _ = true; rw [one_all hf0.1 hf0.2.1 hf0.2.2, hall]), by omega⟩
    ·
     refine AGo.cond_false false rfl rfl ?_
     have hall := all_end hk (by rw [List.length_zipIdx]; simpa using hb4)
     refine AGo.exit ?_
     refine AGo.seq ?_
     refine AGo.region ?_
     refine aa 2 ?_
     refine AOps.nil ?_
     refine AGo.ret ?_
     refine ⟨[_], ⟨rfl, trivial⟩, ?_, rfl⟩
     show AV.bool _ = AV.bool _
     congr 1
     rw [right_all h0.1 h0.2.1 h0.2.2, hall]

end Go.Proofs.Ytpijoieooikfgaa.Sv

namespace Go.Proofs.Ytpijoieooikfgaa.Sv
open Go
theorem weak_nils (n : Nat) : ∀ (i : Nat) (cs cs' : List AV), (List.replicate n [AV.nil])[i]? = some cs → (List.replicate n [AV.lst false []])[i]? = some cs' → cs'.length = cs.length ∧ ∀ (j : Nat) (x y : AV), cs[j]? = some x → cs'[j]? = some y → y.cell1 = true ∧ ∀ H v, Rel H noLay x v → Rel H noLay y v := fun i cs cs' h1 h2 => by
  have e1 := List.eq_of_mem_replicate (List.mem_of_getElem? h1)
  have e2 := List.eq_of_mem_replicate (List.mem_of_getElem? h2)
  subst e1; subst e2
  refine ⟨rfl, fun j x y g1 g2 => ?_⟩
  cases j with
  | zero => simp at g1 g2; subst g1; subst g2; exact ⟨rfl, fun H v h => nil_empty h⟩
  | succ j => simp at g1
theorem way_first {next : List (List Int)} {been : List Bool} (h : been.length = next.length) : WayIn next.length (DS.mk been []) ([] : List (List AV)) := by
  refine ⟨Nat.le_refl _, rfl, ?_⟩
  rw [← h]
  show 0 + unb been ≤ been.length
  clear h
  induction been with
  | nil => simp [unb]
  | cons x r ih => simp only [unb, List.map_cons, List.sum_cons, List.length_cons] at ih ⊢; cases x <;> simp <;> omega
structure FW where
  s : DS
  es : List (List AV)
  g : Nat
structure FWInv (next : List (List Int)) (tgt : DS) (q : FW) : Prop where
  ok : q.s.ok next
  way : WayIn next.length q.s q.es
  gas : dmu next q.s < q.g
  tgt : drun next q.g q.s = tgt
theorem FWInv.first {next : List (List Int)} {been : List Bool} (h : been.length = next.length) : FWInv next (drun next (dmu next (dstart been) + 1) (dstart been)) ⟨dstart been, ies 0 (DS.mk been []) [], dmu next (dstart been) + 1⟩ :=
  ⟨dinto_ok ⟨h, fun p hp => by cases hp⟩, (way_first h).into, Nat.lt_succ_self _, rfl⟩
theorem FWInv.next {next : List (List Int)} {tgt : DS} {q : FW} (h : FWInv next tgt q) {s' : DS} {es' : List (List AV)} {p : Int × Int} (hp : q.s.way.getLast? = some p) (he : dstep next q.s = s') (hw : WayIn next.length s' es') : FWInv next tgt ⟨s', es', q.g - 1⟩ ∧ q.g - 1 < q.g := by
  have hne : q.s.way ≠ [] := fun e => by rw [e] at hp; simp at hp
  have h1 := dstep_mu h.ok hne
  have h2 := h.gas
  have h3 := dstep_ok h.ok
  rw [he] at h1 h3
  refine ⟨⟨h3, hw, by show dmu next s' < q.g - 1; omega, ?_⟩, by omega⟩
  obtain ⟨g, hg⟩ : ∃ g, q.g = g + 1 := ⟨q.g - 1, by omega⟩
  have h4 := h.tgt
  rw [hg, drun_step hne, he] at h4
  rw [hg]; exact h4
theorem FWInv.done {next : List (List Int)} {tgt : DS} {q : FW} (h : FWInv next tgt q) (hn : q.s.way = []) : q.s = tgt := by
  have := h.tgt
  rwa [drun_end hn] at this
end Go.Proofs.Ytpijoieooikfgaa.Sv

namespace Go.Proofs.Ytpijoieooikfgaa.Sv
open Go

set_option maxRecDepth 100000 in
theorem next_ok (f : BFunc) (hn : f.blocks.length ≤ 100000) : APure Try.prog 27 [.agg f.cells] (fun r => r = pathsAV f.nexts) := by
  refine APure.of_body (n := 40) tok Try.func27 rfl rfl ?_
  refine AGo.seq ?_
  refine AGo.region ?_
  refine ax 1 (o_box (sz := 2) 0 rfl rfl rfl rfl (Nat.zero_lt_succ _) rfl) ?_
  refine aa 2 ?_
  refine AOps.nil ?_
  refine AGo.seq ?_
  refine AGo.region ?_
  refine af 6 tok ?_
  refine al 7 tok ?_
  refine aq 8 (q_len tok rfl rfl rfl rfl rfl) ?_
  refine ax 9 (o_makeSlice tok (n := f.blocks.length) (m := f.blocks.length) 1 true rfl rfl rfl (by simp) (by simp) rfl rfl rfl rfl rfl (Nat.zero_lt_succ _) rfl (Nat.le_refl _) (by show 24 * f.blocks.length ≤ _; omega) (by simp only [maxLen]; omega)) ?_
  refine aa 3 ?_
  refine AOps.nil ?_
  refine AGo.seq ?_
  refine AGo.seq ?_
  refine AGo.ghost (Ghost.weakRow 1 (es' := List.replicate f.blocks.length [.lst false []]) rfl (by simp) (weak_nils _)) ?_
  refine AGo.region ?_
  refine af 10 tok ?_
  refine al 11 tok ?_
  refine aq 12 (q_len tok rfl rfl rfl rfl rfl) ?_
  refine am 13 ?_
  refine AOps.nil ?_
  refine AGo.block ?_
  refine AGo.loopD (γ := Nat) 2 (fun k => ⟨40, (eput (eput (eput (eput eNew 3 (.ref 1 f.blocks.length 0 f.blocks.length)) 11 (blocksAV f.blocks)) 12 (.int .i64 (f.blocks.length : Int))) 13 (.int .i64 (k : Int))), (hput (hput (hFrom 2) 0 (.row false 2 [f.cells])) 1 (.row true 1 (((f.nexts.take (k)).map pathCell) ++ List.replicate (f.blocks.length - (k)) [.lst false []])))⟩) (fun k => k ≤ f.blocks.length) (fun k => f.blocks.length - k) 0 (Sub.mk' (by repeat (first | exact ESub.new _ | refine ESub.put ?_ (by first | rfl | exact congrArg (fun (n : Nat) => some (AV.int .i64 (n : Int))) (by simp)))) (by repeat (first | exact HSub.none _ | exact HSub.from_new _ | exact HSub.from_from (by decide) | refine HSub.put ?_ (by rfl) | refine HSub.from_put ?_ (by decide)))) (Nat.zero_le _) (fun _ => hput_free (hput_free (fun b hb => hFrom_free hb) rfl) rfl) ?_
  intro k hk
  refine AGo.seq ?_
  refine AGo.region ?_
  refine aq 14 (q_bin rfl rfl rfl rfl) ?_
  refine AOps.nil ?_
  refine AGo.seq ?_
  refine AGo.split 14 rfl (fun hb1 => ?_) (fun hb1 => ?_)
  · -- True
    refine AGo.cond_true true rfl rfl ?_
    have hkl : k < f.blocks.length := by simpa using hb1
    obtain ⟨x, hx⟩ := get_of_lt hkl
    have hnx := nexts_get hx
    refine AGo.skip ?_
    refine AGo.seq ?_
    refine AGo.block ?_
    refine AGo.seq ?_
    refine AGo.region ?_
    refine am 15 ?_
    refine aq 16 (q_index_lst tok rfl rfl rfl rfl rfl rfl (Int.natCast_nonneg _) (idx_map (by assumption)) rfl) ?_
    refine al 17 tok ?_
    refine ax 5 (o_alloc tok 2 rfl rfl rfl rfl (Nat.zero_lt_succ _) rfl) ?_
    refine aa 4 ?_
    refine AOps.w rfl rfl (o_store tok rfl rfl rfl rfl rfl rfl rfl rfl rfl (by decide) rfl (by first | exact fun _ => rfl | (intro h; cases h))) ?_
    refine AOps.nil ?_
    refine AGo.seq ?_
    refine AGo.region ?_
    refine af 18 tok ?_
    refine al 19 tok ?_
    refine AOps.nil ?_
    refine AGo.block ?_
    refine AGo.seq ?_
    refine AGo.region ?_
    refine aq 21 (q_bin rfl rfl rfl rfl) ?_
    refine aa 20 ?_
    refine AOps.nil ?_
    refine AGo.split 20 rfl (fun hb2 => ?_) (fun hb2 => ?_)
    · -- True
      refine AGo.cond_true true rfl rfl ?_
      refine AGo.region ?_
      refine am 22 ?_
      refine am 23 ?_
      refine af 24 tok ?_
      refine al 25 tok ?_
      refine ax 26 (o_lit' tok rfl rfl rfl rfl rfl rfl (by decide) rfl rfl rfl rfl rfl rfl) ?_
      refine aq 27 (q_index_ref tok rfl rfl rfl rfl rfl rfl rfl (fill_len (nexts_length f) (Nat.le_of_lt hkl)) rfl (Int.natCast_nonneg _) (by omega)) ?_
      refine AOps.w rfl rfl (o_store tok rfl rfl rfl rfl rfl rfl (fill_len (nexts_length f) (Nat.le_of_lt hkl)) (fill_get (nexts_length f) hkl) rfl (by decide) rfl (by first | exact fun _ => rfl | (intro h; cases h))) ?_
      refine AOps.nil ?_
      refine AGo.region ?_
      refine aq 38 (q_inc rfl rfl hkl (show f.blocks.length ≤ maxLen by simp only [maxLen]; omega)) ?_
      refine am 13 ?_
      refine AOps.nil ?_
      exact ⟨k+1, Drop.mk' (by repeat (first | exact EDrop.new _ _ | refine EDrop.put ?_ (by rfl) rfl)) (by repeat (first | exact HDrop.none _ _ | exact HDrop.tail _ _ | refine HDrop.put ?_ (by first | rfl | exact congrArg (fun es => some (AObj.row true 1 es)) (fill_put (f := pathCell) (x := [x.to]) (nexts_length f) (by rw [hnx]; simp [Block.nexts, *])) | exact congrArg (fun es => some (AObj.row true 1 es)) (fill_put (f := pathCell) (x := [x.to, x.els]) (nexts_length f) (by rw [hnx]; simp [Block.nexts, *])) | exact congrArg (fun es => some (AObj.row true 1 es)) (fill_skip (f := pathCell) (x := []) (nexts_length f) (by rw [hnx]; simp [Block.nexts, *]) rfl)) rfl rfl)), hkl, by omega⟩
    · -- False
      refine AGo.cond_false false rfl rfl ?_
      refine AGo.seq ?_
      refine AGo.region ?_
      refine aq 29 (q_bin rfl rfl rfl rfl) ?_
      refine aa 28 ?_
      refine AOps.nil ?_
      refine AGo.split 28 rfl (fun hb3 => ?_) (fun hb3 => ?_)
      · -- True
        refine AGo.cond_true true rfl rfl ?_
        refine AGo.region ?_
        refine am 30 ?_
        refine am 31 ?_
        refine af 32 tok ?_
        refine al 33 tok ?_
        refine af 34 tok ?_
        refine al 35 tok ?_
        refine ax 36 (o_lit' tok rfl rfl rfl rfl rfl rfl (by decide) rfl rfl rfl rfl rfl rfl) ?_
        refine aq 37 (q_index_ref tok rfl rfl rfl rfl rfl rfl rfl (fill_len (nexts_length f) (Nat.le_of_lt hkl)) rfl (Int.natCast_nonneg _) (by omega)) ?_
        refine AOps.w rfl rfl (o_store tok rfl rfl rfl rfl rfl rfl (fill_len (nexts_length f) (Nat.le_of_lt hkl)) (fill_get (nexts_length f) hkl) rfl (by decide) rfl (by first | exact fun _ => rfl | (intro h; cases h))) ?_
        refine AOps.nil ?_
        refine AGo.region ?_
        refine aq 38 (q_inc rfl rfl hkl (show f.blocks.length ≤ maxLen by simp only [maxLen]; omega)) ?_
        refine am 13 ?_
        refine AOps.nil ?_
        exact ⟨k+1, Drop.mk' (by repeat (first | exact EDrop.new _ _ | refine EDrop.put ?_ (by rfl) rfl)) (by repeat (first | exact HDrop.none _ _ | exact HDrop.tail _ _ | refine HDrop.put ?_ (by first | rfl | exact congrArg (fun es => some (AObj.row true 1 es)) (fill_put (f := pathCell) (x := [x.to]) (nexts_length f) (by rw [hnx]; simp [Block.nexts, *])) | exact congrArg (fun es => some (AObj.row true 1 es)) (fill_put (f := pathCell) (x := [x.to, x.els]) (nexts_length f) (by rw [hnx]; simp [Block.nexts, *])) | exact congrArg (fun es => some (AObj.row true 1 es)) (fill_skip (f := pathCell) (x := []) (nexts_length f) (by rw [hnx]; simp [Block.nexts, *]) rfl)) rfl rfl)), hkl, by omega⟩
      · -- False
        refine AGo.cond_false false rfl rfl ?_
        refine AGo.skip ?_
        refine AGo.region ?_
        refine aq 38 (q_inc rfl rfl hkl (show f.blocks.length ≤ maxLen by simp only [maxLen]; omega)) ?_
        refine am 13 ?_
        refine AOps.nil ?_
        exact ⟨k+1, Drop.mk' (by repeat (first | exact EDrop.new _ _ | refine EDrop.put ?_ (by rfl) rfl)) (by repeat (first | exact HDrop.none _ _ | exact HDrop.tail _ _ | refine HDrop.put ?_ (by first | rfl | exact congrArg (fun es => some (AObj.row true 1 es)) (fill_put (f := pathCell) (x := [x.to]) (nexts_length f) (by rw [hnx]; simp [Block.nexts, *])) | exact congrArg (fun es => some (AObj.row true 1 es)) (fill_put (f := pathCell) (x := [x.to, x.els]) (nexts_length f) (by rw [hnx]; simp [Block.nexts, *])) | exact congrArg (fun es => some (AObj.row true 1 es)) (fill_skip (f := pathCell) (x := []) (nexts_length f) (by rw [hnx]; simp [Block.nexts, *]) rfl)) rfl rfl)), hkl, by omega⟩
  · -- False
    refine AGo.cond_false false rfl rfl ?_
    have hge : f.blocks.length ≤ k := by simpa using hb1
    refine AGo.exit ?_
    refine AGo.seq ?_
    refine AGo.ghost (.freeze 3 1 rfl rfl (fill_len (nexts_length f) hk)) ?_
    refine AGo.region ?_
    refine am 39 ?_
    refine aa 2 ?_
    refine AOps.nil ?_
    refine AGo.ret ?_
    refine ⟨[_], ⟨rfl, trivial⟩, ?_, rfl⟩
    show AV.lst false _ = AV.lst false _
    rw [fill_end (nexts_length f) hge]
    rfl
end Go.Proofs.Ytpijoieooikfgaa.Sv
