/-
  WHAT FOLLOWS BLOCKS, AND WHAT IS REACHED, IN PLAIN LEAN: own work, over no program.
-/
import Derived.Test.YtidfabbnobipkaaSp4
import Derived.Test.YtidfabbnobipkaaSv27
namespace Go.Proofs.Ytidfabbnobipkaa.Sv
open Go
set_option linter.unusedVariables false
set_option linter.unusedSimpArgs false

theorem Ghost.freezeA {n : Nat} {e : AEnv} {h : AHeap} (t b : Nat) {m sz : Nat} {es : List (List AV)} (ht : e t = some (.ref b m 0 m)) (hb : h b = some (.row true sz es)) (hm : m = es.length) :
    Ghost ⟨n, e, h⟩ ⟨n, eput e t (.lst false es), hrm h b⟩ := by
  have := Ghost.freeze (n := n) t b ht hb hm
  rwa [List.drop_zero, List.take_of_length_le (Nat.le_of_eq hm.symm)] at this
def pathCell (p : List Int) : List AV := [intsAV p]
def Block.nexts (b : Block) : List Int := bif b.fin == 1 then [b.to] else bif b.fin == 2 then [b.to, b.els] else []
def BFunc.nexts (f : BFunc) : List (List Int) := f.blocks.map Block.nexts
theorem nexts_length (f : BFunc) : f.nexts.length = f.blocks.length := by simp [BFunc.nexts]
theorem nexts_get {f : BFunc} {k : Nat} {x : Block} (h : f.blocks[k]? = some x) : f.nexts[k]? = some x.nexts := by simp [BFunc.nexts, h]
theorem fill_skip {α : Type} {F : List α} {f : α → List AV} {z : List AV} {k n : Nat} {x : α} (hF : F.length = n) (hx : F[k]? = some x) (hz : f x = z) : ((F.take k).map f ++ List.replicate (n - k) z) = (F.take (k + 1)).map f ++ List.replicate (n - (k + 1)) z := by
  have hk : k < n := by rw [← hF]; exact (List.getElem?_eq_some_iff.1 hx).1
  rw [take_succ_eq hx, List.map_append, List.append_assoc]
  congr 1
  obtain ⟨m, hm⟩ : ∃ m, n - k = m + 1 := ⟨n - k - 1, by omega⟩
  have hm2 : n - (k + 1) = m := by omega
  rw [hm, hm2]
  simp [List.replicate_succ, hz]

/-! ### going depth first -/
structure DS where
  been : List Bool
  way : List (Int × Int)
def notBeen (been : List Bool) (b : Int) : Bool := decide (b ≥ 0) && decide (b < been.length) && !((been[b.toNat]?).getD true)
def dinto (b : Int) (s : DS) : DS := bif notBeen s.been b then ⟨s.been.set b.toNat true, s.way ++ [(b, 0)]⟩ else s
def rowAt (next : List (List Int)) (b : Int) : List Int := (next[b.toNat]?).getD []
def dstep (next : List (List Int)) (s : DS) : DS :=
  match s.way.getLast? with
  | none => s
  | some (b, i) => bif decide (i < (rowAt next b).length) then dinto (((rowAt next b)[i.toNat]?).getD 0) ⟨s.been, s.way.dropLast ++ [(b, i + 1)]⟩ else ⟨s.been, s.way.dropLast⟩
def drun (next : List (List Int)) : Nat → DS → DS
  | 0, s => s
  | g + 1, s => if s.way.isEmpty then s else drun next g (dstep next s)
def nu : List Bool → List (List Int) → Nat
  | x :: xs, l :: ls => (bif x then 0 else l.length + 2) + nu xs ls
  | _, _ => 0
def wmu (next : List (List Int)) (way : List (Int × Int)) : Nat := (way.map fun p => (rowAt next p.1).length - p.2.toNat + 1).sum
def dmu (next : List (List Int)) (s : DS) : Nat := nu s.been next + wmu next s.way
theorem nu_set : ∀ {been : List Bool} {next : List (List Int)} {i : Nat} {l : List Int}, been[i]? = some false → next[i]? = some l → nu (been.set i true) next + (l.length + 2) = nu been next
  | [], _, _, _, h, _ => by simp at h
  | _ :: _, [], _, _, _, h => by simp at h
  | x :: xs, m :: ls, 0, l, h1, h2 => by
    simp at h1 h2; subst h1; subst h2
    simp [nu]; omega
  | x :: xs, m :: ls, i + 1, l, h1, h2 => by
    simp only [List.getElem?_cons_succ] at h1 h2
    have := nu_set h1 h2
    simp only [List.set_cons_succ, nu]; omega
def unb (l : List Bool) : Nat := (l.map fun x => bif x then 0 else 1).sum
theorem unb_set : ∀ {been : List Bool} {i : Nat}, been[i]? = some false → unb (been.set i true) + 1 = unb been
  | [], _, h => by simp at h
  | x :: xs, 0, h => by simp at h; subst h; simp [unb]; omega
  | x :: xs, i + 1, h => by
    simp only [List.getElem?_cons_succ] at h
    have := unb_set h
    simp only [unb, List.set_cons_succ, List.map_cons, List.sum_cons] at this ⊢
    omega
theorem notBeen_get {been : List Bool} {b : Int} (h : notBeen been b = true) : 0 ≤ b ∧ b < been.length ∧ been[b.toNat]? = some false := by
  simp only [notBeen, Bool.and_eq_true, decide_eq_true_eq, Bool.not_eq_true'] at h
  obtain ⟨⟨h1, h2⟩, h3⟩ := h
  refine ⟨h1, h2, ?_⟩
  obtain ⟨v, hv⟩ := get_of_lt (l := been) (k := b.toNat) (by omega)
  rw [hv] at h3 ⊢
  simpa using h3
theorem wmu_snoc (next : List (List Int)) (w : List (Int × Int)) (p : Int × Int) : wmu next (w ++ [p]) = wmu next w + ((rowAt next p.1).length - p.2.toNat + 1) := by simp [wmu]
theorem dinto_mu {next : List (List Int)} {b : Int} {s : DS} (hn : s.been.length = next.length) : dmu next (dinto b s) ≤ dmu next s := by
  unfold dinto
  cases h : notBeen s.been b with
  | false => exact Nat.le_refl _
  | true =>
    obtain ⟨h1, h2, h3⟩ := notBeen_get h
    obtain ⟨l, hl⟩ := get_of_lt (l := next) (k := b.toNat) (by omega)
    have := nu_set h3 hl
    simp only [cond_true, dmu, wmu_snoc]
    have hr : rowAt next b = l := by simp [rowAt, hl]
    rw [hr]
    simp
    omega
theorem way_last {w : List (Int × Int)} {p : Int × Int} (h : w.getLast? = some p) : w = w.dropLast ++ [p] := by
  cases w with
  | nil => simp at h
  | cons x r =>
    have hne : x :: r ≠ [] := by simp
    rw [List.getLast?_eq_some_getLast hne] at h
    cases h
    exact (List.dropLast_concat_getLast hne).symm
theorem dropLast_take' {α : Type} {l : List α} {n : Nat} (h : n ≤ l.length) : (l.take n).dropLast = l.take (n - 1) := by
  rw [List.dropLast_eq_take, List.take_take, List.length_take]
  congr 1; omega
/-- the state is one that may be -/
structure DS.ok (next : List (List Int)) (s : DS) : Prop where
  len : s.been.length = next.length
  way : ∀ p ∈ s.way, 0 ≤ p.1 ∧ p.1 < next.length ∧ 0 ≤ p.2 ∧ p.2 ≤ (rowAt next p.1).length
theorem dinto_ok {next : List (List Int)} {b : Int} {s : DS} (h : s.ok next) : (dinto b s).ok next := by
  unfold dinto
  cases e : notBeen s.been b with
  | false => exact h
  | true =>
    obtain ⟨h1, h2, h3⟩ := notBeen_get e
    have := h.len
    refine ⟨by simpa using h.len, fun p hp => ?_⟩
    simp only [cond_true, List.mem_append, List.mem_singleton] at hp
    rcases hp with hp | rfl
    · exact h.way p hp
    · exact ⟨h1, by omega, Int.le_refl _, Int.natCast_nonneg _⟩
theorem dstep_ok {next : List (List Int)} {s : DS} (h : s.ok next) : (dstep next s).ok next := by
  unfold dstep
  split
  · exact h
  · rename_i b i e
    have hw := way_last e
    have hb := h.way (b, i) (by rw [hw]; simp)
    cases hi : decide (i < (rowAt next b).length) with
    | false => exact ⟨h.len, fun p hp => h.way p (List.dropLast_subset _ hp)⟩
    | true =>
      simp only [decide_eq_true_eq] at hi
      refine dinto_ok ⟨h.len, fun p hp => ?_⟩
      simp only [List.mem_append, List.mem_singleton] at hp
      rcases hp with hp | rfl
      · exact h.way p (List.dropLast_subset _ hp)
      · exact ⟨hb.1, hb.2.1, by show 0 ≤ i + 1; have := hb.2.2.1; simp only at this; omega, by show i + 1 ≤ ((rowAt next b).length : Int); omega⟩
theorem dstep_mu {next : List (List Int)} {s : DS} (h : s.ok next) (hne : s.way ≠ []) : dmu next (dstep next s) < dmu next s := by
  unfold dstep
  cases e : s.way.getLast? with
  | none => rw [List.getLast?_eq_none_iff] at e; exact absurd e hne
  | some p =>
    obtain ⟨b, i⟩ := p
    have hw := way_last e
    have hb := h.way (b, i) (by rw [hw]; simp)
    simp only at hb
    have e1 : dmu next s = nu s.been next + (wmu next s.way.dropLast + ((rowAt next b).length - i.toNat + 1)) := by
      unfold dmu
      conv => lhs; rw [hw]
      rw [wmu_snoc]
    dsimp only
    cases hi : decide (i < (rowAt next b).length) with
    | false =>
      rw [e1]
      simp only [cond_false, dmu]
      omega
    | true =>
      simp only [decide_eq_true_eq] at hi
      simp only [cond_true]
      refine Nat.lt_of_le_of_lt (dinto_mu h.len) ?_
      rw [e1]
      simp only [dmu, wmu_snoc]
      omega
theorem drun_step {next : List (List Int)} {g : Nat} {s : DS} (hne : s.way ≠ []) : drun next (g + 1) s = drun next g (dstep next s) := by
  have : s.way.isEmpty = false := by simpa using hne
  simp [drun, this]
theorem drun_end {next : List (List Int)} {g : Nat} {s : DS} (h : s.way = []) : drun next g s = s := by
  cases g with
  | zero => rfl
  | succ g => simp [drun, h]
def dstart (been : List Bool) : DS := dinto 0 ⟨been, []⟩
def dreach (next : List (List Int)) (been : List Bool) : List Bool := (drun next (dmu next (dstart been) + 1) (dstart been)).been
def BFunc.reach (f : BFunc) : List Bool := dreach f.nexts (List.replicate f.nexts.length false)
/-! ### the way, as it lies in memory -/
def wcell (p : Int × Int) : List AV := [.int .i64 p.1, .int .i64 p.2]
/-- the way's row -/
structure WayIn (n : Nat) (s : DS) (es : List (List AV)) : Prop where
  le : s.way.length ≤ es.length
  eq : es.take s.way.length = s.way.map wcell
  cap : es.length + unb s.been ≤ n
def ies (b : Int) (s : DS) (es : List (List AV)) : List (List AV) := bif notBeen s.been b then pushE es s.way.length (wcell (b, 0)) else es
theorem pushE_length {es : List (List AV)} {len : Nat} {cs : List AV} : (pushE es len cs).length ≤ es.length + 1 := by
  unfold pushE; split <;> simp
theorem WayIn.into {n : Nat} {b : Int} {s : DS} {es : List (List AV)} (h : WayIn n s es) : WayIn n (dinto b s) (ies b s es) := by
  unfold dinto ies
  cases e : notBeen s.been b with
  | false => exact h
  | true =>
    obtain ⟨h1, h2, h3⟩ := notBeen_get e
    have hu := unb_set h3
    simp only [cond_true]
    refine ⟨by simpa using pushE_len h.le, ?_, ?_⟩
    · show (pushE es s.way.length (wcell (b, 0))).take (s.way ++ [(b, 0)]).length = _
      rw [List.length_append]
      simp only [List.length_cons, List.length_nil, List.map_append, List.map_cons, List.map_nil]
      rw [pushE_take h.le, h.eq]
    · have := pushE_length (es := es) (len := s.way.length) (cs := wcell (b, 0))
      have := h.cap
      show (pushE es s.way.length (wcell (b, 0))).length + unb (s.been.set b.toNat true) ≤ n
      omega
theorem WayIn.top {n : Nat} {s : DS} {es : List (List AV)} (h : WayIn n s es) {p : Int × Int} (hp : s.way.getLast? = some p) : es[s.way.length - 1]? = some (wcell p) ∧ 0 < s.way.length := by
  have hw := way_last hp
  have hpos : 0 < s.way.length := by rw [hw]; simp
  have h1 : (es.take s.way.length)[s.way.length - 1]? = es[s.way.length - 1]? := List.getElem?_take_of_lt (by omega)
  rw [← h1, h.eq, List.getElem?_map]
  rw [List.getLast?_eq_getElem?] at hp
  rw [hp]
  exact ⟨rfl, hpos⟩
theorem WayIn.seen {n : Nat} {s : DS} {es : List (List AV)} (h : WayIn n s es) {b i : Int} (hp : s.way.getLast? = some (b, i)) : WayIn n ⟨s.been, s.way.dropLast ++ [(b, i + 1)]⟩ (es.set (s.way.length - 1) (wcell (b, i + 1))) := by
  obtain ⟨h1, h2⟩ := h.top hp
  have hl : (s.way.dropLast ++ [(b, i + 1)]).length = s.way.length := by simp; omega
  have hle := h.le
  refine ⟨by simp only [hl, List.length_set]; exact hle, ?_, by simpa using h.cap⟩
  simp only [hl]
  obtain ⟨m, hm⟩ : ∃ m, s.way.length = m + 1 := ⟨s.way.length - 1, by omega⟩
  rw [hm]
  simp only [Nat.add_sub_cancel]
  have hlt : m < es.length := by omega
  rw [take_succ_eq (List.getElem?_set_self hlt), List.take_set_of_le (Nat.le_refl _), List.map_append]
  congr 1
  have := h.eq
  rw [hm] at this
  have h3 := congrArg List.dropLast this
  rw [List.map_dropLast] 
  rw [← h3, dropLast_take' (by omega)]
  rfl
theorem WayIn.pop {n : Nat} {s : DS} {es : List (List AV)} (h : WayIn n s es) {p : Int × Int} (hp : s.way.getLast? = some p) : WayIn n ⟨s.been, s.way.dropLast⟩ es := by
  obtain ⟨h1, h2⟩ := h.top hp
  have hle := h.le
  refine ⟨by simp only [List.length_dropLast]; omega, ?_, h.cap⟩
  simp only [List.length_dropLast]
  have h3 := congrArg List.dropLast h.eq
  rw [List.map_dropLast, ← h3, dropLast_take' (by omega)]
end Go.Proofs.Ytidfabbnobipkaa.Sv
