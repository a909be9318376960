/-
  LOOPS BY AN INVARIANT; WHAT A STATE TELLS OF LENGTHS; SMALL RULES: own work, over no program.
-/
import Derived.Test.YtidfabbnobipkaaSv17
namespace Go.Proofs.Ytidfabbnobipkaa.Sv
open Go
set_option linter.unusedVariables false
set_option linter.unusedSimpArgs false

section
variable {P : Program} {s : AState} {Q : Exit → AState → Prop} {n : Nat} {e : AEnv} {h : AHeap}

/-- A loop: 'inv g' is all that is known at a round's head, F g what holds of g. -/
theorem AGo.loopI {γ : Type} {c : Code} (inv : γ → AState) (F : γ → Prop) (μ : γ → Nat) (g0 : γ) (h0 : Sub (inv g0) s) (hF : F g0)
    (round : ∀ g, F g → AGo P c (inv g) (Then (fun s' => ∃ g', Sub (inv g') s' ∧ F g' ∧ μ g' < μ g) Q)) : AGo P (.loop c) s Q :=
  AGo.loop (fun g s' => Sub (inv g) s' ∧ F g) μ g0 ⟨h0, hF⟩ fun g s' hs => AGo.sub hs.1 ((round g hs.2).mono fun e s'' hq => by
    cases e with
    | normal => obtain ⟨g', h1, h2, h3⟩ := hq; exact ⟨g', ⟨h1, h2⟩, h3⟩
    | _ => exact hq)

/-- What a state tells. -/
theorem AGo.fact {c : Code} {φ : Prop} (hf : ∀ H ι a w, Sim H ι s a w → φ) (h : φ → AGo P c s Q) : AGo P c s Q := fun H ι a w hs => h (hf H ι a w hs) H ι a w hs

theorem lst_max {H : Know} {ι : Lay} {ex : Bool} {es : List (List AV)} {v : Value} (h : Rel H ι (.lst ex es) v) : es.length ≤ maxLen := by
  rcases h.lst_inv with ⟨rfl, _⟩ | ⟨_, b, off, cap, sz, c, vals, _, _, _, _, _, _, _, h1, h2⟩
  · simp
  · omega

def lenOk : AV → Prop
  | .lst _ es => es.length ≤ maxLen
  | _ => True
theorem lenOk_of {H : Know} {ι : Lay} {x : AV} {v : Value} (h : Rel H ι x v) : lenOk x := by
  cases x with
  | lst ex es => exact lst_max h
  | _ => trivial

theorem Sim.lenSlot {H : Know} {ι : Lay} {a : Act} {w : World} (hs : Sim H ι s a w) {t : Nat} {x : AV} (ht : s.env t = some x) : lenOk x := by
  obtain ⟨v, _, h⟩ := hs.env t x ht
  exact lenOk_of h
theorem agg_lens {H : Know} {ι : Lay} {cs : List AV} {v : Value} (h : Rel H ι (.agg cs) v) {j : Nat} {x : AV} (hj : cs[j]? = some x) : lenOk x := by
  obtain ⟨us, _, hl, hr⟩ := h.agg_inv
  have hlt : j < us.size := by rw [← hl]; exact (List.getElem?_eq_some_iff.1 hj).1
  obtain ⟨u, hu⟩ := getElem?_some_of_lt hlt
  exact lenOk_of (hr j x u hj hu)
theorem Sim.lenAgg {H : Know} {ι : Lay} {a : Act} {w : World} (hs : Sim H ι s a w) {t : Nat} {cs : List AV} (ht : s.env t = some (.agg cs)) {j : Nat} {x : AV} (hj : cs[j]? = some x) : lenOk x := by
  obtain ⟨v, _, h⟩ := hs.env t _ ht
  exact agg_lens h hj
theorem lst_lens {H : Know} {ι : Lay} {ex : Bool} {es : List (List AV)} {v : Value} (h : Rel H ι (.lst ex es) v) {i j : Nat} {cs : List AV} {x : AV} (hi : es[i]? = some cs) (hj : cs[j]? = some x) : lenOk x := by
  rcases h.lst_inv with ⟨rfl, _⟩ | ⟨_, b, off, cap, sz, c, vals, _, _, _, _, hr, _⟩
  · simp at hi
  · exact lenOk_of (hr i cs j x hi hj)
theorem Sim.lenElem {H : Know} {ι : Lay} {a : Act} {w : World} (hs : Sim H ι s a w) {t : Nat} {ex : Bool} {es : List (List AV)} (ht : s.env t = some (.lst ex es)) {i j : Nat} {cs : List AV} {x : AV} (hi : es[i]? = some cs) (hj : cs[j]? = some x) : lenOk x := by
  obtain ⟨v, _, h⟩ := hs.env t _ ht
  exact lst_lens h hi hj
theorem Sim.lenLoc {H : Know} {ι : Lay} {a : Act} {w : World} (hs : Sim H ι s a w) {t : Nat} {cs : List AV} (ht : s.env t = some (.loc cs)) {j : Nat} {x : AV} (hj : cs[j]? = some x) : lenOk x := by
  obtain ⟨v, _, h⟩ := hs.env t _ ht
  obtain ⟨b, off, c, vals, _, _, _, hr, _⟩ := h.loc_inv
  exact lenOk_of (hr j x hj)
/-- a cell of a row -/
theorem Sim.lenRow {H : Know} {ι : Lay} {a : Act} {w : World} (hs : Sim H ι s a w) {b : Nat} {p : Bool} {sz : Nat} {es : List (List AV)} (hb : s.h b = some (.row p sz es)) {i j : Nat} {cs : List AV} {x : AV} (hi : es[i]? = some cs) (hj : cs[j]? = some x) : lenOk x := by
  obtain ⟨r, hl, ⟨r1, r2, r3, r4, r5, r6⟩, r7⟩ := hs.heap.obj b _ hb rfl
  have hilt : i < es.length := (List.getElem?_eq_some_iff.1 hi).1
  have hsol : r.solid := fun h0 => by
    have := Nat.mul_pos (show 0 < es.length by omega) r2
    omega
  obtain ⟨c, TT, w1, w2, w3⟩ := r6 hsol
  obtain ⟨v, _, f2, _⟩ := w3.2 i cs j x hi hj
  exact lenOk_of f2
/-- a list in a cell of a list in a cell of a row -/
theorem Sim.lenRow2 {H : Know} {ι : Lay} {a : Act} {w : World} (hs : Sim H ι s a w) {b : Nat} {p : Bool} {sz : Nat} {es : List (List AV)} (hb : s.h b = some (.row p sz es)) {i j : Nat} {cs : List AV} {ex : Bool} {es' : List (List AV)} (hi : es[i]? = some cs) (hj : cs[j]? = some (.lst ex es'))
    {i' j' : Nat} {cs' : List AV} {x : AV} (hi' : es'[i']? = some cs') (hj' : cs'[j']? = some x) : lenOk x := by
  obtain ⟨r, hl, ⟨r1, r2, r3, r4, r5, r6⟩, r7⟩ := hs.heap.obj b _ hb rfl
  have hilt : i < es.length := (List.getElem?_eq_some_iff.1 hi).1
  have hsol : r.solid := fun h0 => by
    have := Nat.mul_pos (show 0 < es.length by omega) r2
    omega
  obtain ⟨c, TT, w1, w2, w3⟩ := r6 hsol
  obtain ⟨v, _, f2, _⟩ := w3.2 i cs j _ hi hj
  exact lst_lens f2 hi' hj'

theorem wrap_i64 {x : Int} (h1 : -9223372036854775808 ≤ x) (h2 : x ≤ 9223372036854775807) : IntKind.i64.wrap x = x := by
  rw [IntKind.wrap_i64]; omega
theorem wrap_succ {k m : Nat} (h : k < m) (hm : m ≤ maxLen) : IntKind.i64.wrap ((k : Int) + 1) = ((k + 1 : Nat) : Int) := by
  simp only [maxLen] at hm
  rw [wrap_i64 (by omega) (by omega)]; rfl

variable {T : Nat → Option TyI} {o : Oper}

/-- A counter, one up. -/
theorem q_inc {t t' : TypeId} {x : Operand} {k m : Nat} (ho : o.op = .binOp .add t x (.const (.int .i64 1)) t') (hx : look e x = some (.int .i64 (k : Int))) (h1 : k < m) (hm : m ≤ maxLen) : QLoc P o e h [] (.int .i64 ((k + 1 : Nat) : Int)) := by
  have := q_bin (P := P) (h := h) ho hx (q := .int .i64 1) rfl (r := .int .i64 (IntKind.i64.wrap ((k : Int) + 1))) rfl
  rwa [wrap_succ h1 hm] at this

theorem rel_unex {H : Know} {ι : Lay} {ex : Bool} {es : List (List AV)} {v : Value} (h : Rel H ι (.lst ex es) v) : Rel H ι (.lst false es) v := by
  rcases h.lst_inv with ⟨rfl, ad, cap, rfl, h1, h2, h3, h4⟩ | ⟨hne, b, off, cap, sz, c, vals, rfl, h1, h2, h3, h4, h5, h6, h7, h8⟩
  · exact .lst0 _ _ _ _ (fun h => by cases h) h2 h3 h4
  · exact .lst _ _ _ _ _ _ _ _ _ hne h1 h2 h3 h4 h5 (fun h => by cases h) h7 h8

theorem OLoc.weaken {R : List Nat} {W : List (Nat × AObj)} {x y : AV} (h0 : OLoc P o e h R W (some x)) (hxy : ∀ H ι v, Rel H ι x v → Rel H ι y v) : OLoc P o e h R W (some y) := fun H ι a w s Q hs g1 g2 =>
  Oper.wp_mono (fun a' w' ⟨v, H', ι', h1, h2, h3⟩ => ⟨v, H', ι', h1, fun z ez => by cases ez; exact hxy _ _ _ (h2 x rfl), h3⟩) (h0 H ι a w s Q hs g1 g2)

/-- A slice written out: memory that stays as it is; whether something lies behind it is forgotten. -/
theorem o_lit' (hT : TOk P T) {t : TypeId} {len u : Nat} {parts : Array (Nat × Operand)} {ps : List (Nat × AV)} {i j : TyI} (ho : o.op = .buildSlice t len parts) (hx : lookParts e parts.toList = some ps) (hi : T t = some i) (hk : i.k = .slice u) (hj : T u = some j) (hz : j.zero.length = j.size) (hp : 0 < j.size)
    (hidx : parts.toList.map (·.1) = List.range parts.toList.length) (hlen : parts.toList.length = len) (hsz : sizesAre j.size ps = true) (h1 : (partVals ps).all (·.all AV.cell1) = true) (hpure : (partVals ps).all (·.all AV.isPure1) = true) (hbig : Nat.ble (len * j.size) 16777216 = true) :
    OLoc P o e h [] [] (some (.lst false (partVals ps))) :=
  (o_lit hT ho hx hi hk hj hz hp hidx hlen hsz h1 hpure hbig).weaken fun _ _ _ => rel_unex

/-- A test whose outcome isn't known: it is known from now on. -/
theorem AGo.split {c : Code} (d : Nat) {b : Bool} (he : e d = some (.bool b)) (h1 : b = true → AGo P c ⟨n, eput e d (.bool true), h⟩ Q) (h2 : b = false → AGo P c ⟨n, eput e d (.bool false), h⟩ Q) : AGo P c ⟨n, e, h⟩ Q := by
  have key : ∀ c, b = c → eput e d (.bool c) = e := fun c hc => by
    subst hc
    funext t
    by_cases ht : t = d
    · subst ht; rw [eput_same, he]
    · rw [eput_ne _ _ ht]
  cases b with
  | true => have := h1 rfl; rwa [key true rfl] at this
  | false => have := h2 rfl; rwa [key false rfl] at this

end
end Go.Proofs.Ytidfabbnobipkaa.Sv
