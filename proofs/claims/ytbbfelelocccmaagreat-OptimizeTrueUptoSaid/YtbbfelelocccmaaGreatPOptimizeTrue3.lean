/-
  THE CHECKER'S TABLE AND WALK, IN PLAIN LEAN: own work, over no program.
  SMALL FACTS FOR THE WALKS OVER THE CHECKER: own work.
  THE CHECKER, BLOCK BY BLOCK, IN PLAIN LEAN: own work, over no program.
  SMALL FACTS FOR THE WALK OVER A BLOCK'S CHECK: own work.
  WHAT FOLLOWS BLOCKS, AND WHAT IS REACHED, IN PLAIN LEAN: own work, over no program.
  THE CHECKER OF PASSES, IN PLAIN LEAN: own work, over no program.
  A STRUCT WITH A MAP IS BUILT: own work, over no program.
  THE DOCUMENT'S CHECKER: ITS TABLE AND WALK, IN PLAIN LEAN: own work, over no program.
  THE DOCUMENT'S CHECKER, BLOCK BY BLOCK, IN PLAIN LEAN: own work, over no program.
  VALUES AS TERMS: what both checkers' tables stand for, in plain Lean: own work, over no program.
  THE PROGRAM'S CHECKER COMPARES TERMS, IN PLAIN LEAN: own work, over no program.
  A BLOCK'S CHECK COMPARES TERMS, IN PLAIN LEAN: own work, over no program.
  THE DOCUMENT'S CHECKER COMPARES TERMS, IN PLAIN LEAN: own work, over no program.
  BOTH CHECKERS ARE ONE, IN PLAIN LEAN; small facts for the walks over the laws: own work, over no program.
  ARGUMENTS OF THE LAWS OF THE CHECKER, IN PLAIN LEAN: own work, over no program.
  WHAT A CHECK SAYS, BY ONE RUN OF EACH BLOCK, IN PLAIN LEAN: own work, over no program.
  A FUNCTION IS THE SAME AS ITSELF; ROWS PUT TOGETHER: plain Lean, own work, over no program.
  RUNS THAT HAVE DONE FEWER STEPS END ALIKE, IN PLAIN LEAN: own work, over no program.
  WHAT A RUN DOES, BY ITS EFFECTS, THE NUMBER OF BLOCKS TOO, IN PLAIN LEAN: own work, over no program.
  EACH INSTRUCTION DOES WHAT ITS TERMS SAY, IN PLAIN LEAN: own work, over no program.
  SMALL LEMMAS FOR THE WALKS OF FLOW: own work, over no program.
  TIDYING, AS THE PROGRAM DOES IT, IN PLAIN LEAN: own work, over no program.
  SMALL LEMMAS FOR THE WALKS OF TIDY: own work, over no program.
  WHETHER PATHS HOLD, AS THE PROGRAM TELLS IT, IN PLAIN LEAN: own work, over no program.
  SMALL LEMMAS FOR THE WALKS OF tidy.Check: own work, over no program.
  THE LAWS OF LAYER 33, IN PLAIN LEAN: own work, over no program.
  THE DOCUMENT'S WAY TO HOLD PATHS AGAINST A FUNCTION, IN PLAIN LEAN: own work, over no program.
  WHAT THE LAWS' GUARDS SAY, IN PLAIN LEAN: own work, over no program.
  PATHS ARE PUT TOGETHER, IN PLAIN LEAN: own work, over no program.
  WHATEVER HOLDS MEANS THE SAME, IN PLAIN LEAN: own work, over no program.
  A MACHINE THAT COUNTS BLOCKS, IN PLAIN LEAN; what is checked does just the same in it: own work, over no program.
  THE MACHINE THAT COUNTS BLOCKS: what is tidied ends alike in it; functions that end alike, put together: own work, over no program.
  THE MACHINE THAT COUNTS BLOCKS BESIDE THE ONE THAT COUNTS STEPS: own work, over no program.
  PASSES THAT LEAD FROM ONE PROGRAM TO ANOTHER, IN PLAIN LEAN: own work, over no program.
-/
import Derived.Test.YtbbfelelocccmaaGreatPOptimizeTrue2
set_option linter.unusedVariables false
set_option linter.unusedSimpArgs false
set_option maxRecDepth 100000
set_option maxHeartbeats 2000000
namespace Go.Proofs.YtbbfelelocccmaaGreat.Sv
open Go
def kidx (k : List Int) : List (List Int) → Option Nat
  | [] => none
  | x :: r => bif k == x then some 0 else (kidx k r).map (· + 1)
def vnum (first : Int) (K : List (List Int)) (k : List Int) : Int × List (List Int) :=
  match kidx k K with
  | some i => (first + (i : Int), K)
  | none => (first + (K.length : Int), K ++ [k])
def vmap (first : Int) : List (List Int) → AMap
  | [] => []
  | x :: r => (x, .int .i64 first) :: vmap (first + 1) r
theorem vmap_look (k : List Int) : ∀ (K : List (List Int)) (first : Int), alook k (vmap first K) = (kidx k K).map fun (i : Nat) => (i, AV.int .i64 (first + (i : Int)))
  | [], _ => rfl
  | x :: r, first => by
    unfold vmap alook kidx
    cases hx : k == x with
    | true => simp
    | false =>
      simp only [cond_false, vmap_look k r (first + 1), Option.map_map]
      congr 1
      funext i
      show (i + 1, AV.int .i64 (first + 1 + (i : Int))) = (i + 1, AV.int .i64 (first + ((i + 1 : Nat) : Int)))
      rw [show first + 1 + (i : Int) = first + ((i + 1 : Nat) : Int) by omega]
theorem vmap_get (k : List Int) (K : List (List Int)) (first : Int) : aget k (vmap first K) = (kidx k K).map fun (i : Nat) => AV.int .i64 (first + (i : Int)) := by
  unfold aget
  rw [vmap_look, Option.map_map]; rfl
theorem vmap_set {k : List Int} : ∀ {K : List (List Int)} {first : Int}, kidx k K = none → aset k (.int .i64 (first + (K.length : Int))) (vmap first K) = vmap first (K ++ [k])
  | [], first, _ => by simp [vmap, aset]
  | x :: r, first, h => by
    unfold kidx at h
    cases hx : k == x with
    | true => rw [hx] at h; cases h
    | false =>
      rw [hx] at h
      have h' : kidx k r = none := by simpa using h
      have ih := vmap_set (first := first + 1) h'
      simp only [List.cons_append, vmap, aset, hx, cond_false, List.length_cons]
      rw [← ih]
      congr 3
      push_cast; omega
theorem vmap_keys {K : List (List Int)} (h : ∀ k ∈ K, k.length = 4) : ∀ {first : Int}, ∀ p ∈ vmap first K, p.1.length = 4 := by
  induction K with
  | nil => intro first p hp; simp [vmap] at hp
  | cons x r ih =>
    intro first p hp
    simp only [vmap, List.mem_cons] at hp
    rcases hp with rfl | hp
    · exact h x (by simp)
    · exact ih (fun k hk => h k (by simp [hk])) p hp
theorem kidx_lt {k : List Int} : ∀ {K : List (List Int)} {i : Nat}, kidx k K = some i → i < K.length ∧ K[i]? = some k
  | [], i, h => by cases h
  | x :: r, i, h => by
    unfold kidx at h
    cases hx : k == x with
    | true => rw [hx] at h; cases h; exact ⟨by simp, by simp at hx; simp [hx]⟩
    | false =>
      rw [hx] at h
      simp only [cond_false, Option.map_eq_some_iff] at h
      obtain ⟨j, hj, rfl⟩ := h
      obtain ⟨h1, h2⟩ := kidx_lt hj
      exact ⟨by simp; omega, by simpa using h2⟩
def vconst (first : Int) (K : List (List Int)) (n : Int) : Int × Bool :=
  bif decide (n < first) then (0, false) else (IntKind.u32.wrap (rget ((K[(n - first).toNat]?).getD []) 1), rget ((K[(n - first).toNat]?).getD []) 0 == 1)
def vapply (first : Int) (K : List (List Int)) (op a b : Int) : Int × List (List Int) :=
  bif (vconst first K a).2 && (vconst first K b).2 && (wapp op (vconst first K a).1 (vconst first K b).1).2 == 0 then vnum first K [1, (wapp op (vconst first K a).1 (vconst first K b).1).1, 0, 0]
  else vnum first K [2, op, a, b]
structure VW where
  K : List (List Int)
  vals : List Int
  effs : List (List Int)
  time : Int
def VW.put (w : VW) (z : Int) (p : Int × List (List Int)) : VW := { w with K := p.2, vals := rset w.vals z p.1 }
def VW.hap (w : VW) (t : Tac) (a b : Int) : VW := { w with effs := w.effs ++ [[2, t.op, t.base, t.size, a, b]] }
def VW.tick (w : VW) : VW := { w with time := w.time + 1 }
def vunk (first : Int) (w : VW) : Int × List (List Int) := vnum first w.K [4, (w.effs.length : Int), 0, 0]
def vrisky (first : Int) (w : VW) (t : Tac) : Bool := (t.k == 7 || t.k == 8) && (!(vconst first w.K (rget w.vals t.b)).2 || (vconst first w.K (rget w.vals t.b)).1 == 0)
def VW.div (first : Int) (w : VW) (t : Tac) : VW := bif vrisky first w t then { w with effs := w.effs ++ [[1, t.k, rget w.vals t.a, rget w.vals t.b, 0, 0]] } else w
def VW.bin (first : Int) (w : VW) (t : Tac) : VW := (w.div first t).put t.d (vapply first w.K t.k (rget w.vals t.a) (rget w.vals t.b))
def VW.step (first : Int) (w : VW) (t : Tac) : VW :=
  bif t.op == 1 then w.put t.d (vnum first w.K [1, t.n, 0, 0])
  else bif t.op == 2 then { w with vals := rset w.vals t.d (rget w.vals t.a) }
  else bif t.op == 3 then w.bin first t
  else bif t.op == 4 then w.put t.d (vnum first w.K [3, t.base, w.time, 0])
  else bif t.op == 5 then (w.hap t (rget w.vals t.a) 0).tick
  else bif t.op == 6 then (w.hap t (rget w.vals t.a) 0).put t.d (vunk first (w.hap t (rget w.vals t.a) 0))
  else bif t.op == 7 then (w.hap t (rget w.vals t.a) (rget w.vals t.b)).tick
  else bif t.op == 8 then (w.hap t 0 0).put t.d (vunk first (w.hap t 0 0))
  else bif t.op == 9 then w.hap t (rget w.vals t.a) 0
  else bif t.op == 10 then (w.hap t 0 0).tick
  else w
structure VOk (first : Int) (R m : Nat) (w : VW) : Prop where
  f : 0 ≤ first ∧ first ≤ 100000
  k4 : ∀ k ∈ w.K, k.length = 4
  e6 : ∀ k ∈ w.effs, k.length = 6
  kl : w.K.length ≤ m
  el : w.effs.length ≤ m
  tl : 0 ≤ w.time ∧ w.time ≤ m
  vl : w.vals.length = R
  v : ∀ n ∈ w.vals, 0 ≤ n ∧ n < first + w.K.length
theorem vnum_ok {first : Int} {K : List (List Int)} {k : List Int} (h : ∀ k ∈ K, k.length = 4) (hk : k.length = 4) (hf : 0 ≤ first) :
    (∀ x ∈ (vnum first K k).2, x.length = 4) ∧ K.length ≤ (vnum first K k).2.length ∧ (vnum first K k).2.length ≤ K.length + 1 ∧ 0 ≤ (vnum first K k).1 ∧ (vnum first K k).1 < first + (vnum first K k).2.length := by
  unfold vnum
  cases e : kidx k K with
  | none =>
    refine ⟨fun x hx => ?_, by simp, by simp, by dsimp only; omega, by simp; omega⟩
    simp only [List.mem_append, List.mem_singleton] at hx
    rcases hx with hx | rfl
    · exact h x hx
    · exact hk
  | some i =>
    have := (kidx_lt e).1
    exact ⟨h, Nat.le_refl _, Nat.le_succ _, by dsimp only; omega, by dsimp only; omega⟩
theorem vapply_ok {first : Int} {K : List (List Int)} {op a b : Int} (h : ∀ k ∈ K, k.length = 4) (hf : 0 ≤ first) :
    (∀ x ∈ (vapply first K op a b).2, x.length = 4) ∧ K.length ≤ (vapply first K op a b).2.length ∧ (vapply first K op a b).2.length ≤ K.length + 1 ∧ 0 ≤ (vapply first K op a b).1 ∧ (vapply first K op a b).1 < first + (vapply first K op a b).2.length := by
  unfold vapply
  cases (vconst first K a).2 && (vconst first K b).2 && (wapp op (vconst first K a).1 (vconst first K b).1).2 == 0 with
  | true => exact vnum_ok h rfl hf
  | false => exact vnum_ok h rfl hf
theorem VOk.mono {first : Int} {R m m' : Nat} {w : VW} (h : VOk first R m w) (hm : m ≤ m') : VOk first R m' w :=
  ⟨h.f, h.k4, h.e6, Nat.le_trans h.kl hm, Nat.le_trans h.el hm, ⟨h.tl.1, by have := h.tl.2; omega⟩, h.vl, h.v⟩
theorem VOk.put {first : Int} {R m : Nat} {w : VW} (h : VOk first R m w) (z : Int) {p : Int × List (List Int)} (hp : (∀ x ∈ p.2, x.length = 4) ∧ w.K.length ≤ p.2.length ∧ p.2.length ≤ w.K.length + 1 ∧ 0 ≤ p.1 ∧ p.1 < first + p.2.length) : VOk first R (m + 1) (w.put z p) where
  f := h.f
  k4 := hp.1
  e6 := h.e6
  kl := by have := h.kl; show p.2.length ≤ _; omega
  el := by have := h.el; show w.effs.length ≤ _; omega
  tl := ⟨h.tl.1, by have := h.tl.2; show w.time ≤ _; omega⟩
  vl := by show (rset w.vals z p.1).length = R; rw [rset_length]; exact h.vl
  v := fun n hn => by
    have hn' : n ∈ rset w.vals z p.1 := hn
    unfold rset at hn'
    show 0 ≤ n ∧ n < first + (p.2.length : Int)
    rcases List.mem_or_eq_of_mem_set hn' with hn' | rfl
    · have := h.v n hn'; omega
    · exact hp.2.2.2
theorem VOk.eff {first : Int} {R m : Nat} {w : VW} (h : VOk first R m w) {x : List Int} (hx : x.length = 6) : VOk first R (m + 1) { w with effs := w.effs ++ [x] } where
  f := h.f
  k4 := h.k4
  e6 := fun k hk => by
    have hk' : k ∈ w.effs ++ [x] := hk
    simp only [List.mem_append, List.mem_singleton] at hk'
    rcases hk' with hk' | rfl
    · exact h.e6 k hk'
    · exact hx
  kl := by have := h.kl; show w.K.length ≤ _; omega
  el := by have := h.el; show (w.effs ++ [x]).length ≤ _; simp; omega
  tl := ⟨h.tl.1, by have := h.tl.2; show w.time ≤ _; omega⟩
  vl := h.vl
  v := h.v
theorem VOk.tick {first : Int} {R m : Nat} {w : VW} (h : VOk first R m w) : VOk first R (m + 1) w.tick where
  f := h.f
  k4 := h.k4
  e6 := h.e6
  kl := by have := h.kl; show w.K.length ≤ _; omega
  el := by have := h.el; show w.effs.length ≤ _; omega
  tl := ⟨by have := h.tl.1; show 0 ≤ w.time + 1; omega, by have := h.tl.2; show w.time + 1 ≤ _; push_cast; omega⟩
  vl := h.vl
  v := h.v
theorem VOk.div {first : Int} {R m : Nat} {w : VW} (h : VOk first R m w) (t : Tac) : VOk first R (m + 1) (w.div first t) := by
  unfold VW.div
  cases vrisky first w t with
  | true => exact h.eff rfl
  | false => exact h.mono (Nat.le_succ _)
theorem div_K (first : Int) (w : VW) (t : Tac) : (w.div first t).K = w.K := by unfold VW.div; cases vrisky first w t <;> rfl
theorem rget_in {l : List Int} {z : Int} (h : 0 ≤ z ∧ z < l.length) : rget l z ∈ l := by
  unfold rget
  rw [List.getElem?_eq_getElem (by omega)]
  exact List.getElem_mem _
theorem VOk.step {first : Int} {R m : Nat} {w : VW} (h : VOk first R m w) (t : Tac) (ha : use1 t.op = true → 0 ≤ t.a ∧ t.a < R) : VOk first R (m + 2) (w.step first t) := by
  unfold VW.step
  have hp := fun (k : List Int) (hk : k.length = 4) => vnum_ok (k := k) h.k4 hk h.f.1
  cases t.op == 1 with
  | true => exact (h.put _ (hp _ rfl)).mono (Nat.le_succ _)
  | false =>
  cases h2 : t.op == 2 with
  | true =>
    have h2' : t.op = 2 := by simpa using h2
    refine VOk.mono (m := m) ⟨h.f, h.k4, h.e6, h.kl, h.el, h.tl, ?_, fun n hn => ?_⟩ (by omega)
    · show (rset w.vals t.d _).length = R; rw [rset_length]; exact h.vl
    · have hn' : n ∈ rset w.vals t.d (rget w.vals t.a) := hn
      unfold rset at hn'
      rcases List.mem_or_eq_of_mem_set hn' with hn' | rfl
      · exact h.v n hn'
      · have := ha (by simp [use1, h2'])
        exact h.v _ (rget_in (by rw [h.vl]; exact this))
  | false =>
  cases t.op == 3 with
  | true =>
    have h1 := h.div t
    have := vapply_ok (op := t.k) (a := rget w.vals t.a) (b := rget w.vals t.b) h.k4 h.f.1
    rw [← div_K first w t] at this
    have h2 := h1.put t.d this
    rw [div_K] at h2
    exact h2
  | false =>
  cases t.op == 4 with
  | true => exact (h.put _ (hp _ rfl)).mono (Nat.le_succ _)
  | false =>
  cases t.op == 5 with
  | true => exact VOk.tick (VOk.eff h rfl)
  | false =>
  cases t.op == 6 with
  | true => exact VOk.put (VOk.eff h rfl) _ (vnum_ok (k := [4, _, 0, 0]) h.k4 rfl h.f.1)
  | false =>
  cases t.op == 7 with
  | true => exact VOk.tick (VOk.eff h rfl)
  | false =>
  cases t.op == 8 with
  | true => exact VOk.put (VOk.eff h rfl) _ (vnum_ok (k := [4, _, 0, 0]) h.k4 rfl h.f.1)
  | false =>
  cases t.op == 9 with
  | true => exact (VOk.eff h rfl).mono (Nat.le_succ _)
  | false =>
  cases t.op == 10 with
  | true => exact VOk.tick (VOk.eff h rfl)
  | false => exact h.mono (by omega)
theorem addZ {x y z : Int} (h1 : -9223372036854775808 ≤ x + y) (h2 : x + y ≤ 9223372036854775807) (hz : z = x + y) : evalBin .add (.int .i64 x) (.int .i64 y) = some (.int .i64 z) := by
  subst hz
  show evalInt .add .i64 x y = _
  simp only [evalInt]
  rw [wrap_i64 h1 h2]
theorem subZ {x y z : Int} (h1 : -9223372036854775808 ≤ x - y) (h2 : x - y ≤ 9223372036854775807) (hz : z = x - y) : evalBin .sub (.int .i64 x) (.int .i64 y) = some (.int .i64 z) := by
  subst hz
  show evalInt .sub .i64 x y = _
  simp only [evalInt]
  rw [wrap_i64 h1 h2]
theorem mulZ {x y z : Int} (h1 : -9223372036854775808 ≤ x * y) (h2 : x * y ≤ 9223372036854775807) (hz : z = x * y) : evalBin .mul (.int .i64 x) (.int .i64 y) = some (.int .i64 z) := by
  subst hz
  show evalInt .mul .i64 x y = _
  simp only [evalInt]
  rw [wrap_i64 h1 h2]
theorem vnone {k : List Int} {K : List (List Int)} {first : Int} (h : (!(aget k (vmap first K)).isSome) = true) : kidx k K = none := by
  rw [vmap_get] at h
  cases e : kidx k K with
  | none => rfl
  | some i => rw [e] at h; cases h
theorem vsome {k : List Int} {K : List (List Int)} {first : Int} (h : (!(aget k (vmap first K)).isSome) = false) : ∃ i, kidx k K = some i := by
  rw [vmap_get] at h
  cases e : kidx k K with
  | none => rw [e] at h; cases h
  | some i => exact ⟨i, rfl⟩
theorem vnum_new {k : List Int} {K : List (List Int)} {first : Int} (h : kidx k K = none) : vnum first K k = (first + (K.length : Int), K ++ [k]) := by unfold vnum; rw [h]
theorem vnum_old {k : List Int} {K : List (List Int)} {first : Int} {i : Nat} (h : kidx k K = some i) : vnum first K k = (first + (i : Int), K) := by unfold vnum; rw [h]
theorem arr_len {K : List (List Int)} {n : Nat} {q : IntKind} (h : ∀ k ∈ K, k.length = n) : ∀ cs ∈ K.map (arrAV q), cs.length = n := fun cs hc => by
  obtain ⟨k, hk, rfl⟩ := List.mem_map.1 hc
  simp [arrAV, h k hk]
theorem arr_all (q : IntKind) (k : List Int) : (arrAV q k).all AV.isPure1 = true := by
  rw [List.all_eq_true]
  intro x hx
  obtain ⟨n, _, rfl⟩ := List.mem_map.1 hx
  rfl
theorem arr_pure {q : IntKind} (K : List (List Int)) : ∀ cs ∈ K.map (arrAV q), cs.all AV.isPure1 = true := fun cs hc => by
  obtain ⟨k, hk, rfl⟩ := List.mem_map.1 hc
  exact arr_all q k
theorem tab_avoid {k : Nat → Bool} (x : Int) (es : List (List AV)) (h1 : k 3 = true) (h2 : k 9 = true) : (AObj.row false 3 [[.int .i64 x, .map 3, slA 9 es]]).avoid k = true := by
  have h := slA_avoid es h2
  have g : (AV.map 3).avoid k = true := h1
  have g2 : (AV.int .i64 x).avoid k = true := rfl
  simp only [AObj.avoid, List.all_cons, List.all_nil, h, g, g2, Bool.and_self]
theorem wlk_avoid {k : Nat → Bool} {v p : Nat} (es es2 : List (List AV)) (x : Int) (h1 : k 4 = true) (h2 : k v = true) (h3 : k p = true) : (AObj.row false 4 [[.ptr 4 1 0 0, vaA v es, slA p es2, .int .i64 x]]).avoid k = true := by
  have h := slA_avoid es2 h3
  have h' := vaA_avoid es h2
  have g : (AV.ptr 4 1 0 0).avoid k = true := h1
  have g2 : (AV.int .i64 x).avoid k = true := rfl
  simp only [AObj.avoid, List.all_cons, List.all_nil, h, h', g, g2, Bool.and_self]
theorem len4 {k : List Int} (h : k.length = 4) : ∃ a b c d, k = [a, b, c, d] := by
  match k, h with
  | [a, b, c, d], _ => exact ⟨a, b, c, d, rfl⟩
theorem vconst_w (first : Int) (K : List (List Int)) (n : Int) : isW (vconst first K n).1 := by
  unfold vconst
  cases decide (n < first) with
  | true => exact isW_zero
  | false => exact isW_wrap _
theorem vkey {first : Int} {K : List (List Int)} {n : Int} (h4 : ∀ k ∈ K, k.length = 4) (hn : 0 ≤ n ∧ n < first + K.length) (h : decide (n < first) = false) :
    0 ≤ n - first ∧ n - first < ((K.map (arrAV .i64)).length : Int) ∧ ∃ a b c d : Int, (K.map (arrAV .i64))[(n - first).toNat]? = some [.int .i64 a, .int .i64 b, .int .i64 c, .int .i64 d] ∧ vconst first K n = (IntKind.u32.wrap b, a == 1) := by
  have hge : first ≤ n := by simpa using h
  have hlt : (n - first).toNat < K.length := by omega
  obtain ⟨k, hk⟩ := get_of_lt hlt
  obtain ⟨a, b, c, d, rfl⟩ := len4 (h4 k (List.mem_of_getElem? hk))
  refine ⟨by omega, by rw [List.length_map]; omega, a, b, c, d, by rw [List.getElem?_map, hk]; rfl, ?_⟩
  unfold vconst
  rw [h, hk]
  rfl
theorem vconst_low {first : Int} {K : List (List Int)} {n : Int} (h : decide (n < first) = true) : vconst first K n = (0, false) := by unfold vconst; rw [h]; rfl
theorem vapply_c {first : Int} {K : List (List Int)} {op a b : Int} (h1 : (vconst first K a).2 = true) (h2 : (vconst first K b).2 = true) (h3 : ((wapp op (vconst first K a).1 (vconst first K b).1).2 == 0) = true) : vapply first K op a b = vnum first K [1, (wapp op (vconst first K a).1 (vconst first K b).1).1, 0, 0] := by
  unfold vapply; rw [h1, h2, h3]; rfl
theorem vapply_o1 {first : Int} {K : List (List Int)} {op a b : Int} (h1 : (vconst first K a).2 = false) : vapply first K op a b = vnum first K [2, op, a, b] := by
  unfold vapply; rw [h1]; rfl
theorem vapply_o2 {first : Int} {K : List (List Int)} {op a b : Int} (h1 : (vconst first K b).2 = false) : vapply first K op a b = vnum first K [2, op, a, b] := by
  unfold vapply; rw [h1, Bool.and_false]; rfl
theorem vapply_o3 {first : Int} {K : List (List Int)} {op a b : Int} (h3 : ((wapp op (vconst first K a).1 (vconst first K b).1).2 == 0) = false) : vapply first K op a b = vnum first K [2, op, a, b] := by
  unfold vapply; rw [h3, Bool.and_false]; rfl
structure TacV (t : Tac) (R : Nat) : Prop where
  d : setsOp t.op = true → 0 ≤ t.d ∧ t.d < R
  a : use1 t.op = true ∨ use2 t.op = true → 0 ≤ t.a ∧ t.a < R
  b : use2 t.op = true → 0 ≤ t.b ∧ t.b < R
  n : isW t.n
def valC (l : List Int) : List (List AV) := l.map fun n => [AV.int .i64 n]
theorem valC_len (l : List Int) : (valC l).length = l.length := List.length_map ..
theorem valC_one (l : List Int) : ∀ cs ∈ valC l, cs.length = 1 := fun cs hc => by
  obtain ⟨n, _, rfl⟩ := List.mem_map.1 hc
  rfl
theorem valC_get {l : List Int} {z : Int} (h : 0 ≤ z ∧ z < l.length) : (valC l)[z.toNat]? = some [AV.int .i64 (rget l z)] := by
  unfold valC rget
  rw [List.getElem?_map, List.getElem?_eq_getElem (by omega)]
  rfl
theorem valC_set (l : List Int) (z v : Int) : valC (rset l z v) = (valC l).set z.toNat [AV.int .i64 v] := by
  unfold valC rset
  rw [List.map_set]
theorem valC_vaA (b : Nat) (l : List Int) (z v : Int) : vaA b (valC (rset l z v)) = vaA b (valC l) := vaA_len (by rw [valC_len, valC_len, rset_length])
theorem bin_yes {first : Int} {w : VW} {t : Tac} (h : vrisky first w t = true) : w.bin first t = ⟨(vapply first w.K t.k (rget w.vals t.a) (rget w.vals t.b)).2, rset w.vals t.d (vapply first w.K t.k (rget w.vals t.a) (rget w.vals t.b)).1, w.effs ++ [[1, t.k, rget w.vals t.a, rget w.vals t.b, 0, 0]], w.time⟩ := by
  unfold VW.bin VW.div VW.put; rw [h]; rfl
theorem bin_no {first : Int} {w : VW} {t : Tac} (h : vrisky first w t = false) : w.bin first t = ⟨(vapply first w.K t.k (rget w.vals t.a) (rget w.vals t.b)).2, rset w.vals t.d (vapply first w.K t.k (rget w.vals t.a) (rget w.vals t.b)).1, w.effs, w.time⟩ := by
  unfold VW.bin VW.div VW.put; rw [h]; rfl
theorem VOk.at {first : Int} {R m : Nat} {w : VW} (h : VOk first R m w) {z : Int} (hz : 0 ≤ z ∧ z < R) : 0 ≤ z ∧ z < w.vals.length ∧ z < ((valC w.vals).length : Int) ∧ 0 ≤ rget w.vals z ∧ rget w.vals z < first + w.K.length := by
  have h1 := h.vl
  have h2 := h.v _ (rget_in (z := z) (by rw [h1]; exact hz))
  rw [valC_len, h1]
  exact ⟨hz.1, hz.2, hz.2, h2.1, h2.2⟩
theorem vstep1 {first : Int} {w : VW} {t : Tac} (ho : t.op = 1) : w.step first t = w.put t.d (vnum first w.K [1, t.n, 0, 0]) := by
  unfold VW.step
  rw [ho]; rfl
theorem vstep2 {first : Int} {w : VW} {t : Tac} (ho : t.op = 2) : w.step first t = { w with vals := rset w.vals t.d (rget w.vals t.a) } := by
  unfold VW.step
  rw [ho]; rfl
theorem vstep3 {first : Int} {w : VW} {t : Tac} (ho : t.op = 3) : w.step first t = w.bin first t := by
  unfold VW.step
  rw [ho]; rfl
theorem vstep4 {first : Int} {w : VW} {t : Tac} (ho : t.op = 4) : w.step first t = w.put t.d (vnum first w.K [3, t.base, w.time, 0]) := by
  unfold VW.step
  rw [ho]; rfl
theorem vstep5 {first : Int} {w : VW} {t : Tac} (ho : t.op = 5) : w.step first t = (w.hap t (rget w.vals t.a) 0).tick := by
  unfold VW.step
  rw [ho]; rfl
theorem vstep6 {first : Int} {w : VW} {t : Tac} (ho : t.op = 6) : w.step first t = (w.hap t (rget w.vals t.a) 0).put t.d (vunk first (w.hap t (rget w.vals t.a) 0)) := by
  unfold VW.step
  rw [ho]; rfl
theorem vstep7 {first : Int} {w : VW} {t : Tac} (ho : t.op = 7) : w.step first t = (w.hap t (rget w.vals t.a) (rget w.vals t.b)).tick := by
  unfold VW.step
  rw [ho]; rfl
theorem vstep8 {first : Int} {w : VW} {t : Tac} (ho : t.op = 8) : w.step first t = (w.hap t 0 0).put t.d (vunk first (w.hap t 0 0)) := by
  unfold VW.step
  rw [ho]; rfl
theorem vstep9 {first : Int} {w : VW} {t : Tac} (ho : t.op = 9) : w.step first t = w.hap t (rget w.vals t.a) 0 := by
  unfold VW.step
  rw [ho]; rfl
theorem vstep10 {first : Int} {w : VW} {t : Tac} (ho : t.op = 10) : w.step first t = (w.hap t 0 0).tick := by
  unfold VW.step
  rw [ho]; rfl
theorem vstep0 {first : Int} {w : VW} {t : Tac} (h1 : (t.op == 1) = false) (h2 : (t.op == 2) = false) (h3 : (t.op == 3) = false) (h4 : (t.op == 4) = false) (h5 : (t.op == 5) = false) (h6 : (t.op == 6) = false) (h7 : (t.op == 7) = false) (h8 : (t.op == 8) = false) (h9 : (t.op == 9) = false) (h10 : (t.op == 10) = false) : w.step first t = w := by
  unfold VW.step
  rw [h1, h2, h3, h4, h5, h6, h7, h8, h9, h10]; rfl
theorem timeZ {x : Int} (h : 0 ≤ x ∧ x ≤ 90000) : evalBin .add (.int .i64 x) (.int .i64 1) = some (.int .i64 (x + 1)) := addZ (by omega) (by omega) rfl
def fillI (R k : Nat) (f : Nat → Int) : List Int := (List.range k).map f ++ List.replicate (R - k) 0
theorem fillI_len {R k : Nat} (f : Nat → Int) (h : k ≤ R) : (fillI R k f).length = R := by simp [fillI]; omega
theorem valC_fill0 (R : Nat) (f : Nat → Int) : valC (fillI R 0 f) = List.replicate R [AV.int .i64 0] := by
  simp [fillI, valC]
theorem fillI_set {R k : Nat} (f : Nat → Int) (h : k < R) : (fillI R k f).set k (f k) = fillI R (k + 1) f := by
  unfold fillI
  rw [List.set_append_right _ _ (by simp), List.range_succ, List.map_append, List.append_assoc]
  congr 1
  rw [show R - k = (R - (k + 1)) + 1 by omega, List.replicate_succ]
  simp
theorem fillI_end (R : Nat) (f : Nat → Int) : fillI R R f = (List.range R).map f := by simp [fillI]
def idsA (R : Nat) : List Int := (List.range R).map fun (v : Nat) => (v : Int)
def sideB (R : Nat) (row : List Bool) (v : Nat) : Int := bif (row[v]?).getD false then (v : Int) else ((R + v : Nat) : Int)
def idsB (R : Nat) (row : List Bool) : List Int := (List.range R).map (sideB R row)
def Cert.at' (c : Cert) (k : Int) : List Bool := (c.same[k.toNat]?).getD []
def vfold (first : Int) (l : List Tac) (w : VW) : VW := l.foldl (VW.step first) w
def vrunA (R : Nat) (old : Block) : VW := vfold (2 * R : Nat) old.ins ⟨[], idsA R, [], 0⟩
def vrunB (R : Nat) (old new : Block) (row : List Bool) : VW := vfold (2 * R : Nat) new.ins ⟨(vrunA R old).K, idsB R row, [], 0⟩
def vagree (x y : VW) (row : List Bool) : Bool := row.zipIdx.all fun p => !p.1 || rget x.vals (p.2 : Int) == rget y.vals (p.2 : Int)
def vsame (R : Nat) (old new : Block) (c : Cert) (i : Int) (next : List Int) : Bool :=
  decide ((vrunA R old).effs = (vrunB R old new (c.at' i)).effs) && ((!(old.fin == 2) || rget (vrunA R old).vals old.v == rget (vrunB R old new (c.at' i)).vals new.v) && next.all fun k => vagree (vrunA R old) (vrunB R old new (c.at' i)) (c.at' k))
theorem vfold_succ {first : Int} {l : List Tac} {w : VW} {k : Nat} {t : Tac} (h : l[k]? = some t) : vfold first (l.take (k + 1)) w = (vfold first (l.take k) w).step first t := by
  unfold vfold
  rw [take_succ_eq h, List.foldl_append]; rfl
theorem vfold_end {first : Int} {l : List Tac} {w : VW} {k : Nat} (h : l.length ≤ k) : vfold first (l.take k) w = vfold first l w := by
  rw [List.take_of_length_le h]
theorem vfold_ok {first : Int} {R m : Nat} {l : List Tac} {w : VW} (h : VOk first R m w) (hl : ∀ t ∈ l, TacV t R) : VOk first R (m + 2 * l.length) (vfold first l w) := by
  unfold vfold
  induction l generalizing w m with
  | nil => exact h
  | cons t l ih =>
    have h1 := h.step t (fun hu => (hl t (by simp)).a (.inl hu))
    have h2 := ih h1 (fun u hu => hl u (by simp [hu]))
    rw [List.length_cons, show m + 2 * (l.length + 1) = m + 2 + 2 * l.length by omega]
    exact h2
theorem vfold_okk {first : Int} {R m : Nat} {l : List Tac} {w : VW} (h : VOk first R m w) (hl : ∀ t ∈ l, TacV t R) (k : Nat) : VOk first R (m + 2 * l.length) (vfold first (l.take k) w) :=
  (vfold_ok h (l := l.take k) (fun t ht => hl t (List.mem_of_mem_take ht))).mono (by rw [List.length_take]; omega)
theorem vok_a {R : Nat} (hR : R ≤ 40000) : VOk (2 * R : Nat) R 0 ⟨[], idsA R, [], 0⟩ where
  f := by omega
  k4 := fun k hk => by simp at hk
  e6 := fun k hk => by simp at hk
  kl := Nat.le_refl _
  el := Nat.le_refl _
  tl := ⟨Int.le_refl 0, by show (0 : Int) ≤ 0; decide⟩
  vl := by simp [idsA]
  v := fun n hn => by
    simp only [idsA, List.mem_map, List.mem_range] at hn
    obtain ⟨v, hv, rfl⟩ := hn
    show 0 ≤ (v : Int) ∧ (v : Int) < ((2 * R : Nat) : Int) + 0
    omega
theorem vok_b {R m : Nat} {w : VW} (hw : VOk (2 * R : Nat) R m w) (row : List Bool) : VOk (2 * R : Nat) R m ⟨w.K, idsB R row, [], 0⟩ where
  f := hw.f
  k4 := hw.k4
  e6 := fun k hk => by simp at hk
  kl := hw.kl
  el := Nat.zero_le _
  tl := ⟨Int.le_refl 0, by show (0 : Int) ≤ m; omega⟩
  vl := by simp [idsB]
  v := fun n hn => by
    simp only [idsB, List.mem_map, List.mem_range] at hn
    obtain ⟨v, hv, rfl⟩ := hn
    show 0 ≤ sideB R row v ∧ sideB R row v < ((2 * R : Nat) : Int) + (w.K.length : Int)
    unfold sideB
    cases (row[v]?).getD false <;> simp only [cond_true, cond_false] <;> omega
theorem load_arr {K : IntKind} {l : List Int} {i : TyI} (h : i.k.isAgg = true) (hs : i.size = l.length) : loadAV i (arrAV K l) = some (.agg (arrAV K l)) := by
  unfold loadAV
  rw [h, hs]
  have e : (arrAV K l).length = l.length := by simp [arrAV]
  rw [← e, show Nat.ble (arrAV K l).length (arrAV K l).length = true by rw [Nat.ble_eq]; exact Nat.le_refl _, List.take_length]
  rfl
theorem arr_get {K : IntKind} {L : List (List Int)} {k : Nat} {x : List Int} (h : L[k]? = some x) : (L.map (arrAV K))[((k : Nat) : Int).toNat]? = some (arrAV K x) := by
  rw [Int.toNat_natCast, List.getElem?_map, h]; rfl
theorem take_eq_succ {α : Type} {l l' : List α} {k : Nat} {x : α} (h : l.take k = l'.take k) (hx : l[k]? = some x) (hy : l'[k]? = some x) : l.take (k + 1) = l'.take (k + 1) := by
  rw [take_succ_eq hx, take_succ_eq hy, h]
theorem weakOne {cs cs' : List AV} (hl : cs'.length = cs.length) (h : ∀ (j : Nat) (x y : AV), cs[j]? = some x → cs'[j]? = some y → x = y ∨ (x = .nil ∧ y = .lst true [])) :
    ∀ (i : Nat) (ds ds' : List AV), [cs][i]? = some ds → [cs'][i]? = some ds' → ds'.length = ds.length ∧ ∀ (j : Nat) (x y : AV), ds[j]? = some x → ds'[j]? = some y → (x.cell1 = true → y.cell1 = true) ∧ ∀ H ι v, Rel H ι x v → Rel H ι y v := by
  intro i ds ds' h1 h2
  cases i with
  | succ i => simp at h1
  | zero =>
    simp at h1 h2
    subst h1; subst h2
    refine ⟨hl, fun j x y hx hy => ?_⟩
    rcases h j x y hx hy with rfl | ⟨rfl, rfl⟩
    · exact ⟨id, fun _ _ _ => id⟩
    · exact ⟨fun _ => rfl, fun _ _ _ => nil_lst⟩
theorem weakTab {a b : AV} : ∀ (i : Nat) (ds ds' : List AV), [[a, b, AV.nil]][i]? = some ds → [[a, b, AV.lst true []]][i]? = some ds' → ds'.length = ds.length ∧ ∀ (j : Nat) (x y : AV), ds[j]? = some x → ds'[j]? = some y → (x.cell1 = true → y.cell1 = true) ∧ ∀ H ι v, Rel H ι x v → Rel H ι y v :=
  weakOne rfl fun j x y hx hy => by
    match j with
    | 0 => simp at hx hy; exact .inl (hx.symm.trans hy)
    | 1 => simp at hx hy; exact .inl (hx.symm.trans hy)
    | 2 => simp at hx hy; exact .inr ⟨hx.symm, hy.symm⟩
    | j + 3 => simp at hx
theorem weakWlk {a b d : AV} : ∀ (i : Nat) (ds ds' : List AV), [[a, b, AV.nil, d]][i]? = some ds → [[a, b, AV.lst true [], d]][i]? = some ds' → ds'.length = ds.length ∧ ∀ (j : Nat) (x y : AV), ds[j]? = some x → ds'[j]? = some y → (x.cell1 = true → y.cell1 = true) ∧ ∀ H ι v, Rel H ι x v → Rel H ι y v :=
  weakOne rfl fun j x y hx hy => by
    match j with
    | 0 => simp at hx hy; exact .inl (hx.symm.trans hy)
    | 1 => simp at hx hy; exact .inl (hx.symm.trans hy)
    | 2 => simp at hx hy; exact .inr ⟨hx.symm, hy.symm⟩
    | 3 => simp at hx hy; exact .inl (hx.symm.trans hy)
    | j + 4 => simp at hx
section
variable {R k : Nat}
theorem valC_setN (l : List Int) (k : Nat) (v : Int) : (valC l).set k [AV.int .i64 v] = valC (l.set k v) := by unfold valC; rw [List.map_set]
theorem fillRow (f : Nat → Int) (h : k < R) : some (vaO ((valC (fillI R k f)).set ((k : Nat) : Int).toNat [AV.int .i64 (f k)])) = some (vaO (valC (fillI R (k + 1) f))) := by
  rw [Int.toNat_natCast, valC_setN, fillI_set f h]
theorem fillRowA (h : k < R) : some (vaO ((valC (fillI R k (fun v : Nat => (v : Int)))).set ((k : Nat) : Int).toNat [AV.int .i64 (k : Int)])) = some (vaO (valC (fillI R (k + 1) (fun v : Nat => (v : Int))))) := fillRow _ h
theorem fillRowB {row : List Bool} (h : k < R) (hb : row[k]? = some true) : some (vaO ((valC (fillI R k (sideB R row))).set ((k : Nat) : Int).toNat [AV.int .i64 (k : Int)])) = some (vaO (valC (fillI R (k + 1) (sideB R row)))) := by
  have e : (k : Int) = sideB R row k := by unfold sideB; rw [hb]; rfl
  have := fillRow (sideB R row) h
  rw [← e] at this
  exact this
theorem fillRowB2 {row : List Bool} (h : k < R) (hb : row[k]? = some false) : some (vaO (((valC (fillI R k (sideB R row))).set ((k : Nat) : Int).toNat [AV.int .i64 (k : Int)]).set ((k : Nat) : Int).toNat [AV.int .i64 ((R + k : Nat) : Int)])) = some (vaO (valC (fillI R (k + 1) (sideB R row)))) := by
  have e : ((R + k : Nat) : Int) = sideB R row k := by unfold sideB; rw [hb]; rfl
  have := fillRow (sideB R row) h
  rw [← e] at this
  rw [List.set_set]
  exact this
theorem fillWlk {v : Nat} (f : Nat → Int) (a x y : AV) (h : k < R) : some (AObj.row false 4 [[a, vaA v (valC (fillI R k f)), x, y]]) = some (AObj.row false 4 [[a, vaA v (valC (fillI R (k + 1) f)), x, y]]) := by
  rw [vaA_len (es := valC (fillI R k f)) (es' := valC (fillI R (k + 1) f)) (by rw [valC_len, valC_len, fillI_len f h, fillI_len f (Nat.le_of_lt h)])]
theorem initA : some (vaO (valC (fillI R R (fun v : Nat => (v : Int))))) = some (vaO (valC (idsA R))) := by rw [fillI_end]; rfl
theorem initB (row : List Bool) : some (vaO (valC (fillI R R (sideB R row)))) = some (vaO (valC (idsB R row))) := by rw [fillI_end]; rfl
theorem initWA {v : Nat} (a x y : AV) : some (AObj.row false 4 [[a, vaA v (valC (fillI R R (fun v : Nat => (v : Int)))), x, y]]) = some (AObj.row false 4 [[a, vaA v (valC (idsA R)), x, y]]) := by rw [fillI_end]; rfl
theorem initWB {v : Nat} (row : List Bool) (a x y : AV) : some (AObj.row false 4 [[a, vaA v (valC (fillI R R (sideB R row))), x, y]]) = some (AObj.row false 4 [[a, vaA v (valC (idsB R row)), x, y]]) := by rw [fillI_end]; rfl
theorem fill0R (f : Nat → Int) : some (vaO (List.replicate R [AV.int .i64 0])) = some (vaO (valC (fillI R 0 f))) := by rw [valC_fill0]
theorem fill0W {v : Nat} (f : Nat → Int) (a x y : AV) : some (AObj.row false 4 [[a, vaA v (List.replicate R [AV.int .i64 0]), x, y]]) = some (AObj.row false 4 [[a, vaA v (valC (fillI R 0 f)), x, y]]) := by rw [valC_fill0]
end
theorem bne_ne' {a b : Int} (h : (a != b) = true) : ¬ a = b := by simpa using h
theorem bne_eq' {a b : Int} (h : (a != b) = false) : a = b := by simpa using h
theorem ndec_no {p : Prop} [Decidable p] (h : (!decide p) = true) : ¬ p := by simpa using h
theorem ndec_yes {p : Prop} [Decidable p] (h : (!decide p) = false) : p := by simpa using h
def vagreeTo (x y : VW) (row : List Bool) (k : Nat) : Prop := ∀ j, j < k → ∀ b, row[j]? = some b → b = true → rget x.vals (j : Int) = rget y.vals (j : Int)
theorem vagree_zero {x y : VW} {row : List Bool} : vagreeTo x y row 0 := fun j h => absurd h (Nat.not_lt_zero _)
theorem vagree_succ {x y : VW} {row : List Bool} {k : Nat} {must : Bool} (h : vagreeTo x y row k) (hm : row[k]? = some must) (hk : must = true → rget x.vals (k : Int) = rget y.vals (k : Int)) : vagreeTo x y row (k + 1) := fun j hj b hb hbt => by
  by_cases hjk : j = k
  · subst hjk
    rw [hm] at hb
    exact hk ((Option.some.inj hb).trans hbt)
  · exact h j (by omega) b hb hbt
theorem vagree_iff {x y : VW} {row : List Bool} : vagree x y row = true ↔ ∀ (j : Nat) (b : Bool), row[j]? = some b → b = true → rget x.vals (j : Int) = rget y.vals (j : Int) := by
  unfold vagree
  rw [List.all_eq_true]
  constructor
  · intro h j b hb hbt
    have := h (b, j) (List.mem_of_getElem? (zipIdx_get hb))
    subst hbt
    simpa using this
  · rintro h ⟨b, j⟩ hp
    obtain ⟨i, hi⟩ := List.mem_iff_getElem?.1 hp
    rw [List.getElem?_zipIdx, Option.map_eq_some_iff] at hi
    obtain ⟨b', hb', e⟩ := hi
    simp only [Nat.zero_add, Prod.mk.injEq] at e
    obtain ⟨rfl, rfl⟩ := e
    cases b' with
    | false => rfl
    | true => simpa using h _ true hb' rfl
theorem vagree_end {x y : VW} {row : List Bool} {k : Nat} (hk : row.length ≤ k) (h : vagreeTo x y row k) : vagree x y row = true :=
  vagree_iff.2 fun j b hb hbt => h j (by have := (List.getElem?_eq_some_iff.1 hb).1; omega) b hb hbt
theorem vagree_no {x y : VW} {row : List Bool} {k : Nat} {must : Bool} (hm : row[k]? = some must) (ht : must = true) (hne : ¬ rget x.vals (k : Int) = rget y.vals (k : Int)) : vagree x y row = false := by
  rw [Bool.eq_false_iff]
  intro h
  exact hne (vagree_iff.1 h k must hm ht)
section
variable {R : Nat} {old new : Block} {c : Cert} {i : Int} {next : List Int}
theorem vsame_no1 (h : ¬ (vrunA R old).effs = (vrunB R old new (c.at' i)).effs) : vsame R old new c i next = false := by
  unfold vsame; rw [decide_eq_false h]; rfl
theorem vsame_no2 (hf : old.fin = 2) (h : ¬ rget (vrunA R old).vals old.v = rget (vrunB R old new (c.at' i)).vals new.v) : vsame R old new c i next = false := by
  unfold vsame
  rw [hf, show (rget (vrunA R old).vals old.v == rget (vrunB R old new (c.at' i)).vals new.v) = false by simpa using h]
  simp
theorem vsame_no3 {j : Nat} {nk : Int} (hj : next[j]? = some nk) (h : vagree (vrunA R old) (vrunB R old new (c.at' i)) (c.at' nk) = false) : vsame R old new c i next = false := by
  unfold vsame
  rw [all_bad hj (p := fun k => vagree (vrunA R old) (vrunB R old new (c.at' i)) (c.at' k)) h, Bool.and_false, Bool.and_false]
theorem vsame_yes (h1 : (vrunA R old).effs = (vrunB R old new (c.at' i)).effs) (h2 : old.fin = 2 → rget (vrunA R old).vals old.v = rget (vrunB R old new (c.at' i)).vals new.v) (h3 : (next.all fun k => vagree (vrunA R old) (vrunB R old new (c.at' i)) (c.at' k)) = true) : vsame R old new c i next = true := by
  unfold vsame
  rw [decide_eq_true h1, h3]
  by_cases hf : old.fin = 2
  · rw [h2 hf]; simp
  · have : (old.fin == 2) = false := by simpa using hf
    rw [this]; rfl
end
def pathCell (p : List Int) : List AV := [intsAV p]
def Block.nexts (b : Block) : List Int := bif b.fin == 1 then [b.to] else bif b.fin == 2 then [b.to, b.els] else []
def BFunc.nexts (f : BFunc) : List (List Int) := f.blocks.map Block.nexts
theorem nexts_length (f : BFunc) : f.nexts.length = f.blocks.length := by simp [BFunc.nexts]
theorem nexts_get {f : BFunc} {k : Nat} {x : Block} (h : f.blocks[k]? = some x) : f.nexts[k]? = some x.nexts := by simp [BFunc.nexts, h]
theorem fill_skip {α : Type} {F : List α} {f : α → List AV} {z : List AV} {k n : Nat} {x : α} (hF : F.length = n) (hx : F[k]? = some x) (hz : f x = z) : ((F.take k).map f ++ List.replicate (n - k) z) = (F.take (k + 1)).map f ++ List.replicate (n - (k + 1)) z := by
  have hk : k < n := by rw [← hF]; exact (List.getElem?_eq_some_iff.1 hx).1
  rw [take_succ_eq hx, List.map_append, List.append_assoc]
  congr 1
  obtain ⟨m, hm⟩ : ∃ m, n - k = m + 1 := ⟨n - k - 1, by omega⟩
  have hm2 : n - (k + 1) = m := by omega
  rw [hm, hm2]
  simp [List.replicate_succ, hz]
structure DS where
  been : List Bool
  way : List (Int × Int)
def rowAt (next : List (List Int)) (b : Int) : List Int := (next[b.toNat]?).getD []
structure DS.ok (next : List (List Int)) (s : DS) : Prop where
  len : s.been.length = next.length
  way : ∀ p ∈ s.way, 0 ≤ p.1 ∧ p.1 < next.length ∧ 0 ≤ p.2 ∧ p.2 ≤ (rowAt next p.1).length
def callTac (b : Int) : Tac := ⟨10, 0, 0, 0, 0, b, 0, 0⟩
def Tac.callOk (t : Tac) : Bool := t.op != 10 || (decide (0 ≤ t.base) && t.same (callTac t.base))
def noCall (l : List Tac) : List Tac := l.filter fun t => t.op != 10
def Block.bare (x : Block) : Block := { x with ins := noCall x.ins }
def BFunc.bare (f : BFunc) : BFunc := ⟨f.regs, f.blocks.map Block.bare⟩
def BFunc.stands (f : BFunc) : Bool := f.blocks.all (fun x => x.ins.all Tac.callOk) && (Blocks.mk 1048576 [f.bare]).right
def shapeB (x y : Block) : Bool := x.fin == y.fin && (x.to == y.to && x.els == y.els)
def vshaped (old new : BFunc) : Bool := decide (old.regs = new.regs) && (decide (old.blocks.length = new.blocks.length) && (old.stands && (new.stands && (old.blocks.zip new.blocks).all fun p => shapeB p.1 p.2)))
def vblocks (old new : BFunc) (c : Cert) : Bool := (old.blocks.zip new.blocks).zipIdx.all fun p => vsame old.regs.toNat p.1.1 p.1.2 c (p.2 : Int) p.1.1.nexts
def vcheck (old new : BFunc) (c : Cert) : Bool := vshaped old new && (decide (c.same.length = old.blocks.length) && ((c.same.all fun r => decide ((r.length : Int) = old.regs)) && vblocks old new c))
theorem Ghost.freezeAll0 {n : Nat} {e : AEnv} {h : AHeap} (t b : Nat) {m sz : Nat} {es : List (List AV)} (ht : e t = some (.ref b m 0 m)) (hb : h b = some (.row true sz es)) (hm : m = es.length) :
    Ghost ⟨n, e, h⟩ ⟨n, eput e t (.lst false es), hrm h b⟩ := by
  have := Ghost.freeze (n := n) t b ht hb hm
  rwa [List.drop_zero, List.take_of_length_le (Nat.le_of_eq hm.symm)] at this
theorem ndec_same {b : Bool} (h : (!b) = false) : b = true := by simpa using h
theorem ndec_same' {b : Bool} (h : (!b) = true) : b = false := by simpa using h
theorem callOk_no {t : Tac} (h : (t.op != 10) = true) : t.callOk = true := by unfold Tac.callOk; rw [h]; rfl
theorem callOk_bad1 {t : Tac} (h : (t.op != 10) = false) (hb : decide (t.base < 0) = true) : t.callOk = false := by
  unfold Tac.callOk
  rw [h, show decide (0 ≤ t.base) = false by simp at hb ⊢; omega]; rfl
theorem callOk_bad2 {t : Tac} (h : (t.op != 10) = false) (hb : t.same (callTac t.base) = false) : t.callOk = false := by
  unfold Tac.callOk
  rw [h, hb, Bool.and_false]; rfl
theorem callOk_yes {t : Tac} (h : (t.op != 10) = false) (hb : decide (t.base < 0) = false) (h2 : t.same (callTac t.base) = true) : t.callOk = true := by
  unfold Tac.callOk
  rw [h, h2, show decide (0 ≤ t.base) = true by simp at hb ⊢; omega]; rfl
theorem noCall_yes {l : List Tac} {k : Nat} {t : Tac} (hx : l[k]? = some t) (h : (t.op != 10) = true) : noCall (l.take (k + 1)) = noCall (l.take k) ++ [t] := by
  unfold noCall
  rw [take_succ_eq hx, List.filter_append]
  simp [h]
theorem noCall_no {l : List Tac} {k : Nat} {t : Tac} (hx : l[k]? = some t) (h : (t.op != 10) = false) : noCall (l.take (k + 1)) = noCall (l.take k) := by
  unfold noCall
  rw [take_succ_eq hx, List.filter_append]
  simp [h]
theorem noCall_len (l : List Tac) : (noCall l).length ≤ l.length := List.length_filter_le _ _
theorem noCall_take (l : List Tac) (k : Nat) : (noCall (l.take k)).length ≤ l.length := Nat.le_trans (noCall_len _) (by rw [List.length_take]; omega)
theorem stands_bad {f : BFunc} {k j : Nat} {x : Block} {t : Tac} (hx : f.blocks[k]? = some x) (ht : x.ins[j]? = some t) (h : t.callOk = false) : f.stands = false := by
  unfold BFunc.stands
  rw [all_bad hx (p := fun x : Block => x.ins.all Tac.callOk) (all_bad ht h)]; rfl
theorem stands_all {f : BFunc} (h : f.blocks.all (fun x => x.ins.all Tac.callOk) = true) : f.stands = (Blocks.mk 1048576 [f.bare]).right := by
  unfold BFunc.stands; rw [h]; rfl
theorem bare_get {f : BFunc} {k : Nat} {x : Block} (h : f.blocks[k]? = some x) : (f.blocks.map Block.bare)[k]? = some x.bare := by simp [h]
structure Standing (f : BFunc) : Prop where
  r0 : 0 ≤ f.regs
  r1 : f.regs ≤ 4000
  ne : f.blocks.length ≠ 0
  tacs : ∀ x ∈ f.blocks, ∀ t ∈ x.ins, isW t.n → TacV t f.regs.toNat
  fin : ∀ x ∈ f.blocks, x.fin = 1 ∨ x.fin = 2 ∨ x.fin = 3
  v : ∀ x ∈ f.blocks, x.fin = 2 → 0 ≤ x.v ∧ x.v < f.regs
  next : ∀ x ∈ f.blocks, ∀ k ∈ x.nexts, 0 ≤ k ∧ k < f.blocks.length
theorem stands_of {f : BFunc} (h : f.stands = true) : Standing f := by
  unfold BFunc.stands at h
  rw [Bool.and_eq_true] at h
  obtain ⟨h1, h2⟩ := h
  simp only [Blocks.right, Bool.and_eq_true, decide_eq_true_eq, List.all_eq_true] at h2
  have h3 := h2.2.2.2 (f.bare, 0) (by simp)
  simp only [BFunc.one, Bool.and_eq_true, decide_eq_true_eq, Bool.not_eq_true', List.isEmpty_eq_false_iff, List.all_eq_true, BFunc.bare, List.length_map] at h3
  obtain ⟨a1, a2, a3, a4⟩ := h3
  have hb : ∀ x ∈ f.blocks, x.ends f.blocks.length f.regs = true ∧ ∀ t ∈ noCall x.ins, t.fits 0 f.regs 1048576 = true := fun x hx => by
    have := a4 x.bare (List.mem_map.2 ⟨x, hx, rfl⟩)
    unfold Block.ok at this
    rw [Bool.and_eq_true, List.all_eq_true] at this
    exact this
  have hend : ∀ x ∈ f.blocks, (x.fin = 1 ∧ within x.to f.blocks.length = true) ∨ (x.fin = 2 ∧ within x.to f.blocks.length = true ∧ within x.els f.blocks.length = true ∧ within x.v f.regs = true) ∨ x.fin = 3 := fun x hx => by
    have he := (hb x hx).1
    unfold Block.ends at he
    cases e1 : x.fin == 1 with
    | true => rw [e1] at he; simp only [cond_true, Bool.and_eq_true] at he; exact .inl ⟨by simpa using e1, he.1⟩
    | false =>
      cases e2 : x.fin == 2 with
      | true => rw [e1, e2] at he; simp only [cond_true, cond_false, Bool.and_eq_true] at he; exact .inr (.inl ⟨by simpa using e2, he.1, he.2.1, he.2.2⟩)
      | false => rw [e1, e2] at he; simp only [cond_false, Bool.and_eq_true, beq_iff_eq] at he; exact .inr (.inr he.1)
  have hw : ∀ {i n : Int}, within i n = true → 0 ≤ i ∧ i < n := fun {i n} h => by simpa [within] using h
  refine ⟨of_decide_eq_true a1, of_decide_eq_true a2, fun e => a3 (by simp [List.eq_nil_of_length_eq_zero e]), fun x hx t ht hn => ?_, fun x hx => ?_, fun x hx hf => ?_, fun x hx k hk => ?_⟩
  · by_cases h10 : t.op = 10
    · exact ⟨(fun h => by rw [h10] at h; cases h), (fun h => by rw [h10] at h; rcases h with h | h <;> cases h), (fun h => by rw [h10] at h; cases h), hn⟩
    · have hf := (hb x hx).2 t (List.mem_filter.2 ⟨ht, by simpa using h10⟩)
      have hi := tacIn_of hf
      exact ⟨hi.d, hi.a, hi.b, hn⟩
  · rcases hend x hx with h | h | h
    · exact .inl h.1
    · exact .inr (.inl h.1)
    · exact .inr (.inr h)
  · rcases hend x hx with h | h | h
    · exact absurd (hf.symm.trans h.1) (by decide)
    · exact hw h.2.2.2
    · exact absurd (hf.symm.trans h) (by decide)
  · rcases hend x hx with h | h | h
    · rw [Block.nexts, show (x.fin == 1) = true by simp [h.1]] at hk
      simp only [cond_true, List.mem_singleton] at hk
      rw [hk]; exact hw h.2
    · rw [Block.nexts, show (x.fin == 1) = false by simp [h.1], show (x.fin == 2) = true by simp [h.1]] at hk
      simp only [cond_true, cond_false, List.mem_cons, List.not_mem_nil, or_false] at hk
      rcases hk with rfl | rfl
      · exact hw h.2.1
      · exact hw h.2.2.1
    · rw [Block.nexts, show (x.fin == 1) = false by simp [h], show (x.fin == 2) = false by simp [h]] at hk
      simp at hk
theorem nexts_short (x : Block) : x.nexts.length ≤ 100000 := by
  unfold Block.nexts
  cases x.fin == 1 <;> cases x.fin == 2 <;> simp
theorem zip_at {α β : Type} {l : List α} {m : List β} {k : Nat} {x : α} {y : β} (hx : l[k]? = some x) (hy : m[k]? = some y) : (l.zip m)[k]? = some (x, y) := by
  rw [List.getElem?_zip_eq_some]; exact ⟨hx, hy⟩
theorem vshaped_regs {old new : BFunc} (h : (old.regs != new.regs) = true) : vshaped old new = false := by
  unfold vshaped; rw [decide_eq_false (by simpa using h)]; rfl
theorem vshaped_len {old new : BFunc} (h : ¬ old.blocks.length = new.blocks.length) : vshaped old new = false := by
  unfold vshaped; rw [decide_eq_false h]; simp
theorem vshaped_s1 {old new : BFunc} (h : old.stands = false) : vshaped old new = false := by unfold vshaped; rw [h]; simp
theorem vshaped_s2 {old new : BFunc} (h : new.stands = false) : vshaped old new = false := by unfold vshaped; rw [h]; simp
theorem vshaped_b {old new : BFunc} {k : Nat} {x y : Block} (hx : old.blocks[k]? = some x) (hy : new.blocks[k]? = some y) (h : shapeB x y = false) : vshaped old new = false := by
  unfold vshaped
  rw [all_bad (zip_at hx hy) (p := fun p : Block × Block => shapeB p.1 p.2) h]; simp
theorem vshaped_yes {old new : BFunc} (h1 : old.regs = new.regs) (h2 : old.blocks.length = new.blocks.length) (h3 : old.stands = true) (h4 : new.stands = true) (h5 : ((old.blocks.zip new.blocks).all fun p => shapeB p.1 p.2) = true) : vshaped old new = true := by
  unfold vshaped
  rw [decide_eq_true h1, decide_eq_true h2, h3, h4, h5]; rfl
theorem vshaped_len' {old new : BFunc} (h : ((((old.blocks.map Block.cells).length : Nat) : Int) != (((new.blocks.map Block.cells).length : Nat) : Int)) = true) : vshaped old new = false :=
  vshaped_len (fun e => by rw [List.length_map, List.length_map, e] at h; simp at h)
theorem len_eq' {old new : BFunc} (h : ((((old.blocks.map Block.cells).length : Nat) : Int) != (((new.blocks.map Block.cells).length : Nat) : Int)) = false) : old.blocks.length = new.blocks.length := by
  rw [List.length_map, List.length_map] at h
  have := bne_eq' h
  omega
theorem shape_f {x y : Block} (h : (x.fin != y.fin) = true) : shapeB x y = false := by
  unfold shapeB; rw [show (x.fin == y.fin) = false by simpa using h]; rfl
theorem shape_t {x y : Block} (h : (x.to != y.to) = true) : shapeB x y = false := by
  unfold shapeB; rw [show (x.to == y.to) = false by simpa using h]; simp
theorem shape_e {x y : Block} (h : (x.els != y.els) = true) : shapeB x y = false := by
  unfold shapeB; rw [show (x.els == y.els) = false by simpa using h]; simp
theorem shape_y {x y : Block} (h1 : (x.fin != y.fin) = false) (h2 : (x.to != y.to) = false) (h3 : (x.els != y.els) = false) : shapeB x y = true := by
  unfold shapeB; rw [bne_eq' h1, bne_eq' h2, bne_eq' h3]; simp
theorem vcheck_no1 {old new : BFunc} {c : Cert} (h : vshaped old new = false) : vcheck old new c = false := by unfold vcheck; rw [h]; rfl
theorem vcheck_no2 {old new : BFunc} {c : Cert} (h : ((((c.same.map fun r => [boolsAV r]).length : Nat) : Int) != (((old.blocks.map Block.cells).length : Nat) : Int)) = true) : vcheck old new c = false := by
  unfold vcheck
  rw [decide_eq_false (fun e => by rw [List.length_map, List.length_map, e] at h; simp at h : ¬ c.same.length = old.blocks.length)]
  simp
theorem cert_len {old : BFunc} {c : Cert} (h : ((((c.same.map fun r => [boolsAV r]).length : Nat) : Int) != (((old.blocks.map Block.cells).length : Nat) : Int)) = false) : c.same.length = old.blocks.length := by
  rw [List.length_map, List.length_map] at h
  have := bne_eq' h
  omega
theorem vcheck_no3 {old new : BFunc} {c : Cert} {k : Nat} {r : List Bool} (hr : c.same[k]? = some r) (h : ¬ (r.length : Int) = old.regs) : vcheck old new c = false := by
  unfold vcheck
  rw [all_bad hr (p := fun r : List Bool => decide ((r.length : Int) = old.regs)) (decide_eq_false h)]
  simp
theorem vcheck_no4 {old new : BFunc} {c : Cert} {k : Nat} {x y : Block} (hx : old.blocks[k]? = some x) (hy : new.blocks[k]? = some y) (h : vsame old.regs.toNat x y c (k : Int) x.nexts = false) : vcheck old new c = false := by
  unfold vcheck vblocks
  rw [all_bad (zipIdx_get (zip_at hx hy)) (p := fun p : (Block × Block) × Nat => vsame old.regs.toNat p.1.1 p.1.2 c (p.2 : Int) p.1.1.nexts) h]
  simp
theorem vcheck_yes {old new : BFunc} {c : Cert} (h1 : vshaped old new = true) (h2 : c.same.length = old.blocks.length) (h3 : (c.same.all fun r => decide ((r.length : Int) = old.regs)) = true) (h4 : vblocks old new c = true) : vcheck old new c = true := by
  unfold vcheck
  rw [h1, decide_eq_true h2, h3, h4]; rfl
structure VShape (old new : BFunc) : Prop where
  regs : old.regs = new.regs
  len : old.blocks.length = new.blocks.length
  so : old.stands = true
  sn : new.stands = true
  b : ∀ (k : Nat) (x y : Block), old.blocks[k]? = some x → new.blocks[k]? = some y → x.fin = y.fin ∧ x.to = y.to ∧ x.els = y.els
theorem vshaped_of {old new : BFunc} (h : vshaped old new = true) : VShape old new := by
  simp only [vshaped, Bool.and_eq_true, decide_eq_true_eq, List.all_eq_true] at h
  refine ⟨h.1, h.2.1, h.2.2.1, h.2.2.2.1, fun k x y hx hy => ?_⟩
  have := h.2.2.2.2 (x, y) (List.mem_of_getElem? (zip_at hx hy))
  simpa [shapeB] using this
section
variable {P : Program} {T : Nat → Option TyI} {o : Oper} {e : AEnv} {h : AHeap}
theorem places_run (hT : TOk P T) {w : World} : ∀ {fl : List Field}, (∀ f ∈ fl, ∃ i', T f.type = some i') →
    ∃ l : List (Nat × Nat), (fl.mapM fun f => (do pure (f.offset, ← sizeOf f.type) : Sem (Nat × Nat))).run P w = .ok l w ∧ ∀ (i off t : Nat), (fl.map fun f => (f.offset, f.type))[i]? = some (off, t) → ∃ i', T t = some i' ∧ l[i]? = some (off, i'.size)
  | [], _ => ⟨[], by simp, fun i off t h => by simp at h⟩
  | f :: fl, hk => by
    obtain ⟨l, h1, h2⟩ := places_run hT (w := w) (fl := fl) (fun g hg => hk g (by simp [hg]))
    obtain ⟨i', hi'⟩ := hk f (by simp)
    obtain ⟨info', d', c1, c2, c3, c4, _⟩ := tyOf_spec (hT _ _ hi')
    refine ⟨(f.offset, i'.size) :: l, ?_, fun k off t h3 => ?_⟩
    · rw [List.mapM_cons]
      simp only [Sem.run_bind, run_isz c1, Result.andThen_ok, Sem.run_pure, h1, c4]
    · cases k with
      | zero => simp at h3; obtain ⟨rfl, rfl⟩ := h3; exact ⟨i', hi', rfl⟩
      | succ k => simp only [List.map_cons, List.getElem?_cons_succ] at h3 ⊢; exact h2 k off t h3
theorem one_cell {H : Know} {ι : Lay} {x : AV} {v : Value} (h : Rel H ι x v) (hc : x.cell1 = true) : ∃ u, v.cells = #[u] ∧ Rel H ι x u := by
  obtain ⟨c1, c2⟩ := cells_rel h
  have hx : x.cells = [x] := by cases x <;> first | rfl | cases hc
  rw [hx] at c1 c2
  have hs : v.cells.size = 1 := by simpa using c1.symm
  obtain ⟨u, hu⟩ := getElem?_some_of_lt (c := v.cells) (j := 0) (by omega)
  refine ⟨u, ?_, c2 0 x u rfl hu⟩
  apply Array.ext
  · simp [hs]
  · intro j h1 h2
    have : j = 0 := by omega
    subst this
    rw [Array.getElem?_eq_getElem h1] at hu
    simpa using hu
theorem q_buildM (hT : TOk P T) {t : TypeId} {parts : Array (Nat × Operand)} {i i0 i1 i2 : TyI} {x y : AV} {t0 t1 t2 : Nat} {z0 z1 : Value} (ho : o.op = .build t parts) (hx : lookParts e parts.toList = some [(0, x), (1, y)]) (hi : T t = some i) (hk : i.k = .struct [(0, t0), (1, t1), (2, t2)])
    (h0 : T t0 = some i0) (h1 : T t1 = some i1) (h2 : T t2 = some i2) (s0 : i0.size = 1) (s1 : i1.size = 1) (hz : (P.info? t).bind (·.zero) = some (.agg #[z0, z1, .slice none 0 0])) (hx1 : x.cell1 = true) (hy1 : y.cell1 = true) : QLoc P o e h [] (.agg [x, y, .nil]) := by
  intro H ι a w s hs g1 g2
  have hx' : lookParts s.env parts.toList = some [(0, x), (1, y)] := by
    rw [lookParts_agree (e := e) (fun x hx => g1 x z30q)]; exact hx
  obtain ⟨l1, l2⟩ := lookParts_rel hs hx'
  obtain ⟨info, d, e1, e2, e3, e4, e5, e6⟩ := tyOf_spec (hT _ _ hi)
  obtain ⟨A, rfl, hA, hzz⟩ := tk_struct (P := P) (d := d) (e3 ▸ hk)
  have hzv : info.zero = some (.agg #[z0, z1, .slice none 0 0]) := by rw [e1] at hz; exact hz
  obtain ⟨l, k1, k2⟩ := places_run hT (w := w) (fl := A.toList) (fun f hf => by
    have hm : (f.offset, f.type) ∈ A.toList.map fun f => (f.offset, f.type) := List.mem_map.2 ⟨f, hf, rfl⟩
    rw [← hA] at hm
    simp only [List.mem_cons, Prod.mk.injEq, List.not_mem_nil, or_false] at hm
    rcases hm with ⟨_, q⟩ | ⟨_, q⟩ | ⟨_, q⟩ <;> rw [q]
    · exact ⟨_, h0⟩
    · exact ⟨_, h1⟩
    · exact ⟨_, h2⟩)
  have hpl : (A.mapM fun f => (do pure (f.offset, ← sizeOf f.type) : Sem (Nat × Nat))).run P w = .ok l.toArray w := by
    rw [Array.mapM_eq_mapM_toList]
    simp only [Sem.run_map, k1]
    rfl
  obtain ⟨j0, q0, p0⟩ := k2 0 0 t0 (by rw [← hA]; rfl)
  obtain ⟨j1, q1, p1⟩ := k2 1 1 t1 (by rw [← hA]; rfl)
  rw [h0] at q0; cases q0
  rw [h1] at q1; cases q1
  rw [s0] at p0
  rw [s1] at p1
  generalize hpp : parts.toList = pl at l1 l2 hx'
  match pl, l1 with
  | [(n0, x0), (n1, x1)], _ =>
    obtain ⟨a1, a2⟩ := l2 0 (0, x) (n0, a.eval x0) rfl rfl
    obtain ⟨b1, b2⟩ := l2 1 (1, y) (n1, a.eval x1) rfl rfl
    simp only at a1 a2 b1 b2
    subst a1; subst b1
    obtain ⟨u0, c0, d0⟩ := one_cell a2 hx1
    obtain ⟨u1, c1, d1⟩ := one_cell b2 hy1
    have hfill : Instr.fill (l.toArray[·]?) #[z0, z1, .slice none 0 0] [(0, a.eval x0), (1, a.eval x1)] = some #[u0, u1, .slice none 0 0] := by
      simp [Instr.fill, p0, p1, c0, c1]
    have hparts : (parts.map fun (i, x) => (i, a.eval x)).toList = [(0, a.eval x0), (1, a.eval x1)] := by simp [hpp]
    refine ⟨.agg #[u0, u1, .slice none 0 0], .agg _ _ _ rfl (fun j z v hz hv => ?_), ?_⟩
    · match j, hz, hv with
      | 0, hz, hv => simp at hz hv; subst hz; subst hv; exact d0
      | 1, hz, hv => simp at hz hv; subst hz; subst hv; exact d1
      | 2, hz, hv => simp at hz hv; subst hz; subst hv; exact .nil _
      | j + 3, hz, hv => simp at hz
    · simp only [execOp, ho, Instr.build, zeroValue, typeInfo, Sem.run_bind, run_program, Result.andThen_ok, e1, hzv, Sem.run_pure, run_underlying' e2, hpl, hparts, Value.cells, hfill]
theorem q_indexV2 (hT : TOk P T) {t : TypeId} {x y : Operand} {b : Nat} {es es' : List (List AV)} {k : IntKind} {n : Int} {i j : TyI} {u : Nat} (ho : o.op = .indexAddr t x y) (hx : look e x = some (vaA b es')) (hy : look e y = some (.int k n))
    (hi : T t = some i) (hk : i.k = .slice u) (hj : T u = some j) (hb : h b = some (vaO es)) (hsz : 1 = j.size) (hl : es.length = es'.length) (h0 : 0 ≤ n) (hn : n < es.length) : QLoc P o e h [b] (.ptr b es.length n.toNat 0) :=
  q_indexV hT ho (by rw [hx, vaA_len hl]) hy hi hk hj hb hsz h0 hn
end
structure RVal where
  kind : Int
  op : Int
  a : Int
  b : Int
  name : Int
  side : Int
  base : Int
  time : Int
  n : Int
  deriving DecidableEq
def RVal.cells (v : RVal) : List AV := [.int .i64 v.kind, .int .i64 v.op, .int .i64 v.a, .int .i64 v.b, .int .i64 v.name, .int .i64 v.side, .int .i64 v.base, .int .i64 v.time, .int .u32 v.n]
def RVal.same (x y : RVal) : Bool := x.kind == y.kind && (x.op == y.op && (x.a == y.a && (x.b == y.b && (x.name == y.name && (x.side == y.side && (x.base == y.base && (x.time == y.time && (x.n == y.n && true))))))))
theorem RVal.same_iff (x y : RVal) : x.same y = true ↔ x = y := by
  obtain ⟨a1, a2, a3, a4, a5, a6, a7, a8, a9⟩ := x
  obtain ⟨b1, b2, b3, b4, b5, b6, b7, b8, b9⟩ := y
  simp [RVal.same, RVal.mk.injEq]
structure REff where
  op : Int
  k : Int
  base : Int
  size : Int
  a : Int
  b : Int
  deriving DecidableEq
def REff.cells (v : REff) : List AV := [.int .i64 v.op, .int .i64 v.k, .int .i64 v.base, .int .i64 v.size, .int .i64 v.a, .int .i64 v.b]
def REff.same (x y : REff) : Bool := x.op == y.op && (x.k == y.k && (x.base == y.base && (x.size == y.size && (x.a == y.a && (x.b == y.b && true)))))
def ridx (v : RVal) : List RVal → Option Nat
  | [] => none
  | x :: r => bif x.same v then some 0 else (ridx v r).map (· + 1)
def rnum (L : List RVal) (v : RVal) : Int × List RVal := match ridx v L with
  | some i => ((i : Int), L)
  | none => ((L.length : Int), L ++ [v])
theorem ridx_lt {v : RVal} : ∀ {L : List RVal} {i : Nat}, ridx v L = some i → i < L.length ∧ L[i]? = some v
  | [], i, h => by cases h
  | x :: r, i, h => by
    unfold ridx at h
    cases hx : x.same v with
    | true => rw [hx] at h; cases h; exact ⟨by simp, by rw [(RVal.same_iff x v).1 hx]; rfl⟩
    | false =>
      rw [hx] at h
      simp only [cond_false, Option.map_eq_some_iff] at h
      obtain ⟨j, hj, rfl⟩ := h
      obtain ⟨h1, h2⟩ := ridx_lt hj
      exact ⟨by simp; omega, by simpa using h2⟩
theorem rnum_new {v : RVal} {L : List RVal} (h : ridx v L = none) : rnum L v = ((L.length : Int), L ++ [v]) := by unfold rnum; rw [h]
theorem rnum_old {v : RVal} {L : List RVal} {i : Nat} (h : ridx v L = some i) : rnum L v = ((i : Int), L) := by unfold rnum; rw [h]
theorem rnum_ok {v : RVal} {L : List RVal} : L.length ≤ (rnum L v).2.length ∧ (rnum L v).2.length ≤ L.length + 1 ∧ 0 ≤ (rnum L v).1 ∧ (rnum L v).1 < (rnum L v).2.length := by
  cases e : ridx v L with
  | none => rw [rnum_new e]; simp; omega
  | some i =>
    rw [rnum_old e]
    have := (ridx_lt e).1
    exact ⟨Nat.le_refl _, Nat.le_succ _, by dsimp only; omega, by dsimp only; omega⟩
def rval (L : List RVal) (i : Int) : RVal := (L[i.toNat]?).getD ⟨0, 0, 0, 0, 0, 0, 0, 0, 0⟩
def rconst (L : List RVal) (i : Int) : Int × Bool := ((rval L i).n, (rval L i).kind == 1)
theorem rval_n {L : List RVal} (hL : ∀ v ∈ L, isW v.n) (i : Int) : isW (rval L i).n := by
  unfold rval
  cases e : L[i.toNat]? with
  | none => exact isW_zero
  | some v => exact hL v (List.mem_of_getElem? e)
structure RW where
  L : List RVal
  regs : List Int
  out : List REff
  time : Int
def RW.put (w : RW) (z : Int) (p : Int × List RVal) : RW := { w with L := p.2, regs := rset w.regs z p.1 }
def RW.eff (w : RW) (e : REff) : RW := { w with out := w.out ++ [e] }
def RW.tick (w : RW) : RW := { w with time := w.time + 1 }
def rrisky (w : RW) (t : Tac) : Bool := (t.k == 7 || t.k == 8) && (!(rconst w.L (rget w.regs t.b)).2 || (rconst w.L (rget w.regs t.b)).1 == 0)
def RW.div (w : RW) (t : Tac) : RW := bif rrisky w t then w.eff ⟨t.op, t.k, 0, 0, rget w.regs t.a, rget w.regs t.b⟩ else w
def rfold (w : RW) (t : Tac) : Bool := (rconst w.L (rget w.regs t.a)).2 && ((rconst w.L (rget w.regs t.b)).2 && !rrisky w t)
def rapplyV (w : RW) (t : Tac) : RVal := bif rfold w t then ⟨1, 0, 0, 0, 0, 0, 0, 0, (wapp t.k (rconst w.L (rget w.regs t.a)).1 (rconst w.L (rget w.regs t.b)).1).1⟩ else ⟨3, t.k, rget w.regs t.a, rget w.regs t.b, 0, 0, 0, 0, 0⟩
def RW.bin (w : RW) (t : Tac) : RW := (w.div t).put t.d (rnum w.L (rapplyV w t))
def runkV (n : Nat) : RVal := ⟨2, 0, 0, 0, (n : Int), 2, 0, 0, 0⟩
def RW.get (w : RW) (t : Tac) (e : REff) : RW := (w.eff e).put t.d (rnum w.L (runkV w.out.length))
def RW.step (w : RW) (t : Tac) : RW :=
  bif t.op == 1 then w.put t.d (rnum w.L ⟨1, 0, 0, 0, 0, 0, 0, 0, t.n⟩)
  else bif t.op == 2 then { w with regs := rset w.regs t.d (rget w.regs t.a) }
  else bif t.op == 3 then w.bin t
  else bif t.op == 4 then w.put t.d (rnum w.L ⟨4, 0, 0, 0, 0, 0, t.base, w.time, 0⟩)
  else bif t.op == 5 then (w.eff ⟨t.op, 0, t.base, 0, rget w.regs t.a, 0⟩).tick
  else bif t.op == 6 then w.get t ⟨t.op, 0, t.base, t.size, rget w.regs t.a, 0⟩
  else bif t.op == 7 then (w.eff ⟨t.op, 0, t.base, t.size, rget w.regs t.a, rget w.regs t.b⟩).tick
  else bif t.op == 8 then w.get t ⟨t.op, 0, 0, 0, 0, 0⟩
  else bif t.op == 9 then w.eff ⟨t.op, 0, 0, 0, rget w.regs t.a, 0⟩
  else (w.eff ⟨t.op, 0, t.base, 0, 0, 0⟩).tick
structure ROk (R m : Nat) (w : RW) : Prop where
  wn : ∀ v ∈ w.L, isW v.n
  kl : w.L.length ≤ m
  el : w.out.length ≤ m
  tl : 0 ≤ w.time ∧ w.time ≤ m
  vl : w.regs.length = R
  v : ∀ n ∈ w.regs, 0 ≤ n ∧ n < w.L.length
theorem ROk.mono {R m m' : Nat} {w : RW} (h : ROk R m w) (hm : m ≤ m') : ROk R m' w :=
  ⟨h.wn, Nat.le_trans h.kl hm, Nat.le_trans h.el hm, ⟨h.tl.1, by have := h.tl.2; omega⟩, h.vl, h.v⟩
theorem rnum_w {v : RVal} {L : List RVal} (hL : ∀ v ∈ L, isW v.n) (hv : isW v.n) : ∀ x ∈ (rnum L v).2, isW x.n := by
  cases e : ridx v L with
  | none =>
    rw [rnum_new e]
    intro x hx
    simp only [List.mem_append, List.mem_singleton] at hx
    rcases hx with hx | rfl
    · exact hL x hx
    · exact hv
  | some i => rw [rnum_old e]; exact hL
theorem ROk.put {R m : Nat} {w : RW} (h : ROk R m w) (z : Int) {v : RVal} (hv : isW v.n) : ROk R (m + 1) (w.put z (rnum w.L v)) where
  wn := rnum_w h.wn hv
  kl := by have := h.kl; have := (rnum_ok (v := v) (L := w.L)).2.1; show (rnum w.L v).2.length ≤ _; omega
  el := by have := h.el; show w.out.length ≤ _; omega
  tl := ⟨h.tl.1, by have := h.tl.2; show w.time ≤ _; omega⟩
  vl := by show (rset w.regs z _).length = R; rw [rset_length]; exact h.vl
  v := fun n hn => by
    have hn' : n ∈ rset w.regs z (rnum w.L v).1 := hn
    unfold rset at hn'
    show 0 ≤ n ∧ n < ((rnum w.L v).2.length : Int)
    have hp := rnum_ok (v := v) (L := w.L)
    rcases List.mem_or_eq_of_mem_set hn' with hn' | rfl
    · have := h.v n hn'; omega
    · exact hp.2.2
theorem ROk.eff {R m : Nat} {w : RW} (h : ROk R m w) (e : REff) : ROk R (m + 1) (w.eff e) where
  wn := h.wn
  kl := by have := h.kl; show w.L.length ≤ _; omega
  el := by have := h.el; show (w.out ++ [e]).length ≤ _; simp; omega
  tl := ⟨h.tl.1, by have := h.tl.2; show w.time ≤ _; omega⟩
  vl := h.vl
  v := h.v
theorem ROk.tick {R m : Nat} {w : RW} (h : ROk R m w) : ROk R (m + 1) w.tick where
  wn := h.wn
  kl := by have := h.kl; show w.L.length ≤ _; omega
  el := by have := h.el; show w.out.length ≤ _; omega
  tl := ⟨by have := h.tl.1; show 0 ≤ w.time + 1; omega, by have := h.tl.2; show w.time + 1 ≤ _; push_cast; omega⟩
  vl := h.vl
  v := h.v
theorem ROk.div {R m : Nat} {w : RW} (h : ROk R m w) (t : Tac) : ROk R (m + 1) (w.div t) := by
  unfold RW.div
  cases rrisky w t with
  | true => exact h.eff _
  | false => exact h.mono (Nat.le_succ _)
theorem rdiv_L (w : RW) (t : Tac) : (w.div t).L = w.L := by unfold RW.div; cases rrisky w t <;> rfl
theorem rapplyV_w {w : RW} (hL : ∀ v ∈ w.L, isW v.n) (t : Tac) : isW (rapplyV w t).n := by
  unfold rapplyV
  cases rfold w t with
  | true => exact wapp_word (rval_n hL _) (rval_n hL _)
  | false => exact isW_zero
theorem ROk.bin {R m : Nat} {w : RW} (h : ROk R m w) (t : Tac) : ROk R (m + 2) (w.bin t) := by
  have h1 := (h.div t).put t.d (rapplyV_w h.wn t)
  rw [rdiv_L] at h1
  exact h1
theorem ROk.get {R m : Nat} {w : RW} (h : ROk R m w) (t : Tac) (e : REff) : ROk R (m + 2) (w.get t e) := ROk.put (h.eff e) t.d (v := runkV w.out.length) isW_zero
theorem ROk.step {R m : Nat} {w : RW} (h : ROk R m w) {t : Tac} (ht : TacV t R) : ROk R (m + 2) (w.step t) := by
  unfold RW.step
  cases t.op == 1 with
  | true => exact (h.put _ ht.n).mono (Nat.le_succ _)
  | false =>
  cases h2 : t.op == 2 with
  | true =>
    have h2' : t.op = 2 := by simpa using h2
    refine ROk.mono (m := m) ⟨h.wn, h.kl, h.el, h.tl, ?_, fun n hn => ?_⟩ (by omega)
    · show (rset w.regs t.d _).length = R; rw [rset_length]; exact h.vl
    · have hn' : n ∈ rset w.regs t.d (rget w.regs t.a) := hn
      unfold rset at hn'
      rcases List.mem_or_eq_of_mem_set hn' with hn' | rfl
      · exact h.v n hn'
      · have := ht.a (.inl (by simp [use1, h2']))
        exact h.v _ (rget_in (by rw [h.vl]; exact this))
  | false =>
  cases t.op == 3 with
  | true => exact h.bin t
  | false =>
  cases t.op == 4 with
  | true => exact (h.put _ (v := ⟨4, 0, 0, 0, 0, 0, _, _, 0⟩) isW_zero).mono (Nat.le_succ _)
  | false =>
  cases t.op == 5 with
  | true => exact ROk.tick (h.eff _)
  | false =>
  cases t.op == 6 with
  | true => exact h.get t _
  | false =>
  cases t.op == 7 with
  | true => exact ROk.tick (h.eff _)
  | false =>
  cases t.op == 8 with
  | true => exact h.get t _
  | false =>
  cases t.op == 9 with
  | true => exact (h.eff _).mono (Nat.le_succ _)
  | false => exact ROk.tick (h.eff _)
section
variable {P : Program} {T : Nat → Option TyI} {o : Oper} {e : AEnv} {h : AHeap}
end
theorem rapplyV_c {w : RW} {t : Tac} (h : rfold w t = true) : rapplyV w t = ⟨1, 0, 0, 0, 0, 0, 0, 0, (wapp t.k (rconst w.L (rget w.regs t.a)).1 (rconst w.L (rget w.regs t.b)).1).1⟩ := by unfold rapplyV; rw [h]; rfl
theorem rapplyV_o {w : RW} {t : Tac} (h : rfold w t = false) : rapplyV w t = ⟨3, t.k, rget w.regs t.a, rget w.regs t.b, 0, 0, 0, 0, 0⟩ := by unfold rapplyV; rw [h]; rfl
structure RI where
  L : List RVal
  xs : List Int
  ys : List Int
def RVal.reg (v : Nat) (side : Int) : RVal := ⟨2, 0, 0, 0, (v : Int), side, 0, 0, 0⟩
def sideR (row : List Bool) (v : Nat) : Int := bif (row[v]?).getD false then 0 else 1
def RI.first (s : RI) (v : Nat) : RI := ⟨(rnum s.L (RVal.reg v 0)).2, s.xs ++ [(rnum s.L (RVal.reg v 0)).1], s.ys⟩
def RI.second (s : RI) (v : Nat) (side : Int) : RI := ⟨(rnum s.L (RVal.reg v side)).2, s.xs, s.ys ++ [(rnum s.L (RVal.reg v side)).1]⟩
def rinit (row : List Bool) : Nat → RI
  | 0 => ⟨[], [], []⟩
  | v + 1 => ((rinit row v).first v).second v (sideR row v)
def rrun (L : List RVal) (regs : List Int) (l : List Tac) : RW := l.foldl RW.step ⟨L, regs, [], 0⟩
def rrunA (R : Nat) (row : List Bool) (old : Block) : RW := rrun (rinit row R).L (rinit row R).xs old.ins
def rrunB (R : Nat) (row : List Bool) (old new : Block) : RW := rrun (rrunA R row old).L (rinit row R).ys new.ins
def RW.vw (w : RW) : VW := ⟨[], w.regs, [], 0⟩
def rsame (R : Nat) (old new : Block) (c : Cert) (i : Int) (next : List Int) : Bool :=
  decide ((rrunA R (c.at' i) old).out = (rrunB R (c.at' i) old new).out) && ((!(old.fin == 2) || rget (rrunA R (c.at' i) old).regs old.v == rget (rrunB R (c.at' i) old new).regs new.v) && next.all fun k => vagree (rrunA R (c.at' i) old).vw (rrunB R (c.at' i) old new).vw (c.at' k))
def rblocks (old new : BFunc) (c : Cert) : Bool := (old.blocks.zip new.blocks).zipIdx.all fun p => rsame old.regs.toNat p.1.1 p.1.2 c (p.2 : Int) p.1.1.nexts
def rsized (f : BFunc) (c : Cert) : Bool := decide (c.same.length = f.blocks.length) && c.same.all fun r => decide ((r.length : Int) = f.regs)
def rcheck (old new : BFunc) (c : Cert) : Bool := vshaped old new && (rsized old c && rblocks old new c)
section
variable {R : Nat} {old new : Block} {c : Cert} {i : Int} {next : List Int}
end
section
variable {P : Program} {T : Nat → Option TyI} {h : AHeap}
end
theorem rstep1 {w : RW} {t : Tac} (ho : t.op = 1) : w.step t = w.put t.d (rnum w.L ⟨1, 0, 0, 0, 0, 0, 0, 0, t.n⟩) := by
  unfold RW.step
  rw [ho]; rfl
theorem rstep2 {w : RW} {t : Tac} (ho : t.op = 2) : w.step t = { w with regs := rset w.regs t.d (rget w.regs t.a) } := by
  unfold RW.step
  rw [ho]; rfl
theorem rstep3 {w : RW} {t : Tac} (ho : t.op = 3) : w.step t = w.bin t := by
  unfold RW.step
  rw [ho]; rfl
theorem rstep4 {w : RW} {t : Tac} (ho : t.op = 4) : w.step t = w.put t.d (rnum w.L ⟨4, 0, 0, 0, 0, 0, t.base, w.time, 0⟩) := by
  unfold RW.step
  rw [ho]; rfl
theorem rstep5 {w : RW} {t : Tac} (ho : t.op = 5) : w.step t = (w.eff ⟨t.op, 0, t.base, 0, rget w.regs t.a, 0⟩).tick := by
  unfold RW.step
  rw [ho]; rfl
theorem rstep6 {w : RW} {t : Tac} (ho : t.op = 6) : w.step t = w.get t ⟨t.op, 0, t.base, t.size, rget w.regs t.a, 0⟩ := by
  unfold RW.step
  rw [ho]; rfl
theorem rstep7 {w : RW} {t : Tac} (ho : t.op = 7) : w.step t = (w.eff ⟨t.op, 0, t.base, t.size, rget w.regs t.a, rget w.regs t.b⟩).tick := by
  unfold RW.step
  rw [ho]; rfl
theorem rstep8 {w : RW} {t : Tac} (ho : t.op = 8) : w.step t = w.get t ⟨t.op, 0, 0, 0, 0, 0⟩ := by
  unfold RW.step
  rw [ho]; rfl
theorem rstep9 {w : RW} {t : Tac} (ho : t.op = 9) : w.step t = w.eff ⟨t.op, 0, 0, 0, rget w.regs t.a, 0⟩ := by
  unfold RW.step
  rw [ho]; rfl
theorem rstep0 {w : RW} {t : Tac} (h1 : (t.op == 1) = false) (h2 : (t.op == 2) = false) (h3 : (t.op == 3) = false) (h4 : (t.op == 4) = false) (h5 : (t.op == 5) = false) (h6 : (t.op == 6) = false) (h7 : (t.op == 7) = false) (h8 : (t.op == 8) = false) (h9 : (t.op == 9) = false) : w.step t = (w.eff ⟨t.op, 0, t.base, 0, 0, 0⟩).tick := by
  unfold RW.step
  rw [h1, h2, h3, h4, h5, h6, h7, h8, h9]; rfl
inductive Tm where
  | old (v : Nat)
  | own (v : Nat)
  | cst (n : Int)
  | op (k : Int) (a b : Tm)
  | ld (base time : Int)
  | unk (n : Nat)
  deriving DecidableEq
structure SE where
  risk : Bool
  op : Int
  k : Int
  base : Int
  size : Int
  a : Option Tm
  b : Option Tm
  deriving DecidableEq
structure SS where
  regs : List Tm
  effs : List SE
  time : Int
def tget (l : List Tm) (z : Int) : Tm := (l[z.toNat]?).getD (.cst 0)
def tset (l : List Tm) (z : Int) (t : Tm) : List Tm := l.set z.toNat t
def Tm.isZero : Tm → Bool
  | .cst n => n == 0
  | _ => true
def trisky (k : Int) (b : Tm) : Bool := (k == 7 || k == 8) && b.isZero
def tfold (k : Int) (a b : Tm) : Tm := match a, b with
  | .cst x, .cst y => bif trisky k (.cst y) then .op k a b else .cst (wapp k x y).1
  | _, _ => .op k a b
def SS.put (s : SS) (z : Int) (t : Tm) : SS := { s with regs := tset s.regs z t }
def SS.eff (s : SS) (e : SE) : SS := { s with effs := s.effs ++ [e] }
def SS.tick (s : SS) : SS := { s with time := s.time + 1 }
def SS.div (s : SS) (t : Tac) : SS := bif trisky t.k (tget s.regs t.b) then s.eff ⟨true, 3, t.k, 0, 0, some (tget s.regs t.a), some (tget s.regs t.b)⟩ else s
def SS.bin (s : SS) (t : Tac) : SS := (s.div t).put t.d (tfold t.k (tget s.regs t.a) (tget s.regs t.b))
def SS.get (s : SS) (t : Tac) (e : SE) : SS := (s.eff e).put t.d (.unk s.effs.length)
def SS.step (s : SS) (t : Tac) : SS :=
  bif t.op == 1 then s.put t.d (.cst t.n)
  else bif t.op == 2 then s.put t.d (tget s.regs t.a)
  else bif t.op == 3 then s.bin t
  else bif t.op == 4 then s.put t.d (.ld t.base s.time)
  else bif t.op == 5 then (s.eff ⟨false, 5, 0, t.base, 0, some (tget s.regs t.a), none⟩).tick
  else bif t.op == 6 then s.get t ⟨false, 6, 0, t.base, t.size, some (tget s.regs t.a), none⟩
  else bif t.op == 7 then (s.eff ⟨false, 7, 0, t.base, t.size, some (tget s.regs t.a), some (tget s.regs t.b)⟩).tick
  else bif t.op == 8 then s.get t ⟨false, 8, 0, 0, 0, none, none⟩
  else bif t.op == 9 then s.eff ⟨false, 9, 0, 0, 0, some (tget s.regs t.a), none⟩
  else (s.eff ⟨false, 10, 0, t.base, 0, none, none⟩).tick
structure TacT (t : Tac) (R : Nat) : Prop extends TacV t R where
  op : 1 ≤ t.op ∧ t.op ≤ 10
  k : t.op = 3 → 4 ≤ t.k ∧ t.k ≤ 15
  want : t = t.want
def SE.wf (e : SE) : Prop := (e.risk = true ∧ e.op = 3 ∧ e.base = 0 ∧ e.size = 0 ∧ e.a.isSome ∧ e.b.isSome) ∨
  (e.risk = false ∧ e.k = 0 ∧ (e.op = 5 ∧ e.size = 0 ∧ e.a.isSome ∧ e.b = none ∨ e.op = 6 ∧ e.a.isSome ∧ e.b = none ∨ e.op = 7 ∧ e.a.isSome ∧ e.b.isSome ∨ e.op = 8 ∧ e.base = 0 ∧ e.size = 0 ∧ e.a = none ∧ e.b = none ∨ e.op = 9 ∧ e.base = 0 ∧ e.size = 0 ∧ e.a.isSome ∧ e.b = none ∨ e.op = 10 ∧ e.size = 0 ∧ e.a = none ∧ e.b = none))
theorem SS.step_wf {s : SS} (h : ∀ e ∈ s.effs, e.wf) (t : Tac) : ∀ e ∈ (s.step t).effs, e.wf := by
  have hap : ∀ e : SE, e.wf → ∀ x ∈ s.effs ++ [e], x.wf := fun e he x hx => by
    simp only [List.mem_append, List.mem_singleton] at hx
    rcases hx with hx | rfl
    · exact h x hx
    · exact he
  unfold SS.step
  cases t.op == 1 with
  | true => exact h
  | false =>
  cases t.op == 2 with
  | true => exact h
  | false =>
  cases t.op == 3 with
  | true =>
    show ∀ e ∈ (s.div t).effs, e.wf
    unfold SS.div
    cases trisky t.k (tget s.regs t.b) with
    | true => exact hap _ (.inl ⟨rfl, rfl, rfl, rfl, rfl, rfl⟩)
    | false => exact h
  | false =>
  cases t.op == 4 with
  | true => exact h
  | false =>
  cases t.op == 5 with
  | true => exact hap _ (.inr ⟨rfl, rfl, .inl ⟨rfl, rfl, rfl, rfl⟩⟩)
  | false =>
  cases t.op == 6 with
  | true => exact hap _ (.inr ⟨rfl, rfl, .inr (.inl ⟨rfl, rfl, rfl⟩)⟩)
  | false =>
  cases t.op == 7 with
  | true => exact hap _ (.inr ⟨rfl, rfl, .inr (.inr (.inl ⟨rfl, rfl, rfl⟩))⟩)
  | false =>
  cases t.op == 8 with
  | true => exact hap _ (.inr ⟨rfl, rfl, .inr (.inr (.inr (.inl ⟨rfl, rfl, rfl, rfl, rfl⟩)))⟩)
  | false =>
  cases t.op == 9 with
  | true => exact hap _ (.inr ⟨rfl, rfl, .inr (.inr (.inr (.inr (.inl ⟨rfl, rfl, rfl, rfl, rfl⟩))))⟩)
  | false => exact hap _ (.inr ⟨rfl, rfl, .inr (.inr (.inr (.inr (.inr ⟨rfl, rfl, rfl, rfl⟩))))⟩)
theorem SS.step_len (s : SS) (t : Tac) : (s.step t).regs.length = s.regs.length := by
  unfold SS.step
  cases t.op == 1 with
  | true => simp [SS.put, tset]
  | false =>
  cases t.op == 2 with
  | true => simp [SS.put, tset]
  | false =>
  cases t.op == 3 with
  | true => simp only [cond_true, cond_false, SS.bin, SS.put, tset, List.length_set, SS.div]; cases trisky t.k (tget s.regs t.b) <;> rfl
  | false =>
  cases t.op == 4 with
  | true => simp [SS.put, tset]
  | false =>
  cases t.op == 5 with
  | true => rfl
  | false =>
  cases t.op == 6 with
  | true => simp [SS.get, SS.put, SS.eff, tset]
  | false =>
  cases t.op == 7 with
  | true => rfl
  | false =>
  cases t.op == 8 with
  | true => simp [SS.get, SS.put, SS.eff, tset]
  | false =>
  cases t.op == 9 with
  | true => rfl
  | false => rfl
def All2 {α β : Type} (r : α → β → Prop) : List α → List β → Prop
  | [], [] => True
  | x :: xs, y :: ys => r x y ∧ All2 r xs ys
  | _, _ => False
theorem All2.len {α β : Type} {r : α → β → Prop} : ∀ {l : List α} {m : List β}, All2 r l m → l.length = m.length
  | [], [], _ => rfl
  | x :: xs, y :: ys, h => by simp [All2.len h.2]
  | [], y :: ys, h => h.elim
  | x :: xs, [], h => h.elim
theorem All2.mono {α β : Type} {r r' : α → β → Prop} (hr : ∀ x y, r x y → r' x y) : ∀ {l : List α} {m : List β}, All2 r l m → All2 r' l m
  | [], [], _ => trivial
  | x :: xs, y :: ys, h => ⟨hr _ _ h.1, All2.mono hr h.2⟩
  | [], y :: ys, h => h.elim
  | x :: xs, [], h => h.elim
theorem All2.snoc {α β : Type} {r : α → β → Prop} {x : α} {y : β} (hx : r x y) : ∀ {l : List α} {m : List β}, All2 r l m → All2 r (l ++ [x]) (m ++ [y])
  | [], [], _ => ⟨hx, trivial⟩
  | a :: l, b :: m, h => ⟨h.1, All2.snoc hx h.2⟩
  | [], b :: m, h => h.elim
  | a :: l, [], h => h.elim
theorem All2.get {α β : Type} {r : α → β → Prop} : ∀ {l : List α} {m : List β}, All2 r l m → ∀ {i : Nat} {x : α} {y : β}, l[i]? = some x → m[i]? = some y → r x y
  | [], [], _, i, x, y, h1, _ => by simp at h1
  | a :: l, b :: m, h, 0, x, y, h1, h2 => by simp at h1 h2; subst h1; subst h2; exact h.1
  | a :: l, b :: m, h, i + 1, x, y, h1, h2 => All2.get h.2 (by simpa using h1) (by simpa using h2)
  | [], b :: m, h, _, _, _, _, _ => h.elim
  | a :: l, [], h, _, _, _, _, _ => h.elim
theorem All2.set {α β : Type} {r : α → β → Prop} {x : α} {y : β} (hx : r x y) : ∀ {l : List α} {m : List β} (i : Nat), All2 r l m → All2 r (l.set i x) (m.set i y)
  | [], [], _, _ => trivial
  | a :: l, b :: m, 0, h => ⟨hx, h.2⟩
  | a :: l, b :: m, i + 1, h => ⟨h.1, All2.set hx i h.2⟩
  | [], b :: m, _, h => h.elim
  | a :: l, [], _, h => h.elim
theorem All2.iff {α β : Type} {r r' : α → β → Prop} {p : α → Prop} {q : α → Prop} (hf : ∀ x y y', p x → r x y → r' x y' → y = y') (hi : ∀ x x' y, p x → q x' → r x y → r' x' y → x = x') : ∀ {l l' : List α} {m m' : List β}, (∀ x ∈ l, p x) → (∀ x ∈ l', q x) → All2 r l m → All2 r' l' m' → (m = m' ↔ l = l')
  | [], [], [], [], _, _, _, _ => by simp
  | [], x :: l', [], y :: m', _, _, _, _ => by simp
  | x :: l, [], y :: m, [], _, _, _, _ => by simp
  | x :: l, x' :: l', y :: m, y' :: m', hp, hq, h, h' => by
    have ih := All2.iff hf hi (l := l) (l' := l') (m := m) (m' := m') (fun z hz => hp z (by simp [hz])) (fun z hz => hq z (by simp [hz])) h.2 h'.2
    rw [List.cons.injEq, List.cons.injEq, ih]
    constructor
    · rintro ⟨rfl, h2⟩
      exact ⟨hi x x' y (hp x (by simp)) (hq x' (by simp)) h.1 h'.1, h2⟩
    · rintro ⟨rfl, h2⟩
      exact ⟨hf x y y' (hp x (by simp)) h.1 h'.1, h2⟩
  | [], _, _ :: _, _, _, _, h, _ => h.elim
  | _ :: _, _, [], _, _, _, h, _ => h.elim
  | _, [], _, _ :: _, _, _, _, h => h.elim
  | _, _ :: _, _, [], _, _, _, h => h.elim
theorem nodup_inj {α : Type} {l : List α} (h : l.Nodup) {i j : Nat} {x : α} (hi : l[i]? = some x) (hj : l[j]? = some x) : i = j := by
  obtain ⟨h1, e1⟩ := List.getElem?_eq_some_iff.1 hi
  obtain ⟨h2, e2⟩ := List.getElem?_eq_some_iff.1 hj
  have hp := List.pairwise_iff_getElem.1 h
  rcases Nat.lt_trichotomy i j with hl | hl | hl
  · exact absurd (e1.trans e2.symm) (hp i j h1 h2 hl)
  · exact hl
  · exact absurd (e2.trans e1.symm) (hp j i h2 h1 hl)
theorem pre_get {α : Type} {l m : List α} (h : l <+: m) {i : Nat} {x : α} (hi : l[i]? = some x) : m[i]? = some x := by
  obtain ⟨r, rfl⟩ := h
  rw [List.getElem?_append_left (List.getElem?_eq_some_iff.1 hi).1]; exact hi
def VN (R : Nat) (ts : List Tm) : Tm → Int → Prop
  | .old v, n => n = (v : Int) ∧ v < R
  | .own v, n => n = ((R + v : Nat) : Int) ∧ v < R
  | t, n => ∃ i : Nat, ts[i]? = some t ∧ n = ((2 * R + i : Nat) : Int)
def VK (R : Nat) (ts : List Tm) : Tm → List Int → Prop
  | .cst n, k => k = [1, n, 0, 0]
  | .op o a b, k => ∃ x y, VN R ts a x ∧ VN R ts b y ∧ k = [2, o, x, y]
  | .ld b τ, k => k = [3, b, τ, 0]
  | .unk n, k => k = [4, (n : Int) + 1, 0, 0]
  | _, _ => False
structure VT (R : Nat) (ts : List Tm) (K : List (List Int)) : Prop where
  nd : ts.Nodup
  len : K.length = ts.length
  key : ∀ (i : Nat) (t : Tm) (k : List Int), ts[i]? = some t → K[i]? = some k → VK R ts t k
  word : ∀ (n : Int), Tm.cst n ∈ ts → isW n
section
variable {R : Nat} {ts ts' : List Tm} {K : List (List Int)}
theorem VN.ext (hp : ts <+: ts') : ∀ {t : Tm} {n : Int}, VN R ts t n → VN R ts' t n
  | .old _, _, h => h
  | .own _, _, h => h
  | .cst _, _, ⟨i, h1, h2⟩ => ⟨i, pre_get hp h1, h2⟩
  | .op _ _ _, _, ⟨i, h1, h2⟩ => ⟨i, pre_get hp h1, h2⟩
  | .ld _ _, _, ⟨i, h1, h2⟩ => ⟨i, pre_get hp h1, h2⟩
  | .unk _, _, ⟨i, h1, h2⟩ => ⟨i, pre_get hp h1, h2⟩
theorem VK.ext (hp : ts <+: ts') : ∀ {t : Tm} {k : List Int}, VK R ts t k → VK R ts' t k
  | .cst _, _, h => h
  | .op _ _ _, _, ⟨x, y, h1, h2, h3⟩ => ⟨x, y, h1.ext hp, h2.ext hp, h3⟩
  | .ld _ _, _, h => h
  | .unk _, _, h => h
theorem VN.tab {t : Tm} {k : List Int} {n : Int} (hk : VK R ts t k) : VN R ts t n ↔ ∃ i : Nat, ts[i]? = some t ∧ n = ((2 * R + i : Nat) : Int) := by
  cases t with
  | old => exact hk.elim
  | own => exact hk.elim
  | _ => exact Iff.rfl
theorem VN.cls {t : Tm} {n : Int} (h : VN R ts t n) : (∃ v : Nat, t = .old v ∧ n = (v : Int) ∧ v < R) ∨ (∃ v : Nat, t = .own v ∧ n = ((R + v : Nat) : Int) ∧ v < R) ∨ (∃ i : Nat, ts[i]? = some t ∧ n = ((2 * R + i : Nat) : Int)) := by
  cases t with
  | old v => exact .inl ⟨v, rfl, h.1, h.2⟩
  | own v => exact .inr (.inl ⟨v, rfl, h.1, h.2⟩)
  | _ => exact .inr (.inr h)
theorem VN.uniq (hnd : ts.Nodup) (hno : ∀ v, Tm.old v ∉ ts ∧ Tm.own v ∉ ts) {t : Tm} {n m : Int} (h1 : VN R ts t n) (h2 : VN R ts t m) : n = m := by
  cases t with
  | old => exact h1.1.trans h2.1.symm
  | own => exact h1.1.trans h2.1.symm
  | _ =>
    obtain ⟨i, a1, a2⟩ := h1
    obtain ⟨j, b1, b2⟩ := h2
    have := nodup_inj hnd a1 b1
    omega
theorem VN.inj {t s : Tm} {n : Int} (h1 : VN R ts t n) (h2 : VN R ts s n) : t = s := by
  rcases h1.cls with ⟨v, rfl, a1, a2⟩ | ⟨v, rfl, a1, a2⟩ | ⟨i, a1, a2⟩ <;> rcases h2.cls with ⟨u, rfl, b1, b2⟩ | ⟨u, rfl, b1, b2⟩ | ⟨j, b1, b2⟩
  · rw [show v = u by omega]
  · omega
  · omega
  · omega
  · rw [show v = u by omega]
  · omega
  · omega
  · omega
  · have : i = j := by omega
    subst this
    rw [a1] at b1; exact Option.some.inj b1
theorem VT.noreg (h : VT R ts K) (v : Nat) : Tm.old v ∉ ts ∧ Tm.own v ∉ ts := by
  constructor
  · intro hm
    obtain ⟨i, hi⟩ := List.mem_iff_getElem?.1 hm
    obtain ⟨k, hk⟩ := get_of_lt (l := K) (k := i) (by rw [h.len]; exact (List.getElem?_eq_some_iff.1 hi).1)
    exact h.key i _ k hi hk
  · intro hm
    obtain ⟨i, hi⟩ := List.mem_iff_getElem?.1 hm
    obtain ⟨k, hk⟩ := get_of_lt (l := K) (k := i) (by rw [h.len]; exact (List.getElem?_eq_some_iff.1 hi).1)
    exact h.key i _ k hi hk
theorem VT.uniq (h : VT R ts K) {t : Tm} {n m : Int} (h1 : VN R ts t n) (h2 : VN R ts t m) : n = m := VN.uniq h.nd h.noreg h1 h2
theorem VK.uniq (h : VT R ts K) : ∀ {t : Tm} {k k' : List Int}, VK R ts t k → VK R ts t k' → k = k'
  | .cst _, _, _, h1, h2 => h1.trans h2.symm
  | .op _ _ _, _, _, ⟨x, y, a1, a2, a3⟩, ⟨x', y', b1, b2, b3⟩ => by rw [a3, b3, h.uniq a1 b1, h.uniq a2 b2]
  | .ld _ _, _, _, h1, h2 => h1.trans h2.symm
  | .unk _, _, _, h1, h2 => h1.trans h2.symm
theorem VK.inj : ∀ {t s : Tm} {k : List Int}, VK R ts t k → VK R ts s k → t = s
  | .cst n, .cst m, _, h1, h2 => by have := h1.symm.trans h2; simp at this; rw [this]
  | .cst n, .op _ _ _, _, h1, ⟨x, y, _, _, h2⟩ => by have := h1.symm.trans h2; simp at this
  | .cst n, .ld _ _, _, h1, h2 => by have := h1.symm.trans h2; simp at this
  | .cst n, .unk _, _, h1, h2 => by have := h1.symm.trans h2; simp at this
  | .op _ _ _, .cst _, _, ⟨x, y, _, _, h1⟩, h2 => by have := h1.symm.trans h2; simp at this
  | .op o a b, .op o' a' b', _, ⟨x, y, a1, a2, a3⟩, ⟨x', y', b1, b2, b3⟩ => by
    have e := a3.symm.trans b3
    simp only [List.cons.injEq, true_and, and_true] at e
    obtain ⟨e1, e2, e3⟩ := e
    subst e2; subst e3
    rw [e1, VN.inj a1 b1, VN.inj a2 b2]
  | .op _ _ _, .ld _ _, _, ⟨x, y, _, _, h1⟩, h2 => by have := h1.symm.trans h2; simp at this
  | .op _ _ _, .unk _, _, ⟨x, y, _, _, h1⟩, h2 => by have := h1.symm.trans h2; simp at this
  | .ld _ _, .cst _, _, h1, h2 => by have := h1.symm.trans h2; simp at this
  | .ld _ _, .op _ _ _, _, h1, ⟨x, y, _, _, h2⟩ => by have := h1.symm.trans h2; simp at this
  | .ld b τ, .ld b' τ', _, h1, h2 => by have := h1.symm.trans h2; simp at this; rw [this.1, this.2]
  | .ld _ _, .unk _, _, h1, h2 => by have := h1.symm.trans h2; simp at this
  | .unk _, .cst _, _, h1, h2 => by have := h1.symm.trans h2; simp at this
  | .unk _, .op _ _ _, _, h1, ⟨x, y, _, _, h2⟩ => by have := h1.symm.trans h2; simp at this
  | .unk _, .ld _ _, _, h1, h2 => by have := h1.symm.trans h2; simp at this
  | .unk n, .unk m, _, h1, h2 => by
    have := h1.symm.trans h2
    simp only [List.cons.injEq, true_and, and_true] at this
    rw [show n = m by omega]
theorem kidx_none {k : List Int} : ∀ {K : List (List Int)}, kidx k K = none → k ∉ K
  | [], _ => by simp
  | x :: r, h => by
    unfold kidx at h
    cases hx : k == x with
    | true => rw [hx] at h; cases h
    | false =>
      rw [hx] at h
      have h' : kidx k r = none := by simpa using h
      have := kidx_none h'
      simp only [List.mem_cons, not_or]
      exact ⟨by simpa using hx, this⟩
theorem VT.num (h : VT R ts K) {t : Tm} {k : List Int} (hk : VK R ts t k) (hw : ∀ n, t = .cst n → isW n) : ∃ ts', ts <+: ts' ∧ VT R ts' (vnum ((2 * R : Nat) : Int) K k).2 ∧ VN R ts' t (vnum ((2 * R : Nat) : Int) K k).1 := by
  cases e : kidx k K with
  | some i =>
    rw [vnum_old e]
    obtain ⟨h1, h2⟩ := kidx_lt e
    obtain ⟨s, hs⟩ := get_of_lt (l := ts) (k := i) (by rw [← h.len]; exact h1)
    have := VK.inj (h.key i s k hs h2) hk
    subst this
    exact ⟨ts, List.prefix_rfl, h, (VN.tab hk).2 ⟨i, hs, by push_cast; omega⟩⟩
  | none =>
    rw [vnum_new e]
    have hni := kidx_none e
    have hnt : t ∉ ts := fun hm => by
      obtain ⟨i, hi⟩ := List.mem_iff_getElem?.1 hm
      obtain ⟨k', hk'⟩ := get_of_lt (l := K) (k := i) (by rw [h.len]; exact (List.getElem?_eq_some_iff.1 hi).1)
      have := VK.uniq h (h.key i t k' hi hk') hk
      subst this
      exact hni (List.mem_of_getElem? hk')
    have hp : ts <+: ts ++ [t] := List.prefix_append _ _
    refine ⟨ts ++ [t], hp, ⟨?_, ?_, fun i s k' hs hk' => ?_, fun n hn => ?_⟩, ?_⟩
    · rw [List.nodup_append]
      exact ⟨h.nd, by simp, fun a ha b hb => by simp at hb; subst hb; exact fun e => hnt (e ▸ ha)⟩
    · simp [h.len]
    · rw [List.getElem?_append] at hs hk'
      by_cases hi : i < ts.length
      · rw [if_pos hi] at hs
        rw [if_pos (by rw [h.len]; exact hi)] at hk'
        exact (h.key i s k' hs hk').ext hp
      · rw [if_neg hi] at hs
        rw [if_neg (by rw [h.len]; exact hi), h.len] at hk'
        have h0 : i - ts.length = 0 := by
          have := (List.getElem?_eq_some_iff.1 hs).1
          simp at this; omega
        rw [h0] at hs hk'
        simp at hs hk'
        subst hs; subst hk'
        exact hk.ext hp
    · simp only [List.mem_append, List.mem_singleton] at hn
      rcases hn with hn | hn
      · exact h.word n hn
      · exact hw n hn.symm
    · exact (VN.tab (hk.ext hp)).2 ⟨ts.length, by simp, by rw [h.len]; push_cast; omega⟩
theorem VT.cst (h : VT R ts K) {t : Tm} {n : Int} (hn : VN R ts t n) : (∃ c, t = .cst c ∧ isW c ∧ vconst ((2 * R : Nat) : Int) K n = (c, true)) ∨ ((∀ c, t ≠ .cst c) ∧ (vconst ((2 * R : Nat) : Int) K n).2 = false) := by
  rcases hn.cls with ⟨v, rfl, a1, a2⟩ | ⟨v, rfl, a1, a2⟩ | ⟨i, a1, a2⟩
  · exact .inr ⟨fun c => by simp, by rw [vconst_low (by simp; omega)]⟩
  · exact .inr ⟨fun c => by simp, by rw [vconst_low (by simp; omega)]⟩
  · obtain ⟨k, hk⟩ := get_of_lt (l := K) (k := i) (by rw [h.len]; exact (List.getElem?_eq_some_iff.1 a1).1)
    have hkey := h.key i t k a1 hk
    have hv : vconst ((2 * R : Nat) : Int) K n = (IntKind.u32.wrap (rget k 1), rget k 0 == 1) := by
      unfold vconst
      rw [show decide (n < ((2 * R : Nat) : Int)) = false by simp; omega, show (n - ((2 * R : Nat) : Int)).toNat = i by omega, hk]
      rfl
    rw [hv]
    cases t with
    | old => exact hkey.elim
    | own => exact hkey.elim
    | cst c =>
      have hc := h.word c (List.mem_of_getElem? a1)
      have hk' : k = [1, c, 0, 0] := hkey
      subst hk'
      refine .inl ⟨c, rfl, hc, ?_⟩
      show (IntKind.u32.wrap c, true) = _
      rw [IntKind.wrap_u32]
      obtain ⟨h1, h2⟩ := hc
      congr 1; omega
    | op o a b =>
      obtain ⟨x, y, _, _, rfl⟩ := hkey
      exact .inr ⟨fun c => by simp, rfl⟩
    | ld b τ =>
      have hk' : k = [3, b, τ, 0] := hkey
      subst hk'
      exact .inr ⟨fun c => by simp, rfl⟩
    | unk m =>
      have hk' : k = [4, (m : Int) + 1, 0, 0] := hkey
      subst hk'
      exact .inr ⟨fun c => by simp, rfl⟩
end
def VO (R : Nat) (ts : List Tm) : Option Tm → Int → Prop
  | none, n => n = 0
  | some t, n => VN R ts t n
def VE (R : Nat) (ts : List Tm) (e : SE) (k : List Int) : Prop := ∃ x y, VO R ts e.a x ∧ VO R ts e.b y ∧ k = bif e.risk then [1, e.k, x, y, 0, 0] else [2, e.op, e.base, e.size, x, y]
structure VS (R : Nat) (ts : List Tm) (w : VW) (s : SS) : Prop where
  t : VT R ts w.K
  regs : All2 (VN R ts) s.regs w.vals
  effs : All2 (VE R ts) s.effs w.effs
  time : w.time = s.time
section
variable {R : Nat} {ts ts' : List Tm}
theorem VO.ext (hp : ts <+: ts') : ∀ {t : Option Tm} {n : Int}, VO R ts t n → VO R ts' t n
  | none, _, h => h
  | some _, _, h => VN.ext hp h
theorem VE.ext (hp : ts <+: ts') {e : SE} {k : List Int} : VE R ts e k → VE R ts' e k := fun ⟨x, y, h1, h2, h3⟩ => ⟨x, y, h1.ext hp, h2.ext hp, h3⟩
theorem VS.at {w : VW} {s : SS} (h : VS R ts w s) {z : Int} (hz : 0 ≤ z ∧ z < s.regs.length) : VN R ts (tget s.regs z) (rget w.vals z) := by
  have hl := h.regs.len
  obtain ⟨x, hx⟩ := get_of_lt (l := s.regs) (k := z.toNat) (by omega)
  obtain ⟨y, hy⟩ := get_of_lt (l := w.vals) (k := z.toNat) (by omega)
  unfold tget rget
  rw [hx, hy]
  exact h.regs.get hx hy
theorem VS.put {w : VW} {s : SS} (h : VS R ts w s) (z : Int) {t : Tm} {k : List Int} (hk : VK R ts t k) (hw : ∀ n, t = .cst n → isW n) : ∃ ts', ts <+: ts' ∧ VS R ts' (w.put z (vnum ((2 * R : Nat) : Int) w.K k)) (s.put z t) := by
  obtain ⟨ts', hp, h1, h2⟩ := h.t.num hk hw
  exact ⟨ts', hp, h1, (h.regs.mono fun x y hxy => hxy.ext hp).set h2 _, h.effs.mono fun x y hxy => hxy.ext hp, h.time⟩
theorem VS.eff {w : VW} {s : SS} (h : VS R ts w s) {e : SE} {k : List Int} (he : VE R ts e k) : VS R ts { w with effs := w.effs ++ [k] } (s.eff e) := ⟨h.t, h.regs, h.effs.snoc he, h.time⟩
theorem VS.tick {w : VW} {s : SS} (h : VS R ts w s) : VS R ts w.tick s.tick := ⟨h.t, h.regs, h.effs, by show w.time + 1 = s.time + 1; rw [h.time]⟩
theorem VS.get {w : VW} {s : SS} (h : VS R ts w s) (t : Tac) {e : SE} {a : Int} (he : VE R ts e [2, t.op, t.base, t.size, a, 0]) : ∃ ts', ts <+: ts' ∧ VS R ts' ((w.hap t a 0).put t.d (vunk ((2 * R : Nat) : Int) (w.hap t a 0))) (s.get t e) := by
  have h1 : VS R ts (w.hap t a 0) (s.eff e) := h.eff he
  have hlen : (w.hap t a 0).effs.length = s.effs.length + 1 := by
    have := h.effs.len
    show (w.effs ++ [_]).length = _
    simp [this]
  refine h1.put t.d (t := .unk s.effs.length) (k := [4, ((w.hap t a 0).effs.length : Int), 0, 0]) ?_ (fun n e => by cases e)
  show _ = _
  rw [hlen]; push_cast; rfl
theorem VS.risky {w : VW} {s : SS} (h : VS R ts w s) {t : Tac} (hb : 0 ≤ t.b ∧ t.b < s.regs.length) : vrisky ((2 * R : Nat) : Int) w t = trisky t.k (tget s.regs t.b) := by
  unfold vrisky trisky
  congr 1
  rcases h.t.cst (h.at hb) with ⟨c, h1, h2, h3⟩ | ⟨h1, h2⟩
  · rw [h1, h3]; simp [Tm.isZero]
  · rw [h2]
    cases e : tget s.regs t.b with
    | cst c => exact absurd e (h1 c)
    | _ => rfl
theorem wapp_err {k x y : Int} (hk : 4 ≤ k ∧ k ≤ 15) : ((wapp k x y).2 == 0) = !(((k == 7 || k == 8)) && y == 0) := by
  unfold wapp
  have h : k = 4 ∨ k = 5 ∨ k = 6 ∨ k = 7 ∨ k = 8 ∨ k = 9 ∨ k = 10 ∨ k = 11 ∨ k = 12 ∨ k = 13 ∨ k = 14 ∨ k = 15 := by omega
  rcases h with rfl | rfl | rfl | rfl | rfl | rfl | rfl | rfl | rfl | rfl | rfl | rfl <;> first | rfl | (simp only [wdivide]; cases y == 0 <;> rfl)
theorem VS.apply {w : VW} {s : SS} (h : VS R ts w s) {t : Tac} (hk : 4 ≤ t.k ∧ t.k ≤ 15) (ha : 0 ≤ t.a ∧ t.a < s.regs.length) (hb : 0 ≤ t.b ∧ t.b < s.regs.length) :
    ∃ k, vapply ((2 * R : Nat) : Int) w.K t.k (rget w.vals t.a) (rget w.vals t.b) = vnum ((2 * R : Nat) : Int) w.K k ∧ VK R ts (tfold t.k (tget s.regs t.a) (tget s.regs t.b)) k ∧ ∀ n, tfold t.k (tget s.regs t.a) (tget s.regs t.b) = .cst n → isW n := by
  have hna := h.at ha
  have hnb := h.at hb
  have hop : ∀ x y : Tm, VN R ts x (rget w.vals t.a) → VN R ts y (rget w.vals t.b) → VK R ts (.op t.k x y) [2, t.k, rget w.vals t.a, rget w.vals t.b] := fun x y h1 h2 => ⟨_, _, h1, h2, rfl⟩
  rcases h.t.cst hna with ⟨c, h1, h2, h3⟩ | ⟨h1, h2⟩
  · rcases h.t.cst hnb with ⟨d, g1, g2, g3⟩ | ⟨g1, g2⟩
    · rw [h1] at hna ⊢
      rw [g1] at hnb ⊢
      have herr := wapp_err (k := t.k) (x := c) (y := d) hk
      cases hr : trisky t.k (.cst d) with
      | true =>
        have hr' : ((t.k == 7 || t.k == 8) && d == 0) = true := hr
        refine ⟨_, vapply_o3 (by rw [h3, g3, herr, hr']; rfl), ?_, ?_⟩
        · simp only [tfold, hr, cond_true]; exact hop _ _ hna hnb
        · simp only [tfold, hr, cond_true]; intro n e; cases e
      | false =>
        have hr' : ((t.k == 7 || t.k == 8) && d == 0) = false := hr
        refine ⟨_, vapply_c (by rw [h3]) (by rw [g3]) (by rw [h3, g3, herr, hr']; rfl), ?_, ?_⟩
        · simp only [tfold, hr, cond_false]; rw [h3, g3]; rfl
        · simp only [tfold, hr, cond_false]
          intro n e
          cases e
          exact wapp_word h2 g2
    · refine ⟨_, vapply_o2 g2, ?_, ?_⟩
      · cases e2 : tget s.regs t.b with
        | cst d => exact absurd e2 (g1 d)
        | _ => rw [h1] at hna ⊢; rw [e2] at hnb; exact hop _ _ hna hnb
      · intro n e
        cases e2 : tget s.regs t.b with
        | cst d => exact absurd e2 (g1 d)
        | _ => rw [h1, e2] at e; cases e
  · refine ⟨_, vapply_o1 h2, ?_, ?_⟩
    · cases e1 : tget s.regs t.a with
      | cst d => exact absurd e1 (h1 d)
      | _ => rw [e1] at hna; exact hop _ _ hna hnb
    · intro n e
      cases e1 : tget s.regs t.a with
      | cst d => exact absurd e1 (h1 d)
      | _ => rw [e1] at e; cases e
theorem VS.step {w : VW} {s : SS} (h : VS R ts w s) {t : Tac} (ht : TacT t R) (hl : s.regs.length = R) : ∃ ts', ts <+: ts' ∧ VS R ts' (w.step ((2 * R : Nat) : Int) t) (s.step t) := by
  have hd : setsOp t.op = true → 0 ≤ t.d ∧ t.d < s.regs.length := fun e => by rw [hl]; exact ht.d e
  have ha : use1 t.op = true ∨ use2 t.op = true → 0 ≤ t.a ∧ t.a < s.regs.length := fun e => by rw [hl]; exact ht.a e
  have hb : use2 t.op = true → 0 ≤ t.b ∧ t.b < s.regs.length := fun e => by rw [hl]; exact ht.b e
  have hw := ht.want
  have h10 : t.op = 1 ∨ t.op = 2 ∨ t.op = 3 ∨ t.op = 4 ∨ t.op = 5 ∨ t.op = 6 ∨ t.op = 7 ∨ t.op = 8 ∨ t.op = 9 ∨ t.op = 10 := by have := ht.op; omega
  have hsz : arrOp t.op = false → t.size = 0 := fun e => by have := congrArg Tac.size hw; simp only [Tac.want, e, cond_false] at this; exact this
  have hbs : (baseOp t.op || (arrOp t.op || t.op == 10)) = false → t.base = 0 := fun e => by have := congrArg Tac.base hw; simp only [Tac.want, e, cond_false] at this; exact this
  rcases h10 with ho | ho | ho | ho | ho | ho | ho | ho | ho | ho
  · rw [vstep1 ho, show s.step t = s.put t.d (.cst t.n) by unfold SS.step; rw [ho]; rfl]
    exact h.put t.d rfl (fun n e => by cases e; exact ht.n)
  · rw [vstep2 ho, show s.step t = s.put t.d (tget s.regs t.a) by unfold SS.step; rw [ho]; rfl]
    exact ⟨ts, List.prefix_rfl, h.t, h.regs.set (h.at (ha (.inl (by rw [ho]; rfl)))) _, h.effs, h.time⟩
  · rw [vstep3 ho, show s.step t = s.bin t by unfold SS.step; rw [ho]; rfl]
    have ha' := ha (.inr (by rw [ho]; rfl))
    have hb' := hb (by rw [ho]; rfl)
    obtain ⟨k, hk1, hk2, hk3⟩ := h.apply (ht.k ho) ha' hb'
    have hr := h.risky hb'
    have h1 : VS R ts (w.div ((2 * R : Nat) : Int) t) (s.div t) := by
      unfold VW.div SS.div
      rw [hr]
      cases trisky t.k (tget s.regs t.b) with
      | true => exact h.eff ⟨_, _, h.at ha', h.at hb', rfl⟩
      | false => exact h
    unfold VW.bin SS.bin
    rw [hk1]
    have := h1.put t.d hk2 hk3
    rwa [div_K] at this
  · rw [vstep4 ho, show s.step t = s.put t.d (.ld t.base s.time) by unfold SS.step; rw [ho]; rfl]
    exact h.put t.d (by show _ = _; rw [h.time]) (fun n e => by cases e)
  · rw [vstep5 ho, show s.step t = (s.eff ⟨false, 5, 0, t.base, 0, some (tget s.regs t.a), none⟩).tick by unfold SS.step; rw [ho]; rfl]
    refine ⟨ts, List.prefix_rfl, VS.tick (h.eff ⟨_, _, h.at (ha (.inl (by rw [ho]; rfl))), rfl, ?_⟩)⟩
    rw [ho, hsz (by rw [ho]; rfl)]; rfl
  · rw [vstep6 ho, show s.step t = s.get t ⟨false, 6, 0, t.base, t.size, some (tget s.regs t.a), none⟩ by unfold SS.step; rw [ho]; rfl]
    refine h.get t ⟨_, _, h.at (ha (.inl (by rw [ho]; rfl))), rfl, ?_⟩
    rw [ho]; rfl
  · rw [vstep7 ho, show s.step t = (s.eff ⟨false, 7, 0, t.base, t.size, some (tget s.regs t.a), some (tget s.regs t.b)⟩).tick by unfold SS.step; rw [ho]; rfl]
    refine ⟨ts, List.prefix_rfl, VS.tick (h.eff ⟨_, _, h.at (ha (.inr (by rw [ho]; rfl))), h.at (hb (by rw [ho]; rfl)), ?_⟩)⟩
    rw [ho]; rfl
  · rw [vstep8 ho, show s.step t = s.get t ⟨false, 8, 0, 0, 0, none, none⟩ by unfold SS.step; rw [ho]; rfl]
    refine h.get t ⟨_, _, rfl, rfl, ?_⟩
    rw [ho, hsz (by rw [ho]; rfl), hbs (by rw [ho]; rfl)]; rfl
  · rw [vstep9 ho, show s.step t = s.eff ⟨false, 9, 0, 0, 0, some (tget s.regs t.a), none⟩ by unfold SS.step; rw [ho]; rfl]
    refine ⟨ts, List.prefix_rfl, h.eff ⟨_, _, h.at (ha (.inl (by rw [ho]; rfl))), rfl, ?_⟩⟩
    rw [ho, hsz (by rw [ho]; rfl), hbs (by rw [ho]; rfl)]; rfl
  · rw [vstep10 ho, show s.step t = (s.eff ⟨false, 10, 0, t.base, 0, none, none⟩).tick by unfold SS.step; rw [ho]; rfl]
    refine ⟨ts, List.prefix_rfl, VS.tick (h.eff ⟨_, _, rfl, rfl, ?_⟩)⟩
    rw [ho, hsz (by rw [ho]; rfl)]; rfl
end
def symR (R : Nat) : List Tm := (List.range R).map Tm.old
def sideT (row : List Bool) (v : Nat) : Tm := bif (row[v]?).getD false then .old v else .own v
def symO (R : Nat) (row : List Bool) : List Tm := (List.range R).map (sideT row)
def srun (regs : List Tm) (l : List Tac) : SS := l.foldl SS.step ⟨regs, [], 0⟩
def tagree (x y : List Tm) (row : List Bool) : Bool := row.zipIdx.all fun p => !p.1 || decide (tget x (p.2 : Int) = tget y (p.2 : Int))
def tsame (R : Nat) (old new : Block) (c : Cert) (i : Int) (next : List Int) : Bool :=
  decide ((srun (symR R) old.ins).effs = (srun (symO R (c.at' i)) new.ins).effs) && ((!(old.fin == 2) || decide (tget (srun (symR R) old.ins).regs old.v = tget (srun (symO R (c.at' i)) new.ins).regs new.v)) && next.all fun k => tagree (srun (symR R) old.ins).regs (srun (symO R (c.at' i)) new.ins).regs (c.at' k))
theorem All2.map {α β γ : Type} {r : β → γ → Prop} {f : α → β} {g : α → γ} : ∀ {l : List α}, (∀ x ∈ l, r (f x) (g x)) → All2 r (l.map f) (l.map g)
  | [], _ => trivial
  | x :: l, h => ⟨h x (by simp), All2.map fun y hy => h y (by simp [hy])⟩
theorem srun_len (regs : List Tm) (l : List Tac) : (srun regs l).regs.length = regs.length := by
  unfold srun
  suffices h : ∀ s : SS, (l.foldl SS.step s).regs.length = s.regs.length by exact h ⟨regs, [], 0⟩
  induction l with
  | nil => exact fun s => rfl
  | cons t l ih => exact fun s => (ih _).trans (s.step_len t)
theorem srun_wf (regs : List Tm) (l : List Tac) : ∀ e ∈ (srun regs l).effs, e.wf := by
  unfold srun
  suffices h : ∀ s : SS, (∀ e ∈ s.effs, e.wf) → ∀ e ∈ (l.foldl SS.step s).effs, e.wf by exact h ⟨regs, [], 0⟩ (fun e he => by simp at he)
  induction l with
  | nil => exact fun s h => h
  | cons t l ih => exact fun s h => ih _ (SS.step_wf h t)
theorem symR_len (R : Nat) : (symR R).length = R := by simp [symR]
theorem symO_len (R : Nat) (row : List Bool) : (symO R row).length = R := by simp [symO]
section
variable {R : Nat} {ts : List Tm}
theorem VS.fold {l : List Tac} (hl : ∀ t ∈ l, TacT t R) : ∀ {ts : List Tm} {w : VW} {s : SS}, VS R ts w s → s.regs.length = R → ∃ ts', ts <+: ts' ∧ VS R ts' (vfold ((2 * R : Nat) : Int) l w) (l.foldl SS.step s) := by
  induction l with
  | nil => exact fun h _ => ⟨_, List.prefix_rfl, h⟩
  | cons t l ih =>
    intro ts w s h hr
    obtain ⟨ts1, hp1, h1⟩ := h.step (hl t (by simp)) hr
    obtain ⟨ts2, hp2, h2⟩ := ih (fun u hu => hl u (by simp [hu])) h1 ((s.step_len t).trans hr)
    exact ⟨ts2, hp1.trans hp2, h2⟩
theorem VE.uniq {K : List (List Int)} (hK : VT R ts K) {e : SE} {k k' : List Int} (h1 : VE R ts e k) (h2 : VE R ts e k') : k = k' := by
  obtain ⟨x, y, a1, a2, a3⟩ := h1
  obtain ⟨x', y', b1, b2, b3⟩ := h2
  have hu : ∀ {o : Option Tm} {n m : Int}, VO R ts o n → VO R ts o m → n = m := fun {o n m} g1 g2 => by
    cases o with
    | none => exact g1.trans g2.symm
    | some t => exact hK.uniq g1 g2
  rw [a3, b3, hu a1 b1, hu a2 b2]
theorem VE.inj {e e' : SE} {k : List Int} (hw : e.wf) (hw' : e'.wf) (h1 : VE R ts e k) (h2 : VE R ts e' k) : e = e' := by
  obtain ⟨x, y, a1, a2, a3⟩ := h1
  obtain ⟨x', y', b1, b2, b3⟩ := h2
  have hso : ∀ {o o' : Option Tm} {n : Int}, o.isSome → o'.isSome → VO R ts o n → VO R ts o' n → o = o' := fun {o o' n} g1 g2 g3 g4 => by
    cases o with
    | none => cases g1
    | some t => cases o' with
      | none => cases g2
      | some s => rw [VN.inj (R := R) (ts := ts) g3 g4]
  obtain ⟨r, o, k1, ba, si, oa, ob⟩ := e
  obtain ⟨r', o', k1', ba', si', oa', ob'⟩ := e'
  have h3 := a3.symm.trans b3
  rcases hw with ⟨w1, w2, w3, w4, w5, w6⟩ | ⟨w1, w0, w2⟩ <;> rcases hw' with ⟨v1, v2, v3, v4, v5, v6⟩ | ⟨v1, v0, v2⟩ <;> simp only at *
  · subst w1; subst v1; subst w2; subst v2; subst w3; subst v3; subst w4; subst v4
    simp only [cond_true, List.cons.injEq, true_and, and_true] at h3
    obtain ⟨e1, e2, e3⟩ := h3
    subst e1; subst e2; subst e3
    rw [hso w5 v5 a1 b1, hso w6 v6 a2 b2]
  · subst w1; subst v1
    simp at h3
  · subst w1; subst v1
    simp at h3
  · subst w1; subst v1; subst w0; subst v0
    simp only [cond_false, List.cons.injEq, true_and, and_true] at h3
    obtain ⟨e1, e2, e3, e4, e5⟩ := h3
    subst e1; subst e2; subst e3; subst e4; subst e5
    have hfin : oa = oa' → ob = ob' → (⟨false, o, 0, ba, si, oa, ob⟩ : SE) = ⟨false, o, 0, ba, si, oa', ob'⟩ := fun q1 q2 => by rw [q1, q2]
    rcases w2 with ⟨u1, u2, u3, u4⟩ | ⟨u1, u3, u4⟩ | ⟨u1, u3, u4⟩ | ⟨u1, u2, u5, u3, u4⟩ | ⟨u1, u2, u5, u3, u4⟩ | ⟨u1, u2, u3, u4⟩ <;>
      rcases v2 with ⟨q1, q2, q3, q4⟩ | ⟨q1, q3, q4⟩ | ⟨q1, q3, q4⟩ | ⟨q1, q2, q5, q3, q4⟩ | ⟨q1, q2, q5, q3, q4⟩ | ⟨q1, q2, q3, q4⟩ <;> first
        | (exfalso; omega)
        | exact hfin (hso u3 q3 a1 b1) (u4.trans q4.symm)
        | exact hfin (hso u3 q3 a1 b1) (hso u4 q4 a2 b2)
        | exact hfin (u3.trans q3.symm) (u4.trans q4.symm)
end
theorem beq_dec {a b : Int} {p : Prop} [Decidable p] (h : a = b ↔ p) : (a == b) = decide p := by
  rw [Bool.eq_iff_iff, beq_iff_eq, decide_eq_true_iff, h]
theorem All2.at {α β : Type} {r : α → β → Prop} {l : List α} {m : List β} (h : All2 r l m) {i : Nat} (hi : i < l.length) : ∃ x y, l[i]? = some x ∧ m[i]? = some y ∧ r x y := by
  obtain ⟨x, hx⟩ := get_of_lt hi
  obtain ⟨y, hy⟩ := get_of_lt (l := m) (k := i) (by rw [← h.len]; exact hi)
  exact ⟨x, y, hx, hy, h.get hx hy⟩
theorem agree_eq {α : Type} {R : Nat} {rel rel' : Tm → Int → Prop} {xs ys : List Tm} {us vs : List Int} (hu : ∀ t n m, rel t n → rel' t m → n = m) (hi : ∀ t s n, rel t n → rel' s n → t = s) (h1 : All2 rel xs us) (h2 : All2 rel' ys vs) (l1 : xs.length = R) (l2 : ys.length = R) {z z' : Int} (hz : 0 ≤ z ∧ z < R) (hz' : 0 ≤ z' ∧ z' < R) : (rget us z == rget vs z') = decide (tget xs z = tget ys z') := by
  obtain ⟨x, a, x1, a1, r1⟩ := h1.at (i := z.toNat) (by omega)
  obtain ⟨y, b, y1, b1, r2⟩ := h2.at (i := z'.toNat) (by omega)
  refine beq_dec ?_
  unfold rget tget
  rw [x1, a1, y1, b1]
  simp only [Option.getD_some]
  constructor
  · intro e; subst e; exact hi _ _ _ r1 r2
  · intro e; subst e; exact hu _ _ _ r1 r2
theorem all_cong {α : Type} {l : List α} {p q : α → Bool} (h : ∀ x ∈ l, p x = q x) : l.all p = l.all q := by
  induction l with
  | nil => rfl
  | cons x l ih => simp only [List.all_cons, h x (by simp), ih fun y hy => h y (by simp [hy])]
theorem vagree_t {R : Nat} {rel rel' : Tm → Int → Prop} {xs ys : List Tm} {wx wy : VW} {row : List Bool} (hu : ∀ t n m, rel t n → rel' t m → n = m) (hi : ∀ t s n, rel t n → rel' s n → t = s) (h1 : All2 rel xs wx.vals) (h2 : All2 rel' ys wy.vals) (l1 : xs.length = R) (l2 : ys.length = R) (hr : row.length = R) : vagree wx wy row = tagree xs ys row := by
  unfold vagree tagree
  refine all_cong fun p hp => ?_
  obtain ⟨b, j⟩ := p
  obtain ⟨i, hi'⟩ := List.mem_iff_getElem?.1 hp
  rw [List.getElem?_zipIdx, Option.map_eq_some_iff] at hi'
  obtain ⟨b', hb', e⟩ := hi'
  simp only [Nat.zero_add, Prod.mk.injEq] at e
  obtain ⟨rfl, rfl⟩ := e
  have hlt := (List.getElem?_eq_some_iff.1 hb').1
  dsimp only
  rw [agree_eq (α := Unit) (R := R) hu hi h1 h2 l1 l2 (by omega) (by omega)]
theorem vsame_t {R : Nat} {old new : Block} {c : Cert} {i : Int} {next : List Int} (ho : ∀ t ∈ old.ins, TacT t R) (hn : ∀ t ∈ new.ins, TacT t R) (hc : ∀ r ∈ c.same, r.length = R) (hnx : ∀ k ∈ next, 0 ≤ k ∧ k < c.same.length) (hv : old.fin = 2 → (0 ≤ old.v ∧ old.v < R) ∧ (0 ≤ new.v ∧ new.v < R)) :
    vsame R old new c i next = tsame R old new c i next := by
  have h0 : VS R [] ⟨[], idsA R, [], 0⟩ ⟨symR R, [], 0⟩ := ⟨⟨List.nodup_nil, rfl, fun i t k h => by simp at h, fun n h => by simp at h⟩, All2.map fun v hv => ⟨rfl, List.mem_range.1 hv⟩, trivial, rfl⟩
  obtain ⟨ts1, hp1, h1⟩ := VS.fold ho h0 (symR_len R)
  have h2 : VS R ts1 ⟨(vrunA R old).K, idsB R (c.at' i), [], 0⟩ ⟨symO R (c.at' i), [], 0⟩ := ⟨h1.t, All2.map fun v hv => by
    unfold sideT sideB
    have hlt := List.mem_range.1 hv
    cases ((c.at' i)[v]?).getD false with
    | true => exact ⟨rfl, hlt⟩
    | false => exact ⟨rfl, hlt⟩, trivial, rfl⟩
  obtain ⟨ts2, hp2, h3⟩ := VS.fold hn h2 (symO_len R _)
  have hA1 : All2 (VN R ts2) (srun (symR R) old.ins).regs (vrunA R old).vals := h1.regs.mono fun x y h => h.ext hp2
  have hA2 : All2 (VE R ts2) (srun (symR R) old.ins).effs (vrunA R old).effs := h1.effs.mono fun x y h => h.ext hp2
  have hB1 : All2 (VN R ts2) (srun (symO R (c.at' i)) new.ins).regs (vrunB R old new (c.at' i)).vals := h3.regs
  have hB2 : All2 (VE R ts2) (srun (symO R (c.at' i)) new.ins).effs (vrunB R old new (c.at' i)).effs := h3.effs
  have lA := (srun_len (symR R) old.ins).trans (symR_len R)
  have lB := (srun_len (symO R (c.at' i)) new.ins).trans (symO_len R _)
  have hu : ∀ t n m, VN R ts2 t n → VN R ts2 t m → n = m := fun t n m a b => h3.t.uniq a b
  have hi : ∀ t s n, VN R ts2 t n → VN R ts2 s n → t = s := fun t s n a b => VN.inj a b
  unfold vsame tsame
  congr 1
  · exact decide_eq_decide.2 (All2.iff (r := VE R ts2) (r' := VE R ts2) (p := SE.wf) (q := SE.wf) (fun e k k' _ a b => VE.uniq h3.t a b) (fun e e' k p q a b => VE.inj p q a b) (srun_wf _ _) (srun_wf _ _) hA2 hB2)
  congr 1
  · by_cases hf : old.fin = 2
    · rw [agree_eq (α := Unit) (R := R) hu hi hA1 hB1 lA lB (hv hf).1 (hv hf).2]
    · rw [show (old.fin == 2) = false by simpa using hf]; rfl
  · refine all_cong fun k hk => ?_
    have hkr := hnx k hk
    have hrow : (c.at' k).length = R := by
      obtain ⟨r, hr⟩ := get_of_lt (l := c.same) (k := k.toNat) (by omega)
      unfold Cert.at'
      rw [hr]
      exact hc r (List.mem_of_getElem? hr)
    exact vagree_t (R := R) hu hi hA1 hB1 lA lB hrow
def RN (ts : List Tm) (t : Tm) (n : Int) : Prop := ∃ i : Nat, ts[i]? = some t ∧ n = (i : Int)
def RK (ts : List Tm) : Tm → RVal → Prop
  | .cst n, k => k = ⟨1, 0, 0, 0, 0, 0, 0, 0, n⟩
  | .op o a b, k => ∃ x y, RN ts a x ∧ RN ts b y ∧ k = ⟨3, o, x, y, 0, 0, 0, 0, 0⟩
  | .ld b τ, k => k = ⟨4, 0, 0, 0, 0, 0, b, τ, 0⟩
  | .unk n, k => k = runkV n
  | .old v, k => k = RVal.reg v 0
  | .own v, k => k = RVal.reg v 1
structure RT (ts : List Tm) (K : List RVal) : Prop where
  nd : ts.Nodup
  len : K.length = ts.length
  key : ∀ (i : Nat) (t : Tm) (k : RVal), ts[i]? = some t → K[i]? = some k → RK ts t k
  word : ∀ (n : Int), Tm.cst n ∈ ts → isW n
section
variable {ts ts' : List Tm} {K : List RVal}
theorem RN.ext (hp : ts <+: ts') {t : Tm} {n : Int} : RN ts t n → RN ts' t n := fun ⟨i, h1, h2⟩ => ⟨i, pre_get hp h1, h2⟩
theorem RK.ext (hp : ts <+: ts') : ∀ {t : Tm} {k : RVal}, RK ts t k → RK ts' t k
  | .cst _, _, h => h
  | .op _ _ _, _, ⟨x, y, h1, h2, h3⟩ => ⟨x, y, h1.ext hp, h2.ext hp, h3⟩
  | .ld _ _, _, h => h
  | .unk _, _, h => h
  | .old _, _, h => h
  | .own _, _, h => h
theorem RN.uniq (hnd : ts.Nodup) {t : Tm} {n m : Int} (h1 : RN ts t n) (h2 : RN ts t m) : n = m := by
  obtain ⟨i, a1, a2⟩ := h1
  obtain ⟨j, b1, b2⟩ := h2
  have := nodup_inj hnd a1 b1
  omega
theorem RN.inj {t s : Tm} {n : Int} (h1 : RN ts t n) (h2 : RN ts s n) : t = s := by
  obtain ⟨i, a1, a2⟩ := h1
  obtain ⟨j, b1, b2⟩ := h2
  have : i = j := by omega
  subst this
  rw [a1] at b1; exact Option.some.inj b1
theorem RK.uniq (h : ts.Nodup) : ∀ {t : Tm} {k k' : RVal}, RK ts t k → RK ts t k' → k = k'
  | .cst _, _, _, h1, h2 => h1.trans h2.symm
  | .op _ _ _, _, _, ⟨x, y, a1, a2, a3⟩, ⟨x', y', b1, b2, b3⟩ => by rw [a3, b3, RN.uniq h a1 b1, RN.uniq h a2 b2]
  | .ld _ _, _, _, h1, h2 => h1.trans h2.symm
  | .unk _, _, _, h1, h2 => h1.trans h2.symm
  | .old _, _, _, h1, h2 => h1.trans h2.symm
  | .own _, _, _, h1, h2 => h1.trans h2.symm
def tkind : Tm → Int
  | .cst _ => 1
  | .op _ _ _ => 3
  | .ld _ _ => 4
  | .unk _ => 2
  | .old _ => 2
  | .own _ => 2
def tside : Tm → Int
  | .unk _ => 2
  | .own _ => 1
  | _ => 0
theorem RK.kind {t : Tm} {k : RVal} (h : RK ts t k) : k.kind = tkind t ∧ k.side = tside t := by
  cases t with
  | op o a b => obtain ⟨x, y, _, _, rfl⟩ := h; exact ⟨rfl, rfl⟩
  | _ => have h' : k = _ := h; subst h'; exact ⟨rfl, rfl⟩
theorem RK.inj {t s : Tm} {k : RVal} (h1 : RK ts t k) (h2 : RK ts s k) : t = s := by
  have e1 := h1.kind
  have e2 := h2.kind
  have ek : tkind t = tkind s := e1.1.symm.trans e2.1
  have es : tside t = tside s := e1.2.symm.trans e2.2
  cases t <;> cases s <;> first | (exfalso; revert ek; simp only [tkind]; decide) | (exfalso; revert es; simp only [tside]; decide) | skip
  · have e : RVal.reg _ 0 = RVal.reg _ 0 := (show k = _ from h1).symm.trans h2
    simp only [RVal.reg, RVal.mk.injEq, true_and, and_true] at e
    exact congrArg Tm.old (Int.ofNat_inj.1 e)
  · have e : RVal.reg _ 1 = RVal.reg _ 1 := (show k = _ from h1).symm.trans h2
    simp only [RVal.reg, RVal.mk.injEq, true_and, and_true] at e
    exact congrArg Tm.own (Int.ofNat_inj.1 e)
  · have e := (show k = _ from h1).symm.trans h2
    simp only [RVal.mk.injEq, true_and, and_true] at e
    rw [e]
  · obtain ⟨x, y, a1, a2, a3⟩ := h1
    obtain ⟨x', y', b1, b2, b3⟩ := h2
    have e := a3.symm.trans b3
    simp only [RVal.mk.injEq, true_and, and_true] at e
    obtain ⟨q1, q2, q3⟩ := e
    subst q2; subst q3
    rw [q1, RN.inj a1 b1, RN.inj a2 b2]
  · have e := (show k = _ from h1).symm.trans h2
    simp only [RVal.mk.injEq, true_and, and_true] at e
    rw [e.1, e.2]
  · have e : runkV _ = runkV _ := (show k = _ from h1).symm.trans h2
    simp only [runkV, RVal.mk.injEq, true_and, and_true] at e
    exact congrArg Tm.unk (Int.ofNat_inj.1 e)
theorem ridx_no {v : RVal} : ∀ {L : List RVal}, ridx v L = none → v ∉ L
  | [], _ => by simp
  | x :: r, h => by
    unfold ridx at h
    cases hx : x.same v with
    | true => rw [hx] at h; cases h
    | false =>
      rw [hx] at h
      have h' : ridx v r = none := by simpa using h
      have := ridx_no h'
      simp only [List.mem_cons, not_or]
      refine ⟨fun e => ?_, this⟩
      subst e
      rw [(RVal.same_iff v v).2 rfl] at hx; cases hx
theorem RT.num (h : RT ts K) {t : Tm} {k : RVal} (hk : RK ts t k) (hw : ∀ n, t = .cst n → isW n) : ∃ ts', ts <+: ts' ∧ RT ts' (rnum K k).2 ∧ RN ts' t (rnum K k).1 := by
  cases e : ridx k K with
  | some i =>
    rw [rnum_old e]
    obtain ⟨h1, h2⟩ := ridx_lt e
    obtain ⟨s, hs⟩ := get_of_lt (l := ts) (k := i) (by rw [← h.len]; exact h1)
    have := RK.inj (h.key i s k hs h2) hk
    subst this
    exact ⟨ts, List.prefix_rfl, h, i, hs, rfl⟩
  | none =>
    rw [rnum_new e]
    have hni := ridx_no e
    have hnt : t ∉ ts := fun hm => by
      obtain ⟨i, hi⟩ := List.mem_iff_getElem?.1 hm
      obtain ⟨k', hk'⟩ := get_of_lt (l := K) (k := i) (by rw [h.len]; exact (List.getElem?_eq_some_iff.1 hi).1)
      have := RK.uniq h.nd (h.key i t k' hi hk') hk
      subst this
      exact hni (List.mem_of_getElem? hk')
    have hp : ts <+: ts ++ [t] := List.prefix_append _ _
    refine ⟨ts ++ [t], hp, ⟨?_, ?_, fun i s k' hs hk' => ?_, fun n hn => ?_⟩, ?_⟩
    · rw [List.nodup_append]
      exact ⟨h.nd, by simp, fun a ha b hb => by simp at hb; subst hb; exact fun e => hnt (e ▸ ha)⟩
    · simp [h.len]
    · rw [List.getElem?_append] at hs hk'
      by_cases hi : i < ts.length
      · rw [if_pos hi] at hs
        rw [if_pos (by rw [h.len]; exact hi)] at hk'
        exact (h.key i s k' hs hk').ext hp
      · rw [if_neg hi] at hs
        rw [if_neg (by rw [h.len]; exact hi), h.len] at hk'
        have h0 : i - ts.length = 0 := by
          have := (List.getElem?_eq_some_iff.1 hs).1
          simp at this; omega
        rw [h0] at hs hk'
        simp at hs hk'
        subst hs; subst hk'
        exact hk.ext hp
    · simp only [List.mem_append, List.mem_singleton] at hn
      rcases hn with hn | hn
      · exact h.word n hn
      · exact hw n hn.symm
    · exact ⟨ts.length, by simp, by rw [h.len]⟩
theorem RT.cst (h : RT ts K) {t : Tm} {n : Int} (hn : RN ts t n) : (∃ c, t = .cst c ∧ isW c ∧ rconst K n = (c, true)) ∨ ((∀ c, t ≠ .cst c) ∧ (rconst K n).2 = false) := by
  obtain ⟨i, a1, a2⟩ := hn
  obtain ⟨k, hk⟩ := get_of_lt (l := K) (k := i) (by rw [h.len]; exact (List.getElem?_eq_some_iff.1 a1).1)
  have hkey := h.key i t k a1 hk
  have hv : rconst K n = (k.n, k.kind == 1) := by
    unfold rconst rval
    rw [show n.toNat = i by omega, hk]
    rfl
  rw [hv]
  by_cases hc : ∃ c, t = .cst c
  · obtain ⟨c, rfl⟩ := hc
    have hk' : k = ⟨1, 0, 0, 0, 0, 0, 0, 0, c⟩ := hkey
    subst hk'
    exact .inl ⟨c, rfl, h.word c (List.mem_of_getElem? a1), rfl⟩
  · refine .inr ⟨fun c e => hc ⟨c, e⟩, ?_⟩
    rw [hkey.kind.1]
    cases t <;> first | rfl | exact absurd ⟨_, rfl⟩ hc
end
def RO (ts : List Tm) : Option Tm → Int → Prop
  | none, n => n = 0
  | some t, n => RN ts t n
def RE (ts : List Tm) (e : SE) (k : REff) : Prop := ∃ x y, RO ts e.a x ∧ RO ts e.b y ∧ k = ⟨e.op, e.k, e.base, e.size, x, y⟩
structure RS (ts : List Tm) (w : RW) (s : SS) : Prop where
  t : RT ts w.L
  regs : All2 (RN ts) s.regs w.regs
  effs : All2 (RE ts) s.effs w.out
  time : w.time = s.time
section
variable {R : Nat} {ts ts' : List Tm}
theorem RO.ext (hp : ts <+: ts') : ∀ {t : Option Tm} {n : Int}, RO ts t n → RO ts' t n
  | none, _, h => h
  | some _, _, h => RN.ext hp h
theorem RE.ext (hp : ts <+: ts') {e : SE} {k : REff} : RE ts e k → RE ts' e k := fun ⟨x, y, h1, h2, h3⟩ => ⟨x, y, h1.ext hp, h2.ext hp, h3⟩
theorem RS.at {w : RW} {s : SS} (h : RS ts w s) {z : Int} (hz : 0 ≤ z ∧ z < s.regs.length) : RN ts (tget s.regs z) (rget w.regs z) := by
  have hl := h.regs.len
  obtain ⟨x, hx⟩ := get_of_lt (l := s.regs) (k := z.toNat) (by omega)
  obtain ⟨y, hy⟩ := get_of_lt (l := w.regs) (k := z.toNat) (by omega)
  unfold tget rget
  rw [hx, hy]
  exact h.regs.get hx hy
theorem RS.put {w : RW} {s : SS} (h : RS ts w s) (z : Int) {t : Tm} {k : RVal} (hk : RK ts t k) (hw : ∀ n, t = .cst n → isW n) : ∃ ts', ts <+: ts' ∧ RS ts' (w.put z (rnum w.L k)) (s.put z t) := by
  obtain ⟨ts', hp, h1, h2⟩ := h.t.num hk hw
  exact ⟨ts', hp, h1, (h.regs.mono fun x y hxy => hxy.ext hp).set h2 _, h.effs.mono fun x y hxy => hxy.ext hp, h.time⟩
theorem RS.eff {w : RW} {s : SS} (h : RS ts w s) {e : SE} {k : REff} (he : RE ts e k) : RS ts (w.eff k) (s.eff e) := ⟨h.t, h.regs, h.effs.snoc he, h.time⟩
theorem RS.tick {w : RW} {s : SS} (h : RS ts w s) : RS ts w.tick s.tick := ⟨h.t, h.regs, h.effs, by show w.time + 1 = s.time + 1; rw [h.time]⟩
theorem RS.get {w : RW} {s : SS} (h : RS ts w s) (t : Tac) {e : SE} {k : REff} (he : RE ts e k) : ∃ ts', ts <+: ts' ∧ RS ts' (w.get t k) (s.get t e) := by
  have h1 : RS ts (w.eff k) (s.eff e) := h.eff he
  have := h1.put t.d (t := .unk s.effs.length) (k := runkV w.out.length) (by show _ = _; rw [h.effs.len]) (fun n e => by cases e)
  exact this
theorem RS.risky {w : RW} {s : SS} (h : RS ts w s) {t : Tac} (hb : 0 ≤ t.b ∧ t.b < s.regs.length) : rrisky w t = trisky t.k (tget s.regs t.b) := by
  unfold rrisky trisky
  congr 1
  rcases h.t.cst (h.at hb) with ⟨c, h1, h2, h3⟩ | ⟨h1, h2⟩
  · rw [h1, h3]; simp [Tm.isZero]
  · rw [h2]
    cases e : tget s.regs t.b with
    | cst c => exact absurd e (h1 c)
    | _ => rfl
theorem RS.apply {w : RW} {s : SS} (h : RS ts w s) {t : Tac} (ha : 0 ≤ t.a ∧ t.a < s.regs.length) (hb : 0 ≤ t.b ∧ t.b < s.regs.length) :
    RK ts (tfold t.k (tget s.regs t.a) (tget s.regs t.b)) (rapplyV w t) ∧ ∀ n, tfold t.k (tget s.regs t.a) (tget s.regs t.b) = .cst n → isW n := by
  have hna := h.at ha
  have hnb := h.at hb
  have hr := h.risky hb
  have hop : ∀ x y : Tm, RN ts x (rget w.regs t.a) → RN ts y (rget w.regs t.b) → RK ts (.op t.k x y) ⟨3, t.k, rget w.regs t.a, rget w.regs t.b, 0, 0, 0, 0, 0⟩ := fun x y h1 h2 => ⟨_, _, h1, h2, rfl⟩
  rcases h.t.cst hna with ⟨c, h1, h2, h3⟩ | ⟨h1, h2⟩
  · rcases h.t.cst hnb with ⟨d, g1, g2, g3⟩ | ⟨g1, g2⟩
    · rw [g1] at hr
      rw [h1] at hna ⊢
      rw [g1] at hnb ⊢
      cases hk : trisky t.k (.cst d) with
      | true =>
        rw [hk] at hr
        rw [rapplyV_o (by unfold rfold; rw [hr]; simp)]
        simp only [tfold, hk, cond_true]
        exact ⟨hop _ _ hna hnb, fun n e => by cases e⟩
      | false =>
        rw [hk] at hr
        rw [rapplyV_c (by unfold rfold; rw [hr, h3, g3]; rfl), h3, g3]
        simp only [tfold, hk, cond_false]
        exact ⟨rfl, fun n e => by cases e; exact wapp_word h2 g2⟩
    · rw [rapplyV_o (by unfold rfold; rw [g2]; simp)]
      rw [h1] at hna ⊢
      cases e2 : tget s.regs t.b with
      | cst d => exact absurd e2 (g1 d)
      | _ => rw [e2] at hnb; exact ⟨hop _ _ hna hnb, fun n e => by cases e⟩
  · rw [rapplyV_o (by unfold rfold; rw [h2]; rfl)]
    cases e1 : tget s.regs t.a with
    | cst d => exact absurd e1 (h1 d)
    | _ => rw [e1] at hna; exact ⟨hop _ _ hna hnb, fun n e => by cases e⟩
theorem RS.step {w : RW} {s : SS} (h : RS ts w s) {t : Tac} (ht : TacT t R) (hl : s.regs.length = R) : ∃ ts', ts <+: ts' ∧ RS ts' (w.step t) (s.step t) := by
  have ha : use1 t.op = true ∨ use2 t.op = true → 0 ≤ t.a ∧ t.a < s.regs.length := fun e => by rw [hl]; exact ht.a e
  have hb : use2 t.op = true → 0 ≤ t.b ∧ t.b < s.regs.length := fun e => by rw [hl]; exact ht.b e
  have h10 : t.op = 1 ∨ t.op = 2 ∨ t.op = 3 ∨ t.op = 4 ∨ t.op = 5 ∨ t.op = 6 ∨ t.op = 7 ∨ t.op = 8 ∨ t.op = 9 ∨ t.op = 10 := by have := ht.op; omega
  rcases h10 with ho | ho | ho | ho | ho | ho | ho | ho | ho | ho
  · rw [rstep1 ho, show s.step t = s.put t.d (.cst t.n) by unfold SS.step; rw [ho]; rfl]
    exact h.put t.d rfl (fun n e => by cases e; exact ht.n)
  · rw [rstep2 ho, show s.step t = s.put t.d (tget s.regs t.a) by unfold SS.step; rw [ho]; rfl]
    exact ⟨ts, List.prefix_rfl, h.t, h.regs.set (h.at (ha (.inl (by rw [ho]; rfl)))) _, h.effs, h.time⟩
  · rw [rstep3 ho, show s.step t = s.bin t by unfold SS.step; rw [ho]; rfl]
    have ha' := ha (.inr (by rw [ho]; rfl))
    have hb' := hb (by rw [ho]; rfl)
    obtain ⟨hk2, hk3⟩ := h.apply ha' hb'
    have hr := h.risky hb'
    have h1 : RS ts (w.div t) (s.div t) := by
      unfold RW.div SS.div
      rw [hr]
      cases trisky t.k (tget s.regs t.b) with
      | true => exact h.eff ⟨_, _, h.at ha', h.at hb', by rw [ho]⟩
      | false => exact h
    have := h1.put t.d hk2 hk3
    rw [rdiv_L] at this
    exact this
  · rw [rstep4 ho, show s.step t = s.put t.d (.ld t.base s.time) by unfold SS.step; rw [ho]; rfl]
    exact h.put t.d (by show _ = _; rw [h.time]) (fun n e => by cases e)
  · rw [rstep5 ho, show s.step t = (s.eff ⟨false, 5, 0, t.base, 0, some (tget s.regs t.a), none⟩).tick by unfold SS.step; rw [ho]; rfl]
    exact ⟨ts, List.prefix_rfl, RS.tick (h.eff ⟨_, _, h.at (ha (.inl (by rw [ho]; rfl))), rfl, by rw [ho]⟩)⟩
  · rw [rstep6 ho, show s.step t = s.get t ⟨false, 6, 0, t.base, t.size, some (tget s.regs t.a), none⟩ by unfold SS.step; rw [ho]; rfl]
    exact h.get t ⟨_, _, h.at (ha (.inl (by rw [ho]; rfl))), rfl, by rw [ho]⟩
  · rw [rstep7 ho, show s.step t = (s.eff ⟨false, 7, 0, t.base, t.size, some (tget s.regs t.a), some (tget s.regs t.b)⟩).tick by unfold SS.step; rw [ho]; rfl]
    exact ⟨ts, List.prefix_rfl, RS.tick (h.eff ⟨_, _, h.at (ha (.inr (by rw [ho]; rfl))), h.at (hb (by rw [ho]; rfl)), by rw [ho]⟩)⟩
  · rw [rstep8 ho, show s.step t = s.get t ⟨false, 8, 0, 0, 0, none, none⟩ by unfold SS.step; rw [ho]; rfl]
    exact h.get t ⟨_, _, rfl, rfl, by rw [ho]⟩
  · rw [rstep9 ho, show s.step t = s.eff ⟨false, 9, 0, 0, 0, some (tget s.regs t.a), none⟩ by unfold SS.step; rw [ho]; rfl]
    exact ⟨ts, List.prefix_rfl, h.eff ⟨_, _, h.at (ha (.inl (by rw [ho]; rfl))), rfl, by rw [ho]⟩⟩
  · have hn : ∀ k : Int, k ≠ 10 → (t.op == k) = false := fun k hk => by rw [ho]; simpa using Ne.symm hk
    rw [rstep0 (hn 1 (by decide)) (hn 2 (by decide)) (hn 3 (by decide)) (hn 4 (by decide)) (hn 5 (by decide)) (hn 6 (by decide)) (hn 7 (by decide)) (hn 8 (by decide)) (hn 9 (by decide)), show s.step t = (s.eff ⟨false, 10, 0, t.base, 0, none, none⟩).tick by unfold SS.step; rw [ho]; rfl]
    exact ⟨ts, List.prefix_rfl, RS.tick (h.eff ⟨_, _, rfl, rfl, by rw [ho]⟩)⟩
theorem RS.fold {l : List Tac} (hl : ∀ t ∈ l, TacT t R) : ∀ {ts : List Tm} {w : RW} {s : SS}, RS ts w s → s.regs.length = R → ∃ ts', ts <+: ts' ∧ RS ts' (l.foldl RW.step w) (l.foldl SS.step s) := by
  induction l with
  | nil => exact fun h _ => ⟨_, List.prefix_rfl, h⟩
  | cons t l ih =>
    intro ts w s h hr
    obtain ⟨ts1, hp1, h1⟩ := h.step (hl t (by simp)) hr
    obtain ⟨ts2, hp2, h2⟩ := ih (fun u hu => hl u (by simp [hu])) h1 ((s.step_len t).trans hr)
    exact ⟨ts2, hp1.trans hp2, h2⟩
theorem RE.uniq (hK : ts.Nodup) {e : SE} {k k' : REff} (h1 : RE ts e k) (h2 : RE ts e k') : k = k' := by
  obtain ⟨x, y, a1, a2, a3⟩ := h1
  obtain ⟨x', y', b1, b2, b3⟩ := h2
  have hu : ∀ {o : Option Tm} {n m : Int}, RO ts o n → RO ts o m → n = m := fun {o n m} g1 g2 => by
    cases o with
    | none => exact g1.trans g2.symm
    | some t => exact RN.uniq hK g1 g2
  rw [a3, b3, hu a1 b1, hu a2 b2]
theorem RE.inj {e e' : SE} {k : REff} (hw : e.wf) (hw' : e'.wf) (h1 : RE ts e k) (h2 : RE ts e' k) : e = e' := by
  obtain ⟨x, y, a1, a2, a3⟩ := h1
  obtain ⟨x', y', b1, b2, b3⟩ := h2
  have hso : ∀ {o o' : Option Tm} {n : Int}, o.isSome → o'.isSome → RO ts o n → RO ts o' n → o = o' := fun {o o' n} g1 g2 g3 g4 => by
    cases o with
    | none => cases g1
    | some t => cases o' with
      | none => cases g2
      | some s => rw [RN.inj (ts := ts) g3 g4]
  obtain ⟨r, o, k1, ba, si, oa, ob⟩ := e
  obtain ⟨r', o', k1', ba', si', oa', ob'⟩ := e'
  have h3 := a3.symm.trans b3
  simp only [REff.mk.injEq] at h3
  obtain ⟨e1, e2, e3, e4, e5, e6⟩ := h3
  subst e1; subst e2; subst e3; subst e4; subst e5; subst e6
  have hfin : r = r' → oa = oa' → ob = ob' → (⟨r, o, k1, ba, si, oa, ob⟩ : SE) = ⟨r', o, k1, ba, si, oa', ob'⟩ := fun q0 q1 q2 => by rw [q0, q1, q2]
  rcases hw with ⟨w1, w2, w3, w4, w5, w6⟩ | ⟨w1, w0, w2⟩ <;> rcases hw' with ⟨v1, v2, v3, v4, v5, v6⟩ | ⟨v1, v0, v2⟩ <;> simp only at *
  · exact hfin (w1.trans v1.symm) (hso w5 v5 a1 b1) (hso w6 v6 a2 b2)
  · rcases v2 with v2 | v2 | v2 | v2 | v2 | v2 <;> (exfalso; have := v2.1; omega)
  · rcases w2 with w2 | w2 | w2 | w2 | w2 | w2 <;> (exfalso; have := w2.1; omega)
  · have hr := w1.trans v1.symm
    rcases w2 with ⟨u1, u2, u3, u4⟩ | ⟨u1, u3, u4⟩ | ⟨u1, u3, u4⟩ | ⟨u1, u2, u5, u3, u4⟩ | ⟨u1, u2, u5, u3, u4⟩ | ⟨u1, u2, u3, u4⟩ <;>
      rcases v2 with ⟨q1, q2, q3, q4⟩ | ⟨q1, q3, q4⟩ | ⟨q1, q3, q4⟩ | ⟨q1, q2, q5, q3, q4⟩ | ⟨q1, q2, q5, q3, q4⟩ | ⟨q1, q2, q3, q4⟩ <;> first
        | (exfalso; omega)
        | exact hfin hr (hso u3 q3 a1 b1) (u4.trans q4.symm)
        | exact hfin hr (hso u3 q3 a1 b1) (hso u4 q4 a2 b2)
        | exact hfin hr (u3.trans q3.symm) (u4.trans q4.symm)
theorem rinit_t (row : List Bool) : ∀ k, ∃ ts, RT ts (rinit row k).L ∧ All2 (RN ts) ((List.range k).map Tm.old) (rinit row k).xs ∧ All2 (RN ts) ((List.range k).map (sideT row)) (rinit row k).ys
  | 0 => ⟨[], ⟨List.nodup_nil, rfl, fun i t k h => by simp at h, fun n h => by simp at h⟩, trivial, trivial⟩
  | k + 1 => by
    obtain ⟨ts, h1, h2, h3⟩ := rinit_t row k
    obtain ⟨ts1, p1, g1, g2⟩ := h1.num (t := .old k) (k := RVal.reg k 0) rfl (fun n e => by cases e)
    have hk2 : RK ts1 (sideT row k) (RVal.reg k (sideR row k)) := by
      unfold sideT sideR
      cases (row[k]?).getD false <;> rfl
    obtain ⟨ts2, p2, g3, g4⟩ := g1.num (t := sideT row k) (k := RVal.reg k (sideR row k)) hk2 (fun n e => by
      unfold sideT at e
      revert e
      cases (row[k]?).getD false <;> (intro e; cases e))
    refine ⟨ts2, g3, ?_, ?_⟩
    · rw [List.range_succ, List.map_append]
      exact (h2.mono fun x y h => (h.ext p1).ext p2).snoc (g2.ext p2)
    · rw [List.range_succ, List.map_append]
      exact (h3.mono fun x y h => (h.ext p1).ext p2).snoc g4
end
theorem rsame_t {R : Nat} {old new : Block} {c : Cert} {i : Int} {next : List Int} (ho : ∀ t ∈ old.ins, TacT t R) (hn : ∀ t ∈ new.ins, TacT t R) (hc : ∀ r ∈ c.same, r.length = R) (hnx : ∀ k ∈ next, 0 ≤ k ∧ k < c.same.length) (hv : old.fin = 2 → (0 ≤ old.v ∧ old.v < R) ∧ (0 ≤ new.v ∧ new.v < R)) :
    rsame R old new c i next = tsame R old new c i next := by
  obtain ⟨ts0, q1, q2, q3⟩ := rinit_t (c.at' i) R
  have h0 : RS ts0 ⟨(rinit (c.at' i) R).L, (rinit (c.at' i) R).xs, [], 0⟩ ⟨symR R, [], 0⟩ := ⟨q1, q2, trivial, rfl⟩
  obtain ⟨ts1, hp1, h1⟩ := RS.fold ho h0 (symR_len R)
  have h2 : RS ts1 ⟨(rrunA R (c.at' i) old).L, (rinit (c.at' i) R).ys, [], 0⟩ ⟨symO R (c.at' i), [], 0⟩ := ⟨h1.t, q3.mono fun x y h => h.ext hp1, trivial, rfl⟩
  obtain ⟨ts2, hp2, h3⟩ := RS.fold hn h2 (symO_len R _)
  have hA1 : All2 (RN ts2) (srun (symR R) old.ins).regs (rrunA R (c.at' i) old).vw.vals := h1.regs.mono fun x y h => h.ext hp2
  have hA2 : All2 (RE ts2) (srun (symR R) old.ins).effs (rrunA R (c.at' i) old).out := h1.effs.mono fun x y h => h.ext hp2
  have hB1 : All2 (RN ts2) (srun (symO R (c.at' i)) new.ins).regs (rrunB R (c.at' i) old new).vw.vals := h3.regs
  have hB2 : All2 (RE ts2) (srun (symO R (c.at' i)) new.ins).effs (rrunB R (c.at' i) old new).out := h3.effs
  have lA := (srun_len (symR R) old.ins).trans (symR_len R)
  have lB := (srun_len (symO R (c.at' i)) new.ins).trans (symO_len R _)
  have hu : ∀ t n m, RN ts2 t n → RN ts2 t m → n = m := fun t n m a b => RN.uniq h3.t.nd a b
  have hi : ∀ t s n, RN ts2 t n → RN ts2 s n → t = s := fun t s n a b => RN.inj a b
  unfold rsame tsame
  congr 1
  · exact decide_eq_decide.2 (All2.iff (r := RE ts2) (r' := RE ts2) (p := SE.wf) (q := SE.wf) (fun e k k' _ a b => RE.uniq h3.t.nd a b) (fun e e' k p q a b => RE.inj p q a b) (srun_wf _ _) (srun_wf _ _) hA2 hB2)
  congr 1
  · by_cases hf : old.fin = 2
    · rw [show (rget (rrunA R (c.at' i) old).regs old.v == rget (rrunB R (c.at' i) old new).regs new.v) = _ from agree_eq (α := Unit) (R := R) hu hi hA1 hB1 lA lB (hv hf).1 (hv hf).2]
    · rw [show (old.fin == 2) = false by simpa using hf]; rfl
  · refine all_cong fun k hk => ?_
    have hkr := hnx k hk
    have hrow : (c.at' k).length = R := by
      obtain ⟨r, hr⟩ := get_of_lt (l := c.same) (k := k.toNat) (by omega)
      unfold Cert.at'
      rw [hr]
      exact hc r (List.mem_of_getElem? hr)
    exact vagree_t (R := R) hu hi hA1 hB1 lA lB hrow
theorem callOk_eq {t : Tac} (h : t.callOk = true) (h10 : t.op = 10) : t = callTac t.base ∧ 0 ≤ t.base := by
  unfold Tac.callOk at h
  rw [show (t.op != 10) = false by simp [h10], Bool.false_or, Bool.and_eq_true, decide_eq_true_eq] at h
  exact ⟨(Tac.same_iff _ _).1 h.2, h.1⟩
theorem stands_tact {f : BFunc} (h : f.stands = true) {x : Block} (hx : x ∈ f.blocks) {t : Tac} (ht : t ∈ x.ins) (hn : isW t.n) : TacT t f.regs.toNat := by
  have hS := stands_of h
  have hv := hS.tacs x hx t ht hn
  unfold BFunc.stands at h
  rw [Bool.and_eq_true] at h
  obtain ⟨h1, h2⟩ := h
  by_cases h10 : t.op = 10
  · have hok := List.all_eq_true.1 (List.all_eq_true.1 h1 x hx) t ht
    obtain ⟨e, _⟩ := callOk_eq hok h10
    exact ⟨hv, ⟨by omega, by omega⟩, fun e3 => by omega, by rw [e]; rfl⟩
  · simp only [Blocks.right, Bool.and_eq_true, decide_eq_true_eq, List.all_eq_true] at h2
    have h3 := h2.2.2.2 (f.bare, 0) (by simp)
    simp only [BFunc.one, Bool.and_eq_true, List.all_eq_true, BFunc.bare] at h3
    have h4 := h3.2.2.2 x.bare (List.mem_map.2 ⟨x, hx, rfl⟩)
    unfold Block.ok at h4
    rw [Bool.and_eq_true, List.all_eq_true] at h4
    have hf := h4.2 t (List.mem_filter.2 ⟨ht, by simpa using h10⟩)
    simp only [Tac.fits, Bool.and_eq_true, decide_eq_true_eq] at hf
    obtain ⟨f1, f2, f3, f4, f5, f6⟩ := hf
    refine ⟨hv, ⟨f1, f2⟩, fun e3 => ?_, (Tac.same_iff _ _).1 f6⟩
    unfold Tac.rest at f5
    rw [show (t.op == 3) = true by simp [e3]] at f5
    simpa using f5
def tblocks (old new : BFunc) (c : Cert) : Bool := (old.blocks.zip new.blocks).zipIdx.all fun p => tsame old.regs.toNat p.1.1 p.1.2 c (p.2 : Int) p.1.1.nexts
def tcheck (old new : BFunc) (c : Cert) : Bool := vshaped old new && (decide (c.same.length = old.blocks.length) && ((c.same.all fun r => decide ((r.length : Int) = old.regs)) && tblocks old new c))
def BFunc.words (f : BFunc) : Prop := ∀ x ∈ f.blocks, insW x.ins
theorem checks_t {old new : BFunc} {c : Cert} (ho : old.words) (hn : new.words) : vcheck old new c = tcheck old new c ∧ rcheck old new c = tcheck old new c := by
  unfold vcheck rcheck tcheck
  cases hs : vshaped old new with
  | false => exact ⟨rfl, rfl⟩
  | true =>
    have hV := vshaped_of hs
    have hSo := stands_of hV.so
    have hSn := stands_of hV.sn
    simp only [Bool.true_and]
    by_cases h1 : c.same.length = old.blocks.length
    · by_cases h2 : (c.same.all fun r => decide ((r.length : Int) = old.regs)) = true
      · have hR : ((old.regs.toNat : Nat) : Int) = old.regs := Int.toNat_of_nonneg hSo.r0
        have hc : ∀ r ∈ c.same, r.length = old.regs.toNat := fun r hr => by
          have := List.all_eq_true.1 h2 r hr
          simp only [decide_eq_true_eq] at this; omega
        have key : ∀ (p : (Block × Block) × Nat), p ∈ (old.blocks.zip new.blocks).zipIdx → (∀ t ∈ p.1.1.ins, TacT t old.regs.toNat) ∧ (∀ t ∈ p.1.2.ins, TacT t old.regs.toNat) ∧ (∀ k ∈ p.1.1.nexts, 0 ≤ k ∧ k < c.same.length) ∧ (p.1.1.fin = 2 → (0 ≤ p.1.1.v ∧ p.1.1.v < old.regs.toNat) ∧ (0 ≤ p.1.2.v ∧ p.1.2.v < old.regs.toNat)) := by
          rintro ⟨⟨x, y⟩, i⟩ hp
          obtain ⟨j, hj⟩ := List.mem_iff_getElem?.1 hp
          rw [List.getElem?_zipIdx, Option.map_eq_some_iff] at hj
          obtain ⟨q, hq, e⟩ := hj
          obtain ⟨x', y'⟩ := q
          simp only [Nat.zero_add, Prod.mk.injEq] at e
          obtain ⟨⟨rfl, rfl⟩, rfl⟩ := e
          rw [List.getElem?_zip_eq_some] at hq
          obtain ⟨hx, hy⟩ := hq
          have hxm := List.mem_of_getElem? hx
          have hym := List.mem_of_getElem? hy
          have hb := hV.b j x' y' hx hy
          refine ⟨fun t ht => stands_tact hV.so hxm ht (ho x' hxm t ht), fun t ht => ?_, fun k hk => ?_, fun hf => ?_⟩
          · rw [hV.regs]; exact stands_tact hV.sn hym ht (hn y' hym t ht)
          · rw [h1]; exact hSo.next x' hxm k hk
          · dsimp only at hf ⊢
            rw [hR]
            refine ⟨hSo.v x' hxm hf, ?_⟩
            rw [hV.regs]; exact hSn.v y' hym (by rw [← hb.1]; exact hf)
        constructor
        · congr 2
          unfold vblocks tblocks
          refine all_cong fun p hp => ?_
          obtain ⟨k1, k2, k3, k4⟩ := key p hp
          exact vsame_t k1 k2 hc k3 k4
        · unfold rsized
          rw [Bool.and_assoc]
          congr 2
          unfold rblocks tblocks
          refine all_cong fun p hp => ?_
          obtain ⟨k1, k2, k3, k4⟩ := key p hp
          exact rsame_t k1 k2 hc k3 k4
      · have h2' : (c.same.all fun r => decide ((r.length : Int) = old.regs)) = false := by simpa using h2
        unfold rsized
        rw [h2']
        simp
    · unfold rsized
      rw [decide_eq_false h1]
      exact ⟨rfl, rfl⟩
structure Cert.Ok (c : Cert) : Prop where
  len : c.same.length * 24 ≤ reachBytes
  rows : ∀ r ∈ c.same, r.length * 1 ≤ reachBytes
def Tm.ren (row : List Bool) : Tm → Tm
  | .old v => sideT row v
  | .own v => .own v
  | .cst n => .cst n
  | .op k a b => .op k (a.ren row) (b.ren row)
  | .ld b τ => .ld b τ
  | .unk n => .unk n
def Tm.pure (R : Nat) : Tm → Prop
  | .old v => v < R
  | .own _ => False
  | .op _ a b => a.pure R ∧ b.pure R
  | _ => True
def Tm.inR (row : List Bool) : Tm → Prop
  | .old v => row[v]? = some true
  | .own _ => False
  | .op _ a b => a.inR row ∧ b.inR row
  | _ => True
theorem Tm.ren_iff {R : Nat} {row : List Bool} (hr : row.length = R) : ∀ {t s : Tm}, t.pure R → s.pure R → (s = t.ren row ↔ s = t ∧ t.inR row)
  | .old v, s, ht, hs => by
    have hv : v < row.length := by rw [hr]; exact ht
    obtain ⟨b, hb⟩ := get_of_lt hv
    have e : (Tm.old v).ren row = sideT row v := rfl
    have hi : (Tm.old v).inR row ↔ row[v]? = some true := Iff.rfl
    rw [e, hi, hb]
    unfold sideT
    rw [hb]
    cases b with
    | true => simp
    | false =>
      simp only [Option.getD_some, cond_false, Option.some.injEq, Bool.false_eq_true, and_false, iff_false]
      intro h; subst h; exact hs.elim
  | .own v, s, ht, hs => ht.elim
  | .cst n, s, ht, hs => by simp [Tm.ren, Tm.inR]
  | .ld b τ, s, ht, hs => by simp [Tm.ren, Tm.inR]
  | .unk n, s, ht, hs => by simp [Tm.ren, Tm.inR]
  | .op k a b, s, ht, hs => by
    constructor
    · intro h
      cases s with
      | op k' a' b' =>
        simp only [Tm.ren, Tm.op.injEq] at h
        obtain ⟨h1, h2, h3⟩ := h
        obtain ⟨g1, g2⟩ := (Tm.ren_iff hr ht.1 hs.1).1 h2
        obtain ⟨g3, g4⟩ := (Tm.ren_iff hr ht.2 hs.2).1 h3
        exact ⟨by rw [h1, g1, g3], g2, g4⟩
      | _ => simp [Tm.ren] at h
    · rintro ⟨rfl, h1, h2⟩
      simp only [Tm.ren, Tm.op.injEq, true_and]
      exact ⟨(Tm.ren_iff hr ht.1 ht.1).2 ⟨rfl, h1⟩, (Tm.ren_iff hr ht.2 ht.2).2 ⟨rfl, h2⟩⟩
def oren (row : List Bool) : Option Tm → Option Tm := Option.map (Tm.ren row)
def SE.ren (row : List Bool) (e : SE) : SE := { e with a := oren row e.a, b := oren row e.b }
def opure (R : Nat) : Option Tm → Prop
  | none => True
  | some t => t.pure R
def oinR (row : List Bool) : Option Tm → Prop
  | none => True
  | some t => t.inR row
def SE.pure (R : Nat) (e : SE) : Prop := opure R e.a ∧ opure R e.b
def SE.inR (row : List Bool) (e : SE) : Prop := oinR row e.a ∧ oinR row e.b
theorem oren_iff {R : Nat} {row : List Bool} (hr : row.length = R) {t s : Option Tm} (ht : opure R t) (hs : opure R s) : s = oren row t ↔ s = t ∧ oinR row t := by
  cases t with
  | none => simp [oren, oinR]
  | some t =>
    cases s with
    | none => simp [oren]
    | some s =>
      simp only [oren, Option.map_some, Option.some.injEq]
      exact Tm.ren_iff hr ht hs
theorem SE.ren_iff {R : Nat} {row : List Bool} (hr : row.length = R) {e f : SE} (he : e.pure R) (hf : f.pure R) : f = e.ren row ↔ f = e ∧ e.inR row := by
  have h1 := oren_iff hr he.1 hf.1
  have h2 := oren_iff hr he.2 hf.2
  cases e with
  | mk r o k ba si a b =>
    cases f with
    | mk r' o' k' ba' si' a' b' =>
      simp only [SE.ren, SE.mk.injEq, SE.inR] at h1 h2 ⊢
      rw [h1, h2]
      constructor
      · rintro ⟨e1, e2, e3, e4, e5, ⟨e6, e7⟩, e8, e9⟩; exact ⟨⟨e1, e2, e3, e4, e5, e6, e8⟩, e7, e9⟩
      · rintro ⟨⟨e1, e2, e3, e4, e5, e6, e8⟩, e7, e9⟩; exact ⟨e1, e2, e3, e4, e5, ⟨e6, e7⟩, e8, e9⟩
theorem effs_ren {R : Nat} {row : List Bool} (hr : row.length = R) : ∀ {l m : List SE}, (∀ e ∈ l, e.pure R) → (∀ e ∈ m, e.pure R) → (l = m.map (SE.ren row) ↔ l = m ∧ ∀ e ∈ m, e.inR row)
  | [], [], _, _ => by simp
  | [], e :: m, _, _ => by simp
  | f :: l, [], _, _ => by simp
  | f :: l, e :: m, hl, hm => by
    have ih := effs_ren hr (l := l) (m := m) (fun x hx => hl x (by simp [hx])) (fun x hx => hm x (by simp [hx]))
    have h1 := SE.ren_iff hr (hm e (by simp)) (hl f (by simp))
    simp only [List.map_cons, List.cons.injEq, h1, ih, List.mem_cons, forall_eq_or_imp]
    constructor
    · rintro ⟨⟨e1, e2⟩, e3, e4⟩; exact ⟨⟨e1, e3⟩, e2, e4⟩
    · rintro ⟨⟨e1, e3⟩, e2, e4⟩; exact ⟨⟨e1, e2⟩, e3, e4⟩
def SS.ren (row : List Bool) (s : SS) : SS := ⟨s.regs.map (Tm.ren row), s.effs.map (SE.ren row), s.time⟩
structure SS.pure (R : Nat) (s : SS) : Prop where
  regs : ∀ t ∈ s.regs, t.pure R
  effs : ∀ e ∈ s.effs, e.pure R
theorem tget_ren (row : List Bool) (l : List Tm) (z : Int) : tget (l.map (Tm.ren row)) z = (tget l z).ren row := by
  unfold tget
  rw [List.getElem?_map]
  cases l[z.toNat]? <;> rfl
theorem tset_ren (row : List Bool) (l : List Tm) (z : Int) (t : Tm) : tset (l.map (Tm.ren row)) z (t.ren row) = (tset l z t).map (Tm.ren row) := by
  unfold tset; rw [List.map_set]
theorem side_cases (row : List Bool) (v : Nat) : sideT row v = .old v ∨ sideT row v = .own v := by
  unfold sideT; cases (row[v]?).getD false <;> simp
theorem Tm.isZero_ren (row : List Bool) (t : Tm) : (t.ren row).isZero = t.isZero := by
  cases t with
  | old v => rcases side_cases row v with h | h <;> (show (sideT row v).isZero = true; rw [h]; rfl)
  | _ => rfl
theorem tfold_ren (row : List Bool) (k : Int) (a b : Tm) : tfold k (a.ren row) (b.ren row) = (tfold k a b).ren row := by
  have hop : ∀ x y : Tm, (∀ n, x ≠ .cst n) ∨ (∀ n, y ≠ .cst n) → tfold k x y = .op k x y := fun x y h => by
    cases x <;> cases y <;> first | rfl | (exfalso; rcases h with h | h <;> exact h _ rfl)
  have hne : ∀ t : Tm, (∀ n, t ≠ .cst n) → ∀ n, t.ren row ≠ .cst n := fun t h n e => by
    cases t with
    | old v => rcases side_cases row v with g | g <;> (rw [show (Tm.old v).ren row = sideT row v from rfl, g] at e; cases e)
    | cst m => exact h m rfl
    | _ => cases e
  by_cases ha : ∃ x, a = .cst x
  · obtain ⟨x, rfl⟩ := ha
    by_cases hb : ∃ y, b = .cst y
    · obtain ⟨y, rfl⟩ := hb
      show tfold k (.cst x) (.cst y) = _
      simp only [tfold]
      cases trisky k (.cst y) <;> rfl
    · have hb' : ∀ n, b ≠ .cst n := fun n e => hb ⟨n, e⟩
      rw [hop _ _ (.inr hb'), hop _ _ (.inr (hne b hb'))]; rfl
  · have ha' : ∀ n, a ≠ .cst n := fun n e => ha ⟨n, e⟩
    rw [hop _ _ (.inl ha'), hop _ _ (.inl (hne a ha'))]; rfl
theorem trisky_ren (row : List Bool) (k : Int) (b : Tm) : trisky k (b.ren row) = trisky k b := by unfold trisky; rw [Tm.isZero_ren]
theorem SS.put_ren (row : List Bool) (s : SS) (z : Int) (t : Tm) : (s.ren row).put z (t.ren row) = (s.put z t).ren row := by
  simp only [SS.put, SS.ren, tset_ren]
theorem SS.eff_ren (row : List Bool) (s : SS) (e : SE) : (s.ren row).eff (e.ren row) = (s.eff e).ren row := by
  simp [SS.eff, SS.ren]
theorem SS.get_ren (row : List Bool) (s : SS) (t : Tac) (e : SE) : (s.ren row).get t (e.ren row) = (s.get t e).ren row := by
  unfold SS.get
  rw [SS.eff_ren, ← SS.put_ren]
  simp [SS.ren, Tm.ren]
theorem SS.step_ren (row : List Bool) (s : SS) (t : Tac) : (s.ren row).step t = (s.step t).ren row := by
  have hg : ∀ z, tget (s.ren row).regs z = (tget s.regs z).ren row := fun z => tget_ren row s.regs z
  unfold SS.step
  cases t.op == 1 with
  | true => exact SS.put_ren row s t.d (.cst t.n)
  | false =>
  cases t.op == 2 with
  | true => simp only [cond_true, cond_false]; rw [hg]; exact SS.put_ren row s t.d _
  | false =>
  cases t.op == 3 with
  | true =>
    simp only [cond_true, cond_false]
    unfold SS.bin
    have hd : (s.ren row).div t = (s.div t).ren row := by
      unfold SS.div
      rw [hg, hg, trisky_ren]
      cases trisky t.k (tget s.regs t.b) with
      | true => exact SS.eff_ren row s ⟨true, 3, t.k, 0, 0, some (tget s.regs t.a), some (tget s.regs t.b)⟩
      | false => rfl
    rw [hd, hg, hg, tfold_ren]
    exact SS.put_ren row (s.div t) t.d _
  | false =>
  cases t.op == 4 with
  | true => exact SS.put_ren row s t.d (.ld t.base s.time)
  | false =>
  cases t.op == 5 with
  | true =>
    simp only [cond_true, cond_false]
    rw [hg]
    exact congrArg SS.tick (SS.eff_ren row s ⟨false, 5, 0, t.base, 0, some (tget s.regs t.a), none⟩)
  | false =>
  cases t.op == 6 with
  | true =>
    simp only [cond_true, cond_false]
    rw [hg]
    exact SS.get_ren row s t ⟨false, 6, 0, t.base, t.size, some (tget s.regs t.a), none⟩
  | false =>
  cases t.op == 7 with
  | true =>
    simp only [cond_true, cond_false]
    rw [hg, hg]
    exact congrArg SS.tick (SS.eff_ren row s ⟨false, 7, 0, t.base, t.size, some (tget s.regs t.a), some (tget s.regs t.b)⟩)
  | false =>
  cases t.op == 8 with
  | true => exact SS.get_ren row s t ⟨false, 8, 0, 0, 0, none, none⟩
  | false =>
  cases t.op == 9 with
  | true =>
    simp only [cond_true, cond_false]
    rw [hg]
    exact SS.eff_ren row s ⟨false, 9, 0, 0, 0, some (tget s.regs t.a), none⟩
  | false => exact congrArg SS.tick (SS.eff_ren row s ⟨false, 10, 0, t.base, 0, none, none⟩)
theorem srun_ren (R : Nat) (row : List Bool) (l : List Tac) : srun (symO R row) l = (srun (symR R) l).ren row := by
  have h0 : (⟨symO R row, [], 0⟩ : SS) = (⟨symR R, [], 0⟩ : SS).ren row := by
    simp [SS.ren, symO, symR, Tm.ren]
  unfold srun
  rw [h0]
  generalize (⟨symR R, [], 0⟩ : SS) = s
  induction l generalizing s with
  | nil => rfl
  | cons t l ih => rw [List.foldl_cons, List.foldl_cons, SS.step_ren, ih]
theorem tget_pure {R : Nat} {l : List Tm} (h : ∀ t ∈ l, t.pure R) (z : Int) : (tget l z).pure R := by
  unfold tget
  cases e : l[z.toNat]? with
  | none => exact trivial
  | some t => exact h t (List.mem_of_getElem? e)
theorem tset_pure {R : Nat} {l : List Tm} (h : ∀ t ∈ l, t.pure R) (z : Int) {t : Tm} (ht : t.pure R) : ∀ x ∈ tset l z t, x.pure R := fun x hx => by
  unfold tset at hx
  rcases List.mem_or_eq_of_mem_set hx with hx | rfl
  · exact h x hx
  · exact ht
theorem tfold_pure {R : Nat} {k : Int} {a b : Tm} (ha : a.pure R) (hb : b.pure R) : (tfold k a b).pure R := by
  have hop : (Tm.op k a b).pure R := ⟨ha, hb⟩
  cases a with
  | cst x =>
    cases b with
    | cst y =>
      simp only [tfold]
      cases trisky k (.cst y) with
      | true => exact hop
      | false => exact trivial
    | _ => exact hop
  | _ => exact hop
theorem SS.pure.put_pure {R : Nat} {s : SS} (h : s.pure R) (z : Int) {t : Tm} (ht : t.pure R) : (s.put z t).pure R := ⟨tset_pure h.regs z ht, h.effs⟩
theorem SS.pure.eff_pure {R : Nat} {s : SS} (h : s.pure R) {e : SE} (he : e.pure R) : (s.eff e).pure R := ⟨h.regs, fun x hx => by
  have hx' : x ∈ s.effs ++ [e] := hx
  simp only [List.mem_append, List.mem_singleton] at hx'
  rcases hx' with hx' | rfl
  · exact h.effs x hx'
  · exact he⟩
theorem SS.pure.step_pure {R : Nat} {s : SS} (h : s.pure R) (t : Tac) : (s.step t).pure R := by
  have hg := fun z => tget_pure h.regs z
  have hp := fun (z : Int) (t : Tm) (ht : t.pure R) => h.put_pure z ht
  unfold SS.step
  cases t.op == 1 with
  | true => exact hp _ (.cst t.n) trivial
  | false =>
  cases t.op == 2 with
  | true => exact hp _ _ (hg _)
  | false =>
  cases t.op == 3 with
  | true =>
    have hd : (s.div t).pure R := by
      unfold SS.div
      cases trisky t.k (tget s.regs t.b) with
      | true => exact h.eff_pure ⟨hg _, hg _⟩
      | false => exact h
    exact hd.put_pure _ (tfold_pure (hg _) (hg _))
  | false =>
  cases t.op == 4 with
  | true => exact hp _ (.ld t.base s.time) trivial
  | false =>
  cases t.op == 5 with
  | true => exact ⟨(h.eff_pure (e := ⟨false, 5, 0, t.base, 0, some (tget s.regs t.a), none⟩) ⟨hg _, trivial⟩).regs, (h.eff_pure (e := ⟨false, 5, 0, t.base, 0, some (tget s.regs t.a), none⟩) ⟨hg _, trivial⟩).effs⟩
  | false =>
  cases t.op == 6 with
  | true => exact (h.eff_pure (e := ⟨false, 6, 0, t.base, t.size, some (tget s.regs t.a), none⟩) ⟨hg _, trivial⟩).put_pure _ (t := .unk s.effs.length) trivial
  | false =>
  cases t.op == 7 with
  | true => exact ⟨(h.eff_pure (e := ⟨false, 7, 0, t.base, t.size, some (tget s.regs t.a), some (tget s.regs t.b)⟩) ⟨hg _, hg _⟩).regs, (h.eff_pure (e := ⟨false, 7, 0, t.base, t.size, some (tget s.regs t.a), some (tget s.regs t.b)⟩) ⟨hg _, hg _⟩).effs⟩
  | false =>
  cases t.op == 8 with
  | true => exact (h.eff_pure (e := ⟨false, 8, 0, 0, 0, none, none⟩) ⟨trivial, trivial⟩).put_pure _ (t := .unk s.effs.length) trivial
  | false =>
  cases t.op == 9 with
  | true => exact h.eff_pure ⟨hg _, trivial⟩
  | false => exact ⟨(h.eff_pure (e := ⟨false, 10, 0, t.base, 0, none, none⟩) ⟨trivial, trivial⟩).regs, (h.eff_pure (e := ⟨false, 10, 0, t.base, 0, none, none⟩) ⟨trivial, trivial⟩).effs⟩
theorem srun_pure (R : Nat) (l : List Tac) : (srun (symR R) l).pure R := by
  unfold srun
  have h0 : (⟨symR R, [], 0⟩ : SS).pure R := ⟨fun t ht => by
    simp only [symR, List.mem_map, List.mem_range] at ht
    obtain ⟨v, hv, rfl⟩ := ht
    exact hv, fun e he => by simp at he⟩
  generalize (⟨symR R, [], 0⟩ : SS) = s at *
  induction l generalizing s with
  | nil => exact h0
  | cons t l ih => exact ih _ (h0.step_pure t)
def gsame (R : Nat) (x y : Block) (c : Cert) (i : Int) (next : List Int) : Prop :=
  (srun (symR R) x.ins).effs = (srun (symR R) y.ins).effs ∧ (∀ e ∈ (srun (symR R) y.ins).effs, e.inR (c.at' i)) ∧
  (x.fin = 2 → tget (srun (symR R) x.ins).regs x.v = tget (srun (symR R) y.ins).regs y.v ∧ (tget (srun (symR R) y.ins).regs y.v).inR (c.at' i)) ∧
  ∀ k ∈ next, ∀ j : Nat, (c.at' k)[j]? = some true → tget (srun (symR R) x.ins).regs (j : Int) = tget (srun (symR R) y.ins).regs (j : Int) ∧ (tget (srun (symR R) y.ins).regs (j : Int)).inR (c.at' i)
theorem tagree_iff {x y : List Tm} {row : List Bool} : tagree x y row = true ↔ ∀ j : Nat, row[j]? = some true → tget x (j : Int) = tget y (j : Int) := by
  unfold tagree
  rw [List.all_eq_true]
  constructor
  · intro h j hb
    have := h (true, j) (List.mem_of_getElem? (zipIdx_get hb))
    simpa using this
  · rintro h ⟨b, j⟩ hp
    obtain ⟨i, hi⟩ := List.mem_iff_getElem?.1 hp
    rw [List.getElem?_zipIdx, Option.map_eq_some_iff] at hi
    obtain ⟨b', hb', e⟩ := hi
    simp only [Nat.zero_add, Prod.mk.injEq] at e
    obtain ⟨rfl, rfl⟩ := e
    cases b' with
    | false => rfl
    | true => simpa using h _ hb'
theorem tsame_iff {R : Nat} {x y : Block} {c : Cert} {i : Int} {next : List Int} (hr : (c.at' i).length = R) : tsame R x y c i next = true ↔ gsame R x y c i next := by
  have hx := srun_pure R x.ins
  have hy := srun_pure R y.ins
  unfold tsame gsame
  rw [srun_ren, Bool.and_eq_true, Bool.and_eq_true, decide_eq_true_eq, List.all_eq_true]
  have h1 : (srun (symR R) x.ins).effs = ((srun (symR R) y.ins).ren (c.at' i)).effs ↔ _ := effs_ren hr hx.effs hy.effs
  rw [h1, and_assoc]
  refine and_congr_right fun _ => and_congr_right fun _ => ?_
  have h2 : ∀ z z', tget (srun (symR R) x.ins).regs z = tget ((srun (symR R) y.ins).ren (c.at' i)).regs z' ↔ tget (srun (symR R) x.ins).regs z = tget (srun (symR R) y.ins).regs z' ∧ (tget (srun (symR R) y.ins).regs z').inR (c.at' i) := fun z z' => by
    rw [show ((srun (symR R) y.ins).ren (c.at' i)).regs = (srun (symR R) y.ins).regs.map (Tm.ren (c.at' i)) from rfl, tget_ren]
    exact Tm.ren_iff hr (tget_pure hy.regs _) (tget_pure hx.regs _)
  refine and_congr ?_ (forall_congr' fun k => imp_congr_right fun _ => ?_)
  · rw [Bool.or_eq_true, decide_eq_true_eq, h2]
    by_cases hf : x.fin = 2
    · simp [hf]
    · simp [hf]
  · rw [tagree_iff]
    exact forall_congr' fun j => imp_congr_right fun _ => h2 _ _
structure GCheck (old new : BFunc) (c : Cert) : Prop where
  sh : vshaped old new = true
  len : c.same.length = old.blocks.length
  rows : ∀ r ∈ c.same, (r.length : Int) = old.regs
  b : ∀ (k : Nat) (x y : Block), old.blocks[k]? = some x → new.blocks[k]? = some y → gsame old.regs.toNat x y c (k : Int) x.nexts
theorem cert_row {c : Cert} {R : Nat} (h : ∀ r ∈ c.same, r.length = R) {k : Int} (hk : 0 ≤ k ∧ k < c.same.length) : (c.at' k).length = R := by
  obtain ⟨r, hr⟩ := get_of_lt (l := c.same) (k := k.toNat) (by omega)
  unfold Cert.at'
  rw [hr]
  exact h r (List.mem_of_getElem? hr)
theorem tcheck_iff {old new : BFunc} {c : Cert} : tcheck old new c = true ↔ GCheck old new c := by
  unfold tcheck
  simp only [Bool.and_eq_true, decide_eq_true_eq, List.all_eq_true]
  have key : vshaped old new = true → c.same.length = old.blocks.length → (∀ r ∈ c.same, (r.length : Int) = old.regs) → ∀ (k : Nat) (x : Block), old.blocks[k]? = some x → (c.at' (k : Int)).length = old.regs.toNat := fun hs hl hr k x hx => by
    have h0 := (stands_of (vshaped_of hs).so).r0
    have hk := (List.getElem?_eq_some_iff.1 hx).1
    exact cert_row (fun r h => by have := hr r h; omega) (by omega)
  constructor
  · rintro ⟨h1, h2, h3, h4⟩
    refine ⟨h1, h2, h3, fun k x y hx hy => ?_⟩
    unfold tblocks at h4
    rw [List.all_eq_true] at h4
    exact (tsame_iff (key h1 h2 h3 k x hx)).1 (h4 ((x, y), k) (List.mem_of_getElem? (zipIdx_get (zip_at hx hy))))
  · rintro ⟨h1, h2, h3, h4⟩
    refine ⟨h1, h2, h3, ?_⟩
    unfold tblocks
    rw [List.all_eq_true]
    rintro ⟨⟨x, y⟩, i⟩ hp
    obtain ⟨j, hj⟩ := List.mem_iff_getElem?.1 hp
    rw [List.getElem?_zipIdx, Option.map_eq_some_iff] at hj
    obtain ⟨q, hq, e⟩ := hj
    obtain ⟨x', y'⟩ := q
    simp only [Nat.zero_add, Prod.mk.injEq] at e
    obtain ⟨⟨rfl, rfl⟩, rfl⟩ := e
    rw [List.getElem?_zip_eq_some] at hq
    exact (tsame_iff (key h1 h2 h3 j x' hq.1)).2 (h4 j x' y' hq.1 hq.2)
theorem vcheck_iff {old new : BFunc} {c : Cert} (ho : old.words) (hn : new.words) : vcheck old new c = true ↔ GCheck old new c := by
  rw [(checks_t ho hn).1]; exact tcheck_iff
structure Mach.Le (m m' : Mach) : Prop where
  words : m'.words = m.words
  out : m'.out = m.out
  read : m'.read = m.read
  fin : m'.fin = m.fin
  steps : m'.steps ≤ m.steps
def Mach.Sim (x y : Mach) : Prop := x.fin = 5 ∨ x.Le y
theorem Mach.Le.trans {x y z : Mach} (h : x.Le y) (h' : y.Le z) : x.Le z := ⟨h'.words.trans h.words, h'.out.trans h.out, h'.read.trans h.read, h'.fin.trans h.fin, Nat.le_trans h'.steps h.steps⟩
theorem Mach.Sim.trans {x y z : Mach} (h : x.Sim y) (h' : y.Sim z) : x.Sim z := by
  rcases h with h | h
  · exact .inl h
  · rcases h' with h' | h'
    · exact .inl (h.fin.symm.trans h')
    · exact .inr (h.trans h')
theorem Mach.Le.refl (m : Mach) : m.Le m := ⟨rfl, rfl, rfl, rfl, Nat.le_refl _⟩
theorem Mach.Le.put {m m' : Mach} (h : m.Le m') (w : List Int) (o : List UInt8) (r : Nat) (f : Int) : Mach.Le ⟨w, o, r, m.steps, f⟩ ⟨w, o, r, m'.steps, f⟩ := ⟨rfl, rfl, rfl, rfl, h.steps⟩
section
variable {call call' : Int → Mach → Mach} {s : ByteArray} {fuel : Int}
theorem mstep_false {m : Mach} (h : (mstep fuel m).1 = false) : (mstep fuel m).2.fin = 5 := by
  unfold mstep at *
  cases e : decide ((m.steps : Int) ≥ fuel) with
  | true => rfl
  | false => rw [e] at h; cases h
def callsSim (call call' : Int → Mach → Mach) (ok : Int → Prop) : Prop := ∀ i m m', ok i → m.fin = 0 → m.Le m' → (call i m).Sim (call' i m')
theorem mone_sim {ok : Int → Prop} (hc : callsSim call call' ok) (t : Tac) (ht : t.op = 10 → ok t.base) (regs : List Int) {m m' : Mach} (h0 : m.fin = 0) (h : m.Le m') :
    (mone call s t regs m).1 = (mone call' s t regs m').1 ∧ (mone call s t regs m).2.Sim (mone call' s t regs m').2 := by
  obtain ⟨w, o, r, st, f⟩ := m
  obtain ⟨w', o', r', st', f'⟩ := m'
  obtain ⟨h1, h2, h3, h4, h5⟩ := h
  simp only at h1 h2 h3 h4 h5
  subst h1; subst h2; subst h3; subst h4
  have hle : ∀ (a : List Int) (b : List UInt8) (c : Nat) (d : Int), Mach.Le ⟨a, b, c, st, d⟩ ⟨a, b, c, st', d⟩ := fun a b c d => ⟨rfl, rfl, rfl, rfl, h5⟩
  unfold mone
  cases t.op == 1 with
  | true => exact ⟨rfl, .inr (hle _ _ _ _)⟩
  | false =>
  cases t.op == 2 with
  | true => exact ⟨rfl, .inr (hle _ _ _ _)⟩
  | false =>
  cases t.op == 3 with
  | true =>
    simp only [cond_true, cond_false]
    cases (wapp t.k (rget regs t.a) (rget regs t.b)).2 == 0 <;> exact ⟨rfl, .inr (hle _ _ _ _)⟩
  | false =>
  cases t.op == 4 with
  | true => exact ⟨rfl, .inr (hle _ _ _ _)⟩
  | false =>
  cases t.op == 5 with
  | true => exact ⟨rfl, .inr (hle _ _ _ _)⟩
  | false =>
  cases t.op == 6 with
  | true =>
    simp only [cond_true, cond_false]
    cases decide (rget regs t.a ≥ t.size) <;> exact ⟨rfl, .inr (hle _ _ _ _)⟩
  | false =>
  cases t.op == 7 with
  | true =>
    simp only [cond_true, cond_false]
    cases decide (rget regs t.a ≥ t.size) <;> exact ⟨rfl, .inr (hle _ _ _ _)⟩
  | false =>
  cases t.op == 8 with
  | true =>
    simp only [cond_true, cond_false]
    cases decide (r' < s.size) <;> exact ⟨rfl, .inr (hle _ _ _ _)⟩
  | false =>
  cases t.op == 9 with
  | true =>
    simp only [cond_true, cond_false]
    cases decide (o'.length ≥ 65536) <;> exact ⟨rfl, .inr (hle _ _ _ _)⟩
  | false =>
  cases h10 : t.op == 10 with
  | true => exact ⟨rfl, hc _ _ _ (ht (by simpa using h10)) h0 (hle _ _ _ _)⟩
  | false => exact ⟨rfl, .inr (hle _ _ _ _)⟩
def insSim (X Y : Bool × List Int × Mach) : Prop := X.1 = false ∧ X.2.2.fin = 5 ∨ X.1 = Y.1 ∧ X.2.1 = Y.2.1 ∧ X.2.2.Le Y.2.2 ∧ (X.1 = true → X.2.2.fin = 0) ∧ (X.1 = false → X.2.2.fin ≠ 0)
def gasOk (fuel : Int) (g : Nat) (m : Mach) : Prop := fuel.toNat < m.steps + g
end
structure Core where
  words : List Int
  out : List UInt8
  read : Nat
  cnt : Nat
def Mach.core (m : Mach) : Core := ⟨m.words, m.out, m.read, m.steps⟩
structure EH where
  mems : List (List Int)
  unks : List Int
  core : Core
def ev (ρ : List Int) (h : EH) : Tm → Int
  | .old v => rget ρ (v : Int)
  | .own _ => 0
  | .cst n => n
  | .op k a b => (wapp k (ev ρ h a) (ev ρ h b)).1
  | .ld b τ => rget ((h.mems[τ.toNat]?).getD []) b
  | .unk n => (h.unks[n]?).getD 0
def oev (ρ : List Int) (h : EH) : Option Tm → Int
  | none => 0
  | some t => ev ρ h t
def Tm.sc (n m : Nat) : Tm → Prop
  | .op _ a b => a.sc n m ∧ b.sc n m
  | .ld _ τ => τ.toNat < m
  | .unk k => k < n
  | _ => True
structure EH.Ext (h h' : EH) : Prop where
  mems : ∃ l, h'.mems = h.mems ++ l
  unks : ∃ l, h'.unks = h.unks ++ l
theorem EH.Ext.refl (h : EH) : h.Ext h := ⟨⟨[], by simp⟩, ⟨[], by simp⟩⟩
theorem Tm.sc_mono {n m n' m' : Nat} (hn : n ≤ n') (hm : m ≤ m') : ∀ {t : Tm}, t.sc n m → t.sc n' m'
  | .op _ a b, h => ⟨Tm.sc_mono hn hm h.1, Tm.sc_mono hn hm h.2⟩
  | .ld _ τ, h => Nat.lt_of_lt_of_le (show τ.toNat < m from h) hm
  | .unk k, h => Nat.lt_of_lt_of_le (show k < n from h) hn
  | .old _, _ => trivial
  | .own _, _ => trivial
  | .cst _, _ => trivial
theorem ev_ext {ρ : List Int} {h h' : EH} (hx : h.Ext h') : ∀ {t : Tm}, t.sc h.unks.length h.mems.length → ev ρ h' t = ev ρ h t
  | .op k a b, hs => by
    show (wapp k (ev ρ h' a) (ev ρ h' b)).1 = _
    rw [ev_ext hx hs.1, ev_ext hx hs.2]; rfl
  | .ld b τ, hs => by
    obtain ⟨l, hl⟩ := hx.mems
    show rget ((h'.mems[τ.toNat]?).getD []) b = rget ((h.mems[τ.toNat]?).getD []) b
    rw [hl, List.getElem?_append_left hs]
  | .unk k, hs => by
    obtain ⟨l, hl⟩ := hx.unks
    show (h'.unks[k]?).getD 0 = (h.unks[k]?).getD 0
    rw [hl, List.getElem?_append_left hs]
  | .old _, _ => rfl
  | .own _, _ => rfl
  | .cst _, _ => rfl
def agreeOn (ρ ρ' : List Int) (row : List Bool) : Prop := ∀ j : Nat, row[j]? = some true → rget ρ (j : Int) = rget ρ' (j : Int)
theorem ev_inR {ρ ρ' : List Int} {h : EH} {row : List Bool} (ha : agreeOn ρ ρ' row) : ∀ {t : Tm}, t.inR row → ev ρ h t = ev ρ' h t
  | .old v, hi => ha v hi
  | .own _, hi => hi.elim
  | .op k a b, hi => by
    show (wapp k (ev ρ h a) (ev ρ h b)).1 = (wapp k (ev ρ' h a) (ev ρ' h b)).1
    rw [ev_inR ha hi.1, ev_inR ha hi.2]
  | .cst _, _ => rfl
  | .ld _ _, _ => rfl
  | .unk _, _ => rfl
theorem oev_inR {ρ ρ' : List Int} {h : EH} {row : List Bool} (ha : agreeOn ρ ρ' row) {t : Option Tm} (hi : oinR row t) : oev ρ h t = oev ρ' h t := by
  cases t with
  | none => rfl
  | some t => exact ev_inR ha hi
inductive Res where
  | ok (h : EH)
  | stop (f : Int) (c : Core)
def EH.no (h : EH) (c : Core) (u : Int) : EH := ⟨h.mems, h.unks ++ [u], c⟩
def EH.yes (h : EH) (c : Core) (u : Int) : EH := ⟨h.mems ++ [c.words], h.unks ++ [u], c⟩
theorem EH.ext_no (h : EH) (c : Core) (u : Int) : h.Ext (h.no c u) := ⟨⟨[], by simp [EH.no]⟩, ⟨[u], rfl⟩⟩
theorem EH.ext_yes (h : EH) (c : Core) (u : Int) : h.Ext (h.yes c u) := ⟨⟨[c.words], rfl⟩, ⟨[u], rfl⟩⟩
def fx (s : ByteArray) (op k base size va vb : Int) (h : EH) : Res :=
  bif op == 3 then (bif (wapp k va vb).2 == 0 then .ok (h.no h.core 0) else .stop 2 h.core)
  else bif op == 5 then .ok (h.yes ⟨rset h.core.words base va, h.core.out, h.core.read, h.core.cnt⟩ 0)
  else bif op == 6 then (bif decide (va ≥ size) then .stop 3 h.core else .ok (h.no h.core (rget h.core.words (base + va))))
  else bif op == 7 then (bif decide (va ≥ size) then .stop 3 h.core else .ok (h.yes ⟨rset h.core.words (base + va) vb, h.core.out, h.core.read, h.core.cnt⟩ 0))
  else bif op == 8 then (bif decide (h.core.read < s.size) then .ok (h.no ⟨h.core.words, h.core.out, h.core.read + 1, h.core.cnt⟩ ((inAt s h.core.read).toNat : Int)) else .ok (h.no h.core 256))
  else (bif decide (h.core.out.length ≥ 65536) then .stop 4 h.core else .ok (h.no ⟨h.core.words, h.core.out ++ [byteOf va], h.core.read, h.core.cnt⟩ 0))
def resC (m : Mach) (h : EH) : Res := bif m.fin == 0 then .ok (h.yes m.core 0) else .stop m.fin m.core
section
variable (call : Int → Mach → Mach) (s : ByteArray) (ρ : List Int)
def fxR (e : SE) (h : EH) (r : Res) : Prop :=
  (e.op = 10 ∧ ∃ m : Mach, m.core = h.core ∧ m.fin = 0 ∧ r = resC (call e.base m) h) ∨ (e.op ≠ 10 ∧ r = fx s e.op e.k e.base e.size (oev ρ h e.a) (oev ρ h e.b) h)
def fxs : List SE → EH → Res → Prop
  | [], h, r => r = .ok h
  | e :: l, h, r => ∃ r1, fxR call s ρ e h r1 ∧ match r1 with
    | .ok h1 => fxs l h1 r
    | .stop f c => r = .stop f c
end
section
variable {call call' : Int → Mach → Mach} {s : ByteArray} {ρ ρ' : List Int}
theorem fxs_one {e : SE} {h : EH} {r : Res} (hr : fxR call s ρ e h r) : fxs call s ρ [e] h r := ⟨r, hr, by cases r <;> rfl⟩
theorem fxs_stop {f : Int} {c : Core} : ∀ {l l2 : List SE} {h : EH}, fxs call s ρ l h (.stop f c) → fxs call s ρ (l ++ l2) h (.stop f c)
  | [], l2, h, hr => by cases hr
  | e :: l, l2, h, ⟨r1, h1, h2⟩ => by
    refine ⟨r1, h1, ?_⟩
    cases r1 with
    | ok h1' => exact fxs_stop h2
    | stop f' c' => exact h2
theorem fxs_app {h' : EH} {r : Res} : ∀ {l l2 : List SE} {h : EH}, fxs call s ρ l h (.ok h') → fxs call s ρ l2 h' r → fxs call s ρ (l ++ l2) h r
  | [], l2, h, hr, h2 => by cases hr; exact h2
  | e :: l, l2, h, ⟨r1, h1, h2⟩, h3 => by
    refine ⟨r1, h1, ?_⟩
    cases r1 with
    | ok h1' => exact fxs_app h2 h3
    | stop f' c' => cases h2
theorem mach_ext {m m' : Mach} (h1 : m.core = m'.core) (h2 : m.fin = m'.fin) : m = m' := by
  obtain ⟨a, b, c, d, e⟩ := m
  obtain ⟨a', b', c', d', e'⟩ := m'
  unfold Mach.core at h1
  simp only [Core.mk.injEq] at h1
  obtain ⟨h3, h4, h5, h6⟩ := h1
  subst h3; subst h4; subst h5; subst h6
  have h2 : e = e' := h2
  subst h2; rfl
def callsEq (call call' : Int → Mach → Mach) (ok : Int → Prop) : Prop := ∀ i m, ok i → m.fin = 0 → call i m = call' i m
theorem fxR_det {ok : Int → Prop} (hc : callsEq call call' ok) {e : SE} (he : e.op = 10 → ok e.base) {h : EH} (ha : oev ρ h e.a = oev ρ' h e.a) (hb : oev ρ h e.b = oev ρ' h e.b) {r r' : Res} (h1 : fxR call s ρ e h r) (h2 : fxR call' s ρ' e h r') : r = r' := by
  rcases h1 with ⟨e1, m, c1, f1, rfl⟩ | ⟨e1, rfl⟩
  · rcases h2 with ⟨e2, m', c2, f2, rfl⟩ | ⟨e2, _⟩
    · rw [hc e.base m (he e1) f1, mach_ext (c1.trans c2.symm) (f1.trans f2.symm)]
    · exact absurd e1 e2
  · rcases h2 with ⟨e2, _⟩ | ⟨e2, rfl⟩
    · exact absurd e2 e1
    · rw [ha, hb]
theorem fxs_det {ok : Int → Prop} (hc : callsEq call call' ok) {row : List Bool} (hr : agreeOn ρ ρ' row) : ∀ {l : List SE}, (∀ e ∈ l, e.op = 10 → ok e.base) → (∀ e ∈ l, e.inR row) → ∀ {h : EH} {r r' : Res}, fxs call s ρ l h r → fxs call' s ρ' l h r' → r = r'
  | [], _, _, h, r, r', h1, h2 => by cases h1; cases h2; rfl
  | e :: l, ho, hi, h, r, r', ⟨r1, a1, a2⟩, ⟨r1', b1, b2⟩ => by
    have hie := hi e (by simp)
    have g := fxR_det hc (ho e (by simp)) (oev_inR hr hie.1) (oev_inR hr hie.2) a1 b1
    subst g
    cases r1 with
    | ok h1 => exact fxs_det hc hr (fun e he => ho e (by simp [he])) (fun e he => hi e (by simp [he])) a2 b2
    | stop f c => exact a2.trans b2.symm
end
structure Inv (ρ : List Int) (S : SS) (regs : List Int) (m : Mach) (h : EH) : Prop where
  len : regs.length = S.regs.length
  reg : ∀ z, rget regs z = ev ρ h (tget S.regs z)
  sc : ∀ t ∈ S.regs, t.sc h.unks.length h.mems.length
  core : h.core = m.core
  un : h.unks.length = S.effs.length
  tm : 0 ≤ S.time ∧ h.mems.length = S.time.toNat + 1
  mem : h.mems[S.time.toNat]? = some m.words
  fin : m.fin = 0
theorem tget_sc {n m : Nat} {l : List Tm} (h : ∀ t ∈ l, t.sc n m) (z : Int) : (tget l z).sc n m := by
  unfold tget
  cases e : l[z.toNat]? with
  | none => exact trivial
  | some t => exact h t (List.mem_of_getElem? e)
theorem get_set {α : Type} (l : List α) (a b : Nat) (v d : α) : ((l.set a v)[b]?).getD d = if a = b ∧ a < l.length then v else (l[b]?).getD d := by
  by_cases h : a = b
  · subst h
    by_cases hl : a < l.length
    · rw [List.getElem?_set_self hl, if_pos ⟨rfl, hl⟩]; rfl
    · rw [if_neg (by intro h; exact hl h.2), List.set_eq_of_length_le (by omega)]
  · rw [List.getElem?_set_ne h, if_neg (by intro g; exact h g.1)]
section
variable {ρ : List Int} {S : SS} {regs : List Int} {m : Mach} {h : EH}
theorem Inv.put (hI : Inv ρ S regs m h) (d : Int) {t : Tm} {v : Int} (ht : t.sc h.unks.length h.mems.length) (hv : v = ev ρ h t) : Inv ρ (S.put d t) (rset regs d v) m h := by
  refine ⟨by simp [rset, SS.put, tset, hI.len], fun z => ?_, fun x hx => ?_, hI.core, hI.un, hI.tm, hI.mem, hI.fin⟩
  · have h1 := hI.reg z
    show ((regs.set d.toNat v)[z.toNat]?).getD 0 = ev ρ h (((S.regs.set d.toNat t)[z.toNat]?).getD (.cst 0))
    rw [get_set, get_set, hI.len]
    split
    · exact hv
    · exact h1
  · have hx' : x ∈ S.regs.set d.toNat t := hx
    rcases List.mem_or_eq_of_mem_set hx' with hx | rfl
    · exact hI.sc x hx
    · exact ht
theorem Inv.no (hI : Inv ρ S regs m h) (e : SE) {c : Core} (u : Int) {m1 : Mach} (hm : m1.core = c) (hf : m1.fin = 0) (hw : c.words = m.words) : Inv ρ (S.eff e) regs m1 (h.no c u) := by
  refine ⟨hI.len, fun z => ?_, fun x hx => ?_, hm.symm, ?_, hI.tm, ?_, hf⟩
  · rw [hI.reg z]; exact (ev_ext (h.ext_no c u) (tget_sc hI.sc z)).symm
  · exact Tm.sc_mono (by simp [EH.no]) (Nat.le_refl _) (hI.sc x hx)
  · show (h.unks ++ [u]).length = (S.effs ++ [e]).length
    simp [hI.un]
  · show h.mems[S.time.toNat]? = some m1.words
    rw [hI.mem, ← hw, ← hm]; rfl
theorem Inv.yes (hI : Inv ρ S regs m h) (e : SE) {c : Core} (u : Int) {m1 : Mach} (hm : m1.core = c) (hf : m1.fin = 0) : Inv ρ (S.eff e).tick regs m1 (h.yes c u) := by
  obtain ⟨t0, t1⟩ := hI.tm
  have e1 : (S.time + 1).toNat = S.time.toNat + 1 := by omega
  refine ⟨hI.len, fun z => ?_, fun x hx => ?_, hm.symm, ?_, ?_, ?_, hf⟩
  · rw [hI.reg z]; exact (ev_ext (h.ext_yes c u) (tget_sc hI.sc z)).symm
  · exact Tm.sc_mono (by simp [EH.yes]) (by simp [EH.yes]) (hI.sc x hx)
  · show (h.unks ++ [u]).length = (S.effs ++ [e]).length
    simp [hI.un]
  · show 0 ≤ S.time + 1 ∧ (h.mems ++ [c.words]).length = (S.time + 1).toNat + 1
    rw [e1]; simp [t1]; omega
  · show (h.mems ++ [c.words])[(S.time + 1).toNat]? = some m1.words
    rw [e1, ← t1, List.getElem?_append_right (Nat.le_refl _), Nat.sub_self, ← hm]; rfl
end
def RGood (ρ : List Int) (S : SS) (p : List Int × Mach) : Res → Prop
  | .ok h => Inv ρ S p.1 p.2 h
  | .stop f c => p.2.fin = f ∧ f ≠ 0 ∧ p.2.core = c
theorem wapp_fine {k a b : Int} (hk : 4 ≤ k ∧ k ≤ 15) (h : (k = 7 ∨ k = 8) → b ≠ 0) : (wapp k a b).2 = 0 := by
  unfold wapp
  cases e4 : k == 4 with
  | true => rfl
  | false =>
  cases e5 : k == 5 with
  | true => rfl
  | false =>
  cases e6 : k == 6 with
  | true => rfl
  | false =>
  cases e7 : k == 7 || k == 8 with
  | true =>
    have hb : b ≠ 0 := h (by simpa using e7)
    show (wdivide k a b).2 = 0
    unfold wdivide
    rw [show (b == 0) = false by simpa using hb]
    cases k == 7 <;> rfl
  | false =>
  cases e9 : k == 9 with
  | true => rfl
  | false =>
  cases e10 : k == 10 with
  | true => rfl
  | false =>
  cases e11 : k == 11 with
  | true => rfl
  | false =>
  cases e12 : k == 12 || k == 13 with
  | true => rfl
  | false =>
  cases e14 : k == 14 || k == 15 with
  | true => rfl
  | false => exfalso; simp at e4 e5 e6 e7 e9 e10 e11 e12 e14; omega
section
variable {call call' : Int → Mach → Mach} {s : ByteArray} {ρ : List Int}
theorem tfold_ev {h : EH} {k : Int} {a b : Tm} : ev ρ h (tfold k a b) = (wapp k (ev ρ h a) (ev ρ h b)).1 := by
  have hop : ∀ x y : Tm, ev ρ h (.op k x y) = (wapp k (ev ρ h x) (ev ρ h y)).1 := fun _ _ => rfl
  cases a with
  | cst x =>
    cases b with
    | cst y =>
      simp only [tfold]
      cases trisky k (.cst y) <;> rfl
    | _ => rfl
  | _ => rfl
theorem tfold_sc {n m : Nat} {k : Int} {a b : Tm} (ha : a.sc n m) (hb : b.sc n m) : (tfold k a b).sc n m := by
  have hop : (Tm.op k a b).sc n m := ⟨ha, hb⟩
  cases a with
  | cst x =>
    cases b with
    | cst y =>
      simp only [tfold]
      cases trisky k (.cst y) with
      | true => exact hop
      | false => exact trivial
    | _ => exact hop
  | _ => exact hop
theorem tfold_fine {h : EH} {k : Int} {a b : Tm} (hk : 4 ≤ k ∧ k ≤ 15) (hr : trisky k b = false) : (wapp k (ev ρ h a) (ev ρ h b)).2 = 0 := by
  refine wapp_fine hk fun hd => ?_
  unfold trisky at hr
  rw [show (k == 7 || k == 8) = true by simpa using hd, Bool.true_and] at hr
  cases b with
  | cst n => exact fun e => by simp [Tm.isZero] at hr; exact hr e
  | _ => cases hr
theorem rfind {S : SS} {regs : List Int} {m : Mach} {h : EH} {r : Res} {e : SE} {t : Tac} {p : List Int × Mach} (he : (S.step t).effs = S.effs ++ [e]) (hr : fxR call s ρ e h r) (hg : RGood ρ (S.step t) p r) :
    ∃ es, (S.step t).effs = S.effs ++ es ∧ ∃ r, fxs call s ρ es h r ∧ RGood ρ (S.step t) p r := ⟨[e], he, r, fxs_one hr, hg⟩
theorem rnone {S : SS} {h : EH} {t : Tac} {p : List Int × Mach} (he : (S.step t).effs = S.effs) (hg : Inv ρ (S.step t) p.1 p.2 h) :
    ∃ es, (S.step t).effs = S.effs ++ es ∧ ∃ r, fxs call s ρ es h r ∧ RGood ρ (S.step t) p r := ⟨[], by rw [he, List.append_nil], .ok h, rfl, hg⟩
theorem mone_fx {S : SS} {regs : List Int} {m : Mach} {h : EH} (hI : Inv ρ S regs m h) (t : Tac) (hop : 1 ≤ t.op ∧ t.op ≤ 10) (hk : t.op = 3 → 4 ≤ t.k ∧ t.k ≤ 15) :
    ∃ es, (S.step t).effs = S.effs ++ es ∧ ∃ r, fxs call s ρ es h r ∧ RGood ρ (S.step t) (mone call s t regs m) r := by
  have hc := hI.core
  have hw : h.core.words = m.words := by rw [hc]; rfl
  have ho : h.core.out = m.out := by rw [hc]; rfl
  have hrd : h.core.read = m.read := by rw [hc]; rfl
  have hct : h.core.cnt = m.steps := by rw [hc]; rfl
  have hg := fun z => tget_sc hI.sc z
  have hev := hI.reg
  by_cases h1 : t.op = 1
  · have e1 : S.step t = S.put t.d (.cst t.n) := by unfold SS.step; rw [h1]; rfl
    have e2 : mone call s t regs m = (rset regs t.d t.n, m) := by unfold mone; rw [h1]; rfl
    refine rnone (by rw [e1]; rfl) ?_
    rw [e1, e2]
    exact hI.put t.d trivial rfl
  by_cases h2 : t.op = 2
  · have e1 : S.step t = S.put t.d (tget S.regs t.a) := by unfold SS.step; rw [h2]; rfl
    have e2 : mone call s t regs m = (rset regs t.d (rget regs t.a), m) := by unfold mone; rw [h2]; rfl
    refine rnone (by rw [e1]; rfl) ?_
    rw [e1, e2]
    exact hI.put t.d (hg _) (hev _)
  by_cases h3 : t.op = 3
  · have e1 : S.step t = S.bin t := by unfold SS.step; rw [h3]; rfl
    have e2 : mone call s t regs m = (bif (wapp t.k (rget regs t.a) (rget regs t.b)).2 == 0 then (rset regs t.d (wapp t.k (rget regs t.a) (rget regs t.b)).1, m) else (regs, { m with fin := 2 })) := by unfold mone; rw [h3]; rfl
    cases hr : trisky t.k (tget S.regs t.b) with
    | false =>
      have ed : S.div t = S := by unfold SS.div; rw [hr]; rfl
      have hz := tfold_fine (ρ := ρ) (h := h) (a := tget S.regs t.a) (hk h3) hr
      rw [← hev, ← hev] at hz
      refine rnone (by rw [e1, SS.bin, ed]; rfl) ?_
      rw [e1, e2, hz, SS.bin, ed]
      exact hI.put t.d (tfold_sc (hg _) (hg _)) (by rw [tfold_ev, ← hev, ← hev])
    | true =>
      have ed : S.div t = S.eff ⟨true, 3, t.k, 0, 0, some (tget S.regs t.a), some (tget S.regs t.b)⟩ := by unfold SS.div; rw [hr]; rfl
      have hfx : fxR call s ρ ⟨true, 3, t.k, 0, 0, some (tget S.regs t.a), some (tget S.regs t.b)⟩ h (bif (wapp t.k (rget regs t.a) (rget regs t.b)).2 == 0 then .ok (h.no h.core 0) else .stop 2 h.core) := .inr ⟨(by decide : (3 : Int) ≠ 10), by rw [hev, hev]; rfl⟩
      refine rfind (S := S) (m := m) (regs := regs) (by rw [e1, SS.bin, ed]; rfl) hfx ?_
      rw [e1, e2, SS.bin, ed]
      cases hz : (wapp t.k (rget regs t.a) (rget regs t.b)).2 == 0 with
      | false => exact ⟨rfl, by decide, by rw [hc]; rfl⟩
      | true =>
        have hI2 := hI.no ⟨true, 3, t.k, 0, 0, some (tget S.regs t.a), some (tget S.regs t.b)⟩ (c := h.core) 0 (m1 := m) hc.symm hI.fin hw
        exact hI2.put t.d (tfold_sc (tget_sc hI2.sc t.a) (tget_sc hI2.sc t.b)) (by
          rw [tfold_ev]
          have ha := hI2.reg t.a
          have hb := hI2.reg t.b
          have ea : tget (S.eff ⟨true, 3, t.k, 0, 0, some (tget S.regs t.a), some (tget S.regs t.b)⟩).regs t.a = tget S.regs t.a := rfl
          have eb : tget (S.eff ⟨true, 3, t.k, 0, 0, some (tget S.regs t.a), some (tget S.regs t.b)⟩).regs t.b = tget S.regs t.b := rfl
          rw [ea] at ha
          rw [eb] at hb
          rw [ha, hb])
  by_cases h4 : t.op = 4
  · have e1 : S.step t = S.put t.d (.ld t.base S.time) := by unfold SS.step; rw [h4]; rfl
    have e2 : mone call s t regs m = (rset regs t.d (rget m.words t.base), m) := by unfold mone; rw [h4]; rfl
    refine rnone (by rw [e1]; rfl) ?_
    rw [e1, e2]
    refine hI.put t.d (show S.time.toNat < h.mems.length by rw [hI.tm.2]; omega) ?_
    show _ = rget ((h.mems[S.time.toNat]?).getD []) t.base
    rw [hI.mem]; rfl
  by_cases h5 : t.op = 5
  · have e1 : S.step t = (S.eff ⟨false, 5, 0, t.base, 0, some (tget S.regs t.a), none⟩).tick := by unfold SS.step; rw [h5]; rfl
    have e2 : mone call s t regs m = (regs, { m with words := rset m.words t.base (rget regs t.a) }) := by unfold mone; rw [h5]; rfl
    have hfx : fxR call s ρ ⟨false, 5, 0, t.base, 0, some (tget S.regs t.a), none⟩ h (.ok (h.yes ⟨rset m.words t.base (rget regs t.a), m.out, m.read, m.steps⟩ 0)) := .inr ⟨(by decide : (5 : Int) ≠ 10), by rw [hev, ← hw, ← ho, ← hrd, ← hct]; rfl⟩
    refine rfind (S := S) (m := m) (regs := regs) (by rw [e1]; rfl) hfx ?_
    rw [e1, e2]
    exact hI.yes _ 0 rfl hI.fin
  by_cases h6 : t.op = 6
  · have e1 : S.step t = S.get t ⟨false, 6, 0, t.base, t.size, some (tget S.regs t.a), none⟩ := by unfold SS.step; rw [h6]; rfl
    have e2 : mone call s t regs m = (bif decide (rget regs t.a ≥ t.size) then (regs, { m with fin := 3 }) else (rset regs t.d (rget m.words (t.base + rget regs t.a)), m)) := by unfold mone; rw [h6]; rfl
    have hfx : fxR call s ρ ⟨false, 6, 0, t.base, t.size, some (tget S.regs t.a), none⟩ h (bif decide (rget regs t.a ≥ t.size) then .stop 3 h.core else .ok (h.no h.core (rget m.words (t.base + rget regs t.a)))) := .inr ⟨(by decide : (6 : Int) ≠ 10), by rw [hev, ← hw]; rfl⟩
    refine rfind (S := S) (m := m) (regs := regs) (by rw [e1]; rfl) hfx ?_
    rw [e1, e2]
    cases decide (rget regs t.a ≥ t.size) with
    | true => exact ⟨rfl, by decide, by rw [hc]; rfl⟩
    | false =>
      have hI2 := hI.no ⟨false, 6, 0, t.base, t.size, some (tget S.regs t.a), none⟩ (c := h.core) (rget m.words (t.base + rget regs t.a)) (m1 := m) hc.symm hI.fin hw
      refine hI2.put t.d (t := .unk S.effs.length) ?_ ?_
      · show S.effs.length < (h.unks ++ [_]).length
        simp [hI.un]
      · show _ = ((h.unks ++ [_])[S.effs.length]?).getD 0
        rw [← hI.un, List.getElem?_append_right (Nat.le_refl _), Nat.sub_self]; rfl
  by_cases h7 : t.op = 7
  · have e1 : S.step t = (S.eff ⟨false, 7, 0, t.base, t.size, some (tget S.regs t.a), some (tget S.regs t.b)⟩).tick := by unfold SS.step; rw [h7]; rfl
    have e2 : mone call s t regs m = (bif decide (rget regs t.a ≥ t.size) then (regs, { m with fin := 3 }) else (regs, { m with words := rset m.words (t.base + rget regs t.a) (rget regs t.b) })) := by unfold mone; rw [h7]; rfl
    have hfx : fxR call s ρ ⟨false, 7, 0, t.base, t.size, some (tget S.regs t.a), some (tget S.regs t.b)⟩ h (bif decide (rget regs t.a ≥ t.size) then .stop 3 h.core else .ok (h.yes ⟨rset m.words (t.base + rget regs t.a) (rget regs t.b), m.out, m.read, m.steps⟩ 0)) := .inr ⟨(by decide : (7 : Int) ≠ 10), by rw [hev, hev, ← hw, ← ho, ← hrd, ← hct]; rfl⟩
    refine rfind (S := S) (m := m) (regs := regs) (by rw [e1]; rfl) hfx ?_
    rw [e1, e2]
    cases decide (rget regs t.a ≥ t.size) with
    | true => exact ⟨rfl, by decide, by rw [hc]; rfl⟩
    | false => exact hI.yes _ 0 rfl hI.fin
  by_cases h8 : t.op = 8
  · have e1 : S.step t = S.get t ⟨false, 8, 0, 0, 0, none, none⟩ := by unfold SS.step; rw [h8]; rfl
    have e2 : mone call s t regs m = (bif decide (m.read < s.size) then (rset regs t.d ((inAt s m.read).toNat : Int), { m with read := m.read + 1 }) else (rset regs t.d 256, m)) := by unfold mone; rw [h8]; rfl
    have hfx : fxR call s ρ ⟨false, 8, 0, 0, 0, none, none⟩ h (bif decide (m.read < s.size) then .ok (h.no ⟨m.words, m.out, m.read + 1, m.steps⟩ ((inAt s m.read).toNat : Int)) else .ok (h.no h.core 256)) := .inr ⟨(by decide : (8 : Int) ≠ 10), by rw [← hw, ← ho, ← hrd, ← hct]; rfl⟩
    refine rfind (S := S) (m := m) (regs := regs) (by rw [e1]; rfl) hfx ?_
    rw [e1, e2]
    have key : ∀ (c : Core) (u : Int) (m1 : Mach), m1.core = c → m1.fin = 0 → c.words = m.words → Inv ρ (S.get t ⟨false, 8, 0, 0, 0, none, none⟩) (rset regs t.d u) m1 (h.no c u) := fun c u m1 a1 a2 a3 => by
      have hI2 := hI.no ⟨false, 8, 0, 0, 0, none, none⟩ u a1 a2 a3
      refine hI2.put t.d (t := .unk S.effs.length) ?_ ?_
      · show S.effs.length < (h.unks ++ [_]).length
        simp [hI.un]
      · show _ = ((h.unks ++ [_])[S.effs.length]?).getD 0
        rw [← hI.un, List.getElem?_append_right (Nat.le_refl _), Nat.sub_self]; rfl
    cases decide (m.read < s.size) with
    | true => exact key _ _ _ rfl hI.fin rfl
    | false => exact key _ _ _ hc.symm hI.fin hw
  by_cases h9 : t.op = 9
  · have e1 : S.step t = S.eff ⟨false, 9, 0, 0, 0, some (tget S.regs t.a), none⟩ := by unfold SS.step; rw [h9]; rfl
    have e2 : mone call s t regs m = (bif decide (m.out.length ≥ 65536) then (regs, { m with fin := 4 }) else (regs, { m with out := m.out ++ [byteOf (rget regs t.a)] })) := by unfold mone; rw [h9]; rfl
    have hfx : fxR call s ρ ⟨false, 9, 0, 0, 0, some (tget S.regs t.a), none⟩ h (bif decide (m.out.length ≥ 65536) then .stop 4 h.core else .ok (h.no ⟨m.words, m.out ++ [byteOf (rget regs t.a)], m.read, m.steps⟩ 0)) := .inr ⟨(by decide : (9 : Int) ≠ 10), by rw [hev, ← hw, ← ho, ← hrd, ← hct]; rfl⟩
    refine rfind (S := S) (m := m) (regs := regs) (by rw [e1]; rfl) hfx ?_
    rw [e1, e2]
    cases decide (m.out.length ≥ 65536) with
    | true => exact ⟨rfl, by decide, by rw [hc]; rfl⟩
    | false => exact hI.no _ 0 rfl hI.fin rfl
  have h10 : t.op = 10 := by omega
  have e1 : S.step t = (S.eff ⟨false, 10, 0, t.base, 0, none, none⟩).tick := by unfold SS.step; rw [h10]; rfl
  have e2 : mone call s t regs m = (regs, call t.base m) := by unfold mone; rw [h10]; rfl
  have hfx : fxR call s ρ ⟨false, 10, 0, t.base, 0, none, none⟩ h (resC (call t.base m) h) := .inl ⟨rfl, m, hc.symm, hI.fin, rfl⟩
  refine rfind (S := S) (m := m) (regs := regs) (by rw [e1]; rfl) hfx ?_
  rw [e1, e2]
  unfold resC
  cases hz : (call t.base m).fin == 0 with
  | true => exact hI.yes _ 0 rfl (by simpa using hz)
  | false => exact ⟨rfl, by simpa using hz, rfl⟩
end
theorem foldl_effs (l : List Tac) : ∀ S : SS, ∃ es, (l.foldl SS.step S).effs = S.effs ++ es := by
  induction l with
  | nil => exact fun S => ⟨[], by simp⟩
  | cons t l ih =>
    intro S
    obtain ⟨es, he⟩ := ih (S.step t)
    have h1 : ∃ es, (S.step t).effs = S.effs ++ es := by
      unfold SS.step
      cases t.op == 1 with
      | true => exact ⟨[], by simp [SS.put]⟩
      | false =>
      cases t.op == 2 with
      | true => exact ⟨[], by simp [SS.put]⟩
      | false =>
      cases t.op == 3 with
      | true =>
        simp only [cond_true, cond_false, SS.bin, SS.put, SS.div]
        cases trisky t.k (tget S.regs t.b) with
        | true => exact ⟨[_], rfl⟩
        | false => exact ⟨[], by simp⟩
      | false =>
      cases t.op == 4 with
      | true => exact ⟨[], by simp [SS.put]⟩
      | false =>
      cases t.op == 5 with
      | true => exact ⟨[_], rfl⟩
      | false =>
      cases t.op == 6 with
      | true => exact ⟨[_], rfl⟩
      | false =>
      cases t.op == 7 with
      | true => exact ⟨[_], rfl⟩
      | false =>
      cases t.op == 8 with
      | true => exact ⟨[_], rfl⟩
      | false =>
      cases t.op == 9 with
      | true => exact ⟨[_], rfl⟩
      | false => exact ⟨[_], rfl⟩
    obtain ⟨e1, h1⟩ := h1
    exact ⟨e1 ++ es, by rw [List.foldl_cons, he, h1, List.append_assoc]⟩
def MGood (ρ : List Int) (S : SS) (p : Bool × List Int × Mach) : Res → Prop
  | .ok h => p.1 = true ∧ Inv ρ S p.2.1 p.2.2 h
  | .stop f c => p.1 = false ∧ p.2.2.fin = f ∧ f ≠ 0 ∧ p.2.2.core = c
def kins (call : Int → Mach → Mach) (s : ByteArray) : List Tac → List Int → Mach → Bool × List Int × Mach
  | [], regs, m => (true, regs, m)
  | t :: r, regs, m => bif (mone call s t regs m).2.fin == 0 then kins call s r (mone call s t regs m).1 (mone call s t regs m).2 else (false, mone call s t regs m)
theorem kins_fx {call : Int → Mach → Mach} {s : ByteArray} {ρ : List Int} : ∀ (l : List Tac), (∀ t ∈ l, (1 ≤ t.op ∧ t.op ≤ 10) ∧ (t.op = 3 → 4 ≤ t.k ∧ t.k ≤ 15)) → ∀ (S : SS) (regs : List Int) (m : Mach) (h : EH), Inv ρ S regs m h →
    ∃ es, (l.foldl SS.step S).effs = S.effs ++ es ∧ ∃ r, fxs call s ρ es h r ∧ MGood ρ (l.foldl SS.step S) (kins call s l regs m) r
  | [], _, S, regs, m, h, hI => ⟨[], by simp, .ok h, rfl, rfl, hI⟩
  | t :: l, hl, S, regs, m, h, hI => by
    obtain ⟨ht1, ht2⟩ := hl t (by simp)
    obtain ⟨es, he, r, hr, hg⟩ := mone_fx (call := call) (s := s) hI t ht1 ht2
    rw [kins]
    cases r with
    | stop f c =>
      obtain ⟨g1, g2, g3⟩ := hg
      obtain ⟨es2, he2⟩ := foldl_effs l (S.step t)
      refine ⟨es ++ es2, by rw [List.foldl_cons, he2, he, List.append_assoc], .stop f c, fxs_stop hr, ?_⟩
      rw [show ((mone call s t regs m).2.fin == 0) = false by rw [g1]; simpa using g2]
      exact ⟨rfl, g1, g2, g3⟩
    | ok h1 =>
      have hg' : Inv ρ (S.step t) (mone call s t regs m).1 (mone call s t regs m).2 h1 := hg
      rw [show ((mone call s t regs m).2.fin == 0) = true by rw [hg'.fin]; rfl]
      obtain ⟨es2, he2, r2, b1, b2⟩ := kins_fx (call := call) (s := s) l (fun t h => hl t (by simp [h])) (S.step t) _ _ h1 hg'
      exact ⟨es ++ es2, by rw [List.foldl_cons, he2, he, List.append_assoc], r2, fxs_app hr b1, b2⟩
theorem idx_mapZ {α : Type} {l : List α} {f : α → List AV} {n : Int} {x : α} (h : l[n.toNat]? = some x) : (l.map f)[n.toNat]? = some (f x) := by rw [List.getElem?_map, h]; rfl
theorem weak_nils (n : Nat) : ∀ (i : Nat) (cs cs' : List AV), (List.replicate n [AV.nil])[i]? = some cs → (List.replicate n [AV.lst false []])[i]? = some cs' → cs'.length = cs.length ∧ ∀ (j : Nat) (x y : AV), cs[j]? = some x → cs'[j]? = some y → y.cell1 = true ∧ ∀ H v, Rel H noLay x v → Rel H noLay y v := fun i cs cs' h1 h2 => by
  have e1 := List.eq_of_mem_replicate (List.mem_of_getElem? h1)
  have e2 := List.eq_of_mem_replicate (List.mem_of_getElem? h2)
  subst e1; subst e2
  refine ⟨rfl, fun j x y g1 g2 => ?_⟩
  cases j with
  | zero => simp at g1 g2; subst g1; subst g2; exact ⟨rfl, fun H v h => nil_empty h⟩
  | succ j => simp at g1
theorem len_pred {n : Nat} (h : 0 < n) (h2 : n ≤ 100000000) : evalBin .sub (.int .i64 (n : Int)) (.int .i64 1) = some (.int .i64 ((n - 1 : Nat) : Int)) := by
  simp only [evalBin, evalInt, isShift, cond_false, if_true]
  rw [wrap_i64 (by omega) (by omega)]
  congr 2; omega
def iget (l : List Int) (z : Int) : Int := (l[z.toNat]?).getD 0
def intCells (l : List Int) : List (List AV) := l.map fun n => [AV.int .i64 n]
theorem intCells_len (l : List Int) : (intCells l).length = l.length := by simp [intCells]
def BFunc.blockAt (f : BFunc) (i : Int) : Block := (f.blocks[i.toNat]?).getD ⟨[], 0, 0, 0, 0⟩
def lastOf (p : List Int) : Int := p.getLast?.getD 0
def BFunc.joined (f : BFunc) (p : List Int) : List Tac := p.flatMap fun i => (f.blockAt i).ins
def inF (n : Nat) (p : List Int) : Prop := p ≠ [] ∧ ∀ i ∈ p, 0 ≤ i ∧ i < n
section
variable {P : Program} {T : Nat → Option TyI} {o : Oper} {e : AEnv} {h : AHeap}
theorem q_front (hT : TOk P T) {t : TypeId} {x : Operand} {y : Operand} {k : IntKind} {m : Nat} {es : List (List AV)} {i j : TyI} {u : Nat} (ho : o.op = .slice t x none (some y) none) (hx : look e x = some (.lst false es)) (ht : T t = some i) (hk : i.k = .slice u) (hj : T u = some j)
    (hy : look e y = some (.int k (m : Int))) (hm : m ≤ es.length) (hu : ∀ cs ∈ es, cs.length = j.size) : QLoc P o e h [] (.lst false (es.take m)) := by
  have := q_slice_lst (h := h) hT 0 m ho hx ht hk hj rfl ⟨k, hy⟩ (Nat.zero_le _) hm hu
  rw [List.drop_zero] at this
  exact this
theorem q_back (hT : TOk P T) {t : TypeId} {x : Operand} {y : Operand} {k : IntKind} {m : Nat} {es : List (List AV)} {i j : TyI} {u : Nat} (ho : o.op = .slice t x (some y) none none) (hx : look e x = some (.lst false es)) (ht : T t = some i) (hk : i.k = .slice u) (hj : T u = some j)
    (hy : look e y = some (.int k (m : Int))) (hm : m ≤ es.length) (hu : ∀ cs ∈ es, cs.length = j.size) : QLoc P o e h [] (.lst false (es.drop m)) := by
  have := q_slice_lst (h := h) hT m es.length ho hx ht hk hj ⟨k, hy⟩ rfl hm (Nat.le_refl _) hu
  rw [List.take_of_length_le (Nat.le_refl _)] at this
  exact this
end
theorem blockAt_get {f : BFunc} {i : Int} (h : 0 ≤ i ∧ i < f.blocks.length) : f.blocks[i.toNat]? = some (f.blockAt i) := by
  obtain ⟨x, hx⟩ := get_of_lt (l := f.blocks) (k := i.toNat) (by omega)
  rw [BFunc.blockAt, hx]; rfl
theorem ins_sizes (l : List Tac) : (∀ cs ∈ l.map Tac.cells, cs.length = 8) ∧ ∀ cs ∈ l.map Tac.cells, cs.all AV.isPure1 = true := by
  constructor <;> intro cs h <;> simp only [List.mem_map] at h <;> obtain ⟨t, _, rfl⟩ := h <;> rfl
theorem last_get {p : List Int} (h : p ≠ []) : p[p.length - 1]? = some (lastOf p) := by
  rw [← List.getLast?_eq_getElem?, lastOf, List.getLast?_eq_some_getLast h]; rfl
theorem last_mem {p : List Int} (h : p ≠ []) : lastOf p ∈ p := List.mem_of_getElem? (last_get h)
def okAt (f : BFunc) (p : List Int) (j : Nat) : Bool := (f.blockAt (iget p j)).fin == 1 && (f.blockAt (iget p j)).to == iget p ((j + 1 : Nat) : Int)
def followsB (f : BFunc) (p : List Int) : Bool := (List.range (p.length - 1)).all (okAt f p)
def madeR (f : BFunc) : List Tac → List Int → Bool
  | rest, [] => rest.isEmpty
  | rest, i :: r => decide ((f.blockAt i).ins.length ≤ rest.length) && (decide (rest.take (f.blockAt i).ins.length = (f.blockAt i).ins) && madeR f (rest.drop (f.blockAt i).ins.length) r)
def headZ (p : List Int) : Int := p.head?.getD 0
def pathK (paths : List (List Int)) (k : Int) : List Int := (paths[k.toNat]?).getD []
def beginsB (paths : List (List Int)) (k i : Int) : Bool := decide (k ≥ 0) && (decide (k < paths.length) && headZ (pathK paths k) == i)
def leadsTo (last b : Block) (paths : List (List Int)) : Bool := bif b.fin == 1 || b.fin == 2 then beginsB paths b.to last.to else b.to == last.to
def leadsEl (last b : Block) (paths : List (List Int)) : Bool := bif b.fin == 2 then beginsB paths b.els last.els else b.els == last.els
def leadsB (last b : Block) (paths : List (List Int)) : Bool := !(b.fin != last.fin) && (!(b.v != last.v) && (leadsTo last b paths && leadsEl last b paths))
def pathIn (n : Nat) (p : List Int) : Bool := !(p.length == 0) && p.all (fun i => !(decide (i < 0)) && !(decide (i ≥ n)))
def stepB (old new : BFunc) (paths : List (List Int)) (q : List Int × Nat) : Bool := followsB old q.1 && (madeR old (new.blockAt q.2).ins q.1 && leadsB (old.blockAt (lastOf q.1)) (new.blockAt q.2) paths)
def checkB (old new : BFunc) (paths : List (List Int)) : Bool :=
  !(paths.length == 0) && (!(paths.length != new.blocks.length) && (!(old.regs != new.regs) && (paths.all (pathIn old.blocks.length) && (!(headZ (pathK paths 0) != 0) && paths.zipIdx.all (stepB old new paths)))))
theorem pathIn_inF {n : Nat} {p : List Int} (h : pathIn n p = true) : inF n p := by
  simp only [pathIn, Bool.and_eq_true, Bool.not_eq_true', List.all_eq_true, decide_eq_false_iff_not, beq_eq_false_iff_ne] at h
  exact ⟨fun e => h.1 (by rw [e]; rfl), fun i hi => by have := h.2 i hi; omega⟩
theorem range_get {n k : Nat} (h : k < n) : (List.range n)[k]? = some k := by simp [h]
theorem headZ_get {p : List Int} (h : p ≠ []) : p[0]? = some (headZ p) := by
  cases p with
  | nil => exact absurd rfl h
  | cons x r => rfl
theorem pathK_get {paths : List (List Int)} {k : Int} (h : 0 ≤ k ∧ k < paths.length) : paths[k.toNat]? = some (pathK paths k) := by
  obtain ⟨x, hx⟩ := get_of_lt (l := paths) (k := k.toNat) (by omega)
  rw [pathK, hx]; rfl
theorem iget_get {p : List Int} {k : Nat} {y : Int} (h : p[k]? = some y) : iget p k = y := by simp [iget, h]
structure MG where
  k : Nat
  rest : List Tac
theorem madeR_step {f : BFunc} {p : List Int} {rest : List Tac} {k : Nat} {i : Int} (h : p[k]? = some i) : madeR f rest (p.drop k) = (decide ((f.blockAt i).ins.length ≤ rest.length) && (decide (rest.take (f.blockAt i).ins.length = (f.blockAt i).ins) && madeR f (rest.drop (f.blockAt i).ins.length) (p.drop (k + 1)))) := by
  obtain ⟨h1, h2⟩ := List.getElem?_eq_some_iff.1 h
  rw [List.drop_eq_getElem_cons h1, h2]; rfl
theorem tacs_take {l : List Tac} {n : Nat} : (l.map Tac.cells).take n = (l.take n).map Tac.cells := by rw [List.map_take]
theorem tacs_drop {l : List Tac} {n : Nat} : (l.map Tac.cells).drop n = (l.drop n).map Tac.cells := by rw [List.map_drop]
theorem check_bad1 {old new : BFunc} {paths : List (List Int)} (h : ¬ (paths.length ≠ 0 ∧ paths.length = new.blocks.length ∧ old.regs = new.regs)) : checkB old new paths = false := by
  rw [Bool.eq_false_iff]
  intro h2
  simp only [checkB, Bool.and_eq_true, Bool.not_eq_true', beq_eq_false_iff_ne, bne_eq_false_iff_eq] at h2
  exact h ⟨h2.1, h2.2.1, h2.2.2.1⟩
theorem check_bad2 {old new : BFunc} {paths : List (List Int)} (h : paths.all (pathIn old.blocks.length) = false) : checkB old new paths = false := by
  simp only [checkB, h, Bool.false_and, Bool.and_false]
theorem check_bad3 {old new : BFunc} {paths : List (List Int)} (h : (headZ (pathK paths 0) != 0) = true) : checkB old new paths = false := by
  simp only [checkB, h, Bool.not_true, Bool.false_and, Bool.and_false]
theorem check_bad4 {old new : BFunc} {paths : List (List Int)} (h : paths.zipIdx.all (stepB old new paths) = false) : checkB old new paths = false := by
  simp only [checkB, h, Bool.and_false]
theorem check_good {old new : BFunc} {paths : List (List Int)} (h1 : paths.length ≠ 0) (h2 : paths.length = new.blocks.length) (h3 : old.regs = new.regs) (h4 : paths.all (pathIn old.blocks.length) = true) (h5 : (headZ (pathK paths 0) != 0) = false) (h6 : paths.zipIdx.all (stepB old new paths) = true) : checkB old new paths = true := by
  have e1 : (paths.length == 0) = false := by simpa using h1
  have e2 : (paths.length != new.blocks.length) = false := by simp [h2]
  have e3 : (old.regs != new.regs) = false := by simp [h3]
  simp only [checkB, e1, e2, e3, h4, h5, h6]; rfl
section
variable {P : Program} {T : Nat → Option TyI} {o : Oper} {e : AEnv} {h : AHeap}
theorem tac_sizes {l : List Tac} {j : TyI} (h8 : j.size = 8) : ∀ cs ∈ l.map Tac.cells, cs.length = j.size := fun cs h => by
  rw [h8]; exact (ins_sizes l).1 cs h
theorem q_front' (hT : TOk P T) {t : TypeId} {x : Operand} {y : Operand} {k : IntKind} {m : Nat} {z : Int} {l : List Tac} {i j : TyI} {u : Nat} (ho : o.op = .slice t x none (some y) none) (hx : look e x = some (insAV l)) (ht : T t = some i) (hk : i.k = .slice u) (hj : T u = some j ∧ j.size = 8)
    (hy : look e y = some (.int k z)) (hz : z = (m : Int)) (hm : m ≤ l.length) : QLoc P o e h [] (insAV (l.take m)) := by
  subst hz
  have := q_front (h := h) hT ho hx ht hk hj.1 hy (by simpa using hm) (tac_sizes hj.2)
  rwa [tacs_take] at this
theorem q_back' (hT : TOk P T) {t : TypeId} {x : Operand} {y : Operand} {k : IntKind} {m : Nat} {z : Int} {l : List Tac} {i j : TyI} {u : Nat} (ho : o.op = .slice t x (some y) none none) (hx : look e x = some (insAV l)) (ht : T t = some i) (hk : i.k = .slice u) (hj : T u = some j ∧ j.size = 8)
    (hy : look e y = some (.int k z)) (hz : z = (m : Int)) (hm : m ≤ l.length) : QLoc P o e h [] (insAV (l.drop m)) := by
  subst hz
  have := q_back (h := h) hT ho hx ht hk hj.1 hy (by simpa using hm) (tac_sizes hj.2)
  rwa [tacs_drop] at this
end
section
variable {P : Program} {T : Nat → Option TyI} {o : Oper} {e : AEnv} {h : AHeap}
end
theorem madeR_eq (f : BFunc) : ∀ (p : List Int) (l : List Tac), madeR f l p = decide (l = f.joined p)
  | [], l => by cases l <;> simp [madeR, BFunc.joined]
  | i :: r, l => by
    have e : f.joined (i :: r) = (f.blockAt i).ins ++ f.joined r := by simp [BFunc.joined]
    rw [madeR, madeR_eq f r, e]
    by_cases h : l = (f.blockAt i).ins ++ f.joined r
    · subst h
      simp
    · rw [decide_eq_false h]
      by_cases h1 : (f.blockAt i).ins.length ≤ l.length
      · by_cases h2 : l.take (f.blockAt i).ins.length = (f.blockAt i).ins
        · by_cases h3 : l.drop (f.blockAt i).ins.length = f.joined r
          · exact absurd (by rw [← h3]; conv => lhs; rw [← List.take_append_drop (f.blockAt i).ins.length l, h2]) h
          · simp [h3]
        · simp [h2]
      · simp [h1]
def pathsOk (l : List (List Int)) : Prop := l.length * 24 ≤ reachBytes ∧ ∀ p ∈ l, p.length * 8 ≤ reachBytes
theorem pathsOk.len {l : List (List Int)} (h : pathsOk l) : l.length ≤ 10000000000000 ∧ ∀ p ∈ l, p.length ≤ big := by
  have h1 := h.1
  simp only [reachBytes] at h1
  refine ⟨?_, fun p hp => ?_⟩
  · have : l.length * 24 ≤ 140737488351232 := h1
    by_cases e : l.length ≤ 10000000000000
    · exact e
    · exfalso; omega
  · have h2 := h.2 p hp
    simp only [reachBytes] at h2
    simp only [big]; omega
def fol (f : BFunc) : List Int → Prop
  | i :: j :: r => (f.blockAt i).fin = 1 ∧ (f.blockAt i).to = j ∧ fol f (j :: r)
  | _ => True
theorem iget_cons (i : Int) (r : List Int) (k : Nat) : iget (i :: r) ((k + 1 : Nat) : Int) = iget r (k : Int) := by simp [iget]
theorem fol_of (f : BFunc) : ∀ (p : List Int), (∀ k, k < p.length - 1 → okAt f p k = true) ↔ fol f p
  | [] => by simp [fol]
  | [i] => by simp [fol]
  | i :: j :: r => by
    have ih := fol_of f (j :: r)
    unfold fol
    rw [← ih]
    constructor
    · intro h
      have h0 := h 0 (by simp)
      simp only [okAt, Bool.and_eq_true, beq_iff_eq] at h0
      have e0 : iget (i :: j :: r) ((0 : Nat) : Int) = i := by simp [iget]
      have e1 : iget (i :: j :: r) ((0 + 1 : Nat) : Int) = j := by simp [iget]
      rw [e0, e1] at h0
      refine ⟨h0.1, h0.2, fun k hk => ?_⟩
      have h1 := h (k + 1) (by simp at hk ⊢; omega)
      simp only [okAt] at h1 ⊢
      rwa [iget_cons, iget_cons] at h1
    · rintro ⟨h1, h2, h3⟩ k hk
      cases k with
      | zero =>
        have e0 : iget (i :: j :: r) ((0 : Nat) : Int) = i := by simp [iget]
        have e1 : iget (i :: j :: r) ((0 + 1 : Nat) : Int) = j := by simp [iget]
        simp only [okAt, e0, e1, h1, h2]; simp
      | succ k =>
        have := h3 k (by simp at hk ⊢; omega)
        simp only [okAt] at this ⊢
        rwa [iget_cons, iget_cons]
theorem followsB_iff (f : BFunc) (p : List Int) : followsB f p = true ↔ fol f p := by
  rw [← fol_of, followsB, List.all_eq_true]
  simp
structure Holds (old new : BFunc) (paths : List (List Int)) : Prop where
  ne : paths.length ≠ 0
  len : paths.length = new.blocks.length
  regs : old.regs = new.regs
  all : ∀ p ∈ paths, inF old.blocks.length p
  head : headZ (pathK paths 0) = 0
  fol : ∀ (k : Nat) (p : List Int), paths[k]? = some p → fol old p
  ins : ∀ (k : Nat) (p : List Int), paths[k]? = some p → (new.blockAt k).ins = old.joined p
  leads : ∀ (k : Nat) (p : List Int), paths[k]? = some p → leadsB (old.blockAt (lastOf p)) (new.blockAt k) paths = true
theorem inF_pathIn {n : Nat} {p : List Int} (h : inF n p) : pathIn n p = true := by
  simp only [pathIn, Bool.and_eq_true, Bool.not_eq_true', List.all_eq_true, decide_eq_false_iff_not, beq_eq_false_iff_ne]
  exact ⟨fun e => h.1 (List.length_eq_zero_iff.1 e), fun i hi => by have := h.2 i hi; omega⟩
theorem check_iff {old new : BFunc} {paths : List (List Int)} : checkB old new paths = true ↔ Holds old new paths := by
  simp only [checkB, Bool.and_eq_true, Bool.not_eq_true', beq_eq_false_iff_ne, bne_eq_false_iff_eq, List.all_eq_true]
  constructor
  · rintro ⟨h1, h2, h3, h4, h5, h6⟩
    have key : ∀ (k : Nat) (p : List Int), paths[k]? = some p → stepB old new paths (p, k) = true := fun k p hp => h6 (p, k) (List.mem_of_getElem? (zipIdx_get hp))
    refine ⟨h1, h2, h3, fun p hp => pathIn_inF (h4 p hp), h5, fun k p hp => ?_, fun k p hp => ?_, fun k p hp => ?_⟩
    all_goals
      have := key k p hp
      simp only [stepB, Bool.and_eq_true] at this
    · exact (followsB_iff _ _).1 this.1
    · have h := this.2.1
      rw [madeR_eq] at h
      simpa using h
    · exact this.2.2
  · intro h
    refine ⟨h.ne, h.len, h.regs, fun p hp => inF_pathIn (h.all p hp), h.head, fun q hq => ?_⟩
    obtain ⟨p, k⟩ := q
    obtain ⟨i, hi⟩ := List.getElem?_of_mem hq
    have hlt : i < paths.length := by
      have := (List.getElem?_eq_some_iff.1 hi).1
      simpa using this
    obtain ⟨x, hx⟩ := get_of_lt hlt
    rw [zipIdx_get hx] at hi
    cases hi
    simp only [stepB, Bool.and_eq_true]
    refine ⟨(followsB_iff _ _).2 (h.fol _ _ hx), ?_, h.leads _ _ hx⟩
    rw [madeR_eq]
    simpa using h.ins _ _ hx
section
variable {A B C : BFunc} {P Q : List (List Int)}
theorem leadsB_spec {last b : Block} {paths : List (List Int)} (h : leadsB last b paths = true) : b.fin = last.fin ∧ b.v = last.v ∧ (b.fin = 1 ∨ b.fin = 2 → beginsB paths b.to last.to = true) ∧ (¬ (b.fin = 1 ∨ b.fin = 2) → b.to = last.to) ∧ (b.fin = 2 → beginsB paths b.els last.els = true) ∧ (b.fin ≠ 2 → b.els = last.els) := by
  simp only [leadsB, Bool.and_eq_true, Bool.not_eq_true', bne_eq_false_iff_eq] at h
  obtain ⟨h1, h2, h3, h4⟩ := h
  refine ⟨h1, h2, fun e => ?_, fun e => ?_, fun e => ?_, fun e => ?_⟩
  · have : (b.fin == 1 || b.fin == 2) = true := by rcases e with e | e <;> simp [e]
    simpa only [leadsTo, this, cond_true] using h3
  · have : (b.fin == 1 || b.fin == 2) = false := by simp at e ⊢; exact e
    simpa [leadsTo, this] using h3
  · simpa [leadsEl, e] using h4
  · have : (b.fin == 2) = false := by simpa using e
    simpa [leadsEl, this] using h4
theorem beginsB_spec {paths : List (List Int)} {k i : Int} (h : beginsB paths k i = true) : 0 ≤ k ∧ k < paths.length ∧ headZ (pathK paths k) = i := by
  simp only [beginsB, Bool.and_eq_true, decide_eq_true_eq, beq_iff_eq] at h
  exact ⟨h.1, h.2.1, h.2.2⟩
end
section
variable {call call' : Int → Mach → Mach} {s : ByteArray} {fuel : Int}
variable {ok : Int → Prop} {old new : BFunc}
end
def Blocks.put (b : Blocks) (f : BFunc) : Blocks := ⟨b.words, b.funcs.set (b.funcs.length - 1) f⟩
theorem ends_fin {x : Block} {n r : Int} (h : x.ends n r = true) : x.fin = 1 ∨ x.fin = 2 ∨ x.fin = 3 := by
  unfold Block.ends at h
  cases e1 : x.fin == 1 with
  | true => exact .inl (by simpa using e1)
  | false =>
    cases e2 : x.fin == 2 with
    | true => exact .inr (.inl (by simpa using e2))
    | false =>
      rw [e1, e2] at h
      simp at h
      exact .inr (.inr h.1)
def Mach.tick (m : Mach) : Mach := { m with steps := m.steps + 1 }
def kblk (call : Int → Mach → Mach) (s : ByteArray) (f : BFunc) : Nat → Int → List Int → Mach → Mach
  | 0, _, _, m => { m with fin := 5 }
  | g + 1, i, regs, m =>
    match f.blocks[i.toNat]? with
    | none => m
    | some k => bif (kins call s k.ins regs m.tick).1 && !(k.fin == 3) then kblk call s f g (k.next (kins call s k.ins regs m.tick).2.1) (kins call s k.ins regs m.tick).2.1 (kins call s k.ins regs m.tick).2.2 else (kins call s k.ins regs m.tick).2.2
def kfun (b : Blocks) (s : ByteArray) (G : Nat) : Nat → Int → Mach → Mach
  | 0, _, m => m
  | n + 1, i, m =>
    match b.funcs[i.toNat]? with
    | none => m
    | some f => kblk (kfun b s G n) s f G 0 (List.replicate f.regs.toNat 0) m
theorem foldl_len (l : List Tac) : ∀ S : SS, (l.foldl SS.step S).regs.length = S.regs.length := by
  induction l with
  | nil => exact fun S => rfl
  | cons t l ih => exact fun S => by rw [List.foldl_cons, ih, SS.step_len]
theorem step_calls {ok : Int → Prop} {S : SS} (hS : ∀ e ∈ S.effs, e.op = 10 → ok e.base) {t : Tac} (hop : 1 ≤ t.op ∧ t.op ≤ 10) (ht : t.op = 10 → ok t.base) : ∀ e ∈ (S.step t).effs, e.op = 10 → ok e.base := by
  have hap : ∀ e : SE, (e.op = 10 → ok e.base) → ∀ x ∈ S.effs ++ [e], x.op = 10 → ok x.base := fun e he x hx => by
    simp only [List.mem_append, List.mem_singleton] at hx
    rcases hx with hx | rfl
    · exact hS x hx
    · exact he
  unfold SS.step
  cases h1 : t.op == 1 with
  | true => exact hS
  | false =>
  cases h2 : t.op == 2 with
  | true => exact hS
  | false =>
  cases h3 : t.op == 3 with
  | true =>
    show ∀ e ∈ (S.div t).effs, e.op = 10 → ok e.base
    unfold SS.div
    cases trisky t.k (tget S.regs t.b) with
    | true => exact hap _ (fun h => absurd h (by decide : (3 : Int) ≠ 10))
    | false => exact hS
  | false =>
  cases h4 : t.op == 4 with
  | true => exact hS
  | false =>
  cases h5 : t.op == 5 with
  | true => exact hap ⟨false, 5, 0, t.base, 0, some (tget S.regs t.a), none⟩ (fun h => absurd h (by decide : (5 : Int) ≠ 10))
  | false =>
  cases h6 : t.op == 6 with
  | true => exact hap ⟨false, 6, 0, t.base, t.size, some (tget S.regs t.a), none⟩ (fun h => absurd h (by decide : (6 : Int) ≠ 10))
  | false =>
  cases h7 : t.op == 7 with
  | true => exact hap ⟨false, 7, 0, t.base, t.size, some (tget S.regs t.a), some (tget S.regs t.b)⟩ (fun h => absurd h (by decide : (7 : Int) ≠ 10))
  | false =>
  cases h8 : t.op == 8 with
  | true => exact hap ⟨false, 8, 0, 0, 0, none, none⟩ (fun h => absurd h (by decide : (8 : Int) ≠ 10))
  | false =>
  cases h9 : t.op == 9 with
  | true => exact hap ⟨false, 9, 0, 0, 0, some (tget S.regs t.a), none⟩ (fun h => absurd h (by decide : (9 : Int) ≠ 10))
  | false => exact hap ⟨false, 10, 0, t.base, 0, none, none⟩ (fun _ => ht (by simp at h1 h2 h3 h4 h5 h6 h7 h8 h9; omega))
theorem foldl_calls {ok : Int → Prop} : ∀ (l : List Tac), (∀ t ∈ l, (1 ≤ t.op ∧ t.op ≤ 10) ∧ (t.op = 10 → ok t.base)) → ∀ S : SS, (∀ e ∈ S.effs, e.op = 10 → ok e.base) → ∀ e ∈ (l.foldl SS.step S).effs, e.op = 10 → ok e.base
  | [], _, S, hS => hS
  | t :: l, hl, S, hS => foldl_calls l (fun t h => hl t (by simp [h])) _ (step_calls hS (hl t (by simp)).1 (hl t (by simp)).2)
theorem inv0 {R : Nat} {ρ : List Int} {m : Mach} (hl : ρ.length = R) (h0 : m.fin = 0) {h : EH} (hh : h = ⟨[m.words], [], m.core⟩) : Inv ρ ⟨symR R, [], 0⟩ ρ m h := by
  subst hh
  refine ⟨by rw [hl, symR_len], fun z => ?_, fun t ht => ?_, rfl, rfl, ⟨Int.le_refl _, rfl⟩, rfl, h0⟩
  · show rget ρ z = ev ρ _ (((symR R)[z.toNat]?).getD (.cst 0))
    by_cases hz : z.toNat < R
    · have : (symR R)[z.toNat]? = some (.old z.toNat) := by simp [symR, hz]
      rw [this]
      show rget ρ z = rget ρ ((z.toNat : Nat) : Int)
      unfold rget; rw [Int.toNat_natCast]
    · have : (symR R)[z.toNat]? = none := by rw [List.getElem?_eq_none_iff, symR_len]; omega
      rw [this]
      show rget ρ z = 0
      unfold rget
      rw [List.getElem?_eq_none_iff.2 (by omega)]; rfl
  · simp only [symR, List.mem_map] at ht
    obtain ⟨v, _, rfl⟩ := ht
    exact trivial
def insT (l : List Tac) : Prop := ∀ t ∈ l, (1 ≤ t.op ∧ t.op ≤ 10) ∧ (t.op = 3 → 4 ≤ t.k ∧ t.k ≤ 15)
def BFunc.tops (f : BFunc) : Prop := ∀ x ∈ f.blocks, insT x.ins
theorem tops_of {f : BFunc} (h : f.stands = true) (hw : f.words) : f.tops := fun x hx t ht => by
  have hT := stands_tact h hx ht (hw x hx t ht)
  exact ⟨hT.op, hT.k⟩
structure Checked2 (old new : BFunc) (c : Cert) : Prop where
  g : GCheck old new c
  so : Standing old
  sn : Standing new
  to : old.tops
  tn : new.tops
theorem checked2 {old new : BFunc} {c : Cert} (ho : old.words) (hn : new.words) (h : vcheck old new c = true) : Checked2 old new c := by
  have hG := (vcheck_iff ho hn).1 h
  have hV := vshaped_of hG.sh
  exact ⟨hG, stands_of hV.so, stands_of hV.sn, tops_of hV.so ho, tops_of hV.sn hn⟩
theorem next_memK {x : Block} (hf : x.fin = 1 ∨ x.fin = 2 ∨ x.fin = 3) (h3 : (x.fin == 3) = false) (regs : List Int) : x.next regs ∈ x.nexts := by
  unfold Block.next Block.nexts
  rcases hf with e | e | e
  · rw [e]; simp
  · rw [e]
    cases (2 : Int) == 2 && rget regs x.v == 0 <;> simp
  · rw [e] at h3; cases h3
theorem next_eq {x y : Block} (h : x.fin = y.fin ∧ x.to = y.to ∧ x.els = y.els) {r r' : List Int} (hv : x.fin = 2 → rget r x.v = rget r' y.v) : x.next r = y.next r' := by
  unfold Block.next
  rw [h.1, h.2.1, h.2.2]
  by_cases hf : y.fin = 2
  · rw [hv (h.1.trans hf)]
  · rw [show (y.fin == 2) = false by simpa using hf]; rfl
theorem agree_refl (ρ : List Int) (row : List Bool) : agreeOn ρ ρ row := fun _ _ => rfl
section
variable {call call' : Int → Mach → Mach} {s : ByteArray} {ok : Int → Prop}
theorem kblock_eq (hc : callsEq call call' ok) {R : Nat} {x y : Block} {c : Cert} {i : Int} {next : List Int} (hG : gsame R x y c i next)
    (hx : insT x.ins) (hy : insT y.ins) (hok : ∀ t ∈ x.ins, t.op = 10 → ok t.base) {ρ ρ' : List Int} (hl : ρ.length = R) (hl' : ρ'.length = R) (ha : agreeOn ρ ρ' (c.at' i)) {m : Mach} (h0 : m.fin = 0) :
    (kins call s x.ins ρ m).1 = (kins call' s y.ins ρ' m).1 ∧ (kins call s x.ins ρ m).2.2 = (kins call' s y.ins ρ' m).2.2 ∧ ((kins call s x.ins ρ m).1 = true → (kins call s x.ins ρ m).2.2.fin = 0 ∧ (kins call s x.ins ρ m).2.1.length = R ∧ (kins call' s y.ins ρ' m).2.1.length = R ∧
      (∀ k ∈ next, agreeOn (kins call s x.ins ρ m).2.1 (kins call' s y.ins ρ' m).2.1 (c.at' k)) ∧ (x.fin = 2 → rget (kins call s x.ins ρ m).2.1 x.v = rget (kins call' s y.ins ρ' m).2.1 y.v)) := by
  obtain ⟨g1, g2, g3, g4⟩ := hG
  obtain ⟨es, he, r, hr1, hr2⟩ := kins_fx (call := call) (s := s) x.ins hx ⟨symR R, [], 0⟩ ρ m ⟨[m.words], [], m.core⟩ (inv0 hl h0 rfl)
  obtain ⟨es', he', r', hr1', hr2'⟩ := kins_fx (call := call') (s := s) y.ins hy ⟨symR R, [], 0⟩ ρ' m ⟨[m.words], [], m.core⟩ (inv0 hl' h0 rfl)
  have e1 : es = (srun (symR R) x.ins).effs := by rw [srun, he]; rfl
  have e2 : es' = (srun (symR R) y.ins).effs := by rw [srun, he']; rfl
  have hees : es = es' := by rw [e1, e2, g1]
  subst hees
  have hoe : ∀ e ∈ es, e.op = 10 → ok e.base := by
    rw [e1]
    exact foldl_calls x.ins (fun t ht => ⟨(hx t ht).1, hok t ht⟩) _ (fun e he => by simp at he)
  have hd := fxs_det hc ha hoe (by rw [e2]; exact g2) hr1 hr1'
  subst hd
  cases r with
  | stop f c => exact ⟨hr2.1.trans hr2'.1.symm, mach_ext (hr2.2.2.2.trans hr2'.2.2.2.symm) (hr2.2.1.trans hr2'.2.1.symm), fun h => by rw [hr2.1] at h; cases h⟩
  | ok h =>
    obtain ⟨p1, I1⟩ := hr2
    obtain ⟨q1, I2⟩ := hr2'
    have key : ∀ {z z' : Int}, tget (srun (symR R) x.ins).regs z = tget (srun (symR R) y.ins).regs z' → (tget (srun (symR R) y.ins).regs z').inR (c.at' i) → rget (kins call s x.ins ρ m).2.1 z = rget (kins call' s y.ins ρ' m).2.1 z' := fun {z z'} h1 h2 => by
      have a1 := I1.reg z
      have a2 := I2.reg z'
      have h1' : tget (x.ins.foldl SS.step ⟨symR R, [], 0⟩).regs z = tget (y.ins.foldl SS.step ⟨symR R, [], 0⟩).regs z' := h1
      rw [a1, a2, h1']
      exact ev_inR ha h2
    refine ⟨p1.trans q1.symm, mach_ext (I1.core.symm.trans I2.core) (I1.fin.trans I2.fin.symm), fun _ => ⟨I1.fin, ?_, ?_, fun k hk j hj => ?_, fun hf => ?_⟩⟩
    · rw [I1.len, foldl_len, symR_len]
    · rw [I2.len, foldl_len, symR_len]
    · obtain ⟨u1, u2⟩ := g4 k hk j hj
      exact key u1 u2
    · obtain ⟨u1, u2⟩ := g3 hf
      exact key u1 u2
variable {old new : BFunc} {c : Cert}
theorem kblk_at {f : BFunc} {k : Block} {i : Int} (hk : f.blocks[i.toNat]? = some k) (g : Nat) (regs : List Int) (m : Mach) : kblk call s f (g + 1) i regs m =
    bif (kins call s k.ins regs m.tick).1 && !(k.fin == 3) then kblk call s f g (k.next (kins call s k.ins regs m.tick).2.1) (kins call s k.ins regs m.tick).2.1 (kins call s k.ins regs m.tick).2.2 else (kins call s k.ins regs m.tick).2.2 := by
  rw [kblk, hk]
theorem kblk_eq (hc : callsEq call call' ok) (hC : Checked2 old new c) (hok : ∀ x ∈ old.blocks, ∀ t ∈ x.ins, t.op = 10 → ok t.base) :
    ∀ (g : Nat) (i : Int) (ρ ρ' : List Int) (m : Mach), 0 ≤ i ∧ i < old.blocks.length → ρ.length = old.regs.toNat → ρ'.length = old.regs.toNat → agreeOn ρ ρ' (c.at' i) → m.fin = 0 → kblk call s old g i ρ m = kblk call' s new g i ρ' m
  | 0, _, _, _, _, _, _, _, _, _ => rfl
  | g + 1, i, ρ, ρ', m, hi, hl, hl', ha, h0 => by
    have hV := vshaped_of hC.g.sh
    obtain ⟨x, hx⟩ := get_of_lt (l := old.blocks) (k := i.toNat) (by omega)
    obtain ⟨y, hy⟩ := get_of_lt (l := new.blocks) (k := i.toNat) (by have := hV.len; omega)
    have hxm := List.mem_of_getElem? hx
    have hym := List.mem_of_getElem? hy
    have hi2 : ((i.toNat : Nat) : Int) = i := by omega
    have hgs := hC.g.b i.toNat x y hx hy
    rw [hi2] at hgs
    have hb := hV.b i.toNat x y hx hy
    obtain ⟨h1, h2, h3⟩ := kblock_eq (call := call) (call' := call') (s := s) hc hgs (hC.to x hxm) (hC.tn y hym) (hok x hxm) hl hl' ha (m := m.tick) h0
    rw [kblk_at hx, kblk_at hy, ← h1, ← h2, ← hb.1]
    generalize hX : kins call s x.ins ρ m.tick = X at h1 h2 h3 ⊢
    generalize hY : kins call' s y.ins ρ' m.tick = Y at h1 h2 h3 ⊢
    obtain ⟨X1, X2, X3⟩ := X
    obtain ⟨Y1, Y2, Y3⟩ := Y
    cases X1 with
    | false => rfl
    | true =>
      obtain ⟨h4, h5, h6, h7, h8⟩ := h3 rfl
      cases hfin : x.fin == 3 with
      | true => rfl
      | false =>
        simp only [Bool.not_false, Bool.and_self, cond_true]
        have hn := next_eq hb (r := X2) (r' := Y2) h8
        have hnm := next_memK (hC.so.fin x hxm) hfin X2
        rw [← hn]
        exact kblk_eq hc hC hok g _ _ _ _ (hC.so.next x hxm _ hnm) h5 h6 (h7 _ hnm) h4
end
def okT : Int → Prop := fun _ => True
theorem Mach.Le.tick {x y : Mach} (h : x.Le y) : x.tick.Le y.tick := ⟨h.words, h.out, h.read, h.fin, Nat.succ_le_succ h.steps⟩
theorem Mach.Le.late {x y : Mach} (h : x.Le y) : x.tick.Le y := ⟨h.words, h.out, h.read, h.fin, Nat.le_succ_of_le h.steps⟩
section
variable {call call' : Int → Mach → Mach} {s : ByteArray}
theorem kins_sim (hc : callsSim call call' okT) : ∀ (l : List Tac) (regs : List Int) {m m' : Mach}, m.fin = 0 → m.Le m' → insSim (kins call s l regs m) (kins call' s l regs m')
  | [], regs, m, m', h0, h => .inr ⟨rfl, rfl, h, fun _ => h0, fun e => by cases e⟩
  | t :: r, regs, m, m', h0, h => by
    unfold kins
    obtain ⟨b1, b2⟩ := mone_sim (s := s) hc t (fun _ => trivial) regs h0 h
    rcases b2 with b2 | b2
    · rw [show ((mone call s t regs m).2.fin == 0) = false by rw [b2]; rfl]
      exact .inl ⟨rfl, b2⟩
    · rw [b2.fin, ← b1]
      cases hf : (mone call s t regs m).2.fin == 0 with
      | false =>
        simp only [cond_false]
        exact .inr ⟨rfl, b1, b2, (fun e => by cases e), fun _ => by simpa using hf⟩
      | true =>
        simp only [cond_true]
        exact kins_sim hc r _ (by simpa using hf) b2
theorem kins_append : ∀ (l1 l2 : List Tac) (regs : List Int) (m : Mach), kins call s (l1 ++ l2) regs m = bif (kins call s l1 regs m).1 then kins call s l2 (kins call s l1 regs m).2.1 (kins call s l1 regs m).2.2 else kins call s l1 regs m
  | [], l2, regs, m => rfl
  | t :: r, l2, regs, m => by
    simp only [List.cons_append, kins]
    cases (mone call s t regs m).2.fin == 0 with
    | false => rfl
    | true => exact kins_append r l2 _ _
def closeK (call : Int → Mach → Mach) (s : ByteArray) (f : BFunc) (k : Block) (g : Nat) (regs : List Int) (m : Mach) : Mach :=
  bif k.fin == 3 then m else kblk call s f g (k.next regs) regs m
theorem kblk_get {f : BFunc} {i : Int} {k : Block} (hk : f.blocks[i.toNat]? = some k) (g : Nat) (regs : List Int) (m : Mach) : kblk call s f (g + 1) i regs m =
    bif (kins call s k.ins regs m.tick).1 then closeK call s f k g (kins call s k.ins regs m.tick).2.1 (kins call s k.ins regs m.tick).2.2 else (kins call s k.ins regs m.tick).2.2 := by
  rw [kblk_at hk, closeK]
  cases (kins call s k.ins regs m.tick).1 <;> cases k.fin == 3 <;> rfl
theorem kblk_open {f : BFunc} {i : Int} (hi : 0 ≤ i ∧ i < f.blocks.length) (g : Nat) (regs : List Int) (m : Mach) : kblk call s f (g + 1) i regs m =
    bif (kins call s (f.blockAt i).ins regs m.tick).1 then closeK call s f (f.blockAt i) g (kins call s (f.blockAt i).ins regs m.tick).2.1 (kins call s (f.blockAt i).ins regs m.tick).2.2 else (kins call s (f.blockAt i).ins regs m.tick).2.2 :=
  kblk_get (blockAt_get hi) g regs m
theorem kblk_mono (hc : callsSim call call' okT) {f : BFunc} : ∀ (g : Nat) (i : Int) (regs : List Int) {m m' : Mach}, m.fin = 0 → m.Le m' → (kblk call s f g i regs m).Sim (kblk call' s f g i regs m')
  | 0, _, _, _, _, _, _ => .inl rfl
  | g + 1, i, regs, m, m', h0, h => by
    cases hk : f.blocks[i.toNat]? with
    | none => unfold kblk; rw [hk]; exact .inr h
    | some k =>
      rw [kblk_get hk, kblk_get hk]
      have hs := kins_sim (s := s) hc k.ins regs (m := m.tick) (m' := m'.tick) h0 h.tick
      generalize kins call s k.ins regs m.tick = X at hs ⊢
      generalize kins call' s k.ins regs m'.tick = Y at hs ⊢
      obtain ⟨X1, X2, X3⟩ := X
      obtain ⟨Y1, Y2, Y3⟩ := Y
      rcases hs with ⟨h1, h2⟩ | ⟨h1, h2, h3, h4, h5⟩
      · simp only at h1 h2; subst h1; exact .inl h2
      · simp only at h1 h2 h3 h4 h5
        subst h1; subst h2
        cases X1 with
        | false => exact .inr h3
        | true =>
          simp only [cond_true]
          unfold closeK
          cases hfin : k.fin == 3 with
          | true => exact .inr h3
          | false => exact kblk_mono hc g _ _ (h4 rfl) h3
variable {old new : BFunc}
theorem kpath_sim (hc : callsSim call call' okT) :
    ∀ (p : List Int), p ≠ [] → (∀ i ∈ p, 0 ≤ i ∧ i < old.blocks.length) → fol old p → ∀ (g : Nat) (regs : List Int) (m m' : Mach), m.fin = 0 → m.tick.Le m' →
      (kblk call s old g (headZ p) regs m).fin = 5 ∨
      ((kins call' s (old.joined p) regs m').1 = false ∧ (kblk call s old g (headZ p) regs m).Le (kins call' s (old.joined p) regs m').2.2) ∨
      ((kins call' s (old.joined p) regs m').1 = true ∧ ∃ m2 g2, m2.Le (kins call' s (old.joined p) regs m').2.2 ∧ m2.fin = 0 ∧ g2 < g ∧
        kblk call s old g (headZ p) regs m = closeK call s old (old.blockAt (lastOf p)) g2 (kins call' s (old.joined p) regs m').2.1 m2)
  | [], h, _, _, _, _, _, _, _, _ => absurd rfl h
  | _, _, _, _, 0, _, _, _, _, _ => .inl rfl
  | [i], _, hin, _, g1 + 1, regs, m, m', h0, h => by
    have hi := hin i (by simp)
    have e : old.joined [i] = (old.blockAt i).ins := by simp [BFunc.joined]
    have hs := kins_sim (s := s) hc (old.blockAt i).ins regs (m := m.tick) h0 h
    rw [e, show headZ [i] = i from rfl, show lastOf [i] = i from rfl, kblk_open hi]
    generalize kins call s (old.blockAt i).ins regs m.tick = X at hs ⊢
    generalize kins call' s (old.blockAt i).ins regs m' = Y at hs ⊢
    obtain ⟨X1, X2, X3⟩ := X
    obtain ⟨Y1, Y2, Y3⟩ := Y
    rcases hs with ⟨h1, h2⟩ | ⟨h1, h2, h3, h4, h5⟩
    · simp only at h1 h2; subst h1; exact .inl h2
    · simp only at h1 h2 h3 h4 h5
      subst h1; subst h2
      cases X1 with
      | false => exact .inr (.inl ⟨rfl, h3⟩)
      | true => exact .inr (.inr ⟨rfl, X3, g1, h3, h4 rfl, Nat.lt_succ_self _, rfl⟩)
  | i :: j :: r, _, hin, hfo, g1 + 1, regs, m, m', h0, h => by
    have hi := hin i (by simp)
    have e : old.joined (i :: j :: r) = (old.blockAt i).ins ++ old.joined (j :: r) := by simp [BFunc.joined]
    have hs := kins_sim (s := s) hc (old.blockAt i).ins regs (m := m.tick) h0 h
    have hl : lastOf (i :: j :: r) = lastOf (j :: r) := by simp [lastOf]
    rw [e, show headZ (i :: j :: r) = i from rfl, hl, kblk_open hi, kins_append]
    generalize kins call s (old.blockAt i).ins regs m.tick = X at hs ⊢
    generalize kins call' s (old.blockAt i).ins regs m' = Y at hs ⊢
    obtain ⟨X1, X2, X3⟩ := X
    obtain ⟨Y1, Y2, Y3⟩ := Y
    rcases hs with ⟨h1, h2⟩ | ⟨h1, h2, h3, h4, h5⟩
    · simp only at h1 h2; subst h1; exact .inl h2
    · simp only at h1 h2 h3 h4 h5
      subst h1; subst h2
      cases X1 with
      | false => exact .inr (.inl ⟨rfl, h3⟩)
      | true =>
        simp only [cond_true]
        have hx0 := h4 rfl
        have hn3 : ((old.blockAt i).fin == 3) = false := by rw [hfo.1]; rfl
        have hnx : (old.blockAt i).next X2 = j := by simp [Block.next, hfo.1, hfo.2.1]
        have ec : closeK call s old (old.blockAt i) g1 X2 X3 = kblk call s old g1 j X2 X3 := by rw [closeK, hn3, hnx]; rfl
        have ih := kpath_sim hc (j :: r) (by simp) (fun x hx => hin x (by simp at hx ⊢; exact .inr hx)) hfo.2.2 g1 X2 X3 Y3 hx0 h3.late
        rw [show headZ (j :: r) = j from rfl] at ih
        rw [ec]
        rcases ih with ih | ih | ⟨ih1, m2, g2, q1, q2, q4, q5⟩
        · exact .inl ih
        · exact .inr (.inl ih)
        · exact .inr (.inr ⟨ih1, m2, g2, q1, q2, by omega, q5⟩)
theorem ktidy_sim {paths : List (List Int)} (hH : Holds old new paths) (hend : ∀ x ∈ old.blocks, x.fin = 1 ∨ x.fin = 2 ∨ x.fin = 3) (hc : callsSim call call' okT) :
    ∀ (n g : Nat), g ≤ n → ∀ (g' : Nat) (k : Int) (regs : List Int) (m m' : Mach), m.fin = 0 → m.Le m' → g ≤ g' → 0 ≤ k ∧ k < paths.length →
      (kblk call s old g (headZ (pathK paths k)) regs m).Sim (kblk call' s new g' k regs m')
  | n, 0, _, _, _, _, _, _, _, _, _, _ => .inl rfl
  | 0, g + 1, hgn, _, _, _, _, _, _, _, _, _ => absurd hgn (by omega)
  | n + 1, g + 1, hgn, g', k, regs, m, m', h0, h, hg, hk => by
    obtain ⟨g1', rfl⟩ : ∃ g1, g' = g1 + 1 := ⟨g' - 1, by omega⟩
    have hpk := pathK_get hk
    have ek : ((k.toNat : Nat) : Int) = k := Int.toNat_of_nonneg hk.1
    have hin := hH.all _ (List.mem_of_getElem? hpk)
    have hins := hH.ins _ _ hpk
    have hle := hH.leads _ _ hpk
    rw [ek] at hins hle
    have hkn : 0 ≤ k ∧ k < new.blocks.length := by rw [← hH.len]; exact hk
    have ps := kpath_sim (call := call) (call' := call') (s := s) hc (pathK paths k) hin.1 hin.2 (hH.fol _ _ hpk) (g + 1) regs m m'.tick h0 h.tick
    rw [kblk_open hkn, hins]
    generalize kins call' s (old.joined (pathK paths k)) regs m'.tick = Y at ps ⊢
    generalize hX : kblk call s old (g + 1) (headZ (pathK paths k)) regs m = X at ps ⊢
    obtain ⟨Y1, Y2, Y3⟩ := Y
    rcases ps with ps | ⟨p1, p2⟩ | ⟨p1, m2, g2, q1, q2, q4, q5⟩
    · exact .inl ps
    · simp only at p1; subst p1; exact .inr p2
    · simp only at p1 q1 q5
      subst p1
      simp only [cond_true]
      rw [q5]
      unfold closeK
      obtain ⟨l1, l2, l3, l4, l5, l6⟩ := leadsB_spec hle
      have hlast := hin.2 _ (last_mem hin.1)
      have hfin := hend _ (List.mem_of_getElem? (blockAt_get hlast))
      rw [l1]
      cases h3 : (old.blockAt (lastOf (pathK paths k))).fin == 3 with
      | true => exact .inr q1
      | false =>
        simp only [cond_false]
        have h12 : (new.blockAt k).fin = 1 ∨ (new.blockAt k).fin = 2 := by
          rw [l1]
          rcases hfin with e | e | e
          · exact .inl e
          · exact .inr e
          · rw [e] at h3; cases h3
        have bt := beginsB_spec (l3 h12)
        have key : 0 ≤ (new.blockAt k).next Y2 ∧ (new.blockAt k).next Y2 < paths.length ∧ (old.blockAt (lastOf (pathK paths k))).next Y2 = headZ (pathK paths ((new.blockAt k).next Y2)) := by
          unfold Block.next
          rw [← l1, ← l2]
          cases hc2 : (new.blockAt k).fin == 2 && rget Y2 (new.blockAt k).v == 0 with
          | false => exact ⟨bt.1, bt.2.1, bt.2.2.symm⟩
          | true =>
            simp only [Bool.and_eq_true, beq_iff_eq] at hc2
            have be := beginsB_spec (l5 hc2.1)
            exact ⟨be.1, be.2.1, be.2.2.symm⟩
        rw [key.2.2]
        exact ktidy_sim hH hend hc n g2 (by omega) g1' _ _ _ _ q2 q1 (by omega) ⟨key.1, key.2.1⟩
end
def FSq (f g : BFunc) : Prop := ∀ (call : Int → Mach → Mach) (s : ByteArray) (G : Nat), callsSim call call okT → ∀ m m', m.fin = 0 → m.Le m' →
  (kblk call s f G 0 (List.replicate f.regs.toNat 0) m).Sim (kblk call s g G 0 (List.replicate g.regs.toNat 0) m')
theorem FSq.rfl' (f : BFunc) : FSq f f := fun call s G hc m m' h0 h => kblk_mono hc G _ _ h0 h
theorem FSq.trans {f g h : BFunc} (h1 : FSq f g) (h2 : FSq g h) : FSq f h := fun call s G hc m m' h0 hl => (h1 call s G hc m m' h0 hl).trans (h2 call s G hc m' m' (hl.fin.trans h0) (Mach.Le.refl _))
theorem FSq.tidy {f g : BFunc} {paths : List (List Int)} (hH : Holds f g paths) (hend : ∀ x ∈ f.blocks, x.fin = 1 ∨ x.fin = 2 ∨ x.fin = 3) : FSq f g := fun call s G hc m m' h0 hl => by
  have := ktidy_sim (s := s) hH hend hc G G (Nat.le_refl _) G 0 (List.replicate f.regs.toNat 0) m m' h0 hl (Nat.le_refl _) ⟨Int.le_refl _, by have := hH.ne; omega⟩
  rw [hH.head] at this
  rw [← hH.regs]
  exact this
theorem FSq.valid {f g : BFunc} {c : Cert} (hC : Checked2 f g c) : FSq f g := fun call s G hc m m' h0 hl => by
  have hV := vshaped_of hC.g.sh
  have hn : 0 < f.blocks.length := by have := hC.so.ne; omega
  have he := kblk_eq (call := call) (call' := call) (s := s) (ok := okT) (fun i m _ _ => rfl) hC (fun _ _ _ _ _ => trivial) G 0 (List.replicate f.regs.toNat 0) (List.replicate f.regs.toNat 0) m ⟨Int.le_refl _, by omega⟩ (by simp) (by simp) (agree_refl _ _) h0
  rw [he, show f.regs = g.regs from hV.regs]
  exact kblk_mono hc G _ _ h0 hl
structure PS (b c : Blocks) : Prop where
  words : b.words = c.words
  len : b.funcs.length = c.funcs.length
  each : ∀ (i : Nat) (f g : BFunc), b.funcs[i]? = some f → c.funcs[i]? = some g → FSq f g
theorem kfun_self {b : Blocks} {s : ByteArray} {G : Nat} : ∀ n, callsSim (kfun b s G n) (kfun b s G n) okT
  | 0 => fun i m m' _ _ h => .inr h
  | n + 1 => fun i m m' _ h0 h => by
    unfold kfun
    cases hf : b.funcs[i.toNat]? with
    | none => exact .inr h
    | some f => exact kblk_mono (kfun_self n) G _ _ h0 h
theorem kfun_sim {b c : Blocks} (hP : PS b c) {s : ByteArray} {G : Nat} : ∀ n, callsSim (kfun b s G n) (kfun c s G n) okT
  | 0 => fun i m m' _ _ h => .inr h
  | n + 1 => fun i m m' _ h0 h => by
    unfold kfun
    cases hf : b.funcs[i.toNat]? with
    | none =>
      have : c.funcs[i.toNat]? = none := by rw [List.getElem?_eq_none_iff] at hf ⊢; have := hP.len; omega
      rw [this]; exact .inr h
    | some f =>
      obtain ⟨g, hg⟩ := get_of_lt (l := c.funcs) (k := i.toNat) (by have := (List.getElem?_eq_some_iff.1 hf).1; have := hP.len; omega)
      rw [hg]
      exact (hP.each _ f g hf hg _ s G (kfun_self n) m m' h0 h).trans (kblk_mono (kfun_sim hP n) G _ _ (h.fin.trans h0) (Mach.Le.refl _))
section
variable {call call' : Int → Mach → Mach} {s : ByteArray} {fuel : Int}
def insK (X Y : Bool × List Int × Mach) : Prop := X.1 = false ∧ X.2.2.fin = 5 ∨ X.1 = Y.1 ∧ X.2.1 = Y.2.1 ∧ (X.1 = true → X.2.2.fin = 0 ∧ X.2.2.tick.Le Y.2.2) ∧ (X.1 = false → X.2.2.Le Y.2.2)
theorem mstep_tick {m : Mach} (h : (mstep fuel m).1 = true) : (mstep fuel m).2 = m.tick := (mstep_true h).2
theorem mins_k (hc : callsSim call call' okT) : ∀ (l : List Tac) (regs : List Int) {m m' : Mach}, m.fin = 0 → m.tick.Le m' → insK (mins call s fuel l regs m) (kins call' s l regs m')
  | [], regs, m, m', h0, h => .inr ⟨rfl, rfl, fun _ => ⟨h0, h⟩, fun e => by cases e⟩
  | t :: r, regs, m, m', h0, h => by
    unfold mins kins
    cases h1 : (mstep fuel m).1 with
    | false => exact .inl ⟨rfl, mstep_false h1⟩
    | true =>
      rw [mstep_tick h1]
      obtain ⟨b1, b2⟩ := mone_sim (s := s) hc t (fun _ => trivial) regs (m := m.tick) h0 h
      simp only [cond_true]
      rcases b2 with b2 | b2
      · rw [show ((mone call s t regs m.tick).2.fin == 0) = false by rw [b2]; rfl]
        exact .inl ⟨rfl, b2⟩
      · rw [b2.fin, ← b1]
        cases hf : (mone call s t regs m.tick).2.fin == 0 with
        | false =>
          simp only [cond_false]
          exact .inr ⟨rfl, b1, (fun e => by cases e), fun _ => b2⟩
        | true =>
          simp only [cond_true]
          exact mins_k hc r _ (by simpa using hf) b2.late
theorem mblk_k (hc : callsSim call call' okT) (hcs : ∀ i m, m.steps ≤ (call i m).steps) {f : BFunc} :
    ∀ (g : Nat) (g' : Nat) (i : Int) (regs : List Int) (m m' : Mach), m.fin = 0 → m.Le m' → 0 < g → 0 < g' → gasOk fuel g m → gasOk fuel g' m → (mblk call s fuel f g i regs m).Sim (kblk call' s f g' i regs m')
  | 0, _, _, _, _, _, _, _, h, _, _, _ => absurd h (by omega)
  | _ + 1, 0, _, _, _, _, _, _, _, h, _, _ => absurd h (by omega)
  | g + 1, g' + 1, i, regs, m, m', h0, h, _, _, hg, hg' => by
    cases hk : f.blocks[i.toNat]? with
    | none => unfold mblk kblk; rw [hk]; exact .inr h
    | some k =>
      rw [kblk_get hk]
      unfold mblk
      rw [hk]
      have hs := mins_k (s := s) (fuel := fuel) hc k.ins regs (m := m) (m' := m'.tick) h0 h.tick
      have hst := mins_steps (s := s) (fuel := fuel) hcs k.ins regs m
      dsimp only
      generalize mins call s fuel k.ins regs m = X at hs hst ⊢
      generalize kins call' s k.ins regs m'.tick = Y at hs ⊢
      obtain ⟨X1, X2, X3⟩ := X
      obtain ⟨Y1, Y2, Y3⟩ := Y
      rcases hs with ⟨h1, h2⟩ | ⟨h1, h2, h3, h4⟩
      · simp only at h1 h2; subst h1; exact .inl h2
      · simp only at h1 h2 h3 h4 hst
        subst h1; subst h2
        cases X1 with
        | false => exact .inr (h4 rfl)
        | true =>
          obtain ⟨h5, h6⟩ := h3 rfl
          simp only [cond_true]
          unfold closeK
          cases hm : (mstep fuel X3).1 with
          | false => simp only [Bool.false_and, cond_false]; exact .inl (mstep_false hm)
          | true =>
            obtain ⟨e1, e2⟩ := mstep_true hm
            rw [mstep_tick hm]
            cases hfin : k.fin == 3 with
            | true => exact .inr h6
            | false =>
              simp only [Bool.not_false, Bool.and_self, cond_true, cond_false]
              refine mblk_k hc hcs g g' _ _ _ _ h5 h6 ?_ ?_ ?_ ?_
              · unfold gasOk at hg; omega
              · unfold gasOk at hg'; omega
              · unfold gasOk at hg ⊢; show _ < X3.steps + 1 + g; omega
              · unfold gasOk at hg' ⊢; show _ < X3.steps + 1 + g'; omega
end
theorem mfun_k {b : Blocks} {s : ByteArray} {fuel : Int} : ∀ n, callsSim (mfun b s fuel n) (kfun b s (fuel.toNat + 1) n) okT
  | 0 => fun i m m' _ _ h => .inr h
  | n + 1 => fun i m m' _ h0 h => by
    unfold mfun kfun
    cases hf : b.funcs[i.toNat]? with
    | none => exact .inr h
    | some f =>
      refine mblk_k (mfun_k n) (fun j m => mfun_steps n j m) _ _ _ _ _ _ h0 h (Nat.succ_pos _) (Nat.succ_pos _) ?_ ?_
      · unfold gasOk; omega
      · unfold gasOk; omega
structure BLe (K d : Nat) (x y : Mach) : Prop where
  words : y.words = x.words
  out : y.out = x.out
  read : y.read = x.read
  fin : y.fin = x.fin
  steps : y.steps + d ≤ K * x.steps
def BSim (K : Nat) (fuel : Int) (d : Nat) (x y : Mach) : Prop := x.fin = 5 ∨ fuel.toNat < K * x.steps ∨ BLe K d x y
def callsB (K : Nat) (fuel : Int) (call call' : Int → Mach → Mach) : Prop := ∀ i x y d, x.fin = 0 → BLe K d x y → BSim K fuel d (call i x) (call' i y)
section
variable {call call' : Int → Mach → Mach} {s : ByteArray} {fuel : Int} {K : Nat}
theorem mone_b (hc : callsB K fuel call call') (t : Tac) (regs : List Int) {x y : Mach} {d : Nat} (h0 : x.fin = 0) (h : BLe K d x y) :
    (mone call s t regs x).1 = (mone call' s t regs y).1 ∧ BSim K fuel d (mone call s t regs x).2 (mone call' s t regs y).2 := by
  obtain ⟨w, o, r, st, f⟩ := x
  obtain ⟨w', o', r', st', f'⟩ := y
  obtain ⟨h1, h2, h3, h4, h5⟩ := h
  simp only at h1 h2 h3 h4 h5
  subst h1; subst h2; subst h3; subst h4
  have hle : ∀ (a : List Int) (b : List UInt8) (c : Nat) (e : Int), BLe K d ⟨a, b, c, st, e⟩ ⟨a, b, c, st', e⟩ := fun a b c e => ⟨rfl, rfl, rfl, rfl, h5⟩
  have I : ∀ {x y : Mach}, BLe K d x y → BSim K fuel d x y := fun h => .inr (.inr h)
  unfold mone
  cases t.op == 1 with
  | true => exact ⟨rfl, I (hle _ _ _ _)⟩
  | false =>
  cases t.op == 2 with
  | true => exact ⟨rfl, I (hle _ _ _ _)⟩
  | false =>
  cases t.op == 3 with
  | true =>
    simp only [cond_true, cond_false]
    cases (wapp t.k (rget regs t.a) (rget regs t.b)).2 == 0 <;> exact ⟨rfl, I (hle _ _ _ _)⟩
  | false =>
  cases t.op == 4 with
  | true => exact ⟨rfl, I (hle _ _ _ _)⟩
  | false =>
  cases t.op == 5 with
  | true => exact ⟨rfl, I (hle _ _ _ _)⟩
  | false =>
  cases t.op == 6 with
  | true =>
    simp only [cond_true, cond_false]
    cases decide (rget regs t.a ≥ t.size) <;> exact ⟨rfl, I (hle _ _ _ _)⟩
  | false =>
  cases t.op == 7 with
  | true =>
    simp only [cond_true, cond_false]
    cases decide (rget regs t.a ≥ t.size) <;> exact ⟨rfl, I (hle _ _ _ _)⟩
  | false =>
  cases t.op == 8 with
  | true =>
    simp only [cond_true, cond_false]
    cases decide (r' < s.size) <;> exact ⟨rfl, I (hle _ _ _ _)⟩
  | false =>
  cases t.op == 9 with
  | true =>
    simp only [cond_true, cond_false]
    cases decide (o'.length ≥ 65536) <;> exact ⟨rfl, I (hle _ _ _ _)⟩
  | false =>
  cases h10 : t.op == 10 with
  | true => exact ⟨rfl, hc _ _ _ _ h0 (hle _ _ _ _)⟩
  | false => exact ⟨rfl, I (hle _ _ _ _)⟩
theorem kmone_steps (hcs : ∀ i m, m.steps ≤ (call i m).steps) (t : Tac) (regs : List Int) (m : Mach) : m.steps ≤ (mone call s t regs m).2.steps := by
  unfold mone
  cases t.op == 1 <;> simp only [cond_true, cond_false, Nat.le_refl]
  cases t.op == 2 <;> simp only [cond_true, cond_false, Nat.le_refl]
  cases t.op == 3 <;> simp only [cond_true, cond_false, Nat.le_refl]
  rotate_left
  · cases (wapp t.k (rget regs t.a) (rget regs t.b)).2 == 0 <;> simp only [cond_true, cond_false, Nat.le_refl]
  cases t.op == 4 <;> simp only [cond_true, cond_false, Nat.le_refl]
  cases t.op == 5 <;> simp only [cond_true, cond_false, Nat.le_refl]
  cases t.op == 6 <;> simp only [cond_true, cond_false, Nat.le_refl]
  rotate_left
  · cases decide (rget regs t.a ≥ t.size) <;> simp only [cond_true, cond_false, Nat.le_refl]
  cases t.op == 7 <;> simp only [cond_true, cond_false, Nat.le_refl]
  rotate_left
  · cases decide (rget regs t.a ≥ t.size) <;> simp only [cond_true, cond_false, Nat.le_refl]
  cases t.op == 8 <;> simp only [cond_true, cond_false, Nat.le_refl]
  rotate_left
  · cases decide (m.read < s.size) <;> simp only [cond_true, cond_false, Nat.le_refl]
  cases t.op == 9 <;> simp only [cond_true, cond_false, Nat.le_refl]
  rotate_left
  · cases decide (m.out.length ≥ 65536) <;> simp only [cond_true, cond_false, Nat.le_refl]
  cases t.op == 10 <;> simp only [cond_true, cond_false, Nat.le_refl]
  exact hcs _ _
theorem kins_steps (hcs : ∀ i m, m.steps ≤ (call i m).steps) : ∀ (l : List Tac) (regs : List Int) (m : Mach), m.steps ≤ (kins call s l regs m).2.2.steps
  | [], _, _ => Nat.le_refl _
  | t :: r, regs, m => by
    unfold kins
    have h := kmone_steps (s := s) hcs t regs m
    cases (mone call s t regs m).2.fin == 0 with
    | false => exact h
    | true => exact Nat.le_trans h (kins_steps hcs r _ _)
theorem kblk_steps (hcs : ∀ i m, m.steps ≤ (call i m).steps) {f : BFunc} : ∀ (g : Nat) (i : Int) (regs : List Int) (m : Mach), m.steps ≤ (kblk call s f g i regs m).steps
  | 0, _, _, _ => Nat.le_refl _
  | g + 1, i, regs, m => by
    cases hk : f.blocks[i.toNat]? with
    | none => unfold kblk; rw [hk]; exact Nat.le_refl _
    | some k =>
      rw [kblk_get hk]
      have h := kins_steps (s := s) hcs k.ins regs m.tick
      have h' : m.steps ≤ (kins call s k.ins regs m.tick).2.2.steps := Nat.le_trans (Nat.le_succ _) h
      cases (kins call s k.ins regs m.tick).1 with
      | false => exact h'
      | true =>
        unfold closeK
        cases k.fin == 3 with
        | true => exact h'
        | false => exact Nat.le_trans h' (kblk_steps hcs g _ _ _)
def insB (K : Nat) (fuel : Int) (d : Nat) (X Y : Bool × List Int × Mach) : Prop := X.1 = false ∧ X.2.2.fin = 5 ∨ fuel.toNat < K * X.2.2.steps ∨ X.1 = Y.1 ∧ X.2.1 = Y.2.1 ∧ BLe K (d + 1) X.2.2 Y.2.2 ∧ (X.1 = true → X.2.2.fin = 0)
theorem over {a b : Nat} (h : fuel.toNat < K * a) (hab : a ≤ b) : fuel.toNat < K * b := Nat.lt_of_lt_of_le h (Nat.mul_le_mul_left _ hab)
theorem mins_b (hc : callsB K fuel call call') (hcs : ∀ i m, m.steps ≤ (call i m).steps) {d : Nat} : ∀ (l : List Tac) (regs : List Int) {x y : Mach}, x.fin = 0 → BLe K (d + l.length + 1) x y → insB K fuel d (kins call s l regs x) (mins call' s fuel l regs y)
  | [], regs, x, y, h0, h => .inr (.inr ⟨rfl, rfl, h, fun _ => h0⟩)
  | t :: r, regs, x, y, h0, h => by
    have hlen : (t :: r).length = r.length + 1 := rfl
    have hks := kins_steps (s := s) hcs (t :: r) regs x
    have hst := h.steps
    cases h1 : (mstep fuel y).1 with
    | false =>
      have h2 : (y.steps : Int) ≥ fuel := by
        unfold mstep at h1
        cases e : decide ((y.steps : Int) ≥ fuel) with
        | true => simpa using e
        | false => rw [e] at h1; cases h1
      refine .inr (.inl (over (a := x.steps) ?_ hks))
      omega
    | true =>
      have hy : BLe K (d + r.length + 1) x y.tick := ⟨h.words, h.out, h.read, h.fin, by show y.steps + 1 + _ ≤ _; omega⟩
      obtain ⟨b1, b2⟩ := mone_b (s := s) hc t regs h0 hy
      rw [kins] at hks ⊢
      rw [mins, h1, mstep_tick h1]
      simp only [cond_true]
      rcases b2 with b2 | b2 | b2
      · rw [show ((mone call s t regs x).2.fin == 0) = false by rw [b2]; rfl]
        exact .inl ⟨rfl, b2⟩
      · refine .inr (.inl ?_)
        cases hf : (mone call s t regs x).2.fin == 0 with
        | false => exact b2
        | true => exact over b2 (kins_steps hcs r _ _)
      · rw [b2.fin, ← b1]
        cases hf : (mone call s t regs x).2.fin == 0 with
        | false =>
          simp only [cond_false]
          exact .inr (.inr ⟨rfl, b1, ⟨b2.words, b2.out, b2.read, b2.fin, by have := b2.steps; show (mone call' s t regs y.tick).2.steps + (d + 1) ≤ K * (mone call s t regs x).2.steps; omega⟩, fun e => by cases e⟩)
        | true =>
          simp only [cond_true]
          exact mins_b hc hcs r _ (by simpa using hf) b2
theorem mblk_b (hc : callsB K fuel call call') (hcs : ∀ i m, m.steps ≤ (call i m).steps) (hcs' : ∀ i m, m.steps ≤ (call' i m).steps) {f : BFunc} (hK : ∀ x ∈ f.blocks, x.ins.length + 1 ≤ K) {d : Nat} :
    ∀ (g : Nat) (g' : Nat) (i : Int) (regs : List Int) (x y : Mach), x.fin = 0 → BLe K d x y → 0 < g' → gasOk fuel g' y → BSim K fuel d (kblk call s f g i regs x) (mblk call' s fuel f g' i regs y)
  | 0, _, _, _, _, _, _, _, _, _ => .inl rfl
  | _ + 1, 0, _, _, _, _, _, _, h, _ => absurd h (by omega)
  | g + 1, g' + 1, i, regs, x, y, h0, h, _, hg' => by
    cases hk : f.blocks[i.toNat]? with
    | none => unfold mblk kblk; rw [hk]; exact .inr (.inr h)
    | some k =>
      have hKk := hK k (List.mem_of_getElem? hk)
      have hmul : K * x.tick.steps = K * x.steps + K := Nat.mul_succ _ _
      have hy : BLe K (d + k.ins.length + 1) x.tick y := ⟨h.words, h.out, h.read, h.fin, by have := h.steps; rw [hmul]; omega⟩
      have hb := mins_b (s := s) hc hcs k.ins regs (x := x.tick) (y := y) h0 hy
      have hst := mins_steps (s := s) (fuel := fuel) hcs' k.ins regs y
      rw [kblk_get hk]
      unfold mblk
      rw [hk]
      dsimp only
      generalize kins call s k.ins regs x.tick = X at hb ⊢
      generalize mins call' s fuel k.ins regs y = Y at hb hst ⊢
      obtain ⟨X1, X2, X3⟩ := X
      obtain ⟨Y1, Y2, Y3⟩ := Y
      rcases hb with ⟨h1, h2⟩ | h2 | ⟨h1, h2, h3, h4⟩
      · simp only at h1 h2; subst h1; exact .inl h2
      · simp only at h2
        refine .inr (.inl ?_)
        cases X1 with
        | false => exact h2
        | true =>
          simp only [cond_true]
          unfold closeK
          cases k.fin == 3 with
          | true => exact h2
          | false => exact over h2 (kblk_steps hcs g _ _ _)
      · simp only at h1 h2 h3 h4 hst
        subst h1; subst h2
        cases X1 with
        | false => exact .inr (.inr ⟨h3.words, h3.out, h3.read, h3.fin, by have := h3.steps; show Y3.steps + d ≤ K * X3.steps; omega⟩)
        | true =>
          simp only [cond_true]
          have hs3 := h3.steps
          cases hm : (mstep fuel Y3).1 with
          | false =>
            have h5 : (Y3.steps : Int) ≥ fuel := by
              unfold mstep at hm
              cases e : decide ((Y3.steps : Int) ≥ fuel) with
              | true => simpa using e
              | false => rw [e] at hm; cases hm
            have h6 : fuel.toNat < K * X3.steps := by omega
            refine .inr (.inl ?_)
            unfold closeK
            cases k.fin == 3 with
            | true => exact h6
            | false => exact over h6 (kblk_steps hcs g _ _ _)
          | true =>
            obtain ⟨e1, e2⟩ := mstep_true hm
            rw [mstep_tick hm]
            have hle : BLe K d X3 Y3.tick := ⟨h3.words, h3.out, h3.read, h3.fin, by show Y3.steps + 1 + d ≤ _; omega⟩
            unfold closeK
            cases hfin : k.fin == 3 with
            | true => exact .inr (.inr hle)
            | false =>
              simp only [Bool.not_false, Bool.and_self, cond_true, cond_false]
              refine mblk_b hc hcs hcs' hK g g' _ _ _ _ (h4 rfl) hle ?_ ?_
              · unfold gasOk at hg'; omega
              · unfold gasOk at hg' ⊢; show _ < Y3.steps + 1 + g'; omega
end
theorem kfun_steps {b : Blocks} {s : ByteArray} {G : Nat} : ∀ (n : Nat) (i : Int) (m : Mach), m.steps ≤ (kfun b s G n i m).steps
  | 0, _, _ => Nat.le_refl _
  | n + 1, i, m => by
    unfold kfun
    cases b.funcs[i.toNat]? with
    | none => exact Nat.le_refl _
    | some f => exact kblk_steps (fun i m => kfun_steps n i m) _ _ _ _
theorem mfun_b {b : Blocks} {s : ByteArray} {fuel : Int} {K G : Nat} (hK : ∀ f ∈ b.funcs, ∀ x ∈ f.blocks, x.ins.length + 1 ≤ K) : ∀ n, callsB K fuel (kfun b s G n) (mfun b s fuel n)
  | 0 => fun i x y d _ h => .inr (.inr h)
  | n + 1 => fun i x y d h0 h => by
    unfold mfun kfun
    cases hf : b.funcs[i.toNat]? with
    | none => exact .inr (.inr h)
    | some f =>
      refine mblk_b (mfun_b hK n) (fun j m => kfun_steps n j m) (fun j m => mfun_steps n j m) (hK f (List.mem_of_getElem? hf)) _ _ _ _ _ _ h0 h (Nat.succ_pos _) ?_
      unfold gasOk; omega
theorem mrun_cases (b : Blocks) (s : ByteArray) (fuel : Int) : (mrun b s fuel).out = (mfun b s (fuel0 fuel) b.funcs.length ((b.funcs.length : Int) - 1) (m0 b)).out ∧ (mrun b s fuel).steps = (mfun b s (fuel0 fuel) b.funcs.length ((b.funcs.length : Int) - 1) (m0 b)).steps ∧
    (mrun b s fuel).fin = (bif (mfun b s (fuel0 fuel) b.funcs.length ((b.funcs.length : Int) - 1) (m0 b)).fin == 0 then 1 else (mfun b s (fuel0 fuel) b.funcs.length ((b.funcs.length : Int) - 1) (m0 b)).fin) := by
  unfold mrun
  dsimp only
  cases (mfun b s (fuel0 fuel) b.funcs.length ((b.funcs.length : Int) - 1) (m0 b)).fin == 0 <;> exact ⟨rfl, rfl, rfl⟩
theorem run_alike {b c : Blocks} (hP : PS b c) (s : ByteArray) (n : Int) {K : Nat} (hK : ∀ f ∈ c.funcs, ∀ x ∈ f.blocks, x.ins.length + 1 ≤ K) {fuel : Int} (hf : (K * ((mrun b s n).steps + 1) : Nat) ≤ fuel) (h5 : (mrun b s n).fin ≠ 5) :
    (mrun c s fuel).fin = (mrun b s n).fin ∧ (mrun c s fuel).out = (mrun b s n).out := by
  obtain ⟨o1, st1, f1⟩ := mrun_cases b s n
  obtain ⟨o2, st2, f2⟩ := mrun_cases c s fuel
  have em : m0 c = m0 b := by unfold m0; rw [hP.words]
  have el : c.funcs.length = b.funcs.length := hP.len.symm
  rw [em, el] at o2 st2 f2
  have hA := mfun_k (b := b) (s := s) (fuel := fuel0 n) b.funcs.length ((b.funcs.length : Int) - 1) (m0 b) (m0 b) trivial rfl (Mach.Le.refl _)
  have hS := kfun_sim hP (s := s) (G := (fuel0 n).toNat + 1) b.funcs.length ((b.funcs.length : Int) - 1) (m0 b) (m0 b) trivial rfl (Mach.Le.refl _)
  have hB := mfun_b (b := c) (s := s) (fuel := fuel0 fuel) (K := K) (G := (fuel0 n).toNat + 1) hK b.funcs.length ((b.funcs.length : Int) - 1) (m0 b) (m0 b) 0 rfl ⟨rfl, rfl, rfl, rfl, Nat.zero_le _⟩
  have hfp : (fuel0 fuel).toNat = fuel.toNat := by unfold fuel0; cases e : decide (fuel < 0) <;> simp at e ⊢; omega
  generalize mfun b s (fuel0 n) b.funcs.length ((b.funcs.length : Int) - 1) (m0 b) = X at *
  generalize kfun b s ((fuel0 n).toNat + 1) b.funcs.length ((b.funcs.length : Int) - 1) (m0 b) = Y at *
  generalize kfun c s ((fuel0 n).toNat + 1) b.funcs.length ((b.funcs.length : Int) - 1) (m0 b) = Z at *
  generalize mfun c s (fuel0 fuel) b.funcs.length ((b.funcs.length : Int) - 1) (m0 b) = U at *
  have hx : X.fin ≠ 5 := fun e => h5 (by rw [f1, e]; rfl)
  have hXZ := (hA.trans hS).resolve_left hx
  rw [st1] at hf
  have hmul := Nat.mul_le_mul_left K hXZ.steps
  have hm2 : K * (X.steps + 1) = K * X.steps + K := Nat.mul_succ _ _
  rcases hB with h | h | h
  · exact absurd (hXZ.fin.symm.trans h) hx
  · rw [hfp] at h; omega
  · refine ⟨?_, ?_⟩
    · rw [f1, f2, h.fin, hXZ.fin]
    · rw [o1, o2, h.out, hXZ.out]
structure OPass where
  kind : Int
  cert : Cert
  paths : List (List Int)
  f : BFunc
def OPass.holds (p : OPass) (f : BFunc) : Bool :=
  bif p.kind == 4 then p.cert.same.isEmpty && checkB f p.f p.paths else decide (1 ≤ p.kind ∧ p.kind ≤ 4) && (p.paths.isEmpty && vcheck f p.f p.cert)
def leadsL : BFunc → BFunc → List OPass → Bool
  | f, g, [] => decide (f = g)
  | f, g, p :: r => p.holds f && leadsL p.f g r
def leadsAll : List BFunc → List BFunc → List (List OPass) → Bool
  | f :: fs, g :: gs, l :: ls => leadsL f g l && leadsAll fs gs ls
  | _, _, _ => true
def ocheck (old new : Blocks) (l : List (List OPass)) : Bool :=
  old.right && (new.right && (decide (old.words = new.words) && (decide (old.funcs.length = new.funcs.length) && (decide (l.length = old.funcs.length) && leadsAll old.funcs new.funcs l))))
theorem ocheck_spec {old new : Blocks} {l : List (List OPass)} (h : ocheck old new l = true) : old.right = true ∧ new.right = true ∧ old.words = new.words ∧ old.funcs.length = new.funcs.length ∧ l.length = old.funcs.length ∧ leadsAll old.funcs new.funcs l = true := by
  simpa [ocheck] using h
theorem ocheck_of {old new : Blocks} {l : List (List OPass)} (h1 : old.right = true) (h2 : new.right = true) (h3 : old.words = new.words) (h4 : old.funcs.length = new.funcs.length) (h5 : l.length = old.funcs.length) (h6 : leadsAll old.funcs new.funcs l = true) : ocheck old new l = true := by
  simp [ocheck, h1, h2, h3, h4, h5, h6]
def BFunc.fins (f : BFunc) : Prop := ∀ x ∈ f.blocks, x.fin = 1 ∨ x.fin = 2 ∨ x.fin = 3
theorem fins_tidy {f g : BFunc} {paths : List (List Int)} (hH : Holds f g paths) (hf : f.fins) : g.fins := fun x hx => by
  obtain ⟨k, hk⟩ := List.getElem?_of_mem hx
  have hkl : k < paths.length := by rw [hH.len]; exact (List.getElem?_eq_some_iff.1 hk).1
  obtain ⟨p, hp⟩ := get_of_lt hkl
  have hxk : g.blockAt k = x := by
    have := blockAt_get (f := g) (i := k) (by rw [← hH.len]; omega)
    rw [Int.toNat_natCast, hk] at this
    exact (Option.some.inj this).symm
  have hin := hH.all p (List.mem_of_getElem? hp)
  have hle := hH.leads k p hp
  rw [hxk] at hle
  have hlast := hin.2 _ (last_mem hin.1)
  rw [(leadsB_spec hle).1]
  exact hf _ (List.mem_of_getElem? (blockAt_get hlast))
theorem holds_fs {p : OPass} {f : BFunc} (hf : f.words) (hg : p.f.words) (hfin : f.fins) (h : p.holds f = true) : FSq f p.f ∧ p.f.fins := by
  unfold OPass.holds at h
  cases e : p.kind == 4 with
  | true =>
    rw [e] at h
    simp only [cond_true, Bool.and_eq_true] at h
    have hH := check_iff.1 h.2
    exact ⟨FSq.tidy hH hfin, fins_tidy hH hfin⟩
  | false =>
    rw [e] at h
    simp only [cond_false, Bool.and_eq_true] at h
    have hC := checked2 hf hg h.2.2
    exact ⟨FSq.valid hC, hC.sn.fin⟩
theorem leadsL_fs {g : BFunc} : ∀ (l : List OPass) {f : BFunc}, f.words → f.fins → (∀ p ∈ l, p.f.words) → leadsL f g l = true → FSq f g
  | [], f, _, _, _, h => by
    have : f = g := by simpa [leadsL] using h
    subst this; exact FSq.rfl' f
  | p :: r, f, hf, hfin, hw, h => by
    simp only [leadsL, Bool.and_eq_true] at h
    obtain ⟨a1, a2⟩ := holds_fs hf (hw p (by simp)) hfin h.1
    exact a1.trans (leadsL_fs r (hw p (by simp)) a2 (fun q hq => hw q (by simp [hq])) h.2)
theorem leadsAll_get : ∀ {fs gs : List BFunc} {ls : List (List OPass)}, leadsAll fs gs ls = true → ∀ {i : Nat} {f g : BFunc} {l : List OPass}, fs[i]? = some f → gs[i]? = some g → ls[i]? = some l → leadsL f g l = true
  | f :: fs, g :: gs, l :: ls, h, 0, _, _, _, h1, h2, h3 => by
    simp only [leadsAll, Bool.and_eq_true] at h
    simp at h1 h2 h3
    subst h1; subst h2; subst h3; exact h.1
  | f :: fs, g :: gs, l :: ls, h, i + 1, _, _, _, h1, h2, h3 => by
    simp only [leadsAll, Bool.and_eq_true] at h
    exact leadsAll_get h.2 (by simpa using h1) (by simpa using h2) (by simpa using h3)
  | [], _, _, _, _, _, _, _, h1, _, _ => by simp at h1
  | _ :: _, [], _, _, _, _, _, _, _, h2, _ => by simp at h2
  | _ :: _, _ :: _, [], _, _, _, _, _, _, _, h3 => by simp at h3
theorem leadsAll_of : ∀ {fs gs : List BFunc} {ls : List (List OPass)}, (∀ (i : Nat) (f g : BFunc) (l : List OPass), fs[i]? = some f → gs[i]? = some g → ls[i]? = some l → leadsL f g l = true) → leadsAll fs gs ls = true
  | f :: fs, g :: gs, l :: ls, h => by
    simp only [leadsAll, Bool.and_eq_true]
    exact ⟨h 0 f g l rfl rfl rfl, leadsAll_of fun i a b c h1 h2 h3 => h (i + 1) a b c (by simpa using h1) (by simpa using h2) (by simpa using h3)⟩
  | [], _, _, _ => by unfold leadsAll; rfl
  | _ :: _, [], _, _ => by unfold leadsAll; rfl
  | _ :: _, _ :: _, [], _ => by unfold leadsAll; rfl
theorem right_fins {b : Blocks} (h : b.right = true) : ∀ f ∈ b.funcs, f.fins := fun f hf x hx => by
  obtain ⟨i, hi⟩ := List.getElem?_of_mem hf
  exact ends_fin ((one_spec ((right_spec h).2.2.2 i f hi)).2.2.2 x hx).1
def passW (l : List (List OPass)) : Prop := ∀ ps ∈ l, ∀ p ∈ ps, p.f.words
theorem ocheck_ps {old new : Blocks} {l : List (List OPass)} (ho : ∀ f ∈ old.funcs, f.words) (hl : passW l) (h : ocheck old new l = true) : PS old new := by
  obtain ⟨h1, h2, h3, h4, h5, h6⟩ := ocheck_spec h
  refine ⟨h3, h4, fun i f g hf hg => ?_⟩
  obtain ⟨ps, hps⟩ := get_of_lt (l := l) (k := i) (by have := (List.getElem?_eq_some_iff.1 hf).1; omega)
  have hfm := List.mem_of_getElem? hf
  exact leadsL_fs ps (ho f hfm) (right_fins h1 f hfm) (hl ps (List.mem_of_getElem? hps)) (leadsAll_get h6 hf hg hps)
end Go.Proofs.YtbbfelelocccmaaGreat.Sv
