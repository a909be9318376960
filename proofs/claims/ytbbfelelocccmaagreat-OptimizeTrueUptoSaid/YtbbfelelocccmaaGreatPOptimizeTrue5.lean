/-
  A RANGE OVER A FUNCTION, AND THE END OF A FUNCTION THAT HAS ONE: own work, over no program.
  A FUNCTION WITH A RANGE OVER A FUNCTION, WALKED: own work, over no program.
  THE NUMBERS BELOW n, THE GREATEST FIRST: an iterator's contract. Own work.
  WALKS: printed by a program of our own from the code's tree.
  LAW 35'S LITTLE PROGRAM, EVALUATED (2): all passes over it. Own work.
  LAW 35: the passes as values: own work.
  LAW 35: a pass is asked; all passes over all functions: own work.
  LAW 35: no passes: own work.
  LAW 35: what is asked, whether it is few; how many steps a run takes at most: own work.
-/
import Derived.Test.YtbbfelelocccmaaGreatPOptimizeTrue4
import Derived.Test.YtbbfelelocccmaaGreatPOptimizeTrue2
import Derived.RangeFuncLeaves
import Derived.RangeFuncKeeps
import Derived.Shelf.Abstract
import Derived.WalkKit
import Derived.OwnWalkIn
import Derived.TacticsInMore
import Derived.LoopNIn
import Derived.LoopIn
import Derived.Test.YtbbfelelocccmaaGreatPOptimizeTrue3
set_option linter.unusedVariables false
set_option linter.unusedSimpArgs false
set_option maxRecDepth 100000
set_option maxHeartbeats 2000000
namespace Go.Proofs.YtbbfelelocccmaaGreat.Sv
open Go Go.RowKit
def AObj.noMap : AObj → Bool
  | .map _ => false
  | .iter0 => false
  | _ => true
def NoMap (h : AHeap) : Prop := ∀ b o, h b = some o → o.noMap = true
theorem NoMap.new : NoMap hNew := fun b o h => by cases h; rfl
theorem NoMap.put {h : AHeap} (hh : NoMap h) (b : Nat) {o : AObj} (ho : o.noMap = true) : NoMap (hput h b o) := fun c q hq => by
  by_cases hc : c = b
  · subst hc; rw [hput_same] at hq; cases hq; exact ho
  · rw [hput_ne _ _ hc] at hq; exact hh c q hq
theorem NoMap.none : NoMap hNone := fun b o h => by cases h
theorem HeapRel.grownO {H : Know} {ι : Lay} {h : AHeap} {w w' : World} {row : Option Nat} (hr : HeapRel H ι h w) (hm : NoMap h) (hg : w.grownBy w' row) (hrow : ∀ r, row = some r → ∃ o : Obj, w.heap[r]? = some o ∧ o.isCells = false) : HeapRel H ι h w' := by
  have key : ∀ (b : Nat) (c : Array Value) (T : TypeId) (fr : Nat × Nat), w.heap[b]? = some (Obj.cells c T fr) → w'.heap[b]? = some (Obj.cells c T fr) := fun b c T fr hb => by
    refine (hg.block b (Array.getElem?_eq_some_iff.1 hb).1 (fun e => ?_)).trans hb
    obtain ⟨o, ho, hc⟩ := hrow b e.symm
    rw [hb] at ho; cases ho; cases hc
  refine ⟨fun b c hb => ?_, hr.free, fun b o h1 h2 => ?_, hr.inj, hr.glob⟩
  · obtain ⟨T, fr, e⟩ := hr.know b c hb
    exact ⟨T, fr, key _ _ _ _ e⟩
  · obtain ⟨r, e1, e2, e3⟩ := hr.obj b o h1 h2
    refine ⟨r, e1, ?_, e3⟩
    cases o with
    | free => trivial
    | map kvs => have := hm b _ h1; cases this
    | iter0 => have := hm b _ h1; cases this
    | row p sz es =>
      obtain ⟨r1, r2, r3, r4, r5, r6⟩ := e2
      refine ⟨r1, r2, r3, r4, r5, fun hsol => ?_⟩
      obtain ⟨c, T, ⟨fr, q1, q2⟩, q3, q4⟩ := r6 hsol
      exact ⟨c, T, ⟨fr, key _ _ _ _ q1, q2⟩, q3, q4⟩
theorem Step.grown {H : Know} {ι : Lay} {h : AHeap} {w : World} {H' : Know} {ι' : Lay} {h' : AHeap} {w' w'' : World} {row : Option Nat} (st : Step H ι h w H' ι' h' w') (hg : w'.grownBy w'' row) (hrow : ∀ r, row = some r → w.heap.size ≤ r) : Step H ι h w H' ι' h' w'' where
  size := Nat.le_trans st.size hg.size
  os := hg.os.trans st.os
  out := hg.output.trans st.out
  keep := fun rb hlt hno => by
    refine (hg.block rb (Nat.lt_of_lt_of_le hlt st.size) (fun e => ?_)).trans (st.keep rb hlt hno)
    have := hrow rb e.symm
    omega
  kle := st.kle
  knew := st.knew
  lle := st.lle
  lframe := st.lframe
  newrb := st.newrb
  dom := st.dom
theorem Step.others {H : Know} {ι : Lay} {h : AHeap} {w : World} {H' : Know} {ι' : Lay} {h' : AHeap} {w' : World} (hr : HeapRel H ι h w) (hm : NoMap h) (st : Step H ι h w H' ι' h' w') : KeepsOthers w w' :=
  ⟨st.size, fun k o hk ho => by
    have hlt := (Array.getElem?_eq_some_iff.1 hk).1
    refine (st.keep k hlt ?_).trans hk
    rintro ⟨b, q, r, h1, h2, h3, h4, h5⟩
    obtain ⟨r', e1, e2, _⟩ := hr.obj b q h1 h2
    rw [h3] at e1; cases e1
    cases q with
    | free => cases h2
    | map kvs => have := hm b _ h1; cases this
    | iter0 => have := hm b _ h1; cases this
    | row p sz es =>
      obtain ⟨_, _, _, _, _, r6⟩ := e2
      obtain ⟨c, T, ⟨fr, q1, _⟩, _, _⟩ := r6 h4
      rw [h5] at q1
      rw [hk] at q1; cases q1; cases ho⟩
theorem Step.of_sub {H : Know} {ι : Lay} {h h' : AHeap} {w : World} (hh : HSub h' h) : Step H ι h w H ι h' w := ⟨Nat.le_refl _, rfl, rfl, fun _ _ _ => rfl, KLe.refl _, fun _ h => .inl h, LLe.refl _, fun _ _ => rfl, fun _ _ h _ => .inl h, fun b hb => by
  cases e : h' b with
  | none => rfl
  | some o => rw [hh b o e] at hb; cases hb⟩
section
variable {P : Program}
theorem wp_range {α : Type} {s : AState} {H : Know} {ι : Lay} {a : Act} {w : World} (hs : Sim H ι s a w) {g : Operand} {p d ida : Nat} {oa : Oper} {body : Code} {Q : Exit → Act → World → Prop} {gf : Nat} {cs : List AV}
    (hoa : oa.op = .assign (.tmp p)) (hda : oa.dst = some d) (hga : oa.guard = none) (hp : p < s.n) (hd : d < s.n) (hpd : p ≠ d)
    (hg : look s.env g = some (.fn (.func gf) [] cs)) (eg : ∀ args w, (callFunc gf args).run P w = .ok (.enter gf args) w)
    {enc : α → Value} {av : α → AV} (hav : ∀ x H ι, Rel H ι (av x) (enc x)) {S : List α → Prop} {N : Nat}
    (hseq : ∀ lb : Array Value, lb.size = cs.length → (∀ (j : Nat) (x : AV) (v : Value), cs[j]? = some x → lb[j]? = some v → Rel H ι x v) → SeqStopsK Fence.wide 3 P gf lb (fun x => #[enc x]) (fun _ _ => True) S (fun _ => True) N w)
    (e0 : AEnv) (hI : List α → AHeap) (he0 : ESub e0 s.env) (hm0 : NoMap s.h) (hm : ∀ pre, NoMap (hI pre)) (h0 : HSub (hI []) s.h)
    (hbody : ∀ (l : Nat) (pre : List α) (x : α), pre.length < N → AGoR P l 2 body ⟨s.n, eput (eput e0 p (av x)) d (av x), hI pre⟩ (Then (fun s' => HSub (hI (pre ++ [x])) s'.h) (fun _ _ => False)))
    (hdone : ∀ (D : Nat) (xs : List α) (W : World) (H' : Know) (ι' : Lay), w.heap.size ≤ D → S xs → HeapRel H' ι' (hI xs) W → Step H ι s.h w H' ι' (hI xs) W → W.heap[D]? = some (.deferred (some [])) → Q .normal { tmps := a.tmps, defers := [{ target := .collected D, args := #[] }] } W) :
    (Code.rangeFunc g #[p] (.region ida #[oa] false) body).wp P Q a w := by
  obtain ⟨us, lb, hge, hus, hlb, _, hrl⟩ : ∃ us lb, a.eval g = .func (.func gf) us lb ∧ ([] : List AV).length = us.size ∧ cs.length = lb.size ∧ True ∧ ∀ (j : Nat) (x : AV) (v : Value), cs[j]? = some x → lb[j]? = some v → Rel H ι x v := by
    obtain ⟨us, vs, e1, e2, e3, _, e5⟩ := (look_rel hs hg).fn_inv
    exact ⟨us, vs, e1, e2, e3, trivial, e5⟩
  have hus' : us = #[] := by
    cases us with
    | mk l => cases l with
      | nil => rfl
      | cons y l => simp at hus
  subst hus'
  refine wpIn_wide (n := 4).1 ?_
  have hpn : p < a.tmps.size := by rw [hs.n]; exact hp
  have hdn : d < a.tmps.size := by rw [hs.n]; exact hd
  have hI0 : ∃ H' ι', HeapRel H' ι' (hI []) w ∧ Step H ι s.h w H' ι' (hI []) w := ⟨H, ι, hs.heap.sub h0, Step.of_sub h0⟩
  refine wpIn_rangeFunc_ownF (F := Fence.wide) (n := 4) (α := α) (Q := Q) (a := a) (w := w) (w0 := w) rfl (by decide) hge trivial eg (hseq lb hlb.symm hrl) (fun _ _ => trivial) (fun _ _ _ _ _ _ _ _ => trivial) (Below.refl _ _) (fun _ => rfl)
    (fun pre W => ∃ H' ι', HeapRel H' ι' (hI pre) W ∧ Step H ι s.h w H' ι' (hI pre) W) (fun _ _ _ => False) ?_ (fun _ _ _ _ _ h _ _ => h) hI0
    (fun x => { tmps := (a.tmps.setIfInBounds p (enc x)).setIfInBounds d (enc x), defers := [] }) ?_ ?_ ?_ (fun _ _ _ _ _ _ h _ => h.elim)
  · rintro pre W W' row ⟨H', ι', k1, k2⟩ hg' hr
    exact ⟨H', ι', k1.grownO (hm pre) hg' (fun r e => (hr r e).2), k2.grown hg' (fun r e => (hr r e).1)⟩
  · intro l x W K hK
    refine wpIn_region_list ?_
    show wpListIn _ _ P _ _ [oa] _ W
    unfold wpListIn
    have hw : Region.wanted oa (yielded #[oa] (((#[p].zip #[enc x]).foldl (fun t (q : Nat × Value) => t.setIfInBounds q.1 q.2) a.tmps))) = true := by simp [Region.wanted, hga]
    rw [if_pos hw]
    refine oper_in (by unfold noDefer; rw [hoa]) ?_
    unfold Oper.wp
    simp only [execOp, hoa, Sem.run_pure, Oper.upon]
    have e1 : (#[p].zip #[enc x]).foldl (fun t (q : Nat × Value) => t.setIfInBounds q.1 q.2) a.tmps = a.tmps.setIfInBounds p (enc x) := by simp
    have e2 : ({ tmps := a.tmps.setIfInBounds p (enc x), defers := [] } : Act).eval (.tmp p) = enc x := by
      simp [Act.eval, hpn]
    show K _ W
    rw [hda]
    simpa [Act.put, Act.eval, hpn] using hK
  · rintro l pre x W ⟨H', ι', k1, k2⟩ hlt
    have hsim : Sim H' ι' ⟨s.n, eput (eput e0 p (av x)) d (av x), hI pre⟩ { tmps := (a.tmps.setIfInBounds p (enc x)).setIfInBounds d (enc x), defers := [] } W := by
      refine ⟨by simp [hs.n], rfl, fun t y hy => ?_, k1⟩
      by_cases htd : t = d
      · subst htd
        have hy' : eput (eput e0 p (av x)) t (av x) t = some y := hy
        rw [eput_same] at hy'; cases hy'
        exact ⟨enc x, by simp [hdn], hav x _ _⟩
      · have hy' : eput (eput e0 p (av x)) d (av x) t = some y := hy
        rw [eput_ne _ _ htd] at hy'
        by_cases htp : t = p
        · subst htp
          rw [eput_same] at hy'; cases hy'
          refine ⟨enc x, ?_, hav x _ _⟩
          show ((a.tmps.setIfInBounds t (enc x)).setIfInBounds d (enc x))[t]? = _
          rw [Array.getElem?_setIfInBounds_ne (fun e => htd e.symm)]
          simp [hpn]
        · rw [eput_ne _ _ htp] at hy'
          obtain ⟨v, v1, v2⟩ := hs.env t y (he0 t y hy')
          refine ⟨v, ?_, v2.mono k2.kle k2.lle⟩
          show ((a.tmps.setIfInBounds p (enc x)).setIfInBounds d (enc x))[t]? = _
          rw [Array.getElem?_setIfInBounds_ne (fun e => htd e.symm), Array.getElem?_setIfInBounds_ne (fun e => htp e.symm)]
          exact v1
    refine wpIn_mono (hbody l pre x hlt H' ι' _ W hsim) fun e a' W' hp => ?_
    obtain ⟨s', H2, ι2, q, r, t⟩ := hp
    cases e with
    | normal =>
      have t2 : Step H' ι' (hI pre) W H2 ι2 (hI (pre ++ [x])) W' := t.trans k1 r.heap (Step.of_sub q)
      exact ⟨t.others k1 (hm pre), trivial, H2, ι2, r.heap.sub q, k2.trans hs.heap k1 t2⟩
    | _ => exact q.elim
  · rintro D xs W hD hS ⟨H', ι', k1, k2⟩ hK
    have : a.defers = [] := hs.d
    have ha : { a with defers := { target := .collected D, args := #[] } :: a.defers } = ({ tmps := a.tmps, defers := [{ target := .collected D, args := #[] }] } : Act) := by rw [this]
    rw [ha]
    exact hdone D xs W H' ι' hD hS k1 k2 hK
def QD (ds : List Deferred) (K : Act → World → Prop) (a : Act) (w : World) : Prop := ∃ tm, a = { tmps := tm, defers := ds } ∧ K { tmps := tm, defers := [] } w
theorem put_ds (tm : Array Value) (ds : List Deferred) (d : Option Nat) (v : Value) : ∃ tm', ({ tmps := tm, defers := ds } : Act).put d v = { tmps := tm', defers := ds } ∧ ({ tmps := tm, defers := [] } : Act).put d v = { tmps := tm', defers := [] } := by
  cases d with
  | none => exact ⟨tm, rfl, rfl⟩
  | some d => exact ⟨tm.setIfInBounds d v, rfl, rfl⟩
def loadStore (o : Oper) : Bool := match o.op with
  | .load .. | .store .. => true
  | _ => false
theorem simple_res {o : Oper} (hd : loadStore o = true) {ρ : Operand → Value} {w w' : World} {x : Next} (h : (execOp ρ o).run P w = .ok x w') : (∃ v, x = .value v) ∨ x = .skip := by
  unfold loadStore at hd
  unfold execOp at h
  cases ho : o.op <;> rw [ho] at hd h <;> first | (cases hd; done) | skip
  · simp only [Sem.run_bind, Sem.run_pure] at h
    generalize (Instr.loadAt _ _).run P w = r at h
    cases r with
    | ok v w1 => simp only [Result.andThen_ok] at h; cases h; exact .inl ⟨v, rfl⟩
    | halt y w1 => cases h
  · simp only [Sem.run_bind, Sem.run_pure] at h
    generalize (Instr.storeAt _ _ _).run P w = r at h
    cases r with
    | ok v w1 => simp only [Result.andThen_ok] at h; cases h; exact .inr rfl
    | halt y w1 => cases h
theorem oper_ds {o : Oper} {tm : Array Value} {ds : List Deferred} {w : World} {K : Act → World → Prop} {Q : Exit → Act → World → Prop} (hd : loadStore o = true) (h : o.wp P { tmps := tm, defers := [] } w K Q) : o.wp P { tmps := tm, defers := ds } w (QD ds K) (fun e => QD ds (Q e)) := by
  unfold Oper.wp at h ⊢
  have e : (execOp ({ tmps := tm, defers := ds } : Act).eval o) = execOp ({ tmps := tm, defers := [] } : Act).eval o := by
    congr 1
  rw [e]
  have hnd : ∀ x w', (execOp ({ tmps := tm, defers := [] } : Act).eval o).run P w = .ok x w' → (∃ v, x = .value v) ∨ x = .skip := fun x w' hx => simple_res hd hx
  generalize (execOp ({ tmps := tm, defers := [] } : Act).eval o).run P w = res at h hnd ⊢
  have hput : ∀ v w', K (({ tmps := tm, defers := [] } : Act).put o.dst v) w' → QD ds K (({ tmps := tm, defers := ds } : Act).put o.dst v) w' := fun v w' hk => by
    obtain ⟨tm', e1, e2⟩ := put_ds tm ds o.dst v
    rw [e2] at hk
    exact ⟨tm', e1, hk⟩
  cases res with
  | ok x w' =>
    rcases hnd x w' rfl with ⟨v, rfl⟩ | rfl
    · exact hput v w' h
    · exact hput _ w' h
  | halt x w' =>
    cases x with
    | panic v => exact ⟨tm, rfl, h⟩
    | _ => exact h.elim
theorem any_ds {ops : Array Oper} {ds : List Deferred} {Q : Exit → Act → World → Prop} (hq : ¬ LetsOut Q) (hd : ∀ (i : Nat) o, ops[i]? = some o → loadStore o = true) : ∀ (fuel : Nat) (L : Array Bool) (tm : Array Value) (w : World), wpAny P .any ops Q fuel L { tmps := tm, defers := [] } w → wpAny P .any ops (fun e => QD ds (Q e)) fuel L { tmps := tm, defers := ds } w
  | 0, L, tm, w, h => ⟨h.1, tm, rfl, h.2⟩
  | fuel + 1, L, tm, w, h => by
    refine ⟨fun h0 => ⟨tm, rfl, h.1 h0⟩, fun i hi => ?_⟩
    have h1 := h.2 i hi
    unfold wpOp at h1 ⊢
    have go : ∀ a w', QD ds (wpAny P .any ops Q fuel (L.setIfInBounds i true)) a w' → wpAny P .any ops (fun e => QD ds (Q e)) fuel (L.setIfInBounds i true) a w' := fun a w' ⟨tm', e, hx⟩ => by
      subst e; exact any_ds hq hd fuel _ tm' w' hx
    cases ho : ops[i]? with
    | none => rw [ho] at h1; exact any_ds hq hd fuel _ tm w h1
    | some o =>
      rw [ho] at h1
      simp only at h1 ⊢
      by_cases hw : Region.wanted o (yielded ops tm) = true
      · rw [if_pos hw] at h1 ⊢
        rcases h1 with h1 | ⟨_, h1⟩
        · exact .inl (Oper.wp_mono (fun a w' hx => go a w' hx) (oper_ds (hd i o ho) h1))
        · exact absurd h1 hq
      · rw [if_neg hw] at h1 ⊢
        obtain ⟨tm', e1, e2⟩ := put_ds tm ds o.dst undef
        rw [e2] at h1
        rw [e1]
        exact any_ds hq hd fuel _ tm' w h1
theorem DOps.any {ops : Array Oper} {n : Nat} {e : AEnv} {h : AHeap} {K : AState → Prop} (hd : DOps P ops n ops.toList e h [] K) {H : Know} {ι : Lay} {a : Act} {w : World} (hs : Sim H ι ⟨n, e, h⟩ a w) :
    wpAny P .any ops (Post H ι h w (Then K fun _ _ => False)) ops.size (Array.replicate ops.size false) a { w with drawn := w.drawn + 1 } := by
  obtain ⟨cs, e', h', h1, h2, h3⟩ := hd
  have hgrow : ∀ rb, rb < w.heap.size → ({ w with drawn := w.drawn + 1 } : World).heap[rb]? = w.heap[rb]? := fun _ _ => rfl
  have hr' : HeapRel H ι h { w with drawn := w.drawn + 1 } := hs.heap.grow hgrow
  have hst : Step H ι h w H ι h { w with drawn := w.drawn + 1 } := Step.grow hgrow (Nat.le_refl _) rfl rfl
  have hL0 : ∀ i, (Array.replicate ops.size false).getD i false = false := fun i => by
    by_cases hi : i < ops.size
    · simp [hi]
    · simp [hi]
  have hm0 : ∀ {V : Type} (l : List (Upd V)) (g : Nat → V), merge (fun i => (Array.replicate ops.size false).getD i false) l 0 g = g := fun l g => funext fun x => merge_skip fun i u _ _ => hL0 _
  exact any_order (K := K) h1 (by simpa using h2) h3 hs.heap ops.size (Array.replicate ops.size false) H ι a { w with drawn := w.drawn + 1 }
    ⟨by simp, fun i hi => by rw [hL0] at hi; cases hi⟩ (by unfold todo; simp) (by rw [hm0, hm0]; exact ⟨hs.n, hs.d, hs.env, hr'⟩) (by rw [hm0]; exact hst)
theorem wp_endM {T : Nat → Option TyI} (hT : TOk P T) (hmx : P.follows .mixedOrders = true) {fn : Func} {ops : Array Oper} {id D : Nat} {s : AState} {H0 H : Know} {ι0 ι : Lay} {h0 : AHeap} {tm : Array Value} {w0 w : World} {R : AV → AHeap → Prop}
    (hld : ∀ (i : Nat) o, ops[i]? = some o → loadStore o = true) (hs : Sim H ι s { tmps := tm, defers := [] } w) (hnm : NoMap s.h) (hr0 : HeapRel H0 ι0 h0 w0) (hst : Step H0 ι0 h0 w0 H ι s.h w) (hD : w0.heap.size ≤ D) (hK : w.heap[D]? = some (.deferred (some [])))
    (hd : DOps P ops s.n ops.toList s.env s.h [] (fun s' => NoMap s'.h ∧ ∃ xs, resAll T s' fn.results.toList xs ∧ R (packAV xs) s'.h)) :
    (Code.seq (.region id ops true) .ret).wp P (bodyPostM Fence.wide 3 P fn (fun e w' => ∃ v r h' H' ι', e = .returned v ∧ R r h' ∧ Rel H' ι' r v ∧ HeapRel H' ι' h' w' ∧ Step H0 ι0 h0 w0 H' ι' h' w')) { tmps := tm, defers := [{ target := .collected D, args := #[] }] } w := by
  have hlo : ¬ LetsOut (Post H ι s.h w (Then (fun s' => NoMap s'.h ∧ ∃ xs, resAll T s' fn.results.toList xs ∧ R (packAV xs) s'.h) fun _ _ => False)) := fun ⟨a, w, s', H', ι', q, r⟩ => q
  refine wp_seq (wp_mono (wp_region_any hmx (any_ds (ds := [{ target := .collected D, args := #[] }]) hlo hld _ _ _ _ (DOps.any (K := fun s' => NoMap s'.h ∧ ∃ xs, resAll T s' fn.results.toList xs ∧ R (packAV xs) s'.h) hd hs))) fun e a' w' hp => ?_)
  obtain ⟨tm', rfl, s', H', ι', q, r, t⟩ := hp
  cases e with
  | normal =>
    obtain ⟨qn, xs, q1, q2⟩ := q
    refine wp_ret ?_
    have hoth := t.others hs.heap hnm
    have hK' := hoth.same D _ hK rfl
    have hg := grownBy_putObj' w' D (.deferred none)
    have hrow : ∀ r, some D = some r → ∃ o : Obj, w'.heap[r]? = some o ∧ o.isCells = false := fun r e => by cases e; exact ⟨_, hK', rfl⟩
    have hr2 := r.heap.grownO qn hg hrow
    have hst2 : Step H0 ι0 h0 w0 H' ι' s'.h (w'.putObj D (.deferred none)) := (hst.trans hr0 hs.heap t).grown hg (fun r e => by cases e; exact hD)
    refine ⟨by simp, .inl ⟨D, _, rfl, run_takeDeferred hK', ?_⟩⟩
    obtain ⟨v, e1, e2⟩ := run_results hT (s := s') (a := { tmps := tm', defers := [] }) ⟨r.n, rfl, r.env, hr2⟩ q1
    exact ⟨v, e2, v, _, _, H', ι', rfl, q2, e1, hr2, hst2⟩
  | _ => exact q.elim
end
end Go.Proofs.YtbbfelelocccmaaGreat.Sv

namespace Go.Proofs.YtbbfelelocccmaaGreat.Sv
open Go Go.RowKit
section
variable {P : Program}
def AW (P : Program) (Q : Exit → Act → World → Prop) (H0 : Know) (ι0 : Lay) (h0 : AHeap) (w0 : World) (c : Code) (s : AState) : Prop :=
  ∀ H ι a w, Sim H ι s a w → Step H0 ι0 h0 w0 H ι s.h w → c.wp P Q a w
def AD (K : Act → World → Prop) (H0 : Know) (ι0 : Lay) (h0 : AHeap) (w0 : World) (s : AState) : Prop :=
  ∀ H ι tm w D, Sim H ι s { tmps := tm, defers := [] } w → Step H0 ι0 h0 w0 H ι s.h w → w0.heap.size ≤ D → w.heap[D]? = some (.deferred (some [])) → K { tmps := tm, defers := [{ target := .collected D, args := #[] }] } w
variable {Q : Exit → Act → World → Prop} {H0 : Know} {ι0 : Lay} {h0 : AHeap} {w0 : World} {s s' : AState} {K : Act → World → Prop}
theorem AW.seq (hr : HeapRel H0 ι0 h0 w0) {x y : Code} (h : AGo P x s (Then (fun s' => AW P Q H0 ι0 h0 w0 y s') (fun _ _ => False))) : AW P Q H0 ι0 h0 w0 (.seq x y) s := fun H ι a w hs hst => by
  refine wp_seq (wp_mono (h H ι a w hs) fun e a' w' hp => ?_)
  obtain ⟨s', H', ι', q, r, t⟩ := hp
  cases e with
  | normal => exact q H' ι' a' w' r (hst.trans hr hs.heap t)
  | _ => exact q.elim
theorem AW.seqw {x y : Code} (h : AW P (fun e a w => match e with
    | .normal => y.wp P Q a w
    | e => Q e a w) H0 ι0 h0 w0 x s) : AW P Q H0 ι0 h0 w0 (.seq x y) s := fun H ι a w hs hst => by
  refine wp_seq (wp_mono (h H ι a w hs hst) fun e a' w' hp => ?_)
  cases e <;> exact hp
theorem AD.ghost (hr : HeapRel H0 ι0 h0 w0) (hg : Ghost s s') (h : AD K H0 ι0 h0 w0 s') : AD K H0 ι0 h0 w0 s := fun H ι tm w D hs hst hD hK => by
  obtain ⟨H', ι', g1, g2⟩ := hg H ι _ w hs
  exact h H' ι' tm w D g1 (hst.trans hr hs.heap g2) hD hK
theorem AW.range (hr : HeapRel H0 ι0 h0 w0) {α : Type} {g : Operand} {p d ida b0 : Nat} {oa : Oper} {body : Code} {gf : Nat} {cs : List AV}
    (hoa : oa.op = .assign (.tmp p)) (hda : oa.dst = some d) (hga : oa.guard = none) (hp : p < s.n) (hd : d < s.n) (hpd : p ≠ d)
    (hg : look s.env g = some (.fn (.func gf) [] cs)) (eg : ∀ args w, (callFunc gf args).run P w = .ok (.enter gf args) w)
    (enc : α → Value) (av : α → AV) (hav : ∀ x H ι, Rel H ι (av x) (enc x)) {S : List α → Prop} {N : Nat}
    (hseq : ∀ H ι w, HeapRel H ι s.h w → ∀ lb : Array Value, lb.size = cs.length → (∀ (j : Nat) (x : AV) (v : Value), cs[j]? = some x → lb[j]? = some v → Rel H ι x v) → SeqStopsK Fence.wide 3 P gf lb (fun x => #[enc x]) (fun _ _ => True) S (fun _ => True) N w)
    (e0 : AEnv) (hI : List α → AHeap) (he0 : ESub e0 s.env) (hm0 : NoMap s.h) (hm : ∀ pre, NoMap (hI pre)) (h1 : HSub (hI []) s.h)
    (hbody : ∀ (l : Nat) (pre : List α) (x : α), pre.length < N → AGoR P l 2 body ⟨s.n, eput (eput e0 p (av x)) d (av x), hI pre⟩ (Then (fun s' => HSub (hI (pre ++ [x])) s'.h) (fun _ _ => False)))
    (hdone : ∀ xs, S xs → AD (Q .normal) H0 ι0 h0 w0 ⟨s.n, s.env, hI xs⟩) :
    AW P Q H0 ι0 h0 w0 (.block b0 (.rangeFunc g #[p] (.region ida #[oa] false) body)) s := fun H ι a w hs hst => by
  refine wp_block ?_
  refine wp_range hs hoa hda hga hp hd hpd hg eg hav (hseq H ι w hs.heap) e0 hI he0 hm0 hm h1 hbody fun D xs W H' ι' hD hS hr' hst' hK => ?_
  show Q .normal _ W
  refine hdone xs hS H' ι' _ W D ⟨hs.n, rfl, fun t x hx => ?_, hr'⟩ (hst.trans hr hs.heap hst') (Nat.le_trans hst.size hD) hK
  obtain ⟨v, e1, e2⟩ := hs.env t x hx
  exact ⟨v, e1, e2.mono hst'.kle hst'.lle⟩
theorem AGoR.join {l n : Nat} {R : Exit → AState → Prop} {γ : Type} {c : Code} (inv : γ → AState) (F : γ → Prop) (h : AGoR P l n c s (Then (fun s' => ∃ g, Sub (inv g) s' ∧ F g) R)) (k : ∀ g, F g → R .normal (inv g)) : AGoR P l n c s R := fun H ι a w hs =>
  wpIn_mono (h H ι a w hs) fun e a' w' hp => by
    obtain ⟨s', H', ι', q, r, t⟩ := hp
    cases e with
    | normal =>
      obtain ⟨g, d, hF⟩ := q
      obtain ⟨H2, ι2, r2, t2⟩ := Ghost.of_sub d H' ι' a' w' r
      exact ⟨_, H2, ι2, k g hF, r2, t.trans hs.heap r.heap t2⟩
    | _ => exact ⟨s', H', ι', q, r, t⟩
theorem Ghost.freezeP {n : Nat} {e : AEnv} {h : AHeap} (t b : Nat) {sz : Nat} {cs : List AV} (ht : e t = some (.ptr b 1 0 0)) (hb : h b = some (.row true sz [cs])) : Ghost ⟨n, e, h⟩ ⟨n, eput e t (.loc cs), hrm h b⟩ := fun H ι a w hs => by
  have hr := hs.heap
  obtain ⟨r, hl, ⟨r1, r2, r3, r4, r5, r6⟩, r7⟩ := hr.obj b _ hb rfl
  have hsol : r.csz ≠ 0 := by simp at r4; omega
  have hsubh : ∀ x o, hrm h b x = some o → h x = some o := fun x o hx => by
    by_cases hxb : x = b
    · subst hxb; rw [hrm_same] at hx; cases hx
    · rwa [hrm_ne _ hxb] at hx
  have hdom : ∀ x, h x = none → hrm h b x = none := fun x hx => by
    cases e : hrm h b x with
    | none => rfl
    | some o => rw [hsubh x o e] at hx; cases hx
  obtain ⟨c, TT, w1, w2, w3⟩ := r6 hsol
  have hnone : H r.rb = none := r7 hsol
  have hkle : KLe H (kput H r.rb c) := fun x c' e => by
    rw [kput_ne _ _ (fun hx => by subst hx; rw [hnone] at e; cases e)]; exact e
  have hsub := hr.sub hsubh
  have hheap : HeapRel (kput H r.rb c) ι (hrm h b) w := by
    refine ⟨fun x c' e => ?_, hsub.free, fun x o h1 h2 => ?_, hsub.inj, hr.glob.mono hkle⟩
    · by_cases hx : x = r.rb
      · subst hx; rw [kput_same] at e; cases e; obtain ⟨fr, w1', _⟩ := w1; exact ⟨TT, fr, w1'⟩
      · rw [kput_ne _ _ hx] at e; exact hr.know x c' e
    · obtain ⟨r', e1, e2, e3⟩ := hsub.obj x o h1 h2
      refine ⟨r', e1, e2.mono hkle (LLe.refl _) (fun _ => rfl), fun hs' => ?_⟩
      have hxb : x ≠ b := fun hx => by subst hx; rw [hrm_same] at h1; cases h1
      rw [kput_ne _ _ (hr.inj x b o _ r' r (hsubh _ _ h1) h2 hb rfl e1 hl hs' hsol hxb)]
      exact e3 hs'
  have hstep : Step H ι h w (kput H r.rb c) ι (hrm h b) w := by
    refine ⟨Nat.le_refl _, rfl, rfl, fun _ _ _ => rfl, hkle, fun x hx => ?_, LLe.refl _, fun _ _ => rfl, fun _ _ h _ => .inl h, hdom⟩
    by_cases hx' : x = r.rb
    · subst hx'; exact .inr (.inr ⟨b, _, r, hb, rfl, hl, hsol, rfl⟩)
    · rw [kput_ne _ _ hx'] at hx; exact .inl hx
  refine ⟨_, ι, ⟨hs.n, hs.d, fun u y hy => ?_, hheap⟩, hstep⟩
  by_cases hu : u = t
  · subst hu
    simp only [eput_same, Option.some.injEq] at hy
    subst hy
    obtain ⟨v, h1, h2⟩ := hs.env u _ ht
    have hv := h2.ptr_live hl r3
    subst hv
    refine ⟨_, h1, .loc _ _ _ _ c (fun k => (c[0 * r.sz + 0 + k]?).getD undef) (kput_same _ _ _) (fun j x hj => ?_) (fun j x hj => ?_) (fun j x hj => ?_)⟩
    · obtain ⟨u, f1, _⟩ := w3.2 0 cs j x rfl hj
      have f1' : c[0 * r.sz + 0 + j]? = some u := by rw [← f1]; congr 1; rw [r1]; omega
      show c[0 * r.sz + 0 + j]? = some ((c[0 * r.sz + 0 + j]?).getD undef); rw [f1']; rfl
    · obtain ⟨u, f1, f2, _⟩ := w3.2 0 cs j x rfl hj
      have f1' : c[0 * r.sz + 0 + j]? = some u := by rw [← f1]; congr 1; rw [r1]; omega
      show Rel _ _ _ ((c[0 * r.sz + 0 + j]?).getD undef); rw [f1']; exact f2.mono hkle (LLe.refl _)
    · obtain ⟨u, _, _, f3⟩ := w3.2 0 cs j x rfl hj; exact f3
  · simp only [eput_ne _ _ hu] at hy
    obtain ⟨v, h1, h2⟩ := hs.env u y hy
    exact ⟨v, h1, h2.mono hkle (LLe.refl _)⟩
theorem NoMap.rm {h : AHeap} (hh : NoMap h) (b : Nat) : NoMap (hrm h b) := fun c q hq => by
  by_cases hc : c = b
  · subst hc; rw [hrm_same] at hq; cases hq
  · rw [hrm_ne _ hc] at hq; exact hh c q hq
abbrev EndsM (P : Program) (fn : Func) (R : AV → AHeap → Prop) (H : Know) (ι : Lay) (h : AHeap) (w : World) : Exit → Act → World → Prop :=
  bodyPostM Fence.wide 3 P fn (fun e w' => ∃ v r h' H' ι', e = .returned v ∧ R r h' ∧ Rel H' ι' r v ∧ HeapRel H' ι' h' w' ∧ Step H ι h w H' ι' h' w')
theorem ACall.of_bodyM {f : FuncId} {fn : Func} {c : Code} {args : List AV} {h : AHeap} {R : AV → AHeap → Prop} (hf : P.funcs[f]? = some fn) (hb : fn.body = some c) {n : Nat} (hn : args.length + (fn.ntmps - args.length) = n)
    (hg : ∀ H ι w, HeapRel H ι h w → AW P (EndsM P fn R H ι h w) H ι h w c ⟨n, argEnv args, h⟩) : ACall P f args h R := by
  intro H ι w vs ha hr
  have hs : Sim H ι ⟨n, argEnv args, h⟩ { tmps := vs ++ Array.replicate (fn.ntmps - vs.size) undef, defers := [] } w := by
    refine ⟨by simp [← ha.1, hn], rfl, fun t x hx => ?_, hr⟩
    have hlt : t < vs.size := by
      rw [← ha.1]
      rcases Nat.lt_or_ge t args.length with h | h
      · exact h
      · simp only [argEnv] at hx; rw [List.getElem?_eq_none h] at hx; cases hx
    obtain ⟨v, hv⟩ := getElem?_some_of_lt hlt
    exact ⟨v, by simp only; rw [Array.getElem?_append_left hlt]; exact hv, ha.2 t x v hx hv⟩
  exact callsIn_wide.1 (callsIn_of_wp_marks (F := Fence.wide) (n := 3) hf hb trivial (wpIn_wide.2 (hg H ι w hr H ι _ w hs (Step.refl _ _ _ _))))
theorem AD.endM {T : Nat → Option TyI} (hT : TOk P T) (hmx : P.follows .mixedOrders = true) {fn : Func} {ops : Array Oper} {id : Nat} {R : AV → AHeap → Prop} (hr : HeapRel H0 ι0 h0 w0)
    (hld : ∀ (i : Nat) o, ops[i]? = some o → loadStore o = true) (hnm : NoMap s.h)
    (hd : DOps P ops s.n ops.toList s.env s.h [] (fun s' => NoMap s'.h ∧ ∃ xs, resAll T s' fn.results.toList xs ∧ R (packAV xs) s'.h)) :
    AD (fun a w => (Code.seq (.region id ops true) .ret).wp P (EndsM P fn R H0 ι0 h0 w0) a w) H0 ι0 h0 w0 s := fun H ι tm w D hs hst hD hK =>
  wp_endM hT hmx hld hs hnm hr hst hD hK hd
theorem AOps.junk {ops : Array Oper} {o : Oper} {rest : List Oper} {n : Nat} {e : AEnv} {h : AHeap} {K : AState → Prop} (d : Nat) {v : Value} (hd : o.dst = some d) (ho : o.op = .assign (.const v)) (hg : o.guard = none) (he : e d = none) (hr : AOps P ops rest ⟨n, e, h⟩ K) : AOps P ops (o :: rest) ⟨n, e, h⟩ K := by
  intro H ι a w hs
  unfold wpList
  rw [if_pos (by simp [Region.wanted, hg])]
  refine .inl ?_
  unfold Oper.wp
  simp only [execOp, ho, Sem.run_pure]
  refine hr H ι _ w ?_
  rw [hd]
  refine ⟨by simp [Act.put, hs.n], hs.d, fun t x hx => ?_, hs.heap⟩
  have hne : d ≠ t := fun e2 => by subst e2; rw [show e d = some x from hx] at he; cases he
  obtain ⟨v', e1, e2⟩ := hs.env t x hx
  exact ⟨v', by simp only [Act.put]; rw [Array.getElem?_setIfInBounds_ne hne]; exact e1, e2⟩
end
end Go.Proofs.YtbbfelelocccmaaGreat.Sv

namespace Go.Proofs.YtbbfelelocccmaaGreat.Sv
open Go Go.RowKit Go.Shelf
abbrev Below' (N : Nat) := { k : Nat // k < N }
def leftOf : Value → Nat
  | .int _ i => (i + 1).toNat
  | _ => 0
theorem rev_succ (k : Nat) : (List.range (k + 1)).reverse = k :: (List.range k).reverse := by
  rw [List.range_succ, List.reverse_append]; rfl
theorem down_in (l N b off : Nat) (hN : N ≤ 1000000000) (J Jx : List (Below' N) → World → Prop)
    (hY : ∀ pre (x : Below' N) W, J pre W → pre.length < N → YieldAt Fence.wide 2 Tryz.prog l #[.int .i64 (x.1 : Int)] W fun e W' =>
      (e = .returned (.bool true) ∧ J (pre ++ [x]) W' ∧ True) ∨ (e = .returned (.bool false) ∧ Jx (pre ++ [x]) W'))
    (W : World) (hB : W.cell? ⟨b, off, none⟩ = some (.int .i64 (N : Int))) (h0 : J [] W) :
    CallsIn Fence.wide 3 Tryz.prog 110 #[.func (.yield l) #[] #[], .pointer (some ⟨b, off, none⟩)] W fun e W' => (∃ v, e = .returned v) ∧
      ((∃ xs : List (Below' N), xs.map (·.1) = (List.range N).reverse ∧ J xs W') ∨ (∃ pre, True ∧ Jx pre W')) := by
  refine callsIn_of_wp Tryz.func110 rfl trivial ?_ rfl
  simp only [Tryz.ntmps110, List.size_toArray, List.length_cons, List.length_nil, Nat.reduceAdd, Nat.reduceSub, Array.replicate_succ, Array.replicate_zero, List.push_toArray, List.append_toArray, List.nil_append, List.cons_append]
  gi_wp2
  gi_loopw [3] (fun p wr => ∃ (m : Nat) (pre : List (Below' N)), p = .int .i64 ((m : Int) - 1) ∧ pre.map (·.1) ++ (List.range m).reverse = (List.range N).reverse ∧ J pre wr)
    (fun p wr => leftOf p)
  case atStart =>
    exact ⟨N, [], rfl, rfl, h0⟩
  case round =>
    obtain ⟨m, pre, rfl, hx, hJs⟩ := hrel
    have hlen := congrArg List.length hx
    simp only [List.length_append, List.length_map, List.length_reverse, List.length_range] at hlen
    cases m with
    | zero =>
      gi_wp2
      exact ⟨rfl, _, results_none rfl _ _ _, ⟨_, rfl⟩, .inl ⟨pre, by simpa using hx, hJs⟩⟩
    | succ k =>
      have hk : k < N := by omega
      obtain ⟨fn, tmps, assign, body, hy, hR⟩ := hY pre ⟨k, hk⟩ wr hJs (by omega)
      dsimp only at hy
      gi_wp2
      refine hR.mono ?_
      rintro e W3 (⟨rfl, hJ3, _⟩ | ⟨rfl, hJx3⟩)
      · gi_wp2
        refine ⟨⟨k, pre ++ [⟨k, hk⟩], rfl, ?_, hJ3⟩, ?_⟩
        · rw [List.map_append, ← hx, rev_succ]
          simp only [List.map_cons, List.map_nil, List.append_assoc, List.cons_append, List.nil_append]
        · show ((k : Int) - 1 + 1).toNat < (((k + 1 : Nat) : Int) - 1 + 1).toNat
          omega
      · gi_wp2
        exact ⟨rfl, _, results_none rfl _ _ _, ⟨_, rfl⟩, .inr ⟨_, trivial, hJx3⟩⟩
theorem down_stops {N : Nat} (hN : N ≤ 1000000000) {H : Know} {ι : Lay} {h : AHeap} {w : World} (hr : HeapRel H ι h w) (lb : Array Value) (hl : lb.size = [AV.loc [.int .i64 (N : Int)]].length)
    (hlb : ∀ (j : Nat) (x : AV) (v : Value), [AV.loc [.int .i64 (N : Int)]][j]? = some x → lb[j]? = some v → Rel H ι x v) :
    SeqStopsK Fence.wide 3 Tryz.prog 110 lb (fun x : Below' N => #[.int .i64 (x.1 : Int)]) (fun _ _ => True) (fun xs => xs.map (·.1) = (List.range N).reverse) (fun _ => True) N w := by
  intro l J Jx W hB hJ hJx hY h0
  obtain ⟨v, hv⟩ := (⟨lb[0]'(by rw [hl]; exact Nat.zero_lt_one), Array.getElem?_eq_getElem _⟩ : ∃ v, lb[0]? = some v)
  have hlb2 : lb = #[v] := by
    cases lb with
    | mk L => cases L with
      | nil => simp at hv
      | cons y L => cases L with
        | nil => simp at hv; rw [hv]
        | cons z L => simp at hl
  subst hlb2
  obtain ⟨b, off, c, vals, rfl, hb, hcv, hcr, _⟩ := (hlb 0 _ v rfl hv).loc_inv
  have e1 := hcv 0 _ rfl
  have e2 := hcr 0 _ rfl
  cases e2_ : vals 0 with
  | int k i =>
    rw [e2_] at e2 e1
    cases e2
    obtain ⟨T, fr, e3⟩ := hr.know b c hb
    have e4 : W.heap[b]? = some (.cells c T fr) := by
      have := hB.block b (Array.getElem?_eq_some_iff.1 e3).1
      exact this.trans e3
    refine (down_in l N b off hN J Jx hY W ?_ h0).mono ?_
    · unfold World.cell?
      rw [e4]
      exact e1
    · intro e W' hp; exact hp
  | _ => rw [e2_] at e2; cases e2
theorem down_ok (n : Int) : ACall Tryz.prog 107 [.int .i64 n] hNew (fun r h' => r = .fn (.func 110) [] [.loc [.int .i64 n]] ∧ HSub hNone h') := by
  refine ACall.of_body (n := 4) tok Tryz.func107 rfl rfl ?_;refine asr ?_;refine ax 1 (obx 1 0) ?_;refine AOps.junk 2 rfl rfl rfl rfl ?_;refine an ?_;refine asq ?_;refine AGo.ghost (.plain 0 rfl (by intro cs hc; simp at hc; subst hc; rfl)) ?_;refine AGo.ghost (.freezeP 1 0 rfl rfl) ?_;refine agr ?_;refine aq 3 (q_makeFunc rfl rfl rfl) ?_;refine aa 2 ?_;refine an ?_;refine agt ?_;exact ⟨[_], ⟨rfl, trivial⟩, rfl, HSub.none _⟩
end Go.Proofs.YtbbfelelocccmaaGreat.Sv

namespace Go.Proofs.YtbbfelelocccmaaGreat.Sv
open Go
theorem radd_okI (z R : Nat) (i : Int) (p : Nat → Bool) (h0 : 0 ≤ i) (hi : i < R) (hR : R ≤ 100000) : ACall Tryz.prog 106 [.ref z (nw R) 0 (nw R), .int .i64 i] (hput hNew z (wRow R p)) (fun r h' => r = .tup [] ∧ HSub (hput hNone z (wRow R (fun v => p v || v == i.toNat))) h') := by
  have := radd_ok z R i.toNat p (by omega) hR
  rw [Int.toNat_of_nonneg h0] at this
  exact this
theorem rrm_okI (z R : Nat) (i : Int) (p : Nat → Bool) (h0 : 0 ≤ i) (hi : i < R) (hR : R ≤ 100000) : ACall Tryz.prog 108 [.ref z (nw R) 0 (nw R), .int .i64 i] (hput hNew z (wRow R p)) (fun r h' => r = .tup [] ∧ HSub (hput hNone z (wRow R (fun v => p v && !(v == i.toNat)))) h') := by
  have := rrm_ok z R i.toNat p (by omega) hR
  rw [Int.toNat_of_nonneg h0] at this
  exact this
theorem tR_nil (x : Block) : tR x [] = endz x := rfl
theorem tS_nil (x : Block) : tS x [] = fun _ => false := rfl
theorem rowW_full {R : Nat} {p : Nat → Bool} : ((rowW R p).drop 0).take (nw R) = rowW R p := by rw [List.drop_zero, List.take_of_length_le (by rw [rowW_len]; exact Nat.le_refl _)]
attribute [local irreducible] rowW endz rmT setT addUs tR tS
theorem touch_ok (x : Block) (R : Nat) (hR : R ≤ 100000) (hi : x.ins.length ≤ 100000) (hT : ∀ t ∈ x.ins, t.inR (R : Int)) (hv : x.fin = 2 → 0 ≤ x.v ∧ x.v < R) : ACall Tryz.prog 97 [.agg x.cells, .int .i64 (R : Int)] hNew (fun r h' => r = .tup [.lst false (rowW R (readP x)), .lst false (rowW R (fun v => setsAny v x.ins))] ∧ HSub hNone h') := by
 refine ACall.of_bodyM (n := 57) Tryz.func97 rfl rfl ?_
 intro H0 ι0 w0 hr
 refine AW.seq hr ?_;refine agr ?_;refine ax 2 (obx 5 0) ?_;refine ax 4 (oal tok 1) ?_;refine ax 5 (oal tok 2) ?_;refine an ?_;refine AW.seq hr ?_;refine agr ?_;refine am 10 ?_;refine ax 11 (oct (rowOf_ok 3 R hR) [3] [(3, (wRow R (fun _ => false)))] rfl Tryz.func98 (by kernel_rfl) rfl rfl rfl ⟨⟨_, rfl, rfl⟩, trivial⟩ rfl (hres_cons rfl (hres_nil _)) ⟨⟨_, rfl, rfl, rfl⟩, trivial⟩ rfl) ?_;refine am 12 ?_;refine ax 13 (oct (rowOf_ok 4 R hR) [4] [(4, (wRow R (fun _ => false)))] rfl Tryz.func98 (by kernel_rfl) rfl rfl rfl ⟨⟨_, rfl, rfl⟩, trivial⟩ rfl (hres_cons rfl (hres_nil _)) ⟨⟨_, rfl, rfl, rfl⟩, trivial⟩ rfl) ?_;refine AOps.w rfl rfl (o_store tok rfl rfl rfl rfl rfl rfl rfl rfl rfl (by decide) rfl z33q) ?_;refine AOps.w rfl rfl (o_store tok rfl rfl rfl rfl rfl rfl rfl rfl rfl (by decide) rfl z33q) ?_;refine an ?_;refine AW.seq hr ?_;refine AGo.join (γ := Unit) (fun _u => ⟨57, (eput (eput (eput eNew 2 (.ptr 0 1 0 0)) 4 (.ptr 1 1 0 0)) 5 (.ptr 2 1 0 0)), (hput (hput (hput (hput (hput hNone 0 (.row false 5 [x.cells])) 1 (.row false 1 [[.ref 3 (nw R) 0 (nw R)]])) 2 (.row false 1 [[.ref 4 (nw R) 0 (nw R)]])) 3 (wRow R (endz x))) 4 (wRow R (fun _ => false)))⟩) (fun _u => True) ?_ ?_
 ·
  refine asr ?_;refine aQ tok 3 rfl ?_;refine an ?_;refine asp 16 (fun hb1 => ?_) fun hb1 => ?_
  ·
   refine act ?_
   have hfin : x.fin = 2 := by simpa using hb1
   have hv2 := hv hfin
   skip
   refine agr ?_;refine aQ tok 3 rfl ?_;refine ax 20 (oct (radd_okI 3 R x.v (fun _ => false) hv2.1 hv2.2 hR) [3] [(3, (wRow R (fun v => (fun _ => false) v || v == x.v.toNat)))] rfl Tryz.func106 (by kernel_rfl) rfl rfl rfl ⟨⟨_, rfl, rfl⟩, trivial⟩ rfl (hres_cons rfl (hres_nil _)) ⟨⟨_, rfl, rfl, rfl⟩, trivial⟩ rfl) ?_;refine an ?_;exact ⟨(), Sub.mk' z29q z4q, trivial⟩
  refine acf ?_
  have hfin : ¬ x.fin = 2 := by simpa using hb1
  refine agk ?_;exact ⟨(), Sub.mk' z29q z4q, trivial⟩
 intro _ _
 refine AW.seqw ?_;refine AW.seq hr ?_;refine agr ?_;refine aQ tok 3 rfl ?_;refine ax 24 (o_call (r := (.fn (.func 110) [] [.loc [.int .i64 (x.ins.length : Int)]])) (hc := hNew) (hw := hNone) [] [] rfl Tryz.func107 (by kernel_rfl) rfl rfl rfl trivial rfl (hres_nil _) trivial rfl (by rw [List.length_map]; exact down_ok _)) ?_;refine an ?_;refine AW.range hr (α := Below' x.ins.length) (S := fun xs => xs.map (·.1) = (List.range x.ins.length).reverse) (N := x.ins.length) rfl rfl rfl (by show 25 < 57; decide) (by show 6 < 57; decide) (by decide) rfl (fun _ _ => rfl) (fun q => .int .i64 (q.1 : Int)) (fun q => .int .i64 (q.1 : Int)) (fun _ _ _ => .int _ _ _) (fun H ι w hh lb h1 h2 => down_stops (by omega) hh lb h1 h2) (eput (eput (eput eNew 2 (.ptr 0 1 0 0)) 4 (.ptr 1 1 0 0)) 5 (.ptr 2 1 0 0)) (fun pre => (hput (hput (hput (hput (hput hNone 0 (.row false 5 [x.cells])) 1 (.row false 1 [[.ref 3 (nw R) 0 (nw R)]])) 2 (.row false 1 [[.ref 4 (nw R) 0 (nw R)]])) 3 (wRow R ((tR x (pre.map (·.1)))))) 4 (wRow R ((tS x (pre.map (·.1))))))) z29q z24q (fun _ => z24q) (by repeat (first | exact HSub.refl _ | exact HSub.none _ | exact HSub.from_new _ | exact HSub.from_from z37q | refine HSub.put ?_ (by first | rfl | exact congrArg (fun p => some (wRow R p)) (tR_nil x).symm | exact congrArg (fun p => some (wRow R p)) (tS_nil x).symm) | refine HSub.from_put ?_ z37q | refine HSub.from_rm ?_ (by decide))) ?_ ?_
 ·
  intro l pre q hlt
  obtain ⟨t, ht⟩ := get_of_lt q.2
  have hin := hT t (List.mem_of_getElem? ht)
  refine AGoR.block ?_;refine AGoR.seq ?_;refine AGoR.seq ?_;refine AGoR.region rfl ?_;refine aQ tok 3 rfl ?_;refine aq 29 (qil tok (idx_map ht)) ?_;refine al 30 tok ?_;refine ax 31 (opu Tryz.func77 (bsets_ok _)) ?_;refine aa 7 ?_;refine an ?_;refine AGoR.seq ?_;refine AGoR.region rfl ?_;refine aQ tok 2 rfl ?_;refine an ?_;refine AGoR.join (γ := Unit) (fun _u => ⟨57, (eput (eput (eput (eput (eput eNew 2 (.ptr 0 1 0 0)) 4 (.ptr 1 1 0 0)) 5 (.ptr 2 1 0 0)) 25 (.int .i64 (q.1 : Int))) 6 (.int .i64 (q.1 : Int))), (hput (hput (hput (hput (hput hNone 0 (.row false 5 [x.cells])) 1 (.row false 1 [[.ref 3 (nw R) 0 (nw R)]])) 2 (.row false 1 [[.ref 4 (nw R) 0 (nw R)]])) 3 (wRow R (rmT t (tR x (pre.map (·.1)))))) 4 (wRow R (setT t (tS x (pre.map (·.1))))))⟩) (fun _u => True) ?_ ?_
  ·
   refine AGoR.split 33 rfl (fun hb2 => ?_) (fun hb2 => ?_)
   ·
    refine AGoR.cond_true true rfl rfl ?_
    have hsp : 0 ≤ t.sets := by simpa using hb2
    have hs1 : t.sets < R := by have := hin.1 (sets_pos (by simpa using hb2)); rw [sets_eq (sets_pos (by simpa using hb2))]; omega
    refine AGoR.seq ?_;refine AGoR.region rfl ?_;refine aQ tok 2 rfl ?_;refine ax 36 (oct (rrm_okI 3 R t.sets (tR x (pre.map (·.1))) hsp hs1 hR) [3] [(3, (wRow R (fun v => (tR x (pre.map (·.1))) v && !(v == t.sets.toNat))))] rfl Tryz.func108 (by kernel_rfl) rfl rfl rfl ⟨⟨_, rfl, rfl⟩, trivial⟩ rfl (hres_cons rfl (hres_nil _)) ⟨⟨_, rfl, rfl, rfl⟩, trivial⟩ rfl) ?_;refine an ?_;refine AGoR.region rfl ?_;refine aQ tok 2 rfl ?_;refine ax 39 (oct (radd_okI 4 R t.sets (tS x (pre.map (·.1))) hsp hs1 hR) [4] [(4, (wRow R (fun v => (tS x (pre.map (·.1))) v || v == t.sets.toNat)))] rfl Tryz.func106 (by kernel_rfl) rfl rfl rfl ⟨⟨_, rfl, rfl⟩, trivial⟩ rfl (hres_cons rfl (hres_nil _)) ⟨⟨_, rfl, rfl, rfl⟩, trivial⟩ rfl) ?_;refine an ?_;exact ⟨(), Sub.mk' z29q z3q, trivial⟩
   refine AGoR.cond_false false rfl rfl ?_
   have hsp : ¬ 0 ≤ t.sets := by simpa using hb2
   refine AGoR.skip ?_;exact ⟨(), Sub.mk' z29q z3q, trivial⟩
  intro _ _
  refine AGoR.seq ?_;refine AGoR.region rfl ?_;refine aQ tok 3 rfl ?_;refine aq 43 (qil tok (idx_map ht)) ?_;refine al 44 tok ?_;refine ax 45 (opu Tryz.func81 (buses_ok _)) ?_;refine aQ tok 2 rfl ?_;refine an ?_;refine AGoR.block ?_;refine AGoR.loopI (γ := Nat) (fun k => ⟨57, (eput (eput (eput (eput (eput (eput (eput (eput eNew 2 (.ptr 0 1 0 0)) 4 (.ptr 1 1 0 0)) 5 (.ptr 2 1 0 0)) 25 (.int .i64 (q.1 : Int))) 6 (.int .i64 (q.1 : Int))) 45 (intsAV t.uses)) 46 (.int .i64 (t.uses.length : Int))) 47 (.int .i64 (k : Int))), (hput (hput (hput (hput (hput hNone 0 (.row false 5 [x.cells])) 1 (.row false 1 [[.ref 3 (nw R) 0 (nw R)]])) 2 (.row false 1 [[.ref 4 (nw R) 0 (nw R)]])) 3 (wRow R (addUs (t.uses.take k) (rmT t (tR x (pre.map (·.1))))))) 4 (wRow R (setT t (tS x (pre.map (·.1))))))⟩) (fun k => True) (fun k => t.uses.length - k) 0 (Sub.mk' (by repeat (first | exact ESub.new _ | refine ESub.put ?_ (by first | rfl | exact congrArg (fun (n : Nat) => some (AV.int .i64 (n : Int))) (by simp) | exact congrArg (fun n : Nat => some (AV.int .i64 (n : Int))) (by simp)))) (by repeat (first | exact HSub.refl _ | exact HSub.none _ | exact HSub.from_new _ | exact HSub.from_from z37q | refine HSub.put ?_ (by first | rfl | exact wRow_congr (fun v => by rw [List.take_zero]; exact addUs_nil v)) | refine HSub.from_put ?_ z37q | refine HSub.from_rm ?_ (by decide)))) trivial ?_
  intro k _
  refine AGoR.seq ?_;refine AGoR.region rfl ?_;refine aqb ?_;refine an ?_;refine AGoR.seq ?_;refine AGoR.split 48 rfl (fun hb3 => ?_) (fun hb3 => ?_)
  ·
   refine AGoR.cond_true true rfl rfl ?_
   have hkl : k < t.uses.length := by have h := hb3; simp [intsAV] at h; exact h
   obtain ⟨u, hu⟩ := get_of_lt hkl
   have hub := hin.2 u (List.mem_of_getElem? hu)
   refine AGoR.skip ?_;refine AGoR.seq ?_;refine AGoR.block ?_;refine AGoR.seq ?_;refine AGoR.region rfl ?_;refine aq 49 (qil tok (idx_map hu)) ?_;refine aQ tok 2 rfl ?_;refine an ?_;refine AGoR.region rfl ?_;refine aQ tok 2 rfl ?_;refine ax 53 (oct (radd_okI 3 R u (addUs (t.uses.take k) (rmT t (tR x (pre.map (·.1))))) hub.1 hub.2 hR) [3] [(3, (wRow R (fun v => (addUs (t.uses.take k) (rmT t (tR x (pre.map (·.1))))) v || v == u.toNat)))] rfl Tryz.func106 (by kernel_rfl) rfl rfl rfl ⟨⟨_, rfl, rfl⟩, trivial⟩ rfl (hres_cons rfl (hres_nil _)) ⟨⟨_, rfl, rfl, rfl⟩, trivial⟩ rfl) ?_;refine an ?_;refine AGoR.region rfl ?_;refine aq 54 (q_inc rfl rfl hkl (by have := uses_len t; simp only [maxLen]; omega)) ?_;refine am 47 ?_;refine an ?_;exact ⟨k+1, Sub.mk' z29q (by repeat (first | exact HSub.refl _ | exact HSub.none _ | exact HSub.from_new _ | exact HSub.from_from z37q | refine HSub.put ?_ (by first | rfl | exact wRow_congr (addUs_succ hu hub.1)) | refine HSub.from_put ?_ z37q | refine HSub.from_rm ?_ (by decide))), trivial, by omega⟩
  refine AGoR.cond_false false rfl rfl ?_
  have hge : t.uses.length ≤ k := by have h := hb3; simp [intsAV] at h; omega
  refine AGoR.exit ?_
  show HSub _ _
  exact (by repeat (first | exact HSub.refl _ | exact HSub.none _ | exact HSub.from_new _ | exact HSub.from_from z37q | refine HSub.put ?_ (by first | rfl | exact wRow_congr (fun v => by rw [List.map_append, List.take_of_length_le hge]; exact (congrFun (tR_snoc ht) v).symm) | exact wRow_congr (fun v => by rw [List.map_append]; exact (congrFun (tS_snoc ht) v).symm)) | refine HSub.from_put ?_ z37q | refine HSub.from_rm ?_ (by decide)))
 intro xs hS
 dsimp only
 rw [hS]
 refine AD.ghost hr (.freezeCell 1 0 0 3 rfl rfl rfl rfl (rowW_len _ _).symm (by decide)) ?_;refine AD.ghost hr (.freezeCell 2 0 0 4 rfl rfl rfl rfl (rowW_len _ _).symm (by decide)) ?_
 rw [rowW_full, rowW_full]
 refine AD.endM tok mix hr (by intro i o ho; rcases i with _ | _ | _ | _ | i <;> first | (cases ho; rfl) | (simp at ho)) z24q ?_;refine dQ tok 2 rfl ?_;refine DOps.w rfl rfl (o_store tok rfl rfl rfl rfl rfl rfl rfl rfl rfl (by decide) rfl z33q) ?_;refine DOps.w rfl rfl (o_store tok rfl rfl rfl rfl rfl rfl rfl rfl rfl (by decide) rfl z33q) ?_;refine DOps.nil (by kernel_rfl) ?_;refine ⟨z24q, [.lst false _, .lst false _], ⟨⟨_, _, _, _, rfl, rfl, .ptr _ _ _ _ _ _ _ _ rfl rfl rfl, rfl⟩, ⟨_, _, _, _, rfl, rfl, .ptr _ _ _ _ _ _ _ _ rfl rfl rfl, rfl⟩, trivial⟩, ?_, HSub.none _⟩
 rw [show rowW R (readP x) = _ from (rowW_congr (tR_all x)).symm, show rowW R (fun v => setsAny v x.ins) = _ from (rowW_congr (tS_all x)).symm]
 rfl
end Go.Proofs.YtbbfelelocccmaaGreat.Sv

namespace Go.Proofs.YtbbfelelocccmaaGreat.Sv
open Go
theorem tiny_touch : APure Tryz.prog 97 [.agg tinyBl.cells, .int .i64 3] (fun r => r = touchR) := by
  have hT : ∀ t ∈ tinyBl.ins, t.inR (3 : Int) := fun t ht => by
    simp only [tinyBl, List.mem_cons, List.not_mem_nil, or_false] at ht
    rcases ht with rfl | rfl <;> exact ⟨by decide, by decide⟩
  have h := touch_ok tinyBl 3 (by decide) (by decide) hT (fun h => absurd h (by decide))
  have e : AV.tup [.lst false (rowW 3 (readP tinyBl)), .lst false (rowW 3 (fun v => setsAny v tinyBl.ins))] = touchR := by rfl
  rw [e] at h
  exact APure.of_call rfl h
theorem tiny_of : APure Tryz.prog 15 tinyAA (fun r => r = tinyR) :=
  APure.of_runR (ct := ct35) (fz := fz35) (lg := [(97, [.agg tinyBl.cells, .int .i64 3], touchR)]) tok mt_ok (by kernel_rfl) 1000 (by kernel_rfl) (logOk_cons tiny_touch (logOk_nil _))
def certV (k : Int) (f : Nat) : Value := .agg #[.int .i64 k, .func (.func f) #[] #[]]
def passV (k : Int) : Value := bif k == 1 then .iface 97 (certV 1 41) else bif k == 2 then .iface 97 (certV 2 42) else bif k == 3 then .iface 97 (certV 3 43) else bif k == 4 then .iface 99 (.agg #[.int .i64 4]) else .nilIface
theorem kind_no {k : Int} (h1 : k ≠ 1) (h2 : k ≠ 2) (h3 : k ≠ 3) (h4 : k ≠ 4) : kind35 k = false := by
  rw [kind35, decide_eq_false_iff_not]; omega
theorem passV_no {k : Int} (h1 : k ≠ 1) (h2 : k ≠ 2) (h3 : k ≠ 3) (h4 : k ≠ 4) : passV k = .nilIface := by
  have a1 : (k == 1) = false := beq_eq_false_iff_ne.2 h1
  have a2 : (k == 2) = false := beq_eq_false_iff_ne.2 h2
  have a3 : (k == 3) = false := beq_eq_false_iff_ne.2 h3
  have a4 : (k == 4) = false := beq_eq_false_iff_ne.2 h4
  simp [passV, a1, a2, a3, a4]
theorem kind_cases {k : Int} (h : kind35 k = true) : k = 1 ∨ k = 2 ∨ k = 3 ∨ k = 4 := by
  have := of_decide_eq_true h
  omega
def recvAV (k : Int) : AV := match ofVal (match passV k with | .iface _ v => v | v => v) with
  | some x => x
  | none => .nil
def holdsFn (k : Int) : Nat := bif k == 4 then 141 else 127
def HoldsOk (p : OPass) (f : BFunc) : Prop := APure Tryz.prog (holdsFn p.kind) [recvAV p.kind, .agg f.cells, .agg p.cells] (fun r => r = .bool (p.holds f))
section
variable {o : Oper} {e : AEnv} {h : AHeap}
theorem o_holds {recv : Operand} {args : Array Operand} {tys : Array TypeId} {p : OPass} {f : BFunc} (hk : kind35 p.kind = true) (ho : o.op = .call { callee := .invoke recv "seedcorn/optimize.holds", args := args, argTypes := tys })
    (hr : look e recv = some (.val (passV p.kind))) (hx : lookAll e args.toList = some [.agg f.cells, .agg p.cells]) (hc : HoldsOk p f) : OLoc Tryz.prog o e h [] [] (some (.bool (p.holds f))) := by
  unfold HoldsOk at hc
  rcases kind_cases hk with h1 | h1 | h1 | h1 <;> rw [h1] at hr hc
  · exact o_invoke ho hr (fun w => mt_ch _ w) (ofVal_rel (by rfl)) Tryz.func127 (by kernel_rfl) rfl hx rfl hc
  · exact o_invoke ho hr (fun w => mt_ch _ w) (ofVal_rel (by rfl)) Tryz.func127 (by kernel_rfl) rfl hx rfl hc
  · exact o_invoke ho hr (fun w => mt_ch _ w) (ofVal_rel (by rfl)) Tryz.func127 (by kernel_rfl) rfl hx rfl hc
  · exact o_invoke ho hr (fun w => mt_jh _ w) (ofVal_rel (by rfl)) Tryz.func141 (by kernel_rfl) rfl hx rfl hc
end
theorem mstep_cap {fuel : Int} {m : Mach} (h : (m.steps : Int) ≤ fuel) : ((mstep fuel m).2.steps : Int) ≤ fuel := by
  unfold mstep
  cases e : decide ((m.steps : Int) ≥ fuel) with
  | true => exact h
  | false =>
    have := of_decide_eq_false e
    show ((m.steps + 1 : Nat) : Int) ≤ fuel
    omega
theorem mone_cap {call : Int → Mach → Mach} {s : ByteArray} {fuel : Int} (hc : ∀ i m, (m.steps : Int) ≤ fuel → ((call i m).steps : Int) ≤ fuel) (t : Tac) (regs : List Int) {m : Mach} (h : (m.steps : Int) ≤ fuel) : ((mone call s t regs m).2.steps : Int) ≤ fuel := by
  have k : ∀ (c : Bool) (x y : List Int × Mach), (x.2.steps : Int) ≤ fuel → (y.2.steps : Int) ≤ fuel → (((bif c then x else y).2.steps : Nat) : Int) ≤ fuel := fun c x y h1 h2 => by
    cases c
    · exact h2
    · exact h1
  unfold mone
  exact k _ _ _ h (k _ _ _ h (k _ _ _ (k _ _ _ h h) (k _ _ _ h (k _ _ _ h (k _ _ _ (k _ _ _ h h) (k _ _ _ (k _ _ _ h h) (k _ _ _ (k _ _ _ h h) (k _ _ _ (k _ _ _ h h) (k _ _ _ (hc _ _ h) h)))))))))
theorem mins_cap {call : Int → Mach → Mach} {s : ByteArray} {fuel : Int} (hc : ∀ i m, (m.steps : Int) ≤ fuel → ((call i m).steps : Int) ≤ fuel) : ∀ (l : List Tac) (regs : List Int) (m : Mach), (m.steps : Int) ≤ fuel → ((mins call s fuel l regs m).2.2.steps : Int) ≤ fuel
  | [], _, _, h => h
  | t :: r, regs, m, h => by
    have h1 := mstep_cap h
    have h2 := mone_cap (s := s) hc t regs h1
    unfold mins
    cases (mstep fuel m).1 with
    | false => exact h1
    | true =>
      simp only [cond_true]
      cases (mone call s t regs (mstep fuel m).2).2.fin == 0 with
      | false => exact h2
      | true => exact mins_cap hc r _ _ h2
theorem mblk_cap {call : Int → Mach → Mach} {s : ByteArray} {fuel : Int} (hc : ∀ i m, (m.steps : Int) ≤ fuel → ((call i m).steps : Int) ≤ fuel) {f : BFunc} : ∀ (g : Nat) (i : Int) (regs : List Int) (m : Mach), (m.steps : Int) ≤ fuel → ((mblk call s fuel f g i regs m).steps : Int) ≤ fuel
  | 0, _, _, _, h => h
  | g + 1, i, regs, m, h => by
    unfold mblk
    split
    · exact h
    · rename_i k hk
      have h2 := mins_cap (s := s) hc k.ins regs m h
      have h3 := mstep_cap h2
      dsimp only
      cases (mins call s fuel k.ins regs m).1 with
      | false => exact h2
      | true =>
        simp only [cond_true]
        cases (mstep fuel (mins call s fuel k.ins regs m).2.2).1 && !(k.fin == 3) with
        | false => exact h3
        | true => exact mblk_cap hc g _ _ _ h3
theorem mfun_cap {b : Blocks} {s : ByteArray} {fuel : Int} : ∀ (n : Nat) (i : Int) (m : Mach), (m.steps : Int) ≤ fuel → ((mfun b s fuel n i m).steps : Int) ≤ fuel
  | 0, _, _, h => h
  | n + 1, i, m, h => by
    unfold mfun
    split
    · exact h
    · exact mblk_cap (fun i m h => mfun_cap n i m h) _ _ _ _ h
theorem mrun_cap (b : Blocks) (s : ByteArray) {n : Int} (hn : 0 ≤ n) : ((mrun b s n).steps : Int) ≤ n := by
  have h0 : fuel0 n = n := by
    unfold fuel0
    rw [decide_eq_false (by omega)]; rfl
  rw [(mrun_cases b s n).2.1, h0]
  exact mfun_cap _ _ _ hn
structure Ask35 where
  old : Blocks
  new : Blocks
  l : List (List OPass)
  s : ByteArray
def Ask35.cells (z : Ask35) : List AV := [.int .i64 z.old.words, funcsAV z.old.funcs, .int .i64 z.new.words, funcsAV z.new.funcs, listAV z.l, .str z.s]
def fewO (p : OPass) : Bool := decide (p.f.count ≤ 200) && decide (p.f.regs ≤ 30)
def fewP (l : List OPass) : Bool := decide (l.length ≤ 8) && l.all fewO
def few35 (z : Ask35) : Bool := decide (z.l.length ≤ 8) && (small35 z.old && (decide (z.new.funcs.length ≤ 8) && (decide (z.new.count ≤ 300) && (decide (z.s.size ≤ 60) && z.l.all fewP))))
structure PassLim (p : OPass) : Prop where
  c : p.f.count ≤ 1048576
  w : p.f.words
  n : p.paths.length ≤ 1048576
  q : ∀ r ∈ p.paths, r.length ≤ 1048576
structure ListLim (l : List (List OPass)) : Prop where
  n : l.length ≤ 1048576
  m : ∀ ps ∈ l, ps.length ≤ 1048576
  p : ∀ ps ∈ l, ∀ p ∈ ps, PassLim p
structure AskLim (z : Ask35) : Prop where
  o : z.old.Lim
  n : z.new.Lim
  l : ListLim z.l
  ow : ∀ f ∈ z.old.funcs, f.words
  nw : ∀ f ∈ z.new.funcs, f.words
structure Few35 (z : Ask35) : Prop where
  l : z.l.length ≤ 8
  old : Small35 z.old
  n : z.new.funcs.length ≤ 8
  c : z.new.count ≤ 300
  s : z.s.size ≤ 60
  p : ∀ ps ∈ z.l, ps.length ≤ 8 ∧ ∀ p ∈ ps, p.f.count ≤ 200 ∧ p.f.regs ≤ 30
theorem few35_of {z : Ask35} (h : few35 z = true) : Few35 z := by
  simp only [few35, Bool.and_eq_true, decide_eq_true_eq] at h
  refine ⟨h.1, small35_of h.2.1, h.2.2.1, h.2.2.2.1, h.2.2.2.2.1, fun ps hp => ?_⟩
  have := List.all_eq_true.1 h.2.2.2.2.2 ps hp
  simp only [fewP, Bool.and_eq_true, decide_eq_true_eq] at this
  refine ⟨this.1, fun p hpp => ?_⟩
  have h2 := List.all_eq_true.1 this.2 p hpp
  simpa [fewO] using h2
theorem allq_take {α : Type} {q : α → Bool} {l : List α} {k : Nat} {f : α} (h : l[k]? = some f) (h1 : (l.take k).all q = true) (h2 : q f = true) : (l.take (k + 1)).all q = true := by
  rw [List.take_add_one, h, List.all_append, h1]
  simp [h2]
theorem allq_no {α : Type} {q : α → Bool} {l : List α} {f : α} (h : f ∈ l) (h2 : q f = false) : l.all q = false := by
  rw [Bool.eq_false_iff]
  intro e
  rw [List.all_eq_true.1 e f h] at h2
  cases h2
theorem fewP_no {l : List OPass} {p : OPass} (hp : p ∈ l) (h : fewO p = false) : fewP l = false := by
  rw [fewP, allq_no hp h, Bool.and_false]
structure I35 (f : BFunc) : Prop where
  c : f.count ≤ 300
  w : f.words
theorem I35.lim {f : BFunc} (h : I35 f) : f.Lim := BFunc.lim_of (Nat.le_trans h.c (by decide))
theorem I35.n {f : BFunc} (h : I35 f) : f.blocks.length ≤ 10000 := by have := count_split f; have := h.c; omega
theorem I35.i {f : BFunc} (h : I35 f) : ∀ x ∈ f.blocks, x.ins.length ≤ 10000 ∧ insW x.ins := fun x hx => by
  have h1 : x.count ≤ f.count := le_sum hx
  have := h.c
  simp only [Block.count] at h1
  exact ⟨by omega, h.w x hx⟩
structure P35 (p : OPass) : Prop where
  f : I35 p.f
  n : p.paths.length ≤ 1048576
  q : ∀ r ∈ p.paths, r.length ≤ 1048576
theorem Few35.pass {z : Ask35} (h : Few35 z) (hl : ListLim z.l) : ∀ ps ∈ z.l, ps.length ≤ 8 ∧ ∀ p ∈ ps, P35 p := fun ps hp => ⟨(h.p ps hp).1, fun p hpp =>
  ⟨⟨Nat.le_trans ((h.p ps hp).2 p hpp).1 (by decide), (hl.p ps hp p hpp).w⟩, (hl.p ps hp p hpp).n, (hl.p ps hp p hpp).q⟩⟩
theorem Small35.i {b : Blocks} (h : Small35 b) (hw : ∀ f ∈ b.funcs, f.words) : ∀ f ∈ b.funcs, I35 f := fun f hf => ⟨by have h1 : f.count ≤ b.count := le_sum hf; have := h.c; omega, hw f hf⟩
theorem ListLim.w {l : List (List OPass)} (h : ListLim l) : passW l := fun ps hp p hpp => (h.p ps hp p hpp).w
theorem holds_of {p : OPass} {f : BFunc} (hk : kind35 p.kind = true) : p.holds f = bif p.kind == 4 then p.cert.same.isEmpty && checkB f p.f p.paths else p.paths.isEmpty && vcheck f p.f p.cert := by
  unfold OPass.holds
  cases p.kind == 4 with
  | true => rfl
  | false => rw [cond_false, cond_false, show decide (1 ≤ p.kind ∧ p.kind ≤ 4) = true from hk, Bool.true_and]
theorem sizeFunc_ok (f : BFunc) (hc : f.count ≤ 1000000000) : APure Tryz.prog 35 [.agg f.cells] (fun r => r = .int .i64 (f.count : Int)) := by
 have hs3 := count_split f
 refine APure.of_body (n := 25) tok Tryz.func35 rfl rfl ?_;refine asq ?_;refine AGo.slot 0 rfl (fun H ι v => rel_bfunc) (fun hfit => ?_)
 refine agr ?_;refine ax 1 (obx 2 0) ?_;refine aa 2 ?_;refine an ?_;refine asr ?_;refine aQ tok 4 rfl ?_;refine an ?_;refine asq ?_;refine asr ?_;refine aa 4 ?_;refine an ?_;refine AGo.block ?_;refine AGo.loopD (γ := Nat) 1 (fun j => ⟨25, (eput (eput (eput eNew 1 (.ptr 0 1 0 0)) 3 (.int .i64 ((f.blocks.length + insSumB (f.blocks.take j) : Nat) : Int))) 4 (.int .i64 (j : Int))), (hput (hFrom 1) 0 (.row false 2 [f.cells]))⟩) (fun j => True) (fun j => f.blocks.length - j) 0 (Sub.mk' (by repeat (first | exact ESub.new _ | refine ESub.put ?_ (by first | rfl | exact congrArg (fun (n : Nat) => some (AV.int .i64 (n : Int))) (by show (List.map Block.cells f.blocks).length = f.blocks.length + 0; simp)))) z9q) trivial (fun _ => hput_free (fun b hb => hFrom_free hb) rfl) ?_
 intro j _
 refine asq ?_;refine asr ?_;refine aQ tok 5 rfl ?_;refine an ?_;refine asp 12 (fun hb1 => ?_) fun hb1 => ?_
 ·
  refine act ?_
  have hjl : j < f.blocks.length := by simpa using hb1
  obtain ⟨x, hx⟩ := get_of_lt hjl
  have hs4 := insSumB_succ hx
  have hs5 := insSumB_take (l := f.blocks) (k := j + 1)
  refine agk ?_;refine asq ?_;refine AGo.block ?_;refine agr ?_;refine aQ tok 4 rfl ?_;refine aq 19 (q_index_lst tok rfl rfl rfl rfl rfl rfl (Int.natCast_nonneg _) (idx_map (by assumption)) rfl) ?_;refine aQ tok 3 rfl ?_;refine aq 23 (q_bin (r := .int .i64 (((f.blocks.length + insSumB (f.blocks.take j)) + x.ins.length : Nat) : Int)) rfl rfl rfl (by simp only [evalBin, evalInt, isShift, cond_false, if_true]; rw [List.length_map, wrap_i64 (by omega) (by omega)]; rfl)) ?_;refine aa 3 ?_;refine an ?_;refine agr ?_;refine am 13 ?_;refine aq 14 (q_inc rfl rfl hjl hfit.1) ?_;refine aa 4 ?_;refine an ?_;exact ⟨j+1, Drop.mk' (by repeat (first | exact EDrop.new _ _ | refine EDrop.put ?_ (by first | rfl | exact congrArg (fun (n : Nat) => some (AV.int .i64 (n : Int))) (by rw [hs4]; omega)) (by first | rfl | exact slA_avoid _ rfl | exact vaA_avoid _ rfl))) z14q, trivial, by omega⟩
 refine acf ?_
 have hje : insSumB (f.blocks.take j) = insSumB f.blocks := by rw [List.take_of_length_le (by simpa using hb1)]
 refine AGo.exit ?_;refine asr ?_;refine aQ tok 2 rfl ?_;refine an ?_;refine agt ⟨[_], ⟨rfl, trivial⟩, ?_, rfl⟩
 show AV.int .i64 _ = AV.int .i64 _
 congr 1
 rw [hje, hs3]
theorem rsize_ok (b : Blocks) (hc : b.count ≤ 1000000000) : APure Tryz.prog 27 [.agg b.cells] (fun r => r = .int .i64 (b.count : Int)) := by
 refine APure.of_body (n := 21) tok Tryz.func27 rfl rfl ?_;refine asq ?_;refine AGo.slot 0 rfl (fun H ι v => rel_prog) (fun hfit => ?_)
 refine agr ?_;refine ax 1 (obx 2 0) ?_;refine aa 2 ?_;refine an ?_;refine asr ?_;refine aa 3 ?_;refine an ?_;refine asq ?_;refine asr ?_;refine aa 4 ?_;refine an ?_;refine AGo.block ?_;refine AGo.loopD (γ := Nat) 1 (fun k => ⟨21, (eput (eput (eput eNew 1 (.ptr 0 1 0 0)) 3 (.int .i64 ((((b.funcs.take k).map BFunc.count).sum : Nat) : Int))) 4 (.int .i64 (k : Int))), (hput (hFrom 1) 0 (.row false 2 [b.cells]))⟩) (fun k => True) (fun k => b.funcs.length - k) 0 (Sub.mk' z18q z9q) trivial (fun _ => hput_free (fun b hb => hFrom_free hb) rfl) ?_
 intro k _
 refine asq ?_;refine asr ?_;refine aQ tok 5 rfl ?_;refine an ?_;refine asp 9 (fun hb1 => ?_) fun hb1 => ?_
 ·
  refine act ?_
  have hkl : k < b.funcs.length := by simpa using hb1
  obtain ⟨f, hf⟩ := get_of_lt hkl
  have hs1 := sum_succ (p := BFunc.count) hf
  have hs2 : _ ≤ b.count := sum_take_le (l := b.funcs) (p := BFunc.count) (k := k + 1)
  have hs3 := count_split f
  refine agk ?_;refine asq ?_;refine AGo.block ?_;refine agr ?_;refine aQ tok 4 rfl ?_;refine aq 16 (q_index_lst tok rfl rfl rfl rfl rfl rfl (Int.natCast_nonneg _) (idx_map (by assumption)) rfl) ?_;refine al 17 tok ?_;refine ax 18 (opu Tryz.func35 (sizeFunc_ok f (by omega))) ?_;refine aq 19 (q_bin (r := .int .i64 ((((b.funcs.take k).map BFunc.count).sum + f.count : Nat) : Int)) rfl rfl rfl (by simp only [evalBin, evalInt, isShift, cond_false, if_true]; rw [wrap_i64 (by omega) (by omega)]; rfl)) ?_;refine aa 3 ?_;refine an ?_;refine agr ?_;refine am 10 ?_;refine aq 11 (q_inc rfl rfl hkl hfit.1) ?_;refine aa 4 ?_;refine an ?_;exact ⟨k+1, Drop.mk' (by repeat (first | exact EDrop.new _ _ | refine EDrop.put ?_ (by first | rfl | exact congrArg (fun (n : Nat) => some (AV.int .i64 (n : Int))) (by rw [hs1])) (by first | rfl | exact slA_avoid _ rfl | exact vaA_avoid _ rfl))) z14q, trivial, by omega⟩
 refine acf ?_
 have hke : ((b.funcs.take k).map BFunc.count).sum = b.count := sum_end (by simpa using hb1)
 refine AGo.exit ?_;refine asr ?_;refine aQ tok 2 rfl ?_;refine an ?_;refine agt ⟨[_], ⟨rfl, trivial⟩, ?_, rfl⟩
 show AV.int .i64 _ = AV.int .i64 _
 congr 1
 rw [hke]
theorem sets_ok (t : Tac) : APure Tryz.prog 74 [.agg t.cells] (fun r => r = .int .i64 t.sets) := by
 refine APure.of_body (n := 14) tok Tryz.func74 rfl rfl ?_;refine asr ?_;refine ax 1 (obx 8 0) ?_;refine aa 2 ?_;refine an ?_;refine asq ?_;refine asr ?_;refine aQ tok 2 rfl ?_;refine an ?_;refine AGo.block ?_;refine asq ?_;refine asr ?_;refine aQ tok 2 rfl ?_;refine an ?_;refine asp 5 (fun hb1 => ?_) fun hb1 => ?_
 ·
  refine act ?_;refine agk ?_;refine act ?_;refine asr ?_;refine aQ tok 3 rfl ?_;refine an ?_;refine agt ⟨[_], ⟨rfl, trivial⟩, ?_, rfl⟩
  show AV.int .i64 _ = AV.int .i64 _
  congr 1
  simp [Tac.sets, setsOp, *]
 refine acf ?_;refine asr ?_;refine aQ tok 2 rfl ?_;refine an ?_;refine asp 5 (fun hb2 => ?_) fun hb2 => ?_
 ·
  refine act ?_;refine agk ?_;refine act ?_;refine asr ?_;refine aQ tok 3 rfl ?_;refine an ?_;refine agt ⟨[_], ⟨rfl, trivial⟩, ?_, rfl⟩
  show AV.int .i64 _ = AV.int .i64 _
  congr 1
  simp [Tac.sets, setsOp, *]
 refine acf ?_;refine asr ?_;refine aQ tok 2 rfl ?_;refine an ?_;refine asp 5 (fun hb3 => ?_) fun hb3 => ?_
 ·
  refine act ?_;refine agk ?_;refine act ?_;refine asr ?_;refine aQ tok 3 rfl ?_;refine an ?_;refine agt ⟨[_], ⟨rfl, trivial⟩, ?_, rfl⟩
  show AV.int .i64 _ = AV.int .i64 _
  congr 1
  simp [Tac.sets, setsOp, *]
 refine acf ?_;refine asr ?_;refine aQ tok 2 rfl ?_;refine an ?_;refine asp 5 (fun hb4 => ?_) fun hb4 => ?_
 ·
  refine act ?_;refine agk ?_;refine act ?_;refine asr ?_;refine aQ tok 3 rfl ?_;refine an ?_;refine agt ⟨[_], ⟨rfl, trivial⟩, ?_, rfl⟩
  show AV.int .i64 _ = AV.int .i64 _
  congr 1
  simp [Tac.sets, setsOp, *]
 refine acf ?_;refine asr ?_;refine aQ tok 2 rfl ?_;refine an ?_;refine asp 5 (fun hb5 => ?_) fun hb5 => ?_
 ·
  refine act ?_;refine agk ?_;refine act ?_;refine asr ?_;refine aQ tok 3 rfl ?_;refine an ?_;refine agt ⟨[_], ⟨rfl, trivial⟩, ?_, rfl⟩
  show AV.int .i64 _ = AV.int .i64 _
  congr 1
  simp [Tac.sets, setsOp, *]
 refine acf ?_;refine agr ?_;refine aQ tok 2 rfl ?_;refine an ?_;refine asp 5 (fun hb6 => ?_) fun hb6 => ?_
 ·
  refine act ?_;refine asr ?_;refine aQ tok 3 rfl ?_;refine an ?_;refine agt ⟨[_], ⟨rfl, trivial⟩, ?_, rfl⟩
  show AV.int .i64 _ = AV.int .i64 _
  congr 1
  simp [Tac.sets, setsOp, *]
 refine acf ?_;refine agk ?_;refine asr ?_;refine aa 2 ?_;refine an ?_;refine agt ⟨[_], ⟨rfl, trivial⟩, ?_, rfl⟩
 show AV.int .i64 _ = AV.int .i64 _
 congr 1
 simp [Tac.sets, setsOp, *]
theorem uses_ok (t : Tac) : APure Tryz.prog 75 [.agg t.cells] (fun r => r = intsAV t.uses) := by
 refine APure.of_body (n := 21) tok Tryz.func75 rfl rfl ?_;refine asr ?_;refine ax 1 (obx 8 0) ?_;refine aa 2 ?_;refine an ?_;refine asq ?_;refine asr ?_;refine aQ tok 2 rfl ?_;refine an ?_;refine AGo.block ?_;refine asq ?_;refine asr ?_;refine aQ tok 2 rfl ?_;refine an ?_;refine asp 5 (fun hb1 => ?_) fun hb1 => ?_
 ·
  refine act ?_;refine agk ?_;refine act ?_;refine asr ?_;refine aQ tok 2 rfl ?_;refine ax 12 (o_lit' tok rfl rfl rfl rfl rfl rfl (by decide) rfl rfl rfl rfl rfl rfl) ?_;refine aa 2 ?_;refine an ?_;refine agt ⟨[_], ⟨rfl, trivial⟩, ?_, rfl⟩
  show AV.lst false _ = _
  simp [Tac.uses, use1, use2, intsAV, partVals, AV.cells, *]
 refine acf ?_;refine asr ?_;refine aQ tok 2 rfl ?_;refine an ?_;refine asp 5 (fun hb2 => ?_) fun hb2 => ?_
 ·
  refine act ?_;refine agk ?_;refine act ?_;refine asr ?_;refine aQ tok 2 rfl ?_;refine ax 12 (o_lit' tok rfl rfl rfl rfl rfl rfl (by decide) rfl rfl rfl rfl rfl rfl) ?_;refine aa 2 ?_;refine an ?_;refine agt ⟨[_], ⟨rfl, trivial⟩, ?_, rfl⟩
  show AV.lst false _ = _
  simp [Tac.uses, use1, use2, intsAV, partVals, AV.cells, *]
 refine acf ?_;refine asr ?_;refine aQ tok 2 rfl ?_;refine an ?_;refine asp 5 (fun hb3 => ?_) fun hb3 => ?_
 ·
  refine act ?_;refine agk ?_;refine act ?_;refine asr ?_;refine aQ tok 2 rfl ?_;refine ax 12 (o_lit' tok rfl rfl rfl rfl rfl rfl (by decide) rfl rfl rfl rfl rfl rfl) ?_;refine aa 2 ?_;refine an ?_;refine agt ⟨[_], ⟨rfl, trivial⟩, ?_, rfl⟩
  show AV.lst false _ = _
  simp [Tac.uses, use1, use2, intsAV, partVals, AV.cells, *]
 refine acf ?_;refine agr ?_;refine aQ tok 2 rfl ?_;refine an ?_;refine asp 5 (fun hb4 => ?_) fun hb4 => ?_
 ·
  refine act ?_;refine asr ?_;refine aQ tok 2 rfl ?_;refine ax 12 (o_lit' tok rfl rfl rfl rfl rfl rfl (by decide) rfl rfl rfl rfl rfl rfl) ?_;refine aa 2 ?_;refine an ?_;refine agt ⟨[_], ⟨rfl, trivial⟩, ?_, rfl⟩
  show AV.lst false _ = _
  simp [Tac.uses, use1, use2, intsAV, partVals, AV.cells, *]
 refine acf ?_;refine asq ?_;refine asr ?_;refine aQ tok 2 rfl ?_;refine an ?_;refine asp 13 (fun hb5 => ?_) fun hb5 => ?_
 ·
  refine act ?_;refine agk ?_;refine act ?_;refine asr ?_;refine aQ tok 4 rfl ?_;refine ax 20 (o_lit' tok rfl rfl rfl rfl rfl rfl (by decide) rfl rfl rfl rfl rfl rfl) ?_;refine aa 2 ?_;refine an ?_;refine agt ⟨[_], ⟨rfl, trivial⟩, ?_, rfl⟩
  show AV.lst false _ = _
  simp [Tac.uses, use1, use2, intsAV, partVals, AV.cells, *]
 refine acf ?_;refine agr ?_;refine aQ tok 2 rfl ?_;refine an ?_;refine asp 13 (fun hb6 => ?_) fun hb6 => ?_
 ·
  refine act ?_;refine asr ?_;refine aQ tok 4 rfl ?_;refine ax 20 (o_lit' tok rfl rfl rfl rfl rfl rfl (by decide) rfl rfl rfl rfl rfl rfl) ?_;refine aa 2 ?_;refine an ?_;refine agt ⟨[_], ⟨rfl, trivial⟩, ?_, rfl⟩
  show AV.lst false _ = _
  simp [Tac.uses, use1, use2, intsAV, partVals, AV.cells, *]
 refine acf ?_;refine agk ?_;refine asr ?_;refine aa 2 ?_;refine an ?_;refine AGo.ghost (.empty 2 rfl) ?_;refine agt ⟨[_], ⟨rfl, trivial⟩, ?_, rfl⟩
 show AV.lst false _ = _
 simp [Tac.uses, use1, use2, intsAV, partVals, AV.cells, *]
theorem within_ok (i j : Int) : APure Tryz.prog 73 [.int .i64 i, .int .i64 j] (fun r => r = .bool (within i j)) := by
 refine APure.of_body (n := 12) tok Tryz.func73 rfl rfl ?_;refine asr ?_;refine aa 4 ?_;refine an ?_;refine asr ?_;refine aQ tok 3 rfl ?_;refine aop 7 (fun hb1 => ?_) fun hb1 => ?_
 ·
  refine aQ tok 5 rfl ?_;refine an ?_;refine agt ⟨[_], ⟨rfl, trivial⟩, ?_, rfl⟩
  refine bc ?_
  simp_all [within] <;> omega
 refine aQ tok 5 rfl ?_;refine an ?_;refine agt ⟨[_], ⟨rfl, trivial⟩, ?_, rfl⟩
 refine bc ?_
 simp_all [within] <;> omega
theorem ends_ok (b : Block) (blocks regs : Int) : APure Tryz.prog 54 [.agg b.cells, .int .i64 blocks, .int .i64 regs] (fun r => r = .bool (b.ends blocks regs)) := by
 refine APure.of_body (n := 61) tok Tryz.func54 rfl rfl ?_;refine asr ?_;refine ax 3 (obx 5 0) ?_;refine aa 6 ?_;refine an ?_;refine asq ?_;refine asr ?_;refine aQ tok 2 rfl ?_;refine an ?_;refine AGo.block ?_;refine asr ?_;refine aQ tok 2 rfl ?_;refine an ?_;refine asp 9 (fun hb1 => ?_) fun hb1 => ?_
 ·
  refine act ?_;refine asr ?_;refine aQ tok 3 rfl ?_;refine ax 14 (opu Tryz.func73 (within_ok _ _)) ?_;refine am 15 ?_;refine aop 15 (fun hb2 => ?_) fun hb2 => ?_
  ·
   refine aQ tok 5 rfl ?_;refine aop 20 (fun hb3 => ?_) fun hb3 => ?_
   ·
    refine aQ tok 5 rfl ?_;refine an ?_;refine agt ⟨[_], ⟨rfl, trivial⟩, ?_, rfl⟩
    refine bc ?_
    simp_all [Block.ends]
   refine aQ tok 5 rfl ?_;refine an ?_;refine agt ⟨[_], ⟨rfl, trivial⟩, ?_, rfl⟩
   refine bc ?_
   simp_all [Block.ends]
  refine aQ tok 10 rfl ?_;refine an ?_;refine agt ⟨[_], ⟨rfl, trivial⟩, ?_, rfl⟩
  refine bc ?_
  simp_all [Block.ends]
 refine acf ?_;refine asr ?_;refine aQ tok 2 rfl ?_;refine an ?_;refine asp 25 (fun hb4 => ?_) fun hb4 => ?_
 ·
  refine act ?_;refine asr ?_;refine aQ tok 3 rfl ?_;refine ax 30 (opu Tryz.func73 (within_ok _ _)) ?_;refine am 31 ?_;refine aop 31 (fun hb5 => ?_) fun hb5 => ?_
  ·
   refine aQ tok 3 rfl ?_;refine ax 35 (opu Tryz.func73 (within_ok _ _)) ?_;refine aQ tok 2 rfl ?_;refine aop 37 (fun hb6 => ?_) fun hb6 => ?_
   ·
    refine aQ tok 3 rfl ?_;refine ax 41 (opu Tryz.func73 (within_ok _ _)) ?_;refine aQ tok 2 rfl ?_;refine an ?_;refine agt ⟨[_], ⟨rfl, trivial⟩, ?_, rfl⟩
    refine bc ?_
    simp_all [Block.ends]
   refine aQ tok 6 rfl ?_;refine an ?_;refine agt ⟨[_], ⟨rfl, trivial⟩, ?_, rfl⟩
   refine bc ?_
   simp_all [Block.ends]
  refine aQ tok 12 rfl ?_;refine an ?_;refine agt ⟨[_], ⟨rfl, trivial⟩, ?_, rfl⟩
  refine bc ?_
  simp_all [Block.ends]
 refine acf ?_;refine agk ?_;refine asr ?_;refine aQ tok 4 rfl ?_;refine aop 46 (fun hb7 => ?_) fun hb7 => ?_
 ·
  refine aQ tok 5 rfl ?_;refine aop 51 (fun hb8 => ?_) fun hb8 => ?_
  ·
   refine aQ tok 5 rfl ?_;refine aop 56 (fun hb9 => ?_) fun hb9 => ?_
   ·
    refine aQ tok 5 rfl ?_;refine an ?_;refine agt ⟨[_], ⟨rfl, trivial⟩, ?_, rfl⟩
    refine bc ?_
    simp_all [Block.ends]
   refine aQ tok 5 rfl ?_;refine an ?_;refine agt ⟨[_], ⟨rfl, trivial⟩, ?_, rfl⟩
   refine bc ?_
   simp_all [Block.ends]
  refine aQ tok 10 rfl ?_;refine an ?_;refine agt ⟨[_], ⟨rfl, trivial⟩, ?_, rfl⟩
  refine bc ?_
  simp_all [Block.ends]
 refine aQ tok 15 rfl ?_;refine an ?_;refine agt ⟨[_], ⟨rfl, trivial⟩, ?_, rfl⟩
 refine bc ?_
 simp_all [Block.ends]
theorem fits_ok (t : Tac) (f regs words : Int) (hw : 0 ≤ words) (hw2 : words ≤ 1048576) : APure Tryz.prog 55 [.agg t.cells, .int .i64 f, .int .i64 regs, .int .i64 words] (fun r => r = .bool (t.fits f regs words)) := by
 refine APure.of_body (n := 166) tok Tryz.func55 rfl rfl ?_;refine asr ?_;refine ax 4 (obx 8 0) ?_;refine aa 8 ?_;refine an ?_;refine asq ?_;refine asr ?_;refine aQ tok 4 rfl ?_;refine aop 15 (fun hb1 => ?_) fun hb1 => ?_
 ·
  refine aQ tok 4 rfl ?_;refine an ?_;refine act ?_;refine asr ?_;refine aa 8 ?_;refine an ?_;refine agt ⟨[_], ⟨rfl, trivial⟩, ?_, rfl⟩
  refine bc ?_;exact (fits_op (by simp_all <;> omega)).symm
 refine aQ tok 4 rfl ?_;refine an ?_;refine asp 19 (fun hb2 => ?_) fun hb2 => ?_
 ·
  refine act ?_;refine asr ?_;refine aa 8 ?_;refine an ?_;refine agt ⟨[_], ⟨rfl, trivial⟩, ?_, rfl⟩
  refine bc ?_;exact (fits_op (by simp_all <;> omega)).symm
 refine acf ?_;refine agk ?_;refine asr ?_;refine aQ tok 2 rfl ?_;refine aq 22 (q_build tok rfl rfl rfl rfl rfl (by decide) rfl rfl rfl) ?_;refine ax 9 (oal tok 1) ?_;refine AOps.w rfl rfl (o_store tok rfl rfl rfl rfl rfl rfl rfl rfl rfl (by decide) rfl z33q) ?_;refine an ?_;refine asq ?_;refine AGo.join (γ := Int) (fun d => ⟨166, (eput (eput (eput (eput (eput eNew 1 (.int .i64 f)) 2 (.int .i64 regs)) 3 (.int .i64 words)) 4 (.ptr 0 1 0 0)) 9 (.ptr 1 1 0 0)), (hput (hput (hFrom 2) 0 (.row false 8 [t.cells])) 1 (.row false 8 [[.int .i64 t.op, .int .i64 d, .int .i64 0, .int .i64 0, .int .i64 0, .int .i64 0, .int .i64 0, .int .u32 0]]))⟩) (fun d => (!setsOp t.op || within t.d regs) = true ∧ d = bif setsOp t.op then t.d else 0) ?_ ?_
 ·
  refine asr ?_;refine al 23 tok ?_;refine ax 24 (opu Tryz.func74 (sets_ok _)) ?_;refine aQ tok 2 rfl ?_;refine aop 26 (fun hb3 => ?_) fun hb3 => ?_
  ·
   refine aQ tok 29 rfl ?_;refine an ?_;refine act ?_;refine asr ?_;refine aQ tok 3 rfl ?_;refine AOps.w rfl rfl (o_store tok rfl rfl rfl rfl rfl rfl rfl rfl rfl (by decide) rfl z33q) ?_;refine an ?_;refine asr ?_;refine aQ tok 3 rfl ?_;refine ax 62 (opu Tryz.func73 (within_ok _ _)) ?_;refine aq 63 (q_not rfl rfl) ?_;refine an ?_;refine asp 63 (fun hb4 => ?_) fun hb4 => ?_
   ·
    refine act ?_;refine asr ?_;refine aa 8 ?_;refine an ?_;refine agt ⟨[_], ⟨rfl, trivial⟩, ?_, rfl⟩
    refine bc ?_;exact (fits_d z31q z41q).symm
   refine acf ?_;refine agk ?_;exact ⟨t.d, Sub.mk' z29q z9q, ⟨by have h := ‹(!within t.d regs) = false›; simp at h; simp [h], by first | (simp [setsOp, *]; done) | simp [sets_pos ‹_›]⟩⟩
  refine aQ tok 5 rfl ?_;refine aop 31 (fun hb5 => ?_) fun hb5 => ?_
  ·
   refine aQ tok 24 rfl ?_;refine an ?_;refine act ?_;refine asr ?_;refine aQ tok 3 rfl ?_;refine AOps.w rfl rfl (o_store tok rfl rfl rfl rfl rfl rfl rfl rfl rfl (by decide) rfl z33q) ?_;refine an ?_;refine asr ?_;refine aQ tok 3 rfl ?_;refine ax 62 (opu Tryz.func73 (within_ok _ _)) ?_;refine aq 63 (q_not rfl rfl) ?_;refine an ?_;refine asp 63 (fun hb6 => ?_) fun hb6 => ?_
   ·
    refine act ?_;refine asr ?_;refine aa 8 ?_;refine an ?_;refine agt ⟨[_], ⟨rfl, trivial⟩, ?_, rfl⟩
    refine bc ?_;exact (fits_d z31q z41q).symm
   refine acf ?_;refine agk ?_;exact ⟨t.d, Sub.mk' z29q z9q, ⟨by have h := ‹(!within t.d regs) = false›; simp at h; simp [h], by first | (simp [setsOp, *]; done) | simp [sets_pos ‹_›]⟩⟩
  refine aQ tok 5 rfl ?_;refine aop 36 (fun hb7 => ?_) fun hb7 => ?_
  ·
   refine aQ tok 19 rfl ?_;refine an ?_;refine act ?_;refine asr ?_;refine aQ tok 3 rfl ?_;refine AOps.w rfl rfl (o_store tok rfl rfl rfl rfl rfl rfl rfl rfl rfl (by decide) rfl z33q) ?_;refine an ?_;refine asr ?_;refine aQ tok 3 rfl ?_;refine ax 62 (opu Tryz.func73 (within_ok _ _)) ?_;refine aq 63 (q_not rfl rfl) ?_;refine an ?_;refine asp 63 (fun hb8 => ?_) fun hb8 => ?_
   ·
    refine act ?_;refine asr ?_;refine aa 8 ?_;refine an ?_;refine agt ⟨[_], ⟨rfl, trivial⟩, ?_, rfl⟩
    refine bc ?_;exact (fits_d z31q z41q).symm
   refine acf ?_;refine agk ?_;exact ⟨t.d, Sub.mk' z29q z9q, ⟨by have h := ‹(!within t.d regs) = false›; simp at h; simp [h], by first | (simp [setsOp, *]; done) | simp [sets_pos ‹_›]⟩⟩
  refine aQ tok 5 rfl ?_;refine aop 41 (fun hb9 => ?_) fun hb9 => ?_
  ·
   refine aQ tok 14 rfl ?_;refine an ?_;refine act ?_;refine asr ?_;refine aQ tok 3 rfl ?_;refine AOps.w rfl rfl (o_store tok rfl rfl rfl rfl rfl rfl rfl rfl rfl (by decide) rfl z33q) ?_;refine an ?_;refine asr ?_;refine aQ tok 3 rfl ?_;refine ax 62 (opu Tryz.func73 (within_ok _ _)) ?_;refine aq 63 (q_not rfl rfl) ?_;refine an ?_;refine asp 63 (fun hb10 => ?_) fun hb10 => ?_
   ·
    refine act ?_;refine asr ?_;refine aa 8 ?_;refine an ?_;refine agt ⟨[_], ⟨rfl, trivial⟩, ?_, rfl⟩
    refine bc ?_;exact (fits_d z31q z41q).symm
   refine acf ?_;refine agk ?_;exact ⟨t.d, Sub.mk' z29q z9q, ⟨by have h := ‹(!within t.d regs) = false›; simp at h; simp [h], by first | (simp [setsOp, *]; done) | simp [sets_pos ‹_›]⟩⟩
  refine aQ tok 5 rfl ?_;refine aop 46 (fun hb11 => ?_) fun hb11 => ?_
  ·
   refine aQ tok 9 rfl ?_;refine an ?_;refine act ?_;refine asr ?_;refine aQ tok 3 rfl ?_;refine AOps.w rfl rfl (o_store tok rfl rfl rfl rfl rfl rfl rfl rfl rfl (by decide) rfl z33q) ?_;refine an ?_;refine asr ?_;refine aQ tok 3 rfl ?_;refine ax 62 (opu Tryz.func73 (within_ok _ _)) ?_;refine aq 63 (q_not rfl rfl) ?_;refine an ?_;refine asp 63 (fun hb12 => ?_) fun hb12 => ?_
   ·
    refine act ?_;refine asr ?_;refine aa 8 ?_;refine an ?_;refine agt ⟨[_], ⟨rfl, trivial⟩, ?_, rfl⟩
    refine bc ?_;exact (fits_d z31q z41q).symm
   refine acf ?_;refine agk ?_;exact ⟨t.d, Sub.mk' z29q z9q, ⟨by have h := ‹(!within t.d regs) = false›; simp at h; simp [h], by first | (simp [setsOp, *]; done) | simp [sets_pos ‹_›]⟩⟩
  refine aQ tok 5 rfl ?_;refine aop 51 (fun hb13 => ?_) fun hb13 => ?_
  ·
   refine aQ tok 4 rfl ?_;refine an ?_;refine act ?_;refine asr ?_;refine aQ tok 3 rfl ?_;refine AOps.w rfl rfl (o_store tok rfl rfl rfl rfl rfl rfl rfl rfl rfl (by decide) rfl z33q) ?_;refine an ?_;refine asr ?_;refine aQ tok 3 rfl ?_;refine ax 62 (opu Tryz.func73 (within_ok _ _)) ?_;refine aq 63 (q_not rfl rfl) ?_;refine an ?_;refine asp 63 (fun hb14 => ?_) fun hb14 => ?_
   ·
    refine act ?_;refine asr ?_;refine aa 8 ?_;refine an ?_;refine agt ⟨[_], ⟨rfl, trivial⟩, ?_, rfl⟩
    refine bc ?_;exact (fits_d z31q z41q).symm
   refine acf ?_;refine agk ?_;exact ⟨t.d, Sub.mk' z29q z9q, ⟨by have h := ‹(!within t.d regs) = false›; simp at h; simp [h], by first | (simp [setsOp, *]; done) | simp [sets_pos ‹_›]⟩⟩
  refine aQ tok 4 rfl ?_;refine an ?_;refine asp 55 (fun hb15 => ?_) fun hb15 => ?_
  ·
   refine act ?_;refine asr ?_;refine aQ tok 3 rfl ?_;refine AOps.w rfl rfl (o_store tok rfl rfl rfl rfl rfl rfl rfl rfl rfl (by decide) rfl z33q) ?_;refine an ?_;refine asr ?_;refine aQ tok 3 rfl ?_;refine ax 62 (opu Tryz.func73 (within_ok _ _)) ?_;refine aq 63 (q_not rfl rfl) ?_;refine an ?_;refine asp 63 (fun hb16 => ?_) fun hb16 => ?_
   ·
    refine act ?_;refine asr ?_;refine aa 8 ?_;refine an ?_;refine agt ⟨[_], ⟨rfl, trivial⟩, ?_, rfl⟩
    refine bc ?_;exact (fits_d z31q z41q).symm
   refine acf ?_;refine agk ?_;exact ⟨t.d, Sub.mk' z29q z9q, ⟨by have h := ‹(!within t.d regs) = false›; simp at h; simp [h], by first | (simp [setsOp, *]; done) | simp [sets_pos ‹_›]⟩⟩
  refine acf ?_;refine agk ?_;exact ⟨0, Sub.mk' z29q z9q, ⟨by simp [setsOp, *], by simp [setsOp, *]⟩⟩
 intro d ⟨hd, hdd⟩
 refine asr ?_;refine al 64 tok ?_;refine ax 65 (opu Tryz.func75 (uses_ok _)) ?_;refine aa 10 ?_;refine an ?_;refine asq ?_;refine asr ?_;refine aa 11 ?_;refine an ?_;refine AGo.block ?_;refine AGo.loopD (γ := Nat) 2 (fun j => ⟨166, (eput (eput (eput (eput (eput (eput (eput eNew 1 (.int .i64 f)) 2 (.int .i64 regs)) 3 (.int .i64 words)) 4 (.ptr 0 1 0 0)) 9 (.ptr 1 1 0 0)) 10 (intsAV t.uses)) 11 (.int .i64 (j : Int))), (hput (hput (hFrom 2) 0 (.row false 8 [t.cells])) 1 (.row false 8 [[.int .i64 t.op, .int .i64 d, .int .i64 0, .int .i64 0, .int .i64 0, .int .i64 0, .int .i64 0, .int .u32 0]]))⟩) (fun j => (t.uses.take j).all (fun r => within r regs) = true) (fun j => t.uses.length - j) 0 (Sub.mk' z29q z9q) rfl (fun _ => hput_free (hput_free (fun b hb => hFrom_free hb) rfl) rfl) ?_
 intro j hj
 refine asq ?_;refine asr ?_;refine aQ tok 4 rfl ?_;refine an ?_;refine asp 69 (fun hb17 => ?_) fun hb17 => ?_
 ·
  refine act ?_
  have hjl : j < t.uses.length := lt_of_idx hb17
  obtain ⟨u, hu⟩ := get_of_lt hjl
  refine agk ?_;refine asq ?_;refine AGo.block ?_;refine asr ?_;refine aQ tok 2 rfl ?_;refine aq 74 (q_index_lst tok rfl rfl rfl rfl rfl rfl (Int.natCast_nonneg _) (idx_map (by assumption)) rfl) ?_;refine aQ tok 2 rfl ?_;refine ax 77 (opu Tryz.func73 (within_ok _ _)) ?_;refine aq 78 (q_not rfl rfl) ?_;refine an ?_;refine asp 78 (fun hb18 => ?_) fun hb18 => ?_
  ·
   refine act ?_
   have hbw := hb18
   refine asr ?_;refine aa 8 ?_;refine an ?_;refine agt ⟨[_], ⟨rfl, trivial⟩, ?_, rfl⟩
   refine bc ?_;exact (fits_use (all_bad hu (by simpa using hbw))).symm
  refine acf ?_
  have hbw := hb18
  refine agk ?_;refine agr ?_;refine am 70 ?_;refine aq 71 (q_inc rfl rfl hjl (Nat.le_trans (uses_len t) (by decide))) ?_;refine aa 11 ?_;refine an ?_;exact ⟨j+1, Drop.mk' z20q z14q, all_succ hu hj (by simpa using hbw), by omega⟩
 refine acf ?_
 have hall := all_end hj (ge_of_idx hb17)
 refine AGo.exit ?_;refine asq ?_;refine AGo.join (γ := Int) (fun a => ⟨166, (eput (eput (eput (eput (eput (eput eNew 1 (.int .i64 f)) 2 (.int .i64 regs)) 3 (.int .i64 words)) 4 (.ptr 0 1 0 0)) 9 (.ptr 1 1 0 0)) 10 (intsAV t.uses)), (hput (hput (hFrom 2) 0 (.row false 8 [t.cells])) 1 (.row false 8 [[.int .i64 t.op, .int .i64 d, .int .i64 a, .int .i64 0, .int .i64 0, .int .i64 0, .int .i64 0, .int .u32 0]]))⟩) (fun a => a = bif use1 t.op || use2 t.op then t.a else 0) ?_ ?_
 ·
  refine asr ?_;refine aQ tok 3 rfl ?_;refine an ?_;refine asp 81 (fun hb19 => ?_) fun hb19 => ?_
  ·
   refine act ?_;refine agr ?_;refine aQ tok 3 rfl ?_;refine AOps.w rfl rfl (o_store tok rfl rfl rfl rfl rfl rfl rfl rfl rfl (by decide) rfl z33q) ?_;refine an ?_;exact ⟨t.a, Sub.mk' z29q z9q, by have h3 := use12 t.op; cases h1 : use1 t.op <;> cases h2 : use2 t.op <;> simp_all [Tac.uses]⟩
  refine acf ?_;refine agk ?_;exact ⟨0, Sub.mk' z29q z9q, by have h3 := use12 t.op; cases h1 : use1 t.op <;> cases h2 : use2 t.op <;> simp_all [Tac.uses]⟩
 intro a haa
 refine asq ?_;refine AGo.join (γ := Int) (fun b => ⟨166, (eput (eput (eput (eput (eput eNew 1 (.int .i64 f)) 2 (.int .i64 regs)) 3 (.int .i64 words)) 4 (.ptr 0 1 0 0)) 9 (.ptr 1 1 0 0)), (hput (hput (hFrom 2) 0 (.row false 8 [t.cells])) 1 (.row false 8 [[.int .i64 t.op, .int .i64 d, .int .i64 a, .int .i64 b, .int .i64 0, .int .i64 0, .int .i64 0, .int .u32 0]]))⟩) (fun b => b = bif use2 t.op then t.b else 0) ?_ ?_
 ·
  refine asr ?_;refine aQ tok 3 rfl ?_;refine an ?_;refine asp 87 (fun hb20 => ?_) fun hb20 => ?_
  ·
   refine act ?_;refine agr ?_;refine aQ tok 3 rfl ?_;refine AOps.w rfl rfl (o_store tok rfl rfl rfl rfl rfl rfl rfl rfl rfl (by decide) rfl z33q) ?_;refine an ?_;exact ⟨t.b, Sub.mk' z29q z9q, by have h3 := use12 t.op; cases h1 : use1 t.op <;> cases h2 : use2 t.op <;> simp_all [Tac.uses]⟩
  refine acf ?_;refine agk ?_;exact ⟨0, Sub.mk' z29q z9q, by have h3 := use12 t.op; cases h1 : use1 t.op <;> cases h2 : use2 t.op <;> simp_all [Tac.uses]⟩
 intro b hbb
 refine asq ?_;refine asr ?_;refine aQ tok 2 rfl ?_;refine an ?_;refine AGo.block ?_;refine asr ?_;refine aQ tok 2 rfl ?_;refine an ?_;refine asp 93 (fun hb21 => ?_) fun hb21 => ?_
 ·
  refine act ?_;refine agr ?_;refine aQ tok 3 rfl ?_;refine AOps.w rfl rfl (o_store tok rfl rfl rfl rfl rfl rfl rfl rfl rfl (by decide) rfl z33q) ?_;refine an ?_;refine asr ?_;refine aQ tok 2 rfl ?_;refine aq 165 (q_eqStruct tok false rfl rfl rfl (by kernel_rfl) rfl rfl rfl rfl rfl) ?_;refine aa 8 ?_;refine an ?_;refine agt ⟨[_], ⟨rfl, trivial⟩, ?_, rfl⟩
  refine bc ?_
  have hwr : 1 ≤ t.size → t.size ≤ 4096 → IntKind.i64.wrap (words - t.size) = words - t.size := fun h1 h2 => wrap_i64 (by omega) (by omega)
  rw [fits_same hb1 hb2 hd hall z38q]
  subst hdd haa hbb
  clear hd hj hall hwr hw hw2 hb1 hb2
  first | (simp_all [Tac.same, Tac.want, baseOp, arrOp, setsOp, use1, use2]; done) | simp [Tac.same, Tac.want, baseOp, arrOp, *]
 refine acf ?_;refine asr ?_;refine aQ tok 2 rfl ?_;refine an ?_;refine asp 98 (fun hb22 => ?_) fun hb22 => ?_
 ·
  refine act ?_;refine asr ?_;refine aQ tok 3 rfl ?_;refine AOps.w rfl rfl (o_store tok rfl rfl rfl rfl rfl rfl rfl rfl rfl (by decide) rfl z33q) ?_;refine an ?_;refine asr ?_;refine aQ tok 4 rfl ?_;refine aop 106 (fun hb23 => ?_) fun hb23 => ?_
  ·
   refine aQ tok 4 rfl ?_;refine an ?_;refine act ?_;refine asr ?_;refine aa 8 ?_;refine an ?_;refine agt ⟨[_], ⟨rfl, trivial⟩, ?_, rfl⟩
   refine bc ?_;exact (fits_rest z38q).symm
  refine aQ tok 4 rfl ?_;refine an ?_;refine asp 110 (fun hb24 => ?_) fun hb24 => ?_
  ·
   refine act ?_;refine asr ?_;refine aa 8 ?_;refine an ?_;refine agt ⟨[_], ⟨rfl, trivial⟩, ?_, rfl⟩
   refine bc ?_;exact (fits_rest z38q).symm
  refine acf ?_;refine agk ?_;refine asr ?_;refine aQ tok 2 rfl ?_;refine aq 165 (q_eqStruct tok false rfl rfl rfl (by kernel_rfl) rfl rfl rfl rfl rfl) ?_;refine aa 8 ?_;refine an ?_;refine agt ⟨[_], ⟨rfl, trivial⟩, ?_, rfl⟩
  refine bc ?_
  have hwr : 1 ≤ t.size → t.size ≤ 4096 → IntKind.i64.wrap (words - t.size) = words - t.size := fun h1 h2 => wrap_i64 (by omega) (by omega)
  rw [fits_same hb1 hb2 hd hall z38q]
  subst hdd haa hbb
  clear hd hj hall hwr hw hw2 hb1 hb2
  first | (simp_all [Tac.same, Tac.want, baseOp, arrOp, setsOp, use1, use2]; done) | simp [Tac.same, Tac.want, baseOp, arrOp, *]
 refine acf ?_;refine asq ?_;refine asr ?_;refine aQ tok 2 rfl ?_;refine an ?_;refine asp 111 (fun hb25 => ?_) fun hb25 => ?_
 ·
  refine act ?_;refine agk ?_;refine act ?_;refine asr ?_;refine aQ tok 3 rfl ?_;refine AOps.w rfl rfl (o_store tok rfl rfl rfl rfl rfl rfl rfl rfl rfl (by decide) rfl z33q) ?_;refine an ?_;refine asr ?_;refine aQ tok 3 rfl ?_;refine ax 120 (opu Tryz.func73 (within_ok _ _)) ?_;refine aq 121 (q_not rfl rfl) ?_;refine an ?_;refine asp 121 (fun hb26 => ?_) fun hb26 => ?_
  ·
   refine act ?_;refine asr ?_;refine aa 8 ?_;refine an ?_;refine agt ⟨[_], ⟨rfl, trivial⟩, ?_, rfl⟩
   refine bc ?_;exact (fits_rest z38q).symm
  refine acf ?_;refine agk ?_;refine asr ?_;refine aQ tok 2 rfl ?_;refine aq 165 (q_eqStruct tok false rfl rfl rfl (by kernel_rfl) rfl rfl rfl rfl rfl) ?_;refine aa 8 ?_;refine an ?_;refine agt ⟨[_], ⟨rfl, trivial⟩, ?_, rfl⟩
  refine bc ?_
  have hwr : 1 ≤ t.size → t.size ≤ 4096 → IntKind.i64.wrap (words - t.size) = words - t.size := fun h1 h2 => wrap_i64 (by omega) (by omega)
  rw [fits_same hb1 hb2 hd hall z38q]
  subst hdd haa hbb
  clear hd hj hall hwr hw hw2 hb1 hb2
  first | (simp_all [Tac.same, Tac.want, baseOp, arrOp, setsOp, use1, use2]; done) | simp [Tac.same, Tac.want, baseOp, arrOp, *]
 refine acf ?_;refine agr ?_;refine aQ tok 2 rfl ?_;refine an ?_;refine asp 111 (fun hb27 => ?_) fun hb27 => ?_
 ·
  refine act ?_;refine asr ?_;refine aQ tok 3 rfl ?_;refine AOps.w rfl rfl (o_store tok rfl rfl rfl rfl rfl rfl rfl rfl rfl (by decide) rfl z33q) ?_;refine an ?_;refine asr ?_;refine aQ tok 3 rfl ?_;refine ax 120 (opu Tryz.func73 (within_ok _ _)) ?_;refine aq 121 (q_not rfl rfl) ?_;refine an ?_;refine asp 121 (fun hb28 => ?_) fun hb28 => ?_
  ·
   refine act ?_;refine asr ?_;refine aa 8 ?_;refine an ?_;refine agt ⟨[_], ⟨rfl, trivial⟩, ?_, rfl⟩
   refine bc ?_;exact (fits_rest z38q).symm
  refine acf ?_;refine agk ?_;refine asr ?_;refine aQ tok 2 rfl ?_;refine aq 165 (q_eqStruct tok false rfl rfl rfl (by kernel_rfl) rfl rfl rfl rfl rfl) ?_;refine aa 8 ?_;refine an ?_;refine agt ⟨[_], ⟨rfl, trivial⟩, ?_, rfl⟩
  refine bc ?_
  have hwr : 1 ≤ t.size → t.size ≤ 4096 → IntKind.i64.wrap (words - t.size) = words - t.size := fun h1 h2 => wrap_i64 (by omega) (by omega)
  rw [fits_same hb1 hb2 hd hall z38q]
  subst hdd haa hbb
  clear hd hj hall hwr hw hw2 hb1 hb2
  first | (simp_all [Tac.same, Tac.want, baseOp, arrOp, setsOp, use1, use2]; done) | simp [Tac.same, Tac.want, baseOp, arrOp, *]
 refine acf ?_;refine asq ?_;refine asr ?_;refine aQ tok 2 rfl ?_;refine an ?_;refine asp 122 (fun hb29 => ?_) fun hb29 => ?_
 ·
  refine act ?_;refine agk ?_;refine act ?_;refine asq ?_;refine AGo.draw mix ?_;refine dQ tok 5 rfl ?_;refine DOps.w rfl rfl (o_store tok rfl rfl rfl rfl rfl rfl rfl rfl rfl (by decide) rfl z33q) ?_;refine df 130 tok ?_;refine DOps.w rfl rfl (o_store tok rfl rfl rfl rfl rfl rfl rfl rfl rfl (by decide) rfl z33q) ?_;refine DOps.nil (by kernel_rfl) ?_;refine asr ?_;refine aQ tok 4 rfl ?_;refine aop 134 (fun hb30 => ?_) fun hb30 => ?_
  ·
   refine aQ tok 18 rfl ?_;refine an ?_;refine act ?_;refine asr ?_;refine aa 8 ?_;refine an ?_;refine agt ⟨[_], ⟨rfl, trivial⟩, ?_, rfl⟩
   refine bc ?_
   have hwr : 1 ≤ t.size → t.size ≤ 4096 → IntKind.i64.wrap (words - t.size) = words - t.size := fun h1 h2 => wrap_i64 (by omega) (by omega)
   exact (fits_rest z38q).symm
  refine aQ tok 5 rfl ?_;refine aop 139 (fun hb31 => ?_) fun hb31 => ?_
  ·
   refine aQ tok 13 rfl ?_;refine an ?_;refine act ?_;refine asr ?_;refine aa 8 ?_;refine an ?_;refine agt ⟨[_], ⟨rfl, trivial⟩, ?_, rfl⟩
   refine bc ?_
   have hwr : 1 ≤ t.size → t.size ≤ 4096 → IntKind.i64.wrap (words - t.size) = words - t.size := fun h1 h2 => wrap_i64 (by omega) (by omega)
   exact (fits_rest z38q).symm
  refine aQ tok 5 rfl ?_;refine aop 144 (fun hb32 => ?_) fun hb32 => ?_
  ·
   refine aQ tok 8 rfl ?_;refine an ?_;refine act ?_;refine asr ?_;refine aa 8 ?_;refine an ?_;refine agt ⟨[_], ⟨rfl, trivial⟩, ?_, rfl⟩
   refine bc ?_
   have hwr : 1 ≤ t.size → t.size ≤ 4096 → IntKind.i64.wrap (words - t.size) = words - t.size := fun h1 h2 => wrap_i64 (by omega) (by omega)
   exact (fits_rest z38q).symm
  refine aQ tok 8 rfl ?_;refine an ?_;refine asp 152 (fun hb33 => ?_) fun hb33 => ?_
  ·
   refine act ?_;refine asr ?_;refine aa 8 ?_;refine an ?_;refine agt ⟨[_], ⟨rfl, trivial⟩, ?_, rfl⟩
   refine bc ?_
   have hwr : 1 ≤ t.size → t.size ≤ 4096 → IntKind.i64.wrap (words - t.size) = words - t.size := fun h1 h2 => wrap_i64 (by omega) (by omega)
   exact (fits_rest z38q).symm
  refine acf ?_;refine agk ?_;refine asr ?_;refine aQ tok 2 rfl ?_;refine aq 165 (q_eqStruct tok false rfl rfl rfl (by kernel_rfl) rfl rfl rfl rfl rfl) ?_;refine aa 8 ?_;refine an ?_;refine agt ⟨[_], ⟨rfl, trivial⟩, ?_, rfl⟩
  refine bc ?_
  have hwr : 1 ≤ t.size → t.size ≤ 4096 → IntKind.i64.wrap (words - t.size) = words - t.size := fun h1 h2 => wrap_i64 (by omega) (by omega)
  rw [fits_same hb1 hb2 hd hall z38q]
  subst hdd haa hbb
  clear hd hj hall hwr hw hw2 hb1 hb2
  first | (simp_all [Tac.same, Tac.want, baseOp, arrOp, setsOp, use1, use2]; done) | simp [Tac.same, Tac.want, baseOp, arrOp, *]
 refine acf ?_;refine agr ?_;refine aQ tok 2 rfl ?_;refine an ?_;refine asp 122 (fun hb34 => ?_) fun hb34 => ?_
 ·
  refine act ?_;refine asq ?_;refine AGo.draw mix ?_;refine dQ tok 5 rfl ?_;refine DOps.w rfl rfl (o_store tok rfl rfl rfl rfl rfl rfl rfl rfl rfl (by decide) rfl z33q) ?_;refine df 130 tok ?_;refine DOps.w rfl rfl (o_store tok rfl rfl rfl rfl rfl rfl rfl rfl rfl (by decide) rfl z33q) ?_;refine DOps.nil (by kernel_rfl) ?_;refine asr ?_;refine aQ tok 4 rfl ?_;refine aop 134 (fun hb35 => ?_) fun hb35 => ?_
  ·
   refine aQ tok 18 rfl ?_;refine an ?_;refine act ?_;refine asr ?_;refine aa 8 ?_;refine an ?_;refine agt ⟨[_], ⟨rfl, trivial⟩, ?_, rfl⟩
   refine bc ?_
   have hwr : 1 ≤ t.size → t.size ≤ 4096 → IntKind.i64.wrap (words - t.size) = words - t.size := fun h1 h2 => wrap_i64 (by omega) (by omega)
   exact (fits_rest z38q).symm
  refine aQ tok 5 rfl ?_;refine aop 139 (fun hb36 => ?_) fun hb36 => ?_
  ·
   refine aQ tok 13 rfl ?_;refine an ?_;refine act ?_;refine asr ?_;refine aa 8 ?_;refine an ?_;refine agt ⟨[_], ⟨rfl, trivial⟩, ?_, rfl⟩
   refine bc ?_
   have hwr : 1 ≤ t.size → t.size ≤ 4096 → IntKind.i64.wrap (words - t.size) = words - t.size := fun h1 h2 => wrap_i64 (by omega) (by omega)
   exact (fits_rest z38q).symm
  refine aQ tok 5 rfl ?_;refine aop 144 (fun hb37 => ?_) fun hb37 => ?_
  ·
   refine aQ tok 8 rfl ?_;refine an ?_;refine act ?_;refine asr ?_;refine aa 8 ?_;refine an ?_;refine agt ⟨[_], ⟨rfl, trivial⟩, ?_, rfl⟩
   refine bc ?_
   have hwr : 1 ≤ t.size → t.size ≤ 4096 → IntKind.i64.wrap (words - t.size) = words - t.size := fun h1 h2 => wrap_i64 (by omega) (by omega)
   exact (fits_rest z38q).symm
  refine aQ tok 8 rfl ?_;refine an ?_;refine asp 152 (fun hb38 => ?_) fun hb38 => ?_
  ·
   refine act ?_;refine asr ?_;refine aa 8 ?_;refine an ?_;refine agt ⟨[_], ⟨rfl, trivial⟩, ?_, rfl⟩
   refine bc ?_
   have hwr : 1 ≤ t.size → t.size ≤ 4096 → IntKind.i64.wrap (words - t.size) = words - t.size := fun h1 h2 => wrap_i64 (by omega) (by omega)
   exact (fits_rest z38q).symm
  refine acf ?_;refine agk ?_;refine asr ?_;refine aQ tok 2 rfl ?_;refine aq 165 (q_eqStruct tok false rfl rfl rfl (by kernel_rfl) rfl rfl rfl rfl rfl) ?_;refine aa 8 ?_;refine an ?_;refine agt ⟨[_], ⟨rfl, trivial⟩, ?_, rfl⟩
  refine bc ?_
  have hwr : 1 ≤ t.size → t.size ≤ 4096 → IntKind.i64.wrap (words - t.size) = words - t.size := fun h1 h2 => wrap_i64 (by omega) (by omega)
  rw [fits_same hb1 hb2 hd hall z38q]
  subst hdd haa hbb
  clear hd hj hall hwr hw hw2 hb1 hb2
  first | (simp_all [Tac.same, Tac.want, baseOp, arrOp, setsOp, use1, use2]; done) | simp [Tac.same, Tac.want, baseOp, arrOp, *]
 refine acf ?_;refine asr ?_;refine aQ tok 2 rfl ?_;refine an ?_;refine asp 153 (fun hb39 => ?_) fun hb39 => ?_
 ·
  refine act ?_;refine asr ?_;refine aQ tok 3 rfl ?_;refine AOps.w rfl rfl (o_store tok rfl rfl rfl rfl rfl rfl rfl rfl rfl (by decide) rfl z33q) ?_;refine an ?_;refine asr ?_;refine aQ tok 3 rfl ?_;refine ax 161 (opu Tryz.func73 (within_ok _ _)) ?_;refine aq 162 (q_not rfl rfl) ?_;refine an ?_;refine asp 162 (fun hb40 => ?_) fun hb40 => ?_
  ·
   refine act ?_;refine asr ?_;refine aa 8 ?_;refine an ?_;refine agt ⟨[_], ⟨rfl, trivial⟩, ?_, rfl⟩
   refine bc ?_;exact (fits_rest z38q).symm
  refine acf ?_;refine agk ?_;refine asr ?_;refine aQ tok 2 rfl ?_;refine aq 165 (q_eqStruct tok false rfl rfl rfl (by kernel_rfl) rfl rfl rfl rfl rfl) ?_;refine aa 8 ?_;refine an ?_;refine agt ⟨[_], ⟨rfl, trivial⟩, ?_, rfl⟩
  refine bc ?_
  have hwr : 1 ≤ t.size → t.size ≤ 4096 → IntKind.i64.wrap (words - t.size) = words - t.size := fun h1 h2 => wrap_i64 (by omega) (by omega)
  rw [fits_same hb1 hb2 hd hall z38q]
  subst hdd haa hbb
  clear hd hj hall hwr hw hw2 hb1 hb2
  first | (simp_all [Tac.same, Tac.want, baseOp, arrOp, setsOp, use1, use2]; done) | simp [Tac.same, Tac.want, baseOp, arrOp, *]
 refine acf ?_;refine agk ?_;refine asr ?_;refine aQ tok 2 rfl ?_;refine aq 165 (q_eqStruct tok false rfl rfl rfl (by kernel_rfl) rfl rfl rfl rfl rfl) ?_;refine aa 8 ?_;refine an ?_;refine agt ⟨[_], ⟨rfl, trivial⟩, ?_, rfl⟩
 refine bc ?_
 have hwr : 1 ≤ t.size → t.size ≤ 4096 → IntKind.i64.wrap (words - t.size) = words - t.size := fun h1 h2 => wrap_i64 (by omega) (by omega)
 rw [fits_same hb1 hb2 hd hall z38q]
 subst hdd haa hbb
 clear hd hj hall hwr hw hw2 hb1 hb2
 first | (simp_all [Tac.same, Tac.want, baseOp, arrOp, setsOp, use1, use2]; done) | simp [Tac.same, Tac.want, baseOp, arrOp, *]
theorem one_ok (f : BFunc) (number words : Int) (hw : 0 ≤ words) (hw2 : words ≤ 1048576) : APure Tryz.prog 40 [.agg f.cells, .int .i64 number, .int .i64 words] (fun r => r = .bool (f.one number words)) := by
 refine APure.of_body (n := 68) tok Tryz.func40 rfl rfl ?_;refine asq ?_;refine AGo.slot 0 rfl (fun H ι v => rel_bfunc) (fun hfit => ?_)
 refine agr ?_;refine ax 3 (obx 2 0) ?_;refine aa 6 ?_;refine an ?_;refine asq ?_;refine asr ?_;refine aQ tok 4 rfl ?_;refine aop 12 (fun hb1 => ?_) fun hb1 => ?_
 ·
  refine aQ tok 10 rfl ?_;refine an ?_;refine act ?_;refine asr ?_;refine aa 6 ?_;refine an ?_;refine agt ⟨[_], ⟨rfl, trivial⟩, ?_, rfl⟩
  refine bc ?_;exact (one_bad (by simp_all <;> omega)).symm
 refine aQ tok 5 rfl ?_;refine aop 17 (fun hb2 => ?_) fun hb2 => ?_
 ·
  refine aQ tok 5 rfl ?_;refine an ?_;refine act ?_;refine asr ?_;refine aa 6 ?_;refine an ?_;refine agt ⟨[_], ⟨rfl, trivial⟩, ?_, rfl⟩
  refine bc ?_;exact (one_bad (by simp_all <;> omega)).symm
 refine aQ tok 5 rfl ?_;refine an ?_;refine asp 22 (fun hb3 => ?_) fun hb3 => ?_
 ·
  refine act ?_;refine asr ?_;refine aa 6 ?_;refine an ?_;refine agt ⟨[_], ⟨rfl, trivial⟩, ?_, rfl⟩
  refine bc ?_;exact (one_bad (by simp_all <;> omega)).symm
 refine acf ?_
 have h0 : 0 ≤ f.regs ∧ f.regs ≤ 4000 ∧ f.blocks.length ≠ 0 := by simp_all <;> omega
 refine agk ?_;refine asq ?_;refine asr ?_;refine aa 7 ?_;refine an ?_;refine AGo.block ?_;refine AGo.loopD (γ := Nat) 1 (fun k => ⟨68, (eput (eput (eput (eput eNew 1 (.int .i64 number)) 2 (.int .i64 words)) 3 (.ptr 0 1 0 0)) 7 (.int .i64 (k : Int))), (hput (hFrom 1) 0 (.row false 2 [f.cells]))⟩) (fun k => (f.blocks.take k).all (fun x => x.ok f.blocks.length f.regs number words) = true) (fun k => f.blocks.length - k) 0 (Sub.mk' z29q z9q) rfl (fun _ => hput_free (fun b hb => hFrom_free hb) rfl) ?_
 intro k hk
 refine asq ?_;refine asr ?_;refine aQ tok 5 rfl ?_;refine an ?_;refine asp 27 (fun hb4 => ?_) fun hb4 => ?_
 ·
  refine act ?_
  have hkl : k < f.blocks.length := lt_of_idx hb4
  obtain ⟨x, hx⟩ := get_of_lt hkl
  refine agk ?_;refine asq ?_;refine AGo.block ?_;refine asq ?_;refine asq ?_;refine AGo.draw mix ?_;refine dQ tok 3 rfl ?_;refine dq 33 (q_index_lst tok rfl rfl rfl rfl rfl rfl (Int.natCast_nonneg _) (idx_map (by assumption)) rfl) ?_;refine dQ tok 6 rfl ?_;refine dx 40 (opu Tryz.func54 (ends_ok x _ _)) ?_;refine dq 41 (q_not rfl rfl) ?_;refine DOps.nil (by kernel_rfl) ?_;refine asp 41 (fun hb5 => ?_) fun hb5 => ?_
  ·
   refine act ?_
   have hends : x.ends f.blocks.length f.regs = false := by simpa using hb5
   refine asr ?_;refine aa 6 ?_;refine an ?_;refine agt ⟨[_], ⟨rfl, trivial⟩, ?_, rfl⟩
   refine bc ?_
   rw [one_all h0.1 h0.2.1 h0.2.2, all_bad hx (by simp [Block.ok, hends])]
  refine acf ?_
  have hends : x.ends f.blocks.length f.regs = true := by simpa using hb5
  refine agk ?_;refine asr ?_;refine aa 8 ?_;refine an ?_;refine AGo.block ?_;refine AGo.loopD (γ := Nat) 1 (fun j => ⟨68, (eput (eput (eput (eput (eput eNew 1 (.int .i64 number)) 2 (.int .i64 words)) 3 (.ptr 0 1 0 0)) 7 (.int .i64 (k : Int))) 8 (.int .i64 (j : Int))), (hput (hFrom 1) 0 (.row false 2 [f.cells]))⟩) (fun j => (x.ins.take j).all (fun t => t.fits number f.regs words) = true) (fun j => x.ins.length - j) 0 (Sub.mk' z29q z9q) rfl (fun _ => hput_free (fun b hb => hFrom_free hb) rfl) ?_
  intro j hj
  refine asq ?_;refine asr ?_;refine aQ tok 4 rfl ?_;refine aq 46 (q_index_lst tok rfl rfl rfl rfl rfl rfl (Int.natCast_nonneg _) (idx_map (by assumption)) rfl) ?_;refine aQ tok 4 rfl ?_;refine an ?_;refine asp 50 (fun hb6 => ?_) fun hb6 => ?_
  ·
   refine act ?_
   have hjl : j < x.ins.length := lt_of_idx hb6
   obtain ⟨u, hu⟩ := get_of_lt hjl
   refine agk ?_;refine asq ?_;refine AGo.block ?_;refine asq ?_;refine AGo.draw mix ?_;refine dQ tok 3 rfl ?_;refine dq 56 (q_index_lst tok rfl rfl rfl rfl rfl rfl (Int.natCast_nonneg _) (idx_map (by assumption)) rfl) ?_;refine dQ tok 3 rfl ?_;refine dq 60 (q_index_lst tok rfl rfl rfl rfl rfl rfl (Int.natCast_nonneg _) (idx_map (by assumption)) rfl) ?_;refine dQ tok 5 rfl ?_;refine dx 66 (opu Tryz.func55 (fits_ok u _ _ _ hw hw2)) ?_;refine dq 67 (q_not rfl rfl) ?_;refine DOps.nil (by kernel_rfl) ?_;refine asp 67 (fun hb7 => ?_) fun hb7 => ?_
   ·
    refine act ?_
    have hbw := hb7
    refine asr ?_;refine aa 6 ?_;refine an ?_;refine agt ⟨[_], ⟨rfl, trivial⟩, ?_, rfl⟩
    refine bc ?_
    rw [one_all h0.1 h0.2.1 h0.2.2, all_bad hx (by simp only [Block.ok, all_bad (p := fun t => Tac.fits t number f.regs words) hu (by simpa using hbw), Bool.and_false])]
   refine acf ?_
   have hbw := hb7
   refine agk ?_;refine agr ?_;refine am 51 ?_;refine aq 52 (q_inc rfl rfl hjl (hfit.2 x (List.mem_of_getElem? hx))) ?_;refine aa 8 ?_;refine an ?_;exact ⟨j+1, Drop.mk' z20q z14q, all_succ hu hj (by simpa using hbw), by omega⟩
  refine acf ?_
  have hins := all_end hj (ge_of_idx hb6)
  refine AGo.exit ?_;refine agr ?_;refine am 28 ?_;refine aq 29 (q_inc rfl rfl hkl hfit.1) ?_;refine aa 7 ?_;refine an ?_;exact ⟨k+1, Drop.mk' z20q z14q, all_succ hx hk (by simp [Block.ok, hends, hins]), by omega⟩
 refine acf ?_
 have hall := all_end hk (ge_of_idx hb4)
 refine AGo.exit ?_;refine asr ?_;refine aa 6 ?_;refine an ?_;refine agt ⟨[_], ⟨rfl, trivial⟩, ?_, rfl⟩
 refine bc ?_
 rw [one_all h0.1 h0.2.1 h0.2.2, hall]
theorem right_ok (b : Blocks) : APure Tryz.prog 29 [.agg b.cells] (fun r => r = .bool b.right) := by
 refine APure.of_body (n := 35) tok Tryz.func29 rfl rfl ?_;refine asq ?_;refine AGo.slot 0 rfl (fun H ι v => rel_prog) (fun hfit => ?_)
 refine agr ?_;refine ax 1 (obx 2 0) ?_;refine aa 2 ?_;refine an ?_;refine asq ?_;refine asr ?_;refine aQ tok 4 rfl ?_;refine aop 7 (fun hb1 => ?_) fun hb1 => ?_
 ·
  refine aQ tok 10 rfl ?_;refine an ?_;refine act ?_;refine asr ?_;refine aa 2 ?_;refine an ?_;refine agt ⟨[_], ⟨rfl, trivial⟩, ?_, rfl⟩
  refine bc ?_;exact (right_bad (by simp_all <;> omega)).symm
 refine aQ tok 5 rfl ?_;refine aop 12 (fun hb2 => ?_) fun hb2 => ?_
 ·
  refine aQ tok 5 rfl ?_;refine an ?_;refine act ?_;refine asr ?_;refine aa 2 ?_;refine an ?_;refine agt ⟨[_], ⟨rfl, trivial⟩, ?_, rfl⟩
  refine bc ?_;exact (right_bad (by simp_all <;> omega)).symm
 refine aQ tok 5 rfl ?_;refine an ?_;refine asp 17 (fun hb3 => ?_) fun hb3 => ?_
 ·
  refine act ?_;refine asr ?_;refine aa 2 ?_;refine an ?_;refine agt ⟨[_], ⟨rfl, trivial⟩, ?_, rfl⟩
  refine bc ?_;exact (right_bad (by simp_all <;> omega)).symm
 refine acf ?_
 have h0 : 0 ≤ b.words ∧ b.words ≤ 1048576 ∧ b.funcs.length ≠ 0 := by simp_all <;> omega
 refine agk ?_;refine asq ?_;refine asr ?_;refine aa 3 ?_;refine an ?_;refine AGo.block ?_;refine AGo.loopD (γ := Nat) 1 (fun k => ⟨35, (eput (eput eNew 1 (.ptr 0 1 0 0)) 3 (.int .i64 (k : Int))), (hput (hFrom 1) 0 (.row false 2 [b.cells]))⟩) (fun k => (b.funcs.zipIdx.take k).all (fun p => p.1.one (p.2 : Int) b.words) = true) (fun k => b.funcs.length - k) 0 (Sub.mk' z29q z9q) rfl (fun _ => hput_free (fun b hb => hFrom_free hb) rfl) ?_
 intro k hk
 refine asq ?_;refine asr ?_;refine aQ tok 5 rfl ?_;refine an ?_;refine asp 22 (fun hb4 => ?_) fun hb4 => ?_
 ·
  refine act ?_
  have hkl : k < b.funcs.length := lt_of_idx hb4
  obtain ⟨x, hx⟩ := get_of_lt hkl
  refine agk ?_;refine asq ?_;refine AGo.block ?_;refine asq ?_;refine AGo.draw mix ?_;refine dQ tok 3 rfl ?_;refine dq 28 (q_index_lst tok rfl rfl rfl rfl rfl rfl (Int.natCast_nonneg _) (idx_map (by assumption)) rfl) ?_;refine dQ tok 4 rfl ?_;refine dx 33 (opu Tryz.func40 (one_ok x _ _ h0.1 h0.2.1)) ?_;refine dq 34 (q_not rfl rfl) ?_;refine DOps.nil (by kernel_rfl) ?_;refine asp 34 (fun hb5 => ?_) fun hb5 => ?_
  ·
   refine act ?_
   have hone := hb5
   refine asr ?_;refine aa 2 ?_;refine an ?_;refine agt ⟨[_], ⟨rfl, trivial⟩, ?_, rfl⟩
   refine bc ?_
   rw [right_all h0.1 h0.2.1 h0.2.2, all_bad (zipIdx_get hx) (by simpa using hone)]
  refine acf ?_
  have hone := hb5
  refine agk ?_;refine agr ?_;refine am 23 ?_;refine aq 24 (q_inc rfl rfl hkl hfit.1) ?_;refine aa 3 ?_;refine an ?_;exact ⟨k+1, Drop.mk' z20q z14q, all_succ (zipIdx_get hx) hk (by simpa using hone), by omega⟩
 refine acf ?_
 have hall := all_end hk (by rw [List.length_zipIdx]; exact ge_of_idx hb4)
 refine AGo.exit ?_;refine asr ?_;refine aa 2 ?_;refine an ?_;refine agt ⟨[_], ⟨rfl, trivial⟩, ?_, rfl⟩
 refine bc ?_
 rw [right_all h0.1 h0.2.1 h0.2.2, hall]
theorem small35_ok (b : Blocks) (hL : b.Lim) : APure Tryz.prog 13 [.agg b.cells] (fun r => r = .bool (small35 b)) := by
 have hn := hL.n
 refine APure.of_body (n := 37) tok Tryz.func13 rfl rfl ?_;refine asr ?_;refine ax 1 (obx 2 0) ?_;refine aa 2 ?_;refine an ?_;refine asq ?_;refine asr ?_;refine aQ tok 5 rfl ?_;refine aop 8 (fun hb1 => ?_) fun hb1 => ?_
 ·
  refine aQ tok 14 rfl ?_;refine an ?_;refine act ?_;refine asr ?_;refine aa 2 ?_;refine an ?_;refine agt ⟨[_], ⟨rfl, trivial⟩, ?_, rfl⟩
  refine bc ?_
  simp_all [small35]; try omega
 refine aQ tok 5 rfl ?_;refine aop 13 (fun hb2 => ?_) fun hb2 => ?_
 ·
  refine aQ tok 9 rfl ?_;refine an ?_;refine act ?_;refine asr ?_;refine aa 2 ?_;refine an ?_;refine agt ⟨[_], ⟨rfl, trivial⟩, ?_, rfl⟩
  refine bc ?_
  simp_all [small35]; try omega
 refine al 14 tok ?_;refine ax 15 (opu Tryz.func29 (right_ok b)) ?_;refine aQ tok 3 rfl ?_;refine aop 18 (fun hb3 => ?_) fun hb3 => ?_
 ·
  refine aQ tok 4 rfl ?_;refine an ?_;refine act ?_;refine asr ?_;refine aa 2 ?_;refine an ?_;refine agt ⟨[_], ⟨rfl, trivial⟩, ?_, rfl⟩
  refine bc ?_
  simp_all [small35]; try omega
 refine al 19 tok ?_;refine ax 20 (opu Tryz.func27 (rsize_ok b (by have := hL.c; omega))) ?_;refine aQ tok 2 rfl ?_;refine an ?_;refine asp 22 (fun hb4 => ?_) fun hb4 => ?_
 ·
  refine act ?_;refine asr ?_;refine aa 2 ?_;refine an ?_;refine agt ⟨[_], ⟨rfl, trivial⟩, ?_, rfl⟩
  refine bc ?_
  simp_all [small35]; try omega
 refine acf ?_
 have hg1 : b.funcs.length ≤ 6 := by have h := hb1; simp at h; omega
 have hg2 : b.words ≤ 400 := by have h := hb2; simp at h; omega
 have hg3 : b.right = true := by have h := hb3; simpa using h
 have hg4 : b.count ≤ 200 := by have h := hb4; simp at h; omega
 refine agk ?_;refine asq ?_;refine asr ?_;refine aa 3 ?_;refine an ?_;refine AGo.block ?_;refine AGo.loopD (γ := Nat) 1 (fun k => ⟨37, (eput (eput eNew 1 (.ptr 0 1 0 0)) 3 (.int .i64 (k : Int))), (hput (hFrom 1) 0 (.row false 2 [b.cells]))⟩) (fun k => k ≤ b.funcs.length ∧ (b.funcs.take k).all low35 = true) (fun k => b.funcs.length - k) 0 (Sub.mk' z18q z9q) ⟨Nat.zero_le _, rfl⟩ (fun _ => hput_free (fun b hb => hFrom_free hb) rfl) ?_
 intro k hF
 refine asq ?_;refine asr ?_;refine aQ tok 5 rfl ?_;refine an ?_;refine asp 27 (fun hb5 => ?_) fun hb5 => ?_
 ·
  refine act ?_
  have hkl := lt_of_idx hb5
  obtain ⟨f, hf⟩ := get_of_lt hkl
  refine agk ?_;refine asq ?_;refine AGo.block ?_;refine asr ?_;refine aQ tok 3 rfl ?_;refine aq 33 (qil tok (idx_map hf)) ?_;refine aQ tok 3 rfl ?_;refine an ?_;refine asp 36 (fun hb6 => ?_) fun hb6 => ?_
  ·
   refine act ?_
   have hno : ¬ f.regs ≤ 30 := by have h := hb6; simp at h; omega
   have hnall := low_no (List.mem_of_getElem? hf) hno
   refine asr ?_;refine aa 2 ?_;refine an ?_;refine agt ⟨[_], ⟨rfl, trivial⟩, ?_, rfl⟩
   refine bc ?_
   simp [small35, hnall]
  refine acf ?_
  have hyes : f.regs ≤ 30 := by have h := hb6; simp at h; omega
  refine agk ?_;refine agr ?_;refine am 28 ?_;refine aq 29 (q_inc rfl rfl hkl (by simp only [maxLen]; omega)) ?_;refine aa 3 ?_;refine an ?_;exact ⟨k+1, Drop.mk' z20q z14q, ⟨hkl, low_take hf hF.2 hyes⟩, by omega⟩
 refine acf ?_
 have hge := ge_of_idx hb5
 have hall : b.funcs.all low35 = true := by have h := hF.2; rwa [List.take_of_length_le hge] at h
 refine AGo.exit ?_;refine asr ?_;refine aa 2 ?_;refine an ?_;refine agt ⟨[_], ⟨rfl, trivial⟩, ?_, rfl⟩
 refine bc ?_
 simp [small35, hg1, hg2, hg3, hg4, hall]
theorem find_ok (k : Int) : APure Tryz.prog 31 [.int .i64 k] (fun r => r = .tup [.val (passV k), .bool (kind35 k)]) := by
 refine APure.of_body (n := 28) tok Tryz.func31 rfl rfl ?_;refine asr ?_;refine aQ tok 2 rfl ?_;refine an ?_;refine asr ?_;refine am 5 ?_;refine aq 6 (q_build tok rfl rfl rfl rfl rfl (by decide) rfl rfl rfl) ?_;refine ax 4 (oal tok 0) ?_;refine AOps.w rfl rfl (o_store tok rfl rfl rfl rfl rfl rfl rfl rfl rfl (by decide) rfl z33q) ?_;refine an ?_;refine asq ?_;refine asr ?_;refine am 7 ?_;refine an ?_;refine AGo.block ?_;refine asr ?_;refine aQ tok 2 rfl ?_;refine an ?_;refine asp 8 (fun hb1 => ?_) fun hb1 => ?_
 ·
  refine act ?_
  have hk1 : k = 1 := by simpa using hb1
  subst hk1
  refine asr ?_;refine al 10 tok ?_;refine aq 11 (q_build tok rfl rfl rfl rfl rfl (by decide) rfl rfl rfl) ?_;refine aq 12 (q_iface tok rfl rfl rfl rfl (by intro h; cases h)) ?_;refine aQ tok 2 rfl ?_;refine an ?_;refine agt ?_;refine ⟨[_, _], ⟨rfl, rfl, trivial⟩, ?_, rfl⟩
  rfl
 refine acf ?_
 have hn1 : k ≠ 1 := by simpa using hb1
 refine asr ?_;refine aQ tok 2 rfl ?_;refine an ?_;refine asp 13 (fun hb2 => ?_) fun hb2 => ?_
 ·
  refine act ?_
  have hk2 : k = 2 := by simpa using hb2
  subst hk2
  refine asr ?_;refine al 15 tok ?_;refine aq 16 (q_build tok rfl rfl rfl rfl rfl (by decide) rfl rfl rfl) ?_;refine aq 17 (q_iface tok rfl rfl rfl rfl (by intro h; cases h)) ?_;refine aQ tok 2 rfl ?_;refine an ?_;refine agt ?_;refine ⟨[_, _], ⟨rfl, rfl, trivial⟩, ?_, rfl⟩
  rfl
 refine acf ?_
 have hn2 : k ≠ 2 := by simpa using hb2
 refine asr ?_;refine aQ tok 2 rfl ?_;refine an ?_;refine asp 18 (fun hb3 => ?_) fun hb3 => ?_
 ·
  refine act ?_
  have hk3 : k = 3 := by simpa using hb3
  subst hk3
  refine asr ?_;refine al 20 tok ?_;refine aq 21 (q_build tok rfl rfl rfl rfl rfl (by decide) rfl rfl rfl) ?_;refine aq 22 (q_iface tok rfl rfl rfl rfl (by intro h; cases h)) ?_;refine aQ tok 2 rfl ?_;refine an ?_;refine agt ?_;refine ⟨[_, _], ⟨rfl, rfl, trivial⟩, ?_, rfl⟩
  rfl
 refine acf ?_
 have hn3 : k ≠ 3 := by simpa using hb3
 refine asr ?_;refine aQ tok 2 rfl ?_;refine an ?_;refine asp 23 (fun hb4 => ?_) fun hb4 => ?_
 ·
  refine act ?_
  have hk4 : k = 4 := by simpa using hb4
  subst hk4
  refine asr ?_;refine al 25 tok ?_;refine aq 26 (q_build tok rfl rfl rfl rfl rfl (by decide) rfl rfl rfl) ?_;refine aq 27 (q_iface tok rfl rfl rfl rfl (by intro h; cases h)) ?_;refine aQ tok 2 rfl ?_;refine an ?_;refine agt ?_;refine ⟨[_, _], ⟨rfl, rfl, trivial⟩, ?_, rfl⟩
  rfl
 refine acf ?_
 have hn4 : k ≠ 4 := by simpa using hb4
 refine agk ?_;refine asr ?_;refine aQ tok 2 rfl ?_;refine an ?_;refine agt ?_;refine ⟨[_, _], ⟨rfl, rfl, trivial⟩, ?_, rfl⟩
 rw [passV_no hn1 hn2 hn3 hn4, kind_no hn1 hn2 hn3 hn4]
 rfl
theorem cholds_ok (k : Int) (v : Value) (f : BFunc) (p : OPass) (hV : APure Tryz.prog 129 [.agg f.cells, .agg p.f.cells, .agg p.cert.cells] (fun r => r = .bool (vcheck f p.f p.cert))) : APure Tryz.prog 127 [.agg [.int .i64 k, .val v], .agg f.cells, .agg p.cells] (fun r => r = .bool (p.paths.isEmpty && vcheck f p.f p.cert)) := by
 refine APure.of_body (n := 19) tok Tryz.func127 rfl rfl ?_;refine asr ?_;refine ax 3 (obx 2 0) ?_;refine ax 4 (obx 2 1) ?_;refine ax 5 (obx 5 2) ?_;refine aa 6 ?_;refine an ?_;refine asr ?_;refine aQ tok 5 rfl ?_;refine aop 11 (fun hb1 => ?_) fun hb1 => ?_
 ·
  refine aQ tok 5 rfl ?_;refine ax 17 (opu Tryz.func129 (hV)) ?_;refine aQ tok 2 rfl ?_;refine an ?_;refine agt ⟨[_], ⟨rfl, trivial⟩, ?_, rfl⟩
  refine bc ?_
  cases e : p.paths <;> first | (simp_all; done) | (exfalso; simp_all; omega)
 refine aQ tok 8 rfl ?_;refine an ?_;refine agt ⟨[_], ⟨rfl, trivial⟩, ?_, rfl⟩
 refine bc ?_
 cases e : p.paths <;> first | (simp_all; done) | (exfalso; simp_all; omega)
theorem jholds_ok (k : Int) (f : BFunc) (p : OPass) (hT : APure Tryz.prog 143 [.agg f.cells, .agg p.f.cells, pathsAV p.paths] (fun r => r = .bool (checkB f p.f p.paths))) : APure Tryz.prog 141 [.agg [.int .i64 k], .agg f.cells, .agg p.cells] (fun r => r = .bool (p.cert.same.isEmpty && checkB f p.f p.paths)) := by
 refine APure.of_body (n := 20) tok Tryz.func141 rfl rfl ?_;refine asr ?_;refine ax 3 (obx 1 0) ?_;refine ax 4 (obx 2 1) ?_;refine ax 5 (obx 5 2) ?_;refine aa 6 ?_;refine an ?_;refine asr ?_;refine aQ tok 6 rfl ?_;refine aop 12 (fun hb1 => ?_) fun hb1 => ?_
 ·
  refine aQ tok 5 rfl ?_;refine ax 18 (opu Tryz.func143 (hT)) ?_;refine aQ tok 2 rfl ?_;refine an ?_;refine agt ⟨[_], ⟨rfl, trivial⟩, ?_, rfl⟩
  refine bc ?_
  cases e : p.cert.same <;> first | (simp_all; done) | (exfalso; simp_all; omega)
 refine aQ tok 8 rfl ?_;refine an ?_;refine agt ⟨[_], ⟨rfl, trivial⟩, ?_, rfl⟩
 refine bc ?_
 cases e : p.cert.same <;> first | (simp_all; done) | (exfalso; simp_all; omega)
theorem holdsOk_of {p : OPass} {f : BFunc} (hk : kind35 p.kind = true) (hV : APure Tryz.prog 129 [.agg f.cells, .agg p.f.cells, .agg p.cert.cells] (fun r => r = .bool (vcheck f p.f p.cert))) (hT : APure Tryz.prog 143 [.agg f.cells, .agg p.f.cells, pathsAV p.paths] (fun r => r = .bool (checkB f p.f p.paths))) : HoldsOk p f := by
  unfold HoldsOk
  rw [holds_of hk]
  rcases kind_cases hk with h | h | h | h <;> rw [h]
  · exact cholds_ok 1 _ f p hV
  · exact cholds_ok 2 _ f p hV
  · exact cholds_ok 3 _ f p hV
  · exact jholds_ok 4 f p hT
theorem few35_ok (z : Ask35) (hO : z.old.Lim) (hN : z.new.Lim) (hP : ListLim z.l) : APure Tryz.prog 20 [.agg z.cells] (fun r => r = .bool (few35 z)) := by
 have hn := hP.n
 refine APure.of_body (n := 82) tok Tryz.func20 rfl rfl ?_;refine asr ?_;refine ax 1 (obx 6 0) ?_;refine aa 2 ?_;refine an ?_;refine asq ?_;refine asr ?_;refine aQ tok 5 rfl ?_;refine aop 9 (fun hb1 => ?_) fun hb1 => ?_
 ·
  refine aQ tok 24 rfl ?_;refine an ?_;refine act ?_;refine asr ?_;refine aa 2 ?_;refine an ?_;refine agt ⟨[_], ⟨rfl, trivial⟩, ?_, rfl⟩
  refine bc ?_
  simp_all [few35]; try omega
 refine aQ tok 2 rfl ?_;refine ax 12 (opu Tryz.func13 (small35_ok z.old hO)) ?_;refine aQ tok 3 rfl ?_;refine aop 15 (fun hb2 => ?_) fun hb2 => ?_
 ·
  refine aQ tok 18 rfl ?_;refine an ?_;refine act ?_;refine asr ?_;refine aa 2 ?_;refine an ?_;refine agt ⟨[_], ⟨rfl, trivial⟩, ?_, rfl⟩
  refine bc ?_
  simp_all [few35]; try omega
 refine aQ tok 7 rfl ?_;refine aop 22 (fun hb3 => ?_) fun hb3 => ?_
 ·
  refine aQ tok 11 rfl ?_;refine an ?_;refine act ?_;refine asr ?_;refine aa 2 ?_;refine an ?_;refine agt ⟨[_], ⟨rfl, trivial⟩, ?_, rfl⟩
  refine bc ?_
  simp_all [few35]; try omega
 refine aQ tok 2 rfl ?_;refine ax 25 (opu Tryz.func27 (rsize_ok z.new (by have := hN.c; omega))) ?_;refine aQ tok 3 rfl ?_;refine aop 28 (fun hb4 => ?_) fun hb4 => ?_
 ·
  refine aQ tok 5 rfl ?_;refine an ?_;refine act ?_;refine asr ?_;refine aa 2 ?_;refine an ?_;refine agt ⟨[_], ⟨rfl, trivial⟩, ?_, rfl⟩
  refine bc ?_
  simp_all [few35]; try omega
 refine aQ tok 5 rfl ?_;refine an ?_;refine asp 33 (fun hb5 => ?_) fun hb5 => ?_
 ·
  refine act ?_;refine asr ?_;refine aa 2 ?_;refine an ?_;refine agt ⟨[_], ⟨rfl, trivial⟩, ?_, rfl⟩
  refine bc ?_
  simp_all [few35]; try omega
 refine acf ?_
 have hg1 : z.l.length ≤ 8 := by have h := hb1; simp at h; omega
 have hg2 : small35 z.old = true := by simpa using hb2
 have hg3 : z.new.funcs.length ≤ 8 := by have h := hb3; simp at h; omega
 have hg4 : z.new.count ≤ 300 := by have h := hb4; simp at h; omega
 have hg5 : z.s.size ≤ 60 := by have h := hb5; simp at h; omega
 refine agk ?_;refine asq ?_;refine asr ?_;refine aa 3 ?_;refine an ?_;refine AGo.block ?_;refine AGo.loopD (γ := Nat) 1 (fun k => ⟨82, (eput (eput eNew 1 (.ptr 0 1 0 0)) 3 (.int .i64 (k : Int))), (hput (hFrom 1) 0 (.row false 6 [z.cells]))⟩) (fun k => k ≤ z.l.length ∧ (z.l.take k).all fewP = true) (fun k => z.l.length - k) 0 (Sub.mk' z18q z9q) ⟨Nat.zero_le _, rfl⟩ (fun _ => hput_free (fun b hb => hFrom_free hb) rfl) ?_
 intro k hF
 refine asq ?_;refine asr ?_;refine aQ tok 5 rfl ?_;refine an ?_;refine asp 38 (fun hb6 => ?_) fun hb6 => ?_
 ·
  refine act ?_
  have hkl := lt_of_idx hb6
  obtain ⟨ps, hps⟩ := get_of_lt hkl
  have hpsl := hP.m ps (List.mem_of_getElem? hps)
  refine agk ?_;refine asq ?_;refine AGo.block ?_;refine asq ?_;refine asr ?_;refine aQ tok 3 rfl ?_;refine aq 44 (qil tok (idx_map hps)) ?_;refine aQ tok 3 rfl ?_;refine an ?_;refine asp 47 (fun hb7 => ?_) fun hb7 => ?_
  ·
   refine act ?_
   have hno : fewP ps = false := by have h := hb7; simp only [List.length_map, decide_eq_true_eq] at h; rw [fewP, decide_eq_false (by omega), Bool.false_and]
   refine asr ?_;refine aa 2 ?_;refine an ?_;refine agt ⟨[_], ⟨rfl, trivial⟩, ?_, rfl⟩
   refine bc ?_
   simp [few35, allq_no (List.mem_of_getElem? hps) hno]
  refine acf ?_
  have hp8 : ps.length ≤ 8 := by have h := hb7; simp only [List.length_map, decide_eq_false_iff_not] at h; omega
  refine agk ?_;refine asr ?_;refine aa 4 ?_;refine an ?_;refine AGo.block ?_;refine AGo.loopD (γ := Nat) 1 (fun j => ⟨82, (eput (eput (eput eNew 1 (.ptr 0 1 0 0)) 3 (.int .i64 (k : Int))) 4 (.int .i64 (j : Int))), (hput (hFrom 1) 0 (.row false 6 [z.cells]))⟩) (fun j => j ≤ ps.length ∧ (ps.take j).all fewO = true) (fun j => ps.length - j) 0 (Sub.mk' z18q z9q) ⟨Nat.zero_le _, rfl⟩ (fun _ => hput_free (fun b hb => hFrom_free hb) rfl) ?_
  intro j hJ
  refine asq ?_;refine asr ?_;refine aQ tok 4 rfl ?_;refine aq 52 (qil tok (idx_map hps)) ?_;refine aQ tok 3 rfl ?_;refine an ?_;refine asp 55 (fun hb8 => ?_) fun hb8 => ?_
  ·
   refine act ?_
   have hjl : j < ps.length := lt_of_idx hb8
   obtain ⟨p, hp⟩ := get_of_lt hjl
   refine agk ?_;refine asq ?_;refine AGo.block ?_;refine asr ?_;refine aQ tok 3 rfl ?_;refine aq 61 (qil tok (idx_map hps)) ?_;refine aQ tok 2 rfl ?_;refine aq 64 (qil tok (idx_map hp)) ?_;refine aQ tok 2 rfl ?_;refine ax 67 (opu Tryz.func35 (sizeFunc_ok p.f (by have := (hP.p ps (List.mem_of_getElem? hps) p (List.mem_of_getElem? hp)).c; omega))) ?_;refine aQ tok 2 rfl ?_;refine aop 69 (fun hb9 => ?_) fun hb9 => ?_
   ·
    refine aQ tok 12 rfl ?_;refine an ?_;refine act ?_
    have hno : fewO p = false := by simp_all [fewO]; try omega
    refine asr ?_;refine aa 2 ?_;refine an ?_;refine agt ⟨[_], ⟨rfl, trivial⟩, ?_, rfl⟩
    refine bc ?_
    simp [few35, allq_no (List.mem_of_getElem? hps) (fewP_no (List.mem_of_getElem? hp) hno)]
   refine aQ tok 3 rfl ?_;refine aq 73 (qil tok (idx_map hps)) ?_;refine aQ tok 2 rfl ?_;refine aq 76 (qil tok (idx_map hp)) ?_;refine aQ tok 5 rfl ?_;refine an ?_;refine asp 81 (fun hb10 => ?_) fun hb10 => ?_
   ·
    refine act ?_
    have hno : fewO p = false := by simp_all [fewO]; try omega
    refine asr ?_;refine aa 2 ?_;refine an ?_;refine agt ⟨[_], ⟨rfl, trivial⟩, ?_, rfl⟩
    refine bc ?_
    simp [few35, allq_no (List.mem_of_getElem? hps) (fewP_no (List.mem_of_getElem? hp) hno)]
   refine acf ?_
   have hyo : fewO p = true := by simp_all [fewO]; try omega
   refine agk ?_;refine agr ?_;refine am 56 ?_;refine aq 57 (q_inc rfl rfl hjl (by simp only [maxLen]; omega)) ?_;refine aa 4 ?_;refine an ?_;exact ⟨j+1, Drop.mk' z20q z14q, ⟨hjl, allq_take hp hJ.2 hyo⟩, by omega⟩
  refine acf ?_
  have hge2 : ps.length ≤ j := ge_of_idx hb8
  have hyes : fewP ps = true := by have h := hJ.2; rw [List.take_of_length_le hge2] at h; rw [fewP, h, decide_eq_true hp8]; rfl
  refine AGo.exit ?_;refine agr ?_;refine am 39 ?_;refine aq 40 (q_inc rfl rfl hkl (by simp only [maxLen]; omega)) ?_;refine aa 3 ?_;refine an ?_;exact ⟨k+1, Drop.mk' z20q z14q, ⟨hkl, allq_take hps hF.2 hyes⟩, by omega⟩
 refine acf ?_
 have hge := ge_of_idx hb6
 have hall : z.l.all fewP = true := by have h := hF.2; rwa [List.take_of_length_le hge] at h
 refine AGo.exit ?_;refine asr ?_;refine aa 2 ?_;refine an ?_;refine agt ⟨[_], ⟨rfl, trivial⟩, ?_, rfl⟩
 refine bc ?_
 simp [few35, hg1, hg2, hg3, hg4, hg5, hall]
theorem brest_ok (words f regs blocks : Int) (t : Tac) (hw : 0 ≤ words) (hw2 : words ≤ 1048576) : APure Tryz.prog 66 [(.agg [.int .i64 words, .int .i64 f, .int .i64 regs, .int .i64 blocks]), .agg t.cells] (fun q => q = .bool (t.rest2 f words)) := by
 refine APure.of_body (n := 115) tok Tryz.func66 rfl rfl ?_;refine asr ?_;refine ax 2 (obx 4 0) ?_;refine ax 3 (obx 8 1) ?_;refine aa 4 ?_;refine an ?_;refine asq ?_;refine asq ?_;refine AGo.join (γ := Unit) (fun _u => ⟨115, (eput (eput (eput eNew 2 (.ptr 0 1 0 0)) 3 (.ptr 1 1 0 0)) 23 (.bool ((t.op != 1 && t.n != 0) || (t.op != 3 && t.k != 0)))), (hput (hput (hFrom 2) 0 (.row false 4 [[.int .i64 words, .int .i64 f, .int .i64 regs, .int .i64 blocks]])) 1 (.row false 8 [t.cells]))⟩) (fun _u => True) ?_ ?_
 ·
  refine agr ?_;refine aQ tok 4 rfl ?_;refine aop 9 (fun hb1 => ?_) fun hb1 => ?_
  ·
   refine aQ tok 5 rfl ?_;refine aop 14 (fun hb2 => ?_) fun hb2 => ?_
   ·
    refine aQ tok 9 rfl ?_;refine an ?_;exact ⟨(), Sub.mk' z19q z9q, trivial⟩
   refine aQ tok 4 rfl ?_;refine aop 18 (fun hb3 => ?_) fun hb3 => ?_
   ·
    refine aQ tok 5 rfl ?_;refine an ?_;exact ⟨(), Sub.mk' z19q z9q, trivial⟩
   refine aQ tok 5 rfl ?_;refine an ?_;exact ⟨(), Sub.mk' z19q z9q, trivial⟩
  refine aQ tok 9 rfl ?_;refine aop 18 (fun hb4 => ?_) fun hb4 => ?_
  ·
   refine aQ tok 5 rfl ?_;refine an ?_;exact ⟨(), Sub.mk' z19q z9q, trivial⟩
  refine aQ tok 5 rfl ?_;refine an ?_;exact ⟨(), Sub.mk' z19q z9q, trivial⟩
 intro _u _
 refine asp 23 (fun hb5 => ?_) fun hb5 => ?_
 ·
  refine act ?_;refine asr ?_;refine aa 4 ?_;refine an ?_;refine agt ⟨[_], ⟨rfl, trivial⟩, ?_, rfl⟩
  refine bc ?_
  first | (simp_all [Tac.rest2, arrOp]; done) | (simp_all [Tac.rest2, arrOp]; omega)
 refine acf ?_
 have hq1 := hb5
 refine agk ?_;refine asq ?_;refine AGo.join (γ := Unit) (fun _u => ⟨115, (eput (eput (eput eNew 2 (.ptr 0 1 0 0)) 3 (.ptr 1 1 0 0)) 5 (.bool (arrOp t.op))), (hput (hput (hFrom 2) 0 (.row false 4 [[.int .i64 words, .int .i64 f, .int .i64 regs, .int .i64 blocks]])) 1 (.row false 8 [t.cells]))⟩) (fun _u => True) ?_ ?_
 ·
  refine agr ?_;refine aQ tok 4 rfl ?_;refine aop 27 (fun hb6 => ?_) fun hb6 => ?_
  ·
   refine aQ tok 5 rfl ?_;refine an ?_;exact ⟨(), Sub.mk' z19q z9q, trivial⟩
  refine aQ tok 5 rfl ?_;refine an ?_;exact ⟨(), Sub.mk' z19q z9q, trivial⟩
 intro _u _
 refine asq ?_;refine asq ?_;refine AGo.join (γ := Unit) (fun _u => ⟨115, (eput (eput (eput eNew 2 (.ptr 0 1 0 0)) 3 (.ptr 1 1 0 0)) 38 (.bool (!arrOp t.op && t.size != 0))), (hput (hput (hFrom 2) 0 (.row false 4 [[.int .i64 words, .int .i64 f, .int .i64 regs, .int .i64 blocks]])) 1 (.row false 8 [t.cells]))⟩) (fun _u => True) ?_ ?_
 ·
  refine agr ?_;refine aQ tok 3 rfl ?_;refine aop 34 (fun hb7 => ?_) fun hb7 => ?_
  ·
   refine aQ tok 4 rfl ?_;refine an ?_;exact ⟨(), Sub.mk' z19q z9q, trivial⟩
  refine aQ tok 4 rfl ?_;refine an ?_;exact ⟨(), Sub.mk' z19q z9q, trivial⟩
 intro _u _
 refine asp 38 (fun hb8 => ?_) fun hb8 => ?_
 ·
  refine act ?_;refine asr ?_;refine aa 4 ?_;refine an ?_;refine agt ⟨[_], ⟨rfl, trivial⟩, ?_, rfl⟩
  refine bc ?_
  first | (simp_all [Tac.rest2, arrOp]; done) | (simp_all [Tac.rest2, arrOp]; omega)
 refine acf ?_
 have hq2 := hb8
 refine agk ?_;refine asq ?_;refine asr ?_;refine aQ tok 2 rfl ?_;refine an ?_;refine AGo.block ?_;refine asq ?_;refine asr ?_;refine aQ tok 2 rfl ?_;refine an ?_;refine asp 41 (fun hb9 => ?_) fun hb9 => ?_
 ·
  refine act ?_;refine agk ?_;refine act ?_;refine asr ?_;refine aQ tok 4 rfl ?_;refine an ?_;refine agt ⟨[_], ⟨rfl, trivial⟩, ?_, rfl⟩
  refine bc ?_
  first | (simp_all [Tac.rest2, arrOp]; done) | (simp_all [Tac.rest2, arrOp]; omega)
 refine acf ?_;refine asr ?_;refine aQ tok 2 rfl ?_;refine an ?_;refine asp 41 (fun hb10 => ?_) fun hb10 => ?_
 ·
  refine act ?_;refine agk ?_;refine act ?_;refine asr ?_;refine aQ tok 4 rfl ?_;refine an ?_;refine agt ⟨[_], ⟨rfl, trivial⟩, ?_, rfl⟩
  refine bc ?_
  first | (simp_all [Tac.rest2, arrOp]; done) | (simp_all [Tac.rest2, arrOp]; omega)
 refine acf ?_;refine asr ?_;refine aQ tok 2 rfl ?_;refine an ?_;refine asp 41 (fun hb11 => ?_) fun hb11 => ?_
 ·
  refine act ?_;refine agk ?_;refine act ?_;refine asr ?_;refine aQ tok 4 rfl ?_;refine an ?_;refine agt ⟨[_], ⟨rfl, trivial⟩, ?_, rfl⟩
  refine bc ?_
  first | (simp_all [Tac.rest2, arrOp]; done) | (simp_all [Tac.rest2, arrOp]; omega)
 refine acf ?_;refine agr ?_;refine aQ tok 2 rfl ?_;refine an ?_;refine asp 41 (fun hb12 => ?_) fun hb12 => ?_
 ·
  refine act ?_;refine asr ?_;refine aQ tok 4 rfl ?_;refine an ?_;refine agt ⟨[_], ⟨rfl, trivial⟩, ?_, rfl⟩
  refine bc ?_
  first | (simp_all [Tac.rest2, arrOp]; done) | (simp_all [Tac.rest2, arrOp]; omega)
 refine acf ?_;refine asr ?_;refine aQ tok 2 rfl ?_;refine an ?_;refine asp 49 (fun hb13 => ?_) fun hb13 => ?_
 ·
  refine act ?_;refine asr ?_;refine aQ tok 4 rfl ?_;refine aop 54 (fun hb14 => ?_) fun hb14 => ?_
  ·
   refine aQ tok 5 rfl ?_;refine aop 59 (fun hb15 => ?_) fun hb15 => ?_
   ·
    refine aQ tok 5 rfl ?_;refine an ?_;refine agt ⟨[_], ⟨rfl, trivial⟩, ?_, rfl⟩
    refine bc ?_
    first | (simp_all [Tac.rest2, arrOp]; done) | (simp_all [Tac.rest2, arrOp]; omega)
   refine aQ tok 5 rfl ?_;refine an ?_;refine agt ⟨[_], ⟨rfl, trivial⟩, ?_, rfl⟩
   refine bc ?_
   first | (simp_all [Tac.rest2, arrOp]; done) | (simp_all [Tac.rest2, arrOp]; omega)
  refine aQ tok 10 rfl ?_;refine an ?_;refine agt ⟨[_], ⟨rfl, trivial⟩, ?_, rfl⟩
  refine bc ?_
  first | (simp_all [Tac.rest2, arrOp]; done) | (simp_all [Tac.rest2, arrOp]; omega)
 refine acf ?_;refine asq ?_;refine asr ?_;refine aQ tok 2 rfl ?_;refine an ?_;refine asp 64 (fun hb16 => ?_) fun hb16 => ?_
 ·
  refine act ?_;refine agk ?_;refine act ?_;refine asr ?_;refine aQ tok 4 rfl ?_;refine aop 70 (fun hb17 => ?_) fun hb17 => ?_
  ·
   refine aQ tok 7 rfl ?_;refine an ?_;refine agt ⟨[_], ⟨rfl, trivial⟩, ?_, rfl⟩
   refine bc ?_
   first | (simp_all [Tac.rest2, arrOp]; done) | (simp_all [Tac.rest2, arrOp]; omega)
  refine aQ tok 7 rfl ?_;refine an ?_;refine agt ⟨[_], ⟨rfl, trivial⟩, ?_, rfl⟩
  refine bc ?_
  first | (simp_all [Tac.rest2, arrOp]; done) | (simp_all [Tac.rest2, arrOp]; omega)
 refine acf ?_;refine agr ?_;refine aQ tok 2 rfl ?_;refine an ?_;refine asp 64 (fun hb18 => ?_) fun hb18 => ?_
 ·
  refine act ?_;refine asr ?_;refine aQ tok 4 rfl ?_;refine aop 70 (fun hb19 => ?_) fun hb19 => ?_
  ·
   refine aQ tok 7 rfl ?_;refine an ?_;refine agt ⟨[_], ⟨rfl, trivial⟩, ?_, rfl⟩
   refine bc ?_
   first | (simp_all [Tac.rest2, arrOp]; done) | (simp_all [Tac.rest2, arrOp]; omega)
  refine aQ tok 7 rfl ?_;refine an ?_;refine agt ⟨[_], ⟨rfl, trivial⟩, ?_, rfl⟩
  refine bc ?_
  first | (simp_all [Tac.rest2, arrOp]; done) | (simp_all [Tac.rest2, arrOp]; omega)
 refine acf ?_;refine asq ?_;refine asr ?_;refine aQ tok 2 rfl ?_;refine an ?_;refine asp 77 (fun hb20 => ?_) fun hb20 => ?_
 ·
  refine act ?_;refine agk ?_;refine act ?_;refine asr ?_;refine aQ tok 4 rfl ?_;refine aop 83 (fun hb21 => ?_) fun hb21 => ?_
  ·
   refine aQ tok 5 rfl ?_;refine aop 88 (fun hb22 => ?_) fun hb22 => ?_
   ·
    refine aQ tok 5 rfl ?_;refine aop 93 (fun hb23 => ?_) fun hb23 => ?_
    ·
     refine aQ tok 10 rfl ?_;refine an ?_;refine agt ⟨[_], ⟨rfl, trivial⟩, ?_, rfl⟩
     refine bc ?_
     rcases Decidable.em (1 ≤ t.size ∧ t.size ≤ 4096) with hsz | hsz
     · try rw [wrap_i64 (x := words - t.size) (by omega) (by omega)]
       first | (simp_all [Tac.rest2, arrOp]; done) | (simp_all [Tac.rest2, arrOp]; omega)
     · first | (simp_all [Tac.rest2, arrOp]; done) | (simp_all [Tac.rest2, arrOp]; omega)
    refine aQ tok 10 rfl ?_;refine an ?_;refine agt ⟨[_], ⟨rfl, trivial⟩, ?_, rfl⟩
    refine bc ?_
    rcases Decidable.em (1 ≤ t.size ∧ t.size ≤ 4096) with hsz | hsz
    · try rw [wrap_i64 (x := words - t.size) (by omega) (by omega)]
      first | (simp_all [Tac.rest2, arrOp]; done) | (simp_all [Tac.rest2, arrOp]; omega)
    · first | (simp_all [Tac.rest2, arrOp]; done) | (simp_all [Tac.rest2, arrOp]; omega)
   refine aQ tok 15 rfl ?_;refine an ?_;refine agt ⟨[_], ⟨rfl, trivial⟩, ?_, rfl⟩
   refine bc ?_
   rcases Decidable.em (1 ≤ t.size ∧ t.size ≤ 4096) with hsz | hsz
   · try rw [wrap_i64 (x := words - t.size) (by omega) (by omega)]
     first | (simp_all [Tac.rest2, arrOp]; done) | (simp_all [Tac.rest2, arrOp]; omega)
   · first | (simp_all [Tac.rest2, arrOp]; done) | (simp_all [Tac.rest2, arrOp]; omega)
  refine aQ tok 20 rfl ?_;refine an ?_;refine agt ⟨[_], ⟨rfl, trivial⟩, ?_, rfl⟩
  refine bc ?_
  rcases Decidable.em (1 ≤ t.size ∧ t.size ≤ 4096) with hsz | hsz
  · try rw [wrap_i64 (x := words - t.size) (by omega) (by omega)]
    first | (simp_all [Tac.rest2, arrOp]; done) | (simp_all [Tac.rest2, arrOp]; omega)
  · first | (simp_all [Tac.rest2, arrOp]; done) | (simp_all [Tac.rest2, arrOp]; omega)
 refine acf ?_;refine agr ?_;refine aQ tok 2 rfl ?_;refine an ?_;refine asp 77 (fun hb24 => ?_) fun hb24 => ?_
 ·
  refine act ?_;refine asr ?_;refine aQ tok 4 rfl ?_;refine aop 83 (fun hb25 => ?_) fun hb25 => ?_
  ·
   refine aQ tok 5 rfl ?_;refine aop 88 (fun hb26 => ?_) fun hb26 => ?_
   ·
    refine aQ tok 5 rfl ?_;refine aop 93 (fun hb27 => ?_) fun hb27 => ?_
    ·
     refine aQ tok 10 rfl ?_;refine an ?_;refine agt ⟨[_], ⟨rfl, trivial⟩, ?_, rfl⟩
     refine bc ?_
     rcases Decidable.em (1 ≤ t.size ∧ t.size ≤ 4096) with hsz | hsz
     · try rw [wrap_i64 (x := words - t.size) (by omega) (by omega)]
       first | (simp_all [Tac.rest2, arrOp]; done) | (simp_all [Tac.rest2, arrOp]; omega)
     · first | (simp_all [Tac.rest2, arrOp]; done) | (simp_all [Tac.rest2, arrOp]; omega)
    refine aQ tok 10 rfl ?_;refine an ?_;refine agt ⟨[_], ⟨rfl, trivial⟩, ?_, rfl⟩
    refine bc ?_
    rcases Decidable.em (1 ≤ t.size ∧ t.size ≤ 4096) with hsz | hsz
    · try rw [wrap_i64 (x := words - t.size) (by omega) (by omega)]
      first | (simp_all [Tac.rest2, arrOp]; done) | (simp_all [Tac.rest2, arrOp]; omega)
    · first | (simp_all [Tac.rest2, arrOp]; done) | (simp_all [Tac.rest2, arrOp]; omega)
   refine aQ tok 15 rfl ?_;refine an ?_;refine agt ⟨[_], ⟨rfl, trivial⟩, ?_, rfl⟩
   refine bc ?_
   rcases Decidable.em (1 ≤ t.size ∧ t.size ≤ 4096) with hsz | hsz
   · try rw [wrap_i64 (x := words - t.size) (by omega) (by omega)]
     first | (simp_all [Tac.rest2, arrOp]; done) | (simp_all [Tac.rest2, arrOp]; omega)
   · first | (simp_all [Tac.rest2, arrOp]; done) | (simp_all [Tac.rest2, arrOp]; omega)
  refine aQ tok 20 rfl ?_;refine an ?_;refine agt ⟨[_], ⟨rfl, trivial⟩, ?_, rfl⟩
  refine bc ?_
  rcases Decidable.em (1 ≤ t.size ∧ t.size ≤ 4096) with hsz | hsz
  · try rw [wrap_i64 (x := words - t.size) (by omega) (by omega)]
    first | (simp_all [Tac.rest2, arrOp]; done) | (simp_all [Tac.rest2, arrOp]; omega)
  · first | (simp_all [Tac.rest2, arrOp]; done) | (simp_all [Tac.rest2, arrOp]; omega)
 refine acf ?_;refine asr ?_;refine aQ tok 2 rfl ?_;refine an ?_;refine asp 103 (fun hb28 => ?_) fun hb28 => ?_
 ·
  refine act ?_;refine asr ?_;refine aQ tok 4 rfl ?_;refine aop 108 (fun hb29 => ?_) fun hb29 => ?_
  ·
   refine aQ tok 7 rfl ?_;refine an ?_;refine agt ⟨[_], ⟨rfl, trivial⟩, ?_, rfl⟩
   refine bc ?_
   first | (simp_all [Tac.rest2, arrOp]; done) | (simp_all [Tac.rest2, arrOp]; omega)
  refine aQ tok 7 rfl ?_;refine an ?_;refine agt ⟨[_], ⟨rfl, trivial⟩, ?_, rfl⟩
  refine bc ?_
  first | (simp_all [Tac.rest2, arrOp]; done) | (simp_all [Tac.rest2, arrOp]; omega)
 refine acf ?_;refine agk ?_;refine asr ?_;refine aa 4 ?_;refine an ?_;refine agt ⟨[_], ⟨rfl, trivial⟩, ?_, rfl⟩
 refine bc ?_
 first | (simp_all [Tac.rest2, arrOp]; done) | (simp_all [Tac.rest2, arrOp]; omega)
theorem bins_ok (words f regs blocks : Int) (t : Tac) (hw : 0 ≤ words) (hw2 : words ≤ 1048576) : APure Tryz.prog 45 [(.agg [.int .i64 words, .int .i64 f, .int .i64 regs, .int .i64 blocks]), .agg t.cells] (fun q => q = .bool (t.fits f regs words)) := by
 rw [← ins2_fits]
 refine APure.of_body (n := 58) tok Tryz.func45 rfl rfl ?_;refine asr ?_;refine ax 2 (obx 4 0) ?_;refine ax 3 (obx 8 1) ?_;refine aa 4 ?_;refine an ?_;refine asq ?_;refine asr ?_;refine aQ tok 2 rfl ?_;refine ax 7 (opu Tryz.func64 (bsetsOp_ok _)) ?_;refine an ?_;refine AGo.join (γ := Unit) (fun _u => ⟨58, (eput (eput eNew 2 (.ptr 0 1 0 0)) 3 (.ptr 1 1 0 0)), (hput (hput (hFrom 2) 0 (.row false 4 [[.int .i64 words, .int .i64 f, .int .i64 regs, .int .i64 blocks]])) 1 (.row false 8 [t.cells]))⟩) (fun _u => (bif setsOp t.op then within t.d regs else t.d == 0) = true) ?_ ?_
 ·
  refine asp 7 (fun hb1 => ?_) fun hb1 => ?_
  ·
   refine act ?_;refine asr ?_;refine aQ tok 3 rfl ?_;refine ax 11 (opu Tryz.func63 (breg_ok _ _ _ _ _)) ?_;refine aq 12 (q_not rfl rfl) ?_;refine an ?_;refine asp 12 (fun hb2 => ?_) fun hb2 => ?_
   ·
    refine act ?_;refine asr ?_;refine aa 4 ?_;refine an ?_;refine agt ⟨[_], ⟨rfl, trivial⟩, ?_, rfl⟩
    refine bc ?_
    simp_all [Tac.ins2]
   refine acf ?_;refine agk ?_;exact ⟨(), Sub.mk' z29q z9q, (by simp_all)⟩
  refine acf ?_;refine asr ?_;refine aQ tok 3 rfl ?_;refine an ?_;refine asp 15 (fun hb3 => ?_) fun hb3 => ?_
  ·
   refine act ?_;refine asr ?_;refine aa 4 ?_;refine an ?_;refine agt ⟨[_], ⟨rfl, trivial⟩, ?_, rfl⟩
   refine bc ?_
   simp_all [Tac.ins2]
  refine acf ?_;refine agk ?_;exact ⟨(), Sub.mk' z29q z9q, (by simp_all)⟩
 intro _u hq1
 refine asq ?_;refine asr ?_;refine aQ tok 2 rfl ?_;refine ax 18 (opu Tryz.func65 (breads_ok _)) ?_;refine an ?_;refine AGo.join (γ := Unit) (fun _u => ⟨58, (eput (eput eNew 2 (.ptr 0 1 0 0)) 3 (.ptr 1 1 0 0)), (hput (hput (hFrom 2) 0 (.row false 4 [[.int .i64 words, .int .i64 f, .int .i64 regs, .int .i64 blocks]])) 1 (.row false 8 [t.cells]))⟩) (fun _u => (bif use1 t.op then within t.a regs && t.b == 0 else bif use2 t.op then within t.a regs && within t.b regs else t.a == 0 && t.b == 0) = true) ?_ ?_
 ·
  refine AGo.block ?_;refine asr ?_;refine aQ tok 2 rfl ?_;refine an ?_;refine asp 19 (fun hb4 => ?_) fun hb4 => ?_
  ·
   refine act ?_
   have hrd : readsN t.op = 0 := by simpa using hb4
   have hu : use1 t.op = false ∧ use2 t.op = false := reads0 hrd
   refine asr ?_;refine aQ tok 4 rfl ?_;refine aop 24 (fun hb5 => ?_) fun hb5 => ?_
   ·
    refine aQ tok 4 rfl ?_;refine an ?_;refine act ?_;refine asr ?_;refine aa 4 ?_;refine an ?_;refine agt ⟨[_], ⟨rfl, trivial⟩, ?_, rfl⟩
    refine bc ?_
    simp_all [Tac.ins2]
   refine aQ tok 4 rfl ?_;refine an ?_;refine asp 28 (fun hb6 => ?_) fun hb6 => ?_
   ·
    refine act ?_;refine asr ?_;refine aa 4 ?_;refine an ?_;refine agt ⟨[_], ⟨rfl, trivial⟩, ?_, rfl⟩
    refine bc ?_
    simp_all [Tac.ins2]
   refine acf ?_;refine agk ?_;exact ⟨(), Sub.mk' z29q z9q, (by first | (simp_all; done) | (exfalso; have := readsN_or t.op; simp_all))⟩
  refine acf ?_;refine asr ?_;refine aQ tok 2 rfl ?_;refine an ?_;refine asp 29 (fun hb7 => ?_) fun hb7 => ?_
  ·
   refine act ?_
   have hrd : readsN t.op = 1 := by simpa using hb7
   have hu : use1 t.op = true := reads1 hrd
   refine asr ?_;refine aQ tok 3 rfl ?_;refine ax 34 (opu Tryz.func63 (breg_ok _ _ _ _ _)) ?_;refine aQ tok 2 rfl ?_;refine aop 36 (fun hb8 => ?_) fun hb8 => ?_
   ·
    refine aQ tok 4 rfl ?_;refine an ?_;refine act ?_;refine asr ?_;refine aa 4 ?_;refine an ?_;refine agt ⟨[_], ⟨rfl, trivial⟩, ?_, rfl⟩
    refine bc ?_
    simp_all [Tac.ins2]
   refine aQ tok 4 rfl ?_;refine an ?_;refine asp 40 (fun hb9 => ?_) fun hb9 => ?_
   ·
    refine act ?_;refine asr ?_;refine aa 4 ?_;refine an ?_;refine agt ⟨[_], ⟨rfl, trivial⟩, ?_, rfl⟩
    refine bc ?_
    simp_all [Tac.ins2]
   refine acf ?_;refine agk ?_;exact ⟨(), Sub.mk' z29q z9q, (by first | (simp_all; done) | (exfalso; have := readsN_or t.op; simp_all))⟩
  refine acf ?_;refine asr ?_;refine aQ tok 2 rfl ?_;refine an ?_;refine asp 41 (fun hb10 => ?_) fun hb10 => ?_
  ·
   refine act ?_
   have hrd : readsN t.op = 2 := by simpa using hb10
   have hu : use1 t.op = false ∧ use2 t.op = true := reads2 hrd
   refine asr ?_;refine aQ tok 3 rfl ?_;refine ax 46 (opu Tryz.func63 (breg_ok _ _ _ _ _)) ?_;refine aQ tok 2 rfl ?_;refine aop 48 (fun hb11 => ?_) fun hb11 => ?_
   ·
    refine aQ tok 6 rfl ?_;refine an ?_;refine act ?_;refine asr ?_;refine aa 4 ?_;refine an ?_;refine agt ⟨[_], ⟨rfl, trivial⟩, ?_, rfl⟩
    refine bc ?_
    simp_all [Tac.ins2]
   refine aQ tok 3 rfl ?_;refine ax 52 (opu Tryz.func63 (breg_ok _ _ _ _ _)) ?_;refine aQ tok 2 rfl ?_;refine an ?_;refine asp 54 (fun hb12 => ?_) fun hb12 => ?_
   ·
    refine act ?_;refine asr ?_;refine aa 4 ?_;refine an ?_;refine agt ⟨[_], ⟨rfl, trivial⟩, ?_, rfl⟩
    refine bc ?_
    simp_all [Tac.ins2]
   refine acf ?_;refine agk ?_;exact ⟨(), Sub.mk' z29q z9q, (by first | (simp_all; done) | (exfalso; have := readsN_or t.op; simp_all))⟩
  refine acf ?_;refine agk ?_;exact ⟨(), Sub.mk' z29q z9q, (by first | (simp_all; done) | (exfalso; have := readsN_or t.op; simp_all))⟩
 intro _u hq2
 refine asr ?_;refine aQ tok 2 rfl ?_;refine ax 57 (opu Tryz.func66 (brest_ok _ _ _ _ _ (by assumption) (by assumption))) ?_;refine aa 4 ?_;refine an ?_;refine agt ⟨[_], ⟨rfl, trivial⟩, ?_, rfl⟩
 refine bc ?_
 simp [Tac.ins2, hq1, hq2]
theorem bright_ok (b : Blocks) : APure Tryz.prog 33 [.agg b.cells] (fun r => r = .bool b.right) := by
 refine APure.of_body (n := 80) tok Tryz.func33 rfl rfl ?_;refine asq ?_;refine AGo.slot 0 rfl (fun H ι v => rel_prog) (fun hfit => ?_)
 refine agr ?_;refine ax 1 (obx 2 0) ?_;refine aa 2 ?_;refine an ?_;refine asq ?_;refine asr ?_;refine aQ tok 4 rfl ?_;refine aop 13 (fun hb1 => ?_) fun hb1 => ?_
 ·
  refine aQ tok 10 rfl ?_;refine an ?_;refine act ?_;refine asr ?_;refine aa 2 ?_;refine an ?_;refine agt ⟨[_], ⟨rfl, trivial⟩, ?_, rfl⟩
  refine bc ?_;exact (right_bad (by simp only [decide_eq_false_iff_not, decide_eq_true_eq, List.length_map] at *; omega)).symm
 refine aQ tok 5 rfl ?_;refine aop 18 (fun hb2 => ?_) fun hb2 => ?_
 ·
  refine aQ tok 5 rfl ?_;refine an ?_;refine act ?_;refine asr ?_;refine aa 2 ?_;refine an ?_;refine agt ⟨[_], ⟨rfl, trivial⟩, ?_, rfl⟩
  refine bc ?_;exact (right_bad (by simp only [decide_eq_false_iff_not, decide_eq_true_eq, List.length_map] at *; omega)).symm
 refine aQ tok 5 rfl ?_;refine an ?_;refine asp 23 (fun hb3 => ?_) fun hb3 => ?_
 ·
  refine act ?_;refine asr ?_;refine aa 2 ?_;refine an ?_;refine agt ⟨[_], ⟨rfl, trivial⟩, ?_, rfl⟩
  refine bc ?_;exact (right_bad (by simp only [decide_eq_false_iff_not, decide_eq_true_eq, List.length_map] at *; omega)).symm
 refine acf ?_
 have h0 : 0 ≤ b.words ∧ b.words ≤ 1048576 ∧ b.funcs.length ≠ 0 := by simp only [decide_eq_false_iff_not, decide_eq_true_eq, List.length_map] at *; omega
 refine agk ?_;refine asq ?_;refine asr ?_;refine aQ tok 4 rfl ?_;refine an ?_;refine AGo.block ?_;refine AGo.loopD (γ := Nat) 1 (fun k => ⟨80, (eput (eput (eput (eput eNew 1 (.ptr 0 1 0 0)) 25 (funcsAV b.funcs)) 26 (.int .i64 (b.funcs.length : Int))) 27 (.int .i64 (k : Int))), (hput (hFrom 1) 0 (.row false 2 [b.cells]))⟩) (fun k => (b.funcs.zipIdx.take k).all (fun p => p.1.one (p.2 : Int) b.words) = true) (fun k => b.funcs.length - k) 0 (Sub.mk' z18q z9q) rfl (fun _ => hput_free (fun b hb => hFrom_free hb) rfl) ?_
 intro k hk
 refine asr ?_;refine aqb ?_;refine an ?_;refine asq ?_;refine asp 28 (fun hb4 => ?_) fun hb4 => ?_
 ·
  refine act ?_
  have hkl : k < b.funcs.length := by simpa using hb4
  obtain ⟨f, hf⟩ := get_of_lt hkl
  refine agk ?_;refine asq ?_;refine AGo.block ?_;refine asr ?_;refine am 29 ?_;refine aq 30 (q_index_lst tok rfl rfl rfl rfl rfl rfl (Int.natCast_nonneg _) (idx_map (by assumption)) rfl) ?_;refine al 31 tok ?_;refine ax 4 (oal tok 1) ?_;refine aa 3 ?_;refine AOps.w rfl rfl (o_store tok rfl rfl rfl rfl rfl rfl rfl rfl rfl (by decide) rfl z33q) ?_;refine an ?_;refine asq ?_;refine asq ?_;refine AGo.slot 31 rfl (fun H ι v => rel_bfunc) (fun hfit2 => ?_)
  refine agr ?_;refine aQ tok 4 rfl ?_;refine aop 35 (fun hb5 => ?_) fun hb5 => ?_
  ·
   refine aQ tok 10 rfl ?_;refine an ?_;refine act ?_;refine asr ?_;refine aa 2 ?_;refine an ?_;refine agt ⟨[_], ⟨rfl, trivial⟩, ?_, rfl⟩
   refine bc ?_
   rw [right_all h0.1 h0.2.1 h0.2.2, all_bad (zipIdx_get hf) z22q]
  refine aQ tok 5 rfl ?_;refine aop 40 (fun hb6 => ?_) fun hb6 => ?_
  ·
   refine aQ tok 5 rfl ?_;refine an ?_;refine act ?_;refine asr ?_;refine aa 2 ?_;refine an ?_;refine agt ⟨[_], ⟨rfl, trivial⟩, ?_, rfl⟩
   refine bc ?_
   rw [right_all h0.1 h0.2.1 h0.2.2, all_bad (zipIdx_get hf) z22q]
  refine aQ tok 5 rfl ?_;refine an ?_;refine asp 45 (fun hb7 => ?_) fun hb7 => ?_
  ·
   refine act ?_;refine asr ?_;refine aa 2 ?_;refine an ?_;refine agt ⟨[_], ⟨rfl, trivial⟩, ?_, rfl⟩
   refine bc ?_
   rw [right_all h0.1 h0.2.1 h0.2.2, all_bad (zipIdx_get hf) z22q]
  refine acf ?_
  have hf0 : 0 ≤ f.regs ∧ f.regs ≤ 4000 ∧ f.blocks.length ≠ 0 := by simp only [decide_eq_false_iff_not, decide_eq_true_eq, List.length_map] at *; omega
  refine agk ?_;refine asr ?_;refine aQ tok 8 rfl ?_;refine aq 54 (q_build tok rfl rfl rfl rfl rfl (by decide) rfl rfl rfl) ?_;refine ax 5 (oal tok 2) ?_;refine AOps.w rfl rfl (o_store tok rfl rfl rfl rfl rfl rfl rfl rfl rfl (by decide) rfl z33q) ?_;refine an ?_;refine asr ?_;refine aQ tok 4 rfl ?_;refine an ?_;refine AGo.block ?_;refine AGo.loopD (γ := Nat) 3 (fun j => ⟨80, (eput (eput (eput (eput (eput (eput (eput (eput (eput eNew 1 (.ptr 0 1 0 0)) 25 (funcsAV b.funcs)) 26 (.int .i64 (b.funcs.length : Int))) 27 (.int .i64 (k : Int))) 4 (.ptr 1 1 0 0)) 5 (.ptr 2 1 0 0)) 56 (blocksAV f.blocks)) 57 (.int .i64 (f.blocks.length : Int))) 58 (.int .i64 (j : Int))), (hput (hput (hput (hFrom 3) 0 (.row false 2 [b.cells])) 1 (.row false 2 [f.cells])) 2 (.row false 4 [[.int .i64 b.words, .int .i64 (k : Int), .int .i64 f.regs, .int .i64 (f.blocks.length : Int)]]))⟩) (fun j => (f.blocks.take j).all (fun x => x.ok f.blocks.length f.regs (k : Int) b.words) = true) (fun j => f.blocks.length - j) 0 (Sub.mk' z18q (by repeat (first | exact HSub.refl _ | exact HSub.none _ | exact HSub.from_new _ | exact HSub.from_from z37q | refine HSub.put ?_ (by first | rfl | exact congrArg (fun (n : Nat) => some (AObj.row false 4 [[.int .i64 b.words, .int .i64 (k : Int), .int .i64 f.regs, .int .i64 (n : Int)]])) (List.length_map ..)) | refine HSub.from_put ?_ z37q | refine HSub.from_rm ?_ (by decide)))) rfl (fun _ => hput_free (hput_free (hput_free (fun b hb => hFrom_free hb) rfl) rfl) rfl) ?_
  intro j hj
  refine asr ?_;refine aqb ?_;refine an ?_;refine asq ?_;refine asp 59 (fun hb8 => ?_) fun hb8 => ?_
  ·
   refine act ?_
   have hjl : j < f.blocks.length := by simpa using hb8
   obtain ⟨x, hx⟩ := get_of_lt hjl
   refine agk ?_;refine asq ?_;refine AGo.block ?_;refine asr ?_;refine aq 60 (q_index_lst tok rfl rfl rfl rfl rfl rfl (Int.natCast_nonneg _) (idx_map (by assumption)) rfl) ?_;refine al 61 tok ?_;refine ax 7 (oal tok 3) ?_;refine AOps.w rfl rfl (o_store tok rfl rfl rfl rfl rfl rfl rfl rfl rfl (by decide) rfl z33q) ?_;refine an ?_;refine asq ?_;refine asr ?_;refine aQ tok 2 rfl ?_;refine ax 64 (opu Tryz.func44 (bend_ok _ _ _ _ x)) ?_;refine aq 65 (q_not rfl rfl) ?_;refine an ?_;refine asp 65 (fun hb9 => ?_) fun hb9 => ?_
   ·
    refine act ?_
    have hends : x.ends f.blocks.length f.regs = false := by simpa using hb9
    refine asr ?_;refine aa 2 ?_;refine an ?_;refine agt ⟨[_], ⟨rfl, trivial⟩, ?_, rfl⟩
    refine bc ?_
    rw [right_all h0.1 h0.2.1 h0.2.2, all_bad (zipIdx_get hf) (by show f.one _ _ = false; rw [one_all hf0.1 hf0.2.1 hf0.2.2, all_bad hx (by simp [Block.ok, hends])])]
   refine acf ?_
   have hends : x.ends f.blocks.length f.regs = true := by simpa using hb9
   refine agk ?_;refine asr ?_;refine aQ tok 4 rfl ?_;refine an ?_;refine AGo.block ?_;refine AGo.loopD (γ := Nat) 4 (fun i => ⟨80, (eput (eput (eput (eput (eput (eput (eput (eput (eput (eput (eput (eput (eput eNew 1 (.ptr 0 1 0 0)) 25 (funcsAV b.funcs)) 26 (.int .i64 (b.funcs.length : Int))) 27 (.int .i64 (k : Int))) 4 (.ptr 1 1 0 0)) 5 (.ptr 2 1 0 0)) 56 (blocksAV f.blocks)) 57 (.int .i64 (f.blocks.length : Int))) 58 (.int .i64 (j : Int))) 7 (.ptr 3 1 0 0)) 67 (insAV x.ins)) 68 (.int .i64 (x.ins.length : Int))) 69 (.int .i64 (i : Int))), (hput (hput (hput (hput (hFrom 4) 0 (.row false 2 [b.cells])) 1 (.row false 2 [f.cells])) 2 (.row false 4 [[.int .i64 b.words, .int .i64 (k : Int), .int .i64 f.regs, .int .i64 (f.blocks.length : Int)]])) 3 (.row false 5 [x.cells]))⟩) (fun i => (x.ins.take i).all (fun t => t.fits (k : Int) f.regs b.words) = true) (fun i => x.ins.length - i) 0 (Sub.mk' z18q z9q) rfl (fun _ => hput_free (hput_free (hput_free (hput_free (fun b hb => hFrom_free hb) rfl) rfl) rfl) rfl) ?_
   intro i hi
   refine asr ?_;refine aqb ?_;refine an ?_;refine asq ?_;refine asp 70 (fun hb10 => ?_) fun hb10 => ?_
   ·
    refine act ?_
    have hil : i < x.ins.length := by simpa using hb10
    obtain ⟨u, hu⟩ := get_of_lt hil
    refine agk ?_;refine asq ?_;refine AGo.block ?_;refine asr ?_;refine aq 71 (q_index_lst tok rfl rfl rfl rfl rfl rfl (Int.natCast_nonneg _) (idx_map (by assumption)) rfl) ?_;refine al 72 tok ?_;refine ax 9 (oal tok 4) ?_;refine AOps.w rfl rfl (o_store tok rfl rfl rfl rfl rfl rfl rfl rfl rfl (by decide) rfl z33q) ?_;refine an ?_;refine asr ?_;refine aQ tok 2 rfl ?_;refine ax 75 (opu Tryz.func45 (bins_ok _ _ _ _ u h0.1 h0.2.1)) ?_;refine aq 76 (q_not rfl rfl) ?_;refine an ?_;refine asp 76 (fun hb11 => ?_) fun hb11 => ?_
    ·
     refine act ?_
     have hbw := hb11
     refine asr ?_;refine aa 2 ?_;refine an ?_;refine agt ⟨[_], ⟨rfl, trivial⟩, ?_, rfl⟩
     refine bc ?_
     rw [right_all h0.1 h0.2.1 h0.2.2, all_bad (zipIdx_get hf) (by show f.one _ _ = false; rw [one_all hf0.1 hf0.2.1 hf0.2.2, all_bad hx (by simp only [Block.ok, all_bad (p := fun t => Tac.fits t (k : Int) f.regs b.words) hu (by simpa using hbw), Bool.and_false])])]
    refine acf ?_
    have hbw := hb11
    refine agk ?_;refine agr ?_;refine aq 77 (q_inc rfl rfl hil (hfit2.2 x (List.mem_of_getElem? hx))) ?_;refine am 69 ?_;refine an ?_;exact ⟨i+1, Drop.mk' z20q z14q, all_succ hu hi (by simpa using hbw), by omega⟩
   refine acf ?_
   have hins := all_end hi (by simpa using hb10)
   refine AGo.exit ?_;refine agr ?_;refine aq 78 (q_inc rfl rfl hjl hfit2.1) ?_;refine am 58 ?_;refine an ?_;exact ⟨j+1, Drop.mk' z20q z14q, all_succ hx hj (by simp [Block.ok, hends, hins]), by omega⟩
  refine acf ?_
  have hall := all_end hj (by simpa using hb8)
  refine AGo.exit ?_;refine agr ?_;refine aq 79 (q_inc rfl rfl hkl hfit.1) ?_;refine am 27 ?_;refine an ?_;exact ⟨k+1, Drop.mk' z20q z14q, all_succ (zipIdx_get hf) hk (by show f.one _ _ = true; rw [one_all hf0.1 hf0.2.1 hf0.2.2, hall]), by omega⟩
 refine acf ?_
 have hall := all_end hk (by rw [List.length_zipIdx]; simpa using hb4)
 refine AGo.exit ?_;refine asr ?_;refine aa 2 ?_;refine an ?_;refine agt ⟨[_], ⟨rfl, trivial⟩, ?_, rfl⟩
 refine bc ?_
 rw [right_all h0.1 h0.2.1 h0.2.2, hall]
theorem check35_ok (a b : Blocks) (ls : List (List OPass)) (ha : a.funcs.length ≤ 1048576) (hP : a.right = true → b.right = true → ∀ f ∈ a.funcs, ∀ g ∈ b.funcs, ∀ l ∈ ls, APure Tryz.prog 34 [.agg f.cells, .agg g.cells, passesAV l] (fun r => r = .bool (leadsL f g l))) : APure Tryz.prog 18 [.agg a.cells, .agg b.cells, listAV ls] (fun r => r = .bool (ocheck a b ls)) := by
 refine APure.of_body (n := 60) tok Tryz.func18 rfl rfl ?_;refine asr ?_;refine ax 3 (obx 2 0) ?_;refine ax 4 (obx 2 1) ?_;refine aa 6 ?_;refine an ?_;refine asq ?_;refine asr ?_;refine al 9 tok ?_;refine ax 10 (opu Tryz.func33 (bright_ok _)) ?_;refine aQ tok 2 rfl ?_;refine aop 12 (fun hb1 => ?_) fun hb1 => ?_
 ·
  refine aQ tok 11 rfl ?_;refine an ?_;refine act ?_;refine asr ?_;refine aa 6 ?_;refine an ?_;refine agt ⟨[_], ⟨rfl, trivial⟩, ?_, rfl⟩
  refine bc ?_
  simp_all [ocheck]
 refine al 13 tok ?_;refine ax 14 (opu Tryz.func33 (bright_ok _)) ?_;refine aQ tok 3 rfl ?_;refine aop 17 (fun hb2 => ?_) fun hb2 => ?_
 ·
  refine aQ tok 6 rfl ?_;refine an ?_;refine act ?_;refine asr ?_;refine aa 6 ?_;refine an ?_;refine agt ⟨[_], ⟨rfl, trivial⟩, ?_, rfl⟩
  refine bc ?_
  simp_all [ocheck]
 refine aQ tok 6 rfl ?_;refine an ?_;refine asp 23 (fun hb3 => ?_) fun hb3 => ?_
 ·
  refine act ?_;refine asr ?_;refine aa 6 ?_;refine an ?_;refine agt ⟨[_], ⟨rfl, trivial⟩, ?_, rfl⟩
  refine bc ?_
  simp_all [ocheck]
 refine acf ?_
 have hr1 : a.right = true := by simpa using hb1
 have hr2 : b.right = true := by simpa using hb2
 have hw : a.words = b.words := by have h := hb3; simp at h; omega
 refine agk ?_;refine asq ?_;refine asr ?_;refine aQ tok 8 rfl ?_;refine aop 31 (fun hb4 => ?_) fun hb4 => ?_
 ·
  refine aQ tok 7 rfl ?_;refine an ?_;refine act ?_;refine asr ?_;refine aa 6 ?_;refine an ?_;refine agt ⟨[_], ⟨rfl, trivial⟩, ?_, rfl⟩
  refine bc ?_
  simp_all [ocheck]; try omega
 refine aQ tok 7 rfl ?_;refine an ?_;refine asp 38 (fun hb5 => ?_) fun hb5 => ?_
 ·
  refine act ?_;refine asr ?_;refine aa 6 ?_;refine an ?_;refine agt ⟨[_], ⟨rfl, trivial⟩, ?_, rfl⟩
  refine bc ?_
  simp_all [ocheck]; try omega
 refine acf ?_
 have hn1 : a.funcs.length = b.funcs.length := by have h := hb4; simp at h; omega
 have hn2 : ls.length = a.funcs.length := by have h := hb5; simp at h; omega
 refine agk ?_;refine asq ?_;refine asr ?_;refine aQ tok 4 rfl ?_;refine an ?_;refine AGo.block ?_;refine AGo.loopD (γ := Nat) 2 (fun k => ⟨60, (eput (eput (eput (eput (eput (eput eNew 2 (listAV ls)) 3 (.ptr 0 1 0 0)) 4 (.ptr 1 1 0 0)) 40 (funcsAV a.funcs)) 41 (.int .i64 (a.funcs.length : Int))) 42 (.int .i64 (k : Int))), (hput (hput (hFrom 2) 0 (.row false 2 [a.cells])) 1 (.row false 2 [b.cells]))⟩) (fun k => ledTo a.funcs b.funcs ls k) (fun k => a.funcs.length - k) 0 (Sub.mk' z18q z9q) (fun i h => absurd h (Nat.not_lt_zero i)) (fun _ => hput_free (hput_free (fun b hb => hFrom_free hb) rfl) rfl) ?_
 intro k hF
 refine asr ?_;refine aqb ?_;refine an ?_;refine asq ?_;refine asp 43 (fun hb6 => ?_) fun hb6 => ?_
 ·
  refine act ?_
  have hkl : k < a.funcs.length := by have h := hb6; simp at h; omega
  obtain ⟨f, hf⟩ := get_of_lt hkl
  obtain ⟨g, hg⟩ := get_of_lt (l := b.funcs) (k := k) (by omega)
  obtain ⟨l, hl⟩ := get_of_lt (l := ls) (k := k) (by omega)
  refine agk ?_;refine asq ?_;refine AGo.block ?_;refine asr ?_;refine am 44 ?_;refine aq 45 (qil tok (idx_map hf)) ?_;refine al 46 tok ?_;refine ax 8 (oal tok 2) ?_;refine aa 7 ?_;refine AOps.w rfl rfl (o_store tok rfl rfl rfl rfl rfl rfl rfl rfl rfl (by decide) rfl z33q) ?_;refine an ?_;refine asq ?_;refine AGo.draw mix ?_;refine dQ tok 4 rfl ?_;refine dq 51 (qil tok (idx_map hg)) ?_;refine dQ tok 3 rfl ?_;refine dq 55 (qil tok (idx_map hl)) ?_;refine dl 56 tok ?_;refine dx 57 (opu Tryz.func34 (hP hr1 hr2 f (List.mem_of_getElem? hf) g (List.mem_of_getElem? hg) l (List.mem_of_getElem? hl))) ?_;refine dq 58 (q_not rfl rfl) ?_;refine DOps.nil (by kernel_rfl) ?_;refine asp 58 (fun hb7 => ?_) fun hb7 => ?_
  ·
   refine act ?_
   have hno : leadsL f g l = false := by simpa using hb7
   refine asr ?_;refine aa 6 ?_;refine an ?_;refine agt ⟨[_], ⟨rfl, trivial⟩, ?_, rfl⟩
   refine bc ?_
   simp [ocheck, leadsAll_no hf hg hl hno]
  refine acf ?_
  have hyes : leadsL f g l = true := by simpa using hb7
  refine agk ?_;refine agr ?_;refine aq 59 (q_inc rfl rfl hkl (by simp only [maxLen]; omega)) ?_;refine am 42 ?_;refine an ?_;exact ⟨k+1, Drop.mk' z20q z14q, (ledTo_succ hF hf hg hl hyes), by omega⟩
 refine acf ?_
 have hge : a.funcs.length ≤ k := by have h := hb6; simp at h; omega
 refine AGo.exit ?_;refine asr ?_;refine aa 6 ?_;refine an ?_;refine agt ⟨[_], ⟨rfl, trivial⟩, ?_, rfl⟩
 refine bc ?_;exact (ocheck_of hr1 hr2 hw hn1 hn2 (ledTo_end hF hge)).symm
theorem sameBlock_ok (x y : Block) (hx : x.ins.length ≤ 1000000000000000) : APure Tryz.prog 67 [.agg x.cells, .agg y.cells] (fun r => r = .bool (decide (x = y))) := by
 refine APure.of_body (n := 58) tok Tryz.func67 rfl rfl ?_;refine asr ?_;refine ax 2 (obx 5 0) ?_;refine ax 3 (obx 5 1) ?_;refine aa 4 ?_;refine an ?_;refine asq ?_;refine asr ?_;refine aQ tok 6 rfl ?_;refine aop 12 (fun hb1 => ?_) fun hb1 => ?_
 ·
  refine aQ tok 29 rfl ?_;refine an ?_;refine act ?_;refine asr ?_;refine aa 4 ?_;refine an ?_;refine agt ⟨[_], ⟨rfl, trivial⟩, ?_, rfl⟩
  show AV.bool false = _
  rw [decide_eq_false (by rintro rfl; simp_all)]
 refine aQ tok 7 rfl ?_;refine aop 19 (fun hb2 => ?_) fun hb2 => ?_
 ·
  refine aQ tok 22 rfl ?_;refine an ?_;refine act ?_;refine asr ?_;refine aa 4 ?_;refine an ?_;refine agt ⟨[_], ⟨rfl, trivial⟩, ?_, rfl⟩
  show AV.bool false = _
  rw [decide_eq_false (by rintro rfl; simp_all)]
 refine aQ tok 7 rfl ?_;refine aop 26 (fun hb3 => ?_) fun hb3 => ?_
 ·
  refine aQ tok 15 rfl ?_;refine an ?_;refine act ?_;refine asr ?_;refine aa 4 ?_;refine an ?_;refine agt ⟨[_], ⟨rfl, trivial⟩, ?_, rfl⟩
  show AV.bool false = _
  rw [decide_eq_false (by rintro rfl; simp_all)]
 refine aQ tok 7 rfl ?_;refine aop 33 (fun hb4 => ?_) fun hb4 => ?_
 ·
  refine aQ tok 8 rfl ?_;refine an ?_;refine act ?_;refine asr ?_;refine aa 4 ?_;refine an ?_;refine agt ⟨[_], ⟨rfl, trivial⟩, ?_, rfl⟩
  show AV.bool false = _
  rw [decide_eq_false (by rintro rfl; simp_all)]
 refine aQ tok 8 rfl ?_;refine an ?_;refine asp 41 (fun hb5 => ?_) fun hb5 => ?_
 ·
  refine act ?_;refine asr ?_;refine aa 4 ?_;refine an ?_;refine agt ⟨[_], ⟨rfl, trivial⟩, ?_, rfl⟩
  show AV.bool false = _
  rw [decide_eq_false (by rintro rfl; simp_all)]
 refine acf ?_
 have h0 : x.fin = y.fin ∧ x.v = y.v ∧ x.to = y.to ∧ x.els = y.els ∧ x.ins.length = y.ins.length := by simp_all <;> omega
 refine agk ?_;refine asq ?_;refine asr ?_;refine aQ tok 4 rfl ?_;refine an ?_;refine AGo.block ?_;refine AGo.loopD (γ := Nat) 2 (fun i => ⟨58, (eput (eput (eput (eput (eput eNew 2 (.ptr 0 1 0 0)) 3 (.ptr 1 1 0 0)) 43 (insAV x.ins)) 44 (.int .i64 (x.ins.length : Int))) 45 (.int .i64 (i : Int))), (hput (hput (hFrom 2) 0 (.row false 5 [x.cells])) 1 (.row false 5 [y.cells]))⟩) (fun i => x.ins.take i = y.ins.take i) (fun i => x.ins.length - i) 0 (Sub.mk' z18q z9q) rfl (fun _ => hput_free (hput_free (fun b hb => hFrom_free hb) rfl) rfl) ?_
 intro i ht
 refine asr ?_;refine aqb ?_;refine an ?_;refine asq ?_;refine asp 46 (fun hb6 => ?_) fun hb6 => ?_
 ·
  refine act ?_
  have hil : i < x.ins.length := by simpa using hb6
  obtain ⟨u, hu⟩ := get_of_lt hil
  obtain ⟨v, hv⟩ := get_of_lt (l := y.ins) (k := i) (by omega)
  refine agk ?_;refine asq ?_;refine AGo.block ?_;refine asr ?_;refine am 47 ?_;refine aq 48 (q_index_lst tok rfl rfl rfl rfl rfl rfl (Int.natCast_nonneg _) (idx_map (by assumption)) rfl) ?_;refine al 49 tok ?_;refine ax 6 (oal tok 2) ?_;refine aa 5 ?_;refine AOps.w rfl rfl (o_store tok rfl rfl rfl rfl rfl rfl rfl rfl rfl (by decide) rfl z33q) ?_;refine an ?_;refine asq ?_;refine AGo.draw mix ?_;refine dQ tok 4 rfl ?_;refine dq 54 (q_index_lst tok rfl rfl rfl rfl rfl rfl (Int.natCast_nonneg _) (idx_map (by assumption)) rfl) ?_;refine dl 55 tok ?_;refine dq 56 (q_eqStruct tok true rfl rfl rfl (by kernel_rfl) rfl rfl rfl rfl (Tac.eqCells u v)) ?_;refine DOps.nil (by kernel_rfl) ?_;refine asp 56 (fun hb7 => ?_) fun hb7 => ?_
  ·
   refine act ?_
   have huv : u ≠ v := by simpa using hb7
   refine asr ?_;refine aa 4 ?_;refine an ?_;refine agt ⟨[_], ⟨rfl, trivial⟩, ?_, rfl⟩
   show AV.bool false = _
   rw [decide_eq_false (by rintro rfl; rw [hu] at hv; cases hv; exact huv rfl)]
  refine acf ?_
  have huv : u = v := by simpa using hb7
  refine agk ?_;refine agr ?_;refine aq 57 (q_inc rfl rfl hil (by simp only [maxLen]; omega)) ?_;refine am 45 ?_;refine an ?_;exact ⟨i+1, Drop.mk' z20q z14q, (by rw [take_succ_eq hu, take_succ_eq hv, ht, huv]), by omega⟩
 refine acf ?_
 have hge : x.ins.length ≤ i := by simpa using hb6
 refine AGo.exit ?_;refine asr ?_;refine aa 4 ?_;refine an ?_;refine agt ⟨[_], ⟨rfl, trivial⟩, ?_, rfl⟩
 show AV.bool true = _
 rw [decide_eq_true (Block.ext5 h0.1 h0.2.1 h0.2.2.1 h0.2.2.2.1 (take_all ht hge (h0.2.2.2.2 ▸ hge)))]
theorem bsame_ok (a b : Blocks) (hl0 : a.funcs.length ≤ 1000000000000000) (hl1 : ∀ f ∈ a.funcs, f.blocks.length ≤ 1000000000000000 ∧ ∀ x ∈ f.blocks, x.ins.length ≤ 1000000000000000) : APure Tryz.prog 46 [.agg a.cells, .agg b.cells] (fun r => r = .bool (decide (a = b))) := by
 refine APure.of_body (n := 69) tok Tryz.func46 rfl rfl ?_;refine asr ?_;refine ax 2 (obx 2 0) ?_;refine ax 3 (obx 2 1) ?_;refine aa 4 ?_;refine an ?_;refine asq ?_;refine asr ?_;refine aQ tok 6 rfl ?_;refine aop 15 (fun hb1 => ?_) fun hb1 => ?_
 ·
  refine aQ tok 8 rfl ?_;refine an ?_;refine act ?_;refine asr ?_;refine aa 4 ?_;refine an ?_;refine agt ⟨[_], ⟨rfl, trivial⟩, ?_, rfl⟩
  show AV.bool false = _
  rw [decide_eq_false (by rintro rfl; simp_all)]
 refine aQ tok 8 rfl ?_;refine an ?_;refine asp 23 (fun hb2 => ?_) fun hb2 => ?_
 ·
  refine act ?_;refine asr ?_;refine aa 4 ?_;refine an ?_;refine agt ⟨[_], ⟨rfl, trivial⟩, ?_, rfl⟩
  show AV.bool false = _
  rw [decide_eq_false (by rintro rfl; simp_all)]
 refine acf ?_
 have h0 : a.words = b.words ∧ a.funcs.length = b.funcs.length := by simp_all <;> omega
 refine agk ?_;refine asq ?_;refine asr ?_;refine aQ tok 4 rfl ?_;refine an ?_;refine AGo.block ?_;refine AGo.loopD (γ := Nat) 2 (fun i => ⟨69, (eput (eput (eput (eput (eput eNew 2 (.ptr 0 1 0 0)) 3 (.ptr 1 1 0 0)) 25 (funcsAV a.funcs)) 26 (.int .i64 (a.funcs.length : Int))) 27 (.int .i64 (i : Int))), (hput (hput (hFrom 2) 0 (.row false 2 [a.cells])) 1 (.row false 2 [b.cells]))⟩) (fun i => a.funcs.take i = b.funcs.take i) (fun i => a.funcs.length - i) 0 (Sub.mk' z18q z9q) rfl (fun _ => hput_free (hput_free (fun b hb => hFrom_free hb) rfl) rfl) ?_
 intro i ht
 refine asr ?_;refine aqb ?_;refine an ?_;refine asq ?_;refine asp 28 (fun hb3 => ?_) fun hb3 => ?_
 ·
  refine act ?_
  have hil : i < a.funcs.length := by simpa using hb3
  obtain ⟨f, hf⟩ := get_of_lt hil
  obtain ⟨g, hg⟩ := get_of_lt (l := b.funcs) (k := i) (by omega)
  obtain ⟨hl2, hl3⟩ := hl1 f (List.mem_of_getElem? hf)
  refine agk ?_;refine asq ?_;refine AGo.block ?_;refine asr ?_;refine am 29 ?_;refine aq 30 (qil tok (idx_map hf)) ?_;refine al 31 tok ?_;refine ax 6 (oal tok 2) ?_;refine aa 5 ?_;refine AOps.w rfl rfl (o_store tok rfl rfl rfl rfl rfl rfl rfl rfl rfl (by decide) rfl z33q) ?_;refine an ?_;refine asr ?_;refine aQ tok 3 rfl ?_;refine aq 35 (qil tok (idx_map hg)) ?_;refine al 36 tok ?_;refine ax 7 (oal tok 3) ?_;refine AOps.w rfl rfl (o_store tok rfl rfl rfl rfl rfl rfl rfl rfl rfl (by decide) rfl z33q) ?_;refine an ?_;refine asq ?_;refine asr ?_;refine aQ tok 6 rfl ?_;refine aop 42 (fun hb4 => ?_) fun hb4 => ?_
  ·
   refine aQ tok 8 rfl ?_;refine an ?_;refine act ?_;refine asr ?_;refine aa 4 ?_;refine an ?_;refine agt ⟨[_], ⟨rfl, trivial⟩, ?_, rfl⟩
   show AV.bool false = _
   rw [decide_eq_false (by rintro rfl; rw [hf] at hg; cases hg; simp_all)]
  refine aQ tok 8 rfl ?_;refine an ?_;refine asp 50 (fun hb5 => ?_) fun hb5 => ?_
  ·
   refine act ?_;refine asr ?_;refine aa 4 ?_;refine an ?_;refine agt ⟨[_], ⟨rfl, trivial⟩, ?_, rfl⟩
   show AV.bool false = _
   rw [decide_eq_false (by rintro rfl; rw [hf] at hg; cases hg; simp_all)]
  refine acf ?_
  have h1 : f.regs = g.regs ∧ f.blocks.length = g.blocks.length := by simp_all <;> omega
  refine agk ?_;refine asr ?_;refine aQ tok 4 rfl ?_;refine an ?_;refine AGo.block ?_;refine AGo.loopD (γ := Nat) 4 (fun j => ⟨69, (eput (eput (eput (eput (eput (eput (eput (eput (eput (eput eNew 2 (.ptr 0 1 0 0)) 3 (.ptr 1 1 0 0)) 25 (funcsAV a.funcs)) 26 (.int .i64 (a.funcs.length : Int))) 27 (.int .i64 (i : Int))) 6 (.ptr 2 1 0 0)) 7 (.ptr 3 1 0 0)) 52 (blocksAV f.blocks)) 53 (.int .i64 (f.blocks.length : Int))) 54 (.int .i64 (j : Int))), (hput (hput (hput (hput (hFrom 4) 0 (.row false 2 [a.cells])) 1 (.row false 2 [b.cells])) 2 (.row false 2 [f.cells])) 3 (.row false 2 [g.cells]))⟩) (fun j => f.blocks.take j = g.blocks.take j) (fun j => f.blocks.length - j) 0 (Sub.mk' z18q z9q) rfl (fun _ => hput_free (hput_free (hput_free (hput_free (fun b hb => hFrom_free hb) rfl) rfl) rfl) rfl) ?_
  intro j hs
  refine asr ?_;refine aqb ?_;refine an ?_;refine asq ?_;refine asp 55 (fun hb6 => ?_) fun hb6 => ?_
  ·
   refine act ?_
   have hjl : j < f.blocks.length := by simpa using hb6
   obtain ⟨x, hx⟩ := get_of_lt hjl
   obtain ⟨y, hy⟩ := get_of_lt (l := g.blocks) (k := j) (by omega)
   refine agk ?_;refine asq ?_;refine AGo.block ?_;refine asr ?_;refine am 56 ?_;refine aq 57 (qil tok (idx_map hx)) ?_;refine al 58 tok ?_;refine ax 9 (oal tok 4) ?_;refine aa 8 ?_;refine AOps.w rfl rfl (o_store tok rfl rfl rfl rfl rfl rfl rfl rfl rfl (by decide) rfl z33q) ?_;refine an ?_;refine asq ?_;refine AGo.draw mix ?_;refine dQ tok 4 rfl ?_;refine dq 63 (qil tok (idx_map hy)) ?_;refine dl 64 tok ?_;refine dx 65 (opu Tryz.func67 (sameBlock_ok x y (by have := hl3 x (List.mem_of_getElem? hx); omega))) ?_;refine dq 66 (q_not rfl rfl) ?_;refine DOps.nil (by kernel_rfl) ?_;refine asp 66 (fun hb7 => ?_) fun hb7 => ?_
   ·
    refine act ?_
    have hxy : x ≠ y := by simpa using hb7
    refine asr ?_;refine aa 4 ?_;refine an ?_;refine agt ⟨[_], ⟨rfl, trivial⟩, ?_, rfl⟩
    show AV.bool false = _
    rw [decide_eq_false (by rintro rfl; rw [hf] at hg; cases hg; rw [hx] at hy; cases hy; exact hxy rfl)]
   refine acf ?_
   have hxy : x = y := by simpa using hb7
   refine agk ?_;refine agr ?_;refine aq 67 (q_inc rfl rfl hjl (by simp only [maxLen]; omega)) ?_;refine am 54 ?_;refine an ?_;exact ⟨j+1, Drop.mk' z20q z14q, (by rw [take_succ_eq hx, take_succ_eq hy, hs, hxy]), by omega⟩
  refine acf ?_
  have hge2 : f.blocks.length ≤ j := by simpa using hb6
  have hfg : f = g := BFunc.ext' h1.1 (take_all hs hge2 (h1.2 ▸ hge2))
  refine AGo.exit ?_;refine agr ?_;refine aq 68 (q_inc rfl rfl hil (by simp only [maxLen]; omega)) ?_;refine am 27 ?_;refine an ?_;exact ⟨i+1, Drop.mk' z20q z14q, (by rw [take_succ_eq hf, take_succ_eq hg, ht, hfg]), by omega⟩
 refine acf ?_
 have hge : a.funcs.length ≤ i := by simpa using hb3
 refine AGo.exit ?_;refine asr ?_;refine aa 4 ?_;refine an ?_;refine agt ⟨[_], ⟨rfl, trivial⟩, ?_, rfl⟩
 show AV.bool true = _
 rw [decide_eq_true (Blocks.ext' h0.1 (take_all ht hge (h0.2 ▸ hge)))]
theorem leads35_ok (f g : BFunc) (l : List OPass) (hl : l.length ≤ 1048576) (I : BFunc → Prop) (hI0 : I f) (hIb : ∀ f, I f → f.Lim) (hH : ∀ p ∈ l, I p.f ∧ ∀ f, I f → kind35 p.kind = true → HoldsOk p f) : APure Tryz.prog 34 [.agg f.cells, .agg g.cells, passesAV l] (fun r => r = .bool (leadsL f g l)) := by
 refine APure.of_body (n := 42) tok Tryz.func34 rfl rfl ?_;refine asr ?_;refine ax 3 (obx 2 0) ?_;refine ax 4 (obx 2 1) ?_;refine aa 6 ?_;refine an ?_;refine asq ?_;refine asr ?_;refine aQ tok 3 rfl ?_;refine an ?_;refine AGo.block ?_;refine AGo.loopD (γ := Nat) 2 (fun k => ⟨42, (eput (eput (eput (eput (eput eNew 3 (.ptr 0 1 0 0)) 4 (.ptr 1 1 0 0)) 11 (passesAV l)) 12 (.int .i64 (l.length : Int))) 13 (.int .i64 (k : Int))), (hput (hput (hFrom 2) 0 (.row false 2 [(atP f (l.take k)).cells])) 1 (.row false 2 [g.cells]))⟩) (fun k => I (atP f (l.take k)) ∧ leadsL f (atP f (l.take k)) (l.take k) = true) (fun k => l.length - k) 0 (Sub.mk' z18q z9q) ⟨hI0, decide_eq_true rfl⟩ (fun _ => hput_free (hput_free (fun b hb => hFrom_free hb) rfl) rfl) ?_
 intro k hF
 refine asr ?_;refine aqb ?_;refine an ?_;refine asq ?_;refine asp 14 (fun hb1 => ?_) fun hb1 => ?_
 ·
  refine act ?_
  have hkl : k < l.length := by have h := hb1; simp at h; omega
  obtain ⟨p, hp⟩ := get_of_lt hkl
  have hpm := List.mem_of_getElem? hp
  refine agk ?_;refine asq ?_;refine AGo.block ?_;refine asr ?_;refine aq 15 (qil tok (idx_map hp)) ?_;refine al 16 tok ?_;refine ax 8 (oal tok 2) ?_;refine AOps.w rfl rfl (o_store tok rfl rfl rfl rfl rfl rfl rfl rfl rfl (by decide) rfl z33q) ?_;refine an ?_;refine asr ?_;refine aQ tok 2 rfl ?_;refine ax 20 (opu Tryz.func31 (find_ok _)) ?_;refine aQ tok 5 rfl ?_;refine an ?_;refine asq ?_;refine asr ?_;refine aQ tok 3 rfl ?_;refine aop 25 (fun hb2 => ?_) fun hb2 => ?_
  ·
   refine aQ tok 6 rfl ?_;refine an ?_;refine act ?_
   have hno : p.holds (atP f (l.take k)) = false := by
     first
     | (simpa using hb2; done)
     | (exact holds_kind (by simpa using hb2))
   refine asr ?_;refine aa 6 ?_;refine an ?_;refine agt ⟨[_], ⟨rfl, trivial⟩, ?_, rfl⟩
   refine bc ?_;exact (leadsL_bad hp hF.2 hno).symm
  have hkd : kind35 p.kind = true := by simpa using hb2
  refine aQ tok 3 rfl ?_;refine ax 29 (o_holds hkd rfl rfl rfl ((hH p hpm).2 _ hF.1 hkd)) ?_;refine aQ tok 2 rfl ?_;refine an ?_;refine asp 31 (fun hb3 => ?_) fun hb3 => ?_
  ·
   refine act ?_
   have hno : p.holds (atP f (l.take k)) = false := by
     first
     | (simpa using hb3; done)
     | (exact holds_kind (by simpa using hb2))
   refine asr ?_;refine aa 6 ?_;refine an ?_;refine agt ⟨[_], ⟨rfl, trivial⟩, ?_, rfl⟩
   refine bc ?_;exact (leadsL_bad hp hF.2 hno).symm
  refine acf ?_
  have hyes : p.holds (atP f (l.take k)) = true := by simpa using hb3
  refine agk ?_;refine agr ?_;refine aQ tok 2 rfl ?_;refine AOps.w rfl rfl (o_store tok rfl rfl rfl rfl rfl rfl rfl rfl rfl (by decide) rfl z33q) ?_;refine an ?_;refine agr ?_;refine aq 34 (q_inc rfl rfl hkl (by simp only [maxLen]; omega)) ?_;refine am 13 ?_;refine an ?_;exact ⟨k+1, Drop.mk' z20q (by repeat (first | exact HDrop.none _ _ | exact HDrop.tail _ _ | refine HDrop.put ?_ (by first | rfl | exact congrArg (fun x => some (AObj.row false 2 [BFunc.cells x])) (atP_succ f hp).symm) rfl z23q)), ⟨by rw [atP_succ f hp]; exact (hH p hpm).1, leadsL_succ hp hF.2 hyes⟩, by omega⟩
 refine acf ?_
 have hge : l.length ≤ k := by have h := hb1; simp at h; omega
 have hE : I (atP f l) ∧ leadsL f (atP f l) l = true := by have h := hF; rwa [List.take_of_length_le hge] at h
 refine AGo.exit ?_;refine asq ?_
 rw [List.take_of_length_le hge]
 refine agr ?_;refine al 35 tok ?_;refine ax 36 (o_lit' tok rfl rfl rfl rfl rfl rfl (by decide) rfl rfl rfl rfl rfl rfl) ?_;refine aq 37 (q_build tok rfl rfl rfl rfl rfl (by decide) rfl rfl rfl) ?_;refine al 38 tok ?_;refine ax 39 (o_lit' tok rfl rfl rfl rfl rfl rfl (by decide) rfl rfl rfl rfl rfl rfl) ?_;refine aq 40 (q_build tok rfl rfl rfl rfl rfl (by decide) rfl rfl rfl) ?_;refine ax 41 (opu Tryz.func46 (bsame_ok ⟨0, [atP f l]⟩ ⟨0, [g]⟩ (by simp) (fun x hx => by simp only [List.mem_singleton] at hx; subst hx; exact (hIb _ hE.1).big))) ?_
 refine aa 6 ?_;refine an ?_;refine agt ⟨[_], ⟨rfl, trivial⟩, ?_, rfl⟩
 refine bc ?_
 rw [leadsL_end hE.2]
 simp
theorem next_ok (f : BFunc) (hn : f.blocks.length ≤ 100000) : APure Tryz.prog 80 [.agg f.cells] (fun r => r = pathsAV f.nexts) := by
  refine APure.of_body (n := 40) tok Tryz.func80 rfl rfl ?_;refine asr ?_;refine ax 1 (obx 2 0) ?_;refine aa 2 ?_;refine an ?_;refine asr ?_;refine aQ tok 3 rfl ?_;refine ax 9 (o_makeSlice tok (n := f.blocks.length) (m := f.blocks.length) 1 true rfl rfl rfl (by simp) (by simp) rfl rfl rfl rfl rfl (Nat.zero_lt_succ _) rfl (Nat.le_refl _) (by show 24 * f.blocks.length ≤ _; omega) (by simp only [maxLen]; omega)) ?_;refine aa 3 ?_;refine an ?_;refine asq ?_;refine asq ?_;refine AGo.ghost (Ghost.weakRow 1 (es' := List.replicate f.blocks.length [.lst false []]) rfl (by simp) (weak_nils _)) ?_;refine agr ?_;refine aQ tok 4 rfl ?_;refine an ?_;refine AGo.block ?_;refine AGo.loopD (γ := Nat) 2 (fun k => ⟨40, (eput (eput (eput (eput eNew 3 (.ref 1 f.blocks.length 0 f.blocks.length)) 11 (blocksAV f.blocks)) 12 (.int .i64 (f.blocks.length : Int))) 13 (.int .i64 (k : Int))), (hput (hput (hFrom 2) 0 (.row false 2 [f.cells])) 1 (.row true 1 (((f.nexts.take (k)).map pathCell) ++ List.replicate (f.blocks.length - (k)) [.lst false []])))⟩) (fun k => k ≤ f.blocks.length) (fun k => f.blocks.length - k) 0 (Sub.mk' z18q (by repeat (first | exact HSub.none _ | exact HSub.from_new _ | exact HSub.from_from (by decide) | refine HSub.put ?_ (by rfl) | refine HSub.from_put ?_ (by decide)))) (Nat.zero_le _) (fun _ => hput_free (hput_free (fun b hb => hFrom_free hb) rfl) rfl) ?_
  intro k hk
  refine asr ?_;refine aqb ?_;refine an ?_;refine asq ?_;refine asp 14 (fun hb1 => ?_) fun hb1 => ?_
  · -- True
    refine act ?_
    have hkl : k < f.blocks.length := by simpa using hb1
    obtain ⟨x, hx⟩ := get_of_lt hkl
    have hnx := nexts_get hx
    refine agk ?_;refine asq ?_;refine AGo.block ?_;refine asr ?_;refine am 15 ?_;refine aq 16 (q_index_lst tok rfl rfl rfl rfl rfl rfl (Int.natCast_nonneg _) (idx_map (by assumption)) rfl) ?_;refine al 17 tok ?_;refine ax 5 (oal tok 2) ?_;refine aa 4 ?_;refine AOps.w rfl rfl (o_store tok rfl rfl rfl rfl rfl rfl rfl rfl rfl (by decide) rfl z33q) ?_;refine an ?_;refine asr ?_;refine aQ tok 2 rfl ?_;refine an ?_;refine AGo.block ?_;refine asr ?_;refine aQ tok 2 rfl ?_;refine an ?_;refine asp 20 (fun hb2 => ?_) fun hb2 => ?_
    · -- True
      refine act ?_;refine agr ?_;refine aQ tok 4 rfl ?_;refine ax 26 (o_lit' tok rfl rfl rfl rfl rfl rfl (by decide) rfl rfl rfl rfl rfl rfl) ?_;refine aq 27 (q_index_ref tok rfl rfl rfl rfl rfl rfl rfl (fill_len (nexts_length f) (Nat.le_of_lt hkl)) rfl (Int.natCast_nonneg _) (by omega)) ?_;refine AOps.w rfl rfl (o_store tok rfl rfl rfl rfl rfl rfl (fill_len (nexts_length f) (Nat.le_of_lt hkl)) (fill_get (nexts_length f) hkl) rfl (by decide) rfl z33q) ?_;refine an ?_;refine agr ?_;refine aq 38 (q_inc rfl rfl hkl (show f.blocks.length ≤ maxLen by simp only [maxLen]; omega)) ?_
      refine am 13 ?_;refine an ?_;exact ⟨k+1, Drop.mk' (by repeat (first | exact EDrop.new _ _ | refine EDrop.put ?_ (by rfl) rfl)) z2q, hkl, by omega⟩
    · -- False
      refine acf ?_;refine asr ?_;refine aQ tok 2 rfl ?_;refine an ?_;refine asp 28 (fun hb3 => ?_) fun hb3 => ?_
      · -- True
        refine act ?_;refine agr ?_;refine aQ tok 6 rfl ?_;refine ax 36 (o_lit' tok rfl rfl rfl rfl rfl rfl (by decide) rfl rfl rfl rfl rfl rfl) ?_;refine aq 37 (q_index_ref tok rfl rfl rfl rfl rfl rfl rfl (fill_len (nexts_length f) (Nat.le_of_lt hkl)) rfl (Int.natCast_nonneg _) (by omega)) ?_;refine AOps.w rfl rfl (o_store tok rfl rfl rfl rfl rfl rfl (fill_len (nexts_length f) (Nat.le_of_lt hkl)) (fill_get (nexts_length f) hkl) rfl (by decide) rfl z33q) ?_;refine an ?_;refine agr ?_;refine aq 38 (q_inc rfl rfl hkl (show f.blocks.length ≤ maxLen by simp only [maxLen]; omega)) ?_
        refine am 13 ?_;refine an ?_;exact ⟨k+1, Drop.mk' (by repeat (first | exact EDrop.new _ _ | refine EDrop.put ?_ (by rfl) rfl)) z2q, hkl, by omega⟩
      · -- False
        refine acf ?_;refine agk ?_;refine agr ?_;refine aq 38 (q_inc rfl rfl hkl (show f.blocks.length ≤ maxLen by simp only [maxLen]; omega)) ?_
        refine am 13 ?_;refine an ?_;exact ⟨k+1, Drop.mk' (by repeat (first | exact EDrop.new _ _ | refine EDrop.put ?_ (by rfl) rfl)) z2q, hkl, by omega⟩
  · -- False
    refine acf ?_
    have hge : f.blocks.length ≤ k := by simpa using hb1
    refine AGo.exit ?_;refine asq ?_;refine AGo.ghost (.freeze 3 1 rfl rfl (fill_len (nexts_length f) hk)) ?_;refine agr ?_;refine aQ tok 2 rfl ?_;refine an ?_;refine agt ⟨[_], ⟨rfl, trivial⟩, ?_, rfl⟩
    show AV.lst false _ = AV.lst false _
    rw [fill_end (nexts_length f) hge]
    rfl
theorem stands_ok (f : BFunc) (hn : f.blocks.length ≤ 100000) (hi : ∀ x ∈ f.blocks, x.ins.length ≤ 100000) : APure Tryz.prog 132 [.agg f.cells] (fun r => r = .bool f.stands) := by
 refine APure.of_body (n := 65) tok Tryz.func132 rfl rfl ?_;refine asr ?_;refine ax 1 (obx 2 0) ?_;refine aa 2 ?_;refine an ?_;refine asq ?_;refine AGo.draw mix ?_;refine dQ tok 5 rfl ?_;refine dx 14 (o_makeSlice tok (n := f.blocks.length) (m := f.blocks.length) 1 true rfl rfl rfl (by simp) (by simp) rfl rfl rfl rfl rfl (Nat.zero_lt_succ _) rfl (Nat.le_refl _) (by show 56 * f.blocks.length ≤ _; omega) (by simp only [maxLen]; omega)) ?_;refine dq 15 (q_build tok rfl rfl rfl rfl rfl (by decide) rfl rfl rfl) ?_;refine dx 3 (oal tok 2) ?_;refine DOps.w rfl rfl (o_store tok rfl rfl rfl rfl rfl rfl rfl rfl rfl (by decide) rfl z33q) ?_;refine DOps.nil (by kernel_rfl) ?_;refine asq ?_;refine asr ?_;refine aQ tok 4 rfl ?_;refine an ?_;refine AGo.block ?_;refine AGo.loopD (γ := Nat) 3 (fun k => ⟨65, (eput (eput (eput (eput (eput eNew 1 (.ptr 0 1 0 0)) 3 (.ptr 2 1 0 0)) 17 (blocksAV f.blocks)) 18 (.int .i64 (f.blocks.length : Int))) 19 (.int .i64 (k : Int))), (hput (hput (hput (hFrom 3) 0 (.row false 2 [f.cells])) 1 (.row true 5 ((((f.blocks.map Block.bare).take (k)).map Block.cells) ++ List.replicate (f.blocks.length - (k)) [.nil, .int .i64 0, .int .i64 0, .int .i64 0, .int .i64 0]))) 2 (.row false 2 [[.int .i64 f.regs, .ref 1 f.blocks.length 0 f.blocks.length]]))⟩) (fun k => k ≤ f.blocks.length ∧ (f.blocks.take k).all (fun x => x.ins.all Tac.callOk) = true) (fun k => f.blocks.length - k) 0 (Sub.mk' z18q z9q) ⟨Nat.zero_le _, rfl⟩ (fun _ => hput_free (hput_free (hput_free (fun b hb => hFrom_free hb) rfl) rfl) rfl) ?_
 intro k ⟨hk, hall⟩
 refine asr ?_;refine aqb ?_;refine an ?_;refine asq ?_;refine asp 20 (fun hb1 => ?_) fun hb1 => ?_
 ·
  refine act ?_
  have hkl : k < f.blocks.length := by simpa using hb1
  obtain ⟨x, hx⟩ := get_of_lt hkl
  have hxm := List.mem_of_getElem? hx
  refine agk ?_;refine asq ?_;refine AGo.block ?_;refine asr ?_;refine am 21 ?_;refine aq 22 (qil tok (idx_map hx)) ?_;refine al 23 tok ?_;refine ax 5 (oal tok 3) ?_;refine aa 4 ?_;refine AOps.w rfl rfl (o_store tok rfl rfl rfl rfl rfl rfl rfl rfl rfl (by decide) rfl z33q) ?_;refine an ?_;refine asr ?_;refine aQ tok 3 rfl ?_;refine ax 27 (o_makeSlice tok (n := 0) (m := x.ins.length) 4 true rfl rfl rfl (rfl) (by simp) rfl rfl rfl rfl rfl (Nat.zero_lt_succ _) rfl (Nat.zero_le _) (by have := hi x hxm; show 64 * x.ins.length ≤ _; omega) (by have := hi x hxm; simp only [maxLen]; omega)) ?_;refine aa 6 ?_;refine an ?_;refine asq ?_;refine asr ?_;refine aQ tok 4 rfl ?_;refine an ?_;refine AGo.block ?_;refine AGo.loopD (γ := Nat) 5 (fun j => ⟨65, (eput (eput (eput (eput (eput (eput (eput (eput (eput (eput (eput eNew 1 (.ptr 0 1 0 0)) 3 (.ptr 2 1 0 0)) 17 (blocksAV f.blocks)) 18 (.int .i64 (f.blocks.length : Int))) 19 (.int .i64 (k : Int))) 4 (.int .i64 (k : Int))) 5 (.ptr 3 1 0 0)) 6 (.ref 4 (noCall (x.ins.take j)).length 0 (noCall (x.ins.take j)).length)) 29 (insAV x.ins)) 30 (.int .i64 (x.ins.length : Int))) 31 (.int .i64 (j : Int))), (hput (hput (hput (hput (hput (hFrom 5) 0 (.row false 2 [f.cells])) 1 (.row true 5 ((((f.blocks.map Block.bare).take (k)).map Block.cells) ++ List.replicate (f.blocks.length - (k)) [.nil, .int .i64 0, .int .i64 0, .int .i64 0, .int .i64 0]))) 2 (.row false 2 [[.int .i64 f.regs, .ref 1 f.blocks.length 0 f.blocks.length]])) 3 (.row false 5 [x.cells])) 4 (.row true 8 ((noCall (x.ins.take j)).map Tac.cells)))⟩) (fun j => j ≤ x.ins.length ∧ (x.ins.take j).all Tac.callOk = true) (fun j => x.ins.length - j) 0 (Sub.mk' z18q z9q) ⟨Nat.zero_le _, rfl⟩ (fun _ => hput_free (hput_free (hput_free (hput_free (hput_free (fun b hb => hFrom_free hb) rfl) rfl) rfl) rfl) rfl) ?_
  intro j ⟨hj, hja⟩
  refine asr ?_;refine aqb ?_;refine an ?_;refine asq ?_;refine asp 32 (fun hb2 => ?_) fun hb2 => ?_
  ·
   refine act ?_
   have hjl : j < x.ins.length := by have h := hb2; simp only [List.length_map, decide_eq_true_eq] at h; omega
   obtain ⟨t, ht⟩ := get_of_lt hjl
   refine agk ?_;refine asq ?_;refine AGo.block ?_;refine asr ?_;refine aq 33 (qil tok (idx_map ht)) ?_;refine al 34 tok ?_;refine ax 8 (oal tok 5) ?_;refine AOps.w rfl rfl (o_store tok rfl rfl rfl rfl rfl rfl rfl rfl rfl (by decide) rfl z33q) ?_;refine an ?_;refine asq ?_;refine asr ?_
   skip
   refine aQ tok 3 rfl ?_;refine an ?_;refine asp 37 (fun hb3 => ?_) fun hb3 => ?_
   ·
    refine act ?_
    have h10 : (t.op != 10) = true := hb3
    have hnc := noCall_yes ht h10
    have hok := callOk_no h10
    refine asr ?_;refine aQ tok 2 rfl ?_;refine ax 40 (o_lit' tok rfl rfl rfl rfl rfl rfl (by decide) rfl rfl rfl rfl rfl rfl) ?_;refine ax 41 (o_append tok (n := (noCall (x.ins.take j)).length) (m := 1) rfl rfl rfl rfl rfl rfl rfl rfl rfl (by rw [List.length_map]) rfl rfl (Nat.zero_lt_succ _) (.lst _ _) (by intro cs h; simp [partVals] at h; subst h; rfl) (fun _ cs h => by simp [partVals] at h; subst h; rfl) rfl (by have h1 := noCall_take x.ins j; have h2 := hi x hxm; simp [partVals]; omega) (by have h1 := noCall_take x.ins j; have h2 := hi x hxm; simp [partVals]; simp only [maxLen]; omega)) ?_
    refine aa 6 ?_;refine an ?_;refine AGo.exit ?_;refine agr ?_;refine aq 52 (q_inc rfl rfl hjl (by have := hi x hxm; simp only [maxLen]; omega)) ?_;refine am 31 ?_;refine an ?_;exact ⟨j+1, Drop.mk' z10q z11q, ⟨hjl, all_succ ht hja (by first | exact hok | exact callOk_yes h10 hb0 (ndec_same hgood))⟩, by omega⟩
   refine acf ?_
   have h10 : (t.op != 10) = false := hb3
   have hnc := noCall_no ht h10
   refine agk ?_;refine asr ?_;refine aQ tok 4 rfl ?_;refine aop 45 (fun hb4 => ?_) fun hb4 => ?_
   ·
    refine aQ tok 6 rfl ?_;refine an ?_;refine act ?_
    have hbad := hb4
    refine asr ?_;refine aa 2 ?_;refine an ?_;refine agt ⟨[_], ⟨rfl, trivial⟩, ?_, rfl⟩
    refine bc ?_;exact (stands_bad hx ht (by first | exact callOk_bad1 h10 hbad | exact callOk_bad2 h10 (ndec_same' hbad))).symm
   have hb0 := hb4
   refine aQ tok 3 rfl ?_;refine aq 49 (q_build tok rfl rfl rfl rfl rfl (by decide) rfl rfl rfl) ?_;refine aq 50 (q_eqStruct tok true rfl rfl rfl (by kernel_rfl) rfl rfl rfl rfl rfl) ?_;refine apf ?_;refine an ?_;refine asp 51 (fun hb5 => ?_) fun hb5 => ?_
   ·
    refine act ?_
    have hbad := hb5
    refine asr ?_;refine aa 2 ?_;refine an ?_;refine agt ⟨[_], ⟨rfl, trivial⟩, ?_, rfl⟩
    refine bc ?_;exact (stands_bad hx ht (by first | exact callOk_bad1 h10 hbad | exact callOk_bad2 h10 (ndec_same' hbad))).symm
   refine acf ?_
   have hgood := hb5
   refine agk ?_;refine agr ?_;refine aq 52 (q_inc rfl rfl hjl (by have := hi x hxm; simp only [maxLen]; omega)) ?_;refine am 31 ?_;refine an ?_;exact ⟨j+1, Drop.mk' z10q z11q, ⟨hjl, all_succ ht hja (by first | exact hok | exact callOk_yes h10 hb0 (ndec_same hgood))⟩, by omega⟩
  refine acf ?_
  have hjge : x.ins.length ≤ j := by have h := hb2; simp only [List.length_map, decide_eq_false_iff_not] at h; omega
  refine AGo.exit ?_;refine asq ?_;refine AGo.ghost (.freezeAll0 6 4 rfl rfl (by rw [List.length_map])) ?_
  rw [List.take_of_length_le hjge]
  refine agr ?_;refine aQ tok 2 rfl ?_;refine AOps.w rfl rfl (o_store tok rfl rfl rfl rfl rfl rfl rfl rfl rfl (by decide) rfl z33q) ?_;refine an ?_;refine agr ?_;refine aQ tok 4 rfl ?_;refine aq 59 (q_index_ref tok rfl rfl rfl rfl rfl rfl rfl (fill_len (by simp : (f.blocks.map Block.bare).length = f.blocks.length) (Nat.le_of_lt hkl)) rfl (Int.natCast_nonneg _) (by omega)) ?_;refine AOps.w rfl rfl (o_store tok rfl rfl rfl rfl rfl rfl (fill_len (by simp : (f.blocks.map Block.bare).length = f.blocks.length) (Nat.le_of_lt hkl)) (fill_get (by simp : (f.blocks.map Block.bare).length = f.blocks.length) hkl) rfl (by decide) rfl z33q) ?_;refine an ?_;refine agr ?_;refine aq 60 (q_inc rfl rfl hkl (show f.blocks.length ≤ maxLen by simp only [maxLen]; omega)) ?_
  refine am 19 ?_;refine an ?_;exact ⟨k+1, Drop.mk' z20q (by repeat (first | exact HDrop.none _ _ | exact HDrop.tail _ _ | refine HDrop.put ?_ (by first | rfl | exact congrArg (fun es => some (AObj.row true 5 es)) (fill_put (f := Block.cells) (x := x.bare) (by simp : (f.blocks.map Block.bare).length = f.blocks.length) (bare_get hx))) rfl z23q)), ⟨hkl, all_succ hx hall (all_end hja hjge)⟩, by omega⟩
 refine acf ?_
 have hge : f.blocks.length ≤ k := by simpa using hb1
 refine AGo.exit ?_;refine asq ?_;refine AGo.ghost (.freezeCell 2 0 1 1 rfl rfl rfl rfl (fill_len (by simp : (f.blocks.map Block.bare).length = f.blocks.length) hk) (by decide)) ?_
 rw [fill_end (by simp : (f.blocks.map Block.bare).length = f.blocks.length) hge]
 refine agr ?_;refine al 61 tok ?_;refine ax 62 (o_lit' tok rfl rfl rfl rfl rfl rfl (by decide) rfl rfl rfl rfl rfl rfl) ?_;refine aq 63 (q_build tok rfl rfl rfl rfl rfl (by decide) rfl rfl rfl) ?_;refine ax 64 (opu Tryz.func33 (bright_ok (Blocks.mk 1048576 [f.bare]))) ?_;refine aa 2 ?_;refine an ?_;refine agt ⟨[_], ⟨rfl, trivial⟩, ?_, rfl⟩
 refine bc ?_;exact (stands_all (all_end hall hge)).symm
theorem effs_ok (E1 E2 : List (List Int)) (h1 : ∀ x ∈ E1, x.length = 6) (h2 : ∀ x ∈ E2, x.length = 6) (hl : E1.length ≤ 100000) : ACall Tryz.prog 134 [slA 10 ((E1).map (arrAV .i64)), slA 11 ((E2).map (arrAV .i64))] (hput (hput hNew 10 (slO 6 ((E1).map (arrAV .i64)))) 11 (slO 6 ((E2).map (arrAV .i64)))) (fun r h' => r = .bool (decide (E1 = E2)) ∧ HSub (hput (hput hNone 10 (slO 6 ((E1).map (arrAV .i64)))) 11 (slO 6 ((E2).map (arrAV .i64)))) h') := by
 refine ACall.of_body (n := 26) tok Tryz.func134 rfl rfl ?_;refine asr ?_;refine aa 4 ?_;refine an ?_;refine asq ?_;refine asr ?_;refine am 6 ?_;refine aq 7 (q_lenJ tok rfl rfl rfl rfl) ?_;refine am 8 ?_;refine aq 9 (q_lenJ tok rfl rfl rfl rfl) ?_;refine aqb ?_;refine an ?_;refine asp 10 (fun hb1 => ?_) fun hb1 => ?_
 ·
  refine act ?_
  have hne : E1.length ≠ E2.length := by have h := hb1; simp only [List.length_map, bne_iff_ne, ne_eq, Int.natCast_inj] at h; exact h
  refine asr ?_;refine aa 4 ?_;refine an ?_;refine agt ?_;refine ⟨[_], ⟨rfl, trivial⟩, ?_, HSub.put (HSub.put (HSub.none _) rfl) rfl⟩
  refine bc ?_;exact (decide_eq_false (fun e => hne (by rw [e]))).symm
 refine acf ?_
 have hel : E1.length = E2.length := by have h := hb1; simp only [List.length_map, bne_eq_false_iff_eq, Int.natCast_inj] at h; exact h
 refine agk ?_;refine asq ?_;refine asr ?_;refine am 11 ?_;refine aq 12 (q_lenJ tok rfl rfl rfl rfl) ?_;refine am 13 ?_;refine an ?_;refine AGo.block ?_;refine AGo.loopD (γ := Nat) 12 (fun k => ⟨26, (eput (eput (eput (eput eNew 0 (slA 10 ((E1).map (arrAV .i64)))) 1 (slA 11 ((E2).map (arrAV .i64)))) 12 (.int .i64 (((E1).map (arrAV .i64)).length : Int))) 13 (.int .i64 (k : Int))), (hput (hput (hFrom 12) 10 (slO 6 ((E1).map (arrAV .i64)))) 11 (slO 6 ((E2).map (arrAV .i64))))⟩) (fun k => k ≤ E1.length ∧ E1.take k = E2.take k) (fun k => E1.length - k) 0 (Sub.mk' z29q z9q) ⟨Nat.zero_le _, rfl⟩ (fun _ => hput_free (hput_free (fun b hb => hFrom_free hb) rfl) rfl) ?_
 intro k ⟨hk, htk⟩
 refine asr ?_;refine aqb ?_;refine an ?_;refine asq ?_;refine asp 14 (fun hb2 => ?_) fun hb2 => ?_
 ·
  refine act ?_
  have hkl : k < E1.length := by have h := hb2; simp only [List.length_map, decide_eq_true_eq] at h; omega
  obtain ⟨x, hx⟩ := get_of_lt hkl
  obtain ⟨y, hy⟩ := get_of_lt (l := E2) (k := k) (by omega)
  refine agk ?_;refine asq ?_;refine AGo.block ?_;refine asr ?_;refine aQ tok 2 rfl ?_;refine an ?_;refine asq ?_;refine AGo.draw mix ?_;refine dQ tok 2 rfl ?_;refine dq 18 (q_indexJ tok rfl rfl rfl rfl rfl rfl rfl rfl (Int.natCast_nonneg _) (by rw [List.length_map]; omega)) ?_;refine dq 19 (q_load tok rfl rfl rfl (ptsJ rfl (arr_get hx)) (load_arr rfl (by rw [h1 _ (List.mem_of_getElem? hx)]))) ?_;refine dQ tok 2 rfl ?_;refine dq 22 (q_indexJ tok rfl rfl rfl rfl rfl rfl rfl rfl (Int.natCast_nonneg _) (by rw [List.length_map]; omega)) ?_;refine dq 23 (q_load tok rfl rfl rfl (ptsJ rfl (arr_get hy)) (load_arr rfl (by rw [h2 _ (List.mem_of_getElem? hy)]))) ?_;refine dq 24 (q_eqInts tok (K := .i64) (l1 := x) (l2 := y) true rfl rfl rfl (by kernel_rfl) rfl rfl rfl rfl (by rw [h1 _ (List.mem_of_getElem? hx)]) (by rw [h2 _ (List.mem_of_getElem? hy)]) (by kernel_rfl)) ?_;refine DOps.nil (by kernel_rfl) ?_
  refine asp 24 (fun hb3 => ?_) fun hb3 => ?_
  ·
   refine act ?_
   have hxy : ¬ x = y := by have h := hb3; simpa using h
   refine asr ?_;refine aa 4 ?_;refine an ?_;refine agt ?_;refine ⟨[_], ⟨rfl, trivial⟩, ?_, HSub.put (HSub.put (HSub.none _) rfl) rfl⟩
   refine bc ?_;exact (decide_eq_false (fun e => by subst e; rw [hx] at hy; exact hxy (Option.some.inj hy))).symm
  refine acf ?_
  have hxy : x = y := by have h := hb3; simpa using h
  subst hxy
  refine agk ?_;refine agr ?_;refine aq 25 (q_inc rfl rfl hkl (by simp only [maxLen]; omega)) ?_;refine am 13 ?_;refine an ?_;exact ⟨k+1, Drop.mk' z20q z14q, ⟨hkl, take_eq_succ htk hx hy⟩, by omega⟩
 refine acf ?_
 have hge : E1.length ≤ k := by have h := hb2; simp only [List.length_map, decide_eq_false_iff_not] at h; omega
 refine AGo.exit ?_;refine asr ?_;refine aa 4 ?_;refine an ?_;refine agt ?_;refine ⟨[_], ⟨rfl, trivial⟩, ?_, HSub.put (HSub.put (HSub.none _) rfl) rfl⟩
 refine bc ?_;exact (decide_eq_true (take_all htk hge (by omega))).symm
theorem number_ok (first : Int) (K : List (List Int)) (hf : 0 ≤ first ∧ first ≤ 100000) (h4 : ∀ k ∈ K, k.length = 4) (hK : K.length ≤ 100000) (a b c d : Int) : ACall Tryz.prog 135 [.ptr 4 1 0 0, .agg [.int .i64 a, .int .i64 b, .int .i64 c, .int .i64 d]] (hput (hput (hput hNew 3 (.map (kvsA .i64 (vmap first (K))))) 4 (.row false 3 [[.int .i64 first, .map 3, slA 9 ((K).map (arrAV .i64))]])) 9 (slO 4 ((K).map (arrAV .i64)))) (fun r h' => r = .int .i64 (vnum first K [a, b, c, d]).1 ∧ HSub (hput (hput (hput hNone 3 (.map (kvsA .i64 (vmap first ((vnum first K [a, b, c, d]).2))))) 4 (.row false 3 [[.int .i64 first, .map 3, slA 9 (((vnum first K [a, b, c, d]).2).map (arrAV .i64))]])) 9 (slO 4 (((vnum first K [a, b, c, d]).2).map (arrAV .i64)))) h') := by
 refine ACall.of_body (n := 45) tok Tryz.func135 rfl rfl ?_;refine asr ?_;refine ax 3 (obx 4 12) ?_;refine aa 4 ?_;refine an ?_;refine asq ?_;refine AGo.draw mix ?_;refine dQ tok 5 rfl ?_;refine dq 13 (q_lookupOkA tok (z := [a, b, c, d]) (m := vmap first K) (n := 4) (zv := .int .i64 0) rfl rfl rfl rfl rfl rfl rfl rfl rfl rfl (by kernel_rfl) rfl (vmap_keys h4) (by kernel_rfl) rfl) ?_;refine dQ tok 5 rfl ?_;refine DOps.nil (by kernel_rfl) ?_;refine asq ?_;refine asr ?_;refine aQ tok 2 rfl ?_;refine an ?_;refine asp 17 (fun hb1 => ?_) fun hb1 => ?_
 ·
  refine act ?_
  have hn : kidx [a, b, c, d] K = none := vnone (hb1)
  refine asq ?_;refine AGo.draw mix ?_;refine dQ tok 8 rfl ?_;refine dq 26 (q_lenJ tok rfl rfl rfl rfl) ?_;refine dq 27 (q_bin (r := .int .i64 (first + (K.length : Int))) rfl rfl rfl (by rw [List.length_map]; exact addZ (by omega) (by omega) rfl)) ?_;refine da 5 ?_;refine DOps.nil (by kernel_rfl) ?_;refine asq ?_;refine AGo.draw mix ?_;refine dQ tok 6 rfl ?_;refine DOps.w rfl rfl (o_mapUpdateA tok (z := [a, b, c, d]) (m := vmap first K) (n := 4) rfl rfl rfl rfl rfl rfl rfl rfl rfl rfl rfl rfl rfl (by kernel_rfl) rfl (vmap_keys h4)) ?_;refine DOps.nil (by kernel_rfl) ?_;refine AGo.draw mix ?_;refine dQ tok 6 rfl ?_;refine dx 40 (o_lit' tok rfl rfl rfl rfl rfl rfl (by decide) rfl rfl rfl rfl rfl rfl) ?_;refine dx 41 (o_append1J tok (b := 9) (es := ((K).map (arrAV .i64))) rfl rfl rfl rfl rfl rfl rfl rfl rfl rfl rfl (Nat.zero_lt_succ _) (arr_len h4) (arr_pure _) rfl rfl (by rw [List.length_map]; show _ * 32 ≤ _; omega) z34q) ?_
  refine dQ tok 2 rfl ?_;refine DOps.w rfl rfl (o_store1 tok rfl rfl rfl rfl rfl rfl rfl rfl rfl (slA_cells _ _) (by decide) (slA_cell1 _ _) (by intro h; cases h)) ?_;refine DOps.nil (by kernel_rfl) ?_;refine asr ?_;refine aQ tok 2 rfl ?_;refine an ?_;refine agt ?_;refine ⟨[_], ⟨rfl, trivial⟩, ?_, ?_⟩
  · first
    | (rw [vnum_new hn]; rfl)
    | (rw [vnum_old hi]; exact (by rw [vmap_get, hi]; rfl))
  · first
    | (rw [vnum_new hn]; exact HSub.put (HSub.put (HSub.put (HSub.none _) (by dsimp only; rw [← vmap_set hn]; rfl)) (by dsimp only; rw [List.map_append]; rfl)) (by dsimp only; rw [List.map_append]; rfl))
    | (rw [vnum_old hi]; exact HSub.put (HSub.put (HSub.put (HSub.none _) rfl) rfl) rfl)
 refine acf ?_
 obtain ⟨i, hi⟩ : ∃ i, kidx [a, b, c, d] K = some i := vsome (hb1)
 refine agk ?_;refine asr ?_;refine aQ tok 2 rfl ?_;refine an ?_;refine agt ?_;refine ⟨[_], ⟨rfl, trivial⟩, ?_, ?_⟩
 · first
   | (rw [vnum_new hn]; rfl)
   | (rw [vnum_old hi]; exact (by rw [vmap_get, hi]; rfl))
 · first
   | (rw [vnum_new hn]; exact HSub.put (HSub.put (HSub.put (HSub.none _) (by dsimp only; rw [← vmap_set hn]; rfl)) (by dsimp only; rw [List.map_append]; rfl)) (by dsimp only; rw [List.map_append]; rfl))
   | (rw [vnum_old hi]; exact HSub.put (HSub.put (HSub.put (HSub.none _) rfl) rfl) rfl)
theorem divide_ok (op a b : Int) (hb : 0 ≤ b) : APure Tryz.prog 103 [.int .i64 op, .int .u32 a, .int .u32 b] (fun r => r = wpair (wdivide op a b)) := by
 refine APure.of_body (n := 18) tok Tryz.func103 rfl rfl ?_;refine asr ?_;refine aQ tok 2 rfl ?_;refine an ?_;refine asq ?_;refine asr ?_;refine aQ tok 2 rfl ?_;refine an ?_;refine asp 9 (fun hb1 => ?_) fun hb1 => ?_
 ·
  refine act ?_;refine asr ?_;refine aQ tok 2 rfl ?_;refine an ?_;refine agt ?_;refine ⟨[_, _], ⟨rfl, rfl, trivial⟩, ?_, rfl⟩
  show AV.tup _ = AV.tup _
  simp [wdivide, *]
 refine acf ?_
 have hb0 : ¬ b = 0 := by simpa using hb1
 refine agk ?_;refine asq ?_;refine asr ?_;refine aQ tok 2 rfl ?_;refine an ?_;refine asp 11 (fun hb2 => ?_) fun hb2 => ?_
 ·
  refine act ?_;refine asr ?_;refine aQ tok 2 rfl ?_;refine aq 14 (q_bin (r := .int .u32 (IntKind.u32.wrap (a.tdiv b))) rfl rfl rfl (by simp [evalBin, evalInt, isShift, hb0])) ?_;refine aQ tok 2 rfl ?_;refine an ?_;refine agt ?_;refine ⟨[_, _], ⟨rfl, rfl, trivial⟩, ?_, rfl⟩
  show AV.tup _ = AV.tup _
  simp [wdivide, *]
 refine acf ?_;refine agk ?_;refine asr ?_;refine aQ tok 2 rfl ?_;refine aq 17 (q_bin (r := .int .u32 (a.tmod b)) rfl rfl rfl (by simp [evalBin, evalInt, isShift, hb0])) ?_;refine aQ tok 2 rfl ?_;refine an ?_;refine agt ?_;refine ⟨[_, _], ⟨rfl, rfl, trivial⟩, ?_, rfl⟩
 show AV.tup _ = AV.tup _
 simp [wdivide, *]
theorem shift_ok (op a b : Int) (hb : 0 ≤ b) : APure Tryz.prog 104 [.int .i64 op, .int .u32 a, .int .u32 b] (fun r => r = .int .u32 (wshift op a b)) := by
 refine APure.of_body (n := 19) tok Tryz.func104 rfl rfl ?_;refine asr ?_;refine aa 6 ?_;refine an ?_;refine asq ?_;refine AGo.block ?_;refine asr ?_;refine aQ tok 3 rfl ?_;refine an ?_;refine asp 7 (fun hb1 => ?_) fun hb1 => ?_
 ·
  refine act ?_;refine asr ?_;refine aa 6 ?_;refine an ?_;refine agt ⟨[_], ⟨rfl, trivial⟩, ?_, rfl⟩
  show AV.int .u32 _ = AV.int .u32 _
  simp only [wshift, *, cond_true, cond_false]
 refine acf ?_;refine asr ?_;refine aQ tok 3 rfl ?_;refine an ?_;refine asp 10 (fun hb2 => ?_) fun hb2 => ?_
 ·
  refine act ?_;refine asr ?_;refine aQ tok 2 rfl ?_;refine aq 15 (q_bin (r := .int .u32 (IntKind.u32.wrap (a * 2 ^ (min b.toNat IntKind.u32.bits)))) rfl rfl rfl (by simp only [evalBin, evalInt, isShift, cond_true, if_neg (show ¬ b < 0 by omega)])) ?_
  refine aa 6 ?_;refine an ?_;refine agt ⟨[_], ⟨rfl, trivial⟩, ?_, rfl⟩
  show AV.int .u32 _ = AV.int .u32 _
  simp only [wshift, *, cond_true, cond_false]
 refine acf ?_;refine agk ?_;refine asr ?_;refine aQ tok 2 rfl ?_;refine aq 18 (q_bin (r := .int .u32 (a.fdiv (2 ^ (min b.toNat IntKind.u32.bits)))) rfl rfl rfl (by simp only [evalBin, evalInt, isShift, cond_true, if_neg (show ¬ b < 0 by omega)])) ?_
 refine aa 6 ?_;refine an ?_;refine agt ⟨[_], ⟨rfl, trivial⟩, ?_, rfl⟩
 show AV.int .u32 _ = AV.int .u32 _
 simp only [wshift, *, cond_true, cond_false]
theorem compare_ok (op a b : Int) (hb : 0 ≤ b) : APure Tryz.prog 105 [.int .i64 op, .int .u32 a, .int .u32 b] (fun r => r = .int .u32 (wcompare op a b)) := by
 refine APure.of_body (n := 23) tok Tryz.func105 rfl rfl ?_;refine asr ?_;refine aa 6 ?_;refine an ?_;refine asq ?_;refine AGo.block ?_;refine asq ?_;refine AGo.block ?_;refine AGo.block ?_;refine asq ?_;refine asq ?_;refine asr ?_;refine aQ tok 3 rfl ?_;refine aop 10 (fun hb1 => ?_) fun hb1 => ?_
 ·
  refine aQ tok 5 rfl ?_;refine an ?_;refine asp 7 (fun hb2 => ?_) fun hb2 => ?_
  ·
   refine act ?_;refine AGo.exit ?_;refine asq ?_;refine asr ?_;refine aa 6 ?_;refine an ?_;refine agt ⟨[_], ⟨rfl, trivial⟩, ?_, rfl⟩
   show AV.int .u32 _ = AV.int .u32 _
   simp [wcompare, *]
  refine acf ?_;refine agk ?_;refine asr ?_;refine aQ tok 3 rfl ?_;refine aop 18 (fun hb3 => ?_) fun hb3 => ?_
  ·
   refine aQ tok 5 rfl ?_;refine an ?_;refine asp 15 (fun hb4 => ?_) fun hb4 => ?_
   ·
    refine act ?_;refine AGo.exit ?_;refine asq ?_;refine asr ?_;refine aa 6 ?_;refine an ?_;refine agt ⟨[_], ⟨rfl, trivial⟩, ?_, rfl⟩
    show AV.int .u32 _ = AV.int .u32 _
    simp [wcompare, *]
   refine acf ?_;refine agk ?_;refine AGo.exit ?_;refine asr ?_;refine aa 6 ?_;refine an ?_;refine agt ⟨[_], ⟨rfl, trivial⟩, ?_, rfl⟩
   show AV.int .u32 _ = AV.int .u32 _
   simp [wcompare, *]
  refine aQ tok 5 rfl ?_;refine an ?_;refine acf ?_;refine agk ?_;refine AGo.exit ?_;refine asr ?_;refine aa 6 ?_;refine an ?_;refine agt ⟨[_], ⟨rfl, trivial⟩, ?_, rfl⟩
  show AV.int .u32 _ = AV.int .u32 _
  simp [wcompare, *]
 refine aQ tok 5 rfl ?_;refine an ?_;refine acf ?_;refine agk ?_;refine asr ?_;refine aQ tok 3 rfl ?_;refine aop 18 (fun hb5 => ?_) fun hb5 => ?_
 ·
  refine aQ tok 5 rfl ?_;refine an ?_;refine asp 15 (fun hb6 => ?_) fun hb6 => ?_
  ·
   refine act ?_;refine AGo.exit ?_;refine asq ?_;refine asr ?_;refine aa 6 ?_;refine an ?_;refine agt ⟨[_], ⟨rfl, trivial⟩, ?_, rfl⟩
   show AV.int .u32 _ = AV.int .u32 _
   simp [wcompare, *]
  refine acf ?_;refine agk ?_;refine AGo.exit ?_;refine asr ?_;refine aa 6 ?_;refine an ?_;refine agt ⟨[_], ⟨rfl, trivial⟩, ?_, rfl⟩
  show AV.int .u32 _ = AV.int .u32 _
  simp [wcompare, *]
 refine aQ tok 5 rfl ?_;refine an ?_;refine acf ?_;refine agk ?_;refine AGo.exit ?_;refine asr ?_;refine aa 6 ?_;refine an ?_;refine agt ⟨[_], ⟨rfl, trivial⟩, ?_, rfl⟩
 show AV.int .u32 _ = AV.int .u32 _
 simp [wcompare, *]
theorem apply_ok (op a b : Int) (hb : 0 ≤ b) : APure Tryz.prog 96 [.int .i64 op, .int .u32 a, .int .u32 b] (fun r => r = wpair (wapp op a b)) := by
 refine APure.of_body (n := 62) tok Tryz.func96 rfl rfl ?_;refine asr ?_;refine aQ tok 2 rfl ?_;refine an ?_;refine asq ?_;refine asr ?_;refine am 8 ?_;refine an ?_;refine AGo.block ?_;refine asr ?_;refine aQ tok 2 rfl ?_;refine an ?_;refine asp 9 (fun hb1 => ?_) fun hb1 => ?_
 ·
  refine act ?_;refine asr ?_;refine aQ tok 5 rfl ?_;refine an ?_;refine agt ?_;refine ⟨[_, _], ⟨rfl, rfl, trivial⟩, ?_, rfl⟩
  show AV.tup _ = AV.tup _
  simp [wapp, *]
 refine acf ?_;refine asr ?_;refine aQ tok 2 rfl ?_;refine an ?_;refine asp 14 (fun hb2 => ?_) fun hb2 => ?_
 ·
  refine act ?_;refine asr ?_;refine aQ tok 5 rfl ?_;refine an ?_;refine agt ?_;refine ⟨[_, _], ⟨rfl, rfl, trivial⟩, ?_, rfl⟩
  show AV.tup _ = AV.tup _
  simp [wapp, *]
 refine acf ?_;refine asr ?_;refine aQ tok 2 rfl ?_;refine an ?_;refine asp 19 (fun hb3 => ?_) fun hb3 => ?_
 ·
  refine act ?_;refine asr ?_;refine aQ tok 5 rfl ?_;refine an ?_;refine agt ?_;refine ⟨[_, _], ⟨rfl, rfl, trivial⟩, ?_, rfl⟩
  show AV.tup _ = AV.tup _
  simp [wapp, *]
 refine acf ?_;refine asq ?_;refine asr ?_;refine aQ tok 2 rfl ?_;refine an ?_;refine asp 24 (fun hb4 => ?_) fun hb4 => ?_
 ·
  refine act ?_;refine agk ?_;refine act ?_;refine asr ?_;refine aQ tok 3 rfl ?_;refine ax 30 (opu Tryz.func103 (divide_ok _ _ _ hb)) ?_;refine aQ tok 4 rfl ?_;refine an ?_;refine agt ?_;refine ⟨[_, _], ⟨rfl, rfl, trivial⟩, ?_, rfl⟩
  show AV.tup _ = AV.tup _
  simp [wapp, *]
 refine acf ?_;refine agr ?_;refine aQ tok 2 rfl ?_;refine an ?_;refine asp 24 (fun hb5 => ?_) fun hb5 => ?_
 ·
  refine act ?_;refine asr ?_;refine aQ tok 3 rfl ?_;refine ax 30 (opu Tryz.func103 (divide_ok _ _ _ hb)) ?_;refine aQ tok 4 rfl ?_;refine an ?_;refine agt ?_;refine ⟨[_, _], ⟨rfl, rfl, trivial⟩, ?_, rfl⟩
  show AV.tup _ = AV.tup _
  simp [wapp, *]
 refine acf ?_;refine asr ?_;refine aQ tok 2 rfl ?_;refine an ?_;refine asp 33 (fun hb6 => ?_) fun hb6 => ?_
 ·
  refine act ?_;refine asr ?_;refine aQ tok 5 rfl ?_;refine an ?_;refine agt ?_;refine ⟨[_, _], ⟨rfl, rfl, trivial⟩, ?_, rfl⟩
  show AV.tup _ = AV.tup _
  simp [wapp, *]
 refine acf ?_;refine asr ?_;refine aQ tok 2 rfl ?_;refine an ?_;refine asp 38 (fun hb7 => ?_) fun hb7 => ?_
 ·
  refine act ?_;refine asr ?_;refine aQ tok 5 rfl ?_;refine an ?_;refine agt ?_;refine ⟨[_, _], ⟨rfl, rfl, trivial⟩, ?_, rfl⟩
  show AV.tup _ = AV.tup _
  simp [wapp, *]
 refine acf ?_;refine asr ?_;refine aQ tok 2 rfl ?_;refine an ?_;refine asp 43 (fun hb8 => ?_) fun hb8 => ?_
 ·
  refine act ?_;refine asr ?_;refine aQ tok 5 rfl ?_;refine an ?_;refine agt ?_;refine ⟨[_, _], ⟨rfl, rfl, trivial⟩, ?_, rfl⟩
  show AV.tup _ = AV.tup _
  simp [wapp, *]
 refine acf ?_;refine asq ?_;refine asr ?_;refine aQ tok 2 rfl ?_;refine an ?_;refine asp 48 (fun hb9 => ?_) fun hb9 => ?_
 ·
  refine act ?_;refine agk ?_;refine act ?_;refine asr ?_;refine aQ tok 3 rfl ?_;refine ax 54 (opu Tryz.func104 (shift_ok _ _ _ hb)) ?_;refine aQ tok 2 rfl ?_;refine an ?_;refine agt ?_;refine ⟨[_, _], ⟨rfl, rfl, trivial⟩, ?_, rfl⟩
  show AV.tup _ = AV.tup _
  simp [wapp, *]
 refine acf ?_;refine agr ?_;refine aQ tok 2 rfl ?_;refine an ?_;refine asp 48 (fun hb10 => ?_) fun hb10 => ?_
 ·
  refine act ?_;refine asr ?_;refine aQ tok 3 rfl ?_;refine ax 54 (opu Tryz.func104 (shift_ok _ _ _ hb)) ?_;refine aQ tok 2 rfl ?_;refine an ?_;refine agt ?_;refine ⟨[_, _], ⟨rfl, rfl, trivial⟩, ?_, rfl⟩
  show AV.tup _ = AV.tup _
  simp [wapp, *]
 refine acf ?_;refine asq ?_;refine asr ?_;refine aQ tok 2 rfl ?_;refine an ?_;refine asp 55 (fun hb11 => ?_) fun hb11 => ?_
 ·
  refine act ?_;refine agk ?_;refine act ?_;refine asr ?_;refine aQ tok 3 rfl ?_;refine ax 61 (opu Tryz.func105 (compare_ok _ _ _ hb)) ?_;refine aQ tok 2 rfl ?_;refine an ?_;refine agt ?_;refine ⟨[_, _], ⟨rfl, rfl, trivial⟩, ?_, rfl⟩
  show AV.tup _ = AV.tup _
  simp [wapp, *]
 refine acf ?_;refine agr ?_;refine aQ tok 2 rfl ?_;refine an ?_;refine asp 55 (fun hb12 => ?_) fun hb12 => ?_
 ·
  refine act ?_;refine asr ?_;refine aQ tok 3 rfl ?_;refine ax 61 (opu Tryz.func105 (compare_ok _ _ _ hb)) ?_;refine aQ tok 2 rfl ?_;refine an ?_;refine agt ?_;refine ⟨[_, _], ⟨rfl, rfl, trivial⟩, ?_, rfl⟩
  show AV.tup _ = AV.tup _
  simp [wapp, *]
 refine acf ?_;refine agk ?_;refine asr ?_;refine aQ tok 2 rfl ?_;refine an ?_;refine agt ?_;refine ⟨[_, _], ⟨rfl, rfl, trivial⟩, ?_, rfl⟩
 show AV.tup _ = AV.tup _
 simp [wapp, *]
theorem constant_ok (first : Int) (K : List (List Int)) (hf : 0 ≤ first ∧ first ≤ 100000) (h4 : ∀ k ∈ K, k.length = 4) (hK : K.length ≤ 100000) (n : Int) (hn : 0 ≤ n ∧ n < first + K.length) : ACall Tryz.prog 139 [.ptr 4 1 0 0, .int .i64 n] (hput (hput (hput hNew 3 (.map (kvsA .i64 (vmap first (K))))) 4 (.row false 3 [[.int .i64 first, .map 3, slA 9 ((K).map (arrAV .i64))]])) 9 (slO 4 ((K).map (arrAV .i64)))) (fun r h' => r = .tup [.int .u32 (vconst first K n).1, .bool (vconst first K n).2] ∧ HSub (hput (hput (hput hNone 3 (.map (kvsA .i64 (vmap first (K))))) 4 (.row false 3 [[.int .i64 first, .map 3, slA 9 ((K).map (arrAV .i64))]])) 9 (slO 4 ((K).map (arrAV .i64)))) h') := by
 refine ACall.of_body (n := 31) tok Tryz.func139 rfl rfl ?_;refine asr ?_;refine aQ tok 2 rfl ?_;refine an ?_;refine asq ?_;refine asr ?_;refine aQ tok 6 rfl ?_;refine an ?_;refine asp 12 (fun hb1 => ?_) fun hb1 => ?_
 ·
  refine act ?_
  have hlo := hb1
  refine asr ?_;refine aQ tok 2 rfl ?_;refine an ?_;refine agt ?_;refine ⟨[_, _], ⟨rfl, rfl, trivial⟩, ?_, ?_⟩
  · first
    | (rw [vconst_low hlo]; rfl)
    | (rw [hv]; rfl)
  · exact HSub.put (HSub.put (HSub.put (HSub.none _) rfl) rfl) rfl
 refine acf ?_
 obtain ⟨hi1, hi2, a, b, c, d, hg, hv⟩ := vkey h4 hn hb1
 refine agk ?_;refine asq ?_;refine AGo.draw mix ?_;refine dQ tok 9 rfl ?_;refine dq 22 (q_bin (r := .int .i64 (n - first)) rfl rfl rfl (subZ (by omega) (by omega) rfl)) ?_;refine dq 23 (q_indexJ tok rfl rfl rfl rfl rfl rfl rfl rfl hi1 hi2) ?_;refine dq 24 (q_load tok rfl rfl rfl (ptsJ rfl hg) rfl) ?_;refine dx 6 (oal tok 12) ?_;refine DOps.w rfl rfl (o_store tok rfl rfl rfl rfl rfl rfl rfl rfl rfl (by decide) rfl z33q) ?_;refine DOps.nil (by kernel_rfl) ?_;refine asq ?_;refine AGo.draw mix ?_;refine dq 25 (q_index_arr tok rfl rfl rfl rfl rfl rfl (by decide) (by decide) rfl) ?_;refine dQ tok 2 rfl ?_;refine dq 28 (q_index_arr tok rfl rfl rfl rfl rfl rfl (by decide) (by decide) rfl) ?_;refine dQ tok 4 rfl ?_;refine DOps.nil (by kernel_rfl) ?_;refine agt ?_;refine ⟨[_, _], ⟨rfl, rfl, trivial⟩, ?_, ?_⟩
 · first
   | (rw [vconst_low hlo]; rfl)
   | (rw [hv]; rfl)
 · exact HSub.put (HSub.put (HSub.put (HSub.none _) rfl) rfl) rfl
theorem vapply_ok' (first : Int) (K : List (List Int)) (hf : 0 ≤ first ∧ first ≤ 100000) (h4 : ∀ k ∈ K, k.length = 4) (hK : K.length ≤ 100000) (op a b : Int) (ha : 0 ≤ a ∧ a < first + K.length) (hb : 0 ≤ b ∧ b < first + K.length) : ACall Tryz.prog 140 [.ptr 4 1 0 0, .int .i64 op, .int .i64 a, .int .i64 b] (hput (hput (hput hNew 3 (.map (kvsA .i64 (vmap first (K))))) 4 (.row false 3 [[.int .i64 first, .map 3, slA 9 ((K).map (arrAV .i64))]])) 9 (slO 4 ((K).map (arrAV .i64)))) (fun r h' => r = .int .i64 (vapply first K op a b).1 ∧ HSub (hput (hput (hput hNone 3 (.map (kvsA .i64 (vmap first ((vapply first K op a b).2))))) 4 (.row false 3 [[.int .i64 first, .map 3, slA 9 (((vapply first K op a b).2).map (arrAV .i64))]])) 9 (slO 4 (((vapply first K op a b).2).map (arrAV .i64)))) h') := by
 refine ACall.of_body (n := 51) tok Tryz.func140 rfl rfl ?_;refine asr ?_;refine aa 8 ?_;refine an ?_;refine asr ?_;refine aQ tok 2 rfl ?_;refine ax 18 (oct (constant_ok first K hf h4 hK a ha) [9, 4, 3] [(3, (.map (kvsA .i64 (vmap first (K))))), (4, (.row false 3 [[.int .i64 first, .map 3, slA 9 ((K).map (arrAV .i64))]])), (9, (slO 4 ((K).map (arrAV .i64))))] rfl Tryz.func139 (by kernel_rfl) rfl rfl rfl ⟨⟨_, rfl, z23q⟩, ⟨_, rfl, z23q⟩, ⟨_, rfl, z23q⟩, trivial⟩ rfl (hres_cons rfl (hres_cons rfl (hres_cons rfl (hres_nil _)))) ⟨⟨_, rfl, rfl, z23q⟩, ⟨_, rfl, rfl, z23q⟩, ⟨_, rfl, rfl, z23q⟩, trivial⟩ rfl) ?_;refine aQ tok 5 rfl ?_;refine an ?_;refine asr ?_;refine aQ tok 2 rfl ?_;refine ax 24 (oct (constant_ok first K hf h4 hK b hb) [9, 4, 3] [(3, (.map (kvsA .i64 (vmap first (K))))), (4, (.row false 3 [[.int .i64 first, .map 3, slA 9 ((K).map (arrAV .i64))]])), (9, (slO 4 ((K).map (arrAV .i64))))] rfl Tryz.func139 (by kernel_rfl) rfl rfl rfl ⟨⟨_, rfl, z23q⟩, ⟨_, rfl, z23q⟩, ⟨_, rfl, z23q⟩, trivial⟩ rfl (hres_cons rfl (hres_cons rfl (hres_cons rfl (hres_nil _)))) ⟨⟨_, rfl, rfl, z23q⟩, ⟨_, rfl, rfl, z23q⟩, ⟨_, rfl, rfl, z23q⟩, trivial⟩ rfl) ?_
 refine aQ tok 5 rfl ?_;refine an ?_;refine asq ?_;refine asr ?_;refine aQ tok 2 rfl ?_;refine aop 28 (fun hb1 => ?_) fun hb1 => ?_
 ·
  refine aQ tok 2 rfl ?_;refine an ?_;refine asp 30 (fun hb2 => ?_) fun hb2 => ?_
  ·
   refine act ?_;refine asr ?_;refine aQ tok 3 rfl ?_;refine ax 35 (opu Tryz.func96 (apply_ok op _ _ (vconst_w first K b).1)) ?_;refine aQ tok 5 rfl ?_;refine an ?_;refine asr ?_;refine aQ tok 2 rfl ?_;refine an ?_;refine asp 39 (fun hb3 => ?_) fun hb3 => ?_
   ·
    refine act ?_;refine asr ?_;refine aQ tok 2 rfl ?_;refine aq 42 (q_convTo tok rfl rfl rfl rfl rfl (r := (wapp op (vconst first K a).1 (vconst first K b).1).1) (by have h := wapp_word (op := op) (vconst_w first K a) (vconst_w first K b); obtain ⟨h1, h2⟩ := h; exact wrap_i64 (by omega) (by omega))) ?_;refine aq 43 (q_build_arr tok rfl rfl rfl rfl rfl rfl (by decide) rfl rfl) ?_;refine ax 44 (oct (number_ok first K hf h4 hK 1 (wapp op (vconst first K a).1 (vconst first K b).1).1 0 0) [9, 4, 3] [(3, (.map (kvsA .i64 (vmap first ((vnum first K [1, (wapp op (vconst first K a).1 (vconst first K b).1).1, 0, 0]).2))))), (4, (.row false 3 [[.int .i64 first, .map 3, slA 9 (((vnum first K [1, (wapp op (vconst first K a).1 (vconst first K b).1).1, 0, 0]).2).map (arrAV .i64))]])), (9, (slO 4 (((vnum first K [1, (wapp op (vconst first K a).1 (vconst first K b).1).1, 0, 0]).2).map (arrAV .i64))))] rfl Tryz.func135 (by kernel_rfl) rfl rfl rfl ⟨⟨_, rfl, z23q⟩, ⟨_, rfl, z23q⟩, ⟨_, rfl, z23q⟩, trivial⟩ rfl (hres_cons rfl (hres_cons rfl (hres_cons rfl (hres_nil _)))) ⟨⟨_, rfl, rfl, z23q⟩, ⟨_, rfl, rfl, z23q⟩, ⟨_, rfl, rfl, z23q⟩, trivial⟩ rfl) ?_
    refine aa 8 ?_;refine an ?_;refine agt ?_
    first
    | (refine ⟨[_], ⟨rfl, trivial⟩, ?_, ?_⟩ <;> rw [vapply_c (by assumption) (by assumption) (by assumption)] <;> first | rfl | exact HSub.put (HSub.put (HSub.put (HSub.none _) rfl) rfl) rfl)
   refine acf ?_;refine agk ?_;refine asr ?_;refine aQ tok 4 rfl ?_;refine aq 49 (q_build_arr tok rfl rfl rfl rfl rfl rfl (by decide) rfl rfl) ?_;refine ax 50 (oct (number_ok first K hf h4 hK 2 op a b) [9, 4, 3] [(3, (.map (kvsA .i64 (vmap first ((vnum first K [2, op, a, b]).2))))), (4, (.row false 3 [[.int .i64 first, .map 3, slA 9 (((vnum first K [2, op, a, b]).2).map (arrAV .i64))]])), (9, (slO 4 (((vnum first K [2, op, a, b]).2).map (arrAV .i64))))] rfl Tryz.func135 (by kernel_rfl) rfl rfl rfl ⟨⟨_, rfl, z23q⟩, ⟨_, rfl, z23q⟩, ⟨_, rfl, z23q⟩, trivial⟩ rfl (hres_cons rfl (hres_cons rfl (hres_cons rfl (hres_nil _)))) ⟨⟨_, rfl, rfl, z23q⟩, ⟨_, rfl, rfl, z23q⟩, ⟨_, rfl, rfl, z23q⟩, trivial⟩ rfl) ?_;refine aa 8 ?_;refine an ?_;refine agt ?_
   first
   | (refine ⟨[_], ⟨rfl, trivial⟩, ?_, ?_⟩ <;> rw [vapply_o1 (by assumption)] <;> first | rfl | exact HSub.put (HSub.put (HSub.put (HSub.none _) rfl) rfl) rfl)
   | (refine ⟨[_], ⟨rfl, trivial⟩, ?_, ?_⟩ <;> rw [vapply_o2 (by assumption)] <;> first | rfl | exact HSub.put (HSub.put (HSub.put (HSub.none _) rfl) rfl) rfl)
   | (refine ⟨[_], ⟨rfl, trivial⟩, ?_, ?_⟩ <;> rw [vapply_o3 (by assumption)] <;> first | rfl | exact HSub.put (HSub.put (HSub.put (HSub.none _) rfl) rfl) rfl)
  refine acf ?_;refine agk ?_;refine asr ?_;refine aQ tok 4 rfl ?_;refine aq 49 (q_build_arr tok rfl rfl rfl rfl rfl rfl (by decide) rfl rfl) ?_;refine ax 50 (oct (number_ok first K hf h4 hK 2 op a b) [9, 4, 3] [(3, (.map (kvsA .i64 (vmap first ((vnum first K [2, op, a, b]).2))))), (4, (.row false 3 [[.int .i64 first, .map 3, slA 9 (((vnum first K [2, op, a, b]).2).map (arrAV .i64))]])), (9, (slO 4 (((vnum first K [2, op, a, b]).2).map (arrAV .i64))))] rfl Tryz.func135 (by kernel_rfl) rfl rfl rfl ⟨⟨_, rfl, z23q⟩, ⟨_, rfl, z23q⟩, ⟨_, rfl, z23q⟩, trivial⟩ rfl (hres_cons rfl (hres_cons rfl (hres_cons rfl (hres_nil _)))) ⟨⟨_, rfl, rfl, z23q⟩, ⟨_, rfl, rfl, z23q⟩, ⟨_, rfl, rfl, z23q⟩, trivial⟩ rfl) ?_;refine aa 8 ?_;refine an ?_;refine agt ?_
  first
  | (refine ⟨[_], ⟨rfl, trivial⟩, ?_, ?_⟩ <;> rw [vapply_o1 (by assumption)] <;> first | rfl | exact HSub.put (HSub.put (HSub.put (HSub.none _) rfl) rfl) rfl)
  | (refine ⟨[_], ⟨rfl, trivial⟩, ?_, ?_⟩ <;> rw [vapply_o2 (by assumption)] <;> first | rfl | exact HSub.put (HSub.put (HSub.put (HSub.none _) rfl) rfl) rfl)
  | (refine ⟨[_], ⟨rfl, trivial⟩, ?_, ?_⟩ <;> rw [vapply_o3 (by assumption)] <;> first | rfl | exact HSub.put (HSub.put (HSub.put (HSub.none _) rfl) rfl) rfl)
 refine aQ tok 2 rfl ?_;refine an ?_;refine acf ?_;refine agk ?_;refine asr ?_;refine aQ tok 4 rfl ?_;refine aq 49 (q_build_arr tok rfl rfl rfl rfl rfl rfl (by decide) rfl rfl) ?_;refine ax 50 (oct (number_ok first K hf h4 hK 2 op a b) [9, 4, 3] [(3, (.map (kvsA .i64 (vmap first ((vnum first K [2, op, a, b]).2))))), (4, (.row false 3 [[.int .i64 first, .map 3, slA 9 (((vnum first K [2, op, a, b]).2).map (arrAV .i64))]])), (9, (slO 4 (((vnum first K [2, op, a, b]).2).map (arrAV .i64))))] rfl Tryz.func135 (by kernel_rfl) rfl rfl rfl ⟨⟨_, rfl, z23q⟩, ⟨_, rfl, z23q⟩, ⟨_, rfl, z23q⟩, trivial⟩ rfl (hres_cons rfl (hres_cons rfl (hres_cons rfl (hres_nil _)))) ⟨⟨_, rfl, rfl, z23q⟩, ⟨_, rfl, rfl, z23q⟩, ⟨_, rfl, rfl, z23q⟩, trivial⟩ rfl) ?_;refine aa 8 ?_;refine an ?_;refine agt ?_
 first
 | (refine ⟨[_], ⟨rfl, trivial⟩, ?_, ?_⟩ <;> rw [vapply_o1 (by assumption)] <;> first | rfl | exact HSub.put (HSub.put (HSub.put (HSub.none _) rfl) rfl) rfl)
 | (refine ⟨[_], ⟨rfl, trivial⟩, ?_, ?_⟩ <;> rw [vapply_o2 (by assumption)] <;> first | rfl | exact HSub.put (HSub.put (HSub.put (HSub.none _) rfl) rfl) rfl)
 | (refine ⟨[_], ⟨rfl, trivial⟩, ?_, ?_⟩ <;> rw [vapply_o3 (by assumption)] <;> first | rfl | exact HSub.put (HSub.put (HSub.put (HSub.none _) rfl) rfl) rfl)
theorem happensb_ok (first : Int) (R m : Nat) (w : VW) (h : VOk first R m w) (hm : m ≤ 90000) (t : Tac) (a b : Int) : ACall Tryz.prog 137 [.ptr 8 1 0 0, .agg t.cells, .int .i64 a, .int .i64 b] (hput (hput (hput (hput (hput (hput hNew 3 (.map (kvsA .i64 (vmap first ((w).K))))) 4 (.row false 3 [[.int .i64 first, .map 3, slA 9 (((w).K).map (arrAV .i64))]])) 9 (slO 4 (((w).K).map (arrAV .i64)))) 8 (.row false 4 [[.ptr 4 1 0 0, vaA 7 (valC ((w).vals)), slA 11 (((w).effs).map (arrAV .i64)), .int .i64 ((w).time)]])) 7 (vaO (valC ((w).vals)))) 11 (slO 6 (((w).effs).map (arrAV .i64)))) (fun r h' => r = .tup [] ∧ HSub (hput (hput (hput (hput (hput (hput hNone 3 (.map (kvsA .i64 (vmap first (((w.hap t a b)).K))))) 4 (.row false 3 [[.int .i64 first, .map 3, slA 9 ((((w.hap t a b)).K).map (arrAV .i64))]])) 9 (slO 4 ((((w.hap t a b)).K).map (arrAV .i64)))) 8 (.row false 4 [[.ptr 4 1 0 0, vaA 7 (valC (((w.hap t a b)).vals)), slA 11 ((((w.hap t a b)).effs).map (arrAV .i64)), .int .i64 (((w.hap t a b)).time)]])) 7 (vaO (valC (((w.hap t a b)).vals)))) 11 (slO 6 ((((w.hap t a b)).effs).map (arrAV .i64)))) h') := by
 have hel := h.el
 refine ACall.of_body (n := 26) tok Tryz.func137 rfl rfl ?_;refine asr ?_;refine ax 5 (obx 8 12) ?_;refine an ?_;refine AGo.draw mix ?_;refine dQ tok 13 rfl ?_;refine dq 21 (q_build_arr tok rfl rfl rfl rfl rfl rfl (by decide) rfl rfl) ?_;refine dx 22 (o_lit' tok rfl rfl rfl rfl rfl rfl (by decide) rfl rfl rfl rfl rfl rfl) ?_;refine dx 23 (o_append1J tok (b := 11) (es := ((w.effs).map (arrAV .i64))) rfl rfl rfl rfl rfl rfl rfl rfl rfl rfl rfl (Nat.zero_lt_succ _) (arr_len h.e6) (arr_pure _) rfl rfl z39q z34q) ?_;refine dQ tok 2 rfl ?_;refine DOps.w rfl rfl (o_store1 tok rfl rfl rfl rfl rfl rfl rfl rfl rfl (slA_cells _ _) (by decide) (slA_cell1 _ _) (by intro h; cases h)) ?_;refine DOps.nil (by kernel_rfl) ?_;refine ⟨[], trivial, rfl, ?_⟩
 exact HSub.put (HSub.put (HSub.put (HSub.put (HSub.put (HSub.put (HSub.none _) rfl) rfl) rfl) (by show _ = some (AObj.row false 4 [[.ptr 4 1 0 0, vaA 7 (valC (w.vals)), slA 11 ((w.effs ++ [_]).map (arrAV .i64)), .int .i64 w.time]]); rw [List.map_append]; rfl)) rfl) (by show _ = some (slO 6 ((w.effs ++ [_]).map (arrAV .i64))); rw [List.map_append]; rfl)
theorem unknownb_ok (first : Int) (R m : Nat) (w : VW) (h : VOk first R m w) (hm : m ≤ 90000) : ACall Tryz.prog 138 [.ptr 8 1 0 0] (hput (hput (hput (hput (hput (hput hNew 3 (.map (kvsA .i64 (vmap first ((w).K))))) 4 (.row false 3 [[.int .i64 first, .map 3, slA 9 (((w).K).map (arrAV .i64))]])) 9 (slO 4 (((w).K).map (arrAV .i64)))) 8 (.row false 4 [[.ptr 4 1 0 0, vaA 7 (valC ((w).vals)), slA 11 (((w).effs).map (arrAV .i64)), .int .i64 ((w).time)]])) 7 (vaO (valC ((w).vals)))) 11 (slO 6 (((w).effs).map (arrAV .i64)))) (fun r h' => r = .int .i64 (vunk first w).1 ∧ HSub (hput (hput (hput (hput (hput (hput hNone 3 (.map (kvsA .i64 (vmap first ((vunk first w).2))))) 4 (.row false 3 [[.int .i64 first, .map 3, slA 9 (((vunk first w).2).map (arrAV .i64))]])) 9 (slO 4 (((vunk first w).2).map (arrAV .i64)))) 8 (.row false 4 [[.ptr 4 1 0 0, vaA 7 (valC ((w).vals)), slA 11 (((w).effs).map (arrAV .i64)), .int .i64 ((w).time)]])) 7 (vaO (valC ((w).vals)))) 11 (slO 6 (((w).effs).map (arrAV .i64)))) h') := by
 have hkl := h.kl
 refine ACall.of_body (n := 14) tok Tryz.func138 rfl rfl ?_;refine asr ?_;refine aa 2 ?_;refine an ?_;refine asq ?_;refine AGo.draw mix ?_;refine dQ tok 8 rfl ?_;refine dq 11 (q_lenJ tok rfl rfl rfl rfl) ?_;refine dq 12 (q_build_arr tok rfl rfl rfl rfl rfl rfl (by decide) rfl rfl) ?_;refine dx 13 (oct ((by rw [List.length_map]; exact number_ok first w.K h.f h.k4 (by omega) 4 (w.effs.length : Int) 0 0)) [9, 4, 3] [(3, (.map (kvsA .i64 (vmap first ((vunk first w).2))))), (4, (.row false 3 [[.int .i64 first, .map 3, slA 9 (((vunk first w).2).map (arrAV .i64))]])), (9, (slO 4 (((vunk first w).2).map (arrAV .i64))))] rfl Tryz.func135 (by kernel_rfl) rfl rfl rfl ⟨⟨_, rfl, z23q⟩, ⟨_, rfl, z23q⟩, ⟨_, rfl, z23q⟩, trivial⟩ rfl (hres_cons rfl (hres_cons rfl (hres_cons rfl (hres_nil _)))) ⟨⟨_, rfl, rfl, z23q⟩, ⟨_, rfl, rfl, z23q⟩, ⟨_, rfl, rfl, z23q⟩, trivial⟩ rfl) ?_;refine da 2 ?_;refine DOps.nil (by kernel_rfl) ?_
 refine agt ?_;refine ⟨[_], ⟨rfl, trivial⟩, rfl, ?_⟩
 exact HSub.put (HSub.put (HSub.put (HSub.put (HSub.put (HSub.put (HSub.none _) rfl) rfl) rfl) rfl) rfl) rfl
theorem bin_db (first : Int) (w : VW) (t : Tac) : w.bin first t = ⟨(vapply first w.K t.k (rget w.vals t.a) (rget w.vals t.b)).2, rset w.vals t.d (vapply first w.K t.k (rget w.vals t.a) (rget w.vals t.b)).1, (w.div first t).effs, w.time⟩ := by
  cases hr : vrisky first w t with
  | true => rw [bin_yes hr]; simp only [VW.div, hr, cond_true]
  | false => rw [bin_no hr]; simp only [VW.div, hr, cond_false]
theorem binaryb_ok (first : Int) (R m : Nat) (w : VW) (h : VOk first R m w) (hm : m ≤ 90000) (t : Tac) (hd : 0 ≤ t.d ∧ t.d < R) (ha : 0 ≤ t.a ∧ t.a < R) (hb : 0 ≤ t.b ∧ t.b < R) : ACall Tryz.prog 136 [.ptr 8 1 0 0, .agg t.cells] (hput (hput (hput (hput (hput (hput hNew 3 (.map (kvsA .i64 (vmap first ((w).K))))) 4 (.row false 3 [[.int .i64 first, .map 3, slA 9 (((w).K).map (arrAV .i64))]])) 9 (slO 4 (((w).K).map (arrAV .i64)))) 8 (.row false 4 [[.ptr 4 1 0 0, vaA 7 (valC ((w).vals)), slA 11 (((w).effs).map (arrAV .i64)), .int .i64 ((w).time)]])) 7 (vaO (valC ((w).vals)))) 11 (slO 6 (((w).effs).map (arrAV .i64)))) (fun r h' => r = .tup [] ∧ HSub (hput (hput (hput (hput (hput (hput hNone 3 (.map (kvsA .i64 (vmap first (((w.bin first t)).K))))) 4 (.row false 3 [[.int .i64 first, .map 3, slA 9 ((((w.bin first t)).K).map (arrAV .i64))]])) 9 (slO 4 ((((w.bin first t)).K).map (arrAV .i64)))) 8 (.row false 4 [[.ptr 4 1 0 0, vaA 7 (valC (((w.bin first t)).vals)), slA 11 ((((w.bin first t)).effs).map (arrAV .i64)), .int .i64 (((w.bin first t)).time)]])) 7 (vaO (valC (((w.bin first t)).vals)))) 11 (slO 6 ((((w.bin first t)).effs).map (arrAV .i64)))) h') := by
 have hel := h.el
 have hkl := h.kl
 have hxd := h.at hd
 have hxa := h.at ha
 have hxb := h.at hb
 refine ACall.of_body (n := 77) tok Tryz.func136 rfl rfl ?_;refine asr ?_;refine ax 3 (obx 8 12) ?_;refine an ?_;refine asq ?_;refine AGo.draw mix ?_;refine dQ tok 6 rfl ?_;refine dq 14 (q_indexV tok rfl rfl rfl rfl rfl rfl rfl rfl hxa.1 hxa.2.2.1) ?_;refine dq 15 (q_load tok rfl rfl rfl (ptsV rfl (valC_get ⟨hxa.1, hxa.2.1⟩)) rfl) ?_;refine dQ tok 6 rfl ?_;refine dq 22 (q_indexV tok rfl rfl rfl rfl rfl rfl rfl rfl hxb.1 hxb.2.2.1) ?_;refine dq 23 (q_load tok rfl rfl rfl (ptsV rfl (valC_get ⟨hxb.1, hxb.2.1⟩)) rfl) ?_;refine dQ tok 2 rfl ?_;refine DOps.nil (by kernel_rfl) ?_;refine asq ?_;refine asq ?_;refine AGo.join (γ := Unit) (fun _u => ⟨77, (eput (eput (eput (eput (eput eNew 0 (.ptr 8 1 0 0)) 3 (.ptr 12 1 0 0)) 4 (.int .i64 (rget w.vals t.a))) 5 (.int .i64 (rget w.vals t.b))) 31 (.bool (t.k == 7 || t.k == 8))), (hput (hput (hput (hput (hput (hput (hput (hFrom 13) 12 (.row false 8 [t.cells])) 3 (.map (kvsA .i64 (vmap first ((w).K))))) 4 (.row false 3 [[.int .i64 first, .map 3, slA 9 (((w).K).map (arrAV .i64))]])) 9 (slO 4 (((w).K).map (arrAV .i64)))) 8 (.row false 4 [[.ptr 4 1 0 0, vaA 7 (valC ((w).vals)), slA 11 (((w).effs).map (arrAV .i64)), .int .i64 ((w).time)]])) 7 (vaO (valC ((w).vals)))) 11 (slO 6 (((w).effs).map (arrAV .i64))))⟩) (fun _u => True) ?_ ?_
 ·
  refine agr ?_;refine aQ tok 4 rfl ?_;refine aop 27 (fun hb1 => ?_) fun hb1 => ?_
  ·
   refine aQ tok 4 rfl ?_;refine an ?_;exact ⟨(), Sub.mk' z21q z9q, trivial⟩
  refine aQ tok 4 rfl ?_;refine an ?_;exact ⟨(), Sub.mk' z21q z9q, trivial⟩
 intro _u _
 refine AGo.join (γ := Unit) (fun _u => ⟨77, (eput (eput (eput (eput eNew 0 (.ptr 8 1 0 0)) 3 (.ptr 12 1 0 0)) 4 (.int .i64 (rget w.vals t.a))) 5 (.int .i64 (rget w.vals t.b))), (hput (hput (hput (hput (hput (hput (hput (hFrom 13) 12 (.row false 8 [t.cells])) 3 (.map (kvsA .i64 (vmap first (w.K))))) 4 (.row false 3 [[.int .i64 first, .map 3, slA 9 ((w.K).map (arrAV .i64))]])) 9 (slO 4 ((w.K).map (arrAV .i64)))) 8 (.row false 4 [[.ptr 4 1 0 0, vaA 7 (valC ((w).vals)), slA 11 (((w.div first t).effs).map (arrAV .i64)), .int .i64 (w.time)]])) 7 (vaO (valC ((w).vals)))) 11 (slO 6 (((w.div first t).effs).map (arrAV .i64))))⟩) (fun _u => True) ?_ ?_
 ·
  refine asp 31 (fun hb2 => ?_) fun hb2 => ?_
  ·
   refine act ?_;refine asr ?_;refine aQ tok 5 rfl ?_;refine ax 38 (oct (constant_ok first w.K h.f h.k4 (by omega) (rget w.vals t.b) hxb.2.2.2) [9, 4, 3] [(3, (.map (kvsA .i64 (vmap first (w.K))))), (4, (.row false 3 [[.int .i64 first, .map 3, slA 9 ((w.K).map (arrAV .i64))]])), (9, (slO 4 ((w.K).map (arrAV .i64))))] rfl Tryz.func139 (by kernel_rfl) rfl rfl rfl ⟨⟨_, rfl, z23q⟩, ⟨_, rfl, z23q⟩, ⟨_, rfl, z23q⟩, trivial⟩ rfl (hres_cons rfl (hres_cons rfl (hres_cons rfl (hres_nil _)))) ⟨⟨_, rfl, rfl, z23q⟩, ⟨_, rfl, rfl, z23q⟩, ⟨_, rfl, rfl, z23q⟩, trivial⟩ rfl) ?_;refine aQ tok 5 rfl ?_;refine an ?_;refine asr ?_;refine aQ tok 3 rfl ?_;refine aop 43 (fun hb3 => ?_) fun hb3 => ?_
   ·
    refine aQ tok 3 rfl ?_;refine an ?_;refine act ?_;refine AGo.draw mix ?_;refine dQ tok 9 rfl ?_;refine dq 56 (q_build_arr tok rfl rfl rfl rfl rfl rfl (by decide) rfl rfl) ?_;refine dx 57 (o_lit' tok rfl rfl rfl rfl rfl rfl (by decide) rfl rfl rfl rfl rfl rfl) ?_;refine dx 58 (o_append1J tok (b := 11) (es := ((w.effs).map (arrAV .i64))) rfl rfl rfl rfl rfl rfl rfl rfl rfl rfl rfl (Nat.zero_lt_succ _) (arr_len h.e6) (arr_pure _) rfl rfl z39q z34q) ?_;refine dQ tok 2 rfl ?_;refine DOps.w rfl rfl (o_store1 tok rfl rfl rfl rfl rfl rfl rfl rfl rfl (slA_cells _ _) (by decide) (slA_cell1 _ _) (by intro h; cases h)) ?_;refine DOps.nil (by kernel_rfl) ?_;exact ⟨(), Sub.mk' z29q z1q, trivial⟩
   refine aQ tok 3 rfl ?_;refine an ?_;refine asp 46 (fun hb4 => ?_) fun hb4 => ?_
   ·
    refine act ?_;refine AGo.draw mix ?_;refine dQ tok 9 rfl ?_;refine dq 56 (q_build_arr tok rfl rfl rfl rfl rfl rfl (by decide) rfl rfl) ?_;refine dx 57 (o_lit' tok rfl rfl rfl rfl rfl rfl (by decide) rfl rfl rfl rfl rfl rfl) ?_;refine dx 58 (o_append1J tok (b := 11) (es := ((w.effs).map (arrAV .i64))) rfl rfl rfl rfl rfl rfl rfl rfl rfl rfl rfl (Nat.zero_lt_succ _) (arr_len h.e6) (arr_pure _) rfl rfl z39q z34q) ?_;refine dQ tok 2 rfl ?_;refine DOps.w rfl rfl (o_store1 tok rfl rfl rfl rfl rfl rfl rfl rfl rfl (slA_cells _ _) (by decide) (slA_cell1 _ _) (by intro h; cases h)) ?_;refine DOps.nil (by kernel_rfl) ?_;exact ⟨(), Sub.mk' z29q z1q, trivial⟩
   refine acf ?_;refine agk ?_;exact ⟨(), Sub.mk' z29q z1q, trivial⟩
  refine acf ?_;refine agk ?_;exact ⟨(), Sub.mk' z29q z1q, trivial⟩
 intro _u _
 refine AGo.draw mix ?_;refine dQ tok 14 rfl ?_;refine dx 75 (oct (vapply_ok' first w.K h.f h.k4 (by omega) t.k (rget w.vals t.a) (rget w.vals t.b) hxa.2.2.2 hxb.2.2.2) [9, 4, 3] [(3, (.map (kvsA .i64 (vmap first ((vapply first w.K t.k (rget w.vals t.a) (rget w.vals t.b)).2))))), (4, (.row false 3 [[.int .i64 first, .map 3, slA 9 (((vapply first w.K t.k (rget w.vals t.a) (rget w.vals t.b)).2).map (arrAV .i64))]])), (9, (slO 4 (((vapply first w.K t.k (rget w.vals t.a) (rget w.vals t.b)).2).map (arrAV .i64))))] rfl Tryz.func140 (by kernel_rfl) rfl rfl rfl ⟨⟨_, rfl, z23q⟩, ⟨_, rfl, z23q⟩, ⟨_, rfl, z23q⟩, trivial⟩ rfl (hres_cons rfl (hres_cons rfl (hres_cons rfl (hres_nil _)))) ⟨⟨_, rfl, rfl, z23q⟩, ⟨_, rfl, rfl, z23q⟩, ⟨_, rfl, rfl, z23q⟩, trivial⟩ rfl) ?_;refine dq 76 (q_indexV tok rfl rfl rfl rfl rfl rfl rfl rfl hxd.1 hxd.2.2.1) ?_;refine DOps.w rfl rfl (o_storeV tok rfl rfl rfl rfl rfl rfl rfl z36q (valC_one _) rfl rfl rfl) ?_
 refine DOps.nil (by kernel_rfl) ?_;refine ⟨[], trivial, rfl, ?_⟩
 rw [bin_db]
 exact HSub.put (HSub.put (HSub.put (HSub.put (HSub.put (HSub.put (HSub.none _) rfl) rfl) rfl) (by show _ = some (AObj.row false 4 [[.ptr 4 1 0 0, vaA 7 (valC (rset w.vals t.d _)), slA 11 ((w.div first t).effs.map (arrAV .i64)), .int .i64 w.time]]); rw [valC_vaA]; rfl)) z28q) rfl
theorem vstepb_ok (first : Int) (R m : Nat) (w : VW) (h : VOk first R m w) (hm : m ≤ 80000) (t : Tac) (ht : TacV t R) : ACall Tryz.prog 133 [.ptr 8 1 0 0, .agg t.cells] (hput (hput (hput (hput (hput (hput hNew 3 (.map (kvsA .i64 (vmap first ((w).K))))) 4 (.row false 3 [[.int .i64 first, .map 3, slA 9 (((w).K).map (arrAV .i64))]])) 9 (slO 4 (((w).K).map (arrAV .i64)))) 8 (.row false 4 [[.ptr 4 1 0 0, vaA 7 (valC ((w).vals)), slA 11 (((w).effs).map (arrAV .i64)), .int .i64 ((w).time)]])) 7 (vaO (valC ((w).vals)))) 11 (slO 6 (((w).effs).map (arrAV .i64)))) (fun r h' => r = .tup [] ∧ HSub (hput (hput (hput (hput (hput (hput hNone 3 (.map (kvsA .i64 (vmap first (((w.step first t)).K))))) 4 (.row false 3 [[.int .i64 first, .map 3, slA 9 ((((w.step first t)).K).map (arrAV .i64))]])) 9 (slO 4 ((((w.step first t)).K).map (arrAV .i64)))) 8 (.row false 4 [[.ptr 4 1 0 0, vaA 7 (valC (((w.step first t)).vals)), slA 11 ((((w.step first t)).effs).map (arrAV .i64)), .int .i64 (((w.step first t)).time)]])) 7 (vaO (valC (((w.step first t)).vals)))) 11 (slO 6 ((((w.step first t)).effs).map (arrAV .i64)))) h') := by
 have hel := h.el
 have hkl := h.kl
 have htl := h.tl
 refine ACall.of_body (n := 148) tok Tryz.func133 rfl rfl ?_;refine asr ?_;refine ax 3 (obx 8 12) ?_;refine an ?_;refine asr ?_;refine aQ tok 5 rfl ?_;refine an ?_;refine asr ?_;refine aQ tok 2 rfl ?_;refine an ?_;refine AGo.block ?_;refine asr ?_;refine aQ tok 2 rfl ?_;refine an ?_;refine asp 11 (fun hb1 => ?_) fun hb1 => ?_
 ·
  refine act ?_
  have ho : t.op = 1 := by simpa using hb1
  have hxd := h.at (ht.d (by rw [ho]; rfl))
  
  refine AGo.draw mix ?_;refine dQ tok 9 rfl ?_;refine dq 22 (q_convTo tok rfl rfl rfl rfl rfl (r := t.n) (by obtain ⟨h1, h2⟩ := ht.n; exact wrap_i64 (by omega) (by omega))) ?_;refine dq 23 (q_build_arr tok rfl rfl rfl rfl rfl rfl (by decide) rfl rfl) ?_;refine dx 24 (oct (number_ok first w.K h.f h.k4 (by omega) (1) (t.n) (0) (0)) [9, 4, 3] [(3, (.map (kvsA .i64 (vmap first ((vnum first w.K [1, t.n, 0, 0]).2))))), (4, (.row false 3 [[.int .i64 first, .map 3, slA 9 (((vnum first w.K [1, t.n, 0, 0]).2).map (arrAV .i64))]])), (9, (slO 4 (((vnum first w.K [1, t.n, 0, 0]).2).map (arrAV .i64))))] rfl Tryz.func135 (by kernel_rfl) rfl rfl rfl ⟨⟨_, rfl, z23q⟩, ⟨_, rfl, z23q⟩, ⟨_, rfl, z23q⟩, trivial⟩ rfl (hres_cons rfl (hres_cons rfl (hres_cons rfl (hres_nil _)))) ⟨⟨_, rfl, rfl, z23q⟩, ⟨_, rfl, rfl, z23q⟩, ⟨_, rfl, rfl, z23q⟩, trivial⟩ rfl) ?_;refine dq 25 (q_indexV tok rfl rfl rfl rfl rfl rfl rfl rfl hxd.1 hxd.2.2.1) ?_
  refine DOps.w rfl rfl (o_storeV tok rfl rfl rfl rfl rfl rfl rfl z36q (valC_one _) rfl rfl rfl) ?_;refine DOps.nil (by kernel_rfl) ?_;refine ⟨[], trivial, rfl, ?_⟩
  rw [vstep1 ho]
  exact HSub.put (HSub.put (HSub.put (HSub.put (HSub.put (HSub.put (HSub.none _) rfl) rfl) rfl) z16q) z28q) rfl
 refine acf ?_;refine asr ?_;refine aQ tok 2 rfl ?_;refine an ?_;refine asp 26 (fun hb2 => ?_) fun hb2 => ?_
 ·
  refine act ?_
  have ho : t.op = 2 := by simpa using hb2
  have hxd := h.at (ht.d (by rw [ho]; rfl))
  have hxa := h.at (ht.a (.inl (by rw [ho]; rfl)))
   
  refine AGo.draw mix ?_;refine dQ tok 6 rfl ?_;refine dq 34 (q_indexV tok rfl rfl rfl rfl rfl rfl rfl rfl hxa.1 hxa.2.2.1) ?_;refine dq 35 (q_load tok rfl rfl rfl (ptsV rfl (valC_get ⟨hxa.1, hxa.2.1⟩)) rfl) ?_;refine dq 36 (q_indexV tok rfl rfl rfl rfl rfl rfl rfl rfl hxd.1 hxd.2.2.1) ?_;refine DOps.w rfl rfl (o_storeV tok rfl rfl rfl rfl rfl rfl rfl z36q (valC_one _) rfl rfl rfl) ?_;refine DOps.nil (by kernel_rfl) ?_;refine ⟨[], trivial, rfl, ?_⟩
  rw [vstep2 ho]
  exact HSub.put (HSub.put (HSub.put (HSub.put (HSub.put (HSub.put (HSub.none _) rfl) rfl) rfl) z16q) z28q) rfl
 refine acf ?_;refine asr ?_;refine aQ tok 2 rfl ?_;refine an ?_;refine asp 37 (fun hb3 => ?_) fun hb3 => ?_
 ·
  refine act ?_
  have ho : t.op = 3 := by simpa using hb3
    
  refine agr ?_;refine aQ tok 2 rfl ?_;refine ax 41 (oct (binaryb_ok first R m w h (by omega) t (ht.d (by rw [ho]; rfl)) (ht.a (.inr (by rw [ho]; rfl))) (ht.b (by rw [ho]; rfl))) [11, 7, 8, 9, 4, 3] [(3, (.map (kvsA .i64 (vmap first (((w.bin first t)).K))))), (4, (.row false 3 [[.int .i64 first, .map 3, slA 9 ((((w.bin first t)).K).map (arrAV .i64))]])), (9, (slO 4 ((((w.bin first t)).K).map (arrAV .i64)))), (8, (.row false 4 [[.ptr 4 1 0 0, vaA 7 (valC (((w.bin first t)).vals)), slA 11 ((((w.bin first t)).effs).map (arrAV .i64)), .int .i64 (((w.bin first t)).time)]])), (7, (vaO (valC (((w.bin first t)).vals)))), (11, (slO 6 ((((w.bin first t)).effs).map (arrAV .i64))))] rfl Tryz.func136 (by kernel_rfl) rfl rfl rfl ⟨⟨_, rfl, z23q⟩, ⟨_, rfl, z23q⟩, ⟨_, rfl, z23q⟩, ⟨_, rfl, z23q⟩, ⟨_, rfl, z23q⟩, ⟨_, rfl, z23q⟩, trivial⟩ rfl (hres_cons rfl (hres_cons rfl (hres_cons rfl (hres_cons rfl (hres_cons rfl (hres_cons rfl (hres_nil _))))))) ⟨⟨_, rfl, rfl, z23q⟩, ⟨_, rfl, rfl, z23q⟩, ⟨_, rfl, rfl, z23q⟩, ⟨_, rfl, rfl, z23q⟩, ⟨_, rfl, rfl, z23q⟩, ⟨_, rfl, rfl, z23q⟩, trivial⟩ rfl) ?_
  refine an ?_;refine ⟨[], trivial, rfl, ?_⟩
  rw [vstep3 ho]
  exact HSub.put (HSub.put (HSub.put (HSub.put (HSub.put (HSub.put (HSub.none _) rfl) rfl) rfl) rfl) rfl) rfl
 refine acf ?_;refine asr ?_;refine aQ tok 2 rfl ?_;refine an ?_;refine asp 42 (fun hb4 => ?_) fun hb4 => ?_
 ·
  refine act ?_
  have ho : t.op = 4 := by simpa using hb4
  have hxd := h.at (ht.d (by rw [ho]; rfl))
     
  refine AGo.draw mix ?_;refine dQ tok 13 rfl ?_;refine dq 57 (q_build_arr tok rfl rfl rfl rfl rfl rfl (by decide) rfl rfl) ?_;refine dx 58 (oct (number_ok first w.K h.f h.k4 (by omega) (3) (t.base) (w.time) (0)) [9, 4, 3] [(3, (.map (kvsA .i64 (vmap first ((vnum first w.K [3, t.base, w.time, 0]).2))))), (4, (.row false 3 [[.int .i64 first, .map 3, slA 9 (((vnum first w.K [3, t.base, w.time, 0]).2).map (arrAV .i64))]])), (9, (slO 4 (((vnum first w.K [3, t.base, w.time, 0]).2).map (arrAV .i64))))] rfl Tryz.func135 (by kernel_rfl) rfl rfl rfl ⟨⟨_, rfl, z23q⟩, ⟨_, rfl, z23q⟩, ⟨_, rfl, z23q⟩, trivial⟩ rfl (hres_cons rfl (hres_cons rfl (hres_cons rfl (hres_nil _)))) ⟨⟨_, rfl, rfl, z23q⟩, ⟨_, rfl, rfl, z23q⟩, ⟨_, rfl, rfl, z23q⟩, trivial⟩ rfl) ?_;refine dq 59 (q_indexV tok rfl rfl rfl rfl rfl rfl rfl rfl hxd.1 hxd.2.2.1) ?_;refine DOps.w rfl rfl (o_storeV tok rfl rfl rfl rfl rfl rfl rfl z36q (valC_one _) rfl rfl rfl) ?_
  refine DOps.nil (by kernel_rfl) ?_;refine ⟨[], trivial, rfl, ?_⟩
  rw [vstep4 ho]
  exact HSub.put (HSub.put (HSub.put (HSub.put (HSub.put (HSub.put (HSub.none _) rfl) rfl) rfl) z16q) z28q) rfl
 refine acf ?_;refine asr ?_;refine aQ tok 2 rfl ?_;refine an ?_;refine asp 60 (fun hb5 => ?_) fun hb5 => ?_
 ·
  refine act ?_
  have ho : t.op = 5 := by simpa using hb5
  have hxa := h.at (ht.a (.inl (by rw [ho]; rfl)))
      
  refine asq ?_;refine AGo.draw mix ?_;refine dQ tok 5 rfl ?_;refine dq 67 (q_indexV tok rfl rfl rfl rfl rfl rfl rfl rfl hxa.1 hxa.2.2.1) ?_;refine dq 68 (q_load tok rfl rfl rfl (ptsV rfl (valC_get ⟨hxa.1, hxa.2.1⟩)) rfl) ?_;refine dx 69 (oct (happensb_ok first R m w h (by omega) t (rget w.vals t.a) 0) [11, 7, 8, 9, 4, 3] [(3, (.map (kvsA .i64 (vmap first (((w.hap t (rget w.vals t.a) 0)).K))))), (4, (.row false 3 [[.int .i64 first, .map 3, slA 9 ((((w.hap t (rget w.vals t.a) 0)).K).map (arrAV .i64))]])), (9, (slO 4 ((((w.hap t (rget w.vals t.a) 0)).K).map (arrAV .i64)))), (8, (.row false 4 [[.ptr 4 1 0 0, vaA 7 (valC (((w.hap t (rget w.vals t.a) 0)).vals)), slA 11 ((((w.hap t (rget w.vals t.a) 0)).effs).map (arrAV .i64)), .int .i64 (((w.hap t (rget w.vals t.a) 0)).time)]])), (7, (vaO (valC (((w.hap t (rget w.vals t.a) 0)).vals)))), (11, (slO 6 ((((w.hap t (rget w.vals t.a) 0)).effs).map (arrAV .i64))))] rfl Tryz.func137 (by kernel_rfl) rfl rfl rfl ⟨⟨_, rfl, z23q⟩, ⟨_, rfl, z23q⟩, ⟨_, rfl, z23q⟩, ⟨_, rfl, z23q⟩, ⟨_, rfl, z23q⟩, ⟨_, rfl, z23q⟩, trivial⟩ rfl (hres_cons rfl (hres_cons rfl (hres_cons rfl (hres_cons rfl (hres_cons rfl (hres_cons rfl (hres_nil _))))))) ⟨⟨_, rfl, rfl, z23q⟩, ⟨_, rfl, rfl, z23q⟩, ⟨_, rfl, rfl, z23q⟩, ⟨_, rfl, rfl, z23q⟩, ⟨_, rfl, rfl, z23q⟩, ⟨_, rfl, rfl, z23q⟩, trivial⟩ rfl) ?_
  refine DOps.nil (by kernel_rfl) ?_;refine agr ?_;refine aQ tok 4 rfl ?_;refine aq 74 (q_bin (r := .int .i64 (w.time + 1)) rfl rfl rfl (by exact timeZ (x := w.time) (by omega))) ?_;refine aQ tok 2 rfl ?_;refine AOps.w rfl rfl (o_store tok rfl rfl rfl rfl rfl rfl rfl rfl rfl (by decide) rfl z33q) ?_;refine an ?_;refine ⟨[], trivial, rfl, ?_⟩
  rw [vstep5 ho]
  exact HSub.put (HSub.put (HSub.put (HSub.put (HSub.put (HSub.put (HSub.none _) rfl) rfl) rfl) rfl) rfl) rfl
 refine acf ?_;refine asr ?_;refine aQ tok 2 rfl ?_;refine an ?_;refine asp 77 (fun hb6 => ?_) fun hb6 => ?_
 ·
  refine act ?_
  have ho : t.op = 6 := by simpa using hb6
  have hxd := h.at (ht.d (by rw [ho]; rfl))
  have hxa := h.at (ht.a (.inl (by rw [ho]; rfl)))
       
  refine asq ?_;refine AGo.draw mix ?_;refine dQ tok 5 rfl ?_;refine dq 84 (q_indexV tok rfl rfl rfl rfl rfl rfl rfl rfl hxa.1 hxa.2.2.1) ?_;refine dq 85 (q_load tok rfl rfl rfl (ptsV rfl (valC_get ⟨hxa.1, hxa.2.1⟩)) rfl) ?_;refine dx 86 (oct (happensb_ok first R m w h (by omega) t (rget w.vals t.a) 0) [11, 7, 8, 9, 4, 3] [(3, (.map (kvsA .i64 (vmap first (((w.hap t (rget w.vals t.a) 0)).K))))), (4, (.row false 3 [[.int .i64 first, .map 3, slA 9 ((((w.hap t (rget w.vals t.a) 0)).K).map (arrAV .i64))]])), (9, (slO 4 ((((w.hap t (rget w.vals t.a) 0)).K).map (arrAV .i64)))), (8, (.row false 4 [[.ptr 4 1 0 0, vaA 7 (valC (((w.hap t (rget w.vals t.a) 0)).vals)), slA 11 ((((w.hap t (rget w.vals t.a) 0)).effs).map (arrAV .i64)), .int .i64 (((w.hap t (rget w.vals t.a) 0)).time)]])), (7, (vaO (valC (((w.hap t (rget w.vals t.a) 0)).vals)))), (11, (slO 6 ((((w.hap t (rget w.vals t.a) 0)).effs).map (arrAV .i64))))] rfl Tryz.func137 (by kernel_rfl) rfl rfl rfl ⟨⟨_, rfl, z23q⟩, ⟨_, rfl, z23q⟩, ⟨_, rfl, z23q⟩, ⟨_, rfl, z23q⟩, ⟨_, rfl, z23q⟩, ⟨_, rfl, z23q⟩, trivial⟩ rfl (hres_cons rfl (hres_cons rfl (hres_cons rfl (hres_cons rfl (hres_cons rfl (hres_cons rfl (hres_nil _))))))) ⟨⟨_, rfl, rfl, z23q⟩, ⟨_, rfl, rfl, z23q⟩, ⟨_, rfl, rfl, z23q⟩, ⟨_, rfl, rfl, z23q⟩, ⟨_, rfl, rfl, z23q⟩, ⟨_, rfl, rfl, z23q⟩, trivial⟩ rfl) ?_
  refine DOps.nil (by kernel_rfl) ?_;refine AGo.draw mix ?_;refine dQ tok 4 rfl ?_;refine dx 91 (oct (unknownb_ok first R (m + 1) (w.hap t (rget w.vals t.a) 0) (h.eff rfl) (by omega)) [11, 7, 8, 9, 4, 3] [(3, (.map (kvsA .i64 (vmap first ((vunk first (w.hap t (rget w.vals t.a) 0)).2))))), (4, (.row false 3 [[.int .i64 first, .map 3, slA 9 (((vunk first (w.hap t (rget w.vals t.a) 0)).2).map (arrAV .i64))]])), (9, (slO 4 (((vunk first (w.hap t (rget w.vals t.a) 0)).2).map (arrAV .i64)))), (8, (.row false 4 [[.ptr 4 1 0 0, vaA 7 (valC (((w.hap t (rget w.vals t.a) 0)).vals)), slA 11 ((((w.hap t (rget w.vals t.a) 0)).effs).map (arrAV .i64)), .int .i64 (((w.hap t (rget w.vals t.a) 0)).time)]])), (7, (vaO (valC (((w.hap t (rget w.vals t.a) 0)).vals)))), (11, (slO 6 ((((w.hap t (rget w.vals t.a) 0)).effs).map (arrAV .i64))))] rfl Tryz.func138 (by kernel_rfl) rfl rfl rfl ⟨⟨_, rfl, z23q⟩, ⟨_, rfl, z23q⟩, ⟨_, rfl, z23q⟩, ⟨_, rfl, z23q⟩, ⟨_, rfl, z23q⟩, ⟨_, rfl, z23q⟩, trivial⟩ rfl (hres_cons rfl (hres_cons rfl (hres_cons rfl (hres_cons rfl (hres_cons rfl (hres_cons rfl (hres_nil _))))))) ⟨⟨_, rfl, rfl, z23q⟩, ⟨_, rfl, rfl, z23q⟩, ⟨_, rfl, rfl, z23q⟩, ⟨_, rfl, rfl, z23q⟩, ⟨_, rfl, rfl, z23q⟩, ⟨_, rfl, rfl, z23q⟩, trivial⟩ rfl) ?_
  refine dq 92 (q_indexV tok rfl rfl rfl rfl rfl rfl rfl rfl hxd.1 hxd.2.2.1) ?_;refine DOps.w rfl rfl (o_storeV tok rfl rfl rfl rfl rfl rfl rfl z36q (valC_one _) rfl rfl rfl) ?_;refine DOps.nil (by kernel_rfl) ?_;refine ⟨[], trivial, rfl, ?_⟩
  rw [vstep6 ho]
  exact HSub.put (HSub.put (HSub.put (HSub.put (HSub.put (HSub.put (HSub.none _) rfl) rfl) rfl) (by show _ = some (AObj.row false 4 [[.ptr 4 1 0 0, vaA 7 (valC (rset w.vals t.d _)), slA 11 ((w.hap t (rget w.vals t.a) 0).effs.map (arrAV .i64)), .int .i64 w.time]]); rw [valC_vaA]; rfl)) z28q) rfl
 refine acf ?_;refine asr ?_;refine aQ tok 2 rfl ?_;refine an ?_;refine asp 93 (fun hb7 => ?_) fun hb7 => ?_
 ·
  refine act ?_
  have ho : t.op = 7 := by simpa using hb7
  have hxa := h.at (ht.a (.inr (by rw [ho]; rfl)))
  have hxb := h.at (ht.b (by rw [ho]; rfl))
        
  refine asq ?_;refine AGo.draw mix ?_;refine dQ tok 5 rfl ?_;refine dq 100 (q_indexV tok rfl rfl rfl rfl rfl rfl rfl rfl hxa.1 hxa.2.2.1) ?_;refine dq 101 (q_load tok rfl rfl rfl (ptsV rfl (valC_get ⟨hxa.1, hxa.2.1⟩)) rfl) ?_;refine dQ tok 3 rfl ?_;refine dq 105 (q_indexV tok rfl rfl rfl rfl rfl rfl rfl rfl hxb.1 hxb.2.2.1) ?_;refine dq 106 (q_load tok rfl rfl rfl (ptsV rfl (valC_get ⟨hxb.1, hxb.2.1⟩)) rfl) ?_;refine dx 107 (oct (happensb_ok first R m w h (by omega) t (rget w.vals t.a) (rget w.vals t.b)) [11, 7, 8, 9, 4, 3] [(3, (.map (kvsA .i64 (vmap first (((w.hap t (rget w.vals t.a) (rget w.vals t.b))).K))))), (4, (.row false 3 [[.int .i64 first, .map 3, slA 9 ((((w.hap t (rget w.vals t.a) (rget w.vals t.b))).K).map (arrAV .i64))]])), (9, (slO 4 ((((w.hap t (rget w.vals t.a) (rget w.vals t.b))).K).map (arrAV .i64)))), (8, (.row false 4 [[.ptr 4 1 0 0, vaA 7 (valC (((w.hap t (rget w.vals t.a) (rget w.vals t.b))).vals)), slA 11 ((((w.hap t (rget w.vals t.a) (rget w.vals t.b))).effs).map (arrAV .i64)), .int .i64 (((w.hap t (rget w.vals t.a) (rget w.vals t.b))).time)]])), (7, (vaO (valC (((w.hap t (rget w.vals t.a) (rget w.vals t.b))).vals)))), (11, (slO 6 ((((w.hap t (rget w.vals t.a) (rget w.vals t.b))).effs).map (arrAV .i64))))] rfl Tryz.func137 (by kernel_rfl) rfl rfl rfl ⟨⟨_, rfl, z23q⟩, ⟨_, rfl, z23q⟩, ⟨_, rfl, z23q⟩, ⟨_, rfl, z23q⟩, ⟨_, rfl, z23q⟩, ⟨_, rfl, z23q⟩, trivial⟩ rfl (hres_cons rfl (hres_cons rfl (hres_cons rfl (hres_cons rfl (hres_cons rfl (hres_cons rfl (hres_nil _))))))) ⟨⟨_, rfl, rfl, z23q⟩, ⟨_, rfl, rfl, z23q⟩, ⟨_, rfl, rfl, z23q⟩, ⟨_, rfl, rfl, z23q⟩, ⟨_, rfl, rfl, z23q⟩, ⟨_, rfl, rfl, z23q⟩, trivial⟩ rfl) ?_
  refine DOps.nil (by kernel_rfl) ?_;refine agr ?_;refine aQ tok 4 rfl ?_;refine aq 112 (q_bin (r := .int .i64 (w.time + 1)) rfl rfl rfl (by exact timeZ (x := w.time) (by omega))) ?_;refine aQ tok 2 rfl ?_;refine AOps.w rfl rfl (o_store tok rfl rfl rfl rfl rfl rfl rfl rfl rfl (by decide) rfl z33q) ?_;refine an ?_;refine ⟨[], trivial, rfl, ?_⟩
  rw [vstep7 ho]
  exact HSub.put (HSub.put (HSub.put (HSub.put (HSub.put (HSub.put (HSub.none _) rfl) rfl) rfl) rfl) rfl) rfl
 refine acf ?_;refine asr ?_;refine aQ tok 2 rfl ?_;refine an ?_;refine asp 115 (fun hb8 => ?_) fun hb8 => ?_
 ·
  refine act ?_
  have ho : t.op = 8 := by simpa using hb8
  have hxd := h.at (ht.d (by rw [ho]; rfl))
         
  refine asr ?_;refine aQ tok 2 rfl ?_;refine ax 119 (oct (happensb_ok first R m w h (by omega) t 0 0) [11, 7, 8, 9, 4, 3] [(3, (.map (kvsA .i64 (vmap first (((w.hap t 0 0)).K))))), (4, (.row false 3 [[.int .i64 first, .map 3, slA 9 ((((w.hap t 0 0)).K).map (arrAV .i64))]])), (9, (slO 4 ((((w.hap t 0 0)).K).map (arrAV .i64)))), (8, (.row false 4 [[.ptr 4 1 0 0, vaA 7 (valC (((w.hap t 0 0)).vals)), slA 11 ((((w.hap t 0 0)).effs).map (arrAV .i64)), .int .i64 (((w.hap t 0 0)).time)]])), (7, (vaO (valC (((w.hap t 0 0)).vals)))), (11, (slO 6 ((((w.hap t 0 0)).effs).map (arrAV .i64))))] rfl Tryz.func137 (by kernel_rfl) rfl rfl rfl ⟨⟨_, rfl, z23q⟩, ⟨_, rfl, z23q⟩, ⟨_, rfl, z23q⟩, ⟨_, rfl, z23q⟩, ⟨_, rfl, z23q⟩, ⟨_, rfl, z23q⟩, trivial⟩ rfl (hres_cons rfl (hres_cons rfl (hres_cons rfl (hres_cons rfl (hres_cons rfl (hres_cons rfl (hres_nil _))))))) ⟨⟨_, rfl, rfl, z23q⟩, ⟨_, rfl, rfl, z23q⟩, ⟨_, rfl, rfl, z23q⟩, ⟨_, rfl, rfl, z23q⟩, ⟨_, rfl, rfl, z23q⟩, ⟨_, rfl, rfl, z23q⟩, trivial⟩ rfl) ?_
  refine an ?_;refine AGo.draw mix ?_;refine dQ tok 4 rfl ?_;refine dx 124 (oct (unknownb_ok first R (m + 1) (w.hap t 0 0) (h.eff rfl) (by omega)) [11, 7, 8, 9, 4, 3] [(3, (.map (kvsA .i64 (vmap first ((vunk first (w.hap t 0 0)).2))))), (4, (.row false 3 [[.int .i64 first, .map 3, slA 9 (((vunk first (w.hap t 0 0)).2).map (arrAV .i64))]])), (9, (slO 4 (((vunk first (w.hap t 0 0)).2).map (arrAV .i64)))), (8, (.row false 4 [[.ptr 4 1 0 0, vaA 7 (valC (((w.hap t 0 0)).vals)), slA 11 ((((w.hap t 0 0)).effs).map (arrAV .i64)), .int .i64 (((w.hap t 0 0)).time)]])), (7, (vaO (valC (((w.hap t 0 0)).vals)))), (11, (slO 6 ((((w.hap t 0 0)).effs).map (arrAV .i64))))] rfl Tryz.func138 (by kernel_rfl) rfl rfl rfl ⟨⟨_, rfl, z23q⟩, ⟨_, rfl, z23q⟩, ⟨_, rfl, z23q⟩, ⟨_, rfl, z23q⟩, ⟨_, rfl, z23q⟩, ⟨_, rfl, z23q⟩, trivial⟩ rfl (hres_cons rfl (hres_cons rfl (hres_cons rfl (hres_cons rfl (hres_cons rfl (hres_cons rfl (hres_nil _))))))) ⟨⟨_, rfl, rfl, z23q⟩, ⟨_, rfl, rfl, z23q⟩, ⟨_, rfl, rfl, z23q⟩, ⟨_, rfl, rfl, z23q⟩, ⟨_, rfl, rfl, z23q⟩, ⟨_, rfl, rfl, z23q⟩, trivial⟩ rfl) ?_
  refine dq 125 (q_indexV tok rfl rfl rfl rfl rfl rfl rfl rfl hxd.1 hxd.2.2.1) ?_;refine DOps.w rfl rfl (o_storeV tok rfl rfl rfl rfl rfl rfl rfl z36q (valC_one _) rfl rfl rfl) ?_;refine DOps.nil (by kernel_rfl) ?_;refine ⟨[], trivial, rfl, ?_⟩
  rw [vstep8 ho]
  exact HSub.put (HSub.put (HSub.put (HSub.put (HSub.put (HSub.put (HSub.none _) rfl) rfl) rfl) (by show _ = some (AObj.row false 4 [[.ptr 4 1 0 0, vaA 7 (valC (rset w.vals t.d _)), slA 11 ((w.hap t 0 0).effs.map (arrAV .i64)), .int .i64 w.time]]); rw [valC_vaA]; rfl)) z28q) rfl
 refine acf ?_;refine asr ?_;refine aQ tok 2 rfl ?_;refine an ?_;refine asp 126 (fun hb9 => ?_) fun hb9 => ?_
 ·
  refine act ?_
  have ho : t.op = 9 := by simpa using hb9
  have hxa := h.at (ht.a (.inl (by rw [ho]; rfl)))
          
  refine AGo.draw mix ?_;refine dQ tok 5 rfl ?_;refine dq 133 (q_indexV tok rfl rfl rfl rfl rfl rfl rfl rfl hxa.1 hxa.2.2.1) ?_;refine dq 134 (q_load tok rfl rfl rfl (ptsV rfl (valC_get ⟨hxa.1, hxa.2.1⟩)) rfl) ?_;refine dx 135 (oct (happensb_ok first R m w h (by omega) t (rget w.vals t.a) 0) [11, 7, 8, 9, 4, 3] [(3, (.map (kvsA .i64 (vmap first (((w.hap t (rget w.vals t.a) 0)).K))))), (4, (.row false 3 [[.int .i64 first, .map 3, slA 9 ((((w.hap t (rget w.vals t.a) 0)).K).map (arrAV .i64))]])), (9, (slO 4 ((((w.hap t (rget w.vals t.a) 0)).K).map (arrAV .i64)))), (8, (.row false 4 [[.ptr 4 1 0 0, vaA 7 (valC (((w.hap t (rget w.vals t.a) 0)).vals)), slA 11 ((((w.hap t (rget w.vals t.a) 0)).effs).map (arrAV .i64)), .int .i64 (((w.hap t (rget w.vals t.a) 0)).time)]])), (7, (vaO (valC (((w.hap t (rget w.vals t.a) 0)).vals)))), (11, (slO 6 ((((w.hap t (rget w.vals t.a) 0)).effs).map (arrAV .i64))))] rfl Tryz.func137 (by kernel_rfl) rfl rfl rfl ⟨⟨_, rfl, z23q⟩, ⟨_, rfl, z23q⟩, ⟨_, rfl, z23q⟩, ⟨_, rfl, z23q⟩, ⟨_, rfl, z23q⟩, ⟨_, rfl, z23q⟩, trivial⟩ rfl (hres_cons rfl (hres_cons rfl (hres_cons rfl (hres_cons rfl (hres_cons rfl (hres_cons rfl (hres_nil _))))))) ⟨⟨_, rfl, rfl, z23q⟩, ⟨_, rfl, rfl, z23q⟩, ⟨_, rfl, rfl, z23q⟩, ⟨_, rfl, rfl, z23q⟩, ⟨_, rfl, rfl, z23q⟩, ⟨_, rfl, rfl, z23q⟩, trivial⟩ rfl) ?_
  refine DOps.nil (by kernel_rfl) ?_;refine ⟨[], trivial, rfl, ?_⟩
  rw [vstep9 ho]
  exact HSub.put (HSub.put (HSub.put (HSub.put (HSub.put (HSub.put (HSub.none _) rfl) rfl) rfl) rfl) rfl) rfl
 refine acf ?_;refine asr ?_;refine aQ tok 2 rfl ?_;refine an ?_;refine asp 136 (fun hb10 => ?_) fun hb10 => ?_
 ·
  refine act ?_
  have ho : t.op = 10 := by simpa using hb10
           
  refine asr ?_;refine aQ tok 2 rfl ?_;refine ax 140 (oct (happensb_ok first R m w h (by omega) t 0 0) [11, 7, 8, 9, 4, 3] [(3, (.map (kvsA .i64 (vmap first (((w.hap t 0 0)).K))))), (4, (.row false 3 [[.int .i64 first, .map 3, slA 9 ((((w.hap t 0 0)).K).map (arrAV .i64))]])), (9, (slO 4 ((((w.hap t 0 0)).K).map (arrAV .i64)))), (8, (.row false 4 [[.ptr 4 1 0 0, vaA 7 (valC (((w.hap t 0 0)).vals)), slA 11 ((((w.hap t 0 0)).effs).map (arrAV .i64)), .int .i64 (((w.hap t 0 0)).time)]])), (7, (vaO (valC (((w.hap t 0 0)).vals)))), (11, (slO 6 ((((w.hap t 0 0)).effs).map (arrAV .i64))))] rfl Tryz.func137 (by kernel_rfl) rfl rfl rfl ⟨⟨_, rfl, z23q⟩, ⟨_, rfl, z23q⟩, ⟨_, rfl, z23q⟩, ⟨_, rfl, z23q⟩, ⟨_, rfl, z23q⟩, ⟨_, rfl, z23q⟩, trivial⟩ rfl (hres_cons rfl (hres_cons rfl (hres_cons rfl (hres_cons rfl (hres_cons rfl (hres_cons rfl (hres_nil _))))))) ⟨⟨_, rfl, rfl, z23q⟩, ⟨_, rfl, rfl, z23q⟩, ⟨_, rfl, rfl, z23q⟩, ⟨_, rfl, rfl, z23q⟩, ⟨_, rfl, rfl, z23q⟩, ⟨_, rfl, rfl, z23q⟩, trivial⟩ rfl) ?_
  refine an ?_;refine agr ?_;refine aQ tok 4 rfl ?_;refine aq 145 (q_bin (r := .int .i64 (w.time + 1)) rfl rfl rfl (by exact timeZ (x := w.time) (by omega))) ?_;refine aQ tok 2 rfl ?_;refine AOps.w rfl rfl (o_store tok rfl rfl rfl rfl rfl rfl rfl rfl rfl (by decide) rfl z33q) ?_;refine an ?_;refine ⟨[], trivial, rfl, ?_⟩
  rw [vstep10 ho]
  exact HSub.put (HSub.put (HSub.put (HSub.put (HSub.put (HSub.put (HSub.none _) rfl) rfl) rfl) rfl) rfl) rfl
 refine acf ?_;refine agk ?_;refine ⟨[], trivial, rfl, ?_⟩
 rw [vstep0 hb1 hb2 hb3 hb4 hb5 hb6 hb7 hb8 hb9 hb10]
 exact HSub.put (HSub.put (HSub.put (HSub.put (HSub.put (HSub.put (HSub.none _) rfl) rfl) rfl) rfl) rfl) rfl
theorem happensa_ok (first : Int) (R m : Nat) (w : VW) (h : VOk first R m w) (hm : m ≤ 90000) (t : Tac) (a b : Int) : ACall Tryz.prog 137 [.ptr 6 1 0 0, .agg t.cells, .int .i64 a, .int .i64 b] (hput (hput (hput (hput (hput (hput hNew 3 (.map (kvsA .i64 (vmap first ((w).K))))) 4 (.row false 3 [[.int .i64 first, .map 3, slA 9 (((w).K).map (arrAV .i64))]])) 9 (slO 4 (((w).K).map (arrAV .i64)))) 6 (.row false 4 [[.ptr 4 1 0 0, vaA 5 (valC ((w).vals)), slA 10 (((w).effs).map (arrAV .i64)), .int .i64 ((w).time)]])) 5 (vaO (valC ((w).vals)))) 10 (slO 6 (((w).effs).map (arrAV .i64)))) (fun r h' => r = .tup [] ∧ HSub (hput (hput (hput (hput (hput (hput hNone 3 (.map (kvsA .i64 (vmap first (((w.hap t a b)).K))))) 4 (.row false 3 [[.int .i64 first, .map 3, slA 9 ((((w.hap t a b)).K).map (arrAV .i64))]])) 9 (slO 4 ((((w.hap t a b)).K).map (arrAV .i64)))) 6 (.row false 4 [[.ptr 4 1 0 0, vaA 5 (valC (((w.hap t a b)).vals)), slA 10 ((((w.hap t a b)).effs).map (arrAV .i64)), .int .i64 (((w.hap t a b)).time)]])) 5 (vaO (valC (((w.hap t a b)).vals)))) 10 (slO 6 ((((w.hap t a b)).effs).map (arrAV .i64)))) h') := by
 have hel := h.el
 refine ACall.of_body (n := 26) tok Tryz.func137 rfl rfl ?_;refine asr ?_;refine ax 5 (obx 8 12) ?_;refine an ?_;refine AGo.draw mix ?_;refine dQ tok 13 rfl ?_;refine dq 21 (q_build_arr tok rfl rfl rfl rfl rfl rfl (by decide) rfl rfl) ?_;refine dx 22 (o_lit' tok rfl rfl rfl rfl rfl rfl (by decide) rfl rfl rfl rfl rfl rfl) ?_;refine dx 23 (o_append1J tok (b := 10) (es := ((w.effs).map (arrAV .i64))) rfl rfl rfl rfl rfl rfl rfl rfl rfl rfl rfl (Nat.zero_lt_succ _) (arr_len h.e6) (arr_pure _) rfl rfl z39q z34q) ?_;refine dQ tok 2 rfl ?_;refine DOps.w rfl rfl (o_store1 tok rfl rfl rfl rfl rfl rfl rfl rfl rfl (slA_cells _ _) (by decide) (slA_cell1 _ _) (by intro h; cases h)) ?_;refine DOps.nil (by kernel_rfl) ?_;refine ⟨[], trivial, rfl, ?_⟩
 exact HSub.put (HSub.put (HSub.put (HSub.put (HSub.put (HSub.put (HSub.none _) rfl) rfl) rfl) (by show _ = some (AObj.row false 4 [[.ptr 4 1 0 0, vaA 5 (valC (w.vals)), slA 10 ((w.effs ++ [_]).map (arrAV .i64)), .int .i64 w.time]]); rw [List.map_append]; rfl)) rfl) (by show _ = some (slO 6 ((w.effs ++ [_]).map (arrAV .i64))); rw [List.map_append]; rfl)
theorem unknowna_ok (first : Int) (R m : Nat) (w : VW) (h : VOk first R m w) (hm : m ≤ 90000) : ACall Tryz.prog 138 [.ptr 6 1 0 0] (hput (hput (hput (hput (hput (hput hNew 3 (.map (kvsA .i64 (vmap first ((w).K))))) 4 (.row false 3 [[.int .i64 first, .map 3, slA 9 (((w).K).map (arrAV .i64))]])) 9 (slO 4 (((w).K).map (arrAV .i64)))) 6 (.row false 4 [[.ptr 4 1 0 0, vaA 5 (valC ((w).vals)), slA 10 (((w).effs).map (arrAV .i64)), .int .i64 ((w).time)]])) 5 (vaO (valC ((w).vals)))) 10 (slO 6 (((w).effs).map (arrAV .i64)))) (fun r h' => r = .int .i64 (vunk first w).1 ∧ HSub (hput (hput (hput (hput (hput (hput hNone 3 (.map (kvsA .i64 (vmap first ((vunk first w).2))))) 4 (.row false 3 [[.int .i64 first, .map 3, slA 9 (((vunk first w).2).map (arrAV .i64))]])) 9 (slO 4 (((vunk first w).2).map (arrAV .i64)))) 6 (.row false 4 [[.ptr 4 1 0 0, vaA 5 (valC ((w).vals)), slA 10 (((w).effs).map (arrAV .i64)), .int .i64 ((w).time)]])) 5 (vaO (valC ((w).vals)))) 10 (slO 6 (((w).effs).map (arrAV .i64)))) h') := by
 have hkl := h.kl
 refine ACall.of_body (n := 14) tok Tryz.func138 rfl rfl ?_;refine asr ?_;refine aa 2 ?_;refine an ?_;refine asq ?_;refine AGo.draw mix ?_;refine dQ tok 8 rfl ?_;refine dq 11 (q_lenJ tok rfl rfl rfl rfl) ?_;refine dq 12 (q_build_arr tok rfl rfl rfl rfl rfl rfl (by decide) rfl rfl) ?_;refine dx 13 (oct ((by rw [List.length_map]; exact number_ok first w.K h.f h.k4 (by omega) 4 (w.effs.length : Int) 0 0)) [9, 4, 3] [(3, (.map (kvsA .i64 (vmap first ((vunk first w).2))))), (4, (.row false 3 [[.int .i64 first, .map 3, slA 9 (((vunk first w).2).map (arrAV .i64))]])), (9, (slO 4 (((vunk first w).2).map (arrAV .i64))))] rfl Tryz.func135 (by kernel_rfl) rfl rfl rfl ⟨⟨_, rfl, z23q⟩, ⟨_, rfl, z23q⟩, ⟨_, rfl, z23q⟩, trivial⟩ rfl (hres_cons rfl (hres_cons rfl (hres_cons rfl (hres_nil _)))) ⟨⟨_, rfl, rfl, z23q⟩, ⟨_, rfl, rfl, z23q⟩, ⟨_, rfl, rfl, z23q⟩, trivial⟩ rfl) ?_;refine da 2 ?_;refine DOps.nil (by kernel_rfl) ?_
 refine agt ?_;refine ⟨[_], ⟨rfl, trivial⟩, rfl, ?_⟩
 exact HSub.put (HSub.put (HSub.put (HSub.put (HSub.put (HSub.put (HSub.none _) rfl) rfl) rfl) rfl) rfl) rfl
end Go.Proofs.YtbbfelelocccmaaGreat.Sv
