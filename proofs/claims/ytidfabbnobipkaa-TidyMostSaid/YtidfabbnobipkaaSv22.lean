/-
  MAPS WHOSE KEYS ARE NUMBERS: own work, over no program.
-/
import Derived.Test.YtidfabbnobipkaaSv21
import Derived.MapKept
namespace Go.Proofs.Ytidfabbnobipkaa.Sv
open Go
set_option linter.unusedVariables false
set_option linter.unusedSimpArgs false

abbrev NMap := List (Int × AV)
def kvs (K : IntKind) (m : NMap) : List (AV × AV) := m.map fun p => (.int K p.1, p.2)
/-- where it lies, and what's there -/
def klook (z : Int) : NMap → Option (Nat × AV)
  | [] => none
  | (k, v) :: r => bif z == k then some (0, v) else (klook z r).map fun p => (p.1 + 1, p.2)
def kget (z : Int) (m : NMap) : Option AV := (klook z m).map (·.2)
def kset (z : Int) (v : AV) : NMap → NMap
  | [] => [(z, v)]
  | (k, u) :: r => bif z == k then (k, v) :: r else (k, u) :: kset z v r
def kdel (z : Int) : NMap → NMap
  | [] => []
  | (k, u) :: r => bif z == k then r else (k, u) :: kdel z r

inductive EntRel (H : Know) (K : IntKind) : NMap → List MapEntry → Prop
  | nil : EntRel H K [] []
  | cons (z : Int) (v : AV) (m : NMap) (e : MapEntry) (es : List MapEntry) (hk : e.key = .int K z) (hv : Rel H noLay v e.val) (h : EntRel H K m es) : EntRel H K ((z, v) :: m) (e :: es)

theorem entRel_of {H : Know} {K : IntKind} : ∀ {m : NMap} {es : List MapEntry}, (kvs K m).length = es.length → (∀ (j : Nat) (k v : AV), (kvs K m)[j]? = some (k, v) → ∃ e, es[j]? = some e ∧ Rel H noLay k e.key ∧ Rel H noLay v e.val) → EntRel H K m es
  | [], es, h1, _ => by
    have : es = [] := List.length_eq_zero_iff.1 (by simpa [kvs] using h1.symm)
    subst this; exact .nil
  | (z, v) :: m, [], h1, _ => by simp [kvs] at h1
  | (z, v) :: m, e :: es, h1, h2 => by
    obtain ⟨e', g1, g2, g3⟩ := h2 0 (.int K z) v rfl
    simp at g1; subst g1
    exact .cons z v m e es g2.int_inv g3 (entRel_of (by simpa [kvs] using h1) fun j k u hj => by
      obtain ⟨e', k1, k2⟩ := h2 (j + 1) k u (by simpa [kvs] using hj)
      exact ⟨e', by simpa using k1, k2⟩)

theorem EntRel.out {H : Know} {K : IntKind} {m : NMap} {es : List MapEntry} (h : EntRel H K m es) : (kvs K m).length = es.length ∧ ∀ (j : Nat) (k v : AV), (kvs K m)[j]? = some (k, v) → ∃ e, es[j]? = some e ∧ Rel H noLay k e.key ∧ Rel H noLay v e.val := by
  induction h with
  | nil => exact ⟨rfl, fun j k v h => by simp [kvs] at h⟩
  | cons z v m e es hk hv h ih =>
    refine ⟨by simpa [kvs] using ih.1, fun j k u hj => ?_⟩
    cases j with
    | zero =>
      simp [kvs] at hj
      obtain ⟨rfl, rfl⟩ := hj
      exact ⟨e, rfl, by rw [hk]; exact .int _ _ _, hv⟩
    | succ j =>
      obtain ⟨e', k1, k2⟩ := ih.2 j k u (by simpa [kvs] using hj)
      exact ⟨e', by simpa using k1, k2⟩

theorem mapCells_iff {H : Know} {K : IntKind} {m : NMap} {es : Array MapEntry} : mapCells H (kvs K m) es ↔ EntRel H K m es.toList := by
  constructor
  · rintro ⟨h1, h2⟩
    exact entRel_of (by simpa using h1) fun j k v hj => by
      obtain ⟨e, g1, g2⟩ := h2 j k v hj
      exact ⟨e, by simpa using g1, g2⟩
  · intro h
    obtain ⟨h1, h2⟩ := h.out
    exact ⟨by simpa using h1, fun j k v hj => by
      obtain ⟨e, g1, g2⟩ := h2 j k v hj
      exact ⟨e, by simpa using g1, g2⟩⟩

theorem EntRel.find {H : Know} {K : IntKind} {m : NMap} {es : List MapEntry} (h : EntRel H K m es) (z : Int) : ∀ i, ∃ r, Instr.findNow (.int K) (.int K z) es i = some r ∧
    ((klook z m = none ∧ r = none) ∨ ∃ j v e, klook z m = some (j, v) ∧ r = some (i + j, e.val) ∧ es[j]? = some e ∧ e.key = .int K z ∧ Rel H noLay v e.val) := by
  induction h with
  | nil => exact fun i => ⟨none, rfl, .inl ⟨rfl, rfl⟩⟩
  | cons k v m e es hk hv h ih =>
    intro i
    obtain ⟨r, r1, r2⟩ := ih (i + 1)
    by_cases hz : z = k
    · subst hz
      refine ⟨some (i, e.val), by simp [Instr.findNow, Instr.sameNow, hk], .inr ⟨0, v, e, by simp [klook], rfl, rfl, hk, hv⟩⟩
    · have hb : (z == k) = false := by simpa using hz
      refine ⟨r, by simp [Instr.findNow, Instr.sameNow, hk, hb, r1], ?_⟩
      rcases r2 with ⟨g1, g2⟩ | ⟨j, u, e', g1, g2, g3, g4⟩
      · exact .inl ⟨by simp [klook, hb, g1], g2⟩
      · exact .inr ⟨j + 1, u, e', by simp [klook, hb, g1], by rw [g2]; congr 2; omega, by simpa using g3, g4⟩

theorem EntRel.set_new {H : Know} {K : IntKind} {m : NMap} {es : List MapEntry} (h : EntRel H K m es) {z : Int} {v : AV} {val : Value} (hv : Rel H noLay v val) (clk : Nat) (hn : klook z m = none) : EntRel H K (kset z v m) (es ++ [{ key := .int K z, val := val, born := clk }]) := by
  induction h with
  | nil => exact .cons z v [] _ [] rfl hv .nil
  | cons k u m e es hk hu h ih =>
    unfold klook at hn
    cases hz : z == k with
    | true => rw [hz] at hn; cases hn
    | false =>
      rw [hz] at hn
      have : klook z m = none := by simpa using hn
      unfold kset
      rw [hz]
      exact .cons k u _ e _ hk hu (ih this)

theorem EntRel.set_old {H : Know} {K : IntKind} {m : NMap} {es : List MapEntry} (h : EntRel H K m es) {z : Int} {v : AV} {val : Value} (hv : Rel H noLay v val) : ∀ {j : Nat} {v0 : AV}, klook z m = some (j, v0) → EntRel H K (kset z v m) (es.modify j fun e => { e with key := .int K z, val := val }) := by
  induction h with
  | nil => intro j v0 hn; cases hn
  | cons k u m e es hk hu h ih =>
    intro j v0 hn
    unfold klook at hn
    cases hz : z == k with
    | true =>
      rw [hz] at hn
      simp at hn
      obtain ⟨rfl, rfl⟩ := hn
      unfold kset
      rw [hz]
      have : z = k := by simpa using hz
      subst this
      exact .cons z v m _ es rfl hv h
    | false =>
      rw [hz] at hn
      simp only [cond_false, Option.map_eq_some_iff] at hn
      obtain ⟨⟨j', v'⟩, g1, g2⟩ := hn
      simp at g2
      obtain ⟨rfl, rfl⟩ := g2
      unfold kset
      rw [hz]
      exact .cons k u _ e _ hk hu (ih g1)

theorem EntRel.del_old {H : Know} {K : IntKind} {m : NMap} {es : List MapEntry} (h : EntRel H K m es) {z : Int} : ∀ {j : Nat} {v0 : AV}, klook z m = some (j, v0) → EntRel H K (kdel z m) (es.eraseIdx j) := by
  induction h with
  | nil => intro j v0 hn; cases hn
  | cons k u m e es hk hu h ih =>
    intro j v0 hn
    unfold klook at hn
    cases hz : z == k with
    | true =>
      rw [hz] at hn
      simp at hn
      obtain ⟨rfl, rfl⟩ := hn
      unfold kdel
      rw [hz]
      exact h
    | false =>
      rw [hz] at hn
      simp only [cond_false, Option.map_eq_some_iff] at hn
      obtain ⟨⟨j', v'⟩, g1, g2⟩ := hn
      simp at g2
      obtain ⟨rfl, rfl⟩ := g2
      unfold kdel
      rw [hz]
      exact .cons k u _ e _ hk hu (ih g1)
theorem kdel_none {z : Int} : ∀ {m : NMap}, klook z m = none → kdel z m = m
  | [], _ => rfl
  | (k, u) :: m, hn => by
    unfold klook at hn
    cases hz : z == k with
    | true => rw [hz] at hn; cases hn
    | false =>
      rw [hz] at hn
      unfold kdel
      rw [hz]
      simp only [cond_false]
      rw [kdel_none (m := m) (by simpa using hn)]

theorem run_checkInt {P : Program} {w : World} {kt : TypeId} {K : IntKind} (hk : P.underlying kt = some (.int K)) (em : Bool) (z : Int) : (Instr.checkKey em 10000 kt (.int K z)).run P w = .ok () w := by
  rw [Instr.checkKey]
  simp [run_underlying' hk]
theorem run_findInt {P : Program} {w : World} {kt : TypeId} {K : IntKind} (hk : P.underlying kt = some (.int K)) {z : Int} {es : List MapEntry} {r : Option (Nat × Value)} (h : Instr.findNow (.int K) (.int K z) es 0 = some r) : (Instr.findKey kt (.int K z) es).run P w = .ok r w := by
  simp [Instr.findKey, run_underlying' hk, h]
theorem run_staysInt {P : Program} {w : World} {K : IntKind} (z : Int) : (Instr.keyThatStays (.int K z) (.int K z)).run P w = .ok (.int K z) w := by
  have : Instr.sameBits 10000 (.int K z) (.int K z) = true := by rw [Instr.sameBits]; simp
  unfold Instr.keyThatStays
  rw [if_pos this]
  rfl

section
variable {P : Program} {T : Nat → Option TyI} {o : Oper} {e : AEnv} {h : AHeap}

/-- 'v, ok := m[k]' -/
theorem q_lookupOk (hT : TOk P T) {t kt et : TypeId} {x y : Operand} {b : Nat} {K : IntKind} {z : Int} {m : NMap} {i j : TyI} {zv : Value} {z0 : AV} (ho : o.op = .lookup t x y true) (hx : look e x = some (.map b)) (hy : look e y = some (.int K z)) (hb : h b = some (.map (kvs K m)))
    (hi : T t = some i) (hk : i.k = .map kt et) (hj : T kt = some j) (hjk : j.k = .int K) (hz : (P.info? et).bind (·.zero) = some zv) (hz0 : cellAV zv = some z0) : QLoc P o e h [b] (.tup [(kget z m).getD z0, .bool (kget z m).isSome]) := by
  intro H ι a w s hs h1 h2
  have hx' : look s.env x = some (.map b) := by rw [h1 x (by rw [ho]; simp [Op.operands]), hx]
  have hy' : look s.env y = some (.int K z) := by rw [h1 y (by rw [ho]; simp [Op.operands]), hy]
  have hb' : s.h b = some (.map (kvs K m)) := by rw [h2 b (by simp), hb]
  obtain ⟨info, d, e1, e2, e3, e4, e5, e6⟩ := tyOf_spec (hT _ _ hi)
  obtain ⟨info', d', e1', e2', e3', e4', e5', e6'⟩ := tyOf_spec (hT _ _ hj)
  have hd := tk_map (P := P) (d := d) (e3 ▸ hk)
  subst hd
  have hd' := tk_int (P := P) (d := d') (e3' ▸ hjk)
  subst hd'
  have hvy : a.eval y = .int K z := (look_rel hs hy').int_inv
  obtain ⟨r, hr, hr0, hvx⟩ := (look_rel hs hx').map_inv
  obtain ⟨r', hl, ⟨r1, r2, es, clk, r3, r4⟩, r5⟩ := hs.heap.obj b _ hb' rfl
  rw [hr] at hl; cases hl
  obtain ⟨rr, f1, f2⟩ := (mapCells_iff.1 r4).find z 0
  have hzero : (zeroValue et).run P w = .ok zv w := by
    cases ei : P.info? et with
    | none => rw [ei] at hz; cases hz
    | some inf =>
      rw [ei] at hz
      simp only [Option.bind_some] at hz
      simp [zeroValue, typeInfo, ei, hz]
  rcases f2 with ⟨g1, rfl⟩ | ⟨p, v, en, g1, rfl, g3, g4, g5⟩
  · refine ⟨.tuple #[zv, .bool false], ?_, ?_⟩
    · simp only [kget, g1, Option.map_none, Option.getD_none, Option.isSome_none]
      refine .tup _ _ _ rfl fun q x u hq hu => ?_
      match q, hq, hu with
      | 0, hq, hu => simp at hq hu; subst hq; subst hu; exact cellAV_rel hz0
      | 1, hq, hu => simp at hq hu; subst hq; subst hu; exact .bool _ _
      | q + 2, hq, hu => simp at hq
    · simp [execOp, ho, Instr.lookup, hvx, hvy, run_underlying' e2, MapKept.run_getObj_map r3, run_checkInt e2', run_findInt e2' f1, hzero]
  · refine ⟨.tuple #[en.val, .bool true], ?_, ?_⟩
    · simp only [kget, g1, Option.map_some, Option.getD_some, Option.isSome_some]
      refine .tup _ _ _ rfl fun q x u hq hu => ?_
      match q, hq, hu with
      | 0, hq, hu => simp at hq hu; subst hq; subst hu; exact g5.mono (KLe.refl _) (LLe.none _)
      | 1, hq, hu => simp at hq hu; subst hq; subst hu; exact .bool _ _
      | q + 2, hq, hu => simp at hq
    · simp [execOp, ho, Instr.lookup, hvx, hvy, run_underlying' e2, MapKept.run_getObj_map r3, run_checkInt e2', run_findInt e2' f1]

theorem o_makeMap {t : TypeId} (K : IntKind) (b : Nat) (ho : o.op = .makeMap t none) (hb : h b = some .free) : OLoc P o e h [b] [(b, .map (kvs K []))] (some (.map b)) := by
  intro H ι a w s Q hs h1 h2
  have hb' : s.h b = some .free := by rw [h2 b (by simp), hb]
  obtain ⟨u1, u2⟩ := hs.heap.upd (o' := .map (kvs K [])) (r' := ⟨w.heap.size, 0, 0, 1⟩) (w' := w.alloc (.map #[] 0)) hb' rfl (.inl rfl) (fun _ => .inl (Nat.le_refl _)) (fun rb hlt _ => heap_alloc_old w _ hlt) (by simp) rfl rfl
    ⟨rfl, by simp [Ent.solid], #[], 0, heap_alloc_new w _, mapCells_iff.2 .nil⟩
  have hrun : (execOp a.eval o).run P w = .ok (.value (.map (some w.heap.size))) (w.alloc (.map #[] 0)) := by
    simp [execOp, ho, Instr.makeMap]
  unfold Oper.wp
  rw [hrun]
  exact ⟨_, H, _, rfl, fun x ex => by cases ex; exact .map _ b _ (lput_same _ _ _) rfl, u1, u2⟩

theorem map_write {H : Know} {ι : Lay} {s : AState} {a : Act} {w : World} (hs : Sim H ι s a w) {b : Nat} {K : IntKind} {m m' : NMap} {r : Ent} {es es' : Array MapEntry} {clk clk' : Nat} (hb : s.h b = some (.map (kvs K m))) (hr : ι b = some r) (r1 : r.sz = 0) (r2 : r.solid)
    (r3 : w.heap[r.rb]? = some (.map es clk)) (hm : EntRel H K m' es'.toList) :
    HeapRel H ι (hput s.h b (.map (kvs K m'))) { w with heap := w.heap.setIfInBounds r.rb (.map es' clk') } ∧ Step H ι s.h w H ι (hput s.h b (.map (kvs K m'))) { w with heap := w.heap.setIfInBounds r.rb (.map es' clk') } := by
  have hlt : r.rb < w.heap.size := (Array.getElem?_eq_some_iff.1 r3).1
  have := hs.heap.upd (o' := .map (kvs K m')) (r' := r) (w' := { w with heap := w.heap.setIfInBounds r.rb (.map es' clk') }) hb rfl (.inr ⟨r, hr, rfl, .inl rfl⟩) (fun _ => .inr ⟨r, hr, rfl, r2, rfl⟩)
    (fun rb _ hne => by
      have : rb ≠ r.rb := hne r hr rfl r2
      simp [Array.getElem?_setIfInBounds_ne (Ne.symm this)]) (by simp) rfl rfl
    ⟨r1, r2, es', clk', by simp [hlt], mapCells_iff.2 hm⟩
  rwa [show lput ι b r = ι from by
    funext c
    by_cases hc : c = b
    · subst hc; rw [lput_same, hr]
    · rw [lput_ne _ _ hc]] at this

/-- 'm[k] = v' -/
theorem o_mapUpdate (hT : TOk P T) {t kt et : TypeId} {x y u : Operand} {b : Nat} {K : IntKind} {z : Int} {m : NMap} {q : AV} {i j : TyI} (ho : o.op = .mapUpdate t x y u) (hd : o.dst = none) (hx : look e x = some (.map b)) (hy : look e y = some (.int K z)) (hu : look e u = some q) (hp : q.isPure = true)
    (hb : h b = some (.map (kvs K m))) (hi : T t = some i) (hk : i.k = .map kt et) (hj : T kt = some j) (hjk : j.k = .int K) : OLoc P o e h [b] [(b, .map (kvs K (kset z q m)))] none := by
  intro H ι a w s Q hs h1 h2
  have hx' : look s.env x = some (.map b) := by rw [h1 x (by rw [ho]; simp [Op.operands]), hx]
  have hy' : look s.env y = some (.int K z) := by rw [h1 y (by rw [ho]; simp [Op.operands]), hy]
  have hu' : look s.env u = some q := by rw [h1 u (by rw [ho]; simp [Op.operands]), hu]
  have hb' : s.h b = some (.map (kvs K m)) := by rw [h2 b (by simp), hb]
  obtain ⟨info, d, e1, e2, e3, e4, e5, e6⟩ := tyOf_spec (hT _ _ hi)
  obtain ⟨info', d', e1', e2', e3', e4', e5', e6'⟩ := tyOf_spec (hT _ _ hj)
  have hd1 := tk_map (P := P) (d := d) (e3 ▸ hk)
  subst hd1
  have hd' := tk_int (P := P) (d := d') (e3' ▸ hjk)
  subst hd'
  have hvy : a.eval y = .int K z := (look_rel hs hy').int_inv
  obtain ⟨r, hr, hr0, hvx⟩ := (look_rel hs hx').map_inv
  obtain ⟨r', hl, ⟨r1, r2, es, clk, r3, r4⟩, r5⟩ := hs.heap.obj b _ hb' rfl
  rw [hr] at hl; cases hl
  have hrv := pure_rel (ι' := noLay) hp (look_rel hs hu')
  have hE := mapCells_iff.1 r4
  obtain ⟨rr, f1, f2⟩ := hE.find z 0
  unfold Oper.wp
  rcases f2 with ⟨g1, rfl⟩ | ⟨p, v, en, g1, rfl, g3, g4, g5⟩
  · have hrun : (execOp a.eval o).run P w = .ok .skip { w with heap := w.heap.setIfInBounds r.rb (.map (es.push { key := .int K z, val := a.eval u, born := clk }) (clk + 1)) } := by
      simp [execOp, ho, Instr.mapUpdate, hvx, hvy, run_underlying' e2, MapKept.run_getObj_map r3, run_checkInt e2', run_findInt e2' f1, MapKept.run_setObj_map _ r3]
    rw [hrun]
    obtain ⟨u1, u2⟩ := map_write hs (es' := es.push { key := .int K z, val := a.eval u, born := clk }) (clk' := clk + 1) hb' hr r1 r2 r3 (m' := kset z q m) (by rw [Array.toList_push]; exact hE.set_new hrv clk g1)
    exact ⟨undef, H, ι, (by rw [hd]), (fun x ex => by cases ex), u1, u2⟩
  · have hrun : (execOp a.eval o).run P w = .ok .skip { w with heap := w.heap.setIfInBounds r.rb (.map (es.modify p fun e => { e with key := .int K z, val := a.eval u }) clk) } := by
      have g3' : es[p]? = some en := by simpa using g3
      simp [execOp, ho, Instr.mapUpdate, hvx, hvy, run_underlying' e2, MapKept.run_getObj_map r3, run_checkInt e2', run_findInt e2' f1, MapKept.run_setObj_map _ r3, g3', g4, run_staysInt]
    rw [hrun]
    obtain ⟨u1, u2⟩ := map_write hs (es' := es.modify p fun e => { e with key := .int K z, val := a.eval u }) (clk' := clk) hb' hr r1 r2 r3 (m' := kset z q m) (by rw [Array.toList_modify]; exact hE.set_old hrv g1)
    exact ⟨undef, H, ι, (by rw [hd]), (fun x ex => by cases ex), u1, u2⟩

/-- 'delete(m, k)' -/
theorem o_delete (hT : TOk P T) {t kt et tk : TypeId} {x y : Operand} {b : Nat} {K : IntKind} {z : Int} {m : NMap} {i j : TyI} (ho : o.op = .call { callee := .builtin .delete, args := #[x, y], argTypes := #[t, tk] }) (hd : o.dst = none) (hx : look e x = some (.map b)) (hy : look e y = some (.int K z))
    (hb : h b = some (.map (kvs K m))) (hi : T t = some i) (hk : i.k = .map kt et) (hj : T kt = some j) (hjk : j.k = .int K) : OLoc P o e h [b] [(b, .map (kvs K (kdel z m)))] none := by
  intro H ι a w s Q hs h1 h2
  have hx' : look s.env x = some (.map b) := by rw [h1 x (by rw [ho]; simp [Op.operands, Call.operands]), hx]
  have hy' : look s.env y = some (.int K z) := by rw [h1 y (by rw [ho]; simp [Op.operands, Call.operands]), hy]
  have hb' : s.h b = some (.map (kvs K m)) := by rw [h2 b (by simp), hb]
  obtain ⟨info, d, e1, e2, e3, e4, e5, e6⟩ := tyOf_spec (hT _ _ hi)
  obtain ⟨info', d', e1', e2', e3', e4', e5', e6'⟩ := tyOf_spec (hT _ _ hj)
  have hd1 := tk_map (P := P) (d := d) (e3 ▸ hk)
  subst hd1
  have hd' := tk_int (P := P) (d := d') (e3' ▸ hjk)
  subst hd'
  have hvy : a.eval y = .int K z := (look_rel hs hy').int_inv
  obtain ⟨r, hr, hr0, hvx⟩ := (look_rel hs hx').map_inv
  obtain ⟨r', hl, ⟨r1, r2, es, clk, r3, r4⟩, r5⟩ := hs.heap.obj b _ hb' rfl
  rw [hr] at hl; cases hl
  have hE := mapCells_iff.1 r4
  obtain ⟨rr, f1, f2⟩ := hE.find z 0
  unfold Oper.wp
  rcases f2 with ⟨g1, rfl⟩ | ⟨p, v, en, g1, rfl, g3, g4, g5⟩
  · have hrun : (execOp a.eval o).run P w = .ok (.value (.tuple #[])) { w with heap := w.heap.setIfInBounds r.rb (.map es clk) } := by
      simp [execOp, ho, resolve, invoke, builtin, Builtin.delete_, hvx, hvy, run_underlying' e2, MapKept.run_getObj_map r3, run_checkInt e2', run_findInt e2' f1, MapKept.run_setObj_map _ r3]
    rw [hrun]
    obtain ⟨u1, u2⟩ := map_write hs (es' := es) (clk' := clk) hb' hr r1 r2 r3 (m' := kdel z m) (by rw [kdel_none g1]; exact hE)
    exact ⟨_, H, ι, rfl, (fun x ex => by cases ex), u1, u2⟩
  · have hrun : (execOp a.eval o).run P w = .ok (.value (.tuple #[])) { w with heap := w.heap.setIfInBounds r.rb (.map (es.eraseIdxIfInBounds p) clk) } := by
      simp [execOp, ho, resolve, invoke, builtin, Builtin.delete_, hvx, hvy, run_underlying' e2, MapKept.run_getObj_map r3, run_checkInt e2', run_findInt e2' f1, MapKept.run_setObj_map _ r3]
    rw [hrun]
    obtain ⟨u1, u2⟩ := map_write hs (es' := es.eraseIdxIfInBounds p) (clk' := clk) hb' hr r1 r2 r3 (m' := kdel z m) (by rw [Array.toList_eraseIdxIfInBounds]; exact hE.del_old g1)
    exact ⟨_, H, ι, rfl, (fun x ex => by cases ex), u1, u2⟩
end
end Go.Proofs.Ytidfabbnobipkaa.Sv
