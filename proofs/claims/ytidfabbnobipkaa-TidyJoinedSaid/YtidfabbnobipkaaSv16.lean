/-
  SLICES WRITTEN OUT AND CUT, BYTES OF STRINGS: own work, over no program.
-/
import Derived.Test.YtidfabbnobipkaaSv15
namespace Go.Proofs.Ytidfabbnobipkaa.Sv
open Go
set_option linter.unusedVariables false
set_option linter.unusedSimpArgs false

theorem fill_slice {sz : Nat} : ∀ (qs : List Value) (k : Nat) (cs : Array Value), (∀ q ∈ qs, q.cells.size = sz) → (k + qs.length) * sz ≤ cs.size →
    ∃ cs', Instr.fill (fun i => some (i * sz, sz)) cs ((qs.zipIdx k).map fun p => (p.2, p.1)) = some cs' ∧ cs'.size = cs.size ∧ (∀ x, x < k * sz → cs'[x]? = cs[x]?) ∧
      ∀ (i j : Nat) (q : Value), qs[i]? = some q → j < sz → cs'[(k + i) * sz + j]? = q.cells[j]?
  | [], k, cs, _, _ => ⟨cs, rfl, rfl, fun _ _ => rfl, fun i j q h => by simp at h⟩
  | q :: qs, k, cs, hq, hl => by
    have hsz := hq q (by simp)
    have hle : k * sz + sz ≤ cs.size := by
      have : (k + 1) * sz ≤ (k + (q :: qs).length) * sz := Nat.mul_le_mul_right _ (by simp)
      rw [Nat.add_mul, Nat.one_mul] at this
      omega
    have hfs : (q.cells.zipIdx.foldl (fun cs (c, j) => cs.setIfInBounds (k * sz + j) c) cs) = ((q.cells.toList.zipIdx 0).foldl (fun cs (c, j) => cs.setIfInBounds (k * sz + j) c) cs) := by
      rw [← Array.foldl_toList]; simp
    have hget := foldl_set_get (k * sz) q.cells.toList 0 cs
    obtain ⟨cs', h1, h2, h3, h4⟩ := fill_slice qs (k + 1) (q.cells.zipIdx.foldl (fun cs (c, j) => cs.setIfInBounds (k * sz + j) c) cs) (fun x hx => hq x (by simp [hx])) (by rw [hfs, foldl_set_size]; simpa [Nat.add_assoc, Nat.add_comm 1] using hl)
    rw [hfs, foldl_set_size] at h2
    rw [hfs] at h3
    refine ⟨cs', ?_, h2, fun x hx => ?_, fun i j q' hi hj => ?_⟩
    · rw [List.zipIdx_cons, List.map_cons]
      unfold Instr.fill
      simp only
      rw [if_neg (by simp only [Bool.or_eq_true, decide_eq_true_eq, not_or]; exact ⟨by simp [hsz], by omega⟩)]
      exact h1
    · rw [h3 x (by rw [Nat.add_mul]; omega), hget, if_neg (by omega)]
    · cases i with
      | zero =>
        simp at hi; subst hi
        simp only [Nat.add_zero]
        rw [h3 _ (by rw [Nat.add_mul, Nat.one_mul]; omega), hget, if_pos (by simp only [Array.length_toList]; omega)]
        simp
      | succ i =>
        have := h4 i j q' (by simpa using hi) hj
        rwa [Nat.add_assoc, Nat.add_comm 1 i] at this

def partVals : List (Nat × AV) → List (List AV)
  | [] => []
  | (_, x) :: ps => x.cells :: partVals ps

theorem partVals_get : ∀ {ps : List (Nat × AV)} {i : Nat} {cs : List AV}, (partVals ps)[i]? = some cs → ∃ p, ps[i]? = some p ∧ cs = p.2.cells
  | [], i, cs, h => by simp [partVals] at h
  | (k, x) :: ps, 0, cs, h => by simp [partVals] at h; exact ⟨(k, x), rfl, h.symm⟩
  | (k, x) :: ps, i + 1, cs, h => by simp only [partVals, List.getElem?_cons_succ] at h ⊢; exact partVals_get h
theorem partVals_length : ∀ {ps : List (Nat × AV)}, (partVals ps).length = ps.length
  | [] => rfl
  | _ :: ps => by simp [partVals, partVals_length (ps := ps)]

section
variable {P : Program} {T : Nat → Option TyI} {o : Oper} {e : AEnv} {h : AHeap}

theorem run_buildSlice (hT : TOk P T) {t : TypeId} {len u : Nat} {i j : TyI} {qs : List Value} (hi : T t = some i) (hk : i.k = .slice u) (hj : T u = some j) (hz : j.zero.length = j.size) (hp : 0 < j.size) (w : World) (hlen : qs.length = len) (hsz : ∀ q ∈ qs, q.cells.size = j.size) (hbig : len * j.size ≤ 16777216) :
    ∃ c, (Instr.buildSlice t len (qs.zipIdx.map fun p => (p.2, p.1)).toArray).run P w = .ok (.slice (some ⟨w.heap.size, 0, none⟩) len len) (w.alloc (.cells c u)) ∧ c.size = len * j.size ∧
      ∀ (i k : Nat) (q : Value), qs[i]? = some q → k < j.size → c[i * j.size + k]? = q.cells[k]? := by
  obtain ⟨info, d, e1, e2, e3, e4, e5, e6⟩ := tyOf_spec (hT _ _ hi)
  obtain ⟨info', d', e1', e2', e3', e4', e5', e6'⟩ := tyOf_spec (hT _ _ hj)
  have hd := tk_slice (P := P) (d := d) (e3 ▸ hk)
  subst hd
  obtain ⟨z, hz1, hz2⟩ := zero_spec e6' hz hp
  have hbig' : ¬ (16777216 < len * j.size) := by omega
  subst hlen
  obtain ⟨c, c1, c2, c3, c4⟩ := fill_slice (sz := j.size) qs 0 ((Array.range (qs.length * j.size)).map (z.cells[· % z.cells.size]!)) hsz (by simp)
  refine ⟨c, ?_, by simpa using c2, fun i k q h1 h2 => by have := c4 i k q h1 h2; simpa using this⟩
  by_cases h0 : qs.length * j.size = 0
  · have hq : qs.length = 0 := by
      rcases Nat.mul_eq_zero.1 h0 with h | h
      · exact h
      · omega
    have hq' : qs = [] := List.eq_nil_of_length_eq_zero hq
    subst hq'
    simp [Instr.buildSlice, run_underlying' e2, run_isz e1', e4', newRow, Instr.fill]
    have : c = #[] := by
      have := c2
      simp at this
      exact this
    subst this
    have hz0 : (Array.map (fun _ => default) (Array.range 0) : Array Value) = #[] := by apply Array.eq_empty_of_size_eq_zero; simp
    rw [hz0]
  · have h0' : ¬ (qs.length = 0 ∨ j.size = 0) := by rw [← Nat.mul_eq_zero]; exact h0
    simp only [Instr.buildSlice, run_underlying' e2, Sem.run_bind, Result.andThen_ok, run_isz e1', e4', show (2 ^ 24 : Nat) = 16777216 by rfl, gt_iff_lt, if_neg hbig', zeroValue, typeInfo, run_program, e1', hz1, Sem.run_pure, if_neg h0, Sem.run_ite]
    rw [c1]
    simp [newRow]

theorem zip_parts {ps : List (Nat × AV)} {a : Act} {l : List (Nat × Operand)} (hidx : l.map (·.1) = List.range l.length) : (l.map fun (i, x) => (i, a.eval x)) = ((l.map fun p => a.eval p.2).zipIdx).map fun p => (p.2, p.1) := by
  apply List.ext_getElem?
  intro k
  simp only [List.getElem?_map, List.getElem?_zipIdx]
  cases hk : l[k]? with
  | none => simp
  | some p =>
    have : (l.map (·.1))[k]? = some p.1 := by simp [hk]
    rw [hidx] at this
    have hlt : k < l.length := (List.getElem?_eq_some_iff.1 hk).1
    rw [List.getElem?_range hlt] at this
    simp at this
    simp [this]

def sizesAre (n : Nat) : List (Nat × AV) → Bool
  | [] => true
  | (_, x) :: ps => Nat.beq x.cells.length n && sizesAre n ps
theorem sizesAre_get {n : Nat} : ∀ {ps : List (Nat × AV)}, sizesAre n ps = true → ∀ (k : Nat) (p : Nat × AV), ps[k]? = some p → p.2.cells.length = n
  | [], _, k, p, h => by simp at h
  | (i, x) :: ps, hs, k, p, h => by
    simp only [sizesAre, Bool.and_eq_true] at hs
    cases k with
    | zero => simp at h; subst h; exact Nat.eq_of_beq_eq_true hs.1
    | succ k => simp at h; exact sizesAre_get hs.2 k p h

/-- what a slice that is written out has in its cells -/
theorem lit_cells (hT : TOk P T) {H : Know} {ι : Lay} {s : AState} {a : Act} {w : World} (hs : Sim H ι s a w) {l : List (Nat × Operand)} {ps : List (Nat × AV)} (hx : lookParts s.env l = some ps) {n : Nat} (hsz : sizesAre n ps = true) (h1 : (partVals ps).all (·.all AV.cell1) = true)
    {c : Array Value} (hc : ∀ (i k : Nat) (q : Value), (l.map fun p => a.eval p.2)[i]? = some q → k < n → c[i * n + k]? = q.cells[k]?) :
    (∀ q ∈ l.map fun p => a.eval p.2, q.cells.size = n) ∧ rowCells H ι n (partVals ps) c := by
  obtain ⟨l1, l2⟩ := lookParts_rel hs hx
  have hq : ∀ (k : Nat) (p : Nat × AV), ps[k]? = some p → ∃ q, (l.map fun p => a.eval p.2)[k]? = some q ∧ Rel H ι p.2 q := fun k p hk => by
    have hlt : k < l.length := by rw [← l1]; exact (List.getElem?_eq_some_iff.1 hk).1
    refine ⟨a.eval l[k].2, by simp [hlt], (l2 k p (l[k].1, a.eval l[k].2) hk (by simp [hlt])).2⟩
  refine ⟨fun q hq' => ?_, fun i cs hi => ?_, fun i cs j x hi hj => ?_⟩
  · obtain ⟨k, hk⟩ := List.getElem?_of_mem hq'
    have hlt : k < ps.length := by rw [l1]; have := (List.getElem?_eq_some_iff.1 hk).1; simpa using this
    obtain ⟨q', h2, h3⟩ := hq k ps[k] (List.getElem?_eq_getElem hlt)
    rw [hk] at h2; cases h2
    rw [← (cells_rel h3).1]
    exact sizesAre_get hsz k _ (List.getElem?_eq_getElem hlt)
  · obtain ⟨p, hp, rfl⟩ := partVals_get hi
    exact sizesAre_get hsz i p hp
  · obtain ⟨p, hp, rfl⟩ := partVals_get hi
    obtain ⟨q, h2, h3⟩ := hq i p hp
    obtain ⟨c1, c2⟩ := cells_rel h3
    have hjl : j < p.2.cells.length := (List.getElem?_eq_some_iff.1 hj).1
    have hjn : j < n := by rw [← sizesAre_get hsz i p hp]; exact hjl
    obtain ⟨v, hv⟩ := getElem?_some_of_lt (c := q.cells) (j := j) (by omega)
    refine ⟨v, by rw [hc i j q h2 hjn]; exact hv, c2 j x v hj hv, ?_⟩
    have := List.all_eq_true.1 h1 _ (List.mem_of_getElem? hi)
    exact List.all_eq_true.1 this x (List.mem_of_getElem? hj)

theorem exec_buildSlice {t : TypeId} {len : Nat} {parts : Array (Nat × Operand)} {a : Act} {w : World} {v : Value} {w' : World} (ho : o.op = .buildSlice t len parts) (hidx : parts.toList.map (·.1) = List.range parts.toList.length)
    (hrun : (Instr.buildSlice t len (((parts.toList.map fun p => a.eval p.2).zipIdx).map fun p => (p.2, p.1)).toArray).run P w = .ok v w') : (execOp a.eval o).run P w = .ok (.value v) w' := by
  have hparts : (parts.map fun (i, x) => (i, a.eval x)) = (((parts.toList.map fun p => a.eval p.2).zipIdx).map fun p => (p.2, p.1)).toArray := by
    apply Array.ext'
    rw [← zip_parts (ps := []) hidx]
    simp
  simp only [execOp, ho, hparts, Sem.run_bind, hrun, Result.andThen_ok, Sem.run_pure]

/-- Memory that stays as it is. -/
theorem o_lit (hT : TOk P T) {t : TypeId} {len u : Nat} {parts : Array (Nat × Operand)} {ps : List (Nat × AV)} {i j : TyI} (ho : o.op = .buildSlice t len parts) (hx : lookParts e parts.toList = some ps) (hi : T t = some i) (hk : i.k = .slice u) (hj : T u = some j) (hz : j.zero.length = j.size) (hp : 0 < j.size)
    (hidx : parts.toList.map (·.1) = List.range parts.toList.length) (hlen : parts.toList.length = len) (hsz : sizesAre j.size ps = true) (h1 : (partVals ps).all (·.all AV.cell1) = true) (hpure : (partVals ps).all (·.all AV.isPure1) = true) (hbig : Nat.ble (len * j.size) 16777216 = true) :
    OLoc P o e h [] [] (some (.lst true (partVals ps))) := by
  intro H ι a w s Q hs g1 g2
  have hx' : lookParts s.env parts.toList = some ps := by
    rw [lookParts_agree (e := e) (fun x hx => g1 x (by rw [ho]; simp only [Op.operands, List.mem_toArray]; exact hx))]; exact hx
  obtain ⟨l1, l2⟩ := lookParts_rel hs hx'
  have hqs : ∀ q ∈ parts.toList.map fun p => a.eval p.2, q.cells.size = j.size := fun q hq => by
    obtain ⟨k, hk⟩ := List.getElem?_of_mem hq
    have hlt : k < parts.toList.length := by have := (List.getElem?_eq_some_iff.1 hk).1; simpa using this
    have hltp : k < ps.length := by omega
    have h3 := (l2 k ps[k] ((parts.toList[k]).1, a.eval (parts.toList[k]).2) (List.getElem?_eq_getElem hltp) (by rw [List.getElem?_map, List.getElem?_eq_getElem hlt]; rfl)).2
    rw [List.getElem?_map, List.getElem?_eq_getElem hlt] at hk
    cases hk
    rw [← (cells_rel h3).1]
    exact sizesAre_get hsz k _ (List.getElem?_eq_getElem hltp)
  obtain ⟨c, c1, c2, c3⟩ := run_buildSlice hT hi hk hj hz hp w (len := len) (by rw [List.length_map]; exact hlen) hqs (Nat.le_of_ble_eq_true hbig)
  obtain ⟨_, d1, d2⟩ := lit_cells hT hs hx' hsz h1 c3
  obtain ⟨u1, u2, u3⟩ := hs.heap.know_new c u
  have hexec := exec_buildSlice ho hidx c1
  unfold Oper.wp
  rw [hexec]
  refine ⟨_, _, ι, rfl, (fun x ex => ?_), u1, u2⟩
  cases ex
  have hpl : (partVals ps).length = len := by rw [partVals_length, l1]; exact hlen
  by_cases h0 : len = 0
  · have : partVals ps = [] := List.eq_nil_of_length_eq_zero (by omega)
    rw [this, h0]
    exact .lst0 _ _ _ _ (fun _ => rfl) (Nat.zero_le _) (fun h => by cases h) trivial
  · have hml : len ≤ maxLen := by
      have : len * 1 ≤ len * j.size := Nat.mul_le_mul_left _ hp
      have h2 := Nat.le_of_ble_eq_true hbig
      simp only [maxLen]; omega
    have := Rel.lst (H := kput H w.heap.size c) ι true (partVals ps) w.heap.size 0 len j.size c (fun i k => (c[i * j.size + k]?).getD undef) (fun hh => by rw [hh] at hpl; simp at hpl; omega) (kput_same _ _ _) d1
      (fun i cs k x q1 q2 => by obtain ⟨v, f1, _⟩ := d2 i cs k x q1 q2; rw [Nat.zero_add, f1]; rfl)
      (fun i cs k x q1 q2 => by
        obtain ⟨v, f1, f2, _⟩ := d2 i cs k x q1 q2
        rw [f1]
        have hpp := List.all_eq_true.1 hpure _ (List.mem_of_getElem? q1)
        exact (pure1_rel (List.all_eq_true.1 hpp x (List.mem_of_getElem? q2)) f2).mono u3 (LLe.refl _))
      (fun i cs k x q1 q2 => by obtain ⟨v, _, _, f3⟩ := d2 i cs k x q1 q2; exact f3) (fun _ => hpl.symm) (by omega) hml
    rw [hpl] at this
    exact this

/-- Memory of the call's own. -/
theorem o_litRow (hT : TOk P T) {t : TypeId} {len u : Nat} {parts : Array (Nat × Operand)} {ps : List (Nat × AV)} {i j : TyI} (b : Nat) (p : Bool) (ho : o.op = .buildSlice t len parts) (hx : lookParts e parts.toList = some ps) (hi : T t = some i) (hk : i.k = .slice u) (hj : T u = some j) (hz : j.zero.length = j.size) (hp : 0 < j.size)
    (hidx : parts.toList.map (·.1) = List.range parts.toList.length) (hlen : parts.toList.length = len) (hsz : sizesAre j.size ps = true) (h1 : (partVals ps).all (·.all AV.cell1) = true) (hpure : p = true → (partVals ps).all (·.all AV.isPure1) = true) (hbig : Nat.ble (len * j.size) 16777216 = true) (hb : h b = some .free) :
    OLoc P o e h [b] [(b, .row p j.size (partVals ps))] (some (.ref b len 0 len)) := by
  refine OLoc.of_new hb (by simp) hp fun H ι a w s hs g1 g2 => ?_
  have hx' : lookParts s.env parts.toList = some ps := by
    rw [lookParts_agree (e := e) (fun x hx => g1 x (by rw [ho]; simp only [Op.operands, List.mem_toArray]; exact hx))]; exact hx
  obtain ⟨l1, l2⟩ := lookParts_rel hs hx'
  have hqs : ∀ q ∈ parts.toList.map fun p => a.eval p.2, q.cells.size = j.size := fun q hq => by
    obtain ⟨k, hk⟩ := List.getElem?_of_mem hq
    have hlt : k < parts.toList.length := by have := (List.getElem?_eq_some_iff.1 hk).1; simpa using this
    have hltp : k < ps.length := by omega
    have h3 := (l2 k ps[k] ((parts.toList[k]).1, a.eval (parts.toList[k]).2) (List.getElem?_eq_getElem hltp) (by rw [List.getElem?_map, List.getElem?_eq_getElem hlt]; rfl)).2
    rw [List.getElem?_map, List.getElem?_eq_getElem hlt] at hk
    cases hk
    rw [← (cells_rel h3).1]
    exact sizesAre_get hsz k _ (List.getElem?_eq_getElem hltp)
  obtain ⟨c, c1, c2, c3⟩ := run_buildSlice hT hi hk hj hz hp w (len := len) (by rw [List.length_map]; exact hlen) hqs (Nat.le_of_ble_eq_true hbig)
  obtain ⟨_, d1, d2⟩ := lit_cells hT hs hx' hsz h1 c3
  have hpl : (partVals ps).length = len := by rw [partVals_length, l1]; exact hlen
  have hml : len ≤ maxLen := by
    have : len * 1 ≤ len * j.size := Nat.mul_le_mul_left _ hp
    have h2 := Nat.le_of_ble_eq_true hbig
    simp only [maxLen]; omega
  refine ⟨_, c, u, w, rfl, rfl, rfl, by rw [hpl, c2]; exact Nat.le_refl _, ⟨d1, fun i cs k x q1 q2 => ?_⟩, exec_buildSlice ho hidx c1, ?_⟩
  · obtain ⟨v, f1, f2, f3⟩ := d2 i cs k x q1 q2
    refine ⟨v, f1, ?_, f3⟩
    cases p with
    | false => exact f2
    | true =>
      have hpp := List.all_eq_true.1 (hpure rfl) _ (List.mem_of_getElem? q1)
      exact pure1_rel (List.all_eq_true.1 hpp x (List.mem_of_getElem? q2)) f2
  · have := Rel.refL (H := H) (lput ι b ⟨w.heap.size, j.size, (partVals ps).length, c.size⟩) b len 0 len len _ (lput_same _ _ _) hpl (by omega) (Nat.le_refl _) (by simp [c2]) hml
    simpa using this

/-! ### cutting -/
theorem q_index_str (hT : TOk P T) {t : TypeId} {x y : Operand} {z : ByteArray} {k : IntKind} {n : Int} {i : TyI} {c : UInt8} (ho : o.op = .index t x y) (hx : look e x = some (.str z)) (hy : look e y = some (.int k n)) (hi : T t = some i) (hk : i.k = .string) (h0 : 0 ≤ n) (hn : z.data.toList[n.toNat]? = some c) :
    QLoc P o e h [] (.int .u8 c.toNat) := by
  intro H ι a w s hs g1 g2
  have hx' : look s.env x = some (.str z) := by rw [g1 x (by rw [ho]; simp [Op.operands]), hx]
  have hy' : look s.env y = some (.int k n) := by rw [g1 y (by rw [ho]; simp [Op.operands]), hy]
  have hvx := (look_rel hs hx').str_inv
  have hvy := (look_rel hs hy').int_inv
  obtain ⟨info, d, e1, e2, e3, e4, e5, e6⟩ := tyOf_spec (hT _ _ hi)
  have hd := tk_string (P := P) (d := d) (e3 ▸ hk)
  subst hd
  have hz : z[n.toNat]? = some c := by
    rw [Array.getElem?_toList] at hn
    have hlt := (Array.getElem?_eq_some_iff.1 hn).1
    have hlt' : n.toNat < z.size := hlt
    rw [ByteArray.getElem?_lt' z _ hlt']
    congr 1
    exact (Array.getElem?_eq_some_iff.1 hn).2
  refine ⟨_, .int _ _ _, ?_⟩
  simp only [execOp, ho, hvx, hvy, Instr.index, asIntOf, Sem.run_bind, Sem.run_pure, Result.andThen_ok, run_underlying' e2, h0, if_true, hz]

/-- the parts of a slice that is only read: [lo:hi], [lo:], [:hi] -/
theorem q_slice_lst (hT : TOk P T) {t : TypeId} {x : Operand} {lo hi : Option Operand} {ex : Bool} {es : List (List AV)} {i j : TyI} {u : Nat} (l m : Nat) (ho : o.op = .slice t x lo hi none) (hx : look e x = some (.lst ex es)) (ht : T t = some i) (hk : i.k = .slice u) (hj : T u = some j)
    (hl : match lo with | none => l = 0 | some y => ∃ k, look e y = some (.int k (l : Int))) (hm : match hi with | none => m = es.length | some y => ∃ k, look e y = some (.int k (m : Int))) (hlm : l ≤ m) (hme : m ≤ es.length) (hu : ∀ cs ∈ es, cs.length = j.size) :
    QLoc P o e h [] (.lst (ex && Nat.beq m es.length) ((es.take m).drop l)) := by
  intro H ι a w s hs g1 g2
  have hx' : look s.env x = some (.lst ex es) := by rw [g1 x (by rw [ho]; simp [Op.operands]), hx]
  obtain ⟨info, d, e1, e2, e3, e4, e5, e6⟩ := tyOf_spec (hT _ _ ht)
  obtain ⟨info', d', e1', e2', e3', e4', e5', e6'⟩ := tyOf_spec (hT _ _ hj)
  have hd := tk_slice (P := P) (d := d) (e3 ▸ hk)
  subst hd
  have hvx := look_rel hs hx'
  generalize hva : a.eval x = va at hvx
  have hlo : (lo.map a.eval) = none ∧ l = 0 ∨ ∃ k, lo.map a.eval = some (.int k (l : Int)) := by
    cases lo with
    | none => exact .inl ⟨rfl, hl⟩
    | some y =>
      obtain ⟨k, hk⟩ := hl
      exact .inr ⟨k, by simp only [Option.map_some, Option.some.injEq]; exact (look_rel hs (by rw [g1 y (by rw [ho]; simp [Op.operands])]; exact hk)).int_inv⟩
  have hhi : (hi.map a.eval) = none ∧ m = es.length ∨ ∃ k, hi.map a.eval = some (.int k (m : Int)) := by
    cases hi with
    | none => exact .inl ⟨rfl, hm⟩
    | some y =>
      obtain ⟨k, hk⟩ := hm
      exact .inr ⟨k, by simp only [Option.map_some, Option.some.injEq]; exact (look_rel hs (by rw [g1 y (by rw [ho]; simp [Op.operands])]; exact hk)).int_inv⟩
  have hrun : ∀ (ad : Option Addr) (cap : Nat), m ≤ cap → va = .slice ad es.length cap → (execOp a.eval o).run P w = .ok (.value (.slice (if cap = l then ad else ad.map (·.add (l * j.size))) (m - l) (cap - l))) w := fun ad cap hcap hv => by
    have hb : (Instr.sliceBounds true es.length cap (lo.map a.eval) (hi.map a.eval) none).run P w = .ok (l, m, cap) w := by
      rcases hlo with ⟨q1, q2⟩ | ⟨k, q1⟩ <;> rcases hhi with ⟨q3, q4⟩ | ⟨k', q3⟩ <;> rw [q1, q3]
      · subst q2; subst q4
        simp [Instr.sliceBounds]
      · subst q2
        simp [Instr.sliceBounds, Instr.sliceBound, asIntOf, hcap]
      · subst q4
        simp [Instr.sliceBounds, Instr.sliceBound, asIntOf, hlm]
      · simp [Instr.sliceBounds, Instr.sliceBound, asIntOf, hcap, hlm]
    simp only [execOp, ho, hva, hv, Instr.sliceAt, Instr.slice, Option.map_none, Sem.run_bind, run_underlying' e2, Result.andThen_ok, hb, run_isz e1', e4', Sem.run_pure]
  have hlenr : ((es.take m).drop l).length = m - l := by simp; omega
  rcases hvx.lst_inv with ⟨rfl, ad, cap, rfl, h1, h2, h3, h4⟩ | ⟨hne, b, off, cap, sz, c, vals, rfl, hb, hsz', hv, hr, hc1, hex, hcap, hmax⟩
  · simp at hme
    subst hme
    have hl0 : l = 0 := by omega
    subst hl0
    refine ⟨_, ?_, hrun ad cap (Nat.zero_le _) rfl⟩
    have hadd : (if cap = 0 then ad else ad.map (·.add (0 * j.size))) = ad := by
      split
      · rfl
      · cases ad <;> simp [Addr.add]
    rw [hadd]
    simp only [List.take_nil, List.drop_nil, List.length_nil, Nat.sub_zero]
    have : Nat.beq 0 0 = true := rfl
    rw [this, Bool.and_true]
    exact .lst0 _ _ _ _ h1 h2 h3 h4
  · refine ⟨_, ?_, hrun _ cap (by omega) rfl⟩
    have hss : sz = j.size := by
      cases es with
      | nil => exact absurd rfl hne
      | cons cs es => rw [← hsz' 0 cs (by simp), hu cs (by simp)]
    by_cases hemp : m - l = 0
    · have : (es.take m).drop l = [] := List.eq_nil_of_length_eq_zero (by omega)
      rw [this, hemp]
      refine .lst0 _ _ _ _ (fun hx => ?_) (by omega) (fun hx => ?_) trivial
      · simp only [Bool.and_eq_true] at hx
        have := Nat.eq_of_beq_eq_true hx.2
        have := hex hx.1
        omega
      · split at hx <;> simp at hx
    · have hcl : ¬ cap = l := by omega
      rw [if_neg hcl]
      simp only [Option.map_some, add_mk]
      have hg : ∀ (k : Nat) (cs : List AV), ((es.take m).drop l)[k]? = some cs → es[l + k]? = some cs := fun k cs hk => by
        rw [List.getElem?_drop] at hk
        have hlt : l + k < m := by
          rcases Nat.lt_or_ge (l + k) m with h | h
          · exact h
          · rw [List.getElem?_eq_none (by simp; omega)] at hk; cases hk
        rwa [List.getElem?_take_of_lt hlt] at hk
      have := Rel.lst (H := H) ι (ex && Nat.beq m es.length) ((es.take m).drop l) b (off + l * j.size) (cap - l) sz c (fun k q => vals (l + k) q) (fun hh => by rw [hh] at hlenr; simp at hlenr; omega) hb
        (fun k cs hk => hsz' _ cs (hg k cs hk)) (fun k cs q x hk hq => by
          have := hv (l + k) cs q x (hg k cs hk) hq
          rw [Nat.add_mul] at this
          rw [← hss]
          rwa [show off + l * sz + k * sz + q = off + (l * sz + k * sz) + q by omega])
        (fun k cs q x hk hq => hr _ cs q x (hg k cs hk) hq) (fun k cs q x hk hq => hc1 _ cs q x (hg k cs hk) hq)
        (fun hx => by
          simp only [Bool.and_eq_true] at hx
          have := Nat.eq_of_beq_eq_true hx.2
          have := hex hx.1
          omega) (by omega) (by omega)
      rw [hlenr] at this
      exact this

end
end Go.Proofs.Ytidfabbnobipkaa.Sv
