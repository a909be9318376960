/-
  SLICES: made, written out, appended to, cut: own work, over no program.
-/
import Derived.Test.YtidfabbnobipkaaSv8
namespace Go.Proofs.Ytidfabbnobipkaa.Sv
open Go
set_option linter.unusedVariables false
set_option linter.unusedSimpArgs false

theorem getElem?_mod_zero {z : Array Value} {n : Nat} {i j sz : Nat} (hz : z.size = sz) (hj : j < sz) (hi : i < n) : (madeCells z (n * sz))[i * sz + j]? = z[j]? := by
  have h1 := mul_add_lt_mul hi hj
  have h2 : (i * sz + j) % sz = j := by rw [Nat.mul_comm, Nat.mul_add_mod, Nat.mod_eq_of_lt hj]
  simp only [madeCells]
  rw [Array.getElem?_map, Array.getElem?_range]
  simp only [h1, if_true, Option.map_some, hz, h2]
  rw [getElem!_pos z j (by omega)]
  simp [hz, hj]

theorem rowCells_zero {H : Know} {ι : Lay} {zs : List AV} {z : Array Value} {n m sz : Nat} (hl : zs.length = sz) (hz : z.size = sz) (hr : ∀ (j : Nat) (x : AV) (v : Value), zs[j]? = some x → z[j]? = some v → Rel H ι x v) (h1 : zs.all AV.cell1 = true) (hn : n ≤ m) :
    rowCells H ι sz (List.replicate n zs) (madeCells z (m * sz)) := by
  refine ⟨fun i cs e => ?_, fun i cs j x e1 e2 => ?_⟩
  · rw [List.getElem?_replicate] at e
    split at e
    · cases e; exact hl
    · cases e
  · rw [List.getElem?_replicate] at e1
    split at e1
    · rename_i hi
      cases e1
      have hj : j < sz := by
        rw [← hl]
        rcases Nat.lt_or_ge j zs.length with h | h
        · exact h
        · rw [List.getElem?_eq_none h] at e2; cases e2
      obtain ⟨v, hv⟩ := getElem?_some_of_lt (c := z) (j := j) (by omega)
      exact ⟨v, by rw [getElem?_mod_zero hz hj (by omega)]; exact hv, hr j x v e2 hv, List.all_eq_true.1 h1 x (List.mem_of_getElem? e2)⟩
    · cases e1

section
variable {P : Program} {T : Nat → Option TyI} {o : Oper} {e : AEnv} {h : AHeap}

theorem o_makeSlice (hT : TOk P T) {t : TypeId} {x y : Operand} {i j : TyI} {u : Nat} {n m : Nat} {k k' : IntKind} {zi zj : Int} (b : Nat) (p : Bool) (ho : o.op = .makeSlice t x y) (hx : look e x = some (.int k zi)) (hy : look e y = some (.int k' zj)) (hni : zi = (n : Int)) (hnj : zj = (m : Int)) (hi : T t = some i) (hk : i.k = .slice u) (hj : T u = some j)
    (hb : h b = some .free) (hz : j.zero.length = j.size) (hp : 0 < j.size) (h1 : j.zero.all AV.cell1 = true) (hnm : n ≤ m) (hby : j.bytes * m ≤ 281474976710656) (hm : m ≤ maxLen) :
    OLoc P o e h [b] [(b, .row p j.size (List.replicate n j.zero))] (some (.ref b n 0 n)) := by
  refine OLoc.of_new hb (by simp) hp fun H ι a w s hs g1 g2 => ?_
  have hx' : look s.env x = some (.int k zi) := by rw [g1 x (by rw [ho]; simp [Op.operands]), hx]
  have hy' : look s.env y = some (.int k' zj) := by rw [g1 y (by rw [ho]; simp [Op.operands]), hy]
  have hvx := (look_rel hs hx').int_inv
  have hvy := (look_rel hs hy').int_inv
  subst hni; subst hnj
  obtain ⟨info, d, e1, e2, e3, e4, e5, e6⟩ := tyOf_spec (hT _ _ hi)
  obtain ⟨info', d', e1', e2', e3', e4', e5', e6'⟩ := tyOf_spec (hT _ _ hj)
  have hd := tk_slice (P := P) (d := d) (e3 ▸ hk)
  subst hd
  obtain ⟨z, hz1, hz2⟩ := zero_spec e6' hz hp
  obtain ⟨z1, z2⟩ := allAV_rel (H := H) (ι := noLay) hz2
  have z1' : z.cells.size = j.size := by rw [← hz]; simpa using z1.symm
  have hm63 : (m : Int) ≤ 9223372036854775807 := by
    have := hm
    simp only [maxLen] at this
    omega
  have hb'' : (j.bytes : Int) * (m : Int) ≤ 281474976710656 := by
    have hb' : ((j.bytes * m : Nat) : Int) ≤ 281474976710656 := by omega
    rwa [Int.natCast_mul] at hb'
  have hrun := run_make (P := P) w t u info' z e2 e1' hz1 k k' (n : Int) (m : Int) (by omega) (by omega) (by rw [e5']; exact hb'') hm63
  simp only [Int.toNat_natCast, e4'] at hrun
  refine ⟨.slice (some ⟨w.heap.size, 0, none⟩) n m, madeCells z.cells (m * j.size), u, w, rfl, rfl, rfl, ?_, ?_, ?_, ?_⟩
  · rw [size_madeCells, List.length_replicate]; exact Nat.mul_le_mul_right _ hnm
  · refine rowCells_zero hz z1' (fun q x v f1 f2 => (z2 q x v f1 (by simpa using f2)).mono (KLe.refl _) (LLe.none _)) h1 hnm
  · simp only [execOp, ho, hvx, hvy, Sem.run_bind, hrun, Result.andThen_ok, Sem.run_pure]
  · have := Rel.refL (H := H) (lput ι b ⟨w.heap.size, j.size, (List.replicate n j.zero).length, (madeCells z.cells (m * j.size)).size⟩) b n 0 n m _ (lput_same _ _ _) (by simp) (by omega) hnm (by simp [size_madeCells]) hm
    simpa using this

/-! ### what is appended -/
def byteAV (s : ByteArray) : List (List AV) := s.data.toList.map fun b => [.int .u8 b.toNat]

inductive SrcOf (h : AHeap) : AV → List Nat → List (List AV) → Prop
  | lst (ex : Bool) (es : List (List AV)) : SrcOf h (.lst ex es) [] es
  | nil : SrcOf h .nil [] []
  | ref (b n off len : Nat) (p : Bool) (sz : Nat) (es : List (List AV)) (hb : h b = some (.row p sz es)) (hn : n = es.length) : SrcOf h (.ref b n off len) [b] ((es.drop off).take len)

theorem flat_get {es : List (List AV)} {sz : Nat} {c : List Value} (hl : c.length = es.length * sz) : True := trivial

/-- A part of a row of cells, as a list. -/
theorem part_get {c : Array Value} {off n j : Nat} (h : off + n ≤ c.size) (hj : j < n) : ((c.toList.drop off).take n)[j]? = c[off + j]? := by
  rw [List.getElem?_take_of_lt hj, List.getElem?_drop, Array.getElem?_toList]

theorem src_of {H : Know} {ι : Lay} {w : World} (hr : HeapRel H ι h w) {x : AV} {R : List Nat} {es : List (List AV)} (hsrc : SrcOf h x R es) {v : Value} (hv : Rel H ι x v) {tx e' : TypeId} (hk : P.underlying tx = some (.slice e')) {sz : Nat} (hsz : 0 < sz) (hu : ∀ cs ∈ es, cs.length = sz)
    (w0 : World) (hw0 : w0.heap = w.heap) :
    ∃ news, Src P sz tx v es.length news w0 ∧ (∀ (i : Nat) (cs : List AV) (j : Nat) (y : AV), es[i]? = some cs → cs[j]? = some y → ∃ u, news[i * sz + j]? = some u ∧ Rel H ι y u ∧ y.cell1 = true) := by
  have hcell : ∀ a, w0.cell? a = w.cell? a := fun a => by simp [World.cell?, hw0]
  -- a common part
  have key : ∀ (b off len cap : Nat) (c : Array Value) (TT : TypeId) (fr : Nat × Nat), w.heap[b]? = some (.cells c TT fr) → off + len * sz ≤ c.size → len = es.length → v = .slice (some ⟨b, off, none⟩) len cap →
      (∀ (i : Nat) (cs : List AV) (j : Nat) (y : AV), es[i]? = some cs → cs[j]? = some y → ∃ u, c[off + i * sz + j]? = some u ∧ Rel H ι y u ∧ y.cell1 = true) →
      ∃ news, Src P sz tx v es.length news w0 ∧ (∀ (i : Nat) (cs : List AV) (j : Nat) (y : AV), es[i]? = some cs → cs[j]? = some y → ∃ u, news[i * sz + j]? = some u ∧ Rel H ι y u ∧ y.cell1 = true) := by
    intro b off len cap c TT fr hb hfit hlen hv' hc
    subst hlen
    have hnl : ((c.toList.drop off).take (es.length * sz)).length = es.length * sz := by simp; omega
    have hget : ∀ (i : Nat) (cs : List AV) (j : Nat) (y : AV), es[i]? = some cs → cs[j]? = some y → ∃ u, ((c.toList.drop off).take (es.length * sz))[i * sz + j]? = some u ∧ Rel H ι y u ∧ y.cell1 = true := fun i cs j y h1 h2 => by
      obtain ⟨u, f1, f2, f3⟩ := hc i cs j y h1 h2
      have hi : i < es.length := by
        rcases Nat.lt_or_ge i es.length with h | h
        · exact h
        · rw [List.getElem?_eq_none h] at h1; cases h1
      have hj : j < sz := by
        rw [← hu cs (List.mem_of_getElem? h1)]
        rcases Nat.lt_or_ge j cs.length with h | h
        · exact h
        · rw [List.getElem?_eq_none h] at h2; cases h2
      exact ⟨u, by rw [part_get hfit (mul_add_lt_mul hi hj), ← Nat.add_assoc]; exact f1, f2, f3⟩
    refine ⟨(c.toList.drop off).take (es.length * sz), ?_, hget⟩
    subst hv'
    refine Src.ofSlice w0 hk _ _ _ _ hnl (fun j u hj => ?_) (fun u hu' => ?_)
    · have hjl : j < es.length * sz := by
        rcases Nat.lt_or_ge j (es.length * sz) with h | h
        · exact h
        · rw [List.getElem?_eq_none (by rw [hnl]; exact h)] at hj; cases hj
      rw [part_get hfit hjl] at hj
      rw [hcell, add_mk, cell_row hb]; exact hj
    · obtain ⟨j, hj⟩ := List.getElem?_of_mem hu'
      have hjl : j < es.length * sz := by
        rcases Nat.lt_or_ge j (es.length * sz) with h | h
        · exact h
        · rw [List.getElem?_eq_none (by rw [hnl]; exact h)] at hj; cases hj
      have hi : j / sz < es.length := Nat.div_lt_of_lt_mul (by rw [Nat.mul_comm]; exact hjl)
      have hm : j % sz < sz := Nat.mod_lt _ hsz
      have hjj : j / sz * sz + j % sz = j := by rw [Nat.mul_comm]; exact Nat.div_add_mod j sz
      have hcs : (es[j / sz]).length = sz := hu _ (List.getElem_mem hi)
      obtain ⟨u', f1, f2, f3⟩ := hget (j / sz) es[j / sz] (j % sz) (es[j / sz])[j % sz] (List.getElem?_eq_getElem hi) (List.getElem?_eq_getElem (by omega))
      rw [hjj, hj] at f1
      cases f1
      exact cell1_rel f2 f3
  cases hsrc with
  | lst ex es =>
    rcases hv.lst_inv with ⟨rfl, ad, cap, rfl, h1, h2, h3, h4⟩ | ⟨hne, b, off, cap, sz', c, vals, rfl, hb, hsz', hvs, hrs, hc1, hex, hcap, hmax⟩
    · refine ⟨[], ?_, fun i cs j y h1 => by simp at h1⟩
      cases ad with
      | none => have := h3 rfl; subst this; exact Src.ofNil w0 hk 0
      | some x => exact Src.ofSlice w0 hk x 0 cap [] (by simp) (fun j u hj => by simp at hj) (fun u hu => by simp at hu)
    · obtain ⟨TT, fr, hw⟩ := hr.know b c hb
      have hss : sz' = sz := by
        cases es with
        | nil => exact absurd rfl hne
        | cons cs es => rw [← hsz' 0 cs (by simp), hu cs (by simp)]
      subst hss
      refine key b off es.length cap c TT fr hw ?_ rfl rfl (fun i cs j y h1 h2 => ⟨_, hvs i cs j y h1 h2, (hrs i cs j y h1 h2).mono (KLe.refl _) (LLe.none _), hc1 i cs j y h1 h2⟩)
      have hlast : 0 < es.length := by cases es with | nil => exact absurd rfl hne | cons => simp
      have hcl : (es[es.length - 1]).length = sz' := hu _ (List.getElem_mem (by omega))
      have := hvs (es.length - 1) es[es.length - 1] (sz' - 1) (es[es.length - 1])[sz' - 1] (List.getElem?_eq_getElem (by omega)) (List.getElem?_eq_getElem (by omega))
      have hlt : off + (es.length - 1) * sz' + (sz' - 1) < c.size := by
        rcases Nat.lt_or_ge (off + (es.length - 1) * sz' + (sz' - 1)) c.size with h | h
        · exact h
        · rw [Array.getElem?_eq_none h] at this; cases this
      have hmul : es.length * sz' = (es.length - 1) * sz' + sz' := by
        rw [← Nat.succ_mul]; congr 1; omega
      omega
  | nil =>
    have := hv.nil_inv; subst this
    exact ⟨[], Src.ofNil w0 hk 0, fun i cs j y h1 => by simp at h1⟩
  | ref b n off len p sz' es hb hn =>
    obtain ⟨r, hl, ⟨r1, r2, r3, r4, r5, r6⟩, r7⟩ := hr.obj b _ hb rfl
    by_cases hsol : r.csz = 0
    · obtain ⟨h0, ad, rfl, hsp⟩ := hv.ref_dry hl (by omega) hsol (by omega)
      subst h0
      refine ⟨[], ?_, fun i cs j y h1 => by simp at h1⟩
      simp only [List.take_zero, List.length_nil]
      cases ad with
      | none => exact Src.ofNil w0 hk 0
      | some x => exact Src.ofSlice w0 hk x 0 0 [] (by simp) (fun j u hj => by simp at hj) (fun u hu => by simp at hu)
    · obtain ⟨hlen, cap, rfl, hlc, hcap, hmax⟩ := hv.ref_live hl (by omega) hsol
      obtain ⟨c, TT, w1, w2, w3⟩ := r6 hsol
      have hlen' : ((es.drop off).take len).length = len := by simp; omega
      by_cases h0 : len = 0
      · subst h0
        refine ⟨[], ?_, fun i cs j y h1 => by simp at h1⟩
        simp only [List.take_zero, List.length_nil]
        exact Src.ofSlice w0 hk _ 0 cap [] (by simp) (fun j u hj => by simp at hj) (fun u hu => by simp at hu)
      · have hss : sz' = sz := by
          have ho : off < es.length := by omega
          rw [← r5 off es[off] (List.getElem?_eq_getElem ho)]
          exact hu _ (List.mem_of_getElem? (i := 0) (by rw [List.getElem?_take_of_lt (by omega), List.getElem?_drop]; exact List.getElem?_eq_getElem ho))
        subst hss
        refine key r.rb (off * r.sz) len cap c TT (0, 0) w1 ?_ hlen'.symm rfl (fun i cs j y h1 h2 => ?_)
        · rw [r1, w2, ← Nat.add_mul]
          refine Nat.le_trans (Nat.mul_le_mul_right _ ?_) r4
          omega
        · have hi : i < len := by
            rcases Nat.lt_or_ge i len with h | h
            · exact h
            · rw [List.getElem?_eq_none (by rw [hlen']; exact h)] at h1; cases h1
          rw [List.getElem?_take_of_lt hi, List.getElem?_drop] at h1
          obtain ⟨u, f1, f2, f3⟩ := w3.2 (off + i) cs j y h1 h2
          refine ⟨u, by rw [r1, ← Nat.add_mul]; exact f1, ?_, f3⟩
          cases p with
          | true => exact f2.mono (KLe.refl _) (LLe.none _)
          | false => exact f2

end
end Go.Proofs.Ytidfabbnobipkaa.Sv
