/-
  FROM WHAT ARGUMENTS READ AS TO ABSTRACT VALUES; AND FROM A CONTRACT OF PLAIN DATA TO A ROW: own work, over no program.
-/
import Derived.Test.YtidfabbnobipkaaSv23
import Derived.ProofKit
import Derived.OpenShut
import Derived.SizedLaws
namespace Go.Proofs.Ytidfabbnobipkaa.Sv
open Go Go.ChangeShapes Go.WideShapes Go.ChangeAt Go.RowKit
set_option linter.unusedVariables false
set_option linter.unusedSimpArgs false

def heapKnow (W : World) : Know := fun b => match W.heap[b]? with
  | some (.cells c _ _) => some c
  | _ => none
theorem heapKnow_ok (W : World) : KnowOk (heapKnow W) W := fun b c h => by
  unfold heapKnow at h
  split at h
  · rename_i c' T fr e; cases h; exact ⟨T, fr, e⟩
  · cases h
theorem heapKnow_cell {W : World} {a : Addr} {v : Value} (h : W.cell? a = some v) : ∃ c, heapKnow W a.block = some c ∧ a.spot = none ∧ c[a.off]? = some v := by
  unfold World.cell? at h
  split at h
  · rename_i c T fr e
    split at h
    · cases h
    · rename_i hs
      refine ⟨c, by simp [heapKnow, e], ?_, h⟩
      cases e2 : a.spot with
      | none => rfl
      | some x => simp [e2] at hs
  · cases h

def Reads (W : World) (cs : List Value) (xs : List AV) : Prop := xs.length = cs.length ∧ ∀ (j : Nat) (x : AV) (v : Value), xs[j]? = some x → cs[j]? = some v → Rel (heapKnow W) noLay x v ∧ x.cell1 = true

section
variable {H : Type}
/-- What reads at a type is such data. -/
def Dec (enc : TypeId × Value → H) (P : Program) (W : World) (t : TypeId) {α : Type} (f : α → List AV) (Q : α → Prop) : Prop :=
  ∀ (fuel : Nat) (cs : List Value) (x : DataW H × List MemPlace), DataW.trod enc P W 0 (fun _ => true) true fuel t cs = some x → (x.1.weights P t).all (· ≤ reachBytes) = true → ∃ a, Reads W cs (f a) ∧ Q a

variable {enc : TypeId × Value → H} {P : Program} {W : World} {t e : TypeId}

theorem Reads.one {v : Value} {x : AV} (h : Rel (heapKnow W) noLay x v) (h1 : x.cell1 = true) : Reads W [v] [x] := ⟨rfl, fun j y u hy hu => by
  cases j with
  | zero => simp at hy hu; subst hy; subst hu; exact ⟨h, h1⟩
  | succ j => simp at hy⟩

theorem Dec.int {k : IntKind} (ht : P.underlying t = some (.int k)) : Dec enc P W t (fun n : Int => [.int k n]) (fun n => (Lit.int k n).wf = true) := fun fuel cs x h _ => by
  obtain ⟨n, rfl, rfl, hw⟩ := DataW.trod_int ht h
  exact ⟨n, .one (.int _ _ _) rfl, hw⟩
theorem Dec.bool (ht : P.underlying t = some .bool) : Dec enc P W t (fun b : Bool => [.bool b]) (fun _ => True) := fun fuel cs x h _ => by
  obtain ⟨b, rfl, rfl⟩ := DataW.trod_bool ht h
  exact ⟨b, .one (.bool _ _) rfl, trivial⟩
theorem Dec.string (ht : P.underlying t = some .string) : Dec enc P W t (fun s : ByteArray => [.str s]) (fun s => s.size ≤ maxLen ∧ s.size ≤ reachBytes) := fun fuel cs x h hw => by
  obtain ⟨s, rfl, rfl, hs⟩ := DataW.trod_string ht h
  refine ⟨s, .one (.str _ _) rfl, hs, ?_⟩
  simpa [DataW.weights] using hw

theorem exists_list {α : Type} {R : Nat → α → Prop} : ∀ n : Nat, (∀ i, i < n → ∃ a, R i a) → ∃ l : List α, l.length = n ∧ ∀ i a, l[i]? = some a → R i a
  | 0, _ => ⟨[], rfl, fun i a h => by simp at h⟩
  | n + 1, h => by
    obtain ⟨l, h1, h2⟩ := exists_list n (fun i hi => h i (by omega))
    obtain ⟨a, ha⟩ := h n (by omega)
    refine ⟨l ++ [a], by simp [h1], fun i b hb => ?_⟩
    by_cases hi : i < n
    · rw [List.getElem?_append_left (by omega)] at hb; exact h2 i b hb
    · rw [List.getElem?_append_right (by omega)] at hb
      have : i = n := by
        rcases Nat.lt_or_ge (i - l.length) 1 with h | h
        · omega
        · rw [List.getElem?_eq_none (by simpa using h)] at hb; cases hb
      subst this
      simp [h1] at hb
      subst hb; exact ha

theorem weightsAll_get : ∀ {ds : List (DataW H)} {d : DataW H} {i : Nat}, (DataW.weightsAll P e ds).all (· ≤ reachBytes) = true → ds[i]? = some d → (d.weights P e).all (· ≤ reachBytes) = true
  | [], _, _, _, h => by simp at h
  | d :: r, d', 0, hw, h => by
    simp at h; subst h
    simp only [DataW.weightsAll, List.all_append, Bool.and_eq_true] at hw
    exact hw.1
  | d :: r, d', i + 1, hw, h => by
    simp only [DataW.weightsAll, List.all_append, Bool.and_eq_true] at hw
    exact weightsAll_get (ds := r) hw.2 (by simpa using h)

theorem Dec.slice {α : Type} {f : α → List AV} {Q : α → Prop} (ht : P.underlying t = some (.slice e)) (hc : 0 < P.cellsOf e) (he : Dec enc P W e f Q) :
    Dec enc P W t (fun l : List α => [.lst false (l.map f)]) (fun l => l.length * P.bytesOf e ≤ reachBytes ∧ ∀ a ∈ l, Q a) := fun fuel cs x h hw => by
  rcases DataW.trod_slice ht h with ⟨rfl, rfl⟩ | ⟨a, len, cap, elems, rest, n, rfl, rfl, rfl, hb, hl, hm, hlen, hel, hsp, hns⟩
  · exact ⟨[], .one (.lst0 _ _ _ _ (fun h => by cases h) (Nat.zero_le _) (fun _ => rfl) trivial) rfl, by simp, fun a h => by cases h⟩
  simp only [DataW.weights, ht, List.all_cons, List.all_append, Bool.and_eq_true, decide_eq_true_eq, List.length_map] at hw
  obtain ⟨w1, w2, w3⟩ := hw
  have key : ∀ i, i < len → ∃ y, ∃ cs', W.cells? 0 (a.add (i * P.cellsOf e)) (P.cellsOf e) = some cs' ∧ Reads W cs' (f y) ∧ Q y := fun i hi => by
    have h1 := hel i hi
    have hlt : i < elems.length := by omega
    rw [List.getElem?_eq_getElem hlt] at h1
    rw [Option.bind_eq_some_iff] at h1
    obtain ⟨cs', c1, c2⟩ := h1
    obtain ⟨y, y1, y2⟩ := he _ _ _ c2 (weightsAll_get w2 (i := i) (by rw [List.getElem?_map, List.getElem?_eq_getElem hlt]; rfl))
    exact ⟨y, cs', c1, y1, y2⟩
  obtain ⟨l, l1, l2⟩ := exists_list len key
  have hQ : ∀ y ∈ l, Q y := fun y hy => by
    obtain ⟨i, hi⟩ := List.mem_iff_getElem?.1 hy
    obtain ⟨cs', _, _, q⟩ := l2 i y hi
    exact q
  have hbytes : l.length * P.bytesOf e ≤ reachBytes := by
    refine Nat.le_trans (Nat.mul_le_mul_right _ ?_) w1
    omega
  refine ⟨l, .one ?_ rfl, hbytes, hQ⟩
  by_cases h0 : len = 0
  · have : l = [] := List.length_eq_zero_iff.1 (by omega)
    subst this; subst h0
    exact .lst0 _ _ _ _ (fun h => by cases h) hm (fun h => by cases h) trivial
  · obtain ⟨y0, cs0, k1, k2, k3⟩ := key 0 (by omega)
    obtain ⟨_, m1, m2⟩ := World.cells?_some k1
    have hz : cs0[0]? = some cs0[0] := List.getElem?_eq_getElem (by omega)
    have hcell := m2 0 hc
    rw [hz] at hcell
    have ha0 : (a.add (0 * P.cellsOf e)).add 0 = a := by simp [Addr.add]
    rw [ha0] at hcell
    obtain ⟨c, hH, hspot, _⟩ := heapKnow_cell hcell
    obtain ⟨ab, ao, asp⟩ := a
    simp only at hspot hH
    subst hspot
    have hsz : ∀ (i : Nat) (xs : List AV), (l.map f)[i]? = some xs → xs.length = P.cellsOf e ∧ ∀ (j : Nat) (x : AV), xs[j]? = some x → ∃ v, c[ao + i * P.cellsOf e + j]? = some v ∧ Rel (heapKnow W) noLay x v ∧ x.cell1 = true := fun i xs hi => by
      rw [List.getElem?_map, Option.map_eq_some_iff] at hi
      obtain ⟨y, y1, rfl⟩ := hi
      obtain ⟨cs', c1, c2, c3⟩ := l2 i y y1
      obtain ⟨_, n1, n2⟩ := World.cells?_some c1
      refine ⟨by rw [c2.1, n1], fun j x hj => ?_⟩
      have hjlt : j < cs'.length := by rw [← c2.1]; exact (List.getElem?_eq_some_iff.1 hj).1
      have h3 := n2 j (by omega)
      rw [List.getElem?_eq_getElem hjlt, add_mk, add_mk] at h3
      obtain ⟨c', e1, _, e3⟩ := heapKnow_cell h3
      simp only at e1 e3
      rw [hH] at e1; cases e1
      obtain ⟨g1, g2⟩ := c2.2 j x _ hj (List.getElem?_eq_getElem hjlt)
      exact ⟨_, e3, g1, g2⟩
    have := Rel.lst (H := heapKnow W) noLay false (l.map f) ab ao cap (P.cellsOf e) c (fun i j => (c[ao + i * P.cellsOf e + j]?).getD undef) (fun hh => by rw [List.map_eq_nil_iff] at hh; subst hh; simp at l1; omega) hH
      (fun i xs hi => (hsz i xs hi).1) (fun i xs j x hi hj => by obtain ⟨v, v1, _⟩ := (hsz i xs hi).2 j x hj; rw [v1]; rfl)
      (fun i xs j x hi hj => by obtain ⟨v, v1, v2, _⟩ := (hsz i xs hi).2 j x hj; rw [v1]; exact v2) (fun i xs j x hi hj => by obtain ⟨v, v1, v2, v3⟩ := (hsz i xs hi).2 j x hj; exact v3) (fun h => by cases h) (by simp [l1]; exact hl) hm
    rw [List.length_map, l1] at this
    exact this

/-! ### by the table of types -/
variable {T : Nat → Option TyI}
theorem cellsOf_of {i : TyI} (hT : TOk P T) (hi : T t = some i) : P.cellsOf t = i.size := by
  obtain ⟨info, d, e1, e2, e3, e4, e5, e6⟩ := tyOf_spec (hT _ _ hi)
  simp [Program.cellsOf, e1, e4]
theorem bytesOf_of {i : TyI} (hT : TOk P T) (hi : T t = some i) : P.bytesOf t = i.bytes := by
  obtain ⟨info, d, e1, e2, e3, e4, e5, e6⟩ := tyOf_spec (hT _ _ hi)
  simp [Program.bytesOf, e1, e5]
theorem Dec.int' {k : IntKind} {i : TyI} (hT : TOk P T) (hi : T t = some i) (hk : i.k = .int k) : Dec enc P W t (fun n : Int => [.int k n]) (fun n => (Lit.int k n).wf = true) := by
  obtain ⟨info, d, e1, e2, e3, e4, e5, e6⟩ := tyOf_spec (hT _ _ hi)
  have hd := tk_int (P := P) (d := d) (e3 ▸ hk)
  subst hd
  exact Dec.int e2
theorem Dec.bool' {i : TyI} (hT : TOk P T) (hi : T t = some i) (hk : i.k = .bool) : Dec enc P W t (fun b : Bool => [.bool b]) (fun _ => True) := by
  obtain ⟨info, d, e1, e2, e3, e4, e5, e6⟩ := tyOf_spec (hT _ _ hi)
  have hd := tk_bool (P := P) (d := d) (e3 ▸ hk)
  subst hd
  exact Dec.bool e2
theorem Dec.string' {i : TyI} (hT : TOk P T) (hi : T t = some i) (hk : i.k = .string) : Dec enc P W t (fun s : ByteArray => [.str s]) (fun s => s.size ≤ maxLen ∧ s.size ≤ reachBytes) := by
  obtain ⟨info, d, e1, e2, e3, e4, e5, e6⟩ := tyOf_spec (hT _ _ hi)
  have hd := tk_string (P := P) (d := d) (e3 ▸ hk)
  subst hd
  exact Dec.string e2
theorem Dec.slice' {α : Type} {f : α → List AV} {Q : α → Prop} {i j : TyI} {u : Nat} (hT : TOk P T) (hi : T t = some i) (hk : i.k = .slice u) (hj : T u = some j) (hp : 0 < j.size) (he : Dec enc P W u f Q) :
    Dec enc P W t (fun l : List α => [.lst false (l.map f)]) (fun l => l.length * j.bytes ≤ reachBytes ∧ ∀ a ∈ l, Q a) := by
  obtain ⟨info, d, e1, e2, e3, e4, e5, e6⟩ := tyOf_spec (hT _ _ hi)
  have hd := tk_slice (P := P) (d := d) (e3 ▸ hk)
  subst hd
  have := Dec.slice (enc := enc) (W := W) e2 (by rw [cellsOf_of hT hj]; exact hp) he
  rwa [bytesOf_of hT hj] at this

theorem weightsEach_get : ∀ {ts : List TypeId} {ds : List (DataW H)} {t : TypeId} {d : DataW H} {i : Nat}, (DataW.weightsEach P ts ds).all (· ≤ reachBytes) = true → ts[i]? = some t → ds[i]? = some d → (d.weights P t).all (· ≤ reachBytes) = true
  | [], _, _, _, _, _, h, _ => by simp at h
  | _ :: _, [], _, _, _, _, _, h => by simp at h
  | t :: ts, d :: ds, t', d', 0, hw, h1, h2 => by
    simp at h1 h2; subst h1; subst h2
    simp only [DataW.weightsEach, List.all_append, Bool.and_eq_true] at hw
    exact hw.1
  | t :: ts, d :: ds, t', d', i + 1, hw, h1, h2 => by
    simp only [DataW.weightsEach, List.all_append, Bool.and_eq_true] at hw
    exact weightsEach_get (ts := ts) (ds := ds) hw.2 (by simpa using h1) (by simpa using h2)

/-- The parts of a struct, one behind the other. -/
def Parts (enc : TypeId × Value → H) (P : Program) (W : World) (T : Nat → Option TyI) (cs : List Value) (fs : List (Nat × Nat)) : Prop :=
  ∀ (i off u : Nat), fs[i]? = some (off, u) → ∀ {α : Type} {f : α → List AV} {Q : α → Prop}, Dec enc P W u f Q → ∃ a, Reads W ((cs.drop off).take (P.cellsOf u)) (f a) ∧ Q a

theorem struct_parts {i : TyI} {fs : List (Nat × Nat)} (hT : TOk P T) (hi : T t = some i) (hk : i.k = .struct fs) {fuel : Nat} {cs : List Value} {x : DataW H × List MemPlace} (h : DataW.trod enc P W 0 (fun _ => true) true fuel t cs = some x) (hw : (x.1.weights P t).all (· ≤ reachBytes) = true) :
    cs.length = i.size ∧ Parts enc P W T cs fs := by
  obtain ⟨info, d, e1, e2, e3, e4, e5, e6⟩ := tyOf_spec (hT _ _ hi)
  obtain ⟨A, rfl, rfl, _⟩ := tk_struct (P := P) (d := d) (e3 ▸ hk)
  obtain ⟨xs, n, rfl, rfl, hl, hxl, hx⟩ := DataW.trod_struct e2 h
  refine ⟨by rw [hl, cellsOf_of hT hi], fun j off u hj α f Q hd => ?_⟩
  rw [List.getElem?_map, Option.map_eq_some_iff] at hj
  obtain ⟨F, hF, hF2⟩ := hj
  simp only [Prod.mk.injEq] at hF2
  obtain ⟨rfl, rfl⟩ := hF2
  have hFa : A[j]? = some F := by simpa using hF
  have hjlt : j < xs.length := by rw [hxl]; exact (Array.getElem?_eq_some_iff.1 hFa).1
  have h1 := hx j F hFa
  rw [List.getElem?_eq_getElem hjlt] at h1
  simp only [DataW.weights, e2] at hw
  exact hd _ _ _ h1 (weightsEach_get hw (i := j) (by rw [List.getElem?_map, hF]; rfl) (by rw [List.getElem?_map, List.getElem?_eq_getElem hjlt]; rfl))

theorem Reads.nil (W : World) (cs : List Value) : Reads W (cs.take 0) [] := ⟨by simp, fun j x v h => by simp at h⟩
theorem Reads.app {cs : List Value} {off n : Nat} {xs ys : List AV} (h1 : Reads W (cs.take off) xs) (h2 : Reads W ((cs.drop off).take n) ys) (ho : off ≤ cs.length) : Reads W (cs.take (off + n)) (xs ++ ys) := by
  have hl1 : xs.length = off := by rw [h1.1, List.length_take]; omega
  refine ⟨by rw [List.length_append, h2.1, hl1]; simp only [List.length_take, List.length_drop]; omega, fun j x v hx hv => ?_⟩
  rw [List.take_add] at hv
  by_cases hj : j < off
  · rw [List.getElem?_append_left (by omega)] at hx
    rw [List.getElem?_append_left (by rw [List.length_take]; omega)] at hv
    exact h1.2 j x v hx hv
  · rw [List.getElem?_append_right (by omega)] at hx
    rw [List.getElem?_append_right (by rw [List.length_take]; omega)] at hv
    have hll : (List.take off cs).length = off := by rw [List.length_take]; omega
    rw [hll] at hv
    rw [hl1] at hx
    exact h2.2 _ x v hx hv
theorem Reads.all {cs : List Value} {n : Nat} {xs : List AV} (h : Reads W (cs.take n) xs) (hn : cs.length = n) : Reads W cs xs := by
  rwa [List.take_of_length_le (by omega)] at h

/-- An argument. -/
theorem arg_one {α : Type} {f : α → List AV} {Q : α → Prop} {v : Value} {d : DataW H} {ps : List MemPlace} (h : DataW.Trod enc P W 0 (fun _ => true) true t v d ps) (hw : (d.weights P t).all (· ≤ reachBytes) = true) (hd : Dec enc P W t f Q) : ∃ a, Reads W v.cells.toList (f a) ∧ Q a := by
  obtain ⟨fuel, hf⟩ := h
  exact hd _ _ _ hf hw
theorem Reads.val {v : Value} {xs : List AV} (h : Reads W v.cells.toList xs) (hv : ∃ cs, v = .agg cs) : Rel (heapKnow W) noLay (.agg xs) v := by
  obtain ⟨cs, rfl⟩ := hv
  exact .agg _ _ _ (by simpa [Value.cells] using h.1) fun j x u h1 h2 => (h.2 j x u h1 (by simpa [Value.cells] using h2)).1
theorem Reads.val1 {v : Value} {x : AV} (h : Reads W v.cells.toList [x]) (hv : ∀ cs, v ≠ .agg cs) : Rel (heapKnow W) noLay x v := by
  have hc : v.cells.toList = [v] := by cases v <;> first | rfl | exact absurd rfl (hv _)
  rw [hc] at h
  exact (h.2 0 x v rfl rfl).1
theorem okWide_agg {b0 : Nat} {v : Value} {i : TyI} {fs : List (Nat × Nat)} (hT : TOk P T) (hi : T t = some i) (hk : i.k = .struct fs) (h : Value.okWide P W .any b0 t v) : ∃ cs, v = .agg cs := by
  obtain ⟨info, d, e1, e2, e3, e4, e5, e6⟩ := tyOf_spec (hT _ _ hi)
  obtain ⟨A, rfl, _, _⟩ := tk_struct (P := P) (d := d) (e3 ▸ hk)
  unfold Value.okWide at h
  rw [e2] at h
  obtain ⟨cs, h1, _⟩ := h
  exact ⟨cs, h1⟩

/-! ### the row -/
theorem Grow.kept {H0 H' : Know} {W W' : World} (g : Grow H0 W H' W') (may : MemPlace → Prop) : W.keptBut W' may := by
  refine ⟨g.os, g.out, fun i hi => ?_⟩
  rw [g.keep i hi]
  split <;> simp_all

theorem post_law {f : Func} {s : ChangeSpec} {apart fresh handsOn : Bool} {W W' : World} {args : Array Value} {v : Value} {ds gs : List (DataW H)} {before pa pv : List MemPlace}
    (hW : DataW.Whole enc P f.params.toList s.vars apart W args.toList ds gs before)
    (hres : ∀ (b : Nat) (sp : Nat → Bool) (hd : Bool), DataW.TrodAll enc P W' b sp hd f.resultTypes.toList (v.resultList f.resultTypes.size) (s.fn H (ds ++ gs)).results [])
    (hargs : ∀ sp : Nat → Bool, (∀ p ∈ before, sp p.block = true) → DataW.TrodAll enc P W' 0 sp true f.params.toList args.toList (s.fn H (ds ++ gs)).args pa)
    (hvars : ∀ sp : Nat → Bool, (∀ p ∈ before, sp p.block = true) → DataW.TrodVars enc P W' sp s.vars (s.fn H (ds ++ gs)).vars pv)
    (hps : before = pa ++ pv) (hk : ∀ may : MemPlace → Prop, W.keptBut W' may) : s.post enc P f apart fresh handsOn false W args v W' := by
  have hold : ∀ p ∈ before, (fun b => decide (b < W.heap.size)) p.block = true := fun p hp => by simpa using hW.lt p hp
  exact ⟨ds, gs, before, [], pa, pv, hW, hres _ _ _, hargs _ hold, hvars _ hold, hk _, fun h => by cases h⟩

theorem trodAll_stays (hl : laidOutB P = true) {W' : World} {sp : Nat → Bool} : ∀ {ts : List TypeId} {vs : List Value} {ds : List (DataW H)} {ps : List MemPlace}, ts.all (fun t => P.readableRec t && decide (t < P.types.size)) = true →
    DataW.TrodAll enc P W 0 (fun _ => true) true ts vs ds ps → (∀ p ∈ ps, W.sameAt W' p) → (∀ p ∈ ps, sp p.block = true) → DataW.TrodAll enc P W' 0 sp true ts vs ds ps
  | [], vs, ds, ps, _, h, _, _ => by
    obtain ⟨rfl, rfl, rfl⟩ := trodAll_nil h
    rfl
  | t :: ts, vs, ds, ps, hr, h, h1, h2 => by
    obtain ⟨v, vs', d, ds', p, q, rfl, rfl, rfl, hd, hrest⟩ := trodAll_cons h
    simp only [List.all_cons, Bool.and_eq_true, decide_eq_true_eq] at hr
    exact ⟨p, q, WideElems.Trod_stays hl hr.1.1 hr.1.2 hd (fun x hx => h1 x (by simp [hx])) (fun x hx => h2 x (by simp [hx])), trodAll_stays hl hr.2 hrest (fun x hx => h1 x (by simp [hx])) (fun x hx => h2 x (by simp [hx])), rfl⟩

theorem Grow.same {H0 H' : Know} {W W' : World} (g : Grow H0 W H' W') {p : MemPlace} (hp : p.block < W.heap.size) : W.sameAt W' p := by
  cases p with
  | cell b off =>
    have := g.keep b hp
    show W'.cell? _ = W.cell? _
    unfold World.cell?
    simp only [this]
  | map b => exact g.keep b hp

/-- A law that is true of whatever it is given: from its contract of plain data. -/
theorem law_calls {f : FuncId} {fn : Func} {s : ChangeSpec} {args : Array Value} {ds gs : List (DataW H)} {before : List MemPlace} {tb : TypeId} {xs : List AV} (hl : laidOutB P = true) (hvs : s.vars = []) (hr : fn.params.toList.all (fun t => P.readableRec t && decide (t < P.types.size)) = true)
    (hres : fn.resultTypes = #[tb]) (hb : P.underlying tb = some .bool) (hs1 : (s.fn H (ds ++ gs)).results = [.lit (.bool true)]) (hs2 : (s.fn H (ds ++ gs)).args = ds) (hs3 : (s.fn H (ds ++ gs)).vars = [])
    (hW : DataW.Whole enc P fn.params.toList s.vars false W args.toList ds gs before) (hrel : RelAll (heapKnow W) noLay xs args) (hc : APure P f xs (fun r => r = .bool true)) {fresh handsOn : Bool} :
    Calls P f args W fun e W' => ∃ v, e = .returned v ∧ s.post enc P fn false fresh handsOn false W args v W' := by
  have hW' := hW
  obtain ⟨p, q, hA, hV, rfl, hfz, hnd⟩ := hW
  rw [hvs] at hV
  obtain ⟨rfl, rfl⟩ := trodVars_none hV
  have hlt : ∀ x ∈ p ++ [], x.block < W.heap.size := fun x hx => hW'.lt x hx
  refine (hc (heapKnow W) W args hrel (heapKnow_ok W)).mono fun e W' hx => ?_
  obtain ⟨v, r, H', rfl, rfl, h3, h4⟩ := hx
  have hv := h3.bool_inv
  subst hv
  refine ⟨_, rfl, post_law (pa := p) (pv := []) hW' (fun b sp hd => ?_) (fun sp hsp => ?_) (fun sp hsp => ?_) rfl (fun may => h4.kept may)⟩
  · rw [hs1, hres]
    exact trodAll_mk1 (shut_bool hb true)
  · rw [hs2]
    exact trodAll_stays hl hr hA (fun x hx => h4.same (hlt x (by simp [hx]))) (fun x hx => hsp x (by simp [hx]))
  · rw [hs3, hvs]; rfl

theorem RelAll.nil {K : Know} {ι : Lay} : RelAll K ι [] #[] := ⟨rfl, fun j x v h => by simp at h⟩
theorem RelAll.cons {K : Know} {ι : Lay} {x : AV} {xs : List AV} {v : Value} {vs : List Value} (h : Rel K ι x v) (hs : RelAll K ι xs ⟨vs⟩) : RelAll K ι (x :: xs) ⟨v :: vs⟩ := by
  refine ⟨by have := hs.1; simp at this ⊢; exact this, fun j y u h1 h2 => ?_⟩
  cases j with
  | zero => simp at h1 h2; subst h1; subst h2; exact h
  | succ j => exact hs.2 j y u (by simpa using h1) (by simpa using h2)
end
end Go.Proofs.Ytidfabbnobipkaa.Sv
