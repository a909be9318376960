/-
  FROM WHAT ARGUMENTS READ AS TO ABSTRACT VALUES; AND FROM A CONTRACT OF PLAIN DATA TO A ROW: own work, over no program.
  WHAT A ROW SAYS OF PACKAGE VARIABLES THAT ARE ARRAYS OF NUMBERS, AS THE WALKS WANT IT: own work.
  THE TYPES OF THE PROGRAM, WRITTEN OUT: printed by a program of our own.
  THE PROGRAM'S DATA, AS LEAN'S, AND AS ABSTRACT VALUES: own work.
  FUNCTION VALUES; SLICES THAT ARE NOT AT THEIR ROW'S END; CHANGES IN THOUGHT OF WHAT ROWS HOLD: own work, over no program.
  QUEUES: x[l:] of a row, and what is put behind it; which place that takes isn't known beforehand: own work, over no program.
  CALLS THAT SEE ALL ROWS BUT SOME; LOOPS THAT FORGET SOME ROWS; SCOPES; SLICES OF NOTHING, NIL AND CLEAR: own work, over no program.
  LOOPS OF A KNOWN NUMBER OF ROUNDS, ONE ROUND BEHIND THE OTHER: own work, over no program.
  THE PARTS OF AN ARRAY THAT IS A VALUE: own work, over no program.
  BYTES TO A STRING: own work, over no program.
  STRINGS: ends, sums, and their bytes in a row of one's own: own work, over no program.
  WHAT THE DOCUMENT'S CHAPTERS SAY OF PROGRAMS IN BLOCKS, IN PLAIN LEAN: own work, over no program.
  WORDS' OPERATIONS, IN PLAIN LEAN: own work, over no program.
  DIGESTS OF BYTES, IN PLAIN LEAN: own work, over no program.
  HEXADECIMAL TEXTS AND DIGESTS' BYTES, IN PLAIN LEAN: own work, over no program.
  SMALL FACTS OF SUMS, FOR THE WALKS OVER DIGESTS: own work.
  A WORD COMES BACK FROM ITS BYTES, IN PLAIN LEAN: own work, over no program.
  SLICES CUT TO WHAT THEY HOLD, AND WHAT IS PUT BEHIND THEM; weaker values in thought: own work, over no program.
  ARRAYS OF NUMBERS: whether two are the same, and maps whose keys they are: own work, over no program.
  A DIGEST OF BYTES, IN PLAIN LEAN: own work, over no program.
  TREES OF DIGESTS, AND STORES, IN PLAIN LEAN: own work, over no program.
  STORES, IN PLAIN LEAN: own work, over no program.
  SLICES THAT BEGIN WITH NOTHING AND GROW, AND ROWS THAT MAY BE EMPTY, IN THE CELLS OF OTHER ROWS: own work, over no program.
  A slice that is copied behind nothing: own work.
  What is put behind nothing, or behind a list, may hold slices: own work.
  FAMILIES OF ROWS, whose numbers are told by a function; DRAWN REGIONS IN WHICH CALLS MAKE FAMILIES: own work, over no program.
  CALLS THAT SEE ONE ROW, AND SLICES OF DIGESTS: own work.
  STORES, AS THE WALKS WANT THEM: own work.
  Short names for the commonest steps of a walk (what is said of them is found by rfl).
  WALKS: printed by a program of our own from the code's tree.
-/
import Derived.Test.YtcggeonbbpfmdaaDoorPSystemInCard1
import Derived.ProofKit
import Derived.OpenShut
import Derived.SizedLaws
import Derived.Lib.LaidTab
import Derived.Stop.LaidErr
import Derived.Deep.DeepHandedRow
import Derived.MakeChecks
import Derived.Test.YtcggeonbbpfmdaaDoorProg
import Derived.KernelRfl
import Derived.Scope
import Derived.Lib.SliceRun
import Derived.Laws.BytesString
import Derived.Lib.ConvBytes
import Derived.WideKeyRuns
namespace Go.Proofs.YtcggeonbbpfmdaaDoor.Sv
open Go Go.ChangeShapes Go.WideShapes Go.ChangeAt Go.RowKit
def heapKnow (W : World) : Know := fun b => match W.heap[b]? with
  | some (.cells c _ _) => some c
  | _ => none
theorem heapKnow_ok (W : World) (hg : GlobOk (heapKnow W)) : KnowOk (heapKnow W) W where
  know := fun b c h => by
    unfold heapKnow at h
    split at h
    · rename_i c' T fr e; cases h; exact ⟨T, fr, e⟩
    · cases h
  glob := hg
theorem heapKnow_cell {W : World} {a : Addr} {v : Value} (h : W.cell? a = some v) : ∃ c, heapKnow W a.block = some c ∧ a.spot = none ∧ c[a.off]? = some v := by
  unfold World.cell? at h
  split at h
  · rename_i c T fr e
    split at h
    · cases h
    · rename_i hs
      refine ⟨c, by simp [heapKnow, e], ?_, h⟩
      cases e2 : a.spot with
      | none => rfl
      | some x => simp [e2] at hs
  · cases h
def Reads (W : World) (cs : List Value) (xs : List AV) : Prop := xs.length = cs.length ∧ ∀ (j : Nat) (x : AV) (v : Value), xs[j]? = some x → cs[j]? = some v → Rel (heapKnow W) noLay x v ∧ x.cell1 = true
section
variable {H : Type}
def Dec (enc : TypeId × Value → H) (P : Program) (W : World) (t : TypeId) {α : Type} (f : α → List AV) (Q : α → Prop) : Prop :=
  ∀ (fuel : Nat) (cs : List Value) (x : DataW H × List MemPlace), DataW.trod enc P W 0 (fun _ => true) true fuel t cs = some x → (x.1.weights P t).all (· ≤ reachBytes) = true → ∃ a, Reads W cs (f a) ∧ Q a
variable {enc : TypeId × Value → H} {P : Program} {W : World} {t e : TypeId}
theorem Reads.one {v : Value} {x : AV} (h : Rel (heapKnow W) noLay x v) (h1 : x.cell1 = true) : Reads W [v] [x] := ⟨rfl, fun j y u hy hu => by
  cases j with
  | zero => simp at hy hu; subst hy; subst hu; exact ⟨h, h1⟩
  | succ j => simp at hy⟩
theorem Dec.int {k : IntKind} (ht : P.underlying t = some (.int k)) : Dec enc P W t (fun n : Int => [.int k n]) (fun n => (Lit.int k n).wf = true) := fun fuel cs x h _ => by
  obtain ⟨n, rfl, rfl, hw⟩ := DataW.trod_int ht h
  exact ⟨n, .one (.int _ _ _) rfl, hw⟩
theorem Dec.bool (ht : P.underlying t = some .bool) : Dec enc P W t (fun b : Bool => [.bool b]) (fun _ => True) := fun fuel cs x h _ => by
  obtain ⟨b, rfl, rfl⟩ := DataW.trod_bool ht h
  exact ⟨b, .one (.bool _ _) rfl, trivial⟩
theorem Dec.string (ht : P.underlying t = some .string) : Dec enc P W t (fun s : ByteArray => [.str s]) (fun s => s.size ≤ maxLen ∧ s.size ≤ reachBytes) := fun fuel cs x h hw => by
  obtain ⟨s, rfl, rfl, hs⟩ := DataW.trod_string ht h
  refine ⟨s, .one (.str _ _) rfl, hs, ?_⟩
  simpa [DataW.weights] using hw
theorem exists_list {α : Type} {R : Nat → α → Prop} : ∀ n : Nat, (∀ i, i < n → ∃ a, R i a) → ∃ l : List α, l.length = n ∧ ∀ i a, l[i]? = some a → R i a
  | 0, _ => ⟨[], rfl, fun i a h => by simp at h⟩
  | n + 1, h => by
    obtain ⟨l, h1, h2⟩ := exists_list n (fun i hi => h i (by omega))
    obtain ⟨a, ha⟩ := h n (by omega)
    refine ⟨l ++ [a], by simp [h1], fun i b hb => ?_⟩
    by_cases hi : i < n
    · rw [List.getElem?_append_left (by omega)] at hb; exact h2 i b hb
    · rw [List.getElem?_append_right (by omega)] at hb
      have : i = n := by
        rcases Nat.lt_or_ge (i - l.length) 1 with h | h
        · omega
        · rw [List.getElem?_eq_none (by simpa using h)] at hb; cases hb
      subst this
      simp [h1] at hb
      subst hb; exact ha
theorem weightsAll_get : ∀ {ds : List (DataW H)} {d : DataW H} {i : Nat}, (DataW.weightsAll P e ds).all (· ≤ reachBytes) = true → ds[i]? = some d → (d.weights P e).all (· ≤ reachBytes) = true
  | [], _, _, _, h => by simp at h
  | d :: r, d', 0, hw, h => by
    simp at h; subst h
    simp only [DataW.weightsAll, List.all_append, Bool.and_eq_true] at hw
    exact hw.1
  | d :: r, d', i + 1, hw, h => by
    simp only [DataW.weightsAll, List.all_append, Bool.and_eq_true] at hw
    exact weightsAll_get (ds := r) hw.2 (by simpa using h)
theorem Dec.slice {α : Type} {f : α → List AV} {Q : α → Prop} (ht : P.underlying t = some (.slice e)) (hc : 0 < P.cellsOf e) (he : Dec enc P W e f Q) :
    Dec enc P W t (fun l : List α => [.lst false (l.map f)]) (fun l => l.length * P.bytesOf e ≤ reachBytes ∧ ∀ a ∈ l, Q a) := fun fuel cs x h hw => by
  rcases DataW.trod_slice ht h with ⟨rfl, rfl⟩ | ⟨a, len, cap, elems, rest, n, rfl, rfl, rfl, hb, hl, hm, hlen, hel, hsp, hns⟩
  · exact ⟨[], .one (.lst0 _ _ _ _ (fun h => by cases h) (Nat.zero_le _) (fun _ => rfl) trivial) rfl, by simp, fun a h => by cases h⟩
  simp only [DataW.weights, ht, List.all_cons, List.all_append, Bool.and_eq_true, decide_eq_true_eq, List.length_map] at hw
  obtain ⟨w1, w2, w3⟩ := hw
  have key : ∀ i, i < len → ∃ y, ∃ cs', W.cells? 0 (a.add (i * P.cellsOf e)) (P.cellsOf e) = some cs' ∧ Reads W cs' (f y) ∧ Q y := fun i hi => by
    have h1 := hel i hi
    have hlt : i < elems.length := by omega
    rw [List.getElem?_eq_getElem hlt] at h1
    rw [Option.bind_eq_some_iff] at h1
    obtain ⟨cs', c1, c2⟩ := h1
    obtain ⟨y, y1, y2⟩ := he _ _ _ c2 (weightsAll_get w2 (i := i) (by rw [List.getElem?_map, List.getElem?_eq_getElem hlt]; rfl))
    exact ⟨y, cs', c1, y1, y2⟩
  obtain ⟨l, l1, l2⟩ := exists_list len key
  have hQ : ∀ y ∈ l, Q y := fun y hy => by
    obtain ⟨i, hi⟩ := List.mem_iff_getElem?.1 hy
    obtain ⟨cs', _, _, q⟩ := l2 i y hi
    exact q
  have hbytes : l.length * P.bytesOf e ≤ reachBytes := by
    refine Nat.le_trans (Nat.mul_le_mul_right _ ?_) w1
    omega
  refine ⟨l, .one ?_ rfl, hbytes, hQ⟩
  by_cases h0 : len = 0
  · have : l = [] := List.length_eq_zero_iff.1 (by omega)
    subst this; subst h0
    exact .lst0 _ _ _ _ (fun h => by cases h) hm (fun h => by cases h) trivial
  · obtain ⟨y0, cs0, k1, k2, k3⟩ := key 0 (by omega)
    obtain ⟨_, m1, m2⟩ := World.cells?_some k1
    have hz : cs0[0]? = some cs0[0] := List.getElem?_eq_getElem (by omega)
    have hcell := m2 0 hc
    rw [hz] at hcell
    have ha0 : (a.add (0 * P.cellsOf e)).add 0 = a := by simp [Addr.add]
    rw [ha0] at hcell
    obtain ⟨c, hH, hspot, _⟩ := heapKnow_cell hcell
    obtain ⟨ab, ao, asp⟩ := a
    simp only at hspot hH
    subst hspot
    have hsz : ∀ (i : Nat) (xs : List AV), (l.map f)[i]? = some xs → xs.length = P.cellsOf e ∧ ∀ (j : Nat) (x : AV), xs[j]? = some x → ∃ v, c[ao + i * P.cellsOf e + j]? = some v ∧ Rel (heapKnow W) noLay x v ∧ x.cell1 = true := fun i xs hi => by
      rw [List.getElem?_map, Option.map_eq_some_iff] at hi
      obtain ⟨y, y1, rfl⟩ := hi
      obtain ⟨cs', c1, c2, c3⟩ := l2 i y y1
      obtain ⟨_, n1, n2⟩ := World.cells?_some c1
      refine ⟨by rw [c2.1, n1], fun j x hj => ?_⟩
      have hjlt : j < cs'.length := by rw [← c2.1]; exact (List.getElem?_eq_some_iff.1 hj).1
      have h3 := n2 j (by omega)
      rw [List.getElem?_eq_getElem hjlt, add_mk, add_mk] at h3
      obtain ⟨c', e1, _, e3⟩ := heapKnow_cell h3
      simp only at e1 e3
      rw [hH] at e1; cases e1
      obtain ⟨g1, g2⟩ := c2.2 j x _ hj (List.getElem?_eq_getElem hjlt)
      exact ⟨_, e3, g1, g2⟩
    have := Rel.lst (H := heapKnow W) noLay false (l.map f) ab ao cap (P.cellsOf e) c (fun i j => (c[ao + i * P.cellsOf e + j]?).getD undef) (fun hh => by rw [List.map_eq_nil_iff] at hh; subst hh; simp at l1; omega) hH
      (fun i xs hi => (hsz i xs hi).1) (fun i xs j x hi hj => by obtain ⟨v, v1, _⟩ := (hsz i xs hi).2 j x hj; rw [v1]; rfl)
      (fun i xs j x hi hj => by obtain ⟨v, v1, v2, _⟩ := (hsz i xs hi).2 j x hj; rw [v1]; exact v2) (fun i xs j x hi hj => by obtain ⟨v, v1, v2, v3⟩ := (hsz i xs hi).2 j x hj; exact v3) (fun h => by cases h) (by simp [l1]; exact hl) hm
    rw [List.length_map, l1] at this
    exact this
variable {T : Nat → Option TyI}
theorem cellsOf_of {i : TyI} (hT : TOk P T) (hi : T t = some i) : P.cellsOf t = i.size := by
  obtain ⟨info, d, e1, e2, e3, e4, e5, e6⟩ := tyOf_spec (hT _ _ hi)
  simp [Program.cellsOf, e1, e4]
theorem bytesOf_of {i : TyI} (hT : TOk P T) (hi : T t = some i) : P.bytesOf t = i.bytes := by
  obtain ⟨info, d, e1, e2, e3, e4, e5, e6⟩ := tyOf_spec (hT _ _ hi)
  simp [Program.bytesOf, e1, e5]
theorem Dec.string' {i : TyI} (hT : TOk P T) (hi : T t = some i) (hk : i.k = .string) : Dec enc P W t (fun s : ByteArray => [.str s]) (fun s => s.size ≤ maxLen ∧ s.size ≤ reachBytes) := by
  obtain ⟨info, d, e1, e2, e3, e4, e5, e6⟩ := tyOf_spec (hT _ _ hi)
  have hd := tk_string (P := P) (d := d) (e3 ▸ hk)
  subst hd
  exact Dec.string e2
theorem Dec.slice' {α : Type} {f : α → List AV} {Q : α → Prop} {i j : TyI} {u : Nat} (hT : TOk P T) (hi : T t = some i) (hk : i.k = .slice u) (hj : T u = some j) (hp : 0 < j.size) (he : Dec enc P W u f Q) :
    Dec enc P W t (fun l : List α => [.lst false (l.map f)]) (fun l => l.length * j.bytes ≤ reachBytes ∧ ∀ a ∈ l, Q a) := by
  obtain ⟨info, d, e1, e2, e3, e4, e5, e6⟩ := tyOf_spec (hT _ _ hi)
  have hd := tk_slice (P := P) (d := d) (e3 ▸ hk)
  subst hd
  have := Dec.slice (enc := enc) (W := W) e2 (by rw [cellsOf_of hT hj]; exact hp) he
  rwa [bytesOf_of hT hj] at this
theorem weightsEach_get : ∀ {ts : List TypeId} {ds : List (DataW H)} {t : TypeId} {d : DataW H} {i : Nat}, (DataW.weightsEach P ts ds).all (· ≤ reachBytes) = true → ts[i]? = some t → ds[i]? = some d → (d.weights P t).all (· ≤ reachBytes) = true
  | [], _, _, _, _, _, h, _ => by simp at h
  | _ :: _, [], _, _, _, _, _, h => by simp at h
  | t :: ts, d :: ds, t', d', 0, hw, h1, h2 => by
    simp at h1 h2; subst h1; subst h2
    simp only [DataW.weightsEach, List.all_append, Bool.and_eq_true] at hw
    exact hw.1
  | t :: ts, d :: ds, t', d', i + 1, hw, h1, h2 => by
    simp only [DataW.weightsEach, List.all_append, Bool.and_eq_true] at hw
    exact weightsEach_get (ts := ts) (ds := ds) hw.2 (by simpa using h1) (by simpa using h2)
theorem Reads.nil (W : World) (cs : List Value) : Reads W (cs.take 0) [] := ⟨by simp, fun j x v h => by simp at h⟩
theorem Reads.all {cs : List Value} {n : Nat} {xs : List AV} (h : Reads W (cs.take n) xs) (hn : cs.length = n) : Reads W cs xs := by
  rwa [List.take_of_length_le (by omega)] at h
theorem arg_one {α : Type} {f : α → List AV} {Q : α → Prop} {v : Value} {d : DataW H} {ps : List MemPlace} (h : DataW.Trod enc P W 0 (fun _ => true) true t v d ps) (hw : (d.weights P t).all (· ≤ reachBytes) = true) (hd : Dec enc P W t f Q) : ∃ a, Reads W v.cells.toList (f a) ∧ Q a := by
  obtain ⟨fuel, hf⟩ := h
  exact hd _ _ _ hf hw
theorem Reads.val {v : Value} {xs : List AV} (h : Reads W v.cells.toList xs) (hv : ∃ cs, v = .agg cs) : Rel (heapKnow W) noLay (.agg xs) v := by
  obtain ⟨cs, rfl⟩ := hv
  exact .agg _ _ _ (by simpa [Value.cells] using h.1) fun j x u h1 h2 => (h.2 j x u h1 (by simpa [Value.cells] using h2)).1
theorem Reads.val1 {v : Value} {x : AV} (h : Reads W v.cells.toList [x]) (hv : ∀ cs, v ≠ .agg cs) : Rel (heapKnow W) noLay x v := by
  have hc : v.cells.toList = [v] := by cases v <;> first | rfl | exact absurd rfl (hv _)
  rw [hc] at h
  exact (h.2 0 x v rfl rfl).1
theorem Grow.kept {H0 H' : Know} {W W' : World} (g : Grow H0 W H' W') (may : MemPlace → Prop) : W.keptBut W' may := by
  refine ⟨g.os, g.out, fun i hi => ?_⟩
  rw [g.keep i hi]
  split <;> simp_all
theorem post_law {f : Func} {s : ChangeSpec} {apart fresh handsOn : Bool} {W W' : World} {args : Array Value} {v : Value} {ds gs : List (DataW H)} {before pa pv : List MemPlace}
    (hW : DataW.Whole enc P f.params.toList s.vars apart W args.toList ds gs before)
    (hres : ∀ (b : Nat) (sp : Nat → Bool) (hd : Bool), DataW.TrodAll enc P W' b sp hd f.resultTypes.toList (v.resultList f.resultTypes.size) (s.fn H (ds ++ gs)).results [])
    (hargs : ∀ sp : Nat → Bool, (∀ p ∈ before, sp p.block = true) → DataW.TrodAll enc P W' 0 sp true f.params.toList args.toList (s.fn H (ds ++ gs)).args pa)
    (hvars : ∀ sp : Nat → Bool, (∀ p ∈ before, sp p.block = true) → DataW.TrodVars enc P W' sp s.vars (s.fn H (ds ++ gs)).vars pv)
    (hps : before = pa ++ pv) (hk : ∀ may : MemPlace → Prop, W.keptBut W' may) : s.post enc P f apart fresh handsOn false W args v W' := by
  have hold : ∀ p ∈ before, (fun b => decide (b < W.heap.size)) p.block = true := fun p hp => by simpa using hW.lt p hp
  exact ⟨ds, gs, before, [], pa, pv, hW, hres _ _ _, hargs _ hold, hvars _ hold, hk _, fun h => by cases h⟩
theorem trodAll_stays (hl : laidOutB P = true) {W' : World} {sp : Nat → Bool} : ∀ {ts : List TypeId} {vs : List Value} {ds : List (DataW H)} {ps : List MemPlace}, ts.all (fun t => P.readableRec t && decide (t < P.types.size)) = true →
    DataW.TrodAll enc P W 0 (fun _ => true) true ts vs ds ps → (∀ p ∈ ps, W.sameAt W' p) → (∀ p ∈ ps, sp p.block = true) → DataW.TrodAll enc P W' 0 sp true ts vs ds ps
  | [], vs, ds, ps, _, h, _, _ => by
    obtain ⟨rfl, rfl, rfl⟩ := trodAll_nil h
    rfl
  | t :: ts, vs, ds, ps, hr, h, h1, h2 => by
    obtain ⟨v, vs', d, ds', p, q, rfl, rfl, rfl, hd, hrest⟩ := trodAll_cons h
    simp only [List.all_cons, Bool.and_eq_true, decide_eq_true_eq] at hr
    exact ⟨p, q, WideElems.Trod_stays hl hr.1.1 hr.1.2 hd (fun x hx => h1 x (by simp [hx])) (fun x hx => h2 x (by simp [hx])), trodAll_stays hl hr.2 hrest (fun x hx => h1 x (by simp [hx])) (fun x hx => h2 x (by simp [hx])), rfl⟩
theorem Grow.same {H0 H' : Know} {W W' : World} (g : Grow H0 W H' W') {p : MemPlace} (hp : p.block < W.heap.size) : W.sameAt W' p := by
  cases p with
  | cell b off =>
    have := g.keep b hp
    show W'.cell? _ = W.cell? _
    unfold World.cell?
    simp only [this]
  | map b => exact g.keep b hp
theorem law_calls {f : FuncId} {fn : Func} {s : ChangeSpec} {args : Array Value} {ds gs : List (DataW H)} {before : List MemPlace} {tb : TypeId} {xs : List AV} (hl : laidOutB P = true) (hvs : s.vars = []) (hr : fn.params.toList.all (fun t => P.readableRec t && decide (t < P.types.size)) = true)
    (hres : fn.resultTypes = #[tb]) (hb : P.underlying tb = some .bool) (hs1 : (s.fn H (ds ++ gs)).results = [.lit (.bool true)]) (hs2 : (s.fn H (ds ++ gs)).args = ds) (hs3 : (s.fn H (ds ++ gs)).vars = [])
    (hW : DataW.Whole enc P fn.params.toList s.vars false W args.toList ds gs before) (hrel : RelAll (heapKnow W) noLay xs args) (hc : APure P f xs (fun r => r = .bool true)) (hg : GlobOk (heapKnow W)) {fresh handsOn : Bool} :
    Calls P f args W fun e W' => ∃ v, e = .returned v ∧ s.post enc P fn false fresh handsOn false W args v W' := by
  have hW' := hW
  obtain ⟨p, q, hA, hV, rfl, hfz, hnd⟩ := hW
  rw [hvs] at hV
  obtain ⟨rfl, rfl⟩ := trodVars_none hV
  have hlt : ∀ x ∈ p ++ [], x.block < W.heap.size := fun x hx => hW'.lt x hx
  refine (hc (heapKnow W) W args hrel (heapKnow_ok W hg)).mono fun e W' hx => ?_
  obtain ⟨v, r, H', rfl, rfl, h3, h4⟩ := hx
  have hv := h3.bool_inv
  subst hv
  refine ⟨_, rfl, post_law (pa := p) (pv := []) hW' (fun b sp hd => ?_) (fun sp hsp => ?_) (fun sp hsp => ?_) rfl (fun may => h4.kept may)⟩
  · rw [hs1, hres]
    exact trodAll_mk1 (shut_bool hb true)
  · rw [hs2]
    exact trodAll_stays hl hr hA (fun x hx => h4.same (hlt x (by simp [hx]))) (fun x hx => hsp x (by simp [hx]))
  · rw [hs3, hvs]; rfl
theorem RelAll.nil {K : Know} {ι : Lay} : RelAll K ι [] #[] := ⟨rfl, fun j x v h => by simp at h⟩
theorem RelAll.cons {K : Know} {ι : Lay} {x : AV} {xs : List AV} {v : Value} {vs : List Value} (h : Rel K ι x v) (hs : RelAll K ι xs ⟨vs⟩) : RelAll K ι (x :: xs) ⟨v :: vs⟩ := by
  refine ⟨by have := hs.1; simp at this ⊢; exact this, fun j y u h1 h2 => ?_⟩
  cases j with
  | zero => simp at h1 h2; subst h1; subst h2; exact h
  | succ j => exact hs.2 j y u (by simpa using h1) (by simpa using h2)
end
end Go.Proofs.YtcggeonbbpfmdaaDoor.Sv

namespace Go.Proofs.YtcggeonbbpfmdaaDoor
open Go Sv
theorem rel_tab {P : Program} {W : World} {name : String} {K : IntKind} {zs : List Int} {g : Nat} (h : Lib.TabIs P W name K zs) (hg : P.globalNamed name = some g) (hne : 0 < zs.length) : Rel (heapKnow W) noLay (globAV (zs.map fun z => (K, z))) (.pointer (some ⟨g, 0, none⟩)) := by
  obtain ⟨c, hc, _, h0⟩ := heapKnow_cell (h.cell hg 0 hne)
  have key : ∀ (j : Nat) (x : AV), (zs.map fun z => AV.int K z)[j]? = some x → x = .int K (zs.getD j 0) ∧ c[0 + j]? = some (.int K (zs.getD j 0)) := fun j x hx => by
    simp only [List.getElem?_map, Option.map_eq_some_iff] at hx
    obtain ⟨z, hz, rfl⟩ := hx
    have hj : j < zs.length := (List.getElem?_eq_some_iff.1 hz).1
    obtain ⟨c', hc', _, hj'⟩ := heapKnow_cell (h.cell hg j hj)
    have : c' = c := by rw [hc] at hc'; exact (Option.some.inj hc').symm
    subst this
    refine ⟨?_, by rw [Nat.zero_add]; exact hj'⟩
    simp [List.getD, hz]
  have e : globAV (zs.map fun z => (K, z)) = .loc (zs.map fun z => AV.int K z) := by simp [globAV]
  rw [e]
  refine .loc _ _ g 0 c (fun j => .int K (zs.getD j 0)) hc (fun j x hx => (key j x hx).2) (fun j x hx => ?_) (fun j x hx => ?_)
  · rw [(key j x hx).1]; exact .int _ _ _
  · rw [(key j x hx).1]; rfl
end Go.Proofs.YtcggeonbbpfmdaaDoor

namespace Go.Proofs.YtcggeonbbpfmdaaDoor.Sv
open Go
abbrev ty0 : TyI := ⟨.other, 1, 0, []⟩
abbrev ty1 : TyI := ⟨.other, 1, 8, []⟩
abbrev ty2 : TyI := ⟨.int .i64, 1, 8, [.int .i64 0]⟩
abbrev ty3 : TyI := ⟨.int .i64, 1, 8, [.int .i64 0]⟩
abbrev ty4 : TyI := ⟨.bool, 1, 1, [.bool false]⟩
abbrev ty5 : TyI := ⟨.int .u8, 1, 1, [.int .u8 0]⟩
abbrev ty6 : TyI := ⟨.int .u8, 1, 1, [.int .u8 0]⟩
abbrev ty7 : TyI := ⟨.struct [(0, 2), (1, 3), (2, 4), (3, 6)], 4, 24, [.int .i64 0, .int .i64 0, .bool false, .int .u8 0]⟩
abbrev ty8 : TyI := ⟨.struct [(0, 2), (1, 3), (2, 4), (3, 6)], 4, 24, [.int .i64 0, .int .i64 0, .bool false, .int .u8 0]⟩
abbrev ty9 : TyI := ⟨.string, 1, 16, [.str ⟨#[]⟩]⟩
abbrev ty10 : TyI := ⟨.string, 1, 16, [.str ⟨#[]⟩]⟩
abbrev ty11 : TyI := ⟨.string, 1, 16, [.str ⟨#[]⟩]⟩
abbrev ty12 : TyI := ⟨.int .u64, 1, 8, [.int .u64 0]⟩
abbrev ty13 : TyI := ⟨.struct [(0, 9), (1, 12)], 2, 24, [.str ⟨#[]⟩, .int .u64 0]⟩
abbrev ty14 : TyI := ⟨.struct [(0, 9), (1, 12)], 2, 24, [.str ⟨#[]⟩, .int .u64 0]⟩
abbrev ty15 : TyI := ⟨.ptr 77, 1, 8, [.nilp]⟩
abbrev ty16 : TyI := ⟨.ptr 80, 1, 8, [.nilp]⟩
abbrev ty17 : TyI := ⟨.ptr 89, 1, 8, [.nilp]⟩
abbrev ty18 : TyI := ⟨.struct [(0, 17)], 1, 8, [.nilp]⟩
abbrev ty19 : TyI := ⟨.struct [(0, 17)], 1, 8, [.nilp]⟩
abbrev ty20 : TyI := ⟨.other, 1, 16, []⟩
abbrev ty21 : TyI := ⟨.int .i32, 1, 4, [.int .i32 0]⟩
abbrev ty22 : TyI := ⟨.slice 9, 1, 24, [.nil]⟩
abbrev ty23 : TyI := ⟨.other, 1, 8, []⟩
abbrev ty24 : TyI := ⟨.struct [(0, 22)], 1, 24, [.nil]⟩
abbrev ty25 : TyI := ⟨.struct [(0, 22)], 1, 24, [.nil]⟩
abbrev ty26 : TyI := ⟨.other, 1, 0, []⟩
abbrev ty27 : TyI := ⟨.other, 1, 8, []⟩
abbrev ty28 : TyI := ⟨.int .u32, 1, 4, [.int .u32 0]⟩
abbrev ty29 : TyI := ⟨.array 4 28, 4, 16, [.int .u32 0, .int .u32 0, .int .u32 0, .int .u32 0]⟩
abbrev ty30 : TyI := ⟨.array 4 28, 4, 16, [.int .u32 0, .int .u32 0, .int .u32 0, .int .u32 0]⟩
abbrev ty31 : TyI := ⟨.other, 1, 8, []⟩
abbrev ty32 : TyI := ⟨.int .i64, 1, 8, [.int .i64 0]⟩
abbrev ty33 : TyI := ⟨.other, 1, 0, []⟩
abbrev ty34 : TyI := ⟨.other, 1, 8, []⟩
abbrev ty35 : TyI := ⟨.slice 30, 1, 24, [.nil]⟩
abbrev ty36 : TyI := ⟨.other, 1, 0, []⟩
abbrev ty37 : TyI := ⟨.other, 1, 8, []⟩
abbrev ty38 : TyI := ⟨.struct [(0, 3), (1, 30)], 5, 24, [.int .i64 0, .int .u32 0, .int .u32 0, .int .u32 0, .int .u32 0]⟩
abbrev ty39 : TyI := ⟨.struct [(0, 3), (1, 30)], 5, 24, [.int .i64 0, .int .u32 0, .int .u32 0, .int .u32 0, .int .u32 0]⟩
abbrev ty40 : TyI := ⟨.other, 1, 8, []⟩
abbrev ty41 : TyI := ⟨.other, 1, 8, []⟩
abbrev ty42 : TyI := ⟨.other, 1, 8, []⟩
abbrev ty43 : TyI := ⟨.other, 1, 0, []⟩
abbrev ty44 : TyI := ⟨.other, 1, 8, []⟩
abbrev ty45 : TyI := ⟨.array 8 28, 8, 32, [.int .u32 0, .int .u32 0, .int .u32 0, .int .u32 0, .int .u32 0, .int .u32 0, .int .u32 0, .int .u32 0]⟩
abbrev ty46 : TyI := ⟨.other, 1, 8, []⟩
abbrev ty47 : TyI := ⟨.other, 1, 8, []⟩
abbrev ty48 : TyI := ⟨.slice 5, 1, 24, [.nil]⟩
abbrev ty49 : TyI := ⟨.int .u64, 1, 8, [.int .u64 0]⟩
abbrev ty50 : TyI := ⟨.other, 1, 8, []⟩
abbrev ty51 : TyI := ⟨.int .u64, 1, 8, [.int .u64 0]⟩
abbrev ty52 : TyI := ⟨.slice 28, 1, 24, [.nil]⟩
abbrev ty53 : TyI := ⟨.other, 1, 8, []⟩
abbrev ty54 : TyI := ⟨.other, 1, 8, []⟩
abbrev ty55 : TyI := ⟨.other, 1, 8, []⟩
abbrev ty56 : TyI := ⟨.other, 1, 8, []⟩
abbrev ty57 : TyI := ⟨.other, 1, 0, []⟩
abbrev ty58 : TyI := ⟨.other, 1, 8, []⟩
abbrev ty59 : TyI := ⟨.other, 1, 8, []⟩
abbrev ty60 : TyI := ⟨.struct [(0, 35), (1, 4)], 2, 32, [.nil, .bool false]⟩
abbrev ty61 : TyI := ⟨.struct [(0, 35), (1, 4)], 2, 32, [.nil, .bool false]⟩
abbrev ty62 : TyI := ⟨.other, 1, 8, []⟩
abbrev ty63 : TyI := ⟨.other, 1, 8, []⟩
abbrev ty64 : TyI := ⟨.other, 1, 8, []⟩
abbrev ty65 : TyI := ⟨.other, 1, 8, []⟩
abbrev ty66 : TyI := ⟨.other, 1, 8, []⟩
abbrev ty67 : TyI := ⟨.other, 1, 8, []⟩
abbrev ty68 : TyI := ⟨.other, 1, 8, []⟩
abbrev ty69 : TyI := ⟨.ptr 61, 1, 8, [.nilp]⟩
abbrev ty70 : TyI := ⟨.other, 1, 8, []⟩
abbrev ty71 : TyI := ⟨.other, 1, 8, []⟩
abbrev ty72 : TyI := ⟨.other, 1, 8, []⟩
abbrev ty73 : TyI := ⟨.other, 1, 8, []⟩
abbrev ty74 : TyI := ⟨.array 4 3, 4, 32, [.int .i64 0, .int .i64 0, .int .i64 0, .int .i64 0]⟩
abbrev ty75 : TyI := ⟨.other, 1, 8, []⟩
abbrev ty76 : TyI := ⟨.struct [(0, 17), (1, 17), (2, 17), (3, 9)], 4, 40, [.nilp, .nilp, .nilp, .str ⟨#[]⟩]⟩
abbrev ty77 : TyI := ⟨.struct [(0, 17), (1, 17), (2, 17), (3, 9)], 4, 40, [.nilp, .nilp, .nilp, .str ⟨#[]⟩]⟩
abbrev ty78 : TyI := ⟨.array 0 16, 0, 0, []⟩
abbrev ty79 : TyI := ⟨.other, 0, 0, []⟩
abbrev ty80 : TyI := ⟨.other, 0, 0, []⟩
abbrev ty81 : TyI := ⟨.other, 1, 8, []⟩
abbrev ty82 : TyI := ⟨.int .u8, 1, 1, [.int .u8 0]⟩
abbrev ty83 : TyI := ⟨.int .u8, 1, 1, [.int .u8 0]⟩
abbrev ty84 : TyI := ⟨.other, 1, 8, []⟩
abbrev ty85 : TyI := ⟨.ptr 5, 1, 8, [.nilp]⟩
abbrev ty86 : TyI := ⟨.int .i32, 1, 4, [.int .i32 0]⟩
abbrev ty87 : TyI := ⟨.int .i32, 1, 4, [.int .i32 0]⟩
abbrev ty88 : TyI := ⟨.struct [(0, 12), (1, 12), (2, 28), (3, 82), (4, 5), (5, 5), (6, 83), (7, 84), (8, 85), (9, 86), (10, 87)], 11, 48, []⟩
abbrev ty89 : TyI := ⟨.struct [(0, 12), (1, 12), (2, 28), (3, 82), (4, 5), (5, 5), (6, 83), (7, 84), (8, 85), (9, 86), (10, 87)], 11, 48, []⟩
abbrev ty90 : TyI := ⟨.other, 1, 8, [.nilp]⟩
def TI (t : Nat) : Option TyI := bif Nat.blt t 91 then (bif Nat.blt t 45 then (bif Nat.blt t 22 then (bif Nat.blt t 11 then (bif Nat.blt t 5 then (bif Nat.blt t 2 then (bif Nat.blt t 1 then some ty0 else some ty1) else (bif Nat.blt t 3 then some ty2 else (bif Nat.blt t 4 then some ty3 else some ty4))) else (bif Nat.blt t 8 then (bif Nat.blt t 6 then some ty5 else (bif Nat.blt t 7 then some ty6 else some ty7)) else (bif Nat.blt t 9 then some ty8 else (bif Nat.blt t 10 then some ty9 else some ty10)))) else (bif Nat.blt t 16 then (bif Nat.blt t 13 then (bif Nat.blt t 12 then some ty11 else some ty12) else (bif Nat.blt t 14 then some ty13 else (bif Nat.blt t 15 then some ty14 else some ty15))) else (bif Nat.blt t 19 then (bif Nat.blt t 17 then some ty16 else (bif Nat.blt t 18 then some ty17 else some ty18)) else (bif Nat.blt t 20 then some ty19 else (bif Nat.blt t 21 then some ty20 else some ty21))))) else (bif Nat.blt t 33 then (bif Nat.blt t 27 then (bif Nat.blt t 24 then (bif Nat.blt t 23 then some ty22 else some ty23) else (bif Nat.blt t 25 then some ty24 else (bif Nat.blt t 26 then some ty25 else some ty26))) else (bif Nat.blt t 30 then (bif Nat.blt t 28 then some ty27 else (bif Nat.blt t 29 then some ty28 else some ty29)) else (bif Nat.blt t 31 then some ty30 else (bif Nat.blt t 32 then some ty31 else some ty32)))) else (bif Nat.blt t 39 then (bif Nat.blt t 36 then (bif Nat.blt t 34 then some ty33 else (bif Nat.blt t 35 then some ty34 else some ty35)) else (bif Nat.blt t 37 then some ty36 else (bif Nat.blt t 38 then some ty37 else some ty38))) else (bif Nat.blt t 42 then (bif Nat.blt t 40 then some ty39 else (bif Nat.blt t 41 then some ty40 else some ty41)) else (bif Nat.blt t 43 then some ty42 else (bif Nat.blt t 44 then some ty43 else some ty44)))))) else (bif Nat.blt t 68 then (bif Nat.blt t 56 then (bif Nat.blt t 50 then (bif Nat.blt t 47 then (bif Nat.blt t 46 then some ty45 else some ty46) else (bif Nat.blt t 48 then some ty47 else (bif Nat.blt t 49 then some ty48 else some ty49))) else (bif Nat.blt t 53 then (bif Nat.blt t 51 then some ty50 else (bif Nat.blt t 52 then some ty51 else some ty52)) else (bif Nat.blt t 54 then some ty53 else (bif Nat.blt t 55 then some ty54 else some ty55)))) else (bif Nat.blt t 62 then (bif Nat.blt t 59 then (bif Nat.blt t 57 then some ty56 else (bif Nat.blt t 58 then some ty57 else some ty58)) else (bif Nat.blt t 60 then some ty59 else (bif Nat.blt t 61 then some ty60 else some ty61))) else (bif Nat.blt t 65 then (bif Nat.blt t 63 then some ty62 else (bif Nat.blt t 64 then some ty63 else some ty64)) else (bif Nat.blt t 66 then some ty65 else (bif Nat.blt t 67 then some ty66 else some ty67))))) else (bif Nat.blt t 79 then (bif Nat.blt t 73 then (bif Nat.blt t 70 then (bif Nat.blt t 69 then some ty68 else some ty69) else (bif Nat.blt t 71 then some ty70 else (bif Nat.blt t 72 then some ty71 else some ty72))) else (bif Nat.blt t 76 then (bif Nat.blt t 74 then some ty73 else (bif Nat.blt t 75 then some ty74 else some ty75)) else (bif Nat.blt t 77 then some ty76 else (bif Nat.blt t 78 then some ty77 else some ty78)))) else (bif Nat.blt t 85 then (bif Nat.blt t 82 then (bif Nat.blt t 80 then some ty79 else (bif Nat.blt t 81 then some ty80 else some ty81)) else (bif Nat.blt t 83 then some ty82 else (bif Nat.blt t 84 then some ty83 else some ty84))) else (bif Nat.blt t 88 then (bif Nat.blt t 86 then some ty85 else (bif Nat.blt t 87 then some ty86 else some ty87)) else (bif Nat.blt t 89 then some ty88 else (bif Nat.blt t 90 then some ty89 else some ty90))))))) else none
theorem ti_all : (List.range 91).map TI = (List.range 91).map (tyOf Go.Proofs.Tryd.prog) := by kernel_rfl
theorem tok : TOk Go.Proofs.Tryd.prog TI := by
  intro t i h
  by_cases c : t < 91
  · have h1 : ((List.range 91).map TI)[t]? = ((List.range 91).map (tyOf Go.Proofs.Tryd.prog))[t]? := by rw [ti_all]
    rw [List.getElem?_map, List.getElem?_map, List.getElem?_range c] at h1
    simp only [Option.map_some, Option.some.injEq] at h1
    rw [← h1, h]
  · have h2 : Nat.blt t 91 = false := by
      rw [Bool.eq_false_iff]
      intro hc
      exact c (Nat.blt_eq.mp hc)
    unfold TI at h
    rw [h2] at h
    cases h
theorem mix : Go.Proofs.Tryd.prog.follows .mixedOrders = true := by kernel_rfl
structure Tac where
  op : Int
  d : Int
  a : Int
  b : Int
  k : Int
  base : Int
  size : Int
  n : Int
  deriving DecidableEq, Repr
structure Block where
  ins : List Tac
  fin : Int
  v : Int
  to : Int
  els : Int
  deriving DecidableEq, Repr
structure BFunc where
  regs : Int
  blocks : List Block
  deriving DecidableEq, Repr
structure Blocks where
  words : Int
  funcs : List BFunc
  deriving DecidableEq, Repr
structure Cert where
  same : List (List Bool)
  deriving DecidableEq, Repr
def Tac.cells (t : Tac) : List AV := [.int .i64 t.op, .int .i64 t.d, .int .i64 t.a, .int .i64 t.b, .int .i64 t.k, .int .i64 t.base, .int .i64 t.size, .int .u32 t.n]
def insAV (l : List Tac) : AV := .lst false (l.map Tac.cells)
def Block.cells (b : Block) : List AV := [insAV b.ins, .int .i64 b.fin, .int .i64 b.v, .int .i64 b.to, .int .i64 b.els]
def blocksAV (l : List Block) : AV := .lst false (l.map Block.cells)
def BFunc.cells (f : BFunc) : List AV := [.int .i64 f.regs, blocksAV f.blocks]
def funcsAV (l : List BFunc) : AV := .lst false (l.map BFunc.cells)
def Blocks.cells (b : Blocks) : List AV := [.int .i64 b.words, funcsAV b.funcs]
def boolsAV (l : List Bool) : AV := .lst false (l.map fun b => [.bool b])
def rowsAV (l : List (List Bool)) : AV := .lst false (l.map fun r => [boolsAV r])
def Cert.cells (c : Cert) : List AV := [rowsAV c.same]
theorem idx_map {α : Type} {l : List α} {f : α → List AV} {k : Nat} {x : α} (h : l[k]? = some x) : (l.map f)[((k : Nat) : Int).toNat]? = some (f x) := by
  rw [Int.toNat_natCast, List.getElem?_map, h]; rfl
theorem get_of_lt {α : Type} {l : List α} {k : Nat} (h : k < l.length) : ∃ x, l[k]? = some x := ⟨l[k], List.getElem?_eq_getElem h⟩
theorem take_succ_eq {α : Type} {l : List α} {k : Nat} {x : α} (h : l[k]? = some x) : l.take (k + 1) = l.take k ++ [x] := by
  rw [List.take_add_one, h]; rfl
def Block.fits (x : Block) : Prop := x.ins.length ≤ maxLen
def fitsBlocks (l : List Block) : Prop := l.length ≤ maxLen ∧ ∀ x ∈ l, x.fits
def BFunc.fits (f : BFunc) : Prop := fitsBlocks f.blocks
def fitsFuncs (l : List BFunc) : Prop := l.length ≤ maxLen ∧ ∀ f ∈ l, f.fits
def Blocks.fits (b : Blocks) : Prop := fitsFuncs b.funcs
section
variable {P : Program} {T : Nat → Option TyI} {o : Oper} {e : AEnv} {h : AHeap}
theorem q_makeFunc {f : Fn} {first captured : Array Operand} {xs cs : List AV} (ho : o.op = .makeFunc f first captured) (hx : lookAll e first.toList = some xs) (hc : lookAll e captured.toList = some cs) : QLoc P o e h [] (.fn f xs cs) := by
  intro H ι a w s hs g1 g2
  have hx' : lookAll s.env first.toList = some xs := by
    rw [lookAll_agree (e := e) (fun x hx => g1 x (by rw [ho]; simp [Op.operands]; exact .inl (by simpa using hx)))]; exact hx
  have hc' : lookAll s.env captured.toList = some cs := by
    rw [lookAll_agree (e := e) (fun x hx => g1 x (by rw [ho]; simp [Op.operands]; exact .inr (by simpa using hx)))]; exact hc
  have h1 := relAll_map hs hx'
  have h2 := relAll_map hs hc'
  refine ⟨.func f (first.map a.eval) (captured.map a.eval), .fn _ _ _ _ _ _ h1.1 h2.1 h1.2 h2.2, ?_⟩
  simp only [execOp, ho, Instr.makeFunc, Sem.run_bind, Sem.run_pure, Result.andThen_ok]
theorem relAll_append {H : Know} {ι : Lay} {xs ys : List AV} {us vs : Array Value} (h1 : RelAll H ι xs us) (h2 : RelAll H ι ys vs) : RelAll H ι (xs ++ ys) (us ++ vs) := by
  refine ⟨by simp [h1.1, h2.1], fun j x v g1 g2 => ?_⟩
  by_cases hj : j < xs.length
  · rw [List.getElem?_append_left hj] at g1
    rw [Array.getElem?_append_left (by rw [← h1.1]; exact hj)] at g2
    exact h1.2 j x v g1 g2
  · rw [List.getElem?_append_right (by omega)] at g1
    rw [Array.getElem?_append_right (by rw [← h1.1]; omega), ← h1.1] at g2
    exact h2.2 _ x v g1 g2
theorem o_callF {f : FuncId} {fn : Func} {x : Operand} {args : Array Operand} {tys : Array TypeId} {fs xs cs : List AV} {r : AV} {hc hw : AHeap} (L : List Nat) (W : List (Nat × AObj)) (ho : o.op = .call { callee := .value x, args := args, argTypes := tys }) (hfn : look e x = some (.fn (.func f) fs cs)) (hf : P.funcs[f]? = some fn) (hn : (fn.name == "runtime.NumGoroutine") = false) (hb : fn.body.isSome = true)
    (hx : lookAll e args.toList = some xs) (hxa : (fs ++ xs ++ cs).all (AV.avoid (mem L)) = true) (hL : AllL L fun b => ∃ q, h b = some q ∧ q.avoid (mem L) = true) (hW : W.all (fun p => mem L p.1) = true) (hres' : hres h L = hc)
    (hk : AllL L fun b => ∃ q, hw b = some q ∧ hputs h W b = some q ∧ q.avoid (mem L) = true) (hra : r.avoid (mem L) = true)
    (hcall : ACall P f (fs ++ xs ++ cs) hc (fun r' h' => r' = r ∧ HSub hw h')) : OLoc P o e h L W (some r) := by
  intro H ι a w s Q hs g1 g2
  have hx' : lookAll s.env args.toList = some xs := by
    rw [lookAll_agree (e := e) (fun x hx => g1 x (by rw [ho]; simp [Op.operands, Call.operands]; exact .inr (by simpa using hx)))]; exact hx
  have hfn' : look s.env x = some (.fn (.func f) fs cs) := by rw [g1 x z9q, hfn]
  have hvf := look_rel hs hfn'
  obtain ⟨us, vs, hve, k1, k2, k3, k4⟩ := hvf.fn_inv
  have hraa := relAll_append (relAll_append ⟨k1, k3⟩ (relAll_map hs hx')) ⟨k2, k4⟩
  have hra' : RelAll H (lcut ι (mem L)) (fs ++ xs ++ cs) (us ++ args.map a.eval ++ vs) := ⟨hraa.1, fun j x v h1 h2 => avoid_rel (hraa.2 j x v h1 h2) (all_get hxa h1)⟩
  have hLs : ∀ b ∈ L, ∃ q, s.h b = some q ∧ q.avoid (mem L) = true := fun b hb => by rw [g2 b hb]; exact hL.get b hb
  have hres2 : hres s.h L = hc := by
    rw [← hres']
    funext b
    unfold hres
    cases e : mem L b with
    | true => simp only [cond_true]; exact g2 b (mem_iff.1 e)
    | false => rfl
  have hrc : HeapRel H (lcut ι (mem L)) (hres s.h L) w := by
    have key : ∀ b o, hres s.h L b = some o → o.alive = true → b ∈ L ∧ s.h b = some o := fun b o h1 h2 => by
      unfold hres at h1
      cases e : mem L b with
      | true => rw [e] at h1; exact ⟨mem_iff.1 e, h1⟩
      | false => rw [e] at h1; cases h1; cases h2
    refine ⟨hs.heap.know, fun b hb => ?_, fun b o h1 h2 => ?_, fun b b' o o' r r' h1 h2 h3 h4 h5 h6 => ?_, hs.heap.glob⟩
    · unfold hres at hb
      unfold lcut
      cases e : mem L b with
      | true => rw [e] at hb; exact hs.heap.free b hb
      | false => rfl
    · obtain ⟨k1, k2⟩ := key b o h1 h2
      obtain ⟨r, r1, r2, r3⟩ := hs.heap.obj b o k2 h2
      obtain ⟨q, q1, q2⟩ := hLs b k1
      rw [k2] at q1; cases q1
      exact ⟨r, by rw [lcut_lt (mem_iff.2 k1)]; exact r1, objOk_cut r2 q2, r3⟩
    · exact hs.heap.inj b b' o o' r r' (key b o h1 h2).2 h2 (key b' o' h3 h4).2 h4 (lcut_some h5) (lcut_some h6)
  have hcalls := hcall H (lcut ι (mem L)) w _ hra' (hres2 ▸ hrc)
  have hexec : (execOp a.eval o).run P w = .ok (.enter f (us ++ args.map a.eval ++ vs)) w := by
    simp only [execOp, ho, resolve, hve, Deferred.ofValue, invoke, Sem.run_bind, Sem.run_pure, Result.andThen_ok, run_callFunc hf hn hb]
  unfold Oper.wp
  rw [hexec]
  refine hcalls.mono fun en w' hh => ?_
  obtain ⟨v, r', h', H', ι', rfl, ⟨rfl, hsub⟩, k1, k2, k3⟩ := hh
  have hk' : ∀ b ∈ L, ∃ q, h' b = some q ∧ hputs s.h W b = some q ∧ q.avoid (mem L) = true := fun b hb => by
    obtain ⟨q, q1, q2, q3⟩ := hk.get b hb
    exact ⟨q, hsub b q q1, by rw [hputs_agree (g2 b hb)]; exact q2, q3⟩
  obtain ⟨u1, u2⟩ := call_mix hs.heap hLs (fun p hp => mem_iff.1 (List.all_eq_true.1 hW p hp)) hk' k2 (hres2.symm ▸ k3)
  refine ⟨v, H', _, rfl, fun x ex => ?_, u1, u2⟩
  cases ex
  refine (avoid_rel k1 hra).mono (KLe.refl _) fun b r e => ?_
  by_cases hb : b ∈ L
  · exact ⟨r, by simp only [lmix, mem_iff.2 hb, cond_true]; exact lcut_some e, .inl rfl⟩
  · have : mem L b = false := by cases e : mem L b with | false => rfl | true => exact absurd (mem_iff.1 e) hb
    simp only [lcut, this, cond_false] at e; cases e
end
theorem hput_skip {h : AHeap} {b x : Nat} {o : AObj} {r : Option AObj} (hb : Nat.beq x b = false) (hr : h x = r) : hput h b o x = r := by simp only [hput, hb, cond_false, hr]
section
variable {P : Program} {T : Nat → Option TyI} {o : Oper} {e : AEnv} {h : AHeap}
end
def EDropK (k : Nat → Bool) (e' e : AEnv) : Prop := ∀ t x, e' t = some x → e t = some x ∧ x.avoid k = true
def HDropK (k : Nat → Bool) (h' h : AHeap) : Prop := ∀ b o, h' b = some o → (h b = some o ∧ (o.alive = true → k b = true ∧ o.avoid k = true)) ∨ (o = .free ∧ k b = false)
theorem EDropK.new (k : Nat → Bool) (e : AEnv) : EDropK k eNew e := fun _ _ h => by cases h
theorem EDropK.put {k : Nat → Bool} {e' e : AEnv} {t : Nat} {v : AV} (h : EDropK k e' e) (hv : e t = some v) (ha : v.avoid k = true) : EDropK k (eput e' t v) e := fun u x hx => by
  by_cases hu : u = t
  · subst hu; rw [eput_same] at hx; cases hx; exact ⟨hv, ha⟩
  · rw [eput_ne _ _ hu] at hx; exact h u x hx
theorem HDropK.none (k : Nat → Bool) (h : AHeap) : HDropK k hNone h := fun _ _ h => by cases h
theorem HDropK.put {k : Nat → Bool} {h' h : AHeap} {b : Nat} {o : AObj} (hh : HDropK k h' h) (ho : h b = some o) (hb : k b = true) (ha : o.avoid k = true) : HDropK k (hput h' b o) h := fun c x hx => by
  by_cases hc : c = b
  · subst hc; rw [hput_same] at hx; cases hx; exact .inl ⟨ho, fun _ => ⟨hb, ha⟩⟩
  · rw [hput_ne _ _ hc] at hx; exact hh c x hx
structure DropK (k : Nat → Bool) (s'' s' : AState) : Prop where
  n : s''.n = s'.n
  e : EDropK k s''.env s'.env
  h : HDropK k s''.h s'.h
theorem DropK.mk' {k : Nat → Bool} {n : Nat} {e' e : AEnv} {h' h : AHeap} (h1 : EDropK k e' e) (h2 : HDropK k h' h) : DropK k ⟨n, e', h'⟩ ⟨n, e, h⟩ := ⟨rfl, h1, h2⟩
section
variable {P : Program} {s : AState} {Q : Exit → AState → Prop}
end
section
variable {P : Program} {T : Nat → Option TyI} {o : Oper} {e : AEnv} {h : AHeap}
def OCall (P : Program) (o : Oper) (e : AEnv) (h hn : AHeap) (r : AV) : Prop :=
  ∀ (H : Know) (ι : Lay) (a : Act) (w : World) (n : Nat) (Q : Exit → Act → World → Prop), Sim H ι ⟨n, e, h⟩ a w →
    o.wp P a w (fun a' w' => ∃ v H' ι', a' = a.put o.dst v ∧ Rel H' ι' r v ∧ HeapRel H' ι' hn w' ∧ Step H ι h w H' ι' hn w') Q
theorem AOps.call {ops : Array Oper} {rest : List Oper} {n : Nat} {K : AState → Prop} (d : Nat) {hn : AHeap} {r : AV} (hd : o.dst = some d) (hb : Nat.blt d n = true) (hg : guardIs ops o e = some true) (ho : OCall P o e h hn r)
    (hr : AOps P ops rest ⟨n, eput e d r, hn⟩ K) : AOps P ops (o :: rest) ⟨n, e, h⟩ K := by
  intro H ι a w hs
  unfold wpList
  rw [guard_wanted hs hg]
  simp only [if_true]
  refine .inl (Oper.wp_mono (fun a' w' hx => ?_) (ho H ι a w n _ hs))
  obtain ⟨v, H', ι', rfl, h1, h2, h3⟩ := hx
  have hs' := hs.put (d := o.dst) (r := some r) h2 h3 (fun x ex => by cases ex; exact h1) (lt_of hd hb)
  rw [hd] at hs' ⊢
  have := hr H' ι' _ w' hs'
  have key : ∀ (l : List Oper) (a1 : Act) (w1 : World), wpList P ops (Post H' ι' hn w' (Then K fun _ _ => False)) l a1 w1 → wpList P ops (Post H ι h w (Then K fun _ _ => False)) l a1 w1 := by
    have hpost : ∀ e a2 w2, Post H' ι' hn w' (Then K fun _ _ => False) e a2 w2 → Post H ι h w (Then K fun _ _ => False) e a2 w2 := fun e a2 w2 hp => Post.step hs.heap h2 h3 hp
    intro l
    induction l with
    | nil => exact fun a1 w1 hp => hpost _ _ _ hp
    | cons o' l ih =>
      intro a1 w1 hp
      unfold wpList at hp ⊢
      by_cases hw : Region.wanted o' (yielded ops a1.tmps) = true
      · rw [if_pos hw] at hp ⊢
        rcases hp with hp | ⟨hp1, a2, w2, hp2⟩
        · refine .inl ?_
          have hp' := Oper.wp_mono (fun a2 w2 => ih a2 w2) hp
          clear hp
          unfold Oper.wp at hp' ⊢
          generalize (execOp a1.eval o').run P w1 = res at hp' ⊢
          cases res with
          | ok n w3 =>
            cases n <;> simp only [Oper.upon] at hp' ⊢ <;> first
              | exact hp'
              | exact Calls.mono hp' (fun e w4 he => by cases e <;> first | exact he | exact hpost _ _ _ he | (obtain ⟨a3, w5, hp3⟩ := he; exact ⟨a3, w5, hpost _ _ _ hp3⟩))
          | halt x w3 => cases x <;> simp only [Oper.upon] at hp' ⊢ <;> first | exact hpost _ _ _ hp' | exact hp'
        · exact .inr ⟨hp1, a2, w2, hpost _ _ _ hp2⟩
      · rw [if_neg hw] at hp ⊢
        exact ih _ _ hp
  exact key _ _ _ this
end
section
variable {P : Program} {Q : Exit → AState → Prop} {s : AState} {c : Code}
def Un (P : Program) (c : Code) (Q : Exit → AState → Prop) : Nat → AState → Prop
  | 0, s => AGo P c s (Then (fun _ => False) Q)
  | n + 1, s => AGo P c s (Then (Un P c Q n) Q)
theorem AGo.un_succ {n : Nat} (h : AGo P c s (Then (Un P c Q n) Q)) : Un P c Q (n + 1) s := h
theorem AGo.un_zero (h : AGo P c s (Then (fun _ => False) Q)) : Un P c Q 0 s := h
theorem un_then0 {e : Exit} {s : AState} {K : AState → Prop} (h : Then (fun _ => False) Q e s) : Then K Q e s := by
  cases e with
  | normal => exact False.elim h
  | _ => exact h
theorem un_then {e : Exit} {s : AState} {g : Nat} (h : Then (Un P c Q g) Q e s) : Then (fun s' => ∃ g', Un P c Q g' s' ∧ g' < g + 1) Q e s := by
  cases e with
  | normal => exact ⟨g, h, Nat.lt_succ_self g⟩
  | _ => exact h
theorem AGo.unroll (n : Nat) (h : Un P c Q n s) : AGo P (.loop c) s Q := by
  refine AGo.loop (Un P c Q) (fun g => g) n h fun g s hg => ?_
  cases g with
  | zero => exact AGo.mono (Q := Then (fun _ => False) Q) hg fun e s h => un_then0 h
  | succ g => exact AGo.mono (Q := Then (Un P c Q g) Q) hg fun e s h => un_then h
end
section
variable {P : Program} {T : Nat → Option TyI} {o : Oper} {e : AEnv} {h : AHeap}
theorem q_index_val (hT : TOk P T) {t : TypeId} {x y : Operand} {cs : List AV} {r : AV} {k k' : IntKind} {n : Int} {i j : TyI} {len u : Nat} (ho : o.op = .index t x y) (hx : look e x = some (.agg cs)) (hy : look e y = some (.int k n))
    (hi : T t = some i) (hk : i.k = .array len u) (hj : T u = some j) (hk' : j.k = .int k') (hz : j.size = 1) (h0 : 0 ≤ n) (hn : n < len) (hr : cs[n.toNat]? = some r) : QLoc P o e h [] r := by
  intro H ι a w s hs h1 h2
  have hx' : look s.env x = some (.agg cs) := by rw [h1 x (by rw [ho]; simp [Op.operands]), hx]
  have hy' : look s.env y = some (.int k n) := by rw [h1 y (by rw [ho]; simp [Op.operands]), hy]
  obtain ⟨info, d, e1, e2, e3, e4, e5, e6⟩ := tyOf_spec (hT _ _ hi)
  obtain ⟨info', d', e1', e2', e3', e4', e5', e6'⟩ := tyOf_spec (hT _ _ hj)
  have hd := tk_array (P := P) (d := d) (e3 ▸ hk)
  subst hd
  have hd' := tk_int (P := P) (d := d') (e3' ▸ hk')
  subst hd'
  have hvy : a.eval y = .int k n := (look_rel hs hy').int_inv
  obtain ⟨us, hva, hl, hrel⟩ := (look_rel hs hx').agg_inv
  have hlt := (List.getElem?_eq_some_iff.1 hr).1
  obtain ⟨u0, hu0⟩ : ∃ u0, us[n.toNat]? = some u0 := ⟨us[n.toNat]'(by omega), Array.getElem?_eq_getElem (by omega)⟩
  refine ⟨u0, hrel _ _ _ hr hu0, ?_⟩
  have hcond : 0 ≤ n ∧ n < (len : Int) := ⟨h0, hn⟩
  have hsz : info'.size = 1 := by rw [e4', hz]
  have hpart := run_part1 (P := P) (w := w) (off := n.toNat) (cs := us) e2' rfl hu0
  simp only [execOp, ho, hva, hvy, Instr.index, asIntOf, Sem.run_bind, Sem.run_pure, Result.andThen_ok, run_underlying' e2, hcond, and_self, if_true, run_isz e1', hsz, Nat.mul_one, hpart]
theorem q_cvt (hT : TOk P T) {t u : TypeId} {x : Operand} {k k' : IntKind} {n r : Int} {i j : TyI} (ho : o.op = .convert t u x) (hx : look e x = some (.int k' n)) (hi : T t = some i) (hj : T u = some j) (hk : j.k = .int k) (hw : k.wrap n = r) : QLoc P o e h [] (.int k r) := by
  have := q_convInt (h := h) hT ho hx hi hj hk
  rw [hw] at this
  exact this
theorem fill_more {f g : Nat → Option (Nat × Nat)} (hfg : ∀ i p, f i = some p → g i = some p) : ∀ (ps : List (Nat × Value)) (cs r : Array Value), Instr.fill f cs ps = some r → Instr.fill g cs ps = some r
  | [], _, _, h => h
  | (i, v) :: ps, cs, r, h => by
    unfold Instr.fill at h ⊢
    cases e : f i with
    | none => rw [e] at h; cases h
    | some p =>
      rw [e] at h
      rw [hfg i p e]
      obtain ⟨off, sz⟩ := p
      simp only at h ⊢
      split at h
      · cases h
      · rename_i hc
        rw [if_neg hc]
        exact fill_more hfg ps _ _ h
def arrFs (len sz u : Nat) : List (Nat × Nat) := (List.range len).map fun k => (k * sz, u)
theorem q_build_arr (hT : TOk P T) {t : TypeId} {parts : Array (Nat × Operand)} {i j : TyI} {len u : Nat} {ps : List (Nat × AV)} {r : List AV} (ho : o.op = .build t parts) (hx : lookParts e parts.toList = some ps) (hi : T t = some i) (hk : i.k = .array len u) (hj : T u = some j) (hz : i.zero.length = i.size) (hp : 0 < i.size)
    (hfit : partsFit T (arrFs len j.size u) ps = true) (hr : partCells (arrFs len j.size u) ps i.zero = some r) : QLoc P o e h [] (.agg r) := by
  intro H ι a w s hs g1 g2
  have hx' : lookParts s.env parts.toList = some ps := by
    rw [lookParts_agree (e := e) (fun x hx => g1 x (by rw [ho]; simp only [Op.operands, List.mem_toArray]; exact hx))]; exact hx
  obtain ⟨l1, l2⟩ := lookParts_rel hs hx'
  obtain ⟨info, d, e1, e2, e3, e4, e5, e6⟩ := tyOf_spec (hT _ _ hi)
  obtain ⟨info', d', e1', e2', e3', e4', e5', e6'⟩ := tyOf_spec (hT _ _ hj)
  have hd := tk_array (P := P) (d := d) (e3 ▸ hk)
  subst hd
  obtain ⟨z, hz1, hz2⟩ := zero_spec e6 hz hp
  obtain ⟨z1, z2⟩ := allAV_rel (H := H) (ι := ι) hz2
  let places : Array (Nat × Nat) := ((List.range len).map fun k => (k * j.size, j.size)).toArray
  have hpl : ∀ (i off t : Nat), (arrFs len j.size u)[i]? = some (off, t) → ∃ i', T t = some i' ∧ places[i]? = some (off, i'.size) := fun i off t h => by
    simp only [arrFs, List.getElem?_map, Option.map_eq_some_iff, Prod.mk.injEq] at h
    obtain ⟨k, hk, rfl, rfl⟩ := h
    exact ⟨j, hj, by simp [places, hk]⟩
  obtain ⟨vs, f1, f2, f3⟩ := fill_rel (T := T) (s := s) (a := a) (w := w) hpl ps (parts.toList.map fun (i, x) => (i, a.eval x)) i.zero z.cells r (by simp [l1]) (fun k p q k1 k2 => ⟨(l2 k p q k1 k2).1, (l2 k p q k1 k2).2, partsFit_get hfit k p k1⟩) (by simpa using z1) (fun j x v k1 k2 => z2 j x v k1 (by simpa using k2)) hr
  have f1' := fill_more (g := fun i => some (i * j.size, j.size)) (fun i p h => by
    simp only [places, List.getElem?_toArray, List.getElem?_map, Option.map_eq_some_iff] at h
    obtain ⟨k, hk, rfl⟩ := h
    have := (List.getElem?_eq_some_iff.1 hk)
    simp at this
    rw [this.2]) _ _ _ f1
  refine ⟨.agg vs, .agg _ _ _ f2 f3, ?_⟩
  have hparts : (parts.map fun (i, x) => (i, a.eval x)).toList = parts.toList.map fun (i, x) => (i, a.eval x) := by simp
  simp only [execOp, ho, Instr.build, zeroValue, typeInfo, Sem.run_bind, run_program, Result.andThen_ok, e1, hz1, Sem.run_pure, run_underlying' e2, run_isz e1', e4', hparts, f1']
end
def byteCells (l : List UInt8) : List (List AV) := l.map fun b => [AV.int .u8 b.toNat]
theorem push_bytes : ∀ (l : List UInt8) (s : ByteArray), (l.map (fun b : UInt8 => ((b.toNat : Nat) : Int))).foldl (fun r n => r.push (UInt8.ofNat n.toNat)) s = ⟨s.data ++ l.toArray⟩
  | [], s => by simp
  | b :: r, s => by
    simp only [List.map_cons, List.foldl_cons, Int.toNat_natCast, UInt8.ofNat_toNat]
    rw [push_bytes r]
    show ByteArray.mk (s.data.push b ++ r.toArray) = _
    congr 1
    apply Array.toList_inj.1
    simp
theorem push_all (l : List UInt8) : (l.map (fun b : UInt8 => ((b.toNat : Nat) : Int))).foldl (fun r n => r.push (UInt8.ofNat n.toNat)) ByteArray.empty = ⟨l.toArray⟩ := by
  rw [push_bytes]
  show ByteArray.mk (#[] ++ l.toArray) = _
  simp
section
variable {P : Program} {T : Nat → Option TyI} {o : Oper} {e : AEnv} {h : AHeap}
theorem q_bytesStr (hT : TOk P T) {t u : TypeId} {x : Operand} {l : List UInt8} {ex : Bool} {i j k : TyI} {v : Nat} (ho : o.op = .convert t u x) (hx : look e x = some (.lst ex (byteCells l))) (hi : T t = some i) (hik : i.k = .slice v) (hv : T v = some k) (hk : k.k = .int .u8) (hj : T u = some j) (hjk : j.k = .string) :
    QLoc P o e h [] (.str ⟨l.toArray⟩) := by
  intro H ι a w s hs g1 g2
  have hx' : look s.env x = some (.lst ex (byteCells l)) := by rw [g1 x (by rw [ho]; simp [Op.operands]), hx]
  obtain ⟨info, d, e1, e2, e3, e4, e5, e6⟩ := tyOf_spec (hT _ _ hi)
  obtain ⟨info', d', e1', e2', e3', e4', e5', e6'⟩ := tyOf_spec (hT _ _ hj)
  obtain ⟨info'', d'', e1'', e2'', e3'', e4'', e5'', e6''⟩ := tyOf_spec (hT _ _ hv)
  have hd := tk_slice (P := P) (d := d) (e3 ▸ hik)
  subst hd
  have hd := tk_string (P := P) (d := d') (e3' ▸ hjk)
  subst hd
  have hd := tk_int (P := P) (d := d'') (e3'' ▸ hk)
  subst hd
  have hvx := look_rel hs hx'
  generalize hva : a.eval x = va at hvx
  refine ⟨_, .str _ _, ?_⟩
  simp only [execOp, ho, hva, Sem.run_bind]
  have key : (Go.convert t u va).run P w = .ok (.string ⟨l.toArray⟩) w := by
    rcases hvx.lst_inv with ⟨hl, ad, cap, rfl, h1, h2, h3, h4⟩ | ⟨hne, b, off, cap, sz, c, vals, rfl, hb, hsz', hv', hr, hc1, hex, hcap, hmax⟩
    · have hl0 : l = [] := by simpa [byteCells] using hl
      subst hl0
      cases ad with
      | none => simp [Go.convert, run_underlying' e2, run_underlying' e2', run_underlying' e2'', Conv.bytesToString, Sem.run_pure]; rfl
      | some ad =>
        rw [run_convert_bytes_string w t u v (some ad) 0 cap e2 e2'' e2']
        rw [run_bytesToString w ad 0 cap [] (by simpa using run_loadCells (P := P) (w := w) ad 0 (fun _ => undef) (fun j hj => by omega))]
        rfl
    · rw [run_convert_bytes_string w t u v (some ⟨b, off, none⟩) (byteCells l).length cap e2 e2'' e2']
      obtain ⟨TT, fr, hbw⟩ := hs.heap.know b c hb
      have hlen : (byteCells l).length = l.length := by simp [byteCells]
      rw [run_bytesToString w _ _ cap (l.map (fun b : UInt8 => ((b.toNat : Nat) : Int))) ?_, push_all]
      have hld := run_loadCells_list (P := P) (w := w) ⟨b, off, none⟩ (l.map (fun b : UInt8 => Value.int .u8 b.toNat)) (fun j y hj => by
        rw [List.getElem?_map] at hj
        cases hlj : l[j]? with
        | none => rw [hlj] at hj; cases hj
        | some n =>
          rw [hlj] at hj
          cases hj
          have hbc : (byteCells l)[j]? = some [AV.int .u8 n.toNat] := by simp [byteCells, hlj]
          have hsz : sz = 1 := (hsz' j _ hbc).symm
          subst hsz
          have q1 := hv' j _ 0 _ hbc rfl
          have q2 := (hr j _ 0 _ hbc rfl).int_inv
          rw [add_mk, cell_row hbw]
          rw [q2, Nat.mul_one, Nat.add_zero] at q1
          exact q1)
      rw [hlen]
      simpa [List.map_map, Function.comp_def] using hld
  simp only [key, Result.andThen_ok, Sem.run_pure]
end
section
variable {P : Program} {T : Nat → Option TyI} {o : Oper} {e : AEnv} {h : AHeap}
theorem q_strFrom (hT : TOk P T) {t : TypeId} {x y : Operand} {z : ByteArray} {k : IntKind} {n : Int} {m : Nat} {i : TyI} (ho : o.op = .slice t x (some y) none none) (hx : look e x = some (.str z)) (hy : look e y = some (.int k n)) (hi : T t = some i) (hk : i.k = .string) (hn : n = (m : Int)) (hm : m ≤ z.size) :
    QLoc P o e h [] (.str (z.extract m z.size)) := by
  intro H ι a w s hs g1 g2
  have hx' : look s.env x = some (.str z) := by rw [g1 x (by rw [ho]; simp [Op.operands]), hx]
  have hy' : look s.env y = some (.int k n) := by rw [g1 y (by rw [ho]; simp [Op.operands]), hy]
  have hvx := (look_rel hs hx').str_inv
  have hvy := (look_rel hs hy').int_inv
  obtain ⟨info, d, e1, e2, e3, e4, e5, e6⟩ := tyOf_spec (hT _ _ hi)
  have hd := tk_string (P := P) (d := d) (e3 ▸ hk)
  subst hd
  subst hn
  refine ⟨_, .str _ _, ?_⟩
  simp only [execOp, ho, hvx, hvy, Instr.sliceAt, Instr.slice, Option.map_none, Option.map_some, Sem.run_bind, run_underlying' e2, Result.andThen_ok, Sem.run_pure]
  simp [Instr.sliceBounds, Instr.sliceBound, asIntOf, hm]
theorem q_strAdd {t t' : TypeId} {x y : Operand} {a b : ByteArray} (ho : o.op = .binOp .add t x y t') (hx : look e x = some (.str a)) (hy : look e y = some (.str b)) (hm : a.size + b.size ≤ 9223372036854775807) : QLoc P o e h [] (.str (a ++ b)) := by
  intro H ι ac w s hs h1 h2
  have hx' : look s.env x = some (.str a) := by rw [h1 x (by rw [ho]; simp [Op.operands]), hx]
  have hy' : look s.env y = some (.str b) := by rw [h1 y (by rw [ho]; simp [Op.operands]), hy]
  have hvx := (look_rel hs hx').str_inv
  have hvy := (look_rel hs hy').str_inv
  refine ⟨_, .str _ _, ?_⟩
  have hmax : ¬ ((a.size + b.size : Nat) : Int) > IntKind.i64.max := by
    have : IntKind.i64.max = 9223372036854775807 := by decide
    rw [this]; omega
  simp only [execOp, ho, hvx, hvy, Sem.run_bind]
  simp [eqGuard, binOp, Op.stringOp, Sem.run_pure]
  omega
theorem o_strBytes (hT : TOk P T) {t u : TypeId} {x : Operand} {z : ByteArray} {i j k : TyI} {v : Nat} (b : Nat) (ho : o.op = .convert t u x) (hx : look e x = some (.str z)) (hi : T t = some i) (hik : i.k = .string) (hj : T u = some j) (hjk : j.k = .slice v) (hv : T v = some k) (hk : k.k = .int .u8) (hb : h b = some .free) (hz : z.size ≤ maxLen) :
    OLoc P o e h [b] [(b, .row true 1 (byteCells z.data.toList))] (some (.ref b z.size 0 z.size)) := by
  intro H ι a w s Q hs g1 g2
  have hx' : look s.env x = some (.str z) := by rw [g1 x (by rw [ho]; simp [Op.operands]), hx]
  have hb' : s.h b = some .free := by rw [g2 b (by simp), hb]
  obtain ⟨info, d, e1, e2, e3, e4, e5, e6⟩ := tyOf_spec (hT _ _ hi)
  obtain ⟨info', d', e1', e2', e3', e4', e5', e6'⟩ := tyOf_spec (hT _ _ hj)
  obtain ⟨info'', d'', e1'', e2'', e3'', e4'', e5'', e6''⟩ := tyOf_spec (hT _ _ hv)
  have hd := tk_slice (P := P) (d := d') (e3' ▸ hjk)
  subst hd
  have hd := tk_int (P := P) (d := d'') (e3'' ▸ hk)
  subst hd
  have hvx := (look_rel hs hx').str_inv
  have hcv := Lib.run_convert_string_bytes (P := P) w t u v z e2 e2' e2''
  have hrun : (execOp a.eval o).run P w = .ok (.value (.slice (some ⟨w.heap.size, 0, none⟩) z.size (grownCap w z.size 0 v))) (Lib.bytesWorld w v z) := by
    simp only [execOp, ho, hvx, Sem.run_bind, hcv, Result.andThen_ok, Sem.run_pure]
  have hge := grownCap_ge w z.size 0 v
  have hcm := grownCap_le_maxLen w z.size 0 v hz
  have hcs : (Lib.bytesCells w v z).size = grownCap w z.size 0 v := by
    have : z.data.size = z.size := rfl
    simp [Lib.bytesCells]; omega
  have hbl : (byteCells z.data.toList).length = z.size := by
    show (List.map _ z.data.toList).length = _
    rw [List.length_map]; exact Array.length_toList
  have hrow : rowCells H noLay 1 (byteCells z.data.toList) (Lib.bytesCells w v z) := by
    refine ⟨fun i cs hi => ?_, fun i cs j x hi hj => ?_⟩
    · simp only [byteCells, List.getElem?_map, Option.map_eq_some_iff] at hi
      obtain ⟨c, _, rfl⟩ := hi; rfl
    · have hi' := hi
      simp only [byteCells, List.getElem?_map, Option.map_eq_some_iff] at hi
      obtain ⟨c, hc, rfl⟩ := hi
      have hlt : i < z.data.toList.length := (List.getElem?_eq_some_iff.1 hc).1
      have hlt' : i < z.data.size := by simpa using hlt
      cases j with
      | succ j => simp at hj
      | zero =>
        simp at hj; subst hj
        refine ⟨.int .u8 c.toNat, ?_, .int _ _ _, rfl⟩
        have hcz : z.data[i]? = some c := by rw [← Array.getElem?_toList]; exact hc
        simp only [Lib.bytesCells, Nat.mul_one, Nat.add_zero]
        rw [Array.getElem?_append_left (by simpa using hlt'), Array.getElem?_map, hcz]; rfl
  have hu := hs.heap.upd (w' := Lib.bytesWorld w v z) (o0 := .free) (o' := .row true 1 (byteCells z.data.toList)) (r' := ⟨w.heap.size, 1, (byteCells z.data.toList).length, (Lib.bytesCells w v z).size⟩) hb' rfl (.inl rfl) (fun _ => .inl (Nat.le_refl _))
    (fun rb hlt _ => Lib.bytesWorld_at_old w v z rb hlt) (by rw [Lib.bytesWorld_size]; omega) (by unfold Lib.bytesWorld World.freeze; rw [if_neg (by decide)]; rfl) (by unfold Lib.bytesWorld World.freeze; rw [if_neg (by decide)]; rfl)
    ⟨rfl, by decide, rfl, by show (byteCells z.data.toList).length * 1 ≤ (Lib.bytesCells w v z).size; rw [hbl, hcs]; omega, hrow.1, fun _ => ⟨_, v, ⟨_, Lib.bytesWorld_at_new w v z, .inr (Nat.le_refl _)⟩, rfl, hrow⟩⟩
  unfold Oper.wp
  rw [hrun]
  refine ⟨_, H, _, rfl, fun y hy => ?_, hu.1, hu.2⟩
  simp only [Option.some.injEq] at hy
  subst hy
  have := Rel.refL (H := H) (lput ι b ⟨w.heap.size, 1, (byteCells z.data.toList).length, (Lib.bytesCells w v z).size⟩) b z.size 0 z.size (grownCap w z.size 0 v) _ (lput_same _ _ _) hbl (by omega) hge (by rw [hcs]; simp) hcm
  simpa using this
end
def setsOp (op : Int) : Bool := op == 1 || (op == 2 || (op == 3 || (op == 4 || (op == 6 || op == 8))))
def Tac.sets (t : Tac) : Int := bif setsOp t.op then t.d else -1
def use1 (op : Int) : Bool := op == 2 || (op == 5 || (op == 6 || op == 9))
def use2 (op : Int) : Bool := op == 3 || op == 7
def Tac.uses (t : Tac) : List Int := bif use1 t.op then [t.a] else bif use2 t.op then [t.a, t.b] else []
def within (i n : Int) : Bool := decide (0 ≤ i) && decide (i < n)
def baseOp (op : Int) : Bool := op == 4 || op == 5
def arrOp (op : Int) : Bool := op == 6 || op == 7
def Tac.want (t : Tac) : Tac where
  op := t.op
  d := bif setsOp t.op then t.d else 0
  a := bif use1 t.op || use2 t.op then t.a else 0
  b := bif use2 t.op then t.b else 0
  k := bif t.op == 3 then t.k else 0
  base := bif baseOp t.op || (arrOp t.op || t.op == 10) then t.base else 0
  size := bif arrOp t.op then t.size else 0
  n := bif t.op == 1 then t.n else 0
def Tac.same (x y : Tac) : Bool := x.op == y.op && (x.d == y.d && (x.a == y.a && (x.b == y.b && (x.k == y.k && (x.base == y.base && (x.size == y.size && (x.n == y.n && true)))))))
def Tac.rest (t : Tac) (f words : Int) : Bool :=
  bif t.op == 3 then decide (4 ≤ t.k) && decide (t.k ≤ 15)
  else bif baseOp t.op then within t.base words
  else bif arrOp t.op then decide (1 ≤ t.size) && (decide (t.size ≤ 4096) && (decide (0 ≤ t.base) && decide (t.base ≤ words - t.size)))
  else bif t.op == 10 then within t.base f
  else true
def Tac.fits (t : Tac) (f regs words : Int) : Bool :=
  decide (1 ≤ t.op) && (decide (t.op ≤ 10) && ((!setsOp t.op || within t.d regs) && (t.uses.all (fun r => within r regs) && (t.rest f words && t.same t.want))))
def Block.ends (b : Block) (blocks regs : Int) : Bool :=
  bif b.fin == 1 then within b.to blocks && (b.v == 0 && b.els == 0)
  else bif b.fin == 2 then within b.to blocks && (within b.els blocks && within b.v regs)
  else b.fin == 3 && (b.v == 0 && (b.to == 0 && b.els == 0))
def Block.ok (x : Block) (blocks regs number words : Int) : Bool := x.ends blocks regs && x.ins.all (fun t => t.fits number regs words)
def BFunc.one (f : BFunc) (number words : Int) : Bool :=
  decide (0 ≤ f.regs) && (decide (f.regs ≤ 4000) && (!f.blocks.isEmpty && f.blocks.all (fun x => x.ok f.blocks.length f.regs number words)))
theorem Cert.ext' {c d : Cert} (h : c.same = d.same) : c = d := by cases c; cases d; simp_all
theorem BFunc.ext' {f g : BFunc} (h1 : f.regs = g.regs) (h2 : f.blocks = g.blocks) : f = g := by cases f; cases g; simp_all
def isW (n : Int) : Prop := 0 ≤ n ∧ n < 4294967296
theorem isW_wrap (n : Int) : isW (IntKind.u32.wrap n) := by
  rw [IntKind.wrap_u32]; constructor <;> omega
def addW (a b : Int) : Int := IntKind.u32.wrap (a + b)
def mulW (a b : Int) : Int := IntKind.u32.wrap (a * b)
def xorW (a b : Int) : Int := IntKind.u32.wrap ((BitVec.ofInt IntKind.u32.bits a ^^^ BitVec.ofInt IntKind.u32.bits b).toNat)
def orW (a b : Int) : Int := IntKind.u32.wrap ((BitVec.ofInt IntKind.u32.bits a ||| BitVec.ofInt IntKind.u32.bits b).toNat)
def shlW (a p : Int) : Int := IntKind.u32.wrap (a * 2 ^ (min p.toNat IntKind.u32.bits))
def shrW (a p : Int) : Int := a.fdiv (2 ^ (min p.toNat IntKind.u32.bits))
def rotl (x p : Int) : Int := orW (shlW x p) (shrW x (32 - p))
theorem shlBin {a p : Int} (h : 0 ≤ p) : evalBin .shl (.int .u32 a) (.int .u64 p) = some (.int .u32 (shlW a p)) := by
  show evalInt .shl .u32 a p = _
  simp only [evalInt]
  rw [if_neg (by omega)]; rfl
theorem shrBin {a p : Int} (h : 0 ≤ p) : evalBin .shr (.int .u32 a) (.int .u64 p) = some (.int .u32 (shrW a p)) := by
  show evalInt .shr .u32 a p = _
  simp only [evalInt]
  rw [if_neg (by omega)]; rfl
theorem and31 {p : Int} (h : 0 ≤ p ∧ p < 32) : evalBin .and (.int .u64 p) (.int .u64 31) = some (.int .u64 p) := by
  show evalInt .and .u64 p 31 = _
  simp only [evalInt]
  congr 2
  obtain ⟨n, rfl⟩ := Int.eq_ofNat_of_zero_le h.1
  have key : ∀ n : Fin 32, IntKind.u64.wrap ((BitVec.ofInt IntKind.u64.bits ((n.val : Nat) : Int) &&& BitVec.ofInt IntKind.u64.bits 31).toNat) = ((n.val : Nat) : Int) := by decide
  exact key ⟨n, by omega⟩
theorem rem32 {p : Int} (h : 0 ≤ p ∧ p < 32) : evalBin .rem (.int .i64 p) (.int .i64 32) = some (.int .i64 p) := by
  show evalInt .rem .i64 p 32 = _
  simp only [evalInt]
  rw [if_neg (by omega)]
  congr 2
  exact Int.tmod_eq_of_lt h.1 h.2
theorem lss0 {p : Int} (h : 0 ≤ p) : evalBin .lss (.int .i64 p) (.int .i64 0) = some (.bool false) := by
  show evalInt .lss .i64 p 0 = _
  simp only [evalInt]
  rw [decide_eq_false (by omega)]
theorem sub32 {p : Int} (h : 0 ≤ p ∧ p < 32) : evalBin .sub (.int .u64 32) (.int .u64 p) = some (.int .u64 (32 - p)) := by
  show evalInt .sub .u64 32 p = _
  simp only [evalInt]
  rw [IntKind.wrap_u64]
  congr 2; omega
structure St8 where
  a0 : Int
  a1 : Int
  a2 : Int
  a3 : Int
  a4 : Int
  a5 : Int
  a6 : Int
  a7 : Int
def St8.cells (q : St8) : List AV := [.int .u32 q.a0, .int .u32 q.a1, .int .u32 q.a2, .int .u32 q.a3, .int .u32 q.a4, .int .u32 q.a5, .int .u32 q.a6, .int .u32 q.a7]
structure W4 where
  a0 : Int
  a1 : Int
  a2 : Int
  a3 : Int
deriving DecidableEq
def W4.cells (q : W4) : List AV := [.int .u32 q.a0, .int .u32 q.a1, .int .u32 q.a2, .int .u32 q.a3]
def mixA (r : Nat) (q : St8) : St8 := ⟨addW q.a0 (mulW 2654435769 ((r + 1 : Nat) : Int)), q.a1, q.a2, q.a3, q.a4, q.a5, q.a6, q.a7⟩
def mix0 (q : St8) : St8 := ⟨addW q.a0 q.a4, q.a1, q.a2, q.a3, rotl (xorW q.a4 (addW q.a0 q.a4)) 7, q.a5, q.a6, q.a7⟩
def mix1 (q : St8) : St8 := ⟨q.a0, addW q.a1 q.a5, q.a2, q.a3, q.a4, rotl (xorW q.a5 (addW q.a1 q.a5)) 9, q.a6, q.a7⟩
def mix2 (q : St8) : St8 := ⟨q.a0, q.a1, addW q.a2 q.a6, q.a3, q.a4, q.a5, rotl (xorW q.a6 (addW q.a2 q.a6)) 13, q.a7⟩
def mix3 (q : St8) : St8 := ⟨q.a0, q.a1, q.a2, addW q.a3 q.a7, q.a4, q.a5, q.a6, rotl (xorW q.a7 (addW q.a3 q.a7)) 18⟩
def mixP (q : St8) : St8 := ⟨q.a3, q.a4, q.a5, q.a6, q.a7, q.a0, q.a1, q.a2⟩
def mixRound (r : Nat) (q : St8) : St8 := mixP (mix3 (mix2 (mix1 (mix0 (mixA r q)))))
def mixN : Nat → St8 → St8
  | 0, q => q
  | r + 1, q => mixRound r (mixN r q)
def xorIn (q : St8) (w : W4) : St8 := ⟨xorW q.a0 w.a0, xorW q.a1 w.a1, xorW q.a2 w.a2, xorW q.a3 w.a3, q.a4, q.a5, q.a6, q.a7⟩
def takeB (q : St8) (w : W4) : St8 := mixN 8 (xorIn q w)
def St8.front (q : St8) : W4 := ⟨q.a0, q.a1, q.a2, q.a3⟩
def byteZ (n : Int) : UInt8 := UInt8.ofNat n.toNat
theorem wrap_byteZ {n : Int} (h : 0 ≤ n) : IntKind.u8.wrap n = (((byteZ n).toNat : Nat) : Int) := by
  obtain ⟨k, rfl⟩ := Int.eq_ofNat_of_zero_le h
  rw [IntKind.wrap_u8, byteZ, Int.toNat_natCast]
  show _ = (((UInt8.ofNat k).toNat : Nat) : Int)
  rw [UInt8.toNat_ofNat']
  omega
def byteC (z : ByteArray) (i : Nat) : UInt8 := (z.data.toList[i]?).getD 0
theorem byteC_get {z : ByteArray} {i : Nat} (h : i < z.size) : z.data.toList[((i : Nat) : Int).toNat]? = some (byteC z i) := by
  rw [Int.toNat_natCast]
  have hl : i < z.data.toList.length := by rw [Array.length_toList]; exact h
  rw [byteC, List.getElem?_eq_getElem hl]; rfl
theorem byte_lt (c : UInt8) : ((c.toNat : Nat) : Int) < 256 := by
  have : c.toNat < 256 := UInt8.toNat_lt c
  omega
def leW (a b c d : Int) : Int := orW (orW (orW a (shlW b 8)) (shlW c 16)) (shlW d 24)
def fourW (z : ByteArray) (at' i : Nat) : Int := leW (byteC z (at' + 4 * i)).toNat (byteC z (at' + 4 * i + 1)).toNat (byteC z (at' + 4 * i + 2)).toNat (byteC z (at' + 4 * i + 3)).toNat
def four (z : ByteArray) (at' : Nat) : W4 := ⟨fourW z at' 0, fourW z at' 1, fourW z at' 2, fourW z at' 3⟩
theorem addI {x y z : Int} (h1 : -9223372036854775808 ≤ x + y) (h2 : x + y ≤ 9223372036854775807) (hz : z = x + y) : evalBin .add (.int .i64 x) (.int .i64 y) = some (.int .i64 z) := by
  subst hz
  show evalInt .add .i64 x y = _
  simp only [evalInt]
  rw [wrap_i64 h1 h2]
theorem mulI {x y z : Int} (h1 : -9223372036854775808 ≤ x * y) (h2 : x * y ≤ 9223372036854775807) (hz : z = x * y) : evalBin .mul (.int .i64 x) (.int .i64 y) = some (.int .i64 z) := by
  subst hz
  show evalInt .mul .i64 x y = _
  simp only [evalInt]
  rw [wrap_i64 h1 h2]
def leBytes (x : Int) : List UInt8 := [byteZ x, byteZ (shrW x 8), byteZ (shrW x 16), byteZ (shrW x 24)]
theorem shrW_nonneg {x p : Int} (h : 0 ≤ x) : 0 ≤ shrW x p := by
  unfold shrW
  have hp : (0 : Int) < 2 ^ (min p.toNat IntKind.u32.bits) := Int.pow_pos (by omega)
  rw [Int.fdiv_eq_ediv_of_nonneg _ (Int.le_of_lt hp)]
  exact Int.ediv_nonneg h (Int.le_of_lt hp)
theorem leBytes_len (x : Int) : (leBytes x).length = 4 := rfl
theorem flat_succ {α β : Type} {l : List α} {f : α → List β} {k : Nat} {x : α} (h : l[k]? = some x) : (l.take (k + 1)).flatMap f = (l.take k).flatMap f ++ f x := by
  rw [take_succ_eq h]; simp
theorem flat_len {α β : Type} {f : α → List β} {n : Nat} (hf : ∀ x, (f x).length = n) (l : List α) : (l.flatMap f).length = n * l.length := by
  induction l with
  | nil => simp
  | cons x l ih => simp only [List.flatMap_cons, List.length_append, ih, hf, List.length_cons]; rw [Nat.mul_add]; omega
theorem Ghost.freezeW {n : Nat} {e : AEnv} {h : AHeap} (t b : Nat) {m sz : Nat} {es : List (List AV)} (ht : e t = some (.ref b m 0 m)) (hb : h b = some (.row true sz es)) (hm : m = es.length) :
    Ghost ⟨n, e, h⟩ ⟨n, eput e t (.lst false es), hrm h b⟩ := by
  have := Ghost.freeze (n := n) t b ht hb hm
  rwa [List.drop_zero, List.take_of_length_le (Nat.le_of_eq hm.symm)] at this
theorem sizeBA (l : List UInt8) : (⟨l.toArray⟩ : ByteArray).size = l.length := by simp [ByteArray.size]
theorem byteCells_len (l : List UInt8) : (byteCells l).length = l.length := by simp [byteCells]
def wordsAV (l : List Int) : AV := .lst false (l.map fun x => [.int .u32 x])
def hv (c : UInt8) (i : Nat) : Nat := if i % 2 = 0 then c.toNat / 16 else c.toNat % 16
structure W4.Ok (x : W4) : Prop where
  h0 : isW x.a0
  h1 : isW x.a1
  h2 : isW x.a2
  h3 : isW x.a3
section
variable {P : Program} {T : Nat → Option TyI} {o : Oper} {e : AEnv} {h : AHeap}
theorem q_slice3 (hT : TOk P T) {t : TypeId} {x y y' : Operand} {ex : Bool} {es : List (List AV)} {i j : TyI} {u : Nat} {k k' : IntKind} (ho : o.op = .slice t x none (some y) (some y')) (hx : look e x = some (.lst ex es)) (hy : look e y = some (.int k (es.length : Int))) (hy' : look e y' = some (.int k' (es.length : Int))) (ht : T t = some i) (hk : i.k = .slice u) (hj : T u = some j) :
    QLoc P o e h [] (.lst true es) := by
  intro H ι a w s hs g1 g2
  have hx' : look s.env x = some (.lst ex es) := by rw [g1 x (by rw [ho]; simp [Op.operands]), hx]
  have hy1 : look s.env y = some (.int k (es.length : Int)) := by rw [g1 y (by rw [ho]; simp [Op.operands]), hy]
  have hy2 : look s.env y' = some (.int k' (es.length : Int)) := by rw [g1 y' (by rw [ho]; simp [Op.operands]), hy']
  obtain ⟨info, d, e1, e2, e3, e4, e5, e6⟩ := tyOf_spec (hT _ _ ht)
  obtain ⟨info', d', e1', e2', e3', e4', e5', e6'⟩ := tyOf_spec (hT _ _ hj)
  have hd := tk_slice (P := P) (d := d) (e3 ▸ hk)
  subst hd
  have hvx := look_rel hs hx'
  have hv1 := (look_rel hs hy1).int_inv
  have hv2 := (look_rel hs hy2).int_inv
  generalize hva : a.eval x = va at hvx
  have hrun : ∀ (ad : Option Addr) (cap : Nat), es.length ≤ cap → va = .slice ad es.length cap → (execOp a.eval o).run P w = .ok (.value (.slice (if es.length = 0 then ad else ad.map (·.add (0 * j.size))) (es.length - 0) (es.length - 0))) w := fun ad cap hcap hv => by
    simp only [execOp, ho, hva, hv, hv1, hv2, Instr.sliceAt, Instr.slice, Option.map_none, Option.map_some, Sem.run_bind, run_underlying' e2, Result.andThen_ok, run_isz e1', e4', Sem.run_pure]
    simp [Instr.sliceBounds, Instr.sliceBound, asIntOf, hcap]
  rcases hvx.lst_inv with ⟨rfl, ad, cap, rfl, h1, h2, h3, h4⟩ | ⟨hne, b, off, cap, sz, c, vals, rfl, hb, hsz', hv, hr, hc1, hex, hcap, hmax⟩
  · refine ⟨_, ?_, hrun ad cap (Nat.zero_le _) rfl⟩
    simp only [List.length_nil, if_true, Nat.sub_zero]
    exact .lst0 _ _ _ _ (fun _ => rfl) (Nat.zero_le _) (fun _ => rfl) trivial
  · refine ⟨_, ?_, hrun _ cap hcap rfl⟩
    have hl : es.length ≠ 0 := fun h => hne (List.eq_nil_of_length_eq_zero h)
    rw [if_neg hl]
    have hadd : (some (⟨b, off, none⟩ : Addr)).map (·.add (0 * j.size)) = some ⟨b, off, none⟩ := by simp [Addr.add]
    rw [hadd, Nat.sub_zero]
    exact .lst ι true es b off es.length sz c vals hne hb hsz' hv hr hc1 (fun _ => rfl) (Nat.le_refl _) (by omega)
def jAV (f : Bool) (b : Nat) (es : List (List AV)) : AV := bif f then .lst true es else .ref b es.length 0 es.length
def jObj (f : Bool) (sz : Nat) (es : List (List AV)) : AObj := bif f then .free else .row true sz es
theorem o_appendJ (hT : TOk P T) {t t' : TypeId} {x y : Operand} {i i' j : TyI} {u u' : Nat} {f ex2 : Bool} {sz : Nat} {es es2 : List (List AV)} (b : Nat)
    (ho : o.op = .call { callee := .builtin .append, args := #[x, y], argTypes := #[t, t'] }) (hx : look e x = some (jAV f b es)) (hy : look e y = some (.lst ex2 es2)) (hi : T t = some i) (hk : i.k = .slice u) (hj : T u = some j) (hi' : T t' = some i') (hk' : i'.k = .slice u')
    (hb : h b = some (jObj f sz es)) (hsz : sz = j.size) (hz : j.zero.length = j.size) (hp : 0 < j.size)
    (hu : ∀ cs ∈ es, cs.length = sz) (hpu : ∀ cs ∈ es, cs.all AV.isPure1 = true) (hu2 : ∀ cs ∈ es2, cs.length = sz) (hpure : ∀ cs ∈ es2, cs.all AV.isPure1 = true)
    (hby : (es.length + es2.length) * j.bytes ≤ 140737488355328) (hml : es.length + es2.length ≤ maxLen) :
    OLoc P o e h [b] [(b, jObj (f && es2.isEmpty) sz (es ++ es2))] (some (jAV (f && es2.isEmpty) b (es ++ es2))) := by
  cases f with
  | false =>
    have := o_append hT ho hx hy hi hk hj hi' hk' hb rfl hsz hz hp (.lst ex2 es2) hu2 (fun _ => hpure) (m := es2.length) rfl hby hml
    simpa [jAV, jObj] using this
  | true =>
    simp only [jAV, jObj, cond_true] at hx hb
    cases hes2 : es2 with
    | nil =>
      subst hes2
      simp only [List.isEmpty_nil, Bool.and_self, List.append_nil, jObj, jAV, cond_true]
      intro H ι a w s Q hs g1 g2
      have hx' : look s.env x = some (.lst true es) := by rw [g1 x z9q, hx]
      have hy' : look s.env y = some (.lst ex2 []) := by rw [g1 y z9q, hy]
      have hb' : s.h b = some .free := by rw [g2 b (by simp), hb]
      obtain ⟨info, d, e1, e2, e3, e4, e5, e6⟩ := tyOf_spec (hT _ _ hi)
      obtain ⟨infou, du, f1, f2, f3, f4, f5, f6⟩ := tyOf_spec (hT _ _ hj)
      obtain ⟨info', d', e1', e2', e3', e4', e5', e6'⟩ := tyOf_spec (hT _ _ hi')
      have hd := tk_slice (P := P) (d := d) (e3 ▸ hk)
      subst hd
      have hd' := tk_slice (P := P) (d := d') (e3' ▸ hk')
      subst hd'
      have hvx := look_rel hs hx'
      have hvy := look_rel hs hy'
      generalize hva : a.eval x = va at hvx
      generalize hvb : a.eval y = vb at hvy
      obtain ⟨news, hsrcw, hnews⟩ := src_of hs.heap (SrcOf.lst ex2 []) hvy e2' hp (by intro cs h; cases h) w rfl
      rw [← f4] at hsrcw
      have hnn : news = [] := List.eq_nil_of_length_eq_zero (by rw [hsrcw.newsLen]; simp)
      subst hnn
      have hsame : hputs s.h [(b, .free)] = s.h := by
        funext c
        by_cases hc : c = b
        · subst hc; simp [hputs, hput_same, hb']
        · simp [hputs, hput_ne _ _ hc]
      have hexec : ∀ (v : Value) (w' : World), (Builtin.append_ #[t, t'] o.type #[va, vb]).run P w = .ok v w' → (execOp a.eval o).run P w = .ok (.value v) w' := fun v w' hrun => by
        simp only [execOp, ho, resolve, invoke, builtin, Sem.run_bind, Sem.run_pure, Result.andThen_ok, List.map_toArray, List.map_cons, List.map_nil, hva, hvb, hrun]
      have hrun : (Builtin.append_ #[t, t'] o.type #[va, vb]).run P w = .ok va w := by
        rcases hvx.lst_inv with ⟨rfl, ad, cap, rfl, h1, h2, h3, h4⟩ | ⟨hne, b0, off, cap, sz0, c, vals, rfl, hb0, hsz', hv, hr, hc1, hex, hcap, hmax⟩
        · have := h1 rfl
          subst this
          exact run_append_dry t t' o.type u infou e2 f1 ad vb hsrcw
        · have hsrc0 : Src P infou.size t' vb 0 [] w := hsrcw
          have h1 := hsrc0.len
          have h2 := hsrc0.cells
          rcases hsrcw.kind with ⟨e', hk⟩ | hk <;> simp [Builtin.append_, run_underlying e2, run_underlying hk, sizeOf, typeInfo, f1, h1, h2, hcap, storeCells]
      unfold Oper.wp
      rw [hexec _ _ hrun, hsame]
      exact ⟨va, H, ι, rfl, (fun x ex => by have := Option.some.inj ex; subst this; exact hvx), hs.heap, Step.refl _ _ _ _⟩
    | cons y0 r0 =>
      rw [← hes2]
      have hpos : 0 < es2.length := by rw [hes2]; simp
      have hie : es2.isEmpty = false := by rw [hes2]; rfl
      simp only [hie, Bool.and_false, jObj, jAV, cond_false]
      subst hsz
      refine OLoc.of_new hb (by simp) hp fun H ι a w s hs g1 g2 => ?_
      have hx' : look s.env x = some (.lst true es) := by rw [g1 x z9q, hx]
      have hy' : look s.env y = some (.lst ex2 es2) := by rw [g1 y z9q, hy]
      obtain ⟨info, d, e1, e2, e3, e4, e5, e6⟩ := tyOf_spec (hT _ _ hi)
      obtain ⟨infou, du, f1, f2, f3, f4, f5, f6⟩ := tyOf_spec (hT _ _ hj)
      obtain ⟨info', d', e1', e2', e3', e4', e5', e6'⟩ := tyOf_spec (hT _ _ hi')
      have hd := tk_slice (P := P) (d := d) (e3 ▸ hk)
      subst hd
      have hd' := tk_slice (P := P) (d := d') (e3' ▸ hk')
      subst hd'
      obtain ⟨z, hz1, hz2⟩ := zero_spec f6 hz hp
      have hzl : z.cells.size = j.size := by rw [← hz]; simpa using (allAV_rel (H := H) (ι := noLay) hz2).1.symm
      have hvx := look_rel hs hx'
      have hvy := look_rel hs hy'
      generalize hva : a.eval x = va at hvx
      generalize hvb : a.eval y = vb at hvy
      have hexec : ∀ (v : Value) (w' : World), (Builtin.append_ #[t, t'] o.type #[va, vb]).run P w = .ok v w' → (execOp a.eval o).run P w = .ok (.value v) w' := fun v w' hrun => by
        simp only [execOp, ho, resolve, invoke, builtin, Sem.run_bind, Sem.run_pure, Result.andThen_ok, List.map_toArray, List.map_cons, List.map_nil, hva, hvb, hrun]
      obtain ⟨news, hsrcw, hnews⟩ := src_of hs.heap (SrcOf.lst ex2 es2) hvy e2' hp hu2 w rfl
      rw [← f4] at hsrcw
      have hnl : news.length = es2.length * j.size := by rw [hsrcw.newsLen, f4]
      have h63 : ((es.length + es2.length : Nat) : Int) ≤ 9223372036854775807 := by
        have := hml; simp only [maxLen] at this; omega
      -- what stands there already
      obtain ⟨base, olds, hv, hold, hol, holdr⟩ : ∃ (base : Option Addr) (olds : List Value), va = .slice base es.length es.length ∧ (Builtin.firstCells infou.size es.length (.slice base es.length es.length)).run P w.drew = .ok olds.toArray w.drew ∧ olds.length = es.length * j.size ∧
          (∀ (i : Nat) (cs : List AV) (k : Nat) (x : AV), es[i]? = some cs → cs[k]? = some x → ∃ v, olds[i * j.size + k]? = some v ∧ Rel H noLay x v ∧ x.cell1 = true) := by
        rcases hvx.lst_inv with ⟨rfl, ad, cap, rfl, h1, h2, h3, h4⟩ | ⟨hne, b0, off, cap, sz0, c, vals, rfl, hb0, hsz', hv, hr, hc1, hex, hcap, hmax⟩
        · have := h1 rfl
          subst this
          refine ⟨ad, [], rfl, ?_, by simp, fun i cs k x h1 => by simp at h1⟩
          cases ad <;> simp [Builtin.firstCells, loadCells, loadCellsFrom]
        · have hcl := hex rfl
          subst hcl
          obtain ⟨TT, fr, hbw⟩ := hs.heap.know b0 c hb0
          have hss : sz0 = j.size := by
            cases es with
            | nil => exact absurd rfl hne
            | cons cs es => rw [← hsz' 0 cs (by simp), hu cs (by simp)]
          subst hss
          have hget : ∀ k, k < es.length * j.size → ∃ v, c[off + k]? = some v := fun k hk => by
            have hi : k / j.size < es.length := Nat.div_lt_of_lt_mul (by rw [Nat.mul_comm]; exact hk)
            have hm : k % j.size < j.size := Nat.mod_lt _ hp
            have hjj : k / j.size * j.size + k % j.size = k := by rw [Nat.mul_comm]; exact Nat.div_add_mod k j.size
            have h1 : es[k / j.size]? = some es[k / j.size] := List.getElem?_eq_getElem hi
            have h2 : (es[k / j.size])[k % j.size]? = some ((es[k / j.size])[k % j.size]'(by rw [hsz' _ _ h1]; exact hm)) := List.getElem?_eq_getElem _
            have := hv _ _ _ _ h1 h2
            rw [Nat.add_assoc, hjj] at this
            exact ⟨_, this⟩
          have hfit : off + es.length * j.size ≤ c.size := by
            rcases Nat.eq_zero_or_pos (es.length * j.size) with h0 | h0
            · have := List.length_pos_iff.2 hne
              have := Nat.mul_pos this hp
              omega
            · obtain ⟨v, hv⟩ := hget (es.length * j.size - 1) (by omega)
              have := (Array.getElem?_eq_some_iff.1 hv).1
              omega
          have hg : ∀ k, k < es.length * j.size → ((c.toList.drop off).take (es.length * j.size))[k]? = c[off + k]? := fun k hk => by
            rw [List.getElem?_take_of_lt hk, List.getElem?_drop, Array.getElem?_toList]
          have hl : ((c.toList.drop off).take (es.length * j.size)).length = es.length * j.size := by simp; omega
          refine ⟨_, (c.toList.drop off).take (es.length * j.size), rfl, ?_, hl, fun i cs k x h1 h2 => ?_⟩
          · rw [f4]
            refine run_firstCells_some (P := P) w.drew j.size es.length ⟨b0, off, none⟩ es.length es.length _ hl (fun k v hk => ?_)
            have hkl : k < es.length * j.size := by
              have := (List.getElem?_eq_some_iff.1 hk).1
              omega
            rw [hg k hkl] at hk
            rw [add_mk, World.cell?_drew, cell_row hbw]
            exact hk
          · have hi : i < es.length := (List.getElem?_eq_some_iff.1 h1).1
            have hkk : k < j.size := by rw [← hsz' i cs h1]; exact (List.getElem?_eq_some_iff.1 h2).1
            have h3 := hv i cs k x h1 h2
            exact ⟨_, by rw [hg _ (mul_add_lt_mul hi hkk), ← Nat.add_assoc]; exact h3, hr i cs k x h1 h2, hc1 i cs k x h1 h2⟩
      have hfit : Builtin.nextslicecap (es.length + es2.length) es.length * infou.bytes ≤ 281474976710656 := growslice_fits (by omega) (by rw [f5]; exact hby)
      have hrun := run_append_grow_src (P := P) w t t' o.type u infou z e2 f1 hz1 base es.length es.length olds hold vb es2.length news hsrcw (by omega) h63 hfit
      have hge := grownCap_ge w (es.length + es2.length) es.length u
      have hcm : grownCap w (es.length + es2.length) es.length u ≤ maxLen := grownCap_le_maxLen w _ es.length u hml
      generalize hcc : grownCap w (es.length + es2.length) es.length u = nc at *
      generalize hC : (olds ++ news).toArray ++ Builtin.zeroCells z.cells (nc - (es.length + es2.length)) = C at *
      have hCs : C.size = nc * j.size := by
        rw [← hC, Array.size_append, size_zeroCells, hzl]
        simp only [List.size_toArray, List.length_append, hol, hnl, ← Nat.add_mul]
        congr 1; omega
      have hCg : ∀ k, k < olds.length + news.length → C[k]? = (olds ++ news)[k]? := fun k hk => by
        rw [← hC, Array.getElem?_append_left (by simp; omega)]
        simp
      have hnewsp : ∀ (i : Nat) (cs : List AV) (k : Nat) (y : AV), es2[i]? = some cs → cs[k]? = some y → ∃ v, news[i * j.size + k]? = some v ∧ Rel H noLay y v ∧ y.cell1 = true := fun i cs k y h1 h2 => by
        obtain ⟨v, k1, k2, k3⟩ := hnews i cs k y h1 h2
        exact ⟨v, k1, pure1_rel (List.all_eq_true.1 (hpure cs (List.mem_of_getElem? h1)) y (List.mem_of_getElem? h2)) k2, k3⟩
      refine ⟨_, C, u, w.drew, rfl, rfl, rfl, ?_, rowCells_append hol hnl hu2 (fun i cs h => hu cs (List.mem_of_getElem? h)) holdr hnewsp hCg, hexec _ _ (hv ▸ hrun), ?_⟩
      · rw [List.length_append, hCs]; exact Nat.mul_le_mul_right _ hge
      · have := Rel.refL (H := H) (lput ι b ⟨w.heap.size, j.size, (es ++ es2).length, C.size⟩) b (es ++ es2).length 0 (es ++ es2).length nc _ (lput_same _ _ _) rfl (by omega) (by rw [List.length_append]; exact hge) (by simp [hCs]) hcm
        simpa using this
end
theorem Ghost.trans {s s' s'' : AState} (g1 : Ghost s s') (g2 : Ghost s' s'') : Ghost s s'' := fun H ι a w hs => by
  obtain ⟨H1, ι1, h1, s1⟩ := g1 H ι a w hs
  obtain ⟨H2, ι2, h2, s2⟩ := g2 H1 ι1 a w h1
  exact ⟨H2, ι2, h2, Step.trans hs.heap s1 h1.heap s2⟩
theorem Ghost.weakSlot {n : Nat} {e : AEnv} {h : AHeap} (t : Nat) {x y : AV} (ht : e t = some x) (hxy : ∀ H ι v, Rel H ι x v → Rel H ι y v) : Ghost ⟨n, e, h⟩ ⟨n, eput e t y, h⟩ := fun H ι a w hs =>
  ⟨H, ι, ⟨hs.n, hs.d, fun u z hz => by
    by_cases hu : u = t
    · subst hu
      simp only [eput_same, Option.some.injEq] at hz
      subst hz
      obtain ⟨v, h1, h2⟩ := hs.env u _ ht
      exact ⟨v, h1, hxy _ _ _ h2⟩
    · simp only [eput_ne _ _ hu] at hz
      exact hs.env u z hz, hs.heap⟩, Step.refl _ _ _ _⟩
theorem nil_empty {H : Know} {ι : Lay} {v : Value} (h : Rel H ι .nil v) : Rel H ι (.lst false []) v := by
  rw [h.nil_inv]; exact .lst0 _ _ _ _ (fun h => by cases h) (Nat.zero_le _) (fun _ => rfl) trivial
theorem HSub.from_rm {h : AHeap} {k b : Nat} (hh : HSub (hFrom k) h) (hb : b < k) : HSub (hFrom k) (hrm h b) := fun c x hx => by
  have hne : c ≠ b := fun e => by
    subst e
    have h1 : Nat.blt c k = true := by rw [Nat.blt_eq]; exact hb
    simp only [hFrom, h1, cond_true] at hx
    cases hx
  rw [hrm_ne _ hne]; exact hh c x hx
theorem Ghost.endJ {n : Nat} {e : AEnv} {h : AHeap} (t b : Nat) {f : Bool} {sz : Nat} {es : List (List AV)} (ht : e t = some (jAV f b es)) (hb : h b = some (jObj f sz es)) : Ghost ⟨n, e, h⟩ ⟨n, eput e t (.lst false es), hrm h b⟩ := by
  cases f with
  | false =>
    have := Ghost.freeze (n := n) t b ht hb rfl
    rwa [List.drop_zero, List.take_length] at this
  | true =>
    refine (Ghost.weakSlot t ht (fun H ι v h => rel_unex h)).trans (.of_sub ⟨rfl, fun _ _ h => h, fun c x hx => ?_⟩)
    by_cases hc : c = b
    · subst hc
      have : hrm h c c = some x := hx
      rw [hrm_same] at this; cases this
    · have : hrm h b c = some x := hx
      rwa [hrm_ne _ hc] at this
def arrAV (K : IntKind) (l : List Int) : List AV := l.map fun n => .int K n
def arrV (K : IntKind) (l : List Int) : Array Value := (l.map fun n => Value.int K n).toArray
theorem ints_vals {H : Know} {ι : Lay} {K : IntKind} {l : List Int} {us : Array Value} (hl : (arrAV K l).length = us.size) (h : ∀ (j : Nat) (x : AV) (v : Value), (arrAV K l)[j]? = some x → us[j]? = some v → Rel H ι x v) : us = arrV K l := by
  apply Array.ext
  · simpa [arrAV, arrV] using hl.symm
  · intro j h1 h2
    have hj : j < l.length := by simpa [arrV] using h2
    have := h j (.int K l[j]) us[j] (by simp [arrAV, hj]) (Array.getElem?_eq_getElem h1)
    rw [this.int_inv]
    simp [arrV]
section
variable {P : Program}
theorem run_partInt {w : World} {t : TypeId} {K : IntKind} {l : List Int} (hu : P.underlying t = some (.int K)) {j : Nat} {n : Int} (h : l[j]? = some n) : (part t (arrV K l) j).run P w = .ok (.int K n) w :=
  run_part1 hu rfl (by simp [arrV, h])
theorem run_eqInts {w : World} {t : TypeId} {K : IntKind} (hu : P.underlying t = some (.int K)) (d : Nat) (l1 l2 : List Int) : ∀ (m k : Nat), l1.length = k + m → l2.length = k + m →
    (Op.eqItems (d + 1) t 1 (arrV K l1) (arrV K l2) (List.range' k m)).run P w = .ok (decide (l1.drop k = l2.drop k)) w
  | 0, k, h1, h2 => by
    rw [List.drop_of_length_le (by omega), List.drop_of_length_le (by omega)]
    simp [Op.eqItems]
  | m + 1, k, h1, h2 => by
    have g1 : k < l1.length := by omega
    have g2 : k < l2.length := by omega
    have ih := run_eqInts (w := w) hu d l1 l2 m (k + 1) (by omega) (by omega)
    rw [List.range'_succ]
    simp only [Op.eqItems, Nat.mul_one, Sem.run_bind, run_partInt hu (List.getElem?_eq_getElem g1), run_partInt hu (List.getElem?_eq_getElem g2), Result.andThen_ok, run_equalIn_int w d t _ _ _ _ hu]
    have hd : (l1.drop k = l2.drop k) ↔ (l1[k] = l2[k] ∧ l1.drop (k + 1) = l2.drop (k + 1)) := by
      rw [List.drop_eq_getElem_cons g1, List.drop_eq_getElem_cons g2, List.cons.injEq]
    by_cases he : l1[k] = l2[k]
    · simp only [he, if_true, Result.andThen_ok]
      simp only [hd, he, true_and]
      simp [ih]
    · simp [hd, he]
theorem run_equalInts {w : World} {t e : TypeId} {n : Nat} {K : IntKind} (hu : P.underlying t = some (.array n e)) (he : P.underlying e = some (.int K)) (hc : P.cellsOf e = 1) (d : Nat) {l1 l2 : List Int} (h1 : l1.length = n) (h2 : l2.length = n) :
    (Op.equalIn (d + 2) t (.agg (arrV K l1)) (.agg (arrV K l2))).run P w = .ok (decide (l1 = l2)) w := by
  obtain ⟨i, hi⟩ := info_of_underlying he
  rw [run_equalIn_array w (d + 1) _ _ hu hi, hc, List.range_eq_range']
  have := run_eqInts (w := w) he d l1 l2 n 0 (by omega) (by omega)
  simpa using this
end
abbrev AMap := List (List Int × AV)
def kvsA (K : IntKind) (m : AMap) : List (AV × AV) := m.map fun p => (.agg (arrAV K p.1), p.2)
inductive EntRelA (H : Know) (K : IntKind) : AMap → List MapEntry → Prop
  | nil : EntRelA H K [] []
  | cons (z : List Int) (v : AV) (m : AMap) (e : MapEntry) (es : List MapEntry) (hk : e.key = .agg (arrV K z)) (hv : Rel H noLay v e.val) (h : EntRelA H K m es) : EntRelA H K ((z, v) :: m) (e :: es)
theorem intsRel (H : Know) (K : IntKind) (z : List Int) : Rel H noLay (.agg (arrAV K z)) (.agg (arrV K z)) :=
  .agg _ _ _ (by simp [arrAV, arrV]) fun j x u h1 h2 => by
    simp only [arrAV, List.getElem?_map, Option.map_eq_some_iff] at h1
    obtain ⟨n, hn, rfl⟩ := h1
    have : u = .int K n := by simpa [arrV, hn] using h2.symm
    subst this
    exact .int _ _ _
theorem Rel.ints {H : Know} {ι : Lay} {K : IntKind} {z : List Int} {v : Value} (h : Rel H ι (.agg (arrAV K z)) v) : v = .agg (arrV K z) := by
  obtain ⟨us, rfl, h1, h2⟩ := h.agg_inv
  rw [ints_vals h1 h2]
theorem EntRelA.out {H : Know} {K : IntKind} {m : AMap} {es : List MapEntry} (h : EntRelA H K m es) : (kvsA K m).length = es.length ∧ ∀ (j : Nat) (k v : AV), (kvsA K m)[j]? = some (k, v) → ∃ e, es[j]? = some e ∧ Rel H noLay k e.key ∧ Rel H noLay v e.val := by
  induction h with
  | nil => exact ⟨rfl, fun j k v h => by simp [kvsA] at h⟩
  | cons z v m e es hk hv h ih =>
    refine ⟨by simpa [kvsA] using ih.1, fun j k u hj => ?_⟩
    cases j with
    | zero =>
      simp [kvsA] at hj
      obtain ⟨rfl, rfl⟩ := hj
      exact ⟨e, rfl, by rw [hk]; exact intsRel _ _ _, hv⟩
    | succ j =>
      obtain ⟨e', k1, k2⟩ := ih.2 j k u (by simpa [kvsA] using hj)
      exact ⟨e', by simpa using k1, k2⟩
section
variable {P : Program} {T : Nat → Option TyI} {o : Oper} {e : AEnv} {h : AHeap}
theorem q_eqInts (hT : TOk P T) {t t' : TypeId} {x y : Operand} {K : IntKind} {l1 l2 : List Int} {i j : TyI} {n e0 : Nat} (neg : Bool) (ho : o.op = .binOp (bif neg then .neq else .eql) t x y t') (hx : look e x = some (.agg (arrAV K l1))) (hy : look e y = some (.agg (arrAV K l2))) (hp : P.eqGuardType P.depth t = false) (hi : T t = some i) (hk : i.k = .array n e0)
    (hj : T e0 = some j) (hjk : j.k = .int K) (h1 : l1.length = n) (h2 : l2.length = n) (hc : P.cellsOf e0 = 1) : QLoc P o e h [] (.bool (bif neg then !(decide (l1 = l2)) else decide (l1 = l2))) := by
  intro H ι a w s hs g1 g2
  have hx' : look s.env x = some (.agg (arrAV K l1)) := by rw [g1 x (by rw [ho]; simp [Op.operands]), hx]
  have hy' : look s.env y = some (.agg (arrAV K l2)) := by rw [g1 y (by rw [ho]; simp [Op.operands]), hy]
  have hvx := (look_rel hs hx').ints
  have hvy := (look_rel hs hy').ints
  obtain ⟨info, d, e1, e2, e3, e4, e5, e6⟩ := tyOf_spec (hT _ _ hi)
  obtain ⟨info', d', e1', e2', e3', e4', e5', e6'⟩ := tyOf_spec (hT _ _ hj)
  have hd := tk_array (P := P) (d := d) (e3 ▸ hk)
  subst hd
  have hd' := tk_int (P := P) (d := d') (e3' ▸ hjk)
  subst hd'
  have hrun : (Op.equalIn 10000 t (.agg (arrV K l1)) (.agg (arrV K l2))).run P w = .ok (decide (l1 = l2)) w := run_equalInts e2 e2' hc 9998 h1 h2
  refine ⟨_, .bool _ _, ?_⟩
  cases neg with
  | true =>
    simp only [cond_true] at ho ⊢
    simp only [execOp, ho, hvx, hvy, Sem.run_bind, run_eqGuard_agg w .neq t x y _ _ hp, Result.andThen_ok, run_neq_struct, hrun, Sem.run_pure]
  | false =>
    simp only [cond_false] at ho ⊢
    simp only [execOp, ho, hvx, hvy, Sem.run_bind, run_eqGuard_agg w .eql t x y _ _ hp, Result.andThen_ok, run_eql_struct, hrun, Sem.run_pure]
end
def absorbN (z : ByteArray) : Nat → St8 → St8
  | 0, q => q
  | k + 1, q => takeB (absorbN z k q) (four z (16 * k))
def st1 : St8 := ⟨1, 0, 0, 0, 0, 0, 0, 0⟩
def padN (n : Nat) : Nat := (39 - n % 16) % 16
def endB (z : ByteArray) : ByteArray := z.extract (z.size / 16 * 16) z.size
def restL (z : ByteArray) (k : Nat) : List UInt8 := (endB z).data.toList ++ (128 :: List.replicate k 0)
def lenW (z : ByteArray) : List Int := [IntKind.u32.wrap (IntKind.u64.wrap (z.size : Int)), IntKind.u32.wrap ((IntKind.u64.wrap (z.size : Int)).fdiv (2 ^ (min (32 : Int).toNat IntKind.u64.bits)))]
def tailB (z : ByteArray) : ByteArray := (⟨(restL z (padN z.size)).toArray⟩ : ByteArray) ++ ⟨((lenW z).flatMap leBytes).toArray⟩
def digW (z : ByteArray) : W4 := (absorbN (tailB z) ((tailB z).size / 16) (absorbN z (z.size / 16) st1)).front
theorem endB_len (z : ByteArray) : (endB z).data.toList.length = z.size % 16 := by
  rw [Array.length_toList]
  show (z.extract (z.size / 16 * 16) z.size).size = _
  rw [ByteArray.size_extract]
  omega
theorem restL_len (z : ByteArray) (k : Nat) : (restL z k).length = z.size % 16 + 1 + k := by
  simp only [restL, List.length_append, endB_len, List.length_cons, List.length_replicate]; omega
theorem lenB_len (z : ByteArray) : ((lenW z).flatMap leBytes).length = 8 := by rw [flat_len leBytes_len]; rfl
theorem tailB_size (z : ByteArray) : (tailB z).size = z.size % 16 + 1 + padN z.size + 8 := by
  rw [tailB, ByteArray.size_append]
  have h1 := sizeBA (restL z (padN z.size))
  have h2 := sizeBA ((lenW z).flatMap leBytes)
  rw [restL_len] at h1
  rw [lenB_len] at h2
  omega
theorem tailB_whole (z : ByteArray) : (tailB z).size % 16 = 0 ∧ 16 ≤ (tailB z).size ∧ (tailB z).size ≤ 100 := by
  rw [tailB_size]; unfold padN; omega
structure St8.Ok (q : St8) : Prop where
  h0 : isW q.a0
  h1 : isW q.a1
  h2 : isW q.a2
  h3 : isW q.a3
  h4 : isW q.a4
  h5 : isW q.a5
  h6 : isW q.a6
  h7 : isW q.a7
theorem tailB_fits (z : ByteArray) : (⟨(restL z (padN z.size)).toArray⟩ : ByteArray).size + (⟨((lenW z).flatMap leBytes).toArray⟩ : ByteArray).size ≤ 9223372036854775807 := by
  have h1 := sizeBA (restL z (padN z.size))
  have h2 := sizeBA ((lenW z).flatMap leBytes)
  rw [restL_len] at h1
  rw [lenB_len] at h2
  have : padN z.size < 16 := by unfold padN; omega
  omega
theorem quo16N {n : Nat} (h : n ≤ 1000000) : evalBin .quo (.int .i64 (n : Int)) (.int .i64 16) = some (.int .i64 ((n / 16 : Nat) : Int)) := by
  show evalInt .quo .i64 _ 16 = _
  simp only [evalInt]
  rw [if_neg (by decide)]
  have : (n : Int).tdiv 16 = ((n / 16 : Nat) : Int) := by
    rw [Int.tdiv_eq_ediv_of_nonneg (Int.natCast_nonneg _)]; omega
  rw [this, wrap_i64 (by omega) (by omega)]
theorem rem16N {n : Nat} : evalBin .rem (.int .i64 (n : Int)) (.int .i64 16) = some (.int .i64 ((n % 16 : Nat) : Int)) := by
  show evalInt .rem .i64 _ 16 = _
  simp only [evalInt]
  rw [if_neg (by decide)]
  rfl
theorem neq8N {n : Nat} : evalBin .neq (.int .i64 (n : Int)) (.int .i64 8) = some (.bool (!decide (n = 8))) := by
  show evalInt .neq .i64 _ 8 = _
  simp only [evalInt]
  by_cases h : n = 8
  · subst h; rfl
  · have : ((n : Int) != 8) = true := by simp; omega
    rw [this]; simp [h]
theorem rest_zero (z : ByteArray) : restL z 0 = (endB z).data.toList ++ [128] := rfl
theorem rest_succ (z : ByteArray) (k : Nat) : restL z (k + 1) = restL z k ++ [0] := by
  simp only [restL, List.replicate_succ', List.append_assoc, List.cons_append]
theorem endB_size (z : ByteArray) : (endB z).size = z.size % 16 := by
  have := endB_len z
  rwa [Array.length_toList] at this
def W4.ints (x : W4) : List Int := [x.a0, x.a1, x.a2, x.a3]
theorem ints_inj (x y : W4) : x.ints = y.ints ↔ x = y := by
  cases x; cases y; simp [W4.ints]
section
variable {P : Program} {T : Nat → Option TyI} {o : Oper} {e : AEnv} {h : AHeap}
theorem q_eqDig (hT : TOk P T) {t t' : TypeId} {a b : Operand} (x y : W4) {r : Bool} {i j : TyI} {n e0 : Nat} (ho : o.op = .binOp .eql t a b t') (hx : look e a = some (.agg x.cells)) (hy : look e b = some (.agg y.cells)) (hp : P.eqGuardType P.depth t = false) (hi : T t = some i) (hk : i.k = .array n e0)
    (hj : T e0 = some j) (hjk : j.k = .int .u32) (hn : n = 4) (hc : P.cellsOf e0 = 1) (hr : decide (x = y) = r) : QLoc P o e h [] (.bool r) := by
  have := q_eqInts (K := .u32) (l1 := x.ints) (l2 := y.ints) (h := h) hT false ho hx hy hp hi hk hj hjk (by rw [hn]; rfl) (by rw [hn]; rfl) hc
  have e1 : decide (x.ints = y.ints) = decide (x = y) := decide_eq_decide.2 (ints_inj x y)
  rw [e1, hr] at this
  exact this
end
theorem str_eq {a b : ByteArray} (h : (!(a.toList == b.toList)) = false) : a = b := by
  have h1 : a.toList = b.toList := by simpa using h
  rw [ByteArray.toList_eq, ByteArray.toList_eq] at h1
  cases a; cases b
  simp only [ByteArray.mk.injEq]
  exact Array.toList_inj.1 h1
def halfL : Nat → Nat → Nat → Nat
  | 0, k, _ => k
  | f + 1, k, n => bif decide (k < n - k) then halfL f (k * 2) n else k
def half (n : Nat) : Nat := halfL n 1 n
theorem halfL_fuel : ∀ (f g k n : Nat), 1 ≤ k → n - k ≤ f → n - k ≤ g → halfL f k n = halfL g k n
  | 0, 0, _, _, _, _, _ => rfl
  | 0, g + 1, k, n, hk, hf, _ => by
    have : decide (k < n - k) = false := by simp; omega
    simp only [halfL]; rw [this]; rfl
  | f + 1, 0, k, n, hk, _, hg => by
    have : decide (k < n - k) = false := by simp; omega
    simp only [halfL]; rw [this]; rfl
  | f + 1, g + 1, k, n, hk, hf, hg => by
    simp only [halfL]
    cases h : decide (k < n - k) with
    | false => rfl
    | true =>
      simp only [decide_eq_true_eq] at h
      exact halfL_fuel f g (k * 2) n (by omega) (by omega) (by omega)
theorem half_in {n : Nat} (h : 2 ≤ n) : 1 ≤ half n ∧ half n < n := by
  have key : ∀ (f k : Nat), 1 ≤ k → k < n → 1 ≤ halfL f k n ∧ halfL f k n < n := by
    intro f
    induction f with
    | zero => exact fun k h1 h2 => ⟨h1, h2⟩
    | succ f ih =>
      intro k h1 h2
      simp only [halfL]
      cases h : decide (k < n - k) with
      | false => exact ⟨h1, h2⟩
      | true =>
        simp only [decide_eq_true_eq] at h
        exact ih (k * 2) (by omega) (by omega)
  exact key n 1 (Nat.le_refl _) (by omega)
theorem half_start (n : Nat) : halfL n 1 n = half n := rfl
theorem half_next {n k : Nat} (hk : 1 ≤ k) (h : k < n - k) (hf : halfL n k n = half n) : halfL n (k * 2) n = half n := by
  rw [← hf, halfL_fuel n (n + 1) k n hk (by omega) (by omega)]
  simp only [halfL]
  rw [show decide (k < n - k) = true by simpa using h]; rfl
theorem half_end {n k : Nat} (hk : 1 ≤ k) (h : ¬ k < n - k) (hf : halfL n k n = half n) : k = half n := by
  rw [← hf, halfL_fuel n (n + 1) k n hk (by omega) (by omega)]
  simp only [halfL]
  rw [show decide (k < n - k) = false by simpa using h]; rfl
def st2 : St8 := ⟨2, 0, 0, 0, 0, 0, 0, 0⟩
def pairW (a b : W4) : W4 := (takeB (takeB st2 a) b).front
def emptyB : ByteArray := ⟨#[]⟩
def rootF : Nat → List W4 → W4
  | 0, _ => digW emptyB
  | f + 1, l => bif decide (l.length = 0) then digW emptyB else bif decide (l.length = 1) then l.headD ⟨0, 0, 0, 0⟩ else pairW (rootF f (l.take (half l.length))) (rootF f (l.drop (half l.length)))
def root (l : List W4) : W4 := rootF l.length l
def wayF : Nat → List W4 → Nat → List W4
  | 0, _, _ => []
  | f + 1, l, i => bif decide (l.length = 1) then [] else bif decide (i < half l.length) then wayF f (l.take (half l.length)) i ++ [root (l.drop (half l.length))] else wayF f (l.drop (half l.length)) (i - half l.length) ++ [root (l.take (half l.length))]
def way (l : List W4) (i : Nat) : List W4 := wayF l.length l i
structure Rest where
  l : List W4
  short : Bool
def Rest.last (r : Rest) : W4 × Rest := bif decide (r.l.length = 0) then (⟨0, 0, 0, 0⟩, { r with short := true }) else ((r.l.getLast?).getD ⟨0, 0, 0, 0⟩, { r with l := r.l.dropLast })
def climbF : Nat → Rest → Nat → Nat → W4 → W4 × Rest
  | 0, r, _, _, leaf => (leaf, r)
  | f + 1, r, n, i, leaf => bif decide (n = 1) then (leaf, r) else
      bif decide (i < half n) then (pairW (climbF f r.last.2 (half n) i leaf).1 r.last.1, (climbF f r.last.2 (half n) i leaf).2)
      else (pairW r.last.1 (climbF f r.last.2 (n - half n) (i - half n) leaf).1, (climbF f r.last.2 (n - half n) (i - half n) leaf).2)
def climb (r : Rest) (n i : Nat) (leaf : W4) : W4 × Rest := climbF n r n i leaf
theorem rootF_fuel : ∀ (f g : Nat) (l : List W4), l.length ≤ f → l.length ≤ g → rootF f l = rootF g l
  | 0, 0, _, _, _ => rfl
  | 0, g + 1, l, hf, _ => by
    simp only [rootF]; rw [show decide (l.length = 0) = true by simp; exact List.eq_nil_of_length_eq_zero (by omega)]; rfl
  | f + 1, 0, l, _, hg => by
    simp only [rootF]; rw [show decide (l.length = 0) = true by simp; exact List.eq_nil_of_length_eq_zero (by omega)]; rfl
  | f + 1, g + 1, l, hf, hg => by
    simp only [rootF]
    by_cases h2 : 2 ≤ l.length
    · have hh := half_in h2
      rw [rootF_fuel f g (l.take (half l.length)) (by rw [List.length_take]; omega) (by rw [List.length_take]; omega), rootF_fuel f g (l.drop (half l.length)) (by rw [List.length_drop]; omega) (by rw [List.length_drop]; omega)]
    · by_cases h0 : l.length = 0
      · rw [show decide (l.length = 0) = true by simpa using h0]; simp only [cond_true]
      · rw [show decide (l.length = 1) = true by simp; omega]
        cases decide (l.length = 0) <;> simp only [cond_true, cond_false]
theorem root_nil {l : List W4} (h : l.length = 0) : root l = digW emptyB := by
  unfold root; rw [h]; simp only [rootF]
theorem root_one {l : List W4} {x : W4} (h : l.length = 1) (hx : l[0]? = some x) : root l = x := by
  cases l with
  | nil => cases h
  | cons y t =>
    have ht : t = [] := List.eq_nil_of_length_eq_zero (by simpa using h)
    subst ht
    simp only [List.getElem?_cons_zero, Option.some.injEq] at hx
    subst hx
    simp [root, rootF]
theorem root_two {l : List W4} (h : 2 ≤ l.length) : root l = pairW (root (l.take (half l.length))) (root (l.drop (half l.length))) := by
  have hh := half_in h
  unfold root
  obtain ⟨n, hn⟩ : ∃ n, l.length = n + 1 := ⟨l.length - 1, by omega⟩
  rw [rootF_fuel l.length (n + 1) l (Nat.le_refl _) (by omega)]
  simp only [rootF]
  rw [show decide (l.length = 0) = false by simp; intro e; rw [e] at h; simp at h, show decide (l.length = 1) = false by simp; omega]
  simp only [cond_false]
  rw [rootF_fuel n (l.take (half l.length)).length _ (by rw [List.length_take]; omega) (Nat.le_refl _), rootF_fuel n (l.drop (half l.length)).length _ (by rw [List.length_drop]; omega) (Nat.le_refl _)]
theorem wayF_fuel : ∀ (f g : Nat) (l : List W4) (i : Nat), l.length ≤ f → l.length ≤ g → 1 ≤ l.length → wayF f l i = wayF g l i
  | 0, _, l, i, hf, _, h1 => absurd h1 (by omega)
  | _ + 1, 0, l, i, _, hg, h1 => absurd h1 (by omega)
  | f + 1, g + 1, l, i, hf, hg, h1 => by
    simp only [wayF]
    by_cases h2 : 2 ≤ l.length
    · have hh := half_in h2
      rw [wayF_fuel f g (l.take (half l.length)) i (by rw [List.length_take]; omega) (by rw [List.length_take]; omega) (by rw [List.length_take]; omega), wayF_fuel f g (l.drop (half l.length)) (i - half l.length) (by rw [List.length_drop]; omega) (by rw [List.length_drop]; omega) (by rw [List.length_drop]; omega)]
    · rw [show decide (l.length = 1) = true by simp; omega]; rfl
theorem way_one {l : List W4} (h : l.length = 1) (i : Nat) : way l i = [] := by
  unfold way; rw [h]; simp only [wayF, h]; rfl
theorem way_lo {l : List W4} {i : Nat} (h : 2 ≤ l.length) (hi : i < half l.length) : way l i = way (l.take (half l.length)) i ++ [root (l.drop (half l.length))] := by
  have hh := half_in h
  obtain ⟨n, hn⟩ : ∃ n, l.length = n + 1 := ⟨l.length - 1, by omega⟩
  unfold way
  rw [wayF_fuel l.length (n + 1) l i (Nat.le_refl _) (by omega) (by omega)]
  simp only [wayF]
  rw [show decide (l.length = 1) = false by simp; omega, show decide (i < half l.length) = true by simpa using hi]
  simp only [cond_false, cond_true]
  rw [wayF_fuel n (l.take (half l.length)).length _ _ (by rw [List.length_take]; omega) (Nat.le_refl _) (by rw [List.length_take]; omega)]
theorem way_hi {l : List W4} {i : Nat} (h : 2 ≤ l.length) (hi : ¬ i < half l.length) : way l i = way (l.drop (half l.length)) (i - half l.length) ++ [root (l.take (half l.length))] := by
  have hh := half_in h
  obtain ⟨n, hn⟩ : ∃ n, l.length = n + 1 := ⟨l.length - 1, by omega⟩
  unfold way
  rw [wayF_fuel l.length (n + 1) l i (Nat.le_refl _) (by omega) (by omega)]
  simp only [wayF]
  rw [show decide (l.length = 1) = false by simp; omega, show decide (i < half l.length) = false by simpa using hi]
  simp only [cond_false]
  rw [wayF_fuel n (l.drop (half l.length)).length _ _ (by rw [List.length_drop]; omega) (Nat.le_refl _) (by rw [List.length_drop]; omega)]
theorem climbF_fuel : ∀ (f g : Nat) (r : Rest) (n i : Nat) (leaf : W4), n ≤ f → n ≤ g → 1 ≤ n → climbF f r n i leaf = climbF g r n i leaf
  | 0, _, _, n, _, _, hf, _, h1 => absurd h1 (by omega)
  | _ + 1, 0, _, n, _, _, _, hg, h1 => absurd h1 (by omega)
  | f + 1, g + 1, r, n, i, leaf, hf, hg, h1 => by
    simp only [climbF]
    by_cases h2 : 2 ≤ n
    · have hh := half_in h2
      rw [climbF_fuel f g r.last.2 (half n) i leaf (by omega) (by omega) hh.1, climbF_fuel f g r.last.2 (n - half n) (i - half n) leaf (by omega) (by omega) (by omega)]
    · rw [show decide (n = 1) = true by simp; omega]; simp only [cond_true]
theorem climb_one {r : Rest} {n i : Nat} {leaf : W4} (h : n = 1) : climb r n i leaf = (leaf, r) := by
  subst h; simp [climb, climbF]
theorem climb_lo {r : Rest} {n i : Nat} {leaf : W4} (h : 2 ≤ n) (hi : i < half n) : climb r n i leaf = (pairW (climb r.last.2 (half n) i leaf).1 r.last.1, (climb r.last.2 (half n) i leaf).2) := by
  have hh := half_in h
  obtain ⟨m, hm⟩ : ∃ m, n = m + 1 := ⟨n - 1, by omega⟩
  unfold climb
  rw [climbF_fuel n (m + 1) r n i leaf (Nat.le_refl _) (by omega) (by omega)]
  simp only [climbF]
  rw [show decide (n = 1) = false by simp; omega, show decide (i < half n) = true by simpa using hi]
  simp only [cond_false, cond_true]
  rw [climbF_fuel m (half n) r.last.2 (half n) i leaf (by omega) (Nat.le_refl _) hh.1]
theorem climb_hi {r : Rest} {n i : Nat} {leaf : W4} (h : 2 ≤ n) (hi : ¬ i < half n) : climb r n i leaf = (pairW r.last.1 (climb r.last.2 (n - half n) (i - half n) leaf).1, (climb r.last.2 (n - half n) (i - half n) leaf).2) := by
  have hh := half_in h
  obtain ⟨m, hm⟩ : ∃ m, n = m + 1 := ⟨n - 1, by omega⟩
  unfold climb
  rw [climbF_fuel n (m + 1) r n i leaf (Nat.le_refl _) (by omega) (by omega)]
  simp only [climbF]
  rw [show decide (n = 1) = false by simp; omega, show decide (i < half n) = false by simpa using hi]
  simp only [cond_false]
  rw [climbF_fuel m (n - half n) r.last.2 (n - half n) (i - half n) leaf (by omega) (Nat.le_refl _) (by omega)]
theorem last_snoc (q : List W4) (x : W4) (s : Bool) : (Rest.mk (q ++ [x]) s).last = (x, ⟨q, s⟩) := by
  unfold Rest.last
  rw [show decide ((q ++ [x]).length = 0) = false by simp]
  simp
theorem climb_way : ∀ (n : Nat) (l : List W4) (i : Nat) (x : W4) (q : List W4) (s : Bool), l.length ≤ n → l[i]? = some x → climb ⟨q ++ way l i, s⟩ l.length i x = (root l, ⟨q, s⟩)
  | 0, l, i, x, q, s, hn, hx => by
    have := (List.getElem?_eq_some_iff.1 hx).1
    omega
  | n + 1, l, i, x, q, s, hn, hx => by
    have hil := (List.getElem?_eq_some_iff.1 hx).1
    by_cases h2 : 2 ≤ l.length
    · have hh := half_in h2
      by_cases hi : i < half l.length
      · rw [way_lo h2 hi, climb_lo h2 hi, ← List.append_assoc, last_snoc]
        have hlt : (l.take (half l.length)).length = half l.length := by rw [List.length_take]; omega
        have ih := climb_way n (l.take (half l.length)) i x q s (by omega) (by rw [List.getElem?_take_of_lt hi]; exact hx)
        rw [hlt] at ih
        rw [ih, root_two h2]
      · rw [way_hi h2 hi, climb_hi h2 hi, ← List.append_assoc, last_snoc]
        have hlt : (l.drop (half l.length)).length = l.length - half l.length := by rw [List.length_drop]
        have ih := climb_way n (l.drop (half l.length)) (i - half l.length) x q s (by omega) (by rw [List.getElem?_drop, show half l.length + (i - half l.length) = i by omega]; exact hx)
        rw [hlt] at ih
        rw [ih, root_two h2]
    · have h1 : l.length = 1 := by omega
      have h0 : i = 0 := by omega
      subst h0
      rw [way_one h1, climb_one h1, List.append_nil, root_one h1 hx]
def digsL (l : List ByteArray) : List W4 := l.map digW
def findI (l : List W4) (d : W4) : Int := match l.findIdx? (fun x => decide (x = d)) with
  | some i => (i : Int)
  | none => -1
theorem findI_at {l : List W4} {d x : W4} {k : Nat} (hx : l[k]? = some x) (h : x = d) (hF : ∀ j, j < k → ∀ y, l[j]? = some y → y ≠ d) : findI l d = (k : Int) := by
  have hk := (List.getElem?_eq_some_iff.1 hx)
  have : l.findIdx? (fun x => decide (x = d)) = some k := by
    rw [List.findIdx?_eq_some_iff_getElem]
    refine ⟨hk.1, by rw [hk.2]; simpa using h, fun j hj => ?_⟩
    have := hF j hj _ (List.getElem?_eq_getElem (by have := hk.1; omega))
    simpa using this
  unfold findI; rw [this]
theorem findI_no {l : List W4} {d : W4} (hF : ∀ (j : Nat) (y : W4), l[j]? = some y → y ≠ d) : findI l d = -1 := by
  have : l.findIdx? (fun x => decide (x = d)) = none := by
    rw [List.findIdx?_eq_none_iff]
    intro x hx
    obtain ⟨j, hj⟩ := List.getElem?_of_mem hx
    simpa using hF j x hj
  unfold findI; rw [this]
theorem findI_cases (l : List W4) (d : W4) : (∃ k : Nat, l[k]? = some d ∧ findI l d = (k : Int)) ∨ (findI l d = -1 ∧ ∀ x ∈ l, x ≠ d) := by
  cases e : l.findIdx? (fun x => decide (x = d)) with
  | some k =>
    rw [List.findIdx?_eq_some_iff_getElem] at e
    obtain ⟨h1, h2, _⟩ := e
    have hx : l[k]? = some d := by
      rw [List.getElem?_eq_getElem h1]
      exact congrArg some (by simpa using h2)
    refine .inl ⟨k, hx, ?_⟩
    have : l.findIdx? (fun x => decide (x = d)) = some k := by
      rw [List.findIdx?_eq_some_iff_getElem]; exact ⟨h1, h2, by assumption⟩
    unfold findI; rw [this]
  | none =>
    refine .inr ⟨by unfold findI; rw [e], ?_⟩
    rw [List.findIdx?_eq_none_iff] at e
    exact fun x hx => by simpa using e x hx
def strsAV (l : List ByteArray) : AV := .lst false (l.map fun s => [.str s])
def storeAV (l : List ByteArray) : AV := .agg [strsAV l]
def addS (l : List ByteArray) (a : ByteArray) : List ByteArray × Int × Int :=
  bif decide (findI (digsL l) (digW a) ≥ 0) then (bif decide ((l[(findI (digsL l) (digW a)).toNat]?).getD emptyB ≠ a) then ([], 0, 8) else (l, findI (digsL l) (digW a), 0))
  else (l ++ [a], (l.length : Int), 0)
def fillS : List ByteArray → List ByteArray → List ByteArray × Bool
  | s, [] => (s, true)
  | s, a :: l => bif (addS s a).2.2 == 0 then fillS (addS s a).1 l else (s, false)
structure Stored (n : Nat) (l : List ByteArray) : Prop where
  len : l.length ≤ n
  each : ∀ z ∈ l, z.size ≤ 300
theorem addS_ok {n : Nat} {l : List ByteArray} {a : ByteArray} (h : Stored n l) (ha : a.size ≤ 300) : Stored (n + 1) (addS l a).1 := by
  unfold addS
  cases decide (findI (digsL l) (digW a) ≥ 0) with
  | false =>
    refine ⟨by simp [cond_false]; exact h.len, fun z hz => ?_⟩
    simp only [cond_false, List.mem_append, List.mem_singleton] at hz
    rcases hz with hz | rfl
    · exact h.each z hz
    · exact ha
  | true =>
    simp only [cond_true]
    cases decide ((l[(findI (digsL l) (digW a)).toNat]?).getD emptyB ≠ a) with
    | true => exact ⟨Nat.zero_le _, fun z hz => by simp at hz⟩
    | false => exact ⟨Nat.le_succ_of_le h.len, h.each⟩
def slA (b : Nat) (es : List (List AV)) : AV := jAV es.isEmpty b es
def slO (sz : Nat) (es : List (List AV)) : AObj := jObj es.isEmpty sz es
def vaA (b : Nat) (es : List (List AV)) : AV := bif es.isEmpty then .lst false [] else .ref b es.length 0 es.length
def vaO (es : List (List AV)) : AObj := bif es.isEmpty then .free else .row true 1 es
theorem snoc_ne {α : Type} (l : List α) (x : α) : (l ++ [x]).isEmpty = false := by cases l <;> rfl
theorem slA_avoid {k : Nat → Bool} {b : Nat} (es : List (List AV)) (h : k b = true) : (slA b es).avoid k = true := by unfold slA jAV; cases es.isEmpty <;> simp [AV.avoid, AV.flat, h]
theorem vaA_avoid {k : Nat → Bool} {b : Nat} (es : List (List AV)) (h : k b = true) : (vaA b es).avoid k = true := by unfold vaA; cases es.isEmpty <;> simp [AV.avoid, AV.flat, h]
theorem slO_avoid {k : Nat → Bool} (sz : Nat) (es : List (List AV)) : (slO sz es).avoid k = true := by unfold slO jObj; cases es.isEmpty <;> rfl
theorem vaO_avoid {k : Nat → Bool} (es : List (List AV)) : (vaO es).avoid k = true := by unfold vaO; cases es.isEmpty <;> rfl
section
variable {P : Program} {T : Nat → Option TyI} {o : Oper} {e : AEnv} {h : AHeap}
theorem o_append1J (hT : TOk P T) {t t' : TypeId} {x y : Operand} {i i' j : TyI} {u u' : Nat} {ex2 : Bool} {sz : Nat} {es : List (List AV)} {x0 : List AV} {b : Nat}
    (ho : o.op = .call { callee := .builtin .append, args := #[x, y], argTypes := #[t, t'] }) (hx : look e x = some (slA b es)) (hy : look e y = some (.lst ex2 [x0])) (hi : T t = some i) (hk : i.k = .slice u) (hj : T u = some j) (hi' : T t' = some i') (hk' : i'.k = .slice u')
    (hb : h b = some (slO sz es)) (hsz : sz = j.size) (hz : j.zero.length = j.size) (hp : 0 < j.size)
    (hu : ∀ cs ∈ es, cs.length = sz) (hpu : ∀ cs ∈ es, cs.all AV.isPure1 = true) (hu2 : x0.length = sz) (hpure : x0.all AV.isPure1 = true)
    (hby : (es.length + 1) * j.bytes ≤ 140737488355328) (hml : es.length + 1 ≤ maxLen) :
    OLoc P o e h [b] [(b, slO sz (es ++ [x0]))] (some (slA b (es ++ [x0]))) := by
  have := o_appendJ (f := es.isEmpty) hT b ho hx hy hi hk hj hi' hk' hb hsz hz hp hu hpu (by simpa using hu2) (by simpa using hpure) hby hml
  have e1 : (es.isEmpty && [x0].isEmpty) = (es ++ [x0]).isEmpty := by rw [snoc_ne]; simp
  rw [e1] at this
  exact this
end
theorem Ghost.weakRowF {n : Nat} {e : AEnv} {h : AHeap} (b : Nat) {sz : Nat} {es es' : List (List AV)} (hb : h b = some (.row false sz es)) (hl : es'.length = es.length)
    (hw : ∀ (i : Nat) (cs cs' : List AV), es[i]? = some cs → es'[i]? = some cs' → cs'.length = cs.length ∧ ∀ (j : Nat) (x y : AV), cs[j]? = some x → cs'[j]? = some y → (x.cell1 = true → y.cell1 = true) ∧ ∀ H ι v, Rel H ι x v → Rel H ι y v) : Ghost ⟨n, e, h⟩ ⟨n, e, hput h b (.row false sz es')⟩ := fun H ι a w hs => by
  obtain ⟨r, hr, ⟨r1, r2, r3, r4, r5, r6⟩, r7⟩ := hs.heap.obj b _ hb rfl
  have hlput : lput ι b r = ι := by
    funext c
    by_cases hc : c = b
    · subst hc; rw [lput_same, hr]
    · rw [lput_ne _ _ hc]
  have hget : ∀ (i : Nat) (cs' : List AV), es'[i]? = some cs' → ∃ cs, es[i]? = some cs := fun i cs' hi => by
    have : i < es'.length := (List.getElem?_eq_some_iff.1 hi).1
    exact ⟨es[i]'(by omega), List.getElem?_eq_getElem (by omega)⟩
  have := hs.heap.upd (o' := .row false sz es') (r' := r) (w' := w) hb rfl (.inr ⟨r, hr, rfl, .inl rfl⟩) (fun hsol => .inr ⟨r, hr, rfl, hsol, rfl⟩) (fun _ _ _ => rfl) (Nat.le_refl _) rfl rfl
    ⟨r1, r2, by rw [hl]; exact r3, by rw [hl]; exact r4, fun i cs' hi => by
      obtain ⟨cs, hc⟩ := hget i cs' hi
      rw [(hw i cs cs' hc hi).1]; exact r5 i cs hc, fun hsol => by
      obtain ⟨c, T, c1, c2, c3, c4⟩ := r6 hsol
      refine ⟨c, T, c1, c2, fun i cs' hi => ?_, ?_⟩
      · obtain ⟨cs, hc⟩ := hget i cs' hi
        rw [(hw i cs cs' hc hi).1]; exact r5 i cs hc
      rw [hlput]
      intro i cs' j y hi hj
      obtain ⟨cs, hc⟩ := hget i cs' hi
      obtain ⟨w1, w2⟩ := hw i cs cs' hc hi
      have hjlt : j < cs'.length := (List.getElem?_eq_some_iff.1 hj).1
      have hx : cs[j]? = some (cs[j]'(by omega)) := List.getElem?_eq_getElem (by omega)
      obtain ⟨v, v1, v2, v3⟩ := c4 i cs j _ hc hx
      obtain ⟨g1, g2⟩ := w2 j _ y hx hj
      exact ⟨v, v1, g2 _ _ _ v2, g1 v3⟩⟩
  rw [hlput] at this
  exact ⟨H, ι, ⟨hs.n, hs.d, hs.env, this.1⟩, this.2⟩
section
variable {P : Program} {T : Nat → Option TyI} {o : Oper} {e : AEnv} {h : AHeap}
theorem q_slice_take {α : Type} {l : List α} {f : α → List AV} (hT : TOk P T) {t : TypeId} {x y : Operand} {i j : TyI} {u : Nat} (m : Nat) (ho : o.op = .slice t x none (some y) none) (hx : look e x = some (.lst false (l.map f))) (ht : T t = some i) (hk : i.k = .slice u) (hj : T u = some j)
    (hm : look e y = some (.int .i64 (m : Int))) (hme : m ≤ l.length) (hu : ∀ cs ∈ l.map f, cs.length = j.size) : QLoc P o e h [] (.lst false ((l.take m).map f)) := by
  have := q_slice_lst (h := h) hT 0 m ho hx ht hk hj rfl ⟨_, hm⟩ (Nat.zero_le _) (by rw [List.length_map]; exact hme) hu
  rw [List.map_take]
  exact this
end
section
variable {P : Program} {T : Nat → Option TyI} {o : Oper} {e : AEnv} {h : AHeap}
end
def nth : List AObj → Nat → AObj
  | [], _ => .free
  | o :: _, 0 => o
  | _ :: L, n + 1 => nth L n
def LowAt (h : AHeap) (k : Nat → Bool) : Nat → List AObj → Prop
  | _, [] => True
  | i, o :: L => (h i = some o ∧ o.avoid k = true) ∧ LowAt h k (i + 1) L
theorem LowAt.get {h : AHeap} {k : Nat → Bool} : ∀ {L : List AObj} {i c : Nat}, LowAt h k i L → c < L.length → h (i + c) = some (nth L c) ∧ (nth L c).avoid k = true
  | [], _, _, _, hc => absurd hc (by simp)
  | o :: L, i, 0, hl, _ => hl.1
  | o :: L, i, c + 1, hl, hc => by
    have := LowAt.get (L := L) (i := i + 1) (c := c) hl.2 (by simpa using hc)
    rw [show i + (c + 1) = i + 1 + c by omega]
    exact this
def famW (f : Nat → Nat) (o : Nat → AObj) (n : Nat) : List (Nat × AObj) := (List.range n).map fun i => (f i, o i)
theorem famW_out {f : Nat → Nat} {o : Nat → AObj} {n b : Nat} (h : AHeap) (hb : ∀ i, i < n → b ≠ f i) : hputs h (famW f o n) b = h b := by
  refine hputs_not fun p hp => ?_
  unfold famW at hp
  simp only [List.mem_map, List.mem_range] at hp
  obtain ⟨i, hi, rfl⟩ := hp
  exact fun e => hb i hi e.symm
theorem mem_one (z : Nat) : mem [z] z = true := mem_iff.2 (by simp)
theorem o_callSee {P : Program} {o : Oper} {e : AEnv} {h : AHeap} {g : FuncId} {fn : Func} {args : Array Operand} {tys : Array TypeId} {xs : List AV} {r : AV} (z : Nat) {q : AObj}
    (ho : o.op = .call { callee := .value (.func g), args := args, argTypes := tys }) (hf : P.funcs[g]? = some fn) (hn : (fn.name == "runtime.NumGoroutine") = false) (hb : fn.body.isSome = true) (hx : lookAll e args.toList = some xs)
    (hxa : xs.all (AV.avoid (mem [z])) = true) (hz : h z = some q) (hq : q.avoid (mem [z]) = true) (hra : r.avoid (mem [z]) = true)
    (hcall : ACall P g xs (hput hNew z q) (fun r' h' => r' = r ∧ HSub (hput hNone z q) h')) : OLoc P o e h [z] [] (some r) :=
  o_call (hc := hput hNew z q) (hw := hput hNone z q) [z] [] ho hf hn hb hx hxa ⟨⟨q, hz, hq⟩, trivial⟩ rfl (hres_cons hz (hres_nil h)) ⟨⟨q, hput_same _ _ _, hz, hq⟩, trivial⟩ hra hcall
theorem o_callMod {P : Program} {o : Oper} {e : AEnv} {h : AHeap} {g : FuncId} {fn : Func} {args : Array Operand} {tys : Array TypeId} {xs : List AV} {r : AV} (z : Nat) {q q' : AObj}
    (ho : o.op = .call { callee := .value (.func g), args := args, argTypes := tys }) (hf : P.funcs[g]? = some fn) (hn : (fn.name == "runtime.NumGoroutine") = false) (hb : fn.body.isSome = true) (hx : lookAll e args.toList = some xs)
    (hxa : xs.all (AV.avoid (mem [z])) = true) (hz : h z = some q) (hq : q.avoid (mem [z]) = true) (hq' : q'.avoid (mem [z]) = true) (hra : r.avoid (mem [z]) = true)
    (hcall : ACall P g xs (hput hNew z q) (fun r' h' => r' = r ∧ HSub (hput hNone z q') h')) : OLoc P o e h [z] [(z, q')] (some r) :=
  o_call (hc := hput hNew z q) (hw := hput hNone z q') [z] [(z, q')] ho hf hn hb hx hxa ⟨⟨q, hz, hq⟩, trivial⟩ (by simp [mem_one]) (hres_cons hz (hres_nil h)) ⟨⟨q', hput_same _ _ _, hput_same _ _ _, hq'⟩, trivial⟩ hra hcall
theorem o_callFSee {P : Program} {o : Oper} {e : AEnv} {h : AHeap} {x : Operand} {g : FuncId} {fn : Func} {args : Array Operand} {tys : Array TypeId} {fs xs cs : List AV} {r : AV} (z : Nat) {q : AObj}
    (ho : o.op = .call { callee := .value x, args := args, argTypes := tys }) (hfn : look e x = some (.fn (.func g) fs cs)) (hf : P.funcs[g]? = some fn) (hn : (fn.name == "runtime.NumGoroutine") = false) (hb : fn.body.isSome = true) (hx : lookAll e args.toList = some xs)
    (hxa : (fs ++ xs ++ cs).all (AV.avoid (mem [z])) = true) (hz : h z = some q) (hq : q.avoid (mem [z]) = true) (hra : r.avoid (mem [z]) = true)
    (hcall : ACall P g (fs ++ xs ++ cs) (hput hNew z q) (fun r' h' => r' = r ∧ HSub (hput hNone z q) h')) : OLoc P o e h [z] [] (some r) :=
  o_callF (hc := hput hNew z q) (hw := hput hNone z q) [z] [] ho hfn hf hn hb hx hxa ⟨⟨q, hz, hq⟩, trivial⟩ rfl (hres_cons hz (hres_nil h)) ⟨⟨q, hput_same _ _ _, hz, hq⟩, trivial⟩ hra hcall
theorem o_callRow {P : Program} {o : Oper} {e : AEnv} {h : AHeap} {g : FuncId} {fn : Func} {args : Array Operand} {tys : Array TypeId} {xs : List AV} {r : AV} (z : Nat) {q : AObj}
    (ho : o.op = .call { callee := .value (.func g), args := args, argTypes := tys }) (hf : P.funcs[g]? = some fn) (hn : (fn.name == "runtime.NumGoroutine") = false) (hb : fn.body.isSome = true) (hx : lookAll e args.toList = some xs)
    (hxa : xs.all (AV.avoid (mem [z])) = true) (hz : h z = some .free) (hq : q.avoid (mem [z]) = true) (hra : r.avoid (mem [z]) = true)
    (hcall : ACall P g xs hNew (fun r' h' => r' = r ∧ HSub (hput hNone z q) h')) : OLoc P o e h [z] [(z, q)] (some r) :=
  o_call (hc := hput hNew z .free) (hw := hput hNone z q) [z] [(z, q)] ho hf hn hb hx hxa ⟨⟨.free, hz, rfl⟩, trivial⟩ (by simp [mem_one]) (hres_cons hz (hres_nil h)) ⟨⟨q, hput_same _ _ _, hput_same _ _ _, hq⟩, trivial⟩ hra
    (by rw [show hput hNew z .free = hNew from funext fun c => by by_cases hc : c = z; · subst hc; rw [hput_same]; rfl
                                                                  · rw [hput_ne _ _ hc]]; exact hcall)
section
variable {P : Program} {T : Nat → Option TyI} {o : Oper} {e : AEnv} {h : AHeap}
theorem q_slice_drop {α : Type} {l : List α} {f : α → List AV} (hT : TOk P T) {t : TypeId} {x y : Operand} {i j : TyI} {u : Nat} (m : Nat) (ho : o.op = .slice t x (some y) none none) (hx : look e x = some (.lst false (l.map f))) (ht : T t = some i) (hk : i.k = .slice u) (hj : T u = some j)
    (hm : look e y = some (.int .i64 (m : Int))) (hme : m ≤ l.length) (hu : ∀ cs ∈ l.map f, cs.length = j.size) : QLoc P o e h [] (.lst false ((l.drop m).map f)) := by
  have := q_slice_lst (h := h) hT m (l.map f).length ho hx ht hk hj ⟨_, hm⟩ rfl (by rw [List.length_map]; exact hme) (Nat.le_refl _) hu
  rw [List.map_drop]
  rw [List.take_length] at this
  exact this
theorem QLoc.weakM {R : List Nat} {x y : AV} (h0 : QLoc P o e h R x) (hxy : ∀ H ι v, Rel H ι x v → Rel H ι y v) : QLoc P o e h R y := fun H ι a w s hs g1 g2 => by
  obtain ⟨v, h1, h2⟩ := h0 H ι a w s hs g1 g2
  exact ⟨v, hxy _ _ _ h1, h2⟩
end
abbrev digsAV (l : List W4) : AV := .lst false (l.map W4.cells)
theorem w4_len (l : List W4) : ∀ cs ∈ l.map W4.cells, cs.length = 4 := fun cs h => by
  obtain ⟨x, _, rfl⟩ := List.mem_map.1 h; rfl
theorem w4_pure (l : List W4) : ∀ cs ∈ l.map W4.cells, cs.all AV.isPure1 = true := fun cs h => by
  obtain ⟨x, _, rfl⟩ := List.mem_map.1 h; rfl
theorem w4_at {l : List W4} {i : Nat} {x : W4} (h : l[i]? = some x) : (l.map W4.cells)[((i : Nat) : Int).toNat]? = some x.cells := by
  show (l.map W4.cells)[i]? = _
  rw [List.getElem?_map, h]; rfl
theorem str_at {l : List ByteArray} {i : Nat} {x : ByteArray} (h : l[i]? = some x) : (l.map fun s => [AV.str s])[((i : Nat) : Int).toNat]? = some [AV.str x] := by
  show (l.map fun s => [AV.str s])[i]? = _
  rw [List.getElem?_map, h]; rfl
theorem w4_snoc {l : List W4} {k : Nat} {x : W4} (h : l[k]? = some x) : (l.take k).map W4.cells ++ [x.cells] = (l.take (k + 1)).map W4.cells := by
  rw [take_succ_eq h, List.map_append]; rfl
theorem w4_app (l : List W4) (x : W4) : l.map W4.cells ++ [x.cells] = (l ++ [x]).map W4.cells := by rw [List.map_append]; rfl
theorem way_len : ∀ (n : Nat) (l : List W4) (i : Nat), l.length ≤ n → (way l i).length ≤ l.length
  | n, l, i, hn => by
    rcases Nat.lt_or_ge l.length 2 with h | h
    · by_cases h1 : l.length = 1
      · rw [way_one h1]; exact Nat.zero_le _
      · have : l = [] := List.length_eq_zero_iff.1 (by omega)
        subst this; exact Nat.le_refl _
    · have hh := half_in h
      cases n with
      | zero => omega
      | succ n =>
        by_cases hi : i < half l.length
        · rw [way_lo h hi, List.length_append]
          have := way_len n (l.take (half l.length)) i (by rw [List.length_take]; omega)
          rw [List.length_take] at this
          show _ + 1 ≤ _; omega
        · rw [way_hi h hi, List.length_append]
          have := way_len n (l.drop (half l.length)) (i - half l.length) (by rw [List.length_drop]; omega)
          rw [List.length_drop] at this
          show _ + 1 ≤ _; omega
abbrev restC (r : Rest) : List AV := [digsAV r.l, .bool r.short]
theorem last_len (r : Rest) : r.last.2.l.length ≤ r.l.length := by
  unfold Rest.last
  cases decide (r.l.length = 0) with
  | true => exact Nat.le_refl _
  | false => show r.l.dropLast.length ≤ _; rw [List.length_dropLast]; omega
theorem last_nil {r : Rest} (h : r.l.length = 0) : r.last = (⟨0, 0, 0, 0⟩, { r with short := true }) := by unfold Rest.last; rw [decide_eq_true h]; rfl
theorem last_cons {r : Rest} {x : W4} (h : ¬ r.l.length = 0) (hx : r.l[r.l.length - 1]? = some x) : r.last = (x, { r with l := r.l.take (r.l.length - 1) }) := by
  unfold Rest.last
  rw [decide_eq_false h]
  show (r.l.getLast?.getD _, _) = _
  rw [List.getLast?_eq_getElem?, hx, List.dropLast_eq_take]
  rfl
theorem nil_sl (b : Nat) : ∀ H ι v, Rel H ι .nil v → Rel H ι (slA b []) v := fun H ι v h => by
  rw [h.nil_inv]; exact .lst0 _ _ _ _ (fun _ => rfl) (Nat.zero_le _) (fun _ => rfl) trivial
theorem nil_ls : ∀ H ι v, Rel H ι .nil v → Rel H ι (.lst false []) v := fun H ι v h => nil_empty h
def getS (l : List ByteArray) (d : W4) : ByteArray × Int := if 0 ≤ findI (digsL l) d then ((l[(findI (digsL l) d).toNat]?).getD emptyB, 0) else (emptyB, 6)
def pI (l : List ByteArray) (d : W4) : Int := if 0 ≤ findI (digsL l) d then findI (digsL l) d else 0
def pP (l : List ByteArray) (d : W4) : AV := if 0 ≤ findI (digsL l) d then digsAV (way (digsL l) (findI (digsL l) d).toNat) else .nil
def pE (l : List ByteArray) (d : W4) : Int := if 0 ≤ findI (digsL l) d then 0 else 6
def proveS (l : List ByteArray) (d : W4) : AV := .tup [.int .i64 (pI l d), pP l d, .int .i64 (pE l d)]
def headC (l : List ByteArray) : List AV := .int .i64 (l.length : Int) :: (root (digsL l)).cells
def textsB (l : List ByteArray) : Bool := (l.take 13).all (fun s => decide (s.size ≤ 300)) && decide (l.length ≤ 12)
theorem digsL_get {l : List ByteArray} {k : Nat} {z : ByteArray} (h : l[k]? = some z) : (digsL l)[k]? = some (digW z) := by unfold digsL; rw [List.getElem?_map, h]; rfl
theorem digsL_len (l : List ByteArray) : (digsL l).length = l.length := List.length_map _
theorem find_in {l : List ByteArray} {d : W4} (h : 0 ≤ findI (digsL l) d) : ∃ k z, findI (digsL l) d = ((k : Nat) : Int) ∧ l[k]? = some z ∧ digW z = d ∧ (digsL l)[k]? = some d ∧ k < l.length := by
  rcases findI_cases (digsL l) d with ⟨k, h1, h2⟩ | ⟨h1, _⟩
  · have hk : k < l.length := by have := (List.getElem?_eq_some_iff.1 h1).1; rwa [digsL_len] at this
    obtain ⟨z, hz⟩ := get_of_lt hk
    have := digsL_get hz
    rw [h1] at this
    exact ⟨k, z, h2, hz, (Option.some.inj this).symm, h1, hk⟩
  · omega
theorem find_none {l : List ByteArray} {d : W4} (h : ¬ 0 ≤ findI (digsL l) d) {k : Nat} {z : ByteArray} (hz : l[k]? = some z) : digW z ≠ d := by
  rcases findI_cases (digsL l) d with ⟨k', h1, h2⟩ | ⟨_, h2⟩
  · omega
  · exact h2 _ (List.mem_of_getElem? (digsL_get hz))
theorem climb_all {l : List W4} {i : Nat} {x : W4} (h : l[i]? = some x) : climb ⟨way l i, false⟩ l.length i x = (root l, ⟨[], false⟩) := by
  have := climb_way l.length l i x [] false (Nat.le_refl _) h
  rwa [List.nil_append] at this
theorem agg_nil1 {H : Know} {ι : Lay} {v : Value} (h : Rel H ι (.agg [.nil]) v) : Rel H ι (storeAV []) v := by
  obtain ⟨us, rfl, hl, hr⟩ := h.agg_inv
  refine .agg _ _ _ (by simpa using hl) fun j x u h1 h2 => ?_
  match j with
  | 0 => have h1 : some (AV.lst false []) = some x := h1
         cases h1; exact nil_empty (hr 0 .nil u rfl h2)
  | j + 1 => simp at h1
theorem str_len (l : List ByteArray) : ∀ cs ∈ l.map (fun s => [AV.str s]), cs.length = 1 := fun cs h => by
  obtain ⟨x, _, rfl⟩ := List.mem_map.1 h; rfl
theorem str_pure (l : List ByteArray) : ∀ cs ∈ l.map (fun s => [AV.str s]), cs.all AV.isPure1 = true := fun cs h => by
  obtain ⟨x, _, rfl⟩ := List.mem_map.1 h; rfl
theorem str_app (l : List ByteArray) (a : ByteArray) : l.map (fun s => [AV.str s]) ++ [[AV.str a]] = (l ++ [a]).map (fun s => [AV.str s]) := by rw [List.map_append]; rfl
theorem addS_bad {l : List ByteArray} {a z : ByteArray} {k : Nat} (hn : 0 ≤ findI (digsL l) (digW a)) (hk : findI (digsL l) (digW a) = (k : Int)) (hz : l[k]? = some z) (h : z ≠ a) : addS l a = ([], 0, 8) := by
  unfold addS
  rw [decide_eq_true hn, cond_true, hk, Int.toNat_natCast, hz, decide_eq_true (show (some z).getD emptyB ≠ a from h)]; rfl
theorem addS_old {l : List ByteArray} {a z : ByteArray} {k : Nat} (hn : 0 ≤ findI (digsL l) (digW a)) (hk : findI (digsL l) (digW a) = (k : Int)) (hz : l[k]? = some z) (h : z = a) : addS l a = (l, (k : Int), 0) := by
  unfold addS
  rw [decide_eq_true hn, cond_true, hk, Int.toNat_natCast, hz, decide_eq_false (show ¬ (some z).getD emptyB ≠ a from fun e => e h)]; rfl
theorem addS_new {l : List ByteArray} {a : ByteArray} (hn : ¬ 0 ≤ findI (digsL l) (digW a)) : addS l a = (l ++ [a], (l.length : Int), 0) := by
  unfold addS
  rw [decide_eq_false hn]; rfl
theorem weak_str : ∀ (i : Nat) (ds ds' : List AV), [[AV.nil]][i]? = some ds → [[AV.lst false []]][i]? = some ds' → ds'.length = ds.length ∧ ∀ (j : Nat) (a c : AV), ds[j]? = some a → ds'[j]? = some c → (a.cell1 = true → c.cell1 = true) ∧ ∀ H ι v, Rel H ι a v → Rel H ι c v := fun i ds ds' h1 h2 => by
  cases i with
  | succ i => simp at h1
  | zero =>
    cases h1; cases h2
    refine ⟨rfl, fun j a c g1 g2 => ?_⟩
    match j, g1, g2 with
    | 0, g1, g2 => cases g1; cases g2; exact ⟨fun _ => rfl, nil_ls⟩
    | j + 1, g1, g2 => simp at g1
theorem drop_cons' {l : List ByteArray} {k : Nat} {z : ByteArray} (h : l[k]? = some z) : l.drop k = z :: l.drop (k + 1) := by
  rw [List.drop_eq_getElem_cons (List.getElem?_eq_some_iff.1 h).1, (List.getElem?_eq_some_iff.1 h).2]
theorem fill_go {l s : List ByteArray} {k : Nat} {z : ByteArray} (hz : l[k]? = some z) (he : (addS s z).2.2 = 0) : fillS s (l.drop k) = fillS (addS s z).1 (l.drop (k + 1)) := by
  rw [drop_cons' hz, fillS, he]; rfl
theorem fill_bad {l s : List ByteArray} {k : Nat} {z : ByteArray} (hz : l[k]? = some z) (he : (addS s z).2.2 ≠ 0) : fillS s (l.drop k) = (s, false) := by
  have e : ((addS s z).2.2 == 0) = false := by simpa using he
  rw [drop_cons' hz, fillS, e]; rfl
theorem fill_end {l s : List ByteArray} {k : Nat} (h : l.length ≤ k) : fillS s (l.drop k) = (s, true) := by
  rw [List.drop_eq_nil_iff.2 h, fillS]
theorem text_next {l : List ByteArray} {k : Nat} {z : ByteArray} (hz : l[k]? = some z) (h : (l.take k).all (fun s => decide (s.size ≤ 300)) = true) (hs : z.size ≤ 300) : (l.take (k + 1)).all (fun s => decide (s.size ≤ 300)) = true := by
  rw [take_succ_eq hz, List.all_append, h]; simp [hs]
theorem text_bad {l : List ByteArray} {k : Nat} {z : ByteArray} (hz : l[k]? = some z) (hk : k < 13) (hs : ¬ z.size ≤ 300) : textsB l = false := by
  unfold textsB
  have : (l.take 13).all (fun s => decide (s.size ≤ 300)) = false := by
    rw [List.all_eq_false]
    refine ⟨z, List.mem_of_getElem? (i := k) ?_, by simpa using hs⟩
    rw [List.getElem?_take, if_pos hk]; exact hz
  rw [this]; rfl
theorem text_end {l : List ByteArray} {k : Nat} (hk : k ≤ 13) (h : (l.take k).all (fun s => decide (s.size ≤ 300)) = true) (he : l.length ≤ k ∨ 13 ≤ k) : textsB l = decide (l.length ≤ 12) := by
  unfold textsB
  have : l.take 13 = l.take k := by
    rcases he with he | he
    · rw [List.take_of_length_le he, List.take_of_length_le (by omega)]
    · rw [show k = 13 by omega]
  rw [this, h]; rfl
theorem texts_true {l : List ByteArray} (h : textsB l = true) : l.length ≤ 12 ∧ ∀ z ∈ l, z.size ≤ 300 := by
  unfold textsB at h
  rw [Bool.and_eq_true, decide_eq_true_eq, List.all_eq_true] at h
  refine ⟨h.2, fun z hz => ?_⟩
  rw [List.take_of_length_le (by omega)] at h
  simpa using h.1 z hz
theorem fill_stored : ∀ (l s : List ByteArray) (n : Nat), Stored n s → (∀ z ∈ l, z.size ≤ 300) → Stored (n + l.length) (fillS s l).1
  | [], s, n, h, _ => by rw [fillS]; exact h
  | a :: l, s, n, h, hs => by
    rw [fillS]
    cases (addS s a).2.2 == 0 with
    | true =>
      have := fill_stored l (addS s a).1 (n + 1) (addS_ok h (hs a (List.mem_cons.2 (.inl rfl)))) (fun z hz => hs z (List.mem_cons.2 (.inr hz)))
      rw [List.length_cons]
      simp only [cond_true]
      rw [show n + (l.length + 1) = n + 1 + l.length by omega]
      exact this
    | false => exact ⟨by have := h.len; simp only [cond_false]; omega, h.each⟩
theorem str_eqT {a b : ByteArray} (h : (a.toList == b.toList) = true) : a = b := str_eq (by rw [h]; rfl)
theorem get_no {l : List ByteArray} {d : W4} (h : ¬ 0 ≤ findI (digsL l) d) : getS l d = (emptyB, 6) := by unfold getS; rw [if_neg h]
theorem get_yes {l : List ByteArray} {d : W4} {k : Nat} {z : ByteArray} (h : 0 ≤ findI (digsL l) d) (hk : findI (digsL l) d = (k : Int)) (hz : l[k]? = some z) : getS l d = (z, 0) := by unfold getS; rw [if_pos h, hk, Int.toNat_natCast, hz]; rfl
theorem pE_no {l : List ByteArray} {d : W4} (h : ¬ 0 ≤ findI (digsL l) d) : pE l d = 6 := if_neg h
theorem pE_yes {l : List ByteArray} {d : W4} (h : 0 ≤ findI (digsL l) d) : pE l d = 0 := if_pos h
theorem pI_yes {l : List ByteArray} {d : W4} {k : Nat} (h : 0 ≤ findI (digsL l) d) (hk : findI (digsL l) d = (k : Int)) : pI l d = (k : Int) := by unfold pI; rw [if_pos h, hk]
theorem pP_yes {l : List ByteArray} {d : W4} {k : Nat} (h : 0 ≤ findI (digsL l) d) (hk : findI (digsL l) d = (k : Int)) : pP l d = digsAV (way (digsL l) k) := by unfold pP; rw [if_pos h, hk]; rfl
variable {P : Program} {T : Nat → Option TyI} {ops : Array Oper} {rest : List Oper} {n : Nat} {e : AEnv} {h : AHeap} {o : Oper} {K : AState → Prop} {acc : List (List Nat × List Nat)} {R : List Nat} {W : List (Nat × AObj)} {r p : AV}
theorem aq (d : Nat) (hq : QLoc P o e h R r) (hr : AOps P ops rest ⟨n, eput e d r, h⟩ K) (hd : o.dst = some d := by exact rfl) (hb : Nat.blt d n = true := by exact rfl) (hg : guardIs ops o e = some true := by exact rfl) : AOps P ops (o :: rest) ⟨n, e, h⟩ K := AOps.s d hd hb hg hq hr
theorem ax (d : Nat) (hq : OLoc P o e h R W (some r)) (hr : AOps P ops rest ⟨n, eput e d r, (hputs h W)⟩ K) (hd : o.dst = some d := by exact rfl) (hb : Nat.blt d n = true := by exact rfl) (hg : guardIs ops o e = some true := by exact rfl) : AOps P ops (o :: rest) ⟨n, e, h⟩ K := AOps.x d hd hb hg hq hr
theorem ak (d : Nat) (hr : AOps P ops rest ⟨n, eput e d (.tup []), h⟩ K) (hd : o.dst = some d := by exact rfl) (hb : Nat.blt d n = true := by exact rfl) (hg : guardIs ops o e = some false := by exact rfl) : AOps P ops (o :: rest) ⟨n, e, h⟩ K := AOps.k d hd hb hg hr
theorem am (d : Nat) {x : Operand} (hr : AOps P ops rest ⟨n, eput e d r, h⟩ K) (hd : o.dst = some d := by exact rfl) (hb : Nat.blt d n = true := by exact rfl) (hg : guardIs ops o e = some true := by exact rfl) (ho : o.op = .move x := by exact rfl) (hx : look e x = some r := by exact rfl) : AOps P ops (o :: rest) ⟨n, e, h⟩ K := AOps.s d hd hb hg (q_move (.inl ho) hx) hr
theorem aa (d : Nat) {x : Operand} (hr : AOps P ops rest ⟨n, eput e d r, h⟩ K) (hd : o.dst = some d := by exact rfl) (hb : Nat.blt d n = true := by exact rfl) (hg : guardIs ops o e = some true := by exact rfl) (ho : o.op = .assign x := by exact rfl) (hx : look e x = some r := by exact rfl) : AOps P ops (o :: rest) ⟨n, e, h⟩ K := AOps.s d hd hb hg (q_move (.inr ho) hx) hr
theorem al (d : Nat) {t : TypeId} {x : Operand} {i : TyI} {cs : List AV} (hT : TOk P T) (hr : AOps P ops rest ⟨n, eput e d r, h⟩ K) (hd : o.dst = some d := by exact rfl) (hb : Nat.blt d n = true := by exact rfl) (hg : guardIs ops o e = some true := by exact rfl) (ho : o.op = .load t x := by exact rfl) (hx : look e x = some p := by exact rfl) (hi : T t = some i := by exact rfl) (hp : PtsTo h p R cs := by first | exact .loc _ | exact .ptr _ _ _ _ _ _ _ _ rfl rfl rfl) (hl : loadAV i cs = some r := by exact rfl) : AOps P ops (o :: rest) ⟨n, e, h⟩ K := AOps.s d hd hb hg (q_load hT ho hx hi hp hl) hr
theorem af (d : Nat) {t : TypeId} {x : Operand} {f off u : Nat} {i : TyI} {fs : List (Nat × Nat)} (hT : TOk P T) (hr : AOps P ops rest ⟨n, eput e d r, h⟩ K) (hd : o.dst = some d := by exact rfl) (hb : Nat.blt d n = true := by exact rfl) (hg : guardIs ops o e = some true := by exact rfl) (ho : o.op = .fieldAddr t x f := by exact rfl) (hx : look e x = some p := by exact rfl) (hi : T t = some i := by exact rfl) (hk : i.k = .struct fs := by exact rfl) (hf : fs[f]? = some (off, u) := by exact rfl) (hm : moveAV p off = some r := by exact rfl) : AOps P ops (o :: rest) ⟨n, e, h⟩ K := AOps.s d hd hb hg (q_fieldAddr hT ho hx hi hk hf hm) hr
theorem dq (d : Nat) (hq : QLoc P o e h R r) (hr : DOps P ops n rest (eput e d r) h (acc ++ [(R, [])]) K) (hd : o.dst = some d := by exact rfl) (hb : Nat.blt d n = true := by exact rfl) (hg : guardIs ops o e = some true := by exact rfl) : DOps P ops n (o :: rest) e h acc K := DOps.s d hd hb hg hq hr
theorem dx (d : Nat) (hq : OLoc P o e h R W (some r)) (hr : DOps P ops n rest (eput e d r) (hputs h W) (acc ++ [(R, W.map (·.1))]) K) (hd : o.dst = some d := by exact rfl) (hb : Nat.blt d n = true := by exact rfl) (hg : guardIs ops o e = some true := by exact rfl) : DOps P ops n (o :: rest) e h acc K := DOps.x d hd hb hg hq hr
theorem dm (d : Nat) {x : Operand} (hr : DOps P ops n rest (eput e d r) h (acc ++ [([], [])]) K) (hd : o.dst = some d := by exact rfl) (hb : Nat.blt d n = true := by exact rfl) (hg : guardIs ops o e = some true := by exact rfl) (ho : o.op = .move x := by exact rfl) (hx : look e x = some r := by exact rfl) : DOps P ops n (o :: rest) e h acc K := DOps.s d hd hb hg (q_move (.inl ho) hx) hr
theorem da (d : Nat) {x : Operand} (hr : DOps P ops n rest (eput e d r) h (acc ++ [([], [])]) K) (hd : o.dst = some d := by exact rfl) (hb : Nat.blt d n = true := by exact rfl) (hg : guardIs ops o e = some true := by exact rfl) (ho : o.op = .assign x := by exact rfl) (hx : look e x = some r := by exact rfl) : DOps P ops n (o :: rest) e h acc K := DOps.s d hd hb hg (q_move (.inr ho) hx) hr
theorem dl (d : Nat) {t : TypeId} {x : Operand} {i : TyI} {cs : List AV} (hT : TOk P T) (hr : DOps P ops n rest (eput e d r) h (acc ++ [(R, [])]) K) (hd : o.dst = some d := by exact rfl) (hb : Nat.blt d n = true := by exact rfl) (hg : guardIs ops o e = some true := by exact rfl) (ho : o.op = .load t x := by exact rfl) (hx : look e x = some p := by exact rfl) (hi : T t = some i := by exact rfl) (hp : PtsTo h p R cs := by first | exact .loc _ | exact .ptr _ _ _ _ _ _ _ _ rfl rfl rfl) (hl : loadAV i cs = some r := by exact rfl) : DOps P ops n (o :: rest) e h acc K := DOps.s d hd hb hg (q_load hT ho hx hi hp hl) hr
theorem df (d : Nat) {t : TypeId} {x : Operand} {f off u : Nat} {i : TyI} {fs : List (Nat × Nat)} (hT : TOk P T) (hr : DOps P ops n rest (eput e d r) h (acc ++ [([], [])]) K) (hd : o.dst = some d := by exact rfl) (hb : Nat.blt d n = true := by exact rfl) (hg : guardIs ops o e = some true := by exact rfl) (ho : o.op = .fieldAddr t x f := by exact rfl) (hx : look e x = some p := by exact rfl) (hi : T t = some i := by exact rfl) (hk : i.k = .struct fs := by exact rfl) (hf : fs[f]? = some (off, u) := by exact rfl) (hm : moveAV p off = some r := by exact rfl) : DOps P ops n (o :: rest) e h acc K := DOps.s d hd hb hg (q_fieldAddr hT ho hx hi hk hf hm) hr
theorem an {s : AState} (h : K s) : AOps P ops [] s K := AOps.nil h
theorem asr {id : Nat} {os : Array Oper} {c : Code} {s : AState} {Q : Exit → AState → Prop} (h : AOps P os os.toList s (fun s' => AGo P c s' Q)) : AGo P (.seq (.region id os false) c) s Q := AGo.seq (AGo.region h)
theorem act {t : Nat} {x y : Code} {s : AState} {Q : Exit → AState → Prop} (h : AGo P x s Q) (he : s.env t = some (.bool true) := by exact rfl) : AGo P (.cond (.tmp t) x y) s Q := AGo.cond_true true he rfl h
theorem acf {t : Nat} {x y : Code} {s : AState} {Q : Exit → AState → Prop} (h : AGo P y s Q) (he : s.env t = some (.bool false) := by exact rfl) : AGo P (.cond (.tmp t) x y) s Q := AGo.cond_false false he rfl h
theorem apf {d : Nat} {c x y : Operand} (hr : AOps P ops rest ⟨n, eput e d p, h⟩ K) (hd : o.dst = some d := by exact rfl) (hb : Nat.blt d n = true := by exact rfl) (hg : guardIs ops o e = some true := by exact rfl) (ho : o.op = .pick c x y := by exact rfl) (hc : look e c = some (.bool false) := by exact rfl) (hx : look e y = some p := by exact rfl) : AOps P ops (o :: rest) ⟨n, e, h⟩ K := AOps.s d hd hb hg (q_pick_false false ho hc rfl hx) hr
theorem apt {d : Nat} {c x y : Operand} (hr : AOps P ops rest ⟨n, eput e d p, h⟩ K) (hd : o.dst = some d := by exact rfl) (hb : Nat.blt d n = true := by exact rfl) (hg : guardIs ops o e = some true := by exact rfl) (ho : o.op = .pick c x y := by exact rfl) (hc : look e c = some (.bool true) := by exact rfl) (hx : look e x = some p := by exact rfl) : AOps P ops (o :: rest) ⟨n, e, h⟩ K := AOps.s d hd hb hg (q_pick_true true ho hc rfl hx) hr
theorem aqb {d : Nat} {op : BinOp} {t t' : TypeId} {x y : Operand} {q : AV} (hr : AOps P ops rest ⟨n, eput e d r, h⟩ K) (hd : o.dst = some d := by exact rfl) (hb : Nat.blt d n = true := by exact rfl) (hg : guardIs ops o e = some true := by exact rfl) (ho : o.op = .binOp op t x y t' := by exact rfl) (hx : look e x = some p := by exact rfl) (hy : look e y = some q := by exact rfl) (hv : evalBin op p q = some r := by exact rfl) : AOps P ops (o :: rest) ⟨n, e, h⟩ K := AOps.s d hd hb hg (q_bin ho hx hy hv) hr
end Go.Proofs.YtcggeonbbpfmdaaDoor.Sv

namespace Go.Proofs.YtcggeonbbpfmdaaDoor.Sv
open Go
set_option maxRecDepth 100000 in
theorem wbytes_ok (l : List Int) (hl : ∀ x ∈ l, isW x) (hn : l.length ≤ 1000) : APure Tryd.prog 14 [wordsAV l] (fun r => r = .str ⟨(l.flatMap leBytes).toArray⟩) := by
 have hfl : ∀ k, ((l.take k).flatMap leBytes).length = 4 * (l.take k).length := fun k => flat_len leBytes_len _
 refine APure.of_body (n := 33) tok Tryd.func14 rfl rfl ?_
 refine asr ?_
 refine aa 2 ?_
 refine an ?_
 refine asr ?_
 refine am 6 ?_
 refine aq 7 (q_len tok rfl rfl rfl rfl rfl) ?_
 refine aq 8 (q_bin (r := .int .i64 ((4 * l.length : Nat) : Int)) rfl rfl rfl (by rw [List.length_map]; exact mulI (by omega) (by omega) (by omega))) ?_
 refine ax 9 (o_makeSlice tok (n := 0) (m := 4 * l.length) 0 true rfl rfl rfl (rfl) (rfl) rfl rfl rfl rfl rfl (Nat.zero_lt_succ _) rfl (Nat.zero_le _) (by show 1 * (4 * l.length) ≤ _; omega) (by simp only [maxLen]; omega)) ?_
 refine aa 3 ?_
 refine an ?_
 refine AGo.seq ?_
 refine asr ?_
 refine am 10 ?_
 refine aq 11 (q_len tok rfl rfl rfl rfl rfl) ?_
 refine am 12 ?_
 refine an ?_
 refine AGo.block ?_
 refine AGo.loopD (γ := Nat) 1 (fun k => ⟨33, (eput (eput (eput (eput (eput eNew 0 (wordsAV l)) 3 (.ref 0 (4 * k) 0 (4 * k))) 10 (wordsAV l)) 11 (.int .i64 (l.length : Int))) 12 (.int .i64 (k : Int))), (hput (hFrom 1) 0 (.row true 1 (byteCells ((l.take k).flatMap leBytes))))⟩) (fun k => k ≤ l.length) (fun k => l.length - k) 0 (Sub.mk' (by repeat (first | exact ESub.new _ | refine ESub.put ?_ (by first | rfl | exact congrArg (fun (n : Nat) => some (AV.int .i64 (n : Int))) (by simp)))) z0q) (Nat.zero_le _) (fun _ => hput_free (fun b hb => hFrom_free hb) rfl) ?_
 intro k hk
 refine asr ?_
 refine aqb ?_
 refine an ?_
 refine AGo.seq ?_
 refine AGo.split 13 rfl (fun hb1 => ?_) (fun hb1 => ?_)
 ·
  refine act ?_
  have hkl : k < l.length := by simpa using hb1
  obtain ⟨x, hx⟩ := get_of_lt hkl
  have hxw := hl x (List.mem_of_getElem? hx)
  refine AGo.skip ?_
  refine AGo.seq ?_
  refine AGo.block ?_
  refine asr ?_
  refine aq 14 (q_index_lst tok rfl rfl rfl rfl rfl rfl (Int.natCast_nonneg _) (idx_map (by assumption)) rfl) ?_
  refine al 15 tok ?_
  refine aa 5 ?_
  refine an ?_
  refine AGo.region ?_
  refine am 16 ?_
  refine am 17 ?_
  refine aq 18 (q_cvt tok rfl rfl rfl rfl rfl (wrap_byteZ hxw.1)) ?_
  refine am 19 ?_
  refine aq 20 (q_bin (r := .int .u32 (shrW x 8)) rfl rfl rfl (shrBin (by decide))) ?_
  refine aq 21 (q_cvt tok rfl rfl rfl rfl rfl (wrap_byteZ (shrW_nonneg hxw.1))) ?_
  refine am 22 ?_
  refine aq 23 (q_bin (r := .int .u32 (shrW x 16)) rfl rfl rfl (shrBin (by decide))) ?_
  refine aq 24 (q_cvt tok rfl rfl rfl rfl rfl (wrap_byteZ (shrW_nonneg hxw.1))) ?_
  refine am 25 ?_
  refine aq 26 (q_bin (r := .int .u32 (shrW x 24)) rfl rfl rfl (shrBin (by decide))) ?_
  refine aq 27 (q_cvt tok rfl rfl rfl rfl rfl (wrap_byteZ (shrW_nonneg hxw.1))) ?_
  refine ax 28 (o_lit' tok rfl rfl rfl rfl rfl rfl (by decide) rfl rfl rfl rfl rfl rfl) ?_
  refine ax 29 (o_append tok (n := 4 * k) (m := 4) rfl rfl rfl rfl rfl rfl rfl rfl rfl (by rw [byteCells_len, hfl, List.length_take]; omega) rfl rfl (Nat.zero_lt_succ _) (.lst _ _) (by intro cs h; simp [partVals] at h; rcases h with rfl | rfl | rfl | rfl <;> rfl) (fun _ cs h => by simp [partVals] at h; rcases h with rfl | rfl | rfl | rfl <;> rfl) rfl (by simp [partVals, byteCells_len, hfl]; omega) (by simp [partVals, byteCells_len, hfl]; simp only [maxLen]; omega)) ?_
  refine aa 3 ?_
  refine an ?_
  refine AGo.region ?_
  refine aq 30 (q_inc rfl rfl hkl (by simp only [maxLen]; omega)) ?_
  refine am 12 ?_
  refine an ?_
  exact ⟨k+1, Drop.mk' z4q (by repeat (first | exact HDrop.none _ _ | exact HDrop.tail _ _ | refine HDrop.put ?_ (by first | rfl | exact congrArg (fun es => some (AObj.row true 1 es)) (by rw [flat_succ hx, byteCells, byteCells, List.map_append]; rfl)) rfl z6q)), hkl, by omega⟩
 ·
  refine acf ?_
  have hge : l.length ≤ k := by simpa using hb1
  refine AGo.exit ?_
  refine AGo.seq ?_
  refine AGo.ghost (.freezeW 3 0 rfl rfl (by rw [byteCells_len, hfl, List.length_take]; omega)) ?_
  refine AGo.region ?_
  refine am 31 ?_
  refine aq 32 (q_bytesStr (l := (l.take k).flatMap leBytes) tok rfl rfl rfl rfl rfl rfl rfl rfl) ?_
  refine aa 2 ?_
  refine an ?_
  refine AGo.ret ?_
  refine ⟨[_], ⟨rfl, trivial⟩, ?_, rfl⟩
  show AV.str _ = AV.str _
  rw [List.take_of_length_le hge]
set_option maxRecDepth 100000 in
theorem four_ok (z : ByteArray) (at' : Nat) (h16 : at' + 16 ≤ z.size) (hz : z.size ≤ 1000000) : APure Tryd.prog 13 [.str z, .int .i64 (at' : Int)] (fun r => r = .agg (four z at').cells) := by
 refine APure.of_body (n := 44) tok Tryd.func13 rfl rfl ?_
 refine asr ?_
 refine ax 4 (o_alloc tok 0 rfl rfl rfl rfl (Nat.zero_lt_succ _) rfl) ?_
 refine an ?_
 refine asr ?_
 refine ax 5 (o_alloc tok 1 rfl rfl rfl rfl (Nat.zero_lt_succ _) rfl) ?_
 refine an ?_
 refine AGo.seq ?_
 refine asr ?_
 refine am 8 ?_
 refine an ?_
 refine AGo.block ?_
 refine AGo.unroll 4 ?_
 refine AGo.un_succ (n := 3) ?_
 refine AGo.sub (s' := ⟨44, (eput (eput (eput (eput (eput eNew 0 (.str z)) 1 (.int .i64 (at' : Int))) 4 (.ptr 0 1 0 0)) 5 (.ptr 1 1 0 0)) 8 (.int .i64 0)), (hput (hput (hFrom 2) 0 (.row false 4 [[.int .u32 0, .int .u32 0, .int .u32 0, .int .u32 0]])) 1 (.row false 4 [[.int .u32 0, .int .u32 0, .int .u32 0, .int .u32 0]]))⟩) (Sub.mk' z7q z0q) ?_
 refine asr ?_
 refine aq 9 (q_bin (r := .bool true) rfl rfl rfl (by rfl)) ?_
 refine an ?_
 refine AGo.seq ?_
 refine act ?_
 refine AGo.skip ?_
 refine AGo.seq ?_
 refine AGo.block ?_
 refine asr ?_
 refine am 10 ?_
 refine aa 6 ?_
 refine an ?_
 refine asr ?_
 refine am 11 ?_
 refine am 12 ?_
 refine aq 13 (q_bin (r := .int .i64 0) rfl rfl rfl (by rfl)) ?_
 refine aq 14 (q_bin (r := .int .i64 ((at' + 4 * 0 : Nat) : Int)) rfl rfl rfl (addI (by omega) (by omega) (by omega))) ?_
 refine aa 7 ?_
 refine an ?_
 refine AGo.draw mix ?_
 refine dm 15 ?_
 refine dm 16 ?_
 refine dm 17 ?_
 refine dq 18 (q_index_str (c := byteC z (at' + 4 * 0)) tok rfl rfl rfl rfl rfl (Int.natCast_nonneg _) (byteC_get (by omega))) ?_
 refine dq 19 (q_cvt tok rfl rfl rfl rfl rfl (r := (((byteC z (at' + 4 * 0)).toNat : Nat) : Int)) (by rw [IntKind.wrap_u32]; have := byte_lt (byteC z (at' + 4 * 0)); omega)) ?_
 refine dm 20 ?_
 refine dm 21 ?_
 refine dq 22 (q_bin (r := .int .i64 ((at' + 4 * 0 + 1 : Nat) : Int)) rfl rfl rfl (addI (by omega) (by omega) (by omega))) ?_
 refine dq 23 (q_index_str (c := byteC z (at' + 4 * 0 + 1)) tok rfl rfl rfl rfl rfl (Int.natCast_nonneg _) (byteC_get (by omega))) ?_
 refine dq 24 (q_cvt tok rfl rfl rfl rfl rfl (r := (((byteC z (at' + 4 * 0 + 1)).toNat : Nat) : Int)) (by rw [IntKind.wrap_u32]; have := byte_lt (byteC z (at' + 4 * 0 + 1)); omega)) ?_
 refine dq 25 (q_bin (r := .int .u32 (shlW (byteC z (at' + 4 * 0 + 1)).toNat 8)) rfl rfl rfl (shlBin (by decide))) ?_
 refine dq 26 (q_bin rfl rfl rfl rfl) ?_
 refine dm 27 ?_
 refine dm 28 ?_
 refine dq 29 (q_bin (r := .int .i64 ((at' + 4 * 0 + 2 : Nat) : Int)) rfl rfl rfl (addI (by omega) (by omega) (by omega))) ?_
 refine dq 30 (q_index_str (c := byteC z (at' + 4 * 0 + 2)) tok rfl rfl rfl rfl rfl (Int.natCast_nonneg _) (byteC_get (by omega))) ?_
 refine dq 31 (q_cvt tok rfl rfl rfl rfl rfl (r := (((byteC z (at' + 4 * 0 + 2)).toNat : Nat) : Int)) (by rw [IntKind.wrap_u32]; have := byte_lt (byteC z (at' + 4 * 0 + 2)); omega)) ?_
 refine dq 32 (q_bin (r := .int .u32 (shlW (byteC z (at' + 4 * 0 + 2)).toNat 16)) rfl rfl rfl (shlBin (by decide))) ?_
 refine dq 33 (q_bin rfl rfl rfl rfl) ?_
 refine dm 34 ?_
 refine dm 35 ?_
 refine dq 36 (q_bin (r := .int .i64 ((at' + 4 * 0 + 3 : Nat) : Int)) rfl rfl rfl (addI (by omega) (by omega) (by omega))) ?_
 refine dq 37 (q_index_str (c := byteC z (at' + 4 * 0 + 3)) tok rfl rfl rfl rfl rfl (Int.natCast_nonneg _) (byteC_get (by omega))) ?_
 refine dq 38 (q_cvt tok rfl rfl rfl rfl rfl (r := (((byteC z (at' + 4 * 0 + 3)).toNat : Nat) : Int)) (by rw [IntKind.wrap_u32]; have := byte_lt (byteC z (at' + 4 * 0 + 3)); omega)) ?_
 refine dq 39 (q_bin (r := .int .u32 (shlW (byteC z (at' + 4 * 0 + 3)).toNat 24)) rfl rfl rfl (shlBin (by decide))) ?_
 refine dq 40 (q_bin rfl rfl rfl rfl) ?_
 refine dq 41 (q_index_arr tok rfl rfl rfl rfl rfl rfl (by decide) (by decide) rfl) ?_
 refine DOps.w rfl rfl (o_store tok rfl rfl rfl rfl rfl rfl rfl rfl rfl (by decide) rfl z8q) ?_
 refine DOps.nil (by kernel_rfl) ?_
 refine AGo.region ?_
 refine aq 42 (q_bin (r := .int .i64 1) rfl rfl rfl (by rfl)) ?_
 refine am 8 ?_
 refine an ?_
 refine AGo.un_succ (n := 2) ?_
 refine AGo.sub (s' := ⟨44, (eput (eput (eput (eput (eput eNew 0 (.str z)) 1 (.int .i64 (at' : Int))) 4 (.ptr 0 1 0 0)) 5 (.ptr 1 1 0 0)) 8 (.int .i64 1)), (hput (hput (hFrom 2) 0 (.row false 4 [[.int .u32 0, .int .u32 0, .int .u32 0, .int .u32 0]])) 1 (.row false 4 [[.int .u32 (fourW z at' 0), .int .u32 0, .int .u32 0, .int .u32 0]]))⟩) (Sub.mk' z7q z0q) ?_
 refine asr ?_
 refine aq 9 (q_bin (r := .bool true) rfl rfl rfl (by rfl)) ?_
 refine an ?_
 refine AGo.seq ?_
 refine act ?_
 refine AGo.skip ?_
 refine AGo.seq ?_
 refine AGo.block ?_
 refine asr ?_
 refine am 10 ?_
 refine aa 6 ?_
 refine an ?_
 refine asr ?_
 refine am 11 ?_
 refine am 12 ?_
 refine aq 13 (q_bin (r := .int .i64 4) rfl rfl rfl (by rfl)) ?_
 refine aq 14 (q_bin (r := .int .i64 ((at' + 4 * 1 : Nat) : Int)) rfl rfl rfl (addI (by omega) (by omega) (by omega))) ?_
 refine aa 7 ?_
 refine an ?_
 refine AGo.draw mix ?_
 refine dm 15 ?_
 refine dm 16 ?_
 refine dm 17 ?_
 refine dq 18 (q_index_str (c := byteC z (at' + 4 * 1)) tok rfl rfl rfl rfl rfl (Int.natCast_nonneg _) (byteC_get (by omega))) ?_
 refine dq 19 (q_cvt tok rfl rfl rfl rfl rfl (r := (((byteC z (at' + 4 * 1)).toNat : Nat) : Int)) (by rw [IntKind.wrap_u32]; have := byte_lt (byteC z (at' + 4 * 1)); omega)) ?_
 refine dm 20 ?_
 refine dm 21 ?_
 refine dq 22 (q_bin (r := .int .i64 ((at' + 4 * 1 + 1 : Nat) : Int)) rfl rfl rfl (addI (by omega) (by omega) (by omega))) ?_
 refine dq 23 (q_index_str (c := byteC z (at' + 4 * 1 + 1)) tok rfl rfl rfl rfl rfl (Int.natCast_nonneg _) (byteC_get (by omega))) ?_
 refine dq 24 (q_cvt tok rfl rfl rfl rfl rfl (r := (((byteC z (at' + 4 * 1 + 1)).toNat : Nat) : Int)) (by rw [IntKind.wrap_u32]; have := byte_lt (byteC z (at' + 4 * 1 + 1)); omega)) ?_
 refine dq 25 (q_bin (r := .int .u32 (shlW (byteC z (at' + 4 * 1 + 1)).toNat 8)) rfl rfl rfl (shlBin (by decide))) ?_
 refine dq 26 (q_bin rfl rfl rfl rfl) ?_
 refine dm 27 ?_
 refine dm 28 ?_
 refine dq 29 (q_bin (r := .int .i64 ((at' + 4 * 1 + 2 : Nat) : Int)) rfl rfl rfl (addI (by omega) (by omega) (by omega))) ?_
 refine dq 30 (q_index_str (c := byteC z (at' + 4 * 1 + 2)) tok rfl rfl rfl rfl rfl (Int.natCast_nonneg _) (byteC_get (by omega))) ?_
 refine dq 31 (q_cvt tok rfl rfl rfl rfl rfl (r := (((byteC z (at' + 4 * 1 + 2)).toNat : Nat) : Int)) (by rw [IntKind.wrap_u32]; have := byte_lt (byteC z (at' + 4 * 1 + 2)); omega)) ?_
 refine dq 32 (q_bin (r := .int .u32 (shlW (byteC z (at' + 4 * 1 + 2)).toNat 16)) rfl rfl rfl (shlBin (by decide))) ?_
 refine dq 33 (q_bin rfl rfl rfl rfl) ?_
 refine dm 34 ?_
 refine dm 35 ?_
 refine dq 36 (q_bin (r := .int .i64 ((at' + 4 * 1 + 3 : Nat) : Int)) rfl rfl rfl (addI (by omega) (by omega) (by omega))) ?_
 refine dq 37 (q_index_str (c := byteC z (at' + 4 * 1 + 3)) tok rfl rfl rfl rfl rfl (Int.natCast_nonneg _) (byteC_get (by omega))) ?_
 refine dq 38 (q_cvt tok rfl rfl rfl rfl rfl (r := (((byteC z (at' + 4 * 1 + 3)).toNat : Nat) : Int)) (by rw [IntKind.wrap_u32]; have := byte_lt (byteC z (at' + 4 * 1 + 3)); omega)) ?_
 refine dq 39 (q_bin (r := .int .u32 (shlW (byteC z (at' + 4 * 1 + 3)).toNat 24)) rfl rfl rfl (shlBin (by decide))) ?_
 refine dq 40 (q_bin rfl rfl rfl rfl) ?_
 refine dq 41 (q_index_arr tok rfl rfl rfl rfl rfl rfl (by decide) (by decide) rfl) ?_
 refine DOps.w rfl rfl (o_store tok rfl rfl rfl rfl rfl rfl rfl rfl rfl (by decide) rfl z8q) ?_
 refine DOps.nil (by kernel_rfl) ?_
 refine AGo.region ?_
 refine aq 42 (q_bin (r := .int .i64 2) rfl rfl rfl (by rfl)) ?_
 refine am 8 ?_
 refine an ?_
 refine AGo.un_succ (n := 1) ?_
 refine AGo.sub (s' := ⟨44, (eput (eput (eput (eput (eput eNew 0 (.str z)) 1 (.int .i64 (at' : Int))) 4 (.ptr 0 1 0 0)) 5 (.ptr 1 1 0 0)) 8 (.int .i64 2)), (hput (hput (hFrom 2) 0 (.row false 4 [[.int .u32 0, .int .u32 0, .int .u32 0, .int .u32 0]])) 1 (.row false 4 [[.int .u32 (fourW z at' 0), .int .u32 (fourW z at' 1), .int .u32 0, .int .u32 0]]))⟩) (Sub.mk' z7q z0q) ?_
 refine asr ?_
 refine aq 9 (q_bin (r := .bool true) rfl rfl rfl (by rfl)) ?_
 refine an ?_
 refine AGo.seq ?_
 refine act ?_
 refine AGo.skip ?_
 refine AGo.seq ?_
 refine AGo.block ?_
 refine asr ?_
 refine am 10 ?_
 refine aa 6 ?_
 refine an ?_
 refine asr ?_
 refine am 11 ?_
 refine am 12 ?_
 refine aq 13 (q_bin (r := .int .i64 8) rfl rfl rfl (by rfl)) ?_
 refine aq 14 (q_bin (r := .int .i64 ((at' + 4 * 2 : Nat) : Int)) rfl rfl rfl (addI (by omega) (by omega) (by omega))) ?_
 refine aa 7 ?_
 refine an ?_
 refine AGo.draw mix ?_
 refine dm 15 ?_
 refine dm 16 ?_
 refine dm 17 ?_
 refine dq 18 (q_index_str (c := byteC z (at' + 4 * 2)) tok rfl rfl rfl rfl rfl (Int.natCast_nonneg _) (byteC_get (by omega))) ?_
 refine dq 19 (q_cvt tok rfl rfl rfl rfl rfl (r := (((byteC z (at' + 4 * 2)).toNat : Nat) : Int)) (by rw [IntKind.wrap_u32]; have := byte_lt (byteC z (at' + 4 * 2)); omega)) ?_
 refine dm 20 ?_
 refine dm 21 ?_
 refine dq 22 (q_bin (r := .int .i64 ((at' + 4 * 2 + 1 : Nat) : Int)) rfl rfl rfl (addI (by omega) (by omega) (by omega))) ?_
 refine dq 23 (q_index_str (c := byteC z (at' + 4 * 2 + 1)) tok rfl rfl rfl rfl rfl (Int.natCast_nonneg _) (byteC_get (by omega))) ?_
 refine dq 24 (q_cvt tok rfl rfl rfl rfl rfl (r := (((byteC z (at' + 4 * 2 + 1)).toNat : Nat) : Int)) (by rw [IntKind.wrap_u32]; have := byte_lt (byteC z (at' + 4 * 2 + 1)); omega)) ?_
 refine dq 25 (q_bin (r := .int .u32 (shlW (byteC z (at' + 4 * 2 + 1)).toNat 8)) rfl rfl rfl (shlBin (by decide))) ?_
 refine dq 26 (q_bin rfl rfl rfl rfl) ?_
 refine dm 27 ?_
 refine dm 28 ?_
 refine dq 29 (q_bin (r := .int .i64 ((at' + 4 * 2 + 2 : Nat) : Int)) rfl rfl rfl (addI (by omega) (by omega) (by omega))) ?_
 refine dq 30 (q_index_str (c := byteC z (at' + 4 * 2 + 2)) tok rfl rfl rfl rfl rfl (Int.natCast_nonneg _) (byteC_get (by omega))) ?_
 refine dq 31 (q_cvt tok rfl rfl rfl rfl rfl (r := (((byteC z (at' + 4 * 2 + 2)).toNat : Nat) : Int)) (by rw [IntKind.wrap_u32]; have := byte_lt (byteC z (at' + 4 * 2 + 2)); omega)) ?_
 refine dq 32 (q_bin (r := .int .u32 (shlW (byteC z (at' + 4 * 2 + 2)).toNat 16)) rfl rfl rfl (shlBin (by decide))) ?_
 refine dq 33 (q_bin rfl rfl rfl rfl) ?_
 refine dm 34 ?_
 refine dm 35 ?_
 refine dq 36 (q_bin (r := .int .i64 ((at' + 4 * 2 + 3 : Nat) : Int)) rfl rfl rfl (addI (by omega) (by omega) (by omega))) ?_
 refine dq 37 (q_index_str (c := byteC z (at' + 4 * 2 + 3)) tok rfl rfl rfl rfl rfl (Int.natCast_nonneg _) (byteC_get (by omega))) ?_
 refine dq 38 (q_cvt tok rfl rfl rfl rfl rfl (r := (((byteC z (at' + 4 * 2 + 3)).toNat : Nat) : Int)) (by rw [IntKind.wrap_u32]; have := byte_lt (byteC z (at' + 4 * 2 + 3)); omega)) ?_
 refine dq 39 (q_bin (r := .int .u32 (shlW (byteC z (at' + 4 * 2 + 3)).toNat 24)) rfl rfl rfl (shlBin (by decide))) ?_
 refine dq 40 (q_bin rfl rfl rfl rfl) ?_
 refine dq 41 (q_index_arr tok rfl rfl rfl rfl rfl rfl (by decide) (by decide) rfl) ?_
 refine DOps.w rfl rfl (o_store tok rfl rfl rfl rfl rfl rfl rfl rfl rfl (by decide) rfl z8q) ?_
 refine DOps.nil (by kernel_rfl) ?_
 refine AGo.region ?_
 refine aq 42 (q_bin (r := .int .i64 3) rfl rfl rfl (by rfl)) ?_
 refine am 8 ?_
 refine an ?_
 refine AGo.un_succ (n := 0) ?_
 refine AGo.sub (s' := ⟨44, (eput (eput (eput (eput (eput eNew 0 (.str z)) 1 (.int .i64 (at' : Int))) 4 (.ptr 0 1 0 0)) 5 (.ptr 1 1 0 0)) 8 (.int .i64 3)), (hput (hput (hFrom 2) 0 (.row false 4 [[.int .u32 0, .int .u32 0, .int .u32 0, .int .u32 0]])) 1 (.row false 4 [[.int .u32 (fourW z at' 0), .int .u32 (fourW z at' 1), .int .u32 (fourW z at' 2), .int .u32 0]]))⟩) (Sub.mk' z7q z0q) ?_
 refine asr ?_
 refine aq 9 (q_bin (r := .bool true) rfl rfl rfl (by rfl)) ?_
 refine an ?_
 refine AGo.seq ?_
 refine act ?_
 refine AGo.skip ?_
 refine AGo.seq ?_
 refine AGo.block ?_
 refine asr ?_
 refine am 10 ?_
 refine aa 6 ?_
 refine an ?_
 refine asr ?_
 refine am 11 ?_
 refine am 12 ?_
 refine aq 13 (q_bin (r := .int .i64 12) rfl rfl rfl (by rfl)) ?_
 refine aq 14 (q_bin (r := .int .i64 ((at' + 4 * 3 : Nat) : Int)) rfl rfl rfl (addI (by omega) (by omega) (by omega))) ?_
 refine aa 7 ?_
 refine an ?_
 refine AGo.draw mix ?_
 refine dm 15 ?_
 refine dm 16 ?_
 refine dm 17 ?_
 refine dq 18 (q_index_str (c := byteC z (at' + 4 * 3)) tok rfl rfl rfl rfl rfl (Int.natCast_nonneg _) (byteC_get (by omega))) ?_
 refine dq 19 (q_cvt tok rfl rfl rfl rfl rfl (r := (((byteC z (at' + 4 * 3)).toNat : Nat) : Int)) (by rw [IntKind.wrap_u32]; have := byte_lt (byteC z (at' + 4 * 3)); omega)) ?_
 refine dm 20 ?_
 refine dm 21 ?_
 refine dq 22 (q_bin (r := .int .i64 ((at' + 4 * 3 + 1 : Nat) : Int)) rfl rfl rfl (addI (by omega) (by omega) (by omega))) ?_
 refine dq 23 (q_index_str (c := byteC z (at' + 4 * 3 + 1)) tok rfl rfl rfl rfl rfl (Int.natCast_nonneg _) (byteC_get (by omega))) ?_
 refine dq 24 (q_cvt tok rfl rfl rfl rfl rfl (r := (((byteC z (at' + 4 * 3 + 1)).toNat : Nat) : Int)) (by rw [IntKind.wrap_u32]; have := byte_lt (byteC z (at' + 4 * 3 + 1)); omega)) ?_
 refine dq 25 (q_bin (r := .int .u32 (shlW (byteC z (at' + 4 * 3 + 1)).toNat 8)) rfl rfl rfl (shlBin (by decide))) ?_
 refine dq 26 (q_bin rfl rfl rfl rfl) ?_
 refine dm 27 ?_
 refine dm 28 ?_
 refine dq 29 (q_bin (r := .int .i64 ((at' + 4 * 3 + 2 : Nat) : Int)) rfl rfl rfl (addI (by omega) (by omega) (by omega))) ?_
 refine dq 30 (q_index_str (c := byteC z (at' + 4 * 3 + 2)) tok rfl rfl rfl rfl rfl (Int.natCast_nonneg _) (byteC_get (by omega))) ?_
 refine dq 31 (q_cvt tok rfl rfl rfl rfl rfl (r := (((byteC z (at' + 4 * 3 + 2)).toNat : Nat) : Int)) (by rw [IntKind.wrap_u32]; have := byte_lt (byteC z (at' + 4 * 3 + 2)); omega)) ?_
 refine dq 32 (q_bin (r := .int .u32 (shlW (byteC z (at' + 4 * 3 + 2)).toNat 16)) rfl rfl rfl (shlBin (by decide))) ?_
 refine dq 33 (q_bin rfl rfl rfl rfl) ?_
 refine dm 34 ?_
 refine dm 35 ?_
 refine dq 36 (q_bin (r := .int .i64 ((at' + 4 * 3 + 3 : Nat) : Int)) rfl rfl rfl (addI (by omega) (by omega) (by omega))) ?_
 refine dq 37 (q_index_str (c := byteC z (at' + 4 * 3 + 3)) tok rfl rfl rfl rfl rfl (Int.natCast_nonneg _) (byteC_get (by omega))) ?_
 refine dq 38 (q_cvt tok rfl rfl rfl rfl rfl (r := (((byteC z (at' + 4 * 3 + 3)).toNat : Nat) : Int)) (by rw [IntKind.wrap_u32]; have := byte_lt (byteC z (at' + 4 * 3 + 3)); omega)) ?_
 refine dq 39 (q_bin (r := .int .u32 (shlW (byteC z (at' + 4 * 3 + 3)).toNat 24)) rfl rfl rfl (shlBin (by decide))) ?_
 refine dq 40 (q_bin rfl rfl rfl rfl) ?_
 refine dq 41 (q_index_arr tok rfl rfl rfl rfl rfl rfl (by decide) (by decide) rfl) ?_
 refine DOps.w rfl rfl (o_store tok rfl rfl rfl rfl rfl rfl rfl rfl rfl (by decide) rfl z8q) ?_
 refine DOps.nil (by kernel_rfl) ?_
 refine AGo.region ?_
 refine aq 42 (q_bin (r := .int .i64 4) rfl rfl rfl (by rfl)) ?_
 refine am 8 ?_
 refine an ?_
 refine AGo.un_zero ?_
 refine AGo.sub (s' := ⟨44, (eput (eput (eput (eput (eput eNew 0 (.str z)) 1 (.int .i64 (at' : Int))) 4 (.ptr 0 1 0 0)) 5 (.ptr 1 1 0 0)) 8 (.int .i64 4)), (hput (hput (hFrom 2) 0 (.row false 4 [[.int .u32 0, .int .u32 0, .int .u32 0, .int .u32 0]])) 1 (.row false 4 [[.int .u32 (fourW z at' 0), .int .u32 (fourW z at' 1), .int .u32 (fourW z at' 2), .int .u32 (fourW z at' 3)]]))⟩) (Sub.mk' z7q z0q) ?_
 refine asr ?_
 refine aq 9 (q_bin (r := .bool false) rfl rfl rfl (by rfl)) ?_
 refine an ?_
 refine AGo.seq ?_
 refine acf ?_
 refine AGo.exit ?_
 refine asr ?_
 refine al 43 tok ?_
 refine AOps.w rfl rfl (o_store tok rfl rfl rfl rfl rfl rfl rfl rfl rfl (by decide) rfl z8q) ?_
 refine an ?_
 refine AGo.ret ?_
 refine ⟨[_], ⟨⟨_, _, _, _, rfl, rfl, .ptr _ _ _ _ _ _ _ _ rfl rfl rfl, rfl⟩, trivial⟩, ?_, rfl⟩
 rfl
set_option maxRecDepth 100000 in
theorem rotl_ok (x p : Int) (hp : 0 ≤ p ∧ p < 32) : APure Tryd.prog 32 [.int .u32 x, .int .i64 p] (fun r => r = .int .u32 (rotl x p)) := by
 refine APure.of_body (n := 17) tok Tryd.func32 rfl rfl ?_
 refine asr ?_
 refine aa 4 ?_
 refine an ?_
 refine asr ?_
 refine am 6 ?_
 refine aq 7 (q_cvt tok rfl rfl rfl rfl rfl (r := p) (by rw [IntKind.wrap_u64]; omega)) ?_
 refine aq 8 (q_bin (r := .int .u64 p) rfl rfl rfl (and31 hp)) ?_
 refine aa 5 ?_
 refine an ?_
 refine asr ?_
 refine am 9 ?_
 refine am 10 ?_
 refine aq 11 (q_bin (r := .int .u32 (shlW x p)) rfl rfl rfl (shlBin hp.1)) ?_
 refine am 12 ?_
 refine am 13 ?_
 refine aq 14 (q_bin (r := .int .u64 (32 - p)) rfl rfl rfl (sub32 hp)) ?_
 refine aq 15 (q_bin (r := .int .u32 (shrW x (32 - p))) rfl rfl rfl (shrBin (by omega))) ?_
 refine aqb ?_
 refine aa 4 ?_
 refine an ?_
 refine AGo.ret ?_
 refine ⟨[_], ⟨rfl, trivial⟩, ?_, rfl⟩
 rfl
set_option maxRecDepth 100000 in
theorem turnW_ok (x p : Int) (hp : 0 ≤ p ∧ p < 32) : APure Tryd.prog 31 [.int .u32 x, .int .i64 p] (fun r => r = .int .u32 (rotl x p)) := by
 refine APure.of_body (n := 15) tok Tryd.func31 rfl rfl ?_
 refine asr ?_
 refine aa 4 ?_
 refine an ?_
 refine asr ?_
 refine am 6 ?_
 refine aq 7 (q_bin (r := .int .i64 p) rfl rfl rfl (rem32 hp)) ?_
 refine aa 5 ?_
 refine an ?_
 refine AGo.seq ?_
 refine asr ?_
 refine am 8 ?_
 refine aq 9 (q_bin (r := .bool false) rfl rfl rfl (lss0 hp.1)) ?_
 refine an ?_
 refine acf ?_
 refine AGo.skip ?_
 refine asr ?_
 refine am 12 ?_
 refine am 13 ?_
 refine ax 14 (o_pure rfl Tryd.func32 (by kernel_rfl) rfl rfl rfl (rotl_ok _ _ (by assumption))) ?_
 refine aa 4 ?_
 refine an ?_
 refine AGo.ret ?_
 refine ⟨[_], ⟨rfl, trivial⟩, ?_, rfl⟩
 rfl
set_option maxHeartbeats 1000000 in
set_option maxRecDepth 100000 in
theorem mix_ok (q : St8) : APure Tryd.prog 23 [.agg q.cells] (fun r => r = .agg (mixN 8 q).cells) := by
 refine APure.of_body (n := 59) tok Tryd.func23 rfl rfl ?_
 refine asr ?_
 refine ax 1 (o_box (sz := 8) 0 rfl rfl rfl rfl (Nat.zero_lt_succ _) rfl) ?_
 refine ax 2 (o_alloc tok 1 rfl rfl rfl rfl (Nat.zero_lt_succ _) rfl) ?_
 refine an ?_
 refine AGo.seq ?_
 refine asr ?_
 refine aa 3 ?_
 refine an ?_
 refine AGo.block ?_
 refine AGo.loopD (γ := Nat) 2 (fun r => ⟨59, (eput (eput (eput eNew 1 (.ptr 0 1 0 0)) 2 (.ptr 1 1 0 0)) 3 (.int .u32 (r : Int))), (hput (hput (hFrom 2) 0 (.row false 8 [(mixN r q).cells])) 1 (.row false 8 [[.int .u32 0, .int .u32 0, .int .u32 0, .int .u32 0, .int .u32 0, .int .u32 0, .int .u32 0, .int .u32 0]]))⟩) (fun r => r ≤ 8) (fun r => 8 - r) 0 (Sub.mk' z7q z0q) (Nat.zero_le _) (fun _ => hput_free (hput_free (fun b hb => hFrom_free hb) rfl) rfl) ?_
 intro r hr
 obtain ⟨q0, hq0⟩ : ∃ x, x = mixN r q := ⟨_, rfl⟩
 rw [← hq0]
 refine AGo.seq ?_
 refine asr ?_
 refine am 7 ?_
 refine aqb ?_
 refine an ?_
 refine AGo.split 8 rfl (fun hb1 => ?_) (fun hb1 => ?_)
 ·
  refine act ?_
  have hrl : r < 8 := by have h := hb1; simp at h; omega
  refine AGo.skip ?_
  refine AGo.seq ?_
  refine AGo.block ?_
  refine asr ?_
  refine aq 11 (q_index_arr tok rfl rfl rfl rfl rfl rfl (by decide) (by decide) rfl) ?_
  refine al 12 tok ?_
  refine am 13 ?_
  refine aq 14 (q_bin (r := .int .u32 ((r + 1 : Nat) : Int)) rfl rfl rfl (by show some (AV.int .u32 (IntKind.u32.wrap _)) = _; rw [IntKind.wrap_u32]; congr 2; omega)) ?_
  refine aqb ?_
  refine aqb ?_
  refine aq 17 (q_index_arr tok rfl rfl rfl rfl rfl rfl (by decide) (by decide) rfl) ?_
  refine AOps.w rfl rfl (o_store tok rfl rfl rfl rfl rfl rfl rfl rfl rfl (by decide) rfl z8q) ?_
  refine an ?_
  refine AGo.seq ?_
  refine asr ?_
  refine aa 4 ?_
  refine an ?_
  refine AGo.block ?_
  refine AGo.unroll 4 ?_
  refine AGo.un_succ (n := 3) ?_
  refine AGo.sub (s' := ⟨59, (eput (eput (eput (eput eNew 1 (.ptr 0 1 0 0)) 2 (.ptr 1 1 0 0)) 3 (.int .u32 (r : Int))) 4 (.int .i64 0)), (hput (hput (hFrom 2) 0 (.row false 8 [(mixA r q0).cells])) 1 (.row false 8 [[.int .u32 0, .int .u32 0, .int .u32 0, .int .u32 0, .int .u32 0, .int .u32 0, .int .u32 0, .int .u32 0]]))⟩) (Sub.mk' z7q z0q) ?_
  obtain ⟨q1, hq1⟩ : ∃ x, x = mixA r q0 := ⟨_, rfl⟩
  rw [← hq1]
  refine AGo.seq ?_
  refine asr ?_
  refine am 18 ?_
  refine aq 19 (q_bin (r := .bool true) rfl rfl rfl (by rfl)) ?_
  refine an ?_
  refine act ?_
  refine AGo.skip ?_
  refine AGo.seq ?_
  refine AGo.block ?_
  refine AGo.seq ?_
  refine AGo.draw mix ?_
  refine dm 22 ?_
  refine dq 23 (q_index_arr tok rfl rfl rfl rfl rfl rfl (by decide) (by decide) rfl) ?_
  refine dl 24 tok ?_
  refine dm 25 ?_
  refine dq 26 (q_bin (r := .int .i64 4) rfl rfl rfl (by rfl)) ?_
  refine dq 27 (q_index_arr tok rfl rfl rfl rfl rfl rfl (by decide) (by decide) rfl) ?_
  refine dl 28 tok ?_
  refine dq 29 (q_bin rfl rfl rfl rfl) ?_
  refine dq 30 (q_index_arr tok rfl rfl rfl rfl rfl rfl (by decide) (by decide) rfl) ?_
  refine DOps.w rfl rfl (o_store tok rfl rfl rfl rfl rfl rfl rfl rfl rfl (by decide) rfl z8q) ?_
  refine DOps.nil (by kernel_rfl) ?_
  refine AGo.draw mix ?_
  refine dm 31 ?_
  refine dq 32 (q_bin (r := .int .i64 4) rfl rfl rfl (by rfl)) ?_
  refine dm 33 ?_
  refine dq 34 (q_bin (r := .int .i64 4) rfl rfl rfl (by rfl)) ?_
  refine dq 35 (q_index_arr tok rfl rfl rfl rfl rfl rfl (by decide) (by decide) rfl) ?_
  refine dl 36 tok ?_
  refine dm 37 ?_
  refine dq 38 (q_index_arr tok rfl rfl rfl rfl rfl rfl (by decide) (by decide) rfl) ?_
  refine dl 39 tok ?_
  refine dq 40 (q_bin rfl rfl rfl rfl) ?_
  refine dm 41 ?_
  refine dq 42 (q_index_arr tok rfl rfl rfl rfl rfl rfl (by decide) (by decide) rfl) ?_
  refine dl 43 tok ?_
  refine dx 44 (o_pure rfl Tryd.func31 (by kernel_rfl) rfl rfl rfl (turnW_ok _ 7 (by decide))) ?_
  refine dq 45 (q_index_arr tok rfl rfl rfl rfl rfl rfl (by decide) (by decide) rfl) ?_
  refine DOps.w rfl rfl (o_store tok rfl rfl rfl rfl rfl rfl rfl rfl rfl (by decide) rfl z8q) ?_
  refine DOps.nil (by kernel_rfl) ?_
  refine AGo.region ?_
  refine am 20 ?_
  refine aq 21 (q_bin (r := .int .i64 1) rfl rfl rfl (by rfl)) ?_
  refine aa 4 ?_
  refine an ?_
  refine AGo.un_succ (n := 2) ?_
  refine AGo.sub (s' := ⟨59, (eput (eput (eput (eput eNew 1 (.ptr 0 1 0 0)) 2 (.ptr 1 1 0 0)) 3 (.int .u32 (r : Int))) 4 (.int .i64 1)), (hput (hput (hFrom 2) 0 (.row false 8 [(mix0 q1).cells])) 1 (.row false 8 [[.int .u32 0, .int .u32 0, .int .u32 0, .int .u32 0, .int .u32 0, .int .u32 0, .int .u32 0, .int .u32 0]]))⟩) (Sub.mk' z7q z0q) ?_
  obtain ⟨q2, hq2⟩ : ∃ x, x = mix0 q1 := ⟨_, rfl⟩
  rw [← hq2]
  refine AGo.seq ?_
  refine asr ?_
  refine am 18 ?_
  refine aq 19 (q_bin (r := .bool true) rfl rfl rfl (by rfl)) ?_
  refine an ?_
  refine act ?_
  refine AGo.skip ?_
  refine AGo.seq ?_
  refine AGo.block ?_
  refine AGo.seq ?_
  refine AGo.draw mix ?_
  refine dm 22 ?_
  refine dq 23 (q_index_arr tok rfl rfl rfl rfl rfl rfl (by decide) (by decide) rfl) ?_
  refine dl 24 tok ?_
  refine dm 25 ?_
  refine dq 26 (q_bin (r := .int .i64 5) rfl rfl rfl (by rfl)) ?_
  refine dq 27 (q_index_arr tok rfl rfl rfl rfl rfl rfl (by decide) (by decide) rfl) ?_
  refine dl 28 tok ?_
  refine dq 29 (q_bin rfl rfl rfl rfl) ?_
  refine dq 30 (q_index_arr tok rfl rfl rfl rfl rfl rfl (by decide) (by decide) rfl) ?_
  refine DOps.w rfl rfl (o_store tok rfl rfl rfl rfl rfl rfl rfl rfl rfl (by decide) rfl z8q) ?_
  refine DOps.nil (by kernel_rfl) ?_
  refine AGo.draw mix ?_
  refine dm 31 ?_
  refine dq 32 (q_bin (r := .int .i64 5) rfl rfl rfl (by rfl)) ?_
  refine dm 33 ?_
  refine dq 34 (q_bin (r := .int .i64 5) rfl rfl rfl (by rfl)) ?_
  refine dq 35 (q_index_arr tok rfl rfl rfl rfl rfl rfl (by decide) (by decide) rfl) ?_
  refine dl 36 tok ?_
  refine dm 37 ?_
  refine dq 38 (q_index_arr tok rfl rfl rfl rfl rfl rfl (by decide) (by decide) rfl) ?_
  refine dl 39 tok ?_
  refine dq 40 (q_bin rfl rfl rfl rfl) ?_
  refine dm 41 ?_
  refine dq 42 (q_index_arr tok rfl rfl rfl rfl rfl rfl (by decide) (by decide) rfl) ?_
  refine dl 43 tok ?_
  refine dx 44 (o_pure rfl Tryd.func31 (by kernel_rfl) rfl rfl rfl (turnW_ok _ 9 (by decide))) ?_
  refine dq 45 (q_index_arr tok rfl rfl rfl rfl rfl rfl (by decide) (by decide) rfl) ?_
  refine DOps.w rfl rfl (o_store tok rfl rfl rfl rfl rfl rfl rfl rfl rfl (by decide) rfl z8q) ?_
  refine DOps.nil (by kernel_rfl) ?_
  refine AGo.region ?_
  refine am 20 ?_
  refine aq 21 (q_bin (r := .int .i64 2) rfl rfl rfl (by rfl)) ?_
  refine aa 4 ?_
  refine an ?_
  refine AGo.un_succ (n := 1) ?_
  refine AGo.sub (s' := ⟨59, (eput (eput (eput (eput eNew 1 (.ptr 0 1 0 0)) 2 (.ptr 1 1 0 0)) 3 (.int .u32 (r : Int))) 4 (.int .i64 2)), (hput (hput (hFrom 2) 0 (.row false 8 [(mix1 q2).cells])) 1 (.row false 8 [[.int .u32 0, .int .u32 0, .int .u32 0, .int .u32 0, .int .u32 0, .int .u32 0, .int .u32 0, .int .u32 0]]))⟩) (Sub.mk' z7q z0q) ?_
  obtain ⟨q3, hq3⟩ : ∃ x, x = mix1 q2 := ⟨_, rfl⟩
  rw [← hq3]
  refine AGo.seq ?_
  refine asr ?_
  refine am 18 ?_
  refine aq 19 (q_bin (r := .bool true) rfl rfl rfl (by rfl)) ?_
  refine an ?_
  refine act ?_
  refine AGo.skip ?_
  refine AGo.seq ?_
  refine AGo.block ?_
  refine AGo.seq ?_
  refine AGo.draw mix ?_
  refine dm 22 ?_
  refine dq 23 (q_index_arr tok rfl rfl rfl rfl rfl rfl (by decide) (by decide) rfl) ?_
  refine dl 24 tok ?_
  refine dm 25 ?_
  refine dq 26 (q_bin (r := .int .i64 6) rfl rfl rfl (by rfl)) ?_
  refine dq 27 (q_index_arr tok rfl rfl rfl rfl rfl rfl (by decide) (by decide) rfl) ?_
  refine dl 28 tok ?_
  refine dq 29 (q_bin rfl rfl rfl rfl) ?_
  refine dq 30 (q_index_arr tok rfl rfl rfl rfl rfl rfl (by decide) (by decide) rfl) ?_
  refine DOps.w rfl rfl (o_store tok rfl rfl rfl rfl rfl rfl rfl rfl rfl (by decide) rfl z8q) ?_
  refine DOps.nil (by kernel_rfl) ?_
  refine AGo.draw mix ?_
  refine dm 31 ?_
  refine dq 32 (q_bin (r := .int .i64 6) rfl rfl rfl (by rfl)) ?_
  refine dm 33 ?_
  refine dq 34 (q_bin (r := .int .i64 6) rfl rfl rfl (by rfl)) ?_
  refine dq 35 (q_index_arr tok rfl rfl rfl rfl rfl rfl (by decide) (by decide) rfl) ?_
  refine dl 36 tok ?_
  refine dm 37 ?_
  refine dq 38 (q_index_arr tok rfl rfl rfl rfl rfl rfl (by decide) (by decide) rfl) ?_
  refine dl 39 tok ?_
  refine dq 40 (q_bin rfl rfl rfl rfl) ?_
  refine dm 41 ?_
  refine dq 42 (q_index_arr tok rfl rfl rfl rfl rfl rfl (by decide) (by decide) rfl) ?_
  refine dl 43 tok ?_
  refine dx 44 (o_pure rfl Tryd.func31 (by kernel_rfl) rfl rfl rfl (turnW_ok _ 13 (by decide))) ?_
  refine dq 45 (q_index_arr tok rfl rfl rfl rfl rfl rfl (by decide) (by decide) rfl) ?_
  refine DOps.w rfl rfl (o_store tok rfl rfl rfl rfl rfl rfl rfl rfl rfl (by decide) rfl z8q) ?_
  refine DOps.nil (by kernel_rfl) ?_
  refine AGo.region ?_
  refine am 20 ?_
  refine aq 21 (q_bin (r := .int .i64 3) rfl rfl rfl (by rfl)) ?_
  refine aa 4 ?_
  refine an ?_
  refine AGo.un_succ (n := 0) ?_
  refine AGo.sub (s' := ⟨59, (eput (eput (eput (eput eNew 1 (.ptr 0 1 0 0)) 2 (.ptr 1 1 0 0)) 3 (.int .u32 (r : Int))) 4 (.int .i64 3)), (hput (hput (hFrom 2) 0 (.row false 8 [(mix2 q3).cells])) 1 (.row false 8 [[.int .u32 0, .int .u32 0, .int .u32 0, .int .u32 0, .int .u32 0, .int .u32 0, .int .u32 0, .int .u32 0]]))⟩) (Sub.mk' z7q z0q) ?_
  obtain ⟨q4, hq4⟩ : ∃ x, x = mix2 q3 := ⟨_, rfl⟩
  rw [← hq4]
  refine AGo.seq ?_
  refine asr ?_
  refine am 18 ?_
  refine aq 19 (q_bin (r := .bool true) rfl rfl rfl (by rfl)) ?_
  refine an ?_
  refine act ?_
  refine AGo.skip ?_
  refine AGo.seq ?_
  refine AGo.block ?_
  refine AGo.seq ?_
  refine AGo.draw mix ?_
  refine dm 22 ?_
  refine dq 23 (q_index_arr tok rfl rfl rfl rfl rfl rfl (by decide) (by decide) rfl) ?_
  refine dl 24 tok ?_
  refine dm 25 ?_
  refine dq 26 (q_bin (r := .int .i64 7) rfl rfl rfl (by rfl)) ?_
  refine dq 27 (q_index_arr tok rfl rfl rfl rfl rfl rfl (by decide) (by decide) rfl) ?_
  refine dl 28 tok ?_
  refine dq 29 (q_bin rfl rfl rfl rfl) ?_
  refine dq 30 (q_index_arr tok rfl rfl rfl rfl rfl rfl (by decide) (by decide) rfl) ?_
  refine DOps.w rfl rfl (o_store tok rfl rfl rfl rfl rfl rfl rfl rfl rfl (by decide) rfl z8q) ?_
  refine DOps.nil (by kernel_rfl) ?_
  refine AGo.draw mix ?_
  refine dm 31 ?_
  refine dq 32 (q_bin (r := .int .i64 7) rfl rfl rfl (by rfl)) ?_
  refine dm 33 ?_
  refine dq 34 (q_bin (r := .int .i64 7) rfl rfl rfl (by rfl)) ?_
  refine dq 35 (q_index_arr tok rfl rfl rfl rfl rfl rfl (by decide) (by decide) rfl) ?_
  refine dl 36 tok ?_
  refine dm 37 ?_
  refine dq 38 (q_index_arr tok rfl rfl rfl rfl rfl rfl (by decide) (by decide) rfl) ?_
  refine dl 39 tok ?_
  refine dq 40 (q_bin rfl rfl rfl rfl) ?_
  refine dm 41 ?_
  refine dq 42 (q_index_arr tok rfl rfl rfl rfl rfl rfl (by decide) (by decide) rfl) ?_
  refine dl 43 tok ?_
  refine dx 44 (o_pure rfl Tryd.func31 (by kernel_rfl) rfl rfl rfl (turnW_ok _ 18 (by decide))) ?_
  refine dq 45 (q_index_arr tok rfl rfl rfl rfl rfl rfl (by decide) (by decide) rfl) ?_
  refine DOps.w rfl rfl (o_store tok rfl rfl rfl rfl rfl rfl rfl rfl rfl (by decide) rfl z8q) ?_
  refine DOps.nil (by kernel_rfl) ?_
  refine AGo.region ?_
  refine am 20 ?_
  refine aq 21 (q_bin (r := .int .i64 4) rfl rfl rfl (by rfl)) ?_
  refine aa 4 ?_
  refine an ?_
  refine AGo.un_zero ?_
  refine AGo.sub (s' := ⟨59, (eput (eput (eput (eput eNew 1 (.ptr 0 1 0 0)) 2 (.ptr 1 1 0 0)) 3 (.int .u32 (r : Int))) 4 (.int .i64 4)), (hput (hput (hFrom 2) 0 (.row false 8 [(mix3 q4).cells])) 1 (.row false 8 [[.int .u32 0, .int .u32 0, .int .u32 0, .int .u32 0, .int .u32 0, .int .u32 0, .int .u32 0, .int .u32 0]]))⟩) (Sub.mk' z7q z0q) ?_
  obtain ⟨q5, hq5⟩ : ∃ x, x = mix3 q4 := ⟨_, rfl⟩
  rw [← hq5]
  refine AGo.seq ?_
  refine asr ?_
  refine am 18 ?_
  refine aq 19 (q_bin (r := .bool false) rfl rfl rfl (by rfl)) ?_
  refine an ?_
  refine acf ?_
  refine AGo.exit ?_
  refine asr ?_
  refine al 46 tok ?_
  refine ax 5 (o_alloc tok 2 rfl rfl rfl rfl (Nat.zero_lt_succ _) rfl) ?_
  refine AOps.w rfl rfl (o_store tok rfl rfl rfl rfl rfl rfl rfl rfl rfl (by decide) rfl z8q) ?_
  refine an ?_
  refine asr ?_
  refine am 47 ?_
  refine an ?_
  refine AGo.block ?_
  refine AGo.unroll 8 ?_
  refine AGo.un_succ (n := 7) ?_
  refine AGo.sub (s' := ⟨59, (eput (eput (eput (eput (eput eNew 1 (.ptr 0 1 0 0)) 2 (.ptr 1 1 0 0)) 3 (.int .u32 (r : Int))) 5 (.ptr 2 1 0 0)) 47 (.int .i64 0)), (hput (hput (hput (hFrom 3) 0 (.row false 8 [[.int .u32 q5.a0, .int .u32 q5.a1, .int .u32 q5.a2, .int .u32 q5.a3, .int .u32 q5.a4, .int .u32 q5.a5, .int .u32 q5.a6, .int .u32 q5.a7]])) 1 (.row false 8 [[.int .u32 0, .int .u32 0, .int .u32 0, .int .u32 0, .int .u32 0, .int .u32 0, .int .u32 0, .int .u32 0]])) 2 (.row false 8 [q5.cells]))⟩) (Sub.mk' z7q z0q) ?_
  refine asr ?_
  refine aq 48 (q_bin (r := .bool true) rfl rfl rfl (by rfl)) ?_
  refine an ?_
  refine AGo.seq ?_
  refine act ?_
  refine AGo.skip ?_
  refine AGo.seq ?_
  refine AGo.block ?_
  refine asr ?_
  refine am 49 ?_
  refine aa 6 ?_
  refine an ?_
  refine AGo.region ?_
  refine am 50 ?_
  refine am 51 ?_
  refine aq 52 (q_bin (r := .int .i64 3) rfl rfl rfl (by rfl)) ?_
  refine aq 53 (q_bin (r := .int .i64 3) rfl rfl rfl (by rfl)) ?_
  refine aq 54 (q_index_arr tok rfl rfl rfl rfl rfl rfl (by decide) (by decide) rfl) ?_
  refine al 55 tok ?_
  refine aq 56 (q_index_arr tok rfl rfl rfl rfl rfl rfl (by decide) (by decide) rfl) ?_
  refine AOps.w rfl rfl (o_store tok rfl rfl rfl rfl rfl rfl rfl rfl rfl (by decide) rfl z8q) ?_
  refine an ?_
  refine AGo.region ?_
  refine aq 57 (q_bin (r := .int .i64 1) rfl rfl rfl (by rfl)) ?_
  refine am 47 ?_
  refine an ?_
  refine AGo.un_succ (n := 6) ?_
  refine AGo.sub (s' := ⟨59, (eput (eput (eput (eput (eput eNew 1 (.ptr 0 1 0 0)) 2 (.ptr 1 1 0 0)) 3 (.int .u32 (r : Int))) 5 (.ptr 2 1 0 0)) 47 (.int .i64 1)), (hput (hput (hput (hFrom 3) 0 (.row false 8 [[.int .u32 q5.a3, .int .u32 q5.a1, .int .u32 q5.a2, .int .u32 q5.a3, .int .u32 q5.a4, .int .u32 q5.a5, .int .u32 q5.a6, .int .u32 q5.a7]])) 1 (.row false 8 [[.int .u32 0, .int .u32 0, .int .u32 0, .int .u32 0, .int .u32 0, .int .u32 0, .int .u32 0, .int .u32 0]])) 2 (.row false 8 [q5.cells]))⟩) (Sub.mk' z7q z0q) ?_
  refine asr ?_
  refine aq 48 (q_bin (r := .bool true) rfl rfl rfl (by rfl)) ?_
  refine an ?_
  refine AGo.seq ?_
  refine act ?_
  refine AGo.skip ?_
  refine AGo.seq ?_
  refine AGo.block ?_
  refine asr ?_
  refine am 49 ?_
  refine aa 6 ?_
  refine an ?_
  refine AGo.region ?_
  refine am 50 ?_
  refine am 51 ?_
  refine aq 52 (q_bin (r := .int .i64 4) rfl rfl rfl (by rfl)) ?_
  refine aq 53 (q_bin (r := .int .i64 4) rfl rfl rfl (by rfl)) ?_
  refine aq 54 (q_index_arr tok rfl rfl rfl rfl rfl rfl (by decide) (by decide) rfl) ?_
  refine al 55 tok ?_
  refine aq 56 (q_index_arr tok rfl rfl rfl rfl rfl rfl (by decide) (by decide) rfl) ?_
  refine AOps.w rfl rfl (o_store tok rfl rfl rfl rfl rfl rfl rfl rfl rfl (by decide) rfl z8q) ?_
  refine an ?_
  refine AGo.region ?_
  refine aq 57 (q_bin (r := .int .i64 2) rfl rfl rfl (by rfl)) ?_
  refine am 47 ?_
  refine an ?_
  refine AGo.un_succ (n := 5) ?_
  refine AGo.sub (s' := ⟨59, (eput (eput (eput (eput (eput eNew 1 (.ptr 0 1 0 0)) 2 (.ptr 1 1 0 0)) 3 (.int .u32 (r : Int))) 5 (.ptr 2 1 0 0)) 47 (.int .i64 2)), (hput (hput (hput (hFrom 3) 0 (.row false 8 [[.int .u32 q5.a3, .int .u32 q5.a4, .int .u32 q5.a2, .int .u32 q5.a3, .int .u32 q5.a4, .int .u32 q5.a5, .int .u32 q5.a6, .int .u32 q5.a7]])) 1 (.row false 8 [[.int .u32 0, .int .u32 0, .int .u32 0, .int .u32 0, .int .u32 0, .int .u32 0, .int .u32 0, .int .u32 0]])) 2 (.row false 8 [q5.cells]))⟩) (Sub.mk' z7q z0q) ?_
  refine asr ?_
  refine aq 48 (q_bin (r := .bool true) rfl rfl rfl (by rfl)) ?_
  refine an ?_
  refine AGo.seq ?_
  refine act ?_
  refine AGo.skip ?_
  refine AGo.seq ?_
  refine AGo.block ?_
  refine asr ?_
  refine am 49 ?_
  refine aa 6 ?_
  refine an ?_
  refine AGo.region ?_
  refine am 50 ?_
  refine am 51 ?_
  refine aq 52 (q_bin (r := .int .i64 5) rfl rfl rfl (by rfl)) ?_
  refine aq 53 (q_bin (r := .int .i64 5) rfl rfl rfl (by rfl)) ?_
  refine aq 54 (q_index_arr tok rfl rfl rfl rfl rfl rfl (by decide) (by decide) rfl) ?_
  refine al 55 tok ?_
  refine aq 56 (q_index_arr tok rfl rfl rfl rfl rfl rfl (by decide) (by decide) rfl) ?_
  refine AOps.w rfl rfl (o_store tok rfl rfl rfl rfl rfl rfl rfl rfl rfl (by decide) rfl z8q) ?_
  refine an ?_
  refine AGo.region ?_
  refine aq 57 (q_bin (r := .int .i64 3) rfl rfl rfl (by rfl)) ?_
  refine am 47 ?_
  refine an ?_
  refine AGo.un_succ (n := 4) ?_
  refine AGo.sub (s' := ⟨59, (eput (eput (eput (eput (eput eNew 1 (.ptr 0 1 0 0)) 2 (.ptr 1 1 0 0)) 3 (.int .u32 (r : Int))) 5 (.ptr 2 1 0 0)) 47 (.int .i64 3)), (hput (hput (hput (hFrom 3) 0 (.row false 8 [[.int .u32 q5.a3, .int .u32 q5.a4, .int .u32 q5.a5, .int .u32 q5.a3, .int .u32 q5.a4, .int .u32 q5.a5, .int .u32 q5.a6, .int .u32 q5.a7]])) 1 (.row false 8 [[.int .u32 0, .int .u32 0, .int .u32 0, .int .u32 0, .int .u32 0, .int .u32 0, .int .u32 0, .int .u32 0]])) 2 (.row false 8 [q5.cells]))⟩) (Sub.mk' z7q z0q) ?_
  refine asr ?_
  refine aq 48 (q_bin (r := .bool true) rfl rfl rfl (by rfl)) ?_
  refine an ?_
  refine AGo.seq ?_
  refine act ?_
  refine AGo.skip ?_
  refine AGo.seq ?_
  refine AGo.block ?_
  refine asr ?_
  refine am 49 ?_
  refine aa 6 ?_
  refine an ?_
  refine AGo.region ?_
  refine am 50 ?_
  refine am 51 ?_
  refine aq 52 (q_bin (r := .int .i64 6) rfl rfl rfl (by rfl)) ?_
  refine aq 53 (q_bin (r := .int .i64 6) rfl rfl rfl (by rfl)) ?_
  refine aq 54 (q_index_arr tok rfl rfl rfl rfl rfl rfl (by decide) (by decide) rfl) ?_
  refine al 55 tok ?_
  refine aq 56 (q_index_arr tok rfl rfl rfl rfl rfl rfl (by decide) (by decide) rfl) ?_
  refine AOps.w rfl rfl (o_store tok rfl rfl rfl rfl rfl rfl rfl rfl rfl (by decide) rfl z8q) ?_
  refine an ?_
  refine AGo.region ?_
  refine aq 57 (q_bin (r := .int .i64 4) rfl rfl rfl (by rfl)) ?_
  refine am 47 ?_
  refine an ?_
  refine AGo.un_succ (n := 3) ?_
  refine AGo.sub (s' := ⟨59, (eput (eput (eput (eput (eput eNew 1 (.ptr 0 1 0 0)) 2 (.ptr 1 1 0 0)) 3 (.int .u32 (r : Int))) 5 (.ptr 2 1 0 0)) 47 (.int .i64 4)), (hput (hput (hput (hFrom 3) 0 (.row false 8 [[.int .u32 q5.a3, .int .u32 q5.a4, .int .u32 q5.a5, .int .u32 q5.a6, .int .u32 q5.a4, .int .u32 q5.a5, .int .u32 q5.a6, .int .u32 q5.a7]])) 1 (.row false 8 [[.int .u32 0, .int .u32 0, .int .u32 0, .int .u32 0, .int .u32 0, .int .u32 0, .int .u32 0, .int .u32 0]])) 2 (.row false 8 [q5.cells]))⟩) (Sub.mk' z7q z0q) ?_
  refine asr ?_
  refine aq 48 (q_bin (r := .bool true) rfl rfl rfl (by rfl)) ?_
  refine an ?_
  refine AGo.seq ?_
  refine act ?_
  refine AGo.skip ?_
  refine AGo.seq ?_
  refine AGo.block ?_
  refine asr ?_
  refine am 49 ?_
  refine aa 6 ?_
  refine an ?_
  refine AGo.region ?_
  refine am 50 ?_
  refine am 51 ?_
  refine aq 52 (q_bin (r := .int .i64 7) rfl rfl rfl (by rfl)) ?_
  refine aq 53 (q_bin (r := .int .i64 7) rfl rfl rfl (by rfl)) ?_
  refine aq 54 (q_index_arr tok rfl rfl rfl rfl rfl rfl (by decide) (by decide) rfl) ?_
  refine al 55 tok ?_
  refine aq 56 (q_index_arr tok rfl rfl rfl rfl rfl rfl (by decide) (by decide) rfl) ?_
  refine AOps.w rfl rfl (o_store tok rfl rfl rfl rfl rfl rfl rfl rfl rfl (by decide) rfl z8q) ?_
  refine an ?_
  refine AGo.region ?_
  refine aq 57 (q_bin (r := .int .i64 5) rfl rfl rfl (by rfl)) ?_
  refine am 47 ?_
  refine an ?_
  refine AGo.un_succ (n := 2) ?_
  refine AGo.sub (s' := ⟨59, (eput (eput (eput (eput (eput eNew 1 (.ptr 0 1 0 0)) 2 (.ptr 1 1 0 0)) 3 (.int .u32 (r : Int))) 5 (.ptr 2 1 0 0)) 47 (.int .i64 5)), (hput (hput (hput (hFrom 3) 0 (.row false 8 [[.int .u32 q5.a3, .int .u32 q5.a4, .int .u32 q5.a5, .int .u32 q5.a6, .int .u32 q5.a7, .int .u32 q5.a5, .int .u32 q5.a6, .int .u32 q5.a7]])) 1 (.row false 8 [[.int .u32 0, .int .u32 0, .int .u32 0, .int .u32 0, .int .u32 0, .int .u32 0, .int .u32 0, .int .u32 0]])) 2 (.row false 8 [q5.cells]))⟩) (Sub.mk' z7q z0q) ?_
  refine asr ?_
  refine aq 48 (q_bin (r := .bool true) rfl rfl rfl (by rfl)) ?_
  refine an ?_
  refine AGo.seq ?_
  refine act ?_
  refine AGo.skip ?_
  refine AGo.seq ?_
  refine AGo.block ?_
  refine asr ?_
  refine am 49 ?_
  refine aa 6 ?_
  refine an ?_
  refine AGo.region ?_
  refine am 50 ?_
  refine am 51 ?_
  refine aq 52 (q_bin (r := .int .i64 8) rfl rfl rfl (by rfl)) ?_
  refine aq 53 (q_bin (r := .int .i64 0) rfl rfl rfl (by rfl)) ?_
  refine aq 54 (q_index_arr tok rfl rfl rfl rfl rfl rfl (by decide) (by decide) rfl) ?_
  refine al 55 tok ?_
  refine aq 56 (q_index_arr tok rfl rfl rfl rfl rfl rfl (by decide) (by decide) rfl) ?_
  refine AOps.w rfl rfl (o_store tok rfl rfl rfl rfl rfl rfl rfl rfl rfl (by decide) rfl z8q) ?_
  refine an ?_
  refine AGo.region ?_
  refine aq 57 (q_bin (r := .int .i64 6) rfl rfl rfl (by rfl)) ?_
  refine am 47 ?_
  refine an ?_
  refine AGo.un_succ (n := 1) ?_
  refine AGo.sub (s' := ⟨59, (eput (eput (eput (eput (eput eNew 1 (.ptr 0 1 0 0)) 2 (.ptr 1 1 0 0)) 3 (.int .u32 (r : Int))) 5 (.ptr 2 1 0 0)) 47 (.int .i64 6)), (hput (hput (hput (hFrom 3) 0 (.row false 8 [[.int .u32 q5.a3, .int .u32 q5.a4, .int .u32 q5.a5, .int .u32 q5.a6, .int .u32 q5.a7, .int .u32 q5.a0, .int .u32 q5.a6, .int .u32 q5.a7]])) 1 (.row false 8 [[.int .u32 0, .int .u32 0, .int .u32 0, .int .u32 0, .int .u32 0, .int .u32 0, .int .u32 0, .int .u32 0]])) 2 (.row false 8 [q5.cells]))⟩) (Sub.mk' z7q z0q) ?_
  refine asr ?_
  refine aq 48 (q_bin (r := .bool true) rfl rfl rfl (by rfl)) ?_
  refine an ?_
  refine AGo.seq ?_
  refine act ?_
  refine AGo.skip ?_
  refine AGo.seq ?_
  refine AGo.block ?_
  refine asr ?_
  refine am 49 ?_
  refine aa 6 ?_
  refine an ?_
  refine AGo.region ?_
  refine am 50 ?_
  refine am 51 ?_
  refine aq 52 (q_bin (r := .int .i64 9) rfl rfl rfl (by rfl)) ?_
  refine aq 53 (q_bin (r := .int .i64 1) rfl rfl rfl (by rfl)) ?_
  refine aq 54 (q_index_arr tok rfl rfl rfl rfl rfl rfl (by decide) (by decide) rfl) ?_
  refine al 55 tok ?_
  refine aq 56 (q_index_arr tok rfl rfl rfl rfl rfl rfl (by decide) (by decide) rfl) ?_
  refine AOps.w rfl rfl (o_store tok rfl rfl rfl rfl rfl rfl rfl rfl rfl (by decide) rfl z8q) ?_
  refine an ?_
  refine AGo.region ?_
  refine aq 57 (q_bin (r := .int .i64 7) rfl rfl rfl (by rfl)) ?_
  refine am 47 ?_
  refine an ?_
  refine AGo.un_succ (n := 0) ?_
  refine AGo.sub (s' := ⟨59, (eput (eput (eput (eput (eput eNew 1 (.ptr 0 1 0 0)) 2 (.ptr 1 1 0 0)) 3 (.int .u32 (r : Int))) 5 (.ptr 2 1 0 0)) 47 (.int .i64 7)), (hput (hput (hput (hFrom 3) 0 (.row false 8 [[.int .u32 q5.a3, .int .u32 q5.a4, .int .u32 q5.a5, .int .u32 q5.a6, .int .u32 q5.a7, .int .u32 q5.a0, .int .u32 q5.a1, .int .u32 q5.a7]])) 1 (.row false 8 [[.int .u32 0, .int .u32 0, .int .u32 0, .int .u32 0, .int .u32 0, .int .u32 0, .int .u32 0, .int .u32 0]])) 2 (.row false 8 [q5.cells]))⟩) (Sub.mk' z7q z0q) ?_
  refine asr ?_
  refine aq 48 (q_bin (r := .bool true) rfl rfl rfl (by rfl)) ?_
  refine an ?_
  refine AGo.seq ?_
  refine act ?_
  refine AGo.skip ?_
  refine AGo.seq ?_
  refine AGo.block ?_
  refine asr ?_
  refine am 49 ?_
  refine aa 6 ?_
  refine an ?_
  refine AGo.region ?_
  refine am 50 ?_
  refine am 51 ?_
  refine aq 52 (q_bin (r := .int .i64 10) rfl rfl rfl (by rfl)) ?_
  refine aq 53 (q_bin (r := .int .i64 2) rfl rfl rfl (by rfl)) ?_
  refine aq 54 (q_index_arr tok rfl rfl rfl rfl rfl rfl (by decide) (by decide) rfl) ?_
  refine al 55 tok ?_
  refine aq 56 (q_index_arr tok rfl rfl rfl rfl rfl rfl (by decide) (by decide) rfl) ?_
  refine AOps.w rfl rfl (o_store tok rfl rfl rfl rfl rfl rfl rfl rfl rfl (by decide) rfl z8q) ?_
  refine an ?_
  refine AGo.region ?_
  refine aq 57 (q_bin (r := .int .i64 8) rfl rfl rfl (by rfl)) ?_
  refine am 47 ?_
  refine an ?_
  refine AGo.un_zero ?_
  refine AGo.sub (s' := ⟨59, (eput (eput (eput (eput (eput eNew 1 (.ptr 0 1 0 0)) 2 (.ptr 1 1 0 0)) 3 (.int .u32 (r : Int))) 5 (.ptr 2 1 0 0)) 47 (.int .i64 8)), (hput (hput (hput (hFrom 3) 0 (.row false 8 [[.int .u32 q5.a3, .int .u32 q5.a4, .int .u32 q5.a5, .int .u32 q5.a6, .int .u32 q5.a7, .int .u32 q5.a0, .int .u32 q5.a1, .int .u32 q5.a2]])) 1 (.row false 8 [[.int .u32 0, .int .u32 0, .int .u32 0, .int .u32 0, .int .u32 0, .int .u32 0, .int .u32 0, .int .u32 0]])) 2 (.row false 8 [q5.cells]))⟩) (Sub.mk' z7q z0q) ?_
  refine asr ?_
  refine aq 48 (q_bin (r := .bool false) rfl rfl rfl (by rfl)) ?_
  refine an ?_
  refine AGo.seq ?_
  refine acf ?_
  refine AGo.exit ?_
  refine AGo.region ?_
  refine am 9 ?_
  refine aq 10 (q_bin (r := .int .u32 ((r + 1 : Nat) : Int)) rfl rfl rfl (by show some (AV.int .u32 (IntKind.u32.wrap _)) = _; rw [IntKind.wrap_u32]; congr 2; omega)) ?_
  refine aa 3 ?_
  refine an ?_
  exact ⟨r+1, Drop.mk' z4q (by repeat (first | exact HDrop.none _ _ | exact HDrop.tail _ _ | refine HDrop.put ?_ (by first | rfl | (subst hq5 hq4 hq3 hq2 hq1 hq0; rfl)) rfl z6q)), hrl, by omega⟩
 ·
  refine acf ?_
  obtain rfl : r = 8 := by have h := hb1; simp at h; omega
  refine AGo.exit ?_
  refine asr ?_
  refine al 58 tok ?_
  refine AOps.w rfl rfl (o_store tok rfl rfl rfl rfl rfl rfl rfl rfl rfl (by decide) rfl z8q) ?_
  refine an ?_
  refine AGo.ret ?_
  refine ⟨[_], ⟨⟨_, _, _, _, rfl, rfl, .ptr _ _ _ _ _ _ _ _ rfl rfl rfl, rfl⟩, trivial⟩, ?_, rfl⟩
  subst hq0
  rfl
set_option maxRecDepth 100000 in
theorem front_ok (q : St8) : APure Tryd.prog 15 [.agg q.cells] (fun r => r = .agg q.front.cells) := by
 refine APure.of_body (n := 12) tok Tryd.func15 rfl rfl ?_
 refine asr ?_
 refine ax 1 (o_box (sz := 8) 0 rfl rfl rfl rfl (Nat.zero_lt_succ _) rfl) ?_
 refine ax 2 (o_alloc tok 1 rfl rfl rfl rfl (Nat.zero_lt_succ _) rfl) ?_
 refine an ?_
 refine asr ?_
 refine aq 3 (q_index_arr tok rfl rfl rfl rfl rfl rfl (by decide) (by decide) rfl) ?_
 refine al 4 tok ?_
 refine aq 5 (q_index_arr tok rfl rfl rfl rfl rfl rfl (by decide) (by decide) rfl) ?_
 refine al 6 tok ?_
 refine aq 7 (q_index_arr tok rfl rfl rfl rfl rfl rfl (by decide) (by decide) rfl) ?_
 refine al 8 tok ?_
 refine aq 9 (q_index_arr tok rfl rfl rfl rfl rfl rfl (by decide) (by decide) rfl) ?_
 refine al 10 tok ?_
 refine aq 11 (q_build_arr tok rfl rfl rfl rfl rfl rfl (by decide) rfl rfl) ?_
 refine AOps.w rfl rfl (o_store tok rfl rfl rfl rfl rfl rfl rfl rfl rfl (by decide) rfl z8q) ?_
 refine an ?_
 refine AGo.ret ?_
 refine ⟨[_], ⟨⟨_, _, _, _, rfl, rfl, .ptr _ _ _ _ _ _ _ _ rfl rfl rfl, rfl⟩, trivial⟩, ?_, rfl⟩
 rfl
set_option maxRecDepth 100000 in
theorem take_ok (q : St8) (w : W4) : APure Tryd.prog 12 [.agg q.cells, .agg w.cells] (fun r => r = .agg (takeB q w).cells) := by
 refine APure.of_body (n := 21) tok Tryd.func12 rfl rfl ?_
 refine asr ?_
 refine ax 2 (o_box (sz := 8) 0 rfl rfl rfl rfl (Nat.zero_lt_succ _) rfl) ?_
 refine ax 3 (o_box (sz := 4) 1 rfl rfl rfl rfl (Nat.zero_lt_succ _) rfl) ?_
 refine ax 4 (o_alloc tok 2 rfl rfl rfl rfl (Nat.zero_lt_succ _) rfl) ?_
 refine an ?_
 refine AGo.seq ?_
 refine asr ?_
 refine al 7 tok ?_
 refine am 8 ?_
 refine an ?_
 refine AGo.block ?_
 refine AGo.unroll 4 ?_
 refine AGo.un_succ (n := 3) ?_
 refine asr ?_
 refine aq 9 (q_bin (r := .bool true) rfl rfl rfl (by rfl)) ?_
 refine an ?_
 refine AGo.seq ?_
 refine act ?_
 refine AGo.skip ?_
 refine AGo.seq ?_
 refine AGo.block ?_
 refine asr ?_
 refine am 10 ?_
 refine aq 11 (q_index_val tok rfl rfl rfl rfl rfl rfl rfl rfl (by decide) (by decide) rfl) ?_
 refine aa 5 ?_
 refine aa 6 ?_
 refine an ?_
 refine AGo.region ?_
 refine am 12 ?_
 refine aq 13 (q_index_arr tok rfl rfl rfl rfl rfl rfl (by decide) (by decide) rfl) ?_
 refine al 14 tok ?_
 refine am 15 ?_
 refine aqb ?_
 refine aq 17 (q_index_arr tok rfl rfl rfl rfl rfl rfl (by decide) (by decide) rfl) ?_
 refine AOps.w rfl rfl (o_store tok rfl rfl rfl rfl rfl rfl rfl rfl rfl (by decide) rfl z8q) ?_
 refine an ?_
 refine AGo.region ?_
 refine aq 18 (q_bin (r := .int .i64 1) rfl rfl rfl (by rfl)) ?_
 refine am 8 ?_
 refine an ?_
 refine AGo.un_succ (n := 2) ?_
 refine asr ?_
 refine aq 9 (q_bin (r := .bool true) rfl rfl rfl (by rfl)) ?_
 refine an ?_
 refine AGo.seq ?_
 refine act ?_
 refine AGo.skip ?_
 refine AGo.seq ?_
 refine AGo.block ?_
 refine asr ?_
 refine am 10 ?_
 refine aq 11 (q_index_val tok rfl rfl rfl rfl rfl rfl rfl rfl (by decide) (by decide) rfl) ?_
 refine aa 5 ?_
 refine aa 6 ?_
 refine an ?_
 refine AGo.region ?_
 refine am 12 ?_
 refine aq 13 (q_index_arr tok rfl rfl rfl rfl rfl rfl (by decide) (by decide) rfl) ?_
 refine al 14 tok ?_
 refine am 15 ?_
 refine aqb ?_
 refine aq 17 (q_index_arr tok rfl rfl rfl rfl rfl rfl (by decide) (by decide) rfl) ?_
 refine AOps.w rfl rfl (o_store tok rfl rfl rfl rfl rfl rfl rfl rfl rfl (by decide) rfl z8q) ?_
 refine an ?_
 refine AGo.region ?_
 refine aq 18 (q_bin (r := .int .i64 2) rfl rfl rfl (by rfl)) ?_
 refine am 8 ?_
 refine an ?_
 refine AGo.un_succ (n := 1) ?_
 refine asr ?_
 refine aq 9 (q_bin (r := .bool true) rfl rfl rfl (by rfl)) ?_
 refine an ?_
 refine AGo.seq ?_
 refine act ?_
 refine AGo.skip ?_
 refine AGo.seq ?_
 refine AGo.block ?_
 refine asr ?_
 refine am 10 ?_
 refine aq 11 (q_index_val tok rfl rfl rfl rfl rfl rfl rfl rfl (by decide) (by decide) rfl) ?_
 refine aa 5 ?_
 refine aa 6 ?_
 refine an ?_
 refine AGo.region ?_
 refine am 12 ?_
 refine aq 13 (q_index_arr tok rfl rfl rfl rfl rfl rfl (by decide) (by decide) rfl) ?_
 refine al 14 tok ?_
 refine am 15 ?_
 refine aqb ?_
 refine aq 17 (q_index_arr tok rfl rfl rfl rfl rfl rfl (by decide) (by decide) rfl) ?_
 refine AOps.w rfl rfl (o_store tok rfl rfl rfl rfl rfl rfl rfl rfl rfl (by decide) rfl z8q) ?_
 refine an ?_
 refine AGo.region ?_
 refine aq 18 (q_bin (r := .int .i64 3) rfl rfl rfl (by rfl)) ?_
 refine am 8 ?_
 refine an ?_
 refine AGo.un_succ (n := 0) ?_
 refine asr ?_
 refine aq 9 (q_bin (r := .bool true) rfl rfl rfl (by rfl)) ?_
 refine an ?_
 refine AGo.seq ?_
 refine act ?_
 refine AGo.skip ?_
 refine AGo.seq ?_
 refine AGo.block ?_
 refine asr ?_
 refine am 10 ?_
 refine aq 11 (q_index_val tok rfl rfl rfl rfl rfl rfl rfl rfl (by decide) (by decide) rfl) ?_
 refine aa 5 ?_
 refine aa 6 ?_
 refine an ?_
 refine AGo.region ?_
 refine am 12 ?_
 refine aq 13 (q_index_arr tok rfl rfl rfl rfl rfl rfl (by decide) (by decide) rfl) ?_
 refine al 14 tok ?_
 refine am 15 ?_
 refine aqb ?_
 refine aq 17 (q_index_arr tok rfl rfl rfl rfl rfl rfl (by decide) (by decide) rfl) ?_
 refine AOps.w rfl rfl (o_store tok rfl rfl rfl rfl rfl rfl rfl rfl rfl (by decide) rfl z8q) ?_
 refine an ?_
 refine AGo.region ?_
 refine aq 18 (q_bin (r := .int .i64 4) rfl rfl rfl (by rfl)) ?_
 refine am 8 ?_
 refine an ?_
 refine AGo.un_zero ?_
 refine asr ?_
 refine aq 9 (q_bin (r := .bool false) rfl rfl rfl (by rfl)) ?_
 refine an ?_
 refine AGo.seq ?_
 refine acf ?_
 refine AGo.exit ?_
 refine asr ?_
 refine al 19 tok ?_
 refine ax 20 (o_pure rfl Tryd.func23 (by kernel_rfl) rfl rfl rfl (mix_ok (xorIn q w))) ?_
 refine AOps.w rfl rfl (o_store tok rfl rfl rfl rfl rfl rfl rfl rfl rfl (by decide) rfl z8q) ?_
 refine an ?_
 refine AGo.ret ?_
 refine ⟨[_], ⟨⟨_, _, _, _, rfl, rfl, .ptr _ _ _ _ _ _ _ _ rfl rfl rfl, rfl⟩, trivial⟩, ?_, rfl⟩
 rfl
set_option maxRecDepth 100000 in
theorem digOf_ok (z : ByteArray) (hz : z.size ≤ 1000) : APure Tryd.prog 6 [.str z] (fun r => r = .agg (digW z).cells) := by
 have hes := endB_size z
 obtain ⟨htw1, htw2, htw3⟩ := tailB_whole z
 refine APure.of_body (n := 64) tok Tryd.func6 rfl rfl ?_
 refine asr ?_
 refine ax 2 (o_alloc tok 0 rfl rfl rfl rfl (Nat.zero_lt_succ _) rfl) ?_
 refine an ?_
 refine asr ?_
 refine aq 10 (q_build_arr tok rfl rfl rfl rfl rfl rfl (by decide) rfl rfl) ?_
 refine ax 3 (o_alloc tok 1 rfl rfl rfl rfl (Nat.zero_lt_succ _) rfl) ?_
 refine AOps.w rfl rfl (o_store tok rfl rfl rfl rfl rfl rfl rfl rfl rfl (by decide) rfl z8q) ?_
 refine an ?_
 refine asr ?_
 refine am 11 ?_
 refine aq 12 (q_len tok rfl rfl rfl rfl rfl) ?_
 refine aq 13 (q_bin (r := .int .i64 ((z.size / 16 : Nat) : Int)) rfl rfl rfl (quo16N (by omega))) ?_
 refine aq 14 (q_bin (r := .int .i64 ((z.size / 16 * 16 : Nat) : Int)) rfl rfl rfl (mulI (by omega) (by omega) (by omega))) ?_
 refine aa 4 ?_
 refine an ?_
 refine AGo.seq ?_
 refine asr ?_
 refine aa 5 ?_
 refine an ?_
 refine AGo.block ?_
 refine AGo.loopD (γ := Nat) 2 (fun k => ⟨64, (eput (eput (eput (eput (eput eNew 0 (.str z)) 2 (.ptr 0 1 0 0)) 3 (.ptr 1 1 0 0)) 4 (.int .i64 ((z.size / 16 * 16 : Nat) : Int))) 5 (.int .i64 ((16 * k : Nat) : Int))), (hput (hput (hFrom 2) 0 (.row false 4 [[.int .u32 0, .int .u32 0, .int .u32 0, .int .u32 0]])) 1 (.row false 8 [(absorbN z k st1).cells]))⟩) (fun k => k ≤ z.size / 16) (fun k => z.size / 16 - k) 0 (Sub.mk' z7q z0q) (Nat.zero_le _) (fun _ => hput_free (hput_free (fun b hb => hFrom_free hb) rfl) rfl) ?_
 intro k hk
 refine AGo.seq ?_
 refine asr ?_
 refine am 15 ?_
 refine am 16 ?_
 refine aqb ?_
 refine an ?_
 refine AGo.split 17 rfl (fun hb1 => ?_) (fun hb1 => ?_)
 ·
  refine act ?_
  have hk2 : k < z.size / 16 := by have h := hb1; simp only [decide_eq_true_eq] at h; omega
  refine AGo.skip ?_
  refine AGo.seq ?_
  refine AGo.block ?_
  refine AGo.draw mix ?_
  refine dl 20 tok ?_
  refine dm 21 ?_
  refine dm 22 ?_
  refine dx 23 (o_pure rfl Tryd.func13 (by kernel_rfl) rfl rfl rfl (four_ok z (16 * k) (by omega) (by omega))) ?_
  refine dx 24 (o_pure rfl Tryd.func12 (by kernel_rfl) rfl rfl rfl (take_ok (absorbN z k st1) (four z (16 * k)))) ?_
  refine DOps.w rfl rfl (o_store tok rfl rfl rfl rfl rfl rfl rfl rfl rfl (by decide) rfl z8q) ?_
  refine DOps.nil (by kernel_rfl) ?_
  refine AGo.region ?_
  refine am 18 ?_
  refine aq 19 (q_bin (r := .int .i64 ((16 * (k + 1) : Nat) : Int)) rfl rfl rfl (addI (by omega) (by omega) (by omega))) ?_
  refine aa 5 ?_
  refine an ?_
  exact ⟨k+1, Drop.mk' z4q z2q, hk2, by omega⟩
 ·
  refine acf ?_
  obtain rfl : k = z.size / 16 := by have h := hb1; simp only [decide_eq_false_iff_not] at h; omega
  refine AGo.exit ?_
  refine asr ?_
  refine am 25 ?_
  refine am 26 ?_
  refine aq 27 (q_strFrom tok rfl rfl rfl rfl rfl rfl (by omega)) ?_
  refine ax 28 (o_strBytes (z := endB z) tok 2 rfl rfl rfl rfl rfl rfl rfl rfl rfl (by rw [hes]; simp only [maxLen]; omega)) ?_
  refine ax 29 (o_lit' tok rfl rfl rfl rfl rfl rfl (by decide) rfl rfl rfl rfl rfl rfl) ?_
  refine ax 30 (o_append tok (n := (endB z).size) (m := 1) rfl rfl rfl rfl rfl rfl rfl rfl rfl (by rw [byteCells_len, Array.length_toList]; rfl) rfl rfl (Nat.zero_lt_succ _) (.lst _ _) (by intro cs h; simp [partVals] at h; subst h; rfl) (fun _ cs h => by simp [partVals] at h; subst h; rfl) rfl (by simp [partVals, byteCells_len]; omega) (by simp [partVals, byteCells_len]; simp only [maxLen]; omega)) ?_
  refine aa 6 ?_
  refine an ?_
  refine AGo.seq ?_
  refine AGo.block ?_
  refine AGo.loopD (γ := Nat) 3 (fun k => ⟨64, (eput (eput (eput (eput eNew 0 (.str z)) 2 (.ptr 0 1 0 0)) 3 (.ptr 1 1 0 0)) 6 (.ref 2 ((endB z).size + 1 + k) 0 ((endB z).size + 1 + k))), (hput (hput (hput (hFrom 3) 0 (.row false 4 [[.int .u32 0, .int .u32 0, .int .u32 0, .int .u32 0]])) 1 (.row false 8 [(absorbN z (z.size / 16) st1).cells])) 2 (.row true 1 (byteCells (restL z k))))⟩) (fun k => k ≤ padN z.size) (fun k => padN z.size - k) 0 (Sub.mk' z7q (by repeat (first | exact HSub.refl _ | exact HSub.none _ | exact HSub.from_new _ | exact HSub.from_from (by first | decide | omega | (dsimp only; omega)) | refine HSub.put ?_ (by first | rfl | exact congrArg (fun es => some (AObj.row true 1 es)) (by rw [rest_zero, byteCells, byteCells, List.map_append]; rfl)) | refine HSub.from_put ?_ (by first | decide | omega | (dsimp only; omega)) | refine HSub.from_rm ?_ (by decide)))) (Nat.zero_le _) (fun _ => hput_free (hput_free (hput_free (fun b hb => hFrom_free hb) rfl) rfl) rfl) ?_
  intro k hk
  refine AGo.seq ?_
  refine asr ?_
  refine am 31 ?_
  refine aq 32 (q_len tok rfl rfl rfl rfl rfl) ?_
  refine aq 33 (q_bin (r := .int .i64 ((((endB z).size + 1 + k) % 16 : Nat) : Int)) rfl rfl rfl rem16N) ?_
  refine aq 34 (q_bin (r := .bool (!decide (((endB z).size + 1 + k) % 16 = 8))) rfl rfl rfl neq8N) ?_
  refine an ?_
  refine AGo.split 34 rfl (fun hb2 => ?_) (fun hb2 => ?_)
  ·
   refine act ?_
   have hk2 : k < padN z.size := by have h := hb2; simp only [Bool.not_eq_true', decide_eq_false_iff_not] at h; rw [hes] at h; unfold padN at *; omega
   refine AGo.skip ?_
   refine AGo.block ?_
   refine AGo.region ?_
   refine am 35 ?_
   refine ax 36 (o_lit' tok rfl rfl rfl rfl rfl rfl (by decide) rfl rfl rfl rfl rfl rfl) ?_
   refine ax 37 (o_append tok (n := (endB z).size + 1 + k) (m := 1) rfl rfl rfl rfl rfl rfl rfl rfl rfl (by rw [byteCells_len, restL_len, hes]) rfl rfl (Nat.zero_lt_succ _) (.lst _ _) (by intro cs h; simp [partVals] at h; subst h; rfl) (fun _ cs h => by simp [partVals] at h; subst h; rfl) rfl (by simp [partVals, byteCells_len, restL_len]; unfold padN at *; omega) (by simp [partVals, byteCells_len, restL_len]; simp only [maxLen]; unfold padN at *; omega)) ?_
   refine aa 6 ?_
   refine an ?_
   exact ⟨k+1, Drop.mk' z4q (by repeat (first | exact HDrop.none _ _ | exact HDrop.tail _ _ | refine HDrop.put ?_ (by first | rfl | exact congrArg (fun es => some (AObj.row true 1 es)) (by rw [rest_succ, byteCells, byteCells, List.map_append]; rfl)) rfl z6q)), hk2, by omega⟩
  ·
   refine acf ?_
   obtain rfl : k = padN z.size := by have h := hb2; simp only [Bool.not_eq_false', decide_eq_true_eq] at h; rw [hes] at h; unfold padN at *; omega
   refine AGo.exit ?_
   refine asr ?_
   refine am 38 ?_
   refine aq 39 (q_len tok rfl rfl rfl rfl rfl) ?_
   refine aq 40 (q_convInt tok rfl rfl rfl rfl rfl) ?_
   refine aa 7 ?_
   refine an ?_
   refine AGo.seq ?_
   refine AGo.ghost (.freezeW 6 2 rfl rfl (by rw [byteCells_len, restL_len, hes])) ?_
   refine AGo.draw mix ?_
   refine dm 41 ?_
   refine dq 42 (q_bytesStr (l := restL z (padN z.size)) tok rfl rfl rfl rfl rfl rfl rfl rfl) ?_
   refine dm 43 ?_
   refine dq 44 (q_convInt tok rfl rfl rfl rfl rfl) ?_
   refine dm 45 ?_
   refine dq 46 (q_bin rfl rfl rfl rfl) ?_
   refine dq 47 (q_convInt tok rfl rfl rfl rfl rfl) ?_
   refine dx 48 (o_lit' tok rfl rfl rfl rfl rfl rfl (by decide) rfl rfl rfl rfl rfl rfl) ?_
   refine dx 49 (o_pure rfl Tryd.func14 (by kernel_rfl) rfl rfl rfl (wbytes_ok (lenW z) (fun x hx => by simp only [lenW, List.mem_cons, List.not_mem_nil, or_false] at hx; rcases hx with rfl | rfl <;> exact isW_wrap _) (by show 2 ≤ 1000; decide))) ?_
   refine dq 50 (q_strAdd (a := ⟨(restL z (padN z.size)).toArray⟩) (b := ⟨((lenW z).flatMap leBytes).toArray⟩) rfl rfl rfl (tailB_fits z)) ?_
   refine da 8 ?_
   refine DOps.nil (by kernel_rfl) ?_
   refine AGo.seq ?_
   refine asr ?_
   refine aa 9 ?_
   refine an ?_
   refine AGo.block ?_
   refine AGo.loopD (γ := Nat) 3 (fun k => ⟨64, (eput (eput (eput (eput eNew 2 (.ptr 0 1 0 0)) 3 (.ptr 1 1 0 0)) 8 (.str (tailB z))) 9 (.int .i64 ((16 * k : Nat) : Int))), (hput (hput (hFrom 3) 0 (.row false 4 [[.int .u32 0, .int .u32 0, .int .u32 0, .int .u32 0]])) 1 (.row false 8 [(absorbN (tailB z) k (absorbN z (z.size / 16) st1)).cells]))⟩) (fun k => k ≤ (tailB z).size / 16) (fun k => (tailB z).size / 16 - k) 0 (Sub.mk' z7q z0q) (Nat.zero_le _) (fun _ => hput_free (hput_free (fun b hb => hFrom_free hb) rfl) rfl) ?_
   intro k hk
   refine AGo.seq ?_
   refine asr ?_
   refine am 51 ?_
   refine am 52 ?_
   refine aq 53 (q_len tok rfl rfl rfl rfl rfl) ?_
   refine aqb ?_
   refine an ?_
   refine AGo.split 54 rfl (fun hb3 => ?_) (fun hb3 => ?_)
   ·
    refine act ?_
    have hk2 : k < (tailB z).size / 16 := by have h := hb3; simp only [decide_eq_true_eq] at h; omega
    refine AGo.skip ?_
    refine AGo.seq ?_
    refine AGo.block ?_
    refine AGo.draw mix ?_
    refine dl 57 tok ?_
    refine dm 58 ?_
    refine dm 59 ?_
    refine dx 60 (o_pure rfl Tryd.func13 (by kernel_rfl) rfl rfl rfl (four_ok (tailB z) (16 * k) (by omega) (by omega))) ?_
    refine dx 61 (o_pure rfl Tryd.func12 (by kernel_rfl) rfl rfl rfl (take_ok (absorbN (tailB z) k (absorbN z (z.size / 16) st1)) (four (tailB z) (16 * k)))) ?_
    refine DOps.w rfl rfl (o_store tok rfl rfl rfl rfl rfl rfl rfl rfl rfl (by decide) rfl z8q) ?_
    refine DOps.nil (by kernel_rfl) ?_
    refine AGo.region ?_
    refine am 55 ?_
    refine aq 56 (q_bin (r := .int .i64 ((16 * (k + 1) : Nat) : Int)) rfl rfl rfl (addI (by omega) (by omega) (by omega))) ?_
    refine aa 9 ?_
    refine an ?_
    exact ⟨k+1, Drop.mk' z4q z2q, hk2, by omega⟩
   ·
    refine acf ?_
    obtain rfl : k = (tailB z).size / 16 := by have h := hb3; simp only [decide_eq_false_iff_not] at h; omega
    refine AGo.exit ?_
    refine asr ?_
    refine al 62 tok ?_
    refine ax 63 (o_pure rfl Tryd.func15 (by kernel_rfl) rfl rfl rfl (front_ok (absorbN (tailB z) ((tailB z).size / 16) (absorbN z (z.size / 16) st1)))) ?_
    refine AOps.w rfl rfl (o_store tok rfl rfl rfl rfl rfl rfl rfl rfl rfl (by decide) rfl z8q) ?_
    refine an ?_
    refine AGo.ret ?_
    refine ⟨[_], ⟨⟨_, _, _, _, rfl, rfl, .ptr _ _ _ _ _ _ _ _ rfl rfl rfl, rfl⟩, trivial⟩, ?_, rfl⟩
    rfl
set_option maxRecDepth 100000 in
theorem find1_ok (z : ByteArray) (d : W4) (hz : z.size ≤ 1000) : ACall Tryd.prog 25 ([] ++ [.str z] ++ [.ptr 1 1 0 0]) (hput hNew 1 (.row false 4 [d.cells])) (fun r h' => r = .bool (decide (digW z = d)) ∧ HSub (hput hNone 1 (.row false 4 [d.cells])) h') := by
 refine ACall.of_body (n := 8) tok Tryd.func25 rfl rfl ?_
 refine asr ?_
 refine aa 3 ?_
 refine an ?_
 refine AGo.seq ?_
 refine AGo.draw mix ?_
 refine dm 4 ?_
 refine dx 5 (o_pure rfl Tryd.func6 (by kernel_rfl) rfl rfl rfl (digOf_ok z hz)) ?_
 refine dl 6 tok ?_
 refine dq 7 (q_eqDig tok (digW z) (d) (r := decide (digW z = d)) rfl rfl rfl (by kernel_rfl) rfl rfl rfl rfl rfl (by kernel_rfl) rfl) ?_
 refine da 3 ?_
 refine DOps.nil (by kernel_rfl) ?_
 refine AGo.ret ?_
 exact ⟨[_], ⟨rfl, trivial⟩, rfl, (HSub.put (HSub.none _) z1q)⟩
set_option maxRecDepth 100000 in
theorem indexf_ok (l : List ByteArray) (d : W4) (hl : l.length ≤ 1000) (hs : ∀ z ∈ l, z.size ≤ 1000) : ACall Tryd.prog 24 [strsAV l, (.fn (.func 25) [] [.ptr 1 1 0 0])] (hput hNew 1 (.row false 4 [d.cells])) (fun r h' => r = .int .i64 (findI (digsL l) d) ∧ HSub (hput hNone 1 (.row false 4 [d.cells])) h') := by
 refine ACall.of_body (n := 19) tok Tryd.func24 rfl rfl ?_
 refine asr ?_
 refine aa 4 ?_
 refine an ?_
 refine AGo.seq ?_
 refine asr ?_
 refine am 6 ?_
 refine aq 7 (q_len tok rfl rfl rfl rfl rfl) ?_
 refine am 8 ?_
 refine an ?_
 refine AGo.block ?_
 refine AGo.loopD (γ := Nat) 5 (fun k => ⟨19, (eput (eput (eput (eput eNew 0 (strsAV l)) 1 (.fn (.func 25) [] [.ptr 1 1 0 0])) 7 (.int .i64 ((l.map fun s => [AV.str s]).length : Int))) 8 (.int .i64 (k : Int))), (hput (hFrom 5) 1 (.row false 4 [d.cells]))⟩) (fun k => ∀ j, j < k → ∀ y, (digsL l)[j]? = some y → y ≠ d) (fun k => l.length - k) 0 (Sub.mk' z7q z0q) (fun j h => absurd h (Nat.not_lt_zero j)) (fun _ => hput_free (fun b hb => hFrom_free hb) rfl) ?_
 intro k hF
 refine asr ?_
 refine aqb ?_
 refine an ?_
 refine AGo.seq ?_
 refine AGo.split 9 rfl (fun hb1 => ?_) (fun hb1 => ?_)
 ·
  refine act ?_
  have hkl : k < l.length := by have h := hb1; simp at h; omega
  obtain ⟨z, hz⟩ := get_of_lt hkl
  refine AGo.skip ?_
  refine AGo.seq ?_
  refine AGo.block ?_
  refine asr ?_
  refine am 10 ?_
  refine aa 5 ?_
  refine an ?_
  refine asr ?_
  refine am 11 ?_
  refine am 12 ?_
  refine am 13 ?_
  refine aq 14 (q_index_lst tok rfl rfl rfl rfl rfl rfl (Int.natCast_nonneg _) (str_at hz) rfl) ?_
  refine al 15 tok ?_
  refine ax 16 (o_callFSee 1 rfl rfl Tryd.func25 (by kernel_rfl) rfl rfl rfl rfl rfl rfl (find1_ok z d (hs z (List.mem_of_getElem? hz)))) ?_
  refine an ?_
  refine AGo.split 16 rfl (fun hb2 => ?_) (fun hb2 => ?_)
  ·
   refine act ?_
   have hd : digW z = d := by simpa using hb2
   refine asr ?_
   refine am 17 ?_
   refine aa 4 ?_
   refine an ?_
   refine AGo.ret ?_
   refine ⟨[_], ⟨rfl, trivial⟩, ?_, (HSub.put (HSub.none _) z1q)⟩
   rw [findI_at (digsL_get hz) hd hF]
   rfl
  ·
   refine acf ?_
   have hd : digW z ≠ d := by simpa using hb2
   refine AGo.skip ?_
   refine AGo.region ?_
   refine aq 18 (q_inc rfl rfl hkl (by simp only [maxLen]; omega)) ?_
   refine am 8 ?_
   refine an ?_
   exact ⟨k+1, Drop.mk' z4q z2q, (fun j hj y hy => by
     rcases Nat.lt_or_ge j k with h | h
     · exact hF j h y hy
     · have : j = k := by omega
       subst this
       rw [digsL_get hz] at hy; cases hy; exact hd), by omega⟩
 ·
  refine acf ?_
  have hge : l.length ≤ k := by have h := hb1; simp at h; omega
  refine AGo.exit ?_
  refine asr ?_
  refine aa 4 ?_
  refine an ?_
  refine AGo.ret ?_
  refine ⟨[_], ⟨rfl, trivial⟩, ?_, (HSub.put (HSub.none _) z1q)⟩
  rw [findI_no (fun j y hy => hF j (by have := (List.getElem?_eq_some_iff.1 hy).1; rw [digsL_len] at this; omega) y hy)]
  rfl
set_option maxRecDepth 100000 in
theorem find_ok (l : List ByteArray) (d : W4) (hl : l.length ≤ 1000) (hs : ∀ z ∈ l, z.size ≤ 1000) : APure Tryd.prog 16 [storeAV l, .agg d.cells] (fun r => r = .int .i64 (findI (digsL l) d)) := by
 refine APure.of_body (n := 9) tok Tryd.func16 rfl rfl ?_
 refine asr ?_
 refine ax 2 (o_box (sz := 1) 0 rfl rfl rfl rfl (Nat.zero_lt_succ _) rfl) ?_
 refine ax 3 (o_box (sz := 4) 1 rfl rfl rfl rfl (Nat.zero_lt_succ _) rfl) ?_
 refine aa 4 ?_
 refine an ?_
 refine asr ?_
 refine af 5 tok ?_
 refine al 6 tok ?_
 refine aq 7 (q_makeFunc rfl rfl rfl) ?_
 refine ax 8 (o_callSee 1 rfl Tryd.func24 (by kernel_rfl) rfl rfl rfl rfl rfl rfl (indexf_ok l d hl hs)) ?_
 refine aa 4 ?_
 refine an ?_
 refine AGo.ret ?_
 refine ⟨[_], ⟨rfl, trivial⟩, ?_, rfl⟩
 rfl
set_option maxRecDepth 100000 in
theorem add_ok (l : List ByteArray) (a : ByteArray) (hl : l.length < 1000) (hs : ∀ z ∈ l, z.size ≤ 1000) (ha : a.size ≤ 1000) : APure Tryd.prog 11 [storeAV l, .str a] (fun r => r = .tup [storeAV (addS l a).1, .int .i64 (addS l a).2.1, .int .i64 (addS l a).2.2]) := by
 have hsl : (l.map fun s => [AV.str s]).length = l.length := List.length_map _
 refine APure.of_body (n := 41) tok Tryd.func11 rfl rfl ?_
 refine asr ?_
 refine ax 2 (o_box (sz := 1) 0 rfl rfl rfl rfl (Nat.zero_lt_succ _) rfl) ?_
 refine ax 4 (o_alloc tok 1 rfl rfl rfl rfl (Nat.zero_lt_succ _) rfl) ?_
 refine aa 5 ?_
 refine aa 6 ?_
 refine an ?_
 refine AGo.seq ?_
 refine AGo.seq ?_
 refine AGo.draw mix ?_
 refine dl 9 tok ?_
 refine dm 10 ?_
 refine dx 11 (o_pure rfl Tryd.func6 (by kernel_rfl) rfl rfl rfl (digOf_ok a ha)) ?_
 refine dx 12 (o_pure rfl Tryd.func16 (by kernel_rfl) rfl rfl rfl (find_ok l (digW a) (by omega) hs)) ?_
 refine da 7 ?_
 refine DOps.nil (by kernel_rfl) ?_
 refine asr ?_
 refine am 13 ?_
 refine aqb ?_
 refine an ?_
 refine AGo.split 14 rfl (fun hb1 => ?_) (fun hb1 => ?_)
 ·
  refine act ?_
  have hn : 0 ≤ findI (digsL l) (digW a) := by have h := hb1; simp at h; omega
  obtain ⟨k, z, hk, hz, hzd, hkd, hkl⟩ := find_in hn
  refine AGo.seq ?_
  refine AGo.seq ?_
  rw [hk]
  refine AGo.region ?_
  refine af 15 tok ?_
  refine al 16 tok ?_
  refine am 17 ?_
  refine aq 18 (q_index_lst tok rfl rfl rfl rfl rfl rfl (Int.natCast_nonneg _) (str_at hz) rfl) ?_
  refine al 19 tok ?_
  refine am 20 ?_
  refine aqb ?_
  refine an ?_
  refine AGo.split 21 rfl (fun hb2 => ?_) (fun hb2 => ?_)
  ·
   refine act ?_
   have hza : z ≠ a := by have h := hb2; intro e; subst e; simp at h
   refine asr ?_
   refine aq 22 (QLoc.weakM (y := storeAV []) (q_build tok rfl rfl rfl rfl rfl (by decide) rfl rfl rfl) (fun H ι v h => agg_nil1 h)) ?_
   refine AOps.w rfl rfl (o_store tok rfl rfl rfl rfl rfl rfl rfl rfl rfl (by decide) rfl z8q) ?_
   refine aa 5 ?_
   refine aa 6 ?_
   refine an ?_
   refine AGo.ret ?_
   refine ⟨[_, _, _], ⟨⟨_, _, _, _, rfl, rfl, .ptr _ _ _ _ _ _ _ _ rfl rfl rfl, rfl⟩, rfl, rfl, trivial⟩, ?_, rfl⟩
   rw [addS_bad hn hk hz hza]; rfl
  ·
   refine acf ?_
   have hza : z = a := str_eq hb2
   refine AGo.skip ?_
   refine asr ?_
   refine al 23 tok ?_
   refine am 24 ?_
   refine AOps.w rfl rfl (o_store tok rfl rfl rfl rfl rfl rfl rfl rfl rfl (by decide) rfl z8q) ?_
   refine aa 5 ?_
   refine aa 6 ?_
   refine an ?_
   refine AGo.ret ?_
   refine ⟨[_, _, _], ⟨⟨_, _, _, _, rfl, rfl, .ptr _ _ _ _ _ _ _ _ rfl rfl rfl, rfl⟩, rfl, rfl, trivial⟩, ?_, rfl⟩
   rw [addS_old hn hk hz hza]; rfl
 ·
  refine acf ?_
  have hn : ¬ 0 ≤ findI (digsL l) (digW a) := by have h := hb1; simp at h; omega
  refine AGo.skip ?_
  refine asr ?_
  refine af 25 tok ?_
  refine al 26 tok ?_
  refine aq 27 (q_len tok rfl rfl rfl rfl rfl) ?_
  refine aa 8 ?_
  refine an ?_
  refine AGo.seq ?_
  refine asr ?_
  refine am 28 ?_
  refine aq 29 (q_bin (r := .bool false) rfl rfl rfl z5q) ?_
  refine an ?_
  refine acf ?_
  refine AGo.skip ?_
  refine asr ?_
  refine af 31 tok ?_
  refine al 32 tok ?_
  refine am 33 ?_
  refine am 34 ?_
  refine aq 35 (q_slice3 tok rfl rfl rfl rfl rfl rfl rfl) ?_
  refine am 36 ?_
  refine ax 37 (o_lit' tok rfl rfl rfl rfl rfl rfl (by decide) rfl rfl rfl rfl rfl rfl) ?_
  refine ax 38 (o_appendJ (f := true) (sz := 1) (es := (l.map fun s => [AV.str s])) tok 2 rfl rfl rfl rfl rfl rfl rfl rfl rfl rfl rfl (Nat.zero_lt_succ _) (str_len l) (str_pure l) (by intro cs h; simp [partVals] at h; subst h; rfl) (by intro cs h; simp [partVals] at h; subst h; rfl) (by rw [hsl]; simp [partVals]; show (_ + 1) * 16 ≤ _; omega) (by rw [hsl]; simp [partVals]; simp only [maxLen]; omega)) ?_
  refine aq 39 (q_build tok rfl rfl rfl rfl rfl (by decide) rfl rfl rfl) ?_
  refine am 40 ?_
  refine AOps.w rfl rfl (o_store tok rfl rfl rfl rfl rfl rfl rfl rfl rfl (by decide) rfl z8q) ?_
  refine aa 5 ?_
  refine aa 6 ?_
  refine an ?_
  refine AGo.ghost (.freezeCell 1 0 0 2 rfl rfl rfl rfl (by simp [partVals]) (by decide)) ?_
  refine AGo.ret ?_
  refine ⟨[_, _, _], ⟨⟨_, _, _, _, rfl, rfl, .ptr _ _ _ _ _ _ _ _ rfl rfl rfl, rfl⟩, rfl, rfl, trivial⟩, ?_, rfl⟩
  rw [addS_new hn]
  show AV.tup [.agg [.lst false _], .int .i64 _, .int .i64 0] = AV.tup [.agg [.lst false _], .int .i64 _, .int .i64 0]
  rw [List.drop_zero, List.take_of_length_le (Nat.le_refl _), hsl]
  exact congrArg (fun es => AV.tup [.agg [.lst false es], .int .i64 (l.length : Int), .int .i64 0]) (str_app l a)
set_option maxRecDepth 100000 in
theorem filled_ok (l : List ByteArray) (hl : l.length ≤ 12) (hs : ∀ z ∈ l, z.size ≤ 300) : APure Tryd.prog 5 [strsAV l] (fun r => r = .tup [storeAV (fillS [] l).1, .bool (fillS [] l).2]) := by
 refine APure.of_body (n := 30) tok Tryd.func5 rfl rfl ?_
 refine asr ?_
 refine ax 2 (o_alloc tok 0 rfl rfl rfl rfl (Nat.zero_lt_succ _) rfl) ?_
 refine aa 3 ?_
 refine an ?_
 refine asr ?_
 refine ax 4 (o_alloc tok 1 rfl rfl rfl rfl (Nat.zero_lt_succ _) rfl) ?_
 refine an ?_
 refine AGo.seq ?_
 refine AGo.seq ?_
 refine AGo.ghost (Ghost.weakRowF 1 (es' := [[.lst false []]]) rfl rfl weak_str) ?_
 refine AGo.region ?_
 refine aa 5 ?_
 refine an ?_
 refine AGo.block ?_
 refine AGo.loopD (γ := Nat × List ByteArray) 2 (fun p => ⟨30, (eput (eput (eput (eput eNew 0 (strsAV l)) 2 (.ptr 0 1 0 0)) 4 (.ptr 1 1 0 0)) 5 (.int .i64 (p.1 : Int))), (hput (hput (hFrom 2) 0 (.row false 1 [[.nil]])) 1 (.row false 1 [[strsAV p.2]]))⟩) (fun p => Stored p.1 p.2 ∧ fillS p.2 (l.drop p.1) = fillS [] l) (fun p => l.length - p.1) (0, []) (Sub.mk' z7q z0q) ⟨⟨Nat.zero_le _, fun z h => by cases h⟩, rfl⟩ (fun _ => hput_free (hput_free (fun b hb => hFrom_free hb) rfl) rfl) ?_
 intro p hF
 refine AGo.seq ?_
 refine asr ?_
 refine am 9 ?_
 refine am 10 ?_
 refine aq 11 (q_len tok rfl rfl rfl rfl rfl) ?_
 refine aqb ?_
 refine an ?_
 refine AGo.split 12 rfl (fun hb1 => ?_) (fun hb1 => ?_)
 ·
  refine act ?_
  have hkl : p.1 < l.length := by have h := hb1; simp at h; omega
  obtain ⟨z, hz⟩ := get_of_lt hkl
  refine AGo.skip ?_
  refine AGo.seq ?_
  refine AGo.block ?_
  refine AGo.seq ?_
  refine AGo.draw mix ?_
  refine dl 16 tok ?_
  refine dm 17 ?_
  refine dm 18 ?_
  refine dq 19 (q_index_lst tok rfl rfl rfl rfl rfl rfl (Int.natCast_nonneg _) (str_at hz) rfl) ?_
  refine dl 20 tok ?_
  refine dx 21 (o_pure rfl Tryd.func11 (by kernel_rfl) rfl rfl rfl (add_ok p.2 z (by have := hF.1.len; omega) (fun y hy => by have := hF.1.each y hy; omega) (by have := hs z (List.mem_of_getElem? hz); omega))) ?_
  refine dm 15 ?_
  refine dq 22 (q_extract rfl rfl rfl) ?_
  refine dq 23 (q_extract rfl rfl rfl) ?_
  refine dq 24 (q_extract rfl rfl rfl) ?_
  refine dx 6 (o_alloc tok 2 rfl rfl rfl rfl (Nat.zero_lt_succ _) rfl) ?_
  refine DOps.w rfl rfl (o_store tok rfl rfl rfl rfl rfl rfl rfl rfl rfl (by decide) rfl z8q) ?_
  refine da 7 ?_
  refine da 8 ?_
  refine DOps.nil (by kernel_rfl) ?_
  refine AGo.seq ?_
  refine asr ?_
  refine am 25 ?_
  refine aqb ?_
  refine an ?_
  refine AGo.split 26 rfl (fun hb2 => ?_) (fun hb2 => ?_)
  ·
   refine act ?_
   have he : (addS p.2 z).2.2 ≠ 0 := by simpa using hb2
   refine asr ?_
   refine al 27 tok ?_
   refine AOps.w rfl rfl (o_store tok rfl rfl rfl rfl rfl rfl rfl rfl rfl (by decide) rfl z8q) ?_
   refine aa 3 ?_
   refine an ?_
   refine AGo.ret ?_
   refine ⟨[_, _], ⟨⟨_, _, _, _, rfl, rfl, .ptr _ _ _ _ _ _ _ _ rfl rfl rfl, rfl⟩, rfl, trivial⟩, ?_, rfl⟩
   rw [← hF.2, fill_bad hz he]; rfl
  ·
   refine acf ?_
   have he : (addS p.2 z).2.2 = 0 := by simpa using hb2
   refine AGo.skip ?_
   refine AGo.region ?_
   refine al 28 tok ?_
   refine AOps.w rfl rfl (o_store tok rfl rfl rfl rfl rfl rfl rfl rfl rfl (by decide) rfl z8q) ?_
   refine an ?_
   refine AGo.region ?_
   refine am 13 ?_
   refine aq 14 (q_inc rfl rfl hkl (by simp only [maxLen]; omega)) ?_
   refine aa 5 ?_
   refine an ?_
   exact ⟨(p.1 + 1, (addS p.2 z).1), Drop.mk' z4q z2q, ⟨addS_ok hF.1 (hs z (List.mem_of_getElem? hz)), (fill_go hz he).symm.trans hF.2⟩, (by show l.length - (p.1 + 1) < l.length - p.1; omega)⟩
 ·
  refine acf ?_
  have hge : l.length ≤ p.1 := by have h := hb1; simp at h; omega
  refine AGo.exit ?_
  refine asr ?_
  refine al 29 tok ?_
  refine AOps.w rfl rfl (o_store tok rfl rfl rfl rfl rfl rfl rfl rfl rfl (by decide) rfl z8q) ?_
  refine aa 3 ?_
  refine an ?_
  refine AGo.ret ?_
  refine ⟨[_, _], ⟨⟨_, _, _, _, rfl, rfl, .ptr _ _ _ _ _ _ _ _ rfl rfl rfl, rfl⟩, rfl, trivial⟩, ?_, rfl⟩
  rw [← hF.2, fill_end hge]; rfl
set_option maxRecDepth 100000 in
theorem texts_ok (l : List ByteArray) (hl : l.length ≤ maxLen) : APure Tryd.prog 4 [strsAV l] (fun r => r = .bool (textsB l)) := by
 refine APure.of_body (n := 23) tok Tryd.func4 rfl rfl ?_
 refine asr ?_
 refine aa 2 ?_
 refine an ?_
 refine AGo.seq ?_
 refine asr ?_
 refine aa 3 ?_
 refine an ?_
 refine AGo.block ?_
 refine AGo.loopD (γ := Nat) 0 (fun k => ⟨23, (eput (eput eNew 0 (strsAV l)) 3 (.int .i64 (k : Int))), (hFrom 0)⟩) (fun k => k ≤ 13 ∧ (l.take k).all (fun s => decide (s.size ≤ 300)) = true) (fun k => l.length - k) 0 (Sub.mk' z7q z0q) ⟨Nat.zero_le _, rfl⟩ (fun _ => fun b hb => hFrom_free hb) ?_
 intro k hF
 refine AGo.seq ?_
 refine asr ?_
 refine am 4 ?_
 refine am 5 ?_
 refine aq 6 (q_len tok rfl rfl rfl rfl rfl) ?_
 refine aqb ?_
 refine am 8 ?_
 refine AOps.split 8 rfl (fun hb1 => ?_) (fun hb1 => ?_)
 ·
  refine am 9 ?_
  refine aqb ?_
  refine apt ?_
  refine an ?_
  refine AGo.split 11 rfl (fun hb2 => ?_) (fun hb2 => ?_)
  ·
   refine act ?_
   have hkl : k < l.length ∧ k < 13 := by have h1 := hb1; have h := hb2; simp at h1 h; omega
   obtain ⟨z, hz⟩ := get_of_lt hkl.1
   refine AGo.skip ?_
   refine AGo.seq ?_
   refine AGo.block ?_
   refine asr ?_
   refine am 14 ?_
   refine am 15 ?_
   refine aq 16 (q_index_lst tok rfl rfl rfl rfl rfl rfl (Int.natCast_nonneg _) (str_at hz) rfl) ?_
   refine al 17 tok ?_
   refine aq 18 (q_len tok rfl rfl rfl rfl rfl) ?_
   refine aqb ?_
   refine an ?_
   refine AGo.split 19 rfl (fun hb3 => ?_) (fun hb3 => ?_)
   ·
    refine act ?_
    have hzs : ¬ z.size ≤ 300 := by have h := hb3; simp at h; omega
    refine asr ?_
    refine aa 2 ?_
    refine an ?_
    refine AGo.ret ?_
    refine ⟨[_], ⟨rfl, trivial⟩, ?_, rfl⟩
    rw [text_bad hz hkl.2 hzs]; rfl
   ·
    refine acf ?_
    have hzs : z.size ≤ 300 := by have h := hb3; simp at h; omega
    refine AGo.skip ?_
    refine AGo.region ?_
    refine am 12 ?_
    refine aq 13 (q_inc rfl rfl hkl.1 hl) ?_
    refine aa 3 ?_
    refine an ?_
    exact ⟨k+1, Drop.mk' z4q z2q, ⟨hkl.2, text_next hz hF.2 hzs⟩, by omega⟩
  ·
   refine acf ?_
   refine AGo.exit ?_
   refine asr ?_
   refine am 20 ?_
   refine aq 21 (q_len tok rfl rfl rfl rfl rfl) ?_
   refine aqb ?_
   refine aa 2 ?_
   refine an ?_
   refine AGo.ret ?_
   refine ⟨[_], ⟨rfl, trivial⟩, ?_, rfl⟩
   have hge : l.length ≤ k ∨ 13 ≤ k := by (try have h1 := hb1); (try have h2 := hb2); simp at *; omega
   rw [text_end hF.1 hF.2 hge]
   show AV.bool _ = AV.bool _
   congr 1
   rw [List.length_map]; exact decide_eq_decide.2 (by omega)
 ·
  iterate 2 refine ak _ ?_
  refine apf ?_
  refine an ?_
  refine acf ?_
  refine AGo.exit ?_
  refine asr ?_
  refine am 20 ?_
  refine aq 21 (q_len tok rfl rfl rfl rfl rfl) ?_
  refine aqb ?_
  refine aa 2 ?_
  refine an ?_
  refine AGo.ret ?_
  refine ⟨[_], ⟨rfl, trivial⟩, ?_, rfl⟩
  have hge : l.length ≤ k ∨ 13 ≤ k := by (try have h1 := hb1); (try have h2 := hb2); simp at *; omega
  rw [text_end hF.1 hF.2 hge]
  show AV.bool _ = AV.bool _
  congr 1
  rw [List.length_map]; exact decide_eq_decide.2 (by omega)
set_option maxRecDepth 100000 in
theorem half_ok (n : Nat) (h2 : 2 ≤ n) (hn : n ≤ 100000) : APure Tryd.prog 28 [.int .i64 (n : Int)] (fun r => r = .int .i64 (half n : Int)) := by
 refine APure.of_body (n := 12) tok Tryd.func28 rfl rfl ?_
 refine asr ?_
 refine aa 2 ?_
 refine an ?_
 refine asr ?_
 refine aa 3 ?_
 refine an ?_
 refine AGo.seq ?_
 refine AGo.block ?_
 refine AGo.loopD (γ := Nat) 0 (fun k => ⟨12, (eput (eput eNew 0 (.int .i64 (n : Int))) 3 (.int .i64 (k : Int))), (hFrom 0)⟩) (fun k => 1 ≤ k ∧ k ≤ n ∧ halfL n k n = half n) (fun k => n - k) 1 (Sub.mk' z7q z0q) ⟨Nat.le_refl _, by omega, half_start n⟩ (fun _ => fun b hb => hFrom_free hb) ?_
 intro k hk
 refine AGo.seq ?_
 refine asr ?_
 refine am 4 ?_
 refine am 5 ?_
 refine am 6 ?_
 refine aq 7 (q_bin (r := .int .i64 ((n : Int) - (k : Int))) rfl rfl rfl (by simp only [evalBin, evalInt, isShift, cond_false, if_true]; rw [wrap_i64 (by omega) (by omega)])) ?_
 refine aqb ?_
 refine an ?_
 refine AGo.split 8 rfl (fun hb1 => ?_) (fun hb1 => ?_)
 ·
  refine act ?_
  have hlt : k < n - k := by have h := hb1; simp at h; first | omega | simp [h]
  refine AGo.skip ?_
  refine AGo.block ?_
  refine AGo.region ?_
  refine am 9 ?_
  refine aq 10 (q_bin (r := .int .i64 ((k * 2 : Nat) : Int)) rfl rfl rfl (by simp only [evalBin, evalInt, isShift, cond_false, if_true]; rw [wrap_i64 (by omega) (by omega)]; rfl)) ?_
  refine aa 3 ?_
  refine an ?_
  exact ⟨k*2, Drop.mk' z4q z2q, ⟨by omega, by omega, half_next hk.1 hlt hk.2.2⟩, by omega⟩
 ·
  refine acf ?_
  have hge : ¬ k < n - k := by have h := hb1; simp at h; first | omega | simp [h]
  refine AGo.exit ?_
  refine asr ?_
  refine am 11 ?_
  refine aa 2 ?_
  refine an ?_
  refine AGo.ret ?_
  refine ⟨[_], ⟨rfl, trivial⟩, ?_, rfl⟩
  rw [← half_end hk.1 hge hk.2.2]; rfl
set_option maxRecDepth 100000 in
theorem pair_ok (a b : W4) : APure Tryd.prog 30 [.agg a.cells, .agg b.cells] (fun r => r = .agg (pairW a b).cells) := by
 refine APure.of_body (n := 11) tok Tryd.func30 rfl rfl ?_
 refine asr ?_
 refine ax 2 (o_box (sz := 4) 0 rfl rfl rfl rfl (Nat.zero_lt_succ _) rfl) ?_
 refine ax 3 (o_box (sz := 4) 1 rfl rfl rfl rfl (Nat.zero_lt_succ _) rfl) ?_
 refine ax 4 (o_alloc tok 2 rfl rfl rfl rfl (Nat.zero_lt_succ _) rfl) ?_
 refine an ?_
 refine AGo.seq ?_
 refine AGo.draw mix ?_
 refine dq 5 (q_build_arr tok rfl rfl rfl rfl rfl rfl (by decide) rfl rfl) ?_
 refine dl 6 tok ?_
 refine dx 7 (o_pure rfl Tryd.func12 (by kernel_rfl) rfl rfl rfl (take_ok st2 a)) ?_
 refine dl 8 tok ?_
 refine dx 9 (o_pure rfl Tryd.func12 (by kernel_rfl) rfl rfl rfl (take_ok (takeB st2 a) b)) ?_
 refine dx 10 (o_pure rfl Tryd.func15 (by kernel_rfl) rfl rfl rfl (front_ok (takeB (takeB st2 a) b))) ?_
 refine DOps.w rfl rfl (o_store tok rfl rfl rfl rfl rfl rfl rfl rfl rfl (by decide) rfl z8q) ?_
 refine DOps.nil (by kernel_rfl) ?_
 refine AGo.ret ?_
 refine ⟨[_], ⟨⟨_, _, _, _, rfl, rfl, .ptr _ _ _ _ _ _ _ _ rfl rfl rfl, rfl⟩, trivial⟩, ?_, rfl⟩
 rfl
set_option maxRecDepth 100000 in
theorem last_ok (q : Rest) (hq : q.l.length ≤ 100000) : ACall Tryd.prog 29 [.ptr 7 1 0 0] (hput hNew 7 (.row false 2 [restC q])) (fun r' h' => r' = .agg q.last.1.cells ∧ HSub (hput hNone 7 (.row false 2 [restC q.last.2])) h') := by
 refine ACall.of_body (n := 41) tok Tryd.func29 rfl rfl ?_
 refine asr ?_
 refine ax 2 (o_alloc tok 8 rfl rfl rfl rfl (Nat.zero_lt_succ _) rfl) ?_
 refine an ?_
 refine AGo.seq ?_
 refine asr ?_
 refine am 4 ?_
 refine aq 5 (q_nilCheck rfl rfl rfl) ?_
 refine af 6 tok ?_
 refine al 7 tok ?_
 refine aq 8 (q_len tok rfl rfl rfl rfl rfl) ?_
 refine aqb ?_
 refine an ?_
 refine AGo.split 9 rfl (fun hb1 => ?_) (fun hb1 => ?_)
 ·
  refine act ?_
  have h0 : q.l.length = 0 := by have h := hb1; simp at h; first | omega | simp [h]
  refine asr ?_
  refine am 10 ?_
  refine aq 11 (q_nilCheck rfl rfl rfl) ?_
  refine af 12 tok ?_
  refine AOps.w rfl rfl (o_store tok rfl rfl rfl rfl rfl rfl rfl rfl rfl (by decide) rfl z8q) ?_
  refine an ?_
  refine asr ?_
  refine aq 13 (q_build_arr tok rfl rfl rfl rfl rfl rfl (by decide) rfl rfl) ?_
  refine AOps.w rfl rfl (o_store tok rfl rfl rfl rfl rfl rfl rfl rfl rfl (by decide) rfl z8q) ?_
  refine an ?_
  refine AGo.ret ?_
  refine ⟨[_], ⟨⟨_, _, _, _, rfl, rfl, .ptr _ _ _ _ _ _ _ _ rfl rfl rfl, rfl⟩, trivial⟩, ?_, ?_⟩
  · rw [last_nil h0]; rfl
  · rw [last_nil h0]; exact (HSub.put (HSub.none _) z1q)
 ·
  refine acf ?_
  have h0 : ¬ q.l.length = 0 := by have h := hb1; simp at h; first | omega | simp [h]
  obtain ⟨x, hx⟩ := get_of_lt (show q.l.length - 1 < q.l.length by omega)
  refine AGo.skip ?_
  refine AGo.seq ?_
  refine AGo.draw mix ?_
  refine dm 14 ?_
  refine dq 15 (q_nilCheck rfl rfl rfl) ?_
  refine df 16 tok ?_
  refine dl 17 tok ?_
  refine dm 18 ?_
  refine dq 19 (q_nilCheck rfl rfl rfl) ?_
  refine df 20 tok ?_
  refine dl 21 tok ?_
  refine dq 22 (q_len tok rfl rfl rfl rfl rfl) ?_
  refine dq 23 (q_bin (r := .int .i64 ((q.l.length - 1 : Nat) : Int)) rfl rfl rfl (by simp only [evalBin, evalInt, isShift, cond_false, if_true]; rw [List.length_map, wrap_i64 (by omega) (by omega)]; congr 2; omega)) ?_
  refine dq 24 (q_index_lst tok rfl rfl rfl rfl rfl rfl (Int.natCast_nonneg _) (w4_at hx) rfl) ?_
  refine dl 25 tok ?_
  refine dx 3 (o_alloc tok 9 rfl rfl rfl rfl (Nat.zero_lt_succ _) rfl) ?_
  refine DOps.w rfl rfl (o_store tok rfl rfl rfl rfl rfl rfl rfl rfl rfl (by decide) rfl z8q) ?_
  refine DOps.nil (by kernel_rfl) ?_
  refine AGo.seq ?_
  refine AGo.draw mix ?_
  refine dm 26 ?_
  refine dm 27 ?_
  refine dq 28 (q_nilCheck rfl rfl rfl) ?_
  refine df 29 tok ?_
  refine dl 30 tok ?_
  refine dm 31 ?_
  refine dq 32 (q_nilCheck rfl rfl rfl) ?_
  refine df 33 tok ?_
  refine dl 34 tok ?_
  refine dq 35 (q_len tok rfl rfl rfl rfl rfl) ?_
  refine dq 36 (q_bin (r := .int .i64 ((q.l.length - 1 : Nat) : Int)) rfl rfl rfl (by simp only [evalBin, evalInt, isShift, cond_false, if_true]; rw [List.length_map, wrap_i64 (by omega) (by omega)]; congr 2; omega)) ?_
  refine dq 37 (q_slice_take tok (q.l.length - 1) rfl rfl rfl rfl rfl rfl (by omega) (w4_len _)) ?_
  refine dq 38 (q_nilCheck rfl rfl rfl) ?_
  refine df 39 tok ?_
  refine DOps.w rfl rfl (o_store tok rfl rfl rfl rfl rfl rfl rfl rfl rfl (by decide) rfl z8q) ?_
  refine DOps.nil (by kernel_rfl) ?_
  refine asr ?_
  refine al 40 tok ?_
  refine AOps.w rfl rfl (o_store tok rfl rfl rfl rfl rfl rfl rfl rfl rfl (by decide) rfl z8q) ?_
  refine an ?_
  refine AGo.ret ?_
  refine ⟨[_], ⟨⟨_, _, _, _, rfl, rfl, .ptr _ _ _ _ _ _ _ _ rfl rfl rfl, rfl⟩, trivial⟩, ?_, ?_⟩
  · rw [last_cons h0 hx]; rfl
  · rw [last_cons h0 hx]; exact (HSub.put (HSub.none _) z1q)
set_option maxRecDepth 100000 in
theorem spent_ok  : ACall Tryd.prog 22 [.ptr 7 1 0 0] (hput hNew 7 (.row false 2 [restC ⟨[], false⟩])) (fun r' h' => r' = .bool true ∧ HSub (hput hNone 7 (.row false 2 [restC ⟨[], false⟩])) h') := by
 refine ACall.of_body (n := 16) tok Tryd.func22 rfl rfl ?_
 refine asr ?_
 refine aa 2 ?_
 refine an ?_
 refine asr ?_
 refine am 3 ?_
 refine aq 4 (q_nilCheck rfl rfl rfl) ?_
 refine af 5 tok ?_
 refine al 6 tok ?_
 refine aq 7 (q_not rfl rfl) ?_
 refine am 8 ?_
 refine am 9 ?_
 refine aq 10 (q_nilCheck rfl rfl rfl) ?_
 refine af 11 tok ?_
 refine al 12 tok ?_
 refine aq 13 (q_len tok rfl rfl rfl rfl rfl) ?_
 refine aqb ?_
 refine apt ?_
 refine aa 2 ?_
 refine an ?_
 refine AGo.ret ?_
 exact ⟨[_], ⟨rfl, trivial⟩, rfl, (HSub.put (HSub.none _) z1q)⟩
set_option maxRecDepth 100000 in
theorem climb_step (q : Rest) (n i : Nat) (x : W4) (h1n : 1 ≤ n) (hn : n ≤ 2000) (hi : i < n) (hq : q.l.length ≤ 100000) (hrec : ∀ (m : Nat) (q' : Rest) (j : Nat), m < n → 1 ≤ m → j < m → q'.l.length ≤ 100000 → ACall Tryd.prog 21 [.ptr 7 1 0 0, .int .i64 (m : Int), .int .i64 (j : Int), .agg x.cells] (hput hNew 7 (.row false 2 [restC q'])) (fun r' h' => r' = .agg (climb q' m j x).1.cells ∧ HSub (hput hNone 7 (.row false 2 [restC (climb q' m j x).2])) h')) : ACall Tryd.prog 21 [.ptr 7 1 0 0, .int .i64 (n : Int), .int .i64 (i : Int), .agg x.cells] (hput hNew 7 (.row false 2 [restC q])) (fun r' h' => r' = .agg (climb q n i x).1.cells ∧ HSub (hput hNone 7 (.row false 2 [restC (climb q n i x).2])) h') := by
 refine ACall.of_body (n := 39) tok Tryd.func21 rfl rfl ?_
 refine asr ?_
 refine ax 7 (o_box (sz := 4) 8 rfl rfl rfl rfl (Nat.zero_lt_succ _) rfl) ?_
 refine ax 8 (o_alloc tok 9 rfl rfl rfl rfl (Nat.zero_lt_succ _) rfl) ?_
 refine an ?_
 refine AGo.seq ?_
 refine asr ?_
 refine am 11 ?_
 refine aqb ?_
 refine an ?_
 refine AGo.split 12 rfl (fun hb1 => ?_) (fun hb1 => ?_)
 ·
  refine act ?_
  have h1 : n = 1 := by have h := hb1; simp at h; first | omega | simp [h]
  refine asr ?_
  refine al 13 tok ?_
  refine AOps.w rfl rfl (o_store tok rfl rfl rfl rfl rfl rfl rfl rfl rfl (by decide) rfl z8q) ?_
  refine an ?_
  refine AGo.ret ?_
  refine ⟨[_], ⟨⟨_, _, _, _, rfl, rfl, .ptr _ _ _ _ _ _ _ _ rfl rfl rfl, rfl⟩, trivial⟩, ?_, ?_⟩
  · rw [climb_one h1]; rfl
  · rw [climb_one h1]; exact (HSub.put (HSub.none _) z1q)
 ·
  refine acf ?_
  have h1 : n ≠ 1 := by have h := hb1; simp at h; first | omega | simp [h]
  have h2 : 2 ≤ n := by omega
  have hh := half_in h2
  refine AGo.skip ?_
  refine asr ?_
  refine am 14 ?_
  refine ax 15 (o_pure rfl Tryd.func28 (by kernel_rfl) rfl rfl rfl (half_ok n h2 (by omega))) ?_
  refine aa 9 ?_
  refine an ?_
  refine asr ?_
  refine am 16 ?_
  refine ax 17 (o_callMod 7 rfl Tryd.func29 (by kernel_rfl) rfl rfl rfl rfl rfl rfl rfl (last_ok q hq)) ?_
  refine ax 10 (o_alloc tok 10 rfl rfl rfl rfl (Nat.zero_lt_succ _) rfl) ?_
  refine AOps.w rfl rfl (o_store tok rfl rfl rfl rfl rfl rfl rfl rfl rfl (by decide) rfl z8q) ?_
  refine an ?_
  refine AGo.seq ?_
  refine asr ?_
  refine am 18 ?_
  refine am 19 ?_
  refine aqb ?_
  refine an ?_
  refine AGo.split 20 rfl (fun hb2 => ?_) (fun hb2 => ?_)
  ·
   refine act ?_
   have hi2 : i < half n := by have h := hb2; simp at h; first | omega | simp [h]
   refine AGo.seq ?_
   refine AGo.draw mix ?_
   refine dm 21 ?_
   refine dm 22 ?_
   refine dm 23 ?_
   refine dl 24 tok ?_
   refine dx 25 (o_callMod 7 rfl Tryd.func21 (by kernel_rfl) rfl rfl rfl rfl rfl rfl rfl (hrec (half n) q.last.2 i (by omega) (by omega) (by omega) (by have := last_len q; omega))) ?_
   refine dl 26 tok ?_
   refine dx 27 (o_pure rfl Tryd.func30 (by kernel_rfl) rfl rfl rfl (pair_ok _ q.last.1)) ?_
   refine DOps.w rfl rfl (o_store tok rfl rfl rfl rfl rfl rfl rfl rfl rfl (by decide) rfl z8q) ?_
   refine DOps.nil (by kernel_rfl) ?_
   refine AGo.ret ?_
   refine ⟨[_], ⟨⟨_, _, _, _, rfl, rfl, .ptr _ _ _ _ _ _ _ _ rfl rfl rfl, rfl⟩, trivial⟩, ?_, ?_⟩
   · rw [climb_lo h2 hi2]; rfl
   · rw [climb_lo h2 hi2]; exact (HSub.put (HSub.none _) z1q)
  ·
   refine acf ?_
   have hi2 : ¬ i < half n := by have h := hb2; simp at h; first | omega | simp [h]
   refine AGo.skip ?_
   refine AGo.seq ?_
   refine AGo.draw mix ?_
   refine dl 28 tok ?_
   refine dm 29 ?_
   refine dm 30 ?_
   refine dm 31 ?_
   refine dq 32 (q_bin (r := .int .i64 ((n - half n : Nat) : Int)) rfl rfl rfl z3q) ?_
   refine dm 33 ?_
   refine dm 34 ?_
   refine dq 35 (q_bin (r := .int .i64 ((i - half n : Nat) : Int)) rfl rfl rfl z3q) ?_
   refine dl 36 tok ?_
   refine dx 37 (o_callMod 7 rfl Tryd.func21 (by kernel_rfl) rfl rfl rfl rfl rfl rfl rfl (hrec (n - half n) q.last.2 (i - half n) (by omega) (by omega) (by omega) (by have := last_len q; omega))) ?_
   refine dx 38 (o_pure rfl Tryd.func30 (by kernel_rfl) rfl rfl rfl (pair_ok q.last.1 _)) ?_
   refine DOps.w rfl rfl (o_store tok rfl rfl rfl rfl rfl rfl rfl rfl rfl (by decide) rfl z8q) ?_
   refine DOps.nil (by kernel_rfl) ?_
   refine AGo.ret ?_
   refine ⟨[_], ⟨⟨_, _, _, _, rfl, rfl, .ptr _ _ _ _ _ _ _ _ rfl rfl rfl, rfl⟩, trivial⟩, ?_, ?_⟩
   · rw [climb_hi h2 hi2]; rfl
   · rw [climb_hi h2 hi2]; exact (HSub.put (HSub.none _) z1q)
theorem climb_ok : ∀ (N : Nat) (q : Rest) (n i : Nat) (x : W4), n ≤ N → 1 ≤ n → n ≤ 2000 → i < n → q.l.length ≤ 100000 → ACall Tryd.prog 21 [.ptr 7 1 0 0, .int .i64 (n : Int), .int .i64 (i : Int), .agg x.cells] (hput hNew 7 (.row false 2 [restC q])) (fun r' h' => r' = .agg (climb q n i x).1.cells ∧ HSub (hput hNone 7 (.row false 2 [restC (climb q n i x).2])) h')
  | 0, q, n, i, x, hN, h1, h2, h3, h4 => absurd h1 (by omega)
  | N + 1, q, n, i, x, hN, h1, h2, h3, h4 => climb_step q n i x h1 h2 h3 h4 fun m q' j g1 g2 g3 g4 => climb_ok N q' m j x (by omega) g2 (by omega) g3 g4
set_option maxRecDepth 100000 in
theorem mcheck_ok (l : List W4) (i : Nat) (x : W4) (hx : l[i]? = some x) (hl : l.length ≤ 1000) : APure Tryd.prog 10 [.agg (root l).cells, .int .i64 (l.length : Int), .int .i64 (i : Int), .agg x.cells, (digsAV (way l i))] (fun r => r = .bool true) := by
 have hil := (List.getElem?_eq_some_iff.1 hx).1
 have hwl := way_len _ l i (Nat.le_refl _)
 refine APure.of_body (n := 36) tok Tryd.func10 rfl rfl ?_
 refine asr ?_
 refine ax 5 (o_box (sz := 4) 0 rfl rfl rfl rfl (Nat.zero_lt_succ _) rfl) ?_
 refine ax 8 (o_box (sz := 4) 1 rfl rfl rfl rfl (Nat.zero_lt_succ _) rfl) ?_
 refine aa 10 ?_
 refine an ?_
 refine AGo.seq ?_
 refine asr ?_
 refine am 13 ?_
 refine aq 14 (q_bin (r := .bool false) rfl rfl rfl z5q) ?_
 refine am 15 ?_
 refine am 16 ?_
 refine aq 17 (q_bin (r := .bool false) rfl rfl rfl z5q) ?_
 refine apf ?_
 refine am 19 ?_
 refine am 20 ?_
 refine am 21 ?_
 refine aq 22 (q_bin (r := .bool false) rfl rfl rfl z5q) ?_
 refine apf ?_
 refine an ?_
 refine acf ?_
 refine AGo.skip ?_
 refine asr ?_
 refine am 24 ?_
 refine aq 25 (q_build tok rfl rfl rfl rfl rfl (by decide) rfl rfl rfl) ?_
 refine ax 11 (o_alloc tok 7 rfl rfl rfl rfl (Nat.zero_lt_succ _) rfl) ?_
 refine AOps.w rfl rfl (o_store tok rfl rfl rfl rfl rfl rfl rfl rfl rfl (by decide) rfl z8q) ?_
 refine an ?_
 refine asr ?_
 refine am 26 ?_
 refine am 27 ?_
 refine al 28 tok ?_
 refine ax 29 (o_callMod (q' := (.row false 2 [restC ⟨[], false⟩])) (r := .agg (root l).cells) 7 rfl Tryd.func21 (by kernel_rfl) rfl rfl rfl rfl rfl rfl rfl ((climb_ok l.length ⟨way l i, false⟩ l.length i x (Nat.le_refl _) (by omega) (by omega) hil (by show (way l i).length ≤ _; omega)).mono (fun r h' hr => by rw [climb_all hx] at hr; exact hr))) ?_
 refine ax 12 (o_alloc tok 8 rfl rfl rfl rfl (Nat.zero_lt_succ _) rfl) ?_
 refine AOps.w rfl rfl (o_store tok rfl rfl rfl rfl rfl rfl rfl rfl rfl (by decide) rfl z8q) ?_
 refine an ?_
 refine asr ?_
 refine ax 30 (o_callSee 7 rfl Tryd.func22 (by kernel_rfl) rfl rfl rfl rfl rfl rfl spent_ok) ?_
 refine am 31 ?_
 refine al 32 tok ?_
 refine al 33 tok ?_
 refine aq 34 (q_eqDig tok (root l) (root l) (r := true) rfl rfl rfl (by kernel_rfl) rfl rfl rfl rfl rfl (by kernel_rfl) (by simp)) ?_
 refine apt ?_
 refine aa 10 ?_
 refine an ?_
 refine AGo.ret ?_
 refine ⟨[_], ⟨rfl, trivial⟩, ?_, rfl⟩
 rfl
set_option maxRecDepth 100000 in
theorem root_step (l : List W4) (hl : l.length ≤ 2000) (hrec : ∀ m : List W4, m.length < l.length → 1 ≤ m.length → APure Tryd.prog 27 [(digsAV m)] (fun r => r = .agg (root m).cells)) : APure Tryd.prog 27 [(digsAV l)] (fun r => r = .agg (root l).cells) := by
 have hml : (l.map W4.cells).length = l.length := List.length_map _
 refine APure.of_body (n := 26) tok Tryd.func27 rfl rfl ?_
 refine asr ?_
 refine ax 2 (o_alloc tok 0 rfl rfl rfl rfl (Nat.zero_lt_succ _) rfl) ?_
 refine an ?_
 refine AGo.seq ?_
 refine asr ?_
 refine am 4 ?_
 refine aq 5 (q_len tok rfl rfl rfl rfl rfl) ?_
 refine an ?_
 refine AGo.block ?_
 refine asr ?_
 refine aqb ?_
 refine aa 6 ?_
 refine an ?_
 refine AGo.split 6 rfl (fun hb1 => ?_) (fun hb1 => ?_)
 ·
  refine act ?_
  have h0 : l.length = 0 := by have h := hb1; simp at h; first | omega | simp [h]
  refine asr ?_
  refine ax 8 (o_pure rfl Tryd.func6 (by kernel_rfl) rfl rfl rfl (digOf_ok emptyB (by decide))) ?_
  refine AOps.w rfl rfl (o_store tok rfl rfl rfl rfl rfl rfl rfl rfl rfl (by decide) rfl z8q) ?_
  refine an ?_
  refine AGo.ret ?_
  refine ⟨[_], ⟨⟨_, _, _, _, rfl, rfl, .ptr _ _ _ _ _ _ _ _ rfl rfl rfl, rfl⟩, trivial⟩, ?_, rfl⟩
  rw [root_nil h0]; rfl
 ·
  refine acf ?_
  have h0 : l.length ≠ 0 := by have h := hb1; simp at h; first | omega | simp [h]
  refine asr ?_
  refine aqb ?_
  refine aa 9 ?_
  refine an ?_
  refine AGo.split 9 rfl (fun hb2 => ?_) (fun hb2 => ?_)
  ·
   refine act ?_
   have h1 : l.length = 1 := by have h := hb2; simp at h; first | omega | simp [h]
   obtain ⟨x, hx⟩ := get_of_lt (show 0 < l.length by omega)
   refine asr ?_
   refine am 11 ?_
   refine aq 12 (q_index_lst tok rfl rfl rfl rfl rfl rfl (by decide) (w4_at (i := 0) hx) rfl) ?_
   refine al 13 tok ?_
   refine AOps.w rfl rfl (o_store tok rfl rfl rfl rfl rfl rfl rfl rfl rfl (by decide) rfl z8q) ?_
   refine an ?_
   refine AGo.ret ?_
   refine ⟨[_], ⟨⟨_, _, _, _, rfl, rfl, .ptr _ _ _ _ _ _ _ _ rfl rfl rfl, rfl⟩, trivial⟩, ?_, rfl⟩
   rw [root_one h1 hx]; rfl
  ·
   refine acf ?_
   have h1 : l.length ≠ 1 := by have h := hb2; simp at h; first | omega | simp [h]
   have h2 : 2 ≤ l.length := by omega
   have hh := half_in h2
   refine AGo.skip ?_
   refine asr ?_
   refine am 14 ?_
   refine aq 15 (q_len tok rfl rfl rfl rfl rfl) ?_
   refine ax 16 (o_pure rfl Tryd.func28 (by kernel_rfl) rfl rfl rfl ((half_ok (l.map W4.cells).length (by rw [hml]; omega) (by rw [hml]; omega)).mono (fun r h => by rw [h, hml]))) ?_
   refine aa 3 ?_
   refine an ?_
   refine AGo.seq ?_
   refine AGo.draw mix ?_
   refine dm 17 ?_
   refine dm 18 ?_
   refine dq 19 (q_slice_take tok (half l.length) rfl rfl rfl rfl rfl rfl (by omega) (w4_len _)) ?_
   refine dx 20 (o_pure rfl Tryd.func27 (by kernel_rfl) rfl rfl rfl (hrec (l.take (half l.length)) (by rw [List.length_take]; omega) (by rw [List.length_take]; omega))) ?_
   refine dm 21 ?_
   refine dm 22 ?_
   refine dq 23 (q_slice_drop tok (half l.length) rfl rfl rfl rfl rfl rfl (by omega) (w4_len _)) ?_
   refine dx 24 (o_pure rfl Tryd.func27 (by kernel_rfl) rfl rfl rfl (hrec (l.drop (half l.length)) (by rw [List.length_drop]; omega) (by rw [List.length_drop]; omega))) ?_
   refine dx 25 (o_pure rfl Tryd.func30 (by kernel_rfl) rfl rfl rfl (pair_ok (root (l.take (half l.length))) (root (l.drop (half l.length))))) ?_
   refine DOps.w rfl rfl (o_store tok rfl rfl rfl rfl rfl rfl rfl rfl rfl (by decide) rfl z8q) ?_
   refine DOps.nil (by kernel_rfl) ?_
   refine AGo.ret ?_
   refine ⟨[_], ⟨⟨_, _, _, _, rfl, rfl, .ptr _ _ _ _ _ _ _ _ rfl rfl rfl, rfl⟩, trivial⟩, ?_, rfl⟩
   rw [root_two h2]; rfl
theorem root_ok : ∀ (n : Nat) (l : List W4), l.length ≤ n → l.length ≤ 2000 → APure Tryd.prog 27 [(digsAV l)] (fun r => r = .agg (root l).cells)
  | 0, l, hn, hl => root_step l hl fun m h1 h2 => absurd h1 (by omega)
  | n + 1, l, hn, hl => root_step l hl fun m h1 h2 => root_ok n m (by omega) (by omega)
set_option maxRecDepth 100000 in
theorem way_step (l : List W4) (i : Nat) (hl : l.length ≤ 2000) (h0 : 1 ≤ l.length) (hi : i < l.length) (hrec : ∀ (m : List W4) (j : Nat), m.length < l.length → 1 ≤ m.length → j < m.length → ACall Tryd.prog 26 [(digsAV m), .int .i64 (j : Int)] hNew (fun r h' => r = slA 2 ((way m j).map W4.cells) ∧ HSub (hput hNone 2 (slO 4 ((way m j).map W4.cells))) h')) : ACall Tryd.prog 26 [(digsAV l), .int .i64 (i : Int)] hNew (fun r h' => r = slA 2 ((way l i).map W4.cells) ∧ HSub (hput hNone 2 (slO 4 ((way l i).map W4.cells))) h') := by
 have hml : (l.map W4.cells).length = l.length := List.length_map _
 refine ACall.of_body (n := 39) tok Tryd.func26 rfl rfl ?_
 refine asr ?_
 refine aa 4 ?_
 refine an ?_
 refine AGo.seq ?_
 refine asr ?_
 refine am 6 ?_
 refine aq 7 (q_len tok rfl rfl rfl rfl rfl) ?_
 refine aqb ?_
 refine an ?_
 refine AGo.split 8 rfl (fun hb1 => ?_) (fun hb1 => ?_)
 ·
  refine act ?_
  have h1 : l.length = 1 := by have h := hb1; simp at h; first | omega | simp [h]
  refine asr ?_
  refine aa 4 ?_
  refine an ?_
  refine AGo.ghost (Ghost.weakSlot 4 rfl (nil_sl 2)) ?_
  refine AGo.ret ?_
  refine ⟨[_], ⟨rfl, trivial⟩, ?_, ?_⟩
  · rw [way_one h1 i]; rfl
  · rw [way_one h1 i]; exact (HSub.put (HSub.none _) z1q)
 ·
  refine acf ?_
  have h1 : l.length ≠ 1 := by have h := hb1; simp at h; first | omega | simp [h]
  have h2 : 2 ≤ l.length := by omega
  have hh := half_in h2
  refine AGo.skip ?_
  refine asr ?_
  refine am 9 ?_
  refine aq 10 (q_len tok rfl rfl rfl rfl rfl) ?_
  refine ax 11 (o_pure rfl Tryd.func28 (by kernel_rfl) rfl rfl rfl ((half_ok (l.map W4.cells).length (by rw [hml]; omega) (by rw [hml]; omega)).mono (fun r h => by rw [h, hml]))) ?_
  refine aa 5 ?_
  refine an ?_
  refine AGo.seq ?_
  refine asr ?_
  refine am 12 ?_
  refine am 13 ?_
  refine aqb ?_
  refine an ?_
  refine AGo.split 14 rfl (fun hb2 => ?_) (fun hb2 => ?_)
  ·
   refine act ?_
   have hi2 : i < half l.length := by have h := hb2; simp at h; first | omega | simp [h]
   refine AGo.seq ?_
   refine AGo.draw mix ?_
   refine dm 15 ?_
   refine dm 16 ?_
   refine dq 17 (q_slice_take tok (half l.length) rfl rfl rfl rfl rfl rfl (by omega) (w4_len _)) ?_
   refine dm 18 ?_
   refine dx 19 (o_callRow 2 rfl Tryd.func26 (by kernel_rfl) rfl rfl rfl rfl (slO_avoid _ _) (slA_avoid _ (mem_one 2)) (hrec (l.take (half l.length)) i (by simp; omega) (by simp; omega) (by simp; omega))) ?_
   refine dm 20 ?_
   refine dm 21 ?_
   refine dq 22 (q_slice_drop tok (half l.length) rfl rfl rfl rfl rfl rfl (by omega) (w4_len _)) ?_
   refine dx 23 (o_pure rfl Tryd.func27 (by kernel_rfl) rfl rfl rfl (root_ok _ (l.drop (half l.length)) (Nat.le_refl _) (by simp; omega))) ?_
   refine dx 24 (o_lit' tok rfl rfl rfl rfl rfl rfl (by decide) rfl rfl rfl rfl rfl rfl) ?_
   refine dx 25 (o_append1J tok (b := 2) (es := (way (l.take (half l.length)) i).map W4.cells) rfl rfl rfl rfl rfl rfl rfl rfl rfl rfl rfl (Nat.zero_lt_succ _) (w4_len _) (w4_pure _) rfl rfl (by have := way_len _ (l.take (half l.length)) i (Nat.le_refl _); simp at this ⊢; show (_ + 1) * 16 ≤ _; omega) (by have := way_len _ (l.take (half l.length)) i (Nat.le_refl _); simp at this ⊢; simp only [maxLen]; omega)) ?_
   refine da 4 ?_
   refine DOps.nil (by kernel_rfl) ?_
   refine AGo.ret ?_
   refine ⟨[_], ⟨rfl, trivial⟩, ?_, ?_⟩
   · rw [way_lo h2 hi2, ← w4_app]; rfl
   · rw [way_lo h2 hi2, ← w4_app]; exact (HSub.put (HSub.none _) z1q)
  ·
   refine acf ?_
   have hi2 : ¬ i < half l.length := by have h := hb2; simp at h; first | omega | simp [h]
   refine AGo.skip ?_
   refine AGo.seq ?_
   refine AGo.draw mix ?_
   refine dm 26 ?_
   refine dm 27 ?_
   refine dq 28 (q_slice_drop tok (half l.length) rfl rfl rfl rfl rfl rfl (by omega) (w4_len _)) ?_
   refine dm 29 ?_
   refine dm 30 ?_
   refine dq 31 (q_bin (r := .int .i64 ((i - half l.length : Nat) : Int)) rfl rfl rfl z3q) ?_
   refine dx 32 (o_callRow 2 rfl Tryd.func26 (by kernel_rfl) rfl rfl rfl rfl (slO_avoid _ _) (slA_avoid _ (mem_one 2)) (hrec (l.drop (half l.length)) (i - half l.length) (by simp; omega) (by simp; omega) (by simp; omega))) ?_
   refine dm 33 ?_
   refine dm 34 ?_
   refine dq 35 (q_slice_take tok (half l.length) rfl rfl rfl rfl rfl rfl (by omega) (w4_len _)) ?_
   refine dx 36 (o_pure rfl Tryd.func27 (by kernel_rfl) rfl rfl rfl (root_ok _ (l.take (half l.length)) (Nat.le_refl _) (by simp; omega))) ?_
   refine dx 37 (o_lit' tok rfl rfl rfl rfl rfl rfl (by decide) rfl rfl rfl rfl rfl rfl) ?_
   refine dx 38 (o_append1J tok (b := 2) (es := (way (l.drop (half l.length)) (i - half l.length)).map W4.cells) rfl rfl rfl rfl rfl rfl rfl rfl rfl rfl rfl (Nat.zero_lt_succ _) (w4_len _) (w4_pure _) rfl rfl (by have := way_len _ (l.drop (half l.length)) (i - half l.length) (Nat.le_refl _); simp at this ⊢; show (_ + 1) * 16 ≤ _; omega) (by have := way_len _ (l.drop (half l.length)) (i - half l.length) (Nat.le_refl _); simp at this ⊢; simp only [maxLen]; omega)) ?_
   refine da 4 ?_
   refine DOps.nil (by kernel_rfl) ?_
   refine AGo.ret ?_
   refine ⟨[_], ⟨rfl, trivial⟩, ?_, ?_⟩
   · rw [way_hi h2 hi2, ← w4_app]; rfl
   · rw [way_hi h2 hi2, ← w4_app]; exact (HSub.put (HSub.none _) z1q)
theorem way_ok : ∀ (n : Nat) (l : List W4) (i : Nat), l.length ≤ n → l.length ≤ 2000 → 1 ≤ l.length → i < l.length → ACall Tryd.prog 26 [(digsAV l), .int .i64 (i : Int)] hNew (fun r h' => r = slA 2 ((way l i).map W4.cells) ∧ HSub (hput hNone 2 (slO 4 ((way l i).map W4.cells))) h')
  | 0, l, i, hn, hl, h0, hi => absurd h0 (by omega)
  | n + 1, l, i, hn, hl, h0, hi => way_step l i hl h0 hi fun m j h1 h2 h3 => way_ok n m j (by omega) (by omega) h2 h3
end Go.Proofs.YtcggeonbbpfmdaaDoor.Sv
