/-
  What is put behind nothing, or behind a list, may hold slices: own work.
  FAMILIES OF ROWS, whose numbers are told by a function; DRAWN REGIONS IN WHICH CALLS MAKE FAMILIES: own work, over no program.
  THE FIELD OF A STRUCT'S VALUE: own work, over no program.
  WHAT MATTERS, AS IT LIES IN MEMORY: own work.
  THE ROUNDS OF THE DOCUMENT'S ANSWER ON WHAT MATTERS: own work.
  WHAT IS DEAD NOW, AND LEFT OUT AT ONCE: own work.
  SETS OF REGISTERS, 64 IN EACH NUMBER: own work.
  WHAT A BLOCK READS AHEAD OF SETTING IT: instruction by instruction, the last one first. Own work.
  THREE FAMILIES OF ROWS, and tables of slices that lead to them: own work.
  WHAT MATTERS, BY A LIST OF BLOCKS THAT WAIT: own work.
  THE SOLVER'S ROWS: own work.
  THE SOLVER IS BUILT, AND CALLED: own work.
  THE ROUNDS OF THE WORKLIST: own work.
  WHERE A REGISTER IS READ OR SET, AND WHAT IS LEFT OF A FUNCTION: own work.
  WHERE A REGISTER MATTERS, SEARCHED FOR; what is dead of it is left out: own work.
  REGISTER BY REGISTER, UNTIL NOTHING IS DEAD: own work.
  THE SEARCH'S ROWS: four families; calls of what sees them. Own work.
  WHERE A REGISTER MATTERS: what the search knows at each step. Own work.
  ONE REGISTER'S ROUND, STEP BY STEP: own work.
  A SITE IS NOTED: own work.
  THE SITES, AS THEY ARE NOTED: own work.
  THE SITES OF ALL BLOCKS, AS THEY ARE NOTED: own work.
  THE SEARCH IS MADE: its rows on the way. Own work.
  CALLS THAT SEE ROWS AND LEAVE THEM AS THEY ARE: own work, over no program.
  WHAT IS GONE, ASKED FOR: the rows that the question sees. Own work.
  THE CODE'S CHECKS OF INSTRUCTIONS ARE THE DOCUMENT'S, IN PLAIN LEAN: own work, over no program.
  SIZES AND SAMENESS OF PROGRAMS, IN PLAIN LEAN: own work, over no program.
  WHAT LAW32 ASKS, in plain Lean: own work.
  LAW32'S LOOPS, in plain Lean: own work.
-/
import Derived.Test.YtjmjmedjjbginaaPDeadRuns2
namespace Go.Proofs.Ytjmjmedjjbginaa.Sv
open Go
def slP (sz : Nat) (es : List (List AV)) : AObj := bif es.isEmpty then .free else .row false sz es
section
variable {P : Program} {T : Nat → Option TyI} {o : Oper} {e : AEnv} {h : AHeap}
theorem o_append0 (hT : TOk P T) {t t' : TypeId} {x y : Operand} {i i' j : TyI} {u u' : Nat} {es2 : List (List AV)} {q : AV} {R : List Nat} (b : Nat)
    (ho : o.op = .call { callee := .builtin .append, args := #[x, y], argTypes := #[t, t'] }) (hx : look e x = some (.lst true [])) (hy : look e y = some q) (hi : T t = some i) (hk : i.k = .slice u) (hj : T u = some j) (hi' : T t' = some i') (hk' : i'.k = .slice u')
    (hb : h b = some .free) (hz : j.zero.length = j.size) (hp : 0 < j.size) (hsrc : SrcOf h q R es2) (hu2 : ∀ cs ∈ es2, cs.length = j.size) (hne : 0 < es2.length)
    (hby : es2.length * j.bytes ≤ 140737488355328) (hml : es2.length ≤ maxLen) :
    OLoc P o e h (b :: R) [(b, .row false j.size es2)] (some (.ref b es2.length 0 es2.length)) := by
  refine OLoc.of_new hb (by simp) hp fun H ι a w s hs g1 g2 => ?_
  have hx' : look s.env x = some (.lst true []) := by rw [g1 x z64q, hx]
  have hy' : look s.env y = some q := by rw [g1 y z64q, hy]
  have hsrc' := hsrc.agree (h' := s.h) (fun c hc => g2 c (by simp [hc]))
  obtain ⟨info, d, e1, e2, e3, e4, e5, e6⟩ := tyOf_spec (hT _ _ hi)
  obtain ⟨infou, du, f1, f2, f3, f4, f5, f6⟩ := tyOf_spec (hT _ _ hj)
  obtain ⟨info', d', e1', e2', e3', e4', e5', e6'⟩ := tyOf_spec (hT _ _ hi')
  have hd := tk_slice (P := P) (d := d) (e3 ▸ hk)
  subst hd
  have hd' := tk_slice (P := P) (d := d') (e3' ▸ hk')
  subst hd'
  obtain ⟨z, hz1, hz2⟩ := zero_spec f6 hz hp
  have hzl : z.cells.size = j.size := by rw [← hz]; simpa using (allAV_rel (H := H) (ι := noLay) hz2).1.symm
  have hvx := look_rel hs hx'
  have hvy := look_rel hs hy'
  generalize hva : a.eval x = va at hvx
  generalize hvb : a.eval y = vb at hvy
  have hexec : ∀ (v : Value) (w' : World), (Builtin.append_ #[t, t'] o.type #[va, vb]).run P w = .ok v w' → (execOp a.eval o).run P w = .ok (.value v) w' := fun v w' hrun => by
    simp only [execOp, ho, resolve, invoke, builtin, Sem.run_bind, Sem.run_pure, Result.andThen_ok, List.map_toArray, List.map_cons, List.map_nil, hva, hvb, hrun]
  obtain ⟨news, hsrcw, hnews⟩ := src_of hs.heap hsrc' hvy e2' hp hu2 w rfl
  rw [← f4] at hsrcw
  have hnl : news.length = es2.length * j.size := by rw [hsrcw.newsLen, f4]
  have h63 : ((0 + es2.length : Nat) : Int) ≤ 9223372036854775807 := by
    have := hml; simp only [maxLen] at this; omega
  obtain ⟨base, hv, hold⟩ : ∃ (base : Option Addr), va = .slice base 0 0 ∧ (Builtin.firstCells infou.size 0 (.slice base 0 0)).run P w.drew = .ok ([] : List Value).toArray w.drew := by
    rcases hvx.lst_inv with ⟨_, ad, cap, rfl, h1, h2, h3, h4⟩ | ⟨hne, _⟩
    · have := h1 rfl
      subst this
      refine ⟨ad, rfl, ?_⟩
      cases ad <;> simp [Builtin.firstCells, loadCells, loadCellsFrom]
    · exact absurd rfl hne
  have hfit : Builtin.nextslicecap (0 + es2.length) 0 * infou.bytes ≤ 281474976710656 := growslice_fits (by omega) (by rw [f5, Nat.zero_add]; exact hby)
  have hrun := run_append_grow_src (P := P) w t t' o.type u infou z e2 f1 hz1 base 0 0 [] hold vb es2.length news hsrcw (by omega) h63 hfit
  have hge := grownCap_ge w (0 + es2.length) 0 u
  have hcm : grownCap w (0 + es2.length) 0 u ≤ maxLen := grownCap_le_maxLen w _ 0 u (by omega)
  generalize hcc : grownCap w (0 + es2.length) 0 u = nc at *
  generalize hC : (([] : List Value) ++ news).toArray ++ Builtin.zeroCells z.cells (nc - (0 + es2.length)) = C at *
  have hCs : C.size = nc * j.size := by
    rw [← hC, Array.size_append, size_zeroCells, hzl]
    simp only [List.size_toArray, List.nil_append, hnl, ← Nat.add_mul]
    congr 1; omega
  have hCg : ∀ k, k < news.length → C[k]? = news[k]? := fun k hk => by
    rw [← hC, Array.getElem?_append_left (by simp; omega)]
    simp
  refine ⟨_, C, u, w.drew, rfl, rfl, rfl, ?_, ⟨fun i cs h => hu2 cs (List.mem_of_getElem? h), fun i cs k y h1 h2 => ?_⟩, hexec _ _ (hv ▸ hrun), ?_⟩
  · rw [hCs]; exact Nat.mul_le_mul_right _ (by omega)
  · obtain ⟨v, k1, k2, k3⟩ := hnews i cs k y h1 h2
    exact ⟨v, by rw [hCg _ (List.getElem?_eq_some_iff.1 k1).1]; exact k1, k2, k3⟩
  · have := Rel.refL (H := H) (lput ι b ⟨w.heap.size, j.size, es2.length, C.size⟩) b es2.length 0 es2.length nc _ (lput_same _ _ _) rfl (by omega) (by omega) (by simp [hCs]) hcm
    simpa using this
theorem o_append1S (hT : TOk P T) {t t' : TypeId} {x y : Operand} {i i' j : TyI} {u u' : Nat} {es : List (List AV)} {x0 : List AV} {q : AV} {R : List Nat} {b sz : Nat}
    (ho : o.op = .call { callee := .builtin .append, args := #[x, y], argTypes := #[t, t'] }) (hx : look e x = some (slA b es)) (hy : look e y = some q) (hi : T t = some i) (hk : i.k = .slice u) (hj : T u = some j) (hi' : T t' = some i') (hk' : i'.k = .slice u')
    (hb : h b = some (slP sz es)) (hsz : sz = j.size) (hz : j.zero.length = j.size) (hp : 0 < j.size) (hsrc : SrcOf h q R [x0]) (hu2 : x0.length = sz)
    (hby : (es.length + 1) * j.bytes ≤ 140737488355328) (hml : es.length + 1 ≤ maxLen) :
    OLoc P o e h (b :: R) [(b, .row false sz (es ++ [x0]))] (some (slA b (es ++ [x0]))) := by
  subst hsz
  rw [slA_snoc]
  cases hes : es.isEmpty with
  | true =>
    have e1 : es = [] := List.isEmpty_iff.1 hes
    subst e1
    exact o_append0 hT b ho hx hy hi hk hj hi' hk' hb hz hp hsrc (by intro cs hc; simp at hc; rw [hc]; exact hu2) (by simp) (by simpa using hby) (by simpa using hml)
  | false =>
    have ex : slA b es = .ref b es.length 0 es.length := by simp [slA, hes, jAV]
    have eo : slP j.size es = .row false j.size es := by simp [slP, hes]
    rw [ex] at hx
    rw [eo] at hb
    exact o_append hT ho hx hy hi hk hj hi' hk' hb rfl rfl hz hp hsrc (by intro cs hc; simp at hc; rw [hc]; exact hu2) (by intro h; cases h) (m := 1) rfl hby hml
end
end Go.Proofs.Ytjmjmedjjbginaa.Sv

namespace Go.Proofs.Ytjmjmedjjbginaa.Sv
open Go
def fam (base : AHeap) (F : Nat → AObj) : AHeap := fun c => bif Nat.ble 16 c then some (F (c - 16)) else base c
theorem fam_hi (base : AHeap) (F : Nat → AObj) (x : Nat) : fam base F (x + 16) = some (F x) := by
  have : Nat.ble 16 (x + 16) = true := by rw [Nat.ble_eq]; omega
  simp only [fam, this, cond_true, Nat.add_sub_cancel]
theorem fam_lo (base : AHeap) (F : Nat → AObj) {c : Nat} (h : c < 16) : fam base F c = base c := by
  have : Nat.ble 16 c = false := by rw [← Bool.not_eq_true, Nat.ble_eq]; omega
  simp only [fam, this, cond_false]
def nth : List AObj → Nat → AObj
  | [], _ => .free
  | o :: _, 0 => o
  | _ :: L, n + 1 => nth L n
def nb (L : List AObj) : AHeap := fun c => some (nth L c)
def kf (k0 : Nat) : Nat → Bool := fun c => Nat.blt c k0 || Nat.ble 16 c
theorem kf_lo {k0 c : Nat} (h : c < k0) : kf k0 c = true := by
  have : Nat.blt c k0 = true := by rw [Nat.blt_eq]; exact h
  simp [kf, this]
theorem kf_hi (k0 x : Nat) : kf k0 (x + 16) = true := by
  have : Nat.ble 16 (x + 16) = true := by rw [Nat.ble_eq]; omega
  simp [kf, this]
theorem kf_false {k0 c : Nat} (h : kf k0 c = false) : k0 ≤ c ∧ c < 16 := by
  simp only [kf, Bool.or_eq_false_iff] at h
  obtain ⟨h1, h2⟩ := h
  rw [← Bool.not_eq_true, Nat.blt_eq] at h1
  rw [← Bool.not_eq_true, Nat.ble_eq] at h2
  omega
theorem nth_out : ∀ {L : List AObj} {c : Nat}, L.length ≤ c → nth L c = .free
  | [], _, _ => rfl
  | _ :: L, 0, h => absurd h (by simp)
  | _ :: L, c + 1, h => nth_out (L := L) (by simpa using h)
def LowAt (h : AHeap) (k : Nat → Bool) : Nat → List AObj → Prop
  | _, [] => True
  | i, o :: L => (h i = some o ∧ o.avoid k = true) ∧ LowAt h k (i + 1) L
theorem LowAt.get {h : AHeap} {k : Nat → Bool} : ∀ {L : List AObj} {i c : Nat}, LowAt h k i L → c < L.length → h (i + c) = some (nth L c) ∧ (nth L c).avoid k = true
  | [], _, _, _, hc => absurd hc (by simp)
  | o :: L, i, 0, hl, _ => hl.1
  | o :: L, i, c + 1, hl, hc => by
    have := LowAt.get (L := L) (i := i + 1) (c := c) hl.2 (by simpa using hc)
    rw [show i + (c + 1) = i + 1 + c by omega]
    exact this
theorem famFree {L : List AObj} {F : Nat → AObj} {k0 : Nat} (hk : L.length = k0) {c : Nat} (h : kf k0 c = false) : fam (nb L) F c = some .free := by
  obtain ⟨h1, h2⟩ := kf_false h
  rw [fam_lo _ _ h2]
  show some (nth L c) = _
  rw [nth_out (by omega)]
theorem famDrop {L : List AObj} {F : Nat → AObj} {k0 : Nat} {h : AHeap} (hk : L.length = k0) (h1 : LowAt h (kf k0) 0 L) (h2 : ∀ x, h (x + 16) = some (F x)) (h3 : ∀ x, (F x).avoid (kf k0) = true) : HDropK (kf k0) (fam (nb L) F) h := by
  intro c o ho
  cases hc : kf k0 c with
  | false =>
    rw [famFree hk hc] at ho
    cases ho
    exact .inr ⟨rfl, rfl⟩
  | true =>
    by_cases h16 : 16 ≤ c
    · obtain ⟨x, rfl⟩ : ∃ x, c = x + 16 := ⟨c - 16, by omega⟩
      rw [fam_hi] at ho; cases ho
      exact .inl ⟨h2 x, fun _ => ⟨rfl, h3 x⟩⟩
    · have hlt : c < k0 := by
        simp only [kf, Bool.or_eq_true, Nat.blt_eq, Nat.ble_eq] at hc
        omega
      rw [fam_lo _ _ (by omega)] at ho
      have ho' : some (nth L c) = some o := ho
      cases ho'
      have := h1.get (c := c) (by omega)
      rw [Nat.zero_add] at this
      exact .inl ⟨this.1, fun _ => ⟨rfl, this.2⟩⟩
theorem famSub {L : List AObj} {F : Nat → AObj} {k0 : Nat} {h : AHeap} (hk : L.length = k0) (h1 : LowAt h (kf k0) 0 L) (h2 : ∀ x, h (x + 16) = some (F x)) (h3 : ∀ c, k0 ≤ c → c < 16 → h c = some .free) : HSub (fam (nb L) F) h := by
  intro c o ho
  by_cases h16 : 16 ≤ c
  · obtain ⟨x, rfl⟩ : ∃ x, c = x + 16 := ⟨c - 16, by omega⟩
    rw [fam_hi] at ho; cases ho
    exact h2 x
  · rw [fam_lo _ _ (by omega)] at ho
    have ho' : some (nth L c) = some o := ho
    cases ho'
    by_cases hlt : c < k0
    · have := h1.get (c := c) (by omega)
      rw [Nat.zero_add] at this
      exact this.1
    · rw [nth_out (by omega)]
      exact h3 c (by omega) (by omega)
theorem hput_hi {h : AHeap} {F : Nat → AObj} (hh : ∀ x, h (x + 16) = some (F x)) (z : Nat) (o : AObj) : ∀ x, hput h (z + 16) o (x + 16) = some (if x = z then o else F x) := fun x => by
  by_cases hx : x = z
  · subst hx; rw [hput_same, if_pos rfl]
  · rw [hput_ne _ _ (by omega), if_neg hx]; exact hh x
def clsIn (φ : Nat → Nat) (l : List Nat) (m : List Nat) : Prop := ∀ b ∈ l, φ b ∈ m
def setsIn (φ : Nat → Nat) : List (List Nat × List Nat) → List (List Nat × List Nat) → Prop
  | [], [] => True
  | s :: S, m :: M => clsIn φ s.1 m.1 ∧ clsIn φ s.2 m.2 ∧ setsIn φ S M
  | _, _ => False
theorem setsIn_get {φ : Nat → Nat} : ∀ {S M : List (List Nat × List Nat)} {i : Nat} {s : List Nat × List Nat}, setsIn φ S M → S[i]? = some s → ∃ m, M[i]? = some m ∧ clsIn φ s.1 m.1 ∧ clsIn φ s.2 m.2
  | [], _, _, _, _, h => by simp at h
  | _ :: _, [], _, _, hs, _ => hs.elim
  | s :: S, m :: M, 0, _, hs, h => by simp at h; subst h; exact ⟨m, rfl, hs.1, hs.2.1⟩
  | s :: S, m :: M, i + 1, t, hs, h => by
    simp only [List.getElem?_cons_succ] at h ⊢
    exact setsIn_get hs.2.2 h
theorem setsIn_none {φ : Nat → Nat} : ∀ {S M : List (List Nat × List Nat)} {i : Nat}, setsIn φ S M → S[i]? = none → M[i]? = none
  | [], [], _, _, _ => by simp
  | [], _ :: _, _, hs, _ => hs.elim
  | _ :: _, [], _, hs, _ => hs.elim
  | s :: S, m :: M, 0, _, h => by simp at h
  | s :: S, m :: M, i + 1, hs, h => by
    simp only [List.getElem?_cons_succ] at h ⊢
    exact setsIn_none hs.2.2 h
theorem apart_cls {φ : Nat → Nat} {x y x' y' : List Nat × List Nat} (hx1 : clsIn φ x.1 x'.1) (hx2 : clsIn φ x.2 x'.2) (hy1 : clsIn φ y.1 y'.1) (hy2 : clsIn φ y.2 y'.2) (h : slotsApart x' y' = true) : slotsApart x y = true := by
  simp only [slotsApart, Bool.and_eq_true, List.all_eq_true, Bool.not_eq_true', List.contains_eq_mem, decide_eq_false_iff_not] at h ⊢
  exact ⟨fun b hb => ⟨fun hc => (h.1 (φ b) (hx2 b hb)).1 (hy1 b hc), fun hc => (h.1 (φ b) (hx2 b hb)).2 (hy2 b hc)⟩, fun b hb hc => h.2 (φ b) (hy2 b hb) (hx1 b hc)⟩
theorem chk_cls {ops : Array Oper} (φ : Nat → Nat) {S M : List (List Nat × List Nat)} (hs : setsIn φ S M) (h : chk ops M = true) : chk ops S = true := by
  unfold chk at h ⊢
  rw [List.all_eq_true] at h ⊢
  intro j hj
  have hjj := h j hj
  cases ho : ops[j]? with
  | none => rw [ho] at hjj; cases hjj
  | some oj =>
    rw [ho] at hjj
    cases hsj : S[j]? with
    | none => rw [setsIn_none hs hsj] at hjj; cases hjj
    | some sj =>
      obtain ⟨mj, hmj, c1, c2⟩ := setsIn_get hs hsj
      rw [hmj] at hjj
      simp only [Bool.and_eq_true] at hjj ⊢
      refine ⟨hjj.1, ?_⟩
      rw [List.all_eq_true]
      intro i hi
      have hii := List.all_eq_true.1 hjj.2 i hi
      cases hoi : ops[i]? with
      | none => rw [hoi] at hii; cases hii
      | some oi =>
        rw [hoi] at hii
        cases hsi : S[i]? with
        | none => rw [setsIn_none hs hsi] at hii; cases hii
        | some si =>
          obtain ⟨mi, hmi, d1, d2⟩ := setsIn_get hs hsi
          rw [hmi] at hii
          simp only [Bool.or_eq_true, Bool.and_eq_true] at hii ⊢
          rcases hii with hii | hii
          · exact .inl hii
          · exact .inr ⟨hii.1, apart_cls d1 d2 c1 c2 hii.2⟩
theorem DOps.nilC {P : Program} {ops : Array Oper} {n : Nat} {e : AEnv} {h : AHeap} {acc : List (List Nat × List Nat)} {K : AState → Prop} (φ : Nat → Nat) (M : List (List Nat × List Nat)) (hs : setsIn φ acc M) (hc : chk ops M = true) (hk : K ⟨n, e, h⟩) : DOps P ops n [] e h acc K := DOps.nil (chk_cls φ hs hc) hk
theorem AllL.of {p : Nat → Prop} : ∀ {L : List Nat}, (∀ b ∈ L, p b) → AllL L p
  | [], _ => trivial
  | b :: L, h => ⟨h b (by simp), AllL.of fun c hc => h c (by simp [hc])⟩
def famW (f : Nat → Nat) (o : Nat → AObj) (n : Nat) : List (Nat × AObj) := (List.range n).map fun i => (f i, o i)
theorem famW_out {f : Nat → Nat} {o : Nat → AObj} {n b : Nat} (h : AHeap) (hb : ∀ i, i < n → b ≠ f i) : hputs h (famW f o n) b = h b := by
  refine hputs_not fun p hp => ?_
  unfold famW at hp
  simp only [List.mem_map, List.mem_range] at hp
  obtain ⟨i, hi, rfl⟩ := hp
  exact fun e => hb i hi e.symm
theorem mem_one (z : Nat) : mem [z] z = true := mem_iff.2 (by simp)
theorem and_both {a b : Bool} (ha : a = true) (hb : b = true) : (a && b) = true := by rw [ha, hb]; rfl
theorem o_callSee {P : Program} {o : Oper} {e : AEnv} {h : AHeap} {g : FuncId} {fn : Func} {args : Array Operand} {tys : Array TypeId} {xs : List AV} {r : AV} (z : Nat) {q : AObj}
    (ho : o.op = .call { callee := .value (.func g), args := args, argTypes := tys }) (hf : P.funcs[g]? = some fn) (hn : (fn.name == "runtime.NumGoroutine") = false) (hb : fn.body.isSome = true) (hx : lookAll e args.toList = some xs)
    (hxa : xs.all (AV.avoid (mem [z])) = true) (hz : h z = some q) (hq : q.avoid (mem [z]) = true) (hra : r.avoid (mem [z]) = true)
    (hcall : ACall P g xs (hput hNew z q) (fun r' h' => r' = r ∧ HSub (hput hNone z q) h')) : OLoc P o e h [z] [] (some r) :=
  o_call (hc := hput hNew z q) (hw := hput hNone z q) [z] [] ho hf hn hb hx hxa ⟨⟨q, hz, hq⟩, trivial⟩ rfl (hres_cons hz (hres_nil h)) ⟨⟨q, hput_same _ _ _, hz, hq⟩, trivial⟩ hra hcall
end Go.Proofs.Ytjmjmedjjbginaa.Sv

namespace Go.Proofs.Ytjmjmedjjbginaa.Sv
open Go
section
variable {P : Program} {T : Nat → Option TyI} {o : Oper} {e : AEnv} {h : AHeap}
theorem q_field (hT : TOk P T) {t : TypeId} {x : Operand} {f : Nat} {cs : List AV} {r : AV} {i j : TyI} {fs : List (Nat × Nat)} {off u : Nat} (ho : o.op = .field t x f) (hx : look e x = some (.agg cs)) (hi : T t = some i) (hk : i.k = .struct fs)
    (hf : fs[f]? = some (off, u)) (hj : T u = some j) (hc : j.k.isCell = true) (hr : cs[off]? = some r) : QLoc P o e h [] r := by
  intro H ι a w s hs h1 h2
  have hx' : look s.env x = some (.agg cs) := by rw [h1 x (by rw [ho]; simp [Op.operands]), hx]
  obtain ⟨info, d, e1, e2, e3, e4, e5, e6⟩ := tyOf_spec (hT _ _ hi)
  obtain ⟨info', d', f1, f2, f3, f4, f5, f6⟩ := tyOf_spec (hT _ _ hj)
  obtain ⟨A, rfl, rfl, hz⟩ := tk_struct (P := P) (d := d) (e3 ▸ hk)
  rw [List.getElem?_map, Array.getElem?_toList] at hf
  cases ef : A[f]? with
  | none => rw [ef] at hf; cases hf
  | some g =>
    rw [ef] at hf
    simp only [Option.map_some, Option.some.injEq, Prod.mk.injEq] at hf
    obtain ⟨rfl, rfl⟩ := hf
    obtain ⟨us, hv, hl, hrel⟩ := (look_rel hs hx').agg_inv
    have hlt : g.offset < us.size := by rw [← hl]; exact (List.getElem?_eq_some_iff.1 hr).1
    have hagg : isAggD d' = false := by
      have := tk_cell (P := P) (d := d') (by rw [← f3]; exact hc)
      cases d' <;> first | rfl | exact absurd rfl (this.1 _) | exact absurd rfl (this.2 _ _)
    refine ⟨us[g.offset], hrel g.offset r _ hr (Array.getElem?_eq_getElem hlt), ?_⟩
    simp only [execOp, ho, Instr.field, hv, Sem.run_bind, Sem.run_pure, Result.andThen_ok, run_underlying' e2, ef, asAgg, part, run_isAgg f2, hagg, Bool.false_eq_true, if_false, Array.getElem?_eq_getElem hlt]
end
end Go.Proofs.Ytjmjmedjjbginaa.Sv

namespace Go.Proofs.Ytjmjmedjjbginaa.Sv
open Go

theorem src_ref {h : AHeap} {b n : Nat} {p : Bool} {sz : Nat} {es : List (List AV)} (hb : h b = some (.row p sz es)) (hn : n = es.length) : SrcOf h (.ref b n 0 n) [b] es := by
  subst hn
  have := SrcOf.ref b es.length 0 es.length p sz es hb rfl
  rwa [List.drop_zero, List.take_length] at this
theorem putBB_row (I : BB) (b v : Nat) (z : Bool) : putBB I b v z b = fun u => if u = v then z else I b u := by
  funext u; unfold putBB; simp
theorem putBB_ne {I : BB} {b b' : Nat} (v : Nat) (z : Bool) (h : b' ≠ b) : putBB I b v z b' = I b' := by
  funext u; unfold putBB; simp [h]
theorem cls_nil (φ : Nat → Nat) (m : List Nat) : clsIn φ [] m := fun _ h => by cases h
theorem cls_one {φ : Nat → Nat} {b : Nat} {m : List Nat} (h : φ b ∈ m) : clsIn φ [b] m := fun c hc => by rw [List.mem_singleton] at hc; subst hc; exact h
theorem cls_two {φ : Nat → Nat} {b c : Nat} {m : List Nat} (h : φ b ∈ m) (h' : φ c ∈ m) : clsIn φ [b, c] m := fun d hd => by
  simp only [List.mem_cons, List.not_mem_nil, or_false] at hd
  rcases hd with rfl | rfl
  · exact h
  · exact h'
theorem rel_nil0 {H : Know} {ι : Lay} {v : Value} (h : Rel H ι .nil v) : Rel H ι (.lst true []) v := by
  rw [h.nil_inv]; exact .lst0 _ _ none 0 (fun _ => rfl) (Nat.zero_le _) (fun _ => rfl) trivial
end Go.Proofs.Ytjmjmedjjbginaa.Sv

namespace Go.Proofs.Ytjmjmedjjbginaa.Sv
open Go

theorem nexts_le2 (x : Block) : x.nexts.length ≤ 2 := by
  unfold Block.nexts
  cases x.fin == 1 <;> cases x.fin == 2 <;> simp
def b2n (b : Bool) : Nat := bif b then 1 else 0
structure RG where
  I : BB
  O : BB
  more : Bool
structure RInv (f : BFunc) (R : Nat) (g : RG) : Prop where
  si : SoundI f g.I
  so : SoundO f g.O
  cl : g.more = false → ∀ b, b < f.blocks.length → ClosedAt f R g.I g.O b
theorem RInv.first (f : BFunc) (R : Nat) : RInv f R ⟨fun _ _ => false, fun _ _ => false, true⟩ := ⟨fun _ _ h => (by cases h), fun _ _ h => (by cases h), fun h => (by cases h)⟩
def rmu (f : BFunc) (R : Nat) (g : RG) : Nat := falses f.blocks.length R g.I + b2n g.more
structure MInv (f : BFunc) (R B : Nat) (g : RG) (k : Nat) : Prop where
  si : SoundI f g.I
  so : SoundO f g.O
  kn : k ≤ f.blocks.length
  cl : g.more = false → ∀ b, k ≤ b → b < f.blocks.length → ClosedAt f R g.I g.O b
  bud : falses f.blocks.length R g.I + b2n g.more ≤ B
theorem MInv.first {f : BFunc} {R : Nat} {g : RG} (h : RInv f R g) : MInv f R (falses f.blocks.length R g.I) ⟨g.I, g.O, false⟩ f.blocks.length :=
  ⟨h.si, h.so, Nat.le_refl _, fun _ b h1 h2 => absurd h1 (by omega), Nat.le_refl _⟩
theorem MInv.last {f : BFunc} {R : Nat} {g g' : RG} (hm : g.more = true) (h : MInv f R (falses f.blocks.length R g.I) g' 0) : RInv f R g' ∧ rmu f R g' < rmu f R g := by
  refine ⟨⟨h.si, h.so, fun e b hb => h.cl e b (Nat.zero_le _) hb⟩, ?_⟩
  have := h.bud
  unfold rmu
  rw [hm]
  show _ < _ + 1
  omega
structure OInv (f : BFunc) (R : Nat) (I O0 : BB) (b : Nat) (x : Block) (O : BB) (j v : Nat) : Prop where
  so : SoundO f O
  ne : ∀ b', b' ≠ b → O b' = O0 b'
  js : ∀ j', j' < j → ∀ d, x.nexts[j']? = some d → ∀ u, u < R → I d.toNat u = true → O b u = true
  vs : ∀ d, x.nexts[j]? = some d → ∀ u, u < v → I d.toNat u = true → O b u = true
theorem OInv.first {f : BFunc} {R : Nat} {I O : BB} {b : Nat} {x : Block} (h : SoundO f O) : OInv f R I O b x O 0 0 := ⟨h, fun _ _ => rfl, fun _ h => absurd h (by omega), fun _ _ _ h => absurd h (by omega)⟩
theorem OInv.step {f : BFunc} {R : Nat} {I O0 : BB} {b : Nat} {x : Block} {O : BB} {j v : Nat} (hI : SoundI f I) (hx : f.blocks[b]? = some x) {d : Int} (hd : x.nexts[j]? = some d) (h : OInv f R I O0 b x O j v) : OInv f R I O0 b x (putBB O b v (O b v || I d.toNat v)) j (v + 1) := by
  have hmono : ∀ u, O b u = true → putBB O b v (O b v || I d.toNat v) b u = true := fun u hu => by
    rw [putBB_row]
    show (if u = v then _ else _) = true
    by_cases e : u = v
    · subst e; rw [if_pos rfl, hu]; rfl
    · rw [if_neg e]; exact hu
  refine ⟨soundO_put hI h.so hx (List.mem_of_getElem? hd), fun b' hb => by rw [putBB_ne _ _ hb]; exact h.ne b' hb, fun j' hj d' hd' u hu hi => hmono u (h.js j' hj d' hd' u hu hi), fun d' hd' u hu hi => ?_⟩
  rw [hd] at hd'; cases hd'
  by_cases e : u = v
  · subst e
    rw [putBB_row]
    show (if u = u then _ else _) = true
    rw [if_pos rfl, hi, Bool.or_true]
  · exact hmono u (h.vs d hd u (by omega) hi)
theorem OInv.next {f : BFunc} {R : Nat} {I O0 : BB} {b : Nat} {x : Block} {O : BB} {j v : Nat} (h : OInv f R I O0 b x O j v) (hv : R ≤ v) : OInv f R I O0 b x O (j + 1) 0 := by
  refine ⟨h.so, h.ne, fun j' hj d hd u hu hi => ?_, fun _ _ _ hu => absurd hu (by omega)⟩
  by_cases e : j' = j
  · subst e; exact h.vs d hd u (by omega) hi
  · exact h.js j' (by omega) d hd u hu hi
structure AInv (f : BFunc) (R B : Nat) (g : RG) (b : Nat) (p : Nat → Bool) (I : BB) (more : Bool) (v : Nat) : Prop where
  si : SoundI f I
  ms : more = false → g.more = false ∧ I = g.I
  bud : falses f.blocks.length R I + b2n more ≤ B
  us : ∀ u, u < v → p u = true → I b u = true
theorem AInv.first {f : BFunc} {R B : Nat} {g : RG} {k b : Nat} {p : Nat → Bool} (h : MInv f R B g k) : AInv f R B g b p g.I g.more 0 := ⟨h.si, fun e => ⟨e, rfl⟩, h.bud, fun _ h => absurd h (by omega)⟩
theorem AInv.skip {f : BFunc} {R B : Nat} {g : RG} {b : Nat} {p : Nat → Bool} {I : BB} {more : Bool} {v : Nat} (h : AInv f R B g b p I more v) (hp : (p v && !I b v) = false) : AInv f R B g b p I more (v + 1) := by
  refine ⟨h.si, h.ms, h.bud, fun u hu e => ?_⟩
  by_cases eu : u = v
  · subst eu
    rw [e] at hp
    simpa using hp
  · exact h.us u (by omega) e
theorem AInv.put {f : BFunc} {R B : Nat} {g : RG} {b : Nat} {p : Nat → Bool} {I : BB} {more : Bool} {v : Nat} (h : AInv f R B g b p I more v) (hp : (p v && !I b v) = true) (hb : b < f.blocks.length) (hv : v < R) (hl : p v = true → LiveIn f v b) : AInv f R B g b p (putBB I b v true) true (v + 1) := by
  simp only [Bool.and_eq_true, Bool.not_eq_true'] at hp
  have hf := falses_put (I := I) hb hv hp.2
  refine ⟨soundI_put h.si (hl hp.1), (fun e => by cases e), ?_, fun u hu e => ?_⟩
  · have := h.bud
    show _ + 1 ≤ B
    omega
  · rw [putBB_row]
    show (if u = v then _ else _) = true
    by_cases eu : u = v
    · rw [if_pos eu]
    · rw [if_neg eu]; exact h.us u (by omega) e
theorem MInv.next {f : BFunc} {R B : Nat} {g : RG} {b : Nat} {x : Block} {O I : BB} {more : Bool} {j v v' : Nat} (h : MInv f R B g (b + 1)) (hx : f.blocks[b]? = some x) (hO : OInv f R g.I g.O b x O j v) (hj : x.nexts.length ≤ j)
    (hA : AInv f R B g b (fun v => need v x.ins (endz x v || O b v)) I more v') (hv : R ≤ v') : MInv f R B ⟨I, O, more⟩ b := by
  refine ⟨hA.si, hO.so, by have := h.kn; omega, fun e b' h1 h2 => ?_, hA.bud⟩
  obtain ⟨m1, m2⟩ := hA.ms e
  show ClosedAt f R I O b'
  by_cases eb : b' = b
  · subst eb
    intro y hy u hu
    rw [hx] at hy; cases hy
    refine ⟨fun d hd hi => ?_, fun hn => hA.us u (by omega) hn⟩
    obtain ⟨j', hj'⟩ := List.getElem?_of_mem hd
    have := (List.getElem?_eq_some_iff.1 hj').1
    exact hO.js j' (by omega) d hj' u hu (m2 ▸ hi)
  · have := h.cl m1 b' (by omega) h2
    intro y hy u hu
    have hh := this y hy u hu
    rw [hO.ne b' eb, m2]
    exact hh
end Go.Proofs.Ytjmjmedjjbginaa.Sv

namespace Go.Proofs.Ytjmjmedjjbginaa.Sv
open Go
theorem Ghost.endCell {n : Nat} {e : AEnv} {h : AHeap} (b0 j b : Nat) {sz0 sz : Nat} {cs : List AV} {es : List (List AV)} (hb0 : h b0 = some (.row false sz0 [cs])) (hj : cs[j]? = some (slA b es)) (hb : h b = some (slO sz es)) (hne : b0 ≠ b) :
    Ghost ⟨n, e, h⟩ ⟨n, e, hput (hrm h b) b0 (.row false sz0 [cs.set j (.lst false es)])⟩ := by
  cases hes : es.isEmpty with
  | false =>
    have e1 : slA b es = .ref b es.length 0 es.length := by simp [slA, hes, jAV]
    have e2 : slO sz es = .row true sz es := by simp [slO, hes, jObj]
    rw [e1] at hj
    rw [e2] at hb
    have := Ghost.freezeCell (n := n) (e := e) b0 0 j b hb0 rfl hj hb rfl hne
    rwa [List.drop_zero, List.take_length] at this
  | true =>
    have e0 : es = [] := List.isEmpty_iff.1 hes
    subst e0
    have hj' : cs[j]? = some (.lst true []) := hj
    refine (Ghost.weakRowF b0 (es' := [cs.set j (.lst false [])]) hb0 rfl ?_).trans (.of_sub ⟨rfl, fun _ _ h => h, fun c x hx => ?_⟩)
    · intro i ds ds' h1 h2
      cases i with
      | zero =>
        simp only [List.getElem?_cons_zero, Option.some.injEq] at h1 h2
        subst h1; subst h2
        refine ⟨by simp, fun k x y hx hy => ?_⟩
        rw [List.getElem?_set] at hy
        by_cases hk : j = k
        · subst hk
          rw [hj'] at hx; cases hx
          have hlt := (List.getElem?_eq_some_iff.1 hj').1
          rw [if_pos rfl, if_pos hlt] at hy; cases hy
          exact ⟨fun _ => rfl, fun H ι v h => rel_unex h⟩
        · rw [if_neg hk, hx] at hy; cases hy
          exact ⟨fun h => h, fun _ _ _ h => h⟩
      | succ i => simp at h1
    · have h1 : hput (hrm h b) b0 (.row false sz0 [cs.set j (.lst false [])]) c = some x := hx
      show hput h b0 _ c = some x
      by_cases hc : c = b0
      · subst hc; rw [hput_same] at h1 ⊢; exact h1
      · rw [hput_ne _ _ hc] at h1 ⊢
        by_cases hcb : c = b
        · subst hcb
          have : hrm h c c = some x := h1
          unfold hrm at this
          rw [show Nat.beq c c = true from Nat.beq_refl c] at this
          cases this
        · rwa [hrm_ne _ hcb] at h1
theorem cut_sane {f g : BFunc} (h : Cut f g) (hs : f.sane) : g.sane := by
  obtain ⟨c, x, l1, t, l2, v, h⟩ := h
  have hxm := List.mem_of_getElem? h.hx
  have hlen : g.blocks.length = f.blocks.length := by rw [h.hg, putB_len]
  have hreg : g.regs = f.regs := by rw [h.hg]; rfl
  have key : ∀ y ∈ g.blocks, y ∈ f.blocks ∨ y = x.mid (l1 ++ l2) := fun y hy => by
    rw [h.hg] at hy
    exact List.mem_or_eq_of_mem_set hy
  refine ⟨by rw [hreg]; exact hs.regs, fun y hy u hu => ?_, fun y hy => ?_, fun y hy d hd => ?_⟩
  · rw [hreg]
    rcases key y hy with hy | rfl
    · exact hs.low y hy u hu
    · refine hs.low x hxm u ?_
      rw [h.hi]
      have hu' : u ∈ l1 ++ l2 := hu
      simp only [List.mem_append, List.mem_cons] at hu' ⊢
      rcases hu' with hu' | hu'
      · exact .inl hu'
      · exact .inr (.inr hu')
  · rw [hreg]
    rcases key y hy with hy | rfl
    · exact hs.fin y hy
    · exact hs.fin x hxm
  · rw [hlen]
    rcases key y hy with hy | rfl
    · exact hs.next y hy d hd
    · exact hs.next x hxm d hd
theorem cuts_sane {f g : BFunc} (h : Cuts f g) (hs : f.sane) : g.sane := by
  induction h with
  | refl => exact hs
  | step a _ ih => exact ih (cut_sane a hs)
theorem cut_ins {f g : BFunc} {n : Nat} (h : Cut f g) (hs : ∀ x ∈ f.blocks, x.ins.length ≤ n) : ∀ x ∈ g.blocks, x.ins.length ≤ n := by
  obtain ⟨c, x, l1, t, l2, v, h⟩ := h
  intro y hy
  rw [h.hg] at hy
  rcases List.mem_or_eq_of_mem_set hy with hy | rfl
  · exact hs y hy
  · have := hs x (List.mem_of_getElem? h.hx)
    rw [h.hi] at this
    simp only [Block.mid, List.length_append, List.length_cons] at this ⊢
    omega
theorem cuts_ins {f g : BFunc} {n : Nat} (h : Cuts f g) (hs : ∀ x ∈ f.blocks, x.ins.length ≤ n) : ∀ x ∈ g.blocks, x.ins.length ≤ n := by
  induction h with
  | refl => exact hs
  | step a _ ih => exact ih (cut_ins a hs)
end Go.Proofs.Ytjmjmedjjbginaa.Sv

namespace Go.Proofs.Ytjmjmedjjbginaa.Sv
open Go

def encN (p : Nat → Bool) : Nat → Nat
  | 0 => 0
  | n + 1 => encN p n + (if p n then 2 ^ n else 0)
theorem encN_lt (p : Nat → Bool) : ∀ n, encN p n < 2 ^ n
  | 0 => by simp [encN]
  | n + 1 => by
    have ih := encN_lt p n
    unfold encN
    have : 2 ^ (n + 1) = 2 ^ n + 2 ^ n := by rw [Nat.pow_succ]; omega
    split <;> omega
theorem encN_bit (p : Nat → Bool) : ∀ n i, (encN p n).testBit i = (decide (i < n) && p i)
  | 0, i => by simp [encN]
  | n + 1, i => by
    have ih := encN_bit p n i
    have hlt := encN_lt p n
    unfold encN
    by_cases hp : p n = true
    · rw [if_pos hp, Nat.add_comm]
      by_cases h1 : i < n
      · rw [Nat.testBit_two_pow_add_gt h1, ih]
        simp [h1]; omega
      · by_cases h2 : i = n
        · subst h2
          rw [Nat.testBit_two_pow_add_eq, ih]
          simp [hp]
        · have h3 : 2 ^ n + encN p n < 2 ^ i := by
            have : 2 ^ (n + 1) ≤ 2 ^ i := Nat.pow_le_pow_right (by omega) (by omega)
            rw [Nat.pow_succ] at this; omega
          rw [Nat.testBit_lt_two_pow h3]
          have : ¬ i < n + 1 := by omega
          simp [this]
    · rw [if_neg hp, Nat.add_zero, ih]
      by_cases h2 : i = n
      · subst h2; simp [hp]
      · by_cases h1 : i < n
        · have : i < n + 1 := by omega
          simp [h1, this]
        · have : ¬ i < n + 1 := by omega
          simp [h1, this]
theorem eq_encN {p : Nat → Bool} {n x : Nat} (h : ∀ i, x.testBit i = (decide (i < n) && p i)) : x = encN p n := Nat.eq_of_testBit_eq fun i => by rw [h, encN_bit]
theorem encN_congr {p q : Nat → Bool} {n : Nat} (h : ∀ i, i < n → p i = q i) : encN p n = encN q n := eq_encN fun i => by
  rw [encN_bit]
  by_cases hi : i < n
  · simp [hi, h i hi]
  · simp [hi]
theorem encN_inj {p q : Nat → Bool} {n : Nat} (h : encN p n = encN q n) : ∀ i, i < n → p i = q i := fun i hi => by
  have := congrArg (fun x => x.testBit i) h
  simp only [encN_bit, hi, decide_true, Bool.true_and] at this
  exact this
theorem wrap_u64 {x : Nat} (h : x < 18446744073709551616) : IntKind.u64.wrap (x : Int) = (x : Int) := wrapN_u64 h
theorem ofInt_nat (w x : Nat) : BitVec.ofInt w (x : Int) = BitVec.ofNat w x := by
  apply BitVec.eq_of_toNat_eq
  simp
def wd (p : Nat → Bool) : Nat := encN p 64
theorem wd_lt (p : Nat → Bool) : wd p < 18446744073709551616 := encN_lt p 64
theorem wd_bit (p : Nat → Bool) (i : Nat) : (wd p).testBit i = (decide (i < 64) && p i) := encN_bit p 64 i
theorem wd_mod (p : Nat → Bool) : wd p % 2 ^ 64 = wd p := Nat.mod_eq_of_lt (wd_lt p)
theorem wd_or (p q : Nat → Bool) : evalBin .or (.int .u64 (wd p : Int)) (.int .u64 (wd q : Int)) = some (.int .u64 (wd (fun v => p v || q v) : Int)) := by
  have e : (BitVec.ofInt 64 (wd p : Int) ||| BitVec.ofInt 64 (wd q : Int)).toNat = wd (fun v => p v || q v) := by
    rw [ofInt_nat, ofInt_nat, BitVec.toNat_or, BitVec.toNat_ofNat, BitVec.toNat_ofNat, wd_mod, wd_mod]
    refine eq_encN fun i => ?_
    rw [Nat.testBit_or, wd_bit, wd_bit]
    cases decide (i < 64) <;> simp
  show some (AV.int .u64 (IntKind.u64.wrap ((BitVec.ofInt 64 (wd p : Int) ||| BitVec.ofInt 64 (wd q : Int)).toNat : Int))) = _
  rw [e, wrap_u64 (wd_lt _)]
theorem wd_andNot (p q : Nat → Bool) : evalBin .andNot (.int .u64 (wd p : Int)) (.int .u64 (wd q : Int)) = some (.int .u64 (wd (fun v => p v && !q v) : Int)) := by
  have e : (BitVec.ofInt 64 (wd p : Int) &&& ~~~BitVec.ofInt 64 (wd q : Int)).toNat = wd (fun v => p v && !q v) := by
    refine eq_encN fun i => ?_
    rw [ofInt_nat, ofInt_nat]
    rw [← BitVec.getLsbD.eq_1, BitVec.getLsbD_and, BitVec.getLsbD_not, BitVec.getLsbD_ofNat, BitVec.getLsbD_ofNat, wd_bit, wd_bit]
    cases decide (i < 64) <;> simp
  show some (AV.int .u64 (IntKind.u64.wrap ((BitVec.ofInt 64 (wd p : Int) &&& ~~~BitVec.ofInt 64 (wd q : Int)).toNat : Int))) = _
  rw [e, wrap_u64 (wd_lt _)]
theorem wd_one {i : Nat} (h : i < 64) : evalBin .shl (.int .u64 1) (.int .i64 (i : Int)) = some (.int .u64 (wd (fun v => v == i) : Int)) := by
  have e : (2 : Nat) ^ i = wd (fun v => v == i) := eq_encN fun k => by
    rw [Nat.testBit_two_pow]
    by_cases hk : k = i
    · subst hk; simp [h]
    · have : ¬ i = k := fun e => hk e.symm
      simp [hk, this]
  have hl : (2 : Nat) ^ i < 18446744073709551616 := by rw [e]; exact wd_lt _
  have h1 : min ((i : Int).toNat) IntKind.u64.bits = i := by rw [Int.toNat_natCast]; show min i 64 = i; omega
  have h2 : evalBin .shl (.int .u64 1) (.int .i64 (i : Int)) = some (.int .u64 (IntKind.u64.wrap (1 * 2 ^ (min ((i : Int).toNat) IntKind.u64.bits)))) := by
    have hn : ¬ ((i : Int) < 0) := by omega
    simp [evalBin, isShift, evalInt, hn]
  rw [h2, h1, Int.one_mul, show ((2 : Int) ^ i) = (((2 : Nat) ^ i : Nat) : Int) by simp, wrap_u64 hl, e]
theorem wd_shr {p : Nat → Bool} {i : Nat} (h : i < 64) : evalBin .shr (.int .u64 (wd p : Int)) (.int .i64 (i : Int)) = some (.int .u64 ((wd p / 2 ^ i : Nat) : Int)) := by
  have h1 : min ((i : Int).toNat) IntKind.u64.bits = i := by rw [Int.toNat_natCast]; show min i 64 = i; omega
  have h2 : evalBin .shr (.int .u64 (wd p : Int)) (.int .i64 (i : Int)) = some (.int .u64 ((wd p : Int).fdiv (2 ^ (min ((i : Int).toNat) IntKind.u64.bits)))) := by
    have hn : ¬ ((i : Int) < 0) := by omega
    simp [evalBin, isShift, evalInt, hn]
  rw [h2, h1]
  congr 2
  rw [Int.fdiv_eq_ediv_of_nonneg _ (by exact Int.le_of_lt (Int.pow_pos (by decide)))]
  simp
theorem wd_and1 (p : Nat → Bool) {i : Nat} (h : i < 64) : evalBin .and (.int .u64 ((wd p / 2 ^ i : Nat) : Int)) (.int .u64 1) = some (.int .u64 ((b2n (p i) : Nat) : Int)) := by
  have hb := wd_bit p i
  have e : (BitVec.ofInt 64 ((wd p / 2 ^ i : Nat) : Int) &&& BitVec.ofInt 64 (1 : Int)).toNat = b2n (p i) := by
    have e1 : BitVec.ofInt 64 (1 : Int) = BitVec.ofNat 64 1 := by decide
    rw [ofInt_nat, e1, BitVec.toNat_and, BitVec.toNat_ofNat, BitVec.toNat_ofNat]
    have hl : wd p / 2 ^ i < 2 ^ 64 := Nat.lt_of_le_of_lt (Nat.div_le_self _ _) (wd_lt p)
    rw [Nat.mod_eq_of_lt hl, show 1 % 2 ^ 64 = 1 from rfl, Nat.and_one_is_mod]
    rw [Nat.testBit_eq_decide_div_mod_eq] at hb
    simp only [h, decide_true, Bool.true_and] at hb
    cases hp : p i with
    | true => rw [hp] at hb; simp at hb; simp [b2n, hb]
    | false => rw [hp] at hb; simp at hb; simp [b2n]; omega
  show some (AV.int .u64 (IntKind.u64.wrap ((BitVec.ofInt 64 ((wd p / 2 ^ i : Nat) : Int) &&& BitVec.ofInt 64 (1 : Int)).toNat : Int))) = _
  rw [e, wrap_u64 (by cases p i <;> simp [b2n])]
theorem wd_is1 (b : Bool) : evalBin .eql (.int .u64 ((b2n b : Nat) : Int)) (.int .u64 1) = some (.bool b) := by cases b <;> rfl
def nw (R : Nat) : Nat := (R + 63) / 64
def wdcell (p : Nat → Bool) (j : Nat) : List AV := [AV.int .u64 ((wd (fun v => p (64 * j + v)) : Nat) : Int)]
def rowW (R : Nat) (p : Nat → Bool) : List (List AV) := (List.range (nw R)).map (wdcell p)
theorem rowW_len (R : Nat) (p : Nat → Bool) : (rowW R p).length = nw R := by simp [rowW]
theorem rowW_get {R : Nat} {p : Nat → Bool} {j : Nat} (h : j < nw R) : (rowW R p)[j]? = some (wdcell p j) := by simp [rowW, h]
theorem nw_of {R i : Nat} (h : i < R) : i / 64 < nw R := by unfold nw; omega
theorem wdcell_congr {p q : Nat → Bool} {j : Nat} (h : ∀ v, v < 64 → p (64 * j + v) = q (64 * j + v)) : wdcell p j = wdcell q j := by
  unfold wdcell wd
  rw [encN_congr h]
theorem rowW_congr {R : Nat} {p q : Nat → Bool} (h : ∀ v, p v = q v) : rowW R p = rowW R q := List.map_congr_left fun j _ => wdcell_congr fun v _ => h _
theorem rowW_zero (R : Nat) : List.replicate (nw R) [AV.int .u64 0] = rowW R (fun _ => false) := by
  have e : ∀ j, wdcell (fun _ => false) j = [AV.int .u64 0] := fun j => by
    unfold wdcell wd
    have : encN (fun _ => false) 64 = 0 := (eq_encN (p := fun _ => false) (n := 64) (x := 0) (fun i => by simp)).symm
    rw [this]; rfl
  refine List.ext_getElem? fun i => ?_
  by_cases h : i < nw R
  · rw [rowW_get h, List.getElem?_replicate, if_pos h, e]
  · rw [List.getElem?_eq_none_iff.2 (by rw [List.length_replicate]; omega), List.getElem?_eq_none_iff.2 (by rw [rowW_len]; omega)]
theorem rowW_set {R : Nat} {p q : Nat → Bool} {j : Nat} (h1 : ∀ v, v / 64 ≠ j → q v = p v) : (rowW R p).set j (wdcell q j) = rowW R q := by
  refine List.ext_getElem? fun i => ?_
  rw [List.getElem?_set]
  by_cases hi : i < nw R
  · rw [rowW_get hi, rowW_get hi, rowW_len]
    by_cases h : j = i
    · subst h; simp [hi]
    · rw [if_neg h]
      congr 1
      exact wdcell_congr fun v hv => (h1 _ (by omega)).symm
  · have e1 : (rowW R p)[i]? = none := List.getElem?_eq_none_iff.2 (by rw [rowW_len]; omega)
    have e2 : (rowW R q)[i]? = none := List.getElem?_eq_none_iff.2 (by rw [rowW_len]; omega)
    rw [e1, e2, rowW_len]
    by_cases h : j = i
    · subst h; simp [hi]
    · simp [h]
theorem bit_at {i v : Nat} (hv : v < 64) : (64 * (i / 64) + v == i) = (v == i % 64) := by
  rw [Bool.eq_iff_iff, beq_iff_eq, beq_iff_eq]; omega
theorem wdcell_add (p : Nat → Bool) (i : Nat) : wdcell (fun v => p v || v == i) (i / 64) = [AV.int .u64 ((wd (fun v => p (64 * (i / 64) + v) || v == i % 64) : Nat) : Int)] := by
  unfold wdcell wd
  rw [encN_congr (q := fun v => p (64 * (i / 64) + v) || v == i % 64) (fun v hv => ?_)]
  dsimp only
  rw [bit_at hv]
theorem wdcell_rm (p : Nat → Bool) (i : Nat) : wdcell (fun v => p v && !(v == i)) (i / 64) = [AV.int .u64 ((wd (fun v => p (64 * (i / 64) + v) && !(v == i % 64)) : Nat) : Int)] := by
  unfold wdcell wd
  rw [encN_congr (q := fun v => p (64 * (i / 64) + v) && !(v == i % 64)) (fun v hv => ?_)]
  dsimp only
  rw [bit_at hv]
theorem quo64 {i : Nat} (h : i ≤ 1000000000) : evalBin .quo (.int .i64 (i : Int)) (.int .i64 64) = some (.int .i64 ((i / 64 : Nat) : Int)) := ebin_quo (b := 64) (by decide) (wrapN_i64 (by omega))
theorem rem64 {i : Nat} : evalBin .rem (.int .i64 (i : Int)) (.int .i64 64) = some (.int .i64 ((i % 64 : Nat) : Int)) := ebin_rem (b := 64) (by decide)
def setsAny (v : Nat) (l : List Tac) : Bool := l.any fun t => t.sets == (v : Int)
theorem need_split (v : Nat) (z : Bool) : ∀ l, need v l z = (need v l false || (z && !setsAny v l))
  | [] => by simp [need, setsAny]
  | t :: r => by
    have ih := need_split v z r
    unfold need
    rw [ih]
    have e : setsAny v (t :: r) = (t.sets == (v : Int) || setsAny v r) := rfl
    rw [e]
    cases t.uses.contains (v : Int) <;> cases t.sets == (v : Int) <;> simp
def readP (x : Block) (v : Nat) : Bool := need v x.ins (endz x v)
theorem need_touch (x : Block) (v : Nat) (o : Bool) : need v x.ins (endz x v || o) = (readP x v || (o && !setsAny v x.ins)) := by
  unfold readP
  rw [need_split v (endz x v || o), need_split v (endz x v)]
  cases need v x.ins false <;> cases endz x v <;> cases o <;> cases setsAny v x.ins <;> rfl
end Go.Proofs.Ytjmjmedjjbginaa.Sv

namespace Go.Proofs.Ytjmjmedjjbginaa.Sv
open Go

def rmT (t : Tac) (p : Nat → Bool) : Nat → Bool := fun v => p v && !(t.sets == (v : Int))
def addUs (us : List Int) (p : Nat → Bool) : Nat → Bool := fun v => us.contains (v : Int) || p v
def setT (t : Tac) (q : Nat → Bool) : Nat → Bool := fun v => q v || t.sets == (v : Int)
def tR (x : Block) (pre : List Nat) : Nat → Bool := pre.foldl (fun p k => match x.ins[k]? with
  | some t => addUs t.uses (rmT t p)
  | none => p) (endz x)
def tS (x : Block) (pre : List Nat) : Nat → Bool := pre.foldl (fun p k => match x.ins[k]? with
  | some t => setT t p
  | none => p) (fun _ => false)
theorem tR_snoc {x : Block} {pre : List Nat} {k : Nat} {t : Tac} (h : x.ins[k]? = some t) : tR x (pre ++ [k]) = addUs t.uses (rmT t (tR x pre)) := by
  unfold tR; rw [List.foldl_append]; simp [h]
theorem tS_snoc {x : Block} {pre : List Nat} {k : Nat} {t : Tac} (h : x.ins[k]? = some t) : tS x (pre ++ [k]) = setT t (tS x pre) := by
  unfold tS; rw [List.foldl_append]; simp [h]
theorem rrev_succ (k : Nat) : (List.range (k + 1)).reverse = k :: (List.range k).reverse := by
  rw [List.range_succ, List.reverse_append]; rfl
theorem foldR (x : Block) (v : Nat) : ∀ (m : Nat) (p : Nat → Bool), m ≤ x.ins.length → ((List.range m).reverse.foldl (fun p k => match x.ins[k]? with
  | some t => addUs t.uses (rmT t p)
  | none => p) p) v = need v (x.ins.take m) (p v)
  | 0, p, _ => by simp [need]
  | m + 1, p, h => by
    obtain ⟨t, ht⟩ := get_of_lt (l := x.ins) (k := m) (by omega)
    rw [rrev_succ, List.foldl_cons, foldR x v m _ (by omega), ht]
    have e : x.ins.take (m + 1) = x.ins.take m ++ [t] := by
      rw [List.take_add_one, ht]; rfl
    rw [e, need_app]
    congr 1
    unfold addUs rmT
    simp [need, Bool.and_comm]
theorem foldS (x : Block) (v : Nat) : ∀ (m : Nat) (p : Nat → Bool), m ≤ x.ins.length → ((List.range m).reverse.foldl (fun p k => match x.ins[k]? with
  | some t => setT t p
  | none => p) p) v = (p v || setsAny v (x.ins.take m))
  | 0, p, _ => by simp [setsAny]
  | m + 1, p, h => by
    obtain ⟨t, ht⟩ := get_of_lt (l := x.ins) (k := m) (by omega)
    rw [rrev_succ, List.foldl_cons, foldS x v m _ (by omega), ht]
    have e : x.ins.take (m + 1) = x.ins.take m ++ [t] := by
      rw [List.take_add_one, ht]; rfl
    rw [e]
    unfold setT setsAny
    rw [List.any_append]
    simp only [List.any_cons, List.any_nil, Bool.or_false]
    cases p v <;> cases t.sets == (v : Int) <;> cases (List.any (List.take m x.ins) fun t => t.sets == (v : Int)) <;> rfl
theorem tR_all (x : Block) (v : Nat) : tR x (List.range x.ins.length).reverse v = readP x v := by
  have := foldR x v x.ins.length (endz x) (Nat.le_refl _)
  rw [List.take_length] at this
  exact this
theorem tS_all (x : Block) (v : Nat) : tS x (List.range x.ins.length).reverse v = setsAny v x.ins := by
  have := foldS x v x.ins.length (fun _ => false) (Nat.le_refl _)
  rw [List.take_length] at this
  exact this.trans (by simp)
def wRow (R : Nat) (p : Nat → Bool) : AObj := .row true 1 (rowW R p)
theorem wRow_congr {R : Nat} {p q : Nat → Bool} (h : ∀ v, p v = q v) : some (wRow R p) = some (wRow R q) := congrArg (fun es => some (AObj.row true 1 es)) (rowW_congr h)
theorem beq_toNat {d : Int} (h : 0 ≤ d) (v : Nat) : (v == d.toNat) = (d == (v : Int)) := by
  rw [Bool.eq_iff_iff, beq_iff_eq, beq_iff_eq]; omega
theorem rmT_pos {t : Tac} {p : Nat → Bool} (h : 0 ≤ t.sets) (v : Nat) : (p v && !(v == t.sets.toNat)) = rmT t p v := by unfold rmT; rw [beq_toNat h]
theorem setT_pos {t : Tac} {p : Nat → Bool} (h : 0 ≤ t.sets) (v : Nat) : (p v || v == t.sets.toNat) = setT t p v := by unfold setT; rw [beq_toNat h]
theorem rmT_neg {t : Tac} {p : Nat → Bool} (h : ¬ 0 ≤ t.sets) (v : Nat) : p v = rmT t p v := by
  unfold rmT
  have : (t.sets == (v : Int)) = false := by rw [beq_eq_false_iff_ne]; omega
  rw [this]; simp
theorem setT_neg {t : Tac} {p : Nat → Bool} (h : ¬ 0 ≤ t.sets) (v : Nat) : p v = setT t p v := by
  unfold setT
  have : (t.sets == (v : Int)) = false := by rw [beq_eq_false_iff_ne]; omega
  rw [this]; simp
theorem addUs_nil {p : Nat → Bool} (v : Nat) : p v = addUs [] p v := by simp [addUs]
theorem addUs_succ {us : List Int} {k : Nat} {u : Int} {p : Nat → Bool} (h : us[k]? = some u) (hu : 0 ≤ u) (v : Nat) : (addUs (us.take k) p v || v == u.toNat) = addUs (us.take (k + 1)) p v := by
  unfold addUs
  have e : us.take (k + 1) = us.take k ++ [u] := by rw [List.take_add_one, h]; rfl
  have e2 : (us.take k ++ [u]).contains (v : Int) = ((us.take k).contains (v : Int) || (v == u.toNat)) := by
    rw [beq_toNat hu, Bool.eq_iff_iff]
    simp only [List.contains_iff_mem, List.mem_append, List.mem_singleton, Bool.or_eq_true, beq_iff_eq]
    constructor
    · rintro (h | h)
      · exact .inl h
      · exact .inr h.symm
    · rintro (h | h)
      · exact .inl h
      · exact .inr h.symm
  rw [e, e2]
  cases (us.take k).contains (v : Int) <;> cases (v == u.toNat) <;> cases p v <;> rfl
theorem endz_add {x : Block} (h : x.fin = 2) (h0 : 0 ≤ x.v) (v : Nat) : (false || v == x.v.toNat) = endz x v := by
  rw [beq_toNat h0]; simp [endz, h]
theorem endz_no {x : Block} (h : ¬ x.fin = 2) (v : Nat) : false = endz x v := by
  simp [endz, h]
end Go.Proofs.Ytjmjmedjjbginaa.Sv

namespace Go.Proofs.Ytjmjmedjjbginaa.Sv
open Go
def colF (g : Nat → AV) (n : Nat) : List (List AV) := (List.range n).map fun b => [g b]
theorem colF_len (g : Nat → AV) (n : Nat) : (colF g n).length = n := by simp [colF]
theorem colF_get {g : Nat → AV} {n b : Nat} (h : b < n) : (colF g n)[b]? = some [g b] := by simp [colF, h]
theorem colF_succ (g : Nat → AV) (n : Nat) : colF g (n + 1) = colF g n ++ [[g n]] := by
  unfold colF; rw [List.range_succ, List.map_append]; rfl
theorem colF_congr {g g' : Nat → AV} {n : Nat} (h : ∀ b, b < n → g b = g' b) : colF g n = colF g' n := List.map_congr_left fun b hb => by rw [h b (List.mem_range.1 hb)]
theorem colF_set {g : Nat → AV} {n b : Nat} (x : AV) : (colF g n).set b [x] = colF (fun c => if c = b then x else g c) n := by
  refine List.ext_getElem? fun i => ?_
  rw [List.getElem?_set]
  by_cases hi : i < n
  · rw [colF_get hi, colF_get hi, colF_len]
    by_cases h : b = i
    · subst h; simp [hi]
    · rw [if_neg h, if_neg (fun e => h e.symm)]
  · rw [List.getElem?_eq_none_iff.2 (by rw [colF_len]; omega : (colF g n).length ≤ i), List.getElem?_eq_none_iff.2 (by rw [colF_len]; omega : (colF (fun c => if c = b then x else g c) n).length ≤ i), colF_len]
    by_cases h : b = i
    · subst h; simp [hi]
    · rw [if_neg h]
theorem colF_mem {g : Nat → AV} {n : Nat} {cs : List AV} (h : cs ∈ colF g n) : ∃ b, b < n ∧ cs = [g b] := by
  obtain ⟨b, hb, rfl⟩ := List.mem_map.1 h
  exact ⟨b, List.mem_range.1 hb, rfl⟩
theorem colF_rep (x : AV) (n : Nat) : List.replicate n [x] = colF (fun _ => x) n := by
  refine List.ext_getElem? fun i => ?_
  by_cases h : i < n
  · rw [colF_get h, List.getElem?_replicate, if_pos h]
  · rw [List.getElem?_eq_none_iff.2 (by rw [List.length_replicate]; omega), List.getElem?_eq_none_iff.2 (by rw [colF_len]; omega)]
theorem colF_avoid {k : Nat → Bool} {p : Bool} {sz : Nat} {g : Nat → AV} {n : Nat} (h : ∀ b, b < n → (g b).avoid k = true) : (AObj.row p sz (colF g n)).avoid k = true := by
  cases p with
  | true => rfl
  | false =>
    show (colF g n).all (fun cs => cs.all (AV.avoid k)) = true
    refine List.all_eq_true.2 fun cs hc => ?_
    obtain ⟨b, hb, rfl⟩ := colF_mem hc
    simp [h b hb]
theorem slP_avoid {k : Nat → Bool} {sz : Nat} {g : Nat → AV} {n : Nat} (h : ∀ b, b < n → (g b).avoid k = true) : (slP sz (colF g n)).avoid k = true := by
  unfold slP
  cases (colF g n).isEmpty with
  | true => rfl
  | false => exact colF_avoid h
theorem slP_col (sz : Nat) (g : Nat → AV) (n : Nat) : slP sz (colF g (n + 1)) = .row false sz (colF g n ++ [[g n]]) := by
  rw [colF_succ]; simp [slP, snoc_ne]
theorem slA_col {t : Nat} {g : Nat → AV} {n : Nat} (h : 0 < n) : slA t (colF g n) = .ref t n 0 n := by
  have := slA_at (b := t) (es := colF g n) (k := 0) (by rw [colF_len]; exact h)
  rw [this, colF_len]
theorem slP_col' {sz : Nat} {g : Nat → AV} {n : Nat} (h : 0 < n) : slP sz (colF g n) = .row false sz (colF g n) := by
  obtain ⟨m, rfl⟩ : ∃ m, n = m + 1 := ⟨n - 1, by omega⟩
  rw [slP_col, colF_succ]
def rG (q m : Nat) : Nat → AV := fun b => .ref (3 * b + q + 16) m 0 m
theorem rG_avoid (k0 q m b : Nat) : (rG q m b).avoid (kf k0) = true := by
  simp [rG, AV.avoid, AV.flat, kf_hi]
def F3 (r0 r1 r2 : Nat → AObj) : Nat → AObj := fun x => if x % 3 = 0 then r0 (x / 3) else if x % 3 = 1 then r1 (x / 3) else r2 (x / 3)
theorem F3_0 (r0 r1 r2 : Nat → AObj) (b : Nat) : F3 r0 r1 r2 (3 * b + 0) = r0 b := by
  unfold F3; rw [if_pos (by omega)]; congr 1; omega
theorem F3_1 (r0 r1 r2 : Nat → AObj) (b : Nat) : F3 r0 r1 r2 (3 * b + 1) = r1 b := by
  unfold F3; rw [if_neg (by omega), if_pos (by omega)]; congr 1; omega
theorem F3_2 (r0 r1 r2 : Nat → AObj) (b : Nat) : F3 r0 r1 r2 (3 * b + 2) = r2 b := by
  unfold F3; rw [if_neg (by omega), if_neg (by omega)]; congr 1; omega
def upd (r : Nat → AObj) (b : Nat) (o : AObj) : Nat → AObj := fun c => if c = b then o else r c
theorem F3_u0 (r0 r1 r2 : Nat → AObj) (b : Nat) (o : AObj) (x : Nat) : F3 (upd r0 b o) r1 r2 x = if x = 3 * b + 0 then o else F3 r0 r1 r2 x := by
  unfold F3 upd
  by_cases h : x = 3 * b + 0
  · rw [if_pos h, if_pos (by omega), if_pos (by omega)]
  · rw [if_neg h]
    by_cases h2 : x % 3 = 0
    · rw [if_pos h2, if_pos h2, if_neg (by omega)]
    · rw [if_neg h2, if_neg h2]
theorem F3_u1 (r0 r1 r2 : Nat → AObj) (b : Nat) (o : AObj) (x : Nat) : F3 r0 (upd r1 b o) r2 x = if x = 3 * b + 1 then o else F3 r0 r1 r2 x := by
  unfold F3 upd
  by_cases h : x = 3 * b + 1
  · rw [if_pos h, if_neg (by omega), if_pos (by omega), if_pos (by omega)]
  · rw [if_neg h]
    by_cases h2 : x % 3 = 0
    · rw [if_pos h2, if_pos h2]
    · rw [if_neg h2, if_neg h2]
      by_cases h3 : x % 3 = 1
      · rw [if_pos h3, if_pos h3, if_neg (by omega)]
      · rw [if_neg h3, if_neg h3]
theorem F3_u2 (r0 r1 r2 : Nat → AObj) (b : Nat) (o : AObj) (x : Nat) : F3 r0 r1 (upd r2 b o) x = if x = 3 * b + 2 then o else F3 r0 r1 r2 x := by
  unfold F3 upd
  by_cases h : x = 3 * b + 2
  · rw [if_pos h, if_neg (by omega), if_neg (by omega), if_pos (by omega)]
  · rw [if_neg h]
    by_cases h2 : x % 3 = 0
    · rw [if_pos h2, if_pos h2]
    · rw [if_neg h2, if_neg h2]
      by_cases h3 : x % 3 = 1
      · rw [if_pos h3, if_pos h3]
      · rw [if_neg h3, if_neg h3, if_neg (by omega)]
theorem F3_avoid {k : Nat → Bool} {r0 r1 r2 : Nat → AObj} (h0 : ∀ b, (r0 b).avoid k = true) (h1 : ∀ b, (r1 b).avoid k = true) (h2 : ∀ b, (r2 b).avoid k = true) (x : Nat) : (F3 r0 r1 r2 x).avoid k = true := by
  unfold F3
  split
  · exact h0 _
  · split
    · exact h1 _
    · exact h2 _
def cls3 (b : Nat) : Nat := if b < 16 then b else 16 + (b - 16) % 3
theorem cls3_0 (i : Nat) : cls3 (3 * i + 0 + 16) = 16 := by unfold cls3; rw [if_neg (by omega)]; omega
theorem cls3_1 (i : Nat) : cls3 (3 * i + 1 + 16) = 17 := by unfold cls3; rw [if_neg (by omega)]; omega
theorem cls3_2 (i : Nat) : cls3 (3 * i + 2 + 16) = 18 := by unfold cls3; rw [if_neg (by omega)]; omega
def rowsTo (k : Nat) (o : Nat → AObj) : Nat → AObj := fun b => if b < k then o b else .free
theorem rowsTo_at {k b : Nat} {o : Nat → AObj} (h : b < k) : rowsTo k o b = o b := by unfold rowsTo; rw [if_pos h]
theorem rowsTo_new {k b : Nat} {o : Nat → AObj} (h : k ≤ b) : rowsTo k o b = .free := by unfold rowsTo; rw [if_neg (by omega)]
theorem rowsTo_succ (k : Nat) (o : Nat → AObj) : rowsTo (k + 1) o = upd (rowsTo k o) k (o k) := funext fun b => by
  unfold rowsTo upd
  by_cases h : b = k
  · subst h; simp
  · rw [if_neg h]
    dsimp only
    by_cases h2 : b < k
    · rw [if_pos h2, if_pos (by omega)]
    · rw [if_neg h2, if_neg (by omega)]
theorem rowsTo_put {k : Nat} {o o' : Nat → AObj} {b : Nat} (h : b < k) (ho : ∀ c, c ≠ b → o' c = o c) : rowsTo k o' = upd (rowsTo k o) b (o' b) := funext fun c => by
  unfold rowsTo upd
  by_cases hc : c = b
  · subst hc; rw [if_pos h, if_pos rfl]
  · rw [if_neg hc, ho c hc]
theorem rowsTo_avoid {k : Nat → Bool} {m : Nat} {o : Nat → AObj} (h : ∀ b, (o b).avoid k = true) (b : Nat) : (rowsTo m o b).avoid k = true := by
  unfold rowsTo; split
  · exact h b
  · rfl
end Go.Proofs.Ytjmjmedjjbginaa.Sv

namespace Go.Proofs.Ytjmjmedjjbginaa.Sv
open Go

def setRow (I : BB) (b : Nat) (p : Nat → Bool) : BB := fun c => if c = b then p else I c
theorem setRow_same (I : BB) (b : Nat) (p : Nat → Bool) : setRow I b p b = p := by unfold setRow; rw [if_pos rfl]
theorem setRow_ne {I : BB} {b c : Nat} (p : Nat → Bool) (h : c ≠ b) : setRow I b p c = I c := by unfold setRow; rw [if_neg h]
theorem setRow_self (I : BB) (b : Nat) : setRow I b (I b) = I := funext fun c => by
  unfold setRow; split
  · subst_vars; rfl
  · rfl
def orK (p q : Nat → Bool) (k : Nat) : Nat → Bool := fun v => p v || (decide (v / 64 < k) && q v)
theorem orK_zero (p q : Nat → Bool) (v : Nat) : p v = orK p q 0 v := by simp [orK]
theorem div64 {k v : Nat} (hv : v < 64) : (64 * k + v) / 64 = k := by omega
theorem orK_cell (p q : Nat → Bool) (k : Nat) : wdcell (orK p q (k + 1)) k = [AV.int .u64 ((wd (fun v => p (64 * k + v) || q (64 * k + v)) : Nat) : Int)] := by
  unfold wdcell wd
  rw [encN_congr (q := fun v => p (64 * k + v) || q (64 * k + v)) (fun v hv => ?_)]
  unfold orK
  rw [div64 hv]; simp
theorem orK_old (p q : Nat → Bool) (k : Nat) : wdcell (orK p q k) k = wdcell p k := wdcell_congr fun v hv => by
  unfold orK; rw [div64 hv]; simp
theorem orK_succ {R : Nat} (p q : Nat → Bool) (k : Nat) : (rowW R (orK p q k)).set k [AV.int .u64 ((wd (fun v => p (64 * k + v) || q (64 * k + v)) : Nat) : Int)] = rowW R (orK p q (k + 1)) := by
  rw [← orK_cell]
  refine rowW_set fun v hv => ?_
  unfold orK
  congr 2
  rw [decide_eq_decide]; omega
theorem rowW_bound {R : Nat} {p q : Nat → Bool} (h : ∀ v, v / 64 < nw R → p v = q v) : rowW R p = rowW R q := by
  refine List.ext_getElem? fun i => ?_
  by_cases hi : i < nw R
  · rw [rowW_get hi, rowW_get hi]
    congr 1
    exact wdcell_congr fun v hv => h _ (by rw [div64 hv]; exact hi)
  · rw [List.getElem?_eq_none_iff.2 (by rw [rowW_len]; omega), List.getElem?_eq_none_iff.2 (by rw [rowW_len]; omega)]
theorem orK_end {R k : Nat} (p q : Nat → Bool) (h : nw R ≤ k) : rowW R (orK p q k) = rowW R (fun v => p v || q v) := rowW_bound fun v hv => by
  unfold orK
  rw [decide_eq_true (by omega : v / 64 < k)]; simp
def outP (I : BB) (p : Nat → Bool) (x : Block) (j : Nat) : Nat → Bool := fun v => p v || (x.nexts.take j).any fun d => I d.toNat v
theorem outP_zero (I : BB) (p : Nat → Bool) (x : Block) (v : Nat) : p v = outP I p x 0 v := by simp [outP]
theorem outP_succ {I : BB} {p : Nat → Bool} {x : Block} {j : Nat} {d : Int} (h : x.nexts[j]? = some d) (v : Nat) : (outP I p x j v || I d.toNat v) = outP I p x (j + 1) v := by
  unfold outP
  have e : x.nexts.take (j + 1) = x.nexts.take j ++ [d] := by rw [List.take_add_one, h]; rfl
  rw [e, List.any_append]
  simp [Bool.or_assoc]
def outN (I : BB) (p : Nat → Bool) (x : Block) : Nat → Bool := fun v => p v || x.nexts.any fun d => I d.toNat v
theorem outP_end {I : BB} {p : Nat → Bool} {x : Block} {j : Nat} (h : x.nexts.length ≤ j) : outP I p x j = outN I p x := by
  unfold outP outN; rw [List.take_of_length_le h]
def inN (x : Block) (o : Nat → Bool) : Nat → Bool := fun v => readP x v || (o v && !setsAny v x.ins)
theorem inN_need (x : Block) (o : Nat → Bool) (v : Nat) : inN x o v = need v x.ins (endz x v || o v) := (need_touch x v (o v)).symm
def mixN (p q : Nat → Bool) (k : Nat) : Nat → Bool := fun v => if v / 64 < k then p v else q v
theorem mixN_zero (p q : Nat → Bool) (v : Nat) : q v = mixN p q 0 v := by simp [mixN]
theorem mixN_cell (p q : Nat → Bool) (k : Nat) : wdcell (mixN p q (k + 1)) k = wdcell p k := wdcell_congr fun v hv => by
  unfold mixN; rw [div64 hv, if_pos (by omega)]
theorem mixN_old (p q : Nat → Bool) (k : Nat) : wdcell (mixN p q k) k = wdcell q k := wdcell_congr fun v hv => by
  unfold mixN; rw [div64 hv, if_neg (by omega)]
theorem mixN_ne (p q : Nat → Bool) {k v : Nat} (hv : v / 64 ≠ k) : mixN p q (k + 1) v = mixN p q k v := by
  unfold mixN
  by_cases h : v / 64 < k
  · rw [if_pos h, if_pos (by omega)]
  · rw [if_neg h, if_neg (by omega)]
theorem mixN_put {R : Nat} (p q : Nat → Bool) (k : Nat) : (rowW R (mixN p q k)).set k (wdcell p k) = rowW R (mixN p q (k + 1)) := by
  rw [← mixN_cell p q k]
  exact rowW_set fun v hv => mixN_ne p q hv
def wdN (p : Nat → Bool) (k : Nat) : Nat := wd (fun v => p (64 * k + v))
theorem wdN_bits {p q : Nat → Bool} {k : Nat} (h : wdN p k = wdN q k) (v : Nat) (hv : v / 64 = k) : p v = q v := by
  have := encN_inj (n := 64) h (v % 64) (Nat.mod_lt _ (by decide))
  have e : 64 * k + v % 64 = v := by omega
  rw [e] at this; exact this
theorem mixN_skip {p q : Nat → Bool} {k : Nat} (h : wdN p k = wdN q k) (v : Nat) : mixN p q k v = mixN p q (k + 1) v := by
  by_cases hv : v / 64 = k
  · unfold mixN
    rw [if_neg (by omega), if_pos (by omega)]
    exact (wdN_bits h v hv).symm
  · exact (mixN_ne p q hv).symm
theorem mixN_end {R k : Nat} (p q : Nat → Bool) (h : nw R ≤ k) : rowW R (mixN p q k) = rowW R p := rowW_bound fun v hv => by
  unfold mixN; rw [if_pos (by omega)]
def chg (p q : Nat → Bool) (k : Nat) : Bool := (List.range k).any fun i => wdN p i != wdN q i
theorem chg_yes {p q : Nat → Bool} {k : Nat} (h : (wdN p k != wdN q k) = true) : true = chg p q (k + 1) := by
  unfold chg; rw [List.range_succ, List.any_append]; simp [h]
theorem chg_no {p q : Nat → Bool} {k : Nat} (h : wdN p k = wdN q k) : chg p q k = chg p q (k + 1) := by
  unfold chg; rw [List.range_succ, List.any_append]; simp [h]
theorem chg_same {p q : Nat → Bool} {R : Nat} (h : chg p q (nw R) = false) (v : Nat) (hv : v < R) : p v = q v := by
  unfold chg at h
  rw [List.any_eq_false] at h
  have := h (v / 64) (List.mem_range.2 (nw_of hv))
  exact wdN_bits (by simpa using this) v rfl
theorem chg_bit {p q : Nat → Bool} {R : Nat} (h : chg p q (nw R) = true) : ∃ v, v < 64 * nw R ∧ p v ≠ q v := by
  unfold chg at h
  obtain ⟨i, hi, h2⟩ := List.any_eq_true.1 h
  have hi := List.mem_range.1 hi
  by_cases hex : ∃ v, v < 64 ∧ p (64 * i + v) ≠ q (64 * i + v)
  · obtain ⟨v, hv, hne⟩ := hex
    exact ⟨64 * i + v, by omega, hne⟩
  · exfalso
    have : wdN p i = wdN q i := encN_congr fun v hv => Classical.byContradiction fun hne => hex ⟨v, hv, hne⟩
    simp [this] at h2
theorem falses_lt {n R : Nat} {I I' : BB} (hm : ∀ b v, I b v = true → I' b v = true) {b v : Nat} (hb : b < n) (hv : v < R) (h : I b v = false) (h' : I' b v = true) : falses n R I' < falses n R I := by
  have hle : ∀ c v, (if I' c v then 0 else 1) ≤ (if I c v then 0 else 1 : Nat) := fun c v => by
    cases e : I c v with
    | true => rw [hm c v e]; exact Nat.le_refl _
    | false => cases I' c v <;> simp
  refine sum_lt (fun c _ => ?_) hb ?_
  · exact Nat.le_of_not_lt fun hlt => by
      have : ∀ m, ((List.range m).map fun v => if I' c v then 0 else 1).sum ≤ ((List.range m).map fun v => if I c v then 0 else 1).sum := fun m => by
        induction m with
        | zero => simp
        | succ m ih =>
          rw [List.range_succ, List.map_append, List.map_append, List.sum_append, List.sum_append]
          have := hle c m
          simp only [List.map_cons, List.map_nil, List.sum_cons, List.sum_nil, Nat.add_zero]
          omega
      have := this R
      omega
  · refine sum_lt (fun u _ => hle b u) hv ?_
    rw [h, h']; simp
structure WaitI (n : Nat) (waits : Nat → Bool) (ws : List Nat) : Prop where
  nod : ws.Nodup
  mem : ∀ b, b ∈ ws ↔ b < n ∧ waits b = true
  cnt : ((List.range n).map fun b => if waits b then 1 else 0).sum = ws.length
def updB (w : Nat → Bool) (b : Nat) (z : Bool) : Nat → Bool := fun c => if c = b then z else w c
theorem updB_same (w : Nat → Bool) (b : Nat) (z : Bool) : updB w b z b = z := by unfold updB; rw [if_pos rfl]
theorem updB_ne {w : Nat → Bool} {b c : Nat} (z : Bool) (h : c ≠ b) : updB w b z c = w c := by unfold updB; rw [if_neg h]
theorem cnt_upd (w : Nat → Bool) (b : Nat) : ∀ n, ((List.range n).map fun c => if updB w b true c then 1 else 0).sum = ((List.range n).map fun c => if updB w b false c then 1 else 0).sum + (if b < n then 1 else 0)
  | 0 => by simp
  | n + 1 => by
    rw [List.range_succ, List.map_append, List.map_append, List.sum_append, List.sum_append, cnt_upd w b n]
    simp only [List.map_cons, List.map_nil, List.sum_cons, List.sum_nil, Nat.add_zero]
    by_cases hb : n = b
    · subst hb
      rw [updB_same, updB_same, if_neg (Nat.lt_irrefl n), if_pos (Nat.lt_succ_self n)]
      simp
    · rw [updB_ne _ hb, updB_ne _ hb]
      by_cases h2 : b < n
      · rw [if_pos h2, if_pos (show b < n + 1 by omega)]; omega
      · rw [if_neg h2, if_neg (show ¬ b < n + 1 by omega)]; omega
theorem updB_self {w : Nat → Bool} {b : Nat} {z : Bool} (h : w b = z) : updB w b z = w := funext fun c => by
  by_cases hc : c = b
  · subst hc; rw [updB_same, h]
  · rw [updB_ne _ hc]
theorem WaitI.push {n : Nat} {w : Nat → Bool} {ws : List Nat} (h : WaitI n w ws) {b : Nat} (hb : b < n) (hw : w b = false) : WaitI n (updB w b true) (ws ++ [b]) := by
  refine ⟨?_, fun c => ?_, ?_⟩
  · rw [List.nodup_append]
    refine ⟨h.nod, by simp, fun x hx y hy => ?_⟩
    rw [List.mem_singleton] at hy; subst hy
    intro e; subst e
    have := ((h.mem x).1 hx).2
    rw [hw] at this; cases this
  · rw [List.mem_append, List.mem_singleton, h.mem]
    by_cases hc : c = b
    · subst hc; rw [updB_same]; exact ⟨fun _ => ⟨hb, rfl⟩, fun _ => .inr rfl⟩
    · rw [updB_ne _ hc]
      exact ⟨fun h => h.elim id fun e => absurd e hc, .inl⟩
  · rw [cnt_upd, updB_self hw, h.cnt, if_pos hb]; simp
theorem WaitI.pop {n : Nat} {w : Nat → Bool} {ws : List Nat} {b : Nat} (h : WaitI n w (ws ++ [b])) : WaitI n (updB w b false) ws ∧ b < n ∧ w b = true := by
  have hb := (h.mem b).1 (List.mem_append.2 (.inr (List.mem_singleton.2 rfl)))
  have hn := List.nodup_append.1 h.nod
  have hnb : b ∉ ws := fun hx => hn.2.2 b hx b (List.mem_singleton.2 rfl) rfl
  refine ⟨⟨hn.1, fun c => ?_, ?_⟩, hb.1, hb.2⟩
  · by_cases hc : c = b
    · subst hc; rw [updB_same]; exact ⟨fun h => absurd h hnb, fun h => by cases h.2⟩
    · rw [updB_ne _ hc, ← h.mem, List.mem_append, List.mem_singleton]
      exact ⟨.inl, fun h => h.elim id fun e => absurd e hc⟩
  · have e := cnt_upd w b n
    rw [updB_self hb.2, if_pos hb.1, h.cnt] at e
    simp at e
    omega
theorem WaitI.le {n : Nat} {w : Nat → Bool} {ws : List Nat} (h : WaitI n w ws) : ws.length ≤ n := by
  rw [← h.cnt]
  have : ∀ m, ((List.range m).map fun b => if w b then 1 else 0).sum ≤ m := fun m => by
    induction m with
    | zero => simp
    | succ m ih =>
      rw [List.range_succ, List.map_append, List.sum_append]
      simp only [List.map_cons, List.map_nil, List.sum_cons, List.sum_nil, Nat.add_zero]
      split <;> omega
  exact this n
def waitW (w : Nat → Bool) (b : Nat) : Nat → Bool := updB w b true
def waitL (w : Nat → Bool) (ws : List Nat) (b : Nat) : List Nat := bif w b then ws else ws ++ [b]
theorem WaitI.wait {n : Nat} {w : Nat → Bool} {ws : List Nat} (h : WaitI n w ws) {b : Nat} (hb : b < n) : WaitI n (waitW w b) (waitL w ws b) := by
  unfold waitW waitL
  cases hw : w b with
  | true => rw [updB_self hw]; exact h
  | false => exact h.push hb hw
structure LInv (f : BFunc) (R : Nat) (I O : BB) (w : Nat → Bool) (rest : List Nat) : Prop where
  si : SoundI f I
  so : SoundO f O
  mono : ∀ b x, f.blocks[b]? = some x → ∀ v, I b v = true → need v x.ins (endz x v || O b v) = true
  cl : ∀ b, b < f.blocks.length → w b = false → b ∈ rest ∨ ClosedAt f R I O b
def oneA (f : BFunc) (c a : Nat) : List Nat := ((f.blocks[a]?).map fun x => (x.nexts.filter (· == (c : Int))).map fun _ => a).getD []
def aheadP (f : BFunc) (k j c : Nat) : List Nat := (List.range k).flatMap (oneA f c) ++ ((f.blocks[k]?).map fun x => ((x.nexts.take j).filter (· == (c : Int))).map fun _ => k).getD []
def aheadL (f : BFunc) (c : Nat) : List Nat := (List.range f.blocks.length).flatMap (oneA f c)
theorem aheadP_zero (f : BFunc) (k c : Nat) : aheadP f k 0 c = (List.range k).flatMap (oneA f c) := by
  unfold aheadP
  cases f.blocks[k]? <;> simp
theorem aheadP_succ {f : BFunc} {k j : Nat} {x : Block} {d : Int} (hx : f.blocks[k]? = some x) (hd : x.nexts[j]? = some d) (h0 : 0 ≤ d) (c : Nat) : aheadP f k (j + 1) c = if c = d.toNat then aheadP f k j c ++ [k] else aheadP f k j c := by
  unfold aheadP
  rw [hx]
  have e : x.nexts.take (j + 1) = x.nexts.take j ++ [d] := by rw [List.take_add_one, hd]; rfl
  simp only [Option.map_some, Option.getD_some]
  rw [e, List.filter_append, List.map_append]
  by_cases h : c = d.toNat
  · have : (d == (c : Int)) = true := by rw [beq_iff_eq]; omega
    rw [if_pos h]
    simp [this]
  · have : (d == (c : Int)) = false := by rw [beq_eq_false_iff_ne]; omega
    rw [if_neg h]
    simp [this]
theorem aheadP_next {f : BFunc} {k j : Nat} {x : Block} (hx : f.blocks[k]? = some x) (h : x.nexts.length ≤ j) (c : Nat) : aheadP f k j c = aheadP f (k + 1) 0 c := by
  rw [aheadP_zero, List.range_succ, List.flatMap_append]
  unfold aheadP
  congr 1
  rw [hx]
  simp only [Option.map_some, Option.getD_some]
  rw [List.take_of_length_le h]
  simp [oneA, hx]
theorem aheadL_mem {f : BFunc} {a c : Nat} {x : Block} (hx : f.blocks[a]? = some x) (h : x.nexts.contains (c : Int) = true) : a ∈ aheadL f c := by
  unfold aheadL
  rw [List.mem_flatMap]
  refine ⟨a, List.mem_range.2 (List.getElem?_eq_some_iff.1 hx).1, ?_⟩
  unfold oneA
  rw [hx]
  simp only [Option.map_some, Option.getD_some, List.mem_map, List.mem_filter]
  exact ⟨(c : Int), ⟨List.contains_iff_mem.1 h, by simp⟩, trivial⟩
theorem aheadL_lt {f : BFunc} {a c : Nat} (h : a ∈ aheadL f c) : a < f.blocks.length := by
  unfold aheadL at h
  obtain ⟨b, hb, h2⟩ := List.mem_flatMap.1 h
  unfold oneA at h2
  cases e : f.blocks[b]? with
  | none => rw [e] at h2; simp at h2
  | some x =>
    rw [e] at h2
    simp only [Option.map_some, Option.getD_some, List.mem_map] at h2
    obtain ⟨_, _, rfl⟩ := h2
    exact List.mem_range.1 hb
theorem aheadP_len (f : BFunc) (k j c : Nat) : (aheadP f k j c).length ≤ 2 * k + 2 := by
  have h1 : ∀ k, ((List.range k).flatMap (oneA f c)).length ≤ 2 * k := fun k => by
    induction k with
    | zero => simp
    | succ k ih =>
      rw [List.range_succ, List.flatMap_append, List.length_append]
      have : (oneA f c k).length ≤ 2 := by
        unfold oneA
        cases e : f.blocks[k]? with
        | none => simp
        | some x =>
          simp only [Option.map_some, Option.getD_some, List.length_map]
          exact Nat.le_trans (List.length_filter_le _ _) (nexts_le2 x)
      simp only [List.flatMap_cons, List.flatMap_nil, List.append_nil]
      omega
  have h2 := h1 k
  unfold aheadP
  rw [List.length_append]
  have : (((f.blocks[k]?).map fun x => ((x.nexts.take j).filter (· == (c : Int))).map fun _ => k).getD []).length ≤ 2 := by
    cases e : f.blocks[k]? with
    | none => simp
    | some x =>
      simp only [Option.map_some, Option.getD_some, List.length_map]
      refine Nat.le_trans (List.length_filter_le _ _) ?_
      rw [List.length_take]
      have := nexts_le2 x
      omega
  omega
theorem LInv.first {f : BFunc} {R : Nat} {w : Nat → Bool} (hw : ∀ b, b < f.blocks.length → w b = true) : LInv f R (fun _ _ => false) (fun _ _ => false) w [] :=
  ⟨fun _ _ h => (by cases h), fun _ _ h => (by cases h), fun _ _ _ _ h => (by cases h), fun b hb h => (by rw [hw b hb] at h; cases h)⟩
theorem LInv.wait {f : BFunc} {R : Nat} {I O : BB} {w : Nat → Bool} {a : Nat} {rest : List Nat} (h : LInv f R I O w (a :: rest)) : LInv f R I O (waitW w a) rest :=
  ⟨h.si, h.so, h.mono, fun b hb hw => by
    unfold waitW at hw
    by_cases hba : b = a
    · subst hba; rw [updB_same] at hw; cases hw
    · rw [updB_ne _ hba] at hw
      rcases h.cl b hb hw with h1 | h1
      · exact (List.mem_cons.1 h1).elim (fun e => absurd e hba) .inl
      · exact .inr h1⟩
theorem outN_sound {f : BFunc} {I O : BB} (hI : SoundI f I) (hO : SoundO f O) {b : Nat} {x : Block} (hx : f.blocks[b]? = some x) : SoundO f (setRow O b (outN I (O b) x)) := by
  have hx1 : ∀ v, outN I (O b) x v = true → outB f x v = true := fun v hv => by
    unfold outN at hv
    rcases Bool.or_eq_true_iff.1 hv with h | h
    · obtain ⟨y, hy, e⟩ := hO b v h
      rw [hx] at hy; cases hy; exact e
    · obtain ⟨d, hd, hv2⟩ := List.any_eq_true.1 h
      have hp := soundO_put (v := v) hI hO hx hd b v (by unfold putBB; rw [if_pos ⟨rfl, rfl⟩, hv2, Bool.or_true])
      obtain ⟨y, hy, e⟩ := hp
      rw [hx] at hy; cases hy; exact e
  intro c v hv
  by_cases hc : c = b
  · subst hc; rw [setRow_same] at hv; exact ⟨x, hx, hx1 v hv⟩
  · rw [setRow_ne _ hc] at hv; exact hO c v hv
theorem LInv.grow {f : BFunc} (hs : f.sane) {R : Nat} {I O : BB} {w : Nat → Bool} {b : Nat} {x : Block} (hx : f.blocks[b]? = some x) (h : LInv f R I O w [])
    (hR : R = f.regs.toNat) : let o := outN I (O b) x
    LInv f R (setRow I b (inN x o)) (setRow O b o) (updB w b false) (bif chg (inN x o) (I b) (nw R) then aheadL f b else []) ∧
    (chg (inN x o) (I b) (nw R) = true → falses f.blocks.length (64 * nw R) (setRow I b (inN x o)) < falses f.blocks.length (64 * nw R) I) ∧ falses f.blocks.length (64 * nw R) (setRow I b (inN x o)) ≤ falses f.blocks.length (64 * nw R) I := by
  intro o
  have hbl : b < f.blocks.length := (List.getElem?_eq_some_iff.1 hx).1
  have hso : SoundO f (setRow O b o) := outN_sound h.si h.so hx
  have hle : ∀ v, I b v = true → inN x o v = true := fun v hv => by
    rw [inN_need]
    refine need_mono ?_ (h.mono b x hx v hv)
    intro e
    rcases Bool.or_eq_true_iff.1 e with e | e
    · rw [e]; rfl
    · have : o v = true := by show (O b v || _) = true; rw [e]; rfl
      rw [this, Bool.or_true]
  have hmon : ∀ c v, I c v = true → setRow I b (inN x o) c v = true := fun c v hv => by
    by_cases hc : c = b
    · subst hc; rw [setRow_same]; exact hle v hv
    · rw [setRow_ne _ hc]; exact hv
  refine ⟨⟨?_, hso, ?_, ?_⟩, ?_, ?_⟩
  · intro c v hv
    by_cases hc : c = b
    · subst hc
      rw [setRow_same, inN_need] at hv
      exact soundI_need (I := I) hso hx (by rw [setRow_same]; exact hv)
    · rw [setRow_ne _ hc] at hv; exact h.si c v hv
  · intro c y hy v hv
    by_cases hc : c = b
    · subst hc
      rw [hx] at hy; cases hy
      rw [setRow_same] at hv ⊢
      rw [← inN_need]; exact hv
    · rw [setRow_ne _ hc] at hv ⊢
      exact h.mono c y hy v hv
  · intro c hc hw
    obtain ⟨y, hy⟩ := get_of_lt hc
    have hnx : ∀ d ∈ y.nexts, 0 ≤ d := fun d hd => (hs.next y (List.mem_of_getElem? hy) d hd).1
    -- either nothing new is ahead of b, or c doesn't lead to b, or it is to wait
    by_cases hin : (chg (inN x o) (I b) (nw R) = true ∧ y.nexts.contains (b : Int) = true)
    · left
      rw [hin.1]
      show c ∈ aheadL f b
      exact aheadL_mem hy hin.2
    · right
      have hsame : ∀ d ∈ y.nexts, ∀ v, v < R → setRow I b (inN x o) d.toNat v = I d.toNat v := fun d hd v hv => by
        by_cases hdb : d.toNat = b
        · have hcon : y.nexts.contains (b : Int) = true := by
            rw [List.contains_iff_mem]
            have : d = (b : Int) := by have := hnx d hd; omega
            rw [← this]; exact hd
          have hch : chg (inN x o) (I b) (nw R) = false := by
            cases e : chg (inN x o) (I b) (nw R) with
            | false => rfl
            | true => exact absurd ⟨e, hcon⟩ hin
          rw [hdb, setRow_same]
          exact chg_same hch v hv
        · rw [setRow_ne _ hdb]
      intro y' hy' v hv
      rw [hy] at hy'; cases hy'
      by_cases hcb : c = b
      · subst hcb
        rw [hx] at hy; cases hy
        rw [setRow_same, setRow_same]
        refine ⟨fun d hd hid => ?_, fun hn => ?_⟩
        · rw [hsame d hd v hv] at hid
          show (O c v || x.nexts.any fun d => I d.toNat v) = true
          rw [List.any_eq_true.2 ⟨d, hd, hid⟩, Bool.or_true]
        · rw [inN_need]; exact hn
      · have hwc : w c = false := by rw [updB_ne _ hcb] at hw; exact hw
        have hcl := (h.cl c hc hwc).elim (fun e => by cases e) id y hy v hv
        rw [setRow_ne _ hcb, setRow_ne _ hcb]
        exact ⟨fun d hd hid => hcl.1 d hd (by rw [hsame d hd v hv] at hid; exact hid), hcl.2⟩
  · intro hch
    obtain ⟨v, hv, hne⟩ := chg_bit hch
    have h1 : I b v = false := by
      cases e : I b v with
      | false => rfl
      | true => exact absurd (by rw [hle v e, e]) hne
    refine falses_lt hmon hbl hv h1 ?_
    rw [setRow_same]
    cases e : inN x o v with
    | true => rfl
    | false => rw [e, h1] at hne; exact absurd rfl hne
  · by_cases hex : ∃ v, v < 64 * nw R ∧ inN x o v ≠ I b v
    · obtain ⟨v, hv, hne⟩ := hex
      have h1 : I b v = false := by
        cases e : I b v with
        | false => rfl
        | true => exact absurd (by rw [hle v e, e]) hne
      refine Nat.le_of_lt (falses_lt hmon hbl hv h1 ?_)
      rw [setRow_same]
      cases e : inN x o v with
      | true => rfl
      | false => rw [e, h1] at hne; exact absurd rfl hne
    · refine Nat.le_of_eq ?_
      unfold falses
      congr 1
      refine List.map_congr_left fun c _ => ?_
      congr 1
      refine List.map_congr_left fun v hv => ?_
      by_cases hc : c = b
      · subst hc
        rw [setRow_same]
        rw [show inN x o v = I c v from Classical.byContradiction fun hne => hex ⟨v, List.mem_range.1 hv, hne⟩]
      · rw [setRow_ne _ hc]
theorem LInv.closed {f : BFunc} {R : Nat} {I O : BB} {w : Nat → Bool} (h : LInv f R I O w []) (hw : WaitI f.blocks.length w []) (b : Nat) (hb : b < f.blocks.length) : ClosedAt f R I O b :=
  (h.cl b hb (by
    cases e : w b with
    | false => rfl
    | true => exact absurd ((hw.mem b).2 ⟨hb, e⟩) (by simp))).elim (fun e => by cases e) id
theorem LInv.inRow {f : BFunc} (hs : f.sane) {R : Nat} (hR : R = f.regs.toNat) {I O : BB} {w : Nat → Bool} (h : LInv f R I O w []) (hw : WaitI f.blocks.length w []) {b : Nat} (hb : b < f.blocks.length) : mrow R (I b) = inRow f b := by
  subst hR
  exact mrow_congr fun v hv => closed_in hs h.si h.so (fun c hc => h.closed hw c hc) hb hv
theorem LInv.outRow {f : BFunc} (hs : f.sane) {R : Nat} (hR : R = f.regs.toNat) {I O : BB} {w : Nat → Bool} (h : LInv f R I O w []) (hw : WaitI f.blocks.length w []) {b : Nat} {x : Block} (hx : f.blocks[b]? = some x) : mrow R (O b) = outRow f x := by
  subst hR
  exact mrow_congr fun v hv => closed_out hs h.si h.so (fun c hc => h.closed hw c hc) hx hv
end Go.Proofs.Ytjmjmedjjbginaa.Sv

namespace Go.Proofs.Ytjmjmedjjbginaa.Sv
open Go

def natC (a : Nat) : List AV := [AV.int .i64 (a : Int)]
def rdC (R : Nat) (x : Block) : List AV := [AV.lst false (rowW R (readP x))]
def stC (R : Nat) (x : Block) : List AV := [AV.lst false (rowW R (fun v => setsAny v x.ins))]
def ahR (A : Nat → List Nat) (c : Nat) : AV := slA (3 * c + 2 + 16) ((A c).map natC)
abbrev SBc (f : BFunc) (m len : Nat) : List AV := [pathsAV f.nexts, .ref 7 f.blocks.length 0 f.blocks.length, .ref 8 f.blocks.length 0 f.blocks.length, .ref 9 f.blocks.length 0 f.blocks.length, .ref 3 f.blocks.length 0 f.blocks.length, .ref 4 f.blocks.length 0 f.blocks.length, .ref 6 m 0 len, .ref 5 f.blocks.length 0 f.blocks.length]
abbrev bC (n : Nat) (w : Nat → Bool) : List (List AV) := colF (fun b => .bool (w b)) n
def rI (n R : Nat) (I : BB) : Nat → AObj := rowsTo n (fun b => wRow R (I b))
def rA (n : Nat) (A : Nat → List Nat) : Nat → AObj := rowsTo n (fun c => slO 1 ((A c).map natC))
abbrev HSL (f : BFunc) (R : Nat) (es : List (List AV)) (len : Nat) (w : Nat → Bool) : List AObj :=
  [.row false 8 [SBc f es.length len], .row false 1 (colF (rG 0 (nw R)) f.blocks.length), .row false 1 (colF (rG 1 (nw R)) f.blocks.length), .row true 1 (bC f.blocks.length w), .row true 1 es,
   .row false 1 (colF (ahR (aheadL f)) f.blocks.length), .row true 1 (f.blocks.map (rdC R)), .row true 1 (f.blocks.map (stC R))]
abbrev HS (f : BFunc) (R : Nat) (es : List (List AV)) (len : Nat) (w : Nat → Bool) (F : Nat → AObj) : AHeap := fam (nb (.free :: .free :: HSL f R es len w)) F
theorem ahR_avoid (k0 : Nat) (A : Nat → List Nat) (c : Nat) : (ahR A c).avoid (kf k0) = true := slA_avoid _ (kf_hi _ _)
theorem rA_avoid {k : Nat → Bool} {n : Nat} {A : Nat → List Nat} (b : Nat) : (rA n A b).avoid k = true := rowsTo_avoid (fun _ => slO_avoid _ _) b
def waitEs (w : Nat → Bool) (es : List (List AV)) (len b : Nat) : List (List AV) := bif w b then es else pushE es len (natC b)
def waitLen (w : Nat → Bool) (len b : Nat) : Nat := bif w b then len else len + 1
theorem bC_set {n b : Nat} {w : Nat → Bool} (z : Bool) : (bC n w).set b [AV.bool z] = bC n (updB w b z) := by
  show (colF _ n).set b _ = _
  rw [colF_set]
  refine colF_congr fun c _ => ?_
  unfold updB
  split <;> rfl
theorem bC_set' {n b : Nat} {w : Nat → Bool} (z : Bool) : (bC n w).set (0 + ((b : Nat) : Int).toNat) [AV.bool z] = bC n (updB w b z) := by
  rw [Nat.zero_add, Int.toNat_natCast]; exact bC_set z
structure StackI (n : Nat) (es : List (List AV)) (ws : List Nat) : Prop where
  top : es.take ws.length = ws.map natC
  le : ws.length ≤ es.length
  max : es.length ≤ n
theorem pushE_max {n : Nat} {es : List (List AV)} {len : Nat} {cs : List AV} (h : len ≤ es.length) (hn : es.length ≤ n) (hl : len < n) : (pushE es len cs).length ≤ n := by
  unfold pushE
  split
  · rw [List.length_set]; exact hn
  · rw [List.length_append]; simp; omega
theorem waitLen_eq {w : Nat → Bool} {ws : List Nat} {b : Nat} : waitLen w ws.length b = (waitL w ws b).length := by
  unfold waitLen waitL; cases w b <;> simp
theorem StackI.wait {n : Nat} {es : List (List AV)} {ws : List Nat} {w : Nat → Bool} (h : StackI n es ws) (hw : WaitI n w ws) {b : Nat} (hb : b < n) : StackI n (waitEs w es ws.length b) (waitL w ws b) := by
  unfold waitEs waitL
  cases e : w b with
  | true => exact h
  | false =>
    have hlt := (hw.wait hb).le
    unfold waitL at hlt
    rw [e] at hlt
    simp only [cond_false, List.length_append, List.length_cons, List.length_nil] at hlt
    refine ⟨?_, ?_, pushE_max h.le h.max (by omega)⟩
    · simp only [cond_false, List.length_append, List.length_cons, List.length_nil]
      rw [pushE_take h.le, h.top, List.map_append]; rfl
    · simp only [cond_false, List.length_append, List.length_cons, List.length_nil]
      exact pushE_len h.le
theorem StackI.get {n : Nat} {es : List (List AV)} {ws : List Nat} {b : Nat} (h : StackI n es (ws ++ [b])) : es[ws.length]? = some (natC b) := by
  have h1 := congrArg (fun l => l[ws.length]?) h.top
  simp only [List.length_append, List.length_cons, List.length_nil, List.map_append, List.map_cons, List.map_nil] at h1
  rw [List.getElem?_take_of_lt (by omega), List.getElem?_append_right (by simp)] at h1
  simpa using h1
theorem StackI.pop {n : Nat} {es : List (List AV)} {ws : List Nat} {b : Nat} (h : StackI n es (ws ++ [b])) : StackI n es ws := by
  refine ⟨?_, by have := h.le; simp at this; omega, h.max⟩
  have h1 := congrArg (List.take ws.length) h.top
  simp only [List.length_append, List.length_cons, List.length_nil, List.map_append, List.map_cons, List.map_nil] at h1
  have e : (ws.map natC).take ws.length = ws.map natC := List.take_of_length_le (by simp)
  rw [List.take_take, Nat.min_eq_left (by omega), List.take_append_of_le_length (by simp), e] at h1
  exact h1
theorem rI_congr {n R : Nat} {I I' : BB} (h : ∀ b, b < n → rowW R (I b) = rowW R (I' b)) : rI n R I = rI n R I' := funext fun b => by
  unfold rI rowsTo
  by_cases hb : b < n
  · rw [if_pos hb, if_pos hb]; show AObj.row true 1 _ = AObj.row true 1 _; rw [h b hb]
  · rw [if_neg hb, if_neg hb]
theorem rI_set {n R : Nat} {I : BB} {b : Nat} {p q : Nat → Bool} (h : rowW R p = rowW R q) : rI n R (setRow I b p) = rI n R (setRow I b q) := rI_congr fun c _ => by
  unfold setRow; split
  · exact h
  · rfl
theorem rI_self {n R : Nat} {I : BB} {b : Nat} {p : Nat → Bool} (h : rowW R (I b) = rowW R p) : rI n R I = rI n R (setRow I b p) := rI_congr fun c _ => by
  unfold setRow; split
  · subst_vars; exact h
  · rfl
theorem rI_0 {n R : Nat} {I : BB} {r1 r2 : Nat → AObj} {b : Nat} (h : b < n) : F3 (rI n R I) r1 r2 (3 * b + 0) = .row true 1 (rowW R (I b)) := (F3_0 _ _ _ _).trans (rowsTo_at h)
theorem rI_1 {n R : Nat} {O : BB} {r0 r2 : Nat → AObj} {b : Nat} (h : b < n) : F3 r0 (rI n R O) r2 (3 * b + 1) = .row true 1 (rowW R (O b)) := (F3_1 _ _ _ _).trans (rowsTo_at h)
theorem rIs_0 {n R : Nat} {I : BB} {r1 r2 : Nat → AObj} {b : Nat} {p : Nat → Bool} (h : b < n) : F3 (rI n R (setRow I b p)) r1 r2 (3 * b + 0) = .row true 1 (rowW R p) := by rw [rI_0 h, setRow_same]
theorem rIs_1 {n R : Nat} {O : BB} {r0 r2 : Nat → AObj} {b : Nat} {p : Nat → Bool} (h : b < n) : F3 r0 (rI n R (setRow O b p)) r2 (3 * b + 1) = .row true 1 (rowW R p) := by rw [rI_1 h, setRow_same]
theorem rI_upd {n R : Nat} {I : BB} {b : Nat} {p p' : Nat → Bool} (hb : b < n) : rI n R (setRow I b p') = upd (rI n R (setRow I b p)) b (.row true 1 (rowW R p')) := by
  have := rowsTo_put (k := n) (o := fun c => wRow R (setRow I b p c)) (o' := fun c => wRow R (setRow I b p' c)) hb (fun c hc => by rw [setRow_ne _ hc, setRow_ne _ hc])
  refine this.trans ?_
  rw [setRow_same]; rfl
theorem rIs_put1 {n R : Nat} {O : BB} {r0 r2 : Nat → AObj} {b k : Nat} {p p' : Nat → Bool} {cs : List AV} (h : b < n) (hs : (rowW R p).set k cs = rowW R p') (x : Nat) :
    F3 r0 (rI n R (setRow O b p')) r2 x = if x = 3 * b + 1 then .row true 1 ((rowW R p).set (0 + ((k : Nat) : Int).toNat) cs) else F3 r0 (rI n R (setRow O b p)) r2 x := by
  rw [rI_upd (p := p) h, F3_u1, Nat.zero_add, Int.toNat_natCast, hs]
theorem rIs_put0 {n R : Nat} {I : BB} {r1 r2 : Nat → AObj} {b k : Nat} {p p' : Nat → Bool} {cs : List AV} (h : b < n) (hs : (rowW R p).set k cs = rowW R p') (x : Nat) :
    F3 (rI n R (setRow I b p')) r1 r2 x = if x = 3 * b + 0 then .row true 1 ((rowW R p).set (0 + ((k : Nat) : Int).toNat) cs) else F3 (rI n R (setRow I b p)) r1 r2 x := by
  rw [rI_upd (p := p) h, F3_u0, Nat.zero_add, Int.toNat_natCast, hs]
theorem rI_avoid {k : Nat → Bool} {n R : Nat} {I : BB} (b : Nat) : (rI n R I b).avoid k = true := rowsTo_avoid (fun _ => rfl) b
theorem rows0 {n R : Nat} {I : BB} {b : Nat} {p : Nat → Bool} {r1 r2 : Nat → AObj} (h : ∀ v, I b v = p v) (x : Nat) : F3 (rI n R I) r1 r2 x = F3 (rI n R (setRow I b p)) r1 r2 x := by rw [rI_self (rowW_congr h)]
theorem rows1 {n R : Nat} {O : BB} {b : Nat} {p : Nat → Bool} {r0 r2 : Nat → AObj} (h : ∀ v, O b v = p v) (x : Nat) : F3 r0 (rI n R O) r2 x = F3 r0 (rI n R (setRow O b p)) r2 x := by rw [rI_self (rowW_congr h)]
theorem rowsS0 {n R : Nat} {I : BB} {b : Nat} {p q : Nat → Bool} {r1 r2 : Nat → AObj} (h : rowW R p = rowW R q) (x : Nat) : F3 (rI n R (setRow I b p)) r1 r2 x = F3 (rI n R (setRow I b q)) r1 r2 x := by rw [rI_set h]
theorem rowsS1 {n R : Nat} {O : BB} {b : Nat} {p q : Nat → Bool} {r0 r2 : Nat → AObj} (h : rowW R p = rowW R q) (x : Nat) : F3 r0 (rI n R (setRow O b p)) r2 x = F3 r0 (rI n R (setRow O b q)) r2 x := by rw [rI_set h]
theorem neq_wd {p q : Nat → Bool} {k : Nat} {z : Bool} (h : ((((wd (fun v => p (64 * k + v)) : Nat) : Int)) != ((wd (fun v => q (64 * k + v)) : Nat) : Int)) = z) : (wdN p k != wdN q k) = z := by
  rw [← h]
  show ((wd (fun v => p (64 * k + v))) != (wd (fun v => q (64 * k + v)))) = _
  cases z with
  | _ => rw [Bool.eq_iff_iff, bne_iff_ne, bne_iff_ne]; omega
theorem bne_false {a b : Nat} (h : (a != b) = false) : a = b := by simpa using h
end Go.Proofs.Ytjmjmedjjbginaa.Sv

namespace Go.Proofs.Ytjmjmedjjbginaa.Sv
open Go
theorem o_callNew {P : Program} {o : Oper} {e : AEnv} {h : AHeap} {g : FuncId} {fn : Func} {args : Array Operand} {tys : Array TypeId} {xs : List AV} {r : AV} (z : Nat) {q : AObj}
    (ho : o.op = .call { callee := .value (.func g), args := args, argTypes := tys }) (hf : P.funcs[g]? = some fn) (hn : (fn.name == "runtime.NumGoroutine") = false) (hb : fn.body.isSome = true) (hx : lookAll e args.toList = some xs)
    (hxa : xs.all (AV.avoid (mem [z])) = true) (hz : h z = some .free) (hq : q.avoid (mem [z]) = true) (hra : r.avoid (mem [z]) = true)
    (hcall : ACall P g xs (hput hNew z .free) (fun r' h' => r' = r ∧ HSub (hput hNone z q) h')) : OLoc P o e h [z] [(z, q)] (some r) :=
  o_call (hc := hput hNew z .free) (hw := hput hNone z q) [z] [(z, q)] ho hf hn hb hx hxa ⟨⟨.free, hz, rfl⟩, trivial⟩ (by simp [mem_one]) (hres_cons hz (hres_nil h)) ⟨⟨q, hput_same _ _ _, hput_same _ _ _, hq⟩, trivial⟩ hra hcall
def Wk (x y : AV) : Prop := (x.cell1 = true → y.cell1 = true) ∧ ∀ H ι v, Rel H ι x v → Rel H ι y v
theorem Wk.refl (x : AV) : Wk x x := ⟨fun h => h, fun _ _ _ h => h⟩
theorem Wk.nil (b : Nat) : Wk .nil (slA b []) := ⟨fun _ => rfl, fun H ι v h => rel_nil0 h⟩
def WkAll : List AV → List AV → Prop
  | [], [] => True
  | x :: xs, y :: ys => Wk x y ∧ WkAll xs ys
  | _, _ => False
theorem WkAll.len : ∀ {xs ys : List AV}, WkAll xs ys → ys.length = xs.length
  | [], [], _ => rfl
  | x :: xs, y :: ys, h => by rw [List.length_cons, List.length_cons, WkAll.len h.2]
theorem WkAll.get : ∀ {xs ys : List AV}, WkAll xs ys → ∀ (j : Nat) (x y : AV), xs[j]? = some x → ys[j]? = some y → Wk x y
  | [], [], _, j, x, y, h1, h2 => by simp at h1
  | a :: xs, b :: ys, h, 0, x, y, h1, h2 => by cases h1; cases h2; exact h.1
  | a :: xs, b :: ys, h, j + 1, x, y, h1, h2 => WkAll.get h.2 j x y h1 h2
theorem weak_one {cs cs' : List AV} (h : WkAll cs cs') : ∀ (i : Nat) (ds ds' : List AV), [cs][i]? = some ds → [cs'][i]? = some ds' → ds'.length = ds.length ∧ ∀ (j : Nat) (x y : AV), ds[j]? = some x → ds'[j]? = some y → (x.cell1 = true → y.cell1 = true) ∧ ∀ H ι v, Rel H ι x v → Rel H ι y v := fun i ds ds' h1 h2 => by
  cases i with
  | zero => cases h1; cases h2; exact ⟨h.len, fun j x y g1 g2 => h.get j x y g1 g2⟩
  | succ i => simp at h1
theorem weak_col {n : Nat} {x : AV} {g : Nat → AV} (h : ∀ b, Wk x (g b)) : ∀ (i : Nat) (ds ds' : List AV), (List.replicate n [x])[i]? = some ds → (colF g n)[i]? = some ds' → ds'.length = ds.length ∧ ∀ (j : Nat) (x y : AV), ds[j]? = some x → ds'[j]? = some y → (x.cell1 = true → y.cell1 = true) ∧ ∀ H ι v, Rel H ι x v → Rel H ι y v := fun i ds ds' h1 h2 => by
  obtain ⟨b, _, rfl⟩ := colF_mem (List.mem_of_getElem? h2)
  have e1 := List.eq_of_mem_replicate (List.mem_of_getElem? h1)
  subst e1
  refine ⟨rfl, fun j y z g1 g2 => ?_⟩
  cases j with
  | zero => simp at g1 g2; subst g1; subst g2; exact h b
  | succ j => simp at g1
abbrev SBb (f : BFunc) (R k : Nat) : List AV := [pathsAV f.nexts, .ref 7 f.blocks.length 0 f.blocks.length, slA 8 ((f.blocks.take k).map (rdC R)), slA 9 ((f.blocks.take k).map (stC R)), slA 3 (colF (rG 0 (nw R)) k), slA 4 (colF (rG 1 (nw R)) k), .nil, .ref 5 f.blocks.length 0 f.blocks.length]
theorem sbb_avoid (f : BFunc) (R : Nat) {k0 : Nat} (h : 10 ≤ k0) {a b c d : List (List AV)} : (AObj.row false 8 [[pathsAV f.nexts, AV.ref 7 f.blocks.length 0 f.blocks.length, slA 8 a, slA 9 b, slA 3 c, slA 4 d, AV.nil, AV.ref 5 f.blocks.length 0 f.blocks.length]]).avoid (kf k0) = true := by
  have hk : ∀ c, c < 10 → kf k0 c = true := fun c hc => kf_lo (by omega)
  show (List.all [_, _, _, _, _, _, _, _] (AV.avoid (kf k0)) && true) = true
  simp only [List.all_cons, List.all_nil, Bool.and_true, Bool.and_eq_true]
  exact ⟨rfl, hk 7 (by omega), slA_avoid _ (hk 8 (by omega)), slA_avoid _ (hk 9 (by omega)), slA_avoid _ (hk 3 (by omega)), slA_avoid _ (hk 4 (by omega)), rfl, hk 5 (by omega)⟩
theorem ah_put {n d k : Nat} {A A' : Nat → List Nat} (h : ∀ c, A' c = if c = d then A c ++ [k] else A c) : (colF (ahR A) n).set (0 + d) [slA (3 * d + 2 + 16) ((A d).map natC ++ [natC k])] = colF (ahR A') n := by
  rw [Nat.zero_add, colF_set]
  refine colF_congr fun c _ => ?_
  unfold ahR
  rw [h]
  by_cases hc : c = d
  · subst hc; rw [if_pos rfl, if_pos rfl, List.map_append]; rfl
  · rw [if_neg hc, if_neg hc]
theorem rA_put {n d k : Nat} {A A' : Nat → List Nat} {r0 r1 : Nat → AObj} (hd : d < n) (h : ∀ c, A' c = if c = d then A c ++ [k] else A c) (x : Nat) : F3 r0 r1 (rA n A') x = if x = 3 * d + 2 then slO 1 ((A d).map natC ++ [natC k]) else F3 r0 r1 (rA n A) x := by
  have e : rA n A' = upd (rA n A) d (slO 1 ((A' d).map natC)) := rowsTo_put hd fun c hc => by rw [h, if_neg hc]
  rw [e, F3_u2, h d, if_pos rfl, List.map_append]; rfl
theorem rA_congr {n : Nat} {A A' : Nat → List Nat} (h : ∀ c, A c = A' c) : rA n A = rA n A' := by rw [funext h]
theorem rA_2 {n : Nat} {A : Nat → List Nat} {r0 r1 : Nat → AObj} {b : Nat} (h : b < n) : F3 r0 r1 (rA n A) (3 * b + 2) = slO 1 ((A b).map natC) := (F3_2 _ _ _ _).trans (rowsTo_at h)
theorem rI_new0 {k R : Nat} {I : BB} {r1 r2 : Nat → AObj} : F3 (rI k R I) r1 r2 (3 * k + 0) = .free := (F3_0 _ _ _ _).trans (rowsTo_new (Nat.le_refl _))
theorem rI_new1 {k R : Nat} {O : BB} {r0 r2 : Nat → AObj} : F3 r0 (rI k R O) r2 (3 * k + 1) = .free := (F3_1 _ _ _ _).trans (rowsTo_new (Nat.le_refl _))
abbrev B0 : BB := fun _ _ => false
theorem rI_succ0 {k R : Nat} {r1 r2 : Nat → AObj} (x : Nat) : F3 (rI (k + 1) R B0) r1 r2 x = if x = 3 * k + 0 then wRow R (fun _ => false) else F3 (rI k R B0) r1 r2 x := by
  unfold rI; rw [rowsTo_succ, F3_u0]
theorem rI_succ1 {k R : Nat} {r0 r2 : Nat → AObj} (x : Nat) : F3 r0 (rI (k + 1) R B0) r2 x = if x = 3 * k + 1 then wRow R (fun _ => false) else F3 r0 (rI k R B0) r2 x := by
  unfold rI; rw [rowsTo_succ, F3_u1]
theorem rI_start {n R x : Nat} : F3 (rI 0 R B0) (rI 0 R B0) (rA n (fun _ => [])) x = .free := by
  unfold F3 rI rA rowsTo
  rw [if_neg (Nat.not_lt_zero _)]
  split
  · rfl
  · split
    · rfl
    · split <;> rfl
theorem sbb_succ {f : BFunc} {R k : Nat} {x : Block} (hx : f.blocks[k]? = some x) : [pathsAV f.nexts, AV.ref 7 f.blocks.length 0 f.blocks.length, slA 8 ((f.blocks.take k).map (rdC R) ++ [rdC R x]), slA 9 ((f.blocks.take k).map (stC R) ++ [stC R x]), slA 3 (colF (rG 0 (nw R)) k ++ [[rG 0 (nw R) k]]), slA 4 (colF (rG 1 (nw R)) k ++ [[rG 1 (nw R) k]]), AV.nil, AV.ref 5 f.blocks.length 0 f.blocks.length] = SBb f R (k + 1) := by
  have e : ∀ g : Block → List AV, (f.blocks.take k).map g ++ [g x] = (f.blocks.take (k + 1)).map g := fun g => by
    rw [List.take_add_one, hx, List.map_append]; rfl
  rw [e (rdC R), e (stC R), ← colF_succ, ← colF_succ]
theorem map_take_succ {f : BFunc} {k : Nat} {x : Block} (hx : f.blocks[k]? = some x) (g : Block → List AV) : (f.blocks.take k).map g ++ [g x] = (f.blocks.take (k + 1)).map g := by
  rw [List.take_add_one, hx, List.map_append]; rfl
theorem sbb_end {f : BFunc} {R : Nat} (h : 0 < f.blocks.length) : SBb f R f.blocks.length = [pathsAV f.nexts, AV.ref 7 f.blocks.length 0 f.blocks.length, .ref 8 f.blocks.length 0 f.blocks.length, .ref 9 f.blocks.length 0 f.blocks.length, .ref 3 f.blocks.length 0 f.blocks.length, .ref 4 f.blocks.length 0 f.blocks.length, AV.nil, AV.ref 5 f.blocks.length 0 f.blocks.length] := by
  have e : ∀ (t : Nat) (g : Block → List AV), slA t ((f.blocks.take f.blocks.length).map g) = .ref t f.blocks.length 0 f.blocks.length := fun t g => by
    rw [List.take_length]
    have := slA_at (b := t) (es := f.blocks.map g) (k := 0) (by rw [List.length_map]; exact h)
    rw [this, List.length_map]
  show [_, _, slA 8 _, slA 9 _, slA 3 _, slA 4 _, _, _] = _
  rw [e, e, slA_col h, slA_col h]
theorem slO_map {l : List Block} {g : Block → List AV} (h : 0 < l.length) : slO 1 (l.map g) = .row true 1 (l.map g) := by
  cases l with
  | nil => simp at h
  | cons x l => rfl
theorem one_len {α : Type} {l : List α} {g : α → List AV} (h : ∀ x, (g x).length = 1) : ∀ cs ∈ l.map g, cs.length = 1 := fun cs hc => by
  obtain ⟨x, _, rfl⟩ := List.mem_map.1 hc; exact h x
theorem one_pure {α : Type} {l : List α} {g : α → List AV} (h : ∀ x, (g x).all AV.isPure1 = true) : ∀ cs ∈ l.map g, cs.all AV.isPure1 = true := fun cs hc => by
  obtain ⟨x, _, rfl⟩ := List.mem_map.1 hc; exact h x
def kS : Nat → Bool := fun c => (Nat.ble 2 c && Nat.blt c 10) || Nat.ble 16 c
def putS (h g : AHeap) : AHeap := fun c => bif kS c then g c else h c
theorem kS_hi (x : Nat) : kS (x + 16) = true := by
  unfold kS; rw [show Nat.ble 16 (x + 16) = true by rw [Nat.ble_eq]; omega]; simp
theorem kS_false {c : Nat} (h : kS c = false) : c = 0 ∨ c = 1 ∨ (10 ≤ c ∧ c < 16) := by
  unfold kS at h
  simp only [Bool.or_eq_false_iff, Bool.and_eq_false_iff] at h
  obtain ⟨h1, h2⟩ := h
  have h3 : ¬ 16 ≤ c := fun e => by rw [← Nat.ble_eq] at e; rw [e] at h2; cases h2
  rcases h1 with h1 | h1
  · have : ¬ 2 ≤ c := fun e => by rw [← Nat.ble_eq] at e; rw [e] at h1; cases h1
    omega
  · have : ¬ c < 10 := fun e => by
      have : Nat.blt c 10 = true := by unfold Nat.blt; rw [Nat.ble_eq]; omega
      rw [this] at h1; cases h1
    omega
theorem kS_true {c : Nat} (h : kS c = true) : (2 ≤ c ∧ c < 10) ∨ 16 ≤ c := by
  unfold kS at h
  simp only [Bool.or_eq_true, Bool.and_eq_true, Nat.ble_eq] at h
  rcases h with ⟨h1, h2⟩ | h
  · left
    refine ⟨h1, ?_⟩
    unfold Nat.blt at h2
    rw [Nat.ble_eq] at h2; omega
  · exact .inr h
theorem putS_hi (h g : AHeap) (x : Nat) : putS h g (x + 16) = g (x + 16) := by unfold putS; rw [kS_hi]; rfl
theorem putS_yes {h g : AHeap} {c : Nat} (hc : kS c = true) : putS h g c = g c := by unfold putS; rw [hc]; rfl
theorem putS_no {h g : AHeap} {c : Nat} (hc : kS c = false) : putS h g c = h c := by unfold putS; rw [hc]; rfl
theorem HSL_avoid (f : BFunc) (R : Nat) (es : List (List AV)) (len : Nat) (w : Nat → Bool) : ∀ i, i < 8 → (nth (HSL f R es len w) i).avoid kS = true := fun i hi => by
  have h3 : ∀ q b, (rG q (nw R) b).avoid kS = true := fun q b => by
    simp [rG, AV.avoid, AV.flat, kS_hi]
  have h7 : ∀ A b, (ahR A b).avoid kS = true := fun A b => slA_avoid _ (kS_hi _)
  rcases (by omega : i = 0 ∨ i = 1 ∨ i = 2 ∨ i = 3 ∨ i = 4 ∨ i = 5 ∨ i = 6 ∨ i = 7) with rfl | rfl | rfl | rfl | rfl | rfl | rfl | rfl
  · rfl
  · exact colF_avoid (fun b _ => h3 0 b)
  · exact colF_avoid (fun b _ => h3 1 b)
  · rfl
  · rfl
  · exact colF_avoid (fun b _ => h7 _ b)
  · rfl
  · rfl
theorem HS_low (f : BFunc) (R : Nat) (es : List (List AV)) (len : Nat) (w : Nat → Bool) (F : Nat → AObj) {i : Nat} (hi : i < 8) : HS f R es len w F (2 + i) = some (nth (HSL f R es len w) i) := by
  show fam (nb _) F (2 + i) = _
  rw [fam_lo _ _ (by omega)]
  unfold nb
  congr 1
  rw [Nat.add_comm 2 i]; rfl
theorem HS_avoid {f : BFunc} {R : Nat} {es : List (List AV)} {len : Nat} {w : Nat → Bool} {F : Nat → AObj} (hF : ∀ x, (F x).avoid kS = true) {c : Nat} (hc : kS c = true) : ∃ q, HS f R es len w F c = some q ∧ q.avoid kS = true := by
  rcases kS_true hc with h | h
  · obtain ⟨i, rfl⟩ : ∃ i, c = 2 + i := ⟨c - 2, by omega⟩
    exact ⟨_, HS_low f R es len w F (by omega), HSL_avoid f R es len w i (by omega)⟩
  · obtain ⟨x, rfl⟩ : ∃ x, c = x + 16 := ⟨c - 16, by omega⟩
    exact ⟨_, fam_hi _ _ _, hF x⟩
def LowS (h : AHeap) : Nat → List AObj → Prop
  | _, [] => True
  | i, o :: L => h i = some o ∧ LowS h (i + 1) L
theorem LowS.get {h : AHeap} : ∀ {L : List AObj} {i c : Nat}, LowS h i L → c < L.length → h (i + c) = some (nth L c)
  | o :: L, i, 0, hl, _ => hl.1
  | o :: L, i, c + 1, hl, hc => by
    have := LowS.get (L := L) (i := i + 1) (c := c) hl.2 (by simpa using hc)
    rw [show i + (c + 1) = i + 1 + c by omega]; exact this
theorem HS_of {h : AHeap} {f : BFunc} {R : Nat} {es : List (List AV)} {len : Nat} {w : Nat → Bool} {F : Nat → AObj} (h1 : LowS h 2 (HSL f R es len w)) (h2 : ∀ x, h (x + 16) = some (F x)) {c : Nat} (hc : kS c = true) : h c = HS f R es len w F c := by
  rcases kS_true hc with hh | hh
  · obtain ⟨i, rfl⟩ : ∃ i, c = 2 + i := ⟨c - 2, by omega⟩
    rw [HS_low f R es len w F (by omega)]
    exact h1.get (by show i < 8; omega)
  · obtain ⟨x, rfl⟩ : ∃ x, c = x + 16 := ⟨c - 16, by omega⟩
    rw [h2]
    exact (fam_hi _ _ _).symm
theorem hs_sub {h : AHeap} {f : BFunc} {R : Nat} {es : List (List AV)} {len : Nat} {w : Nat → Bool} {F : Nat → AObj} (h1 : LowS h 2 (HSL f R es len w)) (h2 : ∀ x, h (x + 16) = some (F x)) : HSub (putS hNone (HS f R es len w F)) h := fun c o ho => by
  cases e : kS c with
  | true => rw [putS_yes e] at ho; rw [HS_of h1 h2 e]; exact ho
  | false => rw [putS_no e] at ho; cases ho
theorem push_range {k : Nat} : waitEs (fun b => decide (b < k)) ((List.range k).map natC) k k = (List.range (k + 1)).map natC := by
  unfold waitEs pushE
  simp [List.range_succ]
theorem upd_range (k : Nat) : updB (fun b => decide (b < k)) k true = fun b => decide (b < k + 1) := funext fun c => by
  unfold updB
  by_cases h : c = k
  · subst h; simp
  · rw [if_neg h, decide_eq_decide]; omega
theorem len_range (k : Nat) : waitLen (fun b => decide (b < k)) k k = k + 1 := by
  unfold waitLen; simp
theorem hresK_HS {h : AHeap} {f : BFunc} {R : Nat} {es : List (List AV)} {len : Nat} {w : Nat → Bool} {F : Nat → AObj} (h1 : LowS h 2 (HSL f R es len w)) (h2 : ∀ x, h (x + 16) = some (F x)) : hresK h kS = HS f R es len w F := funext fun c => by
  unfold hresK
  cases e : kS c with
  | true => exact HS_of h1 h2 e
  | false =>
    rcases kS_false e with rfl | rfl | hc
    · rfl
    · rfl
    · show some AObj.free = fam (nb (.free :: .free :: HSL f R es len w)) F c
      rw [fam_lo _ _ (by omega)]
      show some AObj.free = some (nth (.free :: .free :: HSL f R es len w) c)
      rw [nth_out (by show 10 ≤ c; omega)]
theorem o_callHS {P : Program} {o : Oper} {e : AEnv} {h : AHeap} {g : FuncId} {fn : Func} {args : Array Operand} {tys : Array TypeId} {xs : List AV} {r : AV} {f : BFunc} {R : Nat} {es es' : List (List AV)} {len len' : Nat} {w w' : Nat → Bool} {F F' : Nat → AObj}
    (ho : o.op = .call { callee := .value (.func g), args := args, argTypes := tys }) (hf : P.funcs[g]? = some fn) (hn : (fn.name == "runtime.NumGoroutine") = false) (hb : fn.body.isSome = true) (hx : lookAll e args.toList = some xs)
    (hxa : xs.all (AV.avoid kS) = true) (h1 : LowS h 2 (HSL f R es len w)) (h2 : ∀ x, h (x + 16) = some (F x)) (hF : ∀ x, (F x).avoid kS = true) (hF' : ∀ x, (F' x).avoid kS = true) (hra : r.avoid kS = true)
    (hcall : ACall P g xs (HS f R es len w F) (fun r' h' => r' = r ∧ HSub (HS f R es' len' w' F') h')) : OCall P o e h (putS h (HS f R es' len' w' F')) r :=
  o_callK (hw := HS f R es' len' w' F') kS ho hf hn hb hx hxa (fun b hb => by rw [HS_of h1 h2 hb]; exact HS_avoid hF hb) (hresK_HS h1 h2) (fun b hb => putS_no hb)
    (fun b hb => by obtain ⟨q, q1, q2⟩ := HS_avoid (f := f) (R := R) (es := es') (len := len') (w := w') hF' hb; exact ⟨q, q1, (putS_yes hb).trans q1, q2⟩) hra hcall
end Go.Proofs.Ytjmjmedjjbginaa.Sv

namespace Go.Proofs.Ytjmjmedjjbginaa.Sv
open Go

theorem snoc_cases {α : Type} (l : List α) : l = [] ∨ ∃ L b, l = L ++ [b] := by
  cases h : l.reverse with
  | nil => left; exact List.reverse_eq_nil_iff.1 h
  | cons b r => right; exact ⟨r.reverse, b, by rw [← List.reverse_reverse l, h, List.reverse_cons]⟩
theorem waitI_none (n : Nat) : WaitI n (fun b => decide (b < 0)) [] := by
  refine ⟨List.nodup_nil, fun b => by simp, ?_⟩
  induction n with
  | zero => rfl
  | succ n ih => rw [List.range_succ, List.map_append, List.sum_append, ih]; simp
theorem waitI_range {n : Nat} : ∀ k, k ≤ n → WaitI n (fun b => decide (b < k)) (List.range k)
  | 0, _ => waitI_none n
  | k + 1, h => by
    have := (waitI_range (n := n) k (by omega)).push (b := k) (by omega) (by simp)
    rw [upd_range, ← List.range_succ] at this
    exact this
theorem stackI_range (n : Nat) : StackI n ((List.range n).map natC) (List.range n) := by
  refine ⟨?_, by simp, by simp⟩
  rw [List.take_of_length_le (by simp)]
theorem pop_len {L : List Nat} {b : Nat} (h : L.length ≤ 1000000) : evalBin .sub (.int .i64 (((L ++ [b]).length : Nat) : Int)) (.int .i64 1) = some (.int .i64 (L.length : Int)) := by
  have e : (((L ++ [b]).length : Nat) : Int) = (L.length : Int) + 1 := by simp
  simp only [evalBin, evalInt, isShift, cond_false, if_true]
  rw [e, wrap_i64 (by omega) (by omega)]
  congr 2
  omega
theorem mu_more {F F' n a b : Nat} (h : F' < F) (ha : a ≤ n) : F' * (n + 1) + a < F * (n + 1) + b := by
  have h1 : (F' + 1) * (n + 1) ≤ F * (n + 1) := Nat.mul_le_mul_right _ h
  rw [Nat.succ_mul] at h1
  omega
theorem mu_less {F F' n a b : Nat} (h : F' ≤ F) (ha : a < b) : F' * (n + 1) + a < F * (n + 1) + b := by
  have h1 : F' * (n + 1) ≤ F * (n + 1) := Nat.mul_le_mul_right _ h
  omega
structure LQ where
  I : BB
  O : BB
  w : Nat → Bool
  ws : List Nat
  es : List (List AV)
structure LQI (f : BFunc) (R : Nat) (q : LQ) : Prop where
  k : LInv f R q.I q.O q.w []
  wt : WaitI f.blocks.length q.w q.ws
  st : StackI f.blocks.length q.es q.ws
def lmu (f : BFunc) (R : Nat) (q : LQ) : Nat := falses f.blocks.length (64 * nw R) q.I * (f.blocks.length + 1) + q.ws.length
def lq0 (n : Nat) : LQ := ⟨B0, B0, fun b => decide (b < n), List.range n, (List.range n).map natC⟩
theorem LQI.first (f : BFunc) (R : Nat) : LQI f R (lq0 f.blocks.length) := ⟨LInv.first fun b hb => decide_eq_true hb, waitI_range _ (Nat.le_refl _), stackI_range _⟩
structure LP where
  w : Nat → Bool
  ws : List Nat
  es : List (List AV)
  j : Nat
structure LPI (f : BFunc) (R : Nat) (I O : BB) (b : Nat) (p : LP) : Prop where
  k : LInv f R I O p.w ((aheadL f b).drop p.j)
  wt : WaitI f.blocks.length p.w p.ws
  st : StackI f.blocks.length p.es p.ws
theorem LPI.next {f : BFunc} {R : Nat} {I O : BB} {b : Nat} {p : LP} {a : Nat} (h : LPI f R I O b p) (ha : (aheadL f b)[p.j]? = some a) : LPI f R I O b ⟨waitW p.w a, waitL p.w p.ws a, waitEs p.w p.es p.ws.length a, p.j + 1⟩ := by
  have hlt := aheadL_lt (List.mem_of_getElem? ha)
  have hk := h.k
  rw [List.drop_eq_getElem_cons (List.getElem?_eq_some_iff.1 ha).1, (List.getElem?_eq_some_iff.1 ha).2] at hk
  exact ⟨hk.wait, h.wt.wait hlt, h.st.wait h.wt hlt⟩
theorem LPI.done {f : BFunc} {R : Nat} {I O : BB} {b : Nat} {p : LP} (h : LPI f R I O b p) (hj : (aheadL f b).length ≤ p.j) : LQI f R ⟨I, O, p.w, p.ws, p.es⟩ := by
  have hk := h.k
  rw [List.drop_eq_nil_iff.2 hj] at hk
  exact ⟨hk, h.wt, h.st⟩
theorem aheadL_len (f : BFunc) (c : Nat) : (aheadL f c).length ≤ 2 * f.blocks.length + 2 := by
  have := aheadP_len f f.blocks.length 0 c
  rw [aheadP_zero] at this
  exact this
theorem row_take_succ {l : List (List Bool)} {k : Nat} {x : List Bool} (h : l[k]? = some x) : (l.take k).map rowCell ++ [rowCell x] = (l.take (k + 1)).map rowCell := by
  rw [List.take_add_one, h, List.map_append]; rfl
theorem inRows_get {f : BFunc} {k : Nat} (h : k < f.blocks.length) : (inRows f)[k]? = some (inRow f k) := by simp [inRows, h]
theorem outRows_get {f : BFunc} {k : Nat} {x : Block} (h : f.blocks[k]? = some x) : (outRows f)[k]? = some (outRow f x) := by simp [outRows, h]
theorem rows2_avoid {k0 : Nat} (h : 13 ≤ k0) {a b : List (List AV)} : (AObj.row false 2 [[slA 11 a, slA 12 b]]).avoid (kf k0) = true := by
  have hk : ∀ c, c < 13 → kf k0 c = true := fun c hc => kf_lo (by omega)
  show (List.all [_, _] (AV.avoid (kf k0)) && true) = true
  simp only [List.all_cons, List.all_nil, Bool.and_true, Bool.and_eq_true]
  exact ⟨slA_avoid _ (hk 11 (by omega)), slA_avoid _ (hk 12 (by omega))⟩
end Go.Proofs.Ytjmjmedjjbginaa.Sv

namespace Go.Proofs.Ytjmjmedjjbginaa.Sv
open Go

structure Site where
  at_ : Nat
  r : Bool
  s : Bool
def kpI (G : Nat → Bool) : List Tac → Nat → List Tac
  | [], _ => []
  | t :: l, j => bif G j then kpI G l (j + 1) else t :: kpI G l (j + 1)
theorem kpI_app (G : Nat → Bool) (l2 : List Tac) : ∀ (l1 : List Tac) (j : Nat), kpI G (l1 ++ l2) j = kpI G l1 j ++ kpI G l2 (j + l1.length)
  | [], j => by simp [kpI]
  | t :: l, j => by
    rw [List.cons_append, kpI, kpI, kpI_app G l2 l (j + 1), List.length_cons]
    have : j + 1 + l.length = j + (l.length + 1) := by omega
    rw [this]
    cases G j <;> rfl
theorem kpI_congr {G G' : Nat → Bool} : ∀ (l : List Tac) (j : Nat), (∀ i, j ≤ i → i < j + l.length → G i = G' i) → kpI G l j = kpI G' l j
  | [], _, _ => rfl
  | t :: l, j, h => by
    rw [kpI, kpI, h j (Nat.le_refl _) (by simp), kpI_congr l (j + 1) fun i h1 h2 => h i (by omega) (by simp; omega)]
theorem kpI_len (G : Nat → Bool) : ∀ (l : List Tac) (j : Nat), (kpI G l j).length ≤ l.length
  | [], _ => Nat.le_refl _
  | t :: l, j => by
    have := kpI_len G l (j + 1)
    rw [kpI]
    cases G j <;> simp <;> omega
theorem kpI_none : ∀ (l : List Tac) (j : Nat), kpI (fun _ => false) l j = l
  | [], _ => rfl
  | t :: l, j => by rw [kpI, kpI_none l (j + 1)]; rfl
theorem kpI_split {G : Nat → Bool} {l : List Tac} {p : Nat} {t : Tac} (h : l[p]? = some t) : kpI G l 0 = kpI G (l.take p) 0 ++ (bif G p then kpI G (l.drop (p + 1)) (p + 1) else t :: kpI G (l.drop (p + 1)) (p + 1)) := by
  have hp := (List.getElem?_eq_some_iff.1 h).1
  have e : l = l.take p ++ t :: l.drop (p + 1) := by
    have := List.drop_eq_getElem_cons hp
    rw [(List.getElem?_eq_some_iff.1 h).2] at this
    rw [← this, List.take_append_drop]
  conv => lhs; rw [e]
  rw [kpI_app, List.length_take, Nat.min_eq_left (by omega), Nat.zero_add, kpI]
def siF (z : Bool) (v : Nat) : List Tac → Nat → List Site
  | [], j => bif z then [⟨j, true, false⟩] else []
  | t :: l, j => bif t.uses.contains (v : Int) || t.sets == (v : Int) then ⟨j, t.uses.contains (v : Int), t.sets == (v : Int)⟩ :: siF z v l (j + 1) else siF z v l (j + 1)
theorem siF_cons (z : Bool) (v : Nat) (t : Tac) (l : List Tac) (j : Nat) : siF z v (t :: l) j = bif t.uses.contains (v : Int) || t.sets == (v : Int) then ⟨j, t.uses.contains (v : Int), t.sets == (v : Int)⟩ :: siF z v l (j + 1) else siF z v l (j + 1) := rfl
def sitesOf (x : Block) (v : Nat) : List Site := siF (endz x v) v x.ins 0
def leftS (G : Nat → Bool) (n : Nat) (s : Site) : Bool := s.at_ == n || !G s.at_
def needS (G : Nat → Bool) (n : Nat) : List Site → Bool → Bool
  | [], z => z
  | s :: l, z => bif leftS G n s then s.r || (!s.s && needS G n l z) else needS G n l z
def firstS (G : Nat → Bool) (n : Nat) : List Site → Nat
  | [] => 0
  | s :: l => bif leftS G n s then (bif s.r then 1 else 2) else firstS G n l
theorem needS_congr {G G' : Nat → Bool} {n : Nat} {z : Bool} : ∀ {l : List Site}, (∀ s ∈ l, leftS G n s = leftS G' n s) → needS G n l z = needS G' n l z
  | [], _ => rfl
  | s :: l, h => by
    rw [needS, needS, h s (List.mem_cons.2 (.inl rfl)), needS_congr fun s hs => h s (List.mem_cons.2 (.inr hs))]
theorem needS_need {G : Nat → Bool} {n v : Nat} {e z : Bool} : ∀ {l : List Tac} {j : Nat}, j + l.length = n → needS G n (siF e v l j) z = need v (kpI G l j) (e || z)
  | [], j, h => by
    have hj : j = n := by simpa using h
    subst hj
    cases e <;> simp [siF, needS, kpI, need, leftS]
  | t :: l, j, h => by
    have ih := needS_need (G := G) (n := n) (v := v) (e := e) (z := z) (l := l) (j := j + 1) (by simp at h; omega)
    have hj : (j == n) = false := by rw [beq_eq_false_iff_ne]; simp at h; omega
    unfold siF kpI
    cases hu : t.uses.contains (v : Int) with
    | true =>
      rw [Bool.true_or, cond_true, needS, ih]
      show (bif (j == n || !G j) then (true || _) else _) = _
      rw [hj]
      cases hG : G j with
      | true => rfl
      | false => simp only [cond_false]; rw [need, hu]; rfl
    | false =>
      cases hs : t.sets == (v : Int) with
      | true =>
        rw [Bool.false_or, cond_true, needS, ih]
        show (bif (j == n || !G j) then (false || (!true && _)) else _) = _
        rw [hj]
        cases hG : G j with
        | true => rfl
        | false => simp only [cond_false]; rw [need, hu, hs]; rfl
      | false =>
        rw [Bool.false_or, cond_false, ih]
        cases hG : G j with
        | true => rfl
        | false => simp only [cond_false]; rw [need, hu, hs]; rfl
theorem firstS_1 {G : Nat → Bool} {n : Nat} {z : Bool} : ∀ {l : List Site}, firstS G n l = 1 → needS G n l z = true
  | [], h => by cases h
  | s :: l, h => by
    have ih := firstS_1 (G := G) (n := n) (z := z) (l := l)
    unfold firstS at h; unfold needS
    revert h ih
    cases leftS G n s <;> cases s.r <;> simp
theorem firstS_0 {G : Nat → Bool} {n : Nat} {z : Bool} : ∀ {l : List Site}, firstS G n l = 0 → needS G n l z = z
  | [], h => rfl
  | s :: l, h => by
    have ih := firstS_0 (G := G) (n := n) (z := z) (l := l)
    unfold firstS at h; unfold needS
    revert h ih
    cases leftS G n s <;> cases s.r <;> simp
theorem firstS_2 {G : Nat → Bool} {n : Nat} {z : Bool} : ∀ {l : List Site}, (∀ s ∈ l, (s.r || s.s) = true) → firstS G n l = 2 → needS G n l z = false
  | [], _, h => by cases h
  | s :: l, hs, h => by
    have ih := firstS_2 (G := G) (n := n) (z := z) (l := l) (fun s h => hs s (List.mem_cons.2 (.inr h)))
    have h0 := hs s (List.mem_cons.2 (.inl rfl))
    unfold firstS at h; unfold needS
    revert h ih h0
    cases leftS G n s <;> cases s.r <;> cases s.s <;> simp
theorem firstS_le {G : Nat → Bool} {n : Nat} : ∀ {l : List Site}, firstS G n l = 0 ∨ firstS G n l = 1 ∨ firstS G n l = 2
  | [] => .inl rfl
  | s :: l => by
    have ih := firstS_le (G := G) (n := n) (l := l)
    unfold firstS
    cases leftS G n s <;> cases s.r <;> simp [ih]
theorem siF_some {z : Bool} {v : Nat} : ∀ {l : List Tac} {j : Nat}, ∀ s ∈ siF z v l j, (s.r || s.s) = true
  | [], j, s, h => by
    unfold siF at h
    cases z with
    | false => simp at h
    | true => simp at h; subst h; rfl
  | t :: l, j, s, h => by
    unfold siF at h
    cases e : t.uses.contains (v : Int) || t.sets == (v : Int) with
    | false => rw [e] at h; exact siF_some s h
    | true =>
      rw [e] at h
      rcases List.mem_cons.1 h with rfl | h
      · exact e
      · exact siF_some s h
theorem siF_get {z : Bool} {v : Nat} : ∀ {l : List Tac} {j k : Nat} {s : Site}, (siF z v l j)[k]? = some s →
    (s.at_ = j + l.length ∧ s.r = true ∧ s.s = false ∧ z = true ∧ k + 1 = (siF z v l j).length) ∨ ∃ p t, s.at_ = j + p ∧ l[p]? = some t ∧ s.r = t.uses.contains (v : Int) ∧ s.s = (t.sets == (v : Int)) ∧ (siF z v l j).drop (k + 1) = siF z v (l.drop (p + 1)) (j + p + 1)
  | [], j, k, s, h => by
    unfold siF at h
    cases z with
    | false => simp at h
    | true =>
      cases k with
      | zero => simp at h; subst h; exact .inl ⟨rfl, rfl, rfl, rfl, rfl⟩
      | succ k => simp at h
  | t :: l, j, k, s, h => by
    have key : ∀ k', (siF z v l (j + 1))[k']? = some s → (s.at_ = j + (t :: l).length ∧ s.r = true ∧ s.s = false ∧ z = true ∧ k' + 1 = (siF z v l (j + 1)).length) ∨ ∃ p u, s.at_ = j + p ∧ (t :: l)[p]? = some u ∧ s.r = u.uses.contains (v : Int) ∧ s.s = (u.sets == (v : Int)) ∧ (siF z v l (j + 1)).drop (k' + 1) = siF z v ((t :: l).drop (p + 1)) (j + p + 1) := fun k' h' => by
      rcases siF_get h' with ⟨h1, h2, h3, h4, h5⟩ | ⟨p, u, h1, h2, h3, h4, h5⟩
      · exact .inl ⟨by rw [h1, List.length_cons]; omega, h2, h3, h4, h5⟩
      · refine .inr ⟨p + 1, u, by omega, h2, h3, h4, ?_⟩
        rw [h5, List.drop_succ_cons]
        congr 1; omega
    rw [siF_cons] at h ⊢
    cases e : t.uses.contains (v : Int) || t.sets == (v : Int) with
    | false => rw [e] at h; simp only [cond_false] at h ⊢; exact key k h
    | true =>
      rw [e] at h
      simp only [cond_true] at h ⊢
      cases k with
      | zero =>
        simp only [List.getElem?_cons_zero, Option.some.injEq] at h
        subst h
        exact .inr ⟨0, t, rfl, rfl, rfl, rfl, by simp⟩
      | succ k =>
        rw [List.getElem?_cons_succ] at h
        rcases key k h with ⟨h1, h2, h3, h4, h5⟩ | h1
        · exact .inl ⟨h1, h2, h3, h4, by rw [List.length_cons, h5]⟩
        · rw [List.drop_succ_cons]; exact .inr h1
theorem siF_of {z : Bool} {v : Nat} : ∀ {l : List Tac} {j p : Nat} {t : Tac}, l[p]? = some t → t.sets = (v : Int) → ∃ k s, (siF z v l j)[k]? = some s ∧ s.at_ = j + p ∧ s.s = true ∧ (siF z v l j).drop (k + 1) = siF z v (l.drop (p + 1)) (j + p + 1)
  | [], j, p, t, h, _ => by simp at h
  | u :: l, j, 0, t, h, hs => by
    simp only [List.getElem?_cons_zero, Option.some.injEq] at h
    subst h
    have e : (u.sets == (v : Int)) = true := by rw [hs]; simp
    rw [siF_cons, e, Bool.or_true, cond_true]
    exact ⟨0, _, rfl, rfl, rfl, by simp⟩
  | u :: l, j, p + 1, t, h, hs => by
    obtain ⟨k, s, h1, h2, h3, h4⟩ := siF_of (z := z) (l := l) (j := j + 1) (p := p) (by simpa using h) hs
    have e2 : siF z v ((u :: l).drop (p + 1 + 1)) (j + (p + 1) + 1) = siF z v (l.drop (p + 1)) (j + 1 + p + 1) := by
      rw [List.drop_succ_cons]; congr 1; omega
    rw [siF_cons]
    cases e : u.uses.contains (v : Int) || u.sets == (v : Int) with
    | false => rw [cond_false]; exact ⟨k, s, h1, by omega, h3, by rw [e2]; exact h4⟩
    | true => rw [cond_true]; exact ⟨k + 1, s, h1, by omega, h3, by rw [e2, List.drop_succ_cons]; exact h4⟩
theorem siF_at {z : Bool} {v : Nat} : ∀ {l : List Tac} {j : Nat}, ∀ s ∈ siF z v l j, j ≤ s.at_ ∧ s.at_ ≤ j + l.length
  | [], j, s, h => by
    unfold siF at h
    cases z with
    | false => simp at h
    | true => simp at h; subst h; simp
  | t :: l, j, s, h => by
    unfold siF at h
    have key : s ∈ siF z v l (j + 1) → j ≤ s.at_ ∧ s.at_ ≤ j + (t :: l).length := fun h' => by
      have := siF_at s h'
      simp only [List.length_cons]; omega
    cases e : t.uses.contains (v : Int) || t.sets == (v : Int) with
    | false => rw [e] at h; exact key h
    | true =>
      rw [e] at h
      rcases List.mem_cons.1 h with rfl | h
      · simp
      · exact key h
abbrev GG := Nat → Nat → Bool
def cutF (f : BFunc) (G : GG) : BFunc := { f with blocks := f.blocks.zipIdx.map fun p => p.1.mid (kpI (G p.2) p.1.ins 0) }
theorem cutF_get {f : BFunc} {G : GG} {b : Nat} {x : Block} (h : f.blocks[b]? = some x) : (cutF f G).blocks[b]? = some (x.mid (kpI (G b) x.ins 0)) := by
  simp [cutF, h]
theorem cutF_of {f : BFunc} {G : GG} {b : Nat} {y : Block} (h : (cutF f G).blocks[b]? = some y) : ∃ x, f.blocks[b]? = some x ∧ y = x.mid (kpI (G b) x.ins 0) := by
  simp only [cutF, List.getElem?_map, List.getElem?_zipIdx, Option.map_map] at h
  cases e : f.blocks[b]? with
  | none => rw [e] at h; simp at h
  | some x => rw [e] at h; simp at h; exact ⟨x, rfl, h.symm⟩
theorem cutF_len (f : BFunc) (G : GG) : (cutF f G).blocks.length = f.blocks.length := by simp [cutF]
theorem cutF_none (f : BFunc) : cutF f (fun _ _ => false) = f := by
  have : (cutF f (fun _ _ => false)).blocks = f.blocks := by
    refine List.ext_getElem? fun i => ?_
    cases e : f.blocks[i]? with
    | none =>
      rw [List.getElem?_eq_none_iff] at e ⊢
      rw [cutF_len]; exact e
    | some x => rw [cutF_get e, kpI_none]; rfl
  cases f
  unfold cutF at this ⊢
  simp only at this ⊢
  rw [this]
def putG (G : GG) (b p : Nat) : GG := fun c q => G c q || (c == b && q == p)
theorem putG_same (G : GG) (b p : Nat) : putG G b p b p = true := by simp [putG]
theorem putG_ne {G : GG} {b p c q : Nat} (h : ¬ (c = b ∧ q = p)) : putG G b p c q = G c q := by
  unfold putG
  have : (c == b && q == p) = false := by
    rw [Bool.eq_false_iff]; intro e
    simp at e; exact h e
  rw [this, Bool.or_false]
theorem cutF_put {f : BFunc} {G : GG} {b p : Nat} {x : Block} {t : Tac} (hx : f.blocks[b]? = some x) (ht : x.ins[p]? = some t) (hG : G b p = false) :
    cutF f (putG G b p) = (cutF f G).putB b (x.mid (kpI (G b) (x.ins.take p) 0 ++ kpI (G b) (x.ins.drop (p + 1)) (p + 1))) := by
  have e : (cutF f (putG G b p)).blocks = (cutF f G).blocks.set b (x.mid (kpI (G b) (x.ins.take p) 0 ++ kpI (G b) (x.ins.drop (p + 1)) (p + 1))) := by
    refine List.ext_getElem? fun c => ?_
    rw [List.getElem?_set]
    by_cases hc : b = c
    · subst hc
      have hlt : b < (cutF f G).blocks.length := by rw [cutF_len]; exact (List.getElem?_eq_some_iff.1 hx).1
      rw [if_pos rfl, if_pos hlt, cutF_get hx, kpI_split ht, putG_same, cond_true]
      have hlp : (x.ins.take p).length ≤ p := by rw [List.length_take]; exact Nat.min_le_left _ _
      rw [kpI_congr (G := putG G b p b) (G' := G b) (x.ins.take p) 0 fun i _ hi => putG_ne (by omega), kpI_congr (G := putG G b p b) (G' := G b) (x.ins.drop (p + 1)) (p + 1) fun i hi _ => putG_ne (by omega)]
    · rw [if_neg hc]
      cases e : f.blocks[c]? with
      | none =>
        have h1 : (cutF f (putG G b p)).blocks[c]? = none := by rw [List.getElem?_eq_none_iff] at e ⊢; rw [cutF_len]; exact e
        have h2 : (cutF f G).blocks[c]? = none := by rw [List.getElem?_eq_none_iff] at e ⊢; rw [cutF_len]; exact e
        rw [h1, h2]
      | some y =>
        rw [cutF_get e, cutF_get e, kpI_congr (G := putG G b p c) (G' := G c) y.ins 0 fun i _ _ => putG_ne (by omega)]
  have : ∀ (g h : BFunc), g.blocks = h.blocks → g.regs = h.regs → g = h := fun g h h1 h2 => by cases g; cases h; simp only at h1 h2; rw [h1, h2]
  exact this _ _ e rfl
theorem cutF_cut {f : BFunc} {G : GG} {b p v : Nat} {x : Block} {t : Tac} (hx : f.blocks[b]? = some x) (ht : x.ins[p]? = some t) (hG : G b p = false) (hp : t.pure = true) (hv : t.sets = (v : Int))
    (hd : need v (kpI (G b) (x.ins.drop (p + 1)) (p + 1)) (endB (cutF f G) x v) = false) :
    CutAt (cutF f G) (cutF f (putG G b p)) b (x.mid (kpI (G b) x.ins 0)) (kpI (G b) (x.ins.take p) 0) t (kpI (G b) (x.ins.drop (p + 1)) (p + 1)) v where
  hx := cutF_get hx
  hi := by show kpI (G b) x.ins 0 = _; rw [kpI_split ht, hG]; rfl
  pure := hp
  hv := hv
  dead := hd
  hg := cutF_put hx ht hG
def NoDead (g : BFunc) (w : Nat) : Prop := ∀ h c x l1 t l2, ¬ CutAt g h c x l1 t l2 w
theorem cut_up {f g : BFunc} {c : Nat} {x : Block} {l1 l2 : List Tac} {t : Tac} {v : Nat} (h : CutAt f g c x l1 t l2 v) {w : Nat} (hw : t.uses.contains (w : Int) = false) (hvw : v ≠ w) (hn : NoDead f w) : NoDead g w := by
  intro k d y m1 u m2 h2
  have hg := h.hg
  by_cases hcd : c = d
  · subst hcd
    have hy := h2.hx
    rw [hg, putB_self h.hx] at hy
    cases hy
    have he : l1 ++ l2 = m1 ++ u :: m2 := h2.hi
    -- where the two lie
    rcases List.append_eq_append_iff.1 he with ⟨a, ha1, ha2⟩ | ⟨a, ha1, ha2⟩
    · -- u lies behind t
      subst ha1
      refine hn _ c x (l1 ++ t :: a) u m2 { hx := h.hx, hi := by rw [h.hi, ha2]; simp, pure := h2.pure, hv := h2.hv, dead := ?_, hg := rfl }
      exact false_of (need_mono (endB_up h ⟨rfl, rfl, rfl⟩ hw)) h2.dead
    · cases a with
      | nil =>
        simp only [List.append_nil, List.nil_append] at ha1 ha2
        subst ha1
        refine hn _ c x (l1 ++ [t]) u m2 { hx := h.hx, hi := by rw [h.hi, ← ha2]; simp, pure := h2.pure, hv := h2.hv, dead := ?_, hg := rfl }
        exact false_of (need_mono (endB_up h ⟨rfl, rfl, rfl⟩ hw)) h2.dead
      | cons q a =>
        simp only [List.cons_append, List.cons.injEq] at ha2
        obtain ⟨e1, e2⟩ := ha2
        subst e1
        subst ha1
        refine hn _ c x m1 u (a ++ t :: l2) { hx := h.hx, hi := by rw [h.hi]; simp, pure := h2.pure, hv := h2.hv, dead := ?_, hg := rfl }
        refine false_of (fun e => ?_) h2.dead
        rw [e2]
        exact need_mono (endB_up h ⟨rfl, rfl, rfl⟩ hw) (need_cut' hw e)
  · have hy := h2.hx
    rw [hg, putB_ne hcd] at hy
    exact hn _ d y m1 u m2 { hx := hy, hi := h2.hi, pure := h2.pure, hv := h2.hv, dead := false_of (need_mono (endB_up h ⟨rfl, rfl, rfl⟩ hw)) h2.dead, hg := rfl }
end Go.Proofs.Ytjmjmedjjbginaa.Sv

namespace Go.Proofs.Ytjmjmedjjbginaa.Sv
open Go

theorem siF_len (z : Bool) (v : Nat) : ∀ (l : List Tac) (j : Nat), (siF z v l j).length ≤ l.length + 1
  | [], j => by cases z <;> simp [siF]
  | t :: l, j => by
    have ih := siF_len z v l (j + 1)
    rw [siF_cons]
    cases t.uses.contains (v : Int) || t.sets == (v : Int) <;> simp <;> omega
def firstG (f : BFunc) (G : GG) (v b : Nat) : Nat := ((f.blocks[b]?).map fun x => firstS (G b) x.ins.length (sitesOf x v)).getD 0
theorem firstG_eq {f : BFunc} {G : GG} {v b : Nat} {x : Block} (h : f.blocks[b]? = some x) : firstG f G v b = firstS (G b) x.ins.length (sitesOf x v) := by unfold firstG; rw [h]; rfl
theorem inB_needS {f : BFunc} {G : GG} {v b : Nat} {x : Block} (hx : f.blocks[b]? = some x) (z : Bool) : need v (kpI (G b) x.ins 0) (endz x v || z) = needS (G b) x.ins.length (sitesOf x v) z := (needS_need (by simp)).symm
theorem aheadL_of {f : BFunc} {a c : Nat} (h : a ∈ aheadL f c) : ∃ x, f.blocks[a]? = some x ∧ (c : Int) ∈ x.nexts := by
  unfold aheadL at h
  obtain ⟨b, hb, h2⟩ := List.mem_flatMap.1 h
  unfold oneA at h2
  cases e : f.blocks[b]? with
  | none => rw [e] at h2; simp at h2
  | some x =>
    rw [e] at h2
    simp only [Option.map_some, Option.getD_some, List.mem_map, List.mem_filter] at h2
    obtain ⟨d, ⟨h3, h4⟩, rfl⟩ := h2
    have : d = (c : Int) := by simpa using h4
    exact ⟨x, e, this ▸ h3⟩
def cntF (n : Nat) (w : Nat → Bool) : Nat := ((List.range n).map fun b => if w b then 0 else 1).sum
theorem cntF_upd {w : Nat → Bool} {b : Nat} (h : w b = false) : ∀ {n : Nat}, b < n → cntF n (updB w b true) + 1 = cntF n w
  | 0, hb => by omega
  | n + 1, hb => by
    unfold cntF
    rw [List.range_succ, List.map_append, List.map_append, List.sum_append, List.sum_append]
    simp only [List.map_cons, List.map_nil, List.sum_cons, List.sum_nil, Nat.add_zero]
    by_cases hn : b = n
    · subst hn
      rw [updB_same, h]
      have : ((List.range b).map fun c => if updB w b true c then 0 else 1) = (List.range b).map fun c => if w c then 0 else 1 := List.map_congr_left fun c hc => by
        rw [updB_ne _ (fun e => by subst e; exact Nat.lt_irrefl _ (List.mem_range.1 hc))]
      rw [this]; simp
    · rw [updB_ne _ (fun e => hn e.symm)]
      have ih := cntF_upd h (n := n) (by omega)
      unfold cntF at ih
      omega
structure BfI (f : BFunc) (G : GG) (v : Nat) (inn : Nat → Bool) (todo : List Nat) (b0 : Nat) (rest : List Nat) : Prop where
  sound : ∀ b, inn b = true → b < f.blocks.length ∧ LiveIn (cutF f G) v b
  src : ∀ b, b < f.blocks.length → firstG f G v b = 1 → inn b = true
  cl : ∀ c, inn c = true → c ∉ todo → ∀ a y, f.blocks[a]? = some y → (c : Int) ∈ y.nexts → firstG f G v a = 0 → inn a = true ∨ (c = b0 ∧ a ∈ rest)
  tod : ∀ c ∈ todo, inn c = true
  cnt : todo.length + cntF f.blocks.length inn ≤ f.blocks.length
theorem BfI.pop {f : BFunc} {G : GG} {v : Nat} {inn : Nat → Bool} {todo : List Nat} {b b1 : Nat} (h : BfI f G v inn (todo ++ [b]) b1 []) : BfI f G v inn todo b (aheadL f b) :=
  ⟨h.sound, h.src, fun c hc hn a y hy hm ha => by
    by_cases hcb : c = b
    · subst hcb
      exact .inr ⟨rfl, aheadL_mem hy (List.contains_iff_mem.2 hm)⟩
    · exact (h.cl c hc (fun e => by
        rcases List.mem_append.1 e with e | e
        · exact hn e
        · exact hcb (List.mem_singleton.1 e)) a y hy hm ha).elim .inl (fun e => by cases e.2), fun c hc => h.tod c (List.mem_append.2 (.inl hc)), by have := h.cnt; simp at this; omega⟩
theorem BfI.skip {f : BFunc} {G : GG} {v : Nat} {inn : Nat → Bool} {todo : List Nat} {b a : Nat} {rest : List Nat} (h : BfI f G v inn todo b (a :: rest)) (hs : ¬ (firstG f G v a = 0 ∧ inn a = false)) : BfI f G v inn todo b rest :=
  ⟨h.sound, h.src, fun c hc hn a' y hy hm ha => (h.cl c hc hn a' y hy hm ha).elim .inl fun ⟨e1, e2⟩ => by
    rcases List.mem_cons.1 e2 with rfl | e2
    · left
      cases e : inn a' with
      | true => rfl
      | false => exact absurd ⟨ha, e⟩ hs
    · exact .inr ⟨e1, e2⟩, h.tod, h.cnt⟩
theorem BfI.push {f : BFunc} {G : GG} {v : Nat} {inn : Nat → Bool} {todo : List Nat} {b a : Nat} {rest : List Nat} (h : BfI f G v inn todo b (a :: rest)) (hb : inn b = true) (hab : a ∈ aheadL f b) (h0 : firstG f G v a = 0) (hi : inn a = false) :
    BfI f G v (updB inn a true) (todo ++ [a]) b rest := by
  obtain ⟨x, hx, hm⟩ := aheadL_of hab
  have hlt := (List.getElem?_eq_some_iff.1 hx).1
  refine ⟨fun c hc => ?_, fun c hc h1 => ?_, fun c hc hn a' y hy hm' ha => ?_, fun c hc => ?_, ?_⟩
  · by_cases hca : c = a
    · subst hca
      refine ⟨hlt, .thru (d := (b : Int)) (cutF_get hx) ?_ hm (by rw [Int.toNat_natCast]; exact (h.sound b hb).2)⟩
      show need v (kpI (G c) x.ins 0) true = true
      have := inB_needS (G := G) (v := v) hx true
      rw [Bool.or_true] at this
      rw [this, firstS_0 (by rw [← firstG_eq hx]; exact h0)]
    · rw [updB_ne _ hca] at hc; exact h.sound c hc
  · by_cases hca : c = a
    · subst hca; rw [updB_same]
    · rw [updB_ne _ hca]; exact h.src c hc h1
  · have hcn : c ∉ todo := fun e => hn (List.mem_append.2 (.inl e))
    have hca : c ≠ a := fun e => hn (List.mem_append.2 (.inr (List.mem_singleton.2 e)))
    rw [updB_ne _ hca] at hc
    rcases h.cl c hc hcn a' y hy hm' ha with h1 | ⟨e1, e2⟩
    · left
      by_cases e : a' = a
      · subst e; rw [updB_same]
      · rw [updB_ne _ e]; exact h1
    · rcases List.mem_cons.1 e2 with rfl | e2
      · left; rw [updB_same]
      · exact .inr ⟨e1, e2⟩
  · by_cases hca : c = a
    · subst hca; rw [updB_same]
    · rw [updB_ne _ hca]
      rcases List.mem_append.1 hc with hc | hc
      · exact h.tod c hc
      · exact absurd (List.mem_singleton.1 hc) hca
  · have := h.cnt
    have e := cntF_upd hi hlt
    rw [List.length_append]
    simp
    omega
theorem BfI.any {f : BFunc} {G : GG} {v : Nat} {inn : Nat → Bool} {todo : List Nat} {b b' : Nat} (h : BfI f G v inn todo b []) : BfI f G v inn todo b' [] :=
  ⟨h.sound, h.src, fun c hc hn a y hy hm ha => (h.cl c hc hn a y hy hm ha).elim .inl (fun e => (by cases e.2)), h.tod, h.cnt⟩
theorem BfI.done {f : BFunc} (hs : f.sane) {G : GG} {v : Nat} {inn : Nat → Bool} {b0 : Nat} (h : BfI f G v inn [] b0 []) {b : Nat} (hb : b < f.blocks.length) : inn b = inB (cutF f G) v b := by
  rw [Bool.eq_iff_iff, inB_iff]
  refine ⟨fun e => (h.sound b e).2, fun hl => ?_⟩
  refine live_least (I := inn) (fun c y hy hn => ?_) hl
  obtain ⟨x, hx, rfl⟩ := cutF_of hy
  have hlt := (List.getElem?_eq_some_iff.1 hx).1
  have hn' : need v (kpI (G c) x.ins 0) (endz x v || x.nexts.any fun d => inn d.toNat) = true := hn
  rw [inB_needS hx] at hn'
  rcases firstS_le (G := G c) (n := x.ins.length) (l := sitesOf x v) with h0 | h1 | h2
  · rw [firstS_0 h0] at hn'
    obtain ⟨d, hd, hid⟩ := List.any_eq_true.1 hn'
    have h0' := (hs.next x (List.mem_of_getElem? hx) d hd).1
    refine (h.cl d.toNat hid (by simp) c x hx (by rw [Int.toNat_of_nonneg h0']; exact hd) (by rw [firstG_eq hx]; exact h0)).elim id fun e => by cases e.2
  · exact h.src c hlt (by rw [firstG_eq hx]; exact h1)
  · have e := firstS_2 (z := x.nexts.any fun d => inn d.toNat) (fun s hs => siF_some s hs) h2
    exact absurd (hn'.symm.trans e) (by simp)
def anyIn (inn : Nat → Bool) (x : Block) : Bool := x.nexts.any fun d => inn d.toNat
structure RS where
  G : GG
  w : Nat → Bool
  ws : List Nat
  es : List (List AV)
def pushR (st : RS) (u : Nat) : RS := ⟨st.G, waitW st.w u, waitL st.w st.ws u, waitEs st.w st.es st.ws.length u⟩
def leaveR (b p : Nat) (us : List Int) (st : RS) : RS := us.foldl (fun st u => pushR st u.toNat) ⟨putG st.G b p, st.w, st.ws, st.es⟩
def siteR (x : Block) (b : Nat) (st : RS × Bool) (s : Site) : RS × Bool :=
  bif leftS (st.1.G b) x.ins.length s then
    (match x.ins[s.at_]? with
    | some t => bif s.s && (!st.2 && t.pure) then (leaveR b s.at_ t.uses st.1, st.2) else (st.1, s.r || (!s.s && st.2))
    | none => (st.1, s.r || (!s.s && st.2)))
  else st
def blockR (inn : Nat → Bool) (v : Nat) (x : Block) (b : Nat) (st : RS) : RS := ((sitesOf x v).reverse.foldl (siteR x b) (st, anyIn inn x)).1
structure QI (R : Nat) (st : RS) : Prop where
  wt : WaitI R st.w st.ws
  st : StackI R st.es st.ws
theorem QI.push {R : Nat} {st : RS} (h : QI R st) {u : Nat} (hu : u < R) : QI R (pushR st u) := ⟨h.wt.wait hu, h.st.wait h.wt hu⟩
theorem QI.leave {R : Nat} {b p : Nat} : ∀ {us : List Int} {st : RS}, QI R st → (∀ u ∈ us, 0 ≤ u ∧ u < R) → QI R (us.foldl (fun st u => pushR st u.toNat) st)
  | [], st, h, _ => h
  | u :: us, st, h, hu => by
    rw [List.foldl_cons]
    refine QI.leave (b := b) (p := p) (h.push ?_) fun u' h' => hu u' (List.mem_cons.2 (.inr h'))
    have := hu u (List.mem_cons.2 (.inl rfl)); omega
theorem pushes_w : ∀ (us : List Int) (st : RS) (w : Nat), (us.foldl (fun st u => pushR st u.toNat) st).w w = (st.w w || us.any fun u => u.toNat == w)
  | [], st, w => by simp
  | u :: us, st, w => by
    rw [List.foldl_cons, pushes_w us]
    show (updB st.w u.toNat true w || _) = _
    rw [List.any_cons]
    by_cases h : w = u.toNat
    · subst h; rw [updB_same]; simp
    · rw [updB_ne _ h]
      have : (u.toNat == w) = false := by rw [beq_eq_false_iff_ne]; exact fun e => h e.symm
      rw [this, Bool.false_or]
theorem pushes_G : ∀ (us : List Int) (st : RS), (us.foldl (fun st u => pushR st u.toNat) st).G = st.G
  | [], st => rfl
  | u :: us, st => by rw [List.foldl_cons, pushes_G us]; rfl
theorem leave_G (b p : Nat) (us : List Int) (st : RS) : (leaveR b p us st).G = putG st.G b p := pushes_G _ _
structure RgI (f : BFunc) (R v : Nat) (inn : Nat → Bool) (m0 : Nat) (st : RS) (lo : Nat → Nat) : Prop where
  c : Cuts f (cutF f st.G)
  le : ∀ b, LiveIn (cutF f st.G) v b → inn b = true
  ex : st.w v = false → ∀ b, b < f.blocks.length → inn b = true → LiveIn (cutF f st.G) v b
  oth : ∀ u, u ≠ v → st.w u = false → NoDead (cutF f st.G) u
  q : QI R st
  ms : isz (cutF f st.G) * (R + 1) + st.ws.length ≤ m0
  proc : ∀ b x k s t, f.blocks[b]? = some x → lo b ≤ k → (sitesOf x v)[k]? = some s → s.s = true → leftS (st.G b) x.ins.length s = true → x.ins[s.at_]? = some t → t.pure = true → needS (st.G b) x.ins.length ((sitesOf x v).drop (k + 1)) (anyIn inn x) = true
theorem anyIn_out {f : BFunc} (hs : f.sane) {G : GG} {v : Nat} {inn : Nat → Bool} {x : Block} (hx : x ∈ f.blocks) (h : ∀ b, LiveIn (cutF f G) v b → inn b = true) : outB (cutF f G) x v = true → anyIn inn x = true := fun e => by
  obtain ⟨d, h1, h2⟩ := outB_iff.1 e
  exact List.any_eq_true.2 ⟨d, h1, h _ h2⟩
theorem setLo (lo : Nat → Nat) (b k : Nat) : ∃ lo' : Nat → Nat, lo' b = k ∧ ∀ c, c ≠ b → lo' c = lo c := ⟨fun c => if c = b then k else lo c, by simp, fun c hc => by simp [hc]⟩
theorem site_ne {z : Bool} {v : Nat} {l : List Tac} {k k' : Nat} {s s' : Site} (h : (siF z v l 0)[k]? = some s) (h' : (siF z v l 0)[k']? = some s') (hlt : k < k') : s.at_ < s'.at_ := by
  rcases siF_get h with ⟨h1, h2, h3, h4, h5⟩ | ⟨p, t, h1, h2, h3, h4, h5⟩
  · have := (List.getElem?_eq_some_iff.1 h').1; omega
  · have e : ((siF z v l 0).drop (k + 1))[k' - (k + 1)]? = some s' := by
      rw [List.getElem?_drop, show k + 1 + (k' - (k + 1)) = k' by omega]; exact h'
    rw [h5] at e
    have := (siF_at s' (List.mem_of_getElem? e)).1
    omega
theorem RgI.leave {f : BFunc} (hs : f.sane) {R v : Nat} {inn : Nat → Bool} {m0 : Nat} {st : RS} {lo lo' : Nat → Nat} (h : RgI f R v inn m0 st lo) {b k : Nat} {x : Block} {s : Site} {t : Tac} (hx : f.blocks[b]? = some x) (hlo : lo b = k + 1) (hk : (sitesOf x v)[k]? = some s)
    (hss : s.s = true) (hl : leftS (st.G b) x.ins.length s = true) (ht : x.ins[s.at_]? = some t) (hp : t.pure = true) (hb : needS (st.G b) x.ins.length ((sitesOf x v).drop (k + 1)) (anyIn inn x) = false) (hR : ∀ u ∈ t.uses, 0 ≤ u ∧ u < R)
    (h1 : lo' b = k) (h2 : ∀ c, c ≠ b → lo' c = lo c) : RgI f R v inn m0 (leaveR b s.at_ t.uses st) lo' := by
  have hxm := List.mem_of_getElem? hx
  obtain ⟨p, t', hat, ht', hr, hsv, hdr⟩ : ∃ p t', s.at_ = 0 + p ∧ x.ins[p]? = some t' ∧ s.r = t'.uses.contains (v : Int) ∧ s.s = (t'.sets == (v : Int)) ∧ (sitesOf x v).drop (k + 1) = siF (endz x v) v (x.ins.drop (p + 1)) (0 + p + 1) := by
    rcases siF_get hk with ⟨_, _, e, _, _⟩ | e
    · rw [e] at hss; cases hss
    · exact e
  rw [Nat.zero_add] at hat hdr
  subst hat
  rw [ht] at ht'; cases ht'
  have hplt := (List.getElem?_eq_some_iff.1 ht).1
  have hGp : st.G b s.at_ = false := by
    unfold leftS at hl
    have : (s.at_ == x.ins.length) = false := by rw [beq_eq_false_iff_ne]; omega
    rw [this, Bool.false_or] at hl
    simpa using hl
  have hsets : t.sets = (v : Int) := by rw [hss] at hsv; simpa using hsv.symm
  have hnd : need v (kpI (st.G b) (x.ins.drop (s.at_ + 1)) (s.at_ + 1)) (endB (cutF f st.G) x v) = false := by
    have e := needS_need (G := st.G b) (n := x.ins.length) (v := v) (e := endz x v) (z := anyIn inn x) (l := x.ins.drop (s.at_ + 1)) (j := s.at_ + 1) (by rw [List.length_drop]; omega)
    rw [← hdr, hb] at e
    refine false_of (need_mono fun e2 => ?_) e.symm
    unfold endB at e2
    rcases Bool.or_eq_true_iff.1 e2 with e2 | e2
    · rw [e2]; rfl
    · rw [anyIn_out hs hxm h.le e2, Bool.or_true]
  have hcut := cutF_cut hx ht hGp hp hsets hnd
  have hG : (leaveR b s.at_ t.uses st).G = putG st.G b s.at_ := leave_G _ _ _ _
  have hw : ∀ u, (leaveR b s.at_ t.uses st).w u = (st.w u || t.uses.any fun a => a.toNat == u) := fun u => pushes_w _ _ _
  have hnou : ∀ u, (leaveR b s.at_ t.uses st).w u = false → st.w u = false ∧ t.uses.contains (u : Int) = false := fun u hu => by
    rw [hw, Bool.or_eq_false_iff] at hu
    refine ⟨hu.1, ?_⟩
    cases e : t.uses.contains (u : Int) with
    | false => rfl
    | true =>
      have : (t.uses.any fun a => a.toNat == u) = true := List.any_eq_true.2 ⟨(u : Int), List.contains_iff_mem.1 e, by simp⟩
      rw [this] at hu; cases hu.2
  have hq : QI R (leaveR b s.at_ t.uses st) := QI.leave (b := b) (p := s.at_) (st := ⟨putG st.G b s.at_, st.w, st.ws, st.es⟩) ⟨h.q.wt, h.q.st⟩ hR
  have hsz := cut_isz ⟨_, _, _, _, _, _, hcut⟩
  refine ⟨?_, ?_, ?_, ?_, hq, ?_, ?_⟩
  · rw [hG]; exact h.c.trans (.one ⟨_, _, _, _, _, _, hcut⟩)
  · rw [hG]; exact fun c hc => h.le c (live_down hcut hc)
  · rw [hG]
    intro hv c hc hi
    have := hnou v hv
    exact live_up hcut this.2 (h.ex this.1 c hc hi)
  · rw [hG]
    intro u huv hu
    have := hnou u hu
    exact cut_up hcut this.2 (fun e => huv e.symm) (h.oth u huv this.1)
  · rw [hG]
    have hms := h.ms
    have hle := hq.wt.le
    have : isz (cutF f st.G) * (R + 1) = isz (cutF f (putG st.G b s.at_)) * (R + 1) + (R + 1) := by rw [← hsz, Nat.succ_mul]
    omega
  · rw [hG]
    intro c y k' s' t' hy hk' hs' hss' hl' ht' hp'
    by_cases hcb : c = b
    · subst hcb
      rw [hx] at hy; cases hy
      rw [h1] at hk'
      by_cases hkk : k' = k
      · subst hkk
        rw [hk] at hs'; cases hs'
        have : leftS (putG st.G c s.at_ c) x.ins.length s = false := by
          unfold leftS
          rw [putG_same]
          have : (s.at_ == x.ins.length) = false := by rw [beq_eq_false_iff_ne]; omega
          rw [this]; rfl
        rw [this] at hl'; cases hl'
      · have hlt : k < k' := by omega
        have hne := site_ne hk hs' hlt
        have e1 : leftS (putG st.G c s.at_ c) x.ins.length s' = leftS (st.G c) x.ins.length s' := by
          unfold leftS; rw [putG_ne (by omega)]
        rw [e1] at hl'
        have := h.proc c x k' s' t' hx (by omega) hs' hss' hl' ht' hp'
        rw [← this]
        refine needS_congr fun q hq => ?_
        obtain ⟨i, hi⟩ := List.mem_iff_getElem?.1 hq
        rw [List.getElem?_drop] at hi
        have hne2 := site_ne hk hi (by omega)
        unfold leftS; rw [putG_ne (by omega)]
    · rw [h2 c hcb] at hk'
      have hGc : putG st.G b s.at_ c = st.G c := funext fun q => putG_ne (fun e => hcb e.1)
      rw [hGc] at hl' ⊢
      exact h.proc c y k' s' t' hy hk' hs' hss' hl' ht' hp'
theorem RgI.keep {f : BFunc} {R v : Nat} {inn : Nat → Bool} {m0 : Nat} {st : RS} {lo lo' : Nat → Nat} (h : RgI f R v inn m0 st lo) {b k : Nat} {x : Block} {s : Site} (hx : f.blocks[b]? = some x) (hlo : lo b = k + 1) (hk : (sitesOf x v)[k]? = some s)
    (hb : s.s = true → leftS (st.G b) x.ins.length s = true → ∀ t, x.ins[s.at_]? = some t → t.pure = true → needS (st.G b) x.ins.length ((sitesOf x v).drop (k + 1)) (anyIn inn x) = true)
    (h1 : lo' b = k) (h2 : ∀ c, c ≠ b → lo' c = lo c) : RgI f R v inn m0 st lo' :=
  ⟨h.c, h.le, h.ex, h.oth, h.q, h.ms, fun c y k' s' t' hy hk' hs' hss' hl' ht' hp' => by
    by_cases hcb : c = b
    · subst hcb
      rw [hx] at hy; cases hy
      rw [h1] at hk'
      by_cases hkk : k' = k
      · subst hkk
        rw [hk] at hs'; cases hs'
        exact hb hss' hl' t' ht' hp'
      · exact h.proc c x k' s' t' hx (by omega) hs' hss' hl' ht' hp'
    · rw [h2 c hcb] at hk'
      exact h.proc c y k' s' t' hy hk' hs' hss' hl' ht' hp'⟩
def sitesR (inn : Nat → Bool) (v : Nat) (x : Block) (b : Nat) (st : RS) (m : Nat) : RS × Bool := ((sitesOf x v).reverse.take m).foldl (siteR x b) (st, anyIn inn x)
theorem sitesR_succ {inn : Nat → Bool} {v : Nat} {x : Block} {b : Nat} {st : RS} {m k : Nat} {s : Site} (hk : (sitesOf x v)[k]? = some s) (hm : m + k + 1 = (sitesOf x v).length) : sitesR inn v x b st (m + 1) = siteR x b (sitesR inn v x b st m) s := by
  unfold sitesR
  have e : (sitesOf x v).reverse[m]? = some s := by
    rw [List.getElem?_reverse (by omega), show (sitesOf x v).length - 1 - m = k by omega]; exact hk
  rw [List.take_add_one, e, List.foldl_append]
  rfl
theorem sitesR_all {inn : Nat → Bool} {v : Nat} {x : Block} {b : Nat} {st : RS} {m : Nat} (h : (sitesOf x v).length ≤ m) : (sitesR inn v x b st m).1 = blockR inn v x b st := by
  unfold sitesR blockR
  rw [List.take_of_length_le (by simpa using h)]
theorem RgI.sites {f : BFunc} (hs : f.sane) {R v : Nat} (hRf : f.regs = (R : Int)) {inn : Nat → Bool} {m0 : Nat} {st : RS} {lo : Nat → Nat} {b : Nat} {x : Block} (hx : f.blocks[b]? = some x) (h : RgI f R v inn m0 st lo) (hlo : lo b = (sitesOf x v).length) :
    ∀ m, m ≤ (sitesOf x v).length → ∃ lo', RgI f R v inn m0 (sitesR inn v x b st m).1 lo' ∧ lo' b = (sitesOf x v).length - m ∧ (∀ c, c ≠ b → lo' c = lo c) ∧ (sitesR inn v x b st m).2 = needS ((sitesR inn v x b st m).1.G b) x.ins.length ((sitesOf x v).drop ((sitesOf x v).length - m)) (anyIn inn x)
  | 0, _ => ⟨lo, h, by simpa using hlo, fun _ _ => rfl, by
      show anyIn inn x = needS _ _ ((sitesOf x v).drop _) _
      rw [Nat.sub_zero, List.drop_length]; rfl⟩
  | m + 1, hm => by
    obtain ⟨lo1, h1, h2, h3, h4⟩ := RgI.sites hs hRf hx h hlo m (by omega)
    obtain ⟨k, hk⟩ : ∃ k, m + k + 1 = (sitesOf x v).length := ⟨(sitesOf x v).length - m - 1, by omega⟩
    obtain ⟨s, hsk⟩ := get_of_lt (l := sitesOf x v) (k := k) (by omega)
    rw [show (sitesOf x v).length - (m + 1) = k by omega]
    rw [show (sitesOf x v).length - m = k + 1 by omega] at h2 h4
    obtain ⟨lo2, l1, l2⟩ := setLo lo1 b k
    have hdk : (sitesOf x v).drop k = s :: (sitesOf x v).drop (k + 1) := by
      rw [List.drop_eq_getElem_cons (List.getElem?_eq_some_iff.1 hsk).1, (List.getElem?_eq_some_iff.1 hsk).2]
    rw [sitesR_succ hsk hk]
    generalize sitesR inn v x b st m = S at h1 h4 ⊢
    unfold siteR
    cases hl : leftS (S.1.G b) x.ins.length s with
    | false =>
      rw [cond_false]
      refine ⟨lo2, h1.keep hx h2 hsk (fun _ e => by rw [hl] at e; cases e) l1 l2, l1, fun c hc => (l2 c hc).trans (h3 c hc), ?_⟩
      rw [hdk, needS, hl, cond_false]; exact h4
    | true =>
      rw [cond_true]
      have keep : ∀ (hb : s.s = true → ∀ t, x.ins[s.at_]? = some t → t.pure = true → S.2 = true), ∃ lo', RgI f R v inn m0 ((S.1, s.r || (!s.s && S.2)) : RS × Bool).1 lo' ∧ lo' b = k ∧ (∀ c, c ≠ b → lo' c = lo c) ∧ ((S.1, s.r || (!s.s && S.2)) : RS × Bool).2 = needS (((S.1, s.r || (!s.s && S.2)) : RS × Bool).1.G b) x.ins.length ((sitesOf x v).drop k) (anyIn inn x) := fun hb => by
        refine ⟨lo2, h1.keep hx h2 hsk (fun e1 _ t e2 e3 => by rw [← h4]; exact hb e1 t e2 e3) l1 l2, l1, fun c hc => (l2 c hc).trans (h3 c hc), ?_⟩
        rw [hdk, needS, hl, cond_true]
        show (s.r || (!s.s && S.2)) = _
        rw [h4]
      cases ht : x.ins[s.at_]? with
      | none => exact keep (fun _ t e => by rw [ht] at e; cases e)
      | some t =>
        cases hc : s.s && (!S.2 && t.pure) with
        | false =>
          rw [show (match some t with | some t => bif s.s && (!S.2 && t.pure) then (leaveR b s.at_ t.uses S.1, S.2) else (S.1, s.r || (!s.s && S.2)) | none => (S.1, s.r || (!s.s && S.2))) = (S.1, s.r || (!s.s && S.2)) by simp only [hc, cond_false]]
          refine keep (fun e1 t' e2 e3 => ?_)
          rw [ht] at e2; cases e2
          rw [e1, e3] at hc
          simpa using hc
        | true =>
          rw [show (match some t with | some t => bif s.s && (!S.2 && t.pure) then (leaveR b s.at_ t.uses S.1, S.2) else (S.1, s.r || (!s.s && S.2)) | none => (S.1, s.r || (!s.s && S.2))) = (leaveR b s.at_ t.uses S.1, S.2) by simp only [hc, cond_true]]
          simp only [Bool.and_eq_true, Bool.not_eq_true'] at hc
          have hxm := List.mem_of_getElem? hx
          have hlow := hs.low x hxm t (List.mem_of_getElem? ht)
          have hplt := (List.getElem?_eq_some_iff.1 ht).1
          refine ⟨lo2, h1.leave hs hx h2 hsk hc.1 hl ht hc.2.2 (by rw [← h4]; exact hc.2.1) (fun u hu => by have := hlow.2 u hu; rw [hRf] at this; exact this) l1 l2, l1, fun c hcc => (l2 c hcc).trans (h3 c hcc), ?_⟩
          rw [hdk, needS]
          have hg : leftS ((leaveR b s.at_ t.uses S.1).G b) x.ins.length s = false := by
            unfold leftS
            rw [leave_G, putG_same]
            have : (s.at_ == x.ins.length) = false := by rw [beq_eq_false_iff_ne]; omega
            rw [this]; rfl
          show S.2 = bif leftS ((leaveR b s.at_ t.uses S.1).G b) x.ins.length s then _ else needS ((leaveR b s.at_ t.uses S.1).G b) _ _ _
          rw [hg, cond_false, h4]
          refine needS_congr fun q hq => ?_
          obtain ⟨i, hi⟩ := List.mem_iff_getElem?.1 hq
          rw [List.getElem?_drop] at hi
          have hne2 := site_ne hsk hi (by omega)
          unfold leftS; rw [leave_G, putG_ne (by omega)]
end Go.Proofs.Ytjmjmedjjbginaa.Sv

namespace Go.Proofs.Ytjmjmedjjbginaa.Sv
open Go

def siB (f : BFunc) (v i : Nat) : List Site := ((f.blocks[i]?).map fun x => sitesOf x v).getD []
theorem siB_eq {f : BFunc} {v i : Nat} {x : Block} (h : f.blocks[i]? = some x) : siB f v i = sitesOf x v := by unfold siB; rw [h]; rfl
def gsB (f : BFunc) (v : Nat) : List Nat := (List.range f.blocks.length).filter fun i => !(siB f v i).isEmpty
def blockB (f : BFunc) (inn : Nat → Bool) (v : Nat) (st : RS) (b : Nat) : RS := ((f.blocks[b]?).map fun x => blockR inn v x b st).getD st
theorem blockB_eq {f : BFunc} {inn : Nat → Bool} {v : Nat} {st : RS} {b : Nat} {x : Block} (h : f.blocks[b]? = some x) : blockB f inn v st b = blockR inn v x b st := by unfold blockB; rw [h]; rfl
def regK (f : BFunc) (inn : Nat → Bool) (v : Nat) (st : RS) (k : Nat) : RS := ((gsB f v).take k).foldl (blockB f inn v) st
noncomputable def regR (f : BFunc) (v : Nat) (st : RS) : RS := regK f (inB (cutF f st.G) v) v st (gsB f v).length
theorem regK_succ {f : BFunc} {inn : Nat → Bool} {v : Nat} {st : RS} {k b : Nat} (h : (gsB f v)[k]? = some b) : regK f inn v st (k + 1) = blockB f inn v (regK f inn v st k) b := by
  unfold regK
  rw [List.take_add_one, h, List.foldl_append]; rfl
theorem gsB_lt {f : BFunc} {v b : Nat} (h : b ∈ gsB f v) : b < f.blocks.length := List.mem_range.1 (List.mem_filter.1 h).1
theorem gsB_nodup (f : BFunc) (v : Nat) : (gsB f v).Nodup := List.Pairwise.filter _ List.nodup_range
theorem kpI_pos {G : Nat → Bool} {t : Tac} {l2 : List Tac} : ∀ {l l1 : List Tac} {j : Nat}, kpI G l j = l1 ++ t :: l2 → ∃ p, l[p]? = some t ∧ G (j + p) = false ∧ l2 = kpI G (l.drop (p + 1)) (j + p + 1)
  | [], l1, j, h => by simp [kpI] at h
  | u :: l, l1, j, h => by
    rw [kpI] at h
    cases hG : G j with
    | true =>
      rw [hG, cond_true] at h
      obtain ⟨p, h1, h2, h3⟩ := kpI_pos h
      exact ⟨p + 1, h1, by rw [show j + (p + 1) = j + 1 + p by omega]; exact h2, by rw [List.drop_succ_cons, show j + (p + 1) + 1 = j + 1 + p + 1 by omega]; exact h3⟩
    | false =>
      rw [hG, cond_false] at h
      cases l1 with
      | nil =>
        simp only [List.nil_append, List.cons.injEq] at h
        obtain ⟨rfl, rfl⟩ := h
        exact ⟨0, rfl, hG, rfl⟩
      | cons a l1 =>
        simp only [List.cons_append, List.cons.injEq] at h
        obtain ⟨p, h1, h2, h3⟩ := kpI_pos h.2
        exact ⟨p + 1, h1, by rw [show j + (p + 1) = j + 1 + p by omega]; exact h2, by rw [List.drop_succ_cons, show j + (p + 1) + 1 = j + 1 + p + 1 by omega]; exact h3⟩
theorem RgI.done {f : BFunc} (hs : f.sane) {R v : Nat} {inn : Nat → Bool} {m0 : Nat} {st : RS} {lo : Nat → Nat} (h : RgI f R v inn m0 st lo) (hlo : ∀ b x, f.blocks[b]? = some x → lo b = 0 ∨ sitesOf x v = []) (hv : st.w v = false) : NoDead (cutF f st.G) v := by
  intro g c y l1 t l2 hc
  obtain ⟨x, hx, rfl⟩ := cutF_of hc.hx
  have hxm := List.mem_of_getElem? hx
  have hi : kpI (st.G c) x.ins 0 = l1 ++ t :: l2 := hc.hi
  obtain ⟨p, hp, hG, hl2⟩ := kpI_pos hi
  rw [Nat.zero_add] at hG hl2
  obtain ⟨k, s, hk, hat, hss, hdr⟩ := siF_of (z := endz x v) (j := 0) hp hc.hv
  rw [Nat.zero_add] at hat hdr
  have hplt := (List.getElem?_eq_some_iff.1 hp).1
  have hlk : lo c ≤ k := by
    rcases hlo c x hx with e | e
    · omega
    · have : (sitesOf x v)[k]? = some s := hk
      rw [e] at this; simp at this
  have hleft : leftS (st.G c) x.ins.length s = true := by
    unfold leftS; rw [hat, hG]; simp
  have hpr := h.proc c x k s t hx hlk hk hss hleft (by rw [hat]; exact hp) hc.pure
  have hpr' : needS (st.G c) x.ins.length (siF (endz x v) v (x.ins.drop (p + 1)) (p + 1)) (anyIn inn x) = true := by rw [← hdr]; exact hpr
  rw [needS_need (by rw [List.length_drop]; omega), ← hl2] at hpr'
  have hd := hc.dead
  have : need v l2 (endB (cutF f st.G) (x.mid (kpI (st.G c) x.ins 0)) v) = true := by
    refine need_mono (fun e => ?_) hpr'
    show (endz x v || outB (cutF f st.G) (x.mid (kpI (st.G c) x.ins 0)) v) = true
    rcases Bool.or_eq_true_iff.1 e with e | e
    · rw [e]; rfl
    · obtain ⟨d, h1, h2⟩ := List.any_eq_true.1 e
      have hd := hs.next x hxm d h1
      have := h.ex hv d.toNat (by omega) h2
      have ho : outB (cutF f st.G) (x.mid (kpI (st.G c) x.ins 0)) v = true := outB_iff.2 ⟨d, h1, this⟩
      rw [ho, Bool.or_true]
  rw [this] at hd; cases hd
theorem noDead_big {f : BFunc} (hs : f.sane) {R : Nat} (hRf : f.regs = (R : Int)) {G : GG} {u : Nat} (hu : R ≤ u) : NoDead (cutF f G) u := by
  intro g c y l1 t l2 hc
  obtain ⟨x, hx, rfl⟩ := cutF_of hc.hx
  obtain ⟨p, hp, _, _⟩ := kpI_pos (show kpI (G c) x.ins 0 = l1 ++ t :: l2 from hc.hi)
  have hin := hs.low x (List.mem_of_getElem? hx) t (List.mem_of_getElem? hp)
  have hsp : decide (t.sets ≥ 0) = true := by rw [hc.hv]; simp
  have h1 := hin.1 (sets_pos hsp)
  rw [← sets_eq (sets_pos hsp), hc.hv, hRf] at h1
  omega
structure SI (f : BFunc) (R : Nat) (st : RS) : Prop where
  c : Cuts f (cutF f st.G)
  nd : ∀ u, st.w u = false → NoDead (cutF f st.G) u
  q : QI R st
def smu (f : BFunc) (R : Nat) (st : RS) : Nat := isz (cutF f st.G) * (R + 1) + st.ws.length
def rs0 (R : Nat) : RS := ⟨fun _ _ => false, fun b => decide (b < R), List.range R, (List.range R).map natC⟩
theorem SI.first {f : BFunc} (hs : f.sane) {R : Nat} (hRf : f.regs = (R : Int)) : SI f R (rs0 R) := by
  refine ⟨?_, fun u hu => noDead_big hs hRf ?_, ⟨waitI_range _ (Nat.le_refl _), stackI_range _⟩⟩
  · show Cuts f (cutF f (fun _ _ => false)); rw [cutF_none]; exact .refl f
  · have : ¬ u < R := by simpa [rs0] using hu
    omega
def popR (st : RS) (v : Nat) (ws : List Nat) : RS := ⟨st.G, updB st.w v false, ws, st.es⟩
theorem SI.pop {f : BFunc} {R v : Nat} {ws : List Nat} {st : RS} (h : SI f R st) (hw : st.ws = ws ++ [v]) : v < R ∧ RgI f R v (inB (cutF f st.G) v) (smu f R (popR st v ws)) (popR st v ws) (fun b => (siB f v b).length) := by
  have hwt := h.q.wt
  have hst := h.q.st
  rw [hw] at hwt hst
  have hp := hwt.pop
  refine ⟨hp.2.1, h.c, fun b hb => inB_iff.2 hb, fun _ b _ hb => inB_iff.1 hb, fun u huv hu => h.nd u ?_, ⟨hp.1, hst.pop⟩, Nat.le_refl _, ?_⟩
  · show st.w u = false
    have hu' : updB st.w v false u = false := hu
    rw [updB_ne _ huv] at hu'; exact hu'
  · intro b x k s t hx hlk hk
    rw [siB_eq hx] at hlk
    have := (List.getElem?_eq_some_iff.1 hk).1
    omega
theorem RgI.blocks {f : BFunc} (hs : f.sane) {R v : Nat} (hRf : f.regs = (R : Int)) {inn : Nat → Bool} {m0 : Nat} {st : RS} (h : RgI f R v inn m0 st (fun b => (siB f v b).length)) :
    ∀ k, k ≤ (gsB f v).length → ∃ lo, RgI f R v inn m0 (regK f inn v st k) lo ∧ (∀ b, b ∈ (gsB f v).take k → lo b = 0) ∧ (∀ b, b ∉ (gsB f v).take k → lo b = (siB f v b).length)
  | 0, _ => ⟨_, h, fun b hb => by simp at hb, fun _ _ => rfl⟩
  | k + 1, hk => by
    obtain ⟨lo, h1, h2, h3⟩ := RgI.blocks hs hRf h k (by omega)
    obtain ⟨b, hb⟩ := get_of_lt (l := gsB f v) (k := k) (by omega)
    have hbl := gsB_lt (List.mem_of_getElem? hb)
    obtain ⟨x, hx⟩ := get_of_lt hbl
    have hnb : b ∉ (gsB f v).take k := fun e => by
      obtain ⟨i, hi⟩ := List.mem_iff_getElem?.1 e
      have hik : i < k := by
        rcases Nat.lt_or_ge i k with h | h
        · exact h
        · rw [List.getElem?_eq_none (by rw [List.length_take]; omega)] at hi; cases hi
      rw [List.getElem?_take_of_lt hik] at hi
      have := (List.getElem?_inj (by omega : i < (gsB f v).length) (gsB_nodup f v)).1 (hi.trans hb.symm)
      omega
    have hlo := h3 b hnb
    rw [siB_eq hx] at hlo
    obtain ⟨lo', l1, l2, l3, _⟩ := h1.sites hs hRf hx hlo (sitesOf x v).length (Nat.le_refl _)
    rw [sitesR_all (Nat.le_refl _), ← blockB_eq hx, ← regK_succ hb] at l1
    have e : (gsB f v).take (k + 1) = (gsB f v).take k ++ [b] := by rw [List.take_add_one, hb]; rfl
    refine ⟨lo', l1, fun c hc => ?_, fun c hc => ?_⟩
    · by_cases hcb : c = b
      · subst hcb; omega
      · rw [l3 c hcb]
        rw [e] at hc
        rcases List.mem_append.1 hc with hc | hc
        · exact h2 c hc
        · exact absurd (List.mem_singleton.1 hc) hcb
    · rw [e] at hc
      have hcb : c ≠ b := fun e => hc (List.mem_append.2 (.inr (List.mem_singleton.2 e)))
      rw [l3 c hcb]
      exact h3 c fun e => hc (List.mem_append.2 (.inl e))
theorem SI.reg {f : BFunc} (hs : f.sane) {R v : Nat} (hRf : f.regs = (R : Int)) {ws : List Nat} {st : RS} (h : SI f R st) (hw : st.ws = ws ++ [v]) : SI f R (regR f v (popR st v ws)) ∧ smu f R (regR f v (popR st v ws)) < smu f R st := by
  obtain ⟨hv, hg⟩ := h.pop hw
  obtain ⟨lo, h1, h2, h3⟩ := hg.blocks hs hRf (gsB f v).length (Nat.le_refl _)
  rw [List.take_length] at h2 h3
  have h1' : RgI f R v (inB (cutF f st.G) v) (smu f R (popR st v ws)) (regR f v (popR st v ws)) lo := h1
  refine ⟨⟨h1'.c, fun u hu => ?_, h1'.q⟩, ?_⟩
  · by_cases huv : u = v
    · subst huv
      refine h1'.done hs (fun b x hx => ?_) hu
      by_cases hm : b ∈ gsB f u
      · exact .inl (h2 b hm)
      · right
        have hbl := (List.getElem?_eq_some_iff.1 hx).1
        have : (siB f u b).isEmpty = true := by
          cases e : (siB f u b).isEmpty with
          | true => rfl
          | false => exact absurd (List.mem_filter.2 ⟨List.mem_range.2 hbl, by rw [e]; rfl⟩) hm
        rw [siB_eq hx] at this
        exact List.isEmpty_iff.1 this
    · exact h1'.oth u huv hu
  · refine Nat.lt_of_le_of_lt h1'.ms ?_
    unfold smu popR
    rw [hw, List.length_append]
    simp
theorem SI.done {f : BFunc} (hs : f.sane) {R : Nat} (hRf : f.regs = (R : Int)) {st : RS} (h : SI f R st) (hw : st.ws = []) : cutF f st.G = dnf f := by
  refine dnf_eq h.c fun g hg => ?_
  obtain ⟨c, x, l1, t, l2, v, hc⟩ := hg
  by_cases hv : v < R
  · refine h.nd v ?_ g c x l1 t l2 hc
    cases e : st.w v with
    | false => rfl
    | true => exact absurd ((h.q.wt.mem v).2 ⟨hv, e⟩) (by rw [hw]; simp)
  · exact noDead_big hs hRf (by omega) g c x l1 t l2 hc
end Go.Proofs.Ytjmjmedjjbginaa.Sv

namespace Go.Proofs.Ytjmjmedjjbginaa.Sv
open Go

def F4 (r0 r1 r2 r3 : Nat → AObj) : Nat → AObj := fun x => if x % 4 = 0 then r0 (x / 4) else if x % 4 = 1 then r1 (x / 4) else if x % 4 = 2 then r2 (x / 4) else r3 (x / 4)
theorem F4_0 (r0 r1 r2 r3 : Nat → AObj) (b : Nat) : F4 r0 r1 r2 r3 (4 * b + 0) = r0 b := by
  unfold F4; rw [if_pos (by omega)]; congr 1; omega
theorem F4_1 (r0 r1 r2 r3 : Nat → AObj) (b : Nat) : F4 r0 r1 r2 r3 (4 * b + 1) = r1 b := by
  unfold F4; rw [if_neg (by omega), if_pos (by omega)]; congr 1; omega
theorem F4_2 (r0 r1 r2 r3 : Nat → AObj) (b : Nat) : F4 r0 r1 r2 r3 (4 * b + 2) = r2 b := by
  unfold F4; rw [if_neg (by omega), if_neg (by omega), if_pos (by omega)]; congr 1; omega
theorem F4_3 (r0 r1 r2 r3 : Nat → AObj) (b : Nat) : F4 r0 r1 r2 r3 (4 * b + 3) = r3 b := by
  unfold F4; rw [if_neg (by omega), if_neg (by omega), if_neg (by omega)]; congr 1; omega
theorem F4_u0 (r0 r1 r2 r3 : Nat → AObj) (b : Nat) (o : AObj) (x : Nat) : F4 (upd r0 b o) r1 r2 r3 x = if x = 4 * b + 0 then o else F4 r0 r1 r2 r3 x := by
  unfold F4 upd
  by_cases h : x = 4 * b + 0
  · rw [if_pos h, if_pos (by omega), if_pos (by omega)]
  · rw [if_neg h]
    by_cases h2 : x % 4 = 0
    · rw [if_pos h2, if_pos h2, if_neg (by omega)]
    · rw [if_neg h2, if_neg h2]
theorem F4_u1 (r0 r1 r2 r3 : Nat → AObj) (b : Nat) (o : AObj) (x : Nat) : F4 r0 (upd r1 b o) r2 r3 x = if x = 4 * b + 1 then o else F4 r0 r1 r2 r3 x := by
  unfold F4 upd
  by_cases h : x = 4 * b + 1
  · rw [if_pos h, if_neg (by omega), if_pos (by omega), if_pos (by omega)]
  · rw [if_neg h]
    by_cases h2 : x % 4 = 0
    · rw [if_pos h2, if_pos h2]
    · rw [if_neg h2, if_neg h2]
      by_cases h3 : x % 4 = 1
      · rw [if_pos h3, if_pos h3, if_neg (by omega)]
      · rw [if_neg h3, if_neg h3]
theorem F4_u2 (r0 r1 r2 r3 : Nat → AObj) (b : Nat) (o : AObj) (x : Nat) : F4 r0 r1 (upd r2 b o) r3 x = if x = 4 * b + 2 then o else F4 r0 r1 r2 r3 x := by
  unfold F4 upd
  by_cases h : x = 4 * b + 2
  · rw [if_pos h, if_neg (by omega), if_neg (by omega), if_pos (by omega), if_pos (by omega)]
  · rw [if_neg h]
    by_cases h2 : x % 4 = 0
    · rw [if_pos h2, if_pos h2]
    · rw [if_neg h2, if_neg h2]
      by_cases h3 : x % 4 = 1
      · rw [if_pos h3, if_pos h3]
      · rw [if_neg h3, if_neg h3]
        by_cases h4 : x % 4 = 2
        · rw [if_pos h4, if_pos h4, if_neg (by omega)]
        · rw [if_neg h4, if_neg h4]
theorem F4_u3 (r0 r1 r2 r3 : Nat → AObj) (b : Nat) (o : AObj) (x : Nat) : F4 r0 r1 r2 (upd r3 b o) x = if x = 4 * b + 3 then o else F4 r0 r1 r2 r3 x := by
  unfold F4 upd
  by_cases h : x = 4 * b + 3
  · rw [if_pos h, if_neg (by omega), if_neg (by omega), if_neg (by omega), if_pos (by omega)]
  · rw [if_neg h]
    by_cases h2 : x % 4 = 0
    · rw [if_pos h2, if_pos h2]
    · rw [if_neg h2, if_neg h2]
      by_cases h3 : x % 4 = 1
      · rw [if_pos h3, if_pos h3]
      · rw [if_neg h3, if_neg h3]
        by_cases h4 : x % 4 = 2
        · rw [if_pos h4, if_pos h4]
        · rw [if_neg h4, if_neg h4, if_neg (by omega)]
theorem F4_avoid {k : Nat → Bool} {r0 r1 r2 r3 : Nat → AObj} (h0 : ∀ b, (r0 b).avoid k = true) (h1 : ∀ b, (r1 b).avoid k = true) (h2 : ∀ b, (r2 b).avoid k = true) (h3 : ∀ b, (r3 b).avoid k = true) (x : Nat) : (F4 r0 r1 r2 r3 x).avoid k = true := by
  unfold F4
  split
  · exact h0 _
  · split
    · exact h1 _
    · split
      · exact h2 _
      · exact h3 _
def cls4 (b : Nat) : Nat := if b < 16 then b else 16 + (b - 16) % 4
theorem cls4_0 (i : Nat) : cls4 (4 * i + 0 + 16) = 16 := by unfold cls4; rw [if_neg (by omega)]; omega
theorem cls4_1 (i : Nat) : cls4 (4 * i + 1 + 16) = 17 := by unfold cls4; rw [if_neg (by omega)]; omega
theorem cls4_2 (i : Nat) : cls4 (4 * i + 2 + 16) = 18 := by unfold cls4; rw [if_neg (by omega)]; omega
theorem cls4_3 (i : Nat) : cls4 (4 * i + 3 + 16) = 19 := by unfold cls4; rw [if_neg (by omega)]; omega
def kD : Nat → Bool := fun c => (Nat.ble 2 c && Nat.blt c 8) || Nat.ble 16 c
def putD (h g : AHeap) : AHeap := fun c => bif kD c then g c else h c
theorem kD_hi (x : Nat) : kD (x + 16) = true := by
  unfold kD; rw [show Nat.ble 16 (x + 16) = true by rw [Nat.ble_eq]; omega]; simp
theorem kD_false {c : Nat} (h : kD c = false) : c = 0 ∨ c = 1 ∨ (8 ≤ c ∧ c < 16) := by
  unfold kD at h
  simp only [Bool.or_eq_false_iff, Bool.and_eq_false_iff] at h
  obtain ⟨h1, h2⟩ := h
  have h3 : ¬ 16 ≤ c := fun e => by rw [← Nat.ble_eq] at e; rw [e] at h2; cases h2
  rcases h1 with h1 | h1
  · have : ¬ 2 ≤ c := fun e => by rw [← Nat.ble_eq] at e; rw [e] at h1; cases h1
    omega
  · have : ¬ c < 8 := fun e => by
      have : Nat.blt c 8 = true := by unfold Nat.blt; rw [Nat.ble_eq]; omega
      rw [this] at h1; cases h1
    omega
theorem kD_true {c : Nat} (h : kD c = true) : (2 ≤ c ∧ c < 8) ∨ 16 ≤ c := by
  unfold kD at h
  simp only [Bool.or_eq_true, Bool.and_eq_true, Nat.ble_eq] at h
  rcases h with ⟨h1, h2⟩ | h
  · left
    refine ⟨h1, ?_⟩
    unfold Nat.blt at h2
    rw [Nat.ble_eq] at h2; omega
  · exact .inr h
theorem putD_hi (h g : AHeap) (x : Nat) : putD h g (x + 16) = g (x + 16) := by unfold putD; rw [kD_hi]; rfl
theorem putD_yes {h g : AHeap} {c : Nat} (hc : kD c = true) : putD h g c = g c := by unfold putD; rw [hc]; rfl
theorem putD_no {h g : AHeap} {c : Nat} (hc : kD c = false) : putD h g c = h c := by unfold putD; rw [hc]; rfl
abbrev DH (L : List AObj) (F : Nat → AObj) : AHeap := fam (nb (.free :: .free :: L)) F
theorem DH_low {L : List AObj} (F : Nat → AObj) (hL : L.length = 6) {i : Nat} (hi : i < 6) : DH L F (2 + i) = some (nth L i) := by
  show fam (nb _) F (2 + i) = _
  rw [fam_lo _ _ (by omega)]
  unfold nb
  congr 1
  rw [Nat.add_comm 2 i]; rfl
theorem nth_all {L : List AObj} {p : AObj → Prop} (h : ∀ o ∈ L, p o) (hf : p .free) : ∀ i, p (nth L i) := by
  induction L with
  | nil => intro i; exact hf
  | cons o L ih =>
    intro i
    cases i with
    | zero => exact h o (List.mem_cons.2 (.inl rfl))
    | succ i => exact ih (fun q hq => h q (List.mem_cons.2 (.inr hq))) i
theorem DH_avoid {L : List AObj} {F : Nat → AObj} (hL : L.length = 6) (hA : ∀ o ∈ L, o.avoid kD = true) (hF : ∀ x, (F x).avoid kD = true) {c : Nat} (hc : kD c = true) : ∃ q, DH L F c = some q ∧ q.avoid kD = true := by
  rcases kD_true hc with h | h
  · obtain ⟨i, rfl⟩ : ∃ i, c = 2 + i := ⟨c - 2, by omega⟩
    exact ⟨_, DH_low F hL (by omega), nth_all hA rfl i⟩
  · obtain ⟨x, rfl⟩ : ∃ x, c = x + 16 := ⟨c - 16, by omega⟩
    exact ⟨_, fam_hi _ _ _, hF x⟩
theorem DH_of {h : AHeap} {L : List AObj} {F : Nat → AObj} (hL : L.length = 6) (h1 : LowS h 2 L) (h2 : ∀ x, h (x + 16) = some (F x)) {c : Nat} (hc : kD c = true) : h c = DH L F c := by
  rcases kD_true hc with hh | hh
  · obtain ⟨i, rfl⟩ : ∃ i, c = 2 + i := ⟨c - 2, by omega⟩
    rw [DH_low F hL (by omega)]
    exact h1.get (by omega)
  · obtain ⟨x, rfl⟩ : ∃ x, c = x + 16 := ⟨c - 16, by omega⟩
    rw [h2]
    exact (fam_hi _ _ _).symm
theorem hresK_DH {h : AHeap} {L : List AObj} {F : Nat → AObj} (hL : L.length = 6) (h1 : LowS h 2 L) (h2 : ∀ x, h (x + 16) = some (F x)) : hresK h kD = DH L F := funext fun c => by
  unfold hresK
  cases e : kD c with
  | true => exact DH_of hL h1 h2 e
  | false =>
    rcases kD_false e with rfl | rfl | hc
    · rfl
    · rfl
    · show some AObj.free = fam (nb (.free :: .free :: L)) F c
      rw [fam_lo _ _ (by omega)]
      show some AObj.free = some (nth (.free :: .free :: L) c)
      rw [nth_out (by show L.length + 1 + 1 ≤ c; omega)]
theorem o_callDH {P : Program} {o : Oper} {e : AEnv} {h : AHeap} {g : FuncId} {fn : Func} {args : Array Operand} {tys : Array TypeId} {xs : List AV} {r : AV} (L L' : List AObj) {F : Nat → AObj} (F' : Nat → AObj)
    (ho : o.op = .call { callee := .value (.func g), args := args, argTypes := tys }) (hf : P.funcs[g]? = some fn) (hn : (fn.name == "runtime.NumGoroutine") = false) (hb : fn.body.isSome = true) (hx : lookAll e args.toList = some xs)
    (hxa : xs.all (AV.avoid kD) = true) (hL : L.length = 6) (hL' : L'.length = 6) (hA : ∀ o ∈ L, o.avoid kD = true) (hA' : ∀ o ∈ L', o.avoid kD = true) (h1 : LowS h 2 L) (h2 : ∀ x, h (x + 16) = some (F x)) (hF : ∀ x, (F x).avoid kD = true) (hF' : ∀ x, (F' x).avoid kD = true) (hra : r.avoid kD = true)
    (hcall : ACall P g xs (DH L F) (fun r' h' => r' = r ∧ HSub (putD hNone (DH L' F')) h')) : OCall P o e h (putD h (DH L' F')) r :=
  o_callK (hw := putD hNone (DH L' F')) kD ho hf hn hb hx hxa (fun b hb => by rw [DH_of hL h1 h2 hb]; exact DH_avoid hL hA hF hb) (hresK_DH hL h1 h2) (fun b hb => putD_no hb)
    (fun b hb => by obtain ⟨q, q1, q2⟩ := DH_avoid (L := L') (F := F') hL' hA' hF' hb; exact ⟨q, (putD_yes hb).trans q1, (putD_yes hb).trans q1, q2⟩) hra hcall
theorem dh_sub {h : AHeap} {L : List AObj} {F : Nat → AObj} (hL : L.length = 6) (h1 : LowS h 2 L) (h2 : ∀ x, h (x + 16) = some (F x)) : HSub (putD hNone (DH L F)) h := fun c o ho => by
  cases e : kD c with
  | true => rw [putD_yes e] at ho; rw [DH_of hL h1 h2 e]; exact ho
  | false => rw [putD_no e] at ho; cases ho
def insLen (f : BFunc) (i : Nat) : Nat := ((f.blocks[i]?).map fun x => x.ins.length).getD 0
theorem insLen_eq {f : BFunc} {i : Nat} {x : Block} (h : f.blocks[i]? = some x) : insLen f i = x.ins.length := by unfold insLen; rw [h]; rfl
abbrev SS := Nat → Nat → List Site
def siC (s : Site) : List AV := [.int .i64 (s.at_ : Int), .bool s.r, .bool s.s]
def aR (A : Nat → List Nat) (c : Nat) : AV := slA (4 * c + 0 + 16) ((A c).map natC)
def gR (f : BFunc) (i : Nat) : AV := .ref (4 * i + 1 + 16) (insLen f i) 0 (insLen f i)
def gsS (S : SS) (n v : Nat) : List Nat := (List.range n).filter fun i => !(S i v).isEmpty
def grC (R : Nat) (S : SS) (v i : Nat) : List AV := [.int .i64 (i : Int), .ref (4 * (v + R * i) + 3 + 16) (S i v).length 0 (S i v).length]
def grs (n R : Nat) (S : SS) (v : Nat) : List (List AV) := (gsS S n v).map (grC R S v)
def oR (n R : Nat) (S : SS) (v : Nat) : AV := slA (4 * v + 2 + 16) (grs n R S v)
def rA4 (n : Nat) (A : Nat → List Nat) : Nat → AObj := rowsTo n fun c => slO 1 ((A c).map natC)
def rG4 (f : BFunc) (n : Nat) (G : GG) : Nat → AObj := rowsTo n fun i => .row true 1 (bC (insLen f i) (G i))
def rO4 (n R : Nat) (S : SS) : Nat → AObj := rowsTo R fun v => slP 2 (grs n R S v)
def rS4 (R : Nat) (S : SS) : Nat → AObj := fun m => slO 3 ((S (m / R) (m % R)).map siC)
theorem idx_div {R v i : Nat} (h : v < R) : (v + R * i) / R = i := by
  rw [Nat.add_mul_div_left _ _ (by omega), Nat.div_eq_of_lt h, Nat.zero_add]
theorem idx_mod {R v i : Nat} (h : v < R) : (v + R * i) % R = v := by
  rw [Nat.add_mul_mod_self_left, Nat.mod_eq_of_lt h]
theorem rS4_at {R v i : Nat} {S : SS} (h : v < R) : rS4 R S (v + R * i) = slO 3 ((S i v).map siC) := by
  unfold rS4; rw [idx_div h, idx_mod h]
abbrev SDc (f : BFunc) (R m len : Nat) : List AV := [.int .i64 f.regs, blocksAV f.blocks, pathsAV f.nexts, .ref 3 f.blocks.length 0 f.blocks.length, .ref 4 R 0 R, .ref 5 f.blocks.length 0 f.blocks.length, .ref 6 m 0 len, .ref 7 R 0 R]
abbrev DSL (f : BFunc) (R : Nat) (S : SS) (es : List (List AV)) (len : Nat) (w : Nat → Bool) : List AObj :=
  [.row false 8 [SDc f R es.length len], .row false 1 (colF (aR (aheadL f)) f.blocks.length), .row false 1 (colF (oR f.blocks.length R S) R), .row false 1 (colF (gR f) f.blocks.length), .row true 1 es, .row true 1 (bC R w)]
abbrev DF (f : BFunc) (R : Nat) (S : SS) (G : GG) : Nat → AObj := F4 (rA4 f.blocks.length (aheadL f)) (rG4 f f.blocks.length G) (rO4 f.blocks.length R S) (rS4 R S)
theorem aR_avoid {k : Nat → Bool} (hk : ∀ x, k (x + 16) = true) (A : Nat → List Nat) (c : Nat) : (aR A c).avoid k = true := slA_avoid _ (hk _)
theorem oR_avoid {k : Nat → Bool} (hk : ∀ x, k (x + 16) = true) (n R : Nat) (S : SS) (v : Nat) : (oR n R S v).avoid k = true := slA_avoid _ (hk _)
theorem gR_avoid {k : Nat → Bool} (hk : ∀ x, k (x + 16) = true) (f : BFunc) (i : Nat) : (gR f i).avoid k = true := by
  simp [gR, AV.avoid, AV.flat, hk]
theorem rA4_avoid {k : Nat → Bool} {n : Nat} {A : Nat → List Nat} (b : Nat) : (rA4 n A b).avoid k = true := rowsTo_avoid (fun _ => slO_avoid _ _) b
theorem rG4_avoid {k : Nat → Bool} {f : BFunc} {n : Nat} {G : GG} (b : Nat) : (rG4 f n G b).avoid k = true := rowsTo_avoid (fun _ => rfl) b
theorem grs_avoid {k : Nat → Bool} (hk : ∀ x, k (x + 16) = true) {n R : Nat} {S : SS} {v : Nat} {p : Bool} : (AObj.row p 2 (grs n R S v)).avoid k = true := by
  cases p with
  | true => rfl
  | false =>
    show (grs n R S v).all (fun cs => cs.all (AV.avoid k)) = true
    refine List.all_eq_true.2 fun cs hc => ?_
    obtain ⟨i, _, rfl⟩ := List.mem_map.1 hc
    show (List.all [_, _] (AV.avoid k)) = true
    simp only [List.all_cons, List.all_nil, Bool.and_true, Bool.and_eq_true]
    exact ⟨rfl, by simp [AV.avoid, AV.flat, hk]⟩
theorem rO4_avoid {k : Nat → Bool} (hk : ∀ x, k (x + 16) = true) {n R : Nat} {S : SS} (b : Nat) : (rO4 n R S b).avoid k = true := rowsTo_avoid (fun v => by
  unfold slP
  cases (grs n R S v).isEmpty with
  | true => rfl
  | false => exact grs_avoid hk) b
theorem rS4_avoid {k : Nat → Bool} {R : Nat} {S : SS} (m : Nat) : (rS4 R S m).avoid k = true := slO_avoid _ _
theorem DF_avoid {k : Nat → Bool} (hk : ∀ x, k (x + 16) = true) (f : BFunc) (R : Nat) (S : SS) (G : GG) (x : Nat) : (DF f R S G x).avoid k = true := F4_avoid (fun _ => rA4_avoid _) (fun _ => rG4_avoid _) (fun _ => rO4_avoid hk _) (fun _ => rS4_avoid _) x
theorem DSL_avoid (f : BFunc) (R : Nat) (S : SS) (es : List (List AV)) (len : Nat) (w : Nat → Bool) : ∀ o ∈ DSL f R S es len w, o.avoid kD = true := fun o ho => by
  simp only [DSL, List.mem_cons, List.not_mem_nil, or_false] at ho
  rcases ho with rfl | rfl | rfl | rfl | rfl | rfl
  · rfl
  · exact colF_avoid (fun b _ => aR_avoid kD_hi _ _)
  · exact colF_avoid (fun b _ => oR_avoid kD_hi _ _ _ _)
  · exact colF_avoid (fun b _ => gR_avoid kD_hi _ _)
  · rfl
  · rfl
theorem kf_hi' (k0 : Nat) : ∀ x, kf k0 (x + 16) = true := fun x => kf_hi k0 x
theorem rG4_at {f : BFunc} {n i : Nat} {G : GG} {r0 r2 r3 : Nat → AObj} {x : Block} (hi : i < n) (hx : f.blocks[i]? = some x) : F4 r0 (rG4 f n G) r2 r3 (4 * i + 1) = .row true 1 (bC x.ins.length (G i)) := by
  rw [F4_1]; unfold rG4; rw [rowsTo_at hi, insLen_eq hx]
theorem rG4_put {f : BFunc} {n i p : Nat} {G : GG} {r0 r2 r3 : Nat → AObj} {x : Block} (hi : i < n) (hx : f.blocks[i]? = some x) (y : Nat) :
    F4 r0 (rG4 f n (putG G i p)) r2 r3 y = if y = 4 * i + 1 then .row true 1 ((bC x.ins.length (G i)).set (0 + ((p : Nat) : Int).toNat) [AV.bool true]) else F4 r0 (rG4 f n G) r2 r3 y := by
  have e : rG4 f n (putG G i p) = upd (rG4 f n G) i (.row true 1 ((bC x.ins.length (G i)).set (0 + ((p : Nat) : Int).toNat) [AV.bool true])) := by
    refine (rowsTo_put (k := n) (o := fun c => .row true 1 (bC (insLen f c) (G c))) (o' := fun c => .row true 1 (bC (insLen f c) (putG G i p c))) (b := i) hi fun c hc => ?_).trans ?_
    · congr 2
      refine funext fun q => ?_
      rw [putG_ne (fun e => hc e.1)]
    · unfold rG4
      congr 1
      show AObj.row true 1 (bC (insLen f i) (putG G i p i)) = _
      rw [bC_set', insLen_eq hx]
      congr 2
      refine funext fun q => ?_
      congr 1
      by_cases hq : q = p
      · subst hq; rw [putG_same, updB_same]
      · rw [putG_ne (fun e => hq e.2), updB_ne _ hq]
  rw [e, F4_u1]
theorem grs_len (n R : Nat) (S : SS) (v : Nat) : (grs n R S v).length = (gsS S n v).length := by simp [grs]
theorem gsS_len (S : SS) (n v : Nat) : (gsS S n v).length ≤ n := by
  unfold gsS
  exact Nat.le_trans (List.length_filter_le _ _) (by simp)
theorem pushes_succ {us : List Int} {k : Nat} {u : Int} {st : RS} (h : us[k]? = some u) : (us.take (k + 1)).foldl (fun st u => pushR st u.toNat) st = pushR ((us.take k).foldl (fun st u => pushR st u.toNat) st) u.toNat := by
  rw [List.take_add_one, h, List.foldl_append]; rfl
theorem DF_put {f : BFunc} {R i p : Nat} {S : SS} {G : GG} {x : Block} (hi : i < f.blocks.length) (hx : f.blocks[i]? = some x) (y : Nat) :
    DF f R S (putG G i p) y = if y = 4 * i + 1 then .row true 1 ((bC x.ins.length (G i)).set (0 + ((p : Nat) : Int).toNat) [AV.bool true]) else DF f R S G y := rG4_put hi hx y
theorem DF_site {f : BFunc} {R v i : Nat} {S : SS} {G : GG} (hv : v < R) (h : 0 < (S i v).length) : DF f R S G (4 * (v + R * i) + 3) = .row true 3 ((S i v).map siC) := by
  refine (F4_3 _ _ _ _ _).trans ?_
  rw [rS4_at hv]
  cases e : S i v with
  | nil => rw [e] at h; simp at h
  | cons s l => rfl
theorem DF_grp {f : BFunc} {R v : Nat} {S : SS} {G : GG} (hv : v < R) : DF f R S G (4 * v + 2) = slP 2 (grs f.blocks.length R S v) := (F4_2 _ _ _ _ _).trans (rowsTo_at hv)
theorem DF_ah {f : BFunc} {R b : Nat} {S : SS} {G : GG} (hb : b < f.blocks.length) : DF f R S G (4 * b + 0) = slO 1 ((aheadL f b).map natC) := (F4_0 _ _ _ _ _).trans (rowsTo_at hb)
theorem gsS_get {S : SS} {n v k i : Nat} (h : (gsS S n v)[k]? = some i) : i < n ∧ 0 < (S i v).length := by
  have := List.mem_filter.1 (List.mem_of_getElem? h)
  refine ⟨List.mem_range.1 this.1, ?_⟩
  cases e : S i v with
  | nil => have h2 := this.2; rw [e] at h2; cases h2
  | cons s l => simp
theorem slP_at {sz k : Nat} {es : List (List AV)} (h : k < es.length) : slP sz es = .row false sz es := by
  unfold slP
  cases es with
  | nil => simp at h
  | cons a l => rfl
theorem q_indexP {P : Program} {T : Nat → Option TyI} {o : Oper} {e : AEnv} {h : AHeap} (hT : TOk P T) {t : TypeId} {x y : Operand} {b sz : Nat} {es : List (List AV)} {k : IntKind} {n : Int} {i j : TyI} {u : Nat} (ho : o.op = .indexAddr t x y) (hx : look e x = some (slA b es)) (hy : look e y = some (.int k n))
    (hi : T t = some i) (hk : i.k = .slice u) (hj : T u = some j) (hb : h b = some (slP sz es)) (hsz : sz = j.size) (h0 : 0 ≤ n) (hn : n < es.length) : QLoc P o e h [b] (.ptr b es.length n.toNat 0) := by
  have hlt : n.toNat < es.length := by omega
  rw [slA_at hlt] at hx
  rw [slP_at hlt] at hb
  have := q_index_ref hT ho hx hy hi hk hj hb rfl hsz h0 hn
  rwa [Nat.zero_add] at this
theorem left_yes {n : Nat} {s : Site} {g : Bool} (h : s.at_ = n) : true = (s.at_ == n || g) := by simp [h]
theorem left_no {n : Nat} {s : Site} {g : Bool} (h : ¬ s.at_ = n) : g = (s.at_ == n || g) := by
  have : (s.at_ == n) = false := by rw [beq_eq_false_iff_ne]; exact h
  rw [this, Bool.false_or]
end Go.Proofs.Ytjmjmedjjbginaa.Sv

namespace Go.Proofs.Ytjmjmedjjbginaa.Sv
open Go

abbrev SB (f : BFunc) : SS := fun i v => siB f v i
abbrev iC (n : Nat) (w : Nat → Nat) : List (List AV) := colF (fun b => .int .i64 (w b : Int)) n
def updN (w : Nat → Nat) (b z : Nat) : Nat → Nat := fun c => if c = b then z else w c
theorem iC_set {n b : Nat} {w : Nat → Nat} (z : Nat) : (iC n w).set (0 + ((b : Nat) : Int).toNat) [AV.int .i64 (z : Int)] = iC n (updN w b z) := by
  rw [Nat.zero_add, Int.toNat_natCast]
  show (colF _ n).set b _ = _
  rw [colF_set]
  refine colF_congr fun c _ => ?_
  unfold updN
  split <;> rfl
theorem iC_set2 {n b : Nat} {w : Nat → Nat} : (iC n w).set (0 + ((b : Nat) : Int).toNat) [AV.int .i64 2] = iC n (updN w b 2) := iC_set 2
theorem iC_set1 {n b : Nat} {w : Nat → Nat} : (iC n w).set (0 + ((b : Nat) : Int).toNat) [AV.int .i64 1] = iC n (updN w b 1) := iC_set 1
theorem updN_upd (w : Nat → Nat) (b y z : Nat) : updN (updN w b y) b z = updN w b z := funext fun c => by
  unfold updN; split <;> rfl
theorem bC_bools (n : Nat) (w : Nat → Bool) : bC n w = (mrow n w).map boolCells := by
  unfold mrow
  show (List.range n).map _ = _
  rw [List.map_map]; rfl
def fstK (f : BFunc) (G : GG) (v k : Nat) : Nat → Nat := fun b => if b ∈ (gsB f v).take k then firstG f G v b else 0
def inK (f : BFunc) (G : GG) (v k : Nat) : Nat → Bool := fun b => fstK f G v k b == 1
def todoK (f : BFunc) (G : GG) (v k : Nat) : List Nat := ((gsB f v).take k).filter fun b => firstG f G v b == 1
theorem mem_take_succ {l : List Nat} {k i : Nat} (h : l[k]? = some i) (b : Nat) : b ∈ l.take (k + 1) ↔ b ∈ l.take k ∨ b = i := by
  rw [List.take_add_one, h]
  simp
theorem fstK_succ {f : BFunc} {G : GG} {v k i : Nat} (h : (gsB f v)[k]? = some i) : fstK f G v (k + 1) = updN (fstK f G v k) i (firstG f G v i) := funext fun b => by
  unfold fstK updN
  by_cases hb : b = i
  · subst hb
    rw [if_pos ((mem_take_succ h b).2 (.inr rfl)), if_pos rfl]
  · rw [if_neg hb]
    dsimp only
    by_cases h2 : b ∈ (gsB f v).take k
    · rw [if_pos h2, if_pos ((mem_take_succ h b).2 (.inl h2))]
    · rw [if_neg h2, if_neg (fun e => ((mem_take_succ h b).1 e).elim h2 hb)]
theorem fstK_zero {f : BFunc} {G : GG} {v : Nat} : fstK f G v 0 = fun _ => 0 := funext fun b => by unfold fstK; simp
theorem gs_new {f : BFunc} {v k i : Nat} (h : (gsB f v)[k]? = some i) : i ∉ (gsB f v).take k := fun e => by
  obtain ⟨j, hj⟩ := List.mem_iff_getElem?.1 e
  have hjk : j < k := by
    rcases Nat.lt_or_ge j k with h | h
    · exact h
    · rw [List.getElem?_eq_none (by rw [List.length_take]; omega)] at hj; cases hj
  rw [List.getElem?_take_of_lt hjk] at hj
  have hkl := (List.getElem?_eq_some_iff.1 h).1
  have := (List.getElem?_inj (by omega : j < (gsB f v).length) (gsB_nodup f v)).1 (hj.trans h.symm)
  omega
theorem fstK_new {f : BFunc} {G : GG} {v k i : Nat} (h : (gsB f v)[k]? = some i) : fstK f G v k i = 0 := by
  unfold fstK; rw [if_neg (gs_new h)]
theorem fstK_0 {f : BFunc} {G : GG} {v k i : Nat} (h : (gsB f v)[k]? = some i) (h0 : firstG f G v i = 0) : fstK f G v k = fstK f G v (k + 1) := by
  rw [fstK_succ h, h0]
  refine funext fun b => ?_
  unfold updN
  split
  · subst_vars; exact fstK_new h
  · rfl
theorem inK_succ {f : BFunc} {G : GG} {v k i : Nat} (h : (gsB f v)[k]? = some i) (h1 : firstG f G v i = 1) : updB (inK f G v k) i true = inK f G v (k + 1) := funext fun b => by
  unfold inK updB
  rw [fstK_succ h, h1]
  unfold updN
  split <;> rfl
theorem inK_skip {f : BFunc} {G : GG} {v k i : Nat} (h : (gsB f v)[k]? = some i) (h1 : firstG f G v i ≠ 1) : inK f G v k = inK f G v (k + 1) := funext fun b => by
  unfold inK
  rw [fstK_succ h]
  unfold updN
  split
  · rename_i hb
    rw [hb, fstK_new h]
    have : (firstG f G v i == 1) = false := by rw [beq_eq_false_iff_ne]; exact h1
    rw [this]; rfl
  · rfl
theorem todoK_succ {f : BFunc} {G : GG} {v k i : Nat} (h : (gsB f v)[k]? = some i) (h1 : firstG f G v i = 1) : todoK f G v k ++ [i] = todoK f G v (k + 1) := by
  unfold todoK
  rw [List.take_add_one, h, List.filter_append]
  simp [h1]
theorem todoK_skip {f : BFunc} {G : GG} {v k i : Nat} (h : (gsB f v)[k]? = some i) (h1 : firstG f G v i ≠ 1) : todoK f G v k = todoK f G v (k + 1) := by
  unfold todoK
  rw [List.take_add_one, h, List.filter_append]
  simp [h1]
theorem todoK_len (f : BFunc) (G : GG) (v k : Nat) : (todoK f G v k).length ≤ k := by
  unfold todoK
  refine Nat.le_trans (List.length_filter_le _ _) ?_
  rw [List.length_take]; exact Nat.min_le_left _ _
theorem fstK_all {f : BFunc} {G : GG} {v k : Nat} (h : (gsB f v).length ≤ k) : fstK f G v k = firstG f G v := funext fun b => by
  unfold fstK
  rw [List.take_of_length_le h]
  split
  · rfl
  · rename_i hn
    cases e : f.blocks[b]? with
    | none => unfold firstG; rw [e]; rfl
    | some x =>
      rw [firstG_eq e]
      have hbl := (List.getElem?_eq_some_iff.1 e).1
      have : (siB f v b).isEmpty = true := by
        cases e2 : (siB f v b).isEmpty with
        | true => rfl
        | false => exact absurd (List.mem_filter.2 ⟨List.mem_range.2 hbl, by rw [e2]; rfl⟩) hn
      rw [siB_eq e] at this
      rw [List.isEmpty_iff.1 this]; rfl
theorem cnt_filter (p : Nat → Bool) : ∀ n, ((List.range n).filter p).length + cntF n p = n
  | 0 => rfl
  | n + 1 => by
    have ih := cnt_filter p n
    unfold cntF at ih ⊢
    rw [List.range_succ, List.filter_append, List.length_append, List.map_append, List.sum_append]
    cases e : p n <;> simp [e] <;> omega
theorem BfI.first {f : BFunc} {G : GG} {v k : Nat} (h : (gsB f v).length ≤ k) : BfI f G v (inK f G v k) (todoK f G v k) 0 [] := by
  have hf := fstK_all (G := G) h
  have hin : ∀ b, inK f G v k b = true → b ∈ todoK f G v k := fun b hb => by
    unfold inK at hb
    unfold todoK
    rw [List.take_of_length_le h]
    unfold fstK at hb
    rw [List.take_of_length_le h] at hb
    split at hb
    · rename_i hm
      exact List.mem_filter.2 ⟨hm, hb⟩
    · cases hb
  refine ⟨fun b hb => ?_, fun b hb h1 => ?_, fun c hc hn => absurd (hin c hc) hn, fun c hc => ?_, ?_⟩
  · have hm := hin b hb
    unfold todoK at hm
    obtain ⟨h1, h2⟩ := List.mem_filter.1 hm
    have hbl := gsB_lt (List.mem_of_mem_take h1)
    obtain ⟨x, hx⟩ := get_of_lt hbl
    refine ⟨hbl, .here (cutF_get hx) ?_⟩
    have h3 : firstS (G b) x.ins.length (sitesOf x v) = 1 := by rw [← firstG_eq hx]; simpa using h2
    have := inB_needS (G := G) (v := v) hx false
    rw [firstS_1 h3, Bool.or_false] at this
    exact this
  · unfold inK; rw [hf, h1]; rfl
  · unfold todoK at hc
    obtain ⟨h1, h2⟩ := List.mem_filter.1 hc
    unfold inK; rw [hf]; exact h2
  · have e := cnt_filter (inK f G v k) f.blocks.length
    have hle : (todoK f G v k).length ≤ ((List.range f.blocks.length).filter (inK f G v k)).length := by
      unfold todoK
      rw [List.take_of_length_le h]
      unfold gsB
      rw [List.filter_filter]
      have : ∀ (l : List Nat) (p q : Nat → Bool), (∀ x, p x = true → q x = true) → (l.filter p).length ≤ (l.filter q).length := fun l p q hpq => by
        induction l with
        | nil => simp
        | cons a l ih =>
          rw [List.filter_cons, List.filter_cons]
          cases ep : p a with
          | true => rw [hpq a ep]; simp; exact ih
          | false => cases q a <;> simp <;> omega
      refine this _ _ _ fun x hx => ?_
      unfold inK; rw [hf]
      simp only [Bool.and_eq_true] at hx
      exact hx.1
    omega
theorem StackI.push {n : Nat} {es : List (List AV)} {ws : List Nat} (h : StackI n es ws) {b : Nat} (hlt : ws.length < n) : StackI n (pushE es ws.length (natC b)) (ws ++ [b]) := by
  refine ⟨?_, ?_, pushE_max h.le h.max hlt⟩
  · rw [List.length_append]
    simp only [List.length_cons, List.length_nil]
    rw [pushE_take h.le, h.top, List.map_append]; rfl
  · rw [List.length_append]
    simp only [List.length_cons, List.length_nil]
    exact pushE_len h.le
theorem StackI.none (n : Nat) : StackI n [] [] := ⟨rfl, Nat.le_refl _, Nat.zero_le _⟩
structure MQ where
  inn : Nat → Bool
  todo : List Nat
  es : List (List AV)
structure MP where
  inn : Nat → Bool
  todo : List Nat
  es : List (List AV)
  j : Nat
theorem first_skip {G : Nat → Bool} {n j : Nat} {l : List Site} {s : Site} (hs : l[j]? = some s) (h : leftS G n s = false) : firstS G n (l.drop j) = firstS G n (l.drop (j + 1)) := by
  rw [List.drop_eq_getElem_cons (List.getElem?_eq_some_iff.1 hs).1, (List.getElem?_eq_some_iff.1 hs).2, firstS, h, cond_false]
theorem first_left {G : Nat → Bool} {n j : Nat} {l : List Site} {s : Site} (hs : l[j]? = some s) (h : leftS G n s = true) : firstS G n (l.drop j) = bif s.r then 1 else 2 := by
  rw [List.drop_eq_getElem_cons (List.getElem?_eq_some_iff.1 hs).1, (List.getElem?_eq_some_iff.1 hs).2, firstS, h, cond_true]
theorem row0_r {f : BFunc} {G : GG} {v k i n : Nat} (h : (gsB f v)[k]? = some i) (h1 : firstG f G v i = 1) : ((iC n (fstK f G v k)).set (0 + ((i : Nat) : Int).toNat) [AV.int .i64 2]).set (0 + ((i : Nat) : Int).toNat) [AV.int .i64 1] = iC n (fstK f G v (k + 1)) := by
  rw [iC_set2, iC_set1, updN_upd, fstK_succ h, h1]
theorem row0_s {f : BFunc} {G : GG} {v k i n : Nat} (h : (gsB f v)[k]? = some i) (h1 : firstG f G v i = 2) : (iC n (fstK f G v k)).set (0 + ((i : Nat) : Int).toNat) [AV.int .i64 2] = iC n (fstK f G v (k + 1)) := by
  rw [iC_set2, fstK_succ h, h1]
theorem BfI.room {f : BFunc} {G : GG} {v : Nat} {inn : Nat → Bool} {todo : List Nat} {b : Nat} {rest : List Nat} (h : BfI f G v inn todo b rest) {a : Nat} (ha : a < f.blocks.length) (hi : inn a = false) : todo.length < f.blocks.length := by
  have := h.cnt
  have e := cntF_upd hi ha
  omega
theorem drop_cons' {l : List Nat} {j a : Nat} (h : l[j]? = some a) : l.drop j = a :: l.drop (j + 1) := by
  rw [List.drop_eq_getElem_cons (List.getElem?_eq_some_iff.1 h).1, (List.getElem?_eq_some_iff.1 h).2]
theorem siB_len {f : BFunc} {v i : Nat} {x : Block} (hx : f.blocks[i]? = some x) : (siB f v i).length ≤ x.ins.length + 1 := by
  rw [siB_eq hx]; exact siF_len _ _ _ _
theorem gb_avoid {R v i : Nat} {S : SS} (k0 : Nat) : (AObj.row false 2 [grC R S v i]).avoid (kf k0) = true := by
  show (List.all [_, _] (AV.avoid (kf k0)) && true) = true
  simp only [List.all_cons, List.all_nil, Bool.and_true, Bool.and_eq_true]
  exact ⟨rfl, by simp [AV.avoid, AV.flat, kf_hi]⟩
theorem site_at {f : BFunc} {v i j : Nat} {x : Block} (hx : f.blocks[i]? = some x) {s : Site} (h : (siB f v i)[j]? = some s) : s.at_ ≤ x.ins.length := by
  rw [siB_eq hx] at h
  have := (siF_at s (List.mem_of_getElem? h)).2
  omega
structure MPI (f : BFunc) (G : GG) (v b m0 : Nat) (p : MP) : Prop where
  k : BfI f G v p.inn p.todo b ((aheadL f b).drop p.j)
  b : p.inn b = true
  st : StackI f.blocks.length p.es p.todo
  mu : 2 * cntF f.blocks.length p.inn + p.todo.length ≤ m0
theorem MPI.skip {f : BFunc} {G : GG} {v b m0 : Nat} {p : MP} (h : MPI f G v b m0 p) {a : Nat} (ha : (aheadL f b)[p.j]? = some a) (hs : ¬ (firstG f G v a = 0 ∧ p.inn a = false)) : MPI f G v b m0 ⟨p.inn, p.todo, p.es, p.j + 1⟩ := by
  have hk := h.k
  rw [drop_cons' ha] at hk
  exact ⟨hk.skip hs, h.b, h.st, h.mu⟩
theorem MPI.push {f : BFunc} {G : GG} {v b m0 : Nat} {p : MP} (h : MPI f G v b m0 p) {a : Nat} (ha : (aheadL f b)[p.j]? = some a) (h0 : firstG f G v a = 0) (hi : p.inn a = false) : MPI f G v b m0 ⟨updB p.inn a true, p.todo ++ [a], pushE p.es p.todo.length (natC a), p.j + 1⟩ := by
  have hk := h.k
  have hal := aheadL_lt (List.mem_of_getElem? ha)
  have hr := hk.room hal hi
  rw [drop_cons' ha] at hk
  have hne : b ≠ a := fun e => by have := h.b; rw [e, hi] at this; cases this
  refine ⟨hk.push h.b (List.mem_of_getElem? ha) h0 hi, ?_, h.st.push hr, ?_⟩
  · show updB p.inn a true b = true
    rw [updB_ne _ hne]; exact h.b
  · have := h.mu
    have e := cntF_upd hi hal
    show 2 * cntF f.blocks.length (updB p.inn a true) + (p.todo ++ [a]).length ≤ m0
    rw [List.length_append]
    simp
    omega
end Go.Proofs.Ytjmjmedjjbginaa.Sv

namespace Go.Proofs.Ytjmjmedjjbginaa.Sv
open Go

theorem siteR_skip {x : Block} {b : Nat} {st : RS × Bool} {s : Site} (h : leftS (st.1.G b) x.ins.length s = false) : siteR x b st s = st := by
  unfold siteR; rw [h]; rfl
theorem siteR_leave {x : Block} {b : Nat} {st : RS × Bool} {s : Site} {t : Tac} (h : leftS (st.1.G b) x.ins.length s = true) (ht : x.ins[s.at_]? = some t) (hs : s.s = true) (hb : st.2 = false) (hp : t.pure = true) : siteR x b st s = (leaveR b s.at_ t.uses st.1, st.2) := by
  unfold siteR; rw [h, cond_true, ht]; simp only [hs, hb, hp]; rfl
theorem siteR_keep {x : Block} {b : Nat} {st : RS × Bool} {s : Site} (h : leftS (st.1.G b) x.ins.length s = true) (hk : s.s = true → ∀ t, x.ins[s.at_]? = some t → (!st.2 && t.pure) = false) : siteR x b st s = (st.1, s.r || (!s.s && st.2)) := by
  unfold siteR; rw [h, cond_true]
  cases ht : x.ins[s.at_]? with
  | none => rfl
  | some t =>
    show (bif s.s && (!st.2 && t.pure) then _ else _) = _
    cases e : s.s with
    | false => rfl
    | true => rw [hk e t ht]; rfl
def anyK (inn : Nat → Bool) (x : Block) (j : Nat) : Bool := (x.nexts.take j).any fun d => inn d.toNat
theorem anyK_succ {inn : Nat → Bool} {x : Block} {j : Nat} {d : Int} (h : x.nexts[j]? = some d) : anyK inn x (j + 1) = (anyK inn x j || inn d.toNat) := by
  unfold anyK
  rw [List.take_add_one, h, List.any_append]; simp
theorem anyK_end {inn : Nat → Bool} {x : Block} {j : Nat} (h : x.nexts.length ≤ j) : anyK inn x j = anyIn inn x := by
  unfold anyK anyIn; rw [List.take_of_length_le h]
theorem regK_next {f : BFunc} {inn : Nat → Bool} {v : Nat} {st : RS} {k i m : Nat} {x : Block} (h : (gsB f v)[k]? = some i) (hx : f.blocks[i]? = some x) (hm : (siB f v i).length ≤ m) : (sitesR inn v x i (regK f inn v st k) m).1 = regK f inn v st (k + 1) := by
  rw [siB_eq hx] at hm
  rw [regK_succ h, blockB_eq hx, sitesR_all hm]
theorem site_tac {f : BFunc} {v i j : Nat} {x : Block} (hx : f.blocks[i]? = some x) {s : Site} (h : (siB f v i)[j]? = some s) (hs : s.s = true) : ∃ t, x.ins[s.at_]? = some t := by
  rw [siB_eq hx] at h
  rcases siF_get h with ⟨_, _, e, _, _⟩ | ⟨p, t, h1, h2, _⟩
  · rw [e] at hs; cases hs
  · exact ⟨t, by rw [h1, Nat.zero_add]; exact h2⟩
theorem rem_first {L : Nat} (hL : L ≤ 1000000000) : evalBin .sub (.int .i64 (L : Int)) (.int .i64 1) = some (.int .i64 (((L - 0 : Nat) : Int) - 1)) := by
  simp only [evalBin, evalInt, isShift, cond_false, if_true]
  rw [wrap_i64 (by omega) (by omega)]
  congr 2
theorem rem_k {L m kk : Nat} (h : m + kk + 1 = L) (hL : L ≤ 1000000000) : evalBin .sub (.int .i64 (kk : Int)) (.int .i64 1) = some (.int .i64 (((L - (m + 1) : Nat) : Int) - 1)) := by
  simp only [evalBin, evalInt, isShift, cond_false, if_true]
  rw [wrap_i64 (by omega) (by omega)]
  congr 2
  omega
theorem QI.leaveR {R b p : Nat} {us : List Int} {st : RS} (h : QI R st) (hu : ∀ u ∈ us, 0 ≤ u ∧ u < R) : QI R (leaveR b p us st) := QI.leave (b := b) (p := p) (st := ⟨putG st.G b p, st.w, st.ws, st.es⟩) ⟨h.wt, h.st⟩ hu
theorem regR_zero {f : BFunc} {v : Nat} {st : RS} (h : (gsB f v).length = 0) : regR f v st = st := by
  unfold regR; rw [h]; rfl
end Go.Proofs.Ytjmjmedjjbginaa.Sv

namespace Go.Proofs.Ytjmjmedjjbginaa.Sv
open Go

def setS (S : SS) (i v : Nat) (l : List Site) : SS := fun i' v' => if i' = i ∧ v' = v then l else S i' v'
theorem setS_same (S : SS) (i v : Nat) (l : List Site) : setS S i v l i v = l := by unfold setS; rw [if_pos ⟨rfl, rfl⟩]
theorem setS_ne {S : SS} {i v i' v' : Nat} (l : List Site) (h : ¬ (i' = i ∧ v' = v)) : setS S i v l i' v' = S i' v' := by unfold setS; rw [if_neg h]
theorem setS_self (S : SS) (i v : Nat) : setS S i v (S i v) = S := funext fun a => funext fun b => by
  unfold setS; split
  · rename_i h; rw [h.1, h.2]
  · rfl
def pastS (S : SS) (i v : Nat) : List Nat := (List.range i).filter fun j => !(S j v).isEmpty
theorem gsS_split {S : SS} {n i v : Nat} (hi : i < n) (h : ∀ j, i < j → S j v = []) : gsS S n v = pastS S i v ++ (if (S i v).isEmpty then [] else [i]) := by
  unfold gsS pastS
  have key : ∀ m, (List.range (i + 1 + m)).filter (fun j => !(S j v).isEmpty) = (List.range (i + 1)).filter (fun j => !(S j v).isEmpty) := fun m => by
    induction m with
    | zero => rfl
    | succ m ih =>
      rw [show i + 1 + (m + 1) = (i + 1 + m) + 1 by omega, List.range_succ, List.filter_append, ih, List.filter_cons, h (i + 1 + m) (by omega)]
      simp
  have := key (n - (i + 1))
  rw [show i + 1 + (n - (i + 1)) = n by omega] at this
  rw [this, List.range_succ, List.filter_append, List.filter_cons]
  cases (S i v).isEmpty <;> rfl
theorem pastS_lt {S : SS} {i v j : Nat} (h : j ∈ pastS S i v) : j < i := List.mem_range.1 (List.mem_filter.1 h).1
theorem pastS_set {S : SS} {i v : Nat} (l : List Site) (u : Nat) : pastS (setS S i v l) i u = pastS S i u := by
  unfold pastS
  refine List.filter_congr fun j hj => ?_
  rw [setS_ne l (fun e => by have := List.mem_range.1 hj; omega)]
def grX (R : Nat) (v i : Nat) (l : List Site) : List AV := [.int .i64 (i : Int), slA (4 * (v + R * i) + 3 + 16) (l.map siC)]
def pastC (R : Nat) (S : SS) (v i : Nat) : List (List AV) := (pastS S i v).map (grC R S v)
theorem grX_eq {R v i : Nat} {S : SS} (h : 0 < (S i v).length) : grX R v i (S i v) = grC R S v i := by
  unfold grX grC
  have := slA_at (b := 4 * (v + R * i) + 3 + 16) (es := (S i v).map siC) (k := 0) (by rw [List.length_map]; exact h)
  rw [this, List.length_map]
theorem pastC_set {R : Nat} {S : SS} {v i : Nat} (l : List Site) : pastC R (setS S i v l) v i = pastC R S v i := by
  unfold pastC
  rw [pastS_set]
  refine List.map_congr_left fun j hj => ?_
  unfold grC
  rw [setS_ne l (fun e => by have := pastS_lt hj; omega)]
theorem grs_has {n R : Nat} {S : SS} {v i : Nat} (hi : i < n) (h : ∀ j, i < j → S j v = []) (hl : 0 < (S i v).length) : grs n R S v = pastC R S v i ++ [grX R v i (S i v)] := by
  unfold grs pastC
  have e : (S i v).isEmpty = false := by
    cases e : S i v with
    | nil => rw [e] at hl; simp at hl
    | cons a l => rfl
  rw [gsS_split hi h, e, List.map_append, grX_eq hl]; rfl
theorem grs_not {n R : Nat} {S : SS} {v i : Nat} (hi : i < n) (h : ∀ j, i < j → S j v = []) (hl : S i v = []) : grs n R S v = pastC R S v i := by
  unfold grs pastC
  rw [gsS_split hi h, hl]; simp
def oX (n R : Nat) (S : SS) (v i : Nat) : Nat → AV := fun u => if u = v then .ref (4 * v + 2 + 16) ((pastS S i v).length + 1) 0 ((pastS S i v).length + 1) else oR n R S u
def rOX (n R : Nat) (S : SS) (v i : Nat) (l : List Site) : Nat → AObj := upd (rO4 n R S) v (.row false 2 (pastC R S v i ++ [grX R v i l]))
def rSX (R : Nat) (S : SS) (v i : Nat) (l : List Site) : Nat → AObj := upd (rS4 R S) (v + R * i) (slO 3 (l.map siC))
theorem oR_ne {n R : Nat} {S : SS} {v i u : Nat} (l : List Site) (h : u ≠ v) : grs n R (setS S i v l) u = grs n R S u := by
  unfold grs gsS
  have e : ((List.range n).filter fun j => !(setS S i v l j u).isEmpty) = (List.range n).filter fun j => !(S j u).isEmpty := List.filter_congr fun j _ => by rw [setS_ne l (fun e => h e.2)]
  rw [e]
  refine List.map_congr_left fun j _ => ?_
  unfold grC
  rw [setS_ne l (fun e => h e.2)]
theorem oX_eq {n R : Nat} {S : SS} {v i : Nat} {l : List Site} (hi : i < n) (h : ∀ j, i < j → S j v = []) (hl : 0 < l.length) : colF (oX n R S v i) R = colF (oR n R (setS S i v l)) R := colF_congr fun u _ => by
  unfold oX oR
  by_cases hu : u = v
  · subst hu
    rw [if_pos rfl, grs_has hi (fun j hj => by rw [setS_ne l (fun e => by omega)]; exact h j hj) (by rw [setS_same]; exact hl), slA_snoc]
    unfold pastC
    rw [List.length_map, pastS_set]
  · rw [if_neg hu, oR_ne l hu]
theorem rOX_eq {n R : Nat} {S : SS} {v i : Nat} {l : List Site} (hv : v < R) (hi : i < n) (h : ∀ j, i < j → S j v = []) (hl : 0 < l.length) : rOX n R S v i l = rO4 n R (setS S i v l) := by
  unfold rOX
  have := rowsTo_put (k := R) (o := fun u => slP 2 (grs n R S u)) (o' := fun u => slP 2 (grs n R (setS S i v l) u)) hv (fun c hc => by rw [oR_ne l hc])
  refine Eq.trans ?_ this.symm
  unfold rO4
  congr 1
  rw [grs_has hi (fun j hj => by rw [setS_ne l (fun e => by omega)]; exact h j hj) (by rw [setS_same]; exact hl), setS_same, pastC_set]
  simp [slP, snoc_ne]
theorem rSX_eq {R : Nat} {S : SS} {v i : Nat} {l : List Site} (hv : v < R) : rSX R S v i l = rS4 R (setS S i v l) := funext fun m => by
  unfold rSX upd rS4
  by_cases hm : m = v + R * i
  · subst hm
    rw [if_pos rfl, idx_div hv, idx_mod hv, setS_same]
  · rw [if_neg hm, setS_ne l (fun e => hm ?_)]
    have := Nat.mod_add_div m R
    rw [e.1, e.2] at this
    exact this.symm
theorem rSX_self {R : Nat} {S : SS} {v i : Nat} (hv : v < R) : rSX R S v i (S i v) = rS4 R S := by rw [rSX_eq hv, setS_self]
theorem rOX_self {n R : Nat} {S : SS} {v i : Nat} (hv : v < R) (hi : i < n) (h : ∀ j, i < j → S j v = []) (hl : 0 < (S i v).length) : rOX n R S v i (S i v) = rO4 n R S := by rw [rOX_eq hv hi h hl, setS_self]
theorem oX_self {n R : Nat} {S : SS} {v i : Nat} (hi : i < n) (h : ∀ j, i < j → S j v = []) (hl : 0 < (S i v).length) : colF (oX n R S v i) R = colF (oR n R S) R := by rw [oX_eq hi h hl, setS_self]
def noteL (l : List Site) (p : Nat) : List Site := if (l.getLast?.map Site.at_) = some p then l else l ++ [⟨p, false, false⟩]
theorem noteL_pos (l : List Site) (p : Nat) : 0 < (noteL l p).length := by
  unfold noteL
  split
  · rename_i h
    cases l with
    | nil => simp at h
    | cons a l => simp
  · simp
theorem noteL_new {l : List Site} {p k : Nat} {s : Site} (hk : l[k]? = some s) (hl : k + 1 = l.length) (h : s.at_ ≠ p) : noteL l p = l ++ [⟨p, false, false⟩] := by
  unfold noteL
  rw [List.getLast?_eq_getElem?, show l.length - 1 = k by omega, hk, if_neg (by simpa using h)]
theorem noteL_old {l : List Site} {p k : Nat} {s : Site} (hk : l[k]? = some s) (hl : k + 1 = l.length) (h : s.at_ = p) : noteL l p = l := by
  unfold noteL
  rw [List.getLast?_eq_getElem?, show l.length - 1 = k by omega, hk, if_pos (by simp [h])]
theorem note_new1 {n R : Nat} {S : SS} {v i : Nat} (hi : i < n) (h : ∀ j, i < j → S j v = []) (hl : (grs n R S v).length = 0) : S i v = [] := by
  cases e : S i v with
  | nil => rfl
  | cons a l =>
    rw [grs_has hi h (by rw [e]; simp)] at hl
    simp at hl
theorem note_new2 {n : Nat} {S : SS} {v i k j0 : Nat} (hi : i < n) (h : ∀ j, i < j → S j v = []) (hk : (gsS S n v)[k]? = some j0) (hl : k + 1 = (gsS S n v).length) (hne : j0 ≠ i) : S i v = [] := by
  cases e : S i v with
  | nil => rfl
  | cons a l =>
    have hs : gsS S n v = pastS S i v ++ [i] := by rw [gsS_split hi h, e]; rfl
    rw [hs] at hk hl
    have : k = (pastS S i v).length := by simp at hl; omega
    subst this
    rw [List.getElem?_append_right (Nat.le_refl _)] at hk
    simp at hk
    exact absurd hk.symm hne
theorem note_old {n : Nat} {S : SS} {v i k : Nat} (hi : i < n) (h : ∀ j, i < j → S j v = []) (hk : (gsS S n v)[k]? = some i) : 0 < (S i v).length := (gsS_get hk).2
theorem oR_has {n R : Nat} {S : SS} {v i : Nat} (hi : i < n) (h : ∀ j, i < j → S j v = []) (hl : 0 < (S i v).length) : oR n R S v = .ref (4 * v + 2 + 16) ((pastS S i v).length + 1) 0 ((pastS S i v).length + 1) := by
  unfold oR
  rw [grs_has hi h hl, slA_snoc]
  unfold pastC
  rw [List.length_map]
theorem weak_snoc {es : List (List AV)} {x y : List AV} (h : WkAll x y) : ∀ (i : Nat) (ds ds' : List AV), (es ++ [x])[i]? = some ds → (es ++ [y])[i]? = some ds' → ds'.length = ds.length ∧ ∀ (j : Nat) (a b : AV), ds[j]? = some a → ds'[j]? = some b → (a.cell1 = true → b.cell1 = true) ∧ ∀ H ι v, Rel H ι a v → Rel H ι b v := fun i ds ds' h1 h2 => by
  rcases Nat.lt_or_ge i es.length with hi | hi
  · rw [List.getElem?_append_left hi] at h1 h2
    rw [h1] at h2; cases h2
    exact ⟨rfl, fun j a b g1 g2 => by rw [g1] at g2; cases g2; exact Wk.refl a⟩
  · rw [List.getElem?_append_right hi] at h1 h2
    exact weak_one h (i - es.length) ds ds' h1 h2
theorem oX_put {n R : Nat} {S : SS} {v i : Nat} {es : List (List AV)} {x : List AV} (hp : es.length = (pastS S i v).length) : (colF (oR n R S) R).set (0 + ((v : Nat) : Int).toNat) [slA (4 * v + 2 + 16) (es ++ [x])] = colF (oX n R S v i) R := by
  rw [Nat.zero_add, Int.toNat_natCast, colF_set]
  refine colF_congr fun u _ => ?_
  unfold oX
  by_cases hu : u = v
  · subst hu; rw [if_pos rfl, if_pos rfl, slA_snoc, hp]
  · rw [if_neg hu, if_neg hu]
theorem pastC_len (R : Nat) (S : SS) (v i : Nat) : (pastC R S v i).length = (pastS S i v).length := by simp [pastC]
theorem pastS_len (S : SS) (i v : Nat) : (pastS S i v).length ≤ i := by
  unfold pastS
  exact Nat.le_trans (List.length_filter_le _ _) (by simp)
theorem noteL_len (l : List Site) (p : Nat) : (noteL l p).length ≤ l.length + 1 := by
  unfold noteL; split <;> simp
theorem rOX_at {n R v i : Nat} {S : SS} {l : List Site} {r0 r1 r3 : Nat → AObj} : F4 r0 r1 (rOX n R S v i l) r3 (4 * v + 2) = .row false 2 (pastC R S v i ++ [grX R v i l]) := by
  rw [F4_2]; unfold rOX upd; rw [if_pos rfl]
theorem rSX_at {R v i : Nat} {S : SS} {l : List Site} {r0 r1 r2 : Nat → AObj} : F4 r0 r1 r2 (rSX R S v i l) (4 * (v + R * i) + 3) = slO 3 (l.map siC) := by
  rw [F4_3]; unfold rSX upd; rw [if_pos rfl]
theorem past_get {R v i : Nat} {S : SS} {l : List Site} : (pastC R S v i ++ [grX R v i l])[(pastS S i v).length]? = some (grX R v i l) := by
  rw [← pastC_len R S v i, List.getElem?_append_right (Nat.le_refl _)]; simp
theorem rOX_up {n R v i : Nat} {S : SS} {l : List Site} {r0 r1 r3 : Nat → AObj} (x : Nat) : F4 r0 r1 (rOX n R S v i l) r3 x = if x = 4 * v + 2 then .row false 2 (pastC R S v i ++ [grX R v i l]) else F4 r0 r1 (rO4 n R S) r3 x := F4_u2 _ _ _ _ _ _ _
theorem rOX_again {n R v i : Nat} {S : SS} {l l' : List Site} : rOX n R S v i l' = upd (rOX n R S v i l) v (.row false 2 (pastC R S v i ++ [grX R v i l'])) := funext fun c => by
  unfold rOX upd; split <;> rfl
theorem past_set {R v i : Nat} {S : SS} {l : List Site} {y : List AV} : (pastC R S v i ++ [grX R v i l]).set (pastS S i v).length y = pastC R S v i ++ [y] := by
  rw [← pastC_len R S v i, List.set_append_right _ _ (Nat.le_refl _)]; simp
theorem row_slO {l : List Site} (h : 0 < l.length) : slO 3 (l.map siC) = .row true 3 (l.map siC) := slO_at (k := 0) (by rw [List.length_map]; exact h)
theorem rO4_at {n R v : Nat} {S : SS} {r0 r1 r3 : Nat → AObj} (hv : v < R) : F4 r0 r1 (rO4 n R S) r3 (4 * v + 2) = slP 2 (grs n R S v) := (F4_2 _ _ _ _ _).trans (rowsTo_at hv)
theorem rS4_F {R v i : Nat} {S : SS} {r0 r1 r2 : Nat → AObj} (hv : v < R) : F4 r0 r1 r2 (rS4 R S) (4 * (v + R * i) + 3) = slO 3 ((S i v).map siC) := (F4_3 _ _ _ _ _).trans (rS4_at hv)
theorem sub_1 {L : Nat} (h : 0 < L) (hL : L ≤ 1000000000) : evalBin .sub (.int .i64 (L : Int)) (.int .i64 1) = some (.int .i64 ((L - 1 : Nat) : Int)) := by
  simp only [evalBin, evalInt, isShift, cond_false, if_true]
  rw [wrap_i64 (by omega) (by omega)]
  congr 2
  omega
theorem eq0_pos {L : Nat} (h : (((L : Nat) : Int) == 0) = false) : 0 < L := by
  rcases Nat.eq_zero_or_pos L with e | e
  · rw [e] at h; exact absurd h (by decide)
  · exact e
theorem eq0_zero {L : Nat} (h : (((L : Nat) : Int) == 0) = true) : L = 0 := by
  have := eq_of_beq h; omega
theorem len_nil {α : Type} {l : List α} (h : l.length = 0) : l = [] := List.length_eq_zero_iff.1 h
theorem si_len (l : List Site) : ∀ cs ∈ l.map siC, cs.length = 3 := fun cs hc => by
  obtain ⟨s, _, rfl⟩ := List.mem_map.1 hc; rfl
theorem dh_full {h : AHeap} {L : List AObj} {F : Nat → AObj} (hL : L.length = 6) (h0 : h 0 = some .free) (h1 : h 1 = some .free) (hl : LowS h 2 L) (hh : ∀ x, h (x + 16) = some (F x)) (hf : ∀ c, 8 ≤ c → c < 16 → h c = some .free) : HSub (DH L F) h := fun c o ho => by
  cases e : kD c with
  | true => rw [DH_of hL hl hh e]; exact ho
  | false =>
    rcases kD_false e with rfl | rfl | hc
    · have : some AObj.free = some o := ho
      rw [h0]; exact this
    · have : some AObj.free = some o := ho
      rw [h1]; exact this
    · have e2 : DH L F c = some .free := by
        show fam (nb (.free :: .free :: L)) F c = _
        rw [fam_lo _ _ (by omega)]
        show some (nth (.free :: .free :: L) c) = _
        rw [nth_out (by show L.length + 1 + 1 ≤ c; omega)]
      rw [e2] at ho
      rw [hf c hc.1 hc.2]; exact ho
theorem hput_twice (h : AHeap) (z : Nat) (o1 o2 : AObj) : hput (hput h z o1) z o2 = hput h z o2 := funext fun c => by
  by_cases hc : c = z
  · subst hc; rw [hput_same, hput_same]
  · rw [hput_ne _ _ hc, hput_ne _ _ hc, hput_ne _ _ hc]
theorem rOX_new {n R v i : Nat} {S : SS} {r0 r1 r3 : Nat → AObj} (hS0 : S i v = []) (x : Nat) : F4 r0 r1 (rOX n R S v i (S i v)) r3 x = if x = 4 * v + 2 then .row false 2 (pastC R S v i ++ [[.int .i64 (i : Int), slA (4 * (v + R * i) + 3 + 16) []]]) else F4 r0 r1 (rO4 n R S) r3 x := by
  rw [rOX_up, hS0]; rfl
theorem rOX_step {n R v i : Nat} {S : SS} {l l' : List Site} {r0 r1 r3 : Nat → AObj} {y : List AV} (hy : y = grX R v i l') (x : Nat) : F4 r0 r1 (rOX n R S v i l') r3 x = if x = 4 * v + 2 then .row false 2 ((pastC R S v i ++ [grX R v i l]).set (0 + (((pastS S i v).length : Nat) : Int).toNat) y) else F4 r0 r1 (rOX n R S v i l) r3 x := by
  rw [rOX_again (l := l), F4_u2, Nat.zero_add, Int.toNat_natCast, past_set, hy]
theorem rSX_step {R v i : Nat} {S : SS} {l : List Site} {s : Site} {r0 r1 r2 : Nat → AObj} (x : Nat) : F4 r0 r1 r2 (rSX R S v i (l ++ [s])) x = if x = 4 * (v + R * i) + 3 then slO 3 (l.map siC ++ [siC s]) else F4 r0 r1 r2 (rS4 R S) x := by
  unfold rSX
  rw [F4_u3, List.map_append]; rfl
theorem grX_snoc {R v i : Nat} {l : List Site} {s : Site} : [AV.int .i64 (i : Int), slA (4 * (v + R * i) + 3 + 16) (l.map siC ++ [siC s])] = grX R v i (l ++ [s]) := by
  unfold grX; rw [List.map_append]; rfl
end Go.Proofs.Ytjmjmedjjbginaa.Sv

namespace Go.Proofs.Ytjmjmedjjbginaa.Sv
open Go

theorem siF_snoc (z : Bool) (v : Nat) (t : Tac) : ∀ (l : List Tac) (j : Nat), siF false v (l ++ [t]) j = siF false v l j ++ (bif t.uses.contains (v : Int) || t.sets == (v : Int) then [⟨j + l.length, t.uses.contains (v : Int), t.sets == (v : Int)⟩] else [])
  | [], j => by
    rw [List.nil_append, siF_cons]
    cases t.uses.contains (v : Int) || t.sets == (v : Int) <;> simp [siF]
  | u :: l, j => by
    rw [List.cons_append, siF_cons, siF_cons, siF_snoc z v t l (j + 1)]
    have : j + 1 + l.length = j + (u :: l).length := by rw [List.length_cons]; omega
    rw [this]
    cases u.uses.contains (v : Int) || u.sets == (v : Int) <;> simp
theorem siF_end (z : Bool) (v : Nat) : ∀ (l : List Tac) (j : Nat), siF z v l j = siF false v l j ++ (bif z then [⟨j + l.length, true, false⟩] else [])
  | [], j => by cases z <;> simp [siF]
  | u :: l, j => by
    rw [siF_cons, siF_cons, siF_end z v l (j + 1)]
    have : j + 1 + l.length = j + (u :: l).length := by rw [List.length_cons]; omega
    rw [this]
    cases u.uses.contains (v : Int) || u.sets == (v : Int) <;> simp
def siP (x : Block) (v j : Nat) : List Site := siF false v (x.ins.take j) 0
theorem siP_zero (x : Block) (v : Nat) : siP x v 0 = [] := by simp [siP, siF]
theorem siP_succ {x : Block} {v j : Nat} {t : Tac} (h : x.ins[j]? = some t) : siP x v (j + 1) = siP x v j ++ (bif t.uses.contains (v : Int) || t.sets == (v : Int) then [⟨j, t.uses.contains (v : Int), t.sets == (v : Int)⟩] else []) := by
  unfold siP
  have hj := (List.getElem?_eq_some_iff.1 h).1
  have e : x.ins.take (j + 1) = x.ins.take j ++ [t] := by rw [List.take_add_one, h]; rfl
  rw [e, siF_snoc false, List.length_take, Nat.min_eq_left (by omega), Nat.zero_add]
theorem siP_end (x : Block) (v : Nat) : sitesOf x v = siP x v x.ins.length ++ (bif endz x v then [⟨x.ins.length, true, false⟩] else []) := by
  unfold sitesOf siP
  rw [siF_end, List.take_length, Nat.zero_add]
theorem siP_at {x : Block} {v j : Nat} : ∀ s ∈ siP x v j, s.at_ < j := fun s hs => by
  unfold siP at hs
  obtain ⟨k, hk⟩ := List.mem_iff_getElem?.1 hs
  rcases siF_get hk with ⟨_, _, _, e, _⟩ | ⟨p, t, h1, h2, _⟩
  · cases e
  · have := (List.getElem?_eq_some_iff.1 h2).1
    rw [List.length_take] at this
    omega
theorem noteL_fresh {l : List Site} {p : Nat} (h : ∀ s ∈ l, s.at_ < p) : noteL l p = l ++ [⟨p, false, false⟩] := by
  unfold noteL
  cases e : l.getLast? with
  | none => simp
  | some s =>
    have := h s (List.mem_of_getLast? e)
    rw [if_neg (by simp; omega)]
theorem noteL_there {l : List Site} {p : Nat} {r s : Bool} : noteL (l ++ [⟨p, r, s⟩]) p = l ++ [⟨p, r, s⟩] := by
  unfold noteL
  rw [List.getLast?_concat]; simp
end Go.Proofs.Ytjmjmedjjbginaa.Sv

namespace Go.Proofs.Ytjmjmedjjbginaa.Sv
open Go

def phS (f : BFunc) (i : Nat) (cur : Nat → List Site) : SS := fun i' v => if i' < i then siB f v i' else if i' = i then cur v else []
theorem phS_last (f : BFunc) (i : Nat) (cur : Nat → List Site) (v : Nat) : ∀ j, i < j → phS f i cur j v = [] := fun j hj => by
  unfold phS; rw [if_neg (by omega), if_neg (by omega)]
theorem phS_at (f : BFunc) (i : Nat) (cur : Nat → List Site) (v : Nat) : phS f i cur i v = cur v := by
  unfold phS; rw [if_neg (Nat.lt_irrefl i), if_pos rfl]
theorem phS_set (f : BFunc) (i : Nat) (cur : Nat → List Site) (v : Nat) (l : List Site) : setS (phS f i cur) i v l = phS f i (fun u => if u = v then l else cur u) := funext fun a => funext fun u => by
  unfold setS phS
  by_cases ha : a = i
  · subst ha
    rw [if_neg (Nat.lt_irrefl a), if_pos rfl, if_neg (Nat.lt_irrefl a), if_pos rfl]
    by_cases hu : u = v
    · rw [if_pos ⟨rfl, hu⟩]; exact (if_pos hu).symm
    · rw [if_neg (fun e => hu e.2)]; exact (if_neg hu).symm
  · rw [if_neg (fun e => ha e.1)]
    by_cases h2 : a < i
    · rw [if_pos h2, if_pos h2]
    · rw [if_neg h2, if_neg h2, if_neg ha, if_neg ha]
theorem phS_next {f : BFunc} {i : Nat} {x : Block} (hx : f.blocks[i]? = some x) {cur : Nat → List Site} (h : ∀ v, cur v = sitesOf x v) : phS f i cur = phS f (i + 1) (fun _ => []) := funext fun a => funext fun u => by
  unfold phS
  by_cases ha : a = i
  · subst ha
    rw [if_neg (Nat.lt_irrefl a), if_pos rfl, if_pos (Nat.lt_succ_self a), h, siB_eq hx]
  · by_cases h2 : a < i
    · rw [if_pos h2, if_pos (by omega)]
    · rw [if_neg h2, if_neg ha, if_neg (by omega)]
      split <;> rfl
theorem phS_all {f : BFunc} : phS f f.blocks.length (fun _ => []) = SB f := funext fun a => funext fun u => by
  unfold phS
  by_cases h : a < f.blocks.length
  · rw [if_pos h]
  · rw [if_neg h]
    have : f.blocks[a]? = none := List.getElem?_eq_none_iff.2 (by omega)
    have e : siB f u a = [] := by unfold siB; rw [this]; rfl
    show _ = siB f u a
    rw [e]
    split <;> rfl
theorem phS_congr {f : BFunc} {i : Nat} {cur cur' : Nat → List Site} (h : ∀ v, cur v = cur' v) : phS f i cur = phS f i cur' := by rw [funext h]
def curU (x : Block) (j : Nat) (us : List Int) (v : Nat) : List Site := siP x v j ++ (bif us.contains (v : Int) then [⟨j, true, false⟩] else [])
theorem curU_nil (x : Block) (j v : Nat) : curU x j [] v = siP x v j := by simp [curU]
def flagR (l : List Site) : List Site := l.dropLast ++ (l.getLast?.map fun s => (⟨s.at_, true, s.s⟩ : Site)).toList
def flagS (l : List Site) : List Site := l.dropLast ++ (l.getLast?.map fun s => (⟨s.at_, s.r, true⟩ : Site)).toList
theorem flagR_snoc (l : List Site) (s : Site) : flagR (l ++ [s]) = l ++ [⟨s.at_, true, s.s⟩] := by
  unfold flagR; rw [List.dropLast_concat, List.getLast?_concat]; rfl
theorem flagS_snoc (l : List Site) (s : Site) : flagS (l ++ [s]) = l ++ [⟨s.at_, s.r, true⟩] := by
  unfold flagS; rw [List.dropLast_concat, List.getLast?_concat]; rfl
theorem noteU {x : Block} {j v : Nat} {us : List Int} : ∃ r, noteL (curU x j us v) j = siP x v j ++ [⟨j, r, false⟩] ∧ r = us.contains (v : Int) := by
  unfold curU
  cases e : us.contains (v : Int) with
  | true => exact ⟨true, noteL_there, rfl⟩
  | false =>
    refine ⟨false, ?_, rfl⟩
    rw [cond_false, List.append_nil]
    exact noteL_fresh siP_at
theorem use_noted {x : Block} {j : Nat} {us : List Int} {k : Nat} {u : Int} (h : us[k]? = some u) (h0 : 0 ≤ u) (v : Nat) : (if v = u.toNat then flagR (noteL (curU x j (us.take k) u.toNat) j) else curU x j (us.take k) v) = curU x j (us.take (k + 1)) v := by
  have e : us.take (k + 1) = us.take k ++ [u] := by rw [List.take_add_one, h]; rfl
  by_cases hv : v = u.toNat
  · rw [if_pos hv]
    obtain ⟨r, h1, _⟩ := noteU (x := x) (j := j) (v := u.toNat) (us := us.take k)
    rw [h1, flagR_snoc]
    unfold curU
    have : (us.take (k + 1)).contains (v : Int) = true := by
      rw [List.contains_iff_mem, e, List.mem_append, List.mem_singleton]
      right; omega
    rw [this, hv]; rfl
  · rw [if_neg hv]
    unfold curU
    have : (us.take (k + 1)).contains (v : Int) = (us.take k).contains (v : Int) := by
      rw [Bool.eq_iff_iff, List.contains_iff_mem, List.contains_iff_mem, e, List.mem_append, List.mem_singleton]
      exact ⟨fun h => h.elim id fun e => absurd (show v = u.toNat by omega) hv, .inl⟩
    rw [this]
theorem set_noted {x : Block} {j : Nat} {t : Tac} (ht : x.ins[j]? = some t) (h0 : 0 ≤ t.sets) (v : Nat) : (if v = t.sets.toNat then flagS (noteL (curU x j t.uses t.sets.toNat) j) else curU x j t.uses v) = siP x v (j + 1) := by
  rw [siP_succ ht]
  by_cases hv : v = t.sets.toNat
  · rw [if_pos hv]
    obtain ⟨r, h1, h2⟩ := noteU (x := x) (j := j) (v := t.sets.toNat) (us := t.uses)
    rw [h1, flagS_snoc]
    have e : (t.sets == (v : Int)) = true := by rw [beq_iff_eq]; omega
    rw [e, Bool.or_true, cond_true, h2, hv]
  · rw [if_neg hv]
    have e : (t.sets == (v : Int)) = false := by rw [beq_eq_false_iff_ne]; omega
    rw [e, Bool.or_false]
    unfold curU
    cases t.uses.contains (v : Int) <;> rfl
theorem noset_noted {x : Block} {j : Nat} {t : Tac} (ht : x.ins[j]? = some t) (h0 : ¬ 0 ≤ t.sets) (v : Nat) : curU x j t.uses v = siP x v (j + 1) := by
  rw [siP_succ ht]
  have e : (t.sets == (v : Int)) = false := by rw [beq_eq_false_iff_ne]; omega
  rw [e, Bool.or_false]
  unfold curU
  cases t.uses.contains (v : Int) <;> rfl
theorem end_noted {x : Block} (h : x.fin = 2) (h0 : 0 ≤ x.v) (v : Nat) : (if v = x.v.toNat then flagR (noteL (siP x x.v.toNat x.ins.length) x.ins.length) else siP x v x.ins.length) = sitesOf x v := by
  rw [siP_end]
  by_cases hv : v = x.v.toNat
  · rw [if_pos hv, noteL_fresh siP_at, flagR_snoc]
    have : endz x v = true := by unfold endz; rw [h]; simp; omega
    rw [this, hv]; rfl
  · rw [if_neg hv]
    have : endz x v = false := by
      unfold endz
      have : (x.v == (v : Int)) = false := by rw [beq_eq_false_iff_ne]; omega
      rw [this, Bool.and_false]
    rw [this, cond_false, List.append_nil]
theorem noend_noted {x : Block} (h : ¬ x.fin = 2) (v : Nat) : siP x v x.ins.length = sitesOf x v := by
  rw [siP_end]
  have : endz x v = false := by unfold endz; simp [h]
  rw [this, cond_false, List.append_nil]
end Go.Proofs.Ytjmjmedjjbginaa.Sv

namespace Go.Proofs.Ytjmjmedjjbginaa.Sv
open Go
theorem aR_put {n d k : Nat} {A A' : Nat → List Nat} (h : ∀ c, A' c = if c = d then A c ++ [k] else A c) : (colF (aR A) n).set (0 + d) [slA (4 * d + 0 + 16) ((A d).map natC ++ [natC k])] = colF (aR A') n := by
  rw [Nat.zero_add, colF_set]
  refine colF_congr fun c _ => ?_
  unfold aR
  rw [h]
  by_cases hc : c = d
  · subst hc; rw [if_pos rfl, if_pos rfl, List.map_append]; rfl
  · rw [if_neg hc, if_neg hc]
theorem rA4_put {n d k : Nat} {A A' : Nat → List Nat} {r1 r2 r3 : Nat → AObj} (hd : d < n) (h : ∀ c, A' c = if c = d then A c ++ [k] else A c) (x : Nat) : F4 (rA4 n A') r1 r2 r3 x = if x = 4 * d + 0 then slO 1 ((A d).map natC ++ [natC k]) else F4 (rA4 n A) r1 r2 r3 x := by
  have e : rA4 n A' = upd (rA4 n A) d (slO 1 ((A' d).map natC)) := rowsTo_put hd fun c hc => by rw [h, if_neg hc]
  rw [e, F4_u0, h d, if_pos rfl, List.map_append]; rfl
theorem rA4_congr {n : Nat} {A A' : Nat → List Nat} (h : ∀ c, A c = A' c) : rA4 n A = rA4 n A' := by rw [funext h]
theorem rA4_0 {n : Nat} {A : Nat → List Nat} {r1 r2 r3 : Nat → AObj} {b : Nat} (h : b < n) : F4 (rA4 n A) r1 r2 r3 (4 * b + 0) = slO 1 ((A b).map natC) := (F4_0 _ _ _ _ _).trans (rowsTo_at h)
abbrev G0 : GG := fun _ _ => false
def S0 : SS := fun _ _ => []
def gK (f : BFunc) (k : Nat) : Nat → AV := fun b => if b < k then gR f b else .nil
theorem gK_zero (f : BFunc) (n : Nat) : List.replicate n [AV.nil] = colF (gK f 0) n := by
  rw [colF_rep]
  refine colF_congr fun b _ => ?_
  unfold gK; rw [if_neg (Nat.not_lt_zero b)]
theorem gK_all (f : BFunc) : colF (gK f f.blocks.length) f.blocks.length = colF (gR f) f.blocks.length := colF_congr fun b hb => by
  unfold gK; rw [if_pos hb]
theorem gK_put {f : BFunc} {n k : Nat} {m : Nat} (hm : insLen f k = m) : (colF (gK f k) n).set (0 + ((k : Nat) : Int).toNat) [.ref (4 * k + 1 + 16) m 0 m] = colF (gK f (k + 1)) n := by
  rw [Nat.zero_add, Int.toNat_natCast, colF_set]
  refine colF_congr fun b _ => ?_
  unfold gK
  by_cases hb : b = k
  · subst hb; rw [if_pos rfl, if_pos (Nat.lt_succ_self b)]; unfold gR; rw [hm]
  · rw [if_neg hb]
    by_cases h2 : b < k
    · rw [if_pos h2, if_pos (by omega)]
    · rw [if_neg h2, if_neg (by omega)]
theorem gK_avoid {p : Nat → Bool} (hp : ∀ x, p (x + 16) = true) (f : BFunc) (k b : Nat) : (gK f k b).avoid p = true := by
  unfold gK; split
  · exact gR_avoid hp f b
  · rfl
theorem rG4_new {f : BFunc} {k : Nat} {G : GG} {r0 r2 r3 : Nat → AObj} : F4 r0 (rG4 f k G) r2 r3 (4 * k + 1) = .free := (F4_1 _ _ _ _ _).trans (rowsTo_new (Nat.le_refl _))
theorem rG4_succ {f : BFunc} {k m : Nat} {r0 r2 r3 : Nat → AObj} (hm : insLen f k = m) (x : Nat) : F4 r0 (rG4 f (k + 1) G0) r2 r3 x = if x = 4 * k + 1 then .row true 1 (List.replicate m [AV.bool false]) else F4 r0 (rG4 f k G0) r2 r3 x := by
  unfold rG4
  rw [rowsTo_succ, F4_u1, hm]
  have : bC m (G0 k) = List.replicate m [AV.bool false] := by
    show colF (fun _ => AV.bool false) m = _
    exact (colF_rep _ _).symm
  rw [this]
theorem bC_start (R : Nat) : List.replicate R [AV.bool false] = bC R (fun b => decide (b < 0)) := by
  show _ = colF (fun b => AV.bool (decide (b < 0))) R
  rw [colF_rep]
  exact colF_congr fun b _ => by rw [decide_eq_false (Nat.not_lt_zero b)]
theorem gsS_none (n v : Nat) : gsS S0 n v = [] := by
  unfold gsS
  exact List.filter_eq_nil_iff.2 fun a _ => by simp [S0]
theorem grs_none (n R v : Nat) : grs n R S0 v = [] := by unfold grs; rw [gsS_none]; rfl
theorem oR_none (n R v : Nat) : oR n R S0 v = slA (4 * v + 2 + 16) [] := by unfold oR; rw [grs_none]
theorem F4_start {f : BFunc} {n R x : Nat} : F4 (rA4 n (fun _ => [])) (rG4 f 0 G0) (rO4 n R S0) (rS4 R S0) x = .free := by
  have e0 : ∀ b, rA4 n (fun _ => []) b = .free := fun b => by unfold rA4 rowsTo; split <;> rfl
  have e1 : ∀ b, rG4 f 0 G0 b = .free := fun b => by unfold rG4 rowsTo; rw [if_neg (Nat.not_lt_zero b)]
  have e2 : ∀ b, rO4 n R S0 b = .free := fun b => by unfold rO4 rowsTo; dsimp only; rw [grs_none]; split <;> rfl
  have e3 : ∀ b, rS4 R S0 b = .free := fun b => rfl
  unfold F4
  split
  · exact e0 _
  · split
    · exact e1 _
    · split
      · exact e2 _
      · exact e3 _
theorem gsS_lens {S S' : SS} {n v : Nat} (h : ∀ i, (S i v).length = (S' i v).length) : gsS S n v = gsS S' n v := by
  unfold gsS
  refine List.filter_congr fun i _ => ?_
  have := h i
  cases e : S i v <;> cases e2 : S' i v <;> simp_all
theorem grs_lens {S S' : SS} {n R v : Nat} (h : ∀ i, (S i v).length = (S' i v).length) : grs n R S v = grs n R S' v := by
  unfold grs
  rw [gsS_lens h]
  refine List.map_congr_left fun i _ => ?_
  unfold grC; rw [h i]
theorem oR_lens {S S' : SS} {n R : Nat} (h : ∀ v i, (S i v).length = (S' i v).length) : colF (oR n R S) R = colF (oR n R S') R := colF_congr fun v _ => by
  unfold oR; rw [grs_lens (h v)]
theorem rO4_lens {S S' : SS} {n R : Nat} (h : ∀ v i, (S i v).length = (S' i v).length) : rO4 n R S = rO4 n R S' := by
  unfold rO4
  congr 1
  exact funext fun v => by rw [grs_lens (h v)]
theorem setS_lens {S : SS} {i v : Nat} {l l' : List Site} (h : l'.length = l.length) : ∀ v' i', (setS S i v l i' v').length = (setS S i v l' i' v').length := fun v' i' => by
  unfold setS; split
  · exact h.symm
  · rfl
theorem flagR_len {l : List Site} : (flagR l).length = l.length := by
  rcases List.eq_nil_or_concat l with rfl | ⟨l', s, rfl⟩
  · rfl
  · rw [List.concat_eq_append, flagR_snoc]; simp
theorem flagS_len {l : List Site} : (flagS l).length = l.length := by
  rcases List.eq_nil_or_concat l with rfl | ⟨l', s, rfl⟩
  · rfl
  · rw [List.concat_eq_append, flagS_snoc]; simp
theorem snoc_of {l : List Site} (h : 0 < l.length) : ∃ l' s, l = l' ++ [s] := by
  rcases List.eq_nil_or_concat l with rfl | ⟨l', s, rfl⟩
  · simp at h
  · exact ⟨l', s, List.concat_eq_append ..⟩
theorem si_last {l : List Site} (h : 0 < l.length) : ∃ s, l[l.length - 1]? = some s ∧ (l.map siC).set (l.length - 1) [.int .i64 (s.at_ : Int), .bool true, .bool s.s] = (flagR l).map siC ∧ (l.map siC).set (l.length - 1) [.int .i64 (s.at_ : Int), .bool s.r, .bool true] = (flagS l).map siC := by
  obtain ⟨l', s, rfl⟩ := snoc_of h
  have e : (l' ++ [s]).length - 1 = l'.length := by simp
  refine ⟨s, ?_, ?_, ?_⟩
  · rw [e, List.getElem?_append_right (Nat.le_refl _)]; simp
  · rw [e, flagR_snoc, List.map_append, List.map_append, List.set_append_right _ _ (by simp)]; simp [siC]
  · rw [e, flagS_snoc, List.map_append, List.map_append, List.set_append_right _ _ (by simp)]; simp [siC]
theorem rS4_flag {R v i : Nat} {S : SS} {l l' : List Site} {r0 r1 r2 : Nat → AObj} {q : List (List AV)} (hv : v < R) (hl : 0 < l'.length) (hq : q = l'.map siC) (x : Nat) : F4 r0 r1 r2 (rS4 R (setS S i v l')) x = if x = 4 * (v + R * i) + 3 then .row true 3 q else F4 r0 r1 r2 (rS4 R (setS S i v l)) x := by
  have e : rS4 R (setS S i v l') = upd (rS4 R (setS S i v l)) (v + R * i) (.row true 3 q) := by
    rw [← rSX_eq hv, ← rSX_eq hv]
    refine funext fun m => ?_
    unfold rSX upd
    split
    · rw [hq, row_slO hl]
    · rfl
  rw [e, F4_u3]
theorem flag_row {R v i : Nat} {S : SS} {l : List Site} {r0 r1 r2 : Nat → AObj} (hv : v < R) (hl : 0 < l.length) : F4 r0 r1 r2 (rS4 R (setS S i v l)) (4 * (v + R * i) + 3) = .row true 3 (l.map siC) := by
  rw [rS4_F hv, setS_same, row_slO hl]
theorem siP_len (x : Block) (v : Nat) : ∀ j, (siP x v j).length ≤ j
  | 0 => by rw [siP_zero]; exact Nat.le_refl _
  | j + 1 => by
    have ih := siP_len x v j
    cases e : x.ins[j]? with
    | none =>
      have : siP x v (j + 1) = siP x v j := by
        have := List.getElem?_eq_none_iff.1 e
        unfold siP
        rw [List.take_of_length_le (by omega), List.take_of_length_le this]
      rw [this]; omega
    | some t =>
      rw [siP_succ e, List.length_append]
      cases t.uses.contains (v : Int) || t.sets == (v : Int) <;> simp <;> omega
theorem curU_len (x : Block) (j : Nat) (us : List Int) (v : Nat) : (curU x j us v).length ≤ j + 1 := by
  unfold curU
  have := siP_len x v j
  rw [List.length_append]
  cases us.contains (v : Int) <;> simp <;> omega
theorem phS_start (f : BFunc) : S0 = phS f 0 (fun _ => []) := funext fun a => funext fun u => by
  unfold phS S0
  rw [if_neg (Nat.not_lt_zero a)]
  split <;> rfl
theorem phS_first (f : BFunc) (k : Nat) (x : Block) : phS f k (fun _ => []) = phS f k (curU x 0 []) := phS_congr fun v => by rw [curU_nil, siP_zero]
abbrev NSc (f : BFunc) (R : Nat) : List AV := [.int .i64 f.regs, blocksAV f.blocks, pathsAV f.nexts, .ref 3 f.blocks.length 0 f.blocks.length, .ref 4 R 0 R, .ref 5 f.blocks.length 0 f.blocks.length, .nil, .nil]
abbrev NSL (f : BFunc) (R : Nat) (S : SS) (k : Nat) : List AObj := [.row false 8 [NSc f R], .row false 1 (colF (aR (aheadL f)) f.blocks.length), .row false 1 (colF (oR f.blocks.length R S) R), .row false 1 (colF (gK f k) f.blocks.length), .free, .free]
abbrev NSF (f : BFunc) (R : Nat) (S : SS) (k : Nat) : Nat → AObj := F4 (rA4 f.blocks.length (aheadL f)) (rG4 f k G0) (rO4 f.blocks.length R S) (rS4 R S)
theorem NSL_avoid (f : BFunc) (R : Nat) (S : SS) (k : Nat) : ∀ o ∈ NSL f R S k, o.avoid kD = true := fun o ho => by
  simp only [NSL, List.mem_cons, List.not_mem_nil, or_false] at ho
  rcases ho with rfl | rfl | rfl | rfl | rfl | rfl
  · rfl
  · exact colF_avoid (fun b _ => aR_avoid kD_hi _ _)
  · exact colF_avoid (fun b _ => oR_avoid kD_hi _ _ _ _)
  · exact colF_avoid (fun b _ => gK_avoid kD_hi _ _ _)
  · rfl
  · rfl
theorem NSF_avoid {p : Nat → Bool} (hp : ∀ x, p (x + 16) = true) (f : BFunc) (R : Nat) (S : SS) (k x : Nat) : (NSF f R S k x).avoid p = true := F4_avoid (fun _ => rA4_avoid _) (fun _ => rG4_avoid _) (fun _ => rO4_avoid hp _) (fun _ => rS4_avoid _) x
theorem NSF_put {f : BFunc} {R k v i : Nat} {S S2 : SS} {l l' : List Site} {q : List (List AV)} (hv : v < R) (hl : l'.length = l.length) (h0 : 0 < l.length) (hS : S2 = setS S i v l') (hq : q = l'.map siC) (x : Nat) :
    NSF f R S2 k x = if x = 4 * (v + R * i) + 3 then .row true 3 q else NSF f R (setS S i v l) k x := by
  subst hS
  have e : rO4 f.blocks.length R (setS S i v l') = rO4 f.blocks.length R (setS S i v l) := rO4_lens (setS_lens hl.symm)
  show F4 _ _ (rO4 f.blocks.length R (setS S i v l')) _ x = _
  rw [e]
  exact rS4_flag hv (by omega) hq x
theorem NSL_put {n R v i : Nat} {S S2 : SS} {l l' : List Site} (hl : l'.length = l.length) (hS : S2 = setS S i v l') : colF (oR n R (setS S i v l)) R = colF (oR n R S2) R := by
  subst hS
  exact oR_lens (setS_lens hl)
theorem ph_use {f : BFunc} {k : Nat} {x : Block} {j : Nat} {us : List Int} {q : Nat} {u : Int} (h : us[q]? = some u) (h0 : 0 ≤ u) : phS f k (curU x j (us.take (q + 1))) = setS (phS f k (curU x j (us.take q))) k u.toNat (flagR (noteL (phS f k (curU x j (us.take q)) k u.toNat) j)) := by
  rw [phS_at, phS_set]
  exact phS_congr fun v => (use_noted h h0 v).symm
theorem ph_set {f : BFunc} {k : Nat} {x : Block} {j : Nat} {t : Tac} (ht : x.ins[j]? = some t) (h0 : 0 ≤ t.sets) : phS f k (curU x (j + 1) []) = setS (phS f k (curU x j t.uses)) k t.sets.toNat (flagS (noteL (phS f k (curU x j t.uses) k t.sets.toNat) j)) := by
  rw [phS_at, phS_set]
  exact phS_congr fun v => by rw [curU_nil]; exact (set_noted ht h0 v).symm
theorem ph_noset {f : BFunc} {k : Nat} {x : Block} {j : Nat} {t : Tac} (ht : x.ins[j]? = some t) (h0 : ¬ 0 ≤ t.sets) : phS f k (curU x j t.uses) = phS f k (curU x (j + 1) []) := phS_congr fun v => by
  rw [curU_nil]; exact noset_noted ht h0 v
theorem ph_end {f : BFunc} {k : Nat} {x : Block} (hx : f.blocks[k]? = some x) (h : x.fin = 2) (h0 : 0 ≤ x.v) : phS f (k + 1) (fun _ => []) = setS (phS f k (curU x x.ins.length [])) k x.v.toNat (flagR (noteL (phS f k (curU x x.ins.length []) k x.v.toNat) x.ins.length)) := by
  rw [phS_at, phS_set, curU_nil]
  exact (phS_next hx fun v => by rw [curU_nil]; exact end_noted h h0 v).symm
theorem ph_noend {f : BFunc} {k : Nat} {x : Block} (hx : f.blocks[k]? = some x) (h : ¬ x.fin = 2) : phS f k (curU x x.ins.length []) = phS f (k + 1) (fun _ => []) := phS_next hx fun v => by rw [curU_nil]; exact noend_noted h v
theorem ph_len {f : BFunc} {k : Nat} {x : Block} {j : Nat} {us : List Int} {v : Nat} (hj : j ≤ 100000) : (phS f k (curU x j us) k v).length ≤ 1000000 := by
  rw [phS_at]
  have := curU_len x j us v
  omega
end Go.Proofs.Ytjmjmedjjbginaa.Sv

namespace Go.Proofs.Ytjmjmedjjbginaa.Sv
open Go

section
variable {P : Program} {o : Oper} {e : AEnv} {h : AHeap}
def putK (κ : Nat → Bool) (h g : AHeap) : AHeap := fun c => bif κ c then g c else h c
theorem putK_yes {κ : Nat → Bool} {h g : AHeap} {c : Nat} (hc : κ c = true) : putK κ h g c = g c := by unfold putK; rw [hc]; rfl
theorem putK_no {κ : Nat → Bool} {h g : AHeap} {c : Nat} (hc : κ c = false) : putK κ h g c = h c := by unfold putK; rw [hc]; rfl
theorem putK_sub {κ : Nat → Bool} {W h : AHeap} (hH : ∀ b, κ b = true → h b = W b) : HSub (putK κ hNone W) h := fun c o ho => by
  cases e : κ c with
  | true => rw [putK_yes e] at ho; rw [hH c e]; exact ho
  | false => rw [putK_no e] at ho; cases ho
theorem hresK_eq {κ : Nat → Bool} {W h : AHeap} (hH : ∀ b, κ b = true → h b = W b) (hN : ∀ b, κ b = false → W b = some .free) : hresK h κ = W := funext fun b => by
  unfold hresK
  cases e : κ b with
  | true => rw [cond_true]; exact hH b e
  | false => rw [cond_false]; exact (hN b e).symm
theorem o_callKR {f : FuncId} {fn : Func} {args : Array Operand} {tys : Array TypeId} {xs : List AV} {r : AV} {W : AHeap} (κ : Nat → Bool) (ho : o.op = .call { callee := .value (.func f), args := args, argTypes := tys }) (hf : P.funcs[f]? = some fn) (hnm : (fn.name == "runtime.NumGoroutine") = false) (hb : fn.body.isSome = true)
    (hx : lookAll e args.toList = some xs) (hxa : xs.all (AV.avoid κ) = true) (hH : ∀ b, κ b = true → h b = W b) (hA : ∀ b, κ b = true → ∃ q, W b = some q ∧ q.avoid κ = true) (hN : ∀ b, κ b = false → W b = some .free) (hra : r.avoid κ = true)
    (hcall : ACall P f xs W (fun r' h' => r' = r ∧ HSub (putK κ hNone W) h')) : OCall P o e h h r :=
  o_callK (hw := putK κ hNone W) κ ho hf hnm hb hx hxa (fun b hb => by rw [hH b hb]; exact hA b hb) (hresK_eq hH hN) (fun _ _ => rfl)
    (fun b hb => by obtain ⟨q, q1, q2⟩ := hA b hb; exact ⟨q, (putK_yes hb).trans q1, (hH b hb).trans q1, q2⟩) hra hcall
theorem o_callKW {f : FuncId} {fn : Func} {args : Array Operand} {tys : Array TypeId} {xs : List AV} {r : AV} {W W' : AHeap} (κ : Nat → Bool) (ho : o.op = .call { callee := .value (.func f), args := args, argTypes := tys }) (hf : P.funcs[f]? = some fn) (hnm : (fn.name == "runtime.NumGoroutine") = false) (hb : fn.body.isSome = true)
    (hx : lookAll e args.toList = some xs) (hxa : xs.all (AV.avoid κ) = true) (hH : ∀ b, κ b = true → h b = W b) (hA : ∀ b, κ b = true → ∃ q, W b = some q ∧ q.avoid κ = true) (hN : ∀ b, κ b = false → W b = some .free) (hA' : ∀ b, κ b = true → ∃ q, W' b = some q ∧ q.avoid κ = true) (hra : r.avoid κ = true)
    (hcall : ACall P f xs W (fun r' h' => r' = r ∧ HSub (putK κ hNone W') h')) : OCall P o e h (putK κ h W') r :=
  o_callK (hw := putK κ hNone W') κ ho hf hnm hb hx hxa (fun b hb => by rw [hH b hb]; exact hA b hb) (hresK_eq hH hN) (fun _ hb => putK_no hb)
    (fun b hb => by obtain ⟨q, q1, q2⟩ := hA' b hb; exact ⟨q, (putK_yes hb).trans q1, (putK_yes hb).trans q1, q2⟩) hra hcall
theorem o_callFK {f : FuncId} {fn : Func} {x : Operand} {args : Array Operand} {tys : Array TypeId} {fs xs cs : List AV} {r : AV} {hc hw hn : AHeap} (κ : Nat → Bool) (ho : o.op = .call { callee := .value x, args := args, argTypes := tys }) (hfn : look e x = some (.fn (.func f) fs cs)) (hf : P.funcs[f]? = some fn) (hnm : (fn.name == "runtime.NumGoroutine") = false) (hb : fn.body.isSome = true)
    (hx : lookAll e args.toList = some xs) (hxa : (fs ++ xs ++ cs).all (AV.avoid κ) = true) (hL : ∀ b, κ b = true → ∃ q, h b = some q ∧ q.avoid κ = true) (hres' : hresK h κ = hc) (hW : ∀ b, κ b = false → hn b = h b)
    (hk : ∀ b, κ b = true → ∃ q, hw b = some q ∧ hn b = some q ∧ q.avoid κ = true) (hra : r.avoid κ = true)
    (hcall : ACall P f (fs ++ xs ++ cs) hc (fun r' h' => r' = r ∧ HSub hw h')) : OCall P o e h hn r := by
  intro H ι a w n Q hs
  have hvf := look_rel hs hfn
  obtain ⟨us, vs, hve, k1, k2, k3, k4⟩ := hvf.fn_inv
  have hraa := relAll_append (relAll_append ⟨k1, k3⟩ (relAll_map hs hx)) ⟨k2, k4⟩
  have hra' : RelAll H (lcut ι κ) (fs ++ xs ++ cs) (us ++ args.map a.eval ++ vs) := ⟨hraa.1, fun j x v h1 h2 => avoid_rel (hraa.2 j x v h1 h2) (all_get hxa h1)⟩
  have hrc : HeapRel H (lcut ι κ) (hresK h κ) w := by
    have key : ∀ b o, hresK h κ b = some o → o.alive = true → κ b = true ∧ h b = some o := fun b o h1 h2 => by
      unfold hresK at h1
      cases e : κ b with
      | true => rw [e] at h1; exact ⟨rfl, h1⟩
      | false => rw [e] at h1; cases h1; cases h2
    refine ⟨hs.heap.know, fun b hb => ?_, fun b o h1 h2 => ?_, fun b b' o o' r r' h1 h2 h3 h4 h5 h6 => ?_, hs.heap.glob⟩
    · unfold hresK at hb
      unfold lcut
      cases e : κ b with
      | true => rw [e] at hb; exact hs.heap.free b hb
      | false => rfl
    · obtain ⟨k1, k2⟩ := key b o h1 h2
      obtain ⟨r, r1, r2, r3⟩ := hs.heap.obj b o k2 h2
      obtain ⟨q, q1, q2⟩ := hL b k1
      rw [k2] at q1; cases q1
      exact ⟨r, by rw [lcut_lt k1]; exact r1, objOk_cut r2 q2, r3⟩
    · exact hs.heap.inj b b' o o' r r' (key b o h1 h2).2 h2 (key b' o' h3 h4).2 h4 (lcut_some h5) (lcut_some h6)
  have hcalls := hcall H (lcut ι κ) w _ hra' (hres' ▸ hrc)
  have hexec : (execOp a.eval o).run P w = .ok (.enter f (us ++ args.map a.eval ++ vs)) w := by
    simp only [execOp, ho, resolve, hve, Deferred.ofValue, invoke, Sem.run_bind, Sem.run_pure, Result.andThen_ok, run_callFunc hf hnm hb]
  unfold Oper.wp
  rw [hexec]
  refine hcalls.mono fun en w' hh => ?_
  obtain ⟨v, r', h', H', ι', rfl, ⟨rfl, hsub⟩, k1, k2, k3⟩ := hh
  have hk' : ∀ b, κ b = true → ∃ q, h' b = some q ∧ hn b = some q ∧ q.avoid κ = true := fun b hb => by
    obtain ⟨q, q1, q2, q3⟩ := hk b hb
    exact ⟨q, hsub b q q1, q2, q3⟩
  obtain ⟨u1, u2⟩ := call_mixK hs.heap hL hW hk' k2 (hres'.symm ▸ k3)
  refine ⟨v, H', _, rfl, ?_, u1, u2⟩
  refine (avoid_rel k1 hra).mono (KLe.refl _) fun b r e => ?_
  cases hb : κ b with
  | true => exact ⟨r, by simp only [lmixK, hb, cond_true]; exact lcut_some e, .inl rfl⟩
  | false => simp only [lcut, hb, cond_false] at e; cases e
theorem o_callFR {f : FuncId} {fn : Func} {x : Operand} {args : Array Operand} {tys : Array TypeId} {fs xs cs : List AV} {r : AV} {W : AHeap} (κ : Nat → Bool) (ho : o.op = .call { callee := .value x, args := args, argTypes := tys }) (hfn : look e x = some (.fn (.func f) fs cs)) (hf : P.funcs[f]? = some fn) (hnm : (fn.name == "runtime.NumGoroutine") = false) (hb : fn.body.isSome = true)
    (hx : lookAll e args.toList = some xs) (hxa : (fs ++ xs ++ cs).all (AV.avoid κ) = true) (hH : ∀ b, κ b = true → h b = W b) (hA : ∀ b, κ b = true → ∃ q, W b = some q ∧ q.avoid κ = true) (hN : ∀ b, κ b = false → W b = some .free) (hra : r.avoid κ = true)
    (hcall : ACall P f (fs ++ xs ++ cs) W (fun r' h' => r' = r ∧ HSub (putK κ hNone W) h')) : OCall P o e h h r :=
  o_callFK (hw := putK κ hNone W) κ ho hfn hf hnm hb hx hxa (fun b hb => by rw [hH b hb]; exact hA b hb) (hresK_eq hH hN) (fun _ _ => rfl)
    (fun b hb => by obtain ⟨q, q1, q2⟩ := hA b hb; exact ⟨q, (putK_yes hb).trans q1, (hH b hb).trans q1, q2⟩) hra hcall
end
end Go.Proofs.Ytjmjmedjjbginaa.Sv

namespace Go.Proofs.Ytjmjmedjjbginaa.Sv
open Go

def kW : Nat → Bool := fun c => (Nat.ble 2 c && Nat.blt c 9) || (Nat.beq c 12 || Nat.ble 16 c)
theorem kW_hi (x : Nat) : kW (x + 16) = true := by
  unfold kW; rw [show Nat.ble 16 (x + 16) = true by rw [Nat.ble_eq]; omega]; simp
theorem kW_lo {c : Nat} (h : c < 16) : c = 0 ∨ c = 1 ∨ c = 2 ∨ c = 3 ∨ c = 4 ∨ c = 5 ∨ c = 6 ∨ c = 7 ∨ c = 8 ∨ c = 9 ∨ c = 10 ∨ c = 11 ∨ c = 12 ∨ c = 13 ∨ c = 14 ∨ c = 15 := by omega
abbrev WH (r2 r3 r4 r5 r6 r7 A B : AObj) (F : Nat → AObj) : AHeap := fam (nb [.free, .free, r2, r3, r4, r5, r6, r7, A, .free, .free, .free, B]) F
theorem WH_free {r2 r3 r4 r5 r6 r7 A B : AObj} {F : Nat → AObj} : ∀ b, kW b = false → WH r2 r3 r4 r5 r6 r7 A B F b = some .free := fun b hb => by
  rcases Nat.lt_or_ge b 16 with h | h
  · rcases kW_lo h with rfl | rfl | rfl | rfl | rfl | rfl | rfl | rfl | rfl | rfl | rfl | rfl | rfl | rfl | rfl | rfl <;> first | rfl | (exact absurd hb (by decide))
  · obtain ⟨x, rfl⟩ : ∃ x, b = x + 16 := ⟨b - 16, by omega⟩
    rw [kW_hi] at hb; cases hb
theorem WH_avoid {r2 r3 r4 r5 r6 r7 A B : AObj} {F : Nat → AObj} (h2 : r2.avoid kW = true) (h3 : r3.avoid kW = true) (h4 : r4.avoid kW = true) (h5 : r5.avoid kW = true) (h6 : r6.avoid kW = true) (h7 : r7.avoid kW = true) (hA : A.avoid kW = true) (hB : B.avoid kW = true) (hF : ∀ x, (F x).avoid kW = true) :
    ∀ b, kW b = true → ∃ q, WH r2 r3 r4 r5 r6 r7 A B F b = some q ∧ q.avoid kW = true := fun b hb => by
  rcases Nat.lt_or_ge b 16 with h | h
  · rcases kW_lo h with rfl | rfl | rfl | rfl | rfl | rfl | rfl | rfl | rfl | rfl | rfl | rfl | rfl | rfl | rfl | rfl <;> first | exact absurd hb (by decide) | exact ⟨_, rfl, h2⟩ | exact ⟨_, rfl, h3⟩ | exact ⟨_, rfl, h4⟩ | exact ⟨_, rfl, h5⟩ | exact ⟨_, rfl, h6⟩ | exact ⟨_, rfl, h7⟩ | exact ⟨_, rfl, hA⟩ | exact ⟨_, rfl, hB⟩
  · obtain ⟨x, rfl⟩ : ∃ x, b = x + 16 := ⟨b - 16, by omega⟩
    exact ⟨_, fam_hi _ _ _, hF x⟩
theorem WH_of {h : AHeap} {r2 r3 r4 r5 r6 r7 A B : AObj} {F : Nat → AObj} (h2 : h 2 = some r2) (h3 : h 3 = some r3) (h4 : h 4 = some r4) (h5 : h 5 = some r5) (h6 : h 6 = some r6) (h7 : h 7 = some r7) (hA : h 8 = some A) (hB : h 12 = some B) (hF : ∀ x, h (x + 16) = some (F x)) :
    ∀ b, kW b = true → h b = WH r2 r3 r4 r5 r6 r7 A B F b := fun b hb => by
  rcases Nat.lt_or_ge b 16 with g | g
  · rcases kW_lo g with rfl | rfl | rfl | rfl | rfl | rfl | rfl | rfl | rfl | rfl | rfl | rfl | rfl | rfl | rfl | rfl <;> first | exact absurd hb (by decide) | exact h2 | exact h3 | exact h4 | exact h5 | exact h6 | exact h7 | exact hA | exact hB
  · obtain ⟨x, rfl⟩ : ∃ x, b = x + 16 := ⟨b - 16, by omega⟩
    exact (hF x).trans (fam_hi _ _ _).symm
abbrev ArW : AObj := .row false 1 [[.ptr 2 1 0 0]]
abbrev BrW (i : Nat) : AObj := .row false 1 [[.int .i64 (i : Int)]]
abbrev WS (f : BFunc) (R : Nat) (S : SS) (G : GG) (es : List (List AV)) (len : Nat) (w : Nat → Bool) (i : Nat) : AHeap :=
  WH (.row false 8 [SDc f R es.length len]) (.row false 1 (colF (aR (aheadL f)) f.blocks.length)) (.row false 1 (colF (oR f.blocks.length R S) R)) (.row false 1 (colF (gR f) f.blocks.length)) (.row true 1 es) (.row true 1 (bC R w)) ArW (BrW i) (DF f R S G)
theorem WS_avoid (f : BFunc) (R : Nat) (S : SS) (G : GG) (es : List (List AV)) (len : Nat) (w : Nat → Bool) (i : Nat) : ∀ b, kW b = true → ∃ q, WS f R S G es len w i b = some q ∧ q.avoid kW = true :=
  WH_avoid rfl (colF_avoid (fun b _ => aR_avoid kW_hi _ _)) (colF_avoid (fun b _ => oR_avoid kW_hi _ _ _ _)) (colF_avoid (fun b _ => gR_avoid kW_hi _ _)) rfl rfl rfl rfl (DF_avoid kW_hi f R S G)
theorem kpI_succ {G : Nat → Bool} {l : List Tac} {j : Nat} {t : Tac} (h : l[j]? = some t) : kpI G (l.take (j + 1)) 0 = kpI G (l.take j) 0 ++ (bif G j then [] else [t]) := by
  have hj := (List.getElem?_eq_some_iff.1 h).1
  have e : l.take (j + 1) = l.take j ++ [t] := by rw [List.take_add_one, h]; rfl
  rw [e, kpI_app, List.length_take, Nat.min_eq_left (by omega), Nat.zero_add]
  congr 1
theorem kpI_gone {G : Nat → Bool} {l : List Tac} {j : Nat} {t : Tac} (h : l[j]? = some t) (hg : G j = true) : kpI G (l.take (j + 1)) 0 = kpI G (l.take j) 0 := by rw [kpI_succ h, hg]; simp
theorem kpI_left {G : Nat → Bool} {l : List Tac} {j : Nat} {t : Tac} (h : l[j]? = some t) (hg : G j = false) : (kpI G (l.take j) 0).map Tac.cells ++ [t.cells] = (kpI G (l.take (j + 1)) 0).map Tac.cells := by rw [kpI_succ h, hg, List.map_append]; rfl
theorem cutF_ins {f : BFunc} {G : GG} {m : Nat} (h : ∀ x ∈ f.blocks, x.ins.length ≤ m) : ∀ x ∈ (cutF f G).blocks, x.ins.length ≤ m := fun y hy => by
  obtain ⟨b, hb⟩ := List.mem_iff_getElem?.1 hy
  obtain ⟨x, hx, rfl⟩ := cutF_of hb
  exact Nat.le_trans (kpI_len (G b) x.ins 0) (h x (List.mem_of_getElem? hx))
theorem rs0_row {f : BFunc} {R : Nat} : some (AObj.row false 8 [SDc f R ((List.range R).map natC).length R]) = some (AObj.row false 8 [SDc f R (rs0 R).es.length (rs0 R).ws.length]) := by
  show some (AObj.row false 8 [SDc f R ((List.range R).map natC).length R]) = some (AObj.row false 8 [SDc f R ((List.range R).map natC).length (List.range R).length])
  rw [List.length_range]
end Go.Proofs.Ytjmjmedjjbginaa.Sv

namespace Go.Proofs.Ytjmjmedjjbginaa.Sv
open Go

end Go.Proofs.Ytjmjmedjjbginaa.Sv

namespace Go.Proofs.Ytjmjmedjjbginaa.Sv
open Go

def insSumB (l : List Block) : Nat := (l.map fun x => x.ins.length).sum
theorem insSumB_succ {l : List Block} {k : Nat} {x : Block} (h : l[k]? = some x) : insSumB (l.take (k + 1)) = insSumB (l.take k) + x.ins.length := by
  rw [insSumB, take_succ_eq h]; simp [insSumB]
theorem sum_take_le {α : Type} {l : List α} {p : α → Nat} {k : Nat} : ((l.take k).map p).sum ≤ (l.map p).sum := by
  conv => rhs; rw [← List.take_append_drop k l]
  rw [List.map_append, List.sum_append]; omega
theorem insSumB_take {l : List Block} {k : Nat} : insSumB (l.take k) ≤ insSumB l := sum_take_le
def Blocks.parts (b : Blocks) : Nat := b.funcs.length + b.count
theorem Block.ext5 {x y : Block} (h1 : x.fin = y.fin) (h2 : x.v = y.v) (h3 : x.to = y.to) (h4 : x.els = y.els) (h5 : x.ins = y.ins) : x = y := by
  cases x; cases y; simp_all
theorem Blocks.ext' {x y : Blocks} (h1 : x.words = y.words) (h2 : x.funcs = y.funcs) : x = y := by
  cases x; cases y; simp_all
end Go.Proofs.Ytjmjmedjjbginaa.Sv

namespace Go.Proofs.Ytjmjmedjjbginaa.Sv
open Go

def few32 (f : BFunc) : Bool := decide (f.blocks.length ≤ 30) && (decide (f.regs ≤ 20) && (decide (insSumB f.blocks ≤ 150) && f.one 1073741824 32768))
def small32 (b : Blocks) : Bool := decide (b.funcs.length ≤ 10) && (decide (b.words ≤ 400) && (b.funcs.all few32 && b.right))
theorem sum_mem {x : Block} : ∀ {l : List Block}, x ∈ l → x.ins.length ≤ insSumB l
  | y :: l, h => by
    unfold insSumB
    rw [List.map_cons, List.sum_cons]
    rcases List.mem_cons.1 h with rfl | h
    · omega
    · have := sum_mem h; unfold insSumB at this; omega
theorem nexts_in {x : Block} {n : Nat} {r : Int} (h : x.ends n r = true) : ∀ d ∈ x.nexts, 0 ≤ d ∧ d < n := fun d hd => by
  unfold Block.ends at h
  unfold Block.nexts at hd
  cases e1 : x.fin == 1 with
  | true =>
    rw [e1] at h hd
    simp [within] at h hd
    omega
  | false =>
    cases e2 : x.fin == 2 with
    | true =>
      rw [e1, e2] at h hd
      simp [within] at h hd
      omega
    | false =>
      rw [e1, e2] at hd
      simp at hd
structure Few32 (f : BFunc) : Prop where
  s : f.sane
  n0 : 0 < f.blocks.length
  n : f.blocks.length ≤ 100000
  r : f.regs ≤ 100000
  i : ∀ x ∈ f.blocks, x.ins.length ≤ 100000
theorem one_sane {f : BFunc} {n w : Int} (h : f.one n w = true) : f.sane := by
  obtain ⟨h1, h2, h3, h4⟩ := one_spec h
  refine ⟨h1, fun x hx t ht => fits_inR ((h4 x hx).2 t ht), fun x hx e => ?_, fun x hx => nexts_in (h4 x hx).1⟩
  have he := (h4 x hx).1
  unfold Block.ends at he
  rw [e] at he
  simp [within] at he
  omega
theorem few32_spec {f : BFunc} (h : few32 f = true) : f.blocks.length ≤ 30 ∧ f.regs ≤ 20 ∧ insSumB f.blocks ≤ 150 ∧ f.one 1073741824 32768 = true := by
  simpa [few32] using h
theorem few32_of {f : BFunc} (h : few32 f = true) : Few32 f := by
  obtain ⟨h1, h2, h3, h4⟩ := few32_spec h
  refine ⟨one_sane h4, List.length_pos_iff.2 (one_spec h4).2.2.1, by omega, by omega, fun x hx => ?_⟩
  have := sum_mem hx
  omega
theorem Few32.dnf {f : BFunc} (h : Few32 f) : Few32 (dnf f) := by
  have hc := cut_regs (dnf_cuts f)
  refine ⟨cuts_sane (dnf_cuts f) h.s, by rw [hc.2]; exact h.n0, by rw [hc.2]; exact h.n, by rw [hc.1]; exact h.r, cuts_ins (dnf_cuts f) h.i⟩
theorem BFunc.Ok.big32 {f : BFunc} (h : f.Ok) : f.blocks.length ≤ big ∧ ∀ x ∈ f.blocks, x.ins.length ≤ big := by
  have h1 := h.len
  refine ⟨by simp only [reachBytes] at h1; unfold big; omega, fun x hx => ?_⟩
  have := (h.blocks x hx).len
  simp only [reachBytes] at this; unfold big; omega
theorem dnf_insW {b : Blocks} (h : b.insW) : b.dnf.insW := fun g hg x hx => by
  obtain ⟨f, hf, rfl⟩ := List.mem_map.1 hg
  have key : ∀ {f g : BFunc}, Cuts f g → (∀ x ∈ f.blocks, Sv.insW x.ins) → ∀ x ∈ g.blocks, Sv.insW x.ins := fun {f g} hc => by
    induction hc with
    | refl => exact fun h => h
    | step a _ ih =>
      intro h
      refine ih fun y hy => ?_
      obtain ⟨c, x, l1, t, l2, v, ha⟩ := a
      rw [ha.hg] at hy
      rcases List.mem_or_eq_of_mem_set hy with hy | rfl
      · exact h y hy
      · have := h x (List.mem_of_getElem? ha.hx)
        rw [ha.hi] at this
        intro t ht
        refine this t ?_
        rcases List.mem_append.1 (show t ∈ l1 ++ l2 from ht) with h | h
        · exact List.mem_append.2 (.inl h)
        · exact List.mem_append.2 (.inr (List.mem_cons.2 (.inr h)))
  exact key (dnf_cuts f) (h f hf) x hx
inductive Part : List Tac → List Tac → Prop
  | nil : Part [] []
  | keep (t : Tac) {x y : List Tac} : Part x y → Part (t :: x) (t :: y)
  | drop {t : Tac} {x y : List Tac} : t.pure = true → Part x y → Part (t :: x) y
theorem Part.refl : ∀ l, Part l l
  | [] => .nil
  | t :: l => .keep t (Part.refl l)
theorem Part.trans {x y z : List Tac} (h : Part x y) : Part y z → Part x z := by
  induction h generalizing z with
  | nil => exact fun h => h
  | keep t _ ih =>
    intro h
    cases h with
    | keep _ h => exact .keep t (ih h)
    | drop h1 h2 => exact .drop h1 (ih h2)
  | drop h1 _ ih => exact fun h => .drop h1 (ih h)
theorem Part.cut {t : Tac} {l2 : List Tac} (h : t.pure = true) : ∀ l1, Part (l1 ++ t :: l2) (l1 ++ l2)
  | [] => .drop h (.refl l2)
  | u :: l1 => .keep u (Part.cut h l1)
abbrev c32 : Tac := ⟨1, 0, 0, 0, 0, 0, 0, 5⟩
abbrev y32 : Tac := ⟨2, 1, 0, 0, 0, 0, 0, 0⟩
abbrev p32 (a : Int) : Tac := ⟨9, 0, a, 0, 0, 0, 0, 0⟩
abbrev one32 (r : Int) (l : List Tac) : BFunc := ⟨r, [⟨l, 3, 0, 0, 0⟩]⟩
theorem end32 {r : Int} {l l' : List Tac} (v : Nat) : endB (one32 r l) ⟨l', 3, 0, 0, 0⟩ v = false := rfl
theorem cut32 {r : Int} {l1 l2 : List Tac} {t : Tac} {v : Nat} (hp : t.pure = true) (hv : t.sets = (v : Int)) (hd : need v l2 false = false) : Cut (one32 r (l1 ++ t :: l2)) (one32 r (l1 ++ l2)) :=
  ⟨0, _, l1, t, l2, v, rfl, rfl, hp, hv, by rw [end32]; exact hd, rfl⟩
theorem one_app {l1 l2 : List Tac} {t a : Tac} (h : [a] = l1 ++ t :: l2) : t = a ∧ l2 = [] := by
  cases l1 with
  | nil => simp at h; exact ⟨h.1.symm, h.2⟩
  | cons b l1 => simp at h
theorem clean32 {r : Int} {l : List Tac} (h : ∀ l1 t l2 (v : Nat), l = l1 ++ t :: l2 → t.pure = true → t.sets = (v : Int) → need v l2 false = true) : Clean (one32 r l) := fun g hg => by
  obtain ⟨c, x, l1, t, l2, v, hc⟩ := hg
  have hx := hc.hx
  have hc0 : c = 0 := by
    have := (List.getElem?_eq_some_iff.1 hx).1
    simp at this; exact this
  subst hc0
  have hx0 : x = ⟨l, 3, 0, 0, 0⟩ := by simpa using hx.symm
  subst hx0
  have := h l1 t l2 v hc.hi hc.pure hc.hv
  have hd := hc.dead
  rw [end32, this] at hd
  cases hd
theorem aw32a : dnf (one32 3 [c32, y32, p32 2]) = one32 3 [p32 2] := by
  refine (dnf_eq (.step (cut32 (l1 := [c32]) (t := y32) (l2 := [p32 2]) (v := 1) rfl rfl rfl) (.step (cut32 (l1 := []) (t := c32) (l2 := [p32 2]) (v := 0) rfl rfl rfl) (.refl _))) (clean32 fun l1 t l2 v e hp hv => ?_)).symm
  obtain ⟨rfl, rfl⟩ := one_app e
  cases hp
theorem aw32b : dnf (one32 1 [c32, p32 0]) = one32 1 [c32, p32 0] := by
  refine dnf_self (clean32 fun l1 t l2 v e hp hv => ?_)
  cases l1 with
  | nil =>
    simp at e
    obtain ⟨rfl, rfl⟩ := e
    have : v = 0 := by
      have : ((0 : Int)) = (v : Int) := hv
      omega
    subst this; rfl
  | cons a l1 =>
    simp at e
    obtain ⟨_, e⟩ := e
    obtain ⟨rfl, rfl⟩ := one_app e
    cases hp
theorem aw32c : inRows (one32 3 [p32 2]) = [[false, false, true]] := by
  have h : ∀ v, inB (one32 3 [p32 2]) v 0 = need v [p32 2] false := fun v => (inB_eq rfl).trans (by rw [end32])
  show [mrow 3 _] = _
  congr 1
  show [inB _ 0 0, inB _ 1 0, inB _ 2 0] = _
  rw [h, h, h]; rfl
theorem aw32_few (r : Int) (l : List Tac) (h : few32 (one32 r l) = true) : Few32 (one32 r l) := few32_of h
end Go.Proofs.Ytjmjmedjjbginaa.Sv

namespace Go.Proofs.Ytjmjmedjjbginaa.Sv
open Go

theorem two_len (l : List BFunc) : ∀ cs ∈ l.map BFunc.cells, cs.length = 2 := fun cs h => by
  obtain ⟨f, _, rfl⟩ := List.mem_map.1 h; rfl
theorem two_pure (l : List BFunc) : ∀ cs ∈ l.map BFunc.cells, cs.all AV.isPure1 = true := fun cs h => by
  obtain ⟨f, _, rfl⟩ := List.mem_map.1 h; rfl
theorem dnf_at {b : Blocks} {k : Nat} {f : BFunc} (h : b.funcs[k]? = some f) : b.dnf.funcs[k]? = some (dnf f) := by
  show (b.funcs.map Sv.dnf)[k]? = _
  rw [List.getElem?_map, h]; rfl
theorem dnf_take {b : Blocks} {k : Nat} {f : BFunc} (h : b.funcs[k]? = some f) : (b.dnf.funcs.take k).map BFunc.cells ++ [(dnf f).cells] = (b.dnf.funcs.take (k + 1)).map BFunc.cells := by
  rw [List.take_add_one, dnf_at h, List.map_append]; rfl
theorem dnf_flen (b : Blocks) : b.dnf.funcs.length = b.funcs.length := List.length_map _
structure Small32 (b : Blocks) : Prop where
  n : b.funcs.length ≤ 10
  f : ∀ f ∈ b.funcs, Few32 f
  r : b.right = true
theorem small32_of {b : Blocks} (h : small32 b = true) : Small32 b := by
  simp only [small32, Bool.and_eq_true, decide_eq_true_eq] at h
  exact ⟨h.1, fun f hf => few32_of (List.all_eq_true.1 h.2.2.1 f hf), h.2.2.2⟩
theorem Small32.dnf {b : Blocks} (h : Small32 b) : Small32 b.dnf := by
  refine ⟨by rw [dnf_flen]; exact h.n, fun g hg => ?_, right_dnf h.r⟩
  obtain ⟨f, hf, rfl⟩ := List.mem_map.1 hg
  exact (h.f f hf).dnf
theorem Small32.bigs {b : Blocks} (h : Small32 b) : ∀ f ∈ b.funcs, ∀ x ∈ f.blocks, x.ins.length ≤ big := fun f hf x hx => by
  have := (h.f f hf).i x hx
  unfold big; omega
theorem small32_insW {b : Blocks} (h : b.Ok) : b.insW := fun f hf x hx => BFunc.Ok.insW (h.funcs f hf) hx
theorem all_take {l : List BFunc} {k : Nat} {f : BFunc} (h : l[k]? = some f) (h1 : (l.take k).all few32 = true) (h2 : few32 f = true) : (l.take (k + 1)).all few32 = true := by
  rw [List.take_add_one, h, List.all_append, h1]
  simp [h2]
theorem small_lens32 {f : BFunc} (h : Few32 f) : f.blocks.length ≤ 1000000000000000 ∧ ∀ x ∈ f.blocks, x.ins.length ≤ 1000000000000000 := by
  have := h.n
  refine ⟨by omega, fun x hx => ?_⟩
  have := h.i x hx
  omega
theorem all_no {l : List BFunc} {f : BFunc} (h : f ∈ l) (h2 : few32 f = false) : l.all few32 = false := by
  rw [Bool.eq_false_iff]
  intro e
  have := List.all_eq_true.1 e f h
  rw [h2] at this; cases this
end Go.Proofs.Ytjmjmedjjbginaa.Sv
