/-
  The law DeadRuns of the given program answers true for every input, and leaves its arguments as they were. There is no condition. Own work.
  THE PROGRAM'S OWN MACHINE (a stack of frames) DOES AS THE DOCUMENT'S (recursion), IN PLAIN LEAN: own work, over no program.
  THE PROGRAM'S OWN MACHINE AS IT LIES IN MEMORY: own work, over no program.
  WALKS: printed by a program of our own from the code's tree.
  WALKS: printed by a program of our own from the code's tree.
  WALKS: printed by a program of our own from the code's tree.
  WALKS: printed by a program of our own from the code's tree.
  THE MEMORY OF THE PROGRAM'S OWN MACHINE: the rows of registers have the numbers from 16 on: own work, over no program.
  ROUNDS OF THE PROGRAM'S OWN MACHINE, IN PLAIN LEAN: own work, over no program.
  WALKS: printed by a program of our own from the code's tree.
  WALKS: printed by a program of our own from the code's tree.
  How strings read: own work.
-/
import Derived.Test.YtjmjmedjjbginaaPDeadRuns2
import Derived.Test.YtjmjmedjjbginaaPDeadRuns5
import Derived.Test.YtjmjmedjjbginaaPDeadRuns4
namespace Go.Proofs.Ytjmjmedjjbginaa.Sv
open Go

section
variable {call call' : Int → Mach → Mach} {s : ByteArray} {fuel : Int}
def callsEq (call call' : Int → Mach → Mach) (ok : Int → Prop) : Prop := ∀ i m, ok i → call i m = call' i m
theorem mone_congr {ok : Int → Prop} (hc : callsEq call call' ok) (t : Tac) (ht : t.op = 10 → ok t.base) (regs : List Int) (m : Mach) : mone call s t regs m = mone call' s t regs m := by
  by_cases h : t.op = 10
  · rw [mone10 h, mone10 h, hc _ _ (ht h)]
  · unfold mone
    have : (t.op == 10) = false := by rw [beq_eq_false_iff_ne]; exact h
    simp only [this, cond_false]
theorem mins_congr {ok : Int → Prop} (hc : callsEq call call' ok) : ∀ (l : List Tac), (∀ t ∈ l, t.op = 10 → ok t.base) → ∀ (regs : List Int) (m : Mach), mins call s fuel l regs m = mins call' s fuel l regs m
  | [], _, _, _ => rfl
  | t :: r, hl, regs, m => by
    unfold mins
    rw [mone_congr hc t (hl t (by simp))]
    cases (mstep fuel m).1 with
    | false => rfl
    | true =>
      simp only [cond_true]
      rw [mins_congr hc r (fun t ht => hl t (by simp [ht]))]
theorem mblk_congr {ok : Int → Prop} (hc : callsEq call call' ok) {f : BFunc} (hf : ∀ x ∈ f.blocks, ∀ t ∈ x.ins, t.op = 10 → ok t.base) : ∀ (g : Nat) (i : Int) (regs : List Int) (m : Mach), mblk call s fuel f g i regs m = mblk call' s fuel f g i regs m
  | 0, _, _, _ => rfl
  | g + 1, i, regs, m => by
    unfold mblk
    cases e : f.blocks[i.toNat]? with
    | none => rfl
    | some k =>
      simp only
      rw [mins_congr hc k.ins (hf k (List.mem_of_getElem? e))]
      cases (mins call' s fuel k.ins regs m).1 with
      | false => rfl
      | true =>
        simp only [cond_true]
        cases (mstep fuel (mins call' s fuel k.ins regs m).2.2).1 && !(k.fin == 3) with
        | false => rfl
        | true => simp only [cond_true]; exact mblk_congr hc hf g _ _ _
theorem mblk_gas (hcs : ∀ i m, m.steps ≤ (call i m).steps) {f : BFunc} : ∀ (g g' : Nat) (i : Int) (regs : List Int) (m : Mach), gasOk fuel g m → gasOk fuel g' m → 0 < g → 0 < g' → mblk call s fuel f g i regs m = mblk call s fuel f g' i regs m
  | 0, _, _, _, _, _, _, h, _ => absurd h (by omega)
  | _ + 1, 0, _, _, _, _, _, _, h => absurd h (by omega)
  | g + 1, g' + 1, i, regs, m, h, h', _, _ => by
    unfold mblk
    cases e : f.blocks[i.toNat]? with
    | none => rfl
    | some k =>
      simp only
      have hs := mins_steps (call := call) (s := s) (fuel := fuel) hcs k.ins regs m
      generalize mins call s fuel k.ins regs m = p at hs ⊢
      cases p.1 with
      | false => rfl
      | true =>
        simp only [cond_true]
        cases e2 : (mstep fuel p.2.2).1 with
        | false => rfl
        | true =>
          obtain ⟨a1, a2⟩ := mstep_true e2
          rw [a2]
          cases !(k.fin == 3) with
          | false => rfl
          | true =>
            simp only [Bool.true_and, cond_true]
            unfold gasOk at h h'
            refine mblk_gas hcs g g' _ _ _ ?_ ?_ ?_ ?_
            · show fuel.toNat < p.2.2.steps + 1 + g; omega
            · show fuel.toNat < p.2.2.steps + 1 + g'; omega
            · omega
            · omega
end
theorem right_calls {b : Blocks} (hb : b.right = true) {i : Nat} {f : BFunc} (hf : b.funcs[i]? = some f) : ∀ x ∈ f.blocks, ∀ t ∈ x.ins, t.op = 10 → 0 ≤ t.base ∧ t.base < (i : Int) := fun x hx t ht h10 => by
  have h1 := (right_spec hb).2.2.2 i f hf
  have h2 := (one_spec h1).2.2.2 x hx
  have h3 := h2.2 t ht
  have := (tacIn_of h3).call h10
  simpa using this
theorem mfun_level {b : Blocks} (hb : b.right = true) {s : ByteArray} {fuel : Int} : ∀ (n n' : Nat) (i : Int) (m : Mach), 0 ≤ i → i < n → i < n' → i < b.funcs.length → mfun b s fuel n i m = mfun b s fuel n' i m
  | 0, _, i, _, h0, h, _, _ => absurd h (by omega)
  | _ + 1, 0, i, _, h0, _, h, _ => absurd h (by omega)
  | n + 1, n' + 1, i, m, h0, h, h', hl => by
    obtain ⟨f, hf⟩ := get_of_lt (l := b.funcs) (k := i.toNat) (by omega)
    unfold mfun
    rw [hf]
    simp only
    refine mblk_congr (ok := fun j => 0 ≤ j ∧ j < i) (fun j m hj => mfun_level hb n n' j m hj.1 (by omega) (by omega) (by omega)) (fun x hx t ht h10 => ?_) _ _ _ _
    have := right_calls hb hf x hx t ht h10
    omega

structure FrB where
  f : Nat
  blk : Int
  at' : Nat
structure Q24 where
  now : FrB
  above : List FrB
  R : List (Option (List Int))
  m : Mach
def rOf (R : List (Option (List Int))) (f : Nat) : List Int := ((R[f]?).getD none).getD []
section
variable {b : Blocks} {s : ByteArray} {fuel : Int}
def restB (b : Blocks) (s : ByteArray) (fuel : Int) (f : Nat) (F : BFunc) (k : Block) (at' : Nat) (regs : List Int) (m : Mach) : Mach :=
  let p := mins (mfun b s fuel f) s fuel (k.ins.drop at') regs m
  bif p.1 then (bif (mstep fuel p.2.2).1 && !(k.fin == 3) then mblk (mfun b s fuel f) s fuel F (fuel.toNat + 1) (k.next p.2.1) p.2.1 (mstep fuel p.2.2).2 else (mstep fuel p.2.2).2) else p.2.2
def resume (b : Blocks) (s : ByteArray) (fuel : Int) (fr : FrB) (regs : List Int) (m : Mach) : Mach :=
  match b.funcs[fr.f]? with
  | none => m
  | some F => match F.blocks[fr.blk.toNat]? with
    | none => m
    | some k => restB b s fuel fr.f F k fr.at' regs m
def unwind (b : Blocks) (s : ByteArray) (fuel : Int) (R : List (Option (List Int))) : List FrB → Mach → Mach
  | [], m => m
  | fr :: r, m => if m.fin = 0 then unwind b s fuel R r (resume b s fuel fr (rOf R fr.f) m) else m
theorem unwind_fin {R : List (Option (List Int))} {m : Mach} (h : m.fin ≠ 0) : ∀ l : List FrB, unwind b s fuel R l m = m
  | [] => rfl
  | fr :: r => by unfold unwind; rw [if_neg h]
def cont (b : Blocks) (s : ByteArray) (fuel : Int) (q : Q24) : Mach := unwind b s fuel q.R q.above.reverse (resume b s fuel q.now (rOf q.R q.now.f) q.m)
theorem callSteps (b : Blocks) (s : ByteArray) (fuel : Int) (n : Nat) : ∀ i m, m.steps ≤ (mfun b s fuel n i m).steps := fun i m => mfun_steps n i m
theorem mblk_rest {F : BFunc} {f : Nat} {i : Int} {k : Block} (hk : F.blocks[i.toNat]? = some k) {g : Nat} (regs : List Int) (m : Mach) (hg : gasOk fuel g m) (h0 : 0 < g) : mblk (mfun b s fuel f) s fuel F g i regs m = restB b s fuel f F k 0 regs m := by
  obtain ⟨g, rfl⟩ : ∃ g', g = g' + 1 := ⟨g - 1, by omega⟩
  unfold mblk restB
  rw [hk]
  simp only [List.drop_zero]
  have hs := mins_steps (call := mfun b s fuel f) (s := s) (fuel := fuel) (callSteps b s fuel f) k.ins regs m
  generalize mins (mfun b s fuel f) s fuel k.ins regs m = p at hs ⊢
  cases p.1 with
  | false => rfl
  | true =>
    simp only [cond_true]
    cases e2 : (mstep fuel p.2.2).1 with
    | false => rfl
    | true =>
      obtain ⟨a1, a2⟩ := mstep_true e2
      rw [a2]
      cases !(k.fin == 3) with
      | false => rfl
      | true =>
        simp only [Bool.true_and, cond_true]
        unfold gasOk at hg
        refine mblk_gas (callSteps b s fuel f) _ _ _ _ _ ?_ ?_ ?_ ?_
        · show fuel.toNat < p.2.2.steps + 1 + g; omega
        · show fuel.toNat < p.2.2.steps + 1 + (fuel.toNat + 1); omega
        · omega
        · omega
structure FrOk (b : Blocks) (R : List (Option (List Int))) (fr : FrB) : Prop where
  ex : ∃ F k l, b.funcs[fr.f]? = some F ∧ F.blocks[fr.blk.toNat]? = some k ∧ 0 ≤ fr.blk ∧ fr.at' ≤ k.ins.length ∧ R[fr.f]? = some (some l) ∧ l.length = F.regs.toNat ∧ allR l
theorem rOf_get {R : List (Option (List Int))} {f : Nat} {l : List Int} (h : R[f]? = some (some l)) : rOf R f = l := by simp [rOf, h]
theorem rOf_set {R : List (Option (List Int))} {f g : Nat} {l : List Int} (h : f ≠ g) : rOf (R.set g (some l)) f = rOf R f := by
  unfold rOf; rw [List.getElem?_set_ne (Ne.symm h)]
theorem rOf_self {R : List (Option (List Int))} {f : Nat} {l : List Int} (h : f < R.length) : rOf (R.set f (some l)) f = l := by
  unfold rOf; rw [List.getElem?_set_self h]; rfl
theorem unwind_set {R : List (Option (List Int))} {g : Nat} {l : List Int} : ∀ (fs : List FrB), (∀ fr ∈ fs, fr.f ≠ g) → ∀ m, unwind b s fuel (R.set g (some l)) fs m = unwind b s fuel R fs m
  | [], _, _ => rfl
  | fr :: r, h, m => by
    unfold unwind
    rw [rOf_set (h fr (by simp))]
    split
    · exact unwind_set r (fun x hx => h x (by simp [hx])) _
    · rfl
theorem resume_eq {fr : FrB} {F : BFunc} {k : Block} (hF : b.funcs[fr.f]? = some F) (hk : F.blocks[fr.blk.toNat]? = some k) (regs : List Int) (m : Mach) : resume b s fuel fr regs m = restB b s fuel fr.f F k fr.at' regs m := by
  unfold resume; rw [hF]; simp only; rw [hk]
structure SInv (b : Blocks) (s : ByteArray) (fuel : Int) (W : Nat) (tgt : Mach) (q : Q24) : Prop where
  good : q.m.good W
  fin : q.m.fin = 0
  rl : q.R.length = b.funcs.length
  now : FrOk b q.R q.now
  ab : ∀ fr ∈ q.above, FrOk b q.R fr
  lt : ∀ fr ∈ q.above, q.now.f < fr.f
  sort : q.above.Pairwise (fun x y => y.f < x.f)
  al : q.above.length ≤ q.m.steps
  tgt : cont b s fuel q = tgt
variable {W : Nat} {tgt : Mach} {q : Q24}
theorem drop_get {α : Type} {l : List α} {k : Nat} {x : α} (h : l[k]? = some x) : l.drop k = x :: l.drop (k + 1) := by
  obtain ⟨a, b⟩ := List.getElem?_eq_some_iff.1 h
  rw [List.drop_eq_getElem_cons a, b]
theorem SInv.noFuel (h : SInv b s fuel W tgt q) (hf : decide ((q.m.steps : Int) ≥ fuel) = true) : tgt = { q.m with fin := 5 } := by
  obtain ⟨F, k, l, h1, h2, h3, h4, h5, h6, h7⟩ := h.now.ex
  rw [← h.tgt, cont, resume_eq h1 h2]
  have hm := mstep_no hf
  have key : restB b s fuel q.now.f F k q.now.at' (rOf q.R q.now.f) q.m = { q.m with fin := 5 } := by
    unfold restB
    by_cases hat : q.now.at' < k.ins.length
    · obtain ⟨t, ht⟩ := get_of_lt hat
      rw [drop_get ht]
      unfold mins
      rw [hm]
      rfl
    · rw [List.drop_eq_nil_of_le (by omega)]
      unfold mins
      simp only [cond_true, hm, Bool.false_and, cond_false]
  rw [key, unwind_fin (by show (5 : Int) ≠ 0; decide)]
theorem good_step {m : Mach} (h : m.good W) : ({ m with steps := m.steps + 1 } : Mach).good W := ⟨h.len, h.words, h.out⟩
theorem SInv.insEnd (h : SInv b s fuel W tgt q) {F : BFunc} {k : Block} {t : Tac} {l : List Int} (h1 : b.funcs[q.now.f]? = some F) (h2 : F.blocks[q.now.blk.toNat]? = some k) (ht : k.ins[q.now.at']? = some t) (hl : q.R[q.now.f]? = some (some l)) (hf : decide ((q.m.steps : Int) ≥ fuel) = false) (h10 : t.op ≠ 10)
    (he : (mone (fun _ m => m) s t l { q.m with steps := q.m.steps + 1 }).2.fin ≠ 0) : tgt = (mone (fun _ m => m) s t l { q.m with steps := q.m.steps + 1 }).2 := by
  rw [← h.tgt, cont, resume_eq h1 h2, rOf_get hl]
  have hc : mone (mfun b s fuel q.now.f) s t l { q.m with steps := q.m.steps + 1 } = mone (fun _ m => m) s t l { q.m with steps := q.m.steps + 1 } := mone_congr (ok := fun _ => False) (fun _ _ h => h.elim) t (fun e => (h10 e).elim) _ _
  have key : restB b s fuel q.now.f F k q.now.at' l q.m = (mone (fun _ m => m) s t l { q.m with steps := q.m.steps + 1 }).2 := by
    unfold restB
    rw [drop_get ht]
    unfold mins
    rw [mstep_yes hf]
    simp only [cond_true, hc]
    have : ((mone (fun _ m => m) s t l { q.m with steps := q.m.steps + 1 }).2.fin == 0) = false := by rw [beq_eq_false_iff_ne]; exact he
    rw [this]
    rfl
  rw [key, unwind_fin he]
theorem SInv.ins (h : SInv b s fuel W tgt q) {F : BFunc} {k : Block} {t : Tac} {l : List Int} (h1 : b.funcs[q.now.f]? = some F) (h2 : F.blocks[q.now.blk.toNat]? = some k) (ht : k.ins[q.now.at']? = some t) (hw : isW t.n) (hl : q.R[q.now.f]? = some (some l)) (hf : decide ((q.m.steps : Int) ≥ fuel) = false) (h10 : t.op ≠ 10)
    (he : (mone (fun _ m => m) s t l { q.m with steps := q.m.steps + 1 }).2.fin = 0) (hst : (mone (fun _ m => m) s t l { q.m with steps := q.m.steps + 1 }).2.steps = q.m.steps + 1) :
    SInv b s fuel W tgt ⟨⟨q.now.f, q.now.blk, q.now.at' + 1⟩, q.above, q.R.set q.now.f (some (mone (fun _ m => m) s t l { q.m with steps := q.m.steps + 1 }).1), (mone (fun _ m => m) s t l { q.m with steps := q.m.steps + 1 }).2⟩ := by
  obtain ⟨F', k', l', g1, g2, g3, g4, g5, g6, g7⟩ := h.now.ex
  rw [h1] at g1; cases g1
  rw [h2] at g2; cases g2
  rw [hl] at g5; cases g5
  have hlt := (List.getElem?_eq_some_iff.1 hl).1
  have hat := (List.getElem?_eq_some_iff.1 ht).1
  obtain ⟨m1, m2, m3⟩ := mone_good (call := fun _ m => m) (s := s) (fun _ _ h => h) t hw g7 (good_step h.good)
  have hc : mone (mfun b s fuel q.now.f) s t l { q.m with steps := q.m.steps + 1 } = mone (fun _ m => m) s t l { q.m with steps := q.m.steps + 1 } := mone_congr (ok := fun _ => False) (fun _ _ h => h.elim) t (fun e => (h10 e).elim) _ _
  refine ⟨m3, he, by rw [List.length_set]; exact h.rl, ⟨F, k, _, h1, h2, g3, by show q.now.at' + 1 ≤ _; omega, by rw [List.getElem?_set_self hlt], by rw [m2]; exact g6, m1⟩, fun fr hfr => ?_, h.lt, h.sort, ?_, ?_⟩
  · obtain ⟨F2, k2, l2, a1, a2, a3, a4, a5, a6, a7⟩ := (h.ab fr hfr).ex
    have := h.lt fr hfr
    exact ⟨F2, k2, l2, a1, a2, a3, a4, by rw [List.getElem?_set_ne (by omega)]; exact a5, a6, a7⟩
  · show q.above.length ≤ _; rw [hst]; have := h.al; omega
  · rw [← h.tgt, cont, cont]
    simp only
    rw [unwind_set _ (fun fr hfr => by have := h.lt fr (by simpa using hfr); omega), rOf_self hlt, resume_eq h1 h2, resume_eq (fr := ⟨q.now.f, q.now.blk, q.now.at' + 1⟩) h1 h2, rOf_get hl]
    congr 1
    unfold restB
    rw [drop_get ht]
    conv => rhs; unfold mins
    rw [mstep_yes hf]
    simp only [cond_true, hc, he]
    rfl
theorem SInv.call (hb : b.right = true) (hW : W = b.words.toNat) (h : SInv b s fuel W tgt q) {F : BFunc} {k : Block} {t : Tac} (h1 : b.funcs[q.now.f]? = some F) (h2 : F.blocks[q.now.blk.toNat]? = some k) (ht : k.ins[q.now.at']? = some t) (hf : decide ((q.m.steps : Int) ≥ fuel) = false) (h10 : t.op = 10) {G : BFunc} (hG : b.funcs[t.base.toNat]? = some G) :
    SInv b s fuel W tgt ⟨⟨t.base.toNat, 0, 0⟩, q.above ++ [⟨q.now.f, q.now.blk, q.now.at' + 1⟩], q.R.set t.base.toNat (some (List.replicate G.regs.toNat 0)), { q.m with steps := q.m.steps + 1 }⟩ := by
  obtain ⟨F', k', l, g1, g2, g3, g4, g5, g6, g7⟩ := h.now.ex
  rw [h1] at g1; cases g1
  rw [h2] at g2; cases g2
  have hbase := right_calls hb h1 k (List.mem_of_getElem? h2) t (List.mem_of_getElem? ht) h10
  have hat := (List.getElem?_eq_some_iff.1 ht).1
  have hlt : t.base.toNat < q.R.length := by have := (List.getElem?_eq_some_iff.1 hG).1; rw [h.rl]; exact this
  have hGb : G.blocks ≠ [] := (one_spec ((right_spec hb).2.2.2 _ G hG)).2.2.1
  obtain ⟨k0, hk0⟩ := get_of_lt (l := G.blocks) (k := 0) (List.length_pos_iff.2 hGb)
  have hne : q.now.f ≠ t.base.toNat := by omega
  refine ⟨good_step h.good, h.fin, by rw [List.length_set]; exact h.rl, ⟨G, k0, _, hG, hk0, Int.le_refl _, Nat.zero_le _, by rw [List.getElem?_set_self hlt], by simp, allR_rep _⟩, fun fr hfr => ?_, fun fr hfr => ?_, ?_, ?_, ?_⟩
  · simp only [List.mem_append, List.mem_singleton] at hfr
    rcases hfr with hfr | rfl
    · obtain ⟨F2, k2, l2, a1, a2, a3, a4, a5, a6, a7⟩ := (h.ab fr hfr).ex
      have := h.lt fr hfr
      exact ⟨F2, k2, l2, a1, a2, a3, a4, by rw [List.getElem?_set_ne (by omega)]; exact a5, a6, a7⟩
    · exact ⟨F, k, l, h1, h2, g3, by show q.now.at' + 1 ≤ _; omega, by rw [List.getElem?_set_ne (Ne.symm hne)]; exact g5, g6, g7⟩
  · simp only [List.mem_append, List.mem_singleton] at hfr
    show t.base.toNat < fr.f
    rcases hfr with hfr | rfl
    · have := h.lt fr hfr; omega
    · show t.base.toNat < q.now.f; omega
  · refine List.pairwise_append.2 ⟨h.sort, List.pairwise_singleton _ _, fun x hx y hy => ?_⟩
    simp only [List.mem_singleton] at hy
    subst hy
    exact h.lt x hx
  · have := h.al; simp only [List.length_append, List.length_singleton]; omega
  · rw [← h.tgt, cont, cont]
    simp only [List.reverse_append, List.reverse_singleton, List.singleton_append]
    rw [rOf_self hlt, resume_eq h1 h2, rOf_get g5]
    -- what the call comes to
    have hcall : resume b s fuel ⟨t.base.toNat, 0, 0⟩ (List.replicate G.regs.toNat 0) { q.m with steps := q.m.steps + 1 } = mfun b s fuel q.now.f t.base { q.m with steps := q.m.steps + 1 } := by
      rw [resume_eq hG hk0]
      have hlev := mfun_level hb (s := s) (fuel := fuel) q.now.f (t.base.toNat + 1) t.base { q.m with steps := q.m.steps + 1 } hbase.1 (by omega) (by omega) (by have := (List.getElem?_eq_some_iff.1 h1).1; omega)
      rw [hlev]
      conv => rhs; unfold mfun
      rw [hG]
      simp only
      rw [mblk_rest (i := 0) hk0 _ _ (by unfold gasOk; omega) (by omega)]
    rw [hcall]
    generalize hM : mfun b s fuel q.now.f t.base { q.m with steps := q.m.steps + 1 } = M
    have hkey : restB b s fuel q.now.f F k q.now.at' l q.m = if M.fin = 0 then restB b s fuel q.now.f F k (q.now.at' + 1) l M else M := by
      unfold restB
      rw [drop_get ht]
      conv => lhs; unfold mins
      rw [mstep_yes hf]
      simp only [cond_true, mone10 h10, hM]
      by_cases hz : M.fin = 0
      · rw [if_pos hz, hz]; rfl
      · have : (M.fin == 0) = false := by rw [beq_eq_false_iff_ne]; exact hz
        rw [if_neg hz, this]; rfl
    rw [hkey]
    have hab : ∀ fr ∈ q.above.reverse, fr.f ≠ t.base.toNat := fun fr hfr => by have := h.lt fr (by simpa using hfr); omega
    conv => lhs; unfold unwind
    by_cases hz : M.fin = 0
    · rw [if_pos hz, if_pos hz, rOf_set hne, unwind_set _ hab, resume_eq (fr := ⟨q.now.f, q.now.blk, q.now.at' + 1⟩) h1 h2, rOf_get g5]
    · rw [if_neg hz, if_neg hz, unwind_fin hz]
theorem SInv.endRest (h : SInv b s fuel W tgt q) {F : BFunc} {k : Block} {l : List Int} (h1 : b.funcs[q.now.f]? = some F) (h2 : F.blocks[q.now.blk.toNat]? = some k) (hat : k.ins.length ≤ q.now.at') (hf : decide ((q.m.steps : Int) ≥ fuel) = false) :
    resume b s fuel q.now l q.m = bif !(k.fin == 3) then mblk (mfun b s fuel q.now.f) s fuel F (fuel.toNat + 1) (k.next l) l { q.m with steps := q.m.steps + 1 } else { q.m with steps := q.m.steps + 1 } := by
  rw [resume_eq h1 h2]
  unfold restB
  rw [List.drop_eq_nil_of_le hat]
  unfold mins
  simp only [cond_true, mstep_yes hf, Bool.true_and]
theorem SInv.jump (hb : b.right = true) (h : SInv b s fuel W tgt q) {F : BFunc} {k : Block} {l : List Int} (h1 : b.funcs[q.now.f]? = some F) (h2 : F.blocks[q.now.blk.toNat]? = some k) (hat : k.ins.length ≤ q.now.at') (hl : q.R[q.now.f]? = some (some l)) (hf : decide ((q.m.steps : Int) ≥ fuel) = false) (h3 : (k.fin == 3) = false) {to : Int} (hto : k.next l = to) :
    SInv b s fuel W tgt ⟨⟨q.now.f, to, 0⟩, q.above, q.R, { q.m with steps := q.m.steps + 1 }⟩ := by
  obtain ⟨F', k', l', g1, g2, g3, g4, g5, g6, g7⟩ := h.now.ex
  rw [h1] at g1; cases g1
  rw [h2] at g2; cases g2
  rw [hl] at g5; cases g5
  have hone := one_spec ((right_spec hb).2.2.2 _ F h1)
  have hn := ends_next (hone.2.2.2 k (List.mem_of_getElem? h2)).1 h3 l
  rw [hto] at hn
  obtain ⟨k2, hk2⟩ := get_of_lt (l := F.blocks) (k := to.toNat) (by omega)
  refine ⟨good_step h.good, h.fin, h.rl, ⟨F, k2, l, h1, hk2, hn.1, Nat.zero_le _, hl, g6, g7⟩, h.ab, h.lt, h.sort, Nat.le_succ_of_le h.al, ?_⟩
  rw [← h.tgt, cont, cont]
  simp only
  rw [rOf_get hl, h.endRest h1 h2 hat hf, h3, hto]
  simp only [Bool.not_false, cond_true]
  rw [mblk_rest (i := to) hk2 _ _ (by unfold gasOk; show fuel.toNat < q.m.steps + 1 + _; omega) (by omega), resume_eq (fr := ⟨q.now.f, to, 0⟩) h1 hk2]
theorem SInv.done (h : SInv b s fuel W tgt q) {F : BFunc} {k : Block} (h1 : b.funcs[q.now.f]? = some F) (h2 : F.blocks[q.now.blk.toNat]? = some k) (hat : k.ins.length ≤ q.now.at') (hf : decide ((q.m.steps : Int) ≥ fuel) = false) (h3 : (k.fin == 3) = true) (ha : q.above = []) : tgt = { q.m with steps := q.m.steps + 1 } := by
  rw [← h.tgt, cont, ha, h.endRest h1 h2 hat hf, h3]
  rfl
theorem SInv.ret (h : SInv b s fuel W tgt q) {F : BFunc} {k : Block} {fr : FrB} (h1 : b.funcs[q.now.f]? = some F) (h2 : F.blocks[q.now.blk.toNat]? = some k) (hat : k.ins.length ≤ q.now.at') (hf : decide ((q.m.steps : Int) ≥ fuel) = false) (h3 : (k.fin == 3) = true) (ha : q.above.getLast? = some fr) :
    SInv b s fuel W tgt ⟨fr, q.above.dropLast, q.R, { q.m with steps := q.m.steps + 1 }⟩ := by
  have hw : q.above = q.above.dropLast ++ [fr] := by
    have hne : q.above ≠ [] := by intro e; rw [e] at ha; simp at ha
    have h4 := List.dropLast_concat_getLast hne
    rw [List.getLast?_eq_some_getLast hne] at ha
    cases ha
    exact h4.symm
  have hm : fr ∈ q.above := by rw [hw]; simp
  have hsort := h.sort
  rw [hw] at hsort
  obtain ⟨s1, s2, s3⟩ := List.pairwise_append.1 hsort
  refine ⟨good_step h.good, h.fin, h.rl, h.ab fr hm, fun x hx => h.ab x (List.dropLast_subset _ hx), fun x hx => s3 x hx fr (by simp), s1, ?_, ?_⟩
  · have := h.al; simp only [List.length_dropLast]; omega
  · rw [← h.tgt, cont, cont]
    simp only
    rw [h.endRest h1 h2 hat hf, h3]
    conv => rhs; rw [hw]
    simp only [List.reverse_append, List.reverse_singleton, List.singleton_append, Bool.not_true, cond_false]
    conv => rhs; unfold unwind
    rw [if_pos h.fin]
end
theorem fuel0_ge (fuel : Int) (n : Nat) : decide ((n : Int) ≥ fuel0 fuel) = decide ((n : Int) ≥ fuel) := by
  unfold fuel0
  cases e : decide (fuel < 0) with
  | true =>
    have : fuel < 0 := by simpa using e
    simp only [cond_true]
    rw [decide_eq_true (by omega), decide_eq_true (by omega)]
  | false => rfl
def q0 (b : Blocks) (F : BFunc) : Q24 := ⟨⟨b.funcs.length - 1, 0, 0⟩, [], (List.replicate b.funcs.length none).set (b.funcs.length - 1) (some (List.replicate F.regs.toNat 0)), m0 b⟩
theorem SInv.start {b : Blocks} (hb : b.right = true) (s : ByteArray) (fuel : Int) {F : BFunc} (hF : b.funcs[b.funcs.length - 1]? = some F) :
    SInv b s (fuel0 fuel) b.words.toNat (mfun b s (fuel0 fuel) b.funcs.length ((b.funcs.length : Int) - 1) (m0 b)) (q0 b F) := by
  have hlt := (List.getElem?_eq_some_iff.1 hF).1
  have hFb : F.blocks ≠ [] := (one_spec ((right_spec hb).2.2.2 _ F hF)).2.2.1
  obtain ⟨k0, hk0⟩ := get_of_lt (l := F.blocks) (k := 0) (List.length_pos_iff.2 hFb)
  refine ⟨⟨by simp [q0, m0], allR_rep _, by simp [q0, m0]⟩, rfl, by simp [q0], ⟨F, k0, _, hF, hk0, Int.le_refl _, Nat.zero_le _, List.getElem?_set_self (by simpa using hlt), by simp, allR_rep _⟩, (fun fr h => by cases h), (fun fr h => by cases h), List.Pairwise.nil, Nat.zero_le _, ?_⟩
  rw [cont]
  simp only [q0, List.reverse_nil, unwind]
  rw [rOf_self (by simpa using hlt), resume_eq (fr := ⟨b.funcs.length - 1, 0, 0⟩) hF hk0]
  obtain ⟨n, hn⟩ : ∃ n, b.funcs.length = n + 1 := ⟨b.funcs.length - 1, by omega⟩
  rw [hn]
  conv => rhs; unfold mfun
  have hi : (((n + 1 : Nat) : Int) - 1).toNat = n := by omega
  rw [hi]
  rw [hn, Nat.add_sub_cancel] at hF
  rw [hF]
  simp only [Nat.add_sub_cancel]
  rw [mblk_rest (i := 0) hk0 _ _ (by unfold gasOk; omega) (by omega)]
end Go.Proofs.Ytjmjmedjjbginaa.Sv

namespace Go.Proofs.Ytjmjmedjjbginaa.Sv
open Go

section
variable {P : Program} {o : Oper} {e : AEnv} {h : AHeap}
theorem o_callW {f : FuncId} {fn : Func} {args : Array Operand} {tys : Array TypeId} {xs : List AV} {r : AV} {hn : AHeap} (ho : o.op = .call { callee := .value (.func f), args := args, argTypes := tys }) (hf : P.funcs[f]? = some fn) (hnm : (fn.name == "runtime.NumGoroutine") = false) (hb : fn.body.isSome = true)
    (hx : lookAll e args.toList = some xs) (hcall : ACall P f xs h (fun r' h'' => r' = r ∧ HSub hn h'')) : OCall P o e h hn r := by
  intro H ι a w n Q hs
  have hcalls := hcall H ι w _ (relAll_map hs hx) hs.heap
  have hexec : (execOp a.eval o).run P w = .ok (.enter f (args.map a.eval)) w := by
    simp [execOp, ho, resolve, Act.eval, Deferred.ofValue, invoke, run_callFunc hf hnm hb]
  unfold Oper.wp
  rw [hexec]
  refine hcalls.mono fun en w' hh => ?_
  obtain ⟨v, r', h', H', ι', rfl, ⟨rfl, hsub⟩, k1, k2, k3⟩ := hh
  refine ⟨v, H', ι', rfl, k1, k2.sub hsub, ⟨k3.size, k3.os, k3.out, k3.keep, k3.kle, k3.knew, k3.lle, k3.lframe, k3.newrb, fun b hb => ?_⟩⟩
  have := k3.dom b hb
  cases e2 : hn b with
  | none => rfl
  | some q => rw [hsub b q e2] at this; cases this
end

theorem hput_self {h : AHeap} {x : Nat} {o : AObj} (hx : h x = some o) : hput h x o = h := by
  funext b
  by_cases hb : b = x
  · subst hb; rw [hput_same, hx]
  · rw [hput_ne _ _ hb]
def regA (rb n : Nat) : AV := match n with | 0 => .lst false [] | n + 1 => .ref rb (n + 1) 0 (n + 1)
theorem regA_pos {rb n : Nat} (h : 0 < n) : regA rb n = .ref rb n 0 n := by
  obtain ⟨m, rfl⟩ : ∃ m, n = m + 1 := ⟨n - 1, by omega⟩
  rfl
theorem regA_cell1 (rb n : Nat) : (regA rb n).cell1 = true := by cases n <;> rfl
theorem fr_cell1 (x y z : Int) (rb n : Nat) : [AV.int .i64 x, .int .i64 y, .int .i64 z, regA rb n].all AV.cell1 = true := by
  simp only [List.all_cons, List.all_nil, regA_cell1, Bool.and_true]; rfl
theorem HSub.put' {h h' : AHeap} {x : Nat} {o : AObj} (hx : h' x = some o) (he : ∀ b q, b ≠ x → h b = some q → h' b = some q) : HSub (hput h x o) h' := fun b q hb => by
  by_cases hbx : b = x
  · subst hbx; rw [hput_same] at hb; cases hb; exact hx
  · rw [hput_ne _ _ hbx] at hb; exact he b q hbx hb
theorem HSub.put2 {h h' : AHeap} {x y : Nat} {o q : AObj} (hx : h' x = some o) (hy : h' y = some q) (he : ∀ b r, b ≠ x → b ≠ y → h b = some r → h' b = some r) : HSub (hput (hput h x o) y q) h' :=
  HSub.put' hy fun b r hb hr => by
    by_cases hbx : b = x
    · subst hbx; rw [hput_same] at hr; cases hr; exact hx
    · rw [hput_ne _ _ hbx] at hr; exact he b r hbx hb hr
theorem HSub.put4 {h h' : AHeap} {x y z u : Nat} {o1 o2 o3 o4 : AObj} (h1 : h' x = some o1) (h2 : h' y = some o2) (h3 : h' z = some o3) (h4 : h' u = some o4) (he : ∀ b r, b ≠ x → b ≠ y → b ≠ z → b ≠ u → h b = some r → h' b = some r) : HSub (hput (hput (hput (hput h x o1) y o2) z o3) u o4) h' :=
  HSub.put2 h3 h4 fun b r hbz hbu hr => by
    by_cases hby : b = y
    · subst hby; rw [hput_same] at hr; cases hr; exact h2
    · rw [hput_ne _ _ hby] at hr
      by_cases hbx : b = x
      · subst hbx; rw [hput_same] at hr; cases hr; exact h1
      · rw [hput_ne _ _ hbx] at hr; exact he b r hbx hby hbz hbu hr
theorem hrm_some {h : AHeap} {k b : Nat} {q : AObj} (hq : hrm h k b = some q) : b ≠ k ∧ h b = some q := by
  by_cases hb : b = k
  · subst hb; rw [hrm_same] at hq; cases hq
  · rw [hrm_ne _ hb] at hq; exact ⟨hb, hq⟩
theorem set_same {α : Type} {l : List α} {i : Nat} {x : α} (h : l[i]? = some x) : l.set i x = l := by
  apply List.ext_getElem?
  intro j
  by_cases hj : i = j
  · subst hj; rw [h, List.getElem?_set_self (List.getElem?_eq_some_iff.1 h).1]
  · rw [List.getElem?_set_ne hj]
theorem regs_rep (n : Nat) : List.replicate n [AV.int .u32 0] = regCells (List.replicate n 0) := regCells_rep n
theorem outRowB {out : List UInt8} {c : Int} (h : isW c) : byteCells out ++ [[AV.int .u8 (((byteOf c).toNat : Nat) : Int)]] = byteCells (out ++ [byteOf c]) := by simp [byteCells]
def boxC (x0 x2 : AV) (W : Nat) (s : ByteArray) (m : Mach) : List AV := [x0, .ref 1 W 0 W, x2, .str s, .int .i64 (m.read : Int), .ref 3 m.out.length 0 m.out.length]
end Go.Proofs.Ytjmjmedjjbginaa.Sv

namespace Go.Proofs.Ytjmjmedjjbginaa.Sv
open Go

set_option maxRecDepth 100000 in
theorem enter1_ok (h : AHeap) (b : Blocks) (F : BFunc) (f0 nf k n : Nat) (x1 x3 x4 x5 : AV) (tab : List (List AV)) (hh0 : h 0 = some (.row false 6 [[funcsAV b.funcs, x1, .ref 2 nf 0 nf, x3, x4, x5]])) (hh2 : h 2 = some (.row false 1 tab)) (hnt : nf = tab.length) (hfn : ((f0 : Nat) : Int) < ((nf : Nat) : Int)) (hF : b.funcs[f0]? = some F) (hreg : F.regs = (n : Int)) (hn4 : n ≤ 4000) (hfree : h k = some .free) (hk : k ≠ 0 ∧ k ≠ 2 ∧ k ≠ f0 + 16) (hget : tab[f0]? = some [.nil]) (hn0 : n = 0) : ACall Try.prog 38 [.ptr 0 1 0 0, .int .i64 (f0 : Int)] h (fun r h'' => r = .agg [.int .i64 (f0 : Int), .int .i64 0, .int .i64 0, .lst false []] ∧ HSub (hput (hrm h k) 2 (.row false 1 (tab.set f0 [.lst false []]))) h'') := by
 obtain ⟨hk0, hk2, hkr⟩ := hk
 have hr0 : f0 + 16 ≠ 0 := by omega
 have hr2 : f0 + 16 ≠ 2 := by omega
 have hg2 : tab[0 + ((f0 : Nat) : Int).toNat]? = some [.nil] := by rw [Nat.zero_add, Int.toNat_natCast]; exact hget
 have hg3 : (tab.set (0 + ((f0 : Nat) : Int).toNat) [.lst false []])[0 + ((f0 : Nat) : Int).toNat]? = some [.lst false []] := get_set_selfZ hg2
 have hnt2 : nf = (tab.set (0 + ((f0 : Nat) : Int).toNat) [.lst false []]).length := by rw [List.length_set]; exact hnt
 have hts : tab.set (0 + ((f0 : Nat) : Int).toNat) [.lst false []] = tab.set f0 [.lst false []] := by rw [Nat.zero_add, Int.toNat_natCast]
 refine ACall.of_body (n := 44) tok Try.func38 rfl rfl ?_
 refine AGo.seq ?_
 refine AGo.region ?_
 refine ax 4 (o_alloc tok k rfl rfl z41q rfl (Nat.zero_lt_succ _) rfl) ?_
 refine AOps.nil ?_
 refine AGo.seq ?_
 refine AGo.seq ?_
 refine AGo.region ?_
 refine am 5 ?_
 refine aq 6 (q_nilCheck rfl rfl rfl) ?_
 refine af 7 tok ?_
 refine aq 8 (q_load tok rfl rfl rfl (.ptr _ _ _ _ _ _ [[funcsAV b.funcs, x1, .ref 2 nf 0 nf, x3, x4, x5]] _ z41q rfl rfl) rfl) ?_
 refine am 9 ?_
 refine aq 10 (q_index_ref tok (es := tab) rfl rfl rfl rfl rfl rfl z41q hnt rfl (Int.natCast_nonneg _) hfn) ?_
 refine aq 11 (q_load tok rfl rfl rfl (.ptr _ _ _ _ _ _ tab [.nil] z41q hnt hg2) rfl) ?_
 refine aq 12 (q_eqNil tok rfl rfl rfl rfl) ?_
 refine AOps.nil ?_
 refine AGo.cond_true true rfl rfl ?_
 refine AGo.draw mix ?_
 refine dm 13 ?_
 refine dq 14 (q_nilCheck rfl rfl rfl) ?_
 refine df 15 tok ?_
 refine dq 16 (q_load tok rfl rfl rfl (.ptr _ _ _ _ _ _ [[funcsAV b.funcs, x1, .ref 2 nf 0 nf, x3, x4, x5]] _ z41q rfl rfl) rfl) ?_
 refine dm 17 ?_
 refine dm 18 ?_
 refine dq 19 (q_nilCheck rfl rfl rfl) ?_
 refine df 20 tok ?_
 refine dq 21 (q_load tok rfl rfl rfl (.ptr _ _ _ _ _ _ [[funcsAV b.funcs, x1, .ref 2 nf 0 nf, x3, x4, x5]] _ z41q rfl rfl) rfl) ?_
 refine dm 22 ?_
 refine dq 23 (q_index_lst tok rfl rfl rfl rfl rfl rfl (Int.natCast_nonneg _) (idx_map hF) rfl) ?_
 refine df 24 tok ?_
 refine dl 25 tok ?_
 refine dx 26 (o_make0 tok rfl rfl rfl (by rw [hreg, hn0]; rfl) (by rw [hreg, hn0]; rfl) rfl rfl rfl rfl (Nat.zero_lt_succ _) rfl) ?_
 refine dq 27 (q_index_ref tok (es := tab) rfl rfl rfl rfl rfl rfl z41q hnt rfl (Int.natCast_nonneg _) hfn) ?_
 refine DOps.w rfl rfl (o_store tok (es := tab) rfl rfl rfl rfl rfl z41q hnt hg2 rfl (by decide) rfl (by intro h; cases h)) ?_
 refine DOps.nil (by kernel_rfl) ?_
 refine AGo.seq ?_
 refine AGo.region ?_
 refine am 28 ?_
 refine aq 29 (q_nilCheck rfl rfl rfl) ?_
 refine af 30 tok ?_
 refine aq 31 (q_load tok rfl rfl rfl (.ptr _ _ _ _ _ _ [[funcsAV b.funcs, x1, .ref 2 nf 0 nf, x3, x4, x5]] _ z41q rfl rfl) rfl) ?_
 refine am 32 ?_
 refine aq 33 (q_index_ref tok (es := (tab.set (0 + ((f0 : Nat) : Int).toNat) [.lst false []])) rfl rfl rfl rfl rfl rfl z41q hnt2 rfl (Int.natCast_nonneg _) hfn) ?_
 refine aq 34 (q_load tok rfl rfl rfl (.ptr _ _ _ _ _ _ (tab.set (0 + ((f0 : Nat) : Int).toNat) [.lst false []]) [.lst false []] z41q hnt2 hg3) rfl) ?_
 refine AOps.w rfl rfl (o_clear0 tok rfl rfl rfl rfl) ?_
 refine AOps.nil ?_
 refine AGo.seq ?_
 refine AGo.region ?_
 refine am 35 ?_
 refine am 36 ?_
 refine aq 37 (q_nilCheck rfl rfl rfl) ?_
 refine af 38 tok ?_
 refine aq 39 (q_load tok rfl rfl rfl (.ptr _ _ _ _ _ _ [[funcsAV b.funcs, x1, .ref 2 nf 0 nf, x3, x4, x5]] _ z41q rfl rfl) rfl) ?_
 refine am 40 ?_
 refine aq 41 (q_index_ref tok (es := (tab.set (0 + ((f0 : Nat) : Int).toNat) [.lst false []])) rfl rfl rfl rfl rfl rfl z41q hnt2 rfl (Int.natCast_nonneg _) hfn) ?_
 refine aq 42 (q_load tok rfl rfl rfl (.ptr _ _ _ _ _ _ (tab.set (0 + ((f0 : Nat) : Int).toNat) [.lst false []]) [.lst false []] z41q hnt2 hg3) rfl) ?_
 refine aq 43 (q_build tok rfl rfl rfl rfl rfl (by decide) rfl rfl rfl) ?_
 refine AOps.w rfl rfl (o_store tok (es := [[.int .i64 0, .int .i64 0, .int .i64 0, .nil]]) rfl rfl rfl rfl rfl z41q rfl rfl rfl (by decide) rfl (by intro h; cases h)) ?_
 refine AOps.nil ?_
 refine AGo.ret ?_
 have hend : ∀ h'' : AHeap, h'' = h'' := fun _ => rfl
 exact ⟨[_], ⟨⟨_, _, _, _, rfl, rfl, .ptr _ _ _ _ _ _ [[.int .i64 (f0 : Int), .int .i64 0, .int .i64 0, .lst false []]] _ z41q rfl rfl, rfl⟩, trivial⟩, rfl, HSub.put' (by rw [← hts]; (try simp only [hputs]); repeat (first | assumption | exact hput_same _ _ _ | refine hput_skip (by first | rfl | assumption | exact beq_false_of_ne (by omega)) ?_)) (fun c q hc hq => by obtain ⟨q1, q2⟩ := hrm_some hq; simp only [hputs, hput_ne _ _ q1, hput_ne _ _ hc, q2])⟩

set_option maxRecDepth 100000 in
theorem enter2_ok (h : AHeap) (b : Blocks) (F : BFunc) (f0 nf k n : Nat) (x1 x3 x4 x5 : AV) (tab : List (List AV)) (hh0 : h 0 = some (.row false 6 [[funcsAV b.funcs, x1, .ref 2 nf 0 nf, x3, x4, x5]])) (hh2 : h 2 = some (.row false 1 tab)) (hnt : nf = tab.length) (hfn : ((f0 : Nat) : Int) < ((nf : Nat) : Int)) (hF : b.funcs[f0]? = some F) (hreg : F.regs = (n : Int)) (hn4 : n ≤ 4000) (hfree : h k = some .free) (hk : k ≠ 0 ∧ k ≠ 2 ∧ k ≠ f0 + 16) (hget : tab[f0]? = some [.nil]) (hpos : 0 < n) (hrb : h (f0 + 16) = some .free) : ACall Try.prog 38 [.ptr 0 1 0 0, .int .i64 (f0 : Int)] h (fun r h'' => r = .agg [.int .i64 (f0 : Int), .int .i64 0, .int .i64 0, .ref (f0 + 16) n 0 n] ∧ HSub (hput (hput (hrm h k) 2 (.row false 1 (tab.set f0 [.ref (f0 + 16) n 0 n]))) (f0 + 16) (.row true 1 (regCells (List.replicate n 0)))) h'') := by
 obtain ⟨hk0, hk2, hkr⟩ := hk
 have hr0 : f0 + 16 ≠ 0 := by omega
 have hr2 : f0 + 16 ≠ 2 := by omega
 have hg2 : tab[0 + ((f0 : Nat) : Int).toNat]? = some [.nil] := by rw [Nat.zero_add, Int.toNat_natCast]; exact hget
 have hg3 : (tab.set (0 + ((f0 : Nat) : Int).toNat) [.ref (f0 + 16) n 0 n])[0 + ((f0 : Nat) : Int).toNat]? = some [.ref (f0 + 16) n 0 n] := get_set_selfZ hg2
 have hnt2 : nf = (tab.set (0 + ((f0 : Nat) : Int).toNat) [.ref (f0 + 16) n 0 n]).length := by rw [List.length_set]; exact hnt
 have hts : tab.set (0 + ((f0 : Nat) : Int).toNat) [.ref (f0 + 16) n 0 n] = tab.set f0 [.ref (f0 + 16) n 0 n] := by rw [Nat.zero_add, Int.toNat_natCast]
 refine ACall.of_body (n := 44) tok Try.func38 rfl rfl ?_
 refine AGo.seq ?_
 refine AGo.region ?_
 refine ax 4 (o_alloc tok k rfl rfl z41q rfl (Nat.zero_lt_succ _) rfl) ?_
 refine AOps.nil ?_
 refine AGo.seq ?_
 refine AGo.seq ?_
 refine AGo.region ?_
 refine am 5 ?_
 refine aq 6 (q_nilCheck rfl rfl rfl) ?_
 refine af 7 tok ?_
 refine aq 8 (q_load tok rfl rfl rfl (.ptr _ _ _ _ _ _ [[funcsAV b.funcs, x1, .ref 2 nf 0 nf, x3, x4, x5]] _ z41q rfl rfl) rfl) ?_
 refine am 9 ?_
 refine aq 10 (q_index_ref tok (es := tab) rfl rfl rfl rfl rfl rfl z41q hnt rfl (Int.natCast_nonneg _) hfn) ?_
 refine aq 11 (q_load tok rfl rfl rfl (.ptr _ _ _ _ _ _ tab [.nil] z41q hnt hg2) rfl) ?_
 refine aq 12 (q_eqNil tok rfl rfl rfl rfl) ?_
 refine AOps.nil ?_
 refine AGo.cond_true true rfl rfl ?_
 refine AGo.draw mix ?_
 refine dm 13 ?_
 refine dq 14 (q_nilCheck rfl rfl rfl) ?_
 refine df 15 tok ?_
 refine dq 16 (q_load tok rfl rfl rfl (.ptr _ _ _ _ _ _ [[funcsAV b.funcs, x1, .ref 2 nf 0 nf, x3, x4, x5]] _ z41q rfl rfl) rfl) ?_
 refine dm 17 ?_
 refine dm 18 ?_
 refine dq 19 (q_nilCheck rfl rfl rfl) ?_
 refine df 20 tok ?_
 refine dq 21 (q_load tok rfl rfl rfl (.ptr _ _ _ _ _ _ [[funcsAV b.funcs, x1, .ref 2 nf 0 nf, x3, x4, x5]] _ z41q rfl rfl) rfl) ?_
 refine dm 22 ?_
 refine dq 23 (q_index_lst tok rfl rfl rfl rfl rfl rfl (Int.natCast_nonneg _) (idx_map hF) rfl) ?_
 refine df 24 tok ?_
 refine dl 25 tok ?_
 refine dx 26 (o_makeSlice tok (n := n) (m := n) (f0 + 16) true rfl rfl rfl hreg hreg rfl rfl rfl z41q rfl (Nat.zero_lt_succ _) rfl (Nat.le_refl _) (by show 4 * n ≤ _; omega) (by simp only [maxLen]; omega)) ?_
 refine dq 27 (q_index_ref tok (es := tab) rfl rfl rfl rfl rfl rfl z41q hnt rfl (Int.natCast_nonneg _) hfn) ?_
 refine DOps.w rfl rfl (o_store tok (es := tab) rfl rfl rfl rfl rfl z41q hnt hg2 rfl (by decide) rfl (by intro h; cases h)) ?_
 refine DOps.nil (by kernel_rfl) ?_
 refine AGo.seq ?_
 refine AGo.region ?_
 refine am 28 ?_
 refine aq 29 (q_nilCheck rfl rfl rfl) ?_
 refine af 30 tok ?_
 refine aq 31 (q_load tok rfl rfl rfl (.ptr _ _ _ _ _ _ [[funcsAV b.funcs, x1, .ref 2 nf 0 nf, x3, x4, x5]] _ z41q rfl rfl) rfl) ?_
 refine am 32 ?_
 refine aq 33 (q_index_ref tok (es := (tab.set (0 + ((f0 : Nat) : Int).toNat) [.ref (f0 + 16) n 0 n])) rfl rfl rfl rfl rfl rfl z41q hnt2 rfl (Int.natCast_nonneg _) hfn) ?_
 refine aq 34 (q_load tok rfl rfl rfl (.ptr _ _ _ _ _ _ (tab.set (0 + ((f0 : Nat) : Int).toNat) [.ref (f0 + 16) n 0 n]) [.ref (f0 + 16) n 0 n] z41q hnt2 hg3) rfl) ?_
 refine AOps.w rfl rfl (o_clear tok (es := List.replicate n [.int .u32 0]) rfl rfl rfl rfl rfl z41q (by simp) hpos rfl rfl rfl rfl) ?_
 refine AOps.nil ?_
 refine AGo.seq ?_
 refine AGo.region ?_
 refine am 35 ?_
 refine am 36 ?_
 refine aq 37 (q_nilCheck rfl rfl rfl) ?_
 refine af 38 tok ?_
 refine aq 39 (q_load tok rfl rfl rfl (.ptr _ _ _ _ _ _ [[funcsAV b.funcs, x1, .ref 2 nf 0 nf, x3, x4, x5]] _ z41q rfl rfl) rfl) ?_
 refine am 40 ?_
 refine aq 41 (q_index_ref tok (es := (tab.set (0 + ((f0 : Nat) : Int).toNat) [.ref (f0 + 16) n 0 n])) rfl rfl rfl rfl rfl rfl z41q hnt2 rfl (Int.natCast_nonneg _) hfn) ?_
 refine aq 42 (q_load tok rfl rfl rfl (.ptr _ _ _ _ _ _ (tab.set (0 + ((f0 : Nat) : Int).toNat) [.ref (f0 + 16) n 0 n]) [.ref (f0 + 16) n 0 n] z41q hnt2 hg3) rfl) ?_
 refine aq 43 (q_build tok rfl rfl rfl rfl rfl (by decide) rfl rfl rfl) ?_
 refine AOps.w rfl rfl (o_store tok (es := [[.int .i64 0, .int .i64 0, .int .i64 0, .nil]]) rfl rfl rfl rfl rfl z41q rfl rfl rfl (by decide) rfl (by intro h; cases h)) ?_
 refine AOps.nil ?_
 refine AGo.ret ?_
 have hend : ∀ h'' : AHeap, h'' = h'' := fun _ => rfl
 exact ⟨[_], ⟨⟨_, _, _, _, rfl, rfl, .ptr _ _ _ _ _ _ [[.int .i64 (f0 : Int), .int .i64 0, .int .i64 0, .ref (f0 + 16) n 0 n]] _ z41q rfl rfl, rfl⟩, trivial⟩, rfl, HSub.put2 (by rw [← hts]; (try simp only [hputs]); repeat (first | assumption | exact hput_same _ _ _ | refine hput_skip (by first | rfl | assumption | exact beq_false_of_ne (by omega)) ?_)) (by rw [← regs_rep]; (try simp only [hputs]); repeat (first | assumption | exact hput_same _ _ _ | refine hput_skip (by first | rfl | assumption | exact beq_false_of_ne (by omega)) ?_)) (fun c q hc hc2 hq => by obtain ⟨q1, q2⟩ := hrm_some hq; simp only [hputs, hput_ne _ _ q1, hput_ne _ _ hc, hput_ne _ _ hc2, q2])⟩

set_option maxRecDepth 100000 in
theorem enter3_ok (h : AHeap) (b : Blocks) (F : BFunc) (f0 nf k n : Nat) (x1 x3 x4 x5 : AV) (tab : List (List AV)) (hh0 : h 0 = some (.row false 6 [[funcsAV b.funcs, x1, .ref 2 nf 0 nf, x3, x4, x5]])) (hh2 : h 2 = some (.row false 1 tab)) (hnt : nf = tab.length) (hfn : ((f0 : Nat) : Int) < ((nf : Nat) : Int)) (hF : b.funcs[f0]? = some F) (hreg : F.regs = (n : Int)) (hn4 : n ≤ 4000) (hfree : h k = some .free) (hk : k ≠ 0 ∧ k ≠ 2 ∧ k ≠ f0 + 16) (hget : tab[f0]? = some [.lst false []]) (hn0 : n = 0) : ACall Try.prog 38 [.ptr 0 1 0 0, .int .i64 (f0 : Int)] h (fun r h'' => r = .agg [.int .i64 (f0 : Int), .int .i64 0, .int .i64 0, .lst false []] ∧ HSub (hput (hrm h k) 2 (.row false 1 (tab.set f0 [.lst false []]))) h'') := by
 obtain ⟨hk0, hk2, hkr⟩ := hk
 have hr0 : f0 + 16 ≠ 0 := by omega
 have hr2 : f0 + 16 ≠ 2 := by omega
 have hg2 : tab[0 + ((f0 : Nat) : Int).toNat]? = some [.lst false []] := by rw [Nat.zero_add, Int.toNat_natCast]; exact hget
 have hg3 : (tab.set (0 + ((f0 : Nat) : Int).toNat) [.lst false []])[0 + ((f0 : Nat) : Int).toNat]? = some [.lst false []] := get_set_selfZ hg2
 have hnt2 : nf = (tab.set (0 + ((f0 : Nat) : Int).toNat) [.lst false []]).length := by rw [List.length_set]; exact hnt
 have hts : tab.set (0 + ((f0 : Nat) : Int).toNat) [.lst false []] = tab.set f0 [.lst false []] := by rw [Nat.zero_add, Int.toNat_natCast]
 have htt : tab.set f0 [.lst false []] = tab := set_same hget
 have hsame : tab.set (0 + ((f0 : Nat) : Int).toNat) (splice [.lst false []] 0 (AV.cells (.lst false []))) = tab := by rw [Nat.zero_add, Int.toNat_natCast]; exact set_same hget
 refine ACall.of_body (n := 44) tok Try.func38 rfl rfl ?_
 refine AGo.seq ?_
 refine AGo.region ?_
 refine ax 4 (o_alloc tok k rfl rfl z41q rfl (Nat.zero_lt_succ _) rfl) ?_
 refine AOps.nil ?_
 refine AGo.seq ?_
 refine AGo.seq ?_
 refine AGo.region ?_
 refine am 5 ?_
 refine aq 6 (q_nilCheck rfl rfl rfl) ?_
 refine af 7 tok ?_
 refine aq 8 (q_load tok rfl rfl rfl (.ptr _ _ _ _ _ _ [[funcsAV b.funcs, x1, .ref 2 nf 0 nf, x3, x4, x5]] _ z41q rfl rfl) rfl) ?_
 refine am 9 ?_
 refine aq 10 (q_index_ref tok (es := tab) rfl rfl rfl rfl rfl rfl z41q hnt rfl (Int.natCast_nonneg _) hfn) ?_
 refine aq 11 (q_load tok rfl rfl rfl (.ptr _ _ _ _ _ _ tab [.lst false []] z41q hnt hg2) rfl) ?_
 refine AOps.ex 12 rfl rfl rfl (o_anyNil tok rfl rfl rfl rfl) ?_
 intro W_ r_ hS_
 rcases hS_ with ⟨rfl, v, rfl⟩
 ·
  refine AOps.nil ?_
  refine AGo.split 12 rfl (fun hb1 => ?_) (fun hb1 => ?_)
  ·
   refine AGo.cond_true true rfl rfl ?_
   refine AGo.draw mix ?_
   refine dm 13 ?_
   refine dq 14 (q_nilCheck rfl rfl rfl) ?_
   refine df 15 tok ?_
   refine dq 16 (q_load tok rfl rfl rfl (.ptr _ _ _ _ _ _ [[funcsAV b.funcs, x1, .ref 2 nf 0 nf, x3, x4, x5]] _ z41q rfl rfl) rfl) ?_
   refine dm 17 ?_
   refine dm 18 ?_
   refine dq 19 (q_nilCheck rfl rfl rfl) ?_
   refine df 20 tok ?_
   refine dq 21 (q_load tok rfl rfl rfl (.ptr _ _ _ _ _ _ [[funcsAV b.funcs, x1, .ref 2 nf 0 nf, x3, x4, x5]] _ z41q rfl rfl) rfl) ?_
   refine dm 22 ?_
   refine dq 23 (q_index_lst tok rfl rfl rfl rfl rfl rfl (Int.natCast_nonneg _) (idx_map hF) rfl) ?_
   refine df 24 tok ?_
   refine dl 25 tok ?_
   refine dx 26 (o_make0 tok rfl rfl rfl (by rw [hreg, hn0]; rfl) (by rw [hreg, hn0]; rfl) rfl rfl rfl rfl (Nat.zero_lt_succ _) rfl) ?_
   refine dq 27 (q_index_ref tok (es := tab) rfl rfl rfl rfl rfl rfl z41q hnt rfl (Int.natCast_nonneg _) hfn) ?_
   refine DOps.w rfl rfl (o_store tok (es := tab) rfl rfl rfl rfl rfl z41q hnt hg2 rfl (by decide) rfl (by intro h; cases h)) ?_
   refine DOps.nil (by kernel_rfl) ?_
   refine AGo.seq ?_
   try rw [hsame]
   try simp only [hputs, hsame]
   refine AGo.region ?_
   refine am 28 ?_
   refine aq 29 (q_nilCheck rfl rfl rfl) ?_
   refine af 30 tok ?_
   refine aq 31 (q_load tok rfl rfl rfl (.ptr _ _ _ _ _ _ [[funcsAV b.funcs, x1, .ref 2 nf 0 nf, x3, x4, x5]] _ z41q rfl rfl) rfl) ?_
   refine am 32 ?_
   refine aq 33 (q_index_ref tok (es := tab) rfl rfl rfl rfl rfl rfl z41q hnt rfl (Int.natCast_nonneg _) hfn) ?_
   refine aq 34 (q_load tok rfl rfl rfl (.ptr _ _ _ _ _ _ tab [.lst false []] z41q hnt hg2) rfl) ?_
   refine AOps.w rfl rfl (o_clear0 tok rfl rfl rfl rfl) ?_
   refine AOps.nil ?_
   refine AGo.seq ?_
   refine AGo.region ?_
   refine am 35 ?_
   refine am 36 ?_
   refine aq 37 (q_nilCheck rfl rfl rfl) ?_
   refine af 38 tok ?_
   refine aq 39 (q_load tok rfl rfl rfl (.ptr _ _ _ _ _ _ [[funcsAV b.funcs, x1, .ref 2 nf 0 nf, x3, x4, x5]] _ z41q rfl rfl) rfl) ?_
   refine am 40 ?_
   refine aq 41 (q_index_ref tok (es := tab) rfl rfl rfl rfl rfl rfl z41q hnt rfl (Int.natCast_nonneg _) hfn) ?_
   refine aq 42 (q_load tok rfl rfl rfl (.ptr _ _ _ _ _ _ tab [.lst false []] z41q hnt hg2) rfl) ?_
   refine aq 43 (q_build tok rfl rfl rfl rfl rfl (by decide) rfl rfl rfl) ?_
   refine AOps.w rfl rfl (o_store tok (es := [[.int .i64 0, .int .i64 0, .int .i64 0, .nil]]) rfl rfl rfl rfl rfl z41q rfl rfl rfl (by decide) rfl (by intro h; cases h)) ?_
   refine AOps.nil ?_
   refine AGo.ret ?_
   have hend : ∀ h'' : AHeap, h'' = h'' := fun _ => rfl
   exact ⟨[_], ⟨⟨_, _, _, _, rfl, rfl, .ptr _ _ _ _ _ _ [[.int .i64 (f0 : Int), .int .i64 0, .int .i64 0, .lst false []]] _ z41q rfl rfl, rfl⟩, trivial⟩, rfl, HSub.put' z39q (fun c q hc hq => by obtain ⟨q1, q2⟩ := hrm_some hq; simp only [hputs, hput_ne _ _ q1, hput_ne _ _ hc, q2])⟩
  ·
   refine AGo.cond_false false rfl rfl ?_
   refine AGo.skip ?_
   refine AGo.seq ?_
   try rw [hsame]
   try simp only [hputs, hsame]
   refine AGo.region ?_
   refine am 28 ?_
   refine aq 29 (q_nilCheck rfl rfl rfl) ?_
   refine af 30 tok ?_
   refine aq 31 (q_load tok rfl rfl rfl (.ptr _ _ _ _ _ _ [[funcsAV b.funcs, x1, .ref 2 nf 0 nf, x3, x4, x5]] _ z41q rfl rfl) rfl) ?_
   refine am 32 ?_
   refine aq 33 (q_index_ref tok (es := tab) rfl rfl rfl rfl rfl rfl z41q hnt rfl (Int.natCast_nonneg _) hfn) ?_
   refine aq 34 (q_load tok rfl rfl rfl (.ptr _ _ _ _ _ _ tab [.lst false []] z41q hnt hg2) rfl) ?_
   refine AOps.w rfl rfl (o_clear0 tok rfl rfl rfl rfl) ?_
   refine AOps.nil ?_
   refine AGo.seq ?_
   refine AGo.region ?_
   refine am 35 ?_
   refine am 36 ?_
   refine aq 37 (q_nilCheck rfl rfl rfl) ?_
   refine af 38 tok ?_
   refine aq 39 (q_load tok rfl rfl rfl (.ptr _ _ _ _ _ _ [[funcsAV b.funcs, x1, .ref 2 nf 0 nf, x3, x4, x5]] _ z41q rfl rfl) rfl) ?_
   refine am 40 ?_
   refine aq 41 (q_index_ref tok (es := tab) rfl rfl rfl rfl rfl rfl z41q hnt rfl (Int.natCast_nonneg _) hfn) ?_
   refine aq 42 (q_load tok rfl rfl rfl (.ptr _ _ _ _ _ _ tab [.lst false []] z41q hnt hg2) rfl) ?_
   refine aq 43 (q_build tok rfl rfl rfl rfl rfl (by decide) rfl rfl rfl) ?_
   refine AOps.w rfl rfl (o_store tok (es := [[.int .i64 0, .int .i64 0, .int .i64 0, .nil]]) rfl rfl rfl rfl rfl z41q rfl rfl rfl (by decide) rfl (by intro h; cases h)) ?_
   refine AOps.nil ?_
   refine AGo.ret ?_
   have hend : ∀ h'' : AHeap, h'' = h'' := fun _ => rfl
   exact ⟨[_], ⟨⟨_, _, _, _, rfl, rfl, .ptr _ _ _ _ _ _ [[.int .i64 (f0 : Int), .int .i64 0, .int .i64 0, .lst false []]] _ z41q rfl rfl, rfl⟩, trivial⟩, rfl, HSub.put' z39q (fun c q hc hq => by obtain ⟨q1, q2⟩ := hrm_some hq; simp only [hputs, hput_ne _ _ q1, hput_ne _ _ hc, q2])⟩

set_option maxRecDepth 100000 in
theorem enter4_ok (h : AHeap) (b : Blocks) (F : BFunc) (f0 nf k n : Nat) (x1 x3 x4 x5 : AV) (tab : List (List AV)) (hh0 : h 0 = some (.row false 6 [[funcsAV b.funcs, x1, .ref 2 nf 0 nf, x3, x4, x5]])) (hh2 : h 2 = some (.row false 1 tab)) (hnt : nf = tab.length) (hfn : ((f0 : Nat) : Int) < ((nf : Nat) : Int)) (hF : b.funcs[f0]? = some F) (hreg : F.regs = (n : Int)) (hn4 : n ≤ 4000) (hfree : h k = some .free) (hk : k ≠ 0 ∧ k ≠ 2 ∧ k ≠ f0 + 16) (hget : tab[f0]? = some [.ref (f0 + 16) n 0 n]) (hpos : 0 < n) (l : List Int) (hl : l.length = n) (hrb : h (f0 + 16) = some (.row true 1 (regCells l))) : ACall Try.prog 38 [.ptr 0 1 0 0, .int .i64 (f0 : Int)] h (fun r h'' => r = .agg [.int .i64 (f0 : Int), .int .i64 0, .int .i64 0, .ref (f0 + 16) n 0 n] ∧ HSub (hput (hput (hrm h k) 2 (.row false 1 (tab.set f0 [.ref (f0 + 16) n 0 n]))) (f0 + 16) (.row true 1 (regCells (List.replicate n 0)))) h'') := by
 obtain ⟨hk0, hk2, hkr⟩ := hk
 have hr0 : f0 + 16 ≠ 0 := by omega
 have hr2 : f0 + 16 ≠ 2 := by omega
 have hg2 : tab[0 + ((f0 : Nat) : Int).toNat]? = some [.ref (f0 + 16) n 0 n] := by rw [Nat.zero_add, Int.toNat_natCast]; exact hget
 have hg3 : (tab.set (0 + ((f0 : Nat) : Int).toNat) [.ref (f0 + 16) n 0 n])[0 + ((f0 : Nat) : Int).toNat]? = some [.ref (f0 + 16) n 0 n] := get_set_selfZ hg2
 have hnt2 : nf = (tab.set (0 + ((f0 : Nat) : Int).toNat) [.ref (f0 + 16) n 0 n]).length := by rw [List.length_set]; exact hnt
 have hts : tab.set (0 + ((f0 : Nat) : Int).toNat) [.ref (f0 + 16) n 0 n] = tab.set f0 [.ref (f0 + 16) n 0 n] := by rw [Nat.zero_add, Int.toNat_natCast]
 have htt : tab.set f0 [.ref (f0 + 16) n 0 n] = tab := set_same hget
 have hsame : tab.set (0 + ((f0 : Nat) : Int).toNat) (splice [.ref (f0 + 16) n 0 n] 0 (AV.cells (.ref (f0 + 16) n 0 n))) = tab := by rw [Nat.zero_add, Int.toNat_natCast]; exact set_same hget
 refine ACall.of_body (n := 44) tok Try.func38 rfl rfl ?_
 refine AGo.seq ?_
 refine AGo.region ?_
 refine ax 4 (o_alloc tok k rfl rfl z41q rfl (Nat.zero_lt_succ _) rfl) ?_
 refine AOps.nil ?_
 refine AGo.seq ?_
 refine AGo.seq ?_
 refine AGo.region ?_
 refine am 5 ?_
 refine aq 6 (q_nilCheck rfl rfl rfl) ?_
 refine af 7 tok ?_
 refine aq 8 (q_load tok rfl rfl rfl (.ptr _ _ _ _ _ _ [[funcsAV b.funcs, x1, .ref 2 nf 0 nf, x3, x4, x5]] _ z41q rfl rfl) rfl) ?_
 refine am 9 ?_
 refine aq 10 (q_index_ref tok (es := tab) rfl rfl rfl rfl rfl rfl z41q hnt rfl (Int.natCast_nonneg _) hfn) ?_
 refine aq 11 (q_load tok rfl rfl rfl (.ptr _ _ _ _ _ _ tab [.ref (f0 + 16) n 0 n] z41q hnt hg2) rfl) ?_
 refine aq 12 (q_neNil tok (es := regCells l) rfl rfl rfl rfl z41q (by rw [regCells_len, hl]) hpos) ?_
 refine AOps.nil ?_
 refine AGo.cond_false false rfl rfl ?_
 refine AGo.skip ?_
 refine AGo.seq ?_
 refine AGo.region ?_
 refine am 28 ?_
 refine aq 29 (q_nilCheck rfl rfl rfl) ?_
 refine af 30 tok ?_
 refine aq 31 (q_load tok rfl rfl rfl (.ptr _ _ _ _ _ _ [[funcsAV b.funcs, x1, .ref 2 nf 0 nf, x3, x4, x5]] _ z41q rfl rfl) rfl) ?_
 refine am 32 ?_
 refine aq 33 (q_index_ref tok (es := tab) rfl rfl rfl rfl rfl rfl z41q hnt rfl (Int.natCast_nonneg _) hfn) ?_
 refine aq 34 (q_load tok rfl rfl rfl (.ptr _ _ _ _ _ _ tab [.ref (f0 + 16) n 0 n] z41q hnt hg2) rfl) ?_
 refine AOps.w rfl rfl (o_clear tok (es := regCells l) rfl rfl rfl rfl rfl z41q (by rw [regCells_len, hl]) hpos rfl rfl rfl rfl) ?_
 refine AOps.nil ?_
 refine AGo.seq ?_
 refine AGo.region ?_
 refine am 35 ?_
 refine am 36 ?_
 refine aq 37 (q_nilCheck rfl rfl rfl) ?_
 refine af 38 tok ?_
 refine aq 39 (q_load tok rfl rfl rfl (.ptr _ _ _ _ _ _ [[funcsAV b.funcs, x1, .ref 2 nf 0 nf, x3, x4, x5]] _ z41q rfl rfl) rfl) ?_
 refine am 40 ?_
 refine aq 41 (q_index_ref tok (es := tab) rfl rfl rfl rfl rfl rfl z41q hnt rfl (Int.natCast_nonneg _) hfn) ?_
 refine aq 42 (q_load tok rfl rfl rfl (.ptr _ _ _ _ _ _ tab [.ref (f0 + 16) n 0 n] z41q hnt hg2) rfl) ?_
 refine aq 43 (q_build tok rfl rfl rfl rfl rfl (by decide) rfl rfl rfl) ?_
 refine AOps.w rfl rfl (o_store tok (es := [[.int .i64 0, .int .i64 0, .int .i64 0, .nil]]) rfl rfl rfl rfl rfl z41q rfl rfl rfl (by decide) rfl (by intro h; cases h)) ?_
 refine AOps.nil ?_
 refine AGo.ret ?_
 have hend : ∀ h'' : AHeap, h'' = h'' := fun _ => rfl
 exact ⟨[_], ⟨⟨_, _, _, _, rfl, rfl, .ptr _ _ _ _ _ _ [[.int .i64 (f0 : Int), .int .i64 0, .int .i64 0, .ref (f0 + 16) n 0 n]] _ z41q rfl rfl, rfl⟩, trivial⟩, rfl, HSub.put2 z39q (by rw [← regs_rep]; (try simp only [hputs]); repeat (first | assumption | exact hput_same _ _ _ | refine hput_skip (by first | rfl | assumption | exact beq_false_of_ne (by omega)) ?_)) (fun c q hc hc2 hq => by obtain ⟨q1, q2⟩ := hrm_some hq; simp only [hputs, hput_ne _ _ q1, hput_ne _ _ hc, hput_ne _ _ hc2, q2])⟩

end Go.Proofs.Ytjmjmedjjbginaa.Sv

namespace Go.Proofs.Ytjmjmedjjbginaa.Sv
open Go

set_option maxRecDepth 100000 in
theorem get_ok (h : AHeap) (s : ByteArray) (read : Nat) (x0 x1 x2 x5 : AV) (hh : h 0 = some (.row false 6 [[x0, x1, x2, .str s, (.int .i64 (read : Int)), x5]])) (hs : s.size ≤ 9223372036854775807) : ACall Try.prog 61 [.ptr 0 1 0 0] h (fun r h'' => r = .int .u32 (bif decide (read < s.size) then ((inAt s read).toNat : Int) else 256) ∧ h'' = hput h 0 (.row false 6 [[x0, x1, x2, .str s, (.int .i64 ((bif decide (read < s.size) then read + 1 else read : Nat) : Int)), x5]])) := by
 refine ACall.of_body (n := 32) tok Try.func61 rfl rfl ?_
 refine AGo.seq ?_
 refine AGo.region ?_
 refine aa 2 ?_
 refine AOps.nil ?_
 refine AGo.seq ?_
 refine AGo.seq ?_
 refine AGo.draw mix ?_
 refine dm 4 ?_
 refine dq 5 (q_nilCheck rfl rfl rfl) ?_
 refine df 6 tok ?_
 refine dq 7 (q_load tok rfl rfl rfl (.ptr _ _ _ _ _ _ [[x0, x1, x2, .str s, .int .i64 (read : Int), x5]] _ z41q rfl rfl) rfl) ?_
 refine dm 8 ?_
 refine dq 9 (q_nilCheck rfl rfl rfl) ?_
 refine df 10 tok ?_
 refine dq 11 (q_load tok rfl rfl rfl (.ptr _ _ _ _ _ _ [[x0, x1, x2, .str s, .int .i64 (read : Int), x5]] _ z41q rfl rfl) rfl) ?_
 refine dq 12 (q_len tok rfl rfl rfl rfl rfl) ?_
 refine dq 13 (q_bin rfl rfl rfl rfl) ?_
 refine DOps.nil (by kernel_rfl) ?_
 refine AGo.split 13 rfl (fun hb1 => ?_) (fun hb1 => ?_)
 ·
  refine AGo.cond_true true rfl rfl ?_
  have hrd : ¬ read < s.size := by have h := hb1; simp at h; omega
  refine AGo.seq ?_
  refine AGo.region ?_
  refine aa 2 ?_
  refine AOps.nil ?_
  refine AGo.ret ?_
  rw [decide_eq_false hrd]
  exact ⟨[_], ⟨rfl, trivial⟩, rfl, (hput_self hh).symm⟩
 ·
  refine AGo.cond_false false rfl rfl ?_
  have hrd : read < s.size := by have h := hb1; simp at h; omega
  refine AGo.skip ?_
  refine AGo.seq ?_
  refine AGo.draw mix ?_
  refine dm 14 ?_
  refine dq 15 (q_nilCheck rfl rfl rfl) ?_
  refine df 16 tok ?_
  refine dq 17 (q_load tok rfl rfl rfl (.ptr _ _ _ _ _ _ [[x0, x1, x2, .str s, .int .i64 (read : Int), x5]] _ z41q rfl rfl) rfl) ?_
  refine dm 18 ?_
  refine dq 19 (q_nilCheck rfl rfl rfl) ?_
  refine df 20 tok ?_
  refine dq 21 (q_load tok rfl rfl rfl (.ptr _ _ _ _ _ _ [[x0, x1, x2, .str s, .int .i64 (read : Int), x5]] _ z41q rfl rfl) rfl) ?_
  refine dq 22 (q_index_str (c := inAt s read) tok rfl rfl rfl rfl rfl (Int.natCast_nonneg _) (inAt_get hrd)) ?_
  refine da 3 ?_
  refine DOps.nil (by kernel_rfl) ?_
  refine AGo.seq ?_
  refine AGo.region ?_
  refine am 23 ?_
  refine aq 24 (q_nilCheck rfl rfl rfl) ?_
  refine af 25 tok ?_
  refine aq 26 (q_load tok rfl rfl rfl (.ptr _ _ _ _ _ _ [[x0, x1, x2, .str s, .int .i64 (read : Int), x5]] _ z41q rfl rfl) rfl) ?_
  refine aq 27 (q_inc rfl rfl hrd (by simp only [maxLen]; omega)) ?_
  refine aq 28 (q_nilCheck rfl rfl rfl) ?_
  refine af 29 tok ?_
  refine AOps.w rfl rfl (o_store tok (es := [[x0, x1, x2, .str s, .int .i64 (read : Int), x5]]) rfl rfl rfl rfl rfl z41q rfl rfl rfl (by decide) rfl (by intro h; cases h)) ?_
  refine AOps.nil ?_
  refine AGo.seq ?_
  refine AGo.region ?_
  refine am 30 ?_
  refine aq 31 (q_convTo tok rfl rfl rfl rfl rfl (r := ((inAt s read).toNat : Int)) (by rw [IntKind.wrap_u32]; have := (byte_w (inAt s read)).2; omega)) ?_
  refine aa 2 ?_
  refine AOps.nil ?_
  refine AGo.ret ?_
  rw [decide_eq_true hrd]
  exact ⟨[_], ⟨rfl, trivial⟩, rfl, rfl⟩

end Go.Proofs.Ytjmjmedjjbginaa.Sv

namespace Go.Proofs.Ytjmjmedjjbginaa.Sv
open Go

set_option maxRecDepth 100000 in
theorem divide_ok (op a b : Int) (hb : 0 ≤ b) : APure Try.prog 69 [.int .i64 op, .int .u32 a, .int .u32 b] (fun r => r = wpair (wdivide op a b)) := by
 refine APure.of_body (n := 18) tok Try.func69 rfl rfl ?_
 refine AGo.seq ?_
 refine AGo.region ?_
 refine aa 6 ?_
 refine aa 7 ?_
 refine AOps.nil ?_
 refine AGo.seq ?_
 refine AGo.seq ?_
 refine AGo.region ?_
 refine am 8 ?_
 refine aq 9 (q_bin rfl rfl rfl rfl) ?_
 refine AOps.nil ?_
 refine AGo.split 9 rfl (fun hb1 => ?_) (fun hb1 => ?_)
 ·
  refine AGo.cond_true true rfl rfl ?_
  refine AGo.seq ?_
  refine AGo.region ?_
  refine aa 6 ?_
  refine aa 7 ?_
  refine AOps.nil ?_
  refine AGo.ret ?_
  refine ⟨[_, _], ⟨rfl, rfl, trivial⟩, ?_, rfl⟩
  show AV.tup _ = AV.tup _
  simp [wdivide, *]
 ·
  refine AGo.cond_false false rfl rfl ?_
  have hb0 : ¬ b = 0 := by simpa using hb1
  refine AGo.skip ?_
  refine AGo.seq ?_
  refine AGo.seq ?_
  refine AGo.region ?_
  refine am 10 ?_
  refine aq 11 (q_bin rfl rfl rfl rfl) ?_
  refine AOps.nil ?_
  refine AGo.split 11 rfl (fun hb2 => ?_) (fun hb2 => ?_)
  ·
   refine AGo.cond_true true rfl rfl ?_
   refine AGo.seq ?_
   refine AGo.region ?_
   refine am 12 ?_
   refine am 13 ?_
   refine aq 14 (q_bin (r := .int .u32 (IntKind.u32.wrap (a.tdiv b))) rfl rfl rfl (by simp [evalBin, evalInt, isShift, hb0])) ?_
   refine aa 6 ?_
   refine aa 7 ?_
   refine AOps.nil ?_
   refine AGo.ret ?_
   refine ⟨[_, _], ⟨rfl, rfl, trivial⟩, ?_, rfl⟩
   show AV.tup _ = AV.tup _
   simp [wdivide, *]
  ·
   refine AGo.cond_false false rfl rfl ?_
   refine AGo.skip ?_
   refine AGo.seq ?_
   refine AGo.region ?_
   refine am 15 ?_
   refine am 16 ?_
   refine aq 17 (q_bin (r := .int .u32 (a.tmod b)) rfl rfl rfl (by simp [evalBin, evalInt, isShift, hb0])) ?_
   refine aa 6 ?_
   refine aa 7 ?_
   refine AOps.nil ?_
   refine AGo.ret ?_
   refine ⟨[_, _], ⟨rfl, rfl, trivial⟩, ?_, rfl⟩
   show AV.tup _ = AV.tup _
   simp [wdivide, *]

set_option maxRecDepth 100000 in
theorem shift_ok (op a b : Int) (hb : 0 ≤ b) : APure Try.prog 70 [.int .i64 op, .int .u32 a, .int .u32 b] (fun r => r = .int .u32 (wshift op a b)) := by
 refine APure.of_body (n := 19) tok Try.func70 rfl rfl ?_
 refine AGo.seq ?_
 refine AGo.region ?_
 refine aa 6 ?_
 refine AOps.nil ?_
 refine AGo.seq ?_
 refine AGo.block ?_
 refine AGo.seq ?_
 refine AGo.region ?_
 refine am 8 ?_
 refine aq 9 (q_bin rfl rfl rfl rfl) ?_
 refine aa 7 ?_
 refine AOps.nil ?_
 refine AGo.split 7 rfl (fun hb1 => ?_) (fun hb1 => ?_)
 ·
  refine AGo.cond_true true rfl rfl ?_
  refine AGo.seq ?_
  refine AGo.region ?_
  refine aa 6 ?_
  refine AOps.nil ?_
  refine AGo.ret ?_
  refine ⟨[_], ⟨rfl, trivial⟩, ?_, rfl⟩
  show AV.int .u32 _ = AV.int .u32 _
  simp only [wshift, *, cond_true, cond_false]
 ·
  refine AGo.cond_false false rfl rfl ?_
  refine AGo.seq ?_
  refine AGo.region ?_
  refine am 11 ?_
  refine aq 12 (q_bin rfl rfl rfl rfl) ?_
  refine aa 10 ?_
  refine AOps.nil ?_
  refine AGo.split 10 rfl (fun hb2 => ?_) (fun hb2 => ?_)
  ·
   refine AGo.cond_true true rfl rfl ?_
   refine AGo.seq ?_
   refine AGo.region ?_
   refine am 13 ?_
   refine am 14 ?_
   refine aq 15 (q_bin (r := .int .u32 (IntKind.u32.wrap (a * 2 ^ (min b.toNat IntKind.u32.bits)))) rfl rfl rfl (by simp only [evalBin, evalInt, isShift, cond_true, if_neg (show ¬ b < 0 by omega)])) ?_
   refine aa 6 ?_
   refine AOps.nil ?_
   refine AGo.ret ?_
   refine ⟨[_], ⟨rfl, trivial⟩, ?_, rfl⟩
   show AV.int .u32 _ = AV.int .u32 _
   simp only [wshift, *, cond_true, cond_false]
  ·
   refine AGo.cond_false false rfl rfl ?_
   refine AGo.skip ?_
   refine AGo.seq ?_
   refine AGo.region ?_
   refine am 16 ?_
   refine am 17 ?_
   refine aq 18 (q_bin (r := .int .u32 (a.fdiv (2 ^ (min b.toNat IntKind.u32.bits)))) rfl rfl rfl (by simp only [evalBin, evalInt, isShift, cond_true, if_neg (show ¬ b < 0 by omega)])) ?_
   refine aa 6 ?_
   refine AOps.nil ?_
   refine AGo.ret ?_
   refine ⟨[_], ⟨rfl, trivial⟩, ?_, rfl⟩
   show AV.int .u32 _ = AV.int .u32 _
   simp only [wshift, *, cond_true, cond_false]

set_option maxRecDepth 100000 in
theorem compare_ok (op a b : Int) (hb : 0 ≤ b) : APure Try.prog 71 [.int .i64 op, .int .u32 a, .int .u32 b] (fun r => r = .int .u32 (wcompare op a b)) := by
 refine APure.of_body (n := 23) tok Try.func71 rfl rfl ?_
 refine AGo.seq ?_
 refine AGo.region ?_
 refine aa 6 ?_
 refine AOps.nil ?_
 refine AGo.seq ?_
 refine AGo.block ?_
 refine AGo.seq ?_
 refine AGo.block ?_
 refine AGo.block ?_
 refine AGo.seq ?_
 refine AGo.seq ?_
 refine AGo.seq ?_
 refine AGo.region ?_
 refine am 8 ?_
 refine aq 9 (q_bin rfl rfl rfl rfl) ?_
 refine am 10 ?_
 refine AOps.split 10 rfl (fun hb1 => ?_) (fun hb1 => ?_)
 ·
  refine am 11 ?_
  refine am 12 ?_
  refine aq 13 (q_bin rfl rfl rfl rfl) ?_
  refine aq 14 (q_pick_true true rfl rfl rfl rfl) ?_
  refine aa 7 ?_
  refine AOps.nil ?_
  refine AGo.split 7 rfl (fun hb2 => ?_) (fun hb2 => ?_)
  ·
   refine AGo.cond_true true rfl rfl ?_
   refine AGo.exit ?_
   refine AGo.seq ?_
   refine AGo.seq ?_
   refine AGo.region ?_
   refine aa 6 ?_
   refine AOps.nil ?_
   refine AGo.ret ?_
   refine ⟨[_], ⟨rfl, trivial⟩, ?_, rfl⟩
   show AV.int .u32 _ = AV.int .u32 _
   simp [wcompare, *]
  ·
   refine AGo.cond_false false rfl rfl ?_
   refine AGo.skip ?_
   refine AGo.seq ?_
   refine AGo.region ?_
   refine am 16 ?_
   refine aq 17 (q_bin rfl rfl rfl rfl) ?_
   refine am 18 ?_
   refine AOps.split 18 rfl (fun hb3 => ?_) (fun hb3 => ?_)
   ·
    refine am 19 ?_
    refine am 20 ?_
    refine aq 21 (q_bin rfl rfl rfl rfl) ?_
    refine aq 22 (q_pick_true true rfl rfl rfl rfl) ?_
    refine aa 15 ?_
    refine AOps.nil ?_
    refine AGo.split 15 rfl (fun hb4 => ?_) (fun hb4 => ?_)
    ·
     refine AGo.cond_true true rfl rfl ?_
     refine AGo.exit ?_
     refine AGo.seq ?_
     refine AGo.seq ?_
     refine AGo.region ?_
     refine aa 6 ?_
     refine AOps.nil ?_
     refine AGo.ret ?_
     refine ⟨[_], ⟨rfl, trivial⟩, ?_, rfl⟩
     show AV.int .u32 _ = AV.int .u32 _
     simp [wcompare, *]
    ·
     refine AGo.cond_false false rfl rfl ?_
     refine AGo.skip ?_
     refine AGo.exit ?_
     refine AGo.seq ?_
     refine AGo.region ?_
     refine aa 6 ?_
     refine AOps.nil ?_
     refine AGo.ret ?_
     refine ⟨[_], ⟨rfl, trivial⟩, ?_, rfl⟩
     show AV.int .u32 _ = AV.int .u32 _
     simp [wcompare, *]
   ·
    refine ak 19 ?_
    refine ak 20 ?_
    refine ak 21 ?_
    refine aq 22 (q_pick_false false rfl rfl rfl rfl) ?_
    refine aa 15 ?_
    refine AOps.nil ?_
    refine AGo.cond_false false rfl rfl ?_
    refine AGo.skip ?_
    refine AGo.exit ?_
    refine AGo.seq ?_
    refine AGo.region ?_
    refine aa 6 ?_
    refine AOps.nil ?_
    refine AGo.ret ?_
    refine ⟨[_], ⟨rfl, trivial⟩, ?_, rfl⟩
    show AV.int .u32 _ = AV.int .u32 _
    simp [wcompare, *]
 ·
  refine ak 11 ?_
  refine ak 12 ?_
  refine ak 13 ?_
  refine aq 14 (q_pick_false false rfl rfl rfl rfl) ?_
  refine aa 7 ?_
  refine AOps.nil ?_
  refine AGo.cond_false false rfl rfl ?_
  refine AGo.skip ?_
  refine AGo.seq ?_
  refine AGo.region ?_
  refine am 16 ?_
  refine aq 17 (q_bin rfl rfl rfl rfl) ?_
  refine am 18 ?_
  refine AOps.split 18 rfl (fun hb5 => ?_) (fun hb5 => ?_)
  ·
   refine am 19 ?_
   refine am 20 ?_
   refine aq 21 (q_bin rfl rfl rfl rfl) ?_
   refine aq 22 (q_pick_true true rfl rfl rfl rfl) ?_
   refine aa 15 ?_
   refine AOps.nil ?_
   refine AGo.split 15 rfl (fun hb6 => ?_) (fun hb6 => ?_)
   ·
    refine AGo.cond_true true rfl rfl ?_
    refine AGo.exit ?_
    refine AGo.seq ?_
    refine AGo.seq ?_
    refine AGo.region ?_
    refine aa 6 ?_
    refine AOps.nil ?_
    refine AGo.ret ?_
    refine ⟨[_], ⟨rfl, trivial⟩, ?_, rfl⟩
    show AV.int .u32 _ = AV.int .u32 _
    simp [wcompare, *]
   ·
    refine AGo.cond_false false rfl rfl ?_
    refine AGo.skip ?_
    refine AGo.exit ?_
    refine AGo.seq ?_
    refine AGo.region ?_
    refine aa 6 ?_
    refine AOps.nil ?_
    refine AGo.ret ?_
    refine ⟨[_], ⟨rfl, trivial⟩, ?_, rfl⟩
    show AV.int .u32 _ = AV.int .u32 _
    simp [wcompare, *]
  ·
   refine ak 19 ?_
   refine ak 20 ?_
   refine ak 21 ?_
   refine aq 22 (q_pick_false false rfl rfl rfl rfl) ?_
   refine aa 15 ?_
   refine AOps.nil ?_
   refine AGo.cond_false false rfl rfl ?_
   refine AGo.skip ?_
   refine AGo.exit ?_
   refine AGo.seq ?_
   refine AGo.region ?_
   refine aa 6 ?_
   refine AOps.nil ?_
   refine AGo.ret ?_
   refine ⟨[_], ⟨rfl, trivial⟩, ?_, rfl⟩
   show AV.int .u32 _ = AV.int .u32 _
   simp [wcompare, *]

set_option maxRecDepth 100000 in
theorem apply_ok (op a b : Int) (hb : 0 ≤ b) : APure Try.prog 60 [.int .i64 op, .int .u32 a, .int .u32 b] (fun r => r = wpair (wapp op a b)) := by
 refine APure.of_body (n := 62) tok Try.func60 rfl rfl ?_
 refine AGo.seq ?_
 refine AGo.region ?_
 refine aa 6 ?_
 refine aa 7 ?_
 refine AOps.nil ?_
 refine AGo.seq ?_
 refine AGo.seq ?_
 refine AGo.region ?_
 refine am 8 ?_
 refine AOps.nil ?_
 refine AGo.block ?_
 refine AGo.seq ?_
 refine AGo.region ?_
 refine aq 10 (q_bin rfl rfl rfl rfl) ?_
 refine aa 9 ?_
 refine AOps.nil ?_
 refine AGo.split 9 rfl (fun hb1 => ?_) (fun hb1 => ?_)
 ·
  refine AGo.cond_true true rfl rfl ?_
  refine AGo.seq ?_
  refine AGo.region ?_
  refine am 11 ?_
  refine am 12 ?_
  refine aq 13 (q_bin rfl rfl rfl rfl) ?_
  refine aa 6 ?_
  refine aa 7 ?_
  refine AOps.nil ?_
  refine AGo.ret ?_
  refine ⟨[_, _], ⟨rfl, rfl, trivial⟩, ?_, rfl⟩
  show AV.tup _ = AV.tup _
  simp [wapp, *]
 ·
  refine AGo.cond_false false rfl rfl ?_
  refine AGo.seq ?_
  refine AGo.region ?_
  refine aq 15 (q_bin rfl rfl rfl rfl) ?_
  refine aa 14 ?_
  refine AOps.nil ?_
  refine AGo.split 14 rfl (fun hb2 => ?_) (fun hb2 => ?_)
  ·
   refine AGo.cond_true true rfl rfl ?_
   refine AGo.seq ?_
   refine AGo.region ?_
   refine am 16 ?_
   refine am 17 ?_
   refine aq 18 (q_bin rfl rfl rfl rfl) ?_
   refine aa 6 ?_
   refine aa 7 ?_
   refine AOps.nil ?_
   refine AGo.ret ?_
   refine ⟨[_, _], ⟨rfl, rfl, trivial⟩, ?_, rfl⟩
   show AV.tup _ = AV.tup _
   simp [wapp, *]
  ·
   refine AGo.cond_false false rfl rfl ?_
   refine AGo.seq ?_
   refine AGo.region ?_
   refine aq 20 (q_bin rfl rfl rfl rfl) ?_
   refine aa 19 ?_
   refine AOps.nil ?_
   refine AGo.split 19 rfl (fun hb3 => ?_) (fun hb3 => ?_)
   ·
    refine AGo.cond_true true rfl rfl ?_
    refine AGo.seq ?_
    refine AGo.region ?_
    refine am 21 ?_
    refine am 22 ?_
    refine aq 23 (q_bin rfl rfl rfl rfl) ?_
    refine aa 6 ?_
    refine aa 7 ?_
    refine AOps.nil ?_
    refine AGo.ret ?_
    refine ⟨[_, _], ⟨rfl, rfl, trivial⟩, ?_, rfl⟩
    show AV.tup _ = AV.tup _
    simp [wapp, *]
   ·
    refine AGo.cond_false false rfl rfl ?_
    refine AGo.seq ?_
    refine AGo.seq ?_
    refine AGo.region ?_
    refine aq 25 (q_bin rfl rfl rfl rfl) ?_
    refine aa 24 ?_
    refine AOps.nil ?_
    refine AGo.split 24 rfl (fun hb4 => ?_) (fun hb4 => ?_)
    ·
     refine AGo.cond_true true rfl rfl ?_
     refine AGo.skip ?_
     refine AGo.cond_true true rfl rfl ?_
     refine AGo.seq ?_
     refine AGo.region ?_
     refine am 27 ?_
     refine am 28 ?_
     refine am 29 ?_
     refine ax 30 (o_pure rfl Try.func69 (by kernel_rfl) rfl rfl rfl (divide_ok _ _ _ hb)) ?_
     refine aq 31 (q_extract rfl rfl rfl) ?_
     refine aq 32 (q_extract rfl rfl rfl) ?_
     refine aa 6 ?_
     refine aa 7 ?_
     refine AOps.nil ?_
     refine AGo.ret ?_
     refine ⟨[_, _], ⟨rfl, rfl, trivial⟩, ?_, rfl⟩
     show AV.tup _ = AV.tup _
     simp [wapp, *]
    ·
     refine AGo.cond_false false rfl rfl ?_
     refine AGo.region ?_
     refine aq 26 (q_bin rfl rfl rfl rfl) ?_
     refine aa 24 ?_
     refine AOps.nil ?_
     refine AGo.split 24 rfl (fun hb5 => ?_) (fun hb5 => ?_)
     ·
      refine AGo.cond_true true rfl rfl ?_
      refine AGo.seq ?_
      refine AGo.region ?_
      refine am 27 ?_
      refine am 28 ?_
      refine am 29 ?_
      refine ax 30 (o_pure rfl Try.func69 (by kernel_rfl) rfl rfl rfl (divide_ok _ _ _ hb)) ?_
      refine aq 31 (q_extract rfl rfl rfl) ?_
      refine aq 32 (q_extract rfl rfl rfl) ?_
      refine aa 6 ?_
      refine aa 7 ?_
      refine AOps.nil ?_
      refine AGo.ret ?_
      refine ⟨[_, _], ⟨rfl, rfl, trivial⟩, ?_, rfl⟩
      show AV.tup _ = AV.tup _
      simp [wapp, *]
     ·
      refine AGo.cond_false false rfl rfl ?_
      refine AGo.seq ?_
      refine AGo.region ?_
      refine aq 34 (q_bin rfl rfl rfl rfl) ?_
      refine aa 33 ?_
      refine AOps.nil ?_
      refine AGo.split 33 rfl (fun hb6 => ?_) (fun hb6 => ?_)
      ·
       refine AGo.cond_true true rfl rfl ?_
       refine AGo.seq ?_
       refine AGo.region ?_
       refine am 35 ?_
       refine am 36 ?_
       refine aq 37 (q_bin rfl rfl rfl rfl) ?_
       refine aa 6 ?_
       refine aa 7 ?_
       refine AOps.nil ?_
       refine AGo.ret ?_
       refine ⟨[_, _], ⟨rfl, rfl, trivial⟩, ?_, rfl⟩
       show AV.tup _ = AV.tup _
       simp [wapp, *]
      ·
       refine AGo.cond_false false rfl rfl ?_
       refine AGo.seq ?_
       refine AGo.region ?_
       refine aq 39 (q_bin rfl rfl rfl rfl) ?_
       refine aa 38 ?_
       refine AOps.nil ?_
       refine AGo.split 38 rfl (fun hb7 => ?_) (fun hb7 => ?_)
       ·
        refine AGo.cond_true true rfl rfl ?_
        refine AGo.seq ?_
        refine AGo.region ?_
        refine am 40 ?_
        refine am 41 ?_
        refine aq 42 (q_bin rfl rfl rfl rfl) ?_
        refine aa 6 ?_
        refine aa 7 ?_
        refine AOps.nil ?_
        refine AGo.ret ?_
        refine ⟨[_, _], ⟨rfl, rfl, trivial⟩, ?_, rfl⟩
        show AV.tup _ = AV.tup _
        simp [wapp, *]
       ·
        refine AGo.cond_false false rfl rfl ?_
        refine AGo.seq ?_
        refine AGo.region ?_
        refine aq 44 (q_bin rfl rfl rfl rfl) ?_
        refine aa 43 ?_
        refine AOps.nil ?_
        refine AGo.split 43 rfl (fun hb8 => ?_) (fun hb8 => ?_)
        ·
         refine AGo.cond_true true rfl rfl ?_
         refine AGo.seq ?_
         refine AGo.region ?_
         refine am 45 ?_
         refine am 46 ?_
         refine aq 47 (q_bin rfl rfl rfl rfl) ?_
         refine aa 6 ?_
         refine aa 7 ?_
         refine AOps.nil ?_
         refine AGo.ret ?_
         refine ⟨[_, _], ⟨rfl, rfl, trivial⟩, ?_, rfl⟩
         show AV.tup _ = AV.tup _
         simp [wapp, *]
        ·
         refine AGo.cond_false false rfl rfl ?_
         refine AGo.seq ?_
         refine AGo.seq ?_
         refine AGo.region ?_
         refine aq 49 (q_bin rfl rfl rfl rfl) ?_
         refine aa 48 ?_
         refine AOps.nil ?_
         refine AGo.split 48 rfl (fun hb9 => ?_) (fun hb9 => ?_)
         ·
          refine AGo.cond_true true rfl rfl ?_
          refine AGo.skip ?_
          refine AGo.cond_true true rfl rfl ?_
          refine AGo.seq ?_
          refine AGo.region ?_
          refine am 51 ?_
          refine am 52 ?_
          refine am 53 ?_
          refine ax 54 (o_pure rfl Try.func70 (by kernel_rfl) rfl rfl rfl (shift_ok _ _ _ hb)) ?_
          refine aa 6 ?_
          refine aa 7 ?_
          refine AOps.nil ?_
          refine AGo.ret ?_
          refine ⟨[_, _], ⟨rfl, rfl, trivial⟩, ?_, rfl⟩
          show AV.tup _ = AV.tup _
          simp [wapp, *]
         ·
          refine AGo.cond_false false rfl rfl ?_
          refine AGo.region ?_
          refine aq 50 (q_bin rfl rfl rfl rfl) ?_
          refine aa 48 ?_
          refine AOps.nil ?_
          refine AGo.split 48 rfl (fun hb10 => ?_) (fun hb10 => ?_)
          ·
           refine AGo.cond_true true rfl rfl ?_
           refine AGo.seq ?_
           refine AGo.region ?_
           refine am 51 ?_
           refine am 52 ?_
           refine am 53 ?_
           refine ax 54 (o_pure rfl Try.func70 (by kernel_rfl) rfl rfl rfl (shift_ok _ _ _ hb)) ?_
           refine aa 6 ?_
           refine aa 7 ?_
           refine AOps.nil ?_
           refine AGo.ret ?_
           refine ⟨[_, _], ⟨rfl, rfl, trivial⟩, ?_, rfl⟩
           show AV.tup _ = AV.tup _
           simp [wapp, *]
          ·
           refine AGo.cond_false false rfl rfl ?_
           refine AGo.seq ?_
           refine AGo.seq ?_
           refine AGo.region ?_
           refine aq 56 (q_bin rfl rfl rfl rfl) ?_
           refine aa 55 ?_
           refine AOps.nil ?_
           refine AGo.split 55 rfl (fun hb11 => ?_) (fun hb11 => ?_)
           ·
            refine AGo.cond_true true rfl rfl ?_
            refine AGo.skip ?_
            refine AGo.cond_true true rfl rfl ?_
            refine AGo.seq ?_
            refine AGo.region ?_
            refine am 58 ?_
            refine am 59 ?_
            refine am 60 ?_
            refine ax 61 (o_pure rfl Try.func71 (by kernel_rfl) rfl rfl rfl (compare_ok _ _ _ hb)) ?_
            refine aa 6 ?_
            refine aa 7 ?_
            refine AOps.nil ?_
            refine AGo.ret ?_
            refine ⟨[_, _], ⟨rfl, rfl, trivial⟩, ?_, rfl⟩
            show AV.tup _ = AV.tup _
            simp [wapp, *]
           ·
            refine AGo.cond_false false rfl rfl ?_
            refine AGo.region ?_
            refine aq 57 (q_bin rfl rfl rfl rfl) ?_
            refine aa 55 ?_
            refine AOps.nil ?_
            refine AGo.split 55 rfl (fun hb12 => ?_) (fun hb12 => ?_)
            ·
             refine AGo.cond_true true rfl rfl ?_
             refine AGo.seq ?_
             refine AGo.region ?_
             refine am 58 ?_
             refine am 59 ?_
             refine am 60 ?_
             refine ax 61 (o_pure rfl Try.func71 (by kernel_rfl) rfl rfl rfl (compare_ok _ _ _ hb)) ?_
             refine aa 6 ?_
             refine aa 7 ?_
             refine AOps.nil ?_
             refine AGo.ret ?_
             refine ⟨[_, _], ⟨rfl, rfl, trivial⟩, ?_, rfl⟩
             show AV.tup _ = AV.tup _
             simp [wapp, *]
            ·
             refine AGo.cond_false false rfl rfl ?_
             refine AGo.skip ?_
             refine AGo.seq ?_
             refine AGo.region ?_
             refine aa 6 ?_
             refine aa 7 ?_
             refine AOps.nil ?_
             refine AGo.ret ?_
             refine ⟨[_, _], ⟨rfl, rfl, trivial⟩, ?_, rfl⟩
             show AV.tup _ = AV.tup _
             simp [wapp, *]

end Go.Proofs.Ytjmjmedjjbginaa.Sv

namespace Go.Proofs.Ytjmjmedjjbginaa.Sv
open Go

set_option maxRecDepth 100000 in
theorem do_ok (h : AHeap) (f0 W R nn : Nat) (x0 x2 : AV) (s : ByteArray) (t : Tac) (regs : List Int) (m : Mach) (ht : TacIn t nn R W) (hr : allR regs) (hlen : regs.length = R) (hm : m.good W) (h0 : m.fin = 0) (hW : W ≤ 1048576) (hs : s.size ≤ 9223372036854775807) (hwn : isW t.n) (h10 : t.op ≠ 10) (hh0 : h 0 = some (.row false 6 [(boxC x0 x2 W s m)])) (hh1 : h 1 = some (.row true 1 (regCells m.words))) (hh3 : h 3 = some (.row true 1 (byteCells m.out))) (hhr : h (f0 + 16) = some (.row true 1 (regCells regs))) : ACall Try.prog 39 [.ptr 0 1 0 0, .loc t.cells, .ref (f0 + 16) R 0 R] h (fun r h'' => r = .int .i64 (mone (fun _ m => m) s t regs m).2.fin ∧ HSub (hput (hput (hput (hput h 0 (.row false 6 [boxC x0 x2 W s (mone (fun _ m => m) s t regs m).2])) 1 (.row true 1 (regCells (mone (fun _ m => m) s t regs m).2.words))) 3 (.row true 1 (byteCells (mone (fun _ m => m) s t regs m).2.out))) (f0 + 16) (.row true 1 (regCells (mone (fun _ m => m) s t regs m).1))) h'') := by
 refine ACall.of_body (n := 226) tok Try.func39 rfl rfl ?_
 refine AGo.seq ?_
 refine AGo.region ?_
 refine aa 6 ?_
 refine AOps.nil ?_
 refine AGo.seq ?_
 refine AGo.seq ?_
 refine AGo.region ?_
 refine am 9 ?_
 refine aq 10 (q_nilCheck rfl rfl rfl) ?_
 refine af 11 tok ?_
 refine al 12 tok ?_
 refine AOps.nil ?_
 refine AGo.block ?_
 refine AGo.seq ?_
 refine AGo.region ?_
 refine aq 14 (q_bin rfl rfl rfl rfl) ?_
 refine aa 13 ?_
 refine AOps.nil ?_
 refine AGo.split 13 rfl (fun hb1 => ?_) (fun hb1 => ?_)
 ·
  refine AGo.cond_true true rfl rfl ?_
  have ho : t.op = 1 := by simpa using hb1
  have hd := ht.d (by simp [setsOp, ho])
  refine AGo.draw mix ?_
  refine dm 15 ?_
  refine dm 16 ?_
  refine dq 17 (q_nilCheck rfl rfl rfl) ?_
  refine df 18 tok ?_
  refine dl 19 tok ?_
  refine dm 20 ?_
  refine dq 21 (q_nilCheck rfl rfl rfl) ?_
  refine df 22 tok ?_
  refine dl 23 tok ?_
  refine dq 24 (q_index_ref tok (es := regCells regs) rfl rfl rfl rfl rfl rfl z41q (by rw [regCells_len, hlen]) rfl hd.1 (by have := hd.2; omega)) ?_
  refine DOps.w rfl rfl (o_store tok (es := regCells regs) rfl rfl rfl rfl rfl z41q (by rw [regCells_len, hlen]) (rcell (by have := hd; have := hm.len; omega)) rfl (by decide) rfl z61q) ?_
  refine DOps.nil (by kernel_rfl) ?_
  refine AGo.seq ?_
  refine AGo.region ?_
  refine aa 6 ?_
  refine AOps.nil ?_
  refine AGo.ret ?_
  first
  | (refine ⟨[_], ⟨rfl, trivial⟩, ?_, ?_⟩ <;> rw [mone1 ho] <;> first | rfl | exact congrArg (AV.int .i64) h0.symm | exact HSub.put4 z9q z9q z9q z9q (fun c q h1 h2 h3 h4 hq => by simp only [hputs, hput_ne _ _ h1, hput_ne _ _ h2, hput_ne _ _ h3, hput_ne _ _ h4, hq]))
  | (refine ⟨[_], ⟨rfl, trivial⟩, ?_, ?_⟩ <;> rw [mone2 ho] <;> first | rfl | exact congrArg (AV.int .i64) h0.symm | exact HSub.put4 z9q z9q z9q z9q (fun c q h1 h2 h3 h4 hq => by simp only [hputs, hput_ne _ _ h1, hput_ne _ _ h2, hput_ne _ _ h3, hput_ne _ _ h4, hq]))
  | (refine ⟨[_], ⟨rfl, trivial⟩, ?_, ?_⟩ <;> rw [mone3 ho hz] <;> first | rfl | exact congrArg (AV.int .i64) h0.symm | exact HSub.put4 z9q z9q z9q z9q (fun c q h1 h2 h3 h4 hq => by simp only [hputs, hput_ne _ _ h1, hput_ne _ _ h2, hput_ne _ _ h3, hput_ne _ _ h4, hq]))
  | (refine ⟨[_], ⟨rfl, trivial⟩, ?_, ?_⟩ <;> rw [mone4 ho] <;> first | rfl | exact congrArg (AV.int .i64) h0.symm | exact HSub.put4 z9q z9q z9q z9q (fun c q h1 h2 h3 h4 hq => by simp only [hputs, hput_ne _ _ h1, hput_ne _ _ h2, hput_ne _ _ h3, hput_ne _ _ h4, hq]))
  | (refine ⟨[_], ⟨rfl, trivial⟩, ?_, ?_⟩ <;> rw [mone5 ho] <;> first | rfl | exact congrArg (AV.int .i64) h0.symm | exact HSub.put4 z9q z9q z9q z9q (fun c q h1 h2 h3 h4 hq => by simp only [hputs, hput_ne _ _ h1, hput_ne _ _ h2, hput_ne _ _ h3, hput_ne _ _ h4, hq]))
  | (refine ⟨[_], ⟨rfl, trivial⟩, ?_, ?_⟩ <;> rw [mone6 ho hsz] <;> first | rfl | exact congrArg (AV.int .i64) h0.symm | exact HSub.put4 z9q z9q z9q z9q (fun c q h1 h2 h3 h4 hq => by simp only [hputs, hput_ne _ _ h1, hput_ne _ _ h2, hput_ne _ _ h3, hput_ne _ _ h4, hq]))
  | (refine ⟨[_], ⟨rfl, trivial⟩, ?_, ?_⟩ <;> rw [mone7 ho hsz] <;> first | rfl | exact congrArg (AV.int .i64) h0.symm | exact HSub.put4 z9q z9q z9q z9q (fun c q h1 h2 h3 h4 hq => by simp only [hputs, hput_ne _ _ h1, hput_ne _ _ h2, hput_ne _ _ h3, hput_ne _ _ h4, hq]))
  | (refine ⟨[_], ⟨rfl, trivial⟩, ?_, ?_⟩ <;> rw [mone9 ho hou] <;> first | rfl | exact congrArg (AV.int .i64) h0.symm | exact HSub.put4 z9q z9q z9q z9q (fun c q h1 h2 h3 h4 hq => by simp only [hputs, hput_ne _ _ h1, hput_ne _ _ h2, hput_ne _ _ h3, hput_ne _ _ h4, hq]))
  | (rcases hrc with hrd | hrd
     · simp only [decide_eq_true hrd, cond_true]
       (refine ⟨[_], ⟨rfl, trivial⟩, ?_, ?_⟩ <;> rw [mone8 ho hrd] <;> first | rfl | exact congrArg (AV.int .i64) h0.symm | exact HSub.put4 z9q z9q z9q z9q (fun c q h1 h2 h3 h4 hq => by simp only [hputs, hput_ne _ _ h1, hput_ne _ _ h2, hput_ne _ _ h3, hput_ne _ _ h4, hq]))
     · simp only [decide_eq_false hrd, cond_false]
       (refine ⟨[_], ⟨rfl, trivial⟩, ?_, ?_⟩ <;> rw [mone8z ho hrd] <;> first | rfl | exact congrArg (AV.int .i64) h0.symm | exact HSub.put4 z9q z9q z9q z9q (fun c q h1 h2 h3 h4 hq => by simp only [hputs, hput_ne _ _ h1, hput_ne _ _ h2, hput_ne _ _ h3, hput_ne _ _ h4, hq])))
  | (exfalso; have := ht.op; first | (simp_all; done) | (simp_all; omega))
 ·
  refine AGo.cond_false false rfl rfl ?_
  refine AGo.seq ?_
  refine AGo.region ?_
  refine aq 26 (q_bin rfl rfl rfl rfl) ?_
  refine aa 25 ?_
  refine AOps.nil ?_
  refine AGo.split 25 rfl (fun hb2 => ?_) (fun hb2 => ?_)
  ·
   refine AGo.cond_true true rfl rfl ?_
   have ho : t.op = 2 := by simpa using hb2
   have hd := ht.d (by simp [setsOp, ho])
   have ha := ht.a (by simp [use1, use2, ho])
   refine AGo.draw mix ?_
   refine dm 27 ?_
   refine dm 28 ?_
   refine dq 29 (q_nilCheck rfl rfl rfl) ?_
   refine df 30 tok ?_
   refine dl 31 tok ?_
   refine dm 32 ?_
   refine dm 33 ?_
   refine dq 34 (q_nilCheck rfl rfl rfl) ?_
   refine df 35 tok ?_
   refine dl 36 tok ?_
   refine dq 37 (q_index_ref tok (es := regCells regs) rfl rfl rfl rfl rfl rfl z41q (by rw [regCells_len, hlen]) rfl ha.1 (by have := ha.2; omega)) ?_
   refine dq 38 (q_load tok rfl rfl rfl (.ptr _ _ _ _ _ _ (regCells regs) _ z41q (by rw [regCells_len, hlen]) (rcell (by have := ha; have := hm.len; omega))) rfl) ?_
   refine dq 39 (q_index_ref tok (es := regCells regs) rfl rfl rfl rfl rfl rfl z41q (by rw [regCells_len, hlen]) rfl hd.1 (by have := hd.2; omega)) ?_
   refine DOps.w rfl rfl (o_store tok (es := regCells regs) rfl rfl rfl rfl rfl z41q (by rw [regCells_len, hlen]) (rcell (by have := hd; have := hm.len; omega)) rfl (by decide) rfl z61q) ?_
   refine DOps.nil (by kernel_rfl) ?_
   refine AGo.seq ?_
   refine AGo.region ?_
   refine aa 6 ?_
   refine AOps.nil ?_
   refine AGo.ret ?_
   first
   | (refine ⟨[_], ⟨rfl, trivial⟩, ?_, ?_⟩ <;> rw [mone1 ho] <;> first | rfl | exact congrArg (AV.int .i64) h0.symm | exact HSub.put4 z9q z9q z9q z9q (fun c q h1 h2 h3 h4 hq => by simp only [hputs, hput_ne _ _ h1, hput_ne _ _ h2, hput_ne _ _ h3, hput_ne _ _ h4, hq]))
   | (refine ⟨[_], ⟨rfl, trivial⟩, ?_, ?_⟩ <;> rw [mone2 ho] <;> first | rfl | exact congrArg (AV.int .i64) h0.symm | exact HSub.put4 z9q z9q z9q z9q (fun c q h1 h2 h3 h4 hq => by simp only [hputs, hput_ne _ _ h1, hput_ne _ _ h2, hput_ne _ _ h3, hput_ne _ _ h4, hq]))
   | (refine ⟨[_], ⟨rfl, trivial⟩, ?_, ?_⟩ <;> rw [mone3 ho hz] <;> first | rfl | exact congrArg (AV.int .i64) h0.symm | exact HSub.put4 z9q z9q z9q z9q (fun c q h1 h2 h3 h4 hq => by simp only [hputs, hput_ne _ _ h1, hput_ne _ _ h2, hput_ne _ _ h3, hput_ne _ _ h4, hq]))
   | (refine ⟨[_], ⟨rfl, trivial⟩, ?_, ?_⟩ <;> rw [mone4 ho] <;> first | rfl | exact congrArg (AV.int .i64) h0.symm | exact HSub.put4 z9q z9q z9q z9q (fun c q h1 h2 h3 h4 hq => by simp only [hputs, hput_ne _ _ h1, hput_ne _ _ h2, hput_ne _ _ h3, hput_ne _ _ h4, hq]))
   | (refine ⟨[_], ⟨rfl, trivial⟩, ?_, ?_⟩ <;> rw [mone5 ho] <;> first | rfl | exact congrArg (AV.int .i64) h0.symm | exact HSub.put4 z9q z9q z9q z9q (fun c q h1 h2 h3 h4 hq => by simp only [hputs, hput_ne _ _ h1, hput_ne _ _ h2, hput_ne _ _ h3, hput_ne _ _ h4, hq]))
   | (refine ⟨[_], ⟨rfl, trivial⟩, ?_, ?_⟩ <;> rw [mone6 ho hsz] <;> first | rfl | exact congrArg (AV.int .i64) h0.symm | exact HSub.put4 z9q z9q z9q z9q (fun c q h1 h2 h3 h4 hq => by simp only [hputs, hput_ne _ _ h1, hput_ne _ _ h2, hput_ne _ _ h3, hput_ne _ _ h4, hq]))
   | (refine ⟨[_], ⟨rfl, trivial⟩, ?_, ?_⟩ <;> rw [mone7 ho hsz] <;> first | rfl | exact congrArg (AV.int .i64) h0.symm | exact HSub.put4 z9q z9q z9q z9q (fun c q h1 h2 h3 h4 hq => by simp only [hputs, hput_ne _ _ h1, hput_ne _ _ h2, hput_ne _ _ h3, hput_ne _ _ h4, hq]))
   | (refine ⟨[_], ⟨rfl, trivial⟩, ?_, ?_⟩ <;> rw [mone9 ho hou] <;> first | rfl | exact congrArg (AV.int .i64) h0.symm | exact HSub.put4 z9q z9q z9q z9q (fun c q h1 h2 h3 h4 hq => by simp only [hputs, hput_ne _ _ h1, hput_ne _ _ h2, hput_ne _ _ h3, hput_ne _ _ h4, hq]))
   | (rcases hrc with hrd | hrd
      · simp only [decide_eq_true hrd, cond_true]
        (refine ⟨[_], ⟨rfl, trivial⟩, ?_, ?_⟩ <;> rw [mone8 ho hrd] <;> first | rfl | exact congrArg (AV.int .i64) h0.symm | exact HSub.put4 z9q z9q z9q z9q (fun c q h1 h2 h3 h4 hq => by simp only [hputs, hput_ne _ _ h1, hput_ne _ _ h2, hput_ne _ _ h3, hput_ne _ _ h4, hq]))
      · simp only [decide_eq_false hrd, cond_false]
        (refine ⟨[_], ⟨rfl, trivial⟩, ?_, ?_⟩ <;> rw [mone8z ho hrd] <;> first | rfl | exact congrArg (AV.int .i64) h0.symm | exact HSub.put4 z9q z9q z9q z9q (fun c q h1 h2 h3 h4 hq => by simp only [hputs, hput_ne _ _ h1, hput_ne _ _ h2, hput_ne _ _ h3, hput_ne _ _ h4, hq])))
   | (exfalso; have := ht.op; first | (simp_all; done) | (simp_all; omega))
  ·
   refine AGo.cond_false false rfl rfl ?_
   refine AGo.seq ?_
   refine AGo.region ?_
   refine aq 41 (q_bin rfl rfl rfl rfl) ?_
   refine aa 40 ?_
   refine AOps.nil ?_
   refine AGo.split 40 rfl (fun hb3 => ?_) (fun hb3 => ?_)
   ·
    refine AGo.cond_true true rfl rfl ?_
    have ho : t.op = 3 := by simpa using hb3
    have hd := ht.d (by simp [setsOp, ho])
    have ha := ht.a (by simp [use1, use2, ho])
    have hb := ht.b (by simp [use2, ho])
    refine AGo.seq ?_
    refine AGo.draw mix ?_
    refine dm 43 ?_
    refine dq 44 (q_nilCheck rfl rfl rfl) ?_
    refine df 45 tok ?_
    refine dl 46 tok ?_
    refine dm 47 ?_
    refine dm 48 ?_
    refine dq 49 (q_nilCheck rfl rfl rfl) ?_
    refine df 50 tok ?_
    refine dl 51 tok ?_
    refine dq 52 (q_index_ref tok (es := regCells regs) rfl rfl rfl rfl rfl rfl z41q (by rw [regCells_len, hlen]) rfl ha.1 (by have := ha.2; omega)) ?_
    refine dq 53 (q_load tok rfl rfl rfl (.ptr _ _ _ _ _ _ (regCells regs) _ z41q (by rw [regCells_len, hlen]) (rcell (by have := ha; have := hm.len; omega))) rfl) ?_
    refine dm 54 ?_
    refine dm 55 ?_
    refine dq 56 (q_nilCheck rfl rfl rfl) ?_
    refine df 57 tok ?_
    refine dl 58 tok ?_
    refine dq 59 (q_index_ref tok (es := regCells regs) rfl rfl rfl rfl rfl rfl z41q (by rw [regCells_len, hlen]) rfl hb.1 (by have := hb.2; omega)) ?_
    refine dq 60 (q_load tok rfl rfl rfl (.ptr _ _ _ _ _ _ (regCells regs) _ z41q (by rw [regCells_len, hlen]) (rcell (by have := hb; have := hm.len; omega))) rfl) ?_
    refine dx 61 (o_pure rfl Try.func60 (by kernel_rfl) rfl rfl rfl (apply_ok t.k (rget regs t.a) (rget regs t.b) (rget_w hr _).1)) ?_
    refine dm 42 ?_
    refine dq 62 (q_extract rfl rfl rfl) ?_
    refine dq 63 (q_extract rfl rfl rfl) ?_
    refine da 7 ?_
    refine da 8 ?_
    refine DOps.nil (by kernel_rfl) ?_
    refine AGo.seq ?_
    refine AGo.seq ?_
    refine AGo.region ?_
    refine am 64 ?_
    refine aq 65 (q_bin rfl rfl rfl rfl) ?_
    refine AOps.nil ?_
    refine AGo.split 65 rfl (fun hb4 => ?_) (fun hb4 => ?_)
    ·
     refine AGo.cond_true true rfl rfl ?_
     have hz := hb4
     refine AGo.seq ?_
     refine AGo.region ?_
     refine aa 6 ?_
     refine AOps.nil ?_
     refine AGo.ret ?_
     (refine ⟨[_], ⟨rfl, trivial⟩, ?_, ?_⟩ <;> rw [mone3z ho hz] <;> first | rfl | exact congrArg (AV.int .i64) h0.symm | exact HSub.put4 z9q z9q z9q z9q (fun c q h1 h2 h3 h4 hq => by simp only [hputs, hput_ne _ _ h1, hput_ne _ _ h2, hput_ne _ _ h3, hput_ne _ _ h4, hq]))
    ·
     refine AGo.cond_false false rfl rfl ?_
     have hz := hb4
     refine AGo.skip ?_
     refine AGo.region ?_
     refine am 66 ?_
     refine am 67 ?_
     refine aq 68 (q_nilCheck rfl rfl rfl) ?_
     refine af 69 tok ?_
     refine al 70 tok ?_
     refine am 71 ?_
     refine aq 72 (q_index_ref tok (es := regCells regs) rfl rfl rfl rfl rfl rfl z41q (by rw [regCells_len, hlen]) rfl hd.1 (by have := hd.2; omega)) ?_
     refine AOps.w rfl rfl (o_store tok (es := regCells regs) rfl rfl rfl rfl rfl z41q (by rw [regCells_len, hlen]) (rcell (by have := hd; have := hm.len; omega)) rfl (by decide) rfl z61q) ?_
     refine AOps.nil ?_
     refine AGo.seq ?_
     refine AGo.region ?_
     refine aa 6 ?_
     refine AOps.nil ?_
     refine AGo.ret ?_
     first
     | (refine ⟨[_], ⟨rfl, trivial⟩, ?_, ?_⟩ <;> rw [mone1 ho] <;> first | rfl | exact congrArg (AV.int .i64) h0.symm | exact HSub.put4 z9q z9q z9q z9q (fun c q h1 h2 h3 h4 hq => by simp only [hputs, hput_ne _ _ h1, hput_ne _ _ h2, hput_ne _ _ h3, hput_ne _ _ h4, hq]))
     | (refine ⟨[_], ⟨rfl, trivial⟩, ?_, ?_⟩ <;> rw [mone2 ho] <;> first | rfl | exact congrArg (AV.int .i64) h0.symm | exact HSub.put4 z9q z9q z9q z9q (fun c q h1 h2 h3 h4 hq => by simp only [hputs, hput_ne _ _ h1, hput_ne _ _ h2, hput_ne _ _ h3, hput_ne _ _ h4, hq]))
     | (refine ⟨[_], ⟨rfl, trivial⟩, ?_, ?_⟩ <;> rw [mone3 ho hz] <;> first | rfl | exact congrArg (AV.int .i64) h0.symm | exact HSub.put4 z9q z9q z9q z9q (fun c q h1 h2 h3 h4 hq => by simp only [hputs, hput_ne _ _ h1, hput_ne _ _ h2, hput_ne _ _ h3, hput_ne _ _ h4, hq]))
     | (refine ⟨[_], ⟨rfl, trivial⟩, ?_, ?_⟩ <;> rw [mone4 ho] <;> first | rfl | exact congrArg (AV.int .i64) h0.symm | exact HSub.put4 z9q z9q z9q z9q (fun c q h1 h2 h3 h4 hq => by simp only [hputs, hput_ne _ _ h1, hput_ne _ _ h2, hput_ne _ _ h3, hput_ne _ _ h4, hq]))
     | (refine ⟨[_], ⟨rfl, trivial⟩, ?_, ?_⟩ <;> rw [mone5 ho] <;> first | rfl | exact congrArg (AV.int .i64) h0.symm | exact HSub.put4 z9q z9q z9q z9q (fun c q h1 h2 h3 h4 hq => by simp only [hputs, hput_ne _ _ h1, hput_ne _ _ h2, hput_ne _ _ h3, hput_ne _ _ h4, hq]))
     | (refine ⟨[_], ⟨rfl, trivial⟩, ?_, ?_⟩ <;> rw [mone6 ho hsz] <;> first | rfl | exact congrArg (AV.int .i64) h0.symm | exact HSub.put4 z9q z9q z9q z9q (fun c q h1 h2 h3 h4 hq => by simp only [hputs, hput_ne _ _ h1, hput_ne _ _ h2, hput_ne _ _ h3, hput_ne _ _ h4, hq]))
     | (refine ⟨[_], ⟨rfl, trivial⟩, ?_, ?_⟩ <;> rw [mone7 ho hsz] <;> first | rfl | exact congrArg (AV.int .i64) h0.symm | exact HSub.put4 z9q z9q z9q z9q (fun c q h1 h2 h3 h4 hq => by simp only [hputs, hput_ne _ _ h1, hput_ne _ _ h2, hput_ne _ _ h3, hput_ne _ _ h4, hq]))
     | (refine ⟨[_], ⟨rfl, trivial⟩, ?_, ?_⟩ <;> rw [mone9 ho hou] <;> first | rfl | exact congrArg (AV.int .i64) h0.symm | exact HSub.put4 z9q z9q z9q z9q (fun c q h1 h2 h3 h4 hq => by simp only [hputs, hput_ne _ _ h1, hput_ne _ _ h2, hput_ne _ _ h3, hput_ne _ _ h4, hq]))
     | (rcases hrc with hrd | hrd
        · simp only [decide_eq_true hrd, cond_true]
          (refine ⟨[_], ⟨rfl, trivial⟩, ?_, ?_⟩ <;> rw [mone8 ho hrd] <;> first | rfl | exact congrArg (AV.int .i64) h0.symm | exact HSub.put4 z9q z9q z9q z9q (fun c q h1 h2 h3 h4 hq => by simp only [hputs, hput_ne _ _ h1, hput_ne _ _ h2, hput_ne _ _ h3, hput_ne _ _ h4, hq]))
        · simp only [decide_eq_false hrd, cond_false]
          (refine ⟨[_], ⟨rfl, trivial⟩, ?_, ?_⟩ <;> rw [mone8z ho hrd] <;> first | rfl | exact congrArg (AV.int .i64) h0.symm | exact HSub.put4 z9q z9q z9q z9q (fun c q h1 h2 h3 h4 hq => by simp only [hputs, hput_ne _ _ h1, hput_ne _ _ h2, hput_ne _ _ h3, hput_ne _ _ h4, hq])))
     | (exfalso; have := ht.op; first | (simp_all; done) | (simp_all; omega))
   ·
    refine AGo.cond_false false rfl rfl ?_
    refine AGo.seq ?_
    refine AGo.region ?_
    refine aq 74 (q_bin rfl rfl rfl rfl) ?_
    refine aa 73 ?_
    refine AOps.nil ?_
    refine AGo.split 73 rfl (fun hb5 => ?_) (fun hb5 => ?_)
    ·
     refine AGo.cond_true true rfl rfl ?_
     have ho : t.op = 4 := by simpa using hb5
     have hd := ht.d (by simp [setsOp, ho])
     have hbs := ht.base (by simp [ho])
     refine AGo.draw mix ?_
     refine dm 75 ?_
     refine dm 76 ?_
     refine dq 77 (q_nilCheck rfl rfl rfl) ?_
     refine df 78 tok ?_
     refine dl 79 tok ?_
     refine dm 80 ?_
     refine dq 81 (q_nilCheck rfl rfl rfl) ?_
     refine df 82 tok ?_
     refine dq 83 (q_load tok rfl rfl rfl (.ptr _ _ _ _ _ _ [(boxC x0 x2 W s m)] _ z41q rfl rfl) rfl) ?_
     refine dm 84 ?_
     refine dq 85 (q_nilCheck rfl rfl rfl) ?_
     refine df 86 tok ?_
     refine dl 87 tok ?_
     refine dq 88 (q_index_ref tok (es := regCells m.words) rfl rfl rfl rfl rfl rfl z41q (by rw [regCells_len, hm.len]) rfl hbs.1 (by have := hbs.2; omega)) ?_
     refine dq 89 (q_load tok rfl rfl rfl (.ptr _ _ _ _ _ _ (regCells m.words) _ z41q (by rw [regCells_len, hm.len]) (rcell (by have := hbs; have := hm.len; omega))) rfl) ?_
     refine dq 90 (q_index_ref tok (es := regCells regs) rfl rfl rfl rfl rfl rfl z41q (by rw [regCells_len, hlen]) rfl hd.1 (by have := hd.2; omega)) ?_
     refine DOps.w rfl rfl (o_store tok (es := regCells regs) rfl rfl rfl rfl rfl z41q (by rw [regCells_len, hlen]) (rcell (by have := hd; have := hm.len; omega)) rfl (by decide) rfl z61q) ?_
     refine DOps.nil (by kernel_rfl) ?_
     refine AGo.seq ?_
     refine AGo.region ?_
     refine aa 6 ?_
     refine AOps.nil ?_
     refine AGo.ret ?_
     first
     | (refine ⟨[_], ⟨rfl, trivial⟩, ?_, ?_⟩ <;> rw [mone1 ho] <;> first | rfl | exact congrArg (AV.int .i64) h0.symm | exact HSub.put4 z9q z9q z9q z9q (fun c q h1 h2 h3 h4 hq => by simp only [hputs, hput_ne _ _ h1, hput_ne _ _ h2, hput_ne _ _ h3, hput_ne _ _ h4, hq]))
     | (refine ⟨[_], ⟨rfl, trivial⟩, ?_, ?_⟩ <;> rw [mone2 ho] <;> first | rfl | exact congrArg (AV.int .i64) h0.symm | exact HSub.put4 z9q z9q z9q z9q (fun c q h1 h2 h3 h4 hq => by simp only [hputs, hput_ne _ _ h1, hput_ne _ _ h2, hput_ne _ _ h3, hput_ne _ _ h4, hq]))
     | (refine ⟨[_], ⟨rfl, trivial⟩, ?_, ?_⟩ <;> rw [mone3 ho hz] <;> first | rfl | exact congrArg (AV.int .i64) h0.symm | exact HSub.put4 z9q z9q z9q z9q (fun c q h1 h2 h3 h4 hq => by simp only [hputs, hput_ne _ _ h1, hput_ne _ _ h2, hput_ne _ _ h3, hput_ne _ _ h4, hq]))
     | (refine ⟨[_], ⟨rfl, trivial⟩, ?_, ?_⟩ <;> rw [mone4 ho] <;> first | rfl | exact congrArg (AV.int .i64) h0.symm | exact HSub.put4 z9q z9q z9q z9q (fun c q h1 h2 h3 h4 hq => by simp only [hputs, hput_ne _ _ h1, hput_ne _ _ h2, hput_ne _ _ h3, hput_ne _ _ h4, hq]))
     | (refine ⟨[_], ⟨rfl, trivial⟩, ?_, ?_⟩ <;> rw [mone5 ho] <;> first | rfl | exact congrArg (AV.int .i64) h0.symm | exact HSub.put4 z9q z9q z9q z9q (fun c q h1 h2 h3 h4 hq => by simp only [hputs, hput_ne _ _ h1, hput_ne _ _ h2, hput_ne _ _ h3, hput_ne _ _ h4, hq]))
     | (refine ⟨[_], ⟨rfl, trivial⟩, ?_, ?_⟩ <;> rw [mone6 ho hsz] <;> first | rfl | exact congrArg (AV.int .i64) h0.symm | exact HSub.put4 z9q z9q z9q z9q (fun c q h1 h2 h3 h4 hq => by simp only [hputs, hput_ne _ _ h1, hput_ne _ _ h2, hput_ne _ _ h3, hput_ne _ _ h4, hq]))
     | (refine ⟨[_], ⟨rfl, trivial⟩, ?_, ?_⟩ <;> rw [mone7 ho hsz] <;> first | rfl | exact congrArg (AV.int .i64) h0.symm | exact HSub.put4 z9q z9q z9q z9q (fun c q h1 h2 h3 h4 hq => by simp only [hputs, hput_ne _ _ h1, hput_ne _ _ h2, hput_ne _ _ h3, hput_ne _ _ h4, hq]))
     | (refine ⟨[_], ⟨rfl, trivial⟩, ?_, ?_⟩ <;> rw [mone9 ho hou] <;> first | rfl | exact congrArg (AV.int .i64) h0.symm | exact HSub.put4 z9q z9q z9q z9q (fun c q h1 h2 h3 h4 hq => by simp only [hputs, hput_ne _ _ h1, hput_ne _ _ h2, hput_ne _ _ h3, hput_ne _ _ h4, hq]))
     | (rcases hrc with hrd | hrd
        · simp only [decide_eq_true hrd, cond_true]
          (refine ⟨[_], ⟨rfl, trivial⟩, ?_, ?_⟩ <;> rw [mone8 ho hrd] <;> first | rfl | exact congrArg (AV.int .i64) h0.symm | exact HSub.put4 z9q z9q z9q z9q (fun c q h1 h2 h3 h4 hq => by simp only [hputs, hput_ne _ _ h1, hput_ne _ _ h2, hput_ne _ _ h3, hput_ne _ _ h4, hq]))
        · simp only [decide_eq_false hrd, cond_false]
          (refine ⟨[_], ⟨rfl, trivial⟩, ?_, ?_⟩ <;> rw [mone8z ho hrd] <;> first | rfl | exact congrArg (AV.int .i64) h0.symm | exact HSub.put4 z9q z9q z9q z9q (fun c q h1 h2 h3 h4 hq => by simp only [hputs, hput_ne _ _ h1, hput_ne _ _ h2, hput_ne _ _ h3, hput_ne _ _ h4, hq])))
     | (exfalso; have := ht.op; first | (simp_all; done) | (simp_all; omega))
    ·
     refine AGo.cond_false false rfl rfl ?_
     refine AGo.seq ?_
     refine AGo.region ?_
     refine aq 92 (q_bin rfl rfl rfl rfl) ?_
     refine aa 91 ?_
     refine AOps.nil ?_
     refine AGo.split 91 rfl (fun hb6 => ?_) (fun hb6 => ?_)
     ·
      refine AGo.cond_true true rfl rfl ?_
      have ho : t.op = 5 := by simpa using hb6
      have ha := ht.a (by simp [use1, use2, ho])
      have hbs := ht.base (by simp [ho])
      refine AGo.draw mix ?_
      refine dm 93 ?_
      refine dq 94 (q_nilCheck rfl rfl rfl) ?_
      refine df 95 tok ?_
      refine dq 96 (q_load tok rfl rfl rfl (.ptr _ _ _ _ _ _ [(boxC x0 x2 W s m)] _ z41q rfl rfl) rfl) ?_
      refine dm 97 ?_
      refine dq 98 (q_nilCheck rfl rfl rfl) ?_
      refine df 99 tok ?_
      refine dl 100 tok ?_
      refine dm 101 ?_
      refine dm 102 ?_
      refine dq 103 (q_nilCheck rfl rfl rfl) ?_
      refine df 104 tok ?_
      refine dl 105 tok ?_
      refine dq 106 (q_index_ref tok (es := regCells regs) rfl rfl rfl rfl rfl rfl z41q (by rw [regCells_len, hlen]) rfl ha.1 (by have := ha.2; omega)) ?_
      refine dq 107 (q_load tok rfl rfl rfl (.ptr _ _ _ _ _ _ (regCells regs) _ z41q (by rw [regCells_len, hlen]) (rcell (by have := ha; have := hm.len; omega))) rfl) ?_
      refine dq 108 (q_index_ref tok (es := regCells m.words) rfl rfl rfl rfl rfl rfl z41q (by rw [regCells_len, hm.len]) rfl hbs.1 (by have := hbs.2; omega)) ?_
      refine DOps.w rfl rfl (o_store tok (es := regCells m.words) rfl rfl rfl rfl rfl z41q (by rw [regCells_len, hm.len]) (rcell (by have := hbs; have := hm.len; omega)) rfl (by decide) rfl z61q) ?_
      refine DOps.nil (by kernel_rfl) ?_
      refine AGo.seq ?_
      refine AGo.region ?_
      refine aa 6 ?_
      refine AOps.nil ?_
      refine AGo.ret ?_
      first
      | (refine ⟨[_], ⟨rfl, trivial⟩, ?_, ?_⟩ <;> rw [mone1 ho] <;> first | rfl | exact congrArg (AV.int .i64) h0.symm | exact HSub.put4 z9q z9q z9q z9q (fun c q h1 h2 h3 h4 hq => by simp only [hputs, hput_ne _ _ h1, hput_ne _ _ h2, hput_ne _ _ h3, hput_ne _ _ h4, hq]))
      | (refine ⟨[_], ⟨rfl, trivial⟩, ?_, ?_⟩ <;> rw [mone2 ho] <;> first | rfl | exact congrArg (AV.int .i64) h0.symm | exact HSub.put4 z9q z9q z9q z9q (fun c q h1 h2 h3 h4 hq => by simp only [hputs, hput_ne _ _ h1, hput_ne _ _ h2, hput_ne _ _ h3, hput_ne _ _ h4, hq]))
      | (refine ⟨[_], ⟨rfl, trivial⟩, ?_, ?_⟩ <;> rw [mone3 ho hz] <;> first | rfl | exact congrArg (AV.int .i64) h0.symm | exact HSub.put4 z9q z9q z9q z9q (fun c q h1 h2 h3 h4 hq => by simp only [hputs, hput_ne _ _ h1, hput_ne _ _ h2, hput_ne _ _ h3, hput_ne _ _ h4, hq]))
      | (refine ⟨[_], ⟨rfl, trivial⟩, ?_, ?_⟩ <;> rw [mone4 ho] <;> first | rfl | exact congrArg (AV.int .i64) h0.symm | exact HSub.put4 z9q z9q z9q z9q (fun c q h1 h2 h3 h4 hq => by simp only [hputs, hput_ne _ _ h1, hput_ne _ _ h2, hput_ne _ _ h3, hput_ne _ _ h4, hq]))
      | (refine ⟨[_], ⟨rfl, trivial⟩, ?_, ?_⟩ <;> rw [mone5 ho] <;> first | rfl | exact congrArg (AV.int .i64) h0.symm | exact HSub.put4 z9q z9q z9q z9q (fun c q h1 h2 h3 h4 hq => by simp only [hputs, hput_ne _ _ h1, hput_ne _ _ h2, hput_ne _ _ h3, hput_ne _ _ h4, hq]))
      | (refine ⟨[_], ⟨rfl, trivial⟩, ?_, ?_⟩ <;> rw [mone6 ho hsz] <;> first | rfl | exact congrArg (AV.int .i64) h0.symm | exact HSub.put4 z9q z9q z9q z9q (fun c q h1 h2 h3 h4 hq => by simp only [hputs, hput_ne _ _ h1, hput_ne _ _ h2, hput_ne _ _ h3, hput_ne _ _ h4, hq]))
      | (refine ⟨[_], ⟨rfl, trivial⟩, ?_, ?_⟩ <;> rw [mone7 ho hsz] <;> first | rfl | exact congrArg (AV.int .i64) h0.symm | exact HSub.put4 z9q z9q z9q z9q (fun c q h1 h2 h3 h4 hq => by simp only [hputs, hput_ne _ _ h1, hput_ne _ _ h2, hput_ne _ _ h3, hput_ne _ _ h4, hq]))
      | (refine ⟨[_], ⟨rfl, trivial⟩, ?_, ?_⟩ <;> rw [mone9 ho hou] <;> first | rfl | exact congrArg (AV.int .i64) h0.symm | exact HSub.put4 z9q z9q z9q z9q (fun c q h1 h2 h3 h4 hq => by simp only [hputs, hput_ne _ _ h1, hput_ne _ _ h2, hput_ne _ _ h3, hput_ne _ _ h4, hq]))
      | (rcases hrc with hrd | hrd
         · simp only [decide_eq_true hrd, cond_true]
           (refine ⟨[_], ⟨rfl, trivial⟩, ?_, ?_⟩ <;> rw [mone8 ho hrd] <;> first | rfl | exact congrArg (AV.int .i64) h0.symm | exact HSub.put4 z9q z9q z9q z9q (fun c q h1 h2 h3 h4 hq => by simp only [hputs, hput_ne _ _ h1, hput_ne _ _ h2, hput_ne _ _ h3, hput_ne _ _ h4, hq]))
         · simp only [decide_eq_false hrd, cond_false]
           (refine ⟨[_], ⟨rfl, trivial⟩, ?_, ?_⟩ <;> rw [mone8z ho hrd] <;> first | rfl | exact congrArg (AV.int .i64) h0.symm | exact HSub.put4 z9q z9q z9q z9q (fun c q h1 h2 h3 h4 hq => by simp only [hputs, hput_ne _ _ h1, hput_ne _ _ h2, hput_ne _ _ h3, hput_ne _ _ h4, hq])))
      | (exfalso; have := ht.op; first | (simp_all; done) | (simp_all; omega))
     ·
      refine AGo.cond_false false rfl rfl ?_
      refine AGo.seq ?_
      refine AGo.region ?_
      refine aq 110 (q_bin rfl rfl rfl rfl) ?_
      refine aa 109 ?_
      refine AOps.nil ?_
      refine AGo.split 109 rfl (fun hb7 => ?_) (fun hb7 => ?_)
      ·
       refine AGo.cond_true true rfl rfl ?_
       have ho : t.op = 6 := by simpa using hb7
       have ha := ht.a (by simp [use1, use2, ho])
       have hd := ht.d (by simp [setsOp, ho])
       have har := ht.arr (by simp [ho])
       have hwa := rget_w hr t.a
       have hwa1 := hwa.1
       have hwa2 := hwa.2
       refine AGo.seq ?_
       refine AGo.seq ?_
       refine AGo.draw mix ?_
       refine dm 111 ?_
       refine dm 112 ?_
       refine dq 113 (q_nilCheck rfl rfl rfl) ?_
       refine df 114 tok ?_
       refine dl 115 tok ?_
       refine dq 116 (q_index_ref tok (es := regCells regs) rfl rfl rfl rfl rfl rfl z41q (by rw [regCells_len, hlen]) rfl ha.1 (by have := ha.2; omega)) ?_
       refine dq 117 (q_load tok rfl rfl rfl (.ptr _ _ _ _ _ _ (regCells regs) _ z41q (by rw [regCells_len, hlen]) (rcell (by have := ha; have := hm.len; omega))) rfl) ?_
       refine dq 118 (q_convTo tok rfl rfl rfl rfl rfl (r := rget regs t.a) (by rw [IntKind.wrap_u64]; omega)) ?_
       refine dm 119 ?_
       refine dq 120 (q_nilCheck rfl rfl rfl) ?_
       refine df 121 tok ?_
       refine dl 122 tok ?_
       refine dq 123 (q_convTo tok rfl rfl rfl rfl rfl (r := t.size) (by rw [IntKind.wrap_u64]; omega)) ?_
       refine dq 124 (q_bin rfl rfl rfl rfl) ?_
       refine DOps.nil (by kernel_rfl) ?_
       refine AGo.split 124 rfl (fun hb8 => ?_) (fun hb8 => ?_)
       ·
        refine AGo.cond_true true rfl rfl ?_
        have hsz := hb8
        refine AGo.seq ?_
        refine AGo.region ?_
        refine aa 6 ?_
        refine AOps.nil ?_
        refine AGo.ret ?_
        (refine ⟨[_], ⟨rfl, trivial⟩, ?_, ?_⟩ <;> rw [mone67z (.inl ho) hsz] <;> first | rfl | exact congrArg (AV.int .i64) h0.symm | exact HSub.put4 z9q z9q z9q z9q (fun c q h1 h2 h3 h4 hq => by simp only [hputs, hput_ne _ _ h1, hput_ne _ _ h2, hput_ne _ _ h3, hput_ne _ _ h4, hq]))
       ·
        refine AGo.cond_false false rfl rfl ?_
        have hsz := hb8
        have hsz2 : rget regs t.a < t.size := by simpa using hb8
        have hidx : 0 ≤ t.base + rget regs t.a ∧ t.base + rget regs t.a < W := by omega
        refine AGo.skip ?_
        refine AGo.draw mix ?_
        refine dm 125 ?_
        refine dm 126 ?_
        refine dq 127 (q_nilCheck rfl rfl rfl) ?_
        refine df 128 tok ?_
        refine dl 129 tok ?_
        refine dm 130 ?_
        refine dq 131 (q_nilCheck rfl rfl rfl) ?_
        refine df 132 tok ?_
        refine dq 133 (q_load tok rfl rfl rfl (.ptr _ _ _ _ _ _ [(boxC x0 x2 W s m)] _ z41q rfl rfl) rfl) ?_
        refine dm 134 ?_
        refine dq 135 (q_nilCheck rfl rfl rfl) ?_
        refine df 136 tok ?_
        refine dl 137 tok ?_
        refine dm 138 ?_
        refine dm 139 ?_
        refine dq 140 (q_nilCheck rfl rfl rfl) ?_
        refine df 141 tok ?_
        refine dl 142 tok ?_
        refine dq 143 (q_index_ref tok (es := regCells regs) rfl rfl rfl rfl rfl rfl z41q (by rw [regCells_len, hlen]) rfl ha.1 (by have := ha.2; omega)) ?_
        refine dq 144 (q_load tok rfl rfl rfl (.ptr _ _ _ _ _ _ (regCells regs) _ z41q (by rw [regCells_len, hlen]) (rcell (by have := ha; have := hm.len; omega))) rfl) ?_
        refine dq 145 (q_convTo tok rfl rfl rfl rfl rfl (r := rget regs t.a) (by exact wrap_i64 (by omega) (by omega))) ?_
        refine dq 146 (q_bin (r := .int .i64 (t.base + rget regs t.a)) rfl rfl rfl (by simp only [evalBin, evalInt, isShift, cond_false, if_true]; rw [wrap_i64 (by omega) (by omega)])) ?_
        refine dq 147 (q_index_ref tok (es := regCells m.words) rfl rfl rfl rfl rfl rfl z41q (by rw [regCells_len, hm.len]) rfl hidx.1 (by have := hidx.2; omega)) ?_
        refine dq 148 (q_load tok rfl rfl rfl (.ptr _ _ _ _ _ _ (regCells m.words) _ z41q (by rw [regCells_len, hm.len]) (rcell (by have := hidx; have := hm.len; omega))) rfl) ?_
        refine dq 149 (q_index_ref tok (es := regCells regs) rfl rfl rfl rfl rfl rfl z41q (by rw [regCells_len, hlen]) rfl hd.1 (by have := hd.2; omega)) ?_
        refine DOps.w rfl rfl (o_store tok (es := regCells regs) rfl rfl rfl rfl rfl z41q (by rw [regCells_len, hlen]) (rcell (by have := hd; have := hm.len; omega)) rfl (by decide) rfl z61q) ?_
        refine DOps.nil (by kernel_rfl) ?_
        refine AGo.seq ?_
        refine AGo.region ?_
        refine aa 6 ?_
        refine AOps.nil ?_
        refine AGo.ret ?_
        first
        | (refine ⟨[_], ⟨rfl, trivial⟩, ?_, ?_⟩ <;> rw [mone1 ho] <;> first | rfl | exact congrArg (AV.int .i64) h0.symm | exact HSub.put4 z9q z9q z9q z9q (fun c q h1 h2 h3 h4 hq => by simp only [hputs, hput_ne _ _ h1, hput_ne _ _ h2, hput_ne _ _ h3, hput_ne _ _ h4, hq]))
        | (refine ⟨[_], ⟨rfl, trivial⟩, ?_, ?_⟩ <;> rw [mone2 ho] <;> first | rfl | exact congrArg (AV.int .i64) h0.symm | exact HSub.put4 z9q z9q z9q z9q (fun c q h1 h2 h3 h4 hq => by simp only [hputs, hput_ne _ _ h1, hput_ne _ _ h2, hput_ne _ _ h3, hput_ne _ _ h4, hq]))
        | (refine ⟨[_], ⟨rfl, trivial⟩, ?_, ?_⟩ <;> rw [mone3 ho hz] <;> first | rfl | exact congrArg (AV.int .i64) h0.symm | exact HSub.put4 z9q z9q z9q z9q (fun c q h1 h2 h3 h4 hq => by simp only [hputs, hput_ne _ _ h1, hput_ne _ _ h2, hput_ne _ _ h3, hput_ne _ _ h4, hq]))
        | (refine ⟨[_], ⟨rfl, trivial⟩, ?_, ?_⟩ <;> rw [mone4 ho] <;> first | rfl | exact congrArg (AV.int .i64) h0.symm | exact HSub.put4 z9q z9q z9q z9q (fun c q h1 h2 h3 h4 hq => by simp only [hputs, hput_ne _ _ h1, hput_ne _ _ h2, hput_ne _ _ h3, hput_ne _ _ h4, hq]))
        | (refine ⟨[_], ⟨rfl, trivial⟩, ?_, ?_⟩ <;> rw [mone5 ho] <;> first | rfl | exact congrArg (AV.int .i64) h0.symm | exact HSub.put4 z9q z9q z9q z9q (fun c q h1 h2 h3 h4 hq => by simp only [hputs, hput_ne _ _ h1, hput_ne _ _ h2, hput_ne _ _ h3, hput_ne _ _ h4, hq]))
        | (refine ⟨[_], ⟨rfl, trivial⟩, ?_, ?_⟩ <;> rw [mone6 ho hsz] <;> first | rfl | exact congrArg (AV.int .i64) h0.symm | exact HSub.put4 z9q z9q z9q z9q (fun c q h1 h2 h3 h4 hq => by simp only [hputs, hput_ne _ _ h1, hput_ne _ _ h2, hput_ne _ _ h3, hput_ne _ _ h4, hq]))
        | (refine ⟨[_], ⟨rfl, trivial⟩, ?_, ?_⟩ <;> rw [mone7 ho hsz] <;> first | rfl | exact congrArg (AV.int .i64) h0.symm | exact HSub.put4 z9q z9q z9q z9q (fun c q h1 h2 h3 h4 hq => by simp only [hputs, hput_ne _ _ h1, hput_ne _ _ h2, hput_ne _ _ h3, hput_ne _ _ h4, hq]))
        | (refine ⟨[_], ⟨rfl, trivial⟩, ?_, ?_⟩ <;> rw [mone9 ho hou] <;> first | rfl | exact congrArg (AV.int .i64) h0.symm | exact HSub.put4 z9q z9q z9q z9q (fun c q h1 h2 h3 h4 hq => by simp only [hputs, hput_ne _ _ h1, hput_ne _ _ h2, hput_ne _ _ h3, hput_ne _ _ h4, hq]))
        | (rcases hrc with hrd | hrd
           · simp only [decide_eq_true hrd, cond_true]
             (refine ⟨[_], ⟨rfl, trivial⟩, ?_, ?_⟩ <;> rw [mone8 ho hrd] <;> first | rfl | exact congrArg (AV.int .i64) h0.symm | exact HSub.put4 z9q z9q z9q z9q (fun c q h1 h2 h3 h4 hq => by simp only [hputs, hput_ne _ _ h1, hput_ne _ _ h2, hput_ne _ _ h3, hput_ne _ _ h4, hq]))
           · simp only [decide_eq_false hrd, cond_false]
             (refine ⟨[_], ⟨rfl, trivial⟩, ?_, ?_⟩ <;> rw [mone8z ho hrd] <;> first | rfl | exact congrArg (AV.int .i64) h0.symm | exact HSub.put4 z9q z9q z9q z9q (fun c q h1 h2 h3 h4 hq => by simp only [hputs, hput_ne _ _ h1, hput_ne _ _ h2, hput_ne _ _ h3, hput_ne _ _ h4, hq])))
        | (exfalso; have := ht.op; first | (simp_all; done) | (simp_all; omega))
      ·
       refine AGo.cond_false false rfl rfl ?_
       refine AGo.seq ?_
       refine AGo.region ?_
       refine aq 151 (q_bin rfl rfl rfl rfl) ?_
       refine aa 150 ?_
       refine AOps.nil ?_
       refine AGo.split 150 rfl (fun hb9 => ?_) (fun hb9 => ?_)
       ·
        refine AGo.cond_true true rfl rfl ?_
        have ho : t.op = 7 := by simpa using hb9
        have ha := ht.a (by simp [use1, use2, ho])
        have hb := ht.b (by simp [use2, ho])
        have har := ht.arr (by simp [ho])
        have hwa := rget_w hr t.a
        have hwa1 := hwa.1
        have hwa2 := hwa.2
        refine AGo.seq ?_
        refine AGo.seq ?_
        refine AGo.draw mix ?_
        refine dm 152 ?_
        refine dm 153 ?_
        refine dq 154 (q_nilCheck rfl rfl rfl) ?_
        refine df 155 tok ?_
        refine dl 156 tok ?_
        refine dq 157 (q_index_ref tok (es := regCells regs) rfl rfl rfl rfl rfl rfl z41q (by rw [regCells_len, hlen]) rfl ha.1 (by have := ha.2; omega)) ?_
        refine dq 158 (q_load tok rfl rfl rfl (.ptr _ _ _ _ _ _ (regCells regs) _ z41q (by rw [regCells_len, hlen]) (rcell (by have := ha; have := hm.len; omega))) rfl) ?_
        refine dq 159 (q_convTo tok rfl rfl rfl rfl rfl (r := rget regs t.a) (by rw [IntKind.wrap_u64]; omega)) ?_
        refine dm 160 ?_
        refine dq 161 (q_nilCheck rfl rfl rfl) ?_
        refine df 162 tok ?_
        refine dl 163 tok ?_
        refine dq 164 (q_convTo tok rfl rfl rfl rfl rfl (r := t.size) (by rw [IntKind.wrap_u64]; omega)) ?_
        refine dq 165 (q_bin rfl rfl rfl rfl) ?_
        refine DOps.nil (by kernel_rfl) ?_
        refine AGo.split 165 rfl (fun hb10 => ?_) (fun hb10 => ?_)
        ·
         refine AGo.cond_true true rfl rfl ?_
         have hsz := hb10
         refine AGo.seq ?_
         refine AGo.region ?_
         refine aa 6 ?_
         refine AOps.nil ?_
         refine AGo.ret ?_
         (refine ⟨[_], ⟨rfl, trivial⟩, ?_, ?_⟩ <;> rw [mone67z (.inr ho) hsz] <;> first | rfl | exact congrArg (AV.int .i64) h0.symm | exact HSub.put4 z9q z9q z9q z9q (fun c q h1 h2 h3 h4 hq => by simp only [hputs, hput_ne _ _ h1, hput_ne _ _ h2, hput_ne _ _ h3, hput_ne _ _ h4, hq]))
        ·
         refine AGo.cond_false false rfl rfl ?_
         have hsz := hb10
         have hsz2 : rget regs t.a < t.size := by simpa using hb10
         have hidx : 0 ≤ t.base + rget regs t.a ∧ t.base + rget regs t.a < W := by omega
         refine AGo.skip ?_
         refine AGo.draw mix ?_
         refine dm 166 ?_
         refine dq 167 (q_nilCheck rfl rfl rfl) ?_
         refine df 168 tok ?_
         refine dq 169 (q_load tok rfl rfl rfl (.ptr _ _ _ _ _ _ [(boxC x0 x2 W s m)] _ z41q rfl rfl) rfl) ?_
         refine dm 170 ?_
         refine dq 171 (q_nilCheck rfl rfl rfl) ?_
         refine df 172 tok ?_
         refine dl 173 tok ?_
         refine dm 174 ?_
         refine dm 175 ?_
         refine dq 176 (q_nilCheck rfl rfl rfl) ?_
         refine df 177 tok ?_
         refine dl 178 tok ?_
         refine dq 179 (q_index_ref tok (es := regCells regs) rfl rfl rfl rfl rfl rfl z41q (by rw [regCells_len, hlen]) rfl ha.1 (by have := ha.2; omega)) ?_
         refine dq 180 (q_load tok rfl rfl rfl (.ptr _ _ _ _ _ _ (regCells regs) _ z41q (by rw [regCells_len, hlen]) (rcell (by have := ha; have := hm.len; omega))) rfl) ?_
         refine dq 181 (q_convTo tok rfl rfl rfl rfl rfl (r := rget regs t.a) (by exact wrap_i64 (by omega) (by omega))) ?_
         refine dq 182 (q_bin (r := .int .i64 (t.base + rget regs t.a)) rfl rfl rfl (by simp only [evalBin, evalInt, isShift, cond_false, if_true]; rw [wrap_i64 (by omega) (by omega)])) ?_
         refine dm 183 ?_
         refine dm 184 ?_
         refine dq 185 (q_nilCheck rfl rfl rfl) ?_
         refine df 186 tok ?_
         refine dl 187 tok ?_
         refine dq 188 (q_index_ref tok (es := regCells regs) rfl rfl rfl rfl rfl rfl z41q (by rw [regCells_len, hlen]) rfl hb.1 (by have := hb.2; omega)) ?_
         refine dq 189 (q_load tok rfl rfl rfl (.ptr _ _ _ _ _ _ (regCells regs) _ z41q (by rw [regCells_len, hlen]) (rcell (by have := hb; have := hm.len; omega))) rfl) ?_
         refine dq 190 (q_index_ref tok (es := regCells m.words) rfl rfl rfl rfl rfl rfl z41q (by rw [regCells_len, hm.len]) rfl hidx.1 (by have := hidx.2; omega)) ?_
         refine DOps.w rfl rfl (o_store tok (es := regCells m.words) rfl rfl rfl rfl rfl z41q (by rw [regCells_len, hm.len]) (rcell (by have := hidx; have := hm.len; omega)) rfl (by decide) rfl z61q) ?_
         refine DOps.nil (by kernel_rfl) ?_
         refine AGo.seq ?_
         refine AGo.region ?_
         refine aa 6 ?_
         refine AOps.nil ?_
         refine AGo.ret ?_
         first
         | (refine ⟨[_], ⟨rfl, trivial⟩, ?_, ?_⟩ <;> rw [mone1 ho] <;> first | rfl | exact congrArg (AV.int .i64) h0.symm | exact HSub.put4 z9q z9q z9q z9q (fun c q h1 h2 h3 h4 hq => by simp only [hputs, hput_ne _ _ h1, hput_ne _ _ h2, hput_ne _ _ h3, hput_ne _ _ h4, hq]))
         | (refine ⟨[_], ⟨rfl, trivial⟩, ?_, ?_⟩ <;> rw [mone2 ho] <;> first | rfl | exact congrArg (AV.int .i64) h0.symm | exact HSub.put4 z9q z9q z9q z9q (fun c q h1 h2 h3 h4 hq => by simp only [hputs, hput_ne _ _ h1, hput_ne _ _ h2, hput_ne _ _ h3, hput_ne _ _ h4, hq]))
         | (refine ⟨[_], ⟨rfl, trivial⟩, ?_, ?_⟩ <;> rw [mone3 ho hz] <;> first | rfl | exact congrArg (AV.int .i64) h0.symm | exact HSub.put4 z9q z9q z9q z9q (fun c q h1 h2 h3 h4 hq => by simp only [hputs, hput_ne _ _ h1, hput_ne _ _ h2, hput_ne _ _ h3, hput_ne _ _ h4, hq]))
         | (refine ⟨[_], ⟨rfl, trivial⟩, ?_, ?_⟩ <;> rw [mone4 ho] <;> first | rfl | exact congrArg (AV.int .i64) h0.symm | exact HSub.put4 z9q z9q z9q z9q (fun c q h1 h2 h3 h4 hq => by simp only [hputs, hput_ne _ _ h1, hput_ne _ _ h2, hput_ne _ _ h3, hput_ne _ _ h4, hq]))
         | (refine ⟨[_], ⟨rfl, trivial⟩, ?_, ?_⟩ <;> rw [mone5 ho] <;> first | rfl | exact congrArg (AV.int .i64) h0.symm | exact HSub.put4 z9q z9q z9q z9q (fun c q h1 h2 h3 h4 hq => by simp only [hputs, hput_ne _ _ h1, hput_ne _ _ h2, hput_ne _ _ h3, hput_ne _ _ h4, hq]))
         | (refine ⟨[_], ⟨rfl, trivial⟩, ?_, ?_⟩ <;> rw [mone6 ho hsz] <;> first | rfl | exact congrArg (AV.int .i64) h0.symm | exact HSub.put4 z9q z9q z9q z9q (fun c q h1 h2 h3 h4 hq => by simp only [hputs, hput_ne _ _ h1, hput_ne _ _ h2, hput_ne _ _ h3, hput_ne _ _ h4, hq]))
         | (refine ⟨[_], ⟨rfl, trivial⟩, ?_, ?_⟩ <;> rw [mone7 ho hsz] <;> first | rfl | exact congrArg (AV.int .i64) h0.symm | exact HSub.put4 z9q z9q z9q z9q (fun c q h1 h2 h3 h4 hq => by simp only [hputs, hput_ne _ _ h1, hput_ne _ _ h2, hput_ne _ _ h3, hput_ne _ _ h4, hq]))
         | (refine ⟨[_], ⟨rfl, trivial⟩, ?_, ?_⟩ <;> rw [mone9 ho hou] <;> first | rfl | exact congrArg (AV.int .i64) h0.symm | exact HSub.put4 z9q z9q z9q z9q (fun c q h1 h2 h3 h4 hq => by simp only [hputs, hput_ne _ _ h1, hput_ne _ _ h2, hput_ne _ _ h3, hput_ne _ _ h4, hq]))
         | (rcases hrc with hrd | hrd
            · simp only [decide_eq_true hrd, cond_true]
              (refine ⟨[_], ⟨rfl, trivial⟩, ?_, ?_⟩ <;> rw [mone8 ho hrd] <;> first | rfl | exact congrArg (AV.int .i64) h0.symm | exact HSub.put4 z9q z9q z9q z9q (fun c q h1 h2 h3 h4 hq => by simp only [hputs, hput_ne _ _ h1, hput_ne _ _ h2, hput_ne _ _ h3, hput_ne _ _ h4, hq]))
            · simp only [decide_eq_false hrd, cond_false]
              (refine ⟨[_], ⟨rfl, trivial⟩, ?_, ?_⟩ <;> rw [mone8z ho hrd] <;> first | rfl | exact congrArg (AV.int .i64) h0.symm | exact HSub.put4 z9q z9q z9q z9q (fun c q h1 h2 h3 h4 hq => by simp only [hputs, hput_ne _ _ h1, hput_ne _ _ h2, hput_ne _ _ h3, hput_ne _ _ h4, hq])))
         | (exfalso; have := ht.op; first | (simp_all; done) | (simp_all; omega))
       ·
        refine AGo.cond_false false rfl rfl ?_
        refine AGo.seq ?_
        refine AGo.region ?_
        refine aq 192 (q_bin rfl rfl rfl rfl) ?_
        refine aa 191 ?_
        refine AOps.nil ?_
        refine AGo.split 191 rfl (fun hb11 => ?_) (fun hb11 => ?_)
        ·
         refine AGo.cond_true true rfl rfl ?_
         have ho : t.op = 8 := by simpa using hb11
         have hd := ht.d (by simp [setsOp, ho])
         refine AGo.draw mix ?_
         have hrc : m.read < s.size ∨ ¬ m.read < s.size := Decidable.em _
         refine dm 193 ?_
         refine dm 194 ?_
         refine dq 195 (q_nilCheck rfl rfl rfl) ?_
         refine df 196 tok ?_
         refine dl 197 tok ?_
         refine dm 198 ?_
         refine dx 199 (o_callP [0] [(0, (.row false 6 [[x0, (.ref 1 W 0 W), x2, .str s, (.int .i64 ((bif decide (m.read < s.size) then m.read + 1 else m.read : Nat) : Int)), (.ref 3 m.out.length 0 m.out.length)]]))] rfl Try.func61 (by kernel_rfl) rfl rfl (fun h' he => get_ok h' s m.read x0 (.ref 1 W 0 W) x2 (.ref 3 m.out.length 0 m.out.length) (by rw [he 0 (by simp)]; exact hh0) hs)) ?_
         refine dq 200 (q_index_ref tok (es := regCells regs) rfl rfl rfl rfl rfl rfl z41q (by rw [regCells_len, hlen]) rfl hd.1 (by have := hd.2; omega)) ?_
         refine DOps.w rfl rfl (o_store tok (es := regCells regs) rfl rfl rfl rfl rfl z41q (by rw [regCells_len, hlen]) (rcell (by have := hd; have := hm.len; omega)) rfl (by decide) rfl z61q) ?_
         refine DOps.nil (by kernel_rfl) ?_
         refine AGo.seq ?_
         refine AGo.region ?_
         refine aa 6 ?_
         refine AOps.nil ?_
         refine AGo.ret ?_
         first
         | (refine ⟨[_], ⟨rfl, trivial⟩, ?_, ?_⟩ <;> rw [mone1 ho] <;> first | rfl | exact congrArg (AV.int .i64) h0.symm | exact HSub.put4 z9q z9q z9q z9q (fun c q h1 h2 h3 h4 hq => by simp only [hputs, hput_ne _ _ h1, hput_ne _ _ h2, hput_ne _ _ h3, hput_ne _ _ h4, hq]))
         | (refine ⟨[_], ⟨rfl, trivial⟩, ?_, ?_⟩ <;> rw [mone2 ho] <;> first | rfl | exact congrArg (AV.int .i64) h0.symm | exact HSub.put4 z9q z9q z9q z9q (fun c q h1 h2 h3 h4 hq => by simp only [hputs, hput_ne _ _ h1, hput_ne _ _ h2, hput_ne _ _ h3, hput_ne _ _ h4, hq]))
         | (refine ⟨[_], ⟨rfl, trivial⟩, ?_, ?_⟩ <;> rw [mone3 ho hz] <;> first | rfl | exact congrArg (AV.int .i64) h0.symm | exact HSub.put4 z9q z9q z9q z9q (fun c q h1 h2 h3 h4 hq => by simp only [hputs, hput_ne _ _ h1, hput_ne _ _ h2, hput_ne _ _ h3, hput_ne _ _ h4, hq]))
         | (refine ⟨[_], ⟨rfl, trivial⟩, ?_, ?_⟩ <;> rw [mone4 ho] <;> first | rfl | exact congrArg (AV.int .i64) h0.symm | exact HSub.put4 z9q z9q z9q z9q (fun c q h1 h2 h3 h4 hq => by simp only [hputs, hput_ne _ _ h1, hput_ne _ _ h2, hput_ne _ _ h3, hput_ne _ _ h4, hq]))
         | (refine ⟨[_], ⟨rfl, trivial⟩, ?_, ?_⟩ <;> rw [mone5 ho] <;> first | rfl | exact congrArg (AV.int .i64) h0.symm | exact HSub.put4 z9q z9q z9q z9q (fun c q h1 h2 h3 h4 hq => by simp only [hputs, hput_ne _ _ h1, hput_ne _ _ h2, hput_ne _ _ h3, hput_ne _ _ h4, hq]))
         | (refine ⟨[_], ⟨rfl, trivial⟩, ?_, ?_⟩ <;> rw [mone6 ho hsz] <;> first | rfl | exact congrArg (AV.int .i64) h0.symm | exact HSub.put4 z9q z9q z9q z9q (fun c q h1 h2 h3 h4 hq => by simp only [hputs, hput_ne _ _ h1, hput_ne _ _ h2, hput_ne _ _ h3, hput_ne _ _ h4, hq]))
         | (refine ⟨[_], ⟨rfl, trivial⟩, ?_, ?_⟩ <;> rw [mone7 ho hsz] <;> first | rfl | exact congrArg (AV.int .i64) h0.symm | exact HSub.put4 z9q z9q z9q z9q (fun c q h1 h2 h3 h4 hq => by simp only [hputs, hput_ne _ _ h1, hput_ne _ _ h2, hput_ne _ _ h3, hput_ne _ _ h4, hq]))
         | (refine ⟨[_], ⟨rfl, trivial⟩, ?_, ?_⟩ <;> rw [mone9 ho hou] <;> first | rfl | exact congrArg (AV.int .i64) h0.symm | exact HSub.put4 z9q z9q z9q z9q (fun c q h1 h2 h3 h4 hq => by simp only [hputs, hput_ne _ _ h1, hput_ne _ _ h2, hput_ne _ _ h3, hput_ne _ _ h4, hq]))
         | (rcases hrc with hrd | hrd
            · simp only [decide_eq_true hrd, cond_true]
              (refine ⟨[_], ⟨rfl, trivial⟩, ?_, ?_⟩ <;> rw [mone8 ho hrd] <;> first | rfl | exact congrArg (AV.int .i64) h0.symm | exact HSub.put4 z9q z9q z9q z9q (fun c q h1 h2 h3 h4 hq => by simp only [hputs, hput_ne _ _ h1, hput_ne _ _ h2, hput_ne _ _ h3, hput_ne _ _ h4, hq]))
            · simp only [decide_eq_false hrd, cond_false]
              (refine ⟨[_], ⟨rfl, trivial⟩, ?_, ?_⟩ <;> rw [mone8z ho hrd] <;> first | rfl | exact congrArg (AV.int .i64) h0.symm | exact HSub.put4 z9q z9q z9q z9q (fun c q h1 h2 h3 h4 hq => by simp only [hputs, hput_ne _ _ h1, hput_ne _ _ h2, hput_ne _ _ h3, hput_ne _ _ h4, hq])))
         | (exfalso; have := ht.op; first | (simp_all; done) | (simp_all; omega))
        ·
         refine AGo.cond_false false rfl rfl ?_
         refine AGo.seq ?_
         refine AGo.region ?_
         refine aq 202 (q_bin rfl rfl rfl rfl) ?_
         refine aa 201 ?_
         refine AOps.nil ?_
         refine AGo.split 201 rfl (fun hb12 => ?_) (fun hb12 => ?_)
         ·
          refine AGo.cond_true true rfl rfl ?_
          have ho : t.op = 9 := by simpa using hb12
          have ha := ht.a (by simp [use1, use2, ho])
          have hwa := rget_w hr t.a
          have hwa1 := hwa.1
          have hwa2 := hwa.2
          refine AGo.seq ?_
          refine AGo.seq ?_
          refine AGo.region ?_
          refine am 203 ?_
          refine aq 204 (q_nilCheck rfl rfl rfl) ?_
          refine af 205 tok ?_
          refine aq 206 (q_load tok rfl rfl rfl (.ptr _ _ _ _ _ _ [(boxC x0 x2 W s m)] _ z41q rfl rfl) rfl) ?_
          refine aq 207 (q_len tok rfl rfl rfl rfl rfl) ?_
          refine aq 208 (q_bin rfl rfl rfl rfl) ?_
          refine AOps.nil ?_
          refine AGo.split 208 rfl (fun hb13 => ?_) (fun hb13 => ?_)
          ·
           refine AGo.cond_true true rfl rfl ?_
           have hou : m.out.length ≥ 65536 := by have h := hb13; simp at h; omega
           refine AGo.seq ?_
           refine AGo.region ?_
           refine aa 6 ?_
           refine AOps.nil ?_
           refine AGo.ret ?_
           (refine ⟨[_], ⟨rfl, trivial⟩, ?_, ?_⟩ <;> rw [mone9z ho hou] <;> first | rfl | exact congrArg (AV.int .i64) h0.symm | exact HSub.put4 z9q z9q z9q z9q (fun c q h1 h2 h3 h4 hq => by simp only [hputs, hput_ne _ _ h1, hput_ne _ _ h2, hput_ne _ _ h3, hput_ne _ _ h4, hq]))
          ·
           refine AGo.cond_false false rfl rfl ?_
           have hou : ¬ m.out.length ≥ 65536 := by have h := hb13; simp at h; omega
           refine AGo.skip ?_
           refine AGo.draw mix ?_
           refine dm 209 ?_
           refine dm 210 ?_
           refine dq 211 (q_nilCheck rfl rfl rfl) ?_
           refine df 212 tok ?_
           refine dq 213 (q_load tok rfl rfl rfl (.ptr _ _ _ _ _ _ [(boxC x0 x2 W s m)] _ z41q rfl rfl) rfl) ?_
           refine dm 214 ?_
           refine dm 215 ?_
           refine dq 216 (q_nilCheck rfl rfl rfl) ?_
           refine df 217 tok ?_
           refine dl 218 tok ?_
           refine dq 219 (q_index_ref tok (es := regCells regs) rfl rfl rfl rfl rfl rfl z41q (by rw [regCells_len, hlen]) rfl ha.1 (by have := ha.2; omega)) ?_
           refine dq 220 (q_load tok rfl rfl rfl (.ptr _ _ _ _ _ _ (regCells regs) _ z41q (by rw [regCells_len, hlen]) (rcell (by have := ha; have := hm.len; omega))) rfl) ?_
           refine dq 221 (q_convTo tok rfl rfl rfl rfl rfl (wrap_byte hwa)) ?_
           refine dx 222 (o_lit' tok rfl rfl rfl rfl rfl rfl (by decide) rfl rfl rfl rfl rfl rfl) ?_
           refine dx 223 (o_append tok (es := byteCells m.out) (n := m.out.length) (m := 1) rfl rfl rfl rfl rfl rfl rfl rfl z41q (by simp [byteCells]) rfl rfl (Nat.zero_lt_succ _) (.lst _ _) (by intro cs h; simp [partVals] at h; subst h; rfl) (fun _ cs h => by simp [partVals] at h; subst h; rfl) rfl (by simp [byteCells, partVals]; have := hm.out; omega) (by simp [byteCells, partVals]; simp only [maxLen]; have := hm.out; omega)) ?_
           refine dq 224 (q_nilCheck rfl rfl rfl) ?_
           refine df 225 tok ?_
           refine DOps.w rfl rfl (o_store tok (es := [(boxC x0 x2 W s m)]) rfl rfl rfl rfl rfl z41q rfl rfl rfl (by decide) rfl (by intro h; cases h)) ?_
           refine DOps.nil (by kernel_rfl) ?_
           refine AGo.seq ?_
           refine AGo.region ?_
           refine aa 6 ?_
           refine AOps.nil ?_
           refine AGo.ret ?_
           first
           | (refine ⟨[_], ⟨rfl, trivial⟩, ?_, ?_⟩ <;> rw [mone1 ho] <;> first | rfl | exact congrArg (AV.int .i64) h0.symm | exact HSub.put4 z9q z9q z9q z9q (fun c q h1 h2 h3 h4 hq => by simp only [hputs, hput_ne _ _ h1, hput_ne _ _ h2, hput_ne _ _ h3, hput_ne _ _ h4, hq]))
           | (refine ⟨[_], ⟨rfl, trivial⟩, ?_, ?_⟩ <;> rw [mone2 ho] <;> first | rfl | exact congrArg (AV.int .i64) h0.symm | exact HSub.put4 z9q z9q z9q z9q (fun c q h1 h2 h3 h4 hq => by simp only [hputs, hput_ne _ _ h1, hput_ne _ _ h2, hput_ne _ _ h3, hput_ne _ _ h4, hq]))
           | (refine ⟨[_], ⟨rfl, trivial⟩, ?_, ?_⟩ <;> rw [mone3 ho hz] <;> first | rfl | exact congrArg (AV.int .i64) h0.symm | exact HSub.put4 z9q z9q z9q z9q (fun c q h1 h2 h3 h4 hq => by simp only [hputs, hput_ne _ _ h1, hput_ne _ _ h2, hput_ne _ _ h3, hput_ne _ _ h4, hq]))
           | (refine ⟨[_], ⟨rfl, trivial⟩, ?_, ?_⟩ <;> rw [mone4 ho] <;> first | rfl | exact congrArg (AV.int .i64) h0.symm | exact HSub.put4 z9q z9q z9q z9q (fun c q h1 h2 h3 h4 hq => by simp only [hputs, hput_ne _ _ h1, hput_ne _ _ h2, hput_ne _ _ h3, hput_ne _ _ h4, hq]))
           | (refine ⟨[_], ⟨rfl, trivial⟩, ?_, ?_⟩ <;> rw [mone5 ho] <;> first | rfl | exact congrArg (AV.int .i64) h0.symm | exact HSub.put4 z9q z9q z9q z9q (fun c q h1 h2 h3 h4 hq => by simp only [hputs, hput_ne _ _ h1, hput_ne _ _ h2, hput_ne _ _ h3, hput_ne _ _ h4, hq]))
           | (refine ⟨[_], ⟨rfl, trivial⟩, ?_, ?_⟩ <;> rw [mone6 ho hsz] <;> first | rfl | exact congrArg (AV.int .i64) h0.symm | exact HSub.put4 z9q z9q z9q z9q (fun c q h1 h2 h3 h4 hq => by simp only [hputs, hput_ne _ _ h1, hput_ne _ _ h2, hput_ne _ _ h3, hput_ne _ _ h4, hq]))
           | (refine ⟨[_], ⟨rfl, trivial⟩, ?_, ?_⟩ <;> rw [mone7 ho hsz] <;> first | rfl | exact congrArg (AV.int .i64) h0.symm | exact HSub.put4 z9q z9q z9q z9q (fun c q h1 h2 h3 h4 hq => by simp only [hputs, hput_ne _ _ h1, hput_ne _ _ h2, hput_ne _ _ h3, hput_ne _ _ h4, hq]))
           | (refine ⟨[_], ⟨rfl, trivial⟩, ?_, ?_⟩ <;> rw [mone9 ho hou] <;> first | rfl | exact congrArg (AV.int .i64) h0.symm | exact HSub.put4 z9q z9q z9q z9q (fun c q h1 h2 h3 h4 hq => by simp only [hputs, hput_ne _ _ h1, hput_ne _ _ h2, hput_ne _ _ h3, hput_ne _ _ h4, hq]))
           | (rcases hrc with hrd | hrd
              · simp only [decide_eq_true hrd, cond_true]
                (refine ⟨[_], ⟨rfl, trivial⟩, ?_, ?_⟩ <;> rw [mone8 ho hrd] <;> first | rfl | exact congrArg (AV.int .i64) h0.symm | exact HSub.put4 z9q z9q z9q z9q (fun c q h1 h2 h3 h4 hq => by simp only [hputs, hput_ne _ _ h1, hput_ne _ _ h2, hput_ne _ _ h3, hput_ne _ _ h4, hq]))
              · simp only [decide_eq_false hrd, cond_false]
                (refine ⟨[_], ⟨rfl, trivial⟩, ?_, ?_⟩ <;> rw [mone8z ho hrd] <;> first | rfl | exact congrArg (AV.int .i64) h0.symm | exact HSub.put4 z9q z9q z9q z9q (fun c q h1 h2 h3 h4 hq => by simp only [hputs, hput_ne _ _ h1, hput_ne _ _ h2, hput_ne _ _ h3, hput_ne _ _ h4, hq])))
           | (exfalso; have := ht.op; first | (simp_all; done) | (simp_all; omega))
         ·
          refine AGo.cond_false false rfl rfl ?_
          refine AGo.skip ?_
          refine AGo.seq ?_
          refine AGo.region ?_
          refine aa 6 ?_
          refine AOps.nil ?_
          refine AGo.ret ?_
          first
          | (refine ⟨[_], ⟨rfl, trivial⟩, ?_, ?_⟩ <;> rw [mone1 ho] <;> first | rfl | exact congrArg (AV.int .i64) h0.symm | exact HSub.put4 z9q z9q z9q z9q (fun c q h1 h2 h3 h4 hq => by simp only [hputs, hput_ne _ _ h1, hput_ne _ _ h2, hput_ne _ _ h3, hput_ne _ _ h4, hq]))
          | (refine ⟨[_], ⟨rfl, trivial⟩, ?_, ?_⟩ <;> rw [mone2 ho] <;> first | rfl | exact congrArg (AV.int .i64) h0.symm | exact HSub.put4 z9q z9q z9q z9q (fun c q h1 h2 h3 h4 hq => by simp only [hputs, hput_ne _ _ h1, hput_ne _ _ h2, hput_ne _ _ h3, hput_ne _ _ h4, hq]))
          | (refine ⟨[_], ⟨rfl, trivial⟩, ?_, ?_⟩ <;> rw [mone3 ho hz] <;> first | rfl | exact congrArg (AV.int .i64) h0.symm | exact HSub.put4 z9q z9q z9q z9q (fun c q h1 h2 h3 h4 hq => by simp only [hputs, hput_ne _ _ h1, hput_ne _ _ h2, hput_ne _ _ h3, hput_ne _ _ h4, hq]))
          | (refine ⟨[_], ⟨rfl, trivial⟩, ?_, ?_⟩ <;> rw [mone4 ho] <;> first | rfl | exact congrArg (AV.int .i64) h0.symm | exact HSub.put4 z9q z9q z9q z9q (fun c q h1 h2 h3 h4 hq => by simp only [hputs, hput_ne _ _ h1, hput_ne _ _ h2, hput_ne _ _ h3, hput_ne _ _ h4, hq]))
          | (refine ⟨[_], ⟨rfl, trivial⟩, ?_, ?_⟩ <;> rw [mone5 ho] <;> first | rfl | exact congrArg (AV.int .i64) h0.symm | exact HSub.put4 z9q z9q z9q z9q (fun c q h1 h2 h3 h4 hq => by simp only [hputs, hput_ne _ _ h1, hput_ne _ _ h2, hput_ne _ _ h3, hput_ne _ _ h4, hq]))
          | (refine ⟨[_], ⟨rfl, trivial⟩, ?_, ?_⟩ <;> rw [mone6 ho hsz] <;> first | rfl | exact congrArg (AV.int .i64) h0.symm | exact HSub.put4 z9q z9q z9q z9q (fun c q h1 h2 h3 h4 hq => by simp only [hputs, hput_ne _ _ h1, hput_ne _ _ h2, hput_ne _ _ h3, hput_ne _ _ h4, hq]))
          | (refine ⟨[_], ⟨rfl, trivial⟩, ?_, ?_⟩ <;> rw [mone7 ho hsz] <;> first | rfl | exact congrArg (AV.int .i64) h0.symm | exact HSub.put4 z9q z9q z9q z9q (fun c q h1 h2 h3 h4 hq => by simp only [hputs, hput_ne _ _ h1, hput_ne _ _ h2, hput_ne _ _ h3, hput_ne _ _ h4, hq]))
          | (refine ⟨[_], ⟨rfl, trivial⟩, ?_, ?_⟩ <;> rw [mone9 ho hou] <;> first | rfl | exact congrArg (AV.int .i64) h0.symm | exact HSub.put4 z9q z9q z9q z9q (fun c q h1 h2 h3 h4 hq => by simp only [hputs, hput_ne _ _ h1, hput_ne _ _ h2, hput_ne _ _ h3, hput_ne _ _ h4, hq]))
          | (rcases hrc with hrd | hrd
             · simp only [decide_eq_true hrd, cond_true]
               (refine ⟨[_], ⟨rfl, trivial⟩, ?_, ?_⟩ <;> rw [mone8 ho hrd] <;> first | rfl | exact congrArg (AV.int .i64) h0.symm | exact HSub.put4 z9q z9q z9q z9q (fun c q h1 h2 h3 h4 hq => by simp only [hputs, hput_ne _ _ h1, hput_ne _ _ h2, hput_ne _ _ h3, hput_ne _ _ h4, hq]))
             · simp only [decide_eq_false hrd, cond_false]
               (refine ⟨[_], ⟨rfl, trivial⟩, ?_, ?_⟩ <;> rw [mone8z ho hrd] <;> first | rfl | exact congrArg (AV.int .i64) h0.symm | exact HSub.put4 z9q z9q z9q z9q (fun c q h1 h2 h3 h4 hq => by simp only [hputs, hput_ne _ _ h1, hput_ne _ _ h2, hput_ne _ _ h3, hput_ne _ _ h4, hq])))
          | (exfalso; have := ht.op; first | (simp_all; done) | (simp_all; omega))

end Go.Proofs.Ytjmjmedjjbginaa.Sv

namespace Go.Proofs.Ytjmjmedjjbginaa.Sv
open Go

def regO : Option (List Int) → AObj
  | some (x :: l) => .row true 1 (regCells (x :: l))
  | _ => .free
def hg (base : AHeap) (R : List (Option (List Int))) : AHeap := fun c => bif Nat.ble 16 c then some (regO ((R[c - 16]?).getD none)) else base c
theorem hg_at (base : AHeap) (R : List (Option (List Int))) (g : Nat) : hg base R (g + 16) = some (regO ((R[g]?).getD none)) := by
  unfold hg
  have : Nat.ble 16 (g + 16) = true := Nat.ble_eq.mpr (by omega)
  rw [this, Nat.add_sub_cancel]; rfl
theorem hg_lo (base : AHeap) (R : List (Option (List Int))) {c : Nat} (h : c < 16) : hg base R c = base c := by
  unfold hg
  have : Nat.ble 16 c = false := by
    cases e : Nat.ble 16 c with
    | false => rfl
    | true => have := Nat.ble_eq.mp e; omega
  rw [this]; rfl
def tabC (R : List (Option (List Int))) (f : Nat) : List AV := match (R[f]?).getD none with
  | some l => [regA (f + 16) l.length]
  | none => [.nil]
def rowTab (R : List (Option (List Int))) : List (List AV) := (List.range R.length).map (tabC R)
theorem rowTab_length (R : List (Option (List Int))) : (rowTab R).length = R.length := by simp [rowTab]
theorem rowTab_get {R : List (Option (List Int))} {f : Nat} (h : f < R.length) : (rowTab R)[f]? = some (tabC R f) := by simp [rowTab, h]
theorem tabC_some {R : List (Option (List Int))} {f : Nat} {l : List Int} (h : R[f]? = some (some l)) : tabC R f = [regA (f + 16) l.length] := by simp [tabC, h]
theorem tabC_none {R : List (Option (List Int))} {f : Nat} (h : R[f]? = some none) : tabC R f = [.nil] := by simp [tabC, h]
theorem rowTab_set {R : List (Option (List Int))} {f : Nat} (l : List Int) (h : f < R.length) : rowTab (R.set f (some l)) = (rowTab R).set f [regA (f + 16) l.length] := by
  apply List.ext_getElem?
  intro j
  by_cases hj : j < R.length
  · rw [rowTab_get (by simpa using hj)]
    by_cases hjf : f = j
    · subst hjf
      rw [List.getElem?_set_self (by rw [rowTab_length]; exact hj), tabC_some (List.getElem?_set_self hj)]
    · rw [List.getElem?_set_ne hjf, rowTab_get hj]
      unfold tabC
      rw [List.getElem?_set_ne hjf]
  · rw [List.getElem?_eq_none (by rw [rowTab_length]; simpa using hj), List.getElem?_eq_none (by rw [List.length_set, rowTab_length]; omega)]
theorem rowTab_same {R : List (Option (List Int))} {f : Nat} {l l' : List Int} (h : R[f]? = some (some l)) (hl : l'.length = l.length) : rowTab (R.set f (some l')) = rowTab R := by
  have hlt := (List.getElem?_eq_some_iff.1 h).1
  rw [rowTab_set l' hlt]
  exact set_same (by rw [rowTab_get hlt, tabC_some h, hl])
def hputO (h : AHeap) (c n : Nat) : AHeap := if n = 0 then h else hput h c (.row true 1 (regCells (List.replicate n 0)))
theorem hputO_skip {h : AHeap} {c n x : Nat} {r : Option AObj} (hne : x ≠ c) (hr : h x = r) : hputO h c n x = r := by
  unfold hputO
  split
  · exact hr
  · rw [hput_ne _ _ hne]; exact hr
theorem hrm_skip {h : AHeap} {k x : Nat} {r : Option AObj} (hne : x ≠ k) (hr : h x = r) : hrm h k x = r := by rw [hrm_ne _ hne]; exact hr
theorem enter_ok (h : AHeap) (b : Blocks) (F : BFunc) (f0 nf k n : Nat) (x1 x3 x4 x5 : AV) (R : List (Option (List Int))) (hh0 : h 0 = some (.row false 6 [[funcsAV b.funcs, x1, .ref 2 nf 0 nf, x3, x4, x5]])) (hh2 : h 2 = some (.row false 1 (rowTab R))) (hnt : nf = R.length) (hfn : f0 < nf) (hF : b.funcs[f0]? = some F) (hreg : F.regs = (n : Int)) (hn4 : n ≤ 4000)
    (hfree : h k = some .free) (hk : k ≠ 0 ∧ k ≠ 2 ∧ k ≠ f0 + 16) (hR : ∀ l, R[f0]? = some (some l) → l.length = n) (hhr : h (f0 + 16) = some (regO ((R[f0]?).getD none))) {z : Int} (hz : z = (f0 : Int)) :
    ACall Try.prog 38 [.ptr 0 1 0 0, .int .i64 z] h (fun r h'' => r = .agg [.int .i64 z, .int .i64 0, .int .i64 0, regA (f0 + 16) n] ∧ HSub (hputO (hput (hrm h k) 2 (.row false 1 (rowTab (R.set f0 (some (List.replicate n 0)))))) (f0 + 16) n) h'') := by
  subst hz
  have hlt : f0 < R.length := by omega
  have hset := rowTab_set (R := R) (f := f0) (List.replicate n 0) hlt
  rw [List.length_replicate] at hset
  rw [hset]
  have hnt' : nf = (rowTab R).length := by rw [rowTab_length]; exact hnt
  have hfn' : ((f0 : Nat) : Int) < ((nf : Nat) : Int) := by omega
  have hg := rowTab_get hlt
  obtain ⟨o, ho⟩ := get_of_lt hlt
  rw [ho, Option.getD_some] at hhr
  cases o with
  | none =>
    rw [tabC_none ho] at hg
    by_cases hn0 : n = 0
    · subst hn0
      exact enter1_ok h b F f0 nf k 0 x1 x3 x4 x5 (rowTab R) hh0 hh2 hnt' hfn' hF hreg hn4 hfree hk hg rfl
    · have hpos : 0 < n := by omega
      have := enter2_ok h b F f0 nf k n x1 x3 x4 x5 (rowTab R) hh0 hh2 hnt' hfn' hF hreg hn4 hfree hk hg hpos hhr
      rw [← regA_pos (rb := f0 + 16) hpos] at this
      unfold hputO
      rw [if_neg hn0]
      exact this
  | some l =>
    have hl := hR l ho
    rw [tabC_some ho, hl] at hg
    by_cases hn0 : n = 0
    · subst hn0
      exact enter3_ok h b F f0 nf k 0 x1 x3 x4 x5 (rowTab R) hh0 hh2 hnt' hfn' hF hreg hn4 hfree hk hg rfl
    · have hpos : 0 < n := by omega
      rw [regA_pos hpos] at hg ⊢
      have hro : regO (some l) = .row true 1 (regCells l) := by
        cases l with
        | nil => simp at hl; omega
        | cons a r => rfl
      have := enter4_ok h b F f0 nf k n x1 x3 x4 x5 (rowTab R) hh0 hh2 hnt' hfn' hF hreg hn4 hfree hk hg hpos l hl (by rw [hhr, hro])
      unfold hputO
      rw [if_neg hn0]
      exact this
def kap : Nat → Bool := fun c => Nat.blt c 8 || Nat.ble 15 c
def hMid : AHeap := fun c => bif Nat.blt c 8 then none else bif Nat.ble 15 c then none else some .free
theorem kap_hi (g : Nat) : kap (g + 16) = true := by
  unfold kap
  have : Nat.ble 15 (g + 16) = true := Nat.ble_eq.mpr (by omega)
  rw [this, Bool.or_true]
theorem regA_avoid (g n : Nat) : (regA (g + 16) n).avoid kap = true := by
  cases n with
  | zero => rfl
  | succ n => exact kap_hi g
def nregs (b : Blocks) (f : Nat) : Nat := match b.funcs[f]? with
  | some F => F.regs.toNat
  | none => 0
def frC (b : Blocks) (fr : FrB) : List AV := [.int .i64 (fr.f : Int), .int .i64 fr.blk, .int .i64 (fr.at' : Int), regA (fr.f + 16) (nregs b fr.f)]
abbrev mBase (b : Blocks) (s : ByteArray) (m : Mach) (R : List (Option (List Int))) (now : FrB) (es : List FrB) (h0 : AHeap) : AHeap :=
  hput (hput (hput (hput (hput (hput (hput (hput h0 0 (.row false 6 [boxC (funcsAV b.funcs) (.ref 2 b.funcs.length 0 b.funcs.length) b.words.toNat s m])) 1 (.row true 1 (regCells m.words))) 2 (.row false 1 (rowTab R))) 3 (.row true 1 (byteCells m.out)))
    4 (.row false 2 [b.cells])) 5 (.row false 3 [[.int .i64 0, .str ⟨#[]⟩, .int .i64 0]])) 6 (.row false 4 [frC b now])) 7 (.row false 4 (es.map (frC b)))
def mAll (b : Blocks) (s : ByteArray) (m : Mach) (R : List (Option (List Int))) (now : FrB) (es : List FrB) : AHeap := hg (mBase b s m R now es hMid) R
theorem hMid_free {c : Nat} (h : 8 ≤ c ∧ c < 15) : hMid c = some .free := by
  unfold hMid
  have h1 : Nat.blt c 8 = false := by
    cases e : Nat.blt c 8 with
    | false => rfl
    | true => have := Nat.blt_eq.mp e; omega
  have h2 : Nat.ble 15 c = false := by
    cases e : Nat.ble 15 c with
    | false => rfl
    | true => have := Nat.ble_eq.mp e; omega
  rw [h1, h2]; rfl
theorem kap_false {c : Nat} (hc : kap c = false) : 8 ≤ c ∧ c < 15 := by
  unfold kap at hc
  simp only [Bool.or_eq_false_iff] at hc
  obtain ⟨a1, a2⟩ := hc
  refine ⟨?_, ?_⟩
  · rcases Nat.lt_or_ge c 8 with h | h
    · rw [Nat.blt_eq.mpr h] at a1; cases a1
    · exact h
  · rcases Nat.lt_or_ge c 15 with h | h
    · exact h
    · rw [Nat.ble_eq.mpr h] at a2; cases a2
theorem mAll_at {b : Blocks} {s : ByteArray} {m : Mach} {R : List (Option (List Int))} {now : FrB} {es : List FrB} {c : Nat} (h : 8 ≤ c) (h2 : c < 16) : mAll b s m R now es c = hMid c := by
  unfold mAll
  rw [hg_lo _ _ h2]
  unfold mBase
  rw [hput_ne _ _ (by omega), hput_ne _ _ (by omega), hput_ne _ _ (by omega), hput_ne _ _ (by omega), hput_ne _ _ (by omega), hput_ne _ _ (by omega), hput_ne _ _ (by omega), hput_ne _ _ (by omega)]
theorem mAll_free (b : Blocks) (s : ByteArray) (m : Mach) (R : List (Option (List Int))) (now : FrB) (es : List FrB) : ∀ c, kap c = false → mAll b s m R now es c = some .free := fun c hc => by
  have h1 := kap_false hc
  rw [mAll_at h1.1 (by omega)]
  exact hMid_free h1
theorem mAll_sub {b : Blocks} {s : ByteArray} {m : Mach} {R : List (Option (List Int))} {now : FrB} {es : List FrB} {h' : AHeap} (a0 : h' 0 = some (.row false 6 [boxC (funcsAV b.funcs) (.ref 2 b.funcs.length 0 b.funcs.length) b.words.toNat s m])) (a1 : h' 1 = some (.row true 1 (regCells m.words))) (a2 : h' 2 = some (.row false 1 (rowTab R))) (a3 : h' 3 = some (.row true 1 (byteCells m.out)))
    (a4 : h' 4 = some (.row false 2 [b.cells])) (a5 : h' 5 = some (.row false 3 [[.int .i64 0, .str ⟨#[]⟩, .int .i64 0]])) (a6 : h' 6 = some (.row false 4 [frC b now])) (a7 : h' 7 = some (.row false 4 (es.map (frC b)))) (ar : ∀ g, h' (g + 16) = some (regO ((R[g]?).getD none))) :
    ∀ c o, kap c = true → mAll b s m R now es c = some o → h' c = some o := fun c o hc ho => by
  by_cases h16 : 16 ≤ c
  · obtain ⟨g, rfl⟩ : ∃ g, c = g + 16 := ⟨c - 16, by omega⟩
    rw [ar g, ← ho]; exact (hg_at _ _ g).symm
  · by_cases h8 : c < 8
    · unfold mAll at ho
      rw [hg_lo _ _ (by omega)] at ho
      match c, h8, ho with
      | 0, _, ho => cases ho; exact a0
      | 1, _, ho => cases ho; exact a1
      | 2, _, ho => cases ho; exact a2
      | 3, _, ho => cases ho; exact a3
      | 4, _, ho => cases ho; exact a4
      | 5, _, ho => cases ho; exact a5
      | 6, _, ho => cases ho; exact a6
      | 7, _, ho => cases ho; exact a7
      | n + 8, h, _ => exact absurd h (by omega)
    · rw [mAll_at (by omega) (by omega)] at ho
      have h15 : c = 15 := by
        rcases Nat.lt_or_ge c 15 with h | h
        · unfold kap at hc
          simp only [Bool.or_eq_true] at hc
          rcases hc with hc | hc
          · have := Nat.blt_eq.mp hc; omega
          · have := Nat.ble_eq.mp hc; omega
        · omega
      subst h15
      cases ho
theorem tab_avoid (R : List (Option (List Int))) : (AObj.row false 1 (rowTab R)).avoid kap = true := by
  refine List.all_eq_true.2 fun cs hcs => ?_
  simp only [rowTab, List.mem_map] at hcs
  obtain ⟨f, _, rfl⟩ := hcs
  unfold tabC
  cases (R[f]?).getD none with
  | none => rfl
  | some l => simp only [List.all_cons, List.all_nil, Bool.and_true]; exact regA_avoid f l.length
theorem fr_avoid (b : Blocks) (fr : FrB) : (frC b fr).all (AV.avoid kap) = true := by
  simp only [frC, List.all_cons, List.all_nil, Bool.and_true, regA_avoid]; rfl
theorem es_avoid (b : Blocks) (es : List FrB) : (AObj.row false 4 (es.map (frC b))).avoid kap = true := by
  refine List.all_eq_true.2 fun cs hcs => ?_
  simp only [List.mem_map] at hcs
  obtain ⟨f, _, rfl⟩ := hcs
  exact fr_avoid b f
theorem regO_avoid (o : Option (List Int)) : (regO o).avoid kap = true := by
  unfold regO; split <;> rfl
theorem mAll_drop {b : Blocks} {s : ByteArray} {m : Mach} {R : List (Option (List Int))} {now : FrB} {es : List FrB} {h' : AHeap} (hs : ∀ c o, kap c = true → mAll b s m R now es c = some o → h' c = some o) : HDropK kap (mAll b s m R now es) h' := fun c o hc => by
  cases hk : kap c with
  | false =>
    rw [mAll_free b s m R now es c hk] at hc
    cases hc
    exact .inr ⟨rfl, rfl⟩
  | true =>
    refine .inl ⟨hs c o hk hc, fun _ => ⟨rfl, ?_⟩⟩
    by_cases h16 : 16 ≤ c
    · obtain ⟨g, rfl⟩ : ∃ g, c = g + 16 := ⟨c - 16, by omega⟩
      unfold mAll at hc
      rw [hg_at] at hc
      cases hc
      exact regO_avoid _
    · by_cases h8 : c < 8
      · unfold mAll at hc
        rw [hg_lo _ _ (by omega)] at hc
        match c, h8, hc with
        | 0, _, hc => cases hc; rfl
        | 1, _, hc => cases hc; rfl
        | 2, _, hc => cases hc; exact tab_avoid R
        | 3, _, hc => cases hc; rfl
        | 4, _, hc => cases hc; rfl
        | 5, _, hc => cases hc; rfl
        | 6, _, hc => cases hc; simp only [AObj.avoid, List.all_cons, List.all_nil, Bool.and_true]; exact fr_avoid b now
        | 7, _, hc => cases hc; exact es_avoid b es
        | n + 8, h, _ => exact absurd h (by omega)
      · rw [mAll_at (by omega) (by omega)] at hc
        have h15 : c = 15 := by
          rcases Nat.lt_or_ge c 15 with h | h
          · rw [show kap c = false from ?_] at hk
            · cases hk
            · unfold kap
              have e1 : Nat.blt c 8 = false := by
                cases e : Nat.blt c 8 with
                | false => rfl
                | true => have := Nat.blt_eq.mp e; omega
              have e2 : Nat.ble 15 c = false := by
                cases e : Nat.ble 15 c with
                | false => rfl
                | true => have := Nat.ble_eq.mp e; omega
              rw [e1, e2]; rfl
          · omega
        subst h15
        cases hc
theorem mAll_first {b : Blocks} {s : ByteArray} {m : Mach} {R : List (Option (List Int))} {now : FrB} {es : List FrB} {h' : AHeap} (hs : ∀ c o, kap c = true → mAll b s m R now es c = some o → h' c = some o) (hf : ∀ c, 8 ≤ c → c < 15 → h' c = some .free) : HSub (mAll b s m R now es) h' := fun c o hc => by
  cases hk : kap c with
  | false =>
    have h1 := kap_false hk
    rw [mAll_free b s m R now es c hk] at hc
    cases hc
    exact hf c h1.1 h1.2
  | true => exact hs c o hk hc
theorem rowTab_none (n : Nat) : rowTab (List.replicate n none) = List.replicate n [.nil] := by
  apply List.ext_getElem?
  intro j
  by_cases hj : j < n
  · rw [rowTab_get (by simpa using hj), tabC_none (by simp [hj]), List.getElem?_replicate, if_pos hj]
  · rw [List.getElem?_eq_none (by rw [rowTab_length]; simp; omega), List.getElem?_eq_none (by simp; omega)]
theorem regO_rep (n f : Nat) : regO (((List.replicate n (none : Option (List Int)))[f]?).getD none) = .free := by
  rw [List.getElem?_replicate]
  split <;> rfl
theorem regO_some {l : List Int} (h : 0 < l.length) : regO (some l) = .row true 1 (regCells l) := by
  cases l with
  | nil => simp at h
  | cons a r => rfl
theorem do_ok' (h : AHeap) (f0 W R nn : Nat) (x0 x2 : AV) (s : ByteArray) (t : Tac) (regs : List Int) (m : Mach) (ht : TacIn t nn R W) (hr : allR regs) (hlen : regs.length = R) (hm : m.good W) (h0 : m.fin = 0) (hW : W ≤ 1048576) (hs : s.size ≤ 9223372036854775807) (hwn : isW t.n) (h10 : t.op ≠ 10) (hpos : 0 < R)
    (hh0 : h 0 = some (.row false 6 [boxC x0 x2 W s m])) (hh1 : h 1 = some (.row true 1 (regCells m.words))) (hh3 : h 3 = some (.row true 1 (byteCells m.out))) (hhr : h (f0 + 16) = some (.row true 1 (regCells regs))) :
    ACall Try.prog 39 [.ptr 0 1 0 0, .loc t.cells, regA (f0 + 16) R] h (fun r h'' => r = .int .i64 (mone (fun _ m => m) s t regs m).2.fin ∧
      HSub (hput (hput (hput (hput h 0 (.row false 6 [boxC x0 x2 W s (mone (fun _ m => m) s t regs m).2])) 1 (.row true 1 (regCells (mone (fun _ m => m) s t regs m).2.words))) 3 (.row true 1 (byteCells (mone (fun _ m => m) s t regs m).2.out))) (f0 + 16) (.row true 1 (regCells (mone (fun _ m => m) s t regs m).1))) h'') := by
  rw [regA_pos hpos]
  exact do_ok h f0 W R nn x0 x2 s t regs m ht hr hlen hm h0 hW hs hwn h10 hh0 hh1 hh3 hhr
theorem tac_regs {t : Tac} {nn R W : Nat} (ht : TacIn t nn R W) (h10 : t.op ≠ 10) : 0 < R := by
  have h1 := ht.op
  by_cases hs : setsOp t.op = true
  · have := ht.d hs; omega
  · by_cases hu : use1 t.op = true ∨ use2 t.op = true
    · have := ht.a hu; omega
    · exfalso
      have : t.op = 1 ∨ t.op = 2 ∨ t.op = 3 ∨ t.op = 4 ∨ t.op = 5 ∨ t.op = 6 ∨ t.op = 7 ∨ t.op = 8 ∨ t.op = 9 := by omega
      rcases this with h | h | h | h | h | h | h | h | h <;> simp [setsOp, use1, use2, h] at hs hu
theorem mone_nostep {s : ByteArray} {t : Tac} {regs : List Int} {m : Mach} (h10 : t.op ≠ 10) : (mone (fun _ m => m) s t regs m).2.steps = m.steps := by
  unfold mone
  cases t.op == 1 with
  | true => rfl
  | false =>
  cases t.op == 2 with
  | true => rfl
  | false =>
  cases t.op == 3 with
  | true => simp only [cond_true, cond_false]; cases (wapp t.k (rget regs t.a) (rget regs t.b)).2 == 0 <;> rfl
  | false =>
  cases t.op == 4 with
  | true => rfl
  | false =>
  cases t.op == 5 with
  | true => rfl
  | false =>
  cases t.op == 6 with
  | true => simp only [cond_true, cond_false]; cases decide (rget regs t.a ≥ t.size) <;> rfl
  | false =>
  cases t.op == 7 with
  | true => simp only [cond_true, cond_false]; cases decide (rget regs t.a ≥ t.size) <;> rfl
  | false =>
  cases t.op == 8 with
  | true => simp only [cond_true, cond_false]; cases decide (m.read < s.size) <;> rfl
  | false =>
  cases t.op == 9 with
  | true => simp only [cond_true, cond_false]; cases decide (m.out.length ≥ 65536) <;> rfl
  | false =>
    cases t.op == 10 <;> rfl
def pushL (es : List FrB) (len : Nat) (fr : FrB) : List FrB := if len < es.length then es.set len fr else es ++ [fr]
theorem pushL_map {b : Blocks} {es : List FrB} {len : Nat} {fr : FrB} : (pushL es len fr).map (frC b) = pushE (es.map (frC b)) len (frC b fr) := by
  unfold pushL pushE
  rw [List.length_map]
  split
  · rw [List.map_set]
  · simp
theorem pushL_take {es : List FrB} {len : Nat} {fr : FrB} (h : len ≤ es.length) : (pushL es len fr).take (len + 1) = es.take len ++ [fr] := by
  unfold pushL
  split
  · rename_i hlt
    rw [take_succ_eq (List.getElem?_set_self hlt), List.take_set_of_le (Nat.le_refl _)]
  · have : len = es.length := by omega
    subst this
    rw [List.take_of_length_le (by simp), List.take_of_length_le (Nat.le_refl _)]
theorem pushL_len {es : List FrB} {len : Nat} {fr : FrB} (h : len ≤ es.length) : len + 1 ≤ (pushL es len fr).length ∧ (pushL es len fr).length ≤ es.length + 1 := by
  unfold pushL
  split <;> simp <;> omega
structure RGB where
  q : Q24
  es : List FrB
structure RInvB (b : Blocks) (s : ByteArray) (fuel : Int) (tgt : Mach) (r : RGB) : Prop where
  inv : SInv b s fuel b.words.toNat tgt r.q
  take : r.es.take r.q.above.length = r.q.above
  len : r.q.above.length ≤ r.es.length
  max : r.es.length ≤ r.q.m.steps
  rl : ∀ (f : Nat) (F : BFunc) (l : List Int), b.funcs[f]? = some F → r.q.R[f]? = some (some l) → l.length = F.regs.toNat
theorem RInvB.set {b : Blocks} {R : List (Option (List Int))} (h : ∀ (f : Nat) (F : BFunc) (l : List Int), b.funcs[f]? = some F → R[f]? = some (some l) → l.length = F.regs.toNat) {f0 : Nat} {G : BFunc} {l0 : List Int} (hG : b.funcs[f0]? = some G) (hl0 : l0.length = G.regs.toNat) :
    ∀ (f : Nat) (F : BFunc) (l : List Int), b.funcs[f]? = some F → (R.set f0 (some l0))[f]? = some (some l) → l.length = F.regs.toNat := fun f F l hF hl => by
  by_cases hf : f0 = f
  · subst hf
    rw [hG] at hF; cases hF
    rw [List.getElem?_set] at hl
    split at hl
    · split at hl
      · cases hl; exact hl0
      · cases hl
    · rename_i h1; exact absurd rfl h1
  · rw [List.getElem?_set_ne hf] at hl
    exact h f F l hF hl
theorem nregs_eq {b : Blocks} {f : Nat} {F : BFunc} (h : b.funcs[f]? = some F) : nregs b f = F.regs.toNat := by simp [nregs, h]
theorem ar_set {R : List (Option (List Int))} {f : Nat} {l : List Int} {h' h : AHeap} (hf : f < R.length) (hl : 0 < l.length) (h1 : h' (f + 16) = some (.row true 1 (regCells l))) (h2 : ∀ g, g ≠ f → h' (g + 16) = h (g + 16)) (h3 : ∀ g, h (g + 16) = some (regO ((R[g]?).getD none))) : ∀ g, h' (g + 16) = some (regO (((R.set f (some l))[g]?).getD none)) := fun g => by
  by_cases hg : g = f
  · subst hg
    rw [h1, List.getElem?_set_self hf, Option.getD_some, regO_some hl]
  · rw [h2 g hg, h3 g, List.getElem?_set_ne (Ne.symm hg)]
theorem ar_zero {R : List (Option (List Int))} {f n : Nat} {h' h h0 : AHeap} (hf : f < R.length) (hR : ∀ l, R[f]? = some (some l) → l.length = n) (h1 : ∀ g, h' (g + 16) = hputO h0 (f + 16) n (g + 16)) (h2 : ∀ g, h0 (g + 16) = some (regO ((R[g]?).getD none))) : ∀ g, h' (g + 16) = some (regO (((R.set f (some (List.replicate n 0)))[g]?).getD none)) := fun g => by
  rw [h1 g]
  unfold hputO
  by_cases hn : n = 0
  · rw [if_pos hn, h2 g]
    subst hn
    by_cases hg : f = g
    · subst hg
      rw [List.getElem?_set_self hf]
      cases e : R[f]? with
      | none => rfl
      | some o => cases o with
        | none => rfl
        | some l =>
          have := hR l e
          cases l with
          | nil => rfl
          | cons a r => simp at this
    · rw [List.getElem?_set_ne hg]
  · rw [if_neg hn]
    by_cases hg : g = f
    · subst hg
      rw [hput_same, List.getElem?_set_self hf, Option.getD_some, regO_some (by simp; omega)]
    · rw [hput_ne _ _ (by omega), h2 g, List.getElem?_set_ne (Ne.symm hg)]
end Go.Proofs.Ytjmjmedjjbginaa.Sv

namespace Go.Proofs.Ytjmjmedjjbginaa.Sv
open Go

section
variable {b : Blocks} {s : ByteArray} {fuel : Int} {tgt : Mach} {r : RGB}
theorem RInvB.first {b : Blocks} (hb : b.right = true) {s : ByteArray} {fuel : Int} {F : BFunc} (hF : b.funcs[b.funcs.length - 1]? = some F) :
    RInvB b s (fuel0 fuel) (mfun b s (fuel0 fuel) b.funcs.length ((b.funcs.length : Int) - 1) (m0 b)) ⟨⟨⟨b.funcs.length - 1, 0, 0⟩, [], (List.replicate b.funcs.length none).set (b.funcs.length - 1) (some (List.replicate (nregs b (b.funcs.length - 1)) 0)), m0 b⟩, []⟩ := by
  have h := SInv.start hb s fuel hF
  have hn := nregs_eq hF
  unfold q0 at h
  rw [← hn] at h
  refine ⟨h, rfl, Nat.le_refl _, Nat.zero_le _, RInvB.set (fun f F l _ hl => ?_) hF (by simp [hn])⟩
  rw [List.getElem?_replicate] at hl
  split at hl <;> cases hl
theorem mu_lessB {n : Nat} (h : n < fuel.toNat) : fuel.toNat - (n + 1) < fuel.toNat - n := by omega
theorem mu_lessE {n n' : Nat} (h : n < fuel.toNat) (h' : n' = n + 1) : fuel.toNat - n' < fuel.toNat - n := by omega
theorem RInvB.ins (h : RInvB b s fuel tgt r) {F : BFunc} {k : Block} {t : Tac} {l : List Int} (h1 : b.funcs[r.q.now.f]? = some F) (h2 : F.blocks[r.q.now.blk.toNat]? = some k) (ht : k.ins[r.q.now.at']? = some t) (hw : isW t.n) (hl : r.q.R[r.q.now.f]? = some (some l)) (hf : decide ((r.q.m.steps : Int) ≥ fuel) = false) (h10 : t.op ≠ 10)
    (he : (mone (fun _ m => m) s t l { r.q.m with steps := r.q.m.steps + 1 }).2.fin = 0) (hll : l.length = F.regs.toNat) :
    RInvB b s fuel tgt ⟨⟨⟨r.q.now.f, r.q.now.blk, r.q.now.at' + 1⟩, r.q.above, r.q.R.set r.q.now.f (some (mone (fun _ m => m) s t l { r.q.m with steps := r.q.m.steps + 1 }).1), (mone (fun _ m => m) s t l { r.q.m with steps := r.q.m.steps + 1 }).2⟩, r.es⟩ := by
  have hst := mone_nostep (s := s) (t := t) (regs := l) (m := { r.q.m with steps := r.q.m.steps + 1 }) h10
  obtain ⟨F', k', l', g1, g2, g3, g4, g5, g6, g7⟩ := h.inv.now.ex
  rw [hl] at g5; cases g5
  have hg := (mone_good (call := fun _ m => m) (s := s) (fun _ _ h => h) t hw g7 (good_step h.inv.good)).2.1
  exact ⟨h.inv.ins h1 h2 ht hw hl hf h10 he hst, h.take, h.len, by show r.es.length ≤ _; rw [hst]; have := h.max; show _ ≤ r.q.m.steps + 1; omega, RInvB.set h.rl h1 (by rw [hg]; exact hll)⟩
theorem RInvB.call (hb : b.right = true) (h : RInvB b s fuel tgt r) {F : BFunc} {k : Block} {t : Tac} (h1 : b.funcs[r.q.now.f]? = some F) (h2 : F.blocks[r.q.now.blk.toNat]? = some k) (ht : k.ins[r.q.now.at']? = some t) (hf : decide ((r.q.m.steps : Int) ≥ fuel) = false) (h10 : t.op = 10) {f0 : Nat} (hf0 : t.base = (f0 : Int)) {G : BFunc} (hG : b.funcs[f0]? = some G) :
    RInvB b s fuel tgt ⟨⟨⟨f0, 0, 0⟩, r.q.above ++ [⟨r.q.now.f, r.q.now.blk, r.q.now.at' + 1⟩], r.q.R.set f0 (some (List.replicate (nregs b f0) 0)), { r.q.m with steps := r.q.m.steps + 1 }⟩, pushL r.es r.q.above.length ⟨r.q.now.f, r.q.now.blk, r.q.now.at' + 1⟩⟩ := by
  have hbt : t.base.toNat = f0 := by omega
  have h0 := h.inv.call hb rfl h1 h2 ht hf h10 (G := G) (by rw [hbt]; exact hG)
  rw [hbt, ← nregs_eq hG] at h0
  have hp := pushL_len (fr := ⟨r.q.now.f, r.q.now.blk, r.q.now.at' + 1⟩) h.len
  refine ⟨h0, ?_, ?_, ?_, RInvB.set h.rl hG (by rw [nregs_eq hG]; simp)⟩
  · show List.take (r.q.above ++ [_]).length _ = _
    rw [List.length_append, List.length_singleton, pushL_take h.len, h.take]
  · show (r.q.above ++ [_]).length ≤ _
    rw [List.length_append, List.length_singleton]; exact hp.1
  · exact Nat.le_trans hp.2 (Nat.succ_le_succ h.max)
theorem RInvB.jump (hb : b.right = true) (h : RInvB b s fuel tgt r) {F : BFunc} {k : Block} {l : List Int} (h1 : b.funcs[r.q.now.f]? = some F) (h2 : F.blocks[r.q.now.blk.toNat]? = some k) (hat : k.ins.length ≤ r.q.now.at') (hl : r.q.R[r.q.now.f]? = some (some l)) (hf : decide ((r.q.m.steps : Int) ≥ fuel) = false) (h3 : (k.fin == 3) = false) {to : Int} (hto : k.next l = to) :
    RInvB b s fuel tgt ⟨⟨⟨r.q.now.f, to, 0⟩, r.q.above, r.q.R, { r.q.m with steps := r.q.m.steps + 1 }⟩, r.es⟩ :=
  ⟨h.inv.jump hb h1 h2 hat hl hf h3 hto, h.take, h.len, Nat.le_succ_of_le h.max, h.rl⟩
theorem RInvB.top (h : RInvB b s fuel tgt r) {fr : FrB} (ha : r.q.above.getLast? = some fr) : (r.es.map (frC b))[0 + (((r.q.above.length - 1 : Nat)) : Int).toNat]? = some (frC b fr) := by
  have hpos : 0 < r.q.above.length := by
    cases e : r.q.above with
    | nil => rw [e] at ha; simp at ha
    | cons x y => simp
  have h1 : r.q.above[r.q.above.length - 1]? = some fr := by rw [← List.getLast?_eq_getElem?]; exact ha
  have ht := h.take
  have h2 : r.es[r.q.above.length - 1]? = some fr := by
    rw [← ht, List.getElem?_take_of_lt (by rw [ht]; omega), ht] at h1
    exact h1
  rw [Nat.zero_add, Int.toNat_natCast, List.getElem?_map, h2]
  rfl
theorem RInvB.ret (h : RInvB b s fuel tgt r) {F : BFunc} {k : Block} {fr : FrB} (h1 : b.funcs[r.q.now.f]? = some F) (h2 : F.blocks[r.q.now.blk.toNat]? = some k) (hat : k.ins.length ≤ r.q.now.at') (hf : decide ((r.q.m.steps : Int) ≥ fuel) = false) (h3 : (k.fin == 3) = true) (ha : r.q.above.getLast? = some fr) :
    RInvB b s fuel tgt ⟨⟨fr, r.q.above.dropLast, r.q.R, { r.q.m with steps := r.q.m.steps + 1 }⟩, r.es⟩ := by
  have hl := h.len
  refine ⟨h.inv.ret h1 h2 hat hf h3 ha, ?_, by simp only [List.length_dropLast]; omega, Nat.le_succ_of_le h.max, h.rl⟩
  simp only [List.length_dropLast]
  conv => rhs; rw [← h.take]
  rw [dropLast_take' hl]
end
theorem ends_three {k : Block} {n r : Int} (h : k.ends n r = true) : k.fin = 1 ∨ k.fin = 2 ∨ k.fin = 3 := by
  unfold Block.ends at h
  cases e1 : k.fin == 1 with
  | true => exact .inl (by simpa using e1)
  | false =>
    cases e2 : k.fin == 2 with
    | true => exact .inr (.inl (by simpa using e2))
    | false =>
      rw [e1, e2] at h
      simp only [cond_false, Bool.and_eq_true, beq_iff_eq] at h
      exact .inr (.inr h.1)
theorem getLast_of {α : Type} {l : List α} (h : 0 < l.length) : ∃ x, l.getLast? = some x := by
  rw [List.getLast?_eq_getElem?]
  exact get_of_lt (by omega)
theorem next1 {k : Block} (h : k.fin = 1) (l : List Int) : k.next l = k.to := by simp [Block.next, h]
theorem next2t {k : Block} {l : List Int} (h : k.fin = 2) (hz : (rget l k.v != 0) = true) : k.next l = k.to := by
  have : (rget l k.v == 0) = false := by simpa using hz
  simp [Block.next, h, this]
theorem next2f {k : Block} {l : List Int} (h : k.fin = 2) (hz : (rget l k.v != 0) = false) : k.next l = k.els := by
  have : (rget l k.v == 0) = true := by simpa using hz
  simp [Block.next, h, this]
theorem mrun_fuel {b : Blocks} {s : ByteArray} {fuel : Int} {m : Mach} (h : mfun b s (fuel0 fuel) b.funcs.length ((b.funcs.length : Int) - 1) (m0 b) = { m with fin := 5 }) : mrun b s fuel = { m with fin := 5 } := by
  unfold mrun; rw [h]; rfl
theorem mrun_err {b : Blocks} {s : ByteArray} {fuel : Int} {m : Mach} (h : mfun b s (fuel0 fuel) b.funcs.length ((b.funcs.length : Int) - 1) (m0 b) = m) (hz : m.fin ≠ 0) : mrun b s fuel = m := by
  unfold mrun; rw [h]
  have : (m.fin == 0) = false := by rw [beq_eq_false_iff_ne]; exact hz
  simp only [this, cond_false]
theorem mrun_done {b : Blocks} {s : ByteArray} {fuel : Int} {m : Mach} (h : mfun b s (fuel0 fuel) b.funcs.length ((b.funcs.length : Int) - 1) (m0 b) = m) (hz : m.fin = 0) : mrun b s fuel = { m with fin := 1 } := by
  unfold mrun; rw [h]
  have : (m.fin == 0) = true := by rw [beq_iff_eq]; exact hz
  simp only [this, cond_true]
theorem ar_zero' {R : List (Option (List Int))} {f n : Nat} {X : AHeap} (hf : f < R.length) (hR : ∀ l, R[f]? = some (some l) → l.length = n) (h2 : ∀ g, X (g + 16) = some (regO ((R[g]?).getD none))) (g : Nat) : hputO X (f + 16) n (g + 16) = some (regO (((R.set f (some (List.replicate n 0)))[g]?).getD none)) :=
  ar_zero (h := X) hf hR (fun g => rfl) h2 g
theorem refPush {b : Blocks} {es above : List FrB} {fr : FrB} : some (AV.ref 7 (pushE (es.map (frC b)) above.length (frC b fr)).length 0 (above.length + 1)) = some (AV.ref 7 (pushL es above.length fr).length 0 (above ++ [fr]).length) := by
  rw [← pushL_map, List.length_map, List.length_append, List.length_singleton]
end Go.Proofs.Ytjmjmedjjbginaa.Sv

namespace Go.Proofs.Ytjmjmedjjbginaa.Sv
open Go

set_option maxHeartbeats 2000000 in
set_option maxRecDepth 100000 in
theorem blockRun_ok (b : Blocks) (s : ByteArray) (fuel : Int) (hbr : b.right = true) (hbw : b.insW) (hil : ∀ f ∈ b.funcs, ∀ x ∈ f.blocks, x.ins.length ≤ big) (hnf : b.funcs.length ≤ 1000) (hfu : fuel ≤ 1000000) (hs : s.size ≤ 9223372036854775807) : APure Try.prog 24 [.agg b.cells, .str s, .int .i64 fuel] (fun r => r = .agg (resCells (mrun b s fuel))) := by
 have hsp := right_spec hbr
 have hn0 : 0 < b.funcs.length := List.length_pos_iff.2 hsp.2.2.1
 obtain ⟨F0, hF0⟩ := get_of_lt (l := b.funcs) (k := b.funcs.length - 1) (by omega)
 have hone0 := one_spec (hsp.2.2.2 _ F0 hF0)
 have hwz : b.words = ((b.words.toNat : Nat) : Int) := by omega
 have hw0 : b.words.toNat ≤ 1048576 := by omega
 have hnr0 := nregs_eq hF0
 refine APure.of_body (n := 147) tok Try.func24 rfl rfl ?_
 refine AGo.seq ?_
 refine AGo.region ?_
 refine ax 3 (o_box (sz := 2) 4 rfl rfl rfl rfl (Nat.zero_lt_succ _) rfl) ?_
 refine ax 6 (o_alloc tok 5 rfl rfl rfl rfl (Nat.zero_lt_succ _) rfl) ?_
 refine AOps.nil ?_
 refine AGo.scope ?_
 refine AGo.seq ?_
 refine AGo.draw mix ?_
 refine df 15 tok ?_
 refine dl 16 tok ?_
 refine df 17 tok ?_
 refine dl 18 tok ?_
 refine dx 19 (o_makeSlice tok (n := b.words.toNat) (m := b.words.toNat) 1 true rfl rfl rfl hwz hwz rfl rfl rfl rfl rfl (Nat.zero_lt_succ _) rfl (Nat.le_refl _) (by show 4 * b.words.toNat ≤ _; omega) (by simp only [maxLen]; omega)) ?_
 refine df 20 tok ?_
 refine dl 21 tok ?_
 refine dq 22 (q_len tok rfl rfl rfl rfl rfl) ?_
 refine dx 23 (o_makeSlice tok (n := b.funcs.length) (m := b.funcs.length) 2 false rfl rfl rfl (by rw [List.length_map]) (by rw [List.length_map]) rfl rfl rfl rfl rfl (Nat.zero_lt_succ _) rfl (Nat.le_refl _) (by show 24 * b.funcs.length ≤ _; omega) (by simp only [maxLen]; omega)) ?_
 refine dm 24 ?_
 refine dq 25 (q_build tok rfl rfl rfl rfl rfl (by decide) rfl rfl rfl) ?_
 refine dx 26 (o_box (sz := 6) 0 rfl rfl rfl rfl (Nat.zero_lt_succ _) rfl) ?_
 refine da 7 ?_
 refine DOps.nil (by kernel_rfl) ?_
 refine AGo.seq ?_
 refine AGo.ghost (.dryCell 0 0 5 3 1 true rfl rfl rfl rfl rfl (by decide)) ?_
 refine AGo.region ?_
 refine am 27 ?_
 refine af 28 tok ?_
 refine al 29 tok ?_
 refine aq 30 (q_len tok rfl rfl rfl rfl rfl) ?_
 refine aq 31 (q_bin (r := .int .i64 (((b.funcs.length - 1) : Nat) : Int)) rfl rfl rfl (by rw [List.length_map]; exact len_pred hn0 (by omega))) ?_
 refine AOps.call 32 rfl rfl rfl (o_callW rfl Try.func38 (by kernel_rfl) rfl rfl (enter_ok _ b F0 (b.funcs.length - 1) b.funcs.length 15 (nregs b (b.funcs.length - 1)) (.ref 1 b.words.toNat 0 b.words.toNat) (.str s) (.int .i64 0) (.ref 3 0 0 0) (List.replicate b.funcs.length none) rfl (congrArg (fun es => some (AObj.row false 1 es)) (rowTab_none _).symm) (by simp) (by omega) hF0 (by rw [hnr0]; have := hone0.1; omega) (by rw [hnr0]; have := hone0.2.1; omega) rfl ⟨by decide, by decide, by omega⟩ (fun l hl => by rw [List.getElem?_replicate] at hl; split at hl <;> cases hl) (by rw [regO_rep]; (try simp only [hputs]); repeat (first | rfl | refine hput_skip (by exact beq_false_of_ne (by omega)) ?_)) rfl)) ?_
 refine ax 8 (o_alloc tok 6 rfl rfl z32q rfl (Nat.zero_lt_succ _) rfl) ?_
 refine AOps.w rfl rfl (o_store tok (es := [[.int .i64 0, .int .i64 0, .int .i64 0, .nil]]) rfl rfl rfl rfl rfl z32q rfl rfl rfl (by decide) (fr_cell1 _ _ _ _ _) (by intro h; cases h)) ?_
 refine AOps.nil ?_
 refine AGo.seq ?_
 refine AGo.region ?_
 refine aa 9 ?_
 refine AOps.nil ?_
 refine AGo.seq ?_
 refine AGo.ghost (.dry 9 7 4 false rfl rfl z32q (by decide)) ?_
 refine AGo.region ?_
 refine aa 10 ?_
 refine aa 11 ?_
 refine AOps.nil ?_
 refine AGo.seq ?_
 refine AGo.label ?_
 refine AGo.seq ?_
 refine AGo.block ?_
 refine AGo.loopK (γ := RGB) kap (fun r => ⟨147, (eput (eput (eput (eput (eput (eput (eput (eput (eput eNew 1 (.str s)) 2 (.int .i64 fuel)) 3 (.ptr 4 1 0 0)) 6 (.ptr 5 1 0 0)) 7 (.ptr 0 1 0 0)) 8 (.ptr 6 1 0 0)) 9 (.ref 7 r.es.length 0 r.q.above.length)) 10 (.int .i64 0)) 11 (.int .i64 (r.q.m.steps : Int))), (mAll b s r.q.m r.q.R r.q.now r.es)⟩) (fun r => RInvB b s (fuel0 fuel) (mfun b s (fuel0 fuel) b.funcs.length ((b.funcs.length : Int) - 1) (m0 b)) r) (fun r => fuel.toNat - r.q.m.steps) ⟨⟨⟨b.funcs.length - 1, 0, 0⟩, [], (List.replicate b.funcs.length none).set (b.funcs.length - 1) (some (List.replicate (nregs b (b.funcs.length - 1)) 0)), m0 b⟩, []⟩ (Sub.mk' z53q (mAll_first (mAll_sub z33q (by rw [show (m0 b).words = List.replicate b.words.toNat 0 from rfl, ← regCells_rep]; exact z33q) z33q z33q z33q z33q z33q z33q (fun g => by (try simp only [hputs]); repeat (refine hput_skip (by exact beq_false_of_ne (by omega)) ?_); exact ar_zero' (by simp; omega) (fun l hl => by rw [List.getElem?_replicate] at hl; split at hl <;> cases hl) (fun g => by rw [regO_rep]; repeat (first | rfl | refine hput_skip (by exact beq_false_of_ne (by omega)) ?_ | refine hrm_skip (by omega) ?_)) g)) (fun c h8 h15 => by (try simp only [hputs]); repeat (first | rfl | refine hput_skip (by exact beq_false_of_ne (by omega)) ?_ | refine hputO_skip (by omega) ?_ | refine hrm_skip (by omega) ?_)))) (RInvB.first hbr hF0) (fun r => mAll_free _ _ _ _ _ _) ?_
 intro r hRI
 have hI := hRI.inv
 obtain ⟨F, k, l, h1, h2, h3, h4, h5, h6, h7⟩ := hI.now.ex
 have hone := one_spec (hsp.2.2.2 _ F h1)
 have hnr := nregs_eq h1
 have hmx := hRI.max
 have hrln := hRI.len
 have hflt : r.q.now.f < r.q.R.length := (List.getElem?_eq_some_iff.1 h5).1
 have hinsl := hil F (List.mem_of_getElem? h1) k (List.mem_of_getElem? h2)
 refine AGo.block ?_
 refine AGo.seq ?_
 refine AGo.seq ?_
 refine AGo.region ?_
 refine am 33 ?_
 refine am 34 ?_
 refine aq 35 (q_bin rfl rfl rfl rfl) ?_
 refine AOps.nil ?_
 refine AGo.split 35 rfl (fun hb1 => ?_) (fun hb1 => ?_)
 ·
  refine AGo.cond_true true rfl rfl ?_
  let mE : Mach := r.q.m
  have hff : decide ((r.q.m.steps : Int) ≥ fuel0 fuel) = true := by rw [fuel0_ge]; exact hb1
  have hend := hRI.inv.noFuel hff
  refine AGo.seq ?_
  refine AGo.region ?_
  refine aa 10 ?_
  refine AOps.nil ?_
  refine AGo.exit ?_
  refine AGo.seq ?_
  refine AGo.ghost (.freezeCell 0 0 5 3 (es0 := [boxC (funcsAV b.funcs) (.ref 2 b.funcs.length 0 b.funcs.length) b.words.toNat s mE]) (es := byteCells mE.out) z32q rfl rfl z32q (by simp [byteCells]) (by decide)) ?_
  refine AGo.region ?_
  refine am 139 ?_
  refine am 140 ?_
  refine aq 141 (q_nilCheck rfl rfl rfl) ?_
  refine af 142 tok ?_
  refine al 143 tok ?_
  refine aq 144 (q_bytesStr (l := mE.out) tok rfl (by show some (AV.lst false _) = _; rw [List.drop_zero, List.take_of_length_le (by simp [byteCells])]) rfl rfl rfl rfl rfl rfl) ?_
  refine am 145 ?_
  refine aq 146 (q_build tok rfl rfl rfl rfl rfl (by decide) rfl rfl rfl) ?_
  refine AOps.w rfl rfl (o_store tok (es := [[.int .i64 0, .str ⟨#[]⟩, .int .i64 0]]) rfl rfl rfl rfl rfl z32q rfl rfl rfl (by decide) rfl (by intro h; cases h)) ?_
  refine AOps.nil ?_
  refine AGo.ret ?_
  refine ⟨[_], ⟨⟨_, _, _, _, rfl, rfl, .ptr _ _ _ _ _ _ [[_, _, _]] _ z32q rfl rfl, rfl⟩, trivial⟩, ?_, rfl⟩
  first | (rw [mrun_fuel hend]; rfl) | (rw [mrun_done hend hI.fin]; rfl) | (rw [mrun_err hend hz]; exact congrArg (fun n : Nat => AV.agg [.int .i64 (mone (fun _ m => m) s t l { r.q.m with steps := r.q.m.steps + 1 }).2.fin, .str ⟨(mone (fun _ m => m) s t l { r.q.m with steps := r.q.m.steps + 1 }).2.out.toArray⟩, .int .i64 (n : Int)]) hst.symm)
 ·
  refine AGo.cond_false false rfl rfl ?_
  have hff : decide ((r.q.m.steps : Int) ≥ fuel0 fuel) = false := by rw [fuel0_ge]; exact hb1
  have hlt : r.q.m.steps < fuel.toNat := by have h := hb1; simp at h; omega
  refine AGo.skip ?_
  refine AGo.seq ?_
  refine AGo.region ?_
  refine am 36 ?_
  refine aq 37 (q_inc rfl rfl hlt (by simp only [maxLen]; omega)) ?_
  refine aa 11 ?_
  refine AOps.nil ?_
  refine AGo.seq ?_
  refine AGo.draw mix ?_
  refine df 38 tok ?_
  refine dl 39 tok ?_
  refine df 40 tok ?_
  refine dl 41 tok ?_
  refine dq 42 (q_index_lst tok rfl rfl rfl rfl rfl rfl (Int.natCast_nonneg _) (idx_map h1) rfl) ?_
  refine df 43 tok ?_
  refine dl 44 tok ?_
  refine df 45 tok ?_
  refine dl 46 tok ?_
  refine dq 47 (q_index_lst tok rfl rfl rfl rfl rfl rfl h3 (idx_mapZ h2) rfl) ?_
  refine da 12 ?_
  refine DOps.nil (by kernel_rfl) ?_
  refine AGo.seq ?_
  refine AGo.seq ?_
  refine AGo.draw mix ?_
  refine df 48 tok ?_
  refine dl 49 tok ?_
  refine dm 50 ?_
  refine dq 51 (q_nilCheck rfl rfl rfl) ?_
  refine df 52 tok ?_
  refine dl 53 tok ?_
  refine dq 54 (q_len tok rfl rfl rfl rfl rfl) ?_
  refine dq 55 (q_bin rfl rfl rfl rfl) ?_
  refine DOps.nil (by kernel_rfl) ?_
  refine AGo.split 55 rfl (fun hb2 => ?_) (fun hb2 => ?_)
  ·
   refine AGo.cond_true true rfl rfl ?_
   have hat : r.q.now.at' < k.ins.length := by have h := hb2; simp at h; exact h
   obtain ⟨t, ht⟩ := get_of_lt hat
   have htm := List.mem_of_getElem? ht
   have htin := tacIn_of ((hone.2.2.2 k (List.mem_of_getElem? h2)).2 t htm)
   refine AGo.seq ?_
   refine AGo.draw mix ?_
   refine dm 56 ?_
   refine dq 57 (q_nilCheck rfl rfl rfl) ?_
   refine df 58 tok ?_
   refine dl 59 tok ?_
   refine df 60 tok ?_
   refine dl 61 tok ?_
   refine dq 62 (q_index_lst tok rfl rfl rfl rfl rfl rfl (Int.natCast_nonneg _) (idx_map ht) rfl) ?_
   refine da 13 ?_
   refine DOps.nil (by kernel_rfl) ?_
   refine AGo.seq ?_
   refine AGo.region ?_
   refine af 63 tok ?_
   refine al 64 tok ?_
   refine aq 65 (q_inc rfl rfl hat (by simp only [maxLen]; have hbig : k.ins.length ≤ 140737488355328 := hinsl; omega)) ?_
   refine af 66 tok ?_
   refine AOps.w rfl rfl (o_store tok rfl rfl rfl rfl rfl rfl rfl rfl rfl (by decide) rfl z61q) ?_
   refine AOps.nil ?_
   refine AGo.seq ?_
   refine AGo.seq ?_
   refine AGo.region ?_
   refine am 67 ?_
   refine aq 68 (q_nilCheck rfl rfl rfl) ?_
   refine af 69 tok ?_
   refine al 70 tok ?_
   refine aq 71 (q_bin rfl rfl rfl rfl) ?_
   refine AOps.nil ?_
   refine AGo.split 71 rfl (fun hb3 => ?_) (fun hb3 => ?_)
   ·
    refine AGo.cond_true true rfl rfl ?_
    have h10 : t.op = 10 := by simpa using hb3
    have hcb := right_calls hbr h1 k (List.mem_of_getElem? h2) t htm h10
    obtain ⟨f0, hf0⟩ : ∃ f0 : Nat, t.base = (f0 : Int) := ⟨t.base.toNat, by omega⟩
    have hf0l : f0 < b.funcs.length := by have := (List.getElem?_eq_some_iff.1 h1).1; omega
    obtain ⟨G, hG⟩ := get_of_lt hf0l
    have honeG := one_spec (hsp.2.2.2 _ G hG)
    have hnrG := nregs_eq hG
    have hf0R : f0 < r.q.R.length := by rw [hRI.inv.rl]; exact hf0l
    have hRl : ∀ l, r.q.R[f0]? = some (some l) → l.length = nregs b f0 := fun l hl => by rw [hnrG]; exact hRI.rl f0 G l hG hl
    have hR2 := RInvB.call hbr hRI h1 h2 ht hff h10 hf0 hG
    have hmu2 := mu_lessB hlt
    refine AGo.seq ?_
    refine AGo.region ?_
    refine am 72 ?_
    refine al 73 tok ?_
    refine ax 74 (o_litRow tok 8 false rfl rfl rfl rfl rfl rfl (by decide) rfl rfl rfl (by show (List.all [_] _) = true; simp only [List.all_cons, List.all_nil, Bool.and_true]; exact fr_cell1 _ _ _ _ _) (by intro h; cases h) rfl rfl) ?_
    refine ax 75 (o_push tok (es := r.es.map (frC b)) (cs2 := frC b ⟨r.q.now.f, r.q.now.blk, r.q.now.at' + 1⟩) rfl rfl rfl rfl rfl rfl rfl rfl rfl (by rw [List.length_map]) hRI.len rfl rfl (Nat.zero_lt_succ _) (.ref 8 1 0 1 false 4 [frC b ⟨r.q.now.f, r.q.now.blk, r.q.now.at' + 1⟩] (by (try simp only [hputs]); exact hput_same _ _ _) rfl) rfl (by intro h; cases h) (by rw [List.length_map]; show _ * 48 ≤ _; omega) (by rw [List.length_map]; simp only [maxLen]; omega)) ?_
    refine aa 9 ?_
    refine AOps.nil ?_
    refine AGo.region ?_
    refine am 76 ?_
    refine am 77 ?_
    refine aq 78 (q_nilCheck rfl rfl rfl) ?_
    refine af 79 tok ?_
    refine al 80 tok ?_
    refine AOps.call 81 rfl rfl rfl (o_callW rfl Try.func38 (by kernel_rfl) rfl rfl (enter_ok _ b G f0 b.funcs.length 9 (nregs b f0) (.ref 1 b.words.toNat 0 b.words.toNat) (.str s) (.int .i64 (r.q.m.read : Int)) (.ref 3 r.q.m.out.length 0 r.q.m.out.length) r.q.R rfl rfl hRI.inv.rl.symm hf0l hG (by rw [hnrG]; have := honeG.1; omega) (by rw [hnrG]; have := honeG.2.1; omega) z32q ⟨by decide, by decide, by omega⟩ hRl z47q hf0)) ?_
    refine AOps.w rfl rfl (o_store tok (es := [frC b ⟨r.q.now.f, r.q.now.blk, r.q.now.at' + 1⟩]) rfl rfl rfl rfl rfl z32q rfl rfl rfl (by decide) (fr_cell1 _ _ _ _ _) (by intro h; cases h)) ?_
    refine AOps.nil ?_
    refine AGo.exit ?_
    exact ⟨⟨⟨⟨f0, 0, 0⟩, r.q.above ++ [⟨r.q.now.f, r.q.now.blk, r.q.now.at' + 1⟩], r.q.R.set f0 (some (List.replicate (nregs b f0) 0)), { r.q.m with steps := r.q.m.steps + 1 }⟩, pushL r.es r.q.above.length ⟨r.q.now.f, r.q.now.blk, r.q.now.at' + 1⟩⟩, DropK.mk' z17q (mAll_drop (mAll_sub z33q z33q z33q z33q z33q z33q (by rw [show frC b ⟨f0, 0, 0⟩ = [.int .i64 t.base, .int .i64 0, .int .i64 0, regA (f0 + 16) (nregs b f0)] by rw [hf0]; rfl]; exact z33q) (by rw [pushL_map]; exact z33q) (fun g => by (try simp only [hputs]); repeat (refine hput_skip (by exact beq_false_of_ne (by omega)) ?_); exact ar_zero' hf0R hRl (fun g => by repeat (first | exact hg_at _ _ _ | refine hput_skip (by exact beq_false_of_ne (by omega)) ?_ | refine hrm_skip (by omega) ?_)) g))), hR2, hmu2⟩
   ·
    refine AGo.cond_false false rfl rfl ?_
    have h10 : t.op ≠ 10 := by simpa using hb3
    have hposn : 0 < nregs b r.q.now.f := by have := tac_regs htin h10; rw [hnr]; exact this
    have hMr2 : mAll b s r.q.m r.q.R r.q.now r.es (r.q.now.f + 16) = some (.row true 1 (regCells l)) := by unfold mAll; rw [hg_at, h5, Option.getD_some, regO_some (by rw [h6, ← hnr]; exact hposn)]
    have hmg := mone_good (call := fun _ m => m) (s := s) (fun _ _ h => h) t (hbw F (List.mem_of_getElem? h1) k (List.mem_of_getElem? h2) t htm) h7 (good_step hRI.inv.good)
    have hmlen := hmg.2.1
    have hlpos : 0 < l.length := by rw [h6, ← hnr]; exact hposn
    refine AGo.seq ?_
    refine AGo.region ?_
    refine am 82 ?_
    refine am 83 ?_
    refine af 84 tok ?_
    refine al 85 tok ?_
    refine AOps.call 86 rfl rfl rfl (o_callW rfl Try.func39 (by kernel_rfl) rfl rfl (do_ok' _ r.q.now.f b.words.toNat (nregs b r.q.now.f) r.q.now.f (funcsAV b.funcs) (.ref 2 b.funcs.length 0 b.funcs.length) s t l { r.q.m with steps := r.q.m.steps + 1 } (by rw [hnr]; exact htin) h7 (by rw [hnr, h6]) (good_step hRI.inv.good) hRI.inv.fin hw0 hs (hbw F (List.mem_of_getElem? h1) k (List.mem_of_getElem? h2) t (List.mem_of_getElem? ht)) h10 hposn z32q z32q z32q hMr2)) ?_
    refine aa 10 ?_
    refine AOps.nil ?_
    refine AGo.seq ?_
    refine AGo.region ?_
    refine am 87 ?_
    refine aq 88 (q_bin rfl rfl rfl rfl) ?_
    refine AOps.nil ?_
    refine AGo.split 88 rfl (fun hb4 => ?_) (fun hb4 => ?_)
    ·
     refine AGo.cond_true true rfl rfl ?_
     let mE : Mach := (mone (fun _ m => m) s t l { r.q.m with steps := r.q.m.steps + 1 }).2
     have hz : (mone (fun _ m => m) s t l { r.q.m with steps := r.q.m.steps + 1 }).2.fin ≠ 0 := by simpa using hb4
     have hst : (mone (fun _ m => m) s t l { r.q.m with steps := r.q.m.steps + 1 }).2.steps = r.q.m.steps + 1 := mone_nostep h10
     have hend := hRI.inv.insEnd h1 h2 ht h5 hff h10 hz
     refine AGo.exit ?_
     refine AGo.seq ?_
     refine AGo.ghost (.freezeCell 0 0 5 3 (es0 := [boxC (funcsAV b.funcs) (.ref 2 b.funcs.length 0 b.funcs.length) b.words.toNat s mE]) (es := byteCells mE.out) z32q rfl rfl z32q (by simp [byteCells]) (by decide)) ?_
     refine AGo.region ?_
     refine am 139 ?_
     refine am 140 ?_
     refine aq 141 (q_nilCheck rfl rfl rfl) ?_
     refine af 142 tok ?_
     refine al 143 tok ?_
     refine aq 144 (q_bytesStr (l := mE.out) tok rfl (by show some (AV.lst false _) = _; rw [List.drop_zero, List.take_of_length_le (by simp [byteCells])]) rfl rfl rfl rfl rfl rfl) ?_
     refine am 145 ?_
     refine aq 146 (q_build tok rfl rfl rfl rfl rfl (by decide) rfl rfl rfl) ?_
     refine AOps.w rfl rfl (o_store tok (es := [[.int .i64 0, .str ⟨#[]⟩, .int .i64 0]]) rfl rfl rfl rfl rfl z32q rfl rfl rfl (by decide) rfl (by intro h; cases h)) ?_
     refine AOps.nil ?_
     refine AGo.ret ?_
     refine ⟨[_], ⟨⟨_, _, _, _, rfl, rfl, .ptr _ _ _ _ _ _ [[_, _, _]] _ z32q rfl rfl, rfl⟩, trivial⟩, ?_, rfl⟩
     first | (rw [mrun_fuel hend]; rfl) | (rw [mrun_done hend hI.fin]; rfl) | (rw [mrun_err hend hz]; exact congrArg (fun n : Nat => AV.agg [.int .i64 (mone (fun _ m => m) s t l { r.q.m with steps := r.q.m.steps + 1 }).2.fin, .str ⟨(mone (fun _ m => m) s t l { r.q.m with steps := r.q.m.steps + 1 }).2.out.toArray⟩, .int .i64 (n : Int)]) hst.symm)
    ·
     refine AGo.cond_false false rfl rfl ?_
     have hz : (mone (fun _ m => m) s t l { r.q.m with steps := r.q.m.steps + 1 }).2.fin = 0 := by simpa using hb4
     have hst : (mone (fun _ m => m) s t l { r.q.m with steps := r.q.m.steps + 1 }).2.steps = r.q.m.steps + 1 := mone_nostep h10
     have hR2 := RInvB.ins hRI h1 h2 ht (hbw F (List.mem_of_getElem? h1) k (List.mem_of_getElem? h2) t htm) h5 hff h10 hz h6
     have hmu2 := mu_lessE hlt (mone_nostep (s := s) (t := t) (regs := l) (m := { r.q.m with steps := r.q.m.steps + 1 }) h10)
     refine AGo.skip ?_
     refine AGo.exit ?_
     exact ⟨⟨⟨⟨r.q.now.f, r.q.now.blk, r.q.now.at' + 1⟩, r.q.above, r.q.R.set r.q.now.f (some (mone (fun _ m => m) s t l { r.q.m with steps := r.q.m.steps + 1 }).1), (mone (fun _ m => m) s t l { r.q.m with steps := r.q.m.steps + 1 }).2⟩, r.es⟩, DropK.mk' z17q (mAll_drop (mAll_sub z33q z33q (by rw [rowTab_same h5 hmlen]; (try simp only [hputs]); repeat (first | exact hput_same _ _ _ | refine hput_skip (by first | rfl | exact beq_false_of_ne (by omega)) ?_ | rfl)) z33q z33q z33q z33q z33q (ar_set (h := mAll b s r.q.m r.q.R r.q.now r.es) hflt (by rw [hmlen]; omega) (by (try simp only [hputs]); exact hput_same _ _ _) (fun g hg => by simp only [hputs]; rw [hput_ne _ _ (by omega), hput_ne _ _ (by omega), hput_ne _ _ (by omega), hput_ne _ _ (by omega), hput_ne _ _ (by omega)]) (hg_at _ _)))), hR2, hmu2⟩
  ·
   refine AGo.cond_false false rfl rfl ?_
   have hat : k.ins.length ≤ r.q.now.at' := by have h := hb2; simp at h; exact h
   refine AGo.skip ?_
   refine AGo.seq ?_
   refine AGo.region ?_
   refine am 89 ?_
   refine aq 90 (q_nilCheck rfl rfl rfl) ?_
   refine af 91 tok ?_
   refine al 92 tok ?_
   refine AOps.nil ?_
   refine AGo.block ?_
   refine AGo.seq ?_
   refine AGo.region ?_
   refine aq 94 (q_bin rfl rfl rfl rfl) ?_
   refine aa 93 ?_
   refine AOps.nil ?_
   refine AGo.split 93 rfl (fun hb5 => ?_) (fun hb5 => ?_)
   ·
    refine AGo.cond_true true rfl rfl ?_
    have hf1 : k.fin = 1 := by simpa using hb5
    have hR2 := RInvB.jump hbr hRI h1 h2 hat h5 hff (by rw [hf1]; rfl) (next1 hf1 l)
    have hmu2 := mu_lessB hlt
    refine AGo.region ?_
    refine am 95 ?_
    refine aq 96 (q_nilCheck rfl rfl rfl) ?_
    refine af 97 tok ?_
    refine al 98 tok ?_
    refine af 99 tok ?_
    refine AOps.w rfl rfl (o_store tok rfl rfl rfl rfl rfl rfl rfl rfl rfl (by decide) rfl z61q) ?_
    refine af 100 tok ?_
    refine AOps.w rfl rfl (o_store tok rfl rfl rfl rfl rfl rfl rfl rfl rfl (by decide) rfl z61q) ?_
    refine AOps.nil ?_
    exact ⟨⟨⟨⟨r.q.now.f, k.to, 0⟩, r.q.above, r.q.R, { r.q.m with steps := r.q.m.steps + 1 }⟩, r.es⟩, DropK.mk' z17q (mAll_drop (mAll_sub z33q z33q z33q z33q z33q z33q z33q z33q (fun g => z47q))), hR2, hmu2⟩
   ·
    refine AGo.cond_false false rfl rfl ?_
    have hn1 : ¬ k.fin = 1 := by simpa using hb5
    refine AGo.seq ?_
    refine AGo.region ?_
    refine aq 102 (q_bin rfl rfl rfl rfl) ?_
    refine aa 101 ?_
    refine AOps.nil ?_
    refine AGo.split 101 rfl (fun hb6 => ?_) (fun hb6 => ?_)
    ·
     refine AGo.cond_true true rfl rfl ?_
     have hf2 : k.fin = 2 := by simpa using hb6
     have hv := ends_v (hone.2.2.2 k (List.mem_of_getElem? h2)).1 (by rw [hf2]; rfl)
     have hposn : 0 < nregs b r.q.now.f := by rw [hnr]; omega
     have hMr : mAll b s r.q.m r.q.R r.q.now r.es (r.q.now.f + 16) = some (.row true 1 (regCells l)) := by unfold mAll; rw [hg_at, h5, Option.getD_some, regO_some (by rw [h6, ← hnr]; exact hposn)]
     refine AGo.seq ?_
     refine AGo.region ?_
     refine am 103 ?_
     refine aq 104 (q_nilCheck rfl rfl rfl) ?_
     refine af 105 tok ?_
     refine al 106 tok ?_
     refine aa 14 ?_
     refine AOps.nil ?_
     refine AGo.seq ?_
     refine AGo.seq ?_
     refine AGo.draw mix ?_
     refine df 107 tok ?_
     refine dl 108 tok ?_
     refine dm 109 ?_
     refine dq 110 (q_nilCheck rfl rfl rfl) ?_
     refine df 111 tok ?_
     refine dl 112 tok ?_
     refine dq 113 (q_index_ref tok (es := regCells l) rfl (congrArg some (regA_pos hposn)) rfl rfl rfl rfl hMr (by rw [regCells_len, hnr, h6]) rfl hv.1 (by have := hv.2; omega)) ?_
     refine dq 114 (q_load tok rfl rfl rfl (.ptr _ _ _ _ _ _ (regCells l) _ hMr (by rw [regCells_len, hnr, h6]) (rcell (by have := hv; omega))) rfl) ?_
     refine dq 115 (q_bin rfl rfl rfl rfl) ?_
     refine DOps.nil (by kernel_rfl) ?_
     refine AGo.join (γ := Int) (fun to => ⟨147, (eput (eput (eput (eput (eput (eput (eput (eput (eput (eput eNew 1 (.str s)) 2 (.int .i64 fuel)) 3 (.ptr 4 1 0 0)) 6 (.ptr 5 1 0 0)) 7 (.ptr 0 1 0 0)) 8 (.ptr 6 1 0 0)) 9 (.ref 7 r.es.length 0 r.q.above.length)) 10 (.int .i64 0)) 11 (.int .i64 ((r.q.m.steps + 1 : Nat) : Int))) 14 (.int .i64 to)), (mAll b s r.q.m r.q.R r.q.now r.es)⟩) (fun to => k.next l = to) ?_ ?_
     ·
      refine AGo.split 115 rfl (fun hb7 => ?_) (fun hb7 => ?_)
      ·
       refine AGo.cond_true true rfl rfl ?_
       have hnx := next2t hf2 hb7
       refine AGo.region ?_
       refine am 116 ?_
       refine aq 117 (q_nilCheck rfl rfl rfl) ?_
       refine af 118 tok ?_
       refine al 119 tok ?_
       refine aa 14 ?_
       refine AOps.nil ?_
       exact ⟨k.to, Sub.mk' z53q z18q, hnx⟩
      ·
       refine AGo.cond_false false rfl rfl ?_
       have hnx := next2f hf2 hb7
       refine AGo.skip ?_
       exact ⟨k.els, Sub.mk' z53q z18q, hnx⟩
     intro to hnx
     refine AGo.region ?_
     have hR2 := RInvB.jump hbr hRI h1 h2 hat h5 hff (by rw [hf2]; rfl) hnx
     have hmu2 := mu_lessB hlt
     refine am 120 ?_
     refine af 121 tok ?_
     refine AOps.w rfl rfl (o_store tok rfl rfl rfl rfl rfl rfl rfl rfl rfl (by decide) rfl z61q) ?_
     refine af 122 tok ?_
     refine AOps.w rfl rfl (o_store tok rfl rfl rfl rfl rfl rfl rfl rfl rfl (by decide) rfl z61q) ?_
     refine AOps.nil ?_
     exact ⟨⟨⟨⟨r.q.now.f, to, 0⟩, r.q.above, r.q.R, { r.q.m with steps := r.q.m.steps + 1 }⟩, r.es⟩, DropK.mk' z17q (mAll_drop (mAll_sub z33q z33q z33q z33q z33q z33q z33q z33q (fun g => z47q))), hR2, hmu2⟩
    ·
     refine AGo.cond_false false rfl rfl ?_
     have hn2 : ¬ k.fin = 2 := by simpa using hb6
     refine AGo.seq ?_
     refine AGo.region ?_
     refine aq 124 (q_bin rfl rfl rfl rfl) ?_
     refine aa 123 ?_
     refine AOps.nil ?_
     refine AGo.split 123 rfl (fun hb8 => ?_) (fun hb8 => ?_)
     ·
      refine AGo.cond_true true rfl rfl ?_
      have hf3 : k.fin = 3 := by simpa using hb8
      refine AGo.seq ?_
      refine AGo.seq ?_
      refine AGo.region ?_
      refine am 125 ?_
      refine aq 126 (q_len tok rfl rfl rfl rfl rfl) ?_
      refine aq 127 (q_bin rfl rfl rfl rfl) ?_
      refine AOps.nil ?_
      refine AGo.split 127 rfl (fun hb9 => ?_) (fun hb9 => ?_)
      ·
       refine AGo.cond_true true rfl rfl ?_
       let mE : Mach := r.q.m
       have habe : r.q.above = [] := by have h := hb9; simp at h; exact h
       have hend := hRI.inv.done h1 h2 hat hff (by rw [hf3]; rfl) habe
       refine AGo.seq ?_
       refine AGo.region ?_
       refine aa 10 ?_
       refine AOps.nil ?_
       refine AGo.exit ?_
       refine AGo.seq ?_
       refine AGo.ghost (.freezeCell 0 0 5 3 (es0 := [boxC (funcsAV b.funcs) (.ref 2 b.funcs.length 0 b.funcs.length) b.words.toNat s mE]) (es := byteCells mE.out) z32q rfl rfl z32q (by simp [byteCells]) (by decide)) ?_
       refine AGo.region ?_
       refine am 139 ?_
       refine am 140 ?_
       refine aq 141 (q_nilCheck rfl rfl rfl) ?_
       refine af 142 tok ?_
       refine al 143 tok ?_
       refine aq 144 (q_bytesStr (l := mE.out) tok rfl (by show some (AV.lst false _) = _; rw [List.drop_zero, List.take_of_length_le (by simp [byteCells])]) rfl rfl rfl rfl rfl rfl) ?_
       refine am 145 ?_
       refine aq 146 (q_build tok rfl rfl rfl rfl rfl (by decide) rfl rfl rfl) ?_
       refine AOps.w rfl rfl (o_store tok (es := [[.int .i64 0, .str ⟨#[]⟩, .int .i64 0]]) rfl rfl rfl rfl rfl z32q rfl rfl rfl (by decide) rfl (by intro h; cases h)) ?_
       refine AOps.nil ?_
       refine AGo.ret ?_
       refine ⟨[_], ⟨⟨_, _, _, _, rfl, rfl, .ptr _ _ _ _ _ _ [[_, _, _]] _ z32q rfl rfl, rfl⟩, trivial⟩, ?_, rfl⟩
       first | (rw [mrun_fuel hend]; rfl) | (rw [mrun_done hend hI.fin]; rfl) | (rw [mrun_err hend hz]; exact congrArg (fun n : Nat => AV.agg [.int .i64 (mone (fun _ m => m) s t l { r.q.m with steps := r.q.m.steps + 1 }).2.fin, .str ⟨(mone (fun _ m => m) s t l { r.q.m with steps := r.q.m.steps + 1 }).2.out.toArray⟩, .int .i64 (n : Int)]) hst.symm)
      ·
       refine AGo.cond_false false rfl rfl ?_
       have hab : 0 < r.q.above.length := List.length_pos_iff.2 (by have h := hb9; simp at h; exact h)
       obtain ⟨fr, hfr⟩ := getLast_of hab
       have hfr2 := RInvB.top hRI hfr
       have hR2 := RInvB.ret hRI h1 h2 hat hff (by rw [hf3]; rfl) hfr
       have hmu2 := mu_lessB hlt
       refine AGo.skip ?_
       refine AGo.seq ?_
       refine AGo.region ?_
       refine am 128 ?_
       refine am 129 ?_
       refine aq 130 (q_len tok rfl rfl rfl rfl rfl) ?_
       refine aq 131 (q_bin (r := .int .i64 ((r.q.above.length - 1 : Nat) : Int)) rfl rfl rfl (len_pred hab (by omega))) ?_
       refine aq 132 (q_index_ref tok (es := r.es.map (frC b)) rfl rfl rfl rfl rfl rfl rfl (by rw [List.length_map]) rfl (Int.natCast_nonneg _) (by omega)) ?_
       refine aq 133 (q_load tok rfl rfl rfl (.ptr _ _ _ _ _ _ (r.es.map (frC b)) (frC b fr) rfl (by rw [List.length_map]) hfr2) rfl) ?_
       refine AOps.w rfl rfl (o_store tok (es := [frC b r.q.now]) rfl rfl rfl rfl rfl z32q rfl rfl rfl (by decide) (fr_cell1 _ _ _ _ _) (by intro h; cases h)) ?_
       refine AOps.nil ?_
       refine AGo.region ?_
       refine am 134 ?_
       refine am 135 ?_
       refine aq 136 (q_len tok rfl rfl rfl rfl rfl) ?_
       refine aq 137 (q_bin (r := .int .i64 ((r.q.above.length - 1 : Nat) : Int)) rfl rfl rfl (len_pred hab (by omega))) ?_
       refine aq 138 (q_slice_ref tok (es := r.es.map (frC b)) (m := r.q.above.length - 1) rfl rfl rfl rfl rfl rfl z32q (by rw [List.length_map]) rfl (by omega)) ?_
       refine aa 9 ?_
       refine AOps.nil ?_
       exact ⟨⟨⟨fr, r.q.above.dropLast, r.q.R, { r.q.m with steps := r.q.m.steps + 1 }⟩, r.es⟩, DropK.mk' z17q (mAll_drop (mAll_sub z33q z33q z33q z33q z33q z33q z33q z33q (fun g => z47q))), hR2, hmu2⟩
     ·
      refine AGo.cond_false false rfl rfl ?_
      have hn3 : ¬ k.fin = 3 := by simpa using hb8
      refine AGo.skip ?_
      exfalso
      have he := (hone.2.2.2 k (List.mem_of_getElem? h2)).1
      have := ends_three he
      omega

end Go.Proofs.Ytjmjmedjjbginaa.Sv

namespace Go.Proofs.Ytjmjmedjjbginaa.Sv
open Go

set_option maxHeartbeats 2000000 in
set_option maxRecDepth 100000 in
theorem deadRuns_ok (b : Blocks) (s : ByteArray) (hb : b.Ok) : APure Try.prog 8 [.agg b.cells, .str s] (fun r => r = .bool true) := by
 refine APure.of_body (n := 46) tok Try.func8 rfl rfl ?_
 refine AGo.seq ?_
 refine AGo.region ?_
 refine ax 2 (o_box (sz := 2) 0 rfl rfl rfl rfl (Nat.zero_lt_succ _) rfl) ?_
 refine aa 4 ?_
 refine AOps.nil ?_
 refine AGo.seq ?_
 refine AGo.seq ?_
 refine AGo.region ?_
 refine ax 7 (o_pure rfl Try.func9 (by kernel_rfl) rfl rfl rfl (alive32_ok)) ?_
 refine aq 8 (q_not rfl rfl) ?_
 refine AOps.nil ?_
 refine AGo.cond_false false rfl rfl ?_
 refine AGo.skip ?_
 refine AGo.seq ?_
 refine AGo.seq ?_
 refine AGo.region ?_
 refine al 9 tok ?_
 refine ax 10 (o_pure rfl Try.func19 (by kernel_rfl) rfl rfl rfl (small32_ok b hb)) ?_
 refine aq 11 (q_not rfl rfl) ?_
 refine am 12 ?_
 refine AOps.split 12 rfl (fun hb1 => ?_) (fun hb1 => ?_)
 ·
  refine ak 13 ?_
  refine ak 14 ?_
  refine ak 15 ?_
  refine aq 16 (q_pick_true true rfl rfl rfl rfl) ?_
  refine AOps.nil ?_
  refine AGo.cond_true true rfl rfl ?_
  refine AGo.seq ?_
  refine AGo.region ?_
  refine aa 4 ?_
  refine AOps.nil ?_
  refine AGo.ret ?_
  refine ⟨[_], ⟨rfl, trivial⟩, ?_, rfl⟩
  rfl
 ·
  have hS := small32_of (b := b) (by simpa using hb1)
  have hiw := small32_insW hb
  have hrun := run_dnf hS.r s 300
  refine am 13 ?_
  refine aq 14 (q_len tok rfl rfl rfl rfl rfl) ?_
  refine aq 15 (q_bin rfl rfl rfl rfl) ?_
  refine aq 16 (q_pick_false false rfl rfl rfl rfl) ?_
  refine AOps.nil ?_
  refine AGo.split 16 rfl (fun hb2 => ?_) (fun hb2 => ?_)
  ·
   refine AGo.cond_true true rfl rfl ?_
   refine AGo.seq ?_
   refine AGo.region ?_
   refine aa 4 ?_
   refine AOps.nil ?_
   refine AGo.ret ?_
   refine ⟨[_], ⟨rfl, trivial⟩, ?_, rfl⟩
   rfl
  ·
   refine AGo.cond_false false rfl rfl ?_
   have hsl : s.size ≤ 60 := by have h := hb2; simp at h; omega
   refine AGo.skip ?_
   refine AGo.seq ?_
   refine AGo.region ?_
   refine al 17 tok ?_
   refine am 18 ?_
   refine ax 19 (o_pure rfl Try.func24 (by kernel_rfl) rfl rfl rfl (blockRun_ok b s 300 hS.r hiw hS.bigs (by have := hS.n; omega) (by decide) (by omega))) ?_
   refine ax 5 (o_alloc tok 1 rfl rfl rfl rfl (Nat.zero_lt_succ _) rfl) ?_
   refine AOps.w rfl rfl (o_store tok rfl rfl rfl rfl rfl rfl rfl rfl rfl (by decide) rfl z61q) ?_
   refine AOps.nil ?_
   refine AGo.seq ?_
   refine AGo.seq ?_
   refine AGo.region ?_
   refine af 20 tok ?_
   refine al 21 tok ?_
   refine aq 22 (q_bin rfl rfl rfl rfl) ?_
   refine AOps.nil ?_
   refine AGo.split 22 rfl (fun hb3 => ?_) (fun hb3 => ?_)
   ·
    refine AGo.cond_true true rfl rfl ?_
    refine AGo.seq ?_
    refine AGo.region ?_
    refine aa 4 ?_
    refine AOps.nil ?_
    refine AGo.ret ?_
    refine ⟨[_], ⟨rfl, trivial⟩, ?_, rfl⟩
    rfl
   ·
    refine AGo.cond_false false rfl rfl ?_
    refine AGo.skip ?_
    refine AGo.seq ?_
    refine AGo.region ?_
    refine al 23 tok ?_
    refine ax 24 (o_pure rfl Try.func20 (by kernel_rfl) rfl rfl rfl (without32_ok b hS.f (by have := hS.n; omega))) ?_
    refine am 25 ?_
    refine ax 26 (o_pure rfl Try.func24 (by kernel_rfl) rfl rfl rfl (blockRun_ok b.dnf s 300 hS.dnf.r (dnf_insW hiw) hS.dnf.bigs (by have := hS.dnf.n; omega) (by decide) (by omega))) ?_
    refine ax 6 (o_alloc tok 2 rfl rfl rfl rfl (Nat.zero_lt_succ _) rfl) ?_
    refine AOps.w rfl rfl (o_store tok rfl rfl rfl rfl rfl rfl rfl rfl rfl (by decide) rfl z61q) ?_
    refine AOps.nil ?_
    refine AGo.seq ?_
    refine AGo.region ?_
    refine af 27 tok ?_
    refine al 28 tok ?_
    refine af 29 tok ?_
    refine al 30 tok ?_
    refine aq 31 (q_bin rfl rfl rfl rfl) ?_
    refine am 32 ?_
    refine AOps.split 32 rfl (fun hb4 => ?_) (fun hb4 => ?_)
    ·
     refine af 33 tok ?_
     refine al 34 tok ?_
     refine af 35 tok ?_
     refine al 36 tok ?_
     refine aq 37 (q_bin rfl rfl rfl rfl) ?_
     refine aq 38 (q_pick_true true rfl rfl rfl rfl) ?_
     refine am 39 ?_
     refine AOps.split 39 rfl (fun hb5 => ?_) (fun hb5 => ?_)
     ·
      refine af 40 tok ?_
      refine al 41 tok ?_
      refine af 42 tok ?_
      refine al 43 tok ?_
      refine aq 44 (q_bin rfl rfl rfl rfl) ?_
      refine aq 45 (q_pick_true true rfl rfl rfl rfl) ?_
      refine aa 4 ?_
      refine AOps.nil ?_
      refine AGo.ret ?_
      refine ⟨[_], ⟨rfl, trivial⟩, ?_, rfl⟩
      show AV.bool _ = AV.bool true
      first
      | rfl
      | (congr 1
         rcases hrun with h | ⟨h1, h2, h3⟩
         · first | (simp_all; done) | (exfalso; simp_all)
         · first | (simp_all; done) | (exfalso; simp_all))
     ·
      refine ak 40 ?_
      refine ak 41 ?_
      refine ak 42 ?_
      refine ak 43 ?_
      refine ak 44 ?_
      refine aq 45 (q_pick_false false rfl rfl rfl rfl) ?_
      refine aa 4 ?_
      refine AOps.nil ?_
      refine AGo.ret ?_
      refine ⟨[_], ⟨rfl, trivial⟩, ?_, rfl⟩
      show AV.bool _ = AV.bool true
      first
      | rfl
      | (congr 1
         rcases hrun with h | ⟨h1, h2, h3⟩
         · first | (simp_all; done) | (exfalso; simp_all)
         · first | (simp_all; done) | (exfalso; simp_all))
    ·
     refine ak 33 ?_
     refine ak 34 ?_
     refine ak 35 ?_
     refine ak 36 ?_
     refine ak 37 ?_
     refine aq 38 (q_pick_false false rfl rfl rfl rfl) ?_
     refine am 39 ?_
     refine ak 40 ?_
     refine ak 41 ?_
     refine ak 42 ?_
     refine ak 43 ?_
     refine ak 44 ?_
     refine aq 45 (q_pick_false false rfl rfl rfl rfl) ?_
     refine aa 4 ?_
     refine AOps.nil ?_
     refine AGo.ret ?_
     refine ⟨[_], ⟨rfl, trivial⟩, ?_, rfl⟩
     show AV.bool _ = AV.bool true
     first
     | rfl
     | (congr 1
        rcases hrun with h | ⟨h1, h2, h3⟩
        · first | (simp_all; done) | (exfalso; simp_all)
        · first | (simp_all; done) | (exfalso; simp_all))

end Go.Proofs.Ytjmjmedjjbginaa.Sv

namespace Go.Proofs.Ytjmjmedjjbginaa
open Go.ChangeShapes Go.WideShapes Go.ChangeAt Go.RowKit Sv
theorem okWide_cellS {P : Program} {W : World} {T : Nat → Option TyI} {t b0 : Nat} {v : Value} {i : TyI} (hT : TOk P T) (hi : T t = some i) (hk : i.k = .string) (h : Value.okWide P W .any b0 t v) : ∀ cs, v ≠ .agg cs := by
  obtain ⟨info, d, e1, e2, e3, e4, e5, e6⟩ := tyOf_spec (hT _ _ hi)
  have hd := tk_string (P := P) (d := d) (e3 ▸ hk)
  subst hd
  obtain ⟨s, rfl⟩ := okWide_string e2 h
  intro cs h
  cases h
section
variable {H : Type} {enc : TypeId × Value → H} {W : World}
theorem decStr : Dec enc Try.prog W 9 (fun s : ByteArray => [.str s]) (fun s => s.size ≤ maxLen ∧ s.size ≤ reachBytes) := Dec.string' tok rfl rfl
end
end Go.Proofs.Ytjmjmedjjbginaa

namespace Go.Proofs.Ytjmjmedjjbginaa
open Go.ChangeShapes Go.WideShapes Go.ChangeAt Go.RowKit Sv
set_option linter.unusedVariables false

set_option maxRecDepth 100000 in
theorem deadRuns_lifted (os : Os) (started : os.Started) (H : Type) (enc : TypeId × Value → H) :
    ReturnsInHanded {} Try.checked os 8 .any (Rows.deadRunsSpec.pre6 enc Try.prog Try.f8 Rows.deadRunsRow.domain false) (Rows.deadRunsSpec.post enc Try.prog Try.f8 false true false false) := by
  refine returnsInHanded_of_change_sized (C := Try.checked) own' started (by kernel_rfl) Try.func8
    (ChangeSpec.witness6 (enc := enc) (C := Try.checked) false ⟨#[], #[.agg #[.int .i64 0, .slice none 0 0], .string ⟨#[]⟩], []⟩ 8 (by kernel_rfl) (by kernel_rfl) (by kernel_rfl) (by kernel_rfl)) ?_
  intro W base args ds gs before hval0 hW hcnd hwt0 hh
  have hval : ∀ (j : Nat) t v, Try.f8.params[j]? = some t → args[j]? = some v → Value.okWide Try.prog W .any base t v := hval0
  have hW' := hW
  obtain ⟨p, q, hA0, hV, rfl, hfz, hnd⟩ := hW
  have hA : DataW.TrodAll enc Try.prog W 0 (fun _ => true) true Try.f8.params.toList args.toList ds p := hA0
  have hwt : (DataW.weightsEach Try.prog (Try.f8.params.toList ++ Rows.deadRunsSpec.plain.varTypes Try.prog) (ds ++ gs)).all (· ≤ reachBytes) = true := hwt0
  rw [Try.params8] at hA hval hwt
  obtain ⟨v0, vs0, d0, ds0, p0, q0, hargs, rfl, rfl, h0, r0⟩ := trodAll_cons hA
  obtain ⟨v1, vs1, d1, ds1, p1, q1, rfl, rfl, rfl, h1, r1⟩ := trodAll_cons r0
  obtain ⟨rfl, rfl, rfl⟩ := trodAll_nil r1
  obtain rfl : args = #[v0, v1] := by cases args; simp_all
  obtain ⟨rfl, rfl⟩ := trodVars_none hV
  obtain ⟨x0, e0, g0⟩ := arg_one h0 (weightsEach_get hwt (i := 0) rfl rfl) decBlocks
  obtain ⟨x1, e1, g1⟩ := arg_one h1 (weightsEach_get hwt (i := 1) rfl rfl) decStr
  exact law_calls laidOut' rfl (by kernel_rfl) rfl bool' rfl rfl rfl hW' (.cons (e0.val (okWide_agg tok rfl rfl (hval 0 45 v0 rfl rfl))) (.cons (e1.val1 (okWide_cellS tok rfl rfl (hval 1 9 v1 rfl rfl))) .nil)) (deadRuns_ok x0 x1 g0) (fun g l h => by cases h)

theorem deadRuns_holds : Rows.DeadRunsSaid :=
  OpenClaim.holds_of_wide 8 Try.f8 rfl rfl rfl rfl rfl rfl rfl ⟨rfl, rfl, rfl, rfl, rfl⟩ rfl rfl rfl rfl rfl (by kernel_rfl) Try.func8 (by kernel_rfl)
    (of_decide_eq_true (by kernel_rfl)) (by unfold Func.isWrapper; first | (rw [if_pos (by decide +kernel)]; kernel_rfl) | (rw [if_neg (by decide +kernel)]; exact ⟨rfl, rfl⟩))
    (fun os started H enc _ => deadRuns_lifted os started H enc)

end Go.Proofs.Ytjmjmedjjbginaa
