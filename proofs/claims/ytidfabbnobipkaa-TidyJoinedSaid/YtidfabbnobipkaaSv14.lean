/-
  REGIONS WHOSE ORDER IS DRAWN, the theorem; and the rules by which a region's chain is made: own work, over no program.
-/
import Derived.Test.YtidfabbnobipkaaSv13
namespace Go.Proofs.Ytidfabbnobipkaa.Sv
open Go
set_option linter.unusedVariables false
set_option linter.unusedSimpArgs false

section
variable {P : Program} {ops : Array Oper} {n : Nat}

/-- Which ones have come up, each with all that it waits for. -/
def Closed (ops : Array Oper) (L : Array Bool) : Prop := L.size = ops.size ∧ ∀ i, L.getD i false = true → ∀ o, ops[i]? = some o → ∀ e ∈ o.after, Region.binds .any e = true → L.getD e.on false = true

theorem getD_set {L : Array Bool} {j i : Nat} (hj : j < L.size) : (L.setIfInBounds j true).getD i false = (i == j || L.getD i false) := by
  by_cases h : i = j
  · subst h; simp [hj]
  · rw [getD_set_ne false (Ne.symm h)]
    simp [h]

theorem getD_true_false {L : Array Bool} {i : Nat} (hi : i < L.size) : L.getD i true = L.getD i false := by
  simp [hi]

/-- Not yet: how many. -/
def todo (L : Array Bool) : Nat := (L.toList.filter (!·)).length

theorem todo_set {L : Array Bool} {j : Nat} (hj : j < L.size) (h : L.getD j false = false) : todo L = todo (L.setIfInBounds j true) + 1 := by
  unfold todo
  rw [Array.toList_setIfInBounds]
  have hl : L.toList[j]? = some false := by
    rw [Array.getElem?_toList]
    simpa [hj] using h
  generalize L.toList = l at *
  clear h hj
  induction l generalizing j with
  | nil => simp at hl
  | cons x l ih =>
    cases j with
    | zero => simp at hl; subst hl; simp
    | succ j =>
      simp at hl
      have := ih hl
      cases x <;> simp [this]

theorem todo_zero {L : Array Bool} (h : todo L = 0) (i : Nat) (hi : i < L.size) : L.getD i false = true := by
  unfold todo at h
  have h1 : L.toList.filter (!·) = [] := List.eq_nil_of_length_eq_zero h
  rw [List.filter_eq_nil_iff] at h1
  have h2 := h1 L[i] (by simp)
  simp [hi]
  simpa using h2

theorem any_order {cs : List OpRec} {e0 e' : AEnv} {h0 h' : AHeap} {K : AState → Prop} (hchain : DChain P ops n ops.toList e0 h0 cs e' h') (hchk : chk ops (cs.map OpRec.sets) = true) (hK : K ⟨n, e', h'⟩)
    {H0 : Know} {ι0 : Lay} {w0 : World} (hr0 : HeapRel H0 ι0 h0 w0) :
    ∀ (fuel : Nat) (L : Array Bool) (H : Know) (ι : Lay) (a : Act) (w : World), Closed ops L → todo L ≤ fuel →
      Sim H ι ⟨n, merge (fun i => L.getD i false) (envUpds ops.toList cs) 0 e0, merge (fun i => L.getD i false) (heapUpds cs) 0 h0⟩ a w →
      Step H0 ι0 h0 w0 H ι (merge (fun i => L.getD i false) (heapUpds cs) 0 h0) w →
      wpAny P .any ops (Post H0 ι0 h0 w0 (Then K fun _ _ => False)) fuel L a w := by
  have hlen : cs.length = ops.size := by rw [hchain.length]; simp
  have hget : ∀ {i : Nat}, i < ops.size → ∃ o c, ops[i]? = some o ∧ ops.toList[i]? = some o ∧ cs[i]? = some c := fun {i} hi => by
    refine ⟨ops[i], cs[i]'(by omega), by simp [hi], by simp [hi], by simp [hlen, hi]⟩
  -- the end
  have hdone : ∀ (L : Array Bool) (H : Know) (ι : Lay) (a : Act) (w : World), Closed ops L → (∀ i, i < ops.size → L.getD i false = true) →
      Sim H ι ⟨n, merge (fun i => L.getD i false) (envUpds ops.toList cs) 0 e0, merge (fun i => L.getD i false) (heapUpds cs) 0 h0⟩ a w →
      Step H0 ι0 h0 w0 H ι (merge (fun i => L.getD i false) (heapUpds cs) 0 h0) w → Post H0 ι0 h0 w0 (Then K fun _ _ => False) .normal a w := fun L H ι a w hcl hall hs hst => by
    obtain ⟨r1, r2⟩ := hchain.end_ 0 (fun i => L.getD i false) (fun i hi => by rw [Nat.zero_add]; exact hall i (by omega))
    rw [← r1, ← r2] at hs
    rw [← r2] at hst
    exact ⟨_, H, ι, hK, hs, hst⟩
  -- if none may come up all have come up
  have hready : ∀ (L : Array Bool), Closed ops L → Region.ready .any ops L = [] → ∀ i, i < ops.size → L.getD i false = true := fun L hcl hre i => by
    induction i using Nat.strongRecOn with
    | _ i ih =>
      intro hi
      cases hb : L.getD i false with
      | true => rfl
      | false =>
        exfalso
        obtain ⟨o, c, g1, g2, g3⟩ := hget hi
        have : i ∈ Region.ready .any ops L := by
          rw [mem_ready]
          refine ⟨by rw [getD_true_false (by rw [hcl.1]; exact hi)]; exact hb, o, g1, fun e he hbd => ?_⟩
          have hlt := (chk_spec hchk g1 (by rw [List.getElem?_map, g3]; rfl)).1 e he hbd
          exact ih e.on hlt (by omega)
        rw [hre] at this
        cases this
  intro fuel
  induction fuel with
  | zero =>
    intro L H ι a w hcl hf hs hst
    have hall := fun i hi => todo_zero (Nat.le_zero.1 hf) i (by rw [hcl.1]; exact hi)
    refine ⟨?_, hdone L H ι a w hcl hall hs hst⟩
    rw [List.eq_nil_iff_forall_not_mem]
    intro i hi
    obtain ⟨k1, o, k2, _⟩ := mem_ready.1 hi
    have hlt : i < ops.size := (Array.getElem?_eq_some_iff.1 k2).1
    rw [getD_true_false (by rw [hcl.1]; exact hlt), hall i hlt] at k1
    cases k1
  | succ fuel ih =>
    intro L H ι a w hcl hf hs hst
    refine ⟨fun hre => hdone L H ι a w hcl (hready L hcl hre) hs hst, fun j hj => ?_⟩
    obtain ⟨k1, o, k2, k3⟩ := mem_ready.1 hj
    have hlt : j < ops.size := (Array.getElem?_eq_some_iff.1 k2).1
    have hLj : L.getD j false = false := by rw [← getD_true_false (by rw [hcl.1]; exact hlt)]; exact k1
    obtain ⟨o', c, g1, g2, g3⟩ := hget hlt
    rw [k2] at g1; cases g1
    obtain ⟨c1, c2, c3⟩ := hchain.at_ 0 g2 g3
    simp only [Nat.zero_add] at c2 c3
    obtain ⟨ok1, ok2, ok3, ok4⟩ := c1
    -- who shares something with j has come up just if it stands ahead
    have hord : ∀ i oi ci, i ≠ j → ops[i]? = some oi → cs[i]? = some ci → (oi.apart ops o = true ∧ slotsApart ci.sets c.sets = true → False) → (o.apart ops oi = true ∧ slotsApart c.sets ci.sets = true → False) → L.getD i false = decide (i < j) := fun i oi ci hne h1 h2 hna hna' => by
      rcases Nat.lt_or_gt_of_ne hne with hij | hij
      · have := (chk_spec hchk k2 (by rw [List.getElem?_map, g3]; rfl)).2 i oi ci.sets hij h1 (by rw [List.getElem?_map, h2]; rfl)
        rcases this with hpath | hap
        · have := hasPath_spec (U := fun i => L.getD i false = true) (fun x ox hx hox e he hb => hcl.2 x hx ox hox e he hb) 24 o hpath k3
          rw [this]; simp [hij]
        · exact (hna hap).elim
      · have := (chk_spec hchk h1 (by rw [List.getElem?_map, h2]; rfl)).2 j o c.sets hij k2 (by rw [List.getElem?_map, g3]; rfl)
        rcases this with hpath | hap
        · cases hL : L.getD i false with
          | false => simp; omega
          | true =>
            have := hasPath_spec (U := fun i => L.getD i false = true) (fun x ox hx hox e he hb => hcl.2 x hx ox hox e he hb) 24 oi hpath (fun e he hb => hcl.2 i hL oi h1 e he hb)
            rw [hLj] at this
            cases this
        · exact (hna' hap).elim
    have hcls : Closed ops (L.setIfInBounds j true) := by
      have hjL : j < L.size := by rw [hcl.1]; exact hlt
      refine ⟨by simp [hcl.1], fun i hi oi h1 e he hb => ?_⟩
      rw [getD_set hjL] at hi ⊢
      by_cases hij : i = j
      · subst hij
        rw [k2] at h1; cases h1
        rw [k3 e he hb]; simp
      · have : L.getD i false = true := by simpa [hij] using hi
        rw [hcl.2 i this oi h1 e he hb]; simp
    have htodo : todo (L.setIfInBounds j true) ≤ fuel := by
      have := todo_set (by rw [hcl.1]; exact hlt) hLj
      omega
    have hLL : (fun i => (L.setIfInBounds j true).getD i false) = fun i => (i == j || L.getD i false) := funext fun i => getD_set (by rw [hcl.1]; exact hlt)
    have hwrE : ∀ {i : Nat} {u : Upd (Option AV)}, (envUpds ops.toList cs)[i]? = some u → ∃ oi ci, ops[i]? = some oi ∧ cs[i]? = some ci ∧ u = envUpd oi.dst ci.r := fun h => by
      obtain ⟨oi, ci, q1, q2, q3⟩ := envUpds_get h
      exact ⟨oi, ci, by simpa using q1, q2, q3⟩
    -- the state behind it
    have hE : merge (fun i => (L.setIfInBounds j true).getD i false) (envUpds ops.toList cs) 0 e0 = eupd (merge (fun i => L.getD i false) (envUpds ops.toList cs) 0 e0) o.dst c.r := by
      rw [hLL]
      refine merge_add (envUpds_at g2 g3) (fun i => rfl) (fun x hx i v hi hv hw => ?_)
      obtain ⟨oi, ci, q1, q2, rfl⟩ := hwrE hv
      have hd1 : o.dst = some x := by simpa [envUpd] using hx
      have hd2 : oi.dst = some x := by simpa [envUpd] using hw
      have hd : L.getD i false = decide (i < j) := hord i oi ci (by omega) q1 q2 (fun hap => (Oper.apart_spec hap.1).2.1 x hd2 hd1) (fun hap => (Oper.apart_spec hap.1).2.1 x hd1 hd2)
      show L.getD i false = false
      rw [hd]; simp; omega
    have hHp : merge (fun i => (L.setIfInBounds j true).getD i false) (heapUpds cs) 0 h0 = hputs (merge (fun i => L.getD i false) (heapUpds cs) 0 h0) c.W := by
      rw [hLL]
      refine merge_add (heapUpds_at g3) (fun i => rfl) (fun x hx i v hi hv hw => ?_)
      obtain ⟨ci, q2, rfl⟩ := heapUpds_get hv
      have hil : i < ops.size := by rw [← hlen]; exact (List.getElem?_eq_some_iff.1 q2).1
      obtain ⟨oi, _, q1, _, _⟩ := hget hil
      have hno : ∀ (s1 s2 : OpRec), (s1.W.map (·.1)).contains x = true → (s2.W.map (·.1)).contains x = true → slotsApart s1.sets s2.sets = true → False := fun s1 s2 h1 h2 hap => by
        simp only [slotsApart, OpRec.sets, Bool.and_eq_true, List.all_eq_true] at hap
        have := hap.1 x (by simpa using h1)
        rw [h2] at this
        simp at this
      have hd : L.getD i false = decide (i < j) := hord i oi ci (by omega) q1 q2 (fun hap => hno ci c hw hx hap.2) (fun hap => hno c ci hx hw hap.2)
      show L.getD i false = false
      rw [hd]; simp; omega
    -- what it looks at is as in the order of the text
    have hlook : ∀ t ∈ o.looksAt ops, merge (fun i => L.getD i false) (envUpds ops.toList cs) 0 e0 t = c.e t := fun t ht => by
      rw [c2]
      refine merge_congr rfl fun i u hu hw => ?_
      obtain ⟨oi, ci, q1, q2, rfl⟩ := hwrE hu
      have hd : oi.dst = some t := by simpa [envUpd] using hw
      rw [Nat.zero_add]
      by_cases hij : i = j
      · subst hij; rw [hLj]; simp
      · exact hord i oi ci hij q1 q2 (fun hap => (Oper.apart_spec hap.1).1 t hd ht) (fun hap => (Oper.apart_spec hap.1).2.2 t hd ht)
    have hslots : ∀ b ∈ c.R, merge (fun i => L.getD i false) (heapUpds cs) 0 h0 b = c.h b := fun b hb => by
      rw [c3]
      refine merge_congr rfl fun i u hu hw => ?_
      obtain ⟨ci, q2, rfl⟩ := heapUpds_get hu
      have hil : i < ops.size := by rw [← hlen]; exact (List.getElem?_eq_some_iff.1 q2).1
      obtain ⟨oi, _, q1, _, _⟩ := hget hil
      rw [Nat.zero_add]
      by_cases hij : i = j
      · subst hij; rw [hLj]; simp
      · refine hord i oi ci hij q1 q2 (fun hap => ?_) (fun hap => ?_)
        · have h2 := hap.2
          simp only [slotsApart, OpRec.sets, Bool.and_eq_true, List.all_eq_true] at h2
          have := h2.1 b (by simpa [heapUpd] using hw)
          have hb' : c.R.contains b = true := by simpa using hb
          rw [hb'] at this
          simp at this
        · have h2 := hap.2
          simp only [slotsApart, OpRec.sets, Bool.and_eq_true, List.all_eq_true] at h2
          have := h2.2 b (by simpa [heapUpd] using hw)
          have hb' : c.R.contains b = true := by simpa using hb
          rw [hb'] at this
          simp at this
    have hguard : guardIs ops o (merge (fun i => L.getD i false) (envUpds ops.toList cs) 0 e0) = some c.run := by
      rw [← ok1]
      unfold guardIs
      cases eg : o.guard with
      | none => rfl
      | some gw =>
        obtain ⟨g, want⟩ := gw
        simp only
        cases ed : (ops[g]?).bind (·.dst) with
        | none => rfl
        | some d => simp only [hlook d (by simp [Oper.looksAt, eg, ed])]
    have hopnd : ∀ x ∈ o.op.operands, look (merge (fun i => L.getD i false) (envUpds ops.toList cs) 0 e0) x = look c.e x := fun x hx => by
      cases x with
      | tmp t => exact hlook t (by unfold Oper.looksAt; exact List.mem_append_left _ (List.mem_filterMap.2 ⟨.tmp t, by simpa using hx, rfl⟩))
      | _ => rfl
    have hrL := hs.heap
    unfold wpOp
    rw [k2]
    simp only
    rw [guard_wanted hs hguard]
    cases hrun : c.run with
    | true =>
      simp only [if_true]
      refine .inl (Oper.wp_mono (fun a' w' hx => ?_) (ok3 hrun H ι a w _ _ hs hopnd hslots))
      obtain ⟨v, H', ι', rfl, z1, z2, z3⟩ := hx
      refine ih _ H' ι' _ w' hcls htodo ?_ ?_
      · rw [hE, hHp]; exact hs.put z2 z3 z1 ok2
      · rw [hHp]; exact hst.trans hr0 hrL z3
    | false =>
      simp only [Bool.false_eq_true, if_false]
      obtain ⟨hw0, hr00⟩ := ok4 hrun
      refine ih _ H ι _ w hcls htodo ?_ ?_
      · rw [hE, hHp, hw0]
        rcases hr00 with hr00 | hr00
        · rw [hr00]; exact hs.del ok2
        · rw [hr00]; exact hs.put hs.heap (Step.refl _ _ _ _) (fun x e => by cases e; exact .tup _ _ _ rfl (fun j x v h => by simp at h)) ok2
      · rw [hHp, hw0]; exact hst

def DOps (P : Program) (ops : Array Oper) (n : Nat) (l : List Oper) (e : AEnv) (h : AHeap) (acc : List (List Nat × List Nat)) (K : AState → Prop) : Prop :=
  ∃ cs e' h', DChain P ops n l e h cs e' h' ∧ chk ops (acc ++ cs.map OpRec.sets) = true ∧ K ⟨n, e', h'⟩

theorem AGo.draw {id : Nat} {Q : Exit → AState → Prop} {e : AEnv} {h : AHeap} (hm : P.follows .mixedOrders = true) (hd : DOps P ops n ops.toList e h [] (fun s' => Q .normal s')) : AGo P (.region id ops true) ⟨n, e, h⟩ Q := by
  intro H ι a w hs
  obtain ⟨cs, e', h', h1, h2, h3⟩ := hd
  refine wp_region_any hm ?_
  have hpost : ∀ e a2 w2, Post H ι h w (Then (fun s' => Q .normal s') fun _ _ => False) e a2 w2 → Post H ι h w Q e a2 w2 := fun e a2 w2 hp => by
    obtain ⟨s', H', ι', q, r⟩ := hp
    cases e <;> first | exact ⟨s', H', ι', q, r⟩ | exact q.elim
  have hgrow : ∀ rb, rb < w.heap.size → ({ w with drawn := w.drawn + 1 } : World).heap[rb]? = w.heap[rb]? := fun _ _ => rfl
  have hr' : HeapRel H ι h { w with drawn := w.drawn + 1 } := hs.heap.grow hgrow
  have hst : Step H ι h w H ι h { w with drawn := w.drawn + 1 } := Step.grow hgrow (Nat.le_refl _) rfl rfl
  have hL0 : ∀ i, (Array.replicate ops.size false).getD i false = false := fun i => by
    by_cases hi : i < ops.size
    · simp [hi]
    · simp [hi]
  have hm0 : ∀ {V : Type} (l : List (Upd V)) (g : Nat → V), merge (fun i => (Array.replicate ops.size false).getD i false) l 0 g = g := fun l g => funext fun x => merge_skip fun i u _ _ => hL0 _
  have := any_order (K := fun s' => Q .normal s') h1 (by simpa using h2) h3 hs.heap ops.size (Array.replicate ops.size false) H ι a { w with drawn := w.drawn + 1 }
    ⟨by simp, fun i hi => by rw [hL0] at hi; cases hi⟩ (by unfold todo; simp) (by rw [hm0, hm0]; exact ⟨hs.n, hs.d, hs.env, hr'⟩) (by rw [hm0]; exact hst)
  clear h1 h2 h3
  -- the post, weakened
  have key : ∀ (fuel : Nat) (L : Array Bool) (a1 : Act) (w1 : World), wpAny P .any ops (Post H ι h w (Then (fun s' => Q .normal s') fun _ _ => False)) fuel L a1 w1 → wpAny P .any ops (Post H ι h w Q) fuel L a1 w1 := by
    intro fuel
    induction fuel with
    | zero => exact fun L a1 w1 hx => ⟨hx.1, hpost _ _ _ hx.2⟩
    | succ fuel ih =>
      intro L a1 w1 hx
      refine ⟨fun h0 => hpost _ _ _ (hx.1 h0), fun i hi => ?_⟩
      have h1 := hx.2 i hi
      unfold wpOp at h1 ⊢
      cases ho : ops[i]? with
      | none => rw [ho] at h1; exact ih _ _ _ h1
      | some o =>
        rw [ho] at h1
        simp only at h1 ⊢
        by_cases hw : Region.wanted o (yielded ops a1.tmps) = true
        · rw [if_pos hw] at h1 ⊢
          rcases h1 with hp | ⟨hp1, a2, w2, hp2⟩
          · refine .inl ?_
            have hp' := Oper.wp_mono (fun a2 w2 => ih _ a2 w2) hp
            clear hp
            unfold Oper.wp at hp' ⊢
            generalize (execOp a1.eval o).run P w1 = res at hp' ⊢
            cases res with
            | ok n w3 =>
              cases n <;> simp only [Oper.upon] at hp' ⊢ <;> first
                | exact hp'
                | exact Calls.mono hp' (fun e w4 he => by cases e <;> first | exact he | exact hpost _ _ _ he | (obtain ⟨a3, w5, hp3⟩ := he; exact ⟨a3, w5, hpost _ _ _ hp3⟩))
            | halt x w3 => cases x <;> simp only [Oper.upon] at hp' ⊢ <;> first | exact hpost _ _ _ hp' | exact hp'
          · exact .inr ⟨hp1, a2, w2, hpost _ _ _ hp2⟩
        · rw [if_neg hw] at h1 ⊢
          exact ih _ _ _ h1
  exact key _ _ _ _ this

variable {o : Oper} {rest : List Oper} {e : AEnv} {h : AHeap} {acc : List (List Nat × List Nat)} {K : AState → Prop}

theorem DOps.nil (hc : chk ops acc = true) (hk : K ⟨n, e, h⟩) : DOps P ops n [] e h acc K := ⟨[], e, h, ⟨rfl, rfl⟩, by simpa using hc, hk⟩

theorem DOps.step' {R : List Nat} {W : List (Nat × AObj)} {r : Option AV} (hg : guardIs ops o e = some true) (ho : OLoc P o e h R W r) (hd : ∀ t, o.dst = some t → t < n) (hr : DOps P ops n rest (eupd e o.dst r) (hputs h W) (acc ++ [(R, W.map (·.1))]) K) :
    DOps P ops n (o :: rest) e h acc K := by
  obtain ⟨cs, e', h', h1, h2, h3⟩ := hr
  exact ⟨⟨e, h, true, R, W, r⟩ :: cs, e', h', ⟨rfl, rfl, ⟨hg, hd, fun _ => ho, fun h => by cases h⟩, h1⟩, by simpa [OpRec.sets] using h2, h3⟩
theorem DOps.skip' (hg : guardIs ops o e = some false) (hd : ∀ t, o.dst = some t → t < n) (hr : DOps P ops n rest (eupd e o.dst none) h (acc ++ [([], [])]) K) : DOps P ops n (o :: rest) e h acc K := by
  obtain ⟨cs, e', h', h1, h2, h3⟩ := hr
  exact ⟨⟨e, h, false, [], [], none⟩ :: cs, e', h', ⟨rfl, rfl, ⟨hg, hd, (fun h => by cases h), fun _ => ⟨rfl, .inl rfl⟩⟩, h1⟩, by simpa [OpRec.sets] using h2, h3⟩
theorem DOps.skip2' (hg : guardIs ops o e = some false) (hd : ∀ t, o.dst = some t → t < n) (hr : DOps P ops n rest (eupd e o.dst (some (.tup []))) h (acc ++ [([], [])]) K) : DOps P ops n (o :: rest) e h acc K := by
  obtain ⟨cs, e', h', h1, h2, h3⟩ := hr
  exact ⟨⟨e, h, false, [], [], some (.tup [])⟩ :: cs, e', h', ⟨rfl, rfl, ⟨hg, hd, (fun h => by cases h), fun _ => ⟨rfl, .inr rfl⟩⟩, h1⟩, by simpa [OpRec.sets] using h2, h3⟩

/-! ### the rules in the form in which they are used: s: a quiet one, e: one that also changes the heap, k: one that isn't wanted; D: where the order is drawn -/
theorem lt_of {d n : Nat} {o : Oper} (hd : o.dst = some d) (h : Nat.blt d n = true) : ∀ t, o.dst = some t → t < n := fun t e => by rw [hd] at e; cases e; rwa [Nat.blt_eq] at h
theorem lt_none {n : Nat} {o : Oper} (hd : o.dst = none) : ∀ t, o.dst = some t → t < n := fun t e => by rw [hd] at e; cases e

theorem AOps.s (d : Nat) {R : List Nat} {r : AV} (hd : o.dst = some d) (hb : Nat.blt d n = true) (hg : guardIs ops o e = some true) (hq : QLoc P o e h R r) (hr : AOps P ops rest ⟨n, eput e d r, h⟩ K) : AOps P ops (o :: rest) ⟨n, e, h⟩ K :=
  AOps.step' hg hq.loc (lt_of hd hb) (by rw [hd]; exact hr)
theorem AOps.x (d : Nat) {R : List Nat} {W : List (Nat × AObj)} {r : AV} (hd : o.dst = some d) (hb : Nat.blt d n = true) (hg : guardIs ops o e = some true) (hq : OLoc P o e h R W (some r)) (hr : AOps P ops rest ⟨n, eput e d r, hputs h W⟩ K) : AOps P ops (o :: rest) ⟨n, e, h⟩ K :=
  AOps.step' hg hq (lt_of hd hb) (by rw [hd]; exact hr)
theorem AOps.w {R : List Nat} {W : List (Nat × AObj)} {r : Option AV} (hd : o.dst = none) (hg : guardIs ops o e = some true) (hq : OLoc P o e h R W r) (hr : AOps P ops rest ⟨n, e, hputs h W⟩ K) : AOps P ops (o :: rest) ⟨n, e, h⟩ K :=
  AOps.step' hg hq (lt_none hd) (by rw [hd]; exact hr)
theorem AOps.k (d : Nat) (hd : o.dst = some d) (hb : Nat.blt d n = true) (hg : guardIs ops o e = some false) (hr : AOps P ops rest ⟨n, eput e d (.tup []), h⟩ K) : AOps P ops (o :: rest) ⟨n, e, h⟩ K :=
  AOps.skip2 hg (lt_of hd hb) (by rw [hd]; exact hr)
theorem DOps.s (d : Nat) {R : List Nat} {r : AV} (hd : o.dst = some d) (hb : Nat.blt d n = true) (hg : guardIs ops o e = some true) (hq : QLoc P o e h R r) (hr : DOps P ops n rest (eput e d r) h (acc ++ [(R, [])]) K) : DOps P ops n (o :: rest) e h acc K :=
  DOps.step' hg hq.loc (lt_of hd hb) (by rw [hd]; exact hr)
theorem DOps.x (d : Nat) {R : List Nat} {W : List (Nat × AObj)} {r : AV} (hd : o.dst = some d) (hb : Nat.blt d n = true) (hg : guardIs ops o e = some true) (hq : OLoc P o e h R W (some r)) (hr : DOps P ops n rest (eput e d r) (hputs h W) (acc ++ [(R, W.map (·.1))]) K) : DOps P ops n (o :: rest) e h acc K :=
  DOps.step' hg hq (lt_of hd hb) (by rw [hd]; exact hr)
theorem DOps.w {R : List Nat} {W : List (Nat × AObj)} {r : Option AV} (hd : o.dst = none) (hg : guardIs ops o e = some true) (hq : OLoc P o e h R W r) (hr : DOps P ops n rest e (hputs h W) (acc ++ [(R, W.map (·.1))]) K) : DOps P ops n (o :: rest) e h acc K :=
  DOps.step' hg hq (lt_none hd) (by rw [hd]; exact hr)
theorem DOps.k (d : Nat) (hd : o.dst = some d) (hb : Nat.blt d n = true) (hg : guardIs ops o e = some false) (hr : DOps P ops n rest (edel e d) h (acc ++ [([], [])]) K) : DOps P ops n (o :: rest) e h acc K :=
  DOps.skip' hg (lt_of hd hb) (by rw [hd]; exact hr)
theorem DOps.u (d : Nat) (hd : o.dst = some d) (hb : Nat.blt d n = true) (hg : guardIs ops o e = some false) (hr : DOps P ops n rest (eput e d (.tup [])) h (acc ++ [([], [])]) K) : DOps P ops n (o :: rest) e h acc K :=
  DOps.skip2' hg (lt_of hd hb) (by rw [hd]; exact hr)

/-- A truth value that isn't known: both ways. -/
theorem AOps.split (d : Nat) {b : Bool} {l : List Oper} (he : e d = some (.bool b)) (h1 : b = true → AOps P ops l ⟨n, eput e d (.bool true), h⟩ K) (h2 : b = false → AOps P ops l ⟨n, eput e d (.bool false), h⟩ K) : AOps P ops l ⟨n, e, h⟩ K := by
  have key : ∀ c, b = c → eput e d (.bool c) = e := fun c hc => by
    subst hc
    funext t
    by_cases ht : t = d
    · subst ht; rw [eput_same, he]
    · rw [eput_ne _ _ ht]
  cases b with
  | true => have := h1 rfl; rwa [key true rfl] at this
  | false => have := h2 rfl; rwa [key false rfl] at this
theorem DOps.split (d : Nat) {b : Bool} {l : List Oper} (he : e d = some (.bool b)) (h1 : b = true → DOps P ops n l (eput e d (.bool true)) h acc K) (h2 : b = false → DOps P ops n l (eput e d (.bool false)) h acc K) : DOps P ops n l e h acc K := by
  have key : ∀ c, b = c → eput e d (.bool c) = e := fun c hc => by
    subst hc
    funext t
    by_cases ht : t = d
    · subst ht; rw [eput_same, he]
    · rw [eput_ne _ _ ht]
  cases b with
  | true => have := h1 rfl; rwa [key true rfl] at this
  | false => have := h2 rfl; rwa [key false rfl] at this

end
end Go.Proofs.Ytidfabbnobipkaa.Sv
