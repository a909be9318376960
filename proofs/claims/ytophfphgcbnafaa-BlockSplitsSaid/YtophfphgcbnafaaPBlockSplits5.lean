/-
  THE MEMORY OF THE PROGRAM'S OWN MACHINE: the rows of registers have the numbers from 16 on: own work, over no program.
  ROUNDS OF THE PROGRAM'S OWN MACHINE, IN PLAIN LEAN: own work, over no program.
  WALKS: printed by a program of our own from the code's tree.
  WALKS: printed by a program of our own from the code's tree.
  WALKS: printed by a program of our own from the code's tree.
  WALKS: printed by a program of our own from the code's tree.
-/
import Derived.Test.YtophfphgcbnafaaPBlockSplits2
import Derived.Test.YtophfphgcbnafaaPBlockSplits4
namespace Go.Proofs.Ytophfphgcbnafaa.Sv
open Go
set_option linter.unusedVariables false
set_option linter.unusedSimpArgs false

def regO : Option (List Int) → AObj
  | some (x :: l) => .row true 1 (regCells (x :: l))
  | _ => .free
def hg (base : AHeap) (R : List (Option (List Int))) : AHeap := fun c => bif Nat.ble 16 c then some (regO ((R[c - 16]?).getD none)) else base c
theorem hg_at (base : AHeap) (R : List (Option (List Int))) (g : Nat) : hg base R (g + 16) = some (regO ((R[g]?).getD none)) := by
  unfold hg
  have : Nat.ble 16 (g + 16) = true := Nat.ble_eq.mpr (by omega)
  rw [this, Nat.add_sub_cancel]; rfl
theorem hg_lo (base : AHeap) (R : List (Option (List Int))) {c : Nat} (h : c < 16) : hg base R c = base c := by
  unfold hg
  have : Nat.ble 16 c = false := by
    cases e : Nat.ble 16 c with
    | false => rfl
    | true => have := Nat.ble_eq.mp e; omega
  rw [this]; rfl
def tabC (R : List (Option (List Int))) (f : Nat) : List AV := match (R[f]?).getD none with
  | some l => [regA (f + 16) l.length]
  | none => [.nil]
def rowTab (R : List (Option (List Int))) : List (List AV) := (List.range R.length).map (tabC R)
theorem rowTab_length (R : List (Option (List Int))) : (rowTab R).length = R.length := by simp [rowTab]
theorem rowTab_get {R : List (Option (List Int))} {f : Nat} (h : f < R.length) : (rowTab R)[f]? = some (tabC R f) := by simp [rowTab, h]
theorem tabC_some {R : List (Option (List Int))} {f : Nat} {l : List Int} (h : R[f]? = some (some l)) : tabC R f = [regA (f + 16) l.length] := by simp [tabC, h]
theorem tabC_none {R : List (Option (List Int))} {f : Nat} (h : R[f]? = some none) : tabC R f = [.nil] := by simp [tabC, h]
theorem rowTab_set {R : List (Option (List Int))} {f : Nat} (l : List Int) (h : f < R.length) : rowTab (R.set f (some l)) = (rowTab R).set f [regA (f + 16) l.length] := by
  apply List.ext_getElem?
  intro j
  by_cases hj : j < R.length
  · rw [rowTab_get (by simpa using hj)]
    by_cases hjf : f = j
    · subst hjf
      rw [List.getElem?_set_self (by rw [rowTab_length]; exact hj), tabC_some (List.getElem?_set_self hj)]
    · rw [List.getElem?_set_ne hjf, rowTab_get hj]
      unfold tabC
      rw [List.getElem?_set_ne hjf]
  · rw [List.getElem?_eq_none (by rw [rowTab_length]; simpa using hj), List.getElem?_eq_none (by rw [List.length_set, rowTab_length]; omega)]
theorem rowTab_same {R : List (Option (List Int))} {f : Nat} {l l' : List Int} (h : R[f]? = some (some l)) (hl : l'.length = l.length) : rowTab (R.set f (some l')) = rowTab R := by
  have hlt := (List.getElem?_eq_some_iff.1 h).1
  rw [rowTab_set l' hlt]
  exact set_same (by rw [rowTab_get hlt, tabC_some h, hl])
def hputO (h : AHeap) (c n : Nat) : AHeap := if n = 0 then h else hput h c (.row true 1 (regCells (List.replicate n 0)))
theorem hputO_skip {h : AHeap} {c n x : Nat} {r : Option AObj} (hne : x ≠ c) (hr : h x = r) : hputO h c n x = r := by
  unfold hputO
  split
  · exact hr
  · rw [hput_ne _ _ hne]; exact hr
theorem hrm_skip {h : AHeap} {k x : Nat} {r : Option AObj} (hne : x ≠ k) (hr : h x = r) : hrm h k x = r := by rw [hrm_ne _ hne]; exact hr
/-- entering a function -/
theorem enter_ok (h : AHeap) (b : Blocks) (F : BFunc) (f0 nf k n : Nat) (x1 x3 x4 x5 : AV) (R : List (Option (List Int))) (hh0 : h 0 = some (.row false 6 [[funcsAV b.funcs, x1, .ref 2 nf 0 nf, x3, x4, x5]])) (hh2 : h 2 = some (.row false 1 (rowTab R))) (hnt : nf = R.length) (hfn : f0 < nf) (hF : b.funcs[f0]? = some F) (hreg : F.regs = (n : Int)) (hn4 : n ≤ 4000)
    (hfree : h k = some .free) (hk : k ≠ 0 ∧ k ≠ 2 ∧ k ≠ f0 + 16) (hR : ∀ l, R[f0]? = some (some l) → l.length = n) (hhr : h (f0 + 16) = some (regO ((R[f0]?).getD none))) {z : Int} (hz : z = (f0 : Int)) :
    ACall Try.prog 27 [.ptr 0 1 0 0, .int .i64 z] h (fun r h'' => r = .agg [.int .i64 z, .int .i64 0, .int .i64 0, regA (f0 + 16) n] ∧ HSub (hputO (hput (hrm h k) 2 (.row false 1 (rowTab (R.set f0 (some (List.replicate n 0)))))) (f0 + 16) n) h'') := by
  subst hz
  have hlt : f0 < R.length := by omega
  have hset := rowTab_set (R := R) (f := f0) (List.replicate n 0) hlt
  rw [List.length_replicate] at hset
  rw [hset]
  have hnt' : nf = (rowTab R).length := by rw [rowTab_length]; exact hnt
  have hfn' : ((f0 : Nat) : Int) < ((nf : Nat) : Int) := by omega
  have hg := rowTab_get hlt
  obtain ⟨o, ho⟩ := get_of_lt hlt
  rw [ho, Option.getD_some] at hhr
  cases o with
  | none =>
    rw [tabC_none ho] at hg
    by_cases hn0 : n = 0
    · subst hn0
      exact enter1_ok h b F f0 nf k 0 x1 x3 x4 x5 (rowTab R) hh0 hh2 hnt' hfn' hF hreg hn4 hfree hk hg rfl
    · have hpos : 0 < n := by omega
      have := enter2_ok h b F f0 nf k n x1 x3 x4 x5 (rowTab R) hh0 hh2 hnt' hfn' hF hreg hn4 hfree hk hg hpos hhr
      rw [← regA_pos (rb := f0 + 16) hpos] at this
      unfold hputO
      rw [if_neg hn0]
      exact this
  | some l =>
    have hl := hR l ho
    rw [tabC_some ho, hl] at hg
    by_cases hn0 : n = 0
    · subst hn0
      exact enter3_ok h b F f0 nf k 0 x1 x3 x4 x5 (rowTab R) hh0 hh2 hnt' hfn' hF hreg hn4 hfree hk hg rfl
    · have hpos : 0 < n := by omega
      rw [regA_pos hpos] at hg ⊢
      have hro : regO (some l) = .row true 1 (regCells l) := by
        cases l with
        | nil => simp at hl; omega
        | cons a r => rfl
      have := enter4_ok h b F f0 nf k n x1 x3 x4 x5 (rowTab R) hh0 hh2 hnt' hfn' hF hreg hn4 hfree hk hg hpos l hl (by rw [hhr, hro])
      unfold hputO
      rw [if_neg hn0]
      exact this
/-- the numbers that a loop of the machine keeps -/
def kap : Nat → Bool := fun c => Nat.blt c 8 || Nat.ble 15 c
/-- free from 8 on, below 15 -/
def hMid : AHeap := fun c => bif Nat.blt c 8 then none else bif Nat.ble 15 c then none else some .free
theorem kap_hi (g : Nat) : kap (g + 16) = true := by
  unfold kap
  have : Nat.ble 15 (g + 16) = true := Nat.ble_eq.mpr (by omega)
  rw [this, Bool.or_true]
theorem regA_avoid (g n : Nat) : (regA (g + 16) n).avoid kap = true := by
  cases n with
  | zero => rfl
  | succ n => exact kap_hi g
/-- a frame, as it lies in memory -/
def nregs (b : Blocks) (f : Nat) : Nat := match b.funcs[f]? with
  | some F => F.regs.toNat
  | none => 0
def frC (b : Blocks) (fr : Fr) : List AV := [.int .i64 (fr.f : Int), .int .i64 fr.blk, .int .i64 (fr.at' : Int), regA (fr.f + 16) (nregs b fr.f)]
abbrev mBase (b : Blocks) (s : ByteArray) (m : Mach) (R : List (Option (List Int))) (now : Fr) (es : List Fr) (h0 : AHeap) : AHeap :=
  hput (hput (hput (hput (hput (hput (hput (hput h0 0 (.row false 6 [boxC (funcsAV b.funcs) (.ref 2 b.funcs.length 0 b.funcs.length) b.words.toNat s m])) 1 (.row true 1 (regCells m.words))) 2 (.row false 1 (rowTab R))) 3 (.row true 1 (byteCells m.out)))
    4 (.row false 2 [b.cells])) 5 (.row false 3 [[.int .i64 0, .str ⟨#[]⟩, .int .i64 0]])) 6 (.row false 4 [frC b now])) 7 (.row false 4 (es.map (frC b)))
def mAll (b : Blocks) (s : ByteArray) (m : Mach) (R : List (Option (List Int))) (now : Fr) (es : List Fr) : AHeap := hg (mBase b s m R now es hMid) R
theorem hMid_free {c : Nat} (h : 8 ≤ c ∧ c < 15) : hMid c = some .free := by
  unfold hMid
  have h1 : Nat.blt c 8 = false := by
    cases e : Nat.blt c 8 with
    | false => rfl
    | true => have := Nat.blt_eq.mp e; omega
  have h2 : Nat.ble 15 c = false := by
    cases e : Nat.ble 15 c with
    | false => rfl
    | true => have := Nat.ble_eq.mp e; omega
  rw [h1, h2]; rfl
theorem kap_false {c : Nat} (hc : kap c = false) : 8 ≤ c ∧ c < 15 := by
  unfold kap at hc
  simp only [Bool.or_eq_false_iff] at hc
  obtain ⟨a1, a2⟩ := hc
  refine ⟨?_, ?_⟩
  · rcases Nat.lt_or_ge c 8 with h | h
    · rw [Nat.blt_eq.mpr h] at a1; cases a1
    · exact h
  · rcases Nat.lt_or_ge c 15 with h | h
    · exact h
    · rw [Nat.ble_eq.mpr h] at a2; cases a2
theorem mAll_at {b : Blocks} {s : ByteArray} {m : Mach} {R : List (Option (List Int))} {now : Fr} {es : List Fr} {c : Nat} (h : 8 ≤ c) (h2 : c < 16) : mAll b s m R now es c = hMid c := by
  unfold mAll
  rw [hg_lo _ _ h2]
  unfold mBase
  rw [hput_ne _ _ (by omega), hput_ne _ _ (by omega), hput_ne _ _ (by omega), hput_ne _ _ (by omega), hput_ne _ _ (by omega), hput_ne _ _ (by omega), hput_ne _ _ (by omega), hput_ne _ _ (by omega)]
theorem mAll_free (b : Blocks) (s : ByteArray) (m : Mach) (R : List (Option (List Int))) (now : Fr) (es : List Fr) : ∀ c, kap c = false → mAll b s m R now es c = some .free := fun c hc => by
  have h1 := kap_false hc
  rw [mAll_at h1.1 (by omega)]
  exact hMid_free h1
theorem mAll_sub {b : Blocks} {s : ByteArray} {m : Mach} {R : List (Option (List Int))} {now : Fr} {es : List Fr} {h' : AHeap} (a0 : h' 0 = some (.row false 6 [boxC (funcsAV b.funcs) (.ref 2 b.funcs.length 0 b.funcs.length) b.words.toNat s m])) (a1 : h' 1 = some (.row true 1 (regCells m.words))) (a2 : h' 2 = some (.row false 1 (rowTab R))) (a3 : h' 3 = some (.row true 1 (byteCells m.out)))
    (a4 : h' 4 = some (.row false 2 [b.cells])) (a5 : h' 5 = some (.row false 3 [[.int .i64 0, .str ⟨#[]⟩, .int .i64 0]])) (a6 : h' 6 = some (.row false 4 [frC b now])) (a7 : h' 7 = some (.row false 4 (es.map (frC b)))) (ar : ∀ g, h' (g + 16) = some (regO ((R[g]?).getD none))) :
    ∀ c o, kap c = true → mAll b s m R now es c = some o → h' c = some o := fun c o hc ho => by
  by_cases h16 : 16 ≤ c
  · obtain ⟨g, rfl⟩ : ∃ g, c = g + 16 := ⟨c - 16, by omega⟩
    rw [ar g, ← ho]; exact (hg_at _ _ g).symm
  · by_cases h8 : c < 8
    · unfold mAll at ho
      rw [hg_lo _ _ (by omega)] at ho
      match c, h8, ho with
      | 0, _, ho => cases ho; exact a0
      | 1, _, ho => cases ho; exact a1
      | 2, _, ho => cases ho; exact a2
      | 3, _, ho => cases ho; exact a3
      | 4, _, ho => cases ho; exact a4
      | 5, _, ho => cases ho; exact a5
      | 6, _, ho => cases ho; exact a6
      | 7, _, ho => cases ho; exact a7
      | n + 8, h, _ => exact absurd h (by omega)
    · rw [mAll_at (by omega) (by omega)] at ho
      have h15 : c = 15 := by
        rcases Nat.lt_or_ge c 15 with h | h
        · unfold kap at hc
          simp only [Bool.or_eq_true] at hc
          rcases hc with hc | hc
          · have := Nat.blt_eq.mp hc; omega
          · have := Nat.ble_eq.mp hc; omega
        · omega
      subst h15
      cases ho
theorem tab_avoid (R : List (Option (List Int))) : (AObj.row false 1 (rowTab R)).avoid kap = true := by
  refine List.all_eq_true.2 fun cs hcs => ?_
  simp only [rowTab, List.mem_map] at hcs
  obtain ⟨f, _, rfl⟩ := hcs
  unfold tabC
  cases (R[f]?).getD none with
  | none => rfl
  | some l => simp only [List.all_cons, List.all_nil, Bool.and_true]; exact regA_avoid f l.length
theorem fr_avoid (b : Blocks) (fr : Fr) : (frC b fr).all (AV.avoid kap) = true := by
  simp only [frC, List.all_cons, List.all_nil, Bool.and_true, regA_avoid]; rfl
theorem es_avoid (b : Blocks) (es : List Fr) : (AObj.row false 4 (es.map (frC b))).avoid kap = true := by
  refine List.all_eq_true.2 fun cs hcs => ?_
  simp only [List.mem_map] at hcs
  obtain ⟨f, _, rfl⟩ := hcs
  exact fr_avoid b f
theorem regO_avoid (o : Option (List Int)) : (regO o).avoid kap = true := by
  unfold regO; split <;> rfl
theorem mAll_drop {b : Blocks} {s : ByteArray} {m : Mach} {R : List (Option (List Int))} {now : Fr} {es : List Fr} {h' : AHeap} (hs : ∀ c o, kap c = true → mAll b s m R now es c = some o → h' c = some o) : HDropK kap (mAll b s m R now es) h' := fun c o hc => by
  cases hk : kap c with
  | false =>
    rw [mAll_free b s m R now es c hk] at hc
    cases hc
    exact .inr ⟨rfl, rfl⟩
  | true =>
    refine .inl ⟨hs c o hk hc, fun _ => ⟨rfl, ?_⟩⟩
    by_cases h16 : 16 ≤ c
    · obtain ⟨g, rfl⟩ : ∃ g, c = g + 16 := ⟨c - 16, by omega⟩
      unfold mAll at hc
      rw [hg_at] at hc
      cases hc
      exact regO_avoid _
    · by_cases h8 : c < 8
      · unfold mAll at hc
        rw [hg_lo _ _ (by omega)] at hc
        match c, h8, hc with
        | 0, _, hc => cases hc; rfl
        | 1, _, hc => cases hc; rfl
        | 2, _, hc => cases hc; exact tab_avoid R
        | 3, _, hc => cases hc; rfl
        | 4, _, hc => cases hc; rfl
        | 5, _, hc => cases hc; rfl
        | 6, _, hc => cases hc; simp only [AObj.avoid, List.all_cons, List.all_nil, Bool.and_true]; exact fr_avoid b now
        | 7, _, hc => cases hc; exact es_avoid b es
        | n + 8, h, _ => exact absurd h (by omega)
      · rw [mAll_at (by omega) (by omega)] at hc
        have h15 : c = 15 := by
          rcases Nat.lt_or_ge c 15 with h | h
          · rw [show kap c = false from ?_] at hk
            · cases hk
            · unfold kap
              have e1 : Nat.blt c 8 = false := by
                cases e : Nat.blt c 8 with
                | false => rfl
                | true => have := Nat.blt_eq.mp e; omega
              have e2 : Nat.ble 15 c = false := by
                cases e : Nat.ble 15 c with
                | false => rfl
                | true => have := Nat.ble_eq.mp e; omega
              rw [e1, e2]; rfl
          · omega
        subst h15
        cases hc
/-- at the beginning -/
theorem mAll_first {b : Blocks} {s : ByteArray} {m : Mach} {R : List (Option (List Int))} {now : Fr} {es : List Fr} {h' : AHeap} (hs : ∀ c o, kap c = true → mAll b s m R now es c = some o → h' c = some o) (hf : ∀ c, 8 ≤ c → c < 15 → h' c = some .free) : HSub (mAll b s m R now es) h' := fun c o hc => by
  cases hk : kap c with
  | false =>
    have h1 := kap_false hk
    rw [mAll_free b s m R now es c hk] at hc
    cases hc
    exact hf c h1.1 h1.2
  | true => exact hs c o hk hc
theorem rowTab_none (n : Nat) : rowTab (List.replicate n none) = List.replicate n [.nil] := by
  apply List.ext_getElem?
  intro j
  by_cases hj : j < n
  · rw [rowTab_get (by simpa using hj), tabC_none (by simp [hj]), List.getElem?_replicate, if_pos hj]
  · rw [List.getElem?_eq_none (by rw [rowTab_length]; simp; omega), List.getElem?_eq_none (by simp; omega)]
theorem regO_rep (n f : Nat) : regO (((List.replicate n (none : Option (List Int)))[f]?).getD none) = .free := by
  rw [List.getElem?_replicate]
  split <;> rfl
theorem regO_some {l : List Int} (h : 0 < l.length) : regO (some l) = .row true 1 (regCells l) := by
  cases l with
  | nil => simp at h
  | cons a r => rfl
/-- the program's own instruction, where a slice of registers stands for its row -/
theorem do_ok' (h : AHeap) (f0 W R nn : Nat) (x0 x2 : AV) (s : ByteArray) (t : Tac) (regs : List Int) (m : Mach) (ht : TacIn t nn R W) (hr : allR regs) (hlen : regs.length = R) (hm : m.good W) (h0 : m.fin = 0) (hW : W ≤ 1048576) (hs : s.size ≤ 9223372036854775807) (hwn : isW t.n) (h10 : t.op ≠ 10) (hpos : 0 < R)
    (hh0 : h 0 = some (.row false 6 [boxC x0 x2 W s m])) (hh1 : h 1 = some (.row true 1 (regCells m.words))) (hh3 : h 3 = some (.row true 1 (byteCells m.out))) (hhr : h (f0 + 16) = some (.row true 1 (regCells regs))) :
    ACall Try.prog 28 [.ptr 0 1 0 0, .loc t.cells, regA (f0 + 16) R] h (fun r h'' => r = .int .i64 (mone (fun _ m => m) s t regs m).2.fin ∧
      HSub (hput (hput (hput (hput h 0 (.row false 6 [boxC x0 x2 W s (mone (fun _ m => m) s t regs m).2])) 1 (.row true 1 (regCells (mone (fun _ m => m) s t regs m).2.words))) 3 (.row true 1 (byteCells (mone (fun _ m => m) s t regs m).2.out))) (f0 + 16) (.row true 1 (regCells (mone (fun _ m => m) s t regs m).1))) h'') := by
  rw [regA_pos hpos]
  exact do_ok h f0 W R nn x0 x2 s t regs m ht hr hlen hm h0 hW hs hwn h10 hh0 hh1 hh3 hhr
/-- every instruction that is no call has a register -/
theorem tac_regs {t : Tac} {nn R W : Nat} (ht : TacIn t nn R W) (h10 : t.op ≠ 10) : 0 < R := by
  have h1 := ht.op
  by_cases hs : setsOp t.op = true
  · have := ht.d hs; omega
  · by_cases hu : use1 t.op = true ∨ use2 t.op = true
    · have := ht.a hu; omega
    · exfalso
      have : t.op = 1 ∨ t.op = 2 ∨ t.op = 3 ∨ t.op = 4 ∨ t.op = 5 ∨ t.op = 6 ∨ t.op = 7 ∨ t.op = 8 ∨ t.op = 9 := by omega
      rcases this with h | h | h | h | h | h | h | h | h <;> simp [setsOp, use1, use2, h] at hs hu
theorem mone_nostep {s : ByteArray} {t : Tac} {regs : List Int} {m : Mach} (h10 : t.op ≠ 10) : (mone (fun _ m => m) s t regs m).2.steps = m.steps := by
  unfold mone
  cases t.op == 1 with
  | true => rfl
  | false =>
  cases t.op == 2 with
  | true => rfl
  | false =>
  cases t.op == 3 with
  | true => simp only [cond_true, cond_false]; cases (wapp t.k (rget regs t.a) (rget regs t.b)).2 == 0 <;> rfl
  | false =>
  cases t.op == 4 with
  | true => rfl
  | false =>
  cases t.op == 5 with
  | true => rfl
  | false =>
  cases t.op == 6 with
  | true => simp only [cond_true, cond_false]; cases decide (rget regs t.a ≥ t.size) <;> rfl
  | false =>
  cases t.op == 7 with
  | true => simp only [cond_true, cond_false]; cases decide (rget regs t.a ≥ t.size) <;> rfl
  | false =>
  cases t.op == 8 with
  | true => simp only [cond_true, cond_false]; cases decide (m.read < s.size) <;> rfl
  | false =>
  cases t.op == 9 with
  | true => simp only [cond_true, cond_false]; cases decide (m.out.length ≥ 65536) <;> rfl
  | false =>
    cases t.op == 10 <;> rfl
/-- frames in memory -/
def pushL (es : List Fr) (len : Nat) (fr : Fr) : List Fr := if len < es.length then es.set len fr else es ++ [fr]
theorem pushL_map {b : Blocks} {es : List Fr} {len : Nat} {fr : Fr} : (pushL es len fr).map (frC b) = pushE (es.map (frC b)) len (frC b fr) := by
  unfold pushL pushE
  rw [List.length_map]
  split
  · rw [List.map_set]
  · simp
theorem pushL_take {es : List Fr} {len : Nat} {fr : Fr} (h : len ≤ es.length) : (pushL es len fr).take (len + 1) = es.take len ++ [fr] := by
  unfold pushL
  split
  · rename_i hlt
    rw [take_succ_eq (List.getElem?_set_self hlt), List.take_set_of_le (Nat.le_refl _)]
  · have : len = es.length := by omega
    subst this
    rw [List.take_of_length_le (by simp), List.take_of_length_le (Nat.le_refl _)]
theorem pushL_len {es : List Fr} {len : Nat} {fr : Fr} (h : len ≤ es.length) : len + 1 ≤ (pushL es len fr).length ∧ (pushL es len fr).length ≤ es.length + 1 := by
  unfold pushL
  split <;> simp <;> omega
structure RG where
  q : Q24
  es : List Fr
/-- what holds at the head of a round -/
structure RInv (b : Blocks) (s : ByteArray) (fuel : Int) (tgt : Mach) (r : RG) : Prop where
  inv : SInv b s fuel b.words.toNat tgt r.q
  take : r.es.take r.q.above.length = r.q.above
  len : r.q.above.length ≤ r.es.length
  max : r.es.length ≤ r.q.m.steps
  rl : ∀ (f : Nat) (F : BFunc) (l : List Int), b.funcs[f]? = some F → r.q.R[f]? = some (some l) → l.length = F.regs.toNat
theorem RInv.set {b : Blocks} {R : List (Option (List Int))} (h : ∀ (f : Nat) (F : BFunc) (l : List Int), b.funcs[f]? = some F → R[f]? = some (some l) → l.length = F.regs.toNat) {f0 : Nat} {G : BFunc} {l0 : List Int} (hG : b.funcs[f0]? = some G) (hl0 : l0.length = G.regs.toNat) :
    ∀ (f : Nat) (F : BFunc) (l : List Int), b.funcs[f]? = some F → (R.set f0 (some l0))[f]? = some (some l) → l.length = F.regs.toNat := fun f F l hF hl => by
  by_cases hf : f0 = f
  · subst hf
    rw [hG] at hF; cases hF
    rw [List.getElem?_set] at hl
    split at hl
    · split at hl
      · cases hl; exact hl0
      · cases hl
    · rename_i h1; exact absurd rfl h1
  · rw [List.getElem?_set_ne hf] at hl
    exact h f F l hF hl
theorem nregs_eq {b : Blocks} {f : Nat} {F : BFunc} (h : b.funcs[f]? = some F) : nregs b f = F.regs.toNat := by simp [nregs, h]
/-- the registers' rows, afterwards -/
theorem ar_set {R : List (Option (List Int))} {f : Nat} {l : List Int} {h' h : AHeap} (hf : f < R.length) (hl : 0 < l.length) (h1 : h' (f + 16) = some (.row true 1 (regCells l))) (h2 : ∀ g, g ≠ f → h' (g + 16) = h (g + 16)) (h3 : ∀ g, h (g + 16) = some (regO ((R[g]?).getD none))) : ∀ g, h' (g + 16) = some (regO (((R.set f (some l))[g]?).getD none)) := fun g => by
  by_cases hg : g = f
  · subst hg
    rw [h1, List.getElem?_set_self hf, Option.getD_some, regO_some hl]
  · rw [h2 g hg, h3 g, List.getElem?_set_ne (Ne.symm hg)]
theorem ar_zero {R : List (Option (List Int))} {f n : Nat} {h' h h0 : AHeap} (hf : f < R.length) (hR : ∀ l, R[f]? = some (some l) → l.length = n) (h1 : ∀ g, h' (g + 16) = hputO h0 (f + 16) n (g + 16)) (h2 : ∀ g, h0 (g + 16) = some (regO ((R[g]?).getD none))) : ∀ g, h' (g + 16) = some (regO (((R.set f (some (List.replicate n 0)))[g]?).getD none)) := fun g => by
  rw [h1 g]
  unfold hputO
  by_cases hn : n = 0
  · rw [if_pos hn, h2 g]
    subst hn
    by_cases hg : f = g
    · subst hg
      rw [List.getElem?_set_self hf]
      cases e : R[f]? with
      | none => rfl
      | some o => cases o with
        | none => rfl
        | some l =>
          have := hR l e
          cases l with
          | nil => rfl
          | cons a r => simp at this
    · rw [List.getElem?_set_ne hg]
  · rw [if_neg hn]
    by_cases hg : g = f
    · subst hg
      rw [hput_same, List.getElem?_set_self hf, Option.getD_some, regO_some (by simp; omega)]
    · rw [hput_ne _ _ (by omega), h2 g, List.getElem?_set_ne (Ne.symm hg)]
end Go.Proofs.Ytophfphgcbnafaa.Sv

namespace Go.Proofs.Ytophfphgcbnafaa.Sv
open Go
set_option linter.unusedVariables false
set_option linter.unusedSimpArgs false

section
variable {b : Blocks} {s : ByteArray} {fuel : Int} {tgt : Mach} {r : RG}
theorem RInv.first {b : Blocks} (hb : b.right = true) {s : ByteArray} {fuel : Int} {F : BFunc} (hF : b.funcs[b.funcs.length - 1]? = some F) :
    RInv b s (fuel0 fuel) (mfun b s (fuel0 fuel) b.funcs.length ((b.funcs.length : Int) - 1) (m0 b)) ⟨⟨⟨b.funcs.length - 1, 0, 0⟩, [], (List.replicate b.funcs.length none).set (b.funcs.length - 1) (some (List.replicate (nregs b (b.funcs.length - 1)) 0)), m0 b⟩, []⟩ := by
  have h := SInv.start hb s fuel hF
  have hn := nregs_eq hF
  unfold q0 at h
  rw [← hn] at h
  refine ⟨h, rfl, Nat.le_refl _, Nat.zero_le _, RInv.set (fun f F l _ hl => ?_) hF (by simp [hn])⟩
  rw [List.getElem?_replicate] at hl
  split at hl <;> cases hl
theorem mu_less {n : Nat} (h : n < fuel.toNat) : fuel.toNat - (n + 1) < fuel.toNat - n := by omega
theorem mu_lessE {n n' : Nat} (h : n < fuel.toNat) (h' : n' = n + 1) : fuel.toNat - n' < fuel.toNat - n := by omega
theorem RInv.ins (h : RInv b s fuel tgt r) {F : BFunc} {k : Block} {t : Tac} {l : List Int} (h1 : b.funcs[r.q.now.f]? = some F) (h2 : F.blocks[r.q.now.blk.toNat]? = some k) (ht : k.ins[r.q.now.at']? = some t) (hw : isW t.n) (hl : r.q.R[r.q.now.f]? = some (some l)) (hf : decide ((r.q.m.steps : Int) ≥ fuel) = false) (h10 : t.op ≠ 10)
    (he : (mone (fun _ m => m) s t l { r.q.m with steps := r.q.m.steps + 1 }).2.fin = 0) (hll : l.length = F.regs.toNat) :
    RInv b s fuel tgt ⟨⟨⟨r.q.now.f, r.q.now.blk, r.q.now.at' + 1⟩, r.q.above, r.q.R.set r.q.now.f (some (mone (fun _ m => m) s t l { r.q.m with steps := r.q.m.steps + 1 }).1), (mone (fun _ m => m) s t l { r.q.m with steps := r.q.m.steps + 1 }).2⟩, r.es⟩ := by
  have hst := mone_nostep (s := s) (t := t) (regs := l) (m := { r.q.m with steps := r.q.m.steps + 1 }) h10
  obtain ⟨F', k', l', g1, g2, g3, g4, g5, g6, g7⟩ := h.inv.now.ex
  rw [hl] at g5; cases g5
  have hg := (mone_good (call := fun _ m => m) (s := s) (fun _ _ h => h) t hw g7 (good_step h.inv.good)).2.1
  exact ⟨h.inv.ins h1 h2 ht hw hl hf h10 he hst, h.take, h.len, by show r.es.length ≤ _; rw [hst]; have := h.max; show _ ≤ r.q.m.steps + 1; omega, RInv.set h.rl h1 (by rw [hg]; exact hll)⟩
theorem RInv.call (hb : b.right = true) (h : RInv b s fuel tgt r) {F : BFunc} {k : Block} {t : Tac} (h1 : b.funcs[r.q.now.f]? = some F) (h2 : F.blocks[r.q.now.blk.toNat]? = some k) (ht : k.ins[r.q.now.at']? = some t) (hf : decide ((r.q.m.steps : Int) ≥ fuel) = false) (h10 : t.op = 10) {f0 : Nat} (hf0 : t.base = (f0 : Int)) {G : BFunc} (hG : b.funcs[f0]? = some G) :
    RInv b s fuel tgt ⟨⟨⟨f0, 0, 0⟩, r.q.above ++ [⟨r.q.now.f, r.q.now.blk, r.q.now.at' + 1⟩], r.q.R.set f0 (some (List.replicate (nregs b f0) 0)), { r.q.m with steps := r.q.m.steps + 1 }⟩, pushL r.es r.q.above.length ⟨r.q.now.f, r.q.now.blk, r.q.now.at' + 1⟩⟩ := by
  have hbt : t.base.toNat = f0 := by omega
  have h0 := h.inv.call hb rfl h1 h2 ht hf h10 (G := G) (by rw [hbt]; exact hG)
  rw [hbt, ← nregs_eq hG] at h0
  have hp := pushL_len (fr := ⟨r.q.now.f, r.q.now.blk, r.q.now.at' + 1⟩) h.len
  refine ⟨h0, ?_, ?_, ?_, RInv.set h.rl hG (by rw [nregs_eq hG]; simp)⟩
  · show List.take (r.q.above ++ [_]).length _ = _
    rw [List.length_append, List.length_singleton, pushL_take h.len, h.take]
  · show (r.q.above ++ [_]).length ≤ _
    rw [List.length_append, List.length_singleton]; exact hp.1
  · exact Nat.le_trans hp.2 (Nat.succ_le_succ h.max)
theorem RInv.jump (hb : b.right = true) (h : RInv b s fuel tgt r) {F : BFunc} {k : Block} {l : List Int} (h1 : b.funcs[r.q.now.f]? = some F) (h2 : F.blocks[r.q.now.blk.toNat]? = some k) (hat : k.ins.length ≤ r.q.now.at') (hl : r.q.R[r.q.now.f]? = some (some l)) (hf : decide ((r.q.m.steps : Int) ≥ fuel) = false) (h3 : (k.fin == 3) = false) {to : Int} (hto : k.next l = to) :
    RInv b s fuel tgt ⟨⟨⟨r.q.now.f, to, 0⟩, r.q.above, r.q.R, { r.q.m with steps := r.q.m.steps + 1 }⟩, r.es⟩ :=
  ⟨h.inv.jump hb h1 h2 hat hl hf h3 hto, h.take, h.len, Nat.le_succ_of_le h.max, h.rl⟩
theorem RInv.top (h : RInv b s fuel tgt r) {fr : Fr} (ha : r.q.above.getLast? = some fr) : (r.es.map (frC b))[0 + (((r.q.above.length - 1 : Nat)) : Int).toNat]? = some (frC b fr) := by
  have hpos : 0 < r.q.above.length := by
    cases e : r.q.above with
    | nil => rw [e] at ha; simp at ha
    | cons x y => simp
  have h1 : r.q.above[r.q.above.length - 1]? = some fr := by rw [← List.getLast?_eq_getElem?]; exact ha
  have ht := h.take
  have h2 : r.es[r.q.above.length - 1]? = some fr := by
    rw [← ht, List.getElem?_take_of_lt (by rw [ht]; omega), ht] at h1
    exact h1
  rw [Nat.zero_add, Int.toNat_natCast, List.getElem?_map, h2]
  rfl
theorem RInv.ret (h : RInv b s fuel tgt r) {F : BFunc} {k : Block} {fr : Fr} (h1 : b.funcs[r.q.now.f]? = some F) (h2 : F.blocks[r.q.now.blk.toNat]? = some k) (hat : k.ins.length ≤ r.q.now.at') (hf : decide ((r.q.m.steps : Int) ≥ fuel) = false) (h3 : (k.fin == 3) = true) (ha : r.q.above.getLast? = some fr) :
    RInv b s fuel tgt ⟨⟨fr, r.q.above.dropLast, r.q.R, { r.q.m with steps := r.q.m.steps + 1 }⟩, r.es⟩ := by
  have hl := h.len
  refine ⟨h.inv.ret h1 h2 hat hf h3 ha, ?_, by simp only [List.length_dropLast]; omega, Nat.le_succ_of_le h.max, h.rl⟩
  simp only [List.length_dropLast]
  conv => rhs; rw [← h.take]
  rw [dropLast_take' hl]
end
theorem ends_three {k : Block} {n r : Int} (h : k.ends n r = true) : k.fin = 1 ∨ k.fin = 2 ∨ k.fin = 3 := by
  unfold Block.ends at h
  cases e1 : k.fin == 1 with
  | true => exact .inl (by simpa using e1)
  | false =>
    cases e2 : k.fin == 2 with
    | true => exact .inr (.inl (by simpa using e2))
    | false =>
      rw [e1, e2] at h
      simp only [cond_false, Bool.and_eq_true, beq_iff_eq] at h
      exact .inr (.inr h.1)
theorem getLast_of {α : Type} {l : List α} (h : 0 < l.length) : ∃ x, l.getLast? = some x := by
  rw [List.getLast?_eq_getElem?]
  exact get_of_lt (by omega)
theorem next1 {k : Block} (h : k.fin = 1) (l : List Int) : k.next l = k.to := by simp [Block.next, h]
theorem next2t {k : Block} {l : List Int} (h : k.fin = 2) (hz : (rget l k.v != 0) = true) : k.next l = k.to := by
  have : (rget l k.v == 0) = false := by simpa using hz
  simp [Block.next, h, this]
theorem next2f {k : Block} {l : List Int} (h : k.fin = 2) (hz : (rget l k.v != 0) = false) : k.next l = k.els := by
  have : (rget l k.v == 0) = true := by simpa using hz
  simp [Block.next, h, this]
theorem mrun_fuel {b : Blocks} {s : ByteArray} {fuel : Int} {m : Mach} (h : mfun b s (fuel0 fuel) b.funcs.length ((b.funcs.length : Int) - 1) (m0 b) = { m with fin := 5 }) : mrun b s fuel = { m with fin := 5 } := by
  unfold mrun; rw [h]; rfl
theorem mrun_err {b : Blocks} {s : ByteArray} {fuel : Int} {m : Mach} (h : mfun b s (fuel0 fuel) b.funcs.length ((b.funcs.length : Int) - 1) (m0 b) = m) (hz : m.fin ≠ 0) : mrun b s fuel = m := by
  unfold mrun; rw [h]
  have : (m.fin == 0) = false := by rw [beq_eq_false_iff_ne]; exact hz
  simp only [this, cond_false]
theorem mrun_done {b : Blocks} {s : ByteArray} {fuel : Int} {m : Mach} (h : mfun b s (fuel0 fuel) b.funcs.length ((b.funcs.length : Int) - 1) (m0 b) = m) (hz : m.fin = 0) : mrun b s fuel = { m with fin := 1 } := by
  unfold mrun; rw [h]
  have : (m.fin == 0) = true := by rw [beq_iff_eq]; exact hz
  simp only [this, cond_true]
theorem ar_zero' {R : List (Option (List Int))} {f n : Nat} {X : AHeap} (hf : f < R.length) (hR : ∀ l, R[f]? = some (some l) → l.length = n) (h2 : ∀ g, X (g + 16) = some (regO ((R[g]?).getD none))) (g : Nat) : hputO X (f + 16) n (g + 16) = some (regO (((R.set f (some (List.replicate n 0)))[g]?).getD none)) :=
  ar_zero (h := X) hf hR (fun g => rfl) h2 g
theorem refPush {b : Blocks} {es above : List Fr} {fr : Fr} : some (AV.ref 7 (pushE (es.map (frC b)) above.length (frC b fr)).length 0 (above.length + 1)) = some (AV.ref 7 (pushL es above.length fr).length 0 (above ++ [fr]).length) := by
  rw [← pushL_map, List.length_map, List.length_append, List.length_singleton]
end Go.Proofs.Ytophfphgcbnafaa.Sv

namespace Go.Proofs.Ytophfphgcbnafaa.Sv
open Go
set_option linter.unusedVariables false
set_option linter.unusedSimpArgs false

set_option maxHeartbeats 2000000 in
set_option maxRecDepth 100000 in
theorem blockRun_ok (b : Blocks) (s : ByteArray) (fuel : Int) (hbr : b.right = true) (hbw : b.insW) (hil : ∀ f ∈ b.funcs, ∀ x ∈ f.blocks, x.ins.length ≤ big) (hnf : b.funcs.length ≤ 1000) (hfu : fuel ≤ 1000000) (hs : s.size ≤ 9223372036854775807) : APure Try.prog 12 [.agg b.cells, .str s, .int .i64 fuel] (fun r => r = .agg (resCells (mrun b s fuel))) := by
  have hsp := right_spec hbr
  have hn0 : 0 < b.funcs.length := List.length_pos_iff.2 hsp.2.2.1
  obtain ⟨F0, hF0⟩ := get_of_lt (l := b.funcs) (k := b.funcs.length - 1) (by omega)
  have hone0 := one_spec (hsp.2.2.2 _ F0 hF0)
  have hwz : b.words = ((b.words.toNat : Nat) : Int) := by omega
  have hw0 : b.words.toNat ≤ 1048576 := by omega
  have hnr0 := nregs_eq hF0
  refine APure.of_body (n := 147) tok Try.func12 rfl rfl ?_
  refine AGo.seq ?_
  refine AGo.region ?_
  refine AOps.x 3 rfl rfl rfl (o_box (sz := 2) 4 rfl rfl rfl rfl (Nat.zero_lt_succ _) rfl) ?_
  refine AOps.x 6 rfl rfl rfl (o_alloc tok 5 rfl rfl rfl rfl (Nat.zero_lt_succ _) rfl) ?_
  refine AOps.nil ?_
  refine AGo.scope ?_
  refine AGo.seq ?_
  refine AGo.draw mix ?_
  refine DOps.s 15 rfl rfl rfl (q_fieldAddr tok rfl rfl rfl rfl rfl rfl) ?_
  refine DOps.s 16 rfl rfl rfl (q_load tok rfl rfl rfl (by first | exact .loc _ | exact .ptr _ _ _ _ _ _ _ _ rfl rfl rfl) rfl) ?_
  refine DOps.s 17 rfl rfl rfl (q_fieldAddr tok rfl rfl rfl rfl rfl rfl) ?_
  refine DOps.s 18 rfl rfl rfl (q_load tok rfl rfl rfl (by first | exact .loc _ | exact .ptr _ _ _ _ _ _ _ _ rfl rfl rfl) rfl) ?_
  refine DOps.x 19 rfl rfl rfl (o_makeSlice tok (n := b.words.toNat) (m := b.words.toNat) 1 true rfl rfl rfl hwz hwz rfl rfl rfl rfl rfl (Nat.zero_lt_succ _) rfl (Nat.le_refl _) (by show 4 * b.words.toNat ≤ _; omega) (by simp only [maxLen]; omega)) ?_
  refine DOps.s 20 rfl rfl rfl (q_fieldAddr tok rfl rfl rfl rfl rfl rfl) ?_
  refine DOps.s 21 rfl rfl rfl (q_load tok rfl rfl rfl (by first | exact .loc _ | exact .ptr _ _ _ _ _ _ _ _ rfl rfl rfl) rfl) ?_
  refine DOps.s 22 rfl rfl rfl (q_len tok rfl rfl rfl rfl rfl) ?_
  refine DOps.x 23 rfl rfl rfl (o_makeSlice tok (n := b.funcs.length) (m := b.funcs.length) 2 false rfl rfl rfl (by rw [List.length_map]) (by rw [List.length_map]) rfl rfl rfl rfl rfl (Nat.zero_lt_succ _) rfl (Nat.le_refl _) (by show 24 * b.funcs.length ≤ _; omega) (by simp only [maxLen]; omega)) ?_
  refine DOps.s 24 rfl rfl rfl (q_move (.inl rfl) rfl) ?_
  refine DOps.s 25 rfl rfl rfl (q_build tok rfl rfl rfl rfl rfl (by decide) rfl rfl rfl) ?_
  refine DOps.x 26 rfl rfl rfl (o_box (sz := 6) 0 rfl rfl rfl rfl (Nat.zero_lt_succ _) rfl) ?_
  refine DOps.s 7 rfl rfl rfl (q_move (.inr rfl) rfl) ?_
  refine DOps.nil (by kernel_rfl) ?_
  refine AGo.seq ?_
  refine AGo.ghost (.dryCell 0 0 5 3 1 true rfl rfl rfl rfl rfl (by decide)) ?_
  refine AGo.region ?_
  refine AOps.s 27 rfl rfl rfl (q_move (.inl rfl) rfl) ?_
  refine AOps.s 28 rfl rfl rfl (q_fieldAddr tok rfl rfl rfl rfl rfl rfl) ?_
  refine AOps.s 29 rfl rfl rfl (q_load tok rfl rfl rfl (by first | exact .loc _ | exact .ptr _ _ _ _ _ _ _ _ rfl rfl rfl) rfl) ?_
  refine AOps.s 30 rfl rfl rfl (q_len tok rfl rfl rfl rfl rfl) ?_
  refine AOps.s 31 rfl rfl rfl (q_bin (r := .int .i64 (((b.funcs.length - 1) : Nat) : Int)) rfl rfl rfl (by rw [List.length_map]; exact len_pred hn0 (by omega))) ?_
  refine AOps.call 32 rfl rfl rfl (o_callW rfl Try.func27 (by kernel_rfl) rfl rfl (enter_ok _ b F0 (b.funcs.length - 1) b.funcs.length 15 (nregs b (b.funcs.length - 1)) (.ref 1 b.words.toNat 0 b.words.toNat) (.str s) (.int .i64 0) (.ref 3 0 0 0) (List.replicate b.funcs.length none) rfl (congrArg (fun es => some (AObj.row false 1 es)) (rowTab_none _).symm) (by simp) (by omega) hF0 (by rw [hnr0]; have := hone0.1; omega) (by rw [hnr0]; have := hone0.2.1; omega) rfl ⟨by decide, by decide, by omega⟩ (fun l hl => by rw [List.getElem?_replicate] at hl; split at hl <;> cases hl) (by rw [regO_rep]; (try simp only [hputs]); repeat (first | rfl | refine hput_skip (by exact beq_false_of_ne (by omega)) ?_)) rfl)) ?_
  refine AOps.x 8 rfl rfl rfl (o_alloc tok 6 rfl rfl (by (try simp only [hputs]); repeat (first | assumption | exact hput_same _ _ _ | refine hput_skip (by first | rfl | assumption | exact beq_false_of_ne (by omega)) ?_ | refine hputO_skip (by omega) ?_ | refine hrm_skip (by omega) ?_ | rfl)) rfl (Nat.zero_lt_succ _) rfl) ?_
  refine AOps.w rfl rfl (o_store tok (es := [[.int .i64 0, .int .i64 0, .int .i64 0, .nil]]) rfl rfl rfl rfl rfl (by (try simp only [hputs]); repeat (first | assumption | exact hput_same _ _ _ | refine hput_skip (by first | rfl | assumption | exact beq_false_of_ne (by omega)) ?_ | refine hputO_skip (by omega) ?_ | refine hrm_skip (by omega) ?_ | rfl)) rfl rfl rfl (by decide) (fr_cell1 _ _ _ _ _) (by intro h; cases h)) ?_
  refine AOps.nil ?_
  refine AGo.seq ?_
  refine AGo.region ?_
  refine AOps.s 9 rfl rfl rfl (q_move (.inr rfl) rfl) ?_
  refine AOps.nil ?_
  refine AGo.seq ?_
  refine AGo.ghost (.dry 9 7 4 false rfl rfl (by (try simp only [hputs]); repeat (first | assumption | exact hput_same _ _ _ | refine hput_skip (by first | rfl | assumption | exact beq_false_of_ne (by omega)) ?_ | refine hputO_skip (by omega) ?_ | refine hrm_skip (by omega) ?_ | rfl)) (by decide)) ?_
  refine AGo.region ?_
  refine AOps.s 10 rfl rfl rfl (q_move (.inr rfl) rfl) ?_
  refine AOps.s 11 rfl rfl rfl (q_move (.inr rfl) rfl) ?_
  refine AOps.nil ?_
  refine AGo.seq ?_
  refine AGo.label ?_
  refine AGo.seq ?_
  refine AGo.block ?_
  refine AGo.loopK (γ := RG) kap (fun r => ⟨147, (eput (eput (eput (eput (eput (eput (eput (eput (eput eNew 1 (.str s)) 2 (.int .i64 fuel)) 3 (.ptr 4 1 0 0)) 6 (.ptr 5 1 0 0)) 7 (.ptr 0 1 0 0)) 8 (.ptr 6 1 0 0)) 9 (.ref 7 r.es.length 0 r.q.above.length)) 10 (.int .i64 0)) 11 (.int .i64 (r.q.m.steps : Int))), (mAll b s r.q.m r.q.R r.q.now r.es)⟩) (fun r => RInv b s (fuel0 fuel) (mfun b s (fuel0 fuel) b.funcs.length ((b.funcs.length : Int) - 1) (m0 b)) r) (fun r => fuel.toNat - r.q.m.steps) ⟨⟨⟨b.funcs.length - 1, 0, 0⟩, [], (List.replicate b.funcs.length none).set (b.funcs.length - 1) (some (List.replicate (nregs b (b.funcs.length - 1)) 0)), m0 b⟩, []⟩ (Sub.mk' (by repeat (first | exact ESub.new _ | refine ESub.put ?_ (by rfl))) (mAll_first (mAll_sub (by (try simp only [hputs]); repeat (first | assumption | exact hput_same _ _ _ | refine hput_skip (by first | rfl | exact beq_false_of_ne (by omega)) ?_ | refine hputO_skip (by omega) ?_ | refine hrm_skip (by omega) ?_ | rfl)) (by rw [show (m0 b).words = List.replicate b.words.toNat 0 from rfl, ← regCells_rep]; exact (by (try simp only [hputs]); repeat (first | assumption | exact hput_same _ _ _ | refine hput_skip (by first | rfl | exact beq_false_of_ne (by omega)) ?_ | refine hputO_skip (by omega) ?_ | refine hrm_skip (by omega) ?_ | rfl))) (by (try simp only [hputs]); repeat (first | assumption | exact hput_same _ _ _ | refine hput_skip (by first | rfl | exact beq_false_of_ne (by omega)) ?_ | refine hputO_skip (by omega) ?_ | refine hrm_skip (by omega) ?_ | rfl)) (by (try simp only [hputs]); repeat (first | assumption | exact hput_same _ _ _ | refine hput_skip (by first | rfl | exact beq_false_of_ne (by omega)) ?_ | refine hputO_skip (by omega) ?_ | refine hrm_skip (by omega) ?_ | rfl)) (by (try simp only [hputs]); repeat (first | assumption | exact hput_same _ _ _ | refine hput_skip (by first | rfl | exact beq_false_of_ne (by omega)) ?_ | refine hputO_skip (by omega) ?_ | refine hrm_skip (by omega) ?_ | rfl)) (by (try simp only [hputs]); repeat (first | assumption | exact hput_same _ _ _ | refine hput_skip (by first | rfl | exact beq_false_of_ne (by omega)) ?_ | refine hputO_skip (by omega) ?_ | refine hrm_skip (by omega) ?_ | rfl)) (by (try simp only [hputs]); repeat (first | assumption | exact hput_same _ _ _ | refine hput_skip (by first | rfl | exact beq_false_of_ne (by omega)) ?_ | refine hputO_skip (by omega) ?_ | refine hrm_skip (by omega) ?_ | rfl)) (by (try simp only [hputs]); repeat (first | assumption | exact hput_same _ _ _ | refine hput_skip (by first | rfl | exact beq_false_of_ne (by omega)) ?_ | refine hputO_skip (by omega) ?_ | refine hrm_skip (by omega) ?_ | rfl)) (fun g => by (try simp only [hputs]); repeat (refine hput_skip (by exact beq_false_of_ne (by omega)) ?_); exact ar_zero' (by simp; omega) (fun l hl => by rw [List.getElem?_replicate] at hl; split at hl <;> cases hl) (fun g => by rw [regO_rep]; repeat (first | rfl | refine hput_skip (by exact beq_false_of_ne (by omega)) ?_ | refine hrm_skip (by omega) ?_)) g)) (fun c h8 h15 => by (try simp only [hputs]); repeat (first | rfl | refine hput_skip (by exact beq_false_of_ne (by omega)) ?_ | refine hputO_skip (by omega) ?_ | refine hrm_skip (by omega) ?_)))) (RInv.first hbr hF0) (fun r => mAll_free _ _ _ _ _ _) ?_
  intro r hRI
  have hI := hRI.inv
  obtain ⟨F, k, l, h1, h2, h3, h4, h5, h6, h7⟩ := hI.now.ex
  have hone := one_spec (hsp.2.2.2 _ F h1)
  have hnr := nregs_eq h1
  have hmx := hRI.max
  have hrln := hRI.len
  have hflt : r.q.now.f < r.q.R.length := (List.getElem?_eq_some_iff.1 h5).1
  have hinsl := hil F (List.mem_of_getElem? h1) k (List.mem_of_getElem? h2)
  refine AGo.block ?_
  refine AGo.seq ?_
  refine AGo.seq ?_
  refine AGo.region ?_
  refine AOps.s 33 rfl rfl rfl (q_move (.inl rfl) rfl) ?_
  refine AOps.s 34 rfl rfl rfl (q_move (.inl rfl) rfl) ?_
  refine AOps.s 35 rfl rfl rfl (q_bin rfl rfl rfl rfl) ?_
  refine AOps.nil ?_
  refine AGo.split 35 rfl (fun hb1 => ?_) (fun hb1 => ?_)
  · -- True
    refine AGo.cond_true true rfl rfl ?_
    let mE : Mach := r.q.m
    have hff : decide ((r.q.m.steps : Int) ≥ fuel0 fuel) = true := by rw [fuel0_ge]; exact hb1
    have hend := hRI.inv.noFuel hff
    refine AGo.seq ?_
    refine AGo.region ?_
    refine AOps.s 10 rfl rfl rfl (q_move (.inr rfl) rfl) ?_
    refine AOps.nil ?_
    refine AGo.exit ?_
    refine AGo.seq ?_
    refine AGo.ghost (.freezeCell 0 0 5 3 (es0 := [boxC (funcsAV b.funcs) (.ref 2 b.funcs.length 0 b.funcs.length) b.words.toNat s mE]) (es := byteCells mE.out) (by (try simp only [hputs]); repeat (first | assumption | exact hput_same _ _ _ | refine hput_skip (by first | rfl | assumption | exact beq_false_of_ne (by omega)) ?_ | refine hputO_skip (by omega) ?_ | refine hrm_skip (by omega) ?_ | rfl)) rfl rfl (by (try simp only [hputs]); repeat (first | assumption | exact hput_same _ _ _ | refine hput_skip (by first | rfl | assumption | exact beq_false_of_ne (by omega)) ?_ | refine hputO_skip (by omega) ?_ | refine hrm_skip (by omega) ?_ | rfl)) (by simp [byteCells]) (by decide)) ?_
    refine AGo.region ?_
    refine AOps.s 139 rfl rfl rfl (q_move (.inl rfl) rfl) ?_
    refine AOps.s 140 rfl rfl rfl (q_move (.inl rfl) rfl) ?_
    refine AOps.s 141 rfl rfl rfl (q_nilCheck rfl rfl rfl) ?_
    refine AOps.s 142 rfl rfl rfl (q_fieldAddr tok rfl rfl rfl rfl rfl rfl) ?_
    refine AOps.s 143 rfl rfl rfl (q_load tok rfl rfl rfl (by first | exact .loc _ | exact .ptr _ _ _ _ _ _ _ _ rfl rfl rfl) rfl) ?_
    refine AOps.s 144 rfl rfl rfl (q_bytesStr (l := mE.out) tok rfl (by show some (AV.lst false _) = _; rw [List.drop_zero, List.take_of_length_le (by simp [byteCells])]) rfl rfl rfl rfl rfl rfl) ?_
    refine AOps.s 145 rfl rfl rfl (q_move (.inl rfl) rfl) ?_
    refine AOps.s 146 rfl rfl rfl (q_build tok rfl rfl rfl rfl rfl (by decide) rfl rfl rfl) ?_
    refine AOps.w rfl rfl (o_store tok (es := [[.int .i64 0, .str ⟨#[]⟩, .int .i64 0]]) rfl rfl rfl rfl rfl (by (try simp only [hputs]); repeat (first | assumption | exact hput_same _ _ _ | refine hput_skip (by first | rfl | assumption | exact beq_false_of_ne (by omega)) ?_ | refine hputO_skip (by omega) ?_ | refine hrm_skip (by omega) ?_ | rfl)) rfl rfl rfl (by decide) rfl (by intro h; cases h)) ?_
    refine AOps.nil ?_
    refine AGo.ret ?_
    refine ⟨[_], ⟨⟨_, _, _, _, rfl, rfl, .ptr _ _ _ _ _ _ [[_, _, _]] _ (by (try simp only [hputs]); repeat (first | assumption | exact hput_same _ _ _ | refine hput_skip (by first | rfl | assumption | exact beq_false_of_ne (by omega)) ?_ | refine hputO_skip (by omega) ?_ | refine hrm_skip (by omega) ?_ | rfl)) rfl rfl, rfl⟩, trivial⟩, ?_, rfl⟩
    first | (rw [mrun_fuel hend]; rfl) | (rw [mrun_done hend hI.fin]; rfl) | (rw [mrun_err hend hz]; exact congrArg (fun n : Nat => AV.agg [.int .i64 (mone (fun _ m => m) s t l { r.q.m with steps := r.q.m.steps + 1 }).2.fin, .str ⟨(mone (fun _ m => m) s t l { r.q.m with steps := r.q.m.steps + 1 }).2.out.toArray⟩, .int .i64 (n : Int)]) hst.symm)
  · -- False
    refine AGo.cond_false false rfl rfl ?_
    have hff : decide ((r.q.m.steps : Int) ≥ fuel0 fuel) = false := by rw [fuel0_ge]; exact hb1
    have hlt : r.q.m.steps < fuel.toNat := by have h := hb1; simp at h; omega
    refine AGo.skip ?_
    refine AGo.seq ?_
    refine AGo.region ?_
    refine AOps.s 36 rfl rfl rfl (q_move (.inl rfl) rfl) ?_
    refine AOps.s 37 rfl rfl rfl (q_inc rfl rfl hlt (by simp only [maxLen]; omega)) ?_
    refine AOps.s 11 rfl rfl rfl (q_move (.inr rfl) rfl) ?_
    refine AOps.nil ?_
    refine AGo.seq ?_
    refine AGo.draw mix ?_
    refine DOps.s 38 rfl rfl rfl (q_fieldAddr tok rfl rfl rfl rfl rfl rfl) ?_
    refine DOps.s 39 rfl rfl rfl (q_load tok rfl rfl rfl (by first | exact .loc _ | exact .ptr _ _ _ _ _ _ _ _ rfl rfl rfl) rfl) ?_
    refine DOps.s 40 rfl rfl rfl (q_fieldAddr tok rfl rfl rfl rfl rfl rfl) ?_
    refine DOps.s 41 rfl rfl rfl (q_load tok rfl rfl rfl (by first | exact .loc _ | exact .ptr _ _ _ _ _ _ _ _ rfl rfl rfl) rfl) ?_
    refine DOps.s 42 rfl rfl rfl (q_index_lst tok rfl rfl rfl rfl rfl rfl (Int.natCast_nonneg _) (idx_map h1) rfl) ?_
    refine DOps.s 43 rfl rfl rfl (q_fieldAddr tok rfl rfl rfl rfl rfl rfl) ?_
    refine DOps.s 44 rfl rfl rfl (q_load tok rfl rfl rfl (by first | exact .loc _ | exact .ptr _ _ _ _ _ _ _ _ rfl rfl rfl) rfl) ?_
    refine DOps.s 45 rfl rfl rfl (q_fieldAddr tok rfl rfl rfl rfl rfl rfl) ?_
    refine DOps.s 46 rfl rfl rfl (q_load tok rfl rfl rfl (by first | exact .loc _ | exact .ptr _ _ _ _ _ _ _ _ rfl rfl rfl) rfl) ?_
    refine DOps.s 47 rfl rfl rfl (q_index_lst tok rfl rfl rfl rfl rfl rfl h3 (idx_mapZ h2) rfl) ?_
    refine DOps.s 12 rfl rfl rfl (q_move (.inr rfl) rfl) ?_
    refine DOps.nil (by kernel_rfl) ?_
    refine AGo.seq ?_
    refine AGo.seq ?_
    refine AGo.draw mix ?_
    refine DOps.s 48 rfl rfl rfl (q_fieldAddr tok rfl rfl rfl rfl rfl rfl) ?_
    refine DOps.s 49 rfl rfl rfl (q_load tok rfl rfl rfl (by first | exact .loc _ | exact .ptr _ _ _ _ _ _ _ _ rfl rfl rfl) rfl) ?_
    refine DOps.s 50 rfl rfl rfl (q_move (.inl rfl) rfl) ?_
    refine DOps.s 51 rfl rfl rfl (q_nilCheck rfl rfl rfl) ?_
    refine DOps.s 52 rfl rfl rfl (q_fieldAddr tok rfl rfl rfl rfl rfl rfl) ?_
    refine DOps.s 53 rfl rfl rfl (q_load tok rfl rfl rfl (by first | exact .loc _ | exact .ptr _ _ _ _ _ _ _ _ rfl rfl rfl) rfl) ?_
    refine DOps.s 54 rfl rfl rfl (q_len tok rfl rfl rfl rfl rfl) ?_
    refine DOps.s 55 rfl rfl rfl (q_bin rfl rfl rfl rfl) ?_
    refine DOps.nil (by kernel_rfl) ?_
    refine AGo.split 55 rfl (fun hb2 => ?_) (fun hb2 => ?_)
    · -- True
      refine AGo.cond_true true rfl rfl ?_
      have hat : r.q.now.at' < k.ins.length := by have h := hb2; simp at h; exact h
      obtain ⟨t, ht⟩ := get_of_lt hat
      have htm := List.mem_of_getElem? ht
      have htin := tacIn_of ((hone.2.2.2 k (List.mem_of_getElem? h2)).2 t htm)
      refine AGo.seq ?_
      refine AGo.draw mix ?_
      refine DOps.s 56 rfl rfl rfl (q_move (.inl rfl) rfl) ?_
      refine DOps.s 57 rfl rfl rfl (q_nilCheck rfl rfl rfl) ?_
      refine DOps.s 58 rfl rfl rfl (q_fieldAddr tok rfl rfl rfl rfl rfl rfl) ?_
      refine DOps.s 59 rfl rfl rfl (q_load tok rfl rfl rfl (by first | exact .loc _ | exact .ptr _ _ _ _ _ _ _ _ rfl rfl rfl) rfl) ?_
      refine DOps.s 60 rfl rfl rfl (q_fieldAddr tok rfl rfl rfl rfl rfl rfl) ?_
      refine DOps.s 61 rfl rfl rfl (q_load tok rfl rfl rfl (by first | exact .loc _ | exact .ptr _ _ _ _ _ _ _ _ rfl rfl rfl) rfl) ?_
      refine DOps.s 62 rfl rfl rfl (q_index_lst tok rfl rfl rfl rfl rfl rfl (Int.natCast_nonneg _) (idx_map ht) rfl) ?_
      refine DOps.s 13 rfl rfl rfl (q_move (.inr rfl) rfl) ?_
      refine DOps.nil (by kernel_rfl) ?_
      refine AGo.seq ?_
      refine AGo.region ?_
      refine AOps.s 63 rfl rfl rfl (q_fieldAddr tok rfl rfl rfl rfl rfl rfl) ?_
      refine AOps.s 64 rfl rfl rfl (q_load tok rfl rfl rfl (by first | exact .loc _ | exact .ptr _ _ _ _ _ _ _ _ rfl rfl rfl) rfl) ?_
      refine AOps.s 65 rfl rfl rfl (q_inc rfl rfl hat (by simp only [maxLen]; have hbig : k.ins.length ≤ 140737488355328 := hinsl; omega)) ?_
      refine AOps.s 66 rfl rfl rfl (q_fieldAddr tok rfl rfl rfl rfl rfl rfl) ?_
      refine AOps.w rfl rfl (o_store tok rfl rfl rfl rfl rfl rfl rfl rfl rfl (by decide) rfl (by first | exact fun _ => rfl | (intro h; cases h))) ?_
      refine AOps.nil ?_
      refine AGo.seq ?_
      refine AGo.seq ?_
      refine AGo.region ?_
      refine AOps.s 67 rfl rfl rfl (q_move (.inl rfl) rfl) ?_
      refine AOps.s 68 rfl rfl rfl (q_nilCheck rfl rfl rfl) ?_
      refine AOps.s 69 rfl rfl rfl (q_fieldAddr tok rfl rfl rfl rfl rfl rfl) ?_
      refine AOps.s 70 rfl rfl rfl (q_load tok rfl rfl rfl (by first | exact .loc _ | exact .ptr _ _ _ _ _ _ _ _ rfl rfl rfl) rfl) ?_
      refine AOps.s 71 rfl rfl rfl (q_bin rfl rfl rfl rfl) ?_
      refine AOps.nil ?_
      refine AGo.split 71 rfl (fun hb3 => ?_) (fun hb3 => ?_)
      · -- True
        refine AGo.cond_true true rfl rfl ?_
        have h10 : t.op = 10 := by simpa using hb3
        have hcb := right_calls hbr h1 k (List.mem_of_getElem? h2) t htm h10
        obtain ⟨f0, hf0⟩ : ∃ f0 : Nat, t.base = (f0 : Int) := ⟨t.base.toNat, by omega⟩
        have hf0l : f0 < b.funcs.length := by have := (List.getElem?_eq_some_iff.1 h1).1; omega
        obtain ⟨G, hG⟩ := get_of_lt hf0l
        have honeG := one_spec (hsp.2.2.2 _ G hG)
        have hnrG := nregs_eq hG
        have hf0R : f0 < r.q.R.length := by rw [hRI.inv.rl]; exact hf0l
        have hRl : ∀ l, r.q.R[f0]? = some (some l) → l.length = nregs b f0 := fun l hl => by rw [hnrG]; exact hRI.rl f0 G l hG hl
        have hR2 := RInv.call hbr hRI h1 h2 ht hff h10 hf0 hG
        have hmu2 := mu_less hlt
        refine AGo.seq ?_
        refine AGo.region ?_
        refine AOps.s 72 rfl rfl rfl (q_move (.inl rfl) rfl) ?_
        refine AOps.s 73 rfl rfl rfl (q_load tok rfl rfl rfl (by first | exact .loc _ | exact .ptr _ _ _ _ _ _ _ _ rfl rfl rfl) rfl) ?_
        refine AOps.x 74 rfl rfl rfl (o_litRow tok 8 false rfl rfl rfl rfl rfl rfl (by decide) rfl rfl rfl (by show (List.all [_] _) = true; simp only [List.all_cons, List.all_nil, Bool.and_true]; exact fr_cell1 _ _ _ _ _) (by intro h; cases h) rfl rfl) ?_
        refine AOps.x 75 rfl rfl rfl (o_push tok (es := r.es.map (frC b)) (cs2 := frC b ⟨r.q.now.f, r.q.now.blk, r.q.now.at' + 1⟩) rfl rfl rfl rfl rfl rfl rfl rfl rfl (by rw [List.length_map]) hRI.len rfl rfl (Nat.zero_lt_succ _) (.ref 8 1 0 1 false 4 [frC b ⟨r.q.now.f, r.q.now.blk, r.q.now.at' + 1⟩] (by (try simp only [hputs]); exact hput_same _ _ _) rfl) rfl (by intro h; cases h) (by rw [List.length_map]; show _ * 48 ≤ _; omega) (by rw [List.length_map]; simp only [maxLen]; omega)) ?_
        refine AOps.s 9 rfl rfl rfl (q_move (.inr rfl) rfl) ?_
        refine AOps.nil ?_
        refine AGo.region ?_
        refine AOps.s 76 rfl rfl rfl (q_move (.inl rfl) rfl) ?_
        refine AOps.s 77 rfl rfl rfl (q_move (.inl rfl) rfl) ?_
        refine AOps.s 78 rfl rfl rfl (q_nilCheck rfl rfl rfl) ?_
        refine AOps.s 79 rfl rfl rfl (q_fieldAddr tok rfl rfl rfl rfl rfl rfl) ?_
        refine AOps.s 80 rfl rfl rfl (q_load tok rfl rfl rfl (by first | exact .loc _ | exact .ptr _ _ _ _ _ _ _ _ rfl rfl rfl) rfl) ?_
        refine AOps.call 81 rfl rfl rfl (o_callW rfl Try.func27 (by kernel_rfl) rfl rfl (enter_ok _ b G f0 b.funcs.length 9 (nregs b f0) (.ref 1 b.words.toNat 0 b.words.toNat) (.str s) (.int .i64 (r.q.m.read : Int)) (.ref 3 r.q.m.out.length 0 r.q.m.out.length) r.q.R rfl rfl hRI.inv.rl.symm hf0l hG (by rw [hnrG]; have := honeG.1; omega) (by rw [hnrG]; have := honeG.2.1; omega) (by (try simp only [hputs]); repeat (first | assumption | exact hput_same _ _ _ | refine hput_skip (by first | rfl | assumption | exact beq_false_of_ne (by omega)) ?_ | refine hputO_skip (by omega) ?_ | refine hrm_skip (by omega) ?_ | rfl)) ⟨by decide, by decide, by omega⟩ hRl (by (try simp only [hputs]); repeat (first | exact hg_at _ _ _ | refine hput_skip (by exact beq_false_of_ne (by omega)) ?_)) hf0)) ?_
        refine AOps.w rfl rfl (o_store tok (es := [frC b ⟨r.q.now.f, r.q.now.blk, r.q.now.at' + 1⟩]) rfl rfl rfl rfl rfl (by (try simp only [hputs]); repeat (first | assumption | exact hput_same _ _ _ | refine hput_skip (by first | rfl | assumption | exact beq_false_of_ne (by omega)) ?_ | refine hputO_skip (by omega) ?_ | refine hrm_skip (by omega) ?_ | rfl)) rfl rfl rfl (by decide) (fr_cell1 _ _ _ _ _) (by intro h; cases h)) ?_
        refine AOps.nil ?_
        refine AGo.exit ?_
        exact ⟨⟨⟨⟨f0, 0, 0⟩, r.q.above ++ [⟨r.q.now.f, r.q.now.blk, r.q.now.at' + 1⟩], r.q.R.set f0 (some (List.replicate (nregs b f0) 0)), { r.q.m with steps := r.q.m.steps + 1 }⟩, pushL r.es r.q.above.length ⟨r.q.now.f, r.q.now.blk, r.q.now.at' + 1⟩⟩, DropK.mk' (by repeat (first | exact EDropK.new _ _ | refine EDropK.put ?_ (by first | rfl | exact congrArg (fun z => some (AV.int .i64 z)) hz | exact congrArg (fun n : Nat => some (AV.int .i64 (n : Int))) hst.symm | exact refPush | exact congrArg (fun n => some (AV.ref 7 r.es.length 0 n)) (by simp)) (by first | rfl))) (mAll_drop (mAll_sub (by (try simp only [hputs]); repeat (first | assumption | exact hput_same _ _ _ | refine hput_skip (by first | rfl | exact beq_false_of_ne (by omega)) ?_ | refine hputO_skip (by omega) ?_ | refine hrm_skip (by omega) ?_ | rfl)) (by (try simp only [hputs]); repeat (first | assumption | exact hput_same _ _ _ | refine hput_skip (by first | rfl | exact beq_false_of_ne (by omega)) ?_ | refine hputO_skip (by omega) ?_ | refine hrm_skip (by omega) ?_ | rfl)) (by (try simp only [hputs]); repeat (first | assumption | exact hput_same _ _ _ | refine hput_skip (by first | rfl | exact beq_false_of_ne (by omega)) ?_ | refine hputO_skip (by omega) ?_ | refine hrm_skip (by omega) ?_ | rfl)) (by (try simp only [hputs]); repeat (first | assumption | exact hput_same _ _ _ | refine hput_skip (by first | rfl | exact beq_false_of_ne (by omega)) ?_ | refine hputO_skip (by omega) ?_ | refine hrm_skip (by omega) ?_ | rfl)) (by (try simp only [hputs]); repeat (first | assumption | exact hput_same _ _ _ | refine hput_skip (by first | rfl | exact beq_false_of_ne (by omega)) ?_ | refine hputO_skip (by omega) ?_ | refine hrm_skip (by omega) ?_ | rfl)) (by (try simp only [hputs]); repeat (first | assumption | exact hput_same _ _ _ | refine hput_skip (by first | rfl | exact beq_false_of_ne (by omega)) ?_ | refine hputO_skip (by omega) ?_ | refine hrm_skip (by omega) ?_ | rfl)) (by rw [show frC b ⟨f0, 0, 0⟩ = [.int .i64 t.base, .int .i64 0, .int .i64 0, regA (f0 + 16) (nregs b f0)] by rw [hf0]; rfl]; exact (by (try simp only [hputs]); repeat (first | assumption | exact hput_same _ _ _ | refine hput_skip (by first | rfl | exact beq_false_of_ne (by omega)) ?_ | refine hputO_skip (by omega) ?_ | refine hrm_skip (by omega) ?_ | rfl))) (by rw [pushL_map]; exact (by (try simp only [hputs]); repeat (first | assumption | exact hput_same _ _ _ | refine hput_skip (by first | rfl | exact beq_false_of_ne (by omega)) ?_ | refine hputO_skip (by omega) ?_ | refine hrm_skip (by omega) ?_ | rfl))) (fun g => by (try simp only [hputs]); repeat (refine hput_skip (by exact beq_false_of_ne (by omega)) ?_); exact ar_zero' hf0R hRl (fun g => by repeat (first | exact hg_at _ _ _ | refine hput_skip (by exact beq_false_of_ne (by omega)) ?_ | refine hrm_skip (by omega) ?_)) g))), hR2, hmu2⟩
      · -- False
        refine AGo.cond_false false rfl rfl ?_
        have h10 : t.op ≠ 10 := by simpa using hb3
        have hposn : 0 < nregs b r.q.now.f := by have := tac_regs htin h10; rw [hnr]; exact this
        have hMr2 : mAll b s r.q.m r.q.R r.q.now r.es (r.q.now.f + 16) = some (.row true 1 (regCells l)) := by unfold mAll; rw [hg_at, h5, Option.getD_some, regO_some (by rw [h6, ← hnr]; exact hposn)]
        have hmg := mone_good (call := fun _ m => m) (s := s) (fun _ _ h => h) t (hbw F (List.mem_of_getElem? h1) k (List.mem_of_getElem? h2) t htm) h7 (good_step hRI.inv.good)
        have hmlen := hmg.2.1
        have hlpos : 0 < l.length := by rw [h6, ← hnr]; exact hposn
        refine AGo.seq ?_
        refine AGo.region ?_
        refine AOps.s 82 rfl rfl rfl (q_move (.inl rfl) rfl) ?_
        refine AOps.s 83 rfl rfl rfl (q_move (.inl rfl) rfl) ?_
        refine AOps.s 84 rfl rfl rfl (q_fieldAddr tok rfl rfl rfl rfl rfl rfl) ?_
        refine AOps.s 85 rfl rfl rfl (q_load tok rfl rfl rfl (by first | exact .loc _ | exact .ptr _ _ _ _ _ _ _ _ rfl rfl rfl) rfl) ?_
        refine AOps.call 86 rfl rfl rfl (o_callW rfl Try.func28 (by kernel_rfl) rfl rfl (do_ok' _ r.q.now.f b.words.toNat (nregs b r.q.now.f) r.q.now.f (funcsAV b.funcs) (.ref 2 b.funcs.length 0 b.funcs.length) s t l { r.q.m with steps := r.q.m.steps + 1 } (by rw [hnr]; exact htin) h7 (by rw [hnr, h6]) (good_step hRI.inv.good) hRI.inv.fin hw0 hs (hbw F (List.mem_of_getElem? h1) k (List.mem_of_getElem? h2) t (List.mem_of_getElem? ht)) h10 hposn (by (try simp only [hputs]); repeat (first | assumption | exact hput_same _ _ _ | refine hput_skip (by first | rfl | assumption | exact beq_false_of_ne (by omega)) ?_ | refine hputO_skip (by omega) ?_ | refine hrm_skip (by omega) ?_ | rfl)) (by (try simp only [hputs]); repeat (first | assumption | exact hput_same _ _ _ | refine hput_skip (by first | rfl | assumption | exact beq_false_of_ne (by omega)) ?_ | refine hputO_skip (by omega) ?_ | refine hrm_skip (by omega) ?_ | rfl)) (by (try simp only [hputs]); repeat (first | assumption | exact hput_same _ _ _ | refine hput_skip (by first | rfl | assumption | exact beq_false_of_ne (by omega)) ?_ | refine hputO_skip (by omega) ?_ | refine hrm_skip (by omega) ?_ | rfl)) hMr2)) ?_
        refine AOps.s 10 rfl rfl rfl (q_move (.inr rfl) rfl) ?_
        refine AOps.nil ?_
        refine AGo.seq ?_
        refine AGo.region ?_
        refine AOps.s 87 rfl rfl rfl (q_move (.inl rfl) rfl) ?_
        refine AOps.s 88 rfl rfl rfl (q_bin rfl rfl rfl rfl) ?_
        refine AOps.nil ?_
        refine AGo.split 88 rfl (fun hb4 => ?_) (fun hb4 => ?_)
        · -- True
          refine AGo.cond_true true rfl rfl ?_
          let mE : Mach := (mone (fun _ m => m) s t l { r.q.m with steps := r.q.m.steps + 1 }).2
          have hz : (mone (fun _ m => m) s t l { r.q.m with steps := r.q.m.steps + 1 }).2.fin ≠ 0 := by simpa using hb4
          have hst : (mone (fun _ m => m) s t l { r.q.m with steps := r.q.m.steps + 1 }).2.steps = r.q.m.steps + 1 := mone_nostep h10
          have hend := hRI.inv.insEnd h1 h2 ht h5 hff h10 hz
          refine AGo.exit ?_
          refine AGo.seq ?_
          refine AGo.ghost (.freezeCell 0 0 5 3 (es0 := [boxC (funcsAV b.funcs) (.ref 2 b.funcs.length 0 b.funcs.length) b.words.toNat s mE]) (es := byteCells mE.out) (by (try simp only [hputs]); repeat (first | assumption | exact hput_same _ _ _ | refine hput_skip (by first | rfl | assumption | exact beq_false_of_ne (by omega)) ?_ | refine hputO_skip (by omega) ?_ | refine hrm_skip (by omega) ?_ | rfl)) rfl rfl (by (try simp only [hputs]); repeat (first | assumption | exact hput_same _ _ _ | refine hput_skip (by first | rfl | assumption | exact beq_false_of_ne (by omega)) ?_ | refine hputO_skip (by omega) ?_ | refine hrm_skip (by omega) ?_ | rfl)) (by simp [byteCells]) (by decide)) ?_
          refine AGo.region ?_
          refine AOps.s 139 rfl rfl rfl (q_move (.inl rfl) rfl) ?_
          refine AOps.s 140 rfl rfl rfl (q_move (.inl rfl) rfl) ?_
          refine AOps.s 141 rfl rfl rfl (q_nilCheck rfl rfl rfl) ?_
          refine AOps.s 142 rfl rfl rfl (q_fieldAddr tok rfl rfl rfl rfl rfl rfl) ?_
          refine AOps.s 143 rfl rfl rfl (q_load tok rfl rfl rfl (by first | exact .loc _ | exact .ptr _ _ _ _ _ _ _ _ rfl rfl rfl) rfl) ?_
          refine AOps.s 144 rfl rfl rfl (q_bytesStr (l := mE.out) tok rfl (by show some (AV.lst false _) = _; rw [List.drop_zero, List.take_of_length_le (by simp [byteCells])]) rfl rfl rfl rfl rfl rfl) ?_
          refine AOps.s 145 rfl rfl rfl (q_move (.inl rfl) rfl) ?_
          refine AOps.s 146 rfl rfl rfl (q_build tok rfl rfl rfl rfl rfl (by decide) rfl rfl rfl) ?_
          refine AOps.w rfl rfl (o_store tok (es := [[.int .i64 0, .str ⟨#[]⟩, .int .i64 0]]) rfl rfl rfl rfl rfl (by (try simp only [hputs]); repeat (first | assumption | exact hput_same _ _ _ | refine hput_skip (by first | rfl | assumption | exact beq_false_of_ne (by omega)) ?_ | refine hputO_skip (by omega) ?_ | refine hrm_skip (by omega) ?_ | rfl)) rfl rfl rfl (by decide) rfl (by intro h; cases h)) ?_
          refine AOps.nil ?_
          refine AGo.ret ?_
          refine ⟨[_], ⟨⟨_, _, _, _, rfl, rfl, .ptr _ _ _ _ _ _ [[_, _, _]] _ (by (try simp only [hputs]); repeat (first | assumption | exact hput_same _ _ _ | refine hput_skip (by first | rfl | assumption | exact beq_false_of_ne (by omega)) ?_ | refine hputO_skip (by omega) ?_ | refine hrm_skip (by omega) ?_ | rfl)) rfl rfl, rfl⟩, trivial⟩, ?_, rfl⟩
          first | (rw [mrun_fuel hend]; rfl) | (rw [mrun_done hend hI.fin]; rfl) | (rw [mrun_err hend hz]; exact congrArg (fun n : Nat => AV.agg [.int .i64 (mone (fun _ m => m) s t l { r.q.m with steps := r.q.m.steps + 1 }).2.fin, .str ⟨(mone (fun _ m => m) s t l { r.q.m with steps := r.q.m.steps + 1 }).2.out.toArray⟩, .int .i64 (n : Int)]) hst.symm)
        · -- False
          refine AGo.cond_false false rfl rfl ?_
          have hz : (mone (fun _ m => m) s t l { r.q.m with steps := r.q.m.steps + 1 }).2.fin = 0 := by simpa using hb4
          have hst : (mone (fun _ m => m) s t l { r.q.m with steps := r.q.m.steps + 1 }).2.steps = r.q.m.steps + 1 := mone_nostep h10
          have hR2 := RInv.ins hRI h1 h2 ht (hbw F (List.mem_of_getElem? h1) k (List.mem_of_getElem? h2) t htm) h5 hff h10 hz h6
          have hmu2 := mu_lessE hlt (mone_nostep (s := s) (t := t) (regs := l) (m := { r.q.m with steps := r.q.m.steps + 1 }) h10)
          refine AGo.skip ?_
          refine AGo.exit ?_
          exact ⟨⟨⟨⟨r.q.now.f, r.q.now.blk, r.q.now.at' + 1⟩, r.q.above, r.q.R.set r.q.now.f (some (mone (fun _ m => m) s t l { r.q.m with steps := r.q.m.steps + 1 }).1), (mone (fun _ m => m) s t l { r.q.m with steps := r.q.m.steps + 1 }).2⟩, r.es⟩, DropK.mk' (by repeat (first | exact EDropK.new _ _ | refine EDropK.put ?_ (by first | rfl | exact congrArg (fun z => some (AV.int .i64 z)) hz | exact congrArg (fun n : Nat => some (AV.int .i64 (n : Int))) hst.symm | exact refPush | exact congrArg (fun n => some (AV.ref 7 r.es.length 0 n)) (by simp)) (by first | rfl))) (mAll_drop (mAll_sub (by (try simp only [hputs]); repeat (first | assumption | exact hput_same _ _ _ | refine hput_skip (by first | rfl | exact beq_false_of_ne (by omega)) ?_ | refine hputO_skip (by omega) ?_ | refine hrm_skip (by omega) ?_ | rfl)) (by (try simp only [hputs]); repeat (first | assumption | exact hput_same _ _ _ | refine hput_skip (by first | rfl | exact beq_false_of_ne (by omega)) ?_ | refine hputO_skip (by omega) ?_ | refine hrm_skip (by omega) ?_ | rfl)) (by rw [rowTab_same h5 hmlen]; (try simp only [hputs]); repeat (first | exact hput_same _ _ _ | refine hput_skip (by first | rfl | exact beq_false_of_ne (by omega)) ?_ | rfl)) (by (try simp only [hputs]); repeat (first | assumption | exact hput_same _ _ _ | refine hput_skip (by first | rfl | exact beq_false_of_ne (by omega)) ?_ | refine hputO_skip (by omega) ?_ | refine hrm_skip (by omega) ?_ | rfl)) (by (try simp only [hputs]); repeat (first | assumption | exact hput_same _ _ _ | refine hput_skip (by first | rfl | exact beq_false_of_ne (by omega)) ?_ | refine hputO_skip (by omega) ?_ | refine hrm_skip (by omega) ?_ | rfl)) (by (try simp only [hputs]); repeat (first | assumption | exact hput_same _ _ _ | refine hput_skip (by first | rfl | exact beq_false_of_ne (by omega)) ?_ | refine hputO_skip (by omega) ?_ | refine hrm_skip (by omega) ?_ | rfl)) (by (try simp only [hputs]); repeat (first | assumption | exact hput_same _ _ _ | refine hput_skip (by first | rfl | exact beq_false_of_ne (by omega)) ?_ | refine hputO_skip (by omega) ?_ | refine hrm_skip (by omega) ?_ | rfl)) (by (try simp only [hputs]); repeat (first | assumption | exact hput_same _ _ _ | refine hput_skip (by first | rfl | exact beq_false_of_ne (by omega)) ?_ | refine hputO_skip (by omega) ?_ | refine hrm_skip (by omega) ?_ | rfl)) (ar_set (h := mAll b s r.q.m r.q.R r.q.now r.es) hflt (by rw [hmlen]; omega) (by (try simp only [hputs]); exact hput_same _ _ _) (fun g hg => by simp only [hputs]; rw [hput_ne _ _ (by omega), hput_ne _ _ (by omega), hput_ne _ _ (by omega), hput_ne _ _ (by omega), hput_ne _ _ (by omega)]) (hg_at _ _)))), hR2, hmu2⟩
    · -- False
      refine AGo.cond_false false rfl rfl ?_
      have hat : k.ins.length ≤ r.q.now.at' := by have h := hb2; simp at h; exact h
      refine AGo.skip ?_
      refine AGo.seq ?_
      refine AGo.region ?_
      refine AOps.s 89 rfl rfl rfl (q_move (.inl rfl) rfl) ?_
      refine AOps.s 90 rfl rfl rfl (q_nilCheck rfl rfl rfl) ?_
      refine AOps.s 91 rfl rfl rfl (q_fieldAddr tok rfl rfl rfl rfl rfl rfl) ?_
      refine AOps.s 92 rfl rfl rfl (q_load tok rfl rfl rfl (by first | exact .loc _ | exact .ptr _ _ _ _ _ _ _ _ rfl rfl rfl) rfl) ?_
      refine AOps.nil ?_
      refine AGo.block ?_
      refine AGo.seq ?_
      refine AGo.region ?_
      refine AOps.s 94 rfl rfl rfl (q_bin rfl rfl rfl rfl) ?_
      refine AOps.s 93 rfl rfl rfl (q_move (.inr rfl) rfl) ?_
      refine AOps.nil ?_
      refine AGo.split 93 rfl (fun hb5 => ?_) (fun hb5 => ?_)
      · -- True
        refine AGo.cond_true true rfl rfl ?_
        have hf1 : k.fin = 1 := by simpa using hb5
        have hR2 := RInv.jump hbr hRI h1 h2 hat h5 hff (by rw [hf1]; rfl) (next1 hf1 l)
        have hmu2 := mu_less hlt
        refine AGo.region ?_
        refine AOps.s 95 rfl rfl rfl (q_move (.inl rfl) rfl) ?_
        refine AOps.s 96 rfl rfl rfl (q_nilCheck rfl rfl rfl) ?_
        refine AOps.s 97 rfl rfl rfl (q_fieldAddr tok rfl rfl rfl rfl rfl rfl) ?_
        refine AOps.s 98 rfl rfl rfl (q_load tok rfl rfl rfl (by first | exact .loc _ | exact .ptr _ _ _ _ _ _ _ _ rfl rfl rfl) rfl) ?_
        refine AOps.s 99 rfl rfl rfl (q_fieldAddr tok rfl rfl rfl rfl rfl rfl) ?_
        refine AOps.w rfl rfl (o_store tok rfl rfl rfl rfl rfl rfl rfl rfl rfl (by decide) rfl (by first | exact fun _ => rfl | (intro h; cases h))) ?_
        refine AOps.s 100 rfl rfl rfl (q_fieldAddr tok rfl rfl rfl rfl rfl rfl) ?_
        refine AOps.w rfl rfl (o_store tok rfl rfl rfl rfl rfl rfl rfl rfl rfl (by decide) rfl (by first | exact fun _ => rfl | (intro h; cases h))) ?_
        refine AOps.nil ?_
        exact ⟨⟨⟨⟨r.q.now.f, k.to, 0⟩, r.q.above, r.q.R, { r.q.m with steps := r.q.m.steps + 1 }⟩, r.es⟩, DropK.mk' (by repeat (first | exact EDropK.new _ _ | refine EDropK.put ?_ (by first | rfl | exact congrArg (fun z => some (AV.int .i64 z)) hz | exact congrArg (fun n : Nat => some (AV.int .i64 (n : Int))) hst.symm | exact refPush | exact congrArg (fun n => some (AV.ref 7 r.es.length 0 n)) (by simp)) (by first | rfl))) (mAll_drop (mAll_sub (by (try simp only [hputs]); repeat (first | assumption | exact hput_same _ _ _ | refine hput_skip (by first | rfl | exact beq_false_of_ne (by omega)) ?_ | refine hputO_skip (by omega) ?_ | refine hrm_skip (by omega) ?_ | rfl)) (by (try simp only [hputs]); repeat (first | assumption | exact hput_same _ _ _ | refine hput_skip (by first | rfl | exact beq_false_of_ne (by omega)) ?_ | refine hputO_skip (by omega) ?_ | refine hrm_skip (by omega) ?_ | rfl)) (by (try simp only [hputs]); repeat (first | assumption | exact hput_same _ _ _ | refine hput_skip (by first | rfl | exact beq_false_of_ne (by omega)) ?_ | refine hputO_skip (by omega) ?_ | refine hrm_skip (by omega) ?_ | rfl)) (by (try simp only [hputs]); repeat (first | assumption | exact hput_same _ _ _ | refine hput_skip (by first | rfl | exact beq_false_of_ne (by omega)) ?_ | refine hputO_skip (by omega) ?_ | refine hrm_skip (by omega) ?_ | rfl)) (by (try simp only [hputs]); repeat (first | assumption | exact hput_same _ _ _ | refine hput_skip (by first | rfl | exact beq_false_of_ne (by omega)) ?_ | refine hputO_skip (by omega) ?_ | refine hrm_skip (by omega) ?_ | rfl)) (by (try simp only [hputs]); repeat (first | assumption | exact hput_same _ _ _ | refine hput_skip (by first | rfl | exact beq_false_of_ne (by omega)) ?_ | refine hputO_skip (by omega) ?_ | refine hrm_skip (by omega) ?_ | rfl)) (by (try simp only [hputs]); repeat (first | assumption | exact hput_same _ _ _ | refine hput_skip (by first | rfl | exact beq_false_of_ne (by omega)) ?_ | refine hputO_skip (by omega) ?_ | refine hrm_skip (by omega) ?_ | rfl)) (by (try simp only [hputs]); repeat (first | assumption | exact hput_same _ _ _ | refine hput_skip (by first | rfl | exact beq_false_of_ne (by omega)) ?_ | refine hputO_skip (by omega) ?_ | refine hrm_skip (by omega) ?_ | rfl)) (fun g => (by (try simp only [hputs]); repeat (first | exact hg_at _ _ _ | refine hput_skip (by exact beq_false_of_ne (by omega)) ?_))))), hR2, hmu2⟩
      · -- False
        refine AGo.cond_false false rfl rfl ?_
        have hn1 : ¬ k.fin = 1 := by simpa using hb5
        refine AGo.seq ?_
        refine AGo.region ?_
        refine AOps.s 102 rfl rfl rfl (q_bin rfl rfl rfl rfl) ?_
        refine AOps.s 101 rfl rfl rfl (q_move (.inr rfl) rfl) ?_
        refine AOps.nil ?_
        refine AGo.split 101 rfl (fun hb6 => ?_) (fun hb6 => ?_)
        · -- True
          refine AGo.cond_true true rfl rfl ?_
          have hf2 : k.fin = 2 := by simpa using hb6
          have hv := ends_v (hone.2.2.2 k (List.mem_of_getElem? h2)).1 (by rw [hf2]; rfl)
          have hposn : 0 < nregs b r.q.now.f := by rw [hnr]; omega
          have hMr : mAll b s r.q.m r.q.R r.q.now r.es (r.q.now.f + 16) = some (.row true 1 (regCells l)) := by unfold mAll; rw [hg_at, h5, Option.getD_some, regO_some (by rw [h6, ← hnr]; exact hposn)]
          refine AGo.seq ?_
          refine AGo.region ?_
          refine AOps.s 103 rfl rfl rfl (q_move (.inl rfl) rfl) ?_
          refine AOps.s 104 rfl rfl rfl (q_nilCheck rfl rfl rfl) ?_
          refine AOps.s 105 rfl rfl rfl (q_fieldAddr tok rfl rfl rfl rfl rfl rfl) ?_
          refine AOps.s 106 rfl rfl rfl (q_load tok rfl rfl rfl (by first | exact .loc _ | exact .ptr _ _ _ _ _ _ _ _ rfl rfl rfl) rfl) ?_
          refine AOps.s 14 rfl rfl rfl (q_move (.inr rfl) rfl) ?_
          refine AOps.nil ?_
          refine AGo.seq ?_
          refine AGo.seq ?_
          refine AGo.draw mix ?_
          refine DOps.s 107 rfl rfl rfl (q_fieldAddr tok rfl rfl rfl rfl rfl rfl) ?_
          refine DOps.s 108 rfl rfl rfl (q_load tok rfl rfl rfl (by first | exact .loc _ | exact .ptr _ _ _ _ _ _ _ _ rfl rfl rfl) rfl) ?_
          refine DOps.s 109 rfl rfl rfl (q_move (.inl rfl) rfl) ?_
          refine DOps.s 110 rfl rfl rfl (q_nilCheck rfl rfl rfl) ?_
          refine DOps.s 111 rfl rfl rfl (q_fieldAddr tok rfl rfl rfl rfl rfl rfl) ?_
          refine DOps.s 112 rfl rfl rfl (q_load tok rfl rfl rfl (by first | exact .loc _ | exact .ptr _ _ _ _ _ _ _ _ rfl rfl rfl) rfl) ?_
          refine DOps.s 113 rfl rfl rfl (q_index_ref tok (es := regCells l) rfl (congrArg some (regA_pos hposn)) rfl rfl rfl rfl hMr (by rw [regCells_len, hnr, h6]) rfl hv.1 (by have := hv.2; omega)) ?_
          refine DOps.s 114 rfl rfl rfl (q_load tok rfl rfl rfl (.ptr _ _ _ _ _ _ (regCells l) _ hMr (by rw [regCells_len, hnr, h6]) (rcell (by have := hv; omega))) rfl) ?_
          refine DOps.s 115 rfl rfl rfl (q_bin rfl rfl rfl rfl) ?_
          refine DOps.nil (by kernel_rfl) ?_
          refine AGo.join (γ := Int) (fun to => ⟨147, (eput (eput (eput (eput (eput (eput (eput (eput (eput (eput eNew 1 (.str s)) 2 (.int .i64 fuel)) 3 (.ptr 4 1 0 0)) 6 (.ptr 5 1 0 0)) 7 (.ptr 0 1 0 0)) 8 (.ptr 6 1 0 0)) 9 (.ref 7 r.es.length 0 r.q.above.length)) 10 (.int .i64 0)) 11 (.int .i64 ((r.q.m.steps + 1 : Nat) : Int))) 14 (.int .i64 to)), (mAll b s r.q.m r.q.R r.q.now r.es)⟩) (fun to => k.next l = to) ?_ ?_
          · -- to the join
            refine AGo.split 115 rfl (fun hb7 => ?_) (fun hb7 => ?_)
            · -- True
              refine AGo.cond_true true rfl rfl ?_
              have hnx := next2t hf2 hb7
              refine AGo.region ?_
              refine AOps.s 116 rfl rfl rfl (q_move (.inl rfl) rfl) ?_
              refine AOps.s 117 rfl rfl rfl (q_nilCheck rfl rfl rfl) ?_
              refine AOps.s 118 rfl rfl rfl (q_fieldAddr tok rfl rfl rfl rfl rfl rfl) ?_
              refine AOps.s 119 rfl rfl rfl (q_load tok rfl rfl rfl (by first | exact .loc _ | exact .ptr _ _ _ _ _ _ _ _ rfl rfl rfl) rfl) ?_
              refine AOps.s 14 rfl rfl rfl (q_move (.inr rfl) rfl) ?_
              refine AOps.nil ?_
              exact ⟨k.to, Sub.mk' (by repeat (first | exact ESub.new _ | refine ESub.put ?_ (by rfl))) (by repeat (first | exact HSub.refl _ | exact HSub.none _ | exact HSub.from_new _ | exact HSub.from_from (by first | decide | omega | (dsimp only; omega)) | refine HSub.put ?_ (by rfl) | refine HSub.from_put ?_ (by first | decide | omega | (dsimp only; omega)) | refine HSub.from_rm ?_ (by decide))), hnx⟩
            · -- False
              refine AGo.cond_false false rfl rfl ?_
              have hnx := next2f hf2 hb7
              refine AGo.skip ?_
              exact ⟨k.els, Sub.mk' (by repeat (first | exact ESub.new _ | refine ESub.put ?_ (by rfl))) (by repeat (first | exact HSub.refl _ | exact HSub.none _ | exact HSub.from_new _ | exact HSub.from_from (by first | decide | omega | (dsimp only; omega)) | refine HSub.put ?_ (by rfl) | refine HSub.from_put ?_ (by first | decide | omega | (dsimp only; omega)) | refine HSub.from_rm ?_ (by decide))), hnx⟩
          intro to hnx
          refine AGo.region ?_
          have hR2 := RInv.jump hbr hRI h1 h2 hat h5 hff (by rw [hf2]; rfl) hnx
          have hmu2 := mu_less hlt
          refine AOps.s 120 rfl rfl rfl (q_move (.inl rfl) rfl) ?_
          refine AOps.s 121 rfl rfl rfl (q_fieldAddr tok rfl rfl rfl rfl rfl rfl) ?_
          refine AOps.w rfl rfl (o_store tok rfl rfl rfl rfl rfl rfl rfl rfl rfl (by decide) rfl (by first | exact fun _ => rfl | (intro h; cases h))) ?_
          refine AOps.s 122 rfl rfl rfl (q_fieldAddr tok rfl rfl rfl rfl rfl rfl) ?_
          refine AOps.w rfl rfl (o_store tok rfl rfl rfl rfl rfl rfl rfl rfl rfl (by decide) rfl (by first | exact fun _ => rfl | (intro h; cases h))) ?_
          refine AOps.nil ?_
          exact ⟨⟨⟨⟨r.q.now.f, to, 0⟩, r.q.above, r.q.R, { r.q.m with steps := r.q.m.steps + 1 }⟩, r.es⟩, DropK.mk' (by repeat (first | exact EDropK.new _ _ | refine EDropK.put ?_ (by first | rfl | exact congrArg (fun z => some (AV.int .i64 z)) hz | exact congrArg (fun n : Nat => some (AV.int .i64 (n : Int))) hst.symm | exact refPush | exact congrArg (fun n => some (AV.ref 7 r.es.length 0 n)) (by simp)) (by first | rfl))) (mAll_drop (mAll_sub (by (try simp only [hputs]); repeat (first | assumption | exact hput_same _ _ _ | refine hput_skip (by first | rfl | exact beq_false_of_ne (by omega)) ?_ | refine hputO_skip (by omega) ?_ | refine hrm_skip (by omega) ?_ | rfl)) (by (try simp only [hputs]); repeat (first | assumption | exact hput_same _ _ _ | refine hput_skip (by first | rfl | exact beq_false_of_ne (by omega)) ?_ | refine hputO_skip (by omega) ?_ | refine hrm_skip (by omega) ?_ | rfl)) (by (try simp only [hputs]); repeat (first | assumption | exact hput_same _ _ _ | refine hput_skip (by first | rfl | exact beq_false_of_ne (by omega)) ?_ | refine hputO_skip (by omega) ?_ | refine hrm_skip (by omega) ?_ | rfl)) (by (try simp only [hputs]); repeat (first | assumption | exact hput_same _ _ _ | refine hput_skip (by first | rfl | exact beq_false_of_ne (by omega)) ?_ | refine hputO_skip (by omega) ?_ | refine hrm_skip (by omega) ?_ | rfl)) (by (try simp only [hputs]); repeat (first | assumption | exact hput_same _ _ _ | refine hput_skip (by first | rfl | exact beq_false_of_ne (by omega)) ?_ | refine hputO_skip (by omega) ?_ | refine hrm_skip (by omega) ?_ | rfl)) (by (try simp only [hputs]); repeat (first | assumption | exact hput_same _ _ _ | refine hput_skip (by first | rfl | exact beq_false_of_ne (by omega)) ?_ | refine hputO_skip (by omega) ?_ | refine hrm_skip (by omega) ?_ | rfl)) (by (try simp only [hputs]); repeat (first | assumption | exact hput_same _ _ _ | refine hput_skip (by first | rfl | exact beq_false_of_ne (by omega)) ?_ | refine hputO_skip (by omega) ?_ | refine hrm_skip (by omega) ?_ | rfl)) (by (try simp only [hputs]); repeat (first | assumption | exact hput_same _ _ _ | refine hput_skip (by first | rfl | exact beq_false_of_ne (by omega)) ?_ | refine hputO_skip (by omega) ?_ | refine hrm_skip (by omega) ?_ | rfl)) (fun g => (by (try simp only [hputs]); repeat (first | exact hg_at _ _ _ | refine hput_skip (by exact beq_false_of_ne (by omega)) ?_))))), hR2, hmu2⟩
        · -- False
          refine AGo.cond_false false rfl rfl ?_
          have hn2 : ¬ k.fin = 2 := by simpa using hb6
          refine AGo.seq ?_
          refine AGo.region ?_
          refine AOps.s 124 rfl rfl rfl (q_bin rfl rfl rfl rfl) ?_
          refine AOps.s 123 rfl rfl rfl (q_move (.inr rfl) rfl) ?_
          refine AOps.nil ?_
          refine AGo.split 123 rfl (fun hb8 => ?_) (fun hb8 => ?_)
          · -- True
            refine AGo.cond_true true rfl rfl ?_
            have hf3 : k.fin = 3 := by simpa using hb8
            refine AGo.seq ?_
            refine AGo.seq ?_
            refine AGo.region ?_
            refine AOps.s 125 rfl rfl rfl (q_move (.inl rfl) rfl) ?_
            refine AOps.s 126 rfl rfl rfl (q_len tok rfl rfl rfl rfl rfl) ?_
            refine AOps.s 127 rfl rfl rfl (q_bin rfl rfl rfl rfl) ?_
            refine AOps.nil ?_
            refine AGo.split 127 rfl (fun hb9 => ?_) (fun hb9 => ?_)
            · -- True
              refine AGo.cond_true true rfl rfl ?_
              let mE : Mach := r.q.m
              have habe : r.q.above = [] := by have h := hb9; simp at h; exact h
              have hend := hRI.inv.done h1 h2 hat hff (by rw [hf3]; rfl) habe
              refine AGo.seq ?_
              refine AGo.region ?_
              refine AOps.s 10 rfl rfl rfl (q_move (.inr rfl) rfl) ?_
              refine AOps.nil ?_
              refine AGo.exit ?_
              refine AGo.seq ?_
              refine AGo.ghost (.freezeCell 0 0 5 3 (es0 := [boxC (funcsAV b.funcs) (.ref 2 b.funcs.length 0 b.funcs.length) b.words.toNat s mE]) (es := byteCells mE.out) (by (try simp only [hputs]); repeat (first | assumption | exact hput_same _ _ _ | refine hput_skip (by first | rfl | assumption | exact beq_false_of_ne (by omega)) ?_ | refine hputO_skip (by omega) ?_ | refine hrm_skip (by omega) ?_ | rfl)) rfl rfl (by (try simp only [hputs]); repeat (first | assumption | exact hput_same _ _ _ | refine hput_skip (by first | rfl | assumption | exact beq_false_of_ne (by omega)) ?_ | refine hputO_skip (by omega) ?_ | refine hrm_skip (by omega) ?_ | rfl)) (by simp [byteCells]) (by decide)) ?_
              refine AGo.region ?_
              refine AOps.s 139 rfl rfl rfl (q_move (.inl rfl) rfl) ?_
              refine AOps.s 140 rfl rfl rfl (q_move (.inl rfl) rfl) ?_
              refine AOps.s 141 rfl rfl rfl (q_nilCheck rfl rfl rfl) ?_
              refine AOps.s 142 rfl rfl rfl (q_fieldAddr tok rfl rfl rfl rfl rfl rfl) ?_
              refine AOps.s 143 rfl rfl rfl (q_load tok rfl rfl rfl (by first | exact .loc _ | exact .ptr _ _ _ _ _ _ _ _ rfl rfl rfl) rfl) ?_
              refine AOps.s 144 rfl rfl rfl (q_bytesStr (l := mE.out) tok rfl (by show some (AV.lst false _) = _; rw [List.drop_zero, List.take_of_length_le (by simp [byteCells])]) rfl rfl rfl rfl rfl rfl) ?_
              refine AOps.s 145 rfl rfl rfl (q_move (.inl rfl) rfl) ?_
              refine AOps.s 146 rfl rfl rfl (q_build tok rfl rfl rfl rfl rfl (by decide) rfl rfl rfl) ?_
              refine AOps.w rfl rfl (o_store tok (es := [[.int .i64 0, .str ⟨#[]⟩, .int .i64 0]]) rfl rfl rfl rfl rfl (by (try simp only [hputs]); repeat (first | assumption | exact hput_same _ _ _ | refine hput_skip (by first | rfl | assumption | exact beq_false_of_ne (by omega)) ?_ | refine hputO_skip (by omega) ?_ | refine hrm_skip (by omega) ?_ | rfl)) rfl rfl rfl (by decide) rfl (by intro h; cases h)) ?_
              refine AOps.nil ?_
              refine AGo.ret ?_
              refine ⟨[_], ⟨⟨_, _, _, _, rfl, rfl, .ptr _ _ _ _ _ _ [[_, _, _]] _ (by (try simp only [hputs]); repeat (first | assumption | exact hput_same _ _ _ | refine hput_skip (by first | rfl | assumption | exact beq_false_of_ne (by omega)) ?_ | refine hputO_skip (by omega) ?_ | refine hrm_skip (by omega) ?_ | rfl)) rfl rfl, rfl⟩, trivial⟩, ?_, rfl⟩
              first | (rw [mrun_fuel hend]; rfl) | (rw [mrun_done hend hI.fin]; rfl) | (rw [mrun_err hend hz]; exact congrArg (fun n : Nat => AV.agg [.int .i64 (mone (fun _ m => m) s t l { r.q.m with steps := r.q.m.steps + 1 }).2.fin, .str ⟨(mone (fun _ m => m) s t l { r.q.m with steps := r.q.m.steps + 1 }).2.out.toArray⟩, .int .i64 (n : Int)]) hst.symm)
            · -- False
              refine AGo.cond_false false rfl rfl ?_
              have hab : 0 < r.q.above.length := List.length_pos_iff.2 (by have h := hb9; simp at h; exact h)
              obtain ⟨fr, hfr⟩ := getLast_of hab
              have hfr2 := RInv.top hRI hfr
              have hR2 := RInv.ret hRI h1 h2 hat hff (by rw [hf3]; rfl) hfr
              have hmu2 := mu_less hlt
              refine AGo.skip ?_
              refine AGo.seq ?_
              refine AGo.region ?_
              refine AOps.s 128 rfl rfl rfl (q_move (.inl rfl) rfl) ?_
              refine AOps.s 129 rfl rfl rfl (q_move (.inl rfl) rfl) ?_
              refine AOps.s 130 rfl rfl rfl (q_len tok rfl rfl rfl rfl rfl) ?_
              refine AOps.s 131 rfl rfl rfl (q_bin (r := .int .i64 ((r.q.above.length - 1 : Nat) : Int)) rfl rfl rfl (len_pred hab (by omega))) ?_
              refine AOps.s 132 rfl rfl rfl (q_index_ref tok (es := r.es.map (frC b)) rfl rfl rfl rfl rfl rfl rfl (by rw [List.length_map]) rfl (Int.natCast_nonneg _) (by omega)) ?_
              refine AOps.s 133 rfl rfl rfl (q_load tok rfl rfl rfl (.ptr _ _ _ _ _ _ (r.es.map (frC b)) (frC b fr) rfl (by rw [List.length_map]) hfr2) rfl) ?_
              refine AOps.w rfl rfl (o_store tok (es := [frC b r.q.now]) rfl rfl rfl rfl rfl (by (try simp only [hputs]); repeat (first | assumption | exact hput_same _ _ _ | refine hput_skip (by first | rfl | assumption | exact beq_false_of_ne (by omega)) ?_ | refine hputO_skip (by omega) ?_ | refine hrm_skip (by omega) ?_ | rfl)) rfl rfl rfl (by decide) (fr_cell1 _ _ _ _ _) (by intro h; cases h)) ?_
              refine AOps.nil ?_
              refine AGo.region ?_
              refine AOps.s 134 rfl rfl rfl (q_move (.inl rfl) rfl) ?_
              refine AOps.s 135 rfl rfl rfl (q_move (.inl rfl) rfl) ?_
              refine AOps.s 136 rfl rfl rfl (q_len tok rfl rfl rfl rfl rfl) ?_
              refine AOps.s 137 rfl rfl rfl (q_bin (r := .int .i64 ((r.q.above.length - 1 : Nat) : Int)) rfl rfl rfl (len_pred hab (by omega))) ?_
              refine AOps.s 138 rfl rfl rfl (q_slice_ref tok (es := r.es.map (frC b)) (m := r.q.above.length - 1) rfl rfl rfl rfl rfl rfl (by (try simp only [hputs]); repeat (first | assumption | exact hput_same _ _ _ | refine hput_skip (by first | rfl | assumption | exact beq_false_of_ne (by omega)) ?_ | refine hputO_skip (by omega) ?_ | refine hrm_skip (by omega) ?_ | rfl)) (by rw [List.length_map]) rfl (by omega)) ?_
              refine AOps.s 9 rfl rfl rfl (q_move (.inr rfl) rfl) ?_
              refine AOps.nil ?_
              exact ⟨⟨⟨fr, r.q.above.dropLast, r.q.R, { r.q.m with steps := r.q.m.steps + 1 }⟩, r.es⟩, DropK.mk' (by repeat (first | exact EDropK.new _ _ | refine EDropK.put ?_ (by first | rfl | exact congrArg (fun z => some (AV.int .i64 z)) hz | exact congrArg (fun n : Nat => some (AV.int .i64 (n : Int))) hst.symm | exact refPush | exact congrArg (fun n => some (AV.ref 7 r.es.length 0 n)) (by simp)) (by first | rfl))) (mAll_drop (mAll_sub (by (try simp only [hputs]); repeat (first | assumption | exact hput_same _ _ _ | refine hput_skip (by first | rfl | exact beq_false_of_ne (by omega)) ?_ | refine hputO_skip (by omega) ?_ | refine hrm_skip (by omega) ?_ | rfl)) (by (try simp only [hputs]); repeat (first | assumption | exact hput_same _ _ _ | refine hput_skip (by first | rfl | exact beq_false_of_ne (by omega)) ?_ | refine hputO_skip (by omega) ?_ | refine hrm_skip (by omega) ?_ | rfl)) (by (try simp only [hputs]); repeat (first | assumption | exact hput_same _ _ _ | refine hput_skip (by first | rfl | exact beq_false_of_ne (by omega)) ?_ | refine hputO_skip (by omega) ?_ | refine hrm_skip (by omega) ?_ | rfl)) (by (try simp only [hputs]); repeat (first | assumption | exact hput_same _ _ _ | refine hput_skip (by first | rfl | exact beq_false_of_ne (by omega)) ?_ | refine hputO_skip (by omega) ?_ | refine hrm_skip (by omega) ?_ | rfl)) (by (try simp only [hputs]); repeat (first | assumption | exact hput_same _ _ _ | refine hput_skip (by first | rfl | exact beq_false_of_ne (by omega)) ?_ | refine hputO_skip (by omega) ?_ | refine hrm_skip (by omega) ?_ | rfl)) (by (try simp only [hputs]); repeat (first | assumption | exact hput_same _ _ _ | refine hput_skip (by first | rfl | exact beq_false_of_ne (by omega)) ?_ | refine hputO_skip (by omega) ?_ | refine hrm_skip (by omega) ?_ | rfl)) (by (try simp only [hputs]); repeat (first | assumption | exact hput_same _ _ _ | refine hput_skip (by first | rfl | exact beq_false_of_ne (by omega)) ?_ | refine hputO_skip (by omega) ?_ | refine hrm_skip (by omega) ?_ | rfl)) (by (try simp only [hputs]); repeat (first | assumption | exact hput_same _ _ _ | refine hput_skip (by first | rfl | exact beq_false_of_ne (by omega)) ?_ | refine hputO_skip (by omega) ?_ | refine hrm_skip (by omega) ?_ | rfl)) (fun g => (by (try simp only [hputs]); repeat (first | exact hg_at _ _ _ | refine hput_skip (by exact beq_false_of_ne (by omega)) ?_))))), hR2, hmu2⟩
          · -- False
            refine AGo.cond_false false rfl rfl ?_
            have hn3 : ¬ k.fin = 3 := by simpa using hb8
            refine AGo.skip ?_
            exfalso
            have he := (hone.2.2.2 k (List.mem_of_getElem? h2)).1
            have := ends_three he
            omega

end Go.Proofs.Ytophfphgcbnafaa.Sv

namespace Go.Proofs.Ytophfphgcbnafaa.Sv
open Go
set_option linter.unusedVariables false
set_option linter.unusedSimpArgs false

set_option maxRecDepth 100000 in
theorem bsetsOp_ok (op : Int) : APure Try.prog 34 [.int .i64 op] (fun r => r = .bool (setsOp op)) := by
  refine APure.of_body (n := 11) tok Try.func34 rfl rfl ?_
  refine AGo.seq ?_
  refine AGo.region ?_
  refine AOps.s 2 rfl rfl rfl (q_move (.inr rfl) rfl) ?_
  refine AOps.nil ?_
  refine AGo.seq ?_
  refine AGo.seq ?_
  refine AGo.region ?_
  refine AOps.s 3 rfl rfl rfl (q_move (.inl rfl) rfl) ?_
  refine AOps.nil ?_
  refine AGo.block ?_
  refine AGo.seq ?_
  refine AGo.seq ?_
  refine AGo.region ?_
  refine AOps.s 5 rfl rfl rfl (q_bin rfl rfl rfl rfl) ?_
  refine AOps.s 4 rfl rfl rfl (q_move (.inr rfl) rfl) ?_
  refine AOps.nil ?_
  refine AGo.split 4 rfl (fun hb1 => ?_) (fun hb1 => ?_)
  · -- True
    refine AGo.cond_true true rfl rfl ?_
    refine AGo.skip ?_
    refine AGo.cond_true true rfl rfl ?_
    refine AGo.seq ?_
    refine AGo.region ?_
    refine AOps.s 2 rfl rfl rfl (q_move (.inr rfl) rfl) ?_
    refine AOps.nil ?_
    refine AGo.ret ?_
    refine ⟨[_], ⟨rfl, trivial⟩, ?_, rfl⟩
    show AV.bool _ = AV.bool _
    congr 1
    simp [setsOp, *]
  · -- False
    refine AGo.cond_false false rfl rfl ?_
    refine AGo.seq ?_
    refine AGo.region ?_
    refine AOps.s 6 rfl rfl rfl (q_bin rfl rfl rfl rfl) ?_
    refine AOps.s 4 rfl rfl rfl (q_move (.inr rfl) rfl) ?_
    refine AOps.nil ?_
    refine AGo.split 4 rfl (fun hb2 => ?_) (fun hb2 => ?_)
    · -- True
      refine AGo.cond_true true rfl rfl ?_
      refine AGo.skip ?_
      refine AGo.cond_true true rfl rfl ?_
      refine AGo.seq ?_
      refine AGo.region ?_
      refine AOps.s 2 rfl rfl rfl (q_move (.inr rfl) rfl) ?_
      refine AOps.nil ?_
      refine AGo.ret ?_
      refine ⟨[_], ⟨rfl, trivial⟩, ?_, rfl⟩
      show AV.bool _ = AV.bool _
      congr 1
      simp [setsOp, *]
    · -- False
      refine AGo.cond_false false rfl rfl ?_
      refine AGo.seq ?_
      refine AGo.region ?_
      refine AOps.s 7 rfl rfl rfl (q_bin rfl rfl rfl rfl) ?_
      refine AOps.s 4 rfl rfl rfl (q_move (.inr rfl) rfl) ?_
      refine AOps.nil ?_
      refine AGo.split 4 rfl (fun hb3 => ?_) (fun hb3 => ?_)
      · -- True
        refine AGo.cond_true true rfl rfl ?_
        refine AGo.skip ?_
        refine AGo.cond_true true rfl rfl ?_
        refine AGo.seq ?_
        refine AGo.region ?_
        refine AOps.s 2 rfl rfl rfl (q_move (.inr rfl) rfl) ?_
        refine AOps.nil ?_
        refine AGo.ret ?_
        refine ⟨[_], ⟨rfl, trivial⟩, ?_, rfl⟩
        show AV.bool _ = AV.bool _
        congr 1
        simp [setsOp, *]
      · -- False
        refine AGo.cond_false false rfl rfl ?_
        refine AGo.seq ?_
        refine AGo.region ?_
        refine AOps.s 8 rfl rfl rfl (q_bin rfl rfl rfl rfl) ?_
        refine AOps.s 4 rfl rfl rfl (q_move (.inr rfl) rfl) ?_
        refine AOps.nil ?_
        refine AGo.split 4 rfl (fun hb4 => ?_) (fun hb4 => ?_)
        · -- True
          refine AGo.cond_true true rfl rfl ?_
          refine AGo.skip ?_
          refine AGo.cond_true true rfl rfl ?_
          refine AGo.seq ?_
          refine AGo.region ?_
          refine AOps.s 2 rfl rfl rfl (q_move (.inr rfl) rfl) ?_
          refine AOps.nil ?_
          refine AGo.ret ?_
          refine ⟨[_], ⟨rfl, trivial⟩, ?_, rfl⟩
          show AV.bool _ = AV.bool _
          congr 1
          simp [setsOp, *]
        · -- False
          refine AGo.cond_false false rfl rfl ?_
          refine AGo.seq ?_
          refine AGo.region ?_
          refine AOps.s 9 rfl rfl rfl (q_bin rfl rfl rfl rfl) ?_
          refine AOps.s 4 rfl rfl rfl (q_move (.inr rfl) rfl) ?_
          refine AOps.nil ?_
          refine AGo.split 4 rfl (fun hb5 => ?_) (fun hb5 => ?_)
          · -- True
            refine AGo.cond_true true rfl rfl ?_
            refine AGo.skip ?_
            refine AGo.cond_true true rfl rfl ?_
            refine AGo.seq ?_
            refine AGo.region ?_
            refine AOps.s 2 rfl rfl rfl (q_move (.inr rfl) rfl) ?_
            refine AOps.nil ?_
            refine AGo.ret ?_
            refine ⟨[_], ⟨rfl, trivial⟩, ?_, rfl⟩
            show AV.bool _ = AV.bool _
            congr 1
            simp [setsOp, *]
          · -- False
            refine AGo.cond_false false rfl rfl ?_
            refine AGo.region ?_
            refine AOps.s 10 rfl rfl rfl (q_bin rfl rfl rfl rfl) ?_
            refine AOps.s 4 rfl rfl rfl (q_move (.inr rfl) rfl) ?_
            refine AOps.nil ?_
            refine AGo.split 4 rfl (fun hb6 => ?_) (fun hb6 => ?_)
            · -- True
              refine AGo.cond_true true rfl rfl ?_
              refine AGo.seq ?_
              refine AGo.region ?_
              refine AOps.s 2 rfl rfl rfl (q_move (.inr rfl) rfl) ?_
              refine AOps.nil ?_
              refine AGo.ret ?_
              refine ⟨[_], ⟨rfl, trivial⟩, ?_, rfl⟩
              show AV.bool _ = AV.bool _
              congr 1
              simp [setsOp, *]
            · -- False
              refine AGo.cond_false false rfl rfl ?_
              refine AGo.skip ?_
              refine AGo.seq ?_
              refine AGo.region ?_
              refine AOps.s 2 rfl rfl rfl (q_move (.inr rfl) rfl) ?_
              refine AOps.nil ?_
              refine AGo.ret ?_
              refine ⟨[_], ⟨rfl, trivial⟩, ?_, rfl⟩
              show AV.bool _ = AV.bool _
              congr 1
              simp [setsOp, *]

set_option maxRecDepth 100000 in
theorem breads_ok (op : Int) : APure Try.prog 33 [.int .i64 op] (fun r => r = .int .i64 (readsN op)) := by
  refine APure.of_body (n := 12) tok Try.func33 rfl rfl ?_
  refine AGo.seq ?_
  refine AGo.region ?_
  refine AOps.s 2 rfl rfl rfl (q_move (.inr rfl) rfl) ?_
  refine AOps.nil ?_
  refine AGo.seq ?_
  refine AGo.seq ?_
  refine AGo.region ?_
  refine AOps.s 3 rfl rfl rfl (q_move (.inl rfl) rfl) ?_
  refine AOps.nil ?_
  refine AGo.block ?_
  refine AGo.seq ?_
  refine AGo.seq ?_
  refine AGo.region ?_
  refine AOps.s 5 rfl rfl rfl (q_bin rfl rfl rfl rfl) ?_
  refine AOps.s 4 rfl rfl rfl (q_move (.inr rfl) rfl) ?_
  refine AOps.nil ?_
  refine AGo.split 4 rfl (fun hb1 => ?_) (fun hb1 => ?_)
  · -- True
    refine AGo.cond_true true rfl rfl ?_
    refine AGo.skip ?_
    refine AGo.cond_true true rfl rfl ?_
    refine AGo.seq ?_
    refine AGo.region ?_
    refine AOps.s 2 rfl rfl rfl (q_move (.inr rfl) rfl) ?_
    refine AOps.nil ?_
    refine AGo.ret ?_
    refine ⟨[_], ⟨rfl, trivial⟩, ?_, rfl⟩
    show AV.int .i64 _ = AV.int .i64 _
    congr 1
    simp [readsN, use1, use2, *]
  · -- False
    refine AGo.cond_false false rfl rfl ?_
    refine AGo.seq ?_
    refine AGo.region ?_
    refine AOps.s 6 rfl rfl rfl (q_bin rfl rfl rfl rfl) ?_
    refine AOps.s 4 rfl rfl rfl (q_move (.inr rfl) rfl) ?_
    refine AOps.nil ?_
    refine AGo.split 4 rfl (fun hb2 => ?_) (fun hb2 => ?_)
    · -- True
      refine AGo.cond_true true rfl rfl ?_
      refine AGo.skip ?_
      refine AGo.cond_true true rfl rfl ?_
      refine AGo.seq ?_
      refine AGo.region ?_
      refine AOps.s 2 rfl rfl rfl (q_move (.inr rfl) rfl) ?_
      refine AOps.nil ?_
      refine AGo.ret ?_
      refine ⟨[_], ⟨rfl, trivial⟩, ?_, rfl⟩
      show AV.int .i64 _ = AV.int .i64 _
      congr 1
      simp [readsN, use1, use2, *]
    · -- False
      refine AGo.cond_false false rfl rfl ?_
      refine AGo.seq ?_
      refine AGo.region ?_
      refine AOps.s 7 rfl rfl rfl (q_bin rfl rfl rfl rfl) ?_
      refine AOps.s 4 rfl rfl rfl (q_move (.inr rfl) rfl) ?_
      refine AOps.nil ?_
      refine AGo.split 4 rfl (fun hb3 => ?_) (fun hb3 => ?_)
      · -- True
        refine AGo.cond_true true rfl rfl ?_
        refine AGo.skip ?_
        refine AGo.cond_true true rfl rfl ?_
        refine AGo.seq ?_
        refine AGo.region ?_
        refine AOps.s 2 rfl rfl rfl (q_move (.inr rfl) rfl) ?_
        refine AOps.nil ?_
        refine AGo.ret ?_
        refine ⟨[_], ⟨rfl, trivial⟩, ?_, rfl⟩
        show AV.int .i64 _ = AV.int .i64 _
        congr 1
        simp [readsN, use1, use2, *]
      · -- False
        refine AGo.cond_false false rfl rfl ?_
        refine AGo.region ?_
        refine AOps.s 8 rfl rfl rfl (q_bin rfl rfl rfl rfl) ?_
        refine AOps.s 4 rfl rfl rfl (q_move (.inr rfl) rfl) ?_
        refine AOps.nil ?_
        refine AGo.split 4 rfl (fun hb4 => ?_) (fun hb4 => ?_)
        · -- True
          refine AGo.cond_true true rfl rfl ?_
          refine AGo.seq ?_
          refine AGo.region ?_
          refine AOps.s 2 rfl rfl rfl (q_move (.inr rfl) rfl) ?_
          refine AOps.nil ?_
          refine AGo.ret ?_
          refine ⟨[_], ⟨rfl, trivial⟩, ?_, rfl⟩
          show AV.int .i64 _ = AV.int .i64 _
          congr 1
          simp [readsN, use1, use2, *]
        · -- False
          refine AGo.cond_false false rfl rfl ?_
          refine AGo.seq ?_
          refine AGo.seq ?_
          refine AGo.region ?_
          refine AOps.s 10 rfl rfl rfl (q_bin rfl rfl rfl rfl) ?_
          refine AOps.s 9 rfl rfl rfl (q_move (.inr rfl) rfl) ?_
          refine AOps.nil ?_
          refine AGo.split 9 rfl (fun hb5 => ?_) (fun hb5 => ?_)
          · -- True
            refine AGo.cond_true true rfl rfl ?_
            refine AGo.skip ?_
            refine AGo.cond_true true rfl rfl ?_
            refine AGo.seq ?_
            refine AGo.region ?_
            refine AOps.s 2 rfl rfl rfl (q_move (.inr rfl) rfl) ?_
            refine AOps.nil ?_
            refine AGo.ret ?_
            refine ⟨[_], ⟨rfl, trivial⟩, ?_, rfl⟩
            show AV.int .i64 _ = AV.int .i64 _
            congr 1
            simp [readsN, use1, use2, *]
          · -- False
            refine AGo.cond_false false rfl rfl ?_
            refine AGo.region ?_
            refine AOps.s 11 rfl rfl rfl (q_bin rfl rfl rfl rfl) ?_
            refine AOps.s 9 rfl rfl rfl (q_move (.inr rfl) rfl) ?_
            refine AOps.nil ?_
            refine AGo.split 9 rfl (fun hb6 => ?_) (fun hb6 => ?_)
            · -- True
              refine AGo.cond_true true rfl rfl ?_
              refine AGo.seq ?_
              refine AGo.region ?_
              refine AOps.s 2 rfl rfl rfl (q_move (.inr rfl) rfl) ?_
              refine AOps.nil ?_
              refine AGo.ret ?_
              refine ⟨[_], ⟨rfl, trivial⟩, ?_, rfl⟩
              show AV.int .i64 _ = AV.int .i64 _
              congr 1
              simp [readsN, use1, use2, *]
            · -- False
              refine AGo.cond_false false rfl rfl ?_
              refine AGo.skip ?_
              refine AGo.seq ?_
              refine AGo.region ?_
              refine AOps.s 2 rfl rfl rfl (q_move (.inr rfl) rfl) ?_
              refine AOps.nil ?_
              refine AGo.ret ?_
              refine ⟨[_], ⟨rfl, trivial⟩, ?_, rfl⟩
              show AV.int .i64 _ = AV.int .i64 _
              congr 1
              simp [readsN, use1, use2, *]

set_option maxRecDepth 100000 in
theorem breg_ok (words f regs blocks r : Int) : APure Try.prog 43 [(.agg [.int .i64 words, .int .i64 f, .int .i64 regs, .int .i64 blocks]), .int .i64 r] (fun q => q = .bool (within r regs)) := by
  refine APure.of_body (n := 13) tok Try.func43 rfl rfl ?_
  refine AGo.seq ?_
  refine AGo.region ?_
  refine AOps.x 2 rfl rfl rfl (o_box (sz := 4) 0 rfl rfl rfl rfl (Nat.zero_lt_succ _) rfl) ?_
  refine AOps.s 4 rfl rfl rfl (q_move (.inr rfl) rfl) ?_
  refine AOps.nil ?_
  refine AGo.seq ?_
  refine AGo.region ?_
  refine AOps.s 5 rfl rfl rfl (q_move (.inl rfl) rfl) ?_
  refine AOps.s 6 rfl rfl rfl (q_bin rfl rfl rfl rfl) ?_
  refine AOps.s 7 rfl rfl rfl (q_move (.inl rfl) rfl) ?_
  refine AOps.split 7 rfl (fun hb1 => ?_) (fun hb1 => ?_)
  · -- True
    refine AOps.s 8 rfl rfl rfl (q_move (.inl rfl) rfl) ?_
    refine AOps.s 9 rfl rfl rfl (q_fieldAddr tok rfl rfl rfl rfl rfl rfl) ?_
    refine AOps.s 10 rfl rfl rfl (q_load tok rfl rfl rfl (by first | exact .loc _ | exact .ptr _ _ _ _ _ _ _ _ rfl rfl rfl) rfl) ?_
    refine AOps.s 11 rfl rfl rfl (q_bin rfl rfl rfl rfl) ?_
    refine AOps.s 12 rfl rfl rfl (q_pick_true true rfl rfl rfl rfl) ?_
    refine AOps.s 4 rfl rfl rfl (q_move (.inr rfl) rfl) ?_
    refine AOps.nil ?_
    refine AGo.ret ?_
    refine ⟨[_], ⟨rfl, trivial⟩, ?_, rfl⟩
    show AV.bool _ = AV.bool _
    congr 1
    first | (simp_all [within]; done) | (simp_all [within]; omega)
  · -- False
    refine AOps.k 8 rfl rfl rfl ?_
    refine AOps.k 9 rfl rfl rfl ?_
    refine AOps.k 10 rfl rfl rfl ?_
    refine AOps.k 11 rfl rfl rfl ?_
    refine AOps.s 12 rfl rfl rfl (q_pick_false false rfl rfl rfl rfl) ?_
    refine AOps.s 4 rfl rfl rfl (q_move (.inr rfl) rfl) ?_
    refine AOps.nil ?_
    refine AGo.ret ?_
    refine ⟨[_], ⟨rfl, trivial⟩, ?_, rfl⟩
    show AV.bool _ = AV.bool _
    congr 1
    first | (simp_all [within]; done) | (simp_all [within]; omega)

set_option maxRecDepth 100000 in
theorem bend_ok (words f regs blocks : Int) (x : Block) : APure Try.prog 31 [(.agg [.int .i64 words, .int .i64 f, .int .i64 regs, .int .i64 blocks]), .agg x.cells] (fun q => q = .bool (x.ends blocks regs)) := by
  refine APure.of_body (n := 67) tok Try.func31 rfl rfl ?_
  refine AGo.seq ?_
  refine AGo.region ?_
  refine AOps.x 2 rfl rfl rfl (o_box (sz := 4) 0 rfl rfl rfl rfl (Nat.zero_lt_succ _) rfl) ?_
  refine AOps.x 3 rfl rfl rfl (o_box (sz := 5) 1 rfl rfl rfl rfl (Nat.zero_lt_succ _) rfl) ?_
  refine AOps.s 4 rfl rfl rfl (q_move (.inr rfl) rfl) ?_
  refine AOps.nil ?_
  refine AGo.seq ?_
  refine AGo.join (γ := Unit) (fun _u => ⟨67, (eput (eput (eput eNew 2 (.ptr 0 1 0 0)) 3 (.ptr 1 1 0 0)) 5 (.bool (within x.to blocks))), (hput (hput (hFrom 2) 0 (.row false 4 [[.int .i64 words, .int .i64 f, .int .i64 regs, .int .i64 blocks]])) 1 (.row false 5 [x.cells]))⟩) (fun _u => True) ?_ ?_
  · -- to the join
    refine AGo.region ?_
    refine AOps.s 6 rfl rfl rfl (q_fieldAddr tok rfl rfl rfl rfl rfl rfl) ?_
    refine AOps.s 7 rfl rfl rfl (q_load tok rfl rfl rfl (by first | exact .loc _ | exact .ptr _ _ _ _ _ _ _ _ rfl rfl rfl) rfl) ?_
    refine AOps.s 8 rfl rfl rfl (q_bin rfl rfl rfl rfl) ?_
    refine AOps.s 9 rfl rfl rfl (q_move (.inl rfl) rfl) ?_
    refine AOps.split 9 rfl (fun hb1 => ?_) (fun hb1 => ?_)
    · -- True
      refine AOps.s 10 rfl rfl rfl (q_fieldAddr tok rfl rfl rfl rfl rfl rfl) ?_
      refine AOps.s 11 rfl rfl rfl (q_load tok rfl rfl rfl (by first | exact .loc _ | exact .ptr _ _ _ _ _ _ _ _ rfl rfl rfl) rfl) ?_
      refine AOps.s 12 rfl rfl rfl (q_fieldAddr tok rfl rfl rfl rfl rfl rfl) ?_
      refine AOps.s 13 rfl rfl rfl (q_load tok rfl rfl rfl (by first | exact .loc _ | exact .ptr _ _ _ _ _ _ _ _ rfl rfl rfl) rfl) ?_
      refine AOps.s 14 rfl rfl rfl (q_bin rfl rfl rfl rfl) ?_
      refine AOps.s 15 rfl rfl rfl (q_pick_true true rfl rfl rfl rfl) ?_
      refine AOps.s 5 rfl rfl rfl (q_move (.inr rfl) rfl) ?_
      refine AOps.nil ?_
      exact ⟨(), Sub.mk' (by repeat (first | exact ESub.new _ | refine ESub.put ?_ (by first | rfl | exact congrArg (fun c => some (AV.bool c)) (by first | (simp_all [within]; done) | (simp_all [within]; omega))))) (by repeat (first | exact HSub.refl _ | exact HSub.none _ | exact HSub.from_new _ | exact HSub.from_from (by first | decide | omega | (dsimp only; omega)) | refine HSub.put ?_ (by rfl) | refine HSub.from_put ?_ (by first | decide | omega | (dsimp only; omega)) | refine HSub.from_rm ?_ (by decide))), trivial⟩
    · -- False
      refine AOps.k 10 rfl rfl rfl ?_
      refine AOps.k 11 rfl rfl rfl ?_
      refine AOps.k 12 rfl rfl rfl ?_
      refine AOps.k 13 rfl rfl rfl ?_
      refine AOps.k 14 rfl rfl rfl ?_
      refine AOps.s 15 rfl rfl rfl (q_pick_false false rfl rfl rfl rfl) ?_
      refine AOps.s 5 rfl rfl rfl (q_move (.inr rfl) rfl) ?_
      refine AOps.nil ?_
      exact ⟨(), Sub.mk' (by repeat (first | exact ESub.new _ | refine ESub.put ?_ (by first | rfl | exact congrArg (fun c => some (AV.bool c)) (by first | (simp_all [within]; done) | (simp_all [within]; omega))))) (by repeat (first | exact HSub.refl _ | exact HSub.none _ | exact HSub.from_new _ | exact HSub.from_from (by first | decide | omega | (dsimp only; omega)) | refine HSub.put ?_ (by rfl) | refine HSub.from_put ?_ (by first | decide | omega | (dsimp only; omega)) | refine HSub.from_rm ?_ (by decide))), trivial⟩
  intro _u _
  refine AGo.seq ?_
  refine AGo.seq ?_
  refine AGo.region ?_
  refine AOps.s 16 rfl rfl rfl (q_fieldAddr tok rfl rfl rfl rfl rfl rfl) ?_
  refine AOps.s 17 rfl rfl rfl (q_load tok rfl rfl rfl (by first | exact .loc _ | exact .ptr _ _ _ _ _ _ _ _ rfl rfl rfl) rfl) ?_
  refine AOps.nil ?_
  refine AGo.block ?_
  refine AGo.seq ?_
  refine AGo.region ?_
  refine AOps.s 19 rfl rfl rfl (q_bin rfl rfl rfl rfl) ?_
  refine AOps.s 18 rfl rfl rfl (q_move (.inr rfl) rfl) ?_
  refine AOps.nil ?_
  refine AGo.split 18 rfl (fun hb2 => ?_) (fun hb2 => ?_)
  · -- True
    refine AGo.cond_true true rfl rfl ?_
    refine AGo.seq ?_
    refine AGo.region ?_
    refine AOps.s 20 rfl rfl rfl (q_move (.inl rfl) rfl) ?_
    refine AOps.s 21 rfl rfl rfl (q_move (.inl rfl) rfl) ?_
    refine AOps.split 21 rfl (fun hb3 => ?_) (fun hb3 => ?_)
    · -- True
      refine AOps.s 22 rfl rfl rfl (q_fieldAddr tok rfl rfl rfl rfl rfl rfl) ?_
      refine AOps.s 23 rfl rfl rfl (q_load tok rfl rfl rfl (by first | exact .loc _ | exact .ptr _ _ _ _ _ _ _ _ rfl rfl rfl) rfl) ?_
      refine AOps.s 24 rfl rfl rfl (q_bin rfl rfl rfl rfl) ?_
      refine AOps.s 25 rfl rfl rfl (q_pick_true true rfl rfl rfl rfl) ?_
      refine AOps.s 26 rfl rfl rfl (q_move (.inl rfl) rfl) ?_
      refine AOps.split 26 rfl (fun hb4 => ?_) (fun hb4 => ?_)
      · -- True
        refine AOps.s 27 rfl rfl rfl (q_fieldAddr tok rfl rfl rfl rfl rfl rfl) ?_
        refine AOps.s 28 rfl rfl rfl (q_load tok rfl rfl rfl (by first | exact .loc _ | exact .ptr _ _ _ _ _ _ _ _ rfl rfl rfl) rfl) ?_
        refine AOps.s 29 rfl rfl rfl (q_bin rfl rfl rfl rfl) ?_
        refine AOps.s 30 rfl rfl rfl (q_pick_true true rfl rfl rfl rfl) ?_
        refine AOps.s 4 rfl rfl rfl (q_move (.inr rfl) rfl) ?_
        refine AOps.nil ?_
        refine AGo.ret ?_
        refine ⟨[_], ⟨rfl, trivial⟩, ?_, rfl⟩
        show AV.bool _ = AV.bool _
        congr 1
        first | (simp_all [Block.ends, within]; done) | (simp_all [Block.ends, within]; omega)
      · -- False
        refine AOps.k 27 rfl rfl rfl ?_
        refine AOps.k 28 rfl rfl rfl ?_
        refine AOps.k 29 rfl rfl rfl ?_
        refine AOps.s 30 rfl rfl rfl (q_pick_false false rfl rfl rfl rfl) ?_
        refine AOps.s 4 rfl rfl rfl (q_move (.inr rfl) rfl) ?_
        refine AOps.nil ?_
        refine AGo.ret ?_
        refine ⟨[_], ⟨rfl, trivial⟩, ?_, rfl⟩
        show AV.bool _ = AV.bool _
        congr 1
        first | (simp_all [Block.ends, within]; done) | (simp_all [Block.ends, within]; omega)
    · -- False
      refine AOps.k 22 rfl rfl rfl ?_
      refine AOps.k 23 rfl rfl rfl ?_
      refine AOps.k 24 rfl rfl rfl ?_
      refine AOps.s 25 rfl rfl rfl (q_pick_false false rfl rfl rfl rfl) ?_
      refine AOps.s 26 rfl rfl rfl (q_move (.inl rfl) rfl) ?_
      refine AOps.k 27 rfl rfl rfl ?_
      refine AOps.k 28 rfl rfl rfl ?_
      refine AOps.k 29 rfl rfl rfl ?_
      refine AOps.s 30 rfl rfl rfl (q_pick_false false rfl rfl rfl rfl) ?_
      refine AOps.s 4 rfl rfl rfl (q_move (.inr rfl) rfl) ?_
      refine AOps.nil ?_
      refine AGo.ret ?_
      refine ⟨[_], ⟨rfl, trivial⟩, ?_, rfl⟩
      show AV.bool _ = AV.bool _
      congr 1
      first | (simp_all [Block.ends, within]; done) | (simp_all [Block.ends, within]; omega)
  · -- False
    refine AGo.cond_false false rfl rfl ?_
    refine AGo.seq ?_
    refine AGo.region ?_
    refine AOps.s 32 rfl rfl rfl (q_bin rfl rfl rfl rfl) ?_
    refine AOps.s 31 rfl rfl rfl (q_move (.inr rfl) rfl) ?_
    refine AOps.nil ?_
    refine AGo.split 31 rfl (fun hb5 => ?_) (fun hb5 => ?_)
    · -- True
      refine AGo.cond_true true rfl rfl ?_
      refine AGo.seq ?_
      refine AGo.region ?_
      refine AOps.s 33 rfl rfl rfl (q_move (.inl rfl) rfl) ?_
      refine AOps.s 34 rfl rfl rfl (q_move (.inl rfl) rfl) ?_
      refine AOps.split 34 rfl (fun hb6 => ?_) (fun hb6 => ?_)
      · -- True
        refine AOps.s 35 rfl rfl rfl (q_load tok rfl rfl rfl (by first | exact .loc _ | exact .ptr _ _ _ _ _ _ _ _ rfl rfl rfl) rfl) ?_
        refine AOps.s 36 rfl rfl rfl (q_fieldAddr tok rfl rfl rfl rfl rfl rfl) ?_
        refine AOps.s 37 rfl rfl rfl (q_load tok rfl rfl rfl (by first | exact .loc _ | exact .ptr _ _ _ _ _ _ _ _ rfl rfl rfl) rfl) ?_
        refine AOps.x 38 rfl rfl rfl (o_pure rfl Try.func43 (by kernel_rfl) rfl rfl rfl (breg_ok _ _ _ _ _)) ?_
        refine AOps.s 39 rfl rfl rfl (q_pick_true true rfl rfl rfl rfl) ?_
        refine AOps.s 40 rfl rfl rfl (q_move (.inl rfl) rfl) ?_
        refine AOps.split 40 rfl (fun hb7 => ?_) (fun hb7 => ?_)
        · -- True
          refine AOps.s 41 rfl rfl rfl (q_fieldAddr tok rfl rfl rfl rfl rfl rfl) ?_
          refine AOps.s 42 rfl rfl rfl (q_load tok rfl rfl rfl (by first | exact .loc _ | exact .ptr _ _ _ _ _ _ _ _ rfl rfl rfl) rfl) ?_
          refine AOps.s 43 rfl rfl rfl (q_bin rfl rfl rfl rfl) ?_
          refine AOps.s 44 rfl rfl rfl (q_pick_true true rfl rfl rfl rfl) ?_
          refine AOps.s 45 rfl rfl rfl (q_move (.inl rfl) rfl) ?_
          refine AOps.split 45 rfl (fun hb8 => ?_) (fun hb8 => ?_)
          · -- True
            refine AOps.s 46 rfl rfl rfl (q_fieldAddr tok rfl rfl rfl rfl rfl rfl) ?_
            refine AOps.s 47 rfl rfl rfl (q_load tok rfl rfl rfl (by first | exact .loc _ | exact .ptr _ _ _ _ _ _ _ _ rfl rfl rfl) rfl) ?_
            refine AOps.s 48 rfl rfl rfl (q_fieldAddr tok rfl rfl rfl rfl rfl rfl) ?_
            refine AOps.s 49 rfl rfl rfl (q_load tok rfl rfl rfl (by first | exact .loc _ | exact .ptr _ _ _ _ _ _ _ _ rfl rfl rfl) rfl) ?_
            refine AOps.s 50 rfl rfl rfl (q_bin rfl rfl rfl rfl) ?_
            refine AOps.s 51 rfl rfl rfl (q_pick_true true rfl rfl rfl rfl) ?_
            refine AOps.s 4 rfl rfl rfl (q_move (.inr rfl) rfl) ?_
            refine AOps.nil ?_
            refine AGo.ret ?_
            refine ⟨[_], ⟨rfl, trivial⟩, ?_, rfl⟩
            show AV.bool _ = AV.bool _
            congr 1
            first | (simp_all [Block.ends, within]; done) | (simp_all [Block.ends, within]; omega)
          · -- False
            refine AOps.k 46 rfl rfl rfl ?_
            refine AOps.k 47 rfl rfl rfl ?_
            refine AOps.k 48 rfl rfl rfl ?_
            refine AOps.k 49 rfl rfl rfl ?_
            refine AOps.k 50 rfl rfl rfl ?_
            refine AOps.s 51 rfl rfl rfl (q_pick_false false rfl rfl rfl rfl) ?_
            refine AOps.s 4 rfl rfl rfl (q_move (.inr rfl) rfl) ?_
            refine AOps.nil ?_
            refine AGo.ret ?_
            refine ⟨[_], ⟨rfl, trivial⟩, ?_, rfl⟩
            show AV.bool _ = AV.bool _
            congr 1
            first | (simp_all [Block.ends, within]; done) | (simp_all [Block.ends, within]; omega)
        · -- False
          refine AOps.k 41 rfl rfl rfl ?_
          refine AOps.k 42 rfl rfl rfl ?_
          refine AOps.k 43 rfl rfl rfl ?_
          refine AOps.s 44 rfl rfl rfl (q_pick_false false rfl rfl rfl rfl) ?_
          refine AOps.s 45 rfl rfl rfl (q_move (.inl rfl) rfl) ?_
          refine AOps.k 46 rfl rfl rfl ?_
          refine AOps.k 47 rfl rfl rfl ?_
          refine AOps.k 48 rfl rfl rfl ?_
          refine AOps.k 49 rfl rfl rfl ?_
          refine AOps.k 50 rfl rfl rfl ?_
          refine AOps.s 51 rfl rfl rfl (q_pick_false false rfl rfl rfl rfl) ?_
          refine AOps.s 4 rfl rfl rfl (q_move (.inr rfl) rfl) ?_
          refine AOps.nil ?_
          refine AGo.ret ?_
          refine ⟨[_], ⟨rfl, trivial⟩, ?_, rfl⟩
          show AV.bool _ = AV.bool _
          congr 1
          first | (simp_all [Block.ends, within]; done) | (simp_all [Block.ends, within]; omega)
      · -- False
        refine AOps.k 35 rfl rfl rfl ?_
        refine AOps.k 36 rfl rfl rfl ?_
        refine AOps.k 37 rfl rfl rfl ?_
        refine AOps.k 38 rfl rfl rfl ?_
        refine AOps.s 39 rfl rfl rfl (q_pick_false false rfl rfl rfl rfl) ?_
        refine AOps.s 40 rfl rfl rfl (q_move (.inl rfl) rfl) ?_
        refine AOps.k 41 rfl rfl rfl ?_
        refine AOps.k 42 rfl rfl rfl ?_
        refine AOps.k 43 rfl rfl rfl ?_
        refine AOps.s 44 rfl rfl rfl (q_pick_false false rfl rfl rfl rfl) ?_
        refine AOps.s 45 rfl rfl rfl (q_move (.inl rfl) rfl) ?_
        refine AOps.k 46 rfl rfl rfl ?_
        refine AOps.k 47 rfl rfl rfl ?_
        refine AOps.k 48 rfl rfl rfl ?_
        refine AOps.k 49 rfl rfl rfl ?_
        refine AOps.k 50 rfl rfl rfl ?_
        refine AOps.s 51 rfl rfl rfl (q_pick_false false rfl rfl rfl rfl) ?_
        refine AOps.s 4 rfl rfl rfl (q_move (.inr rfl) rfl) ?_
        refine AOps.nil ?_
        refine AGo.ret ?_
        refine ⟨[_], ⟨rfl, trivial⟩, ?_, rfl⟩
        show AV.bool _ = AV.bool _
        congr 1
        first | (simp_all [Block.ends, within]; done) | (simp_all [Block.ends, within]; omega)
    · -- False
      refine AGo.cond_false false rfl rfl ?_
      refine AGo.seq ?_
      refine AGo.region ?_
      refine AOps.s 53 rfl rfl rfl (q_bin rfl rfl rfl rfl) ?_
      refine AOps.s 52 rfl rfl rfl (q_move (.inr rfl) rfl) ?_
      refine AOps.nil ?_
      refine AGo.split 52 rfl (fun hb9 => ?_) (fun hb9 => ?_)
      · -- True
        refine AGo.cond_true true rfl rfl ?_
        refine AGo.seq ?_
        refine AGo.region ?_
        refine AOps.s 54 rfl rfl rfl (q_fieldAddr tok rfl rfl rfl rfl rfl rfl) ?_
        refine AOps.s 55 rfl rfl rfl (q_load tok rfl rfl rfl (by first | exact .loc _ | exact .ptr _ _ _ _ _ _ _ _ rfl rfl rfl) rfl) ?_
        refine AOps.s 56 rfl rfl rfl (q_bin rfl rfl rfl rfl) ?_
        refine AOps.s 57 rfl rfl rfl (q_move (.inl rfl) rfl) ?_
        refine AOps.split 57 rfl (fun hb10 => ?_) (fun hb10 => ?_)
        · -- True
          refine AOps.s 58 rfl rfl rfl (q_fieldAddr tok rfl rfl rfl rfl rfl rfl) ?_
          refine AOps.s 59 rfl rfl rfl (q_load tok rfl rfl rfl (by first | exact .loc _ | exact .ptr _ _ _ _ _ _ _ _ rfl rfl rfl) rfl) ?_
          refine AOps.s 60 rfl rfl rfl (q_bin rfl rfl rfl rfl) ?_
          refine AOps.s 61 rfl rfl rfl (q_pick_true true rfl rfl rfl rfl) ?_
          refine AOps.s 62 rfl rfl rfl (q_move (.inl rfl) rfl) ?_
          refine AOps.split 62 rfl (fun hb11 => ?_) (fun hb11 => ?_)
          · -- True
            refine AOps.s 63 rfl rfl rfl (q_fieldAddr tok rfl rfl rfl rfl rfl rfl) ?_
            refine AOps.s 64 rfl rfl rfl (q_load tok rfl rfl rfl (by first | exact .loc _ | exact .ptr _ _ _ _ _ _ _ _ rfl rfl rfl) rfl) ?_
            refine AOps.s 65 rfl rfl rfl (q_bin rfl rfl rfl rfl) ?_
            refine AOps.s 66 rfl rfl rfl (q_pick_true true rfl rfl rfl rfl) ?_
            refine AOps.s 4 rfl rfl rfl (q_move (.inr rfl) rfl) ?_
            refine AOps.nil ?_
            refine AGo.ret ?_
            refine ⟨[_], ⟨rfl, trivial⟩, ?_, rfl⟩
            show AV.bool _ = AV.bool _
            congr 1
            first | (simp_all [Block.ends, within]; done) | (simp_all [Block.ends, within]; omega)
          · -- False
            refine AOps.k 63 rfl rfl rfl ?_
            refine AOps.k 64 rfl rfl rfl ?_
            refine AOps.k 65 rfl rfl rfl ?_
            refine AOps.s 66 rfl rfl rfl (q_pick_false false rfl rfl rfl rfl) ?_
            refine AOps.s 4 rfl rfl rfl (q_move (.inr rfl) rfl) ?_
            refine AOps.nil ?_
            refine AGo.ret ?_
            refine ⟨[_], ⟨rfl, trivial⟩, ?_, rfl⟩
            show AV.bool _ = AV.bool _
            congr 1
            first | (simp_all [Block.ends, within]; done) | (simp_all [Block.ends, within]; omega)
        · -- False
          refine AOps.k 58 rfl rfl rfl ?_
          refine AOps.k 59 rfl rfl rfl ?_
          refine AOps.k 60 rfl rfl rfl ?_
          refine AOps.s 61 rfl rfl rfl (q_pick_false false rfl rfl rfl rfl) ?_
          refine AOps.s 62 rfl rfl rfl (q_move (.inl rfl) rfl) ?_
          refine AOps.k 63 rfl rfl rfl ?_
          refine AOps.k 64 rfl rfl rfl ?_
          refine AOps.k 65 rfl rfl rfl ?_
          refine AOps.s 66 rfl rfl rfl (q_pick_false false rfl rfl rfl rfl) ?_
          refine AOps.s 4 rfl rfl rfl (q_move (.inr rfl) rfl) ?_
          refine AOps.nil ?_
          refine AGo.ret ?_
          refine ⟨[_], ⟨rfl, trivial⟩, ?_, rfl⟩
          show AV.bool _ = AV.bool _
          congr 1
          first | (simp_all [Block.ends, within]; done) | (simp_all [Block.ends, within]; omega)
      · -- False
        refine AGo.cond_false false rfl rfl ?_
        refine AGo.skip ?_
        refine AGo.seq ?_
        refine AGo.region ?_
        refine AOps.s 4 rfl rfl rfl (q_move (.inr rfl) rfl) ?_
        refine AOps.nil ?_
        refine AGo.ret ?_
        refine ⟨[_], ⟨rfl, trivial⟩, ?_, rfl⟩
        show AV.bool _ = AV.bool _
        congr 1
        first | (simp_all [Block.ends, within]; done) | (simp_all [Block.ends, within]; omega)

end Go.Proofs.Ytophfphgcbnafaa.Sv

namespace Go.Proofs.Ytophfphgcbnafaa.Sv
open Go
set_option linter.unusedVariables false
set_option linter.unusedSimpArgs false

set_option maxRecDepth 100000 in
theorem brest_ok (words f regs blocks : Int) (t : Tac) (hw : 0 ≤ words) (hw2 : words ≤ 1048576) : APure Try.prog 44 [(.agg [.int .i64 words, .int .i64 f, .int .i64 regs, .int .i64 blocks]), .agg t.cells] (fun q => q = .bool (t.rest2 f words)) := by
  refine APure.of_body (n := 115) tok Try.func44 rfl rfl ?_
  refine AGo.seq ?_
  refine AGo.region ?_
  refine AOps.x 2 rfl rfl rfl (o_box (sz := 4) 0 rfl rfl rfl rfl (Nat.zero_lt_succ _) rfl) ?_
  refine AOps.x 3 rfl rfl rfl (o_box (sz := 8) 1 rfl rfl rfl rfl (Nat.zero_lt_succ _) rfl) ?_
  refine AOps.s 4 rfl rfl rfl (q_move (.inr rfl) rfl) ?_
  refine AOps.nil ?_
  refine AGo.seq ?_
  refine AGo.seq ?_
  refine AGo.join (γ := Unit) (fun _u => ⟨115, (eput (eput (eput eNew 2 (.ptr 0 1 0 0)) 3 (.ptr 1 1 0 0)) 23 (.bool ((t.op != 1 && t.n != 0) || (t.op != 3 && t.k != 0)))), (hput (hput (hFrom 2) 0 (.row false 4 [[.int .i64 words, .int .i64 f, .int .i64 regs, .int .i64 blocks]])) 1 (.row false 8 [t.cells]))⟩) (fun _u => True) ?_ ?_
  · -- to the join
    refine AGo.region ?_
    refine AOps.s 6 rfl rfl rfl (q_fieldAddr tok rfl rfl rfl rfl rfl rfl) ?_
    refine AOps.s 7 rfl rfl rfl (q_load tok rfl rfl rfl (by first | exact .loc _ | exact .ptr _ _ _ _ _ _ _ _ rfl rfl rfl) rfl) ?_
    refine AOps.s 8 rfl rfl rfl (q_bin rfl rfl rfl rfl) ?_
    refine AOps.s 9 rfl rfl rfl (q_move (.inl rfl) rfl) ?_
    refine AOps.split 9 rfl (fun hb1 => ?_) (fun hb1 => ?_)
    · -- True
      refine AOps.s 10 rfl rfl rfl (q_fieldAddr tok rfl rfl rfl rfl rfl rfl) ?_
      refine AOps.s 11 rfl rfl rfl (q_load tok rfl rfl rfl (by first | exact .loc _ | exact .ptr _ _ _ _ _ _ _ _ rfl rfl rfl) rfl) ?_
      refine AOps.s 12 rfl rfl rfl (q_bin rfl rfl rfl rfl) ?_
      refine AOps.s 13 rfl rfl rfl (q_pick_true true rfl rfl rfl rfl) ?_
      refine AOps.s 14 rfl rfl rfl (q_move (.inl rfl) rfl) ?_
      refine AOps.split 14 rfl (fun hb2 => ?_) (fun hb2 => ?_)
      · -- True
        refine AOps.k 15 rfl rfl rfl ?_
        refine AOps.k 16 rfl rfl rfl ?_
        refine AOps.k 17 rfl rfl rfl ?_
        refine AOps.k 18 rfl rfl rfl ?_
        refine AOps.k 19 rfl rfl rfl ?_
        refine AOps.k 20 rfl rfl rfl ?_
        refine AOps.k 21 rfl rfl rfl ?_
        refine AOps.k 22 rfl rfl rfl ?_
        refine AOps.s 23 rfl rfl rfl (q_pick_true true rfl rfl rfl rfl) ?_
        refine AOps.nil ?_
        exact ⟨(), Sub.mk' (by repeat (first | exact ESub.new _ | refine ESub.put ?_ (by first | rfl | exact congrArg (fun c => some (AV.bool c)) (by simp_all [arrOp])))) (by repeat (first | exact HSub.refl _ | exact HSub.none _ | exact HSub.from_new _ | exact HSub.from_from (by first | decide | omega | (dsimp only; omega)) | refine HSub.put ?_ (by rfl) | refine HSub.from_put ?_ (by first | decide | omega | (dsimp only; omega)) | refine HSub.from_rm ?_ (by decide))), trivial⟩
      · -- False
        refine AOps.s 15 rfl rfl rfl (q_fieldAddr tok rfl rfl rfl rfl rfl rfl) ?_
        refine AOps.s 16 rfl rfl rfl (q_load tok rfl rfl rfl (by first | exact .loc _ | exact .ptr _ _ _ _ _ _ _ _ rfl rfl rfl) rfl) ?_
        refine AOps.s 17 rfl rfl rfl (q_bin rfl rfl rfl rfl) ?_
        refine AOps.s 18 rfl rfl rfl (q_move (.inl rfl) rfl) ?_
        refine AOps.split 18 rfl (fun hb3 => ?_) (fun hb3 => ?_)
        · -- True
          refine AOps.s 19 rfl rfl rfl (q_fieldAddr tok rfl rfl rfl rfl rfl rfl) ?_
          refine AOps.s 20 rfl rfl rfl (q_load tok rfl rfl rfl (by first | exact .loc _ | exact .ptr _ _ _ _ _ _ _ _ rfl rfl rfl) rfl) ?_
          refine AOps.s 21 rfl rfl rfl (q_bin rfl rfl rfl rfl) ?_
          refine AOps.s 22 rfl rfl rfl (q_pick_true true rfl rfl rfl rfl) ?_
          refine AOps.s 23 rfl rfl rfl (q_pick_false false rfl rfl rfl rfl) ?_
          refine AOps.nil ?_
          exact ⟨(), Sub.mk' (by repeat (first | exact ESub.new _ | refine ESub.put ?_ (by first | rfl | exact congrArg (fun c => some (AV.bool c)) (by simp_all [arrOp])))) (by repeat (first | exact HSub.refl _ | exact HSub.none _ | exact HSub.from_new _ | exact HSub.from_from (by first | decide | omega | (dsimp only; omega)) | refine HSub.put ?_ (by rfl) | refine HSub.from_put ?_ (by first | decide | omega | (dsimp only; omega)) | refine HSub.from_rm ?_ (by decide))), trivial⟩
        · -- False
          refine AOps.k 19 rfl rfl rfl ?_
          refine AOps.k 20 rfl rfl rfl ?_
          refine AOps.k 21 rfl rfl rfl ?_
          refine AOps.s 22 rfl rfl rfl (q_pick_false false rfl rfl rfl rfl) ?_
          refine AOps.s 23 rfl rfl rfl (q_pick_false false rfl rfl rfl rfl) ?_
          refine AOps.nil ?_
          exact ⟨(), Sub.mk' (by repeat (first | exact ESub.new _ | refine ESub.put ?_ (by first | rfl | exact congrArg (fun c => some (AV.bool c)) (by simp_all [arrOp])))) (by repeat (first | exact HSub.refl _ | exact HSub.none _ | exact HSub.from_new _ | exact HSub.from_from (by first | decide | omega | (dsimp only; omega)) | refine HSub.put ?_ (by rfl) | refine HSub.from_put ?_ (by first | decide | omega | (dsimp only; omega)) | refine HSub.from_rm ?_ (by decide))), trivial⟩
    · -- False
      refine AOps.k 10 rfl rfl rfl ?_
      refine AOps.k 11 rfl rfl rfl ?_
      refine AOps.k 12 rfl rfl rfl ?_
      refine AOps.s 13 rfl rfl rfl (q_pick_false false rfl rfl rfl rfl) ?_
      refine AOps.s 14 rfl rfl rfl (q_move (.inl rfl) rfl) ?_
      refine AOps.s 15 rfl rfl rfl (q_fieldAddr tok rfl rfl rfl rfl rfl rfl) ?_
      refine AOps.s 16 rfl rfl rfl (q_load tok rfl rfl rfl (by first | exact .loc _ | exact .ptr _ _ _ _ _ _ _ _ rfl rfl rfl) rfl) ?_
      refine AOps.s 17 rfl rfl rfl (q_bin rfl rfl rfl rfl) ?_
      refine AOps.s 18 rfl rfl rfl (q_move (.inl rfl) rfl) ?_
      refine AOps.split 18 rfl (fun hb4 => ?_) (fun hb4 => ?_)
      · -- True
        refine AOps.s 19 rfl rfl rfl (q_fieldAddr tok rfl rfl rfl rfl rfl rfl) ?_
        refine AOps.s 20 rfl rfl rfl (q_load tok rfl rfl rfl (by first | exact .loc _ | exact .ptr _ _ _ _ _ _ _ _ rfl rfl rfl) rfl) ?_
        refine AOps.s 21 rfl rfl rfl (q_bin rfl rfl rfl rfl) ?_
        refine AOps.s 22 rfl rfl rfl (q_pick_true true rfl rfl rfl rfl) ?_
        refine AOps.s 23 rfl rfl rfl (q_pick_false false rfl rfl rfl rfl) ?_
        refine AOps.nil ?_
        exact ⟨(), Sub.mk' (by repeat (first | exact ESub.new _ | refine ESub.put ?_ (by first | rfl | exact congrArg (fun c => some (AV.bool c)) (by simp_all [arrOp])))) (by repeat (first | exact HSub.refl _ | exact HSub.none _ | exact HSub.from_new _ | exact HSub.from_from (by first | decide | omega | (dsimp only; omega)) | refine HSub.put ?_ (by rfl) | refine HSub.from_put ?_ (by first | decide | omega | (dsimp only; omega)) | refine HSub.from_rm ?_ (by decide))), trivial⟩
      · -- False
        refine AOps.k 19 rfl rfl rfl ?_
        refine AOps.k 20 rfl rfl rfl ?_
        refine AOps.k 21 rfl rfl rfl ?_
        refine AOps.s 22 rfl rfl rfl (q_pick_false false rfl rfl rfl rfl) ?_
        refine AOps.s 23 rfl rfl rfl (q_pick_false false rfl rfl rfl rfl) ?_
        refine AOps.nil ?_
        exact ⟨(), Sub.mk' (by repeat (first | exact ESub.new _ | refine ESub.put ?_ (by first | rfl | exact congrArg (fun c => some (AV.bool c)) (by simp_all [arrOp])))) (by repeat (first | exact HSub.refl _ | exact HSub.none _ | exact HSub.from_new _ | exact HSub.from_from (by first | decide | omega | (dsimp only; omega)) | refine HSub.put ?_ (by rfl) | refine HSub.from_put ?_ (by first | decide | omega | (dsimp only; omega)) | refine HSub.from_rm ?_ (by decide))), trivial⟩
  intro _u _
  refine AGo.split 23 rfl (fun hb5 => ?_) (fun hb5 => ?_)
  · -- True
    refine AGo.cond_true true rfl rfl ?_
    refine AGo.seq ?_
    refine AGo.region ?_
    refine AOps.s 4 rfl rfl rfl (q_move (.inr rfl) rfl) ?_
    refine AOps.nil ?_
    refine AGo.ret ?_
    refine ⟨[_], ⟨rfl, trivial⟩, ?_, rfl⟩
    show AV.bool _ = AV.bool _
    congr 1
    first | (simp_all [Tac.rest2, arrOp]; done) | (simp_all [Tac.rest2, arrOp]; omega)
  · -- False
    refine AGo.cond_false false rfl rfl ?_
    have hq1 := hb5
    refine AGo.skip ?_
    refine AGo.seq ?_
    refine AGo.join (γ := Unit) (fun _u => ⟨115, (eput (eput (eput eNew 2 (.ptr 0 1 0 0)) 3 (.ptr 1 1 0 0)) 5 (.bool (arrOp t.op))), (hput (hput (hFrom 2) 0 (.row false 4 [[.int .i64 words, .int .i64 f, .int .i64 regs, .int .i64 blocks]])) 1 (.row false 8 [t.cells]))⟩) (fun _u => True) ?_ ?_
    · -- to the join
      refine AGo.region ?_
      refine AOps.s 24 rfl rfl rfl (q_fieldAddr tok rfl rfl rfl rfl rfl rfl) ?_
      refine AOps.s 25 rfl rfl rfl (q_load tok rfl rfl rfl (by first | exact .loc _ | exact .ptr _ _ _ _ _ _ _ _ rfl rfl rfl) rfl) ?_
      refine AOps.s 26 rfl rfl rfl (q_bin rfl rfl rfl rfl) ?_
      refine AOps.s 27 rfl rfl rfl (q_move (.inl rfl) rfl) ?_
      refine AOps.split 27 rfl (fun hb6 => ?_) (fun hb6 => ?_)
      · -- True
        refine AOps.k 28 rfl rfl rfl ?_
        refine AOps.k 29 rfl rfl rfl ?_
        refine AOps.k 30 rfl rfl rfl ?_
        refine AOps.s 31 rfl rfl rfl (q_pick_true true rfl rfl rfl rfl) ?_
        refine AOps.s 5 rfl rfl rfl (q_move (.inr rfl) rfl) ?_
        refine AOps.nil ?_
        exact ⟨(), Sub.mk' (by repeat (first | exact ESub.new _ | refine ESub.put ?_ (by first | rfl | exact congrArg (fun c => some (AV.bool c)) (by simp_all [arrOp])))) (by repeat (first | exact HSub.refl _ | exact HSub.none _ | exact HSub.from_new _ | exact HSub.from_from (by first | decide | omega | (dsimp only; omega)) | refine HSub.put ?_ (by rfl) | refine HSub.from_put ?_ (by first | decide | omega | (dsimp only; omega)) | refine HSub.from_rm ?_ (by decide))), trivial⟩
      · -- False
        refine AOps.s 28 rfl rfl rfl (q_fieldAddr tok rfl rfl rfl rfl rfl rfl) ?_
        refine AOps.s 29 rfl rfl rfl (q_load tok rfl rfl rfl (by first | exact .loc _ | exact .ptr _ _ _ _ _ _ _ _ rfl rfl rfl) rfl) ?_
        refine AOps.s 30 rfl rfl rfl (q_bin rfl rfl rfl rfl) ?_
        refine AOps.s 31 rfl rfl rfl (q_pick_false false rfl rfl rfl rfl) ?_
        refine AOps.s 5 rfl rfl rfl (q_move (.inr rfl) rfl) ?_
        refine AOps.nil ?_
        exact ⟨(), Sub.mk' (by repeat (first | exact ESub.new _ | refine ESub.put ?_ (by first | rfl | exact congrArg (fun c => some (AV.bool c)) (by simp_all [arrOp])))) (by repeat (first | exact HSub.refl _ | exact HSub.none _ | exact HSub.from_new _ | exact HSub.from_from (by first | decide | omega | (dsimp only; omega)) | refine HSub.put ?_ (by rfl) | refine HSub.from_put ?_ (by first | decide | omega | (dsimp only; omega)) | refine HSub.from_rm ?_ (by decide))), trivial⟩
    intro _u _
    refine AGo.seq ?_
    refine AGo.seq ?_
    refine AGo.join (γ := Unit) (fun _u => ⟨115, (eput (eput (eput eNew 2 (.ptr 0 1 0 0)) 3 (.ptr 1 1 0 0)) 38 (.bool (!arrOp t.op && t.size != 0))), (hput (hput (hFrom 2) 0 (.row false 4 [[.int .i64 words, .int .i64 f, .int .i64 regs, .int .i64 blocks]])) 1 (.row false 8 [t.cells]))⟩) (fun _u => True) ?_ ?_
    · -- to the join
      refine AGo.region ?_
      refine AOps.s 32 rfl rfl rfl (q_move (.inl rfl) rfl) ?_
      refine AOps.s 33 rfl rfl rfl (q_not rfl rfl) ?_
      refine AOps.s 34 rfl rfl rfl (q_move (.inl rfl) rfl) ?_
      refine AOps.split 34 rfl (fun hb7 => ?_) (fun hb7 => ?_)
      · -- True
        refine AOps.s 35 rfl rfl rfl (q_fieldAddr tok rfl rfl rfl rfl rfl rfl) ?_
        refine AOps.s 36 rfl rfl rfl (q_load tok rfl rfl rfl (by first | exact .loc _ | exact .ptr _ _ _ _ _ _ _ _ rfl rfl rfl) rfl) ?_
        refine AOps.s 37 rfl rfl rfl (q_bin rfl rfl rfl rfl) ?_
        refine AOps.s 38 rfl rfl rfl (q_pick_true true rfl rfl rfl rfl) ?_
        refine AOps.nil ?_
        exact ⟨(), Sub.mk' (by repeat (first | exact ESub.new _ | refine ESub.put ?_ (by first | rfl | exact congrArg (fun c => some (AV.bool c)) (by simp_all [arrOp])))) (by repeat (first | exact HSub.refl _ | exact HSub.none _ | exact HSub.from_new _ | exact HSub.from_from (by first | decide | omega | (dsimp only; omega)) | refine HSub.put ?_ (by rfl) | refine HSub.from_put ?_ (by first | decide | omega | (dsimp only; omega)) | refine HSub.from_rm ?_ (by decide))), trivial⟩
      · -- False
        refine AOps.k 35 rfl rfl rfl ?_
        refine AOps.k 36 rfl rfl rfl ?_
        refine AOps.k 37 rfl rfl rfl ?_
        refine AOps.s 38 rfl rfl rfl (q_pick_false false rfl rfl rfl rfl) ?_
        refine AOps.nil ?_
        exact ⟨(), Sub.mk' (by repeat (first | exact ESub.new _ | refine ESub.put ?_ (by first | rfl | exact congrArg (fun c => some (AV.bool c)) (by simp_all [arrOp])))) (by repeat (first | exact HSub.refl _ | exact HSub.none _ | exact HSub.from_new _ | exact HSub.from_from (by first | decide | omega | (dsimp only; omega)) | refine HSub.put ?_ (by rfl) | refine HSub.from_put ?_ (by first | decide | omega | (dsimp only; omega)) | refine HSub.from_rm ?_ (by decide))), trivial⟩
    intro _u _
    refine AGo.split 38 rfl (fun hb8 => ?_) (fun hb8 => ?_)
    · -- True
      refine AGo.cond_true true rfl rfl ?_
      refine AGo.seq ?_
      refine AGo.region ?_
      refine AOps.s 4 rfl rfl rfl (q_move (.inr rfl) rfl) ?_
      refine AOps.nil ?_
      refine AGo.ret ?_
      refine ⟨[_], ⟨rfl, trivial⟩, ?_, rfl⟩
      show AV.bool _ = AV.bool _
      congr 1
      first | (simp_all [Tac.rest2, arrOp]; done) | (simp_all [Tac.rest2, arrOp]; omega)
    · -- False
      refine AGo.cond_false false rfl rfl ?_
      have hq2 := hb8
      refine AGo.skip ?_
      refine AGo.seq ?_
      refine AGo.seq ?_
      refine AGo.region ?_
      refine AOps.s 39 rfl rfl rfl (q_fieldAddr tok rfl rfl rfl rfl rfl rfl) ?_
      refine AOps.s 40 rfl rfl rfl (q_load tok rfl rfl rfl (by first | exact .loc _ | exact .ptr _ _ _ _ _ _ _ _ rfl rfl rfl) rfl) ?_
      refine AOps.nil ?_
      refine AGo.block ?_
      refine AGo.seq ?_
      refine AGo.seq ?_
      refine AGo.region ?_
      refine AOps.s 42 rfl rfl rfl (q_bin rfl rfl rfl rfl) ?_
      refine AOps.s 41 rfl rfl rfl (q_move (.inr rfl) rfl) ?_
      refine AOps.nil ?_
      refine AGo.split 41 rfl (fun hb9 => ?_) (fun hb9 => ?_)
      · -- True
        refine AGo.cond_true true rfl rfl ?_
        refine AGo.skip ?_
        refine AGo.cond_true true rfl rfl ?_
        refine AGo.seq ?_
        refine AGo.region ?_
        refine AOps.s 46 rfl rfl rfl (q_fieldAddr tok rfl rfl rfl rfl rfl rfl) ?_
        refine AOps.s 47 rfl rfl rfl (q_load tok rfl rfl rfl (by first | exact .loc _ | exact .ptr _ _ _ _ _ _ _ _ rfl rfl rfl) rfl) ?_
        refine AOps.s 48 rfl rfl rfl (q_bin rfl rfl rfl rfl) ?_
        refine AOps.s 4 rfl rfl rfl (q_move (.inr rfl) rfl) ?_
        refine AOps.nil ?_
        refine AGo.ret ?_
        refine ⟨[_], ⟨rfl, trivial⟩, ?_, rfl⟩
        show AV.bool _ = AV.bool _
        congr 1
        first | (simp_all [Tac.rest2, arrOp]; done) | (simp_all [Tac.rest2, arrOp]; omega)
      · -- False
        refine AGo.cond_false false rfl rfl ?_
        refine AGo.seq ?_
        refine AGo.region ?_
        refine AOps.s 43 rfl rfl rfl (q_bin rfl rfl rfl rfl) ?_
        refine AOps.s 41 rfl rfl rfl (q_move (.inr rfl) rfl) ?_
        refine AOps.nil ?_
        refine AGo.split 41 rfl (fun hb10 => ?_) (fun hb10 => ?_)
        · -- True
          refine AGo.cond_true true rfl rfl ?_
          refine AGo.skip ?_
          refine AGo.cond_true true rfl rfl ?_
          refine AGo.seq ?_
          refine AGo.region ?_
          refine AOps.s 46 rfl rfl rfl (q_fieldAddr tok rfl rfl rfl rfl rfl rfl) ?_
          refine AOps.s 47 rfl rfl rfl (q_load tok rfl rfl rfl (by first | exact .loc _ | exact .ptr _ _ _ _ _ _ _ _ rfl rfl rfl) rfl) ?_
          refine AOps.s 48 rfl rfl rfl (q_bin rfl rfl rfl rfl) ?_
          refine AOps.s 4 rfl rfl rfl (q_move (.inr rfl) rfl) ?_
          refine AOps.nil ?_
          refine AGo.ret ?_
          refine ⟨[_], ⟨rfl, trivial⟩, ?_, rfl⟩
          show AV.bool _ = AV.bool _
          congr 1
          first | (simp_all [Tac.rest2, arrOp]; done) | (simp_all [Tac.rest2, arrOp]; omega)
        · -- False
          refine AGo.cond_false false rfl rfl ?_
          refine AGo.seq ?_
          refine AGo.region ?_
          refine AOps.s 44 rfl rfl rfl (q_bin rfl rfl rfl rfl) ?_
          refine AOps.s 41 rfl rfl rfl (q_move (.inr rfl) rfl) ?_
          refine AOps.nil ?_
          refine AGo.split 41 rfl (fun hb11 => ?_) (fun hb11 => ?_)
          · -- True
            refine AGo.cond_true true rfl rfl ?_
            refine AGo.skip ?_
            refine AGo.cond_true true rfl rfl ?_
            refine AGo.seq ?_
            refine AGo.region ?_
            refine AOps.s 46 rfl rfl rfl (q_fieldAddr tok rfl rfl rfl rfl rfl rfl) ?_
            refine AOps.s 47 rfl rfl rfl (q_load tok rfl rfl rfl (by first | exact .loc _ | exact .ptr _ _ _ _ _ _ _ _ rfl rfl rfl) rfl) ?_
            refine AOps.s 48 rfl rfl rfl (q_bin rfl rfl rfl rfl) ?_
            refine AOps.s 4 rfl rfl rfl (q_move (.inr rfl) rfl) ?_
            refine AOps.nil ?_
            refine AGo.ret ?_
            refine ⟨[_], ⟨rfl, trivial⟩, ?_, rfl⟩
            show AV.bool _ = AV.bool _
            congr 1
            first | (simp_all [Tac.rest2, arrOp]; done) | (simp_all [Tac.rest2, arrOp]; omega)
          · -- False
            refine AGo.cond_false false rfl rfl ?_
            refine AGo.region ?_
            refine AOps.s 45 rfl rfl rfl (q_bin rfl rfl rfl rfl) ?_
            refine AOps.s 41 rfl rfl rfl (q_move (.inr rfl) rfl) ?_
            refine AOps.nil ?_
            refine AGo.split 41 rfl (fun hb12 => ?_) (fun hb12 => ?_)
            · -- True
              refine AGo.cond_true true rfl rfl ?_
              refine AGo.seq ?_
              refine AGo.region ?_
              refine AOps.s 46 rfl rfl rfl (q_fieldAddr tok rfl rfl rfl rfl rfl rfl) ?_
              refine AOps.s 47 rfl rfl rfl (q_load tok rfl rfl rfl (by first | exact .loc _ | exact .ptr _ _ _ _ _ _ _ _ rfl rfl rfl) rfl) ?_
              refine AOps.s 48 rfl rfl rfl (q_bin rfl rfl rfl rfl) ?_
              refine AOps.s 4 rfl rfl rfl (q_move (.inr rfl) rfl) ?_
              refine AOps.nil ?_
              refine AGo.ret ?_
              refine ⟨[_], ⟨rfl, trivial⟩, ?_, rfl⟩
              show AV.bool _ = AV.bool _
              congr 1
              first | (simp_all [Tac.rest2, arrOp]; done) | (simp_all [Tac.rest2, arrOp]; omega)
            · -- False
              refine AGo.cond_false false rfl rfl ?_
              refine AGo.seq ?_
              refine AGo.region ?_
              refine AOps.s 50 rfl rfl rfl (q_bin rfl rfl rfl rfl) ?_
              refine AOps.s 49 rfl rfl rfl (q_move (.inr rfl) rfl) ?_
              refine AOps.nil ?_
              refine AGo.split 49 rfl (fun hb13 => ?_) (fun hb13 => ?_)
              · -- True
                refine AGo.cond_true true rfl rfl ?_
                refine AGo.seq ?_
                refine AGo.region ?_
                refine AOps.s 51 rfl rfl rfl (q_fieldAddr tok rfl rfl rfl rfl rfl rfl) ?_
                refine AOps.s 52 rfl rfl rfl (q_load tok rfl rfl rfl (by first | exact .loc _ | exact .ptr _ _ _ _ _ _ _ _ rfl rfl rfl) rfl) ?_
                refine AOps.s 53 rfl rfl rfl (q_bin rfl rfl rfl rfl) ?_
                refine AOps.s 54 rfl rfl rfl (q_move (.inl rfl) rfl) ?_
                refine AOps.split 54 rfl (fun hb14 => ?_) (fun hb14 => ?_)
                · -- True
                  refine AOps.s 55 rfl rfl rfl (q_fieldAddr tok rfl rfl rfl rfl rfl rfl) ?_
                  refine AOps.s 56 rfl rfl rfl (q_load tok rfl rfl rfl (by first | exact .loc _ | exact .ptr _ _ _ _ _ _ _ _ rfl rfl rfl) rfl) ?_
                  refine AOps.s 57 rfl rfl rfl (q_bin rfl rfl rfl rfl) ?_
                  refine AOps.s 58 rfl rfl rfl (q_pick_true true rfl rfl rfl rfl) ?_
                  refine AOps.s 59 rfl rfl rfl (q_move (.inl rfl) rfl) ?_
                  refine AOps.split 59 rfl (fun hb15 => ?_) (fun hb15 => ?_)
                  · -- True
                    refine AOps.s 60 rfl rfl rfl (q_fieldAddr tok rfl rfl rfl rfl rfl rfl) ?_
                    refine AOps.s 61 rfl rfl rfl (q_load tok rfl rfl rfl (by first | exact .loc _ | exact .ptr _ _ _ _ _ _ _ _ rfl rfl rfl) rfl) ?_
                    refine AOps.s 62 rfl rfl rfl (q_bin rfl rfl rfl rfl) ?_
                    refine AOps.s 63 rfl rfl rfl (q_pick_true true rfl rfl rfl rfl) ?_
                    refine AOps.s 4 rfl rfl rfl (q_move (.inr rfl) rfl) ?_
                    refine AOps.nil ?_
                    refine AGo.ret ?_
                    refine ⟨[_], ⟨rfl, trivial⟩, ?_, rfl⟩
                    show AV.bool _ = AV.bool _
                    congr 1
                    first | (simp_all [Tac.rest2, arrOp]; done) | (simp_all [Tac.rest2, arrOp]; omega)
                  · -- False
                    refine AOps.k 60 rfl rfl rfl ?_
                    refine AOps.k 61 rfl rfl rfl ?_
                    refine AOps.k 62 rfl rfl rfl ?_
                    refine AOps.s 63 rfl rfl rfl (q_pick_false false rfl rfl rfl rfl) ?_
                    refine AOps.s 4 rfl rfl rfl (q_move (.inr rfl) rfl) ?_
                    refine AOps.nil ?_
                    refine AGo.ret ?_
                    refine ⟨[_], ⟨rfl, trivial⟩, ?_, rfl⟩
                    show AV.bool _ = AV.bool _
                    congr 1
                    first | (simp_all [Tac.rest2, arrOp]; done) | (simp_all [Tac.rest2, arrOp]; omega)
                · -- False
                  refine AOps.k 55 rfl rfl rfl ?_
                  refine AOps.k 56 rfl rfl rfl ?_
                  refine AOps.k 57 rfl rfl rfl ?_
                  refine AOps.s 58 rfl rfl rfl (q_pick_false false rfl rfl rfl rfl) ?_
                  refine AOps.s 59 rfl rfl rfl (q_move (.inl rfl) rfl) ?_
                  refine AOps.k 60 rfl rfl rfl ?_
                  refine AOps.k 61 rfl rfl rfl ?_
                  refine AOps.k 62 rfl rfl rfl ?_
                  refine AOps.s 63 rfl rfl rfl (q_pick_false false rfl rfl rfl rfl) ?_
                  refine AOps.s 4 rfl rfl rfl (q_move (.inr rfl) rfl) ?_
                  refine AOps.nil ?_
                  refine AGo.ret ?_
                  refine ⟨[_], ⟨rfl, trivial⟩, ?_, rfl⟩
                  show AV.bool _ = AV.bool _
                  congr 1
                  first | (simp_all [Tac.rest2, arrOp]; done) | (simp_all [Tac.rest2, arrOp]; omega)
              · -- False
                refine AGo.cond_false false rfl rfl ?_
                refine AGo.seq ?_
                refine AGo.seq ?_
                refine AGo.region ?_
                refine AOps.s 65 rfl rfl rfl (q_bin rfl rfl rfl rfl) ?_
                refine AOps.s 64 rfl rfl rfl (q_move (.inr rfl) rfl) ?_
                refine AOps.nil ?_
                refine AGo.split 64 rfl (fun hb16 => ?_) (fun hb16 => ?_)
                · -- True
                  refine AGo.cond_true true rfl rfl ?_
                  refine AGo.skip ?_
                  refine AGo.cond_true true rfl rfl ?_
                  refine AGo.seq ?_
                  refine AGo.region ?_
                  refine AOps.s 67 rfl rfl rfl (q_fieldAddr tok rfl rfl rfl rfl rfl rfl) ?_
                  refine AOps.s 68 rfl rfl rfl (q_load tok rfl rfl rfl (by first | exact .loc _ | exact .ptr _ _ _ _ _ _ _ _ rfl rfl rfl) rfl) ?_
                  refine AOps.s 69 rfl rfl rfl (q_bin rfl rfl rfl rfl) ?_
                  refine AOps.s 70 rfl rfl rfl (q_move (.inl rfl) rfl) ?_
                  refine AOps.split 70 rfl (fun hb17 => ?_) (fun hb17 => ?_)
                  · -- True
                    refine AOps.s 71 rfl rfl rfl (q_fieldAddr tok rfl rfl rfl rfl rfl rfl) ?_
                    refine AOps.s 72 rfl rfl rfl (q_load tok rfl rfl rfl (by first | exact .loc _ | exact .ptr _ _ _ _ _ _ _ _ rfl rfl rfl) rfl) ?_
                    refine AOps.s 73 rfl rfl rfl (q_fieldAddr tok rfl rfl rfl rfl rfl rfl) ?_
                    refine AOps.s 74 rfl rfl rfl (q_load tok rfl rfl rfl (by first | exact .loc _ | exact .ptr _ _ _ _ _ _ _ _ rfl rfl rfl) rfl) ?_
                    refine AOps.s 75 rfl rfl rfl (q_bin rfl rfl rfl rfl) ?_
                    refine AOps.s 76 rfl rfl rfl (q_pick_true true rfl rfl rfl rfl) ?_
                    refine AOps.s 4 rfl rfl rfl (q_move (.inr rfl) rfl) ?_
                    refine AOps.nil ?_
                    refine AGo.ret ?_
                    refine ⟨[_], ⟨rfl, trivial⟩, ?_, rfl⟩
                    show AV.bool _ = AV.bool _
                    congr 1
                    first | (simp_all [Tac.rest2, arrOp]; done) | (simp_all [Tac.rest2, arrOp]; omega)
                  · -- False
                    refine AOps.k 71 rfl rfl rfl ?_
                    refine AOps.k 72 rfl rfl rfl ?_
                    refine AOps.k 73 rfl rfl rfl ?_
                    refine AOps.k 74 rfl rfl rfl ?_
                    refine AOps.k 75 rfl rfl rfl ?_
                    refine AOps.s 76 rfl rfl rfl (q_pick_false false rfl rfl rfl rfl) ?_
                    refine AOps.s 4 rfl rfl rfl (q_move (.inr rfl) rfl) ?_
                    refine AOps.nil ?_
                    refine AGo.ret ?_
                    refine ⟨[_], ⟨rfl, trivial⟩, ?_, rfl⟩
                    show AV.bool _ = AV.bool _
                    congr 1
                    first | (simp_all [Tac.rest2, arrOp]; done) | (simp_all [Tac.rest2, arrOp]; omega)
                · -- False
                  refine AGo.cond_false false rfl rfl ?_
                  refine AGo.region ?_
                  refine AOps.s 66 rfl rfl rfl (q_bin rfl rfl rfl rfl) ?_
                  refine AOps.s 64 rfl rfl rfl (q_move (.inr rfl) rfl) ?_
                  refine AOps.nil ?_
                  refine AGo.split 64 rfl (fun hb18 => ?_) (fun hb18 => ?_)
                  · -- True
                    refine AGo.cond_true true rfl rfl ?_
                    refine AGo.seq ?_
                    refine AGo.region ?_
                    refine AOps.s 67 rfl rfl rfl (q_fieldAddr tok rfl rfl rfl rfl rfl rfl) ?_
                    refine AOps.s 68 rfl rfl rfl (q_load tok rfl rfl rfl (by first | exact .loc _ | exact .ptr _ _ _ _ _ _ _ _ rfl rfl rfl) rfl) ?_
                    refine AOps.s 69 rfl rfl rfl (q_bin rfl rfl rfl rfl) ?_
                    refine AOps.s 70 rfl rfl rfl (q_move (.inl rfl) rfl) ?_
                    refine AOps.split 70 rfl (fun hb19 => ?_) (fun hb19 => ?_)
                    · -- True
                      refine AOps.s 71 rfl rfl rfl (q_fieldAddr tok rfl rfl rfl rfl rfl rfl) ?_
                      refine AOps.s 72 rfl rfl rfl (q_load tok rfl rfl rfl (by first | exact .loc _ | exact .ptr _ _ _ _ _ _ _ _ rfl rfl rfl) rfl) ?_
                      refine AOps.s 73 rfl rfl rfl (q_fieldAddr tok rfl rfl rfl rfl rfl rfl) ?_
                      refine AOps.s 74 rfl rfl rfl (q_load tok rfl rfl rfl (by first | exact .loc _ | exact .ptr _ _ _ _ _ _ _ _ rfl rfl rfl) rfl) ?_
                      refine AOps.s 75 rfl rfl rfl (q_bin rfl rfl rfl rfl) ?_
                      refine AOps.s 76 rfl rfl rfl (q_pick_true true rfl rfl rfl rfl) ?_
                      refine AOps.s 4 rfl rfl rfl (q_move (.inr rfl) rfl) ?_
                      refine AOps.nil ?_
                      refine AGo.ret ?_
                      refine ⟨[_], ⟨rfl, trivial⟩, ?_, rfl⟩
                      show AV.bool _ = AV.bool _
                      congr 1
                      first | (simp_all [Tac.rest2, arrOp]; done) | (simp_all [Tac.rest2, arrOp]; omega)
                    · -- False
                      refine AOps.k 71 rfl rfl rfl ?_
                      refine AOps.k 72 rfl rfl rfl ?_
                      refine AOps.k 73 rfl rfl rfl ?_
                      refine AOps.k 74 rfl rfl rfl ?_
                      refine AOps.k 75 rfl rfl rfl ?_
                      refine AOps.s 76 rfl rfl rfl (q_pick_false false rfl rfl rfl rfl) ?_
                      refine AOps.s 4 rfl rfl rfl (q_move (.inr rfl) rfl) ?_
                      refine AOps.nil ?_
                      refine AGo.ret ?_
                      refine ⟨[_], ⟨rfl, trivial⟩, ?_, rfl⟩
                      show AV.bool _ = AV.bool _
                      congr 1
                      first | (simp_all [Tac.rest2, arrOp]; done) | (simp_all [Tac.rest2, arrOp]; omega)
                  · -- False
                    refine AGo.cond_false false rfl rfl ?_
                    refine AGo.seq ?_
                    refine AGo.seq ?_
                    refine AGo.region ?_
                    refine AOps.s 78 rfl rfl rfl (q_bin rfl rfl rfl rfl) ?_
                    refine AOps.s 77 rfl rfl rfl (q_move (.inr rfl) rfl) ?_
                    refine AOps.nil ?_
                    refine AGo.split 77 rfl (fun hb20 => ?_) (fun hb20 => ?_)
                    · -- True
                      refine AGo.cond_true true rfl rfl ?_
                      refine AGo.skip ?_
                      refine AGo.cond_true true rfl rfl ?_
                      refine AGo.seq ?_
                      refine AGo.region ?_
                      refine AOps.s 80 rfl rfl rfl (q_fieldAddr tok rfl rfl rfl rfl rfl rfl) ?_
                      refine AOps.s 81 rfl rfl rfl (q_load tok rfl rfl rfl (by first | exact .loc _ | exact .ptr _ _ _ _ _ _ _ _ rfl rfl rfl) rfl) ?_
                      refine AOps.s 82 rfl rfl rfl (q_bin rfl rfl rfl rfl) ?_
                      refine AOps.s 83 rfl rfl rfl (q_move (.inl rfl) rfl) ?_
                      refine AOps.split 83 rfl (fun hb21 => ?_) (fun hb21 => ?_)
                      · -- True
                        refine AOps.s 84 rfl rfl rfl (q_fieldAddr tok rfl rfl rfl rfl rfl rfl) ?_
                        refine AOps.s 85 rfl rfl rfl (q_load tok rfl rfl rfl (by first | exact .loc _ | exact .ptr _ _ _ _ _ _ _ _ rfl rfl rfl) rfl) ?_
                        refine AOps.s 86 rfl rfl rfl (q_bin rfl rfl rfl rfl) ?_
                        refine AOps.s 87 rfl rfl rfl (q_pick_true true rfl rfl rfl rfl) ?_
                        refine AOps.s 88 rfl rfl rfl (q_move (.inl rfl) rfl) ?_
                        refine AOps.split 88 rfl (fun hb22 => ?_) (fun hb22 => ?_)
                        · -- True
                          refine AOps.s 89 rfl rfl rfl (q_fieldAddr tok rfl rfl rfl rfl rfl rfl) ?_
                          refine AOps.s 90 rfl rfl rfl (q_load tok rfl rfl rfl (by first | exact .loc _ | exact .ptr _ _ _ _ _ _ _ _ rfl rfl rfl) rfl) ?_
                          refine AOps.s 91 rfl rfl rfl (q_bin rfl rfl rfl rfl) ?_
                          refine AOps.s 92 rfl rfl rfl (q_pick_true true rfl rfl rfl rfl) ?_
                          refine AOps.s 93 rfl rfl rfl (q_move (.inl rfl) rfl) ?_
                          refine AOps.split 93 rfl (fun hb23 => ?_) (fun hb23 => ?_)
                          · -- True
                            refine AOps.s 94 rfl rfl rfl (q_fieldAddr tok rfl rfl rfl rfl rfl rfl) ?_
                            refine AOps.s 95 rfl rfl rfl (q_load tok rfl rfl rfl (by first | exact .loc _ | exact .ptr _ _ _ _ _ _ _ _ rfl rfl rfl) rfl) ?_
                            refine AOps.s 96 rfl rfl rfl (q_fieldAddr tok rfl rfl rfl rfl rfl rfl) ?_
                            refine AOps.s 97 rfl rfl rfl (q_load tok rfl rfl rfl (by first | exact .loc _ | exact .ptr _ _ _ _ _ _ _ _ rfl rfl rfl) rfl) ?_
                            refine AOps.s 98 rfl rfl rfl (q_fieldAddr tok rfl rfl rfl rfl rfl rfl) ?_
                            refine AOps.s 99 rfl rfl rfl (q_load tok rfl rfl rfl (by first | exact .loc _ | exact .ptr _ _ _ _ _ _ _ _ rfl rfl rfl) rfl) ?_
                            refine AOps.s 100 rfl rfl rfl (q_bin rfl rfl rfl rfl) ?_
                            refine AOps.s 101 rfl rfl rfl (q_bin rfl rfl rfl rfl) ?_
                            refine AOps.s 102 rfl rfl rfl (q_pick_true true rfl rfl rfl rfl) ?_
                            refine AOps.s 4 rfl rfl rfl (q_move (.inr rfl) rfl) ?_
                            refine AOps.nil ?_
                            refine AGo.ret ?_
                            refine ⟨[_], ⟨rfl, trivial⟩, ?_, rfl⟩
                            show AV.bool _ = AV.bool _
                            congr 1
                            rcases Decidable.em (1 ≤ t.size ∧ t.size ≤ 4096) with hsz | hsz
                            · try rw [wrap_i64 (x := words - t.size) (by omega) (by omega)]
                              first | (simp_all [Tac.rest2, arrOp]; done) | (simp_all [Tac.rest2, arrOp]; omega)
                            · first | (simp_all [Tac.rest2, arrOp]; done) | (simp_all [Tac.rest2, arrOp]; omega)
                          · -- False
                            refine AOps.k 94 rfl rfl rfl ?_
                            refine AOps.k 95 rfl rfl rfl ?_
                            refine AOps.k 96 rfl rfl rfl ?_
                            refine AOps.k 97 rfl rfl rfl ?_
                            refine AOps.k 98 rfl rfl rfl ?_
                            refine AOps.k 99 rfl rfl rfl ?_
                            refine AOps.k 100 rfl rfl rfl ?_
                            refine AOps.k 101 rfl rfl rfl ?_
                            refine AOps.s 102 rfl rfl rfl (q_pick_false false rfl rfl rfl rfl) ?_
                            refine AOps.s 4 rfl rfl rfl (q_move (.inr rfl) rfl) ?_
                            refine AOps.nil ?_
                            refine AGo.ret ?_
                            refine ⟨[_], ⟨rfl, trivial⟩, ?_, rfl⟩
                            show AV.bool _ = AV.bool _
                            congr 1
                            rcases Decidable.em (1 ≤ t.size ∧ t.size ≤ 4096) with hsz | hsz
                            · try rw [wrap_i64 (x := words - t.size) (by omega) (by omega)]
                              first | (simp_all [Tac.rest2, arrOp]; done) | (simp_all [Tac.rest2, arrOp]; omega)
                            · first | (simp_all [Tac.rest2, arrOp]; done) | (simp_all [Tac.rest2, arrOp]; omega)
                        · -- False
                          refine AOps.k 89 rfl rfl rfl ?_
                          refine AOps.k 90 rfl rfl rfl ?_
                          refine AOps.k 91 rfl rfl rfl ?_
                          refine AOps.s 92 rfl rfl rfl (q_pick_false false rfl rfl rfl rfl) ?_
                          refine AOps.s 93 rfl rfl rfl (q_move (.inl rfl) rfl) ?_
                          refine AOps.k 94 rfl rfl rfl ?_
                          refine AOps.k 95 rfl rfl rfl ?_
                          refine AOps.k 96 rfl rfl rfl ?_
                          refine AOps.k 97 rfl rfl rfl ?_
                          refine AOps.k 98 rfl rfl rfl ?_
                          refine AOps.k 99 rfl rfl rfl ?_
                          refine AOps.k 100 rfl rfl rfl ?_
                          refine AOps.k 101 rfl rfl rfl ?_
                          refine AOps.s 102 rfl rfl rfl (q_pick_false false rfl rfl rfl rfl) ?_
                          refine AOps.s 4 rfl rfl rfl (q_move (.inr rfl) rfl) ?_
                          refine AOps.nil ?_
                          refine AGo.ret ?_
                          refine ⟨[_], ⟨rfl, trivial⟩, ?_, rfl⟩
                          show AV.bool _ = AV.bool _
                          congr 1
                          rcases Decidable.em (1 ≤ t.size ∧ t.size ≤ 4096) with hsz | hsz
                          · try rw [wrap_i64 (x := words - t.size) (by omega) (by omega)]
                            first | (simp_all [Tac.rest2, arrOp]; done) | (simp_all [Tac.rest2, arrOp]; omega)
                          · first | (simp_all [Tac.rest2, arrOp]; done) | (simp_all [Tac.rest2, arrOp]; omega)
                      · -- False
                        refine AOps.k 84 rfl rfl rfl ?_
                        refine AOps.k 85 rfl rfl rfl ?_
                        refine AOps.k 86 rfl rfl rfl ?_
                        refine AOps.s 87 rfl rfl rfl (q_pick_false false rfl rfl rfl rfl) ?_
                        refine AOps.s 88 rfl rfl rfl (q_move (.inl rfl) rfl) ?_
                        refine AOps.k 89 rfl rfl rfl ?_
                        refine AOps.k 90 rfl rfl rfl ?_
                        refine AOps.k 91 rfl rfl rfl ?_
                        refine AOps.s 92 rfl rfl rfl (q_pick_false false rfl rfl rfl rfl) ?_
                        refine AOps.s 93 rfl rfl rfl (q_move (.inl rfl) rfl) ?_
                        refine AOps.k 94 rfl rfl rfl ?_
                        refine AOps.k 95 rfl rfl rfl ?_
                        refine AOps.k 96 rfl rfl rfl ?_
                        refine AOps.k 97 rfl rfl rfl ?_
                        refine AOps.k 98 rfl rfl rfl ?_
                        refine AOps.k 99 rfl rfl rfl ?_
                        refine AOps.k 100 rfl rfl rfl ?_
                        refine AOps.k 101 rfl rfl rfl ?_
                        refine AOps.s 102 rfl rfl rfl (q_pick_false false rfl rfl rfl rfl) ?_
                        refine AOps.s 4 rfl rfl rfl (q_move (.inr rfl) rfl) ?_
                        refine AOps.nil ?_
                        refine AGo.ret ?_
                        refine ⟨[_], ⟨rfl, trivial⟩, ?_, rfl⟩
                        show AV.bool _ = AV.bool _
                        congr 1
                        rcases Decidable.em (1 ≤ t.size ∧ t.size ≤ 4096) with hsz | hsz
                        · try rw [wrap_i64 (x := words - t.size) (by omega) (by omega)]
                          first | (simp_all [Tac.rest2, arrOp]; done) | (simp_all [Tac.rest2, arrOp]; omega)
                        · first | (simp_all [Tac.rest2, arrOp]; done) | (simp_all [Tac.rest2, arrOp]; omega)
                    · -- False
                      refine AGo.cond_false false rfl rfl ?_
                      refine AGo.region ?_
                      refine AOps.s 79 rfl rfl rfl (q_bin rfl rfl rfl rfl) ?_
                      refine AOps.s 77 rfl rfl rfl (q_move (.inr rfl) rfl) ?_
                      refine AOps.nil ?_
                      refine AGo.split 77 rfl (fun hb24 => ?_) (fun hb24 => ?_)
                      · -- True
                        refine AGo.cond_true true rfl rfl ?_
                        refine AGo.seq ?_
                        refine AGo.region ?_
                        refine AOps.s 80 rfl rfl rfl (q_fieldAddr tok rfl rfl rfl rfl rfl rfl) ?_
                        refine AOps.s 81 rfl rfl rfl (q_load tok rfl rfl rfl (by first | exact .loc _ | exact .ptr _ _ _ _ _ _ _ _ rfl rfl rfl) rfl) ?_
                        refine AOps.s 82 rfl rfl rfl (q_bin rfl rfl rfl rfl) ?_
                        refine AOps.s 83 rfl rfl rfl (q_move (.inl rfl) rfl) ?_
                        refine AOps.split 83 rfl (fun hb25 => ?_) (fun hb25 => ?_)
                        · -- True
                          refine AOps.s 84 rfl rfl rfl (q_fieldAddr tok rfl rfl rfl rfl rfl rfl) ?_
                          refine AOps.s 85 rfl rfl rfl (q_load tok rfl rfl rfl (by first | exact .loc _ | exact .ptr _ _ _ _ _ _ _ _ rfl rfl rfl) rfl) ?_
                          refine AOps.s 86 rfl rfl rfl (q_bin rfl rfl rfl rfl) ?_
                          refine AOps.s 87 rfl rfl rfl (q_pick_true true rfl rfl rfl rfl) ?_
                          refine AOps.s 88 rfl rfl rfl (q_move (.inl rfl) rfl) ?_
                          refine AOps.split 88 rfl (fun hb26 => ?_) (fun hb26 => ?_)
                          · -- True
                            refine AOps.s 89 rfl rfl rfl (q_fieldAddr tok rfl rfl rfl rfl rfl rfl) ?_
                            refine AOps.s 90 rfl rfl rfl (q_load tok rfl rfl rfl (by first | exact .loc _ | exact .ptr _ _ _ _ _ _ _ _ rfl rfl rfl) rfl) ?_
                            refine AOps.s 91 rfl rfl rfl (q_bin rfl rfl rfl rfl) ?_
                            refine AOps.s 92 rfl rfl rfl (q_pick_true true rfl rfl rfl rfl) ?_
                            refine AOps.s 93 rfl rfl rfl (q_move (.inl rfl) rfl) ?_
                            refine AOps.split 93 rfl (fun hb27 => ?_) (fun hb27 => ?_)
                            · -- True
                              refine AOps.s 94 rfl rfl rfl (q_fieldAddr tok rfl rfl rfl rfl rfl rfl) ?_
                              refine AOps.s 95 rfl rfl rfl (q_load tok rfl rfl rfl (by first | exact .loc _ | exact .ptr _ _ _ _ _ _ _ _ rfl rfl rfl) rfl) ?_
                              refine AOps.s 96 rfl rfl rfl (q_fieldAddr tok rfl rfl rfl rfl rfl rfl) ?_
                              refine AOps.s 97 rfl rfl rfl (q_load tok rfl rfl rfl (by first | exact .loc _ | exact .ptr _ _ _ _ _ _ _ _ rfl rfl rfl) rfl) ?_
                              refine AOps.s 98 rfl rfl rfl (q_fieldAddr tok rfl rfl rfl rfl rfl rfl) ?_
                              refine AOps.s 99 rfl rfl rfl (q_load tok rfl rfl rfl (by first | exact .loc _ | exact .ptr _ _ _ _ _ _ _ _ rfl rfl rfl) rfl) ?_
                              refine AOps.s 100 rfl rfl rfl (q_bin rfl rfl rfl rfl) ?_
                              refine AOps.s 101 rfl rfl rfl (q_bin rfl rfl rfl rfl) ?_
                              refine AOps.s 102 rfl rfl rfl (q_pick_true true rfl rfl rfl rfl) ?_
                              refine AOps.s 4 rfl rfl rfl (q_move (.inr rfl) rfl) ?_
                              refine AOps.nil ?_
                              refine AGo.ret ?_
                              refine ⟨[_], ⟨rfl, trivial⟩, ?_, rfl⟩
                              show AV.bool _ = AV.bool _
                              congr 1
                              rcases Decidable.em (1 ≤ t.size ∧ t.size ≤ 4096) with hsz | hsz
                              · try rw [wrap_i64 (x := words - t.size) (by omega) (by omega)]
                                first | (simp_all [Tac.rest2, arrOp]; done) | (simp_all [Tac.rest2, arrOp]; omega)
                              · first | (simp_all [Tac.rest2, arrOp]; done) | (simp_all [Tac.rest2, arrOp]; omega)
                            · -- False
                              refine AOps.k 94 rfl rfl rfl ?_
                              refine AOps.k 95 rfl rfl rfl ?_
                              refine AOps.k 96 rfl rfl rfl ?_
                              refine AOps.k 97 rfl rfl rfl ?_
                              refine AOps.k 98 rfl rfl rfl ?_
                              refine AOps.k 99 rfl rfl rfl ?_
                              refine AOps.k 100 rfl rfl rfl ?_
                              refine AOps.k 101 rfl rfl rfl ?_
                              refine AOps.s 102 rfl rfl rfl (q_pick_false false rfl rfl rfl rfl) ?_
                              refine AOps.s 4 rfl rfl rfl (q_move (.inr rfl) rfl) ?_
                              refine AOps.nil ?_
                              refine AGo.ret ?_
                              refine ⟨[_], ⟨rfl, trivial⟩, ?_, rfl⟩
                              show AV.bool _ = AV.bool _
                              congr 1
                              rcases Decidable.em (1 ≤ t.size ∧ t.size ≤ 4096) with hsz | hsz
                              · try rw [wrap_i64 (x := words - t.size) (by omega) (by omega)]
                                first | (simp_all [Tac.rest2, arrOp]; done) | (simp_all [Tac.rest2, arrOp]; omega)
                              · first | (simp_all [Tac.rest2, arrOp]; done) | (simp_all [Tac.rest2, arrOp]; omega)
                          · -- False
                            refine AOps.k 89 rfl rfl rfl ?_
                            refine AOps.k 90 rfl rfl rfl ?_
                            refine AOps.k 91 rfl rfl rfl ?_
                            refine AOps.s 92 rfl rfl rfl (q_pick_false false rfl rfl rfl rfl) ?_
                            refine AOps.s 93 rfl rfl rfl (q_move (.inl rfl) rfl) ?_
                            refine AOps.k 94 rfl rfl rfl ?_
                            refine AOps.k 95 rfl rfl rfl ?_
                            refine AOps.k 96 rfl rfl rfl ?_
                            refine AOps.k 97 rfl rfl rfl ?_
                            refine AOps.k 98 rfl rfl rfl ?_
                            refine AOps.k 99 rfl rfl rfl ?_
                            refine AOps.k 100 rfl rfl rfl ?_
                            refine AOps.k 101 rfl rfl rfl ?_
                            refine AOps.s 102 rfl rfl rfl (q_pick_false false rfl rfl rfl rfl) ?_
                            refine AOps.s 4 rfl rfl rfl (q_move (.inr rfl) rfl) ?_
                            refine AOps.nil ?_
                            refine AGo.ret ?_
                            refine ⟨[_], ⟨rfl, trivial⟩, ?_, rfl⟩
                            show AV.bool _ = AV.bool _
                            congr 1
                            rcases Decidable.em (1 ≤ t.size ∧ t.size ≤ 4096) with hsz | hsz
                            · try rw [wrap_i64 (x := words - t.size) (by omega) (by omega)]
                              first | (simp_all [Tac.rest2, arrOp]; done) | (simp_all [Tac.rest2, arrOp]; omega)
                            · first | (simp_all [Tac.rest2, arrOp]; done) | (simp_all [Tac.rest2, arrOp]; omega)
                        · -- False
                          refine AOps.k 84 rfl rfl rfl ?_
                          refine AOps.k 85 rfl rfl rfl ?_
                          refine AOps.k 86 rfl rfl rfl ?_
                          refine AOps.s 87 rfl rfl rfl (q_pick_false false rfl rfl rfl rfl) ?_
                          refine AOps.s 88 rfl rfl rfl (q_move (.inl rfl) rfl) ?_
                          refine AOps.k 89 rfl rfl rfl ?_
                          refine AOps.k 90 rfl rfl rfl ?_
                          refine AOps.k 91 rfl rfl rfl ?_
                          refine AOps.s 92 rfl rfl rfl (q_pick_false false rfl rfl rfl rfl) ?_
                          refine AOps.s 93 rfl rfl rfl (q_move (.inl rfl) rfl) ?_
                          refine AOps.k 94 rfl rfl rfl ?_
                          refine AOps.k 95 rfl rfl rfl ?_
                          refine AOps.k 96 rfl rfl rfl ?_
                          refine AOps.k 97 rfl rfl rfl ?_
                          refine AOps.k 98 rfl rfl rfl ?_
                          refine AOps.k 99 rfl rfl rfl ?_
                          refine AOps.k 100 rfl rfl rfl ?_
                          refine AOps.k 101 rfl rfl rfl ?_
                          refine AOps.s 102 rfl rfl rfl (q_pick_false false rfl rfl rfl rfl) ?_
                          refine AOps.s 4 rfl rfl rfl (q_move (.inr rfl) rfl) ?_
                          refine AOps.nil ?_
                          refine AGo.ret ?_
                          refine ⟨[_], ⟨rfl, trivial⟩, ?_, rfl⟩
                          show AV.bool _ = AV.bool _
                          congr 1
                          rcases Decidable.em (1 ≤ t.size ∧ t.size ≤ 4096) with hsz | hsz
                          · try rw [wrap_i64 (x := words - t.size) (by omega) (by omega)]
                            first | (simp_all [Tac.rest2, arrOp]; done) | (simp_all [Tac.rest2, arrOp]; omega)
                          · first | (simp_all [Tac.rest2, arrOp]; done) | (simp_all [Tac.rest2, arrOp]; omega)
                      · -- False
                        refine AGo.cond_false false rfl rfl ?_
                        refine AGo.seq ?_
                        refine AGo.region ?_
                        refine AOps.s 104 rfl rfl rfl (q_bin rfl rfl rfl rfl) ?_
                        refine AOps.s 103 rfl rfl rfl (q_move (.inr rfl) rfl) ?_
                        refine AOps.nil ?_
                        refine AGo.split 103 rfl (fun hb28 => ?_) (fun hb28 => ?_)
                        · -- True
                          refine AGo.cond_true true rfl rfl ?_
                          refine AGo.seq ?_
                          refine AGo.region ?_
                          refine AOps.s 105 rfl rfl rfl (q_fieldAddr tok rfl rfl rfl rfl rfl rfl) ?_
                          refine AOps.s 106 rfl rfl rfl (q_load tok rfl rfl rfl (by first | exact .loc _ | exact .ptr _ _ _ _ _ _ _ _ rfl rfl rfl) rfl) ?_
                          refine AOps.s 107 rfl rfl rfl (q_bin rfl rfl rfl rfl) ?_
                          refine AOps.s 108 rfl rfl rfl (q_move (.inl rfl) rfl) ?_
                          refine AOps.split 108 rfl (fun hb29 => ?_) (fun hb29 => ?_)
                          · -- True
                            refine AOps.s 109 rfl rfl rfl (q_fieldAddr tok rfl rfl rfl rfl rfl rfl) ?_
                            refine AOps.s 110 rfl rfl rfl (q_load tok rfl rfl rfl (by first | exact .loc _ | exact .ptr _ _ _ _ _ _ _ _ rfl rfl rfl) rfl) ?_
                            refine AOps.s 111 rfl rfl rfl (q_fieldAddr tok rfl rfl rfl rfl rfl rfl) ?_
                            refine AOps.s 112 rfl rfl rfl (q_load tok rfl rfl rfl (by first | exact .loc _ | exact .ptr _ _ _ _ _ _ _ _ rfl rfl rfl) rfl) ?_
                            refine AOps.s 113 rfl rfl rfl (q_bin rfl rfl rfl rfl) ?_
                            refine AOps.s 114 rfl rfl rfl (q_pick_true true rfl rfl rfl rfl) ?_
                            refine AOps.s 4 rfl rfl rfl (q_move (.inr rfl) rfl) ?_
                            refine AOps.nil ?_
                            refine AGo.ret ?_
                            refine ⟨[_], ⟨rfl, trivial⟩, ?_, rfl⟩
                            show AV.bool _ = AV.bool _
                            congr 1
                            first | (simp_all [Tac.rest2, arrOp]; done) | (simp_all [Tac.rest2, arrOp]; omega)
                          · -- False
                            refine AOps.k 109 rfl rfl rfl ?_
                            refine AOps.k 110 rfl rfl rfl ?_
                            refine AOps.k 111 rfl rfl rfl ?_
                            refine AOps.k 112 rfl rfl rfl ?_
                            refine AOps.k 113 rfl rfl rfl ?_
                            refine AOps.s 114 rfl rfl rfl (q_pick_false false rfl rfl rfl rfl) ?_
                            refine AOps.s 4 rfl rfl rfl (q_move (.inr rfl) rfl) ?_
                            refine AOps.nil ?_
                            refine AGo.ret ?_
                            refine ⟨[_], ⟨rfl, trivial⟩, ?_, rfl⟩
                            show AV.bool _ = AV.bool _
                            congr 1
                            first | (simp_all [Tac.rest2, arrOp]; done) | (simp_all [Tac.rest2, arrOp]; omega)
                        · -- False
                          refine AGo.cond_false false rfl rfl ?_
                          refine AGo.skip ?_
                          refine AGo.seq ?_
                          refine AGo.region ?_
                          refine AOps.s 4 rfl rfl rfl (q_move (.inr rfl) rfl) ?_
                          refine AOps.nil ?_
                          refine AGo.ret ?_
                          refine ⟨[_], ⟨rfl, trivial⟩, ?_, rfl⟩
                          show AV.bool _ = AV.bool _
                          congr 1
                          first | (simp_all [Tac.rest2, arrOp]; done) | (simp_all [Tac.rest2, arrOp]; omega)

set_option maxRecDepth 100000 in
theorem bins_ok (words f regs blocks : Int) (t : Tac) (hw : 0 ≤ words) (hw2 : words ≤ 1048576) : APure Try.prog 32 [(.agg [.int .i64 words, .int .i64 f, .int .i64 regs, .int .i64 blocks]), .agg t.cells] (fun q => q = .bool (t.fits f regs words)) := by
  rw [← ins2_fits]
  refine APure.of_body (n := 58) tok Try.func32 rfl rfl ?_
  refine AGo.seq ?_
  refine AGo.region ?_
  refine AOps.x 2 rfl rfl rfl (o_box (sz := 4) 0 rfl rfl rfl rfl (Nat.zero_lt_succ _) rfl) ?_
  refine AOps.x 3 rfl rfl rfl (o_box (sz := 8) 1 rfl rfl rfl rfl (Nat.zero_lt_succ _) rfl) ?_
  refine AOps.s 4 rfl rfl rfl (q_move (.inr rfl) rfl) ?_
  refine AOps.nil ?_
  refine AGo.seq ?_
  refine AGo.seq ?_
  refine AGo.region ?_
  refine AOps.s 5 rfl rfl rfl (q_fieldAddr tok rfl rfl rfl rfl rfl rfl) ?_
  refine AOps.s 6 rfl rfl rfl (q_load tok rfl rfl rfl (by first | exact .loc _ | exact .ptr _ _ _ _ _ _ _ _ rfl rfl rfl) rfl) ?_
  refine AOps.x 7 rfl rfl rfl (o_pure rfl Try.func34 (by kernel_rfl) rfl rfl rfl (bsetsOp_ok _)) ?_
  refine AOps.nil ?_
  refine AGo.join (γ := Unit) (fun _u => ⟨58, (eput (eput eNew 2 (.ptr 0 1 0 0)) 3 (.ptr 1 1 0 0)), (hput (hput (hFrom 2) 0 (.row false 4 [[.int .i64 words, .int .i64 f, .int .i64 regs, .int .i64 blocks]])) 1 (.row false 8 [t.cells]))⟩) (fun _u => (bif setsOp t.op then within t.d regs else t.d == 0) = true) ?_ ?_
  · -- to the join
    refine AGo.split 7 rfl (fun hb1 => ?_) (fun hb1 => ?_)
    · -- True
      refine AGo.cond_true true rfl rfl ?_
      refine AGo.seq ?_
      refine AGo.region ?_
      refine AOps.s 8 rfl rfl rfl (q_load tok rfl rfl rfl (by first | exact .loc _ | exact .ptr _ _ _ _ _ _ _ _ rfl rfl rfl) rfl) ?_
      refine AOps.s 9 rfl rfl rfl (q_fieldAddr tok rfl rfl rfl rfl rfl rfl) ?_
      refine AOps.s 10 rfl rfl rfl (q_load tok rfl rfl rfl (by first | exact .loc _ | exact .ptr _ _ _ _ _ _ _ _ rfl rfl rfl) rfl) ?_
      refine AOps.x 11 rfl rfl rfl (o_pure rfl Try.func43 (by kernel_rfl) rfl rfl rfl (breg_ok _ _ _ _ _)) ?_
      refine AOps.s 12 rfl rfl rfl (q_not rfl rfl) ?_
      refine AOps.nil ?_
      refine AGo.split 12 rfl (fun hb2 => ?_) (fun hb2 => ?_)
      · -- True
        refine AGo.cond_true true rfl rfl ?_
        refine AGo.seq ?_
        refine AGo.region ?_
        refine AOps.s 4 rfl rfl rfl (q_move (.inr rfl) rfl) ?_
        refine AOps.nil ?_
        refine AGo.ret ?_
        refine ⟨[_], ⟨rfl, trivial⟩, ?_, rfl⟩
        show AV.bool _ = AV.bool _
        congr 1
        simp_all [Tac.ins2]
      · -- False
        refine AGo.cond_false false rfl rfl ?_
        refine AGo.skip ?_
        exact ⟨(), Sub.mk' (by repeat (first | exact ESub.new _ | refine ESub.put ?_ (by rfl))) (by repeat (first | exact HSub.refl _ | exact HSub.none _ | exact HSub.from_new _ | exact HSub.from_from (by first | decide | omega | (dsimp only; omega)) | refine HSub.put ?_ (by rfl) | refine HSub.from_put ?_ (by first | decide | omega | (dsimp only; omega)) | refine HSub.from_rm ?_ (by decide))), (by simp_all)⟩
    · -- False
      refine AGo.cond_false false rfl rfl ?_
      refine AGo.seq ?_
      refine AGo.region ?_
      refine AOps.s 13 rfl rfl rfl (q_fieldAddr tok rfl rfl rfl rfl rfl rfl) ?_
      refine AOps.s 14 rfl rfl rfl (q_load tok rfl rfl rfl (by first | exact .loc _ | exact .ptr _ _ _ _ _ _ _ _ rfl rfl rfl) rfl) ?_
      refine AOps.s 15 rfl rfl rfl (q_bin rfl rfl rfl rfl) ?_
      refine AOps.nil ?_
      refine AGo.split 15 rfl (fun hb3 => ?_) (fun hb3 => ?_)
      · -- True
        refine AGo.cond_true true rfl rfl ?_
        refine AGo.seq ?_
        refine AGo.region ?_
        refine AOps.s 4 rfl rfl rfl (q_move (.inr rfl) rfl) ?_
        refine AOps.nil ?_
        refine AGo.ret ?_
        refine ⟨[_], ⟨rfl, trivial⟩, ?_, rfl⟩
        show AV.bool _ = AV.bool _
        congr 1
        simp_all [Tac.ins2]
      · -- False
        refine AGo.cond_false false rfl rfl ?_
        refine AGo.skip ?_
        exact ⟨(), Sub.mk' (by repeat (first | exact ESub.new _ | refine ESub.put ?_ (by rfl))) (by repeat (first | exact HSub.refl _ | exact HSub.none _ | exact HSub.from_new _ | exact HSub.from_from (by first | decide | omega | (dsimp only; omega)) | refine HSub.put ?_ (by rfl) | refine HSub.from_put ?_ (by first | decide | omega | (dsimp only; omega)) | refine HSub.from_rm ?_ (by decide))), (by simp_all)⟩
  intro _u hq1
  refine AGo.seq ?_
  refine AGo.seq ?_
  refine AGo.region ?_
  refine AOps.s 16 rfl rfl rfl (q_fieldAddr tok rfl rfl rfl rfl rfl rfl) ?_
  refine AOps.s 17 rfl rfl rfl (q_load tok rfl rfl rfl (by first | exact .loc _ | exact .ptr _ _ _ _ _ _ _ _ rfl rfl rfl) rfl) ?_
  refine AOps.x 18 rfl rfl rfl (o_pure rfl Try.func33 (by kernel_rfl) rfl rfl rfl (breads_ok _)) ?_
  refine AOps.nil ?_
  refine AGo.join (γ := Unit) (fun _u => ⟨58, (eput (eput eNew 2 (.ptr 0 1 0 0)) 3 (.ptr 1 1 0 0)), (hput (hput (hFrom 2) 0 (.row false 4 [[.int .i64 words, .int .i64 f, .int .i64 regs, .int .i64 blocks]])) 1 (.row false 8 [t.cells]))⟩) (fun _u => (bif use1 t.op then within t.a regs && t.b == 0 else bif use2 t.op then within t.a regs && within t.b regs else t.a == 0 && t.b == 0) = true) ?_ ?_
  · -- to the join
    refine AGo.block ?_
    refine AGo.seq ?_
    refine AGo.region ?_
    refine AOps.s 20 rfl rfl rfl (q_bin rfl rfl rfl rfl) ?_
    refine AOps.s 19 rfl rfl rfl (q_move (.inr rfl) rfl) ?_
    refine AOps.nil ?_
    refine AGo.split 19 rfl (fun hb4 => ?_) (fun hb4 => ?_)
    · -- True
      refine AGo.cond_true true rfl rfl ?_
      have hrd : readsN t.op = 0 := by simpa using hb4
      have hu : use1 t.op = false ∧ use2 t.op = false := reads0 hrd
      refine AGo.seq ?_
      refine AGo.region ?_
      refine AOps.s 21 rfl rfl rfl (q_fieldAddr tok rfl rfl rfl rfl rfl rfl) ?_
      refine AOps.s 22 rfl rfl rfl (q_load tok rfl rfl rfl (by first | exact .loc _ | exact .ptr _ _ _ _ _ _ _ _ rfl rfl rfl) rfl) ?_
      refine AOps.s 23 rfl rfl rfl (q_bin rfl rfl rfl rfl) ?_
      refine AOps.s 24 rfl rfl rfl (q_move (.inl rfl) rfl) ?_
      refine AOps.split 24 rfl (fun hb5 => ?_) (fun hb5 => ?_)
      · -- True
        refine AOps.k 25 rfl rfl rfl ?_
        refine AOps.k 26 rfl rfl rfl ?_
        refine AOps.k 27 rfl rfl rfl ?_
        refine AOps.s 28 rfl rfl rfl (q_pick_true true rfl rfl rfl rfl) ?_
        refine AOps.nil ?_
        refine AGo.cond_true true rfl rfl ?_
        refine AGo.seq ?_
        refine AGo.region ?_
        refine AOps.s 4 rfl rfl rfl (q_move (.inr rfl) rfl) ?_
        refine AOps.nil ?_
        refine AGo.ret ?_
        refine ⟨[_], ⟨rfl, trivial⟩, ?_, rfl⟩
        show AV.bool _ = AV.bool _
        congr 1
        simp_all [Tac.ins2]
      · -- False
        refine AOps.s 25 rfl rfl rfl (q_fieldAddr tok rfl rfl rfl rfl rfl rfl) ?_
        refine AOps.s 26 rfl rfl rfl (q_load tok rfl rfl rfl (by first | exact .loc _ | exact .ptr _ _ _ _ _ _ _ _ rfl rfl rfl) rfl) ?_
        refine AOps.s 27 rfl rfl rfl (q_bin rfl rfl rfl rfl) ?_
        refine AOps.s 28 rfl rfl rfl (q_pick_false false rfl rfl rfl rfl) ?_
        refine AOps.nil ?_
        refine AGo.split 28 rfl (fun hb6 => ?_) (fun hb6 => ?_)
        · -- True
          refine AGo.cond_true true rfl rfl ?_
          refine AGo.seq ?_
          refine AGo.region ?_
          refine AOps.s 4 rfl rfl rfl (q_move (.inr rfl) rfl) ?_
          refine AOps.nil ?_
          refine AGo.ret ?_
          refine ⟨[_], ⟨rfl, trivial⟩, ?_, rfl⟩
          show AV.bool _ = AV.bool _
          congr 1
          simp_all [Tac.ins2]
        · -- False
          refine AGo.cond_false false rfl rfl ?_
          refine AGo.skip ?_
          exact ⟨(), Sub.mk' (by repeat (first | exact ESub.new _ | refine ESub.put ?_ (by rfl))) (by repeat (first | exact HSub.refl _ | exact HSub.none _ | exact HSub.from_new _ | exact HSub.from_from (by first | decide | omega | (dsimp only; omega)) | refine HSub.put ?_ (by rfl) | refine HSub.from_put ?_ (by first | decide | omega | (dsimp only; omega)) | refine HSub.from_rm ?_ (by decide))), (by first | (simp_all; done) | (exfalso; have := readsN_or t.op; simp_all))⟩
    · -- False
      refine AGo.cond_false false rfl rfl ?_
      refine AGo.seq ?_
      refine AGo.region ?_
      refine AOps.s 30 rfl rfl rfl (q_bin rfl rfl rfl rfl) ?_
      refine AOps.s 29 rfl rfl rfl (q_move (.inr rfl) rfl) ?_
      refine AOps.nil ?_
      refine AGo.split 29 rfl (fun hb7 => ?_) (fun hb7 => ?_)
      · -- True
        refine AGo.cond_true true rfl rfl ?_
        have hrd : readsN t.op = 1 := by simpa using hb7
        have hu : use1 t.op = true := reads1 hrd
        refine AGo.seq ?_
        refine AGo.region ?_
        refine AOps.s 31 rfl rfl rfl (q_load tok rfl rfl rfl (by first | exact .loc _ | exact .ptr _ _ _ _ _ _ _ _ rfl rfl rfl) rfl) ?_
        refine AOps.s 32 rfl rfl rfl (q_fieldAddr tok rfl rfl rfl rfl rfl rfl) ?_
        refine AOps.s 33 rfl rfl rfl (q_load tok rfl rfl rfl (by first | exact .loc _ | exact .ptr _ _ _ _ _ _ _ _ rfl rfl rfl) rfl) ?_
        refine AOps.x 34 rfl rfl rfl (o_pure rfl Try.func43 (by kernel_rfl) rfl rfl rfl (breg_ok _ _ _ _ _)) ?_
        refine AOps.s 35 rfl rfl rfl (q_not rfl rfl) ?_
        refine AOps.s 36 rfl rfl rfl (q_move (.inl rfl) rfl) ?_
        refine AOps.split 36 rfl (fun hb8 => ?_) (fun hb8 => ?_)
        · -- True
          refine AOps.k 37 rfl rfl rfl ?_
          refine AOps.k 38 rfl rfl rfl ?_
          refine AOps.k 39 rfl rfl rfl ?_
          refine AOps.s 40 rfl rfl rfl (q_pick_true true rfl rfl rfl rfl) ?_
          refine AOps.nil ?_
          refine AGo.cond_true true rfl rfl ?_
          refine AGo.seq ?_
          refine AGo.region ?_
          refine AOps.s 4 rfl rfl rfl (q_move (.inr rfl) rfl) ?_
          refine AOps.nil ?_
          refine AGo.ret ?_
          refine ⟨[_], ⟨rfl, trivial⟩, ?_, rfl⟩
          show AV.bool _ = AV.bool _
          congr 1
          simp_all [Tac.ins2]
        · -- False
          refine AOps.s 37 rfl rfl rfl (q_fieldAddr tok rfl rfl rfl rfl rfl rfl) ?_
          refine AOps.s 38 rfl rfl rfl (q_load tok rfl rfl rfl (by first | exact .loc _ | exact .ptr _ _ _ _ _ _ _ _ rfl rfl rfl) rfl) ?_
          refine AOps.s 39 rfl rfl rfl (q_bin rfl rfl rfl rfl) ?_
          refine AOps.s 40 rfl rfl rfl (q_pick_false false rfl rfl rfl rfl) ?_
          refine AOps.nil ?_
          refine AGo.split 40 rfl (fun hb9 => ?_) (fun hb9 => ?_)
          · -- True
            refine AGo.cond_true true rfl rfl ?_
            refine AGo.seq ?_
            refine AGo.region ?_
            refine AOps.s 4 rfl rfl rfl (q_move (.inr rfl) rfl) ?_
            refine AOps.nil ?_
            refine AGo.ret ?_
            refine ⟨[_], ⟨rfl, trivial⟩, ?_, rfl⟩
            show AV.bool _ = AV.bool _
            congr 1
            simp_all [Tac.ins2]
          · -- False
            refine AGo.cond_false false rfl rfl ?_
            refine AGo.skip ?_
            exact ⟨(), Sub.mk' (by repeat (first | exact ESub.new _ | refine ESub.put ?_ (by rfl))) (by repeat (first | exact HSub.refl _ | exact HSub.none _ | exact HSub.from_new _ | exact HSub.from_from (by first | decide | omega | (dsimp only; omega)) | refine HSub.put ?_ (by rfl) | refine HSub.from_put ?_ (by first | decide | omega | (dsimp only; omega)) | refine HSub.from_rm ?_ (by decide))), (by first | (simp_all; done) | (exfalso; have := readsN_or t.op; simp_all))⟩
      · -- False
        refine AGo.cond_false false rfl rfl ?_
        refine AGo.seq ?_
        refine AGo.region ?_
        refine AOps.s 42 rfl rfl rfl (q_bin rfl rfl rfl rfl) ?_
        refine AOps.s 41 rfl rfl rfl (q_move (.inr rfl) rfl) ?_
        refine AOps.nil ?_
        refine AGo.split 41 rfl (fun hb10 => ?_) (fun hb10 => ?_)
        · -- True
          refine AGo.cond_true true rfl rfl ?_
          have hrd : readsN t.op = 2 := by simpa using hb10
          have hu : use1 t.op = false ∧ use2 t.op = true := reads2 hrd
          refine AGo.seq ?_
          refine AGo.region ?_
          refine AOps.s 43 rfl rfl rfl (q_load tok rfl rfl rfl (by first | exact .loc _ | exact .ptr _ _ _ _ _ _ _ _ rfl rfl rfl) rfl) ?_
          refine AOps.s 44 rfl rfl rfl (q_fieldAddr tok rfl rfl rfl rfl rfl rfl) ?_
          refine AOps.s 45 rfl rfl rfl (q_load tok rfl rfl rfl (by first | exact .loc _ | exact .ptr _ _ _ _ _ _ _ _ rfl rfl rfl) rfl) ?_
          refine AOps.x 46 rfl rfl rfl (o_pure rfl Try.func43 (by kernel_rfl) rfl rfl rfl (breg_ok _ _ _ _ _)) ?_
          refine AOps.s 47 rfl rfl rfl (q_not rfl rfl) ?_
          refine AOps.s 48 rfl rfl rfl (q_move (.inl rfl) rfl) ?_
          refine AOps.split 48 rfl (fun hb11 => ?_) (fun hb11 => ?_)
          · -- True
            refine AOps.k 49 rfl rfl rfl ?_
            refine AOps.k 50 rfl rfl rfl ?_
            refine AOps.k 51 rfl rfl rfl ?_
            refine AOps.k 52 rfl rfl rfl ?_
            refine AOps.k 53 rfl rfl rfl ?_
            refine AOps.s 54 rfl rfl rfl (q_pick_true true rfl rfl rfl rfl) ?_
            refine AOps.nil ?_
            refine AGo.cond_true true rfl rfl ?_
            refine AGo.seq ?_
            refine AGo.region ?_
            refine AOps.s 4 rfl rfl rfl (q_move (.inr rfl) rfl) ?_
            refine AOps.nil ?_
            refine AGo.ret ?_
            refine ⟨[_], ⟨rfl, trivial⟩, ?_, rfl⟩
            show AV.bool _ = AV.bool _
            congr 1
            simp_all [Tac.ins2]
          · -- False
            refine AOps.s 49 rfl rfl rfl (q_load tok rfl rfl rfl (by first | exact .loc _ | exact .ptr _ _ _ _ _ _ _ _ rfl rfl rfl) rfl) ?_
            refine AOps.s 50 rfl rfl rfl (q_fieldAddr tok rfl rfl rfl rfl rfl rfl) ?_
            refine AOps.s 51 rfl rfl rfl (q_load tok rfl rfl rfl (by first | exact .loc _ | exact .ptr _ _ _ _ _ _ _ _ rfl rfl rfl) rfl) ?_
            refine AOps.x 52 rfl rfl rfl (o_pure rfl Try.func43 (by kernel_rfl) rfl rfl rfl (breg_ok _ _ _ _ _)) ?_
            refine AOps.s 53 rfl rfl rfl (q_not rfl rfl) ?_
            refine AOps.s 54 rfl rfl rfl (q_pick_false false rfl rfl rfl rfl) ?_
            refine AOps.nil ?_
            refine AGo.split 54 rfl (fun hb12 => ?_) (fun hb12 => ?_)
            · -- True
              refine AGo.cond_true true rfl rfl ?_
              refine AGo.seq ?_
              refine AGo.region ?_
              refine AOps.s 4 rfl rfl rfl (q_move (.inr rfl) rfl) ?_
              refine AOps.nil ?_
              refine AGo.ret ?_
              refine ⟨[_], ⟨rfl, trivial⟩, ?_, rfl⟩
              show AV.bool _ = AV.bool _
              congr 1
              simp_all [Tac.ins2]
            · -- False
              refine AGo.cond_false false rfl rfl ?_
              refine AGo.skip ?_
              exact ⟨(), Sub.mk' (by repeat (first | exact ESub.new _ | refine ESub.put ?_ (by rfl))) (by repeat (first | exact HSub.refl _ | exact HSub.none _ | exact HSub.from_new _ | exact HSub.from_from (by first | decide | omega | (dsimp only; omega)) | refine HSub.put ?_ (by rfl) | refine HSub.from_put ?_ (by first | decide | omega | (dsimp only; omega)) | refine HSub.from_rm ?_ (by decide))), (by first | (simp_all; done) | (exfalso; have := readsN_or t.op; simp_all))⟩
        · -- False
          refine AGo.cond_false false rfl rfl ?_
          refine AGo.skip ?_
          exact ⟨(), Sub.mk' (by repeat (first | exact ESub.new _ | refine ESub.put ?_ (by rfl))) (by repeat (first | exact HSub.refl _ | exact HSub.none _ | exact HSub.from_new _ | exact HSub.from_from (by first | decide | omega | (dsimp only; omega)) | refine HSub.put ?_ (by rfl) | refine HSub.from_put ?_ (by first | decide | omega | (dsimp only; omega)) | refine HSub.from_rm ?_ (by decide))), (by first | (simp_all; done) | (exfalso; have := readsN_or t.op; simp_all))⟩
  intro _u hq2
  refine AGo.seq ?_
  refine AGo.region ?_
  refine AOps.s 55 rfl rfl rfl (q_load tok rfl rfl rfl (by first | exact .loc _ | exact .ptr _ _ _ _ _ _ _ _ rfl rfl rfl) rfl) ?_
  refine AOps.s 56 rfl rfl rfl (q_load tok rfl rfl rfl (by first | exact .loc _ | exact .ptr _ _ _ _ _ _ _ _ rfl rfl rfl) rfl) ?_
  refine AOps.x 57 rfl rfl rfl (o_pure rfl Try.func44 (by kernel_rfl) rfl rfl rfl (brest_ok _ _ _ _ _ (by assumption) (by assumption))) ?_
  refine AOps.s 4 rfl rfl rfl (q_move (.inr rfl) rfl) ?_
  refine AOps.nil ?_
  refine AGo.ret ?_
  refine ⟨[_], ⟨rfl, trivial⟩, ?_, rfl⟩
  show AV.bool _ = AV.bool _
  congr 1
  simp [Tac.ins2, hq1, hq2]

end Go.Proofs.Ytophfphgcbnafaa.Sv

namespace Go.Proofs.Ytophfphgcbnafaa.Sv
open Go
set_option linter.unusedVariables false
set_option linter.unusedSimpArgs false

set_option maxRecDepth 100000 in
theorem bright_ok (b : Blocks) : APure Try.prog 15 [.agg b.cells] (fun r => r = .bool b.right) := by
  refine APure.of_body (n := 80) tok Try.func15 rfl rfl ?_
  refine AGo.seq ?_
  refine AGo.slot 0 rfl (fun H ι v => rel_prog) (fun hfit => ?_)
  refine AGo.region ?_
  refine AOps.x 1 rfl rfl rfl (o_box (sz := 2) 0 rfl rfl rfl rfl (Nat.zero_lt_succ _) rfl) ?_
  refine AOps.s 2 rfl rfl rfl (q_move (.inr rfl) rfl) ?_
  refine AOps.nil ?_
  refine AGo.seq ?_
  refine AGo.seq ?_
  refine AGo.region ?_
  refine AOps.s 10 rfl rfl rfl (q_fieldAddr tok rfl rfl rfl rfl rfl rfl) ?_
  refine AOps.s 11 rfl rfl rfl (q_load tok rfl rfl rfl (by first | exact .loc _ | exact .ptr _ _ _ _ _ _ _ _ rfl rfl rfl) rfl) ?_
  refine AOps.s 12 rfl rfl rfl (q_bin rfl rfl rfl rfl) ?_
  refine AOps.s 13 rfl rfl rfl (q_move (.inl rfl) rfl) ?_
  refine AOps.split 13 rfl (fun hb1 => ?_) (fun hb1 => ?_)
  · -- True
    refine AOps.k 14 rfl rfl rfl ?_
    refine AOps.k 15 rfl rfl rfl ?_
    refine AOps.k 16 rfl rfl rfl ?_
    refine AOps.s 17 rfl rfl rfl (q_pick_true true rfl rfl rfl rfl) ?_
    refine AOps.s 18 rfl rfl rfl (q_move (.inl rfl) rfl) ?_
    refine AOps.k 19 rfl rfl rfl ?_
    refine AOps.k 20 rfl rfl rfl ?_
    refine AOps.k 21 rfl rfl rfl ?_
    refine AOps.k 22 rfl rfl rfl ?_
    refine AOps.s 23 rfl rfl rfl (q_pick_true true rfl rfl rfl rfl) ?_
    refine AOps.nil ?_
    refine AGo.cond_true true rfl rfl ?_
    refine AGo.seq ?_
    refine AGo.region ?_
    refine AOps.s 2 rfl rfl rfl (q_move (.inr rfl) rfl) ?_
    refine AOps.nil ?_
    refine AGo.ret ?_
    refine ⟨[_], ⟨rfl, trivial⟩, ?_, rfl⟩
    show AV.bool _ = AV.bool _
    congr 1
    exact (right_bad (by simp only [decide_eq_false_iff_not, decide_eq_true_eq, List.length_map] at *; omega)).symm
  · -- False
    refine AOps.s 14 rfl rfl rfl (q_fieldAddr tok rfl rfl rfl rfl rfl rfl) ?_
    refine AOps.s 15 rfl rfl rfl (q_load tok rfl rfl rfl (by first | exact .loc _ | exact .ptr _ _ _ _ _ _ _ _ rfl rfl rfl) rfl) ?_
    refine AOps.s 16 rfl rfl rfl (q_bin rfl rfl rfl rfl) ?_
    refine AOps.s 17 rfl rfl rfl (q_pick_false false rfl rfl rfl rfl) ?_
    refine AOps.s 18 rfl rfl rfl (q_move (.inl rfl) rfl) ?_
    refine AOps.split 18 rfl (fun hb2 => ?_) (fun hb2 => ?_)
    · -- True
      refine AOps.k 19 rfl rfl rfl ?_
      refine AOps.k 20 rfl rfl rfl ?_
      refine AOps.k 21 rfl rfl rfl ?_
      refine AOps.k 22 rfl rfl rfl ?_
      refine AOps.s 23 rfl rfl rfl (q_pick_true true rfl rfl rfl rfl) ?_
      refine AOps.nil ?_
      refine AGo.cond_true true rfl rfl ?_
      refine AGo.seq ?_
      refine AGo.region ?_
      refine AOps.s 2 rfl rfl rfl (q_move (.inr rfl) rfl) ?_
      refine AOps.nil ?_
      refine AGo.ret ?_
      refine ⟨[_], ⟨rfl, trivial⟩, ?_, rfl⟩
      show AV.bool _ = AV.bool _
      congr 1
      exact (right_bad (by simp only [decide_eq_false_iff_not, decide_eq_true_eq, List.length_map] at *; omega)).symm
    · -- False
      refine AOps.s 19 rfl rfl rfl (q_fieldAddr tok rfl rfl rfl rfl rfl rfl) ?_
      refine AOps.s 20 rfl rfl rfl (q_load tok rfl rfl rfl (by first | exact .loc _ | exact .ptr _ _ _ _ _ _ _ _ rfl rfl rfl) rfl) ?_
      refine AOps.s 21 rfl rfl rfl (q_len tok rfl rfl rfl rfl rfl) ?_
      refine AOps.s 22 rfl rfl rfl (q_bin rfl rfl rfl rfl) ?_
      refine AOps.s 23 rfl rfl rfl (q_pick_false false rfl rfl rfl rfl) ?_
      refine AOps.nil ?_
      refine AGo.split 23 rfl (fun hb3 => ?_) (fun hb3 => ?_)
      · -- True
        refine AGo.cond_true true rfl rfl ?_
        refine AGo.seq ?_
        refine AGo.region ?_
        refine AOps.s 2 rfl rfl rfl (q_move (.inr rfl) rfl) ?_
        refine AOps.nil ?_
        refine AGo.ret ?_
        refine ⟨[_], ⟨rfl, trivial⟩, ?_, rfl⟩
        show AV.bool _ = AV.bool _
        congr 1
        exact (right_bad (by simp only [decide_eq_false_iff_not, decide_eq_true_eq, List.length_map] at *; omega)).symm
      · -- False
        refine AGo.cond_false false rfl rfl ?_
        have h0 : 0 ≤ b.words ∧ b.words ≤ 1048576 ∧ b.funcs.length ≠ 0 := by simp only [decide_eq_false_iff_not, decide_eq_true_eq, List.length_map] at *; omega
        refine AGo.skip ?_
        refine AGo.seq ?_
        refine AGo.seq ?_
        refine AGo.region ?_
        refine AOps.s 24 rfl rfl rfl (q_fieldAddr tok rfl rfl rfl rfl rfl rfl) ?_
        refine AOps.s 25 rfl rfl rfl (q_load tok rfl rfl rfl (by first | exact .loc _ | exact .ptr _ _ _ _ _ _ _ _ rfl rfl rfl) rfl) ?_
        refine AOps.s 26 rfl rfl rfl (q_len tok rfl rfl rfl rfl rfl) ?_
        refine AOps.s 27 rfl rfl rfl (q_move (.inl rfl) rfl) ?_
        refine AOps.nil ?_
        refine AGo.block ?_
        refine AGo.loopD (γ := Nat) 1 (fun k => ⟨80, (eput (eput (eput (eput eNew 1 (.ptr 0 1 0 0)) 25 (funcsAV b.funcs)) 26 (.int .i64 (b.funcs.length : Int))) 27 (.int .i64 (k : Int))), (hput (hFrom 1) 0 (.row false 2 [b.cells]))⟩) (fun k => (b.funcs.zipIdx.take k).all (fun p => p.1.one (p.2 : Int) b.words) = true) (fun k => b.funcs.length - k) 0 (Sub.mk' (by repeat (first | exact ESub.new _ | refine ESub.put ?_ (by first | rfl | exact congrArg (fun (n : Nat) => some (AV.int .i64 (n : Int))) (by simp)))) (by repeat (first | exact HSub.refl _ | exact HSub.none _ | exact HSub.from_new _ | exact HSub.from_from (by first | decide | omega | (dsimp only; omega)) | refine HSub.put ?_ (by rfl) | refine HSub.from_put ?_ (by first | decide | omega | (dsimp only; omega)) | refine HSub.from_rm ?_ (by decide)))) rfl (fun _ => hput_free (fun b hb => hFrom_free hb) rfl) ?_
        intro k hk
        refine AGo.seq ?_
        refine AGo.region ?_
        refine AOps.s 28 rfl rfl rfl (q_bin rfl rfl rfl rfl) ?_
        refine AOps.nil ?_
        refine AGo.seq ?_
        refine AGo.split 28 rfl (fun hb4 => ?_) (fun hb4 => ?_)
        · -- True
          refine AGo.cond_true true rfl rfl ?_
          have hkl : k < b.funcs.length := by simpa using hb4
          obtain ⟨f, hf⟩ := get_of_lt hkl
          refine AGo.skip ?_
          refine AGo.seq ?_
          refine AGo.block ?_
          refine AGo.seq ?_
          refine AGo.region ?_
          refine AOps.s 29 rfl rfl rfl (q_move (.inl rfl) rfl) ?_
          refine AOps.s 30 rfl rfl rfl (q_index_lst tok rfl rfl rfl rfl rfl rfl (Int.natCast_nonneg _) (idx_map (by assumption)) rfl) ?_
          refine AOps.s 31 rfl rfl rfl (q_load tok rfl rfl rfl (by first | exact .loc _ | exact .ptr _ _ _ _ _ _ _ _ rfl rfl rfl) rfl) ?_
          refine AOps.x 4 rfl rfl rfl (o_alloc tok 1 rfl rfl rfl rfl (Nat.zero_lt_succ _) rfl) ?_
          refine AOps.s 3 rfl rfl rfl (q_move (.inr rfl) rfl) ?_
          refine AOps.w rfl rfl (o_store tok rfl rfl rfl rfl rfl rfl rfl rfl rfl (by decide) rfl (by first | exact fun _ => rfl | (intro h; cases h))) ?_
          refine AOps.nil ?_
          refine AGo.seq ?_
          refine AGo.seq ?_
          refine AGo.slot 31 rfl (fun H ι v => rel_bfunc) (fun hfit2 => ?_)
          refine AGo.region ?_
          refine AOps.s 32 rfl rfl rfl (q_fieldAddr tok rfl rfl rfl rfl rfl rfl) ?_
          refine AOps.s 33 rfl rfl rfl (q_load tok rfl rfl rfl (by first | exact .loc _ | exact .ptr _ _ _ _ _ _ _ _ rfl rfl rfl) rfl) ?_
          refine AOps.s 34 rfl rfl rfl (q_bin rfl rfl rfl rfl) ?_
          refine AOps.s 35 rfl rfl rfl (q_move (.inl rfl) rfl) ?_
          refine AOps.split 35 rfl (fun hb5 => ?_) (fun hb5 => ?_)
          · -- True
            refine AOps.k 36 rfl rfl rfl ?_
            refine AOps.k 37 rfl rfl rfl ?_
            refine AOps.k 38 rfl rfl rfl ?_
            refine AOps.s 39 rfl rfl rfl (q_pick_true true rfl rfl rfl rfl) ?_
            refine AOps.s 40 rfl rfl rfl (q_move (.inl rfl) rfl) ?_
            refine AOps.k 41 rfl rfl rfl ?_
            refine AOps.k 42 rfl rfl rfl ?_
            refine AOps.k 43 rfl rfl rfl ?_
            refine AOps.k 44 rfl rfl rfl ?_
            refine AOps.s 45 rfl rfl rfl (q_pick_true true rfl rfl rfl rfl) ?_
            refine AOps.nil ?_
            refine AGo.cond_true true rfl rfl ?_
            refine AGo.seq ?_
            refine AGo.region ?_
            refine AOps.s 2 rfl rfl rfl (q_move (.inr rfl) rfl) ?_
            refine AOps.nil ?_
            refine AGo.ret ?_
            refine ⟨[_], ⟨rfl, trivial⟩, ?_, rfl⟩
            show AV.bool _ = AV.bool _
            congr 1
            rw [right_all h0.1 h0.2.1 h0.2.2, all_bad (zipIdx_get hf) (by show f.one _ _ = false; exact one_bad (by simp only [decide_eq_false_iff_not, decide_eq_true_eq, List.length_map] at *; omega))]
          · -- False
            refine AOps.s 36 rfl rfl rfl (q_fieldAddr tok rfl rfl rfl rfl rfl rfl) ?_
            refine AOps.s 37 rfl rfl rfl (q_load tok rfl rfl rfl (by first | exact .loc _ | exact .ptr _ _ _ _ _ _ _ _ rfl rfl rfl) rfl) ?_
            refine AOps.s 38 rfl rfl rfl (q_bin rfl rfl rfl rfl) ?_
            refine AOps.s 39 rfl rfl rfl (q_pick_false false rfl rfl rfl rfl) ?_
            refine AOps.s 40 rfl rfl rfl (q_move (.inl rfl) rfl) ?_
            refine AOps.split 40 rfl (fun hb6 => ?_) (fun hb6 => ?_)
            · -- True
              refine AOps.k 41 rfl rfl rfl ?_
              refine AOps.k 42 rfl rfl rfl ?_
              refine AOps.k 43 rfl rfl rfl ?_
              refine AOps.k 44 rfl rfl rfl ?_
              refine AOps.s 45 rfl rfl rfl (q_pick_true true rfl rfl rfl rfl) ?_
              refine AOps.nil ?_
              refine AGo.cond_true true rfl rfl ?_
              refine AGo.seq ?_
              refine AGo.region ?_
              refine AOps.s 2 rfl rfl rfl (q_move (.inr rfl) rfl) ?_
              refine AOps.nil ?_
              refine AGo.ret ?_
              refine ⟨[_], ⟨rfl, trivial⟩, ?_, rfl⟩
              show AV.bool _ = AV.bool _
              congr 1
              rw [right_all h0.1 h0.2.1 h0.2.2, all_bad (zipIdx_get hf) (by show f.one _ _ = false; exact one_bad (by simp only [decide_eq_false_iff_not, decide_eq_true_eq, List.length_map] at *; omega))]
            · -- False
              refine AOps.s 41 rfl rfl rfl (q_fieldAddr tok rfl rfl rfl rfl rfl rfl) ?_
              refine AOps.s 42 rfl rfl rfl (q_load tok rfl rfl rfl (by first | exact .loc _ | exact .ptr _ _ _ _ _ _ _ _ rfl rfl rfl) rfl) ?_
              refine AOps.s 43 rfl rfl rfl (q_len tok rfl rfl rfl rfl rfl) ?_
              refine AOps.s 44 rfl rfl rfl (q_bin rfl rfl rfl rfl) ?_
              refine AOps.s 45 rfl rfl rfl (q_pick_false false rfl rfl rfl rfl) ?_
              refine AOps.nil ?_
              refine AGo.split 45 rfl (fun hb7 => ?_) (fun hb7 => ?_)
              · -- True
                refine AGo.cond_true true rfl rfl ?_
                refine AGo.seq ?_
                refine AGo.region ?_
                refine AOps.s 2 rfl rfl rfl (q_move (.inr rfl) rfl) ?_
                refine AOps.nil ?_
                refine AGo.ret ?_
                refine ⟨[_], ⟨rfl, trivial⟩, ?_, rfl⟩
                show AV.bool _ = AV.bool _
                congr 1
                rw [right_all h0.1 h0.2.1 h0.2.2, all_bad (zipIdx_get hf) (by show f.one _ _ = false; exact one_bad (by simp only [decide_eq_false_iff_not, decide_eq_true_eq, List.length_map] at *; omega))]
              · -- False
                refine AGo.cond_false false rfl rfl ?_
                have hf0 : 0 ≤ f.regs ∧ f.regs ≤ 4000 ∧ f.blocks.length ≠ 0 := by simp only [decide_eq_false_iff_not, decide_eq_true_eq, List.length_map] at *; omega
                refine AGo.skip ?_
                refine AGo.seq ?_
                refine AGo.region ?_
                refine AOps.s 46 rfl rfl rfl (q_fieldAddr tok rfl rfl rfl rfl rfl rfl) ?_
                refine AOps.s 47 rfl rfl rfl (q_load tok rfl rfl rfl (by first | exact .loc _ | exact .ptr _ _ _ _ _ _ _ _ rfl rfl rfl) rfl) ?_
                refine AOps.s 48 rfl rfl rfl (q_move (.inl rfl) rfl) ?_
                refine AOps.s 49 rfl rfl rfl (q_fieldAddr tok rfl rfl rfl rfl rfl rfl) ?_
                refine AOps.s 50 rfl rfl rfl (q_load tok rfl rfl rfl (by first | exact .loc _ | exact .ptr _ _ _ _ _ _ _ _ rfl rfl rfl) rfl) ?_
                refine AOps.s 51 rfl rfl rfl (q_fieldAddr tok rfl rfl rfl rfl rfl rfl) ?_
                refine AOps.s 52 rfl rfl rfl (q_load tok rfl rfl rfl (by first | exact .loc _ | exact .ptr _ _ _ _ _ _ _ _ rfl rfl rfl) rfl) ?_
                refine AOps.s 53 rfl rfl rfl (q_len tok rfl rfl rfl rfl rfl) ?_
                refine AOps.s 54 rfl rfl rfl (q_build tok rfl rfl rfl rfl rfl (by decide) rfl rfl rfl) ?_
                refine AOps.x 5 rfl rfl rfl (o_alloc tok 2 rfl rfl rfl rfl (Nat.zero_lt_succ _) rfl) ?_
                refine AOps.w rfl rfl (o_store tok rfl rfl rfl rfl rfl rfl rfl rfl rfl (by decide) rfl (by first | exact fun _ => rfl | (intro h; cases h))) ?_
                refine AOps.nil ?_
                refine AGo.seq ?_
                refine AGo.region ?_
                refine AOps.s 55 rfl rfl rfl (q_fieldAddr tok rfl rfl rfl rfl rfl rfl) ?_
                refine AOps.s 56 rfl rfl rfl (q_load tok rfl rfl rfl (by first | exact .loc _ | exact .ptr _ _ _ _ _ _ _ _ rfl rfl rfl) rfl) ?_
                refine AOps.s 57 rfl rfl rfl (q_len tok rfl rfl rfl rfl rfl) ?_
                refine AOps.s 58 rfl rfl rfl (q_move (.inl rfl) rfl) ?_
                refine AOps.nil ?_
                refine AGo.block ?_
                refine AGo.loopD (γ := Nat) 3 (fun j => ⟨80, (eput (eput (eput (eput (eput (eput (eput (eput (eput eNew 1 (.ptr 0 1 0 0)) 25 (funcsAV b.funcs)) 26 (.int .i64 (b.funcs.length : Int))) 27 (.int .i64 (k : Int))) 4 (.ptr 1 1 0 0)) 5 (.ptr 2 1 0 0)) 56 (blocksAV f.blocks)) 57 (.int .i64 (f.blocks.length : Int))) 58 (.int .i64 (j : Int))), (hput (hput (hput (hFrom 3) 0 (.row false 2 [b.cells])) 1 (.row false 2 [f.cells])) 2 (.row false 4 [[.int .i64 b.words, .int .i64 (k : Int), .int .i64 f.regs, .int .i64 (f.blocks.length : Int)]]))⟩) (fun j => (f.blocks.take j).all (fun x => x.ok f.blocks.length f.regs (k : Int) b.words) = true) (fun j => f.blocks.length - j) 0 (Sub.mk' (by repeat (first | exact ESub.new _ | refine ESub.put ?_ (by first | rfl | exact congrArg (fun (n : Nat) => some (AV.int .i64 (n : Int))) (by simp)))) (by repeat (first | exact HSub.refl _ | exact HSub.none _ | exact HSub.from_new _ | exact HSub.from_from (by first | decide | omega | (dsimp only; omega)) | refine HSub.put ?_ (by first | rfl | exact congrArg (fun (n : Nat) => some (AObj.row false 4 [[.int .i64 b.words, .int .i64 (k : Int), .int .i64 f.regs, .int .i64 (n : Int)]])) (List.length_map ..)) | refine HSub.from_put ?_ (by first | decide | omega | (dsimp only; omega)) | refine HSub.from_rm ?_ (by decide)))) rfl (fun _ => hput_free (hput_free (hput_free (fun b hb => hFrom_free hb) rfl) rfl) rfl) ?_
                intro j hj
                refine AGo.seq ?_
                refine AGo.region ?_
                refine AOps.s 59 rfl rfl rfl (q_bin rfl rfl rfl rfl) ?_
                refine AOps.nil ?_
                refine AGo.seq ?_
                refine AGo.split 59 rfl (fun hb8 => ?_) (fun hb8 => ?_)
                · -- True
                  refine AGo.cond_true true rfl rfl ?_
                  have hjl : j < f.blocks.length := by simpa using hb8
                  obtain ⟨x, hx⟩ := get_of_lt hjl
                  refine AGo.skip ?_
                  refine AGo.seq ?_
                  refine AGo.block ?_
                  refine AGo.seq ?_
                  refine AGo.region ?_
                  refine AOps.s 60 rfl rfl rfl (q_index_lst tok rfl rfl rfl rfl rfl rfl (Int.natCast_nonneg _) (idx_map (by assumption)) rfl) ?_
                  refine AOps.s 61 rfl rfl rfl (q_load tok rfl rfl rfl (by first | exact .loc _ | exact .ptr _ _ _ _ _ _ _ _ rfl rfl rfl) rfl) ?_
                  refine AOps.x 7 rfl rfl rfl (o_alloc tok 3 rfl rfl rfl rfl (Nat.zero_lt_succ _) rfl) ?_
                  refine AOps.w rfl rfl (o_store tok rfl rfl rfl rfl rfl rfl rfl rfl rfl (by decide) rfl (by first | exact fun _ => rfl | (intro h; cases h))) ?_
                  refine AOps.nil ?_
                  refine AGo.seq ?_
                  refine AGo.seq ?_
                  refine AGo.region ?_
                  refine AOps.s 62 rfl rfl rfl (q_load tok rfl rfl rfl (by first | exact .loc _ | exact .ptr _ _ _ _ _ _ _ _ rfl rfl rfl) rfl) ?_
                  refine AOps.s 63 rfl rfl rfl (q_load tok rfl rfl rfl (by first | exact .loc _ | exact .ptr _ _ _ _ _ _ _ _ rfl rfl rfl) rfl) ?_
                  refine AOps.x 64 rfl rfl rfl (o_pure rfl Try.func31 (by kernel_rfl) rfl rfl rfl (bend_ok _ _ _ _ x)) ?_
                  refine AOps.s 65 rfl rfl rfl (q_not rfl rfl) ?_
                  refine AOps.nil ?_
                  refine AGo.split 65 rfl (fun hb9 => ?_) (fun hb9 => ?_)
                  · -- True
                    refine AGo.cond_true true rfl rfl ?_
                    have hends : x.ends f.blocks.length f.regs = false := by simpa using hb9
                    refine AGo.seq ?_
                    refine AGo.region ?_
                    refine AOps.s 2 rfl rfl rfl (q_move (.inr rfl) rfl) ?_
                    refine AOps.nil ?_
                    refine AGo.ret ?_
                    refine ⟨[_], ⟨rfl, trivial⟩, ?_, rfl⟩
                    show AV.bool _ = AV.bool _
                    congr 1
                    rw [right_all h0.1 h0.2.1 h0.2.2, all_bad (zipIdx_get hf) (by show f.one _ _ = false; rw [one_all hf0.1 hf0.2.1 hf0.2.2, all_bad hx (by simp [Block.ok, hends])])]
                  · -- False
                    refine AGo.cond_false false rfl rfl ?_
                    have hends : x.ends f.blocks.length f.regs = true := by simpa using hb9
                    refine AGo.skip ?_
                    refine AGo.seq ?_
                    refine AGo.region ?_
                    refine AOps.s 66 rfl rfl rfl (q_fieldAddr tok rfl rfl rfl rfl rfl rfl) ?_
                    refine AOps.s 67 rfl rfl rfl (q_load tok rfl rfl rfl (by first | exact .loc _ | exact .ptr _ _ _ _ _ _ _ _ rfl rfl rfl) rfl) ?_
                    refine AOps.s 68 rfl rfl rfl (q_len tok rfl rfl rfl rfl rfl) ?_
                    refine AOps.s 69 rfl rfl rfl (q_move (.inl rfl) rfl) ?_
                    refine AOps.nil ?_
                    refine AGo.block ?_
                    refine AGo.loopD (γ := Nat) 4 (fun i => ⟨80, (eput (eput (eput (eput (eput (eput (eput (eput (eput (eput (eput (eput (eput eNew 1 (.ptr 0 1 0 0)) 25 (funcsAV b.funcs)) 26 (.int .i64 (b.funcs.length : Int))) 27 (.int .i64 (k : Int))) 4 (.ptr 1 1 0 0)) 5 (.ptr 2 1 0 0)) 56 (blocksAV f.blocks)) 57 (.int .i64 (f.blocks.length : Int))) 58 (.int .i64 (j : Int))) 7 (.ptr 3 1 0 0)) 67 (insAV x.ins)) 68 (.int .i64 (x.ins.length : Int))) 69 (.int .i64 (i : Int))), (hput (hput (hput (hput (hFrom 4) 0 (.row false 2 [b.cells])) 1 (.row false 2 [f.cells])) 2 (.row false 4 [[.int .i64 b.words, .int .i64 (k : Int), .int .i64 f.regs, .int .i64 (f.blocks.length : Int)]])) 3 (.row false 5 [x.cells]))⟩) (fun i => (x.ins.take i).all (fun t => t.fits (k : Int) f.regs b.words) = true) (fun i => x.ins.length - i) 0 (Sub.mk' (by repeat (first | exact ESub.new _ | refine ESub.put ?_ (by first | rfl | exact congrArg (fun (n : Nat) => some (AV.int .i64 (n : Int))) (by simp)))) (by repeat (first | exact HSub.refl _ | exact HSub.none _ | exact HSub.from_new _ | exact HSub.from_from (by first | decide | omega | (dsimp only; omega)) | refine HSub.put ?_ (by rfl) | refine HSub.from_put ?_ (by first | decide | omega | (dsimp only; omega)) | refine HSub.from_rm ?_ (by decide)))) rfl (fun _ => hput_free (hput_free (hput_free (hput_free (fun b hb => hFrom_free hb) rfl) rfl) rfl) rfl) ?_
                    intro i hi
                    refine AGo.seq ?_
                    refine AGo.region ?_
                    refine AOps.s 70 rfl rfl rfl (q_bin rfl rfl rfl rfl) ?_
                    refine AOps.nil ?_
                    refine AGo.seq ?_
                    refine AGo.split 70 rfl (fun hb10 => ?_) (fun hb10 => ?_)
                    · -- True
                      refine AGo.cond_true true rfl rfl ?_
                      have hil : i < x.ins.length := by simpa using hb10
                      obtain ⟨u, hu⟩ := get_of_lt hil
                      refine AGo.skip ?_
                      refine AGo.seq ?_
                      refine AGo.block ?_
                      refine AGo.seq ?_
                      refine AGo.region ?_
                      refine AOps.s 71 rfl rfl rfl (q_index_lst tok rfl rfl rfl rfl rfl rfl (Int.natCast_nonneg _) (idx_map (by assumption)) rfl) ?_
                      refine AOps.s 72 rfl rfl rfl (q_load tok rfl rfl rfl (by first | exact .loc _ | exact .ptr _ _ _ _ _ _ _ _ rfl rfl rfl) rfl) ?_
                      refine AOps.x 9 rfl rfl rfl (o_alloc tok 4 rfl rfl rfl rfl (Nat.zero_lt_succ _) rfl) ?_
                      refine AOps.w rfl rfl (o_store tok rfl rfl rfl rfl rfl rfl rfl rfl rfl (by decide) rfl (by first | exact fun _ => rfl | (intro h; cases h))) ?_
                      refine AOps.nil ?_
                      refine AGo.seq ?_
                      refine AGo.region ?_
                      refine AOps.s 73 rfl rfl rfl (q_load tok rfl rfl rfl (by first | exact .loc _ | exact .ptr _ _ _ _ _ _ _ _ rfl rfl rfl) rfl) ?_
                      refine AOps.s 74 rfl rfl rfl (q_load tok rfl rfl rfl (by first | exact .loc _ | exact .ptr _ _ _ _ _ _ _ _ rfl rfl rfl) rfl) ?_
                      refine AOps.x 75 rfl rfl rfl (o_pure rfl Try.func32 (by kernel_rfl) rfl rfl rfl (bins_ok _ _ _ _ u h0.1 h0.2.1)) ?_
                      refine AOps.s 76 rfl rfl rfl (q_not rfl rfl) ?_
                      refine AOps.nil ?_
                      refine AGo.split 76 rfl (fun hb11 => ?_) (fun hb11 => ?_)
                      · -- True
                        refine AGo.cond_true true rfl rfl ?_
                        have hbw := hb11
                        refine AGo.seq ?_
                        refine AGo.region ?_
                        refine AOps.s 2 rfl rfl rfl (q_move (.inr rfl) rfl) ?_
                        refine AOps.nil ?_
                        refine AGo.ret ?_
                        refine ⟨[_], ⟨rfl, trivial⟩, ?_, rfl⟩
                        show AV.bool _ = AV.bool _
                        congr 1
                        rw [right_all h0.1 h0.2.1 h0.2.2, all_bad (zipIdx_get hf) (by show f.one _ _ = false; rw [one_all hf0.1 hf0.2.1 hf0.2.2, all_bad hx (by simp only [Block.ok, all_bad (p := fun t => Tac.fits t (k : Int) f.regs b.words) hu (by simpa using hbw), Bool.and_false])])]
                      · -- False
                        refine AGo.cond_false false rfl rfl ?_
                        have hbw := hb11
                        refine AGo.skip ?_
                        refine AGo.region ?_
                        refine AOps.s 77 rfl rfl rfl (q_inc rfl rfl hil (hfit2.2 x (List.mem_of_getElem? hx))) ?_
                        refine AOps.s 69 rfl rfl rfl (q_move (.inl rfl) rfl) ?_
                        refine AOps.nil ?_
                        exact ⟨i+1, Drop.mk' (by repeat (first | exact EDrop.new _ _ | refine EDrop.put ?_ (by rfl) rfl)) (by repeat (first | exact HDrop.none _ _ | exact HDrop.tail _ _ | refine HDrop.put ?_ (by rfl) rfl rfl)), all_succ hu hi (by simpa using hbw), by omega⟩
                    · -- False
                      refine AGo.cond_false false rfl rfl ?_
                      have hins := all_end hi (by simpa using hb10)
                      refine AGo.exit ?_
                      refine AGo.region ?_
                      refine AOps.s 78 rfl rfl rfl (q_inc rfl rfl hjl hfit2.1) ?_
                      refine AOps.s 58 rfl rfl rfl (q_move (.inl rfl) rfl) ?_
                      refine AOps.nil ?_
                      exact ⟨j+1, Drop.mk' (by repeat (first | exact EDrop.new _ _ | refine EDrop.put ?_ (by rfl) rfl)) (by repeat (first | exact HDrop.none _ _ | exact HDrop.tail _ _ | refine HDrop.put ?_ (by rfl) rfl rfl)), all_succ hx hj (by simp [Block.ok, hends, hins]), by omega⟩
                · -- False
                  refine AGo.cond_false false rfl rfl ?_
                  have hall := all_end hj (by simpa using hb8)
                  refine AGo.exit ?_
                  refine AGo.region ?_
                  refine AOps.s 79 rfl rfl rfl (q_inc rfl rfl hkl hfit.1) ?_
                  refine AOps.s 27 rfl rfl rfl (q_move (.inl rfl) rfl) ?_
                  refine AOps.nil ?_
                  exact ⟨k+1, Drop.mk' (by repeat (first | exact EDrop.new _ _ | refine EDrop.put ?_ (by rfl) rfl)) (by repeat (first | exact HDrop.none _ _ | exact HDrop.tail _ _ | refine HDrop.put ?_ (by rfl) rfl rfl)), all_succ (zipIdx_get hf) hk (by show f.one _ _ = true; rw [one_all hf0.1 hf0.2.1 hf0.2.2, hall]), by omega⟩
        · -- False
          refine AGo.cond_false false rfl rfl ?_
          have hall := all_end hk (by rw [List.length_zipIdx]; simpa using hb4)
          refine AGo.exit ?_
          refine AGo.seq ?_
          refine AGo.region ?_
          refine AOps.s 2 rfl rfl rfl (q_move (.inr rfl) rfl) ?_
          refine AOps.nil ?_
          refine AGo.ret ?_
          refine ⟨[_], ⟨rfl, trivial⟩, ?_, rfl⟩
          show AV.bool _ = AV.bool _
          congr 1
          rw [right_all h0.1 h0.2.1 h0.2.2, hall]

end Go.Proofs.Ytophfphgcbnafaa.Sv
