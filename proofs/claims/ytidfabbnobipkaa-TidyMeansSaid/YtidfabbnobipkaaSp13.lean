/-
  THE MACHINE'S LOOPS: what holds at each round, in plain Lean: own work, over no program.
-/
import Derived.Test.YtidfabbnobipkaaSp12
namespace Go.Proofs.Ytidfabbnobipkaa.Sv
open Go
set_option linter.unusedVariables false
set_option linter.unusedSimpArgs false

def runCells (b : Blocks) (s : ByteArray) (fuel : Int) (m : Mach) : List AV :=
  [.int .i64 b.words, funcsAV b.funcs, .str s, .int .i64 fuel, .ref 1 b.words.toNat 0 b.words.toNat, .ref 2 m.out.length 0 m.out.length, .int .i64 (m.read : Int), .int .i64 (m.steps : Int), .int .i64 m.fin]
abbrev mheap (h : AHeap) (b : Blocks) (s : ByteArray) (fuel : Int) (m : Mach) : AHeap :=
  hput (hput (hput h 0 (.row false 9 [runCells b s fuel m])) 1 (.row true 1 (regCells m.words))) 2 (.row true 1 (byteCells m.out))
theorem regCells_len (l : List Int) : (regCells l).length = l.length := by simp [regCells]
theorem regCells_rep (n : Nat) : List.replicate n [AV.int .u32 0] = regCells (List.replicate n 0) := by simp [regCells]
theorem rcell {l : List Int} {z : Int} (h : 0 ≤ z ∧ z < l.length) : (regCells l)[0 + z.toNat]? = some [AV.int .u32 (rget l z)] := by
  obtain ⟨v, hv⟩ := get_of_lt (l := l) (k := z.toNat) (by omega)
  rw [Nat.zero_add, regCells, List.getElem?_map, hv, rget, hv]; rfl
theorem rcell_set (l : List Int) (z v : Int) : (regCells l).set (0 + z.toNat) [AV.int .u32 v] = regCells (rset l z v) := by
  rw [Nat.zero_add, regCells, regCells, rset, List.map_set]
theorem rcell_set2 (l : List Int) (z v : Int) (c : List AV) : ((regCells l).set (0 + z.toNat) c).set (0 + z.toNat) [AV.int .u32 v] = regCells (rset l z v) := by
  rw [List.set_set, rcell_set]
theorem inAt_get {s : ByteArray} {i : Nat} (h : i < s.size) : s.data.toList[i]? = some (inAt s i) := by
  obtain ⟨v, hv⟩ := get_of_lt (l := s.data.toList) (k := i) (by simpa using h)
  rw [inAt, hv]; rfl
theorem wrap_byte {n : Int} (h : isW n) : IntKind.u8.wrap n = (((byteOf n).toNat : Nat) : Int) := by
  obtain ⟨h1, h2⟩ := h
  obtain ⟨k, rfl⟩ := Int.eq_ofNat_of_zero_le h1
  rw [IntKind.wrap_u8, byteOf, Int.toNat_natCast]
  show _ = (((UInt8.ofNat k).toNat : Nat) : Int)
  rw [UInt8.toNat_ofNat']
  omega
section
variable {P : Program} {T : Nat → Option TyI} {o : Oper} {e : AEnv} {h : AHeap}
theorem q_convTo (hT : TOk P T) {t u : TypeId} {x : Operand} {k k' : IntKind} {n r : Int} {i j : TyI} (ho : o.op = .convert t u x) (hx : look e x = some (.int k' n)) (hi : T t = some i) (hj : T u = some j) (hk : j.k = .int k) (hw : k.wrap n = r) : QLoc P o e h [] (.int k r) := by
  have := q_convInt (h := h) hT ho hx hi hj hk
  rwa [hw] at this
end
/-! ### instructions one by one -/
section
variable {call : Int → Mach → Mach} {s : ByteArray} {t : Tac} {regs : List Int} {m : Mach}
theorem mone1 (h : t.op = 1) : mone call s t regs m = (rset regs t.d t.n, m) := by simp [mone, h]
theorem mone2 (h : t.op = 2) : mone call s t regs m = (rset regs t.d (rget regs t.a), m) := by simp [mone, h]
theorem mone3 (h : t.op = 3) (hz : ((wapp t.k (rget regs t.a) (rget regs t.b)).2 != 0) = false) : mone call s t regs m = (rset regs t.d (wapp t.k (rget regs t.a) (rget regs t.b)).1, m) := by
  have hz' : (wapp t.k (rget regs t.a) (rget regs t.b)).2 = 0 := by simpa using hz
  simp [mone, h, hz']
theorem mone3z (h : t.op = 3) (hz : ((wapp t.k (rget regs t.a) (rget regs t.b)).2 != 0) = true) : mone call s t regs m = (regs, { m with fin := 2 }) := by
  have hz' : ((wapp t.k (rget regs t.a) (rget regs t.b)).2 == 0) = false := by simpa [bne] using hz
  simp [mone, h, hz']
theorem mone4 (h : t.op = 4) : mone call s t regs m = (rset regs t.d (rget m.words t.base), m) := by simp [mone, h]
theorem mone5 (h : t.op = 5) : mone call s t regs m = (regs, { m with words := rset m.words t.base (rget regs t.a) }) := by simp [mone, h]
theorem mone67z (h : t.op = 6 ∨ t.op = 7) (hz : decide (rget regs t.a ≥ t.size) = true) : mone call s t regs m = (regs, { m with fin := 3 }) := by
  rcases h with h | h
  · unfold mone; simp only [h, hz]; rfl
  · unfold mone; simp only [h, hz]; rfl
theorem mone6 (h : t.op = 6) (hz : decide (rget regs t.a ≥ t.size) = false) : mone call s t regs m = (rset regs t.d (rget m.words (t.base + rget regs t.a)), m) := by
  unfold mone; simp only [h, hz]; rfl
theorem mone7 (h : t.op = 7) (hz : decide (rget regs t.a ≥ t.size) = false) : mone call s t regs m = (regs, { m with words := rset m.words (t.base + rget regs t.a) (rget regs t.b) }) := by
  unfold mone; simp only [h, hz]; rfl
theorem mone8 (h : t.op = 8) (hz : m.read < s.size) : mone call s t regs m = (rset regs t.d ((inAt s m.read).toNat : Int), { m with read := m.read + 1 }) := by
  have hz' : decide (m.read < s.size) = true := by simpa using hz
  unfold mone; simp only [h, hz']; rfl
theorem mone8z (h : t.op = 8) (hz : ¬ m.read < s.size) : mone call s t regs m = (rset regs t.d 256, m) := by
  have hz' : decide (m.read < s.size) = false := by simpa using hz
  unfold mone; simp only [h, hz']; rfl
theorem mone9z (h : t.op = 9) (hz : m.out.length ≥ 65536) : mone call s t regs m = (regs, { m with fin := 4 }) := by
  have hz' : decide (m.out.length ≥ 65536) = true := by simpa using hz
  unfold mone; simp only [h, hz']; rfl
theorem mone9 (h : t.op = 9) (hz : ¬ m.out.length ≥ 65536) : mone call s t regs m = (regs, { m with out := m.out ++ [byteOf (rget regs t.a)] }) := by
  have hz' : decide (m.out.length ≥ 65536) = false := by simpa using hz
  unfold mone; simp only [h, hz']; rfl
theorem mone10 (h : t.op = 10) : mone call s t regs m = (regs, call t.base m) := by simp [mone, h]
end
theorem mstep_no {fuel : Int} {m : Mach} (h : decide ((m.steps : Int) ≥ fuel) = true) : mstep fuel m = (false, { m with fin := 5 }) := by simp [mstep, h]
theorem mstep_yes {fuel : Int} {m : Mach} (h : decide ((m.steps : Int) ≥ fuel) = false) : mstep fuel m = (true, { m with steps := m.steps + 1 }) := by simp [mstep, h]
/-- what the ranges of an instruction say -/
structure TacIn (t : Tac) (number R : Nat) (words : Nat) : Prop where
  op : 1 ≤ t.op ∧ t.op ≤ 10
  d : setsOp t.op = true → 0 ≤ t.d ∧ t.d < R
  a : use1 t.op = true ∨ use2 t.op = true → 0 ≤ t.a ∧ t.a < R
  b : use2 t.op = true → 0 ≤ t.b ∧ t.b < R
  base : t.op = 4 ∨ t.op = 5 → 0 ≤ t.base ∧ t.base < words
  arr : t.op = 6 ∨ t.op = 7 → 1 ≤ t.size ∧ t.size ≤ 4096 ∧ 0 ≤ t.base ∧ t.base + t.size ≤ words
  call : t.op = 10 → 0 ≤ t.base ∧ t.base < number
theorem tacIn_of {t : Tac} {f regs words : Int} (h : t.fits f regs words = true) : TacIn t f.toNat regs.toNat words.toNat := by
  have h0 := h
  simp only [Tac.fits, Bool.and_eq_true, Bool.or_eq_true, Bool.not_eq_true', List.all_eq_true, within, decide_eq_true_eq] at h
  obtain ⟨h1, h2, h3, h4, h5, _⟩ := h
  refine ⟨⟨h1, h2⟩, fun e => ?_, fun e => ?_, fun e => ?_, fun e => ?_, fun e => ?_, fun e => ?_⟩
  · rcases h3 with h3 | h3
    · rw [e] at h3; cases h3
    · omega
  · have := h4 t.a (by rcases e with e | e <;> simp [Tac.uses, e] <;> cases use1 t.op <;> simp)
    omega
  · have e2 := use12 t.op
    rw [e, Bool.and_true] at e2
    have := h4 t.b (by simp [Tac.uses, e, e2])
    omega
  · rcases e with e | e <;> simp [Tac.rest, baseOp, e, within] at h5 <;> omega
  · rcases e with e | e <;> simp [Tac.rest, baseOp, arrOp, e] at h5 <;> omega
  · simp [Tac.rest, baseOp, arrOp, e, within] at h5; omega

/-! ### the rounds -/
structure FG where
  i : Int
  regs : List Int
  m : Mach
  g : Nat
structure IG where
  j : Nat
  regs : List Int
  m : Mach
section
variable {call : Int → Mach → Mach} {s : ByteArray} {fuel : Int} {f : BFunc} {W R : Nat} {tgt : Mach} {q : FG} {k : Block} {r : IG}
structure FInv (call : Int → Mach → Mach) (s : ByteArray) (fuel : Int) (f : BFunc) (W R : Nat) (tgt : Mach) (q : FG) : Prop where
  good : q.m.good W
  fin : q.m.fin = 0
  regs : allR q.regs
  len : q.regs.length = R
  i : 0 ≤ q.i ∧ q.i < f.blocks.length
  g : 0 < q.g
  gas : fuel.toNat < q.m.steps + q.g
  tgt : mblk call s fuel f q.g q.i q.regs q.m = tgt
structure IInv (call : Int → Mach → Mach) (s : ByteArray) (fuel : Int) (k : Block) (q : FG) (W R : Nat) (r : IG) : Prop where
  good : r.m.good W
  fin : r.m.fin = 0
  regs : allR r.regs
  len : r.regs.length = R
  j : r.j ≤ k.ins.length
  steps : q.m.steps ≤ r.m.steps
  eq : mins call s fuel (k.ins.drop r.j) r.regs r.m = mins call s fuel k.ins q.regs q.m
theorem FInv.start (h : FInv call s fuel f W R tgt q) : IInv call s fuel k q W R ⟨0, q.regs, q.m⟩ := ⟨h.good, h.fin, h.regs, h.len, Nat.zero_le _, Nat.le_refl _, rfl⟩
theorem FInv.unfold (h : FInv call s fuel f W R tgt q) (hk : f.blocks[q.i.toNat]? = some k) : tgt =
    (bif (mins call s fuel k.ins q.regs q.m).1 then
        (bif (mstep fuel (mins call s fuel k.ins q.regs q.m).2.2).1 && !(k.fin == 3) then mblk call s fuel f (q.g - 1) (k.next (mins call s fuel k.ins q.regs q.m).2.1) (mins call s fuel k.ins q.regs q.m).2.1 (mstep fuel (mins call s fuel k.ins q.regs q.m).2.2).2 else (mstep fuel (mins call s fuel k.ins q.regs q.m).2.2).2)
      else (mins call s fuel k.ins q.regs q.m).2.2) := by
  have h1 := h.tgt
  obtain ⟨g, hg⟩ : ∃ g, q.g = g + 1 := ⟨q.g - 1, by have := h.g; omega⟩
  rw [hg] at h1 ⊢
  rw [← h1, mblk, hk]; rfl
theorem IInv.head (hi : IInv call s fuel k q W R r) {u : Tac} (hu : k.ins[r.j]? = some u) : mins call s fuel k.ins q.regs q.m = mins call s fuel (u :: k.ins.drop (r.j + 1)) r.regs r.m := by
  rw [← hi.eq]
  have hl := (List.getElem?_eq_some_iff.1 hu)
  obtain ⟨h1, h2⟩ := hl
  rw [List.drop_eq_getElem_cons h1, h2]
theorem fin_A (h : FInv call s fuel f W R tgt q) (hk : f.blocks[q.i.toNat]? = some k) (hi : IInv call s fuel k q W R r) {u : Tac} (hu : k.ins[r.j]? = some u) (hs : (mstep fuel r.m).1 = false) : tgt = (mstep fuel r.m).2 := by
  have e : mins call s fuel k.ins q.regs q.m = (false, r.regs, (mstep fuel r.m).2) := by rw [hi.head hu, mins, hs]; rfl
  rw [h.unfold hk, e]; rfl
theorem fin_B (h : FInv call s fuel f W R tgt q) (hk : f.blocks[q.i.toNat]? = some k) (hi : IInv call s fuel k q W R r) {u : Tac} (hu : k.ins[r.j]? = some u) (hs : (mstep fuel r.m).1 = true) (hz : ((mone call s u r.regs (mstep fuel r.m).2).2.fin != 0) = true) :
    tgt = (mone call s u r.regs (mstep fuel r.m).2).2 := by
  have hz' : ((mone call s u r.regs (mstep fuel r.m).2).2.fin == 0) = false := by simpa [bne] using hz
  have e : mins call s fuel k.ins q.regs q.m = (false, mone call s u r.regs (mstep fuel r.m).2) := by rw [hi.head hu, mins, hs, hz']; rfl
  rw [h.unfold hk, e]; rfl
theorem IInv.next (hi : IInv call s fuel k q W R r) (hcg : ∀ i m, m.good W → (call i m).good W) (hcs : ∀ i m, m.steps ≤ (call i m).steps) {u : Tac} (hu : k.ins[r.j]? = some u) (hw : isW u.n) (hs : (mstep fuel r.m).1 = true) (hz : ((mone call s u r.regs (mstep fuel r.m).2).2.fin != 0) = false) :
    IInv call s fuel k q W R ⟨r.j + 1, (mone call s u r.regs (mstep fuel r.m).2).1, (mone call s u r.regs (mstep fuel r.m).2).2⟩ := by
  have hz' : ((mone call s u r.regs (mstep fuel r.m).2).2.fin) = 0 := by simpa using hz
  have hg := mone_good (s := s) hcg u hw hi.regs (mstep_good (fuel := fuel) hi.good)
  refine ⟨hg.2.2, hz', hg.1, hg.2.1.trans hi.len, (List.getElem?_eq_some_iff.1 hu).1, ?_, ?_⟩
  · exact Nat.le_trans hi.steps (Nat.le_trans (mstep_steps fuel r.m) (mone_steps hcs u r.regs _))
  · rw [hi.head hu]
    dsimp only
    conv => rhs; rw [mins]
    rw [hs, hz']; rfl
theorem IInv.done (hi : IInv call s fuel k q W R r) (hj : k.ins.length ≤ r.j) : mins call s fuel k.ins q.regs q.m = (true, r.regs, r.m) := by
  rw [← hi.eq, List.drop_eq_nil_of_le hj]; rfl
theorem fin_C1 (h : FInv call s fuel f W R tgt q) (hk : f.blocks[q.i.toNat]? = some k) (hi : IInv call s fuel k q W R r) (hj : k.ins.length ≤ r.j) (hs : (mstep fuel r.m).1 = false) : tgt = (mstep fuel r.m).2 := by
  rw [h.unfold hk, hi.done hj]
  simp only [hs, Bool.false_and, cond_false, cond_true]
theorem fin_C2 (h : FInv call s fuel f W R tgt q) (hk : f.blocks[q.i.toNat]? = some k) (hi : IInv call s fuel k q W R r) (hj : k.ins.length ≤ r.j) (hf : (k.fin == 3) = true) : tgt = (mstep fuel r.m).2 := by
  rw [h.unfold hk, hi.done hj]
  simp only [hf, Bool.not_true, Bool.and_false, cond_false, cond_true]
theorem fin_C (h : FInv call s fuel f W R tgt q) (hk : f.blocks[q.i.toNat]? = some k) (hi : IInv call s fuel k q W R r) (hj : k.ins.length ≤ r.j) (hs : (mstep fuel r.m).1 = false ∨ (k.fin == 3) = true) : tgt = (mstep fuel r.m).2 :=
  hs.elim (fin_C1 h hk hi hj) (fin_C2 h hk hi hj)
theorem mstep_true {m : Mach} (hs : (mstep fuel m).1 = true) : (m.steps : Int) < fuel ∧ (mstep fuel m).2 = { m with steps := m.steps + 1 } := by
  unfold mstep at *
  cases e : decide ((m.steps : Int) ≥ fuel) with
  | true => rw [e] at hs; cases hs
  | false => simp at e; exact ⟨e, rfl⟩
theorem FInv.next (h : FInv call s fuel f W R tgt q) (hk : f.blocks[q.i.toNat]? = some k) (hi : IInv call s fuel k q W R r) (hj : k.ins.length ≤ r.j) (hs : (mstep fuel r.m).1 = true) (hf : (k.fin == 3) = false) (hn : 0 ≤ k.next r.regs ∧ k.next r.regs < f.blocks.length) :
    FInv call s fuel f W R tgt ⟨k.next r.regs, r.regs, (mstep fuel r.m).2, q.g - 1⟩ ∧ q.g - 1 < q.g := by
  obtain ⟨h1, h2⟩ := mstep_true hs
  have hg := h.g
  have hgas := h.gas
  have hst := hi.steps
  refine ⟨⟨mstep_good hi.good, by rw [h2]; exact hi.fin, hi.regs, hi.len, hn, ?_, ?_, ?_⟩, by omega⟩
  · rw [show (FG.mk (k.next r.regs) r.regs (mstep fuel r.m).2 (q.g - 1)).g = q.g - 1 from rfl]; omega
  · rw [h2]; dsimp only; omega
  · rw [h.unfold hk, hi.done hj]
    simp only [hs, hf, Bool.not_false, Bool.and_true, cond_true]
end
theorem ends_next {k : Block} {blocks regs : Int} (h : k.ends blocks regs = true) (hf : (k.fin == 3) = false) (l : List Int) : 0 ≤ k.next l ∧ k.next l < blocks := by
  unfold Block.ends at h
  unfold Block.next
  cases e1 : k.fin == 1 with
  | true =>
    rw [e1] at h
    have e2 : (k.fin == 2) = false := by simp at e1 ⊢; omega
    rw [e2]
    simp [within] at h ⊢; omega
  | false =>
    cases e2 : k.fin == 2 with
    | true =>
      rw [e1, e2] at h
      simp [within] at h
      cases rget l k.v == 0 <;> simp <;> omega
    | false => rw [e1, e2, hf] at h; simp at h
theorem ends_v {k : Block} {blocks regs : Int} (h : k.ends blocks regs = true) (hf : (k.fin == 2) = true) : 0 ≤ k.v ∧ k.v < regs := by
  have e1 : (k.fin == 1) = false := by simp at hf ⊢; omega
  unfold Block.ends at h
  rw [e1, hf] at h
  simp [within] at h; omega
theorem FInv.first {call : Int → Mach → Mach} {s : ByteArray} {fuel : Int} {f : BFunc} {W : Nat} {m : Mach} (hm : m.good W) (h0 : m.fin = 0) (hf : f.blocks ≠ []) :
    FInv call s fuel f W f.regs.toNat (mblk call s fuel f (fuel.toNat + 1) 0 (List.replicate f.regs.toNat 0) m) ⟨0, List.replicate f.regs.toNat 0, m, fuel.toNat + 1⟩ :=
  ⟨hm, h0, allR_rep _, by simp, ⟨by show (0 : Int) ≤ 0; omega, by show (0 : Int) < _; have := List.length_pos_iff.2 hf; omega⟩, Nat.succ_pos _, by show fuel.toNat < m.steps + (fuel.toNat + 1); omega, rfl⟩
end Go.Proofs.Ytidfabbnobipkaa.Sv
