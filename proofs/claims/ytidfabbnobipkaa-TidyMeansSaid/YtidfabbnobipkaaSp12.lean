/-
  THE DOCUMENT'S MACHINE OF BLOCKS, IN PLAIN LEAN: own work, over no program.
-/
import Derived.Test.YtidfabbnobipkaaSp11
import Derived.Test.YtidfabbnobipkaaSv25
namespace Go.Proofs.Ytidfabbnobipkaa.Sv
open Go
set_option linter.unusedVariables false
set_option linter.unusedSimpArgs false

structure Mach where
  words : List Int
  out : List UInt8
  read : Nat
  steps : Nat
  fin : Int
def rget (l : List Int) (z : Int) : Int := (l[z.toNat]?).getD 0
def rset (l : List Int) (z v : Int) : List Int := l.set z.toNat v
def byteOf (n : Int) : UInt8 := UInt8.ofNat n.toNat
def inAt (s : ByteArray) (i : Nat) : UInt8 := (s.data.toList[i]?).getD 0
def mstep (fuel : Int) (m : Mach) : Bool × Mach := bif decide ((m.steps : Int) ≥ fuel) then (false, { m with fin := 5 }) else (true, { m with steps := m.steps + 1 })
/-- one instruction -/
def mone (call : Int → Mach → Mach) (s : ByteArray) (t : Tac) (regs : List Int) (m : Mach) : List Int × Mach :=
  bif t.op == 1 then (rset regs t.d t.n, m)
  else bif t.op == 2 then (rset regs t.d (rget regs t.a), m)
  else bif t.op == 3 then
    (bif (wapp t.k (rget regs t.a) (rget regs t.b)).2 == 0 then (rset regs t.d (wapp t.k (rget regs t.a) (rget regs t.b)).1, m) else (regs, { m with fin := 2 }))
  else bif t.op == 4 then (rset regs t.d (rget m.words t.base), m)
  else bif t.op == 5 then (regs, { m with words := rset m.words t.base (rget regs t.a) })
  else bif t.op == 6 then (bif decide (rget regs t.a ≥ t.size) then (regs, { m with fin := 3 }) else (rset regs t.d (rget m.words (t.base + rget regs t.a)), m))
  else bif t.op == 7 then (bif decide (rget regs t.a ≥ t.size) then (regs, { m with fin := 3 }) else (regs, { m with words := rset m.words (t.base + rget regs t.a) (rget regs t.b) }))
  else bif t.op == 8 then (bif decide (m.read < s.size) then (rset regs t.d ((inAt s m.read).toNat : Int), { m with read := m.read + 1 }) else (rset regs t.d 256, m))
  else bif t.op == 9 then (bif decide (m.out.length ≥ 65536) then (regs, { m with fin := 4 }) else (regs, { m with out := m.out ++ [byteOf (rget regs t.a)] }))
  else bif t.op == 10 then (regs, call t.base m)
  else (regs, m)
def mins (call : Int → Mach → Mach) (s : ByteArray) (fuel : Int) : List Tac → List Int → Mach → Bool × List Int × Mach
  | [], regs, m => (true, regs, m)
  | t :: r, regs, m =>
    bif (mstep fuel m).1 then
      (bif (mone call s t regs (mstep fuel m).2).2.fin == 0 then mins call s fuel r (mone call s t regs (mstep fuel m).2).1 (mone call s t regs (mstep fuel m).2).2
       else (false, mone call s t regs (mstep fuel m).2))
    else (false, regs, (mstep fuel m).2)
/-- where it goes on -/
def Block.next (k : Block) (regs : List Int) : Int := bif k.fin == 2 && rget regs k.v == 0 then k.els else k.to
def mblk (call : Int → Mach → Mach) (s : ByteArray) (fuel : Int) (f : BFunc) : Nat → Int → List Int → Mach → Mach
  | 0, _, _, m => m
  | g + 1, i, regs, m =>
    match f.blocks[i.toNat]? with
    | none => m
    | some k =>
      let p := mins call s fuel k.ins regs m
      bif p.1 then
        (bif (mstep fuel p.2.2).1 && !(k.fin == 3) then mblk call s fuel f g (k.next p.2.1) p.2.1 (mstep fuel p.2.2).2 else (mstep fuel p.2.2).2)
      else p.2.2
def mfun (b : Blocks) (s : ByteArray) (fuel : Int) : Nat → Int → Mach → Mach
  | 0, _, m => m
  | n + 1, i, m =>
    match b.funcs[i.toNat]? with
    | none => m
    | some f => mblk (mfun b s fuel n) s fuel f (fuel.toNat + 1) 0 (List.replicate f.regs.toNat 0) m
def m0 (b : Blocks) : Mach := ⟨List.replicate b.words.toNat 0, [], 0, 0, 0⟩
def fuel0 (fuel : Int) : Int := bif decide (fuel < 0) then 0 else fuel
/-- how a run ends -/
def mrun (b : Blocks) (s : ByteArray) (fuel : Int) : Mach :=
  let m := mfun b s (fuel0 fuel) b.funcs.length ((b.funcs.length : Int) - 1) (m0 b)
  bif m.fin == 0 then { m with fin := 1 } else m
def resCells (m : Mach) : List AV := [.int .i64 m.fin, .str ⟨m.out.toArray⟩, .int .i64 m.steps]
def regCells (l : List Int) : List (List AV) := l.map fun n => [AV.int .u32 n]

/-! ### what stays -/
def allR (l : List Int) : Prop := ∀ v ∈ l, isW v
theorem rget_w {l : List Int} (h : allR l) (z : Int) : isW (rget l z) := by
  unfold rget
  cases e : l[z.toNat]? with
  | none => exact isW_zero
  | some v => exact h v (List.mem_of_getElem? e)
theorem rset_w {l : List Int} (h : allR l) (z : Int) {v : Int} (hv : isW v) : allR (rset l z v) := fun u hu => by
  unfold rset at hu
  rcases List.mem_or_eq_of_mem_set hu with hu | rfl
  · exact h u hu
  · exact hv
theorem rset_length (l : List Int) (z v : Int) : (rset l z v).length = l.length := by simp [rset]
theorem byte_w (c : UInt8) : isW ((c.toNat : Nat) : Int) := by
  have : c.toNat < 256 := UInt8.toNat_lt c
  constructor <;> omega
/-- the state is one that may be -/
structure Mach.good (W : Nat) (m : Mach) : Prop where
  len : m.words.length = W
  words : allR m.words
  out : m.out.length ≤ 65536
theorem mstep_good {fuel : Int} {m : Mach} {W : Nat} (h : m.good W) : (mstep fuel m).2.good W := by
  unfold mstep
  cases decide ((m.steps : Int) ≥ fuel) <;> exact ⟨h.1, h.2, h.3⟩
theorem mstep_steps (fuel : Int) (m : Mach) : m.steps ≤ (mstep fuel m).2.steps := by
  unfold mstep
  cases decide ((m.steps : Int) ≥ fuel) <;> simp
theorem mone_good {call : Int → Mach → Mach} {s : ByteArray} {W : Nat} (hc : ∀ i m, m.good W → (call i m).good W) (t : Tac) (ht : isW t.n) {regs : List Int} {m : Mach} (hr : allR regs) (h : m.good W) :
    allR (mone call s t regs m).1 ∧ (mone call s t regs m).1.length = regs.length ∧ (mone call s t regs m).2.good W := by
  have ha := rget_w hr t.a
  have hb := rget_w hr t.b
  unfold mone
  cases t.op == 1 with
  | true => exact ⟨rset_w hr _ ht, rset_length _ _ _, h⟩
  | false =>
  cases t.op == 2 with
  | true => exact ⟨rset_w hr _ ha, rset_length _ _ _, h⟩
  | false =>
  cases t.op == 3 with
  | true =>
    simp only [cond_true, cond_false]
    cases (wapp t.k (rget regs t.a) (rget regs t.b)).2 == 0 with
    | true => exact ⟨rset_w hr _ (wapp_word ha hb), rset_length _ _ _, h⟩
    | false => exact ⟨hr, rfl, ⟨h.1, h.2, h.3⟩⟩
  | false =>
  cases t.op == 4 with
  | true => exact ⟨rset_w hr _ (rget_w h.2 _), rset_length _ _ _, h⟩
  | false =>
  cases t.op == 5 with
  | true => exact ⟨hr, rfl, ⟨by simp only [cond_true, cond_false]; rw [rset_length]; exact h.1, rset_w h.2 _ ha, h.3⟩⟩
  | false =>
  cases t.op == 6 with
  | true =>
    simp only [cond_true, cond_false]
    cases decide (rget regs t.a ≥ t.size) with
    | true => exact ⟨hr, rfl, ⟨h.1, h.2, h.3⟩⟩
    | false => exact ⟨rset_w hr _ (rget_w h.2 _), rset_length _ _ _, h⟩
  | false =>
  cases t.op == 7 with
  | true =>
    simp only [cond_true, cond_false]
    cases decide (rget regs t.a ≥ t.size) with
    | true => exact ⟨hr, rfl, ⟨h.1, h.2, h.3⟩⟩
    | false => exact ⟨hr, rfl, ⟨by simp only [cond_false]; rw [rset_length]; exact h.1, rset_w h.2 _ hb, h.3⟩⟩
  | false =>
  cases t.op == 8 with
  | true =>
    simp only [cond_true, cond_false]
    cases decide (m.read < s.size) with
    | true => exact ⟨rset_w hr _ (byte_w _), rset_length _ _ _, ⟨h.1, h.2, h.3⟩⟩
    | false => exact ⟨rset_w hr _ ⟨by omega, by omega⟩, rset_length _ _ _, h⟩
  | false =>
  cases t.op == 9 with
  | true =>
    simp only [cond_true, cond_false]
    cases e : decide (m.out.length ≥ 65536) with
    | true => exact ⟨hr, rfl, ⟨h.1, h.2, h.3⟩⟩
    | false =>
      refine ⟨hr, rfl, ⟨h.1, h.2, ?_⟩⟩
      simp only [cond_false, List.length_append, List.length_cons, List.length_nil]
      simp at e; omega
  | false =>
  cases t.op == 10 with
  | true => exact ⟨hr, rfl, hc _ _ h⟩
  | false => exact ⟨hr, rfl, h⟩
theorem mone_steps {call : Int → Mach → Mach} {s : ByteArray} (hc : ∀ i m, m.steps ≤ (call i m).steps) (t : Tac) (regs : List Int) (m : Mach) : m.steps ≤ (mone call s t regs m).2.steps := by
  unfold mone
  cases t.op == 1 with
  | true => exact Nat.le_refl _
  | false =>
  cases t.op == 2 with
  | true => exact Nat.le_refl _
  | false =>
  cases t.op == 3 with
  | true =>
    simp only [cond_true, cond_false]
    cases (wapp t.k (rget regs t.a) (rget regs t.b)).2 == 0 <;> exact Nat.le_refl _
  | false =>
  cases t.op == 4 with
  | true => exact Nat.le_refl _
  | false =>
  cases t.op == 5 with
  | true => exact Nat.le_refl _
  | false =>
  cases t.op == 6 with
  | true =>
    simp only [cond_true, cond_false]
    cases decide (rget regs t.a ≥ t.size) <;> exact Nat.le_refl _
  | false =>
  cases t.op == 7 with
  | true =>
    simp only [cond_true, cond_false]
    cases decide (rget regs t.a ≥ t.size) <;> exact Nat.le_refl _
  | false =>
  cases t.op == 8 with
  | true =>
    simp only [cond_true, cond_false]
    cases decide (m.read < s.size) <;> exact Nat.le_refl _
  | false =>
  cases t.op == 9 with
  | true =>
    simp only [cond_true, cond_false]
    cases e : decide (m.out.length ≥ 65536) <;> exact Nat.le_refl _
  | false =>
  cases t.op == 10 with
  | true => exact hc _ _
  | false => exact Nat.le_refl _
theorem mins_good {call : Int → Mach → Mach} {s : ByteArray} {fuel : Int} {W : Nat} (hc : ∀ i m, m.good W → (call i m).good W) : ∀ (l : List Tac), insW l → ∀ (regs : List Int) (m : Mach), allR regs → m.good W →
    allR (mins call s fuel l regs m).2.1 ∧ (mins call s fuel l regs m).2.1.length = regs.length ∧ (mins call s fuel l regs m).2.2.good W
  | [], _, regs, m, hr, h => ⟨hr, rfl, h⟩
  | t :: r, hl, regs, m, hr, h => by
    have h1 := mstep_good (fuel := fuel) h
    have h2 := mone_good (s := s) hc t (hl t (by simp)) hr h1
    unfold mins
    cases (mstep fuel m).1 with
    | false => exact ⟨hr, rfl, h1⟩
    | true =>
      simp only [cond_true]
      cases (mone call s t regs (mstep fuel m).2).2.fin == 0 with
      | false => exact h2
      | true =>
        have ih := mins_good (fuel := fuel) (s := s) hc r (fun u hu => hl u (by simp [hu])) _ _ h2.1 h2.2.2
        exact ⟨ih.1, ih.2.1.trans h2.2.1, ih.2.2⟩
theorem mins_steps {call : Int → Mach → Mach} {s : ByteArray} {fuel : Int} (hc : ∀ i m, m.steps ≤ (call i m).steps) : ∀ (l : List Tac) (regs : List Int) (m : Mach), m.steps ≤ (mins call s fuel l regs m).2.2.steps
  | [], _, _ => Nat.le_refl _
  | t :: r, regs, m => by
    have h1 := mstep_steps fuel m
    have h2 := mone_steps (s := s) hc t regs (mstep fuel m).2
    unfold mins
    cases (mstep fuel m).1 with
    | false => exact h1
    | true =>
      simp only [cond_true]
      cases (mone call s t regs (mstep fuel m).2).2.fin == 0 with
      | false => exact Nat.le_trans h1 h2
      | true => exact Nat.le_trans (Nat.le_trans h1 h2) (mins_steps hc r _ _)
theorem mblk_good {call : Int → Mach → Mach} {s : ByteArray} {fuel : Int} {W : Nat} (hc : ∀ i m, m.good W → (call i m).good W) {f : BFunc} (hf : ∀ x ∈ f.blocks, insW x.ins) : ∀ (g : Nat) (i : Int) (regs : List Int) (m : Mach), allR regs → m.good W → (mblk call s fuel f g i regs m).good W
  | 0, _, _, _, _, h => h
  | g + 1, i, regs, m, hr, h => by
    unfold mblk
    split
    · exact h
    · rename_i k hk
      have h2 := mins_good (s := s) (fuel := fuel) hc k.ins (hf k (List.mem_of_getElem? hk)) regs m hr h
      have h3 := mstep_good (fuel := fuel) h2.2.2
      dsimp only
      cases (mins call s fuel k.ins regs m).1 with
      | false => exact h2.2.2
      | true =>
        simp only [cond_true]
        cases (mstep fuel (mins call s fuel k.ins regs m).2.2).1 && !(k.fin == 3) with
        | false => exact h3
        | true => exact mblk_good hc hf g _ _ _ h2.1 h3
theorem mblk_steps {call : Int → Mach → Mach} {s : ByteArray} {fuel : Int} (hc : ∀ i m, m.steps ≤ (call i m).steps) {f : BFunc} : ∀ (g : Nat) (i : Int) (regs : List Int) (m : Mach), m.steps ≤ (mblk call s fuel f g i regs m).steps
  | 0, _, _, _ => Nat.le_refl _
  | g + 1, i, regs, m => by
    unfold mblk
    split
    · exact Nat.le_refl _
    · rename_i k hk
      have h2 := mins_steps (s := s) (fuel := fuel) hc k.ins regs m
      have h3 := mstep_steps fuel (mins call s fuel k.ins regs m).2.2
      dsimp only
      cases (mins call s fuel k.ins regs m).1 with
      | false => exact h2
      | true =>
        simp only [cond_true]
        cases (mstep fuel (mins call s fuel k.ins regs m).2.2).1 && !(k.fin == 3) with
        | false => exact Nat.le_trans h2 h3
        | true => exact Nat.le_trans (Nat.le_trans h2 h3) (mblk_steps hc g _ _ _)
theorem allR_rep (n : Nat) : allR (List.replicate n 0) := fun v hv => by
  rw [List.eq_of_mem_replicate hv]; exact isW_zero
def Blocks.insW (b : Blocks) : Prop := ∀ f ∈ b.funcs, ∀ x ∈ f.blocks, Sv.insW x.ins
theorem mfun_good {b : Blocks} (hb : b.insW) {s : ByteArray} {fuel : Int} {W : Nat} : ∀ (n : Nat) (i : Int) (m : Mach), m.good W → (mfun b s fuel n i m).good W
  | 0, _, _, h => h
  | n + 1, i, m, h => by
    unfold mfun
    split
    · exact h
    · rename_i f hf
      exact mblk_good (fun i m h => mfun_good hb n i m h) (hb f (List.mem_of_getElem? hf)) _ _ _ _ (allR_rep _) h
theorem mfun_steps {b : Blocks} {s : ByteArray} {fuel : Int} : ∀ (n : Nat) (i : Int) (m : Mach), m.steps ≤ (mfun b s fuel n i m).steps
  | 0, _, _ => Nat.le_refl _
  | n + 1, i, m => by
    unfold mfun
    split
    · exact Nat.le_refl _
    · exact mblk_steps (fun i m => mfun_steps n i m) _ _ _ _
end Go.Proofs.Ytidfabbnobipkaa.Sv
