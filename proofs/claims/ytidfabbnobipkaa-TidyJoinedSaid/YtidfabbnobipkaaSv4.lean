/-
  OPERATIONS THAT ONLY READ: what they come to, as a function; and that it is so: own work, over no program.
-/
import Derived.Test.YtidfabbnobipkaaSv3
import Derived.Laws.Small
import Derived.Laws.Strings
import Derived.Laws.StructEq
import Derived.WalkKit
namespace Go.Proofs.Ytidfabbnobipkaa.Sv
open Go
set_option linter.unusedVariables false
set_option linter.unusedSimpArgs false

inductive TK where
  | bool | int (k : IntKind) | string | slice (e : Nat) | struct (fs : List (Nat × Nat)) | array (n e : Nat) | ptr (e : Nat) | map (k e : Nat) | other
structure TyI where
  k : TK
  size : Nat
  bytes : Nat
  zero : List AV

def cellAV : Value → Option AV
  | .bool b => some (.bool b)
  | .int k n => some (.int k n)
  | .string s => some (.str s)
  | .slice none 0 0 => some .nil
  | .pointer none => some .nilp
  | _ => none

def allAV : List Value → Option (List AV)
  | [] => some []
  | v :: vs => match cellAV v, allAV vs with
    | some x, some xs => some (x :: xs)
    | _, _ => none

def tkOf (P : Program) : TypeDesc → TK
  | .bool => .bool
  | .int k => .int k
  | .string => .string
  | .slice e => .slice e
  | .struct fs => bif fs.all (fun f => P.cellsOf f.type != 0) then .struct (fs.toList.map fun f => (f.offset, f.type)) else .other
  | .array n e => .array n e
  | .pointer e => .ptr e
  | .map k e => .map k e
  | _ => .other

def tyOf (P : Program) (t : Nat) : Option TyI :=
  match P.info? t, P.underlying t with
  | some i, some d => some { k := tkOf P d, size := i.size, bytes := i.bytes, zero := ((i.zero.bind fun z => allAV z.cells.toList).getD []) }
  | _, _ => none

/-- A table of types is right. -/
def TOk (P : Program) (T : Nat → Option TyI) : Prop := ∀ t i, T t = some i → tyOf P t = some i

theorem cellAV_rel {H : Know} {ι : Lay} {v : Value} {x : AV} (h : cellAV v = some x) : Rel H ι x v := by
  unfold cellAV at h
  split at h <;> simp at h <;> subst h
  · exact .bool _ _
  · exact .int _ _ _
  · exact .str _ _
  · exact .nil _
  · exact .nilp _

theorem allAV_rel {H : Know} {ι : Lay} : ∀ {vs : List Value} {xs : List AV}, allAV vs = some xs → xs.length = vs.length ∧ ∀ (j : Nat) (x : AV) (v : Value), xs[j]? = some x → vs[j]? = some v → Rel H ι x v
  | [], xs, h => by
    simp [allAV] at h; subst h; exact ⟨rfl, fun j x v h1 => by simp at h1⟩
  | v :: vs, xs, h => by
    unfold allAV at h
    split at h
    · rename_i x ys h1 h2
      simp at h; subst h
      have ih := allAV_rel (H := H) (ι := ι) h2
      refine ⟨by simp [ih.1], fun j y u e1 e2 => ?_⟩
      cases j with
      | zero => simp at e1 e2; subst e1; subst e2; exact cellAV_rel h1
      | succ j => simp at e1 e2; exact ih.2 j y u e1 e2
    · cases h

theorem tyOf_spec {P : Program} {t : Nat} {i : TyI} (h : tyOf P t = some i) : ∃ info d, P.info? t = some info ∧ P.underlying t = some d ∧ i.k = tkOf P d ∧ info.size = i.size ∧ info.bytes = i.bytes ∧
    i.zero = ((info.zero.bind fun z => allAV z.cells.toList).getD []) := by
  unfold tyOf at h
  split at h
  · rename_i info d h1 h2
    simp at h; subst h
    exact ⟨info, d, h1, h2, rfl, rfl, rfl, rfl⟩
  · cases h

theorem zero_spec {info : TypeInfo} {i : TyI} (hz : i.zero = ((info.zero.bind fun z => allAV z.cells.toList).getD [])) (hl : i.zero.length = i.size) (hp : 0 < i.size) :
    ∃ z, info.zero = some z ∧ allAV z.cells.toList = some i.zero := by
  cases e : info.zero with
  | none => rw [e] at hz; simp at hz; rw [hz] at hl; simp at hl; omega
  | some z =>
    rw [e] at hz
    simp only [Option.bind_some] at hz
    cases e2 : allAV z.cells.toList with
    | none => rw [e2] at hz; simp at hz; rw [hz] at hl; simp at hl; omega
    | some xs => rw [e2] at hz; simp at hz; exact ⟨z, rfl, by rw [e2, hz]⟩

def constAV : Value → Option AV
  | .agg cs => match allAV cs.toList with
    | some xs => some (.agg xs)
    | none => none
  | v => cellAV v

theorem constAV_rel {H : Know} {ι : Lay} {v : Value} {x : AV} (h : constAV v = some x) : Rel H ι x v := by
  unfold constAV at h
  split at h
  · rename_i cs
    split at h
    · rename_i xs e
      simp at h; subst h
      have := allAV_rel (H := H) (ι := ι) e
      exact .agg _ _ _ (by simpa using this.1) (fun j x v h1 h2 => this.2 j x v h1 (by simpa using h2))
    · cases h
  · exact cellAV_rel h

def look (env : AEnv) : Operand → Option AV
  | .tmp t => env t
  | .const v => constAV v
  | .func f => some (.fn (.func f) [] [])
  | .global _ => none

theorem look_rel {H : Know} {ι : Lay} {s : AState} {a : Act} {w : World} (hs : Sim H ι s a w) {o : Operand} {x : AV} (h : look s.env o = some x) : Rel H ι x (a.eval o) := by
  cases o with
  | tmp t =>
    obtain ⟨v, hv, hr⟩ := hs.env t x h
    simpa [Act.eval, hv] using hr
  | const v => exact constAV_rel h
  | func f =>
    simp only [look, Option.some.injEq] at h
    subst h
    exact .fn _ _ _ _ _ _ rfl rfl (fun j x v h1 => by simp at h1) (fun j x v h1 => by simp at h1)
  | global g => cases h

/-! ### integers -/
def evalInt (op : BinOp) (k : IntKind) (a b : Int) : Option AV :=
  match op with
  | .add => some (.int k (k.wrap (a + b)))
  | .sub => some (.int k (k.wrap (a - b)))
  | .mul => some (.int k (k.wrap (a * b)))
  | .quo => if b = 0 then none else some (.int k (k.wrap (a.tdiv b)))
  | .rem => if b = 0 then none else some (.int k (a.tmod b))
  | .and => some (.int k (k.wrap ((BitVec.ofInt k.bits a &&& BitVec.ofInt k.bits b).toNat)))
  | .or => some (.int k (k.wrap ((BitVec.ofInt k.bits a ||| BitVec.ofInt k.bits b).toNat)))
  | .xor => some (.int k (k.wrap ((BitVec.ofInt k.bits a ^^^ BitVec.ofInt k.bits b).toNat)))
  | .andNot => some (.int k (k.wrap ((BitVec.ofInt k.bits a &&& ~~~BitVec.ofInt k.bits b).toNat)))
  | .shl => if b < 0 then none else some (.int k (k.wrap (a * 2 ^ (min b.toNat k.bits))))
  | .shr => if b < 0 then none else some (.int k (a.fdiv (2 ^ (min b.toNat k.bits))))
  | .eql => some (.bool (a == b))
  | .neq => some (.bool (a != b))
  | .lss => some (.bool (decide (a < b)))
  | .leq => some (.bool (decide (a ≤ b)))
  | .gtr => some (.bool (decide (a > b)))
  | .geq => some (.bool (decide (a ≥ b)))

def isShift : BinOp → Bool
  | .shl | .shr => true
  | _ => false

/-- are cells alike? -/
def eqCell : AV → AV → Option Bool
  | .int k a, .int k' b => if k = k' then some (a == b) else none
  | .bool a, .bool b => some (a == b)
  | .str a, .str b => some (a.toList == b.toList)
  | _, _ => none

def eqCells : List AV → List AV → Option Bool
  | [], [] => some true
  | x :: xs, y :: ys => match eqCell x y, eqCells xs ys with
    | some p, some q => some (p && q)
    | _, _ => none
  | _, _ => none

def evalBin (op : BinOp) (x y : AV) : Option AV :=
  match x, y with
  | .int k a, .int k' b => bif isShift op then evalInt op k a b else if k = k' then evalInt op k a b else none
  | .str a, .str b => match op with
    | .eql => some (.bool (a.toList == b.toList))
    | .neq => some (.bool (!(a.toList == b.toList)))
    | _ => none
  | _, _ => none

theorem run_evalInt {P : Program} {w : World} {H : Know} {ι : Lay} {op : BinOp} {T : TypeId} {k k' : IntKind} {a b : Int} {r : AV} (hk : isShift op = true ∨ k = k') (h : evalInt op k a b = some r) :
    ∃ v, Rel H ι r v ∧ (binOp op T (.int k a) (.int k' b)).run P w = .ok v w := by
  cases op <;> simp only [evalInt, Option.some.injEq] at h
  case quo => split at h; cases h; (rename_i hb; rcases hk with hk | rfl; · cases hk); simp at h; subst h; exact ⟨_, .int _ _ _, by simp [binOp, Op.intDiv, hb]⟩
  case rem => split at h; cases h; (rename_i hb; rcases hk with hk | rfl; · cases hk); simp at h; subst h; exact ⟨_, .int _ _ _, by simp [binOp, Op.intDiv, hb]⟩
  case shl => split at h; cases h; rename_i hb; simp at h; subst h; exact ⟨_, .int _ _ _, by simp [binOp, Op.shift, hb]⟩
  case shr => split at h; cases h; rename_i hb; simp at h; subst h; exact ⟨_, .int _ _ _, by simp [binOp, Op.shift, hb]⟩
  all_goals
    rcases hk with hk | rfl
    · cases hk
    subst h
    first
      | exact ⟨_, .int _ _ _, by simp [binOp, Op.intArith, Op.intBits, Op.intCmp]⟩
      | exact ⟨_, .bool _ _, by simp [binOp, Op.intArith, Op.intBits, Op.intCmp]⟩

theorem run_evalBin {P : Program} {w : World} {H : Know} {ι : Lay} {op : BinOp} {T : TypeId} {xo yo : Operand} {x y r : AV} {u v : Value} (hx : Rel H ι x u) (hy : Rel H ι y v) (h : evalBin op x y = some r) :
    ∃ z, Rel H ι r z ∧ (do eqGuard op T xo yo u v; binOp op T u v : Sem Value).run P w = .ok z w := by
  unfold evalBin at h
  split at h
  · rename_i k a k' b
    cases hx; cases hy
    have hk : (isShift op = true ∨ k = k') ∧ evalInt op k a b = some r := by
      cases e : isShift op with
      | true => rw [e] at h; exact ⟨.inl rfl, h⟩
      | false =>
        rw [e] at h
        simp only [cond_false] at h
        split at h
        · exact ⟨.inr (by assumption), h⟩
        · cases h
    obtain ⟨z, h1, h2⟩ := run_evalInt (P := P) (w := w) (H := H) (ι := ι) (T := T) hk.1 hk.2
    refine ⟨z, h1, ?_⟩
    have hg : (eqGuard op T xo yo (.int k a) (.int k' b)).run P w = .ok () w := by unfold eqGuard; cases op <;> simp
    rw [Sem.run_bind, hg]
    exact h2
  · rename_i a b
    cases hx; cases hy
    have hg : (eqGuard op T xo yo (.string a) (.string b)).run P w = .ok () w := by unfold eqGuard; cases op <;> simp
    split at h
    · simp at h; subst h
      exact ⟨_, .bool _ _, by rw [Sem.run_bind, hg, Result.andThen_ok, binOp_string_eql]; rfl⟩
    · simp at h; subst h
      exact ⟨_, .bool _ _, by rw [Sem.run_bind, hg, Result.andThen_ok, binOp_string_neq]; rfl⟩
    · cases h
  · cases h

end Go.Proofs.Ytidfabbnobipkaa.Sv
