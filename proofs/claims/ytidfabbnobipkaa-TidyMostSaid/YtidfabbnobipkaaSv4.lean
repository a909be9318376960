/-
  ABSTRACT VALUES, AND HOW THEY STAND FOR VALUES OF THE MODEL: own work, over no program.
  ABSTRACT STATES, AND HOW THEY STAND FOR STATES OF THE MODEL; WHAT A STEP MAY CHANGE: own work, over no program.
  THE JUDGEMENT ON CODE, AND ITS RULES FOR THE STRUCTURE OF CODE: own work, over no program.
  OPERATIONS THAT ONLY READ: what they come to, as a function; and that it is so: own work, over no program.
-/
import Derived.Calls
import Derived.Orders
import Derived.Laws.Sem
import Derived.Laws.World
import Derived.Laws.Cells
import Derived.Laws.Rows
import Derived.Laws.AppendOwn
import Derived.Laws.MakeOwn
import Derived.Laws.Slices
import Derived.Laws.Small
import Derived.Laws.Strings
import Derived.Laws.StructEq
import Derived.WalkKit
namespace Go.Proofs.Ytidfabbnobipkaa.Sv
open Go
set_option linter.unusedVariables false

/-- Abstract values. lst: a slice whose memory stays as it is (its elements as cells; ex: nothing behind them). loc: a pointer into such memory (what lies from there on). ref, ptr: into memory that is written. -/
inductive AV where
  | bool (b : Bool)
  | int (k : IntKind) (n : Int)
  | str (s : ByteArray)
  | nil
  | nilp
  | lst (ex : Bool) (es : List (List AV))
  | loc (cs : List AV)
  | ref (b n off len : Nat)
  | ptr (b n i o : Nat)
  | map (b : Nat)
  | agg (cs : List AV)
  | tup (vs : List AV)
  | fn (f : Fn) (fs cs : List AV)

/-- One cell holds it. -/
def AV.cell1 : AV → Bool
  | .agg _ | .tup _ => false
  | _ => true

/-- What stays as it is: the cells of blocks. -/
abbrev Know := Nat → Option (Array Value)
/-- Where an abstract row lies: block, cells of an element, elements, cells of the block. -/
structure Ent where
  rb : Nat
  sz : Nat
  n : Nat
  csz : Nat
/-- It has cells (a row without any has no block that matters). -/
def Ent.solid (r : Ent) : Prop := r.csz ≠ 0
abbrev Lay := Nat → Option Ent
def noLay : Lay := fun _ => none

inductive Rel (H : Know) : Lay → AV → Value → Prop
  | bool (ι : Lay) (b : Bool) : Rel H ι (.bool b) (.bool b)
  | int (ι : Lay) (k : IntKind) (n : Int) : Rel H ι (.int k n) (.int k n)
  | str (ι : Lay) (s : ByteArray) : Rel H ι (.str s) (.string s)
  | nil (ι : Lay) : Rel H ι .nil (.slice none 0 0)
  | nilp (ι : Lay) : Rel H ι .nilp (.pointer none)
  | lst0 (ι : Lay) (ex : Bool) (a : Option Addr) (cap : Nat) (hex : ex = true → cap = 0) (hcap : cap ≤ maxLen) (hn : a = none → cap = 0) (hsp : True) : Rel H ι (.lst ex []) (.slice a 0 cap)
  | lst (ι : Lay) (ex : Bool) (es : List (List AV)) (b off cap sz : Nat) (c : Array Value) (vals : Nat → Nat → Value) (hne : es ≠ []) (hb : H b = some c)
      (hsz : ∀ (i : Nat) (cs : List AV), es[i]? = some cs → cs.length = sz)
      (hv : ∀ (i : Nat) (cs : List AV) (j : Nat) (x : AV), es[i]? = some cs → cs[j]? = some x → c[off + i * sz + j]? = some (vals i j))
      (hr : ∀ (i : Nat) (cs : List AV) (j : Nat) (x : AV), es[i]? = some cs → cs[j]? = some x → Rel H noLay x (vals i j))
      (h1 : ∀ (i : Nat) (cs : List AV) (j : Nat) (x : AV), es[i]? = some cs → cs[j]? = some x → x.cell1 = true)
      (hex : ex = true → cap = es.length) (hcap : es.length ≤ cap) (hmax : cap ≤ maxLen) :
      Rel H ι (.lst ex es) (.slice (some ⟨b, off, none⟩) es.length cap)
  | loc (ι : Lay) (cs : List AV) (b off : Nat) (c : Array Value) (vals : Nat → Value) (hb : H b = some c)
      (hv : ∀ (j : Nat) (x : AV), cs[j]? = some x → c[off + j]? = some (vals j)) (hr : ∀ (j : Nat) (x : AV), cs[j]? = some x → Rel H noLay x (vals j))
      (h1 : ∀ (j : Nat) (x : AV), cs[j]? = some x → x.cell1 = true) :
      Rel H ι (.loc cs) (.pointer (some ⟨b, off, none⟩))
  | refL (ι : Lay) (b n off len cap : Nat) (r : Ent) (hr : ι b = some r) (hn : r.n = n) (hlen : off + len ≤ n) (hlc : len ≤ cap) (hcap : (off + cap) * r.sz = r.csz) (hmax : cap ≤ maxLen) :
      Rel H ι (.ref b n off len) (.slice (some ⟨r.rb, off * r.sz, none⟩) len cap)
  | ref0 (ι : Lay) (b : Nat) (r : Ent) (a : Option Addr) (hr : ι b = some r) (hn : r.n = 0) (hc : r.csz = 0) (hsp : True) : Rel H ι (.ref b 0 0 0) (.slice a 0 0)
  | refS (ι : Lay) (b n off len : Nat) (r : Ent) (a : Option Addr) (cap : Nat) (hr : ι b = some r) (hn : n < r.n) : Rel H ι (.ref b n off len) (.slice a len cap)
  | ptrL (ι : Lay) (b n i o : Nat) (r : Ent) (hr : ι b = some r) (hn : r.n = n) : Rel H ι (.ptr b n i o) (.pointer (some ⟨r.rb, i * r.sz + o, none⟩))
  | ptrS (ι : Lay) (b n i o : Nat) (r : Ent) (a : Addr) (hr : ι b = some r) (hn : n < r.n) : Rel H ι (.ptr b n i o) (.pointer (some a))
  | map (ι : Lay) (b : Nat) (r : Ent) (hr : ι b = some r) (hn : r.sz = 0) : Rel H ι (.map b) (.map (some r.rb))
  | agg (ι : Lay) (cs : List AV) (vs : Array Value) (hl : cs.length = vs.size) (hr : ∀ (j : Nat) (x : AV) (v : Value), cs[j]? = some x → vs[j]? = some v → Rel H ι x v) : Rel H ι (.agg cs) (.agg vs)
  | tup (ι : Lay) (cs : List AV) (vs : Array Value) (hl : cs.length = vs.size) (hr : ∀ (j : Nat) (x : AV) (v : Value), cs[j]? = some x → vs[j]? = some v → Rel H ι x v) : Rel H ι (.tup cs) (.tuple vs)
  | fn (ι : Lay) (f : Fn) (xs cs : List AV) (us vs : Array Value) (hx : xs.length = us.size) (hl : cs.length = vs.size)
      (h1 : ∀ (j : Nat) (x : AV) (v : Value), xs[j]? = some x → us[j]? = some v → Rel H ι x v) (h2 : ∀ (j : Nat) (x : AV) (v : Value), cs[j]? = some x → vs[j]? = some v → Rel H ι x v) : Rel H ι (.fn f xs cs) (.func f us vs)

def KLe (H H' : Know) : Prop := ∀ b c, H b = some c → H' b = some c
def LLe (ι ι' : Lay) : Prop := ∀ b r, ι b = some r → ∃ r', ι' b = some r' ∧ (r' = r ∨ r.n < r'.n ∧ 0 < r.sz ∧ r'.sz = r.sz)

theorem KLe.refl (H : Know) : KLe H H := fun _ _ h => h
theorem KLe.trans {H H' H'' : Know} (h : KLe H H') (h' : KLe H' H'') : KLe H H'' := fun b c e => h' b c (h b c e)
theorem LLe.refl (ι : Lay) : LLe ι ι := fun _ r h => ⟨r, h, .inl rfl⟩
theorem LLe.trans {ι ι' ι'' : Lay} (h : LLe ι ι') (h' : LLe ι' ι'') : LLe ι ι'' := fun b r e => by
  obtain ⟨r', e', h1⟩ := h b r e
  obtain ⟨r'', e'', h2⟩ := h' b r' e'
  refine ⟨r'', e'', ?_⟩
  rcases h1 with rfl | h1 <;> rcases h2 with rfl | h2
  · exact .inl rfl
  · exact .inr h2
  · exact .inr h1
  · exact .inr ⟨Nat.lt_trans h1.1 h2.1, h1.2.1, h2.2.2.trans h1.2.2⟩
theorem LLe.none (ι : Lay) : LLe noLay ι := fun _ _ h => by cases h

theorem Rel.mono {H H' : Know} {ι : Lay} {x : AV} {v : Value} (h : Rel H ι x v) (hH : KLe H H') : ∀ {ι' : Lay}, LLe ι ι' → Rel H' ι' x v := by
  induction h with
  | bool => exact fun _ => .bool _ _
  | int => exact fun _ => .int _ _ _
  | str => exact fun _ => .str _ _
  | nil => exact fun _ => .nil _
  | nilp => exact fun _ => .nilp _
  | lst0 ι ex a cap hex hcap hn hsp => exact fun _ => .lst0 _ ex a cap hex hcap hn hsp
  | lst ι ex es b off cap sz c vals hne hb hsz hv hr hc1 hex hcap hmax ih =>
    exact fun _ => .lst _ ex es b off cap sz c vals hne (hH _ _ hb) hsz hv (fun i cs j x h1 h2 => ih i cs j x h1 h2 (LLe.refl _)) hc1 hex hcap hmax
  | loc ι cs b off c vals hb hv hr hc1 ih =>
    exact fun _ => .loc _ cs b off c vals (hH _ _ hb) hv (fun j x h1 => ih j x h1 (LLe.refl _)) hc1
  | refL ι b n off len cap r hr hn hlen hlc hcap hmax =>
    intro ι' h
    obtain ⟨r', e, h1⟩ := h b r hr
    rcases h1 with rfl | h1
    · exact .refL _ b n off len cap r' e hn hlen hlc hcap hmax
    · exact .refS _ b n off len r' _ cap e (hn ▸ h1.1)
  | ref0 ι b r a hr hn hc hsp =>
    intro ι' h
    obtain ⟨r', e, h1⟩ := h b r hr
    rcases h1 with rfl | h1
    · exact .ref0 _ b r' a e hn hc hsp
    · exact .refS _ b 0 0 0 r' _ 0 e (by omega)
  | refS ι b n off len r a cap hr hn =>
    intro ι' h
    obtain ⟨r', e, h1⟩ := h b r hr
    rcases h1 with rfl | h1
    · exact .refS _ b n off len r' a cap e hn
    · exact .refS _ b n off len r' a cap e (Nat.lt_trans hn h1.1)
  | ptrL ι b n i o r hr hn =>
    intro ι' h
    obtain ⟨r', e, h1⟩ := h b r hr
    rcases h1 with rfl | h1
    · exact .ptrL _ b n i o r' e hn
    · exact .ptrS _ b n i o r' _ e (hn ▸ h1.1)
  | ptrS ι b n i o r a hr hn =>
    intro ι' h
    obtain ⟨r', e, h1⟩ := h b r hr
    rcases h1 with rfl | h1
    · exact .ptrS _ b n i o r' a e hn
    · exact .ptrS _ b n i o r' a e (Nat.lt_trans hn h1.1)
  | map ι b r hr hn =>
    intro ι' h
    obtain ⟨r', e, h1⟩ := h b r hr
    rcases h1 with rfl | h1
    · exact .map _ b r' e hn
    · omega
  | agg ι cs vs hl hr ih => exact fun h => .agg _ cs vs hl (fun j x v h1 h2 => ih j x v h1 h2 h)
  | tup ι cs vs hl hr ih => exact fun h => .tup _ cs vs hl (fun j x v h1 h2 => ih j x v h1 h2 h)
  | fn ι f xs cs us vs hx hl h1 h2 ih1 ih2 => exact fun h => .fn _ f xs cs us vs hx hl (fun j x v e1 e2 => ih1 j x v e1 e2 h) (fun j x v e1 e2 => ih2 j x v e1 e2 h)

section
variable {H : Know} {ι : Lay} {v : Value}
theorem Rel.bool_inv {b : Bool} (h : Rel H ι (.bool b) v) : v = .bool b := by cases h; rfl
theorem Rel.int_inv {k : IntKind} {n : Int} (h : Rel H ι (.int k n) v) : v = .int k n := by cases h; rfl
theorem Rel.str_inv {s : ByteArray} (h : Rel H ι (.str s) v) : v = .string s := by cases h; rfl
theorem Rel.nil_inv (h : Rel H ι .nil v) : v = .slice none 0 0 := by cases h; rfl
theorem Rel.nilp_inv (h : Rel H ι .nilp v) : v = .pointer none := by cases h; rfl
theorem Rel.map_inv {b : Nat} (h : Rel H ι (.map b) v) : ∃ r, ι b = some r ∧ r.sz = 0 ∧ v = .map (some r.rb) := by cases h; exact ⟨_, by assumption, by assumption, rfl⟩
theorem Rel.tup_inv {cs : List AV} (h : Rel H ι (.tup cs) v) : ∃ us, v = .tuple us ∧ cs.length = us.size ∧ ∀ (j : Nat) (x : AV) (u : Value), cs[j]? = some x → us[j]? = some u → Rel H ι x u := by
  cases h; exact ⟨_, rfl, by assumption, by assumption⟩
theorem Rel.agg_inv {cs : List AV} (h : Rel H ι (.agg cs) v) : ∃ us, v = .agg us ∧ cs.length = us.size ∧ ∀ (j : Nat) (x : AV) (u : Value), cs[j]? = some x → us[j]? = some u → Rel H ι x u := by
  cases h; exact ⟨_, rfl, by assumption, by assumption⟩
theorem Rel.fn_inv {f : Fn} {xs cs : List AV} (h : Rel H ι (.fn f xs cs) v) : ∃ us vs, v = .func f us vs ∧ xs.length = us.size ∧ cs.length = vs.size ∧
    (∀ (j : Nat) (x : AV) (u : Value), xs[j]? = some x → us[j]? = some u → Rel H ι x u) ∧ (∀ (j : Nat) (x : AV) (u : Value), cs[j]? = some x → vs[j]? = some u → Rel H ι x u) := by
  cases h; exact ⟨_, _, rfl, by assumption, by assumption, by assumption, by assumption⟩
theorem Rel.lst_inv {ex : Bool} {es : List (List AV)} (h : Rel H ι (.lst ex es) v) :
    (es = [] ∧ ∃ a cap, v = .slice a 0 cap ∧ (ex = true → cap = 0) ∧ cap ≤ maxLen ∧ (a = none → cap = 0) ∧ True) ∨
    (es ≠ [] ∧ ∃ b off cap sz c, ∃ vals : Nat → Nat → Value, v = .slice (some ⟨b, off, none⟩) es.length cap ∧ H b = some c ∧ (∀ (i : Nat) (cs : List AV), es[i]? = some cs → cs.length = sz) ∧
      (∀ (i : Nat) (cs : List AV) (j : Nat) (x : AV), es[i]? = some cs → cs[j]? = some x → c[off + i * sz + j]? = some (vals i j)) ∧
      (∀ (i : Nat) (cs : List AV) (j : Nat) (x : AV), es[i]? = some cs → cs[j]? = some x → Rel H noLay x (vals i j)) ∧
      (∀ (i : Nat) (cs : List AV) (j : Nat) (x : AV), es[i]? = some cs → cs[j]? = some x → x.cell1 = true) ∧
      (ex = true → cap = es.length) ∧ es.length ≤ cap ∧ cap ≤ maxLen) := by
  cases h with
  | lst0 _ _ a cap h1 h2 h3 h4 => exact .inl ⟨rfl, a, cap, rfl, h1, h2, h3, h4⟩
  | lst _ _ _ b off cap sz c vals h0 h1 h2 h3 h4 h5 h6 h7 h8 => exact .inr ⟨h0, b, off, cap, sz, c, vals, rfl, h1, h2, h3, h4, h5, h6, h7, h8⟩
theorem Rel.lst_len {ex : Bool} {es : List (List AV)} (h : Rel H ι (.lst ex es) v) : ∃ a cap, v = .slice a es.length cap := by
  cases h with
  | lst0 _ _ a cap h1 h2 h3 h4 => exact ⟨a, cap, rfl⟩
  | lst _ _ _ b off cap sz c vals h0 h1 h2 h3 h4 h5 h6 h7 h8 => exact ⟨_, _, rfl⟩
theorem Rel.loc_inv {cs : List AV} (h : Rel H ι (.loc cs) v) : ∃ b off c, ∃ vals : Nat → Value, v = .pointer (some ⟨b, off, none⟩) ∧ H b = some c ∧
    (∀ (j : Nat) (x : AV), cs[j]? = some x → c[off + j]? = some (vals j)) ∧ (∀ (j : Nat) (x : AV), cs[j]? = some x → Rel H noLay x (vals j)) ∧ (∀ (j : Nat) (x : AV), cs[j]? = some x → x.cell1 = true) := by
  cases h; exact ⟨_, _, _, _, rfl, by assumption, by assumption, by assumption, by assumption⟩
theorem Rel.ref_len {b n off len : Nat} (h : Rel H ι (.ref b n off len) v) : ∃ a cap, v = .slice a len cap := by
  cases h <;> exact ⟨_, _, rfl⟩
theorem Rel.ref_live {b n off len : Nat} {r : Ent} (h : Rel H ι (.ref b n off len) v) (hr : ι b = some r) (hn : r.n = n) (hc : r.csz ≠ 0) :
    off + len ≤ n ∧ ∃ cap, v = .slice (some ⟨r.rb, off * r.sz, none⟩) len cap ∧ len ≤ cap ∧ (off + cap) * r.sz = r.csz ∧ cap ≤ maxLen := by
  cases h with
  | ref0 _ _ r' a hr' hn' hc' => rw [hr] at hr'; cases hr'; exact absurd hc' hc
  | refL _ _ _ _ _ cap r' hr' hn' hlen hlc hcap hmax => rw [hr] at hr'; cases hr'; exact ⟨hlen, cap, rfl, hlc, hcap, hmax⟩
  | refS _ _ _ _ _ r' a cap hr' hn' => rw [hr] at hr'; cases hr'; omega
theorem Rel.ptr_live {b n i o : Nat} {r : Ent} (h : Rel H ι (.ptr b n i o) v) (hr : ι b = some r) (hn : r.n = n) : v = .pointer (some ⟨r.rb, i * r.sz + o, none⟩) := by
  cases h with
  | ptrL _ _ _ _ _ r' hr' hn' => rw [hr] at hr'; cases hr'; rfl
  | ptrS _ _ _ _ _ r' a hr' hn' => rw [hr] at hr'; cases hr'; omega
theorem Rel.ptr_some {b n i o : Nat} (h : Rel H ι (.ptr b n i o) v) : ∃ a, v = .pointer (some a) := by
  cases h <;> exact ⟨_, rfl⟩
end

theorem Rel.ref_dry {H : Know} {ι : Lay} {v : Value} {b n off len : Nat} {r : Ent} (h : Rel H ι (.ref b n off len) v) (hr : ι b = some r) (hn : r.n = n) (hc : r.csz = 0) (hs : 0 < r.sz) :
    len = 0 ∧ ∃ a, v = .slice a 0 0 ∧ True := by
  cases h with
  | ref0 _ _ r' a hr' hn' hc' hsp => exact ⟨rfl, a, rfl, hsp⟩
  | refL _ _ _ _ _ cap r' hr' hn' hlen hlc hcap hmax =>
    rw [hr] at hr'; cases hr'
    rw [hc] at hcap
    have : off + cap = 0 := by
      rcases Nat.mul_eq_zero.1 hcap with h | h
      · exact h
      · omega
    have h1 : cap = 0 := by omega
    have h2 : len = 0 := by omega
    subst h1; subst h2
    exact ⟨rfl, _, rfl, trivial⟩
  | refS _ _ _ _ _ r' a cap hr' hn' => rw [hr] at hr'; cases hr'; omega

end Go.Proofs.Ytidfabbnobipkaa.Sv

namespace Go.Proofs.Ytidfabbnobipkaa.Sv
open Go
set_option linter.unusedVariables false

inductive AObj where
  | free
  | row (p : Bool) (sz : Nat) (es : List (List AV))
  | map (kvs : List (AV × AV))

def AObj.alive : AObj → Bool
  | .free => false
  | _ => true

abbrev AHeap := Nat → Option AObj
abbrev AEnv := Nat → Option AV

/-- The heap of which nothing is used. -/
def hNew : AHeap := fun _ => some .free
def eNew : AEnv := fun _ => none
def hput (h : AHeap) (b : Nat) (o : AObj) : AHeap := fun x => bif Nat.beq x b then some o else h x
def eput (e : AEnv) (t : Nat) (v : AV) : AEnv := fun x => bif Nat.beq x t then some v else e x
def edel (e : AEnv) (t : Nat) : AEnv := fun x => bif Nat.beq x t then none else e x

theorem beq_false_of_ne {x b : Nat} (h : x ≠ b) : Nat.beq x b = false := by
  cases e : Nat.beq x b with
  | false => rfl
  | true => exact absurd (Nat.eq_of_beq_eq_true e) h
theorem hput_same (h : AHeap) (b : Nat) (o : AObj) : hput h b o b = some o := by simp [hput]
theorem hput_ne (h : AHeap) {b x : Nat} (o : AObj) (hne : x ≠ b) : hput h b o x = h x := by simp only [hput, beq_false_of_ne hne, cond_false]
theorem eput_same (e : AEnv) (t : Nat) (v : AV) : eput e t v t = some v := by simp [eput]
theorem eput_ne (e : AEnv) {t x : Nat} (v : AV) (hne : x ≠ t) : eput e t v x = e x := by simp only [eput, beq_false_of_ne hne, cond_false]
theorem edel_same (e : AEnv) (t : Nat) : edel e t t = none := by simp [edel]
theorem edel_ne (e : AEnv) {t x : Nat} (hne : x ≠ t) : edel e t x = e x := by simp only [edel, beq_false_of_ne hne, cond_false]

structure AState where
  n : Nat
  env : AEnv
  h : AHeap

def rowCells (H : Know) (ι : Lay) (sz : Nat) (es : List (List AV)) (c : Array Value) : Prop :=
  (∀ (i : Nat) (cs : List AV), es[i]? = some cs → cs.length = sz) ∧
  ∀ (i : Nat) (cs : List AV) (j : Nat) (x : AV), es[i]? = some cs → cs[j]? = some x → ∃ v, c[i * sz + j]? = some v ∧ Rel H ι x v ∧ x.cell1 = true

def mapCells (H : Know) (kvs : List (AV × AV)) (es : Array MapEntry) : Prop :=
  kvs.length = es.size ∧ ∀ (j : Nat) (k v : AV), kvs[j]? = some (k, v) → ∃ e, es[j]? = some e ∧ Rel H noLay k e.key ∧ Rel H noLay v e.val

def ObjOk (H : Know) (ι : Lay) (w : World) (r : Ent) : AObj → Prop
  | .free => True
  | .row p sz es => r.sz = sz ∧ 0 < sz ∧ r.n = es.length ∧ es.length * sz ≤ r.csz ∧ (∀ (i : Nat) (cs : List AV), es[i]? = some cs → cs.length = sz) ∧
      (r.solid → ∃ c T, w.heap[r.rb]? = some (.cells c T) ∧ c.size = r.csz ∧ rowCells H (bif p then noLay else ι) sz es c)
  | .map kvs => r.sz = 0 ∧ r.solid ∧ ∃ es clk, w.heap[r.rb]? = some (.map es clk) ∧ mapCells H kvs es

structure HeapRel (H : Know) (ι : Lay) (h : AHeap) (w : World) : Prop where
  know : ∀ b c, H b = some c → ∃ T fr, w.heap[b]? = some (.cells c T fr)
  free : ∀ b, h b = some .free → ι b = none
  obj : ∀ b o, h b = some o → o.alive = true → ∃ r, ι b = some r ∧ ObjOk H ι w r o ∧ (r.solid → H r.rb = none)
  inj : ∀ b b' o o' r r', h b = some o → o.alive = true → h b' = some o' → o'.alive = true → ι b = some r → ι b' = some r' → r.solid → r'.solid → b ≠ b' → r.rb ≠ r'.rb

def Owned (h : AHeap) (ι : Lay) (rb : Nat) : Prop := ∃ b o r, h b = some o ∧ o.alive = true ∧ ι b = some r ∧ r.solid ∧ r.rb = rb

theorem HeapRel.lt {H : Know} {ι : Lay} {h : AHeap} {w : World} (hr : HeapRel H ι h w) {rb : Nat} (ho : Owned h ι rb) : rb < w.heap.size := by
  obtain ⟨b, o, r, h1, h2, h3, hsol, rfl⟩ := ho
  obtain ⟨r', e1, e2, _⟩ := hr.obj b o h1 h2
  rw [h3] at e1; cases e1
  cases o with
  | free => cases h2
  | row p sz es => obtain ⟨_, _, _, _, _, hx⟩ := e2; obtain ⟨c, T, hc, _⟩ := hx hsol; exact (Array.getElem?_eq_some_iff.1 hc).1
  | map kvs => obtain ⟨_, _, es, clk, hc, _⟩ := e2; exact (Array.getElem?_eq_some_iff.1 hc).1

theorem HeapRel.knowlt {H : Know} {ι : Lay} {h : AHeap} {w : World} (hr : HeapRel H ι h w) {b : Nat} {c : Array Value} (hc : H b = some c) : b < w.heap.size := by
  obtain ⟨T, fr, e⟩ := hr.know b c hc
  exact (Array.getElem?_eq_some_iff.1 e).1

/-- What may change from one world to a later one, where 'h' is owned at first, 'h'' at last. -/
structure Step (H : Know) (ι : Lay) (h : AHeap) (w : World) (H' : Know) (ι' : Lay) (h' : AHeap) (w' : World) : Prop where
  size : w.heap.size ≤ w'.heap.size
  os : w'.os = w.os
  out : w'.output = w.output
  keep : ∀ rb, rb < w.heap.size → ¬ Owned h ι rb → w'.heap[rb]? = w.heap[rb]?
  kle : KLe H H'
  knew : ∀ b, H' b ≠ none → H b ≠ none ∨ w.heap.size ≤ b ∨ Owned h ι b
  lle : LLe ι ι'
  lframe : ∀ b, h b = none → ι' b = ι b
  newrb : ∀ b r', ι' b = some r' → r'.solid → ι b = some r' ∨ w.heap.size ≤ r'.rb ∨ ∃ r, ι b = some r ∧ r.solid ∧ r.rb = r'.rb
  dom : ∀ b, h b = none → h' b = none

theorem Step.refl (H : Know) (ι : Lay) (h : AHeap) (w : World) : Step H ι h w H ι h w where
  size := Nat.le_refl _
  os := rfl
  out := rfl
  keep := fun _ _ _ => rfl
  kle := KLe.refl _
  knew := fun _ h => .inl h
  lle := LLe.refl _
  lframe := fun _ _ => rfl
  newrb := fun _ _ h _ => .inl h
  dom := fun _ h => h

theorem Step.owned {H : Know} {ι : Lay} {h : AHeap} {w : World} {H' : Know} {ι' : Lay} {h' : AHeap} {w' : World}
    (hr : HeapRel H ι h w) (s : Step H ι h w H' ι' h' w') {rb : Nat} (ho : Owned h' ι' rb) : Owned h ι rb ∨ w.heap.size ≤ rb := by
  obtain ⟨b, o, r', h1, h2, h3, hsol, rfl⟩ := ho
  cases e1 : h b with
  | none => rw [s.dom b e1] at h1; cases h1
  | some o0 =>
    have e2 : ι b ≠ none → o0.alive = true := fun hne => by
      cases o0 with
      | free => exact absurd (hr.free b e1) hne
      | _ => rfl
    rcases s.newrb b r' h3 hsol with e | e | ⟨r, e, es, e'⟩
    · exact .inl ⟨b, o0, r', e1, e2 (by rw [e]; simp), e, hsol, rfl⟩
    · exact .inr e
    · exact .inl ⟨b, o0, r, e1, e2 (by rw [e]; simp), e, es, e'⟩

theorem Step.trans {H : Know} {ι : Lay} {h : AHeap} {w : World} {H' : Know} {ι' : Lay} {h' : AHeap} {w' : World} {H'' : Know} {ι'' : Lay} {h'' : AHeap} {w'' : World}
    (hr : HeapRel H ι h w) (s : Step H ι h w H' ι' h' w') (hr' : HeapRel H' ι' h' w') (t : Step H' ι' h' w' H'' ι'' h'' w'') : Step H ι h w H'' ι'' h'' w'' where
  size := Nat.le_trans s.size t.size
  os := t.os.trans s.os
  out := t.out.trans s.out
  keep := fun rb hlt hno => by
    rw [t.keep rb (Nat.lt_of_lt_of_le hlt s.size) (fun ho => ?_), s.keep rb hlt hno]
    rcases s.owned hr ho with h1 | h1
    · exact hno h1
    · omega
  kle := s.kle.trans t.kle
  knew := fun b hb => by
    rcases t.knew b hb with h1 | h1 | h1
    · exact s.knew b h1
    · exact .inr (.inl (Nat.le_trans s.size h1))
    · rcases s.owned hr h1 with h2 | h2
      · exact .inr (.inr h2)
      · exact .inr (.inl h2)
  lle := s.lle.trans t.lle
  lframe := fun b hb => (t.lframe b (s.dom b hb)).trans (s.lframe b hb)
  newrb := fun b r'' hb hsol => by
    rcases t.newrb b r'' hb hsol with h1 | h1 | ⟨r', h1, hs1, h2⟩
    · exact s.newrb b r'' h1 hsol
    · exact .inr (.inl (Nat.le_trans s.size h1))
    · rcases s.newrb b r' h1 hs1 with h3 | h3 | ⟨r, h3, hs3, h4⟩
      · exact .inr (.inr ⟨r', h3, hs1, h2⟩)
      · exact .inr (.inl (h2 ▸ h3))
      · exact .inr (.inr ⟨r, h3, hs3, h4.trans h2⟩)
  dom := fun b hb => t.dom b (s.dom b hb)

end Go.Proofs.Ytidfabbnobipkaa.Sv

namespace Go.Proofs.Ytidfabbnobipkaa.Sv
open Go
set_option linter.unusedVariables false
set_option linter.unusedSimpArgs false

structure Sim (H : Know) (ι : Lay) (s : AState) (a : Act) (w : World) : Prop where
  n : a.tmps.size = s.n
  d : a.defers = []
  env : ∀ t x, s.env t = some x → ∃ v, a.tmps[t]? = some v ∧ Rel H ι x v
  heap : HeapRel H ι s.h w

/-- What stands behind. -/
def Post (H : Know) (ι : Lay) (h : AHeap) (w : World) (Q : Exit → AState → Prop) : Exit → Act → World → Prop := fun e a' w' =>
  ∃ s' H' ι', Q e s' ∧ Sim H' ι' s' a' w' ∧ Step H ι h w H' ι' s'.h w'

def AGo (P : Program) (c : Code) (s : AState) (Q : Exit → AState → Prop) : Prop :=
  ∀ H ι a w, Sim H ι s a w → c.wp P (Post H ι s.h w Q) a w

section
variable {P : Program} {Q : Exit → AState → Prop} {s : AState}

theorem Post.mono {H : Know} {ι : Lay} {h : AHeap} {w : World} {Q Q' : Exit → AState → Prop} {e : Exit} {a : Act} {w' : World} (hp : Post H ι h w Q e a w') (hq : ∀ s, Q e s → Q' e s) : Post H ι h w Q' e a w' := by
  obtain ⟨s', H', ι', q, r⟩ := hp
  exact ⟨s', H', ι', hq _ q, r⟩

theorem Post.step {H : Know} {ι : Lay} {h : AHeap} {w : World} {H' : Know} {ι' : Lay} {h' : AHeap} {w' : World} (hr : HeapRel H ι h w) (hr' : HeapRel H' ι' h' w') (st : Step H ι h w H' ι' h' w')
    {Q : Exit → AState → Prop} {e : Exit} {a : Act} {w'' : World} (hp : Post H' ι' h' w' Q e a w'') : Post H ι h w Q e a w'' := by
  obtain ⟨s', H'', ι'', q, r, t⟩ := hp
  exact ⟨s', H'', ι'', q, r, st.trans hr hr' t⟩

theorem AGo.mono {c : Code} {Q' : Exit → AState → Prop} (h : AGo P c s Q) (hq : ∀ e s, Q e s → Q' e s) : AGo P c s Q' :=
  fun H ι a w hs => wp_mono (h H ι a w hs) fun e a' w' hp => hp.mono (hq e)

theorem AGo.skip (h : Q .normal s) : AGo P .skip s Q := fun H ι a w hs => wp_skip ⟨s, H, ι, h, hs, Step.refl _ _ _ _⟩
theorem AGo.exit {id : Nat} (h : Q (.exit id) s) : AGo P (.exit id) s Q := fun H ι a w hs => wp_exit ⟨s, H, ι, h, hs, Step.refl _ _ _ _⟩
theorem AGo.ret (h : Q .ret s) : AGo P .ret s Q := fun H ι a w hs => wp_ret ⟨s, H, ι, h, hs, Step.refl _ _ _ _⟩
theorem AGo.label {l : Nat} (h : Q .normal s) : AGo P (.label l) s Q := fun H ι a w hs => wp_label ⟨s, H, ι, h, hs, Step.refl _ _ _ _⟩

/-- normal goes on, all else leaves. -/
def Then (K : AState → Prop) (Q : Exit → AState → Prop) : Exit → AState → Prop
  | .normal, s => K s
  | e, s => Q e s

theorem AGo.seq {x y : Code} (h : AGo P x s (Then (fun s' => AGo P y s' Q) Q)) : AGo P (.seq x y) s Q := by
  intro H ι a w hs
  refine wp_seq (wp_mono (h H ι a w hs) fun e a' w' hp => ?_)
  cases e with
  | normal =>
    obtain ⟨s', H', ι', q, r, t⟩ := hp
    exact wp_mono (q H' ι' a' w' r) fun e a'' w'' hp' => Post.step hs.heap r.heap t hp'
  | _ => exact hp

theorem AGo.cond {c : Operand} {x y : Code} {t : Nat} {b : Bool} (hc : c = .tmp t) (he : s.env t = some (.bool b)) (h1 : b = true → AGo P x s Q) (h2 : b = false → AGo P y s Q) : AGo P (.cond c x y) s Q := by
  intro H ι a w hs
  subst hc
  obtain ⟨v, hv, hr⟩ := hs.env t _ he
  cases hr
  have hev : a.eval (.tmp t) = .bool b := by simp [Act.eval, hv]
  exact wp_cond_split hev (fun e => h1 e H ι a w hs) (fun e => h2 e H ι a w hs)

theorem AGo.cond_true {t : Nat} {x y : Code} (b : Bool) (he : s.env t = some (.bool b)) (hb : b = true) (h : AGo P x s Q) : AGo P (.cond (.tmp t) x y) s Q :=
  AGo.cond rfl he (fun _ => h) (fun h2 => by rw [hb] at h2; cases h2)
theorem AGo.cond_false {t : Nat} {x y : Code} (b : Bool) (he : s.env t = some (.bool b)) (hb : b = false) (h : AGo P y s Q) : AGo P (.cond (.tmp t) x y) s Q :=
  AGo.cond rfl he (fun h2 => by rw [hb] at h2; cases h2) (fun _ => h)

def InBlock (id : Nat) (Q : Exit → AState → Prop) : Exit → AState → Prop
  | .exit id', s => bif Nat.beq id' id then Q .normal s else Q (.exit id') s
  | e, s => Q e s

theorem AGo.block {id : Nat} {c : Code} (h : AGo P c s (InBlock id Q)) : AGo P (.block id c) s Q := by
  intro H ι a w hs
  refine wp_block (wp_mono (h H ι a w hs) fun e a' w' hp => ?_)
  cases e with
  | exit id' =>
    obtain ⟨s', H', ι', q, r⟩ := hp
    simp only [Exit.inBlock]
    simp only [InBlock] at q
    by_cases hid : id' = id
    · subst hid
      simp only [Nat.beq_refl, cond_true] at q
      rw [if_pos rfl]
      exact ⟨s', H', ι', q, r⟩
    · rw [if_neg hid]
      rw [beq_false_of_ne hid] at q
      exact ⟨s', H', ι', q, r⟩
  | _ => exact hp

theorem AGo.loop {γ : Type} {c : Code} (I : γ → AState → Prop) (μ : γ → Nat) (g0 : γ) (h0 : I g0 s)
    (round : ∀ g s, I g s → AGo P c s (Then (fun s' => ∃ g', I g' s' ∧ μ g' < μ g) Q)) : AGo P (.loop c) s Q := by
  intro H ι a w hs b k cs
  have key : ∀ n g s1 H1 ι1 a1 w1, μ g = n → I g s1 → Sim H1 ι1 s1 a1 w1 → Step H ι s.h w H1 ι1 s1.h w1 →
      ∃ e a' w', Post H ι s.h w Q e a' w' ∧ Arrives P (lone (b.at a1 (.code c :: .inLoop c :: k)) cs w1) b k cs e a' w' := by
    intro n
    induction n using Nat.strongRecOn with
    | _ n ih =>
      intro g s1 H1 ι1 a1 w1 hn hI hs1 hst
      obtain ⟨e, a₂, w₂, hq, harr⟩ := round g s1 hI H1 ι1 a1 w1 hs1 b (.inLoop c :: k) cs
      obtain ⟨s2, H2, ι2, q, r, t⟩ := hq
      have t' := hst.trans hs.heap hs1.heap t
      cases e with
      | normal =>
        obtain ⟨g', hI', hlt⟩ := q
        obtain ⟨e₂, a₃, w₃, hq₂, harr₂⟩ := ih (μ g') (hn ▸ hlt) g' s2 H2 ι2 a₂ w₂ rfl hI' r t'
        exact ⟨e₂, a₃, w₃, hq₂, .of_steps (Steps.trans harr (.one step_inLoop)) harr₂⟩
      | exit id => exact ⟨_, a₂, w₂, ⟨s2, H2, ι2, q, r, t'⟩, .pass (x := .inLoop c) rfl (fun _ _ => .inl (by simp)) harr⟩
      | goto l => exact ⟨_, a₂, w₂, ⟨s2, H2, ι2, q, r, t'⟩, .pass (x := .inLoop c) rfl (fun _ _ => .inl (by simp)) harr⟩
      | ret => exact ⟨_, a₂, w₂, ⟨s2, H2, ι2, q, r, t'⟩, .pass (x := .inLoop c) rfl (fun _ _ => .inl (by simp)) harr⟩
      | panic ch => exact ⟨_, a₂, w₂, ⟨s2, H2, ι2, q, r, t'⟩, .pass (x := .inLoop c) rfl (fun _ _ => .inl (by simp)) harr⟩
      | outgrown => exact ⟨_, a₂, w₂, ⟨s2, H2, ι2, q, r, t'⟩, .pass (x := .inLoop c) rfl (fun _ _ => .inl (by simp)) harr⟩
  obtain ⟨e, a', w', hq, harr⟩ := key _ g0 s H ι a w rfl h0 hs (Step.refl _ _ _ _)
  exact ⟨e, a', w', hq, .of_steps (.one step_loop) harr⟩

/-- Less known, less owned: serves as well. -/
def Sub (s s' : AState) : Prop := s.n = s'.n ∧ (∀ t x, s.env t = some x → s'.env t = some x) ∧ (∀ b o, s.h b = some o → s'.h b = some o)

theorem HeapRel.sub {H : Know} {ι : Lay} {h h' : AHeap} {w : World} (hr : HeapRel H ι h' w) (hs : ∀ b o, h b = some o → h' b = some o) : HeapRel H ι h w where
  know := hr.know
  free := fun b e => hr.free b (hs _ _ e)
  obj := fun b o e ea => hr.obj b o (hs _ _ e) ea
  inj := fun b b' o o' r r' h1 h2 h3 h4 => hr.inj b b' o o' r r' (hs _ _ h1) h2 (hs _ _ h3) h4

theorem Sim.sub {H : Know} {ι : Lay} {s s' : AState} {a : Act} {w : World} (h : Sim H ι s' a w) (hs : Sub s s') : Sim H ι s a w where
  n := h.n.trans hs.1.symm
  d := h.d
  env := fun t x e => h.env t x (hs.2.1 t x e)
  heap := h.heap.sub hs.2.2

end
end Go.Proofs.Ytidfabbnobipkaa.Sv

namespace Go.Proofs.Ytidfabbnobipkaa.Sv
open Go
set_option linter.unusedVariables false
set_option linter.unusedSimpArgs false

inductive TK where
  | bool | int (k : IntKind) | string | slice (e : Nat) | struct (fs : List (Nat × Nat)) | array (n e : Nat) | ptr (e : Nat) | map (k e : Nat) | other
structure TyI where
  k : TK
  size : Nat
  bytes : Nat
  zero : List AV

def cellAV : Value → Option AV
  | .bool b => some (.bool b)
  | .int k n => some (.int k n)
  | .string s => some (.str s)
  | .slice none 0 0 => some .nil
  | .pointer none => some .nilp
  | _ => none

def allAV : List Value → Option (List AV)
  | [] => some []
  | v :: vs => match cellAV v, allAV vs with
    | some x, some xs => some (x :: xs)
    | _, _ => none

def tkOf (P : Program) : TypeDesc → TK
  | .bool => .bool
  | .int k => .int k
  | .string => .string
  | .slice e => .slice e
  | .struct fs => bif fs.all (fun f => P.cellsOf f.type != 0) then .struct (fs.toList.map fun f => (f.offset, f.type)) else .other
  | .array n e => .array n e
  | .pointer e => .ptr e
  | .map k e => .map k e
  | _ => .other

def tyOf (P : Program) (t : Nat) : Option TyI :=
  match P.info? t, P.underlying t with
  | some i, some d => some { k := tkOf P d, size := i.size, bytes := i.bytes, zero := ((i.zero.bind fun z => allAV z.cells.toList).getD []) }
  | _, _ => none

/-- A table of types is right. -/
def TOk (P : Program) (T : Nat → Option TyI) : Prop := ∀ t i, T t = some i → tyOf P t = some i

theorem cellAV_rel {H : Know} {ι : Lay} {v : Value} {x : AV} (h : cellAV v = some x) : Rel H ι x v := by
  unfold cellAV at h
  split at h <;> simp at h <;> subst h
  · exact .bool _ _
  · exact .int _ _ _
  · exact .str _ _
  · exact .nil _
  · exact .nilp _

theorem allAV_rel {H : Know} {ι : Lay} : ∀ {vs : List Value} {xs : List AV}, allAV vs = some xs → xs.length = vs.length ∧ ∀ (j : Nat) (x : AV) (v : Value), xs[j]? = some x → vs[j]? = some v → Rel H ι x v
  | [], xs, h => by
    simp [allAV] at h; subst h; exact ⟨rfl, fun j x v h1 => by simp at h1⟩
  | v :: vs, xs, h => by
    unfold allAV at h
    split at h
    · rename_i x ys h1 h2
      simp at h; subst h
      have ih := allAV_rel (H := H) (ι := ι) h2
      refine ⟨by simp [ih.1], fun j y u e1 e2 => ?_⟩
      cases j with
      | zero => simp at e1 e2; subst e1; subst e2; exact cellAV_rel h1
      | succ j => simp at e1 e2; exact ih.2 j y u e1 e2
    · cases h

theorem tyOf_spec {P : Program} {t : Nat} {i : TyI} (h : tyOf P t = some i) : ∃ info d, P.info? t = some info ∧ P.underlying t = some d ∧ i.k = tkOf P d ∧ info.size = i.size ∧ info.bytes = i.bytes ∧
    i.zero = ((info.zero.bind fun z => allAV z.cells.toList).getD []) := by
  unfold tyOf at h
  split at h
  · rename_i info d h1 h2
    simp at h; subst h
    exact ⟨info, d, h1, h2, rfl, rfl, rfl, rfl⟩
  · cases h

theorem zero_spec {info : TypeInfo} {i : TyI} (hz : i.zero = ((info.zero.bind fun z => allAV z.cells.toList).getD [])) (hl : i.zero.length = i.size) (hp : 0 < i.size) :
    ∃ z, info.zero = some z ∧ allAV z.cells.toList = some i.zero := by
  cases e : info.zero with
  | none => rw [e] at hz; simp at hz; rw [hz] at hl; simp at hl; omega
  | some z =>
    rw [e] at hz
    simp only [Option.bind_some] at hz
    cases e2 : allAV z.cells.toList with
    | none => rw [e2] at hz; simp at hz; rw [hz] at hl; simp at hl; omega
    | some xs => rw [e2] at hz; simp at hz; exact ⟨z, rfl, by rw [e2, hz]⟩

def constAV : Value → Option AV
  | .agg cs => match allAV cs.toList with
    | some xs => some (.agg xs)
    | none => none
  | v => cellAV v

theorem constAV_rel {H : Know} {ι : Lay} {v : Value} {x : AV} (h : constAV v = some x) : Rel H ι x v := by
  unfold constAV at h
  split at h
  · rename_i cs
    split at h
    · rename_i xs e
      simp at h; subst h
      have := allAV_rel (H := H) (ι := ι) e
      exact .agg _ _ _ (by simpa using this.1) (fun j x v h1 h2 => this.2 j x v h1 (by simpa using h2))
    · cases h
  · exact cellAV_rel h

def look (env : AEnv) : Operand → Option AV
  | .tmp t => env t
  | .const v => constAV v
  | .func f => some (.fn (.func f) [] [])
  | .global _ => none

theorem look_rel {H : Know} {ι : Lay} {s : AState} {a : Act} {w : World} (hs : Sim H ι s a w) {o : Operand} {x : AV} (h : look s.env o = some x) : Rel H ι x (a.eval o) := by
  cases o with
  | tmp t =>
    obtain ⟨v, hv, hr⟩ := hs.env t x h
    simpa [Act.eval, hv] using hr
  | const v => exact constAV_rel h
  | func f =>
    simp only [look, Option.some.injEq] at h
    subst h
    exact .fn _ _ _ _ _ _ rfl rfl (fun j x v h1 => by simp at h1) (fun j x v h1 => by simp at h1)
  | global g => cases h

/-! ### integers -/
def evalInt (op : BinOp) (k : IntKind) (a b : Int) : Option AV :=
  match op with
  | .add => some (.int k (k.wrap (a + b)))
  | .sub => some (.int k (k.wrap (a - b)))
  | .mul => some (.int k (k.wrap (a * b)))
  | .quo => if b = 0 then none else some (.int k (k.wrap (a.tdiv b)))
  | .rem => if b = 0 then none else some (.int k (a.tmod b))
  | .and => some (.int k (k.wrap ((BitVec.ofInt k.bits a &&& BitVec.ofInt k.bits b).toNat)))
  | .or => some (.int k (k.wrap ((BitVec.ofInt k.bits a ||| BitVec.ofInt k.bits b).toNat)))
  | .xor => some (.int k (k.wrap ((BitVec.ofInt k.bits a ^^^ BitVec.ofInt k.bits b).toNat)))
  | .andNot => some (.int k (k.wrap ((BitVec.ofInt k.bits a &&& ~~~BitVec.ofInt k.bits b).toNat)))
  | .shl => if b < 0 then none else some (.int k (k.wrap (a * 2 ^ (min b.toNat k.bits))))
  | .shr => if b < 0 then none else some (.int k (a.fdiv (2 ^ (min b.toNat k.bits))))
  | .eql => some (.bool (a == b))
  | .neq => some (.bool (a != b))
  | .lss => some (.bool (decide (a < b)))
  | .leq => some (.bool (decide (a ≤ b)))
  | .gtr => some (.bool (decide (a > b)))
  | .geq => some (.bool (decide (a ≥ b)))

def isShift : BinOp → Bool
  | .shl | .shr => true
  | _ => false

/-- are cells alike? -/
def eqCell : AV → AV → Option Bool
  | .int k a, .int k' b => if k = k' then some (a == b) else none
  | .bool a, .bool b => some (a == b)
  | .str a, .str b => some (a.toList == b.toList)
  | _, _ => none

def eqCells : List AV → List AV → Option Bool
  | [], [] => some true
  | x :: xs, y :: ys => match eqCell x y, eqCells xs ys with
    | some p, some q => some (p && q)
    | _, _ => none
  | _, _ => none

def evalBin (op : BinOp) (x y : AV) : Option AV :=
  match x, y with
  | .int k a, .int k' b => bif isShift op then evalInt op k a b else if k = k' then evalInt op k a b else none
  | .str a, .str b => match op with
    | .eql => some (.bool (a.toList == b.toList))
    | .neq => some (.bool (!(a.toList == b.toList)))
    | _ => none
  | _, _ => none

theorem run_evalInt {P : Program} {w : World} {H : Know} {ι : Lay} {op : BinOp} {T : TypeId} {k k' : IntKind} {a b : Int} {r : AV} (hk : isShift op = true ∨ k = k') (h : evalInt op k a b = some r) :
    ∃ v, Rel H ι r v ∧ (binOp op T (.int k a) (.int k' b)).run P w = .ok v w := by
  cases op <;> simp only [evalInt, Option.some.injEq] at h
  case quo => split at h; cases h; (rename_i hb; rcases hk with hk | rfl; · cases hk); simp at h; subst h; exact ⟨_, .int _ _ _, by simp [binOp, Op.intDiv, hb]⟩
  case rem => split at h; cases h; (rename_i hb; rcases hk with hk | rfl; · cases hk); simp at h; subst h; exact ⟨_, .int _ _ _, by simp [binOp, Op.intDiv, hb]⟩
  case shl => split at h; cases h; rename_i hb; simp at h; subst h; exact ⟨_, .int _ _ _, by simp [binOp, Op.shift, hb]⟩
  case shr => split at h; cases h; rename_i hb; simp at h; subst h; exact ⟨_, .int _ _ _, by simp [binOp, Op.shift, hb]⟩
  all_goals
    rcases hk with hk | rfl
    · cases hk
    subst h
    first
      | exact ⟨_, .int _ _ _, by simp [binOp, Op.intArith, Op.intBits, Op.intCmp]⟩
      | exact ⟨_, .bool _ _, by simp [binOp, Op.intArith, Op.intBits, Op.intCmp]⟩

theorem run_evalBin {P : Program} {w : World} {H : Know} {ι : Lay} {op : BinOp} {T : TypeId} {xo yo : Operand} {x y r : AV} {u v : Value} (hx : Rel H ι x u) (hy : Rel H ι y v) (h : evalBin op x y = some r) :
    ∃ z, Rel H ι r z ∧ (do eqGuard op T xo yo u v; binOp op T u v : Sem Value).run P w = .ok z w := by
  unfold evalBin at h
  split at h
  · rename_i k a k' b
    cases hx; cases hy
    have hk : (isShift op = true ∨ k = k') ∧ evalInt op k a b = some r := by
      cases e : isShift op with
      | true => rw [e] at h; exact ⟨.inl rfl, h⟩
      | false =>
        rw [e] at h
        simp only [cond_false] at h
        split at h
        · exact ⟨.inr (by assumption), h⟩
        · cases h
    obtain ⟨z, h1, h2⟩ := run_evalInt (P := P) (w := w) (H := H) (ι := ι) (T := T) hk.1 hk.2
    refine ⟨z, h1, ?_⟩
    have hg : (eqGuard op T xo yo (.int k a) (.int k' b)).run P w = .ok () w := by unfold eqGuard; cases op <;> simp
    rw [Sem.run_bind, hg]
    exact h2
  · rename_i a b
    cases hx; cases hy
    have hg : (eqGuard op T xo yo (.string a) (.string b)).run P w = .ok () w := by unfold eqGuard; cases op <;> simp
    split at h
    · simp at h; subst h
      exact ⟨_, .bool _ _, by rw [Sem.run_bind, hg, Result.andThen_ok, binOp_string_eql]; rfl⟩
    · simp at h; subst h
      exact ⟨_, .bool _ _, by rw [Sem.run_bind, hg, Result.andThen_ok, binOp_string_neq]; rfl⟩
    · cases h
  · cases h

end Go.Proofs.Ytidfabbnobipkaa.Sv
