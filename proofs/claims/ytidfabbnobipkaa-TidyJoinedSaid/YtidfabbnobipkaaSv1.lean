/-
  ABSTRACT VALUES, AND HOW THEY STAND FOR VALUES OF THE MODEL: own work, over no program.
-/
import Derived.Calls
import Derived.Orders
import Derived.Laws.Sem
import Derived.Laws.World
import Derived.Laws.Cells
import Derived.Laws.Rows
import Derived.Laws.AppendOwn
import Derived.Laws.MakeOwn
import Derived.Laws.Slices
namespace Go.Proofs.Ytidfabbnobipkaa.Sv
open Go
set_option linter.unusedVariables false

/-- Abstract values. lst: a slice whose memory stays as it is (its elements as cells; ex: nothing behind them). loc: a pointer into such memory (what lies from there on). ref, ptr: into memory that is written. -/
inductive AV where
  | bool (b : Bool)
  | int (k : IntKind) (n : Int)
  | str (s : ByteArray)
  | nil
  | nilp
  | lst (ex : Bool) (es : List (List AV))
  | loc (cs : List AV)
  | ref (b n off len : Nat)
  | ptr (b n i o : Nat)
  | map (b : Nat)
  | agg (cs : List AV)
  | tup (vs : List AV)
  | fn (f : Fn) (fs cs : List AV)

/-- One cell holds it. -/
def AV.cell1 : AV → Bool
  | .agg _ | .tup _ => false
  | _ => true

/-- What stays as it is: the cells of blocks. -/
abbrev Know := Nat → Option (Array Value)
/-- Where an abstract row lies: block, cells of an element, elements, cells of the block. -/
structure Ent where
  rb : Nat
  sz : Nat
  n : Nat
  csz : Nat
/-- It has cells (a row without any has no block that matters). -/
def Ent.solid (r : Ent) : Prop := r.csz ≠ 0
abbrev Lay := Nat → Option Ent
def noLay : Lay := fun _ => none

inductive Rel (H : Know) : Lay → AV → Value → Prop
  | bool (ι : Lay) (b : Bool) : Rel H ι (.bool b) (.bool b)
  | int (ι : Lay) (k : IntKind) (n : Int) : Rel H ι (.int k n) (.int k n)
  | str (ι : Lay) (s : ByteArray) : Rel H ι (.str s) (.string s)
  | nil (ι : Lay) : Rel H ι .nil (.slice none 0 0)
  | nilp (ι : Lay) : Rel H ι .nilp (.pointer none)
  | lst0 (ι : Lay) (ex : Bool) (a : Option Addr) (cap : Nat) (hex : ex = true → cap = 0) (hcap : cap ≤ maxLen) (hn : a = none → cap = 0) (hsp : True) : Rel H ι (.lst ex []) (.slice a 0 cap)
  | lst (ι : Lay) (ex : Bool) (es : List (List AV)) (b off cap sz : Nat) (c : Array Value) (vals : Nat → Nat → Value) (hne : es ≠ []) (hb : H b = some c)
      (hsz : ∀ (i : Nat) (cs : List AV), es[i]? = some cs → cs.length = sz)
      (hv : ∀ (i : Nat) (cs : List AV) (j : Nat) (x : AV), es[i]? = some cs → cs[j]? = some x → c[off + i * sz + j]? = some (vals i j))
      (hr : ∀ (i : Nat) (cs : List AV) (j : Nat) (x : AV), es[i]? = some cs → cs[j]? = some x → Rel H noLay x (vals i j))
      (h1 : ∀ (i : Nat) (cs : List AV) (j : Nat) (x : AV), es[i]? = some cs → cs[j]? = some x → x.cell1 = true)
      (hex : ex = true → cap = es.length) (hcap : es.length ≤ cap) (hmax : cap ≤ maxLen) :
      Rel H ι (.lst ex es) (.slice (some ⟨b, off, none⟩) es.length cap)
  | loc (ι : Lay) (cs : List AV) (b off : Nat) (c : Array Value) (vals : Nat → Value) (hb : H b = some c)
      (hv : ∀ (j : Nat) (x : AV), cs[j]? = some x → c[off + j]? = some (vals j)) (hr : ∀ (j : Nat) (x : AV), cs[j]? = some x → Rel H noLay x (vals j))
      (h1 : ∀ (j : Nat) (x : AV), cs[j]? = some x → x.cell1 = true) :
      Rel H ι (.loc cs) (.pointer (some ⟨b, off, none⟩))
  | refL (ι : Lay) (b n off len cap : Nat) (r : Ent) (hr : ι b = some r) (hn : r.n = n) (hlen : off + len ≤ n) (hlc : len ≤ cap) (hcap : (off + cap) * r.sz = r.csz) (hmax : cap ≤ maxLen) :
      Rel H ι (.ref b n off len) (.slice (some ⟨r.rb, off * r.sz, none⟩) len cap)
  | ref0 (ι : Lay) (b : Nat) (r : Ent) (a : Option Addr) (hr : ι b = some r) (hn : r.n = 0) (hc : r.csz = 0) (hsp : True) : Rel H ι (.ref b 0 0 0) (.slice a 0 0)
  | refS (ι : Lay) (b n off len : Nat) (r : Ent) (a : Option Addr) (cap : Nat) (hr : ι b = some r) (hn : n < r.n) : Rel H ι (.ref b n off len) (.slice a len cap)
  | ptrL (ι : Lay) (b n i o : Nat) (r : Ent) (hr : ι b = some r) (hn : r.n = n) : Rel H ι (.ptr b n i o) (.pointer (some ⟨r.rb, i * r.sz + o, none⟩))
  | ptrS (ι : Lay) (b n i o : Nat) (r : Ent) (a : Addr) (hr : ι b = some r) (hn : n < r.n) : Rel H ι (.ptr b n i o) (.pointer (some a))
  | map (ι : Lay) (b : Nat) (r : Ent) (hr : ι b = some r) (hn : r.sz = 0) : Rel H ι (.map b) (.map (some r.rb))
  | agg (ι : Lay) (cs : List AV) (vs : Array Value) (hl : cs.length = vs.size) (hr : ∀ (j : Nat) (x : AV) (v : Value), cs[j]? = some x → vs[j]? = some v → Rel H ι x v) : Rel H ι (.agg cs) (.agg vs)
  | tup (ι : Lay) (cs : List AV) (vs : Array Value) (hl : cs.length = vs.size) (hr : ∀ (j : Nat) (x : AV) (v : Value), cs[j]? = some x → vs[j]? = some v → Rel H ι x v) : Rel H ι (.tup cs) (.tuple vs)
  | fn (ι : Lay) (f : Fn) (xs cs : List AV) (us vs : Array Value) (hx : xs.length = us.size) (hl : cs.length = vs.size)
      (h1 : ∀ (j : Nat) (x : AV) (v : Value), xs[j]? = some x → us[j]? = some v → Rel H ι x v) (h2 : ∀ (j : Nat) (x : AV) (v : Value), cs[j]? = some x → vs[j]? = some v → Rel H ι x v) : Rel H ι (.fn f xs cs) (.func f us vs)

def KLe (H H' : Know) : Prop := ∀ b c, H b = some c → H' b = some c
def LLe (ι ι' : Lay) : Prop := ∀ b r, ι b = some r → ∃ r', ι' b = some r' ∧ (r' = r ∨ r.n < r'.n ∧ 0 < r.sz ∧ r'.sz = r.sz)

theorem KLe.refl (H : Know) : KLe H H := fun _ _ h => h
theorem KLe.trans {H H' H'' : Know} (h : KLe H H') (h' : KLe H' H'') : KLe H H'' := fun b c e => h' b c (h b c e)
theorem LLe.refl (ι : Lay) : LLe ι ι := fun _ r h => ⟨r, h, .inl rfl⟩
theorem LLe.trans {ι ι' ι'' : Lay} (h : LLe ι ι') (h' : LLe ι' ι'') : LLe ι ι'' := fun b r e => by
  obtain ⟨r', e', h1⟩ := h b r e
  obtain ⟨r'', e'', h2⟩ := h' b r' e'
  refine ⟨r'', e'', ?_⟩
  rcases h1 with rfl | h1 <;> rcases h2 with rfl | h2
  · exact .inl rfl
  · exact .inr h2
  · exact .inr h1
  · exact .inr ⟨Nat.lt_trans h1.1 h2.1, h1.2.1, h2.2.2.trans h1.2.2⟩
theorem LLe.none (ι : Lay) : LLe noLay ι := fun _ _ h => by cases h

theorem Rel.mono {H H' : Know} {ι : Lay} {x : AV} {v : Value} (h : Rel H ι x v) (hH : KLe H H') : ∀ {ι' : Lay}, LLe ι ι' → Rel H' ι' x v := by
  induction h with
  | bool => exact fun _ => .bool _ _
  | int => exact fun _ => .int _ _ _
  | str => exact fun _ => .str _ _
  | nil => exact fun _ => .nil _
  | nilp => exact fun _ => .nilp _
  | lst0 ι ex a cap hex hcap hn hsp => exact fun _ => .lst0 _ ex a cap hex hcap hn hsp
  | lst ι ex es b off cap sz c vals hne hb hsz hv hr hc1 hex hcap hmax ih =>
    exact fun _ => .lst _ ex es b off cap sz c vals hne (hH _ _ hb) hsz hv (fun i cs j x h1 h2 => ih i cs j x h1 h2 (LLe.refl _)) hc1 hex hcap hmax
  | loc ι cs b off c vals hb hv hr hc1 ih =>
    exact fun _ => .loc _ cs b off c vals (hH _ _ hb) hv (fun j x h1 => ih j x h1 (LLe.refl _)) hc1
  | refL ι b n off len cap r hr hn hlen hlc hcap hmax =>
    intro ι' h
    obtain ⟨r', e, h1⟩ := h b r hr
    rcases h1 with rfl | h1
    · exact .refL _ b n off len cap r' e hn hlen hlc hcap hmax
    · exact .refS _ b n off len r' _ cap e (hn ▸ h1.1)
  | ref0 ι b r a hr hn hc hsp =>
    intro ι' h
    obtain ⟨r', e, h1⟩ := h b r hr
    rcases h1 with rfl | h1
    · exact .ref0 _ b r' a e hn hc hsp
    · exact .refS _ b 0 0 0 r' _ 0 e (by omega)
  | refS ι b n off len r a cap hr hn =>
    intro ι' h
    obtain ⟨r', e, h1⟩ := h b r hr
    rcases h1 with rfl | h1
    · exact .refS _ b n off len r' a cap e hn
    · exact .refS _ b n off len r' a cap e (Nat.lt_trans hn h1.1)
  | ptrL ι b n i o r hr hn =>
    intro ι' h
    obtain ⟨r', e, h1⟩ := h b r hr
    rcases h1 with rfl | h1
    · exact .ptrL _ b n i o r' e hn
    · exact .ptrS _ b n i o r' _ e (hn ▸ h1.1)
  | ptrS ι b n i o r a hr hn =>
    intro ι' h
    obtain ⟨r', e, h1⟩ := h b r hr
    rcases h1 with rfl | h1
    · exact .ptrS _ b n i o r' a e hn
    · exact .ptrS _ b n i o r' a e (Nat.lt_trans hn h1.1)
  | map ι b r hr hn =>
    intro ι' h
    obtain ⟨r', e, h1⟩ := h b r hr
    rcases h1 with rfl | h1
    · exact .map _ b r' e hn
    · omega
  | agg ι cs vs hl hr ih => exact fun h => .agg _ cs vs hl (fun j x v h1 h2 => ih j x v h1 h2 h)
  | tup ι cs vs hl hr ih => exact fun h => .tup _ cs vs hl (fun j x v h1 h2 => ih j x v h1 h2 h)
  | fn ι f xs cs us vs hx hl h1 h2 ih1 ih2 => exact fun h => .fn _ f xs cs us vs hx hl (fun j x v e1 e2 => ih1 j x v e1 e2 h) (fun j x v e1 e2 => ih2 j x v e1 e2 h)

section
variable {H : Know} {ι : Lay} {v : Value}
theorem Rel.bool_inv {b : Bool} (h : Rel H ι (.bool b) v) : v = .bool b := by cases h; rfl
theorem Rel.int_inv {k : IntKind} {n : Int} (h : Rel H ι (.int k n) v) : v = .int k n := by cases h; rfl
theorem Rel.str_inv {s : ByteArray} (h : Rel H ι (.str s) v) : v = .string s := by cases h; rfl
theorem Rel.nil_inv (h : Rel H ι .nil v) : v = .slice none 0 0 := by cases h; rfl
theorem Rel.nilp_inv (h : Rel H ι .nilp v) : v = .pointer none := by cases h; rfl
theorem Rel.map_inv {b : Nat} (h : Rel H ι (.map b) v) : ∃ r, ι b = some r ∧ r.sz = 0 ∧ v = .map (some r.rb) := by cases h; exact ⟨_, by assumption, by assumption, rfl⟩
theorem Rel.tup_inv {cs : List AV} (h : Rel H ι (.tup cs) v) : ∃ us, v = .tuple us ∧ cs.length = us.size ∧ ∀ (j : Nat) (x : AV) (u : Value), cs[j]? = some x → us[j]? = some u → Rel H ι x u := by
  cases h; exact ⟨_, rfl, by assumption, by assumption⟩
theorem Rel.agg_inv {cs : List AV} (h : Rel H ι (.agg cs) v) : ∃ us, v = .agg us ∧ cs.length = us.size ∧ ∀ (j : Nat) (x : AV) (u : Value), cs[j]? = some x → us[j]? = some u → Rel H ι x u := by
  cases h; exact ⟨_, rfl, by assumption, by assumption⟩
theorem Rel.fn_inv {f : Fn} {xs cs : List AV} (h : Rel H ι (.fn f xs cs) v) : ∃ us vs, v = .func f us vs ∧ xs.length = us.size ∧ cs.length = vs.size ∧
    (∀ (j : Nat) (x : AV) (u : Value), xs[j]? = some x → us[j]? = some u → Rel H ι x u) ∧ (∀ (j : Nat) (x : AV) (u : Value), cs[j]? = some x → vs[j]? = some u → Rel H ι x u) := by
  cases h; exact ⟨_, _, rfl, by assumption, by assumption, by assumption, by assumption⟩
theorem Rel.lst_inv {ex : Bool} {es : List (List AV)} (h : Rel H ι (.lst ex es) v) :
    (es = [] ∧ ∃ a cap, v = .slice a 0 cap ∧ (ex = true → cap = 0) ∧ cap ≤ maxLen ∧ (a = none → cap = 0) ∧ True) ∨
    (es ≠ [] ∧ ∃ b off cap sz c, ∃ vals : Nat → Nat → Value, v = .slice (some ⟨b, off, none⟩) es.length cap ∧ H b = some c ∧ (∀ (i : Nat) (cs : List AV), es[i]? = some cs → cs.length = sz) ∧
      (∀ (i : Nat) (cs : List AV) (j : Nat) (x : AV), es[i]? = some cs → cs[j]? = some x → c[off + i * sz + j]? = some (vals i j)) ∧
      (∀ (i : Nat) (cs : List AV) (j : Nat) (x : AV), es[i]? = some cs → cs[j]? = some x → Rel H noLay x (vals i j)) ∧
      (∀ (i : Nat) (cs : List AV) (j : Nat) (x : AV), es[i]? = some cs → cs[j]? = some x → x.cell1 = true) ∧
      (ex = true → cap = es.length) ∧ es.length ≤ cap ∧ cap ≤ maxLen) := by
  cases h with
  | lst0 _ _ a cap h1 h2 h3 h4 => exact .inl ⟨rfl, a, cap, rfl, h1, h2, h3, h4⟩
  | lst _ _ _ b off cap sz c vals h0 h1 h2 h3 h4 h5 h6 h7 h8 => exact .inr ⟨h0, b, off, cap, sz, c, vals, rfl, h1, h2, h3, h4, h5, h6, h7, h8⟩
theorem Rel.lst_len {ex : Bool} {es : List (List AV)} (h : Rel H ι (.lst ex es) v) : ∃ a cap, v = .slice a es.length cap := by
  cases h with
  | lst0 _ _ a cap h1 h2 h3 h4 => exact ⟨a, cap, rfl⟩
  | lst _ _ _ b off cap sz c vals h0 h1 h2 h3 h4 h5 h6 h7 h8 => exact ⟨_, _, rfl⟩
theorem Rel.loc_inv {cs : List AV} (h : Rel H ι (.loc cs) v) : ∃ b off c, ∃ vals : Nat → Value, v = .pointer (some ⟨b, off, none⟩) ∧ H b = some c ∧
    (∀ (j : Nat) (x : AV), cs[j]? = some x → c[off + j]? = some (vals j)) ∧ (∀ (j : Nat) (x : AV), cs[j]? = some x → Rel H noLay x (vals j)) ∧ (∀ (j : Nat) (x : AV), cs[j]? = some x → x.cell1 = true) := by
  cases h; exact ⟨_, _, _, _, rfl, by assumption, by assumption, by assumption, by assumption⟩
theorem Rel.ref_len {b n off len : Nat} (h : Rel H ι (.ref b n off len) v) : ∃ a cap, v = .slice a len cap := by
  cases h <;> exact ⟨_, _, rfl⟩
theorem Rel.ref_live {b n off len : Nat} {r : Ent} (h : Rel H ι (.ref b n off len) v) (hr : ι b = some r) (hn : r.n = n) (hc : r.csz ≠ 0) :
    off + len ≤ n ∧ ∃ cap, v = .slice (some ⟨r.rb, off * r.sz, none⟩) len cap ∧ len ≤ cap ∧ (off + cap) * r.sz = r.csz ∧ cap ≤ maxLen := by
  cases h with
  | ref0 _ _ r' a hr' hn' hc' => rw [hr] at hr'; cases hr'; exact absurd hc' hc
  | refL _ _ _ _ _ cap r' hr' hn' hlen hlc hcap hmax => rw [hr] at hr'; cases hr'; exact ⟨hlen, cap, rfl, hlc, hcap, hmax⟩
  | refS _ _ _ _ _ r' a cap hr' hn' => rw [hr] at hr'; cases hr'; omega
theorem Rel.ptr_live {b n i o : Nat} {r : Ent} (h : Rel H ι (.ptr b n i o) v) (hr : ι b = some r) (hn : r.n = n) : v = .pointer (some ⟨r.rb, i * r.sz + o, none⟩) := by
  cases h with
  | ptrL _ _ _ _ _ r' hr' hn' => rw [hr] at hr'; cases hr'; rfl
  | ptrS _ _ _ _ _ r' a hr' hn' => rw [hr] at hr'; cases hr'; omega
theorem Rel.ptr_some {b n i o : Nat} (h : Rel H ι (.ptr b n i o) v) : ∃ a, v = .pointer (some a) := by
  cases h <;> exact ⟨_, rfl⟩
end

theorem Rel.ref_dry {H : Know} {ι : Lay} {v : Value} {b n off len : Nat} {r : Ent} (h : Rel H ι (.ref b n off len) v) (hr : ι b = some r) (hn : r.n = n) (hc : r.csz = 0) (hs : 0 < r.sz) :
    len = 0 ∧ ∃ a, v = .slice a 0 0 ∧ True := by
  cases h with
  | ref0 _ _ r' a hr' hn' hc' hsp => exact ⟨rfl, a, rfl, hsp⟩
  | refL _ _ _ _ _ cap r' hr' hn' hlen hlc hcap hmax =>
    rw [hr] at hr'; cases hr'
    rw [hc] at hcap
    have : off + cap = 0 := by
      rcases Nat.mul_eq_zero.1 hcap with h | h
      · exact h
      · omega
    have h1 : cap = 0 := by omega
    have h2 : len = 0 := by omega
    subst h1; subst h2
    exact ⟨rfl, _, rfl, trivial⟩
  | refS _ _ _ _ _ r' a cap hr' hn' => rw [hr] at hr'; cases hr'; omega

end Go.Proofs.Ytidfabbnobipkaa.Sv
