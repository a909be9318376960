/-
  FOLDING, IN PLAIN LEAN; maps of words: own work, over no program.
-/
import Derived.Test.YtidfabbnobipkaaSp2
namespace Go.Proofs.Ytidfabbnobipkaa.Sv
open Go
set_option linter.unusedVariables false

abbrev WMap := List (Int × Int)
def nm (K : WMap) : NMap := K.map fun p => (p.1, AV.int .u32 p.2)
def pget (z : Int) : WMap → Option Int
  | [] => none
  | (k, v) :: r => bif z == k then some v else pget z r
def pset (z v : Int) : WMap → WMap
  | [] => [(z, v)]
  | (k, u) :: r => bif z == k then (k, v) :: r else (k, u) :: pset z v r
def pdel (z : Int) : WMap → WMap
  | [] => []
  | (k, u) :: r => bif z == k then r else (k, u) :: pdel z r
theorem kget_nm (z : Int) : ∀ K : WMap, kget z (nm K) = (pget z K).map (AV.int .u32)
  | [] => rfl
  | (k, v) :: r => by
    have ih := kget_nm z r
    unfold kget at ih ⊢
    simp only [nm, List.map_cons, klook, pget]
    cases z == k with
    | true => rfl
    | false =>
      simp only [cond_false, Option.map_map]
      rw [← ih]; rfl
theorem kset_nm (z v : Int) : ∀ K : WMap, kset z (.int .u32 v) (nm K) = nm (pset z v K)
  | [] => rfl
  | (k, u) :: r => by
    have ih := kset_nm z v r
    simp only [nm, List.map_cons, kset, pset] at ih ⊢
    cases z == k with
    | true => rfl
    | false => simp only [cond_false, List.map_cons]; rw [ih]
theorem kdel_nm (z : Int) : ∀ K : WMap, kdel z (nm K) = nm (pdel z K)
  | [] => rfl
  | (k, u) :: r => by
    have ih := kdel_nm z r
    simp only [nm, List.map_cons, kdel, pdel] at ih ⊢
    cases z == k with
    | true => rfl
    | false => simp only [cond_false, List.map_cons]; rw [ih]
def allW (K : WMap) : Prop := ∀ p ∈ K, isW p.2
theorem isW_zero : isW 0 := by constructor <;> omega
theorem pget_w {K : WMap} (h : allW K) (z : Int) : isW ((pget z K).getD 0) := by
  induction K with
  | nil => exact isW_zero
  | cons p r ih =>
    unfold pget
    cases z == p.1 with
    | true => exact h p (by simp)
    | false => exact ih fun q hq => h q (by simp [hq])
theorem pset_w {K : WMap} (h : allW K) (z : Int) {v : Int} (hv : isW v) : allW (pset z v K) := by
  induction K with
  | nil => intro p hp; simp [pset] at hp; subst hp; exact hv
  | cons p r ih =>
    unfold pset
    cases z == p.1 with
    | true =>
      intro q hq
      simp only [cond_true, List.mem_cons] at hq
      rcases hq with rfl | hq
      · exact hv
      · exact h q (by simp [hq])
    | false =>
      intro q hq
      simp only [cond_false, List.mem_cons] at hq
      rcases hq with rfl | hq
      · exact h _ (by simp)
      · exact ih (fun q hq => h q (by simp [hq])) q hq
theorem pdel_w {K : WMap} (h : allW K) (z : Int) : allW (pdel z K) := by
  induction K with
  | nil => exact h
  | cons p r ih =>
    unfold pdel
    cases z == p.1 with
    | true => exact fun q hq => h q (by simp only [cond_true] at hq; simp [hq])
    | false =>
      intro q hq
      simp only [cond_false, List.mem_cons] at hq
      rcases hq with rfl | hq
      · exact h _ (by simp)
      · exact ih (fun q hq => h q (by simp [hq])) q hq

section
variable {P : Program} {T : Nat → Option TyI} {o : Oper} {e : AEnv} {h : AHeap}
theorem q_lookupW (hT : TOk P T) {t kt et : TypeId} {x y : Operand} {b : Nat} {z : Int} {K : WMap} {i j : TyI} (ho : o.op = .lookup t x y true) (hx : look e x = some (.map b)) (hy : look e y = some (.int .i64 z)) (hb : h b = some (.map (kvs .i64 (nm K))))
    (hi : T t = some i) (hk : i.k = .map kt et) (hj : T kt = some j) (hjk : j.k = .int .i64) (hz : (P.info? et).bind (·.zero) = some (.int .u32 0)) : QLoc P o e h [b] (.tup [.int .u32 ((pget z K).getD 0), .bool (pget z K).isSome]) := by
  have := q_lookupOk hT ho hx hy hb hi hk hj hjk hz (z0 := .int .u32 0) rfl
  rw [kget_nm] at this
  cases e : pget z K <;> rw [e] at this <;> exact this
theorem o_mapUpdateW (hT : TOk P T) {t kt et : TypeId} {x y u : Operand} {b : Nat} {z v : Int} {K : WMap} {i j : TyI} (ho : o.op = .mapUpdate t x y u) (hd : o.dst = none) (hx : look e x = some (.map b)) (hy : look e y = some (.int .i64 z)) (hu : look e u = some (.int .u32 v))
    (hb : h b = some (.map (kvs .i64 (nm K)))) (hi : T t = some i) (hk : i.k = .map kt et) (hj : T kt = some j) (hjk : j.k = .int .i64) : OLoc P o e h [b] [(b, .map (kvs .i64 (nm (pset z v K))))] none := by
  have := o_mapUpdate hT ho hd hx hy hu rfl hb hi hk hj hjk
  rwa [kset_nm] at this
theorem o_deleteW (hT : TOk P T) {t kt et tk : TypeId} {x y : Operand} {b : Nat} {z : Int} {K : WMap} {i j : TyI} (ho : o.op = .call { callee := .builtin .delete, args := #[x, y], argTypes := #[t, tk] }) (hd : o.dst = none) (hx : look e x = some (.map b)) (hy : look e y = some (.int .i64 z))
    (hb : h b = some (.map (kvs .i64 (nm K)))) (hi : T t = some i) (hk : i.k = .map kt et) (hj : T kt = some j) (hjk : j.k = .int .i64) : OLoc P o e h [b] [(b, .map (kvs .i64 (nm (pdel z K))))] none := by
  have := o_delete hT ho hd hx hy hb hi hk hj hjk
  rwa [kdel_nm] at this
end

/-! ### rows that are filled from the beginning on -/
theorem fill_get {α : Type} {F : List α} {f : α → List AV} {z : List AV} {k n : Nat} (hF : F.length = n) (hk : k < n) : ((F.take k).map f ++ List.replicate (n - k) z)[0 + ((k : Nat) : Int).toNat]? = some z := by
  rw [Int.toNat_natCast, Nat.zero_add, List.getElem?_append_right (by simp; omega)]
  rw [List.getElem?_replicate, if_pos (by simp; omega)]
theorem fill_put {α : Type} {F : List α} {f : α → List AV} {z : List AV} {k n : Nat} {x : α} (hF : F.length = n) (hx : F[k]? = some x) : ((F.take k).map f ++ List.replicate (n - k) z).set (0 + ((k : Nat) : Int).toNat) (f x) = (F.take (k + 1)).map f ++ List.replicate (n - (k + 1)) z := by
  have hk : k < n := by rw [← hF]; exact (List.getElem?_eq_some_iff.1 hx).1
  have hl : ((F.take k).map f).length = k := by simp; omega
  rw [Int.toNat_natCast, Nat.zero_add, List.set_append, if_neg (by omega), hl, Nat.sub_self, take_succ_eq hx, List.map_append, List.append_assoc]
  congr 1
  obtain ⟨m, hm⟩ : ∃ m, n - k = m + 1 := ⟨n - k - 1, by omega⟩
  have hm2 : n - (k + 1) = m := by omega
  rw [hm, hm2]
  rfl
theorem fill_len {α : Type} {F : List α} {f : α → List AV} {z : List AV} {k n : Nat} (hF : F.length = n) (hk : k ≤ n) : n = ((F.take k).map f ++ List.replicate (n - k) z).length := by
  simp; omega
theorem fill_end {α : Type} {F : List α} {f : α → List AV} {z : List AV} {k n : Nat} (hF : F.length = n) (hk : n ≤ k) : ((((F.take k).map f ++ List.replicate (n - k) z).drop 0).take n) = F.map f := by
  rw [Nat.sub_eq_zero_of_le hk, List.drop_zero, List.replicate_zero, List.append_nil, List.take_of_length_le (by simp; omega), List.take_of_length_le (by omega)]

/-! ### folding -/
def fvalue (t : Tac) (K : WMap) : Int × Bool :=
  bif t.op == 2 then ((pget t.a K).getD 0, (pget t.a K).isSome)
  else bif t.op == 3 then bif (pget t.a K).isSome && (pget t.b K).isSome then ((wapp t.k ((pget t.a K).getD 0) ((pget t.b K).getD 0)).1, (wapp t.k ((pget t.a K).getD 0) ((pget t.b K).getD 0)).2 == 0) else (0, false)
  else (0, false)
def konst (d n : Int) : Tac := ⟨1, d, 0, 0, 0, 0, 0, n⟩
def fstep (K : WMap) (t : Tac) : Tac := bif (fvalue t K).2 then konst t.d (fvalue t K).1 else t
def fnext (K : WMap) (t : Tac) : WMap := bif decide (t.sets < 0) then K else bif t.op == 1 then pset t.sets t.n K else pdel t.sets K
def foldIns (K : WMap) : List Tac → List Tac
  | [] => []
  | t :: r => fstep K t :: foldIns (fnext K (fstep K t)) r
def fknow (l : List Tac) (k : Nat) : WMap := (l.take k).foldl (fun K t => fnext K (fstep K t)) []
theorem foldIns_length : ∀ (l : List Tac) (K : WMap), (foldIns K l).length = l.length
  | [], _ => rfl
  | t :: r, K => by simp only [foldIns, List.length_cons, foldIns_length r]
theorem foldIns_get : ∀ (l : List Tac) (K : WMap) {k : Nat} {x : Tac}, l[k]? = some x → (foldIns K l)[k]? = some (fstep ((l.take k).foldl (fun K t => fnext K (fstep K t)) K) x)
  | [], _, _, _, h => by simp at h
  | t :: r, K, 0, x, h => by simp at h; subst h; rfl
  | t :: r, K, k + 1, x, h => by
    simp only [List.getElem?_cons_succ] at h
    simp only [foldIns, List.getElem?_cons_succ, List.take_succ_cons, List.foldl_cons]
    exact foldIns_get r _ h
theorem fknow_succ {l : List Tac} {k : Nat} {x : Tac} (h : l[k]? = some x) : fknow l (k + 1) = fnext (fknow l k) (fstep (fknow l k) x) := by
  unfold fknow
  rw [take_succ_eq h, List.foldl_append]; rfl
def insW (l : List Tac) : Prop := ∀ t ∈ l, isW t.n
theorem fvalue_w {t : Tac} {K : WMap} (h : allW K) : isW (fvalue t K).1 := by
  unfold fvalue
  cases t.op == 2 with
  | true => exact pget_w h _
  | false =>
    cases t.op == 3 with
    | false => exact isW_zero
    | true =>
      simp only [cond_true, cond_false]
      cases (pget t.a K).isSome && (pget t.b K).isSome with
      | false => exact isW_zero
      | true => exact wapp_word (pget_w h _) (pget_w h _)
theorem fstep_w {t : Tac} {K : WMap} (h : allW K) (ht : isW t.n) : isW (fstep K t).n := by
  unfold fstep
  cases (fvalue t K).2 with
  | true => exact fvalue_w h
  | false => exact ht
theorem fnext_w {t : Tac} {K : WMap} (h : allW K) (ht : isW t.n) : allW (fnext K t) := by
  unfold fnext
  cases decide (t.sets < 0) with
  | true => exact h
  | false =>
    cases t.op == 1 with
    | true => exact pset_w h _ ht
    | false => exact pdel_w h _
theorem fknow_w {l : List Tac} (hl : insW l) : ∀ k, allW (fknow l k) := by
  intro k
  unfold fknow
  have : ∀ (m : List Tac) (K : WMap), (∀ t ∈ m, isW t.n) → allW K → allW (m.foldl (fun K t => fnext K (fstep K t)) K) := by
    intro m
    induction m with
    | nil => exact fun K _ h => h
    | cons t r ih => exact fun K hm hK => ih _ (fun u hu => hm u (by simp [hu])) (fnext_w hK (fstep_w hK (hm t (by simp))))
  exact this _ _ (fun t ht => hl t (List.mem_of_mem_take ht)) (fun p hp => by cases hp)

def Block.fold (b : Block) : Block := { b with ins := foldIns [] b.ins }
def BFunc.fold (f : BFunc) : BFunc := { f with blocks := f.blocks.map Block.fold }
def BFunc.mild (f : BFunc) : Prop := 0 ≤ f.regs ∧ f.regs ≤ 100000 ∧ f.blocks.length ≤ 100000 ∧ ∀ x ∈ f.blocks, x.ins.length ≤ 100000 ∧ insW x.ins
def boolCells (b : Bool) : List AV := [.bool b]
def rowCell (r : List Bool) : List AV := [boolsAV r]
def BFunc.all (f : BFunc) : Cert := ⟨List.replicate f.blocks.length (List.replicate f.regs.toNat true)⟩

end Go.Proofs.Ytidfabbnobipkaa.Sv
