/-
  AN EVALUATOR FOR INPUTS THAT ARE KNOWN (3): maps whose keys are numbers, equality, ranges over nil maps. Own work, over no program.
-/
import Derived.Test.YtbbfelelocccmaaGreatPOptimizeChecks3
import Derived.Test.YtbbfelelocccmaaGreatPOptimizeChecks2
import Derived.RangeFuncFrom
import Derived.TacticsIn
import Derived.RangeFuncLeaves
import Derived.RangeFuncKeeps
import Derived.Shelf.Abstract
import Derived.WalkKit
import Derived.OwnWalkIn
import Derived.TacticsInMore
import Derived.LoopNIn
import Derived.LoopIn
set_option linter.unusedVariables false
set_option linter.unusedSimpArgs false
set_option maxRecDepth 100000
set_option maxHeartbeats 2000000
namespace Go.Proofs.YtbbfelelocccmaaGreat.Sv
open Go
def unkv (K : IntKind) : List (AV × AV) → Option NMap
  | [] => some []
  | (.int K' z, v) :: r => match decide (K' = K), unkv K r with
    | true, some m => some ((z, v) :: m)
    | _, _ => none
  | _ :: _ => none
theorem unkv_spec {K : IntKind} : ∀ {l : List (AV × AV)} {m : NMap}, unkv K l = some m → l = kvs K m
  | [], m, h => by simp [unkv] at h; subst h; rfl
  | (k, v) :: r, m, h => by
    cases k with
    | int K' z =>
      unfold unkv at h
      split at h
      · rename_i m' h1 h2
        simp only [Option.some.injEq] at h
        subst h
        have := of_decide_eq_true h1
        subst this
        rw [unkv_spec h2]; rfl
      · cases h
    | _ => simp [unkv] at h
def intOf : TK → Option IntKind
  | .int K => some K
  | _ => none
theorem intOf_spec {k : TK} {K : IntKind} (h : intOf k = some K) : k = .int K := by
  cases k <;> simp [intOf] at h
  subst h; rfl
def mapTy (T : Nat → Option TyI) (t : Nat) : Option (IntKind × Nat) := match T t with
  | some i => match i.k with
    | .map kt et => match T kt with
      | some j => match intOf j.k with
        | some K => some (K, et)
        | none => none
      | none => none
    | _ => none
  | none => none
theorem mapTy_spec {T : Nat → Option TyI} {t : Nat} {K : IntKind} {et : Nat} (h : mapTy T t = some (K, et)) : ∃ i j kt, T t = some i ∧ i.k = .map kt et ∧ T kt = some j ∧ j.k = .int K := by
  unfold mapTy at h
  split at h
  · rename_i i hi
    split at h
    · rename_i kt et' hk
      split at h
      · rename_i j hj
        split at h
        · rename_i K' hK
          simp only [Option.some.injEq, Prod.mk.injEq] at h
          obtain ⟨rfl, rfl⟩ := h
          exact ⟨i, j, kt, hi, hk, hj, intOf_spec hK⟩
        · cases h
      · cases h
    · cases h
  · cases h
def isMapTy (T : Nat → Option TyI) (t : Nat) : Bool := match T t with
  | some i => match i.k with
    | .map _ _ => true
    | _ => false
  | none => false
theorem isMapTy_spec {T : Nat → Option TyI} {t : Nat} (h : isMapTy T t = true) : ∃ i k u, T t = some i ∧ i.k = .map k u := by
  unfold isMapTy at h
  split at h
  · rename_i i hi
    split at h
    · rename_i k u hk; exact ⟨i, k, u, hi, hk⟩
    · cases h
  · cases h
def zeroAt (P : Program) (et : Nat) : Option AV := match (P.info? et).bind (·.zero) with
  | some zv => cellAV zv
  | none => none
theorem zeroAt_spec {P : Program} {et : Nat} {z0 : AV} (h : zeroAt P et = some z0) : ∃ zv, (P.info? et).bind (·.zero) = some zv ∧ cellAV zv = some z0 := by
  unfold zeroAt at h
  split at h
  · rename_i zv hz; exact ⟨zv, hz, h⟩
  · cases h
def qEv3 (P : Program) (T : Nat → Option TyI) (o : Op) (e : AEnv) (h : AHeap) : Option (List Nat × AV) :=
  match o with
  | .next x false => match look e x with
    | some (.ptr b 0 0 0) => match h b with
      | some .iter0 => some ([b], .tup [.bool false])
      | _ => none
    | _ => none
  | .lookup t x y true => match look e x, look e y, mapTy T t with
    | some (.map b), some (.int K z), some (K', et) => match h b, zeroAt P et, decide (K' = K) with
      | some (.map l), some z0, true => match unkv K l with
        | some m => some ([b], .tup [(kget z m).getD z0, .bool (kget z m).isSome])
        | none => none
      | _, _, _ => none
    | _, _, _ => none
  | .binOp .eql t x y _ => match look e x, look e y, T t with
    | some (.bool a), some (.bool b), some i => match i.k with
      | .bool => some ([], .bool (a == b))
      | _ => none
    | some (.agg xs), some (.agg ys), some i => match i.k, eqPlain P t, eqCells xs ys with
      | .struct fs, true, some r => match cellKinds T fs xs, cellKinds T fs ys with
        | true, true => some ([], .bool r)
        | _, _ => none
      | _, _, _ => none
    | _, _, _ => none
  | .binOp .neq t x y _ => match look e x, look e y, T t with
    | some (.bool a), some (.bool b), some i => match i.k with
      | .bool => some ([], .bool (a != b))
      | _ => none
    | some (.agg xs), some (.agg ys), some i => match i.k, eqPlain P t, eqCells xs ys with
      | .struct fs, true, some r => match cellKinds T fs xs, cellKinds T fs ys with
        | true, true => some ([], .bool (!r))
        | _, _ => none
      | _, _, _ => none
    | _, _, _ => none
  | _ => none
section
variable {P : Program} {T : Nat → Option TyI} {o : Oper} {e : AEnv} {h : AHeap} {R : List Nat} {r : AV}
theorem qEv3_spec (hT : TOk P T) (hq : qEv3 P T o.op e h = some (R, r)) : QLoc P o e h R r := by
  unfold qEv3 at hq
  split at hq
  · rename_i x ho
    split at hq
    · rename_i b hx
      split at hq
      · rename_i hb
        simp only [Option.some.injEq, Prod.mk.injEq] at hq
        obtain ⟨rfl, rfl⟩ := hq
        exact q_next0 ho hx hb
      · cases hq
    · cases hq
  · rename_i t x y ho
    split at hq
    · rename_i b K z K' et hx hy ht
      split at hq
      · rename_i l z0 hb hz hK
        split at hq
        · rename_i m hm
          simp only [Option.some.injEq, Prod.mk.injEq] at hq
          obtain ⟨rfl, rfl⟩ := hq
          have hK := of_decide_eq_true hK
          subst hK
          obtain ⟨i, j, kt, a1, a2, a3, a4⟩ := mapTy_spec ht
          obtain ⟨zv, z1, z2⟩ := zeroAt_spec hz
          exact q_lookupOk hT ho hx hy (by rw [hb, unkv_spec hm]) a1 a2 a3 a4 z1 z2
        · cases hq
      · cases hq
    · cases hq
  · rename_i t x y t' ho
    split at hq
    · rename_i a b i hx hy hi
      split at hq
      · rename_i hk
        simp only [Option.some.injEq, Prod.mk.injEq] at hq
        obtain ⟨rfl, rfl⟩ := hq
        exact q_boolEq hT false ho hx hy hi hk
      · cases hq
    · rename_i xs ys i hx hy hi
      split at hq
      · rename_i fs r' hk hp hr
        split at hq
        · rename_i h1 h2
          simp only [Option.some.injEq, Prod.mk.injEq] at hq
          obtain ⟨rfl, rfl⟩ := hq
          exact q_eqStruct hT false ho hx hy hp hi hk h1 h2 hr
        · cases hq
      · cases hq
    · cases hq
  · rename_i t x y t' ho
    split at hq
    · rename_i a b i hx hy hi
      split at hq
      · rename_i hk
        simp only [Option.some.injEq, Prod.mk.injEq] at hq
        obtain ⟨rfl, rfl⟩ := hq
        exact q_boolEq hT true ho hx hy hi hk
      · cases hq
    · rename_i xs ys i hx hy hi
      split at hq
      · rename_i fs r' hk hp hr
        split at hq
        · rename_i h1 h2
          simp only [Option.some.injEq, Prod.mk.injEq] at hq
          obtain ⟨rfl, rfl⟩ := hq
          exact q_eqStruct hT true ho hx hy hp hi hk h1 h2 hr
        · cases hq
      · cases hq
    · cases hq
  · cases hq
end
def xEv3 (T : Nat → Option TyI) (dst : Option Nat) (o : Op) (e : AEnv) (h : AHeap) (k : Nat) : Option XRes :=
  match o with
  | .range t x => match look e x, isFree h k, isMapTy T t with
    | some (.val (.map none)), true, true => some ([k], [(k, .iter0)], some (.ptr k 0 0 0), k + 1)
    | _, _, _ => none
  | .makeMap t none => match mapTy T t, isFree h k with
    | some (K, _), true => some ([k], [(k, .map (kvs K []))], some (.map k), k + 1)
    | _, _ => none
  | .mapUpdate t x y u => match dst, look e x, look e y, look e u, mapTy T t with
    | none, some (.map b), some (.int K z), some q, some (K', _) => match h b, q.isPure, decide (K' = K) with
      | some (.map l), true, true => match unkv K l with
        | some m => some ([b], [(b, .map (kvs K (kset z q m)))], none, k)
        | none => none
      | _, _, _ => none
    | _, _, _, _, _ => none
  | .call ⟨.builtin .delete, args, tys⟩ => match dst, args.toList, tys.toList with
    | none, [x, y], [t, _] => match look e x, look e y, mapTy T t with
      | some (.map b), some (.int K z), some (K', _) => match h b, decide (K' = K) with
        | some (.map l), true => match unkv K l with
          | some m => some ([b], [(b, .map (kvs K (kdel z m)))], none, k)
          | none => none
        | _, _ => none
      | _, _, _ => none
    | _, _, _ => none
  | _ => none
section
variable {P : Program} {T : Nat → Option TyI} {o : Oper} {e : AEnv} {h : AHeap}
theorem xEv3_spec (hT : TOk P T) {k k' : Nat} {R : List Nat} {W : List (Nat × AObj)} {r : Option AV} (hv : xEv3 T o.dst o.op e h k = some (R, W, r, k')) : OLoc P o e h R W r := by
  unfold xEv3 at hv
  split at hv
  · rename_i t x ho
    split at hv
    · rename_i hx hf hm
      simp only [Option.some.injEq, Prod.mk.injEq] at hv
      obtain ⟨rfl, rfl, rfl, rfl⟩ := hv
      obtain ⟨i, kk, u, a1, a2⟩ := isMapTy_spec hm
      exact o_range0 hT k ho hx a1 a2 (isFree_spec hf)
    · cases hv
  · rename_i t ho
    split at hv
    · rename_i K et hm hf
      simp only [Option.some.injEq, Prod.mk.injEq] at hv
      obtain ⟨rfl, rfl, rfl, rfl⟩ := hv
      exact o_makeMap K k ho (isFree_spec hf)
    · cases hv
  · rename_i t x y u ho
    split at hv
    · rename_i b K z q K' et hd hx hy hu hm
      split at hv
      · rename_i l hb hp hK
        split at hv
        · rename_i m hl
          simp only [Option.some.injEq, Prod.mk.injEq] at hv
          obtain ⟨rfl, rfl, rfl, rfl⟩ := hv
          have hK := of_decide_eq_true hK
          subst hK
          obtain ⟨i, j, kt, a1, a2, a3, a4⟩ := mapTy_spec hm
          exact o_mapUpdate hT ho hd hx hy hu hp (by rw [hb, unkv_spec hl]) a1 a2 a3 a4
        · cases hv
      · cases hv
    · cases hv
  · rename_i args tys ho
    split at hv
    · rename_i x y t tk hd ha ht
      split at hv
      · rename_i b K z K' et hx hy hm
        split at hv
        · rename_i l hb hK
          split at hv
          · rename_i m hl
            simp only [Option.some.injEq, Prod.mk.injEq] at hv
            obtain ⟨rfl, rfl, rfl, rfl⟩ := hv
            have hK := of_decide_eq_true hK
            subst hK
            obtain ⟨i, j, kt, a1, a2, a3, a4⟩ := mapTy_spec hm
            exact o_delete hT (ho.trans (by rw [arr_two ha, arr_two ht])) hd hx hy (by rw [hb, unkv_spec hl]) a1 a2 a3 a4
          · cases hv
        · cases hv
      · cases hv
    · cases hv
  · cases hv
end
def unarr (K : IntKind) : List AV → Option (List Int)
  | [] => some []
  | .int K' z :: r => match decide (K' = K), unarr K r with
    | true, some l => some (z :: l)
    | _, _ => none
  | _ :: _ => none
theorem unarr_spec {K : IntKind} : ∀ {l : List AV} {z : List Int}, unarr K l = some z → l = arrAV K z
  | [], z, h => by simp [unarr] at h; subst h; rfl
  | x :: r, z, h => by
    cases x with
    | int K' n =>
      unfold unarr at h
      split at h
      · rename_i l h1 h2
        simp only [Option.some.injEq] at h
        subst h
        have := of_decide_eq_true h1
        subst this
        rw [unarr_spec h2]; rfl
      · cases h
    | _ => simp [unarr] at h
def unkvA (K : IntKind) (n : Nat) : List (AV × AV) → Option AMap
  | [] => some []
  | (.agg ks, v) :: r => match unarr K ks, unkvA K n r with
    | some z, some m => match Nat.beq z.length n with
      | true => some ((z, v) :: m)
      | false => none
    | _, _ => none
  | _ :: _ => none
theorem unkvA_spec {K : IntKind} {n : Nat} : ∀ {l : List (AV × AV)} {m : AMap}, unkvA K n l = some m → l = kvsA K m ∧ ∀ p ∈ m, p.1.length = n
  | [], m, h => by simp [unkvA] at h; subst h; exact ⟨rfl, fun p hp => by cases hp⟩
  | (k, v) :: r, m, h => by
    cases k with
    | agg ks =>
      unfold unkvA at h
      split at h
      · rename_i z m' h1 h2
        split at h
        · rename_i h3
          simp only [Option.some.injEq] at h
          subst h
          obtain ⟨a1, a2⟩ := unkvA_spec h2
          refine ⟨by rw [a1, unarr_spec h1]; rfl, fun p hp => ?_⟩
          rcases List.mem_cons.1 hp with rfl | hp
          · exact Nat.eq_of_beq_eq_true h3
          · exact a2 p hp
        · cases h
      · cases h
    | _ => simp [unkvA] at h
def arrTy (P : Program) (T : Nat → Option TyI) (t : Nat) : Option (Nat × IntKind) := match T t with
  | some i => match i.k with
    | .array n e0 => match T e0, Nat.beq (P.cellsOf e0) 1 with
      | some j, true => match intOf j.k with
        | some K => some (n, K)
        | none => none
      | _, _ => none
    | _ => none
  | none => none
theorem arrTy_spec {P : Program} {T : Nat → Option TyI} {t n : Nat} {K : IntKind} (h : arrTy P T t = some (n, K)) : ∃ i e0 j, T t = some i ∧ i.k = .array n e0 ∧ T e0 = some j ∧ j.k = .int K ∧ P.cellsOf e0 = 1 := by
  unfold arrTy at h
  split at h
  · rename_i i hi
    split at h
    · rename_i n' e0 hk
      split at h
      · rename_i j hj hc
        split at h
        · rename_i K' hK
          simp only [Option.some.injEq, Prod.mk.injEq] at h
          obtain ⟨rfl, rfl⟩ := h
          exact ⟨i, e0, j, hi, hk, hj, intOf_spec hK, Nat.eq_of_beq_eq_true hc⟩
        · cases h
      · cases h
    · cases h
  · cases h
def mapTyA (P : Program) (T : Nat → Option TyI) (t : Nat) : Option (Nat × IntKind × Nat) := match T t with
  | some i => match i.k with
    | .map kt et => match arrTy P T kt with
      | some (n, K) => some (n, K, et)
      | none => none
    | _ => none
  | none => none
theorem mapTyA_spec {P : Program} {T : Nat → Option TyI} {t n et : Nat} {K : IntKind} (h : mapTyA P T t = some (n, K, et)) : ∃ i kt, T t = some i ∧ i.k = .map kt et ∧ arrTy P T kt = some (n, K) := by
  unfold mapTyA at h
  split at h
  · rename_i i hi
    split at h
    · rename_i kt et' hk
      split at h
      · rename_i n' K' ha
        simp only [Option.some.injEq, Prod.mk.injEq] at h
        obtain ⟨rfl, rfl, rfl⟩ := h
        exact ⟨i, kt, hi, hk, ha⟩
      · cases h
    · cases h
  · cases h
section
variable {P : Program} {T : Nat → Option TyI} {o : Oper} {e : AEnv} {h : AHeap}
theorem q_sliceEnd (hT : TOk P T) {t : TypeId} {x y : Operand} {b n off len : Nat} {i j : TyI} {u : Nat} {k : IntKind} (ho : o.op = .slice t x (some y) none none) (hx : look e x = some (.ref b n off len)) (hy : look e y = some (.int k (len : Int))) (ht : T t = some i) (hk : i.k = .slice u) (hj : T u = some j)
    {p : Bool} {sz : Nat} {es : List (List AV)} (hb : h b = some (.row p sz es)) (hn : n = es.length) (h0 : 0 < es.length) : QLoc P o e h [b] (.lst false []) := by
  intro H ι a w s hs g1 g2
  have hx' : look s.env x = some (.ref b n off len) := by rw [g1 x (by rw [ho]; simp [Op.operands]), hx]
  have hy' : look s.env y = some (.int k (len : Int)) := by rw [g1 y (by rw [ho]; simp [Op.operands]), hy]
  have hb' : s.h b = some (.row p sz es) := by rw [g2 b (by simp), hb]
  obtain ⟨info, d, e1, e2, e3, e4, e5, e6⟩ := tyOf_spec (hT _ _ ht)
  obtain ⟨info', d', e1', e2', e3', e4', e5', e6'⟩ := tyOf_spec (hT _ _ hj)
  have hd := tk_slice (P := P) (d := d) (e3 ▸ hk)
  subst hd
  have hvx := look_rel hs hx'
  have hvy := (look_rel hs hy').int_inv
  generalize hva : a.eval x = va at hvx
  obtain ⟨r, r1, ⟨o1, o2, o3, o4, o5, o6⟩, _⟩ := hs.heap.obj b _ hb' rfl
  have hcs : r.csz ≠ 0 := by
    have : 0 < es.length * sz := Nat.mul_pos h0 o2
    omega
  obtain ⟨hle, cap, rfl, c1, c2, c3⟩ := Rel.ref_live hvx r1 (by rw [hn, o3]) hcs
  refine ⟨.slice (if cap - len = 0 then (some ⟨r.rb, off * r.sz, none⟩) else (some ⟨r.rb, off * r.sz, none⟩ : Option Addr).map (·.add (len * j.size))) (len - len) (cap - len), ?_, ?_⟩
  · rw [Nat.sub_self]
    exact .lst0 _ _ _ _ (fun h => by cases h) (by omega) (fun hh => by split at hh <;> cases hh) trivial
  · simp only [execOp, ho, hva, hvy, Instr.sliceAt, Instr.slice, Option.map_none, Option.map_some, Sem.run_bind, run_underlying' e2, Result.andThen_ok, run_isz e1', e4', Sem.run_pure]
    have hce : (cap = len) = (cap - len = 0) := propext (by omega)
    simp [Instr.sliceBounds, Instr.sliceBound, asIntOf, c1, hce]
theorem q_bytesRow (hT : TOk P T) {t u : TypeId} {x : Operand} {l : List UInt8} {i j k : TyI} {v : Nat} {b n : Nat} {p : Bool} (ho : o.op = .convert t u x) (hx : look e x = some (.ref b n 0 n)) (hb : h b = some (.row p 1 (byteCells l))) (hn : n = l.length) (h0 : 0 < l.length)
    (hi : T t = some i) (hik : i.k = .slice v) (hv : T v = some k) (hk : k.k = .int .u8) (hj : T u = some j) (hjk : j.k = .string) : QLoc P o e h [b] (.str ⟨l.toArray⟩) := by
  intro H ι a w s hs g1 g2
  have hx' : look s.env x = some (.ref b n 0 n) := by rw [g1 x (by rw [ho]; simp [Op.operands]), hx]
  have hb' : s.h b = some (.row p 1 (byteCells l)) := by rw [g2 b (by simp), hb]
  obtain ⟨info, d, e1, e2, e3, e4, e5, e6⟩ := tyOf_spec (hT _ _ hi)
  obtain ⟨info', d', e1', e2', e3', e4', e5', e6'⟩ := tyOf_spec (hT _ _ hj)
  obtain ⟨info'', d'', e1'', e2'', e3'', e4'', e5'', e6''⟩ := tyOf_spec (hT _ _ hv)
  have hd := tk_slice (P := P) (d := d) (e3 ▸ hik)
  subst hd
  have hd := tk_string (P := P) (d := d') (e3' ▸ hjk)
  subst hd
  have hd := tk_int (P := P) (d := d'') (e3'' ▸ hk)
  subst hd
  have hvx := look_rel hs hx'
  generalize hva : a.eval x = va at hvx
  obtain ⟨r, r1, ⟨o1, o2, o3, o4, o5, o6⟩, _⟩ := hs.heap.obj b _ hb' rfl
  have hlen : (byteCells l).length = l.length := by simp [byteCells]
  have hcs : r.csz ≠ 0 := by omega
  obtain ⟨hle, cap, rfl, c1, c2, c3⟩ := Rel.ref_live hvx r1 (by omega) hcs
  obtain ⟨c, TT, d1, d2, d3, d4⟩ := o6 hcs
  refine ⟨_, .str _ _, ?_⟩
  simp only [execOp, ho, hva, Sem.run_bind]
  have key : (Go.convert t u (.slice (some ⟨r.rb, 0 * r.sz, none⟩) n cap)).run P w = .ok (.string ⟨l.toArray⟩) w := by
    rw [run_convert_bytes_string w t u v (some ⟨r.rb, 0 * r.sz, none⟩) n cap e2 e2'' e2']
    rw [run_bytesToString w _ _ cap (l.map (fun b : UInt8 => ((b.toNat : Nat) : Int))) ?_, push_all]
    have hld := run_loadCells_list (P := P) (w := w) ⟨r.rb, 0 * r.sz, none⟩ (l.map (fun b : UInt8 => Value.int .u8 b.toNat)) (fun j y hj => by
      rw [List.getElem?_map] at hj
      cases hlj : l[j]? with
      | none => rw [hlj] at hj; cases hj
      | some m =>
        rw [hlj] at hj
        cases hj
        have hbc : (byteCells l)[j]? = some [AV.int .u8 m.toNat] := by simp [byteCells, hlj]
        obtain ⟨v', q1, q2, q3⟩ := d4 j _ 0 _ hbc rfl
        rw [add_mk, d1.cell, Nat.zero_mul, Nat.zero_add]
        rw [q2.int_inv, Nat.mul_one, Nat.add_zero] at q1
        exact q1)
    rw [hn]
    simpa [List.map_map, Function.comp_def] using hld
  simp only [key, Result.andThen_ok, Sem.run_pure]
end
def unbytes : List (List AV) → Option (List UInt8)
  | [] => some []
  | [.int .u8 z] :: r => match decide (((UInt8.ofNat z.toNat).toNat : Int) = z), unbytes r with
    | true, some l => some (UInt8.ofNat z.toNat :: l)
    | _, _ => none
  | _ :: _ => none
theorem unbytes_spec : ∀ {es : List (List AV)} {l : List UInt8}, unbytes es = some l → es = byteCells l
  | [], l, h => by simp [unbytes] at h; subst h; rfl
  | cs :: r, l, h => by
    unfold unbytes at h
    split at h
    · rename_i he; cases he
    · rename_i z r' he
      cases he
      split at h
      · rename_i l' h1 h2
        simp only [Option.some.injEq] at h
        subst h
        have h1 := of_decide_eq_true h1
        have := unbytes_spec h2
        rw [this]
        simp only [byteCells, List.map_cons, h1]
      · cases h
    · cases h
def qEv4 (P : Program) (T : Nat → Option TyI) (o : Op) (e : AEnv) (h : AHeap) : Option (List Nat × AV) :=
  match o with
  | .lookup t x y true => match look e x, look e y, mapTyA P T t with
    | some (.map b), some (.agg ks), some (n, K, et) => match h b, zeroAt P et, unarr K ks with
      | some (.map l), some z0, some z => match unkvA K n l, Nat.beq z.length n with
        | some m, true => some ([b], .tup [(aget z m).getD z0, .bool (aget z m).isSome])
        | _, _ => none
      | _, _, _ => none
    | _, _, _ => none
  | .build t parts => match lookParts e parts.toList, T t with
    | some ps, some i => match i.k with
      | .array len u => match T u with
        | some j => match zeroOk i, partsFit T (arrFs len j.size u) ps, partCells (arrFs len j.size u) ps i.zero with
          | true, true, some r => some ([], .agg r)
          | _, _, _ => none
        | none => none
      | _ => none
    | _, _ => none
  | .binOp .eql t x y _ => match look e x, look e y, arrTy P T t with
    | some (.agg xs), some (.agg ys), some (n, K) => match unarr K xs, unarr K ys, P.eqGuardType P.depth t with
      | some l1, some l2, false => match Nat.beq l1.length n, Nat.beq l2.length n with
        | true, true => some ([], .bool (decide (l1 = l2)))
        | _, _ => none
      | _, _, _ => none
    | _, _, _ => none
  | .binOp .neq t x y _ => match look e x, look e y, arrTy P T t with
    | some (.agg xs), some (.agg ys), some (n, K) => match unarr K xs, unarr K ys, P.eqGuardType P.depth t with
      | some l1, some l2, false => match Nat.beq l1.length n, Nat.beq l2.length n with
        | true, true => some ([], .bool (!decide (l1 = l2)))
        | _, _ => none
      | _, _, _ => none
    | _, _, _ => none
  | .slice t x (some y) none none => match look e x, look e y, elemTy T t with
    | some (.ref b n off len), some (.int k z), some j => match h b, decide (z = (len : Int)) with
      | some (.row p sz es), true => match Nat.beq n es.length, Nat.blt 0 es.length with
        | true, true => some ([b], .lst false [])
        | _, _ => none
      | _, _ => none
    | some (.lst ex es), some (.int k z), some j => match decide (0 ≤ z), decide (z.toNat ≤ es.length), es.all (fun cs => Nat.beq cs.length j.size) with
      | true, true, true => some ([], .lst (ex && Nat.beq es.length es.length) ((es.take es.length).drop z.toNat))
      | _, _, _ => none
    | _, _, _ => none
  | .slice t x none (some y) (some y') => match look e x, look e y, look e y', elemTy T t with
    | some (.lst ex es), some (.int k z), some (.int k' z'), some j => match decide (z = (es.length : Int)), decide (z' = (es.length : Int)) with
      | true, true => some ([], .lst true es)
      | _, _ => none
    | _, _, _, _ => none
  | .convert t u x => match look e x, elemTy T t, T u with
    | some (.ref b n 0 m), some k, some j => match h b, intOf k.k, j.k with
      | some (.row p 1 es), some .u8, .string => match unbytes es with
        | some l => match Nat.beq n m, Nat.beq n l.length, Nat.blt 0 l.length with
          | true, true, true => some ([b], .str ⟨l.toArray⟩)
          | _, _, _ => none
        | none => none
      | _, _, _ => none
    | _, _, _ => none
  | _ => none
section
variable {P : Program} {T : Nat → Option TyI} {o : Oper} {e : AEnv} {h : AHeap} {R : List Nat} {r : AV}
theorem qEv4_spec (hT : TOk P T) (hq : qEv4 P T o.op e h = some (R, r)) : QLoc P o e h R r := by
  unfold qEv4 at hq
  split at hq
  · rename_i t x y ho
    split at hq
    · rename_i b ks n K et hx hy ht
      split at hq
      · rename_i l z0 z hb hz hks
        split at hq
        · rename_i m hm hzn
          simp only [Option.some.injEq, Prod.mk.injEq] at hq
          obtain ⟨rfl, rfl⟩ := hq
          obtain ⟨i, kt, a1, a2, a3⟩ := mapTyA_spec ht
          obtain ⟨j, e0, j0, b1, b2, b3, b4, b5⟩ := arrTy_spec a3
          obtain ⟨m1, m2⟩ := unkvA_spec hm
          obtain ⟨zv, z1, z2⟩ := zeroAt_spec hz
          exact q_lookupOkA hT ho hx (by rw [hy, unarr_spec hks]) (by rw [hb, m1]) a1 a2 b1 b2 b3 b4 b5 (Nat.eq_of_beq_eq_true hzn) m2 z1 z2
        · cases hq
      · cases hq
    · cases hq
  · rename_i t parts ho
    split at hq
    · rename_i ps i hp hi
      split at hq
      · rename_i len u hk
        split at hq
        · rename_i j hj
          split at hq
          · rename_i r' hz hf hr
            simp only [Option.some.injEq, Prod.mk.injEq] at hq
            obtain ⟨rfl, rfl⟩ := hq
            obtain ⟨z1, z2, z3⟩ := zeroOk_spec hz
            exact q_build_arr hT ho hp hi hk hj z1 z2 hf hr
          · cases hq
        · cases hq
      · cases hq
    · cases hq
  · rename_i t x y t' ho
    split at hq
    · rename_i xs ys n K hx hy ha
      split at hq
      · rename_i l1 l2 h1 h2 hg
        split at hq
        · rename_i h3 h4
          simp only [Option.some.injEq, Prod.mk.injEq] at hq
          obtain ⟨rfl, rfl⟩ := hq
          obtain ⟨j, e0, j0, b1, b2, b3, b4, b5⟩ := arrTy_spec ha
          exact q_eqInts hT false ho (by rw [hx, unarr_spec h1]) (by rw [hy, unarr_spec h2]) hg b1 b2 b3 b4 (Nat.eq_of_beq_eq_true h3) (Nat.eq_of_beq_eq_true h4) b5
        · cases hq
      · cases hq
    · cases hq
  · rename_i t x y t' ho
    split at hq
    · rename_i xs ys n K hx hy ha
      split at hq
      · rename_i l1 l2 h1 h2 hg
        split at hq
        · rename_i h3 h4
          simp only [Option.some.injEq, Prod.mk.injEq] at hq
          obtain ⟨rfl, rfl⟩ := hq
          obtain ⟨j, e0, j0, b1, b2, b3, b4, b5⟩ := arrTy_spec ha
          exact q_eqInts hT true ho (by rw [hx, unarr_spec h1]) (by rw [hy, unarr_spec h2]) hg b1 b2 b3 b4 (Nat.eq_of_beq_eq_true h3) (Nat.eq_of_beq_eq_true h4) b5
        · cases hq
      · cases hq
    · cases hq
  · rename_i t x y ho
    split at hq
    · rename_i b n off len k z j hx hy hj
      split at hq
      · rename_i p sz es hb hz
        split at hq
        · rename_i h1 h2
          simp only [Option.some.injEq, Prod.mk.injEq] at hq
          obtain ⟨rfl, rfl⟩ := hq
          obtain ⟨i, u, a1, a2, a3⟩ := elemTy_spec hj
          exact q_sliceEnd hT ho hx (by rw [hy, of_decide_eq_true hz]) a1 a2 a3 hb (Nat.eq_of_beq_eq_true h1) (by simpa [Nat.blt_eq] using h2)
        · cases hq
      · cases hq
    · rename_i ex es k z j hx hy hj
      split at hq
      · rename_i h0 hz h1
        simp only [Option.some.injEq, Prod.mk.injEq] at hq
        obtain ⟨rfl, rfl⟩ := hq
        obtain ⟨i, u, a1, a2, a3⟩ := elemTy_spec hj
        exact q_slice_lst hT z.toNat es.length ho hx a1 a2 a3 ⟨k, by rw [hy, Int.toNat_of_nonneg (of_decide_eq_true h0)]⟩ rfl (of_decide_eq_true hz) (Nat.le_refl _) (fun cs hc => Nat.eq_of_beq_eq_true (List.all_eq_true.1 h1 cs hc))
      · cases hq
    · cases hq
  · rename_i t x y y' ho
    split at hq
    · rename_i ex es k z k' z' j hx hy hy' hj
      split at hq
      · rename_i h1 h2
        simp only [Option.some.injEq, Prod.mk.injEq] at hq
        obtain ⟨rfl, rfl⟩ := hq
        obtain ⟨i, u, a1, a2, a3⟩ := elemTy_spec hj
        exact q_slice3 hT ho hx (by rw [hy, of_decide_eq_true h1]) (by rw [hy', of_decide_eq_true h2]) a1 a2 a3
      · cases hq
    · cases hq
  · rename_i t u x ho
    split at hq
    · rename_i b n m k j hx hk hj
      split at hq
      · rename_i p es hb hku hjk
        split at hq
        · rename_i l hl
          split at hq
          · rename_i h1 h2 h3
            simp only [Option.some.injEq, Prod.mk.injEq] at hq
            obtain ⟨rfl, rfl⟩ := hq
            obtain ⟨i, v, a1, a2, a3⟩ := elemTy_spec hk
            have h1 := Nat.eq_of_beq_eq_true h1
            subst h1
            exact q_bytesRow hT ho hx (by rw [hb, unbytes_spec hl]) (Nat.eq_of_beq_eq_true h2) (by simpa [Nat.blt_eq] using h3) a1 a2 a3 (intOf_spec hku) hj hjk
          · cases hq
        · cases hq
      · cases hq
    · cases hq
  · cases hq
end
def xEv4 (P : Program) (T : Nat → Option TyI) (dst : Option Nat) (o : Op) (e : AEnv) (h : AHeap) (k : Nat) : Option XRes :=
  match o with
  | .makeMap t none => match isFree h k with
    | true => some ([k], [(k, .map (kvs .i64 []))], some (.map k), k + 1)
    | false => none
  | .mapUpdate t x y u => match dst, look e x, look e y, look e u, mapTyA P T t with
    | none, some (.map b), some (.agg ks), some q, some (n, K, _) => match h b, q.isPure, unarr K ks with
      | some (.map l), true, some z => match unkvA K n l, Nat.beq z.length n with
        | some m, true => some ([b], [(b, .map (kvsA K (aset z q m)))], none, k)
        | _, _ => none
      | _, _, _ => none
    | _, _, _, _, _ => none
  | _ => none
theorem xEv4_spec {P : Program} {T : Nat → Option TyI} {o : Oper} {e : AEnv} {h : AHeap} (hT : TOk P T) {k k' : Nat} {R : List Nat} {W : List (Nat × AObj)} {r : Option AV} (hv : xEv4 P T o.dst o.op e h k = some (R, W, r, k')) : OLoc P o e h R W r := by
  unfold xEv4 at hv
  split at hv
  · rename_i t ho
    split at hv
    · rename_i hf
      simp only [Option.some.injEq, Prod.mk.injEq] at hv
      obtain ⟨rfl, rfl, rfl, rfl⟩ := hv
      exact o_makeMap .i64 k ho (isFree_spec hf)
    · cases hv
  · rename_i t x y u ho
    split at hv
    · rename_i b ks q n K et hd hx hy hu ht
      split at hv
      · rename_i l z hb hp hks
        split at hv
        · rename_i m hm hzn
          simp only [Option.some.injEq, Prod.mk.injEq] at hv
          obtain ⟨rfl, rfl, rfl, rfl⟩ := hv
          obtain ⟨i, kt, a1, a2, a3⟩ := mapTyA_spec ht
          obtain ⟨j, e0, j0, b1, b2, b3, b4, b5⟩ := arrTy_spec a3
          obtain ⟨m1, m2⟩ := unkvA_spec hm
          exact o_mapUpdateA hT ho hd hx (by rw [hy, unarr_spec hks]) hu hp (by rw [hb, m1]) a1 a2 b1 b2 b3 b4 b5 (Nat.eq_of_beq_eq_true hzn) m2
        · cases hv
      · cases hv
    · cases hv
  · cases hv
def qAll (P : Program) (T : Nat → Option TyI) (o : Op) (e : AEnv) (h : AHeap) : Option (List Nat × AV) := match qEv T o e h with
  | some r => some r
  | none => match qEv2 P T o e h with
    | some r => some r
    | none => match qEv3 P T o e h with
      | some r => some r
      | none => qEv4 P T o e h
def xAll (P : Program) (T : Nat → Option TyI) (dst : Option Nat) (o : Op) (e : AEnv) (h : AHeap) (k : Nat) : Option XRes := match xEv T dst o e h k with
  | some r => some r
  | none => match xEv3 T dst o e h k with
    | some r => some r
    | none => xEv4 P T dst o e h k
section
variable {P : Program} {T : Nat → Option TyI} {o : Oper} {e : AEnv} {h : AHeap} {R : List Nat} {r : AV}
theorem qAll_spec (hT : TOk P T) (hq : qAll P T o.op e h = some (R, r)) : QLoc P o e h R r := by
  unfold qAll at hq
  split at hq
  · rename_i r' h1
    rw [Option.some.injEq] at hq
    subst hq
    exact qEv_spec hT h1
  · split at hq
    · rename_i r' h1
      rw [Option.some.injEq] at hq
      subst hq
      exact qEv2_spec hT h1
    · split at hq
      · rename_i r' h1
        rw [Option.some.injEq] at hq
        subst hq
        exact qEv3_spec hT h1
      · exact qEv4_spec hT hq
theorem xAll_spec (hT : TOk P T) {k k' : Nat} {W : List (Nat × AObj)} {r : Option AV} (hv : xAll P T o.dst o.op e h k = some (R, W, r, k')) : OLoc P o e h R W r := by
  unfold xAll at hv
  split at hv
  · rename_i r' h1
    rw [Option.some.injEq] at hv
    subst hv
    exact xEv_spec hT h1
  · split at hv
    · rename_i r' h1
      rw [Option.some.injEq] at hv
      subst hv
      exact xEv3_spec hT h1
    · exact xEv4_spec hT hv
end
def ofVal1 : Value → Option AV
  | .int k n => some (.int k n)
  | .bool b => some (.bool b)
  | .string s => some (.str s)
  | .func f a b => some (.val (.func f a b))
  | _ => none
def ofVals : List Value → Option (List AV)
  | [] => some []
  | v :: vs => match ofVal1 v, ofVals vs with
    | some x, some xs => some (x :: xs)
    | _, _ => none
def ofVal : Value → Option AV
  | .agg cs => match ofVals cs.toList with
    | some xs => some (.agg xs)
    | none => none
  | v => ofVal1 v
theorem ofVal1_rel {v : Value} {x : AV} (h : ofVal1 v = some x) (H : Know) : Rel H noLay x v := by
  cases v <;> simp [ofVal1] at h <;> subst h
  · exact .bool _ _
  · exact .int _ _ _
  · exact .str _ _
  · exact .val _ _ rfl
theorem ofVals_get : ∀ {l : List Value} {xs : List AV}, ofVals l = some xs → xs.length = l.length ∧ ∀ (j : Nat) (x : AV) (v : Value), xs[j]? = some x → l[j]? = some v → ofVal1 v = some x
  | [], xs, h => by simp [ofVals] at h; subst h; exact ⟨rfl, fun j x v h => by simp at h⟩
  | v :: vs, xs, h => by
    unfold ofVals at h
    split at h
    · rename_i x ys h1 h2
      simp at h; subst h
      obtain ⟨a1, a2⟩ := ofVals_get h2
      refine ⟨by simp [a1], fun j y u e1 e2 => ?_⟩
      cases j with
      | zero => simp at e1 e2; subst e1; subst e2; exact h1
      | succ j => exact a2 j y u (by simpa using e1) (by simpa using e2)
    · cases h
theorem ofVal_rel {v : Value} {x : AV} (h : ofVal v = some x) (H : Know) : Rel H noLay x v := by
  unfold ofVal at h
  split at h
  · rename_i cs
    split at h
    · rename_i xs e
      simp at h; subst h
      obtain ⟨a1, a2⟩ := ofVals_get e
      exact .agg _ _ _ (by simpa using a1) (fun j x v e1 e2 => ofVal1_rel (a2 j x v e1 (by simpa using e2)) H)
    · cases h
  · exact ofVal1_rel h H
def calleeEv (mt : Nat → String → Option Nat) (o : Op) (e : AEnv) : Option (Nat × List AV) :=
  match o with
  | .call ⟨.value x, args, _⟩ => match look e x, lookAll e args.toList with
    | some (.fn (.func f) fs cs), some xs => some (f, fs ++ xs ++ cs)
    | some (.val (.func (.func f) a b)), some xs => match a.toList, b.toList with
      | [], [] => some (f, xs)
      | _, _ => none
    | _, _ => none
  | .call ⟨.invoke recv name, args, _⟩ => match look e recv, lookAll e args.toList with
    | some (.val (.iface t v)), some xs => match mt t name, ofVal v with
      | some f, some x0 => some (f, x0 :: xs)
      | _, _ => none
    | _, _ => none
  | _ => none
def mtOk (P : Program) (mt : Nat → String → Option Nat) : Prop := ∀ t name f v w, mt t name = some f → (method (P.types.size + Made.depth) t v name).run P w = .ok (f, v) w
def fnEv (P : Program) (f : Nat) : Option (Func × Code) := match P.funcs[f]? with
  | some fn => match fn.body, fn.name == "runtime.NumGoroutine" with
    | some c, false => some (fn, c)
    | _, _ => none
  | none => none
theorem fnEv_spec {P : Program} {f : Nat} {fn : Func} {c : Code} (h : fnEv P f = some (fn, c)) : P.funcs[f]? = some fn ∧ fn.body = some c ∧ (fn.name == "runtime.NumGoroutine") = false := by
  unfold fnEv at h
  split at h
  · rename_i fn' hf
    split at h
    · rename_i c' hb hn
      simp only [Option.some.injEq, Prod.mk.injEq] at h
      obtain ⟨rfl, rfl⟩ := h
      exact ⟨hf, hb, hn⟩
    · cases h
  · cases h
section
variable {P : Program} {T : Nat → Option TyI} {o : Oper} {e : AEnv} {h : AHeap} {R : AV → AHeap → Prop}
theorem arr_nil {α : Type} {a : Array α} (h : a.toList = []) : a = #[] := Array.ext' h
theorem calleeEv_spec {mt : Nat → String → Option Nat} (hmt : mtOk P mt) {f : Nat} {xs : List AV} {fn : Func} (hc : calleeEv mt o.op e = some (f, xs)) (hf : P.funcs[f]? = some fn) (hnm : (fn.name == "runtime.NumGoroutine") = false) (hb : fn.body.isSome = true) (hcall : ACall P f xs h R) : OCallR P o e h R := by
  unfold calleeEv at hc
  split at hc
  · rename_i x args tys ho
    split at hc
    · rename_i f' fs cs ys hx hl
      simp only [Option.some.injEq, Prod.mk.injEq] at hc
      obtain ⟨rfl, rfl⟩ := hc
      exact o_inF ho hx hf hnm hb hl hcall
    · rename_i f' a b ys hx hl
      split at hc
      · rename_i ha hb'
        simp only [Option.some.injEq, Prod.mk.injEq] at hc
        obtain ⟨rfl, rfl⟩ := hc
        exact o_inV ho (by rw [hx, arr_nil ha, arr_nil hb']) hf hnm hb hl hcall
      · cases hc
    · cases hc
  · rename_i recv name args tys ho
    split at hc
    · rename_i t v ys hx hl
      split at hc
      · rename_i f' x0 hm hv
        simp only [Option.some.injEq, Prod.mk.injEq] at hc
        obtain ⟨rfl, rfl⟩ := hc
        exact o_inM ho hx (fun w => hmt t name f' v w hm) (ofVal_rel hv) hf hnm hb hl hcall
      · cases hc
    · cases hc
  · cases hc
theorem AOps.innW {ops : Array Oper} {rest : List Oper} {n : Nat} {K : AState → Prop} (hd : o.dst = none) (hg : guardIs ops o e = some true)
    (ho : OCallR P o e h (fun r hn => AOps P ops rest ⟨n, e, hn⟩ K)) : AOps P ops (o :: rest) ⟨n, e, h⟩ K := by
  intro H ι a w hs
  unfold wpList
  rw [guard_wanted hs hg]
  simp only [if_true]
  refine .inl (Oper.wp_mono (fun a' w' hx => ?_) (ho H ι a w n _ hs))
  obtain ⟨v, r, hn, H', ι', hr, rfl, h1, h2, h3⟩ := hx
  have hs' := hs.put (v := v) (d := o.dst) (r := none) h2 h3 (fun x ex => by cases ex) (fun t e => by rw [hd] at e; cases e)
  rw [hd] at hs' ⊢
  exact wpList_post (fun e a2 w2 hp => Post.step hs.heap h2 h3 hp) _ _ _ (hr H' ι' _ w' hs')
theorem AOps.kw {ops : Array Oper} {rest : List Oper} {n : Nat} {K : AState → Prop} (hd : o.dst = none) (hg : guardIs ops o e = some false) (hr : AOps P ops rest ⟨n, e, h⟩ K) : AOps P ops (o :: rest) ⟨n, e, h⟩ K := by
  have := AOps.skip (P := P) (ops := ops) (s := ⟨n, e, h⟩) (K := K) (o := o) (rest := rest) hg (fun t e => by rw [hd] at e; cases e)
  rw [hd] at this
  exact this hr
end
def frz1 (b m : Nat) (es : List (List AV)) : AV → AV
  | .ref b' n off len => bif Nat.beq b' b && Nat.beq n m then .lst false ((es.drop off).take len) else .ref b' n off len
  | x => x
def frz2 (b m : Nat) (es : List (List AV)) : AV → AV
  | .agg cs => .agg (cs.map (frz1 b m es))
  | x => frz1 b m es x
def frzV (b m : Nat) (es : List (List AV)) : AV → AV
  | .agg cs => .agg (cs.map (frz1 b m es))
  | .tup cs => .tup (cs.map (frz2 b m es))
  | x => frz1 b m es x
def frzO (b m : Nat) (es : List (List AV)) : AObj → AObj
  | .row false sz rs => .row false sz (rs.map fun cs => cs.map (frz1 b m es))
  | o => o
def frzE (b m : Nat) (es : List (List AV)) (e : AEnv) : AEnv := fun t => match e t with
  | some x => some (frzV b m es x)
  | none => none
def frzH (b m : Nat) (es : List (List AV)) (h : AHeap) : AHeap := fun c => bif Nat.beq c b then none else match h c with
  | some o => some (frzO b m es o)
  | none => none
theorem frz1_cell (b m : Nat) (es : List (List AV)) (x : AV) (h : x.cell1 = true) : (frz1 b m es x).cell1 = true := by
  cases x with
  | ref b' n off len =>
    show (bif Nat.beq b' b && Nat.beq n m then AV.lst false ((es.drop off).take len) else .ref b' n off len).cell1 = true
    cases Nat.beq b' b && Nat.beq n m <;> rfl
  | _ => exact h
section
variable {H H' : Know} {b m : Nat} {es : List (List AV)}
theorem frz1_rel (u3 : KLe H H') {ι : Lay} (u4 : ∀ (v : Value) (off len : Nat), Rel H ι (.ref b m off len) v → Rel H' ι (.lst false ((es.drop off).take len)) v) {x : AV} {v : Value} (h : Rel H ι x v) : Rel H' ι (frz1 b m es x) v := by
  cases x with
  | ref b' n off len =>
    show Rel H' ι (bif Nat.beq b' b && Nat.beq n m then AV.lst false ((es.drop off).take len) else .ref b' n off len) v
    cases e : Nat.beq b' b && Nat.beq n m with
    | false => exact h.mono u3 (LLe.refl _)
    | true =>
      rw [Bool.and_eq_true] at e
      have e1 := Nat.eq_of_beq_eq_true e.1
      have e2 := Nat.eq_of_beq_eq_true e.2
      subst e1; subst e2
      exact u4 v off len h
  | _ => exact h.mono u3 (LLe.refl _)
theorem frz2_rel (u3 : KLe H H') {ι : Lay} (u4 : ∀ (v : Value) (off len : Nat), Rel H ι (.ref b m off len) v → Rel H' ι (.lst false ((es.drop off).take len)) v) {x : AV} {v : Value} (h : Rel H ι x v) : Rel H' ι (frz2 b m es x) v := by
  cases x with
  | agg cs =>
    obtain ⟨us, rfl, hl, hr⟩ := h.agg_inv
    refine .agg _ _ us (by simpa using hl) fun j x v h1 h2 => ?_
    rw [List.getElem?_map] at h1
    cases e : cs[j]? with
    | none => rw [e] at h1; cases h1
    | some y => rw [e] at h1; cases h1; exact frz1_rel u3 u4 (hr j y v e h2)
  | _ => exact frz1_rel u3 u4 h
theorem frzV_rel (u3 : KLe H H') {ι : Lay} (u4 : ∀ (v : Value) (off len : Nat), Rel H ι (.ref b m off len) v → Rel H' ι (.lst false ((es.drop off).take len)) v) {x : AV} {v : Value} (h : Rel H ι x v) : Rel H' ι (frzV b m es x) v := by
  cases x with
  | agg cs => exact frz2_rel (x := .agg cs) u3 u4 h
  | tup cs =>
    obtain ⟨us, rfl, hl, hr⟩ := h.tup_inv
    refine .tup _ _ us (by simpa using hl) fun j x v h1 h2 => ?_
    rw [List.getElem?_map] at h1
    cases e : cs[j]? with
    | none => rw [e] at h1; cases h1
    | some y => rw [e] at h1; cases h1; exact frz2_rel u3 u4 (hr j y v e h2)
  | _ => exact frz1_rel u3 u4 h
end
theorem HeapRel.tight {H : Know} {ι : Lay} {h : AHeap} {w : World} {b sz : Nat} {es : List (List AV)} (hr : HeapRel H ι h w) (hb : h b = some (.row false sz es)) (hp : ∀ cs ∈ es, cs.all AV.isPure1 = true) : HeapRel H ι (hput h b (.row true sz es)) w := by
  have old : ∀ c o, hput h b (.row true sz es) c = some o → o.alive = true → ∃ o', h c = some o' ∧ o'.alive = true := fun c o h1 h2 => by
    by_cases hc : c = b
    · subst hc; exact ⟨_, hb, rfl⟩
    · rw [hput_ne _ _ hc] at h1; exact ⟨o, h1, h2⟩
  refine ⟨hr.know, fun c hc => ?_, fun c o h1 h2 => ?_, fun c c' o o' r r' h1 h2 h3 h4 h5 h6 h7 h8 h9 => ?_, hr.glob⟩
  · by_cases e : c = b
    · subst e; rw [hput_same] at hc; cases hc
    · rw [hput_ne _ _ e] at hc; exact hr.free c hc
  · by_cases e : c = b
    · subst e
      rw [hput_same] at h1
      cases h1
      obtain ⟨r, r1, ⟨o1, o2, o3, o4, o5, o6⟩, r3⟩ := hr.obj c _ hb rfl
      refine ⟨r, r1, ⟨o1, o2, o3, o4, o5, fun hs => ?_⟩, r3⟩
      obtain ⟨cc, T, c1, c2, c3, c4⟩ := o6 hs
      refine ⟨cc, T, c1, c2, c3, fun i cs j x e1 e2 => ?_⟩
      obtain ⟨v, v1, v2, v3⟩ := c4 i cs j x e1 e2
      exact ⟨v, v1, pure1_rel (List.all_eq_true.1 (hp cs (List.mem_of_getElem? e1)) x (List.mem_of_getElem? e2)) v2, v3⟩
    · rw [hput_ne _ _ e] at h1; exact hr.obj c o h1 h2
  · obtain ⟨p1, q1, q2⟩ := old c o h1 h2
    obtain ⟨p2, q3, q4⟩ := old c' o' h3 h4
    exact hr.inj c c' p1 p2 r r' q1 q2 q3 q4 h5 h6 h7 h8 h9
theorem Ghost.frz {n : Nat} {e : AEnv} {h : AHeap} {b sz : Nat} {es : List (List AV)} (hb : h b = some (.row false sz es)) (hp : ∀ cs ∈ es, cs.all AV.isPure1 = true) : Ghost ⟨n, e, h⟩ ⟨n, frzE b es.length es e, frzH b es.length es h⟩ := fun H ι a w hs => by
  have hr := hs.heap
  have ht := hr.tight hb hp
  obtain ⟨H', u1, u2, u3, u40⟩ := ht.freeze (hput_same h b _)
  have u4 := u40 ι
  have hst : Step H ι h w H ι (hput h b (.row true sz es)) w := ⟨Nat.le_refl _, rfl, rfl, fun _ _ _ => rfl, KLe.refl _, fun _ h => .inl h, LLe.refl _, fun _ _ => rfl, fun _ _ h _ => .inl h, fun c hc => by
    by_cases hcb : c = b
    · subst hcb; rw [hb] at hc; cases hc
    · rw [hput_ne _ _ hcb]; exact hc⟩
  have back : ∀ c o, frzH b es.length es h c = some o → ∃ o', h c = some o' ∧ o = frzO b es.length es o' ∧ c ≠ b := fun c o hc => by
    unfold frzH at hc
    cases ec : Nat.beq c b with
    | true => rw [ec] at hc; cases hc
    | false =>
      rw [ec] at hc
      simp only [cond_false] at hc
      split at hc
      · rename_i o' ho
        cases hc
        exact ⟨o', ho, rfl, fun hh => by subst hh; rw [Nat.beq_refl] at ec; cases ec⟩
      · cases hc
  have al : ∀ o, (frzO b es.length es o).alive = o.alive := fun o => by
    cases o with
    | row p sz rs => cases p <;> rfl
    | _ => rfl
  have hrm_eq : ∀ c, c ≠ b → hrm (hput h b (.row true sz es)) b c = h c := fun c hc => by rw [hrm_ne _ hc, hput_ne _ _ hc]
  have hheap : HeapRel H' ι (frzH b es.length es h) w := by
    refine ⟨u1.know, fun c hc => ?_, fun c o h1 h2 => ?_, fun c c' o o' r r' h1 h2 h3 h4 h5 h6 h7 h8 h9 => ?_, u1.glob⟩
    · obtain ⟨o', g1, g2, g3⟩ := back c _ hc
      cases o' with
      | free => exact hr.free c g1
      | row p sz rs => cases p <;> cases g2
      | _ => cases g2
    · obtain ⟨o', g1, rfl, g3⟩ := back c o h1
      rw [al] at h2
      obtain ⟨r, r1, r2, r3⟩ := u1.obj c o' (by rw [hrm_eq c g3]; exact g1) h2
      refine ⟨r, r1, ?_, r3⟩
      cases o' with
      | free => cases h2
      | map kvs => exact r2
      | iter0 => exact r2
      | row p sz' rs =>
        cases p with
        | true => exact r2
        | false =>
          obtain ⟨o1, o2, o3, o4, o5, o6⟩ := r2
          refine ⟨o1, o2, by simpa using o3, by simpa using o4, fun i cs hi => ?_, fun hsol => ?_⟩
          · rw [List.getElem?_map] at hi
            cases ei : rs[i]? with
            | none => rw [ei] at hi; cases hi
            | some ds => rw [ei] at hi; cases hi; simpa using o5 i ds ei
          · obtain ⟨cc, T, c1, c2, c3, c4⟩ := o6 hsol
            refine ⟨cc, T, c1, c2, ?_, fun i cs j x e1 e2 => ?_⟩
            · intro i cs hi
              rw [List.getElem?_map] at hi
              cases ei : rs[i]? with
              | none => rw [ei] at hi; cases hi
              | some ds => rw [ei] at hi; cases hi; simpa using o5 i ds ei
            · rw [List.getElem?_map] at e1
              cases ei : rs[i]? with
              | none => rw [ei] at e1; cases e1
              | some ds =>
                rw [ei] at e1; cases e1
                rw [List.getElem?_map] at e2
                cases ej : ds[j]? with
                | none => rw [ej] at e2; cases e2
                | some y =>
                  rw [ej] at e2; cases e2
                  obtain ⟨r0, s1, ⟨t1, t2, t3, t4, t5, t6⟩, s3⟩ := hr.obj c _ g1 rfl
                  rw [r1] at s1; cases s1
                  obtain ⟨cc', T', d1, d2, d3, d4⟩ := t6 hsol
                  obtain ⟨fr, f1, _⟩ := c1
                  obtain ⟨fr', f1', _⟩ := d1
                  rw [f1] at f1'
                  cases f1'
                  obtain ⟨v, v1, v2, v3⟩ := d4 i ds j y ei ej
                  exact ⟨v, v1, frz1_rel u3 u4 v2, frz1_cell _ _ _ _ v3⟩
    · obtain ⟨p1, g1, rfl, g3⟩ := back c o h1
      obtain ⟨p2, g4, rfl, g6⟩ := back c' o' h3
      rw [al] at h2 h4
      exact hr.inj c c' p1 p2 r r' g1 h2 g4 h4 h5 h6 h7 h8 h9
  refine ⟨H', ι, ⟨hs.n, hs.d, fun u y hy => ?_, hheap⟩, ?_⟩
  · simp only [frzE] at hy
    split at hy
    · rename_i x hx
      cases hy
      obtain ⟨v, h1, h2⟩ := hs.env u x hx
      exact ⟨v, h1, frzV_rel u3 u4 h2⟩
    · cases hy
  · have h2 := hst.trans hr ht u2
    exact ⟨h2.size, h2.os, h2.out, h2.keep, h2.kle, h2.knew, h2.lle, h2.lframe, h2.newrb, fun c hc => by
      show frzH b es.length es h c = none
      unfold frzH
      cases Nat.beq c b with
      | true => rfl
      | false => simp only [cond_false]; rw [show h c = none from hc]⟩
def refTo (b : Nat) : AV → Bool
  | .ref b' _ _ _ => Nat.beq b' b
  | _ => false
def refIn (b : Nat) : AV → Bool
  | .agg cs => cs.any (refTo b)
  | x => refTo b x
def frzL (n k : Nat) : List Nat → AEnv → AHeap → AEnv × AHeap
  | [], e, h => (e, h)
  | b :: l, e, h => match h b with
    | some (.row false sz es) => match es.all (fun cs => cs.all AV.isPure1), (List.range n).any (fun t => match e t with
        | some x => refIn b x
        | none => false) || (List.range k).any (fun c => match h c with
        | some (.row _ _ rs) => rs.any fun cs => cs.any (refTo b)
        | _ => false) with
      | true, true => frzL n k l (frzE b es.length es e) (frzH b es.length es h)
      | _, _ => frzL n k l e h
    | _ => frzL n k l e h
theorem frzL_ghost {n k : Nat} : ∀ (l : List Nat) {e e' : AEnv} {h h' : AHeap}, frzL n k l e h = (e', h') → Ghost ⟨n, e, h⟩ ⟨n, e', h'⟩
  | [], e, e', h, h', hx => by
    cases hx
    exact Ghost.of_sub (Sub.mk' (ESub.refl _) (HSub.refl _))
  | b :: l, e, e', h, h', hx => by
    unfold frzL at hx
    split at hx
    · rename_i sz es hb
      split at hx
      · rename_i hp _
        exact Ghost.trans (Ghost.frz hb fun cs hc => List.all_eq_true.1 hp cs hc) (frzL_ghost l hx)
      · exact frzL_ghost l hx
    · exact frzL_ghost l hx
def refs1 : AV → List Nat
  | .ref b _ _ _ => [b]
  | .ptr b _ _ _ => [b]
  | _ => []
def refsOf : AV → List Nat
  | .agg cs => cs.flatMap refs1
  | x => refs1 x
def reachL (h : AHeap) : Nat → List Nat → List Nat
  | 0, l => l
  | d + 1, l => reachL h d (l.flatMap fun b => match h b with
    | some (.row _ _ rs) => rs.flatMap fun cs => cs.flatMap refs1
    | _ => []) ++ l
def frzAt (fz : Nat → Nat → Option Nat) (n id k : Nat) (e : AEnv) (h : AHeap) : AEnv × AHeap := match fz n id with
  | some t => match e t with
    | some x => frzL n k (reachL h 3 (refsOf x)) e h
    | none => (e, h)
  | none => (e, h)
theorem frzAt_ghost {fz : Nat → Nat → Option Nat} {n id k : Nat} {e e' : AEnv} {h h' : AHeap} (hx : frzAt fz n id k e h = (e', h')) : Ghost ⟨n, e, h⟩ ⟨n, e', h'⟩ := by
  have h0 : Ghost ⟨n, e, h⟩ ⟨n, e, h⟩ := Ghost.of_sub (Sub.mk' (ESub.refl _) (HSub.refl _))
  unfold frzAt at hx
  split at hx
  · split at hx
    · exact frzL_ghost _ hx
    · cases hx
      exact h0
  · cases hx
    exact h0
abbrev XLog := List (Nat × List AV × AV)
def LogOk (P : Program) (lg : XLog) : Prop := ∀ p ∈ lg, APure P p.1 p.2.1 (fun r => r = p.2.2)
abbrev XCall := Nat → List AV → AHeap → Nat → XLog → Option (AV × AHeap × Nat × XLog)
def XCall.Ok (P : Program) (cl : XCall) : Prop := ∀ f xs h k lg r h' k' lg', cl f xs h k lg = some (r, h', k', lg') → (∀ p ∈ lg, p ∈ lg') ∧ (LogOk P lg' → ACall P f xs h (fun r1 h1 => r1 = r ∧ h1 = h'))
def ctEv (mt : Nat → String → Option Nat) (ct : Nat → Option (List AV → Option AV)) (o : Op) (e : AEnv) : Option (Nat × List AV × AV) :=
  match o with
  | .call ⟨.value (.func f), args, _⟩ => match ct f with
    | some q => match lookAll e args.toList with
      | some xs => match xs.all AV.isPure, q xs with
        | true, some r => some (f, xs, r)
        | _, _ => none
      | none => none
    | none => none
  | _ => none
def argRefs (e : AEnv) : List Operand → List Nat
  | [] => []
  | x :: l => (match look e x with | some y => refsOf y | none => []) ++ argRefs e l
def ctFz (ct : Nat → Option (List AV → Option AV)) (n k : Nat) (o : Op) (e : AEnv) (h : AHeap) : AEnv × AHeap :=
  match o with
  | .call ⟨.value (.func f), args, _⟩ => match ct f with
    | some _ => frzL n k (reachL h 3 (argRefs e args.toList)) e h
    | none => (e, h)
  | _ => (e, h)
theorem ctFz_ghost {ct : Nat → Option (List AV → Option AV)} {n k : Nat} {o : Op} {e e' : AEnv} {h h' : AHeap} (hx : ctFz ct n k o e h = (e', h')) : Ghost ⟨n, e, h⟩ ⟨n, e', h'⟩ := by
  have h0 : Ghost ⟨n, e, h⟩ ⟨n, e, h⟩ := Ghost.of_sub (Sub.mk' (ESub.refl _) (HSub.refl _))
  unfold ctFz at hx
  split at hx
  · split at hx
    · exact frzL_ghost _ hx
    · cases hx
      exact h0
  · cases hx
    exact h0
theorem AOps.ghostX {P : Program} {ops : Array Oper} {l : List Oper} {s s' : AState} {K : AState → Prop} (hg : Ghost s s') (h : AOps P ops l s' K) : AOps P ops l s K := fun H ι a w hs => by
  obtain ⟨H', ι', h1, h2⟩ := hg H ι a w hs
  have hpost : ∀ e a2 w2, Post H' ι' s'.h w (Then K fun _ _ => False) e a2 w2 → Post H ι s.h w (Then K fun _ _ => False) e a2 w2 := fun e a2 w2 hp => Post.step hs.heap h1.heap h2 hp
  have key : ∀ (l : List Oper) (a1 : Act) (w1 : World), wpList P ops (Post H' ι' s'.h w (Then K fun _ _ => False)) l a1 w1 → wpList P ops (Post H ι s.h w (Then K fun _ _ => False)) l a1 w1 := by
    intro l
    induction l with
    | nil => exact fun a1 w1 hp => hpost _ _ _ hp
    | cons o' l ih =>
      intro a1 w1 hp
      unfold wpList at hp ⊢
      by_cases hw : Region.wanted o' (yielded ops a1.tmps) = true
      · rw [if_pos hw] at hp ⊢
        rcases hp with hp | ⟨hp1, a2, w2, hp2⟩
        · refine .inl ?_
          have hp' := Oper.wp_mono (fun a2 w2 => ih a2 w2) hp
          clear hp
          unfold Oper.wp at hp' ⊢
          generalize (execOp a1.eval o').run P w1 = res at hp' ⊢
          cases res with
          | ok n w3 =>
            cases n <;> simp only [Oper.upon] at hp' ⊢ <;> first
              | exact hp'
              | exact Calls.mono hp' (fun e w4 he => by cases e <;> first | exact he | exact hpost _ _ _ he | (obtain ⟨a3, w5, hp3⟩ := he; exact ⟨a3, w5, hpost _ _ _ hp3⟩))
          | halt x w3 => cases x <;> simp only [Oper.upon] at hp' ⊢ <;> first | exact hpost _ _ _ hp' | exact hp'
        · exact .inr ⟨hp1, a2, w2, hpost _ _ _ hp2⟩
      · rw [if_neg hw] at hp ⊢
        exact ih _ _ hp
  exact key l a w (h H' ι' a w h1)
def xOps (P : Program) (T : Nat → Option TyI) (mt : Nat → String → Option Nat) (ct : Nat → Option (List AV → Option AV)) (cl : XCall) (ops : Array Oper) (n : Nat) : List Oper → AEnv → AHeap → Nat → XLog → Option (AEnv × AHeap × Nat × XLog)
  | [], e, h, k, lg => some (e, h, k, lg)
  | o :: l, e, h, k, lg => match guardIs ops o e with
    | some false => match o.dst with
      | some d => match Nat.blt d n with
        | true => xOps P T mt ct cl ops n l (eput e d (.tup [])) h k lg
        | false => none
      | none => xOps P T mt ct cl ops n l e h k lg
    | some true => match o.dst with
      | some d => match Nat.blt d n with
        | true => match qAll P T o.op e h with
          | some (_, r) => xOps P T mt ct cl ops n l (eput e d r) h k lg
          | none => match xAll P T o.dst o.op e h k with
            | some (_, W, some r, k') => xOps P T mt ct cl ops n l (eput e d r) (hputs h W) k' lg
            | some (_, _, none, _) => none
            | none => match ctFz ct n k o.op e h with
             | (e0, h0) => match guardIs ops o e0, ctEv mt ct o.op e0 with
              | some true, some (f, xs, r) => match fnEv P f with
                | some _ => xOps P T mt ct cl ops n l (eput e0 d r) h0 k ((f, xs, r) :: lg)
                | none => none
              | _, _ => match calleeEv mt o.op e with
                | some (f, xs) => match fnEv P f, cl f xs h k lg with
                  | some _, some (r, h', k', lg') => xOps P T mt ct cl ops n l (eput e d r) h' k' lg'
                  | _, _ => none
                | none => none
        | false => none
      | none => match xAll P T o.dst o.op e h k with
        | some (_, W, none, k') => xOps P T mt ct cl ops n l e (hputs h W) k' lg
        | some (_, _, some _, _) => none
        | none => match calleeEv mt o.op e with
          | some (f, xs) => match fnEv P f, cl f xs h k lg with
            | some _, some (r, h', k', lg') => xOps P T mt ct cl ops n l e h' k' lg'
            | _, _ => none
          | none => none
    | none => none
section
variable {P : Program} {T : Nat → Option TyI} {mt : Nat → String → Option Nat} {ct : Nat → Option (List AV → Option AV)} {cl : XCall} {ops : Array Oper} {n : Nat}
theorem OCallR.mono {o : Oper} {e : AEnv} {h : AHeap} {R R' : AV → AHeap → Prop} (hc : OCallR P o e h R) (hr : ∀ r h', R r h' → R' r h') : OCallR P o e h R' := fun H ι a w n Q hs =>
  Oper.wp_mono (fun a' w' ⟨v, r, h', H', ι', e1, e2⟩ => ⟨v, r, h', H', ι', hr _ _ e1, e2⟩) (hc H ι a w n Q hs)
theorem ctEv_spec {o : Oper} {e : AEnv} {h : AHeap} {f : Nat} {xs : List AV} {r : AV} {fn : Func} (hc : ctEv mt ct o.op e = some (f, xs, r)) (hf : P.funcs[f]? = some fn) (hnm : (fn.name == "runtime.NumGoroutine") = false) (hb : fn.body.isSome = true) (hp : APure P f xs (fun r' => r' = r)) : OLoc P o e h [] [] (some r) := by
  unfold ctEv at hc
  split at hc
  · rename_i f' args tys ho
    split at hc
    · rename_i q h1
      split at hc
      · rename_i ys h2
        split at hc
        · rename_i r' h3 h4
          simp only [Option.some.injEq, Prod.mk.injEq] at hc
          obtain ⟨rfl, rfl, rfl⟩ := hc
          exact o_pure ho hf hnm hb h2 h3 hp
        · cases hc
      · cases hc
    · cases hc
  · cases hc
theorem xOps_spec (hT : TOk P T) (hmt : mtOk P mt) (hcl : cl.Ok P) : ∀ (l : List Oper) {e e' : AEnv} {h h' : AHeap} {k k' : Nat} {lg lg' : XLog}, xOps P T mt ct cl ops n l e h k lg = some (e', h', k', lg') →
    (∀ p ∈ lg, p ∈ lg') ∧ (LogOk P lg' → ∀ K : AState → Prop, K ⟨n, e', h'⟩ → AOps P ops l ⟨n, e, h⟩ K)
  | [], e, e', h, h', k, k', lg, lg', hx => by
    simp only [xOps, Option.some.injEq, Prod.mk.injEq] at hx
    obtain ⟨rfl, rfl, rfl, rfl⟩ := hx
    exact ⟨fun p hp => hp, fun _ K hK => AOps.nil hK⟩
  | o :: l, e, e', h, h', k, k', lg, lg', hx => by
    unfold xOps at hx
    split at hx
    · rename_i hg
      split at hx
      · rename_i d hd
        split at hx
        · rename_i hb
          obtain ⟨a1, a2⟩ := xOps_spec hT hmt hcl l hx
          exact ⟨a1, fun hl K hK => AOps.k d hd hb hg (a2 hl K hK)⟩
        · cases hx
      · rename_i hd
        obtain ⟨a1, a2⟩ := xOps_spec hT hmt hcl l hx
        exact ⟨a1, fun hl K hK => AOps.kw hd hg (a2 hl K hK)⟩
    · rename_i hg
      split at hx
      · rename_i d hd
        split at hx
        · rename_i hb
          split at hx
          · rename_i R r hq
            obtain ⟨a1, a2⟩ := xOps_spec hT hmt hcl l hx
            exact ⟨a1, fun hl K hK => AOps.s d hd hb hg (qAll_spec hT hq) (a2 hl K hK)⟩
          · split at hx
            · rename_i R W r k1 hv
              obtain ⟨a1, a2⟩ := xOps_spec hT hmt hcl l hx
              exact ⟨a1, fun hl K hK => AOps.x d hd hb hg (xAll_spec hT hv) (a2 hl K hK)⟩
            · cases hx
            · generalize hfz : ctFz ct n k o.op e h = eh at hx
              obtain ⟨e0, h0⟩ := eh
              have hgst := ctFz_ghost hfz
              simp only at hx
              split at hx
              · rename_i f xs r hg0 hc
                split at hx
                · rename_i fc hfn
                  obtain ⟨fn, c⟩ := fc
                  obtain ⟨f1, f2, f3⟩ := fnEv_spec hfn
                  obtain ⟨a1, a2⟩ := xOps_spec hT hmt hcl l hx
                  refine ⟨fun p hp => a1 p (by simp [hp]), fun hl K hK => AOps.ghostX hgst (AOps.x d hd hb hg0 (ctEv_spec hc f1 f3 (by rw [f2]; rfl) (hl (f, xs, r) (a1 _ (by simp)))) (a2 hl K hK))⟩
                · cases hx
              · split at hx
                · rename_i f xs hc
                  split at hx
                  · rename_i fc r h1 k1 lg1 hfn hcall
                    obtain ⟨fn, c⟩ := fc
                    obtain ⟨f1, f2, f3⟩ := fnEv_spec hfn
                    obtain ⟨a1, a2⟩ := xOps_spec hT hmt hcl l hx
                    obtain ⟨b1, b2⟩ := hcl _ _ _ _ _ _ _ _ _ hcall
                    refine ⟨fun p hp => a1 p (b1 p hp), fun hl K hK => AOps.inn d hd hb hg (OCallR.mono (calleeEv_spec hmt hc f1 f3 (by rw [f2]; rfl) (b2 (fun p hp => hl p (a1 p hp)))) fun r' h'' hh => ?_)⟩
                    obtain ⟨rfl, rfl⟩ := hh
                    exact a2 hl K hK
                  · cases hx
                · cases hx
        · cases hx
      · rename_i hd
        split at hx
        · rename_i R W k1 hv
          obtain ⟨a1, a2⟩ := xOps_spec hT hmt hcl l hx
          exact ⟨a1, fun hl K hK => AOps.w hd hg (xAll_spec hT hv) (a2 hl K hK)⟩
        · cases hx
        · split at hx
          · rename_i f xs hc
            split at hx
            · rename_i fc r h1 k1 lg1 hfn hcall
              obtain ⟨fn, c⟩ := fc
              obtain ⟨f1, f2, f3⟩ := fnEv_spec hfn
              obtain ⟨a1, a2⟩ := xOps_spec hT hmt hcl l hx
              obtain ⟨b1, b2⟩ := hcl _ _ _ _ _ _ _ _ _ hcall
              refine ⟨fun p hp => a1 p (b1 p hp), fun hl K hK => AOps.innW hd hg (OCallR.mono (calleeEv_spec hmt hc f1 f3 (by rw [f2]; rfl) (b2 (fun p hp => hl p (a1 p hp)))) fun r' h'' hh => ?_)⟩
              obtain ⟨rfl, rfl⟩ := hh
              exact a2 hl K hK
            · cases hx
          · cases hx
    · cases hx
end
def AV.eqS : AV → AV → Bool
  | .bool a, .bool b => a == b
  | .int k a, .int k' b => decide (k = k') && decide (a = b)
  | .nil, .nil => true
  | .nilp, .nilp => true
  | .ref b n o l, .ref b' n' o' l' => Nat.beq b b' && (Nat.beq n n' && (Nat.beq o o' && Nat.beq l l'))
  | .ptr b n o l, .ptr b' n' o' l' => Nat.beq b b' && (Nat.beq n n' && (Nat.beq o o' && Nat.beq l l'))
  | .map b, .map b' => Nat.beq b b'
  | _, _ => false
theorem eqS_spec {x y : AV} (h : x.eqS y = true) : x = y := by
  unfold AV.eqS at h
  split at h
  · rw [beq_iff_eq] at h; rw [h]
  · rw [Bool.and_eq_true, decide_eq_true_eq, decide_eq_true_eq] at h
    rw [h.1, h.2]
  · rfl
  · rfl
  · rw [Bool.and_eq_true, Bool.and_eq_true, Bool.and_eq_true] at h
    obtain ⟨h1, h2, h3, h4⟩ := h
    rw [Nat.eq_of_beq_eq_true h1, Nat.eq_of_beq_eq_true h2, Nat.eq_of_beq_eq_true h3, Nat.eq_of_beq_eq_true h4]
  · rw [Bool.and_eq_true, Bool.and_eq_true, Bool.and_eq_true] at h
    obtain ⟨h1, h2, h3, h4⟩ := h
    rw [Nat.eq_of_beq_eq_true h1, Nat.eq_of_beq_eq_true h2, Nat.eq_of_beq_eq_true h3, Nat.eq_of_beq_eq_true h4]
  · rw [Nat.eq_of_beq_eq_true h]
  · cases h
def eqSs : List AV → List AV → Bool
  | [], [] => true
  | x :: xs, y :: ys => x.eqS y && eqSs xs ys
  | _, _ => false
theorem eqSs_spec : ∀ {xs ys : List AV}, eqSs xs ys = true → xs = ys
  | [], [], _ => rfl
  | x :: xs, y :: ys, h => by
    simp only [eqSs, Bool.and_eq_true] at h
    rw [eqS_spec h.1, eqSs_spec h.2]
  | [], _ :: _, h => by cases h
  | _ :: _, [], h => by cases h
def eqRs : List (List AV) → List (List AV) → Bool
  | [], [] => true
  | x :: xs, y :: ys => eqSs x y && eqRs xs ys
  | _, _ => false
theorem eqRs_spec : ∀ {xs ys : List (List AV)}, eqRs xs ys = true → xs = ys
  | [], [], _ => rfl
  | x :: xs, y :: ys, h => by
    simp only [eqRs, Bool.and_eq_true] at h
    rw [eqSs_spec h.1, eqRs_spec h.2]
  | [], _ :: _, h => by cases h
  | _ :: _, [], h => by cases h
def sameAt (h h' : AHeap) (b : Nat) : Bool := match h b, h' b with
  | some (.row p sz es), some (.row p' sz' es') => p == p' && (Nat.beq sz sz' && eqRs es es')
  | some .free, some .free => true
  | _, _ => false
theorem sameAt_spec {h h' : AHeap} {b : Nat} (e : sameAt h h' b = true) : h b = h' b := by
  unfold sameAt at e
  split at e
  · rename_i h1 h2
    rw [Bool.and_eq_true, Bool.and_eq_true, beq_iff_eq] at e
    rw [h1, h2, e.1, Nat.eq_of_beq_eq_true e.2.1, eqRs_spec e.2.2]
  · rename_i h1 h2
    rw [h1, h2]
  · cases e
def wOf (h h' : AHeap) : List Nat → List (Nat × AObj)
  | [] => []
  | b :: l => match sameAt h h' b, h' b with
    | false, some q => (b, q) :: wOf h h' l
    | _, _ => wOf h h' l
theorem wOf_mem {h h' : AHeap} {L0 : List Nat} : ∀ {l : List Nat}, (∀ b ∈ l, b ∈ L0) → (wOf h h' l).all (fun p => mem L0 p.1) = true
  | [], _ => rfl
  | b :: l, hh => by
    unfold wOf
    split
    · rw [List.all_cons, Bool.and_eq_true]
      exact ⟨mem_iff.2 (hh b (by simp)), wOf_mem fun c hc => hh c (by simp [hc])⟩
    · exact wOf_mem fun c hc => hh c (by simp [hc])
theorem wOf_put {h h' : AHeap} {b : Nat} {q : AObj} (hq : h' b = some q) : ∀ (l : List Nat) (h0 : AHeap), h0 b = h b ∨ h0 b = some q → b ∈ l ∨ h0 b = some q → hputs h0 (wOf h h' l) b = some q
  | [], h0, _, hh => by
    rcases hh with hh | hh
    · simp at hh
    · exact hh
  | c :: l, h0, ha, hh => by
    unfold wOf
    split
    · rename_i q' hs hq'
      show hputs (hput h0 c q') (wOf h h' l) b = some q
      by_cases hb : b = c
      · subst hb
        rw [hq] at hq'
        cases hq'
        exact wOf_put hq l _ (.inr (hput_same _ _ _)) (.inr (hput_same _ _ _))
      · refine wOf_put hq l _ (by rw [hput_ne _ _ hb]; exact ha) ?_
        rcases hh with hh | hh
        · simp [hb] at hh; exact .inl hh
        · exact .inr (by rw [hput_ne _ _ hb]; exact hh)
    · rename_i hn
      refine wOf_put hq l _ ha ?_
      by_cases hb : b = c
      · subst hb
        refine .inr ?_
        rcases ha with ha | ha
        · cases e : sameAt h h' b with
          | true => rw [ha, sameAt_spec e, hq]
          | false => exact absurd hq (hn _ e)
        · exact ha
      · rcases hh with hh | hh
        · simp [hb] at hh; exact .inl hh
        · exact .inr hh
theorem AllL.ofX {p : Nat → Prop} : ∀ {L : List Nat}, (∀ b ∈ L, p b) → AllL L p
  | [], _ => trivial
  | b :: L, h => ⟨h b (by simp), AllL.ofX fun c hc => h c (by simp [hc])⟩
def avoidAll (h : AHeap) (L : List Nat) : List Nat → Bool
  | [] => true
  | b :: l => match h b with
    | some q => q.avoid (mem L) && avoidAll h L l
    | none => false
theorem avoidAll_spec {h : AHeap} {L : List Nat} : ∀ {l : List Nat}, avoidAll h L l = true → ∀ b ∈ l, ∃ q, h b = some q ∧ q.avoid (mem L) = true
  | c :: l, hh, b, hb => by
    unfold avoidAll at hh
    split at hh
    · rename_i q hq
      rw [Bool.and_eq_true] at hh
      rcases List.mem_cons.1 hb with rfl | hb
      · exact ⟨q, hq, hh.1⟩
      · exact avoidAll_spec hh.2 b hb
    · cases hh
theorem hres_more {h : AHeap} {L0 F : List Nat} (hf : ∀ b ∈ F, h b = some .free) : hres h (L0 ++ F) = hres h L0 := by
  funext b
  unfold hres
  cases e0 : mem L0 b with
  | true =>
    have : mem (L0 ++ F) b = true := mem_iff.2 (List.mem_append.2 (.inl (mem_iff.1 e0)))
    rw [this]
  | false =>
    cases e1 : mem (L0 ++ F) b with
    | false => rfl
    | true =>
      rcases List.mem_append.1 (mem_iff.1 e1) with h1 | h1
      · rw [mem_iff.2 h1] at e0; cases e0
      · rw [cond_true, cond_false]; exact hf b h1
def seen0 (h : AHeap) (k : Nat) (xs : List AV) : List Nat := bif xs.all AV.isPure then [] else (List.range k).filter fun b => (h b).isSome
def freshL (k k' : Nat) (h' : AHeap) : List Nat := (List.range' k (k' - k)).filter fun b => (h' b).isSome
def callFit (h h' : AHeap) (k k' : Nat) (xs : List AV) (r : AV) : Bool :=
  (freshL k k' h').all (isFree h) && (xs.all (AV.avoid (mem (seen0 h k xs ++ freshL k k' h'))) && (avoidAll h (seen0 h k xs ++ freshL k k' h') (seen0 h k xs ++ freshL k k' h') &&
    (avoidAll h' (seen0 h k xs ++ freshL k k' h') (seen0 h k xs ++ freshL k k' h') && r.avoid (mem (seen0 h k xs ++ freshL k k' h')))))
def directEv (o : Op) (e : AEnv) : Option (Nat × List AV) :=
  match o with
  | .call ⟨.value (.func f), args, _⟩ => match lookAll e args.toList with
    | some xs => some (f, xs)
    | none => none
  | _ => none
section
variable {P : Program} {o : Oper} {e : AEnv} {h : AHeap}
theorem direct_spec {f : Nat} {xs : List AV} {fn : Func} {k k' : Nat} {h' : AHeap} {r : AV} (hc : directEv o.op e = some (f, xs)) (hf : P.funcs[f]? = some fn) (hnm : (fn.name == "runtime.NumGoroutine") = false) (hb : fn.body.isSome = true)
    (hfit : callFit h h' k k' xs r = true) (hcall : ACall P f xs (hres h (seen0 h k xs)) (fun r1 h1 => r1 = r ∧ h1 = h')) :
    OLoc P o e h (seen0 h k xs ++ freshL k k' h') (wOf h h' (seen0 h k xs ++ freshL k k' h')) (some r) := by
  unfold callFit at hfit
  rw [Bool.and_eq_true, Bool.and_eq_true, Bool.and_eq_true, Bool.and_eq_true] at hfit
  obtain ⟨c1, c2, c3, c4, c5⟩ := hfit
  unfold directEv at hc
  split at hc
  · rename_i f' args tys ho
    split at hc
    · rename_i ys hx
      simp only [Option.some.injEq, Prod.mk.injEq] at hc
      obtain ⟨rfl, rfl⟩ := hc
      refine o_call (hc := hres h (seen0 h k ys)) (hw := h') _ _ ho hf hnm hb hx c2 (AllL.ofX (avoidAll_spec c3)) (wOf_mem fun b hb => hb) (hres_more fun b hb => isFree_spec (List.all_eq_true.1 c1 b hb)) (AllL.ofX fun b hb => ?_) c5 (hcall.mono fun r1 h1 hh => ?_)
      · obtain ⟨q, q1, q2⟩ := avoidAll_spec c4 b hb
        exact ⟨q, q1, wOf_put q1 _ _ (.inl rfl) (.inl hb), q2⟩
      · obtain ⟨rfl, rfl⟩ := hh
        exact ⟨rfl, HSub.refl _⟩
    · cases hc
  · cases hc
end
def xDops (P : Program) (T : Nat → Option TyI) (mt : Nat → String → Option Nat) (ct : Nat → Option (List AV → Option AV)) (cl : XCall) (ops : Array Oper) (n : Nat) : List Oper → AEnv → AHeap → Nat → XLog → List (List Nat × List Nat) → Option (AEnv × AHeap × Nat × XLog)
  | [], e, h, k, lg, acc => match chk ops acc with
    | true => some (e, h, k, lg)
    | false => none
  | o :: l, e, h, k, lg, acc => match guardIs ops o e with
    | some false => match o.dst with
      | some d => match Nat.blt d n with
        | true => xDops P T mt ct cl ops n l (eput e d (.tup [])) h k lg (acc ++ [([], [])])
        | false => none
      | none => xDops P T mt ct cl ops n l e h k lg (acc ++ [([], [])])
    | some true => match o.dst with
      | some d => match Nat.blt d n with
        | true => match qAll P T o.op e h with
          | some (R, r) => xDops P T mt ct cl ops n l (eput e d r) h k lg (acc ++ [(R, [])])
          | none => match xAll P T o.dst o.op e h k with
            | some (R, W, some r, k') => xDops P T mt ct cl ops n l (eput e d r) (hputs h W) k' lg (acc ++ [(R, W.map (·.1))])
            | some (_, _, none, _) => none
            | none => match ctEv mt ct o.op e with
              | some (f, xs, r) => match fnEv P f with
                | some _ => xDops P T mt ct cl ops n l (eput e d r) h k ((f, xs, r) :: lg) (acc ++ [([], [])])
                | none => none
              | none => match directEv o.op e with
                | some (f, xs) => match fnEv P f, cl f xs (hres h (seen0 h k xs)) k lg with
                  | some _, some (r, h', k', lg') => match callFit h h' k k' xs r with
                    | true => xDops P T mt ct cl ops n l (eput e d r) (hputs h (wOf h h' (seen0 h k xs ++ freshL k k' h'))) k' lg' (acc ++ [(seen0 h k xs ++ freshL k k' h', (wOf h h' (seen0 h k xs ++ freshL k k' h')).map (·.1))])
                    | false => none
                  | _, _ => none
                | none => none
        | false => none
      | none => match xAll P T o.dst o.op e h k with
        | some (R, W, none, k') => xDops P T mt ct cl ops n l e (hputs h W) k' lg (acc ++ [(R, W.map (·.1))])
        | _ => none
    | none => none
section
variable {P : Program} {T : Nat → Option TyI} {mt : Nat → String → Option Nat} {ct : Nat → Option (List AV → Option AV)} {cl : XCall} {ops : Array Oper} {n : Nat}
theorem DOps.uw {o : Oper} {rest : List Oper} {e : AEnv} {h : AHeap} {acc : List (List Nat × List Nat)} {K : AState → Prop} (hd : o.dst = none) (hg : guardIs ops o e = some false) (hr : DOps P ops n rest e h (acc ++ [([], [])]) K) : DOps P ops n (o :: rest) e h acc K := by
  have := DOps.skip' (P := P) (ops := ops) (n := n) (e := e) (h := h) (acc := acc) (K := K) (o := o) (rest := rest) hg (fun t e => by rw [hd] at e; cases e)
  rw [hd] at this
  exact this hr
theorem xDops_spec (hT : TOk P T) (hcl : cl.Ok P) : ∀ (l : List Oper) {e e' : AEnv} {h h' : AHeap} {k k' : Nat} {lg lg' : XLog} {acc : List (List Nat × List Nat)}, xDops P T mt ct cl ops n l e h k lg acc = some (e', h', k', lg') →
    (∀ p ∈ lg, p ∈ lg') ∧ (LogOk P lg' → ∀ K : AState → Prop, K ⟨n, e', h'⟩ → DOps P ops n l e h acc K)
  | [], e, e', h, h', k, k', lg, lg', acc, hx => by
    unfold xDops at hx
    split at hx
    · rename_i hc
      simp only [Option.some.injEq, Prod.mk.injEq] at hx
      obtain ⟨rfl, rfl, rfl, rfl⟩ := hx
      exact ⟨fun p hp => hp, fun _ K hK => DOps.nil hc hK⟩
    · cases hx
  | o :: l, e, e', h, h', k, k', lg, lg', acc, hx => by
    unfold xDops at hx
    split at hx
    · rename_i hg
      split at hx
      · rename_i d hd
        split at hx
        · rename_i hb
          obtain ⟨a1, a2⟩ := xDops_spec hT hcl l hx
          exact ⟨a1, fun hl K hK => DOps.u d hd hb hg (a2 hl K hK)⟩
        · cases hx
      · rename_i hd
        obtain ⟨a1, a2⟩ := xDops_spec hT hcl l hx
        exact ⟨a1, fun hl K hK => DOps.uw hd hg (a2 hl K hK)⟩
    · rename_i hg
      split at hx
      · rename_i d hd
        split at hx
        · rename_i hb
          split at hx
          · rename_i R r hq
            obtain ⟨a1, a2⟩ := xDops_spec hT hcl l hx
            exact ⟨a1, fun hl K hK => DOps.s d hd hb hg (qAll_spec hT hq) (a2 hl K hK)⟩
          · split at hx
            · rename_i R W r k1 hv
              obtain ⟨a1, a2⟩ := xDops_spec hT hcl l hx
              exact ⟨a1, fun hl K hK => DOps.x d hd hb hg (xAll_spec hT hv) (a2 hl K hK)⟩
            · cases hx
            · split at hx
              · rename_i f xs r hc
                split at hx
                · rename_i fc hfn
                  obtain ⟨fn, c⟩ := fc
                  obtain ⟨f1, f2, f3⟩ := fnEv_spec hfn
                  obtain ⟨a1, a2⟩ := xDops_spec hT hcl l hx
                  refine ⟨fun p hp => a1 p (by simp [hp]), fun hl K hK => DOps.x d hd hb hg (ctEv_spec hc f1 f3 (by rw [f2]; rfl) (hl (f, xs, r) (a1 _ (by simp)))) (a2 hl K hK)⟩
                · cases hx
              · split at hx
                · rename_i f xs hc
                  split at hx
                  · rename_i fc r h1 k1 lg1 hfn hcall
                    obtain ⟨fn, c⟩ := fc
                    obtain ⟨f1, f2, f3⟩ := fnEv_spec hfn
                    split at hx
                    · rename_i hfit
                      obtain ⟨a1, a2⟩ := xDops_spec hT hcl l hx
                      obtain ⟨b1, b2⟩ := hcl _ _ _ _ _ _ _ _ _ hcall
                      exact ⟨fun p hp => a1 p (b1 p hp), fun hl K hK => DOps.x d hd hb hg (direct_spec hc f1 f3 (by rw [f2]; rfl) hfit (b2 (fun p hp => hl p (a1 p hp)))) (a2 hl K hK)⟩
                    · cases hx
                  · cases hx
                · cases hx
        · cases hx
      · rename_i hd
        split at hx
        · rename_i R W k1 hv
          obtain ⟨a1, a2⟩ := xDops_spec hT hcl l hx
          exact ⟨a1, fun hl K hK => DOps.w hd hg (xAll_spec hT hv) (a2 hl K hK)⟩
        · cases hx
    · cases hx
end
def resEv (T : Nat → Option TyI) (e : AEnv) (h : AHeap) : List ResultVar → Option (List AV)
  | [] => some []
  | .tmp t :: rs => match e t, resEv T e h rs with
    | some x, some xs => some (x :: xs)
    | _, _ => none
  | .cell a t :: rs => match e a, T t with
    | some p, some i => match ptsOf h p with
      | some (_, cs) => match loadAV i cs, resEv T e h rs with
        | some x, some xs => some (x :: xs)
        | _, _ => none
      | none => none
    | _, _ => none
theorem resEv_spec {T : Nat → Option TyI} {n : Nat} {e : AEnv} {h : AHeap} : ∀ {rs : List ResultVar} {xs : List AV}, resEv T e h rs = some xs → resAll T ⟨n, e, h⟩ rs xs
  | [], xs, hx => by simp [resEv] at hx; subst hx; trivial
  | .tmp t :: rs, xs, hx => by
    unfold resEv at hx
    split at hx
    · rename_i x ys h1 h2
      simp only [Option.some.injEq] at hx
      subst hx
      exact ⟨h1, resEv_spec h2⟩
    · cases hx
  | .cell a t :: rs, xs, hx => by
    unfold resEv at hx
    split at hx
    · rename_i p i h1 h2
      split at hx
      · rename_i R cs h3
        split at hx
        · rename_i x ys h4 h5
          simp only [Option.some.injEq] at hx
          subst hx
          exact ⟨⟨p, i, R, cs, h1, h2, ptsOf_spec h3, h4⟩, resEv_spec h5⟩
        · cases hx
      · cases hx
    · cases hx
def endsOk : Exit → Bool
  | .normal | .ret => true
  | _ => false
abbrev XEnd := Option (Exit × AEnv × AHeap × Nat × XLog)
def xGo (P : Program) (T : Nat → Option TyI) (mt : Nat → String → Option Nat) (ct : Nat → Option (List AV → Option AV)) (fz : Nat → Nat → Option Nat) : Nat → Nat → Code → AEnv → AHeap → Nat → XLog → XEnd
  | 0, _, _, _, _, _, _ => none
  | g + 1, n, c, e, h, k, lg => match c with
    | .skip => some (.normal, e, h, k, lg)
    | .label _ => some (.normal, e, h, k, lg)
    | .exit id => some (.exit id, e, h, k, lg)
    | .ret => some (.ret, e, h, k, lg)
    | .seq a b => match xGo P T mt ct fz g n a e h k lg with
      | some (x, e1, h1, k1, lg1) => match x with
        | .normal => xGo P T mt ct fz g n b e1 h1 k1 lg1
        | x => some (x, e1, h1, k1, lg1)
      | none => none
    | .cond (.tmp t) a b => match e t with
      | some (.bool true) => xGo P T mt ct fz g n a e h k lg
      | some (.bool false) => xGo P T mt ct fz g n b e h k lg
      | _ => none
    | .block id b => match xGo P T mt ct fz g n b e h k lg with
      | some (x, e1, h1, k1, lg1) => match x with
        | .exit id' => match Nat.beq id' id with
          | true => some (.normal, e1, h1, k1, lg1)
          | false => some (.exit id', e1, h1, k1, lg1)
        | x => some (x, e1, h1, k1, lg1)
      | none => none
    | .loop b => match xGo P T mt ct fz g n b e h k lg with
      | some (x, e1, h1, k1, lg1) => match x with
        | .normal => xGo P T mt ct fz g n (.loop b) e1 h1 k1 lg1
        | x => some (x, e1, h1, k1, lg1)
      | none => none
    | .scope b => match xGo P T mt ct fz g n b e h k lg with
      | some (x, e1, h1, k1, lg1) => match x with
        | .goto _ => none
        | x => some (x, e1, h1, k1, lg1)
      | none => none
    | .region id ops dr => (match frzAt fz n id k e h with
      | (e0, h0) => match dr with
      | false => match xOps P T mt ct (fun f xs h k lg => match fnEv P f with
          | some (fn, c) => match xGo P T mt ct fz g (xs.length + (fn.ntmps - xs.length)) c (argEnv xs) h k lg with
            | some (x, e1, h1, k1, lg1) => match endsOk x, resEv T e1 h1 fn.results.toList with
              | true, some ys => some (packAV ys, h1, k1, lg1)
              | _, _ => none
            | none => none
          | none => none) ops n ops.toList e0 h0 k lg with
        | some (e1, h1, k1, lg1) => some (.normal, e1, h1, k1, lg1)
        | none => none
      | true => match xDops P T mt ct (fun f xs h k lg => match fnEv P f with
          | some (fn, c) => match xGo P T mt ct fz g (xs.length + (fn.ntmps - xs.length)) c (argEnv xs) h k lg with
            | some (x, e1, h1, k1, lg1) => match endsOk x, resEv T e1 h1 fn.results.toList with
              | true, some ys => some (packAV ys, h1, k1, lg1)
              | _, _ => none
            | none => none
          | none => none) ops n ops.toList e0 h0 k lg [] with
        | some (e1, h1, k1, lg1) => some (.normal, e1, h1, k1, lg1)
        | none => none)
    | _ => none
def xCl (P : Program) (T : Nat → Option TyI) (mt : Nat → String → Option Nat) (ct : Nat → Option (List AV → Option AV)) (fz : Nat → Nat → Option Nat) (g : Nat) : XCall := fun f xs h k lg => match fnEv P f with
  | some (fn, c) => match xGo P T mt ct fz g (xs.length + (fn.ntmps - xs.length)) c (argEnv xs) h k lg with
    | some (x, e1, h1, k1, lg1) => match endsOk x, resEv T e1 h1 fn.results.toList with
      | true, some ys => some (packAV ys, h1, k1, lg1)
      | _, _ => none
    | none => none
  | none => none
def EndsAt (x : Exit) (s : AState) : Exit → AState → Prop := fun x1 s1 => x1 = x ∧ s1 = s
section
variable {P : Program} {T : Nat → Option TyI} {mt : Nat → String → Option Nat} {ct : Nat → Option (List AV → Option AV)} {fz : Nat → Nat → Option Nat}
theorem then_of {x : Exit} {s s1 : AState} {x1 : Exit} {K : AState → Prop} {Q : Exit → AState → Prop} (h : EndsAt x s x1 s1) (hn : x = .normal → K s) (ho : x ≠ .normal → Q x s) : Then K Q x1 s1 := by
  obtain ⟨rfl, rfl⟩ := h
  cases x1 with
  | normal => exact hn rfl
  | _ => exact ho (fun h => by cases h)
theorem xCl_ok (hT : TOk P T) {g : Nat} (ih : ∀ n c e h k lg x e' h' k' lg', xGo P T mt ct fz g n c e h k lg = some (x, e', h', k', lg') → (∀ p ∈ lg, p ∈ lg') ∧ (LogOk P lg' → AGo P c ⟨n, e, h⟩ (EndsAt x ⟨n, e', h'⟩))) : (xCl P T mt ct fz g).Ok P := by
  intro f xs h k lg r h' k' lg' hx
  unfold xCl at hx
  split at hx
  · rename_i fn c hfn
    obtain ⟨f1, f2, f3⟩ := fnEv_spec hfn
    split at hx
    · rename_i x e1 h1 k1 lg1 hg
      split at hx
      · rename_i ys hend hres
        simp only [Option.some.injEq, Prod.mk.injEq] at hx
        obtain ⟨rfl, rfl, rfl, rfl⟩ := hx
        obtain ⟨a1, a2⟩ := ih _ _ _ _ _ _ _ _ _ _ _ hg
        refine ⟨a1, fun hl => ACall.of_body hT f1 f2 rfl (AGo.mono (a2 hl) fun x1 s1 hh => ?_)⟩
        obtain ⟨rfl, rfl⟩ := hh
        cases x1 <;> simp [endsOk] at hend
        · exact ⟨ys, resEv_spec hres, rfl, rfl⟩
        · exact ⟨ys, resEv_spec hres, rfl, rfl⟩
      · cases hx
    · cases hx
  · cases hx
theorem xGo_spec (hT : TOk P T) (hmt : mtOk P mt) (hmx : P.follows .mixedOrders = true) : ∀ (g n : Nat) (c : Code) (e : AEnv) (h : AHeap) (k : Nat) (lg : XLog) (x : Exit) (e' : AEnv) (h' : AHeap) (k' : Nat) (lg' : XLog), xGo P T mt ct fz g n c e h k lg = some (x, e', h', k', lg') →
    (∀ p ∈ lg, p ∈ lg') ∧ (LogOk P lg' → AGo P c ⟨n, e, h⟩ (EndsAt x ⟨n, e', h'⟩) ∧ ∀ b, c = .loop b → ∃ m, Un P b (EndsAt x ⟨n, e', h'⟩) m ⟨n, e, h⟩)
  | 0, _, _, _, _, _, _, _, _, _, _, _, hx => by cases hx
  | g + 1, n, c, e, h, k, lg, x, e', h', k', lg', hx => by
    have ih := xGo_spec hT hmt hmx g
    have ih1 : ∀ n c e h k lg x e' h' k' lg', xGo P T mt ct fz g n c e h k lg = some (x, e', h', k', lg') → (∀ p ∈ lg, p ∈ lg') ∧ (LogOk P lg' → AGo P c ⟨n, e, h⟩ (EndsAt x ⟨n, e', h'⟩)) :=
      fun n c e h k lg x e' h' k' lg' hg => ⟨(ih n c e h k lg x e' h' k' lg' hg).1, fun hl => ((ih n c e h k lg x e' h' k' lg' hg).2 hl).1⟩
    have hcl := xCl_ok (P := P) (mt := mt) (ct := ct) (fz := fz) hT ih1
    cases c with
    | skip =>
      simp only [xGo, Option.some.injEq, Prod.mk.injEq] at hx
      obtain ⟨rfl, rfl, rfl, rfl, rfl⟩ := hx
      exact ⟨fun p hp => hp, fun _ => ⟨AGo.skip ⟨rfl, rfl⟩, fun b hb => by cases hb⟩⟩
    | label l =>
      simp only [xGo, Option.some.injEq, Prod.mk.injEq] at hx
      obtain ⟨rfl, rfl, rfl, rfl, rfl⟩ := hx
      exact ⟨fun p hp => hp, fun _ => ⟨AGo.label ⟨rfl, rfl⟩, fun b hb => by cases hb⟩⟩
    | exit id =>
      simp only [xGo, Option.some.injEq, Prod.mk.injEq] at hx
      obtain ⟨rfl, rfl, rfl, rfl, rfl⟩ := hx
      exact ⟨fun p hp => hp, fun _ => ⟨AGo.exit ⟨rfl, rfl⟩, fun b hb => by cases hb⟩⟩
    | ret =>
      simp only [xGo, Option.some.injEq, Prod.mk.injEq] at hx
      obtain ⟨rfl, rfl, rfl, rfl, rfl⟩ := hx
      exact ⟨fun p hp => hp, fun _ => ⟨AGo.ret ⟨rfl, rfl⟩, fun b hb => by cases hb⟩⟩
    | seq a b =>
      simp only [xGo] at hx
      split at hx
      · rename_i x1 e1 h1 k1 lg1 hg
        obtain ⟨a1, a2⟩ := ih1 _ _ _ _ _ _ _ _ _ _ _ hg
        split at hx
        · obtain ⟨b1, b2⟩ := ih1 _ _ _ _ _ _ _ _ _ _ _ hx
          exact ⟨fun p hp => b1 p (a1 p hp), fun hl => ⟨AGo.seq (AGo.mono (a2 fun p hp => hl p (b1 p hp)) fun x2 s2 hh => then_of hh (fun _ => b2 hl) (fun hn => absurd rfl hn)), fun b hb => by cases hb⟩⟩
        · rename_i hne
          simp only [Option.some.injEq, Prod.mk.injEq] at hx
          obtain ⟨rfl, rfl, rfl, rfl, rfl⟩ := hx
          exact ⟨a1, fun hl => ⟨AGo.seq (AGo.mono (a2 hl) fun x2 s2 hh => then_of hh (fun hn => absurd hn hne) (fun _ => ⟨rfl, rfl⟩)), fun b hb => by cases hb⟩⟩
      · cases hx
    | cond o a b =>
      cases o with
      | tmp t =>
        simp only [xGo] at hx
        split at hx
        · rename_i ht
          obtain ⟨a1, a2⟩ := ih1 _ _ _ _ _ _ _ _ _ _ _ hx
          exact ⟨a1, fun hl => ⟨AGo.cond_true true ht rfl (a2 hl), fun b hb => by cases hb⟩⟩
        · rename_i ht
          obtain ⟨a1, a2⟩ := ih1 _ _ _ _ _ _ _ _ _ _ _ hx
          exact ⟨a1, fun hl => ⟨AGo.cond_false false ht rfl (a2 hl), fun b hb => by cases hb⟩⟩
        · cases hx
      | _ => simp only [xGo] at hx; cases hx
    | block id b =>
      simp only [xGo] at hx
      split at hx
      · rename_i x1 e1 h1 k1 lg1 hg
        obtain ⟨a1, a2⟩ := ih1 _ _ _ _ _ _ _ _ _ _ _ hg
        split at hx
        · rename_i id'
          split at hx
          · rename_i hid
            simp only [Option.some.injEq, Prod.mk.injEq] at hx
            obtain ⟨rfl, rfl, rfl, rfl, rfl⟩ := hx
            refine ⟨a1, fun hl => ⟨AGo.block (AGo.mono (a2 hl) fun x2 s2 hh => ?_), fun b hb => by cases hb⟩⟩
            obtain ⟨rfl, rfl⟩ := hh
            show bif Nat.beq id' id then _ else _
            rw [hid]; exact ⟨rfl, rfl⟩
          · rename_i hid
            simp only [Option.some.injEq, Prod.mk.injEq] at hx
            obtain ⟨rfl, rfl, rfl, rfl, rfl⟩ := hx
            refine ⟨a1, fun hl => ⟨AGo.block (AGo.mono (a2 hl) fun x2 s2 hh => ?_), fun b hb => by cases hb⟩⟩
            obtain ⟨rfl, rfl⟩ := hh
            show bif Nat.beq id' id then _ else _
            rw [hid]; exact ⟨rfl, rfl⟩
        · rename_i hne
          simp only [Option.some.injEq, Prod.mk.injEq] at hx
          obtain ⟨rfl, rfl, rfl, rfl, rfl⟩ := hx
          refine ⟨a1, fun hl => ⟨AGo.block (AGo.mono (a2 hl) fun x2 s2 hh => ?_), fun b hb => by cases hb⟩⟩
          obtain ⟨rfl, rfl⟩ := hh
          cases x2 with
          | exit i => exact absurd rfl (hne i)
          | _ => exact ⟨rfl, rfl⟩
      · cases hx
    | loop b =>
      simp only [xGo] at hx
      split at hx
      · rename_i x1 e1 h1 k1 lg1 hg
        obtain ⟨a1, a2⟩ := ih1 _ _ _ _ _ _ _ _ _ _ _ hg
        split at hx
        · obtain ⟨b1, b2⟩ := ih _ _ _ _ _ _ _ _ _ _ _ hx
          refine ⟨fun p hp => b1 p (a1 p hp), fun hl => ?_⟩
          obtain ⟨m, hm⟩ := (b2 hl).2 b rfl
          have hu : Un P b (EndsAt x ⟨n, e', h'⟩) (m + 1) ⟨n, e, h⟩ := AGo.un_succ (AGo.mono (a2 fun p hp => hl p (b1 p hp)) fun x2 s2 hh => then_of hh (fun _ => hm) (fun hn => absurd rfl hn))
          exact ⟨AGo.unroll _ hu, fun b' hb => by cases hb; exact ⟨_, hu⟩⟩
        · rename_i hne
          simp only [Option.some.injEq, Prod.mk.injEq] at hx
          obtain ⟨rfl, rfl, rfl, rfl, rfl⟩ := hx
          refine ⟨a1, fun hl => ?_⟩
          have hu : Un P b (EndsAt x1 ⟨n, e1, h1⟩) 0 ⟨n, e, h⟩ := AGo.un_zero (AGo.mono (a2 hl) fun x2 s2 hh => then_of hh (fun hn => absurd hn hne) (fun _ => ⟨rfl, rfl⟩))
          exact ⟨AGo.unroll _ hu, fun b' hb => by cases hb; exact ⟨_, hu⟩⟩
      · cases hx
    | scope b =>
      simp only [xGo] at hx
      split at hx
      · rename_i x1 e1 h1 k1 lg1 hg
        obtain ⟨a1, a2⟩ := ih1 _ _ _ _ _ _ _ _ _ _ _ hg
        split at hx
        · cases hx
        · rename_i hne
          simp only [Option.some.injEq, Prod.mk.injEq] at hx
          obtain ⟨rfl, rfl, rfl, rfl, rfl⟩ := hx
          refine ⟨a1, fun hl => ⟨AGo.scope (AGo.mono (a2 hl) fun x2 s2 hh => ?_), fun b hb => by cases hb⟩⟩
          obtain ⟨rfl, rfl⟩ := hh
          cases x2 with
          | goto i => exact absurd rfl (hne i)
          | _ => exact ⟨rfl, rfl⟩
      · cases hx
    | region id ops dr =>
      cases dr with
      | false =>
        simp only [xGo] at hx
        generalize hfz : frzAt fz n id k e h = eh at hx
        obtain ⟨e0, h0⟩ := eh
        have hgst := frzAt_ghost hfz
        simp only at hx
        split at hx
        · rename_i e1 h1 k1 lg1 hg
          simp only [Option.some.injEq, Prod.mk.injEq] at hx
          obtain ⟨rfl, rfl, rfl, rfl, rfl⟩ := hx
          obtain ⟨a1, a2⟩ := xOps_spec hT hmt hcl _ hg
          exact ⟨a1, fun hl => ⟨AGo.ghost hgst (AGo.region (a2 hl _ ⟨rfl, rfl⟩)), fun b hb => by cases hb⟩⟩
        · cases hx
      | true =>
        simp only [xGo] at hx
        generalize hfz : frzAt fz n id k e h = eh at hx
        obtain ⟨e0, h0⟩ := eh
        have hgst := frzAt_ghost hfz
        simp only at hx
        split at hx
        · rename_i e1 h1 k1 lg1 hg
          simp only [Option.some.injEq, Prod.mk.injEq] at hx
          obtain ⟨rfl, rfl, rfl, rfl, rfl⟩ := hx
          obtain ⟨a1, a2⟩ := xDops_spec hT hcl _ hg
          exact ⟨a1, fun hl => ⟨AGo.ghost hgst (AGo.draw hmx (a2 hl _ ⟨rfl, rfl⟩)), fun b hb => by cases hb⟩⟩
        · cases hx
    | _ => simp only [xGo] at hx; cases hx
end
theorem AGo.endsGhost {P : Program} {c : Code} {x : Exit} {s s1 s2 : AState} (h : AGo P c s (EndsAt x s1)) (hg : Ghost s1 s2) : AGo P c s (EndsAt x s2) := fun H ι a w hs =>
  wp_mono (h H ι a w hs) fun e a' w' hp => by
    obtain ⟨s', H', ι', ⟨rfl, rfl⟩, h1, h2⟩ := hp
    obtain ⟨H2, ι2, h3, h4⟩ := hg H' ι' a' w' h1
    exact ⟨s2, H2, ι2, ⟨rfl, rfl⟩, h3, h2.trans hs.heap h1.heap h4⟩
def resRefs (e : AEnv) : List ResultVar → List Nat
  | [] => []
  | .tmp t :: rs => (match e t with | some x => refsOf x | none => []) ++ resRefs e rs
  | .cell t _ :: rs => (match e t with | some x => refsOf x | none => []) ++ resRefs e rs
def runR (P : Program) (T : Nat → Option TyI) (mt : Nat → String → Option Nat) (ct : Nat → Option (List AV → Option AV)) (fz : Nat → Nat → Option Nat) (g f : Nat) (xs : List AV) : Option (AV × XLog) := match fnEv P f with
  | some (fn, c) => match xGo P T mt ct fz g (xs.length + (fn.ntmps - xs.length)) c (argEnv xs) hNew 0 [] with
    | some (x, e1, h1, k1, lg1) => match frzL (xs.length + (fn.ntmps - xs.length)) k1 (reachL h1 4 (resRefs e1 fn.results.toList)) e1 h1 with
      | (e2, h2) => match endsOk x, resEv T e2 h2 fn.results.toList with
        | true, some ys => match (packAV ys).isPure with
          | true => some (packAV ys, lg1)
          | false => none
        | _, _ => none
    | none => none
  | none => none
theorem APure.of_runR {P : Program} {T : Nat → Option TyI} {mt : Nat → String → Option Nat} {ct : Nat → Option (List AV → Option AV)} {fz : Nat → Nat → Option Nat} (hT : TOk P T) (hmt : mtOk P mt) (hmx : P.follows .mixedOrders = true) (g : Nat) {f : Nat} {xs : List AV} {r : AV} {lg : XLog}
    (hx : runR P T mt ct fz g f xs = some (r, lg)) (hl : LogOk P lg) : APure P f xs (fun r' => r' = r) := by
  unfold runR at hx
  split at hx
  · rename_i fn c hfn
    obtain ⟨f1, f2, f3⟩ := fnEv_spec hfn
    split at hx
    · rename_i x e1 h1 k1 lg1 hg
      split at hx
      rename_i e2 h2 hfz
      split at hx
      · rename_i ys hend hres
        split at hx
        · rename_i hp
          simp only [Option.some.injEq, Prod.mk.injEq] at hx
          obtain ⟨rfl, rfl⟩ := hx
          have ha := ((xGo_spec hT hmt hmx g _ _ _ _ _ _ _ _ _ _ _ hg).2 hl).1
          refine APure.of_body hT f1 f2 rfl (AGo.mono (AGo.endsGhost ha (frzL_ghost _ hfz)) fun x1 s1 hh => ?_)
          obtain ⟨rfl, rfl⟩ := hh
          cases x1 <;> simp [endsOk] at hend
          · exact ⟨ys, resEv_spec hres, rfl, hp⟩
          · exact ⟨ys, resEv_spec hres, rfl, hp⟩
        · cases hx
      · cases hx
    · cases hx
  · cases hx
theorem logOk_nil (P : Program) : LogOk P [] := fun p hp => by cases hp
theorem logOk_cons {P : Program} {f : Nat} {xs : List AV} {r : AV} {lg : XLog} (h : APure P f xs (fun r' => r' = r)) (hl : LogOk P lg) : LogOk P ((f, xs, r) :: lg) := fun p hp => by
  cases hp with
  | head => exact h
  | tail _ hp => exact hl p hp
theorem logOk_app {P : Program} {a b : XLog} (h1 : LogOk P a) (h2 : LogOk P b) : LogOk P (a ++ b) := fun p hp => (List.mem_append.1 hp).elim (h1 p) (h2 p)
def tinyA : BFunc := ⟨3, [⟨[⟨1, 0, 0, 0, 0, 0, 0, 60⟩, ⟨1, 1, 0, 0, 0, 0, 0, 5⟩, ⟨3, 2, 0, 1, 4, 0, 0, 0⟩, ⟨9, 0, 2, 0, 0, 0, 0, 0⟩], 3, 0, 0, 0⟩]⟩
def tinyB : BFunc := ⟨3, [⟨[⟨1, 0, 0, 0, 0, 0, 0, 60⟩, ⟨1, 1, 0, 0, 0, 0, 0, 5⟩, ⟨1, 2, 0, 0, 0, 0, 0, 65⟩, ⟨9, 0, 2, 0, 0, 0, 0, 0⟩], 3, 0, 0, 0⟩]⟩
def tinyC : BFunc := ⟨3, [⟨[⟨1, 2, 0, 0, 0, 0, 0, 65⟩, ⟨9, 0, 2, 0, 0, 0, 0, 0⟩], 3, 0, 0, 0⟩]⟩
def certT : Cert := ⟨[[true, true, true]]⟩
def certF : Cert := ⟨[[false, false, false]]⟩
def tinyP (f : BFunc) : Blocks := ⟨0, [f]⟩
theorem APure.of_call {P : Program} {f : Nat} {args : List AV} {r : AV} {h0 : AHeap} (hp : r.isPure = true) (hc : ACall P f args hNew (fun r' h' => r' = r ∧ HSub h0 h')) : APure P f args (fun r' => r' = r) := by
  intro H w vs ha hk
  refine (hc H noLay w vs ha (heapRel_new hk)).mono fun e w' hx => ?_
  obtain ⟨v, r', h', H', ι', rfl, ⟨rfl, _⟩, h3, h4, h5⟩ := hx
  have hno : ∀ rb, ¬ Owned hNew noLay rb := fun rb ho => by obtain ⟨b, o, r, e1, e2, e3, _⟩ := ho; cases e3
  exact ⟨v, r', H', rfl, rfl, pure_rel hp h3, ⟨h5.size, h5.os, h5.out, fun rb hlt => h5.keep rb hlt (hno rb), h5.kle, fun b hb => (h5.knew b hb).imp id fun h => h.resolve_right (hno b), h4.know⟩⟩
def mt35 : Nat → String → Option Nat := fun t s => bif Nat.beq t 97 then (bif s == "seedcorn/optimize.run" then some 128 else bif s == "seedcorn/optimize.holds" then some 127 else none) else bif Nat.beq t 99 then (bif s == "seedcorn/optimize.run" then some 142 else bif s == "seedcorn/optimize.holds" then some 141 else none) else none
theorem mt_cr (v : Value) (w : World) : (method (Tryz.prog.types.size + Made.depth) 97 v "seedcorn/optimize.run").run Tryz.prog w = .ok (128, v) w := by kernel_rfl
theorem mt_ch (v : Value) (w : World) : (method (Tryz.prog.types.size + Made.depth) 97 v "seedcorn/optimize.holds").run Tryz.prog w = .ok (127, v) w := by kernel_rfl
theorem mt_jr (v : Value) (w : World) : (method (Tryz.prog.types.size + Made.depth) 99 v "seedcorn/optimize.run").run Tryz.prog w = .ok (142, v) w := by kernel_rfl
theorem mt_jh (v : Value) (w : World) : (method (Tryz.prog.types.size + Made.depth) 99 v "seedcorn/optimize.holds").run Tryz.prog w = .ok (141, v) w := by kernel_rfl
theorem mt_ok : mtOk Tryz.prog mt35 := fun t name f v w h => by
  unfold mt35 at h
  cases ht : Nat.beq t 97 with
  | true =>
    obtain rfl := Nat.eq_of_beq_eq_true ht
    rw [ht] at h
    simp only [cond_true] at h
    cases h1 : name == "seedcorn/optimize.run" with
    | true =>
      rw [h1] at h
      obtain rfl := eq_of_beq h1
      simp only [cond_true, Option.some.injEq] at h
      subst h
      exact mt_cr v w
    | false =>
      rw [h1] at h
      cases h2 : name == "seedcorn/optimize.holds" with
      | true =>
        rw [h2] at h
        obtain rfl := eq_of_beq h2
        simp only [cond_true, cond_false, Option.some.injEq] at h
        subst h
        exact mt_ch v w
      | false => rw [h2] at h; cases h
  | false =>
    rw [ht] at h
    cases ht2 : Nat.beq t 99 with
    | true =>
      obtain rfl := Nat.eq_of_beq_eq_true ht2
      rw [ht2] at h
      simp only [cond_true, cond_false] at h
      cases h1 : name == "seedcorn/optimize.run" with
      | true =>
        rw [h1] at h
        obtain rfl := eq_of_beq h1
        simp only [cond_true, Option.some.injEq] at h
        subst h
        exact mt_jr v w
      | false =>
        rw [h1] at h
        cases h2 : name == "seedcorn/optimize.holds" with
        | true =>
          rw [h2] at h
          obtain rfl := eq_of_beq h2
          simp only [cond_true, cond_false, Option.some.injEq] at h
          subst h
          exact mt_jh v w
        | false => rw [h2] at h; cases h
    | false => rw [ht2] at h; cases h
def fz35 : Nat → Nat → Option Nat := fun n i => bif Nat.beq n 83 && Nat.beq i 14 then some 6 else bif Nat.beq n 90 && Nat.beq i 19 then some 14 else none
def tinyBl : Block := ⟨[⟨1, 2, 0, 0, 0, 0, 0, 65⟩, ⟨9, 0, 2, 0, 0, 0, 0, 0⟩], 3, 0, 0, 0⟩
def touchR : AV := .tup [.lst false [[.int .u64 0]], .lst false [[.int .u64 4]]]
def ct35 : Nat → Option (List AV → Option AV) := fun f => bif Nat.beq f 97 then some (fun _ => some touchR) else none
def certAT : AV := .lst false [[.lst false [[.bool true], [.bool true], [.bool true]]]]
def certAF : AV := .lst false [[.lst false [[.bool false], [.bool false], [.bool false]]]]
def tinyCX : List AV := [.int .i64 3, .lst false [[.lst true (tinyBl.ins.map Tac.cells), .int .i64 3, .int .i64 0, .int .i64 0, .int .i64 0]]]
def tinyPs : AV := .lst false [
  [.int .i64 1, certAT, .nil] ++ tinyB.cells,
  [.int .i64 2, certAT, .nil] ++ tinyB.cells,
  [.int .i64 3, certAF, .nil] ++ tinyC.cells,
  [.int .i64 4, .nil, .lst false [[.lst false [[.int .i64 0]]]]] ++ tinyCX]
def tinyR : AV := .tup [.agg [.int .i64 0, .lst false [tinyCX]], .lst false [[tinyPs]], .int .i64 0]
def tinyAA : List AV := [.agg (tinyP tinyA).cells, .lst false [[.int .i64 1], [.int .i64 2], [.int .i64 3], [.int .i64 4]]]
def ctA : Nat → Option (List AV → Option AV) := fun f => bif Nat.beq f 129 then some (fun _ => some (.bool true)) else bif Nat.beq f 30 then some (fun _ => some (.agg (tinyP tinyA).cells)) else bif Nat.beq f 15 then some (fun xs => match xs with | [_, .lst _ (_ :: _ :: _)] => some tinyR | _ => none) else none
def noCt : Nat → Option (List AV → Option AV) := fun _ => none
def tiny_log : XLog := [(30, [], .agg (tinyP tinyA).cells)]
def vlog : XLog := [(129, [.agg tinyB.cells, .agg tinyC.cells, .agg [certAF]], .bool true), (129, [.agg tinyB.cells, .agg tinyB.cells, .agg [certAT]], .bool true), (129, [.agg tinyA.cells, .agg tinyB.cells, .agg [certAT]], .bool true)]
theorem tiny_ok : APure Tryz.prog 30 [] (fun r => r = .agg (tinyP tinyA).cells) :=
  APure.of_runR (ct := noCt) (fz := fz35) (lg := []) tok mt_ok (by kernel_rfl) 1000 (by kernel_rfl) (logOk_nil _)
theorem tiny_l : LogOk Tryz.prog tiny_log := logOk_cons tiny_ok (logOk_nil _)
theorem awake_ev (ho : APure Tryz.prog 15 tinyAA (fun r => r = tinyR)) (hv : LogOk Tryz.prog vlog) : APure Tryz.prog 14 [] (fun r => r = .bool true) :=
  APure.of_runR (ct := ctA) (fz := fz35) (lg := tiny_log ++ (vlog ++ (tiny_log ++ (tiny_log ++ ((15, tinyAA, tinyR) :: tiny_log))))) tok mt_ok (by kernel_rfl) 1000 (by kernel_rfl)
    (logOk_app tiny_l (logOk_app hv (logOk_app tiny_l (logOk_app tiny_l (logOk_cons ho tiny_l)))))
def need (v : Nat) : List Tac → Bool → Bool
  | [], z => z
  | t :: r, z => t.uses.contains (v : Int) || (!(t.sets == (v : Int)) && need v r z)
theorem need_app (v : Nat) (l2 : List Tac) (z : Bool) : ∀ l1, need v (l1 ++ l2) z = need v l1 (need v l2 z)
  | [] => rfl
  | t :: r => by rw [List.cons_append, need, need, need_app v l2 z r]
def endz (x : Block) (v : Nat) : Bool := x.fin == 2 && x.v == (v : Int)
inductive LiveIn (f : BFunc) (v : Nat) : Nat → Prop
  | here {c : Nat} {x : Block} : f.blocks[c]? = some x → need v x.ins (endz x v) = true → LiveIn f v c
  | thru {c : Nat} {d : Int} {x : Block} : f.blocks[c]? = some x → need v x.ins true = true → d ∈ x.nexts → LiveIn f v d.toNat → LiveIn f v c
open Classical in
noncomputable def inB (f : BFunc) (v c : Nat) : Bool := decide (LiveIn f v c)
noncomputable def outB (f : BFunc) (x : Block) (v : Nat) : Bool := x.nexts.any fun d => inB f v d.toNat
theorem inB_iff {f : BFunc} {v c : Nat} : inB f v c = true ↔ LiveIn f v c := by unfold inB; simp
theorem outB_iff {f : BFunc} {x : Block} {v : Nat} : outB f x v = true ↔ ∃ d ∈ x.nexts, LiveIn f v d.toNat := by
  unfold outB
  rw [List.any_eq_true]
  exact ⟨fun ⟨d, h1, h2⟩ => ⟨d, h1, inB_iff.1 h2⟩, fun ⟨d, h1, h2⟩ => ⟨d, h1, inB_iff.2 h2⟩⟩
def Tac.pure (t : Tac) : Bool := t.op == 1 || (t.op == 2 || (t.op == 4 || (t.op == 3 && (!(t.k == 7) && !(t.k == 8)))))
end Go.Proofs.YtbbfelelocccmaaGreat.Sv
namespace Go.Proofs.YtbbfelelocccmaaGreat.Sv
open Go
section
variable {call call' : Int → Mach → Mach} {s : ByteArray} {fuel : Int}
theorem sets_eq {t : Tac} (h : setsOp t.op = true) : t.sets = t.d := by unfold Tac.sets; rw [h]; rfl
end
def mrow (R : Nat) (p : Nat → Bool) : List Bool := (List.range R).map p
def nd (R : Nat) (x : Block) (p : Nat → Bool) (i : Nat) : List Bool := mrow R (fun v => need v (x.ins.drop i) (endz x v || p v))
abbrev BB := Nat → Nat → Bool
def SoundI (f : BFunc) (I : BB) : Prop := ∀ b v, I b v = true → LiveIn f v b
def SoundO (f : BFunc) (O : BB) : Prop := ∀ b v, O b v = true → ∃ x, f.blocks[b]? = some x ∧ outB f x v = true
def falses (n R : Nat) (I : BB) : Nat := ((List.range n).map fun b => ((List.range R).map fun v => if I b v then 0 else 1).sum).sum
def putBB (I : BB) (b v : Nat) (z : Bool) : BB := fun b' v' => if b' = b ∧ v' = v then z else I b' v'
theorem sum_lt {n : Nat} {p q : Nat → Nat} (h : ∀ k, k < n → p k ≤ q k) {j : Nat} (hj : j < n) (hlt : p j < q j) : ((List.range n).map p).sum < ((List.range n).map q).sum := by
  induction n with
  | zero => omega
  | succ n ih =>
    rw [List.range_succ, List.map_append, List.map_append, List.sum_append, List.sum_append]
    simp only [List.map_cons, List.map_nil, List.sum_cons, List.sum_nil]
    have hle : ∀ m, m ≤ n → ((List.range m).map p).sum ≤ ((List.range m).map q).sum := by
      intro m
      induction m with
      | zero => intro _; exact Nat.le_refl _
      | succ m im =>
        intro hm
        rw [List.range_succ, List.map_append, List.map_append, List.sum_append, List.sum_append]
        simp only [List.map_cons, List.map_nil, List.sum_cons, List.sum_nil]
        have := im (by omega); have := h m (by omega); omega
    have h1 := h n (by omega)
    by_cases hjn : j = n
    · subst hjn; have := hle j (Nat.le_refl _); omega
    · have := ih (fun k hk => h k (by omega)) (by omega); omega
theorem falses_put {n R : Nat} {I : BB} {b v : Nat} (hb : b < n) (hv : v < R) (h : I b v = false) : falses n R (putBB I b v true) < falses n R I := by
  unfold falses
  have hp : ∀ b' v', (if putBB I b v true b' v' then 0 else 1) ≤ (if I b' v' then 0 else 1 : Nat) := fun b' v' => by
    unfold putBB
    split
    · simp
    · split <;> simp_all
  have hsum : ∀ (m : Nat) (p q : Nat → Nat), (∀ k, p k ≤ q k) → ((List.range m).map p).sum ≤ ((List.range m).map q).sum := fun m p q hpq => by
    induction m with
    | zero => exact Nat.le_refl _
    | succ m im =>
      rw [List.range_succ, List.map_append, List.map_append, List.sum_append, List.sum_append]
      simp only [List.map_cons, List.map_nil, List.sum_cons, List.sum_nil]
      have := hpq m; omega
  refine sum_lt (fun k _ => hsum R _ _ (hp k)) hb ?_
  refine sum_lt (fun k _ => hp b k) hv ?_
  unfold putBB
  simp [h]
theorem soundO_put {f : BFunc} {I O : BB} (hI : SoundI f I) (hO : SoundO f O) {b v : Nat} {x : Block} {d : Int} (hx : f.blocks[b]? = some x) (hd : d ∈ x.nexts) : SoundO f (putBB O b v (O b v || I d.toNat v)) := by
  intro b' v' h
  unfold putBB at h
  split at h
  · rename_i e
    obtain ⟨rfl, rfl⟩ := e
    rw [Bool.or_eq_true] at h
    rcases h with h | h
    · exact hO _ _ h
    · exact ⟨x, hx, outB_iff.2 ⟨d, hd, hI _ _ h⟩⟩
  · exact hO _ _ h
theorem soundI_put {f : BFunc} {I : BB} (hI : SoundI f I) {b v : Nat} (h : LiveIn f v b) : SoundI f (putBB I b v true) := by
  intro b' v' h'
  unfold putBB at h'
  split at h'
  · rename_i e
    obtain ⟨rfl, rfl⟩ := e
    exact h
  · exact hI _ _ h'
theorem putBB_row (I : BB) (b v : Nat) (z : Bool) : putBB I b v z b = fun u => if u = v then z else I b u := by
  funext u; unfold putBB; simp
theorem putBB_ne {I : BB} {b b' : Nat} (v : Nat) (z : Bool) (h : b' ≠ b) : putBB I b v z b' = I b' := by
  funext u; unfold putBB; simp [h]
def b2n (b : Bool) : Nat := bif b then 1 else 0
structure RG where
  I : BB
  O : BB
  more : Bool
structure OInv (f : BFunc) (R : Nat) (I O0 : BB) (b : Nat) (x : Block) (O : BB) (j v : Nat) : Prop where
  so : SoundO f O
  ne : ∀ b', b' ≠ b → O b' = O0 b'
  js : ∀ j', j' < j → ∀ d, x.nexts[j']? = some d → ∀ u, u < R → I d.toNat u = true → O b u = true
  vs : ∀ d, x.nexts[j]? = some d → ∀ u, u < v → I d.toNat u = true → O b u = true
theorem OInv.step {f : BFunc} {R : Nat} {I O0 : BB} {b : Nat} {x : Block} {O : BB} {j v : Nat} (hI : SoundI f I) (hx : f.blocks[b]? = some x) {d : Int} (hd : x.nexts[j]? = some d) (h : OInv f R I O0 b x O j v) : OInv f R I O0 b x (putBB O b v (O b v || I d.toNat v)) j (v + 1) := by
  have hmono : ∀ u, O b u = true → putBB O b v (O b v || I d.toNat v) b u = true := fun u hu => by
    rw [putBB_row]
    show (if u = v then _ else _) = true
    by_cases e : u = v
    · subst e; rw [if_pos rfl, hu]; rfl
    · rw [if_neg e]; exact hu
  refine ⟨soundO_put hI h.so hx (List.mem_of_getElem? hd), fun b' hb => by rw [putBB_ne _ _ hb]; exact h.ne b' hb, fun j' hj d' hd' u hu hi => hmono u (h.js j' hj d' hd' u hu hi), fun d' hd' u hu hi => ?_⟩
  rw [hd] at hd'; cases hd'
  by_cases e : u = v
  · subst e
    rw [putBB_row]
    show (if u = u then _ else _) = true
    rw [if_pos rfl, hi, Bool.or_true]
  · exact hmono u (h.vs d hd u (by omega) hi)
structure AInv (f : BFunc) (R B : Nat) (g : RG) (b : Nat) (p : Nat → Bool) (I : BB) (more : Bool) (v : Nat) : Prop where
  si : SoundI f I
  ms : more = false → g.more = false ∧ I = g.I
  bud : falses f.blocks.length R I + b2n more ≤ B
  us : ∀ u, u < v → p u = true → I b u = true
theorem AInv.skip {f : BFunc} {R B : Nat} {g : RG} {b : Nat} {p : Nat → Bool} {I : BB} {more : Bool} {v : Nat} (h : AInv f R B g b p I more v) (hp : (p v && !I b v) = false) : AInv f R B g b p I more (v + 1) := by
  refine ⟨h.si, h.ms, h.bud, fun u hu e => ?_⟩
  by_cases eu : u = v
  · subst eu
    rw [e] at hp
    simpa using hp
  · exact h.us u (by omega) e
theorem AInv.put {f : BFunc} {R B : Nat} {g : RG} {b : Nat} {p : Nat → Bool} {I : BB} {more : Bool} {v : Nat} (h : AInv f R B g b p I more v) (hp : (p v && !I b v) = true) (hb : b < f.blocks.length) (hv : v < R) (hl : p v = true → LiveIn f v b) : AInv f R B g b p (putBB I b v true) true (v + 1) := by
  simp only [Bool.and_eq_true, Bool.not_eq_true'] at hp
  have hf := falses_put (I := I) hb hv hp.2
  refine ⟨soundI_put h.si (hl hp.1), (fun e => by cases e), ?_, fun u hu e => ?_⟩
  · have := h.bud
    show _ + 1 ≤ B
    omega
  · rw [putBB_row]
    show (if u = v then _ else _) = true
    by_cases eu : u = v
    · rw [if_pos eu]
    · rw [if_neg eu]; exact h.us u (by omega) e
def encN (p : Nat → Bool) : Nat → Nat
  | 0 => 0
  | n + 1 => encN p n + (if p n then 2 ^ n else 0)
theorem encN_lt (p : Nat → Bool) : ∀ n, encN p n < 2 ^ n
  | 0 => by simp [encN]
  | n + 1 => by
    have ih := encN_lt p n
    unfold encN
    have : 2 ^ (n + 1) = 2 ^ n + 2 ^ n := by rw [Nat.pow_succ]; omega
    split <;> omega
theorem encN_bit (p : Nat → Bool) : ∀ n i, (encN p n).testBit i = (decide (i < n) && p i)
  | 0, i => by simp [encN]
  | n + 1, i => by
    have ih := encN_bit p n i
    have hlt := encN_lt p n
    unfold encN
    by_cases hp : p n = true
    · rw [if_pos hp, Nat.add_comm]
      by_cases h1 : i < n
      · rw [Nat.testBit_two_pow_add_gt h1, ih]
        simp [h1]; omega
      · by_cases h2 : i = n
        · subst h2
          rw [Nat.testBit_two_pow_add_eq, ih]
          simp [hp]
        · have h3 : 2 ^ n + encN p n < 2 ^ i := by
            have : 2 ^ (n + 1) ≤ 2 ^ i := Nat.pow_le_pow_right (by omega) (by omega)
            rw [Nat.pow_succ] at this; omega
          rw [Nat.testBit_lt_two_pow h3]
          have : ¬ i < n + 1 := by omega
          simp [this]
    · rw [if_neg hp, Nat.add_zero, ih]
      by_cases h2 : i = n
      · subst h2; simp [hp]
      · by_cases h1 : i < n
        · have : i < n + 1 := by omega
          simp [h1, this]
        · have : ¬ i < n + 1 := by omega
          simp [h1, this]
theorem eq_encN {p : Nat → Bool} {n x : Nat} (h : ∀ i, x.testBit i = (decide (i < n) && p i)) : x = encN p n := Nat.eq_of_testBit_eq fun i => by rw [h, encN_bit]
theorem encN_congr {p q : Nat → Bool} {n : Nat} (h : ∀ i, i < n → p i = q i) : encN p n = encN q n := eq_encN fun i => by
  rw [encN_bit]
  by_cases hi : i < n
  · simp [hi, h i hi]
  · simp [hi]
theorem wrap_u64 {x : Nat} (h : x < 18446744073709551616) : IntKind.u64.wrap (x : Int) = (x : Int) := wrapN_u64 h
theorem ofInt_nat (w x : Nat) : BitVec.ofInt w (x : Int) = BitVec.ofNat w x := by
  apply BitVec.eq_of_toNat_eq
  simp
def wd (p : Nat → Bool) : Nat := encN p 64
theorem wd_lt (p : Nat → Bool) : wd p < 18446744073709551616 := encN_lt p 64
theorem wd_bit (p : Nat → Bool) (i : Nat) : (wd p).testBit i = (decide (i < 64) && p i) := encN_bit p 64 i
theorem wd_mod (p : Nat → Bool) : wd p % 2 ^ 64 = wd p := Nat.mod_eq_of_lt (wd_lt p)
theorem wd_or (p q : Nat → Bool) : evalBin .or (.int .u64 (wd p : Int)) (.int .u64 (wd q : Int)) = some (.int .u64 (wd (fun v => p v || q v) : Int)) := by
  have e : (BitVec.ofInt 64 (wd p : Int) ||| BitVec.ofInt 64 (wd q : Int)).toNat = wd (fun v => p v || q v) := by
    rw [ofInt_nat, ofInt_nat, BitVec.toNat_or, BitVec.toNat_ofNat, BitVec.toNat_ofNat, wd_mod, wd_mod]
    refine eq_encN fun i => ?_
    rw [Nat.testBit_or, wd_bit, wd_bit]
    cases decide (i < 64) <;> simp
  show some (AV.int .u64 (IntKind.u64.wrap ((BitVec.ofInt 64 (wd p : Int) ||| BitVec.ofInt 64 (wd q : Int)).toNat : Int))) = _
  rw [e, wrap_u64 (wd_lt _)]
theorem wd_andNot (p q : Nat → Bool) : evalBin .andNot (.int .u64 (wd p : Int)) (.int .u64 (wd q : Int)) = some (.int .u64 (wd (fun v => p v && !q v) : Int)) := by
  have e : (BitVec.ofInt 64 (wd p : Int) &&& ~~~BitVec.ofInt 64 (wd q : Int)).toNat = wd (fun v => p v && !q v) := by
    refine eq_encN fun i => ?_
    rw [ofInt_nat, ofInt_nat]
    rw [← BitVec.getLsbD.eq_1, BitVec.getLsbD_and, BitVec.getLsbD_not, BitVec.getLsbD_ofNat, BitVec.getLsbD_ofNat, wd_bit, wd_bit]
    cases decide (i < 64) <;> simp
  show some (AV.int .u64 (IntKind.u64.wrap ((BitVec.ofInt 64 (wd p : Int) &&& ~~~BitVec.ofInt 64 (wd q : Int)).toNat : Int))) = _
  rw [e, wrap_u64 (wd_lt _)]
theorem wd_one {i : Nat} (h : i < 64) : evalBin .shl (.int .u64 1) (.int .i64 (i : Int)) = some (.int .u64 (wd (fun v => v == i) : Int)) := by
  have e : (2 : Nat) ^ i = wd (fun v => v == i) := eq_encN fun k => by
    rw [Nat.testBit_two_pow]
    by_cases hk : k = i
    · subst hk; simp [h]
    · have : ¬ i = k := fun e => hk e.symm
      simp [hk, this]
  have hl : (2 : Nat) ^ i < 18446744073709551616 := by rw [e]; exact wd_lt _
  have h1 : min ((i : Int).toNat) IntKind.u64.bits = i := by rw [Int.toNat_natCast]; show min i 64 = i; omega
  have h2 : evalBin .shl (.int .u64 1) (.int .i64 (i : Int)) = some (.int .u64 (IntKind.u64.wrap (1 * 2 ^ (min ((i : Int).toNat) IntKind.u64.bits)))) := by
    have hn : ¬ ((i : Int) < 0) := by omega
    simp [evalBin, isShift, evalInt, hn]
  rw [h2, h1, Int.one_mul, show ((2 : Int) ^ i) = (((2 : Nat) ^ i : Nat) : Int) by simp, wrap_u64 hl, e]
def nw (R : Nat) : Nat := (R + 63) / 64
def wdcell (p : Nat → Bool) (j : Nat) : List AV := [AV.int .u64 ((wd (fun v => p (64 * j + v)) : Nat) : Int)]
def rowW (R : Nat) (p : Nat → Bool) : List (List AV) := (List.range (nw R)).map (wdcell p)
theorem rowW_len (R : Nat) (p : Nat → Bool) : (rowW R p).length = nw R := by simp [rowW]
theorem rowW_get {R : Nat} {p : Nat → Bool} {j : Nat} (h : j < nw R) : (rowW R p)[j]? = some (wdcell p j) := by simp [rowW, h]
theorem nw_of {R i : Nat} (h : i < R) : i / 64 < nw R := by unfold nw; omega
theorem wdcell_congr {p q : Nat → Bool} {j : Nat} (h : ∀ v, v < 64 → p (64 * j + v) = q (64 * j + v)) : wdcell p j = wdcell q j := by
  unfold wdcell wd
  rw [encN_congr h]
theorem rowW_congr {R : Nat} {p q : Nat → Bool} (h : ∀ v, p v = q v) : rowW R p = rowW R q := List.map_congr_left fun j _ => wdcell_congr fun v _ => h _
theorem rowW_zero (R : Nat) : List.replicate (nw R) [AV.int .u64 0] = rowW R (fun _ => false) := by
  have e : ∀ j, wdcell (fun _ => false) j = [AV.int .u64 0] := fun j => by
    unfold wdcell wd
    have : encN (fun _ => false) 64 = 0 := (eq_encN (p := fun _ => false) (n := 64) (x := 0) (fun i => by simp)).symm
    rw [this]; rfl
  refine List.ext_getElem? fun i => ?_
  by_cases h : i < nw R
  · rw [rowW_get h, List.getElem?_replicate, if_pos h, e]
  · rw [List.getElem?_eq_none_iff.2 (by rw [List.length_replicate]; omega), List.getElem?_eq_none_iff.2 (by rw [rowW_len]; omega)]
theorem rowW_set {R : Nat} {p q : Nat → Bool} {j : Nat} (h1 : ∀ v, v / 64 ≠ j → q v = p v) : (rowW R p).set j (wdcell q j) = rowW R q := by
  refine List.ext_getElem? fun i => ?_
  rw [List.getElem?_set]
  by_cases hi : i < nw R
  · rw [rowW_get hi, rowW_get hi, rowW_len]
    by_cases h : j = i
    · subst h; simp [hi]
    · rw [if_neg h]
      congr 1
      exact wdcell_congr fun v hv => (h1 _ (by omega)).symm
  · have e1 : (rowW R p)[i]? = none := List.getElem?_eq_none_iff.2 (by rw [rowW_len]; omega)
    have e2 : (rowW R q)[i]? = none := List.getElem?_eq_none_iff.2 (by rw [rowW_len]; omega)
    rw [e1, e2, rowW_len]
    by_cases h : j = i
    · subst h; simp [hi]
    · simp [h]
theorem bit_at {i v : Nat} (hv : v < 64) : (64 * (i / 64) + v == i) = (v == i % 64) := by
  rw [Bool.eq_iff_iff, beq_iff_eq, beq_iff_eq]; omega
theorem wdcell_add (p : Nat → Bool) (i : Nat) : wdcell (fun v => p v || v == i) (i / 64) = [AV.int .u64 ((wd (fun v => p (64 * (i / 64) + v) || v == i % 64) : Nat) : Int)] := by
  unfold wdcell wd
  rw [encN_congr (q := fun v => p (64 * (i / 64) + v) || v == i % 64) (fun v hv => ?_)]
  dsimp only
  rw [bit_at hv]
theorem wdcell_rm (p : Nat → Bool) (i : Nat) : wdcell (fun v => p v && !(v == i)) (i / 64) = [AV.int .u64 ((wd (fun v => p (64 * (i / 64) + v) && !(v == i % 64)) : Nat) : Int)] := by
  unfold wdcell wd
  rw [encN_congr (q := fun v => p (64 * (i / 64) + v) && !(v == i % 64)) (fun v hv => ?_)]
  dsimp only
  rw [bit_at hv]
theorem quo64 {i : Nat} (h : i ≤ 1000000000) : evalBin .quo (.int .i64 (i : Int)) (.int .i64 64) = some (.int .i64 ((i / 64 : Nat) : Int)) := ebin_quo (b := 64) (by decide) (wrapN_i64 (by omega))
theorem rem64 {i : Nat} : evalBin .rem (.int .i64 (i : Int)) (.int .i64 64) = some (.int .i64 ((i % 64 : Nat) : Int)) := ebin_rem (b := 64) (by decide)
def setsAny (v : Nat) (l : List Tac) : Bool := l.any fun t => t.sets == (v : Int)
def readP (x : Block) (v : Nat) : Bool := need v x.ins (endz x v)
def rmT (t : Tac) (p : Nat → Bool) : Nat → Bool := fun v => p v && !(t.sets == (v : Int))
def addUs (us : List Int) (p : Nat → Bool) : Nat → Bool := fun v => us.contains (v : Int) || p v
def setT (t : Tac) (q : Nat → Bool) : Nat → Bool := fun v => q v || t.sets == (v : Int)
def tR (x : Block) (pre : List Nat) : Nat → Bool := pre.foldl (fun p k => match x.ins[k]? with
  | some t => addUs t.uses (rmT t p)
  | none => p) (endz x)
def tS (x : Block) (pre : List Nat) : Nat → Bool := pre.foldl (fun p k => match x.ins[k]? with
  | some t => setT t p
  | none => p) (fun _ => false)
theorem tR_snoc {x : Block} {pre : List Nat} {k : Nat} {t : Tac} (h : x.ins[k]? = some t) : tR x (pre ++ [k]) = addUs t.uses (rmT t (tR x pre)) := by
  unfold tR; rw [List.foldl_append]; simp [h]
theorem tS_snoc {x : Block} {pre : List Nat} {k : Nat} {t : Tac} (h : x.ins[k]? = some t) : tS x (pre ++ [k]) = setT t (tS x pre) := by
  unfold tS; rw [List.foldl_append]; simp [h]
theorem rrev_succ (k : Nat) : (List.range (k + 1)).reverse = k :: (List.range k).reverse := by
  rw [List.range_succ, List.reverse_append]; rfl
theorem foldR (x : Block) (v : Nat) : ∀ (m : Nat) (p : Nat → Bool), m ≤ x.ins.length → ((List.range m).reverse.foldl (fun p k => match x.ins[k]? with
  | some t => addUs t.uses (rmT t p)
  | none => p) p) v = need v (x.ins.take m) (p v)
  | 0, p, _ => by simp [need]
  | m + 1, p, h => by
    obtain ⟨t, ht⟩ := get_of_lt (l := x.ins) (k := m) (by omega)
    rw [rrev_succ, List.foldl_cons, foldR x v m _ (by omega), ht]
    have e : x.ins.take (m + 1) = x.ins.take m ++ [t] := by
      rw [List.take_add_one, ht]; rfl
    rw [e, need_app]
    congr 1
    unfold addUs rmT
    simp [need, Bool.and_comm]
theorem foldS (x : Block) (v : Nat) : ∀ (m : Nat) (p : Nat → Bool), m ≤ x.ins.length → ((List.range m).reverse.foldl (fun p k => match x.ins[k]? with
  | some t => setT t p
  | none => p) p) v = (p v || setsAny v (x.ins.take m))
  | 0, p, _ => by simp [setsAny]
  | m + 1, p, h => by
    obtain ⟨t, ht⟩ := get_of_lt (l := x.ins) (k := m) (by omega)
    rw [rrev_succ, List.foldl_cons, foldS x v m _ (by omega), ht]
    have e : x.ins.take (m + 1) = x.ins.take m ++ [t] := by
      rw [List.take_add_one, ht]; rfl
    rw [e]
    unfold setT setsAny
    rw [List.any_append]
    simp only [List.any_cons, List.any_nil, Bool.or_false]
    cases p v <;> cases t.sets == (v : Int) <;> cases (List.any (List.take m x.ins) fun t => t.sets == (v : Int)) <;> rfl
theorem tR_all (x : Block) (v : Nat) : tR x (List.range x.ins.length).reverse v = readP x v := by
  have := foldR x v x.ins.length (endz x) (Nat.le_refl _)
  rw [List.take_length] at this
  exact this
theorem tS_all (x : Block) (v : Nat) : tS x (List.range x.ins.length).reverse v = setsAny v x.ins := by
  have := foldS x v x.ins.length (fun _ => false) (Nat.le_refl _)
  rw [List.take_length] at this
  exact this.trans (by simp)
def wRow (R : Nat) (p : Nat → Bool) : AObj := .row true 1 (rowW R p)
theorem wRow_congr {R : Nat} {p q : Nat → Bool} (h : ∀ v, p v = q v) : some (wRow R p) = some (wRow R q) := congrArg (fun es => some (AObj.row true 1 es)) (rowW_congr h)
theorem beq_toNat {d : Int} (h : 0 ≤ d) (v : Nat) : (v == d.toNat) = (d == (v : Int)) := by
  rw [Bool.eq_iff_iff, beq_iff_eq, beq_iff_eq]; omega
theorem rmT_pos {t : Tac} {p : Nat → Bool} (h : 0 ≤ t.sets) (v : Nat) : (p v && !(v == t.sets.toNat)) = rmT t p v := by unfold rmT; rw [beq_toNat h]
theorem setT_pos {t : Tac} {p : Nat → Bool} (h : 0 ≤ t.sets) (v : Nat) : (p v || v == t.sets.toNat) = setT t p v := by unfold setT; rw [beq_toNat h]
theorem rmT_neg {t : Tac} {p : Nat → Bool} (h : ¬ 0 ≤ t.sets) (v : Nat) : p v = rmT t p v := by
  unfold rmT
  have : (t.sets == (v : Int)) = false := by rw [beq_eq_false_iff_ne]; omega
  rw [this]; simp
theorem setT_neg {t : Tac} {p : Nat → Bool} (h : ¬ 0 ≤ t.sets) (v : Nat) : p v = setT t p v := by
  unfold setT
  have : (t.sets == (v : Int)) = false := by rw [beq_eq_false_iff_ne]; omega
  rw [this]; simp
theorem addUs_nil {p : Nat → Bool} (v : Nat) : p v = addUs [] p v := by simp [addUs]
theorem addUs_succ {us : List Int} {k : Nat} {u : Int} {p : Nat → Bool} (h : us[k]? = some u) (hu : 0 ≤ u) (v : Nat) : (addUs (us.take k) p v || v == u.toNat) = addUs (us.take (k + 1)) p v := by
  unfold addUs
  have e : us.take (k + 1) = us.take k ++ [u] := by rw [List.take_add_one, h]; rfl
  have e2 : (us.take k ++ [u]).contains (v : Int) = ((us.take k).contains (v : Int) || (v == u.toNat)) := by
    rw [beq_toNat hu, Bool.eq_iff_iff]
    simp only [List.contains_iff_mem, List.mem_append, List.mem_singleton, Bool.or_eq_true, beq_iff_eq]
    constructor
    · rintro (h | h)
      · exact .inl h
      · exact .inr h.symm
    · rintro (h | h)
      · exact .inl h
      · exact .inr h.symm
  rw [e, e2]
  cases (us.take k).contains (v : Int) <;> cases (v == u.toNat) <;> cases p v <;> rfl
theorem endz_add {x : Block} (h : x.fin = 2) (h0 : 0 ≤ x.v) (v : Nat) : (false || v == x.v.toNat) = endz x v := by
  rw [beq_toNat h0]; simp [endz, h]
theorem endz_no {x : Block} (h : ¬ x.fin = 2) (v : Nat) : false = endz x v := by
  simp [endz, h]
theorem bsetsOp_ok (op : Int) : APure Tryz.prog 64 [.int .i64 op] (fun r => r = .bool (setsOp op)) := by
 refine APure.of_body (n := 11) tok Tryz.func64 rfl rfl ?_;refine asr ?_;refine aa 2 ?_;refine an ?_;refine asq ?_;refine asr ?_;refine am 3 ?_;refine an ?_;refine AGo.block ?_;refine asq ?_;refine asr ?_;refine aQ tok 2 rfl ?_;refine an ?_;refine asp 4 (fun hb1 => ?_) fun hb1 => ?_
 ·
  refine act ?_;refine agk ?_;refine act ?_;refine asr ?_;refine aa 2 ?_;refine an ?_;refine agt ⟨[_], ⟨rfl, trivial⟩, ?_, rfl⟩
  refine bc ?_
  simp [setsOp, *]
 refine acf ?_;refine asr ?_;refine aQ tok 2 rfl ?_;refine an ?_;refine asp 4 (fun hb2 => ?_) fun hb2 => ?_
 ·
  refine act ?_;refine agk ?_;refine act ?_;refine asr ?_;refine aa 2 ?_;refine an ?_;refine agt ⟨[_], ⟨rfl, trivial⟩, ?_, rfl⟩
  refine bc ?_
  simp [setsOp, *]
 refine acf ?_;refine asr ?_;refine aQ tok 2 rfl ?_;refine an ?_;refine asp 4 (fun hb3 => ?_) fun hb3 => ?_
 ·
  refine act ?_;refine agk ?_;refine act ?_;refine asr ?_;refine aa 2 ?_;refine an ?_;refine agt ⟨[_], ⟨rfl, trivial⟩, ?_, rfl⟩
  refine bc ?_
  simp [setsOp, *]
 refine acf ?_;refine asr ?_;refine aQ tok 2 rfl ?_;refine an ?_;refine asp 4 (fun hb4 => ?_) fun hb4 => ?_
 ·
  refine act ?_;refine agk ?_;refine act ?_;refine asr ?_;refine aa 2 ?_;refine an ?_;refine agt ⟨[_], ⟨rfl, trivial⟩, ?_, rfl⟩
  refine bc ?_
  simp [setsOp, *]
 refine acf ?_;refine asr ?_;refine aQ tok 2 rfl ?_;refine an ?_;refine asp 4 (fun hb5 => ?_) fun hb5 => ?_
 ·
  refine act ?_;refine agk ?_;refine act ?_;refine asr ?_;refine aa 2 ?_;refine an ?_;refine agt ⟨[_], ⟨rfl, trivial⟩, ?_, rfl⟩
  refine bc ?_
  simp [setsOp, *]
 refine acf ?_;refine agr ?_;refine aQ tok 2 rfl ?_;refine an ?_;refine asp 4 (fun hb6 => ?_) fun hb6 => ?_
 ·
  refine act ?_;refine asr ?_;refine aa 2 ?_;refine an ?_;refine agt ⟨[_], ⟨rfl, trivial⟩, ?_, rfl⟩
  refine bc ?_
  simp [setsOp, *]
 refine acf ?_;refine agk ?_;refine asr ?_;refine aa 2 ?_;refine an ?_;refine agt ⟨[_], ⟨rfl, trivial⟩, ?_, rfl⟩
 refine bc ?_
 simp [setsOp, *]
theorem breads_ok (op : Int) : APure Tryz.prog 65 [.int .i64 op] (fun r => r = .int .i64 (readsN op)) := by
 refine APure.of_body (n := 12) tok Tryz.func65 rfl rfl ?_;refine asr ?_;refine aa 2 ?_;refine an ?_;refine asq ?_;refine asr ?_;refine am 3 ?_;refine an ?_;refine AGo.block ?_;refine asq ?_;refine asr ?_;refine aQ tok 2 rfl ?_;refine an ?_;refine asp 4 (fun hb1 => ?_) fun hb1 => ?_
 ·
  refine act ?_;refine agk ?_;refine act ?_;refine asr ?_;refine aa 2 ?_;refine an ?_;refine agt ⟨[_], ⟨rfl, trivial⟩, ?_, rfl⟩
  show AV.int .i64 _ = AV.int .i64 _
  congr 1
  simp [readsN, use1, use2, *]
 refine acf ?_;refine asr ?_;refine aQ tok 2 rfl ?_;refine an ?_;refine asp 4 (fun hb2 => ?_) fun hb2 => ?_
 ·
  refine act ?_;refine agk ?_;refine act ?_;refine asr ?_;refine aa 2 ?_;refine an ?_;refine agt ⟨[_], ⟨rfl, trivial⟩, ?_, rfl⟩
  show AV.int .i64 _ = AV.int .i64 _
  congr 1
  simp [readsN, use1, use2, *]
 refine acf ?_;refine asr ?_;refine aQ tok 2 rfl ?_;refine an ?_;refine asp 4 (fun hb3 => ?_) fun hb3 => ?_
 ·
  refine act ?_;refine agk ?_;refine act ?_;refine asr ?_;refine aa 2 ?_;refine an ?_;refine agt ⟨[_], ⟨rfl, trivial⟩, ?_, rfl⟩
  show AV.int .i64 _ = AV.int .i64 _
  congr 1
  simp [readsN, use1, use2, *]
 refine acf ?_;refine agr ?_;refine aQ tok 2 rfl ?_;refine an ?_;refine asp 4 (fun hb4 => ?_) fun hb4 => ?_
 ·
  refine act ?_;refine asr ?_;refine aa 2 ?_;refine an ?_;refine agt ⟨[_], ⟨rfl, trivial⟩, ?_, rfl⟩
  show AV.int .i64 _ = AV.int .i64 _
  congr 1
  simp [readsN, use1, use2, *]
 refine acf ?_;refine asq ?_;refine asr ?_;refine aQ tok 2 rfl ?_;refine an ?_;refine asp 9 (fun hb5 => ?_) fun hb5 => ?_
 ·
  refine act ?_;refine agk ?_;refine act ?_;refine asr ?_;refine aa 2 ?_;refine an ?_;refine agt ⟨[_], ⟨rfl, trivial⟩, ?_, rfl⟩
  show AV.int .i64 _ = AV.int .i64 _
  congr 1
  simp [readsN, use1, use2, *]
 refine acf ?_;refine agr ?_;refine aQ tok 2 rfl ?_;refine an ?_;refine asp 9 (fun hb6 => ?_) fun hb6 => ?_
 ·
  refine act ?_;refine asr ?_;refine aa 2 ?_;refine an ?_;refine agt ⟨[_], ⟨rfl, trivial⟩, ?_, rfl⟩
  show AV.int .i64 _ = AV.int .i64 _
  congr 1
  simp [readsN, use1, use2, *]
 refine acf ?_;refine agk ?_;refine asr ?_;refine aa 2 ?_;refine an ?_;refine agt ⟨[_], ⟨rfl, trivial⟩, ?_, rfl⟩
 show AV.int .i64 _ = AV.int .i64 _
 congr 1
 simp [readsN, use1, use2, *]
theorem buses_ok (t : Tac) : APure Tryz.prog 81 [.agg t.cells] (fun r => r = intsAV t.uses) := by
 refine APure.of_body (n := 18) tok Tryz.func81 rfl rfl ?_;refine asr ?_;refine ax 1 (obx 8 0) ?_;refine aa 2 ?_;refine an ?_;refine asq ?_;refine asr ?_;refine aQ tok 2 rfl ?_;refine ax 5 (opu Tryz.func65 (breads_ok _)) ?_;refine an ?_;refine AGo.block ?_;refine asr ?_;refine aQ tok 2 rfl ?_;refine an ?_;refine asp 6 (fun hb1 => ?_) fun hb1 => ?_
 ·
  refine act ?_;refine asr ?_;refine aQ tok 2 rfl ?_;refine ax 10 (o_lit' tok rfl rfl rfl rfl rfl rfl (by decide) rfl rfl rfl rfl rfl rfl) ?_;refine aa 2 ?_;refine an ?_;refine agt ⟨[_], ⟨rfl, trivial⟩, ?_, rfl⟩
  show AV.lst false _ = _
  cases h1 : use1 t.op <;> cases h2 : use2 t.op <;> simp_all [readsN, Tac.uses, intsAV, partVals, AV.cells]
 refine acf ?_;refine asr ?_;refine aQ tok 2 rfl ?_;refine an ?_;refine asp 11 (fun hb2 => ?_) fun hb2 => ?_
 ·
  refine act ?_;refine asr ?_;refine aQ tok 4 rfl ?_;refine ax 17 (o_lit' tok rfl rfl rfl rfl rfl rfl (by decide) rfl rfl rfl rfl rfl rfl) ?_;refine aa 2 ?_;refine an ?_;refine agt ⟨[_], ⟨rfl, trivial⟩, ?_, rfl⟩
  show AV.lst false _ = _
  cases h1 : use1 t.op <;> cases h2 : use2 t.op <;> simp_all [readsN, Tac.uses, intsAV, partVals, AV.cells]
 refine acf ?_;refine agk ?_;refine asr ?_;refine aa 2 ?_;refine an ?_;refine AGo.ghost (.empty 2 rfl) ?_;refine agt ⟨[_], ⟨rfl, trivial⟩, ?_, rfl⟩
 show AV.lst false _ = _
 cases h1 : use1 t.op <;> cases h2 : use2 t.op <;> simp_all [readsN, Tac.uses, intsAV, partVals, AV.cells]
theorem bsets_ok (t : Tac) : APure Tryz.prog 77 [.agg t.cells] (fun r => r = .int .i64 t.sets) := by
 refine APure.of_body (n := 8) tok Tryz.func77 rfl rfl ?_;refine asr ?_;refine ax 1 (obx 8 0) ?_;refine aa 2 ?_;refine an ?_;refine asq ?_;refine asr ?_;refine aQ tok 2 rfl ?_;refine ax 5 (opu Tryz.func64 (bsetsOp_ok _)) ?_;refine an ?_;refine asp 5 (fun hb1 => ?_) fun hb1 => ?_
 ·
  refine act ?_;refine asr ?_;refine aQ tok 3 rfl ?_;refine an ?_;refine agt ⟨[_], ⟨rfl, trivial⟩, ?_, rfl⟩
  show AV.int .i64 _ = AV.int .i64 _
  congr 1
  simp_all [Tac.sets]
 refine acf ?_;refine agk ?_;refine asr ?_;refine aa 2 ?_;refine an ?_;refine agt ⟨[_], ⟨rfl, trivial⟩, ?_, rfl⟩
 show AV.int .i64 _ = AV.int .i64 _
 congr 1
 simp_all [Tac.sets]
theorem breg_ok (words f regs blocks r : Int) : APure Tryz.prog 63 [(.agg [.int .i64 words, .int .i64 f, .int .i64 regs, .int .i64 blocks]), .int .i64 r] (fun q => q = .bool (within r regs)) := by
 refine APure.of_body (n := 13) tok Tryz.func63 rfl rfl ?_;refine asr ?_;refine ax 2 (obx 4 0) ?_;refine aa 4 ?_;refine an ?_;refine asr ?_;refine aQ tok 3 rfl ?_;refine aop 7 (fun hb1 => ?_) fun hb1 => ?_
 ·
  refine aQ tok 6 rfl ?_;refine an ?_;refine agt ⟨[_], ⟨rfl, trivial⟩, ?_, rfl⟩
  refine bc ?_
  first | (simp_all [within]; done) | (simp_all [within]; omega)
 refine aQ tok 6 rfl ?_;refine an ?_;refine agt ⟨[_], ⟨rfl, trivial⟩, ?_, rfl⟩
 refine bc ?_
 first | (simp_all [within]; done) | (simp_all [within]; omega)
theorem bend_ok (words f regs blocks : Int) (x : Block) : APure Tryz.prog 44 [(.agg [.int .i64 words, .int .i64 f, .int .i64 regs, .int .i64 blocks]), .agg x.cells] (fun q => q = .bool (x.ends blocks regs)) := by
 refine APure.of_body (n := 67) tok Tryz.func44 rfl rfl ?_;refine asr ?_;refine ax 2 (obx 4 0) ?_;refine ax 3 (obx 5 1) ?_;refine aa 4 ?_;refine an ?_;refine asq ?_;refine AGo.join (γ := Unit) (fun _u => ⟨67, (eput (eput (eput eNew 2 (.ptr 0 1 0 0)) 3 (.ptr 1 1 0 0)) 5 (.bool (within x.to blocks))), (hput (hput (hFrom 2) 0 (.row false 4 [[.int .i64 words, .int .i64 f, .int .i64 regs, .int .i64 blocks]])) 1 (.row false 5 [x.cells]))⟩) (fun _u => True) ?_ ?_
 ·
  refine agr ?_;refine aQ tok 4 rfl ?_;refine aop 9 (fun hb1 => ?_) fun hb1 => ?_
  ·
   refine aQ tok 7 rfl ?_;refine an ?_;exact ⟨(), Sub.mk' (by repeat (first | exact ESub.new _ | refine ESub.put ?_ (by first | rfl | exact congrArg (fun c => some (AV.bool c)) (by first | (simp_all [within]; done) | (simp_all [within]; omega))))) z12q, trivial⟩
  refine aQ tok 7 rfl ?_;refine an ?_;exact ⟨(), Sub.mk' (by repeat (first | exact ESub.new _ | refine ESub.put ?_ (by first | rfl | exact congrArg (fun c => some (AV.bool c)) (by first | (simp_all [within]; done) | (simp_all [within]; omega))))) z12q, trivial⟩
 intro _u _
 refine asq ?_;refine asr ?_;refine aQ tok 2 rfl ?_;refine an ?_;refine AGo.block ?_;refine asr ?_;refine aQ tok 2 rfl ?_;refine an ?_;refine asp 18 (fun hb2 => ?_) fun hb2 => ?_
 ·
  refine act ?_;refine asr ?_;refine aQ tok 2 rfl ?_;refine aop 21 (fun hb3 => ?_) fun hb3 => ?_
  ·
   refine aQ tok 5 rfl ?_;refine aop 26 (fun hb4 => ?_) fun hb4 => ?_
   ·
    refine aQ tok 5 rfl ?_;refine an ?_;refine agt ⟨[_], ⟨rfl, trivial⟩, ?_, rfl⟩
    refine bc ?_
    first | (simp_all [Block.ends, within]; done) | (simp_all [Block.ends, within]; omega)
   refine aQ tok 5 rfl ?_;refine an ?_;refine agt ⟨[_], ⟨rfl, trivial⟩, ?_, rfl⟩
   refine bc ?_
   first | (simp_all [Block.ends, within]; done) | (simp_all [Block.ends, within]; omega)
  refine aQ tok 10 rfl ?_;refine an ?_;refine agt ⟨[_], ⟨rfl, trivial⟩, ?_, rfl⟩
  refine bc ?_
  first | (simp_all [Block.ends, within]; done) | (simp_all [Block.ends, within]; omega)
 refine acf ?_;refine asr ?_;refine aQ tok 2 rfl ?_;refine an ?_;refine asp 31 (fun hb5 => ?_) fun hb5 => ?_
 ·
  refine act ?_;refine asr ?_;refine aQ tok 2 rfl ?_;refine aop 34 (fun hb6 => ?_) fun hb6 => ?_
  ·
   refine aQ tok 3 rfl ?_;refine ax 38 (opu Tryz.func63 (breg_ok _ _ _ _ _)) ?_;refine aQ tok 2 rfl ?_;refine aop 40 (fun hb7 => ?_) fun hb7 => ?_
   ·
    refine aQ tok 5 rfl ?_;refine aop 45 (fun hb8 => ?_) fun hb8 => ?_
    ·
     refine aQ tok 7 rfl ?_;refine an ?_;refine agt ⟨[_], ⟨rfl, trivial⟩, ?_, rfl⟩
     refine bc ?_
     first | (simp_all [Block.ends, within]; done) | (simp_all [Block.ends, within]; omega)
    refine aQ tok 7 rfl ?_;refine an ?_;refine agt ⟨[_], ⟨rfl, trivial⟩, ?_, rfl⟩
    refine bc ?_
    first | (simp_all [Block.ends, within]; done) | (simp_all [Block.ends, within]; omega)
   refine aQ tok 12 rfl ?_;refine an ?_;refine agt ⟨[_], ⟨rfl, trivial⟩, ?_, rfl⟩
   refine bc ?_
   first | (simp_all [Block.ends, within]; done) | (simp_all [Block.ends, within]; omega)
  refine aQ tok 18 rfl ?_;refine an ?_;refine agt ⟨[_], ⟨rfl, trivial⟩, ?_, rfl⟩
  refine bc ?_
  first | (simp_all [Block.ends, within]; done) | (simp_all [Block.ends, within]; omega)
 refine acf ?_;refine asr ?_;refine aQ tok 2 rfl ?_;refine an ?_;refine asp 52 (fun hb9 => ?_) fun hb9 => ?_
 ·
  refine act ?_;refine asr ?_;refine aQ tok 4 rfl ?_;refine aop 57 (fun hb10 => ?_) fun hb10 => ?_
  ·
   refine aQ tok 5 rfl ?_;refine aop 62 (fun hb11 => ?_) fun hb11 => ?_
   ·
    refine aQ tok 5 rfl ?_;refine an ?_;refine agt ⟨[_], ⟨rfl, trivial⟩, ?_, rfl⟩
    refine bc ?_
    first | (simp_all [Block.ends, within]; done) | (simp_all [Block.ends, within]; omega)
   refine aQ tok 5 rfl ?_;refine an ?_;refine agt ⟨[_], ⟨rfl, trivial⟩, ?_, rfl⟩
   refine bc ?_
   first | (simp_all [Block.ends, within]; done) | (simp_all [Block.ends, within]; omega)
  refine aQ tok 10 rfl ?_;refine an ?_;refine agt ⟨[_], ⟨rfl, trivial⟩, ?_, rfl⟩
  refine bc ?_
  first | (simp_all [Block.ends, within]; done) | (simp_all [Block.ends, within]; omega)
 refine acf ?_;refine agk ?_;refine asr ?_;refine aa 4 ?_;refine an ?_;refine agt ⟨[_], ⟨rfl, trivial⟩, ?_, rfl⟩
 refine bc ?_
 first | (simp_all [Block.ends, within]; done) | (simp_all [Block.ends, within]; omega)
theorem radd_ok (z R i : Nat) (p : Nat → Bool) (hi : i < R) (hR : R ≤ 100000) : ACall Tryz.prog 106 [.ref z (nw R) 0 (nw R), .int .i64 (i : Int)] (hput hNew z (.row true 1 (rowW R p))) (fun r h' => r = .tup [] ∧ HSub (hput hNone z (.row true 1 (rowW R (fun v => p v || v == i)))) h') := by
 have hj := nw_of hi
 refine ACall.of_body (n := 14) tok Tryz.func106 rfl rfl ?_;refine AGo.draw mix ?_;refine dm 4 ?_;refine dm 5 ?_;refine dq 6 (q_bin (r := .int .i64 ((i / 64 : Nat) : Int)) rfl rfl rfl (quo64 (by omega))) ?_;refine dq 7 (q_index_ref tok rfl rfl rfl rfl rfl rfl (hput_same _ _ _) (rowW_len _ _).symm rfl (Int.natCast_nonneg _) (by omega)) ?_;refine dq 8 (q_load tok rfl rfl rfl (.ptr _ _ _ _ _ _ _ (wdcell p (i / 64)) (hput_same _ _ _) (rowW_len _ _).symm (by rw [Nat.zero_add, Int.toNat_natCast]; exact rowW_get hj)) rfl) ?_;refine dm 9 ?_;refine dq 10 (q_bin (r := .int .i64 ((i % 64 : Nat) : Int)) rfl rfl rfl rem64) ?_;refine dq 11 (q_bin (r := .int .u64 ((wd (fun v => v == i % 64) : Nat) : Int)) rfl rfl rfl (wd_one (by omega))) ?_;refine dq 12 (q_bin rfl rfl rfl (wd_or (fun v => p (64 * (i / 64) + v)) (fun v => v == i % 64))) ?_;refine dq 13 (q_index_ref tok rfl rfl rfl rfl rfl rfl (hput_same _ _ _) (rowW_len _ _).symm rfl (Int.natCast_nonneg _) (by omega)) ?_
 refine DOps.w rfl rfl (o_store tok (es := rowW R p) (cs := wdcell p (i / 64)) rfl rfl rfl rfl rfl (hput_same _ _ _) (rowW_len _ _).symm (by rw [Nat.zero_add, Int.toNat_natCast]; exact rowW_get hj) rfl (by decide) rfl (fun _ => rfl)) ?_;refine DOps.nil (by kernel_rfl) ?_;refine ⟨[], trivial, rfl, HSub.put (HSub.none _) ((hput_same _ _ _).trans (congrArg (fun es => some (AObj.row true 1 es)) ?_))⟩
 rw [Nat.zero_add, Int.toNat_natCast]
 exact (congrArg ((rowW R p).set (i / 64)) (wdcell_add p i)).symm.trans (rowW_set (fun v hv => by
   have : (v == i) = false := by rw [beq_eq_false_iff_ne]; intro e; exact hv (by rw [e])
   simp [this]))
theorem rrm_ok (z R i : Nat) (p : Nat → Bool) (hi : i < R) (hR : R ≤ 100000) : ACall Tryz.prog 108 [.ref z (nw R) 0 (nw R), .int .i64 (i : Int)] (hput hNew z (.row true 1 (rowW R p))) (fun r h' => r = .tup [] ∧ HSub (hput hNone z (.row true 1 (rowW R (fun v => p v && !(v == i))))) h') := by
 have hj := nw_of hi
 refine ACall.of_body (n := 14) tok Tryz.func108 rfl rfl ?_;refine AGo.draw mix ?_;refine dm 4 ?_;refine dm 5 ?_;refine dq 6 (q_bin (r := .int .i64 ((i / 64 : Nat) : Int)) rfl rfl rfl (quo64 (by omega))) ?_;refine dq 7 (q_index_ref tok rfl rfl rfl rfl rfl rfl (hput_same _ _ _) (rowW_len _ _).symm rfl (Int.natCast_nonneg _) (by omega)) ?_;refine dq 8 (q_load tok rfl rfl rfl (.ptr _ _ _ _ _ _ _ (wdcell p (i / 64)) (hput_same _ _ _) (rowW_len _ _).symm (by rw [Nat.zero_add, Int.toNat_natCast]; exact rowW_get hj)) rfl) ?_;refine dm 9 ?_;refine dq 10 (q_bin (r := .int .i64 ((i % 64 : Nat) : Int)) rfl rfl rfl rem64) ?_;refine dq 11 (q_bin (r := .int .u64 ((wd (fun v => v == i % 64) : Nat) : Int)) rfl rfl rfl (wd_one (by omega))) ?_;refine dq 12 (q_bin rfl rfl rfl (wd_andNot (fun v => p (64 * (i / 64) + v)) (fun v => v == i % 64))) ?_;refine dq 13 (q_index_ref tok rfl rfl rfl rfl rfl rfl (hput_same _ _ _) (rowW_len _ _).symm rfl (Int.natCast_nonneg _) (by omega)) ?_
 refine DOps.w rfl rfl (o_store tok (es := rowW R p) (cs := wdcell p (i / 64)) rfl rfl rfl rfl rfl (hput_same _ _ _) (rowW_len _ _).symm (by rw [Nat.zero_add, Int.toNat_natCast]; exact rowW_get hj) rfl (by decide) rfl (fun _ => rfl)) ?_;refine DOps.nil (by kernel_rfl) ?_;refine ⟨[], trivial, rfl, HSub.put (HSub.none _) ((hput_same _ _ _).trans (congrArg (fun es => some (AObj.row true 1 es)) ?_))⟩
 rw [Nat.zero_add, Int.toNat_natCast]
 exact (congrArg ((rowW R p).set (i / 64)) (wdcell_rm p i)).symm.trans (rowW_set (fun v hv => by
   have : (v == i) = false := by rw [beq_eq_false_iff_ne]; intro e; exact hv (by rw [e])
   simp [this]))
theorem rowOf_ok (z R : Nat) (hR : R ≤ 100000) : ACall Tryz.prog 98 [.int .i64 (R : Int)] (hput hNew z .free) (fun r h' => r = .ref z (nw R) 0 (nw R) ∧ HSub (hput hNone z (.row true 1 (rowW R (fun _ => false)))) h') := by
 refine ACall.of_body (n := 7) tok Tryz.func98 rfl rfl ?_;refine asr ?_;refine aa 2 ?_;refine an ?_;refine asr ?_;refine am 3 ?_;refine aq 4 (q_bin (r := .int .i64 ((R + 63 : Nat) : Int)) rfl rfl rfl (ebin_add (a := R) (b := 63) (wrapN_i64 (by omega)))) ?_;refine aq 5 (q_bin (r := .int .i64 ((nw R : Nat) : Int)) rfl rfl rfl (quo64 (by omega))) ?_;refine ax 6 (o_makeSlice tok (n := nw R) (m := nw R) z true rfl rfl rfl rfl rfl rfl rfl rfl (hput_same _ _ _) rfl (Nat.zero_lt_succ _) rfl (Nat.le_refl _) (by unfold nw; show 8 * _ ≤ _; omega) (by unfold nw; simp only [maxLen]; omega)) ?_;refine aa 2 ?_;refine an ?_;refine agt ?_;refine ⟨[_], ⟨rfl, trivial⟩, rfl, HSub.put (HSub.none _) ((hput_same _ _ _).trans (congrArg (fun es => some (AObj.row true 1 es)) (rowW_zero R)))⟩
abbrev Fr (l : Nat) : Fence := Fence.wide.inRound l
section
variable {P : Program} {l n : Nat}
theorem calls_inR {f : FuncId} {args : Array Value} {w : World} {R : Ending → World → Prop} (h : Calls P f args w R) : CallsIn (Fr l) n P f args w R := callsIn_wide (n := n).2 h
theorem rows_inR {row : String} {args : Array Value} {w : World} {R : Value → World → Prop} (h : Rows P row args w R) : RowsIn (Fr l) n P row args w R := fun c cs _ =>
  let ⟨v, w', r, s⟩ := h c cs
  ⟨v, w', r, stepsIn_wide.2 s⟩
def noDefer (o : Oper) : Bool := match o.op with
  | .defer _ => false
  | _ => true
theorem oper_in {o : Oper} {a : Act} {w : World} {N : Act → World → Prop} {Q : Exit → Act → World → Prop} (hd : noDefer o = true) (h : o.wp P a w N Q) : o.wpIn (Fr l) n P a w N Q := by
  refine ⟨fun _ _ => trivial, ?_⟩
  rw [Oper.semAt_eq _ _ _ (fun c e => by unfold noDefer at hd; rw [e] at hd; cases hd)]
  unfold Oper.wp at h
  generalize (execOp a.eval o).run P w = res at h ⊢
  cases res with
  | ok x w' =>
    cases x with
    | value v => exact h
    | skip => exact h
    | defer d => exact h
    | enter f args => exact ⟨fun e => (by cases e), calls_inR h⟩
    | row r args => exact ⟨fun e => (by cases e), rows_inR h⟩
    | _ => exact h.elim
  | halt x w' =>
    cases x with
    | panic v => exact h
    | _ => exact h.elim
theorem list_in {ops : Array Oper} {Q : Exit → Act → World → Prop} (hq : ¬ LetsOut Q) : ∀ (L : List Oper), L.all noDefer = true → ∀ {a : Act} {w : World}, wpList P ops Q L a w → wpListIn (Fr l) n P ops Q L a w
  | [], _, _, _, h => h
  | o :: L, hd, a, w, h => by
    simp only [List.all_cons, Bool.and_eq_true] at hd
    have ih := @list_in ops Q hq L hd.2
    unfold wpList at h
    unfold wpListIn
    by_cases hw : Region.wanted o (yielded ops a.tmps) = true
    · rw [if_pos hw] at h ⊢
      rcases h with h | ⟨_, h⟩
      · exact oper_in hd.1 (Oper.wp_mono (fun a' w' hx => ih hx) h)
      · exact absurd h hq
    · rw [if_neg hw] at h ⊢
      exact ⟨fun _ _ => trivial, ih h⟩
def AGoR (P : Program) (l n : Nat) (c : Code) (s : AState) (Q : Exit → AState → Prop) : Prop :=
  ∀ H ι a w, Sim H ι s a w → c.wpIn (Fr l) n P (Post H ι s.h w Q) a w
variable {s s' : AState} {Q : Exit → AState → Prop}
theorem AGoR.skip (h : Q .normal s) : AGoR P l n .skip s Q := fun H ι a w hs => wpIn_skip ⟨s, H, ι, h, hs, Step.refl _ _ _ _⟩
theorem AGoR.exit {id : Nat} (h : Q (.exit id) s) : AGoR P l n (.exit id) s Q := fun H ι a w hs => wpIn_exit ⟨s, H, ι, h, hs, Step.refl _ _ _ _⟩
theorem AGoR.mono {c : Code} {Q' : Exit → AState → Prop} (h : AGoR P l n c s Q) (hq : ∀ e s, Q e s → Q' e s) : AGoR P l n c s Q' := fun H ι a w hs => wpIn_mono (h H ι a w hs) fun e a' w' hp => hp.mono (hq e)
theorem AGoR.seq {x y : Code} (h : AGoR P l n x s (Then (fun s' => AGoR P l n y s' Q) Q)) : AGoR P l n (.seq x y) s Q := by
  intro H ι a w hs
  refine wpIn_seq (wpIn_mono (h H ι a w hs) fun e a' w' hp => ?_)
  cases e with
  | normal =>
    obtain ⟨s', H', ι', q, r, t⟩ := hp
    exact wpIn_mono (q H' ι' a' w' r) fun e a'' w'' hp' => Post.step hs.heap r.heap t hp'
  | _ => exact hp
theorem AGoR.cond {t : Nat} {x y : Code} {b : Bool} (he : s.env t = some (.bool b)) (h1 : b = true → AGoR P l n x s Q) (h2 : b = false → AGoR P l n y s Q) : AGoR P l n (.cond (.tmp t) x y) s Q := by
  intro H ι a w hs
  obtain ⟨v, hv, hr⟩ := hs.env t _ he
  cases hr
  have hev : a.eval (.tmp t) = .bool b := by simp [Act.eval, hv]
  exact wpIn_cond_split hev (fun e => h1 e H ι a w hs) (fun e => h2 e H ι a w hs)
theorem AGoR.cond_true {t : Nat} {x y : Code} (b : Bool) (he : s.env t = some (.bool b)) (hb : b = true) (h : AGoR P l n x s Q) : AGoR P l n (.cond (.tmp t) x y) s Q :=
  AGoR.cond he (fun _ => h) (fun h2 => by rw [hb] at h2; cases h2)
theorem AGoR.cond_false {t : Nat} {x y : Code} (b : Bool) (he : s.env t = some (.bool b)) (hb : b = false) (h : AGoR P l n y s Q) : AGoR P l n (.cond (.tmp t) x y) s Q :=
  AGoR.cond he (fun h2 => by rw [hb] at h2; cases h2) (fun _ => h)
theorem AGoR.block {id : Nat} {c : Code} (h : AGoR P l n c s (InBlock id Q)) : AGoR P l n (.block id c) s Q := by
  intro H ι a w hs
  refine wpIn_block (wpIn_mono (h H ι a w hs) fun e a' w' hp => ?_)
  cases e with
  | exit id' =>
    obtain ⟨s', H', ι', q, r⟩ := hp
    simp only [Exit.inBlock]
    simp only [InBlock] at q
    by_cases hid : id' = id
    · subst hid
      simp only [Nat.beq_refl, cond_true] at q
      rw [if_pos rfl]
      exact ⟨s', H', ι', q, r⟩
    · rw [if_neg hid]
      rw [beq_false_of_ne hid] at q
      exact ⟨s', H', ι', q, r⟩
  | _ => exact hp
theorem AGoR.ghost {c : Code} (hg : Ghost s s') (h : AGoR P l n c s' Q) : AGoR P l n c s Q := fun H ι a w hs => by
  obtain ⟨H', ι', h1, h2⟩ := hg H ι a w hs
  exact wpIn_mono (h H' ι' a w h1) fun e a' w' hp => Post.step hs.heap h1.heap h2 hp
theorem AGoR.sub {c : Code} (hg : Sub s' s) (h : AGoR P l n c s' Q) : AGoR P l n c s Q := AGoR.ghost (.of_sub hg) h
theorem AGoR.split {c : Code} {m : Nat} {e : AEnv} {h : AHeap} (d : Nat) {b : Bool} (he : e d = some (.bool b)) (h1 : b = true → AGoR P l n c ⟨m, eput e d (.bool true), h⟩ Q) (h2 : b = false → AGoR P l n c ⟨m, eput e d (.bool false), h⟩ Q) : AGoR P l n c ⟨m, e, h⟩ Q := by
  have key : ∀ c, b = c → eput e d (.bool c) = e := fun c hc => by
    subst hc
    funext t
    by_cases ht : t = d
    · subst ht; rw [eput_same, he]
    · rw [eput_ne _ _ ht]
  cases b with
  | true => have := h1 rfl; rwa [key true rfl] at this
  | false => have := h2 rfl; rwa [key false rfl] at this
theorem AGoR.loop {γ : Type} {c : Code} (I : γ → AState → Prop) (μ : γ → Nat) (g0 : γ) (h0 : I g0 s)
    (round : ∀ g s, I g s → AGoR P l n c s (Then (fun s' => ∃ g', I g' s' ∧ μ g' < μ g) Q)) : AGoR P l n (.loop c) s Q := by
  intro H ι a w hs b k cs hro hb hr
  have key : ∀ m g s1 H1 ι1 a1 w1, μ g = m → I g s1 → Sim H1 ι1 s1 a1 w1 → Step H ι s.h w H1 ι1 s1.h w1 →
      ∃ e a' w', Post H ι s.h w Q e a' w' ∧ ArrivesIn (Machine.fenced P (Fr l)) P (lone (b.atR a1 (.code c :: .inLoop c :: k)) cs w1) b k cs e a' w' := by
    intro m
    induction m using Nat.strongRecOn with
    | _ m ih =>
      intro g s1 H1 ι1 a1 w1 hn hI hs1 hst
      obtain ⟨e, a₂, w₂, hq, harr⟩ := round g s1 hI H1 ι1 a1 w1 hs1 b (.inLoop c :: k) cs hro hb hr
      obtain ⟨s2, H2, ι2, q, r, t⟩ := hq
      have t' := hst.trans hs.heap hs1.heap t
      cases e with
      | normal =>
        obtain ⟨g', hI', hlt⟩ := q
        obtain ⟨e₂, a₃, w₃, hq₂, harr₂⟩ := ih (μ g') (hn ▸ hlt) g' s2 H2 ι2 a₂ w₂ rfl hI' r t'
        exact ⟨e₂, a₃, w₃, hq₂, .of_steps (StepsIn.trans harr (.one (fenced_calm hb hr rfl) stepR_inLoop)) harr₂⟩
      | exit id => exact ⟨.exit id, a₂, w₂, ⟨s2, H2, ι2, q, r, t'⟩, .pass (x := .inLoop c) rfl (fun _ _ => .inl (by simp)) harr⟩
      | goto t => exact ⟨.goto t, a₂, w₂, ⟨s2, H2, ι2, q, r, t'⟩, .pass (x := .inLoop c) rfl (fun _ _ => .inl (by simp)) harr⟩
      | ret => exact ⟨.ret, a₂, w₂, ⟨s2, H2, ι2, q, r, t'⟩, .pass (x := .inLoop c) rfl (fun _ _ => .inl (by simp)) harr⟩
      | panic ch => exact ⟨.panic ch, a₂, w₂, ⟨s2, H2, ι2, q, r, t'⟩, .pass (x := .inLoop c) rfl (fun _ _ => .inl (by simp)) harr⟩
      | outgrown => exact ⟨.outgrown, a₂, w₂, ⟨s2, H2, ι2, q, r, t'⟩, .pass (x := .inLoop c) rfl (fun _ _ => .inl (by simp)) harr⟩
  obtain ⟨e, a', w', hq, harr⟩ := key (μ g0) g0 s H ι a w rfl h0 hs (Step.refl _ _ _ _)
  exact ⟨e, a', w', hq, .of_steps (.one (fenced_calm hb hr rfl) stepR_loop) harr⟩
theorem AGoR.loopI {γ : Type} {c : Code} (inv : γ → AState) (F : γ → Prop) (μ : γ → Nat) (g0 : γ) (h0 : Sub (inv g0) s) (hF : F g0)
    (round : ∀ g, F g → AGoR P l n c (inv g) (Then (fun s' => ∃ g', Sub (inv g') s' ∧ F g' ∧ μ g' < μ g) Q)) : AGoR P l n (.loop c) s Q :=
  AGoR.loop (fun g s' => Sub (inv g) s' ∧ F g) μ g0 ⟨h0, hF⟩ fun g s' hs => AGoR.sub hs.1 ((round g hs.2).mono fun e s'' hq => by
    cases e with
    | normal => obtain ⟨g', h1, h2, h3⟩ := hq; exact ⟨g', ⟨h1, h2⟩, h3⟩
    | _ => exact hq)
theorem AGoR.region {id : Nat} {ops : Array Oper} (hd : ops.toList.all noDefer = true) (h : AOps P ops ops.toList s (fun s' => Q .normal s')) : AGoR P l n (.region id ops false) s Q := fun H ι a w hs => by
  have hpost : ∀ e a2 w2, Post H ι s.h w (Then (fun s' => Q .normal s') fun _ _ => False) e a2 w2 → Post H ι s.h w Q e a2 w2 := fun e a2 w2 hp => by
    obtain ⟨s', H', ι', q, r⟩ := hp
    cases e <;> first | exact ⟨s', H', ι', q, r⟩ | exact q.elim
  have hlo : ¬ LetsOut (Post H ι s.h w (Then (fun s' => Q .normal s') fun _ _ => False)) := fun ⟨a, w, s', H', ι', q, r⟩ => q
  exact wpIn_mono (wpIn_region_list (list_in hlo _ hd (h H ι a w hs))) hpost
end
end Go.Proofs.YtbbfelelocccmaaGreat.Sv
namespace Go.Proofs.YtbbfelelocccmaaGreat.Sv
open Go Go.RowKit
def AObj.noMap : AObj → Bool
  | .map _ => false
  | .iter0 => false
  | _ => true
def NoMap (h : AHeap) : Prop := ∀ b o, h b = some o → o.noMap = true
theorem NoMap.new : NoMap hNew := fun b o h => by cases h; rfl
theorem NoMap.put {h : AHeap} (hh : NoMap h) (b : Nat) {o : AObj} (ho : o.noMap = true) : NoMap (hput h b o) := fun c q hq => by
  by_cases hc : c = b
  · subst hc; rw [hput_same] at hq; cases hq; exact ho
  · rw [hput_ne _ _ hc] at hq; exact hh c q hq
theorem NoMap.none : NoMap hNone := fun b o h => by cases h
theorem HeapRel.grownO {H : Know} {ι : Lay} {h : AHeap} {w w' : World} {row : Option Nat} (hr : HeapRel H ι h w) (hm : NoMap h) (hg : w.grownBy w' row) (hrow : ∀ r, row = some r → ∃ o : Obj, w.heap[r]? = some o ∧ o.isCells = false) : HeapRel H ι h w' := by
  have key : ∀ (b : Nat) (c : Array Value) (T : TypeId) (fr : Nat × Nat), w.heap[b]? = some (Obj.cells c T fr) → w'.heap[b]? = some (Obj.cells c T fr) := fun b c T fr hb => by
    refine (hg.block b (Array.getElem?_eq_some_iff.1 hb).1 (fun e => ?_)).trans hb
    obtain ⟨o, ho, hc⟩ := hrow b e.symm
    rw [hb] at ho; cases ho; cases hc
  refine ⟨fun b c hb => ?_, hr.free, fun b o h1 h2 => ?_, hr.inj, hr.glob⟩
  · obtain ⟨T, fr, e⟩ := hr.know b c hb
    exact ⟨T, fr, key _ _ _ _ e⟩
  · obtain ⟨r, e1, e2, e3⟩ := hr.obj b o h1 h2
    refine ⟨r, e1, ?_, e3⟩
    cases o with
    | free => trivial
    | map kvs => have := hm b _ h1; cases this
    | iter0 => have := hm b _ h1; cases this
    | row p sz es =>
      obtain ⟨r1, r2, r3, r4, r5, r6⟩ := e2
      refine ⟨r1, r2, r3, r4, r5, fun hsol => ?_⟩
      obtain ⟨c, T, ⟨fr, q1, q2⟩, q3, q4⟩ := r6 hsol
      exact ⟨c, T, ⟨fr, key _ _ _ _ q1, q2⟩, q3, q4⟩
theorem Step.grown {H : Know} {ι : Lay} {h : AHeap} {w : World} {H' : Know} {ι' : Lay} {h' : AHeap} {w' w'' : World} {row : Option Nat} (st : Step H ι h w H' ι' h' w') (hg : w'.grownBy w'' row) (hrow : ∀ r, row = some r → w.heap.size ≤ r) : Step H ι h w H' ι' h' w'' where
  size := Nat.le_trans st.size hg.size
  os := hg.os.trans st.os
  out := hg.output.trans st.out
  keep := fun rb hlt hno => by
    refine (hg.block rb (Nat.lt_of_lt_of_le hlt st.size) (fun e => ?_)).trans (st.keep rb hlt hno)
    have := hrow rb e.symm
    omega
  kle := st.kle
  knew := st.knew
  lle := st.lle
  lframe := st.lframe
  newrb := st.newrb
  dom := st.dom
theorem Step.others {H : Know} {ι : Lay} {h : AHeap} {w : World} {H' : Know} {ι' : Lay} {h' : AHeap} {w' : World} (hr : HeapRel H ι h w) (hm : NoMap h) (st : Step H ι h w H' ι' h' w') : KeepsOthers w w' :=
  ⟨st.size, fun k o hk ho => by
    have hlt := (Array.getElem?_eq_some_iff.1 hk).1
    refine (st.keep k hlt ?_).trans hk
    rintro ⟨b, q, r, h1, h2, h3, h4, h5⟩
    obtain ⟨r', e1, e2, _⟩ := hr.obj b q h1 h2
    rw [h3] at e1; cases e1
    cases q with
    | free => cases h2
    | map kvs => have := hm b _ h1; cases this
    | iter0 => have := hm b _ h1; cases this
    | row p sz es =>
      obtain ⟨_, _, _, _, _, r6⟩ := e2
      obtain ⟨c, T, ⟨fr, q1, _⟩, _, _⟩ := r6 h4
      rw [h5] at q1
      rw [hk] at q1; cases q1; cases ho⟩
theorem Step.of_sub {H : Know} {ι : Lay} {h h' : AHeap} {w : World} (hh : HSub h' h) : Step H ι h w H ι h' w := ⟨Nat.le_refl _, rfl, rfl, fun _ _ _ => rfl, KLe.refl _, fun _ h => .inl h, LLe.refl _, fun _ _ => rfl, fun _ _ h _ => .inl h, fun b hb => by
  cases e : h' b with
  | none => rfl
  | some o => rw [hh b o e] at hb; cases hb⟩
section
variable {P : Program}
theorem wp_range {α : Type} {s : AState} {H : Know} {ι : Lay} {a : Act} {w : World} (hs : Sim H ι s a w) {g : Operand} {p d ida : Nat} {oa : Oper} {body : Code} {Q : Exit → Act → World → Prop} {gf : Nat} {cs : List AV}
    (hoa : oa.op = .assign (.tmp p)) (hda : oa.dst = some d) (hga : oa.guard = none) (hp : p < s.n) (hd : d < s.n) (hpd : p ≠ d)
    (hg : look s.env g = some (.fn (.func gf) [] cs)) (eg : ∀ args w, (callFunc gf args).run P w = .ok (.enter gf args) w)
    {enc : α → Value} {av : α → AV} (hav : ∀ x H ι, Rel H ι (av x) (enc x)) {S : List α → Prop} {N : Nat}
    (hseq : ∀ lb : Array Value, lb.size = cs.length → (∀ (j : Nat) (x : AV) (v : Value), cs[j]? = some x → lb[j]? = some v → Rel H ι x v) → SeqStopsK Fence.wide 3 P gf lb (fun x => #[enc x]) (fun _ _ => True) S (fun _ => True) N w)
    (e0 : AEnv) (hI : List α → AHeap) (he0 : ESub e0 s.env) (hm0 : NoMap s.h) (hm : ∀ pre, NoMap (hI pre)) (h0 : HSub (hI []) s.h)
    (hbody : ∀ (l : Nat) (pre : List α) (x : α), pre.length < N → AGoR P l 2 body ⟨s.n, eput (eput e0 p (av x)) d (av x), hI pre⟩ (Then (fun s' => HSub (hI (pre ++ [x])) s'.h) (fun _ _ => False)))
    (hdone : ∀ (D : Nat) (xs : List α) (W : World) (H' : Know) (ι' : Lay), w.heap.size ≤ D → S xs → HeapRel H' ι' (hI xs) W → Step H ι s.h w H' ι' (hI xs) W → W.heap[D]? = some (.deferred (some [])) → Q .normal { tmps := a.tmps, defers := [{ target := .collected D, args := #[] }] } W) :
    (Code.rangeFunc g #[p] (.region ida #[oa] false) body).wp P Q a w := by
  obtain ⟨us, lb, hge, hus, hlb, _, hrl⟩ : ∃ us lb, a.eval g = .func (.func gf) us lb ∧ ([] : List AV).length = us.size ∧ cs.length = lb.size ∧ True ∧ ∀ (j : Nat) (x : AV) (v : Value), cs[j]? = some x → lb[j]? = some v → Rel H ι x v := by
    obtain ⟨us, vs, e1, e2, e3, _, e5⟩ := (look_rel hs hg).fn_inv
    exact ⟨us, vs, e1, e2, e3, trivial, e5⟩
  have hus' : us = #[] := by
    cases us with
    | mk l => cases l with
      | nil => rfl
      | cons y l => simp at hus
  subst hus'
  refine wpIn_wide (n := 4).1 ?_
  have hpn : p < a.tmps.size := by rw [hs.n]; exact hp
  have hdn : d < a.tmps.size := by rw [hs.n]; exact hd
  have hI0 : ∃ H' ι', HeapRel H' ι' (hI []) w ∧ Step H ι s.h w H' ι' (hI []) w := ⟨H, ι, hs.heap.sub h0, Step.of_sub h0⟩
  refine wpIn_rangeFunc_ownF (F := Fence.wide) (n := 4) (α := α) (Q := Q) (a := a) (w := w) (w0 := w) rfl (by decide) hge trivial eg (hseq lb hlb.symm hrl) (fun _ _ => trivial) (fun _ _ _ _ _ _ _ _ => trivial) (Below.refl _ _) (fun _ => rfl)
    (fun pre W => ∃ H' ι', HeapRel H' ι' (hI pre) W ∧ Step H ι s.h w H' ι' (hI pre) W) (fun _ _ _ => False) ?_ (fun _ _ _ _ _ h _ _ => h) hI0
    (fun x => { tmps := (a.tmps.setIfInBounds p (enc x)).setIfInBounds d (enc x), defers := [] }) ?_ ?_ ?_ (fun _ _ _ _ _ _ h _ => h.elim)
  · rintro pre W W' row ⟨H', ι', k1, k2⟩ hg' hr
    exact ⟨H', ι', k1.grownO (hm pre) hg' (fun r e => (hr r e).2), k2.grown hg' (fun r e => (hr r e).1)⟩
  · intro l x W K hK
    refine wpIn_region_list ?_
    show wpListIn _ _ P _ _ [oa] _ W
    unfold wpListIn
    have hw : Region.wanted oa (yielded #[oa] (((#[p].zip #[enc x]).foldl (fun t (q : Nat × Value) => t.setIfInBounds q.1 q.2) a.tmps))) = true := by simp [Region.wanted, hga]
    rw [if_pos hw]
    refine oper_in (by unfold noDefer; rw [hoa]) ?_
    unfold Oper.wp
    simp only [execOp, hoa, Sem.run_pure, Oper.upon]
    have e1 : (#[p].zip #[enc x]).foldl (fun t (q : Nat × Value) => t.setIfInBounds q.1 q.2) a.tmps = a.tmps.setIfInBounds p (enc x) := by simp
    have e2 : ({ tmps := a.tmps.setIfInBounds p (enc x), defers := [] } : Act).eval (.tmp p) = enc x := by
      simp [Act.eval, hpn]
    show K _ W
    rw [hda]
    simpa [Act.put, Act.eval, hpn] using hK
  · rintro l pre x W ⟨H', ι', k1, k2⟩ hlt
    have hsim : Sim H' ι' ⟨s.n, eput (eput e0 p (av x)) d (av x), hI pre⟩ { tmps := (a.tmps.setIfInBounds p (enc x)).setIfInBounds d (enc x), defers := [] } W := by
      refine ⟨by simp [hs.n], rfl, fun t y hy => ?_, k1⟩
      by_cases htd : t = d
      · subst htd
        have hy' : eput (eput e0 p (av x)) t (av x) t = some y := hy
        rw [eput_same] at hy'; cases hy'
        exact ⟨enc x, by simp [hdn], hav x _ _⟩
      · have hy' : eput (eput e0 p (av x)) d (av x) t = some y := hy
        rw [eput_ne _ _ htd] at hy'
        by_cases htp : t = p
        · subst htp
          rw [eput_same] at hy'; cases hy'
          refine ⟨enc x, ?_, hav x _ _⟩
          show ((a.tmps.setIfInBounds t (enc x)).setIfInBounds d (enc x))[t]? = _
          rw [Array.getElem?_setIfInBounds_ne (fun e => htd e.symm)]
          simp [hpn]
        · rw [eput_ne _ _ htp] at hy'
          obtain ⟨v, v1, v2⟩ := hs.env t y (he0 t y hy')
          refine ⟨v, ?_, v2.mono k2.kle k2.lle⟩
          show ((a.tmps.setIfInBounds p (enc x)).setIfInBounds d (enc x))[t]? = _
          rw [Array.getElem?_setIfInBounds_ne (fun e => htd e.symm), Array.getElem?_setIfInBounds_ne (fun e => htp e.symm)]
          exact v1
    refine wpIn_mono (hbody l pre x hlt H' ι' _ W hsim) fun e a' W' hp => ?_
    obtain ⟨s', H2, ι2, q, r, t⟩ := hp
    cases e with
    | normal =>
      have t2 : Step H' ι' (hI pre) W H2 ι2 (hI (pre ++ [x])) W' := t.trans k1 r.heap (Step.of_sub q)
      exact ⟨t.others k1 (hm pre), trivial, H2, ι2, r.heap.sub q, k2.trans hs.heap k1 t2⟩
    | _ => exact q.elim
  · rintro D xs W hD hS ⟨H', ι', k1, k2⟩ hK
    have : a.defers = [] := hs.d
    have ha : { a with defers := { target := .collected D, args := #[] } :: a.defers } = ({ tmps := a.tmps, defers := [{ target := .collected D, args := #[] }] } : Act) := by rw [this]
    rw [ha]
    exact hdone D xs W H' ι' hD hS k1 k2 hK
def QD (ds : List Deferred) (K : Act → World → Prop) (a : Act) (w : World) : Prop := ∃ tm, a = { tmps := tm, defers := ds } ∧ K { tmps := tm, defers := [] } w
theorem put_ds (tm : Array Value) (ds : List Deferred) (d : Option Nat) (v : Value) : ∃ tm', ({ tmps := tm, defers := ds } : Act).put d v = { tmps := tm', defers := ds } ∧ ({ tmps := tm, defers := [] } : Act).put d v = { tmps := tm', defers := [] } := by
  cases d with
  | none => exact ⟨tm, rfl, rfl⟩
  | some d => exact ⟨tm.setIfInBounds d v, rfl, rfl⟩
def loadStore (o : Oper) : Bool := match o.op with
  | .load .. | .store .. => true
  | _ => false
theorem simple_res {o : Oper} (hd : loadStore o = true) {ρ : Operand → Value} {w w' : World} {x : Next} (h : (execOp ρ o).run P w = .ok x w') : (∃ v, x = .value v) ∨ x = .skip := by
  unfold loadStore at hd
  unfold execOp at h
  cases ho : o.op <;> rw [ho] at hd h <;> first | (cases hd; done) | skip
  · simp only [Sem.run_bind, Sem.run_pure] at h
    generalize (Instr.loadAt _ _).run P w = r at h
    cases r with
    | ok v w1 => simp only [Result.andThen_ok] at h; cases h; exact .inl ⟨v, rfl⟩
    | halt y w1 => cases h
  · simp only [Sem.run_bind, Sem.run_pure] at h
    generalize (Instr.storeAt _ _ _).run P w = r at h
    cases r with
    | ok v w1 => simp only [Result.andThen_ok] at h; cases h; exact .inr rfl
    | halt y w1 => cases h
theorem oper_ds {o : Oper} {tm : Array Value} {ds : List Deferred} {w : World} {K : Act → World → Prop} {Q : Exit → Act → World → Prop} (hd : loadStore o = true) (h : o.wp P { tmps := tm, defers := [] } w K Q) : o.wp P { tmps := tm, defers := ds } w (QD ds K) (fun e => QD ds (Q e)) := by
  unfold Oper.wp at h ⊢
  have e : (execOp ({ tmps := tm, defers := ds } : Act).eval o) = execOp ({ tmps := tm, defers := [] } : Act).eval o := by
    congr 1
  rw [e]
  have hnd : ∀ x w', (execOp ({ tmps := tm, defers := [] } : Act).eval o).run P w = .ok x w' → (∃ v, x = .value v) ∨ x = .skip := fun x w' hx => simple_res hd hx
  generalize (execOp ({ tmps := tm, defers := [] } : Act).eval o).run P w = res at h hnd ⊢
  have hput : ∀ v w', K (({ tmps := tm, defers := [] } : Act).put o.dst v) w' → QD ds K (({ tmps := tm, defers := ds } : Act).put o.dst v) w' := fun v w' hk => by
    obtain ⟨tm', e1, e2⟩ := put_ds tm ds o.dst v
    rw [e2] at hk
    exact ⟨tm', e1, hk⟩
  cases res with
  | ok x w' =>
    rcases hnd x w' rfl with ⟨v, rfl⟩ | rfl
    · exact hput v w' h
    · exact hput _ w' h
  | halt x w' =>
    cases x with
    | panic v => exact ⟨tm, rfl, h⟩
    | _ => exact h.elim
theorem any_ds {ops : Array Oper} {ds : List Deferred} {Q : Exit → Act → World → Prop} (hq : ¬ LetsOut Q) (hd : ∀ (i : Nat) o, ops[i]? = some o → loadStore o = true) : ∀ (fuel : Nat) (L : Array Bool) (tm : Array Value) (w : World), wpAny P .any ops Q fuel L { tmps := tm, defers := [] } w → wpAny P .any ops (fun e => QD ds (Q e)) fuel L { tmps := tm, defers := ds } w
  | 0, L, tm, w, h => ⟨h.1, tm, rfl, h.2⟩
  | fuel + 1, L, tm, w, h => by
    refine ⟨fun h0 => ⟨tm, rfl, h.1 h0⟩, fun i hi => ?_⟩
    have h1 := h.2 i hi
    unfold wpOp at h1 ⊢
    have go : ∀ a w', QD ds (wpAny P .any ops Q fuel (L.setIfInBounds i true)) a w' → wpAny P .any ops (fun e => QD ds (Q e)) fuel (L.setIfInBounds i true) a w' := fun a w' ⟨tm', e, hx⟩ => by
      subst e; exact any_ds hq hd fuel _ tm' w' hx
    cases ho : ops[i]? with
    | none => rw [ho] at h1; exact any_ds hq hd fuel _ tm w h1
    | some o =>
      rw [ho] at h1
      simp only at h1 ⊢
      by_cases hw : Region.wanted o (yielded ops tm) = true
      · rw [if_pos hw] at h1 ⊢
        rcases h1 with h1 | ⟨_, h1⟩
        · exact .inl (Oper.wp_mono (fun a w' hx => go a w' hx) (oper_ds (hd i o ho) h1))
        · exact absurd h1 hq
      · rw [if_neg hw] at h1 ⊢
        obtain ⟨tm', e1, e2⟩ := put_ds tm ds o.dst undef
        rw [e2] at h1
        rw [e1]
        exact any_ds hq hd fuel _ tm' w h1
theorem DOps.any {ops : Array Oper} {n : Nat} {e : AEnv} {h : AHeap} {K : AState → Prop} (hd : DOps P ops n ops.toList e h [] K) {H : Know} {ι : Lay} {a : Act} {w : World} (hs : Sim H ι ⟨n, e, h⟩ a w) :
    wpAny P .any ops (Post H ι h w (Then K fun _ _ => False)) ops.size (Array.replicate ops.size false) a { w with drawn := w.drawn + 1 } := by
  obtain ⟨cs, e', h', h1, h2, h3⟩ := hd
  have hgrow : ∀ rb, rb < w.heap.size → ({ w with drawn := w.drawn + 1 } : World).heap[rb]? = w.heap[rb]? := fun _ _ => rfl
  have hr' : HeapRel H ι h { w with drawn := w.drawn + 1 } := hs.heap.grow hgrow
  have hst : Step H ι h w H ι h { w with drawn := w.drawn + 1 } := Step.grow hgrow (Nat.le_refl _) rfl rfl
  have hL0 : ∀ i, (Array.replicate ops.size false).getD i false = false := fun i => by
    by_cases hi : i < ops.size
    · simp [hi]
    · simp [hi]
  have hm0 : ∀ {V : Type} (l : List (Upd V)) (g : Nat → V), merge (fun i => (Array.replicate ops.size false).getD i false) l 0 g = g := fun l g => funext fun x => merge_skip fun i u _ _ => hL0 _
  exact any_order (K := K) h1 (by simpa using h2) h3 hs.heap ops.size (Array.replicate ops.size false) H ι a { w with drawn := w.drawn + 1 }
    ⟨by simp, fun i hi => by rw [hL0] at hi; cases hi⟩ (by unfold todo; simp) (by rw [hm0, hm0]; exact ⟨hs.n, hs.d, hs.env, hr'⟩) (by rw [hm0]; exact hst)
theorem wp_endM {T : Nat → Option TyI} (hT : TOk P T) (hmx : P.follows .mixedOrders = true) {fn : Func} {ops : Array Oper} {id D : Nat} {s : AState} {H0 H : Know} {ι0 ι : Lay} {h0 : AHeap} {tm : Array Value} {w0 w : World} {R : AV → AHeap → Prop}
    (hld : ∀ (i : Nat) o, ops[i]? = some o → loadStore o = true) (hs : Sim H ι s { tmps := tm, defers := [] } w) (hnm : NoMap s.h) (hr0 : HeapRel H0 ι0 h0 w0) (hst : Step H0 ι0 h0 w0 H ι s.h w) (hD : w0.heap.size ≤ D) (hK : w.heap[D]? = some (.deferred (some [])))
    (hd : DOps P ops s.n ops.toList s.env s.h [] (fun s' => NoMap s'.h ∧ ∃ xs, resAll T s' fn.results.toList xs ∧ R (packAV xs) s'.h)) :
    (Code.seq (.region id ops true) .ret).wp P (bodyPostM Fence.wide 3 P fn (fun e w' => ∃ v r h' H' ι', e = .returned v ∧ R r h' ∧ Rel H' ι' r v ∧ HeapRel H' ι' h' w' ∧ Step H0 ι0 h0 w0 H' ι' h' w')) { tmps := tm, defers := [{ target := .collected D, args := #[] }] } w := by
  have hlo : ¬ LetsOut (Post H ι s.h w (Then (fun s' => NoMap s'.h ∧ ∃ xs, resAll T s' fn.results.toList xs ∧ R (packAV xs) s'.h) fun _ _ => False)) := fun ⟨a, w, s', H', ι', q, r⟩ => q
  refine wp_seq (wp_mono (wp_region_any hmx (any_ds (ds := [{ target := .collected D, args := #[] }]) hlo hld _ _ _ _ (DOps.any (K := fun s' => NoMap s'.h ∧ ∃ xs, resAll T s' fn.results.toList xs ∧ R (packAV xs) s'.h) hd hs))) fun e a' w' hp => ?_)
  obtain ⟨tm', rfl, s', H', ι', q, r, t⟩ := hp
  cases e with
  | normal =>
    obtain ⟨qn, xs, q1, q2⟩ := q
    refine wp_ret ?_
    have hoth := t.others hs.heap hnm
    have hK' := hoth.same D _ hK rfl
    have hg := grownBy_putObj' w' D (.deferred none)
    have hrow : ∀ r, some D = some r → ∃ o : Obj, w'.heap[r]? = some o ∧ o.isCells = false := fun r e => by cases e; exact ⟨_, hK', rfl⟩
    have hr2 := r.heap.grownO qn hg hrow
    have hst2 : Step H0 ι0 h0 w0 H' ι' s'.h (w'.putObj D (.deferred none)) := (hst.trans hr0 hs.heap t).grown hg (fun r e => by cases e; exact hD)
    refine ⟨by simp, .inl ⟨D, _, rfl, run_takeDeferred hK', ?_⟩⟩
    obtain ⟨v, e1, e2⟩ := run_results hT (s := s') (a := { tmps := tm', defers := [] }) ⟨r.n, rfl, r.env, hr2⟩ q1
    exact ⟨v, e2, v, _, _, H', ι', rfl, q2, e1, hr2, hst2⟩
  | _ => exact q.elim
end
end Go.Proofs.YtbbfelelocccmaaGreat.Sv
namespace Go.Proofs.YtbbfelelocccmaaGreat.Sv
open Go Go.RowKit
section
variable {P : Program}
def AW (P : Program) (Q : Exit → Act → World → Prop) (H0 : Know) (ι0 : Lay) (h0 : AHeap) (w0 : World) (c : Code) (s : AState) : Prop :=
  ∀ H ι a w, Sim H ι s a w → Step H0 ι0 h0 w0 H ι s.h w → c.wp P Q a w
def AD (K : Act → World → Prop) (H0 : Know) (ι0 : Lay) (h0 : AHeap) (w0 : World) (s : AState) : Prop :=
  ∀ H ι tm w D, Sim H ι s { tmps := tm, defers := [] } w → Step H0 ι0 h0 w0 H ι s.h w → w0.heap.size ≤ D → w.heap[D]? = some (.deferred (some [])) → K { tmps := tm, defers := [{ target := .collected D, args := #[] }] } w
variable {Q : Exit → Act → World → Prop} {H0 : Know} {ι0 : Lay} {h0 : AHeap} {w0 : World} {s s' : AState} {K : Act → World → Prop}
theorem AW.seq (hr : HeapRel H0 ι0 h0 w0) {x y : Code} (h : AGo P x s (Then (fun s' => AW P Q H0 ι0 h0 w0 y s') (fun _ _ => False))) : AW P Q H0 ι0 h0 w0 (.seq x y) s := fun H ι a w hs hst => by
  refine wp_seq (wp_mono (h H ι a w hs) fun e a' w' hp => ?_)
  obtain ⟨s', H', ι', q, r, t⟩ := hp
  cases e with
  | normal => exact q H' ι' a' w' r (hst.trans hr hs.heap t)
  | _ => exact q.elim
theorem AW.seqw {x y : Code} (h : AW P (fun e a w => match e with
    | .normal => y.wp P Q a w
    | e => Q e a w) H0 ι0 h0 w0 x s) : AW P Q H0 ι0 h0 w0 (.seq x y) s := fun H ι a w hs hst => by
  refine wp_seq (wp_mono (h H ι a w hs hst) fun e a' w' hp => ?_)
  cases e <;> exact hp
theorem AD.ghost (hr : HeapRel H0 ι0 h0 w0) (hg : Ghost s s') (h : AD K H0 ι0 h0 w0 s') : AD K H0 ι0 h0 w0 s := fun H ι tm w D hs hst hD hK => by
  obtain ⟨H', ι', g1, g2⟩ := hg H ι _ w hs
  exact h H' ι' tm w D g1 (hst.trans hr hs.heap g2) hD hK
theorem AW.range (hr : HeapRel H0 ι0 h0 w0) {α : Type} {g : Operand} {p d ida b0 : Nat} {oa : Oper} {body : Code} {gf : Nat} {cs : List AV}
    (hoa : oa.op = .assign (.tmp p)) (hda : oa.dst = some d) (hga : oa.guard = none) (hp : p < s.n) (hd : d < s.n) (hpd : p ≠ d)
    (hg : look s.env g = some (.fn (.func gf) [] cs)) (eg : ∀ args w, (callFunc gf args).run P w = .ok (.enter gf args) w)
    (enc : α → Value) (av : α → AV) (hav : ∀ x H ι, Rel H ι (av x) (enc x)) {S : List α → Prop} {N : Nat}
    (hseq : ∀ H ι w, HeapRel H ι s.h w → ∀ lb : Array Value, lb.size = cs.length → (∀ (j : Nat) (x : AV) (v : Value), cs[j]? = some x → lb[j]? = some v → Rel H ι x v) → SeqStopsK Fence.wide 3 P gf lb (fun x => #[enc x]) (fun _ _ => True) S (fun _ => True) N w)
    (e0 : AEnv) (hI : List α → AHeap) (he0 : ESub e0 s.env) (hm0 : NoMap s.h) (hm : ∀ pre, NoMap (hI pre)) (h1 : HSub (hI []) s.h)
    (hbody : ∀ (l : Nat) (pre : List α) (x : α), pre.length < N → AGoR P l 2 body ⟨s.n, eput (eput e0 p (av x)) d (av x), hI pre⟩ (Then (fun s' => HSub (hI (pre ++ [x])) s'.h) (fun _ _ => False)))
    (hdone : ∀ xs, S xs → AD (Q .normal) H0 ι0 h0 w0 ⟨s.n, s.env, hI xs⟩) :
    AW P Q H0 ι0 h0 w0 (.block b0 (.rangeFunc g #[p] (.region ida #[oa] false) body)) s := fun H ι a w hs hst => by
  refine wp_block ?_
  refine wp_range hs hoa hda hga hp hd hpd hg eg hav (hseq H ι w hs.heap) e0 hI he0 hm0 hm h1 hbody fun D xs W H' ι' hD hS hr' hst' hK => ?_
  show Q .normal _ W
  refine hdone xs hS H' ι' _ W D ⟨hs.n, rfl, fun t x hx => ?_, hr'⟩ (hst.trans hr hs.heap hst') (Nat.le_trans hst.size hD) hK
  obtain ⟨v, e1, e2⟩ := hs.env t x hx
  exact ⟨v, e1, e2.mono hst'.kle hst'.lle⟩
theorem AGoR.join {l n : Nat} {R : Exit → AState → Prop} {γ : Type} {c : Code} (inv : γ → AState) (F : γ → Prop) (h : AGoR P l n c s (Then (fun s' => ∃ g, Sub (inv g) s' ∧ F g) R)) (k : ∀ g, F g → R .normal (inv g)) : AGoR P l n c s R := fun H ι a w hs =>
  wpIn_mono (h H ι a w hs) fun e a' w' hp => by
    obtain ⟨s', H', ι', q, r, t⟩ := hp
    cases e with
    | normal =>
      obtain ⟨g, d, hF⟩ := q
      obtain ⟨H2, ι2, r2, t2⟩ := Ghost.of_sub d H' ι' a' w' r
      exact ⟨_, H2, ι2, k g hF, r2, t.trans hs.heap r.heap t2⟩
    | _ => exact ⟨s', H', ι', q, r, t⟩
theorem Ghost.freezeP {n : Nat} {e : AEnv} {h : AHeap} (t b : Nat) {sz : Nat} {cs : List AV} (ht : e t = some (.ptr b 1 0 0)) (hb : h b = some (.row true sz [cs])) : Ghost ⟨n, e, h⟩ ⟨n, eput e t (.loc cs), hrm h b⟩ := fun H ι a w hs => by
  have hr := hs.heap
  obtain ⟨r, hl, ⟨r1, r2, r3, r4, r5, r6⟩, r7⟩ := hr.obj b _ hb rfl
  have hsol : r.csz ≠ 0 := by simp at r4; omega
  have hsubh : ∀ x o, hrm h b x = some o → h x = some o := fun x o hx => by
    by_cases hxb : x = b
    · subst hxb; rw [hrm_same] at hx; cases hx
    · rwa [hrm_ne _ hxb] at hx
  have hdom : ∀ x, h x = none → hrm h b x = none := fun x hx => by
    cases e : hrm h b x with
    | none => rfl
    | some o => rw [hsubh x o e] at hx; cases hx
  obtain ⟨c, TT, w1, w2, w3⟩ := r6 hsol
  have hnone : H r.rb = none := r7 hsol
  have hkle : KLe H (kput H r.rb c) := fun x c' e => by
    rw [kput_ne _ _ (fun hx => by subst hx; rw [hnone] at e; cases e)]; exact e
  have hsub := hr.sub hsubh
  have hheap : HeapRel (kput H r.rb c) ι (hrm h b) w := by
    refine ⟨fun x c' e => ?_, hsub.free, fun x o h1 h2 => ?_, hsub.inj, hr.glob.mono hkle⟩
    · by_cases hx : x = r.rb
      · subst hx; rw [kput_same] at e; cases e; obtain ⟨fr, w1', _⟩ := w1; exact ⟨TT, fr, w1'⟩
      · rw [kput_ne _ _ hx] at e; exact hr.know x c' e
    · obtain ⟨r', e1, e2, e3⟩ := hsub.obj x o h1 h2
      refine ⟨r', e1, e2.mono hkle (LLe.refl _) (fun _ => rfl), fun hs' => ?_⟩
      have hxb : x ≠ b := fun hx => by subst hx; rw [hrm_same] at h1; cases h1
      rw [kput_ne _ _ (hr.inj x b o _ r' r (hsubh _ _ h1) h2 hb rfl e1 hl hs' hsol hxb)]
      exact e3 hs'
  have hstep : Step H ι h w (kput H r.rb c) ι (hrm h b) w := by
    refine ⟨Nat.le_refl _, rfl, rfl, fun _ _ _ => rfl, hkle, fun x hx => ?_, LLe.refl _, fun _ _ => rfl, fun _ _ h _ => .inl h, hdom⟩
    by_cases hx' : x = r.rb
    · subst hx'; exact .inr (.inr ⟨b, _, r, hb, rfl, hl, hsol, rfl⟩)
    · rw [kput_ne _ _ hx'] at hx; exact .inl hx
  refine ⟨_, ι, ⟨hs.n, hs.d, fun u y hy => ?_, hheap⟩, hstep⟩
  by_cases hu : u = t
  · subst hu
    simp only [eput_same, Option.some.injEq] at hy
    subst hy
    obtain ⟨v, h1, h2⟩ := hs.env u _ ht
    have hv := h2.ptr_live hl r3
    subst hv
    refine ⟨_, h1, .loc _ _ _ _ c (fun k => (c[0 * r.sz + 0 + k]?).getD undef) (kput_same _ _ _) (fun j x hj => ?_) (fun j x hj => ?_) (fun j x hj => ?_)⟩
    · obtain ⟨u, f1, _⟩ := w3.2 0 cs j x rfl hj
      have f1' : c[0 * r.sz + 0 + j]? = some u := by rw [← f1]; congr 1; rw [r1]; omega
      show c[0 * r.sz + 0 + j]? = some ((c[0 * r.sz + 0 + j]?).getD undef); rw [f1']; rfl
    · obtain ⟨u, f1, f2, _⟩ := w3.2 0 cs j x rfl hj
      have f1' : c[0 * r.sz + 0 + j]? = some u := by rw [← f1]; congr 1; rw [r1]; omega
      show Rel _ _ _ ((c[0 * r.sz + 0 + j]?).getD undef); rw [f1']; exact f2.mono hkle (LLe.refl _)
    · obtain ⟨u, _, _, f3⟩ := w3.2 0 cs j x rfl hj; exact f3
  · simp only [eput_ne _ _ hu] at hy
    obtain ⟨v, h1, h2⟩ := hs.env u y hy
    exact ⟨v, h1, h2.mono hkle (LLe.refl _)⟩
theorem NoMap.rm {h : AHeap} (hh : NoMap h) (b : Nat) : NoMap (hrm h b) := fun c q hq => by
  by_cases hc : c = b
  · subst hc; rw [hrm_same] at hq; cases hq
  · rw [hrm_ne _ hc] at hq; exact hh c q hq
abbrev EndsM (P : Program) (fn : Func) (R : AV → AHeap → Prop) (H : Know) (ι : Lay) (h : AHeap) (w : World) : Exit → Act → World → Prop :=
  bodyPostM Fence.wide 3 P fn (fun e w' => ∃ v r h' H' ι', e = .returned v ∧ R r h' ∧ Rel H' ι' r v ∧ HeapRel H' ι' h' w' ∧ Step H ι h w H' ι' h' w')
theorem ACall.of_bodyM {f : FuncId} {fn : Func} {c : Code} {args : List AV} {h : AHeap} {R : AV → AHeap → Prop} (hf : P.funcs[f]? = some fn) (hb : fn.body = some c) {n : Nat} (hn : args.length + (fn.ntmps - args.length) = n)
    (hg : ∀ H ι w, HeapRel H ι h w → AW P (EndsM P fn R H ι h w) H ι h w c ⟨n, argEnv args, h⟩) : ACall P f args h R := by
  intro H ι w vs ha hr
  have hs : Sim H ι ⟨n, argEnv args, h⟩ { tmps := vs ++ Array.replicate (fn.ntmps - vs.size) undef, defers := [] } w := by
    refine ⟨by simp [← ha.1, hn], rfl, fun t x hx => ?_, hr⟩
    have hlt : t < vs.size := by
      rw [← ha.1]
      rcases Nat.lt_or_ge t args.length with h | h
      · exact h
      · simp only [argEnv] at hx; rw [List.getElem?_eq_none h] at hx; cases hx
    obtain ⟨v, hv⟩ := getElem?_some_of_lt hlt
    exact ⟨v, by simp only; rw [Array.getElem?_append_left hlt]; exact hv, ha.2 t x v hx hv⟩
  exact callsIn_wide.1 (callsIn_of_wp_marks (F := Fence.wide) (n := 3) hf hb trivial (wpIn_wide.2 (hg H ι w hr H ι _ w hs (Step.refl _ _ _ _))))
theorem AD.endM {T : Nat → Option TyI} (hT : TOk P T) (hmx : P.follows .mixedOrders = true) {fn : Func} {ops : Array Oper} {id : Nat} {R : AV → AHeap → Prop} (hr : HeapRel H0 ι0 h0 w0)
    (hld : ∀ (i : Nat) o, ops[i]? = some o → loadStore o = true) (hnm : NoMap s.h)
    (hd : DOps P ops s.n ops.toList s.env s.h [] (fun s' => NoMap s'.h ∧ ∃ xs, resAll T s' fn.results.toList xs ∧ R (packAV xs) s'.h)) :
    AD (fun a w => (Code.seq (.region id ops true) .ret).wp P (EndsM P fn R H0 ι0 h0 w0) a w) H0 ι0 h0 w0 s := fun H ι tm w D hs hst hD hK =>
  wp_endM hT hmx hld hs hnm hr hst hD hK hd
theorem AOps.junk {ops : Array Oper} {o : Oper} {rest : List Oper} {n : Nat} {e : AEnv} {h : AHeap} {K : AState → Prop} (d : Nat) {v : Value} (hd : o.dst = some d) (ho : o.op = .assign (.const v)) (hg : o.guard = none) (he : e d = none) (hr : AOps P ops rest ⟨n, e, h⟩ K) : AOps P ops (o :: rest) ⟨n, e, h⟩ K := by
  intro H ι a w hs
  unfold wpList
  rw [if_pos (by simp [Region.wanted, hg])]
  refine .inl ?_
  unfold Oper.wp
  simp only [execOp, ho, Sem.run_pure]
  refine hr H ι _ w ?_
  rw [hd]
  refine ⟨by simp [Act.put, hs.n], hs.d, fun t x hx => ?_, hs.heap⟩
  have hne : d ≠ t := fun e2 => by subst e2; rw [show e d = some x from hx] at he; cases he
  obtain ⟨v', e1, e2⟩ := hs.env t x hx
  exact ⟨v', by simp only [Act.put]; rw [Array.getElem?_setIfInBounds_ne hne]; exact e1, e2⟩
end
end Go.Proofs.YtbbfelelocccmaaGreat.Sv
namespace Go.Proofs.YtbbfelelocccmaaGreat.Sv
open Go Go.RowKit Go.Shelf
abbrev Below' (N : Nat) := { k : Nat // k < N }
def leftOf : Value → Nat
  | .int _ i => (i + 1).toNat
  | _ => 0
theorem rev_succ (k : Nat) : (List.range (k + 1)).reverse = k :: (List.range k).reverse := by
  rw [List.range_succ, List.reverse_append]; rfl
theorem down_in (l N b off : Nat) (hN : N ≤ 1000000000) (J Jx : List (Below' N) → World → Prop)
    (hY : ∀ pre (x : Below' N) W, J pre W → pre.length < N → YieldAt Fence.wide 2 Tryz.prog l #[.int .i64 (x.1 : Int)] W fun e W' =>
      (e = .returned (.bool true) ∧ J (pre ++ [x]) W' ∧ True) ∨ (e = .returned (.bool false) ∧ Jx (pre ++ [x]) W'))
    (W : World) (hB : W.cell? ⟨b, off, none⟩ = some (.int .i64 (N : Int))) (h0 : J [] W) :
    CallsIn Fence.wide 3 Tryz.prog 110 #[.func (.yield l) #[] #[], .pointer (some ⟨b, off, none⟩)] W fun e W' => (∃ v, e = .returned v) ∧
      ((∃ xs : List (Below' N), xs.map (·.1) = (List.range N).reverse ∧ J xs W') ∨ (∃ pre, True ∧ Jx pre W')) := by
  refine callsIn_of_wp Tryz.func110 rfl trivial ?_ rfl
  simp only [Tryz.ntmps110, List.size_toArray, List.length_cons, List.length_nil, Nat.reduceAdd, Nat.reduceSub, Array.replicate_succ, Array.replicate_zero, List.push_toArray, List.append_toArray, List.nil_append, List.cons_append]
  gi_wp2
  gi_loopw [3] (fun p wr => ∃ (m : Nat) (pre : List (Below' N)), p = .int .i64 ((m : Int) - 1) ∧ pre.map (·.1) ++ (List.range m).reverse = (List.range N).reverse ∧ J pre wr)
    (fun p wr => leftOf p)
  case atStart =>
    exact ⟨N, [], rfl, rfl, h0⟩
  case round =>
    obtain ⟨m, pre, rfl, hx, hJs⟩ := hrel
    have hlen := congrArg List.length hx
    simp only [List.length_append, List.length_map, List.length_reverse, List.length_range] at hlen
    cases m with
    | zero =>
      gi_wp2
      exact ⟨rfl, _, results_none rfl _ _ _, ⟨_, rfl⟩, .inl ⟨pre, by simpa using hx, hJs⟩⟩
    | succ k =>
      have hk : k < N := by omega
      obtain ⟨fn, tmps, assign, body, hy, hR⟩ := hY pre ⟨k, hk⟩ wr hJs (by omega)
      dsimp only at hy
      gi_wp2
      refine hR.mono ?_
      rintro e W3 (⟨rfl, hJ3, _⟩ | ⟨rfl, hJx3⟩)
      · gi_wp2
        refine ⟨⟨k, pre ++ [⟨k, hk⟩], rfl, ?_, hJ3⟩, ?_⟩
        · rw [List.map_append, ← hx, rev_succ]
          simp only [List.map_cons, List.map_nil, List.append_assoc, List.cons_append, List.nil_append]
        · show ((k : Int) - 1 + 1).toNat < (((k + 1 : Nat) : Int) - 1 + 1).toNat
          omega
      · gi_wp2
        exact ⟨rfl, _, results_none rfl _ _ _, ⟨_, rfl⟩, .inr ⟨_, trivial, hJx3⟩⟩
theorem down_stops {N : Nat} (hN : N ≤ 1000000000) {H : Know} {ι : Lay} {h : AHeap} {w : World} (hr : HeapRel H ι h w) (lb : Array Value) (hl : lb.size = [AV.loc [.int .i64 (N : Int)]].length)
    (hlb : ∀ (j : Nat) (x : AV) (v : Value), [AV.loc [.int .i64 (N : Int)]][j]? = some x → lb[j]? = some v → Rel H ι x v) :
    SeqStopsK Fence.wide 3 Tryz.prog 110 lb (fun x : Below' N => #[.int .i64 (x.1 : Int)]) (fun _ _ => True) (fun xs => xs.map (·.1) = (List.range N).reverse) (fun _ => True) N w := by
  intro l J Jx W hB hJ hJx hY h0
  obtain ⟨v, hv⟩ := (⟨lb[0]'(by rw [hl]; exact Nat.zero_lt_one), Array.getElem?_eq_getElem _⟩ : ∃ v, lb[0]? = some v)
  have hlb2 : lb = #[v] := by
    cases lb with
    | mk L => cases L with
      | nil => simp at hv
      | cons y L => cases L with
        | nil => simp at hv; rw [hv]
        | cons z L => simp at hl
  subst hlb2
  obtain ⟨b, off, c, vals, rfl, hb, hcv, hcr, _⟩ := (hlb 0 _ v rfl hv).loc_inv
  have e1 := hcv 0 _ rfl
  have e2 := hcr 0 _ rfl
  cases e2_ : vals 0 with
  | int k i =>
    rw [e2_] at e2 e1
    cases e2
    obtain ⟨T, fr, e3⟩ := hr.know b c hb
    have e4 : W.heap[b]? = some (.cells c T fr) := by
      have := hB.block b (Array.getElem?_eq_some_iff.1 e3).1
      exact this.trans e3
    refine (down_in l N b off hN J Jx hY W ?_ h0).mono ?_
    · unfold World.cell?
      rw [e4]
      exact e1
    · intro e W' hp; exact hp
  | _ => rw [e2_] at e2; cases e2
theorem down_ok (n : Int) : ACall Tryz.prog 107 [.int .i64 n] hNew (fun r h' => r = .fn (.func 110) [] [.loc [.int .i64 n]] ∧ HSub hNone h') := by
  refine ACall.of_body (n := 4) tok Tryz.func107 rfl rfl ?_;refine asr ?_;refine ax 1 (obx 1 0) ?_;refine AOps.junk 2 rfl rfl rfl rfl ?_;refine an ?_;refine asq ?_;refine AGo.ghost (.plain 0 rfl (by intro cs hc; simp at hc; subst hc; rfl)) ?_;refine AGo.ghost (.freezeP 1 0 rfl rfl) ?_;refine agr ?_;refine aq 3 (q_makeFunc rfl rfl rfl) ?_;refine aa 2 ?_;refine an ?_;refine agt ?_;exact ⟨[_], ⟨rfl, trivial⟩, rfl, HSub.none _⟩
end Go.Proofs.YtbbfelelocccmaaGreat.Sv
namespace Go.Proofs.YtbbfelelocccmaaGreat.Sv
open Go
theorem radd_okI (z R : Nat) (i : Int) (p : Nat → Bool) (h0 : 0 ≤ i) (hi : i < R) (hR : R ≤ 100000) : ACall Tryz.prog 106 [.ref z (nw R) 0 (nw R), .int .i64 i] (hput hNew z (wRow R p)) (fun r h' => r = .tup [] ∧ HSub (hput hNone z (wRow R (fun v => p v || v == i.toNat))) h') := by
  have := radd_ok z R i.toNat p (by omega) hR
  rw [Int.toNat_of_nonneg h0] at this
  exact this
theorem rrm_okI (z R : Nat) (i : Int) (p : Nat → Bool) (h0 : 0 ≤ i) (hi : i < R) (hR : R ≤ 100000) : ACall Tryz.prog 108 [.ref z (nw R) 0 (nw R), .int .i64 i] (hput hNew z (wRow R p)) (fun r h' => r = .tup [] ∧ HSub (hput hNone z (wRow R (fun v => p v && !(v == i.toNat)))) h') := by
  have := rrm_ok z R i.toNat p (by omega) hR
  rw [Int.toNat_of_nonneg h0] at this
  exact this
theorem tR_nil (x : Block) : tR x [] = endz x := rfl
theorem tS_nil (x : Block) : tS x [] = fun _ => false := rfl
theorem rowW_full {R : Nat} {p : Nat → Bool} : ((rowW R p).drop 0).take (nw R) = rowW R p := by rw [List.drop_zero, List.take_of_length_le (by rw [rowW_len]; exact Nat.le_refl _)]
attribute [local irreducible] rowW endz rmT setT addUs tR tS
theorem touch_ok (x : Block) (R : Nat) (hR : R ≤ 100000) (hi : x.ins.length ≤ 100000) (hT : ∀ t ∈ x.ins, t.inR (R : Int)) (hv : x.fin = 2 → 0 ≤ x.v ∧ x.v < R) : ACall Tryz.prog 97 [.agg x.cells, .int .i64 (R : Int)] hNew (fun r h' => r = .tup [.lst false (rowW R (readP x)), .lst false (rowW R (fun v => setsAny v x.ins))] ∧ HSub hNone h') := by
 refine ACall.of_bodyM (n := 57) Tryz.func97 rfl rfl ?_
 intro H0 ι0 w0 hr
 refine AW.seq hr ?_;refine agr ?_;refine ax 2 (obx 5 0) ?_;refine ax 4 (oal tok 1) ?_;refine ax 5 (oal tok 2) ?_;refine an ?_;refine AW.seq hr ?_;refine agr ?_;refine am 10 ?_;refine ax 11 (oct (rowOf_ok 3 R hR) [3] [(3, (wRow R (fun _ => false)))] rfl Tryz.func98 (by kernel_rfl) rfl rfl rfl ⟨⟨_, rfl, rfl⟩, trivial⟩ rfl (hres_cons rfl (hres_nil _)) ⟨⟨_, rfl, rfl, rfl⟩, trivial⟩ rfl) ?_;refine am 12 ?_;refine ax 13 (oct (rowOf_ok 4 R hR) [4] [(4, (wRow R (fun _ => false)))] rfl Tryz.func98 (by kernel_rfl) rfl rfl rfl ⟨⟨_, rfl, rfl⟩, trivial⟩ rfl (hres_cons rfl (hres_nil _)) ⟨⟨_, rfl, rfl, rfl⟩, trivial⟩ rfl) ?_;refine AOps.w rfl rfl (o_store tok rfl rfl rfl rfl rfl rfl rfl rfl rfl (by decide) rfl z51q) ?_;refine AOps.w rfl rfl (o_store tok rfl rfl rfl rfl rfl rfl rfl rfl rfl (by decide) rfl z51q) ?_;refine an ?_;refine AW.seq hr ?_;refine AGo.join (γ := Unit) (fun _u => ⟨57, (eput (eput (eput eNew 2 (.ptr 0 1 0 0)) 4 (.ptr 1 1 0 0)) 5 (.ptr 2 1 0 0)), (hput (hput (hput (hput (hput hNone 0 (.row false 5 [x.cells])) 1 (.row false 1 [[.ref 3 (nw R) 0 (nw R)]])) 2 (.row false 1 [[.ref 4 (nw R) 0 (nw R)]])) 3 (wRow R (endz x))) 4 (wRow R (fun _ => false)))⟩) (fun _u => True) ?_ ?_
 ·
  refine asr ?_;refine aQ tok 3 rfl ?_;refine an ?_;refine asp 16 (fun hb1 => ?_) fun hb1 => ?_
  ·
   refine act ?_
   have hfin : x.fin = 2 := by simpa using hb1
   have hv2 := hv hfin
   skip
   refine agr ?_;refine aQ tok 3 rfl ?_;refine ax 20 (oct (radd_okI 3 R x.v (fun _ => false) hv2.1 hv2.2 hR) [3] [(3, (wRow R (fun v => (fun _ => false) v || v == x.v.toNat)))] rfl Tryz.func106 (by kernel_rfl) rfl rfl rfl ⟨⟨_, rfl, rfl⟩, trivial⟩ rfl (hres_cons rfl (hres_nil _)) ⟨⟨_, rfl, rfl, rfl⟩, trivial⟩ rfl) ?_;refine an ?_;exact ⟨(), Sub.mk' z46q z6q, trivial⟩
  refine acf ?_
  have hfin : ¬ x.fin = 2 := by simpa using hb1
  refine agk ?_;exact ⟨(), Sub.mk' z46q z6q, trivial⟩
 intro _ _
 refine AW.seqw ?_;refine AW.seq hr ?_;refine agr ?_;refine aQ tok 3 rfl ?_;refine ax 24 (o_call (r := (.fn (.func 110) [] [.loc [.int .i64 (x.ins.length : Int)]])) (hc := hNew) (hw := hNone) [] [] rfl Tryz.func107 (by kernel_rfl) rfl rfl rfl trivial rfl (hres_nil _) trivial rfl (by rw [List.length_map]; exact down_ok _)) ?_;refine an ?_;refine AW.range hr (α := Below' x.ins.length) (S := fun xs => xs.map (·.1) = (List.range x.ins.length).reverse) (N := x.ins.length) rfl rfl rfl (by show 25 < 57; decide) (by show 6 < 57; decide) (by decide) rfl (fun _ _ => rfl) (fun q => .int .i64 (q.1 : Int)) (fun q => .int .i64 (q.1 : Int)) (fun _ _ _ => .int _ _ _) (fun H ι w hh lb h1 h2 => down_stops (by omega) hh lb h1 h2) (eput (eput (eput eNew 2 (.ptr 0 1 0 0)) 4 (.ptr 1 1 0 0)) 5 (.ptr 2 1 0 0)) (fun pre => (hput (hput (hput (hput (hput hNone 0 (.row false 5 [x.cells])) 1 (.row false 1 [[.ref 3 (nw R) 0 (nw R)]])) 2 (.row false 1 [[.ref 4 (nw R) 0 (nw R)]])) 3 (wRow R ((tR x (pre.map (·.1)))))) 4 (wRow R ((tS x (pre.map (·.1))))))) z46q z36q (fun _ => z36q) (by repeat (first | exact HSub.refl _ | exact HSub.none _ | exact HSub.from_new _ | exact HSub.from_from z55q | refine HSub.put ?_ (by first | rfl | exact congrArg (fun p => some (wRow R p)) (tR_nil x).symm | exact congrArg (fun p => some (wRow R p)) (tS_nil x).symm) | refine HSub.from_put ?_ z55q | refine HSub.from_rm ?_ (by decide))) ?_ ?_
 ·
  intro l pre q hlt
  obtain ⟨t, ht⟩ := get_of_lt q.2
  have hin := hT t (List.mem_of_getElem? ht)
  refine AGoR.block ?_;refine AGoR.seq ?_;refine AGoR.seq ?_;refine AGoR.region rfl ?_;refine aQ tok 3 rfl ?_;refine aq 29 (qil tok (idx_map ht)) ?_;refine al 30 tok ?_;refine ax 31 (opu Tryz.func77 (bsets_ok _)) ?_;refine aa 7 ?_;refine an ?_;refine AGoR.seq ?_;refine AGoR.region rfl ?_;refine aQ tok 2 rfl ?_;refine an ?_;refine AGoR.join (γ := Unit) (fun _u => ⟨57, (eput (eput (eput (eput (eput eNew 2 (.ptr 0 1 0 0)) 4 (.ptr 1 1 0 0)) 5 (.ptr 2 1 0 0)) 25 (.int .i64 (q.1 : Int))) 6 (.int .i64 (q.1 : Int))), (hput (hput (hput (hput (hput hNone 0 (.row false 5 [x.cells])) 1 (.row false 1 [[.ref 3 (nw R) 0 (nw R)]])) 2 (.row false 1 [[.ref 4 (nw R) 0 (nw R)]])) 3 (wRow R (rmT t (tR x (pre.map (·.1)))))) 4 (wRow R (setT t (tS x (pre.map (·.1))))))⟩) (fun _u => True) ?_ ?_
  ·
   refine AGoR.split 33 rfl (fun hb2 => ?_) (fun hb2 => ?_)
   ·
    refine AGoR.cond_true true rfl rfl ?_
    have hsp : 0 ≤ t.sets := by simpa using hb2
    have hs1 : t.sets < R := by have := hin.1 (sets_pos (by simpa using hb2)); rw [sets_eq (sets_pos (by simpa using hb2))]; omega
    refine AGoR.seq ?_;refine AGoR.region rfl ?_;refine aQ tok 2 rfl ?_;refine ax 36 (oct (rrm_okI 3 R t.sets (tR x (pre.map (·.1))) hsp hs1 hR) [3] [(3, (wRow R (fun v => (tR x (pre.map (·.1))) v && !(v == t.sets.toNat))))] rfl Tryz.func108 (by kernel_rfl) rfl rfl rfl ⟨⟨_, rfl, rfl⟩, trivial⟩ rfl (hres_cons rfl (hres_nil _)) ⟨⟨_, rfl, rfl, rfl⟩, trivial⟩ rfl) ?_;refine an ?_;refine AGoR.region rfl ?_;refine aQ tok 2 rfl ?_;refine ax 39 (oct (radd_okI 4 R t.sets (tS x (pre.map (·.1))) hsp hs1 hR) [4] [(4, (wRow R (fun v => (tS x (pre.map (·.1))) v || v == t.sets.toNat)))] rfl Tryz.func106 (by kernel_rfl) rfl rfl rfl ⟨⟨_, rfl, rfl⟩, trivial⟩ rfl (hres_cons rfl (hres_nil _)) ⟨⟨_, rfl, rfl, rfl⟩, trivial⟩ rfl) ?_;refine an ?_;exact ⟨(), Sub.mk' z46q z5q, trivial⟩
   refine AGoR.cond_false false rfl rfl ?_
   have hsp : ¬ 0 ≤ t.sets := by simpa using hb2
   refine AGoR.skip ?_;exact ⟨(), Sub.mk' z46q z5q, trivial⟩
  intro _ _
  refine AGoR.seq ?_;refine AGoR.region rfl ?_;refine aQ tok 3 rfl ?_;refine aq 43 (qil tok (idx_map ht)) ?_;refine al 44 tok ?_;refine ax 45 (opu Tryz.func81 (buses_ok _)) ?_;refine aQ tok 2 rfl ?_;refine an ?_;refine AGoR.block ?_;refine AGoR.loopI (γ := Nat) (fun k => ⟨57, (eput (eput (eput (eput (eput (eput (eput (eput eNew 2 (.ptr 0 1 0 0)) 4 (.ptr 1 1 0 0)) 5 (.ptr 2 1 0 0)) 25 (.int .i64 (q.1 : Int))) 6 (.int .i64 (q.1 : Int))) 45 (intsAV t.uses)) 46 (.int .i64 (t.uses.length : Int))) 47 (.int .i64 (k : Int))), (hput (hput (hput (hput (hput hNone 0 (.row false 5 [x.cells])) 1 (.row false 1 [[.ref 3 (nw R) 0 (nw R)]])) 2 (.row false 1 [[.ref 4 (nw R) 0 (nw R)]])) 3 (wRow R (addUs (t.uses.take k) (rmT t (tR x (pre.map (·.1))))))) 4 (wRow R (setT t (tS x (pre.map (·.1))))))⟩) (fun k => True) (fun k => t.uses.length - k) 0 (Sub.mk' (by repeat (first | exact ESub.new _ | refine ESub.put ?_ (by first | rfl | exact congrArg (fun (n : Nat) => some (AV.int .i64 (n : Int))) (by simp) | exact congrArg (fun n : Nat => some (AV.int .i64 (n : Int))) (by simp)))) (by repeat (first | exact HSub.refl _ | exact HSub.none _ | exact HSub.from_new _ | exact HSub.from_from z55q | refine HSub.put ?_ (by first | rfl | exact wRow_congr (fun v => by rw [List.take_zero]; exact addUs_nil v)) | refine HSub.from_put ?_ z55q | refine HSub.from_rm ?_ (by decide)))) trivial ?_
  intro k _
  refine AGoR.seq ?_;refine AGoR.region rfl ?_;refine aqb ?_;refine an ?_;refine AGoR.seq ?_;refine AGoR.split 48 rfl (fun hb3 => ?_) (fun hb3 => ?_)
  ·
   refine AGoR.cond_true true rfl rfl ?_
   have hkl : k < t.uses.length := by have h := hb3; simp [intsAV] at h; exact h
   obtain ⟨u, hu⟩ := get_of_lt hkl
   have hub := hin.2 u (List.mem_of_getElem? hu)
   refine AGoR.skip ?_;refine AGoR.seq ?_;refine AGoR.block ?_;refine AGoR.seq ?_;refine AGoR.region rfl ?_;refine aq 49 (qil tok (idx_map hu)) ?_;refine aQ tok 2 rfl ?_;refine an ?_;refine AGoR.region rfl ?_;refine aQ tok 2 rfl ?_;refine ax 53 (oct (radd_okI 3 R u (addUs (t.uses.take k) (rmT t (tR x (pre.map (·.1))))) hub.1 hub.2 hR) [3] [(3, (wRow R (fun v => (addUs (t.uses.take k) (rmT t (tR x (pre.map (·.1))))) v || v == u.toNat)))] rfl Tryz.func106 (by kernel_rfl) rfl rfl rfl ⟨⟨_, rfl, rfl⟩, trivial⟩ rfl (hres_cons rfl (hres_nil _)) ⟨⟨_, rfl, rfl, rfl⟩, trivial⟩ rfl) ?_;refine an ?_;refine AGoR.region rfl ?_;refine aq 54 (q_inc rfl rfl hkl (by have := uses_len t; simp only [maxLen]; omega)) ?_;refine am 47 ?_;refine an ?_;exact ⟨k+1, Sub.mk' z46q (by repeat (first | exact HSub.refl _ | exact HSub.none _ | exact HSub.from_new _ | exact HSub.from_from z55q | refine HSub.put ?_ (by first | rfl | exact wRow_congr (addUs_succ hu hub.1)) | refine HSub.from_put ?_ z55q | refine HSub.from_rm ?_ (by decide))), trivial, by omega⟩
  refine AGoR.cond_false false rfl rfl ?_
  have hge : t.uses.length ≤ k := by have h := hb3; simp [intsAV] at h; omega
  refine AGoR.exit ?_
  show HSub _ _
  exact (by repeat (first | exact HSub.refl _ | exact HSub.none _ | exact HSub.from_new _ | exact HSub.from_from z55q | refine HSub.put ?_ (by first | rfl | exact wRow_congr (fun v => by rw [List.map_append, List.take_of_length_le hge]; exact (congrFun (tR_snoc ht) v).symm) | exact wRow_congr (fun v => by rw [List.map_append]; exact (congrFun (tS_snoc ht) v).symm)) | refine HSub.from_put ?_ z55q | refine HSub.from_rm ?_ (by decide)))
 intro xs hS
 dsimp only
 rw [hS]
 refine AD.ghost hr (.freezeCell 1 0 0 3 rfl rfl rfl rfl (rowW_len _ _).symm (by decide)) ?_;refine AD.ghost hr (.freezeCell 2 0 0 4 rfl rfl rfl rfl (rowW_len _ _).symm (by decide)) ?_
 rw [rowW_full, rowW_full]
 refine AD.endM tok mix hr (by intro i o ho; rcases i with _ | _ | _ | _ | i <;> first | (cases ho; rfl) | (simp at ho)) z36q ?_;refine dQ tok 2 rfl ?_;refine DOps.w rfl rfl (o_store tok rfl rfl rfl rfl rfl rfl rfl rfl rfl (by decide) rfl z51q) ?_;refine DOps.w rfl rfl (o_store tok rfl rfl rfl rfl rfl rfl rfl rfl rfl (by decide) rfl z51q) ?_;refine DOps.nil (by kernel_rfl) ?_;refine ⟨z36q, [.lst false _, .lst false _], ⟨⟨_, _, _, _, rfl, rfl, .ptr _ _ _ _ _ _ _ _ rfl rfl rfl, rfl⟩, ⟨_, _, _, _, rfl, rfl, .ptr _ _ _ _ _ _ _ _ rfl rfl rfl, rfl⟩, trivial⟩, ?_, HSub.none _⟩
 rw [show rowW R (readP x) = _ from (rowW_congr (tR_all x)).symm, show rowW R (fun v => setsAny v x.ins) = _ from (rowW_congr (tS_all x)).symm]
 rfl
end Go.Proofs.YtbbfelelocccmaaGreat.Sv
namespace Go.Proofs.YtbbfelelocccmaaGreat.Sv
open Go
theorem tiny_touch : APure Tryz.prog 97 [.agg tinyBl.cells, .int .i64 3] (fun r => r = touchR) := by
  have hT : ∀ t ∈ tinyBl.ins, t.inR (3 : Int) := fun t ht => by
    simp only [tinyBl, List.mem_cons, List.not_mem_nil, or_false] at ht
    rcases ht with rfl | rfl <;> exact ⟨by decide, by decide⟩
  have h := touch_ok tinyBl 3 (by decide) (by decide) hT (fun h => absurd h (by decide))
  have e : AV.tup [.lst false (rowW 3 (readP tinyBl)), .lst false (rowW 3 (fun v => setsAny v tinyBl.ins))] = touchR := by rfl
  rw [e] at h
  exact APure.of_call rfl h
theorem tiny_of : APure Tryz.prog 15 tinyAA (fun r => r = tinyR) :=
  APure.of_runR (ct := ct35) (fz := fz35) (lg := [(97, [.agg tinyBl.cells, .int .i64 3], touchR)]) tok mt_ok (by kernel_rfl) 1000 (by kernel_rfl) (logOk_cons tiny_touch (logOk_nil _))
def certV (k : Int) (f : Nat) : Value := .agg #[.int .i64 k, .func (.func f) #[] #[]]
def passV (k : Int) : Value := bif k == 1 then .iface 97 (certV 1 41) else bif k == 2 then .iface 97 (certV 2 42) else bif k == 3 then .iface 97 (certV 3 43) else bif k == 4 then .iface 99 (.agg #[.int .i64 4]) else .nilIface
theorem kind_no {k : Int} (h1 : k ≠ 1) (h2 : k ≠ 2) (h3 : k ≠ 3) (h4 : k ≠ 4) : kind35 k = false := by
  rw [kind35, decide_eq_false_iff_not]; omega
theorem passV_no {k : Int} (h1 : k ≠ 1) (h2 : k ≠ 2) (h3 : k ≠ 3) (h4 : k ≠ 4) : passV k = .nilIface := by
  have a1 : (k == 1) = false := beq_eq_false_iff_ne.2 h1
  have a2 : (k == 2) = false := beq_eq_false_iff_ne.2 h2
  have a3 : (k == 3) = false := beq_eq_false_iff_ne.2 h3
  have a4 : (k == 4) = false := beq_eq_false_iff_ne.2 h4
  simp [passV, a1, a2, a3, a4]
theorem kind_cases {k : Int} (h : kind35 k = true) : k = 1 ∨ k = 2 ∨ k = 3 ∨ k = 4 := by
  have := of_decide_eq_true h
  omega
def recvAV (k : Int) : AV := match ofVal (match passV k with | .iface _ v => v | v => v) with
  | some x => x
  | none => .nil
def holdsFn (k : Int) : Nat := bif k == 4 then 141 else 127
def HoldsOk (p : OPass) (f : BFunc) : Prop := APure Tryz.prog (holdsFn p.kind) [recvAV p.kind, .agg f.cells, .agg p.cells] (fun r => r = .bool (p.holds f))
section
variable {o : Oper} {e : AEnv} {h : AHeap}
theorem o_holds {recv : Operand} {args : Array Operand} {tys : Array TypeId} {p : OPass} {f : BFunc} (hk : kind35 p.kind = true) (ho : o.op = .call { callee := .invoke recv "seedcorn/optimize.holds", args := args, argTypes := tys })
    (hr : look e recv = some (.val (passV p.kind))) (hx : lookAll e args.toList = some [.agg f.cells, .agg p.cells]) (hc : HoldsOk p f) : OLoc Tryz.prog o e h [] [] (some (.bool (p.holds f))) := by
  unfold HoldsOk at hc
  rcases kind_cases hk with h1 | h1 | h1 | h1 <;> rw [h1] at hr hc
  · exact o_invoke ho hr (fun w => mt_ch _ w) (ofVal_rel (by rfl)) Tryz.func127 (by kernel_rfl) rfl hx rfl hc
  · exact o_invoke ho hr (fun w => mt_ch _ w) (ofVal_rel (by rfl)) Tryz.func127 (by kernel_rfl) rfl hx rfl hc
  · exact o_invoke ho hr (fun w => mt_ch _ w) (ofVal_rel (by rfl)) Tryz.func127 (by kernel_rfl) rfl hx rfl hc
  · exact o_invoke ho hr (fun w => mt_jh _ w) (ofVal_rel (by rfl)) Tryz.func141 (by kernel_rfl) rfl hx rfl hc
end
theorem q_boolSame {P : Program} {o : Oper} {e : AEnv} {h : AHeap} {a : Bool} (hq : QLoc P o e h [] (.bool (bif false then !(a == a) else (a == a)))) : QLoc P o e h [] (.bool true) := by
  simpa using hq
structure Ask35 where
  old : Blocks
  new : Blocks
  l : List (List OPass)
  s : ByteArray
def Ask35.cells (z : Ask35) : List AV := [.int .i64 z.old.words, funcsAV z.old.funcs, .int .i64 z.new.words, funcsAV z.new.funcs, listAV z.l, .str z.s]
def fewO (p : OPass) : Bool := decide (p.f.count ≤ 200) && decide (p.f.regs ≤ 30)
def fewP (l : List OPass) : Bool := decide (l.length ≤ 8) && l.all fewO
def few35 (z : Ask35) : Bool := decide (z.l.length ≤ 8) && (small35 z.old && (decide (z.new.funcs.length ≤ 8) && (decide (z.new.count ≤ 300) && (decide (z.s.size ≤ 60) && z.l.all fewP))))
structure PassLim (p : OPass) : Prop where
  c : p.f.count ≤ 1048576
  w : p.f.words
  n : p.paths.length ≤ 1048576
  q : ∀ r ∈ p.paths, r.length ≤ 1048576
structure ListLim (l : List (List OPass)) : Prop where
  n : l.length ≤ 1048576
  m : ∀ ps ∈ l, ps.length ≤ 1048576
  p : ∀ ps ∈ l, ∀ p ∈ ps, PassLim p
structure AskLim (z : Ask35) : Prop where
  o : z.old.Lim
  n : z.new.Lim
  l : ListLim z.l
  ow : ∀ f ∈ z.old.funcs, f.words
  nw : ∀ f ∈ z.new.funcs, f.words
structure Few35 (z : Ask35) : Prop where
  l : z.l.length ≤ 8
  old : Small35 z.old
  n : z.new.funcs.length ≤ 8
  c : z.new.count ≤ 300
  s : z.s.size ≤ 60
  p : ∀ ps ∈ z.l, ps.length ≤ 8 ∧ ∀ p ∈ ps, p.f.count ≤ 200 ∧ p.f.regs ≤ 30
theorem few35_of {z : Ask35} (h : few35 z = true) : Few35 z := by
  simp only [few35, Bool.and_eq_true, decide_eq_true_eq] at h
  refine ⟨h.1, small35_of h.2.1, h.2.2.1, h.2.2.2.1, h.2.2.2.2.1, fun ps hp => ?_⟩
  have := List.all_eq_true.1 h.2.2.2.2.2 ps hp
  simp only [fewP, Bool.and_eq_true, decide_eq_true_eq] at this
  refine ⟨this.1, fun p hpp => ?_⟩
  have h2 := List.all_eq_true.1 this.2 p hpp
  simpa [fewO] using h2
theorem allq_take {α : Type} {q : α → Bool} {l : List α} {k : Nat} {f : α} (h : l[k]? = some f) (h1 : (l.take k).all q = true) (h2 : q f = true) : (l.take (k + 1)).all q = true := by
  rw [List.take_add_one, h, List.all_append, h1]
  simp [h2]
theorem allq_no {α : Type} {q : α → Bool} {l : List α} {f : α} (h : f ∈ l) (h2 : q f = false) : l.all q = false := by
  rw [Bool.eq_false_iff]
  intro e
  rw [List.all_eq_true.1 e f h] at h2
  cases h2
theorem fewP_no {l : List OPass} {p : OPass} (hp : p ∈ l) (h : fewO p = false) : fewP l = false := by
  rw [fewP, allq_no hp h, Bool.and_false]
structure I35 (f : BFunc) : Prop where
  c : f.count ≤ 300
  w : f.words
theorem I35.lim {f : BFunc} (h : I35 f) : f.Lim := BFunc.lim_of (Nat.le_trans h.c (by decide))
theorem I35.n {f : BFunc} (h : I35 f) : f.blocks.length ≤ 10000 := by have := count_split f; have := h.c; omega
theorem I35.i {f : BFunc} (h : I35 f) : ∀ x ∈ f.blocks, x.ins.length ≤ 10000 ∧ insW x.ins := fun x hx => by
  have h1 : x.count ≤ f.count := le_sum hx
  have := h.c
  simp only [Block.count] at h1
  exact ⟨by omega, h.w x hx⟩
structure P35 (p : OPass) : Prop where
  f : I35 p.f
  n : p.paths.length ≤ 1048576
  q : ∀ r ∈ p.paths, r.length ≤ 1048576
theorem Few35.pass {z : Ask35} (h : Few35 z) (hl : ListLim z.l) : ∀ ps ∈ z.l, ps.length ≤ 8 ∧ ∀ p ∈ ps, P35 p := fun ps hp => ⟨(h.p ps hp).1, fun p hpp =>
  ⟨⟨Nat.le_trans ((h.p ps hp).2 p hpp).1 (by decide), (hl.p ps hp p hpp).w⟩, (hl.p ps hp p hpp).n, (hl.p ps hp p hpp).q⟩⟩
theorem Small35.i {b : Blocks} (h : Small35 b) (hw : ∀ f ∈ b.funcs, f.words) : ∀ f ∈ b.funcs, I35 f := fun f hf => ⟨by have h1 : f.count ≤ b.count := le_sum hf; have := h.c; omega, hw f hf⟩
theorem holds_of {p : OPass} {f : BFunc} (hk : kind35 p.kind = true) : p.holds f = bif p.kind == 4 then p.cert.same.isEmpty && checkB f p.f p.paths else p.paths.isEmpty && vcheck f p.f p.cert := by
  unfold OPass.holds
  cases p.kind == 4 with
  | true => rfl
  | false => rw [cond_false, cond_false, show decide (1 ≤ p.kind ∧ p.kind ≤ 4) = true from hk, Bool.true_and]
theorem sizeFunc_ok (f : BFunc) (hc : f.count ≤ 1000000000) : APure Tryz.prog 35 [.agg f.cells] (fun r => r = .int .i64 (f.count : Int)) := by
 have hs3 := count_split f
 refine APure.of_body (n := 25) tok Tryz.func35 rfl rfl ?_;refine asq ?_;refine AGo.slot 0 rfl (fun H ι v => rel_bfunc) (fun hfit => ?_)
 refine agr ?_;refine ax 1 (obx 2 0) ?_;refine aa 2 ?_;refine an ?_;refine asr ?_;refine aQ tok 4 rfl ?_;refine an ?_;refine asq ?_;refine asr ?_;refine aa 4 ?_;refine an ?_;refine AGo.block ?_;refine AGo.loopD (γ := Nat) 1 (fun j => ⟨25, (eput (eput (eput eNew 1 (.ptr 0 1 0 0)) 3 (.int .i64 ((f.blocks.length + insSumB (f.blocks.take j) : Nat) : Int))) 4 (.int .i64 (j : Int))), (hput (hFrom 1) 0 (.row false 2 [f.cells]))⟩) (fun j => True) (fun j => f.blocks.length - j) 0 (Sub.mk' (by repeat (first | exact ESub.new _ | refine ESub.put ?_ (by first | rfl | exact congrArg (fun (n : Nat) => some (AV.int .i64 (n : Int))) (by show (List.map Block.cells f.blocks).length = f.blocks.length + 0; simp)))) z12q) trivial (fun _ => hput_free (fun b hb => hFrom_free hb) rfl) ?_
 intro j _
 refine asq ?_;refine asr ?_;refine aQ tok 5 rfl ?_;refine an ?_;refine asp 12 (fun hb1 => ?_) fun hb1 => ?_
 ·
  refine act ?_
  have hjl : j < f.blocks.length := by simpa using hb1
  obtain ⟨x, hx⟩ := get_of_lt hjl
  have hs4 := insSumB_succ hx
  have hs5 := insSumB_take (l := f.blocks) (k := j + 1)
  refine agk ?_;refine asq ?_;refine AGo.block ?_;refine agr ?_;refine aQ tok 4 rfl ?_;refine aq 19 (q_index_lst tok rfl rfl rfl rfl rfl rfl (Int.natCast_nonneg _) (idx_map (by assumption)) rfl) ?_;refine aQ tok 3 rfl ?_;refine aq 23 (q_bin (r := .int .i64 (((f.blocks.length + insSumB (f.blocks.take j)) + x.ins.length : Nat) : Int)) rfl rfl rfl (by simp only [evalBin, evalInt, isShift, cond_false, if_true]; rw [List.length_map, wrap_i64 (by omega) (by omega)]; rfl)) ?_;refine aa 3 ?_;refine an ?_;refine agr ?_;refine am 13 ?_;refine aq 14 (q_inc rfl rfl hjl hfit.1) ?_;refine aa 4 ?_;refine an ?_;exact ⟨j+1, Drop.mk' (by repeat (first | exact EDrop.new _ _ | refine EDrop.put ?_ (by first | rfl | exact congrArg (fun (n : Nat) => some (AV.int .i64 (n : Int))) (by rw [hs4]; omega)) z48q)) z18q, trivial, by omega⟩
 refine acf ?_
 have hje : insSumB (f.blocks.take j) = insSumB f.blocks := by rw [List.take_of_length_le (by simpa using hb1)]
 refine AGo.exit ?_;refine asr ?_;refine aQ tok 2 rfl ?_;refine an ?_;refine agt ⟨[_], ⟨rfl, trivial⟩, ?_, rfl⟩
 show AV.int .i64 _ = AV.int .i64 _
 congr 1
 rw [hje, hs3]
theorem rsize_ok (b : Blocks) (hc : b.count ≤ 1000000000) : APure Tryz.prog 27 [.agg b.cells] (fun r => r = .int .i64 (b.count : Int)) := by
 refine APure.of_body (n := 21) tok Tryz.func27 rfl rfl ?_;refine asq ?_;refine AGo.slot 0 rfl (fun H ι v => rel_prog) (fun hfit => ?_)
 refine agr ?_;refine ax 1 (obx 2 0) ?_;refine aa 2 ?_;refine an ?_;refine asr ?_;refine aa 3 ?_;refine an ?_;refine asq ?_;refine asr ?_;refine aa 4 ?_;refine an ?_;refine AGo.block ?_;refine AGo.loopD (γ := Nat) 1 (fun k => ⟨21, (eput (eput (eput eNew 1 (.ptr 0 1 0 0)) 3 (.int .i64 ((((b.funcs.take k).map BFunc.count).sum : Nat) : Int))) 4 (.int .i64 (k : Int))), (hput (hFrom 1) 0 (.row false 2 [b.cells]))⟩) (fun k => True) (fun k => b.funcs.length - k) 0 (Sub.mk' z29q z12q) trivial (fun _ => hput_free (fun b hb => hFrom_free hb) rfl) ?_
 intro k _
 refine asq ?_;refine asr ?_;refine aQ tok 5 rfl ?_;refine an ?_;refine asp 9 (fun hb1 => ?_) fun hb1 => ?_
 ·
  refine act ?_
  have hkl : k < b.funcs.length := by simpa using hb1
  obtain ⟨f, hf⟩ := get_of_lt hkl
  have hs1 := sum_succ (p := BFunc.count) hf
  have hs2 : _ ≤ b.count := sum_take_le (l := b.funcs) (p := BFunc.count) (k := k + 1)
  have hs3 := count_split f
  refine agk ?_;refine asq ?_;refine AGo.block ?_;refine agr ?_;refine aQ tok 4 rfl ?_;refine aq 16 (q_index_lst tok rfl rfl rfl rfl rfl rfl (Int.natCast_nonneg _) (idx_map (by assumption)) rfl) ?_;refine al 17 tok ?_;refine ax 18 (opu Tryz.func35 (sizeFunc_ok f (by omega))) ?_;refine aq 19 (q_bin (r := .int .i64 ((((b.funcs.take k).map BFunc.count).sum + f.count : Nat) : Int)) rfl rfl rfl (by simp only [evalBin, evalInt, isShift, cond_false, if_true]; rw [wrap_i64 (by omega) (by omega)]; rfl)) ?_;refine aa 3 ?_;refine an ?_;refine agr ?_;refine am 10 ?_;refine aq 11 (q_inc rfl rfl hkl hfit.1) ?_;refine aa 4 ?_;refine an ?_;exact ⟨k+1, Drop.mk' (by repeat (first | exact EDrop.new _ _ | refine EDrop.put ?_ (by first | rfl | exact congrArg (fun (n : Nat) => some (AV.int .i64 (n : Int))) (by rw [hs1])) z48q)) z18q, trivial, by omega⟩
 refine acf ?_
 have hke : ((b.funcs.take k).map BFunc.count).sum = b.count := sum_end (by simpa using hb1)
 refine AGo.exit ?_;refine asr ?_;refine aQ tok 2 rfl ?_;refine an ?_;refine agt ⟨[_], ⟨rfl, trivial⟩, ?_, rfl⟩
 show AV.int .i64 _ = AV.int .i64 _
 congr 1
 rw [hke]
theorem sets_ok (t : Tac) : APure Tryz.prog 74 [.agg t.cells] (fun r => r = .int .i64 t.sets) := by
 refine APure.of_body (n := 14) tok Tryz.func74 rfl rfl ?_;refine asr ?_;refine ax 1 (obx 8 0) ?_;refine aa 2 ?_;refine an ?_;refine asq ?_;refine asr ?_;refine aQ tok 2 rfl ?_;refine an ?_;refine AGo.block ?_;refine asq ?_;refine asr ?_;refine aQ tok 2 rfl ?_;refine an ?_;refine asp 5 (fun hb1 => ?_) fun hb1 => ?_
 ·
  refine act ?_;refine agk ?_;refine act ?_;refine asr ?_;refine aQ tok 3 rfl ?_;refine an ?_;refine agt ⟨[_], ⟨rfl, trivial⟩, ?_, rfl⟩
  show AV.int .i64 _ = AV.int .i64 _
  congr 1
  simp [Tac.sets, setsOp, *]
 refine acf ?_;refine asr ?_;refine aQ tok 2 rfl ?_;refine an ?_;refine asp 5 (fun hb2 => ?_) fun hb2 => ?_
 ·
  refine act ?_;refine agk ?_;refine act ?_;refine asr ?_;refine aQ tok 3 rfl ?_;refine an ?_;refine agt ⟨[_], ⟨rfl, trivial⟩, ?_, rfl⟩
  show AV.int .i64 _ = AV.int .i64 _
  congr 1
  simp [Tac.sets, setsOp, *]
 refine acf ?_;refine asr ?_;refine aQ tok 2 rfl ?_;refine an ?_;refine asp 5 (fun hb3 => ?_) fun hb3 => ?_
 ·
  refine act ?_;refine agk ?_;refine act ?_;refine asr ?_;refine aQ tok 3 rfl ?_;refine an ?_;refine agt ⟨[_], ⟨rfl, trivial⟩, ?_, rfl⟩
  show AV.int .i64 _ = AV.int .i64 _
  congr 1
  simp [Tac.sets, setsOp, *]
 refine acf ?_;refine asr ?_;refine aQ tok 2 rfl ?_;refine an ?_;refine asp 5 (fun hb4 => ?_) fun hb4 => ?_
 ·
  refine act ?_;refine agk ?_;refine act ?_;refine asr ?_;refine aQ tok 3 rfl ?_;refine an ?_;refine agt ⟨[_], ⟨rfl, trivial⟩, ?_, rfl⟩
  show AV.int .i64 _ = AV.int .i64 _
  congr 1
  simp [Tac.sets, setsOp, *]
 refine acf ?_;refine asr ?_;refine aQ tok 2 rfl ?_;refine an ?_;refine asp 5 (fun hb5 => ?_) fun hb5 => ?_
 ·
  refine act ?_;refine agk ?_;refine act ?_;refine asr ?_;refine aQ tok 3 rfl ?_;refine an ?_;refine agt ⟨[_], ⟨rfl, trivial⟩, ?_, rfl⟩
  show AV.int .i64 _ = AV.int .i64 _
  congr 1
  simp [Tac.sets, setsOp, *]
 refine acf ?_;refine agr ?_;refine aQ tok 2 rfl ?_;refine an ?_;refine asp 5 (fun hb6 => ?_) fun hb6 => ?_
 ·
  refine act ?_;refine asr ?_;refine aQ tok 3 rfl ?_;refine an ?_;refine agt ⟨[_], ⟨rfl, trivial⟩, ?_, rfl⟩
  show AV.int .i64 _ = AV.int .i64 _
  congr 1
  simp [Tac.sets, setsOp, *]
 refine acf ?_;refine agk ?_;refine asr ?_;refine aa 2 ?_;refine an ?_;refine agt ⟨[_], ⟨rfl, trivial⟩, ?_, rfl⟩
 show AV.int .i64 _ = AV.int .i64 _
 congr 1
 simp [Tac.sets, setsOp, *]
theorem uses_ok (t : Tac) : APure Tryz.prog 75 [.agg t.cells] (fun r => r = intsAV t.uses) := by
 refine APure.of_body (n := 21) tok Tryz.func75 rfl rfl ?_;refine asr ?_;refine ax 1 (obx 8 0) ?_;refine aa 2 ?_;refine an ?_;refine asq ?_;refine asr ?_;refine aQ tok 2 rfl ?_;refine an ?_;refine AGo.block ?_;refine asq ?_;refine asr ?_;refine aQ tok 2 rfl ?_;refine an ?_;refine asp 5 (fun hb1 => ?_) fun hb1 => ?_
 ·
  refine act ?_;refine agk ?_;refine act ?_;refine asr ?_;refine aQ tok 2 rfl ?_;refine ax 12 (o_lit' tok rfl rfl rfl rfl rfl rfl (by decide) rfl rfl rfl rfl rfl rfl) ?_;refine aa 2 ?_;refine an ?_;refine agt ⟨[_], ⟨rfl, trivial⟩, ?_, rfl⟩
  show AV.lst false _ = _
  simp [Tac.uses, use1, use2, intsAV, partVals, AV.cells, *]
 refine acf ?_;refine asr ?_;refine aQ tok 2 rfl ?_;refine an ?_;refine asp 5 (fun hb2 => ?_) fun hb2 => ?_
 ·
  refine act ?_;refine agk ?_;refine act ?_;refine asr ?_;refine aQ tok 2 rfl ?_;refine ax 12 (o_lit' tok rfl rfl rfl rfl rfl rfl (by decide) rfl rfl rfl rfl rfl rfl) ?_;refine aa 2 ?_;refine an ?_;refine agt ⟨[_], ⟨rfl, trivial⟩, ?_, rfl⟩
  show AV.lst false _ = _
  simp [Tac.uses, use1, use2, intsAV, partVals, AV.cells, *]
 refine acf ?_;refine asr ?_;refine aQ tok 2 rfl ?_;refine an ?_;refine asp 5 (fun hb3 => ?_) fun hb3 => ?_
 ·
  refine act ?_;refine agk ?_;refine act ?_;refine asr ?_;refine aQ tok 2 rfl ?_;refine ax 12 (o_lit' tok rfl rfl rfl rfl rfl rfl (by decide) rfl rfl rfl rfl rfl rfl) ?_;refine aa 2 ?_;refine an ?_;refine agt ⟨[_], ⟨rfl, trivial⟩, ?_, rfl⟩
  show AV.lst false _ = _
  simp [Tac.uses, use1, use2, intsAV, partVals, AV.cells, *]
 refine acf ?_;refine agr ?_;refine aQ tok 2 rfl ?_;refine an ?_;refine asp 5 (fun hb4 => ?_) fun hb4 => ?_
 ·
  refine act ?_;refine asr ?_;refine aQ tok 2 rfl ?_;refine ax 12 (o_lit' tok rfl rfl rfl rfl rfl rfl (by decide) rfl rfl rfl rfl rfl rfl) ?_;refine aa 2 ?_;refine an ?_;refine agt ⟨[_], ⟨rfl, trivial⟩, ?_, rfl⟩
  show AV.lst false _ = _
  simp [Tac.uses, use1, use2, intsAV, partVals, AV.cells, *]
 refine acf ?_;refine asq ?_;refine asr ?_;refine aQ tok 2 rfl ?_;refine an ?_;refine asp 13 (fun hb5 => ?_) fun hb5 => ?_
 ·
  refine act ?_;refine agk ?_;refine act ?_;refine asr ?_;refine aQ tok 4 rfl ?_;refine ax 20 (o_lit' tok rfl rfl rfl rfl rfl rfl (by decide) rfl rfl rfl rfl rfl rfl) ?_;refine aa 2 ?_;refine an ?_;refine agt ⟨[_], ⟨rfl, trivial⟩, ?_, rfl⟩
  show AV.lst false _ = _
  simp [Tac.uses, use1, use2, intsAV, partVals, AV.cells, *]
 refine acf ?_;refine agr ?_;refine aQ tok 2 rfl ?_;refine an ?_;refine asp 13 (fun hb6 => ?_) fun hb6 => ?_
 ·
  refine act ?_;refine asr ?_;refine aQ tok 4 rfl ?_;refine ax 20 (o_lit' tok rfl rfl rfl rfl rfl rfl (by decide) rfl rfl rfl rfl rfl rfl) ?_;refine aa 2 ?_;refine an ?_;refine agt ⟨[_], ⟨rfl, trivial⟩, ?_, rfl⟩
  show AV.lst false _ = _
  simp [Tac.uses, use1, use2, intsAV, partVals, AV.cells, *]
 refine acf ?_;refine agk ?_;refine asr ?_;refine aa 2 ?_;refine an ?_;refine AGo.ghost (.empty 2 rfl) ?_;refine agt ⟨[_], ⟨rfl, trivial⟩, ?_, rfl⟩
 show AV.lst false _ = _
 simp [Tac.uses, use1, use2, intsAV, partVals, AV.cells, *]
theorem within_ok (i j : Int) : APure Tryz.prog 73 [.int .i64 i, .int .i64 j] (fun r => r = .bool (within i j)) := by
 refine APure.of_body (n := 12) tok Tryz.func73 rfl rfl ?_;refine asr ?_;refine aa 4 ?_;refine an ?_;refine asr ?_;refine aQ tok 3 rfl ?_;refine aop 7 (fun hb1 => ?_) fun hb1 => ?_
 ·
  refine aQ tok 5 rfl ?_;refine an ?_;refine agt ⟨[_], ⟨rfl, trivial⟩, ?_, rfl⟩
  refine bc ?_
  simp_all [within] <;> omega
 refine aQ tok 5 rfl ?_;refine an ?_;refine agt ⟨[_], ⟨rfl, trivial⟩, ?_, rfl⟩
 refine bc ?_
 simp_all [within] <;> omega
theorem ends_ok (b : Block) (blocks regs : Int) : APure Tryz.prog 54 [.agg b.cells, .int .i64 blocks, .int .i64 regs] (fun r => r = .bool (b.ends blocks regs)) := by
 refine APure.of_body (n := 61) tok Tryz.func54 rfl rfl ?_;refine asr ?_;refine ax 3 (obx 5 0) ?_;refine aa 6 ?_;refine an ?_;refine asq ?_;refine asr ?_;refine aQ tok 2 rfl ?_;refine an ?_;refine AGo.block ?_;refine asr ?_;refine aQ tok 2 rfl ?_;refine an ?_;refine asp 9 (fun hb1 => ?_) fun hb1 => ?_
 ·
  refine act ?_;refine asr ?_;refine aQ tok 3 rfl ?_;refine ax 14 (opu Tryz.func73 (within_ok _ _)) ?_;refine am 15 ?_;refine aop 15 (fun hb2 => ?_) fun hb2 => ?_
  ·
   refine aQ tok 5 rfl ?_;refine aop 20 (fun hb3 => ?_) fun hb3 => ?_
   ·
    refine aQ tok 5 rfl ?_;refine an ?_;refine agt ⟨[_], ⟨rfl, trivial⟩, ?_, rfl⟩
    refine bc ?_
    simp_all [Block.ends]
   refine aQ tok 5 rfl ?_;refine an ?_;refine agt ⟨[_], ⟨rfl, trivial⟩, ?_, rfl⟩
   refine bc ?_
   simp_all [Block.ends]
  refine aQ tok 10 rfl ?_;refine an ?_;refine agt ⟨[_], ⟨rfl, trivial⟩, ?_, rfl⟩
  refine bc ?_
  simp_all [Block.ends]
 refine acf ?_;refine asr ?_;refine aQ tok 2 rfl ?_;refine an ?_;refine asp 25 (fun hb4 => ?_) fun hb4 => ?_
 ·
  refine act ?_;refine asr ?_;refine aQ tok 3 rfl ?_;refine ax 30 (opu Tryz.func73 (within_ok _ _)) ?_;refine am 31 ?_;refine aop 31 (fun hb5 => ?_) fun hb5 => ?_
  ·
   refine aQ tok 3 rfl ?_;refine ax 35 (opu Tryz.func73 (within_ok _ _)) ?_;refine aQ tok 2 rfl ?_;refine aop 37 (fun hb6 => ?_) fun hb6 => ?_
   ·
    refine aQ tok 3 rfl ?_;refine ax 41 (opu Tryz.func73 (within_ok _ _)) ?_;refine aQ tok 2 rfl ?_;refine an ?_;refine agt ⟨[_], ⟨rfl, trivial⟩, ?_, rfl⟩
    refine bc ?_
    simp_all [Block.ends]
   refine aQ tok 6 rfl ?_;refine an ?_;refine agt ⟨[_], ⟨rfl, trivial⟩, ?_, rfl⟩
   refine bc ?_
   simp_all [Block.ends]
  refine aQ tok 12 rfl ?_;refine an ?_;refine agt ⟨[_], ⟨rfl, trivial⟩, ?_, rfl⟩
  refine bc ?_
  simp_all [Block.ends]
 refine acf ?_;refine agk ?_;refine asr ?_;refine aQ tok 4 rfl ?_;refine aop 46 (fun hb7 => ?_) fun hb7 => ?_
 ·
  refine aQ tok 5 rfl ?_;refine aop 51 (fun hb8 => ?_) fun hb8 => ?_
  ·
   refine aQ tok 5 rfl ?_;refine aop 56 (fun hb9 => ?_) fun hb9 => ?_
   ·
    refine aQ tok 5 rfl ?_;refine an ?_;refine agt ⟨[_], ⟨rfl, trivial⟩, ?_, rfl⟩
    refine bc ?_
    simp_all [Block.ends]
   refine aQ tok 5 rfl ?_;refine an ?_;refine agt ⟨[_], ⟨rfl, trivial⟩, ?_, rfl⟩
   refine bc ?_
   simp_all [Block.ends]
  refine aQ tok 10 rfl ?_;refine an ?_;refine agt ⟨[_], ⟨rfl, trivial⟩, ?_, rfl⟩
  refine bc ?_
  simp_all [Block.ends]
 refine aQ tok 15 rfl ?_;refine an ?_;refine agt ⟨[_], ⟨rfl, trivial⟩, ?_, rfl⟩
 refine bc ?_
 simp_all [Block.ends]
theorem fits_ok (t : Tac) (f regs words : Int) (hw : 0 ≤ words) (hw2 : words ≤ 1048576) : APure Tryz.prog 55 [.agg t.cells, .int .i64 f, .int .i64 regs, .int .i64 words] (fun r => r = .bool (t.fits f regs words)) := by
 refine APure.of_body (n := 166) tok Tryz.func55 rfl rfl ?_;refine asr ?_;refine ax 4 (obx 8 0) ?_;refine aa 8 ?_;refine an ?_;refine asq ?_;refine asr ?_;refine aQ tok 4 rfl ?_;refine aop 15 (fun hb1 => ?_) fun hb1 => ?_
 ·
  refine aQ tok 4 rfl ?_;refine an ?_;refine act ?_;refine asr ?_;refine aa 8 ?_;refine an ?_;refine agt ⟨[_], ⟨rfl, trivial⟩, ?_, rfl⟩
  refine bc ?_;exact (fits_op (by simp_all <;> omega)).symm
 refine aQ tok 4 rfl ?_;refine an ?_;refine asp 19 (fun hb2 => ?_) fun hb2 => ?_
 ·
  refine act ?_;refine asr ?_;refine aa 8 ?_;refine an ?_;refine agt ⟨[_], ⟨rfl, trivial⟩, ?_, rfl⟩
  refine bc ?_;exact (fits_op (by simp_all <;> omega)).symm
 refine acf ?_;refine agk ?_;refine asr ?_;refine aQ tok 2 rfl ?_;refine aq 22 (q_build tok rfl rfl rfl rfl rfl (by decide) rfl rfl rfl) ?_;refine ax 9 (oal tok 1) ?_;refine AOps.w rfl rfl (o_store tok rfl rfl rfl rfl rfl rfl rfl rfl rfl (by decide) rfl z51q) ?_;refine an ?_;refine asq ?_;refine AGo.join (γ := Int) (fun d => ⟨166, (eput (eput (eput (eput (eput eNew 1 (.int .i64 f)) 2 (.int .i64 regs)) 3 (.int .i64 words)) 4 (.ptr 0 1 0 0)) 9 (.ptr 1 1 0 0)), (hput (hput (hFrom 2) 0 (.row false 8 [t.cells])) 1 (.row false 8 [[.int .i64 t.op, .int .i64 d, .int .i64 0, .int .i64 0, .int .i64 0, .int .i64 0, .int .i64 0, .int .u32 0]]))⟩) (fun d => (!setsOp t.op || within t.d regs) = true ∧ d = bif setsOp t.op then t.d else 0) ?_ ?_
 ·
  refine asr ?_;refine al 23 tok ?_;refine ax 24 (opu Tryz.func74 (sets_ok _)) ?_;refine aQ tok 2 rfl ?_;refine aop 26 (fun hb3 => ?_) fun hb3 => ?_
  ·
   refine aQ tok 29 rfl ?_;refine an ?_;refine act ?_;refine asr ?_;refine aQ tok 3 rfl ?_;refine AOps.w rfl rfl (o_store tok rfl rfl rfl rfl rfl rfl rfl rfl rfl (by decide) rfl z51q) ?_;refine an ?_;refine asr ?_;refine aQ tok 3 rfl ?_;refine ax 62 (opu Tryz.func73 (within_ok _ _)) ?_;refine aq 63 (q_not rfl rfl) ?_;refine an ?_;refine asp 63 (fun hb4 => ?_) fun hb4 => ?_
   ·
    refine act ?_;refine asr ?_;refine aa 8 ?_;refine an ?_;refine agt ⟨[_], ⟨rfl, trivial⟩, ?_, rfl⟩
    refine bc ?_;exact (fits_d z49q z59q).symm
   refine acf ?_;refine agk ?_;exact ⟨t.d, Sub.mk' z46q z12q, ⟨by have h := ‹(!within t.d regs) = false›; simp at h; simp [h], by first | (simp [setsOp, *]; done) | simp [sets_pos ‹_›]⟩⟩
  refine aQ tok 5 rfl ?_;refine aop 31 (fun hb5 => ?_) fun hb5 => ?_
  ·
   refine aQ tok 24 rfl ?_;refine an ?_;refine act ?_;refine asr ?_;refine aQ tok 3 rfl ?_;refine AOps.w rfl rfl (o_store tok rfl rfl rfl rfl rfl rfl rfl rfl rfl (by decide) rfl z51q) ?_;refine an ?_;refine asr ?_;refine aQ tok 3 rfl ?_;refine ax 62 (opu Tryz.func73 (within_ok _ _)) ?_;refine aq 63 (q_not rfl rfl) ?_;refine an ?_;refine asp 63 (fun hb6 => ?_) fun hb6 => ?_
   ·
    refine act ?_;refine asr ?_;refine aa 8 ?_;refine an ?_;refine agt ⟨[_], ⟨rfl, trivial⟩, ?_, rfl⟩
    refine bc ?_;exact (fits_d z49q z59q).symm
   refine acf ?_;refine agk ?_;exact ⟨t.d, Sub.mk' z46q z12q, ⟨by have h := ‹(!within t.d regs) = false›; simp at h; simp [h], by first | (simp [setsOp, *]; done) | simp [sets_pos ‹_›]⟩⟩
  refine aQ tok 5 rfl ?_;refine aop 36 (fun hb7 => ?_) fun hb7 => ?_
  ·
   refine aQ tok 19 rfl ?_;refine an ?_;refine act ?_;refine asr ?_;refine aQ tok 3 rfl ?_;refine AOps.w rfl rfl (o_store tok rfl rfl rfl rfl rfl rfl rfl rfl rfl (by decide) rfl z51q) ?_;refine an ?_;refine asr ?_;refine aQ tok 3 rfl ?_;refine ax 62 (opu Tryz.func73 (within_ok _ _)) ?_;refine aq 63 (q_not rfl rfl) ?_;refine an ?_;refine asp 63 (fun hb8 => ?_) fun hb8 => ?_
   ·
    refine act ?_;refine asr ?_;refine aa 8 ?_;refine an ?_;refine agt ⟨[_], ⟨rfl, trivial⟩, ?_, rfl⟩
    refine bc ?_;exact (fits_d z49q z59q).symm
   refine acf ?_;refine agk ?_;exact ⟨t.d, Sub.mk' z46q z12q, ⟨by have h := ‹(!within t.d regs) = false›; simp at h; simp [h], by first | (simp [setsOp, *]; done) | simp [sets_pos ‹_›]⟩⟩
  refine aQ tok 5 rfl ?_;refine aop 41 (fun hb9 => ?_) fun hb9 => ?_
  ·
   refine aQ tok 14 rfl ?_;refine an ?_;refine act ?_;refine asr ?_;refine aQ tok 3 rfl ?_;refine AOps.w rfl rfl (o_store tok rfl rfl rfl rfl rfl rfl rfl rfl rfl (by decide) rfl z51q) ?_;refine an ?_;refine asr ?_;refine aQ tok 3 rfl ?_;refine ax 62 (opu Tryz.func73 (within_ok _ _)) ?_;refine aq 63 (q_not rfl rfl) ?_;refine an ?_;refine asp 63 (fun hb10 => ?_) fun hb10 => ?_
   ·
    refine act ?_;refine asr ?_;refine aa 8 ?_;refine an ?_;refine agt ⟨[_], ⟨rfl, trivial⟩, ?_, rfl⟩
    refine bc ?_;exact (fits_d z49q z59q).symm
   refine acf ?_;refine agk ?_;exact ⟨t.d, Sub.mk' z46q z12q, ⟨by have h := ‹(!within t.d regs) = false›; simp at h; simp [h], by first | (simp [setsOp, *]; done) | simp [sets_pos ‹_›]⟩⟩
  refine aQ tok 5 rfl ?_;refine aop 46 (fun hb11 => ?_) fun hb11 => ?_
  ·
   refine aQ tok 9 rfl ?_;refine an ?_;refine act ?_;refine asr ?_;refine aQ tok 3 rfl ?_;refine AOps.w rfl rfl (o_store tok rfl rfl rfl rfl rfl rfl rfl rfl rfl (by decide) rfl z51q) ?_;refine an ?_;refine asr ?_;refine aQ tok 3 rfl ?_;refine ax 62 (opu Tryz.func73 (within_ok _ _)) ?_;refine aq 63 (q_not rfl rfl) ?_;refine an ?_;refine asp 63 (fun hb12 => ?_) fun hb12 => ?_
   ·
    refine act ?_;refine asr ?_;refine aa 8 ?_;refine an ?_;refine agt ⟨[_], ⟨rfl, trivial⟩, ?_, rfl⟩
    refine bc ?_;exact (fits_d z49q z59q).symm
   refine acf ?_;refine agk ?_;exact ⟨t.d, Sub.mk' z46q z12q, ⟨by have h := ‹(!within t.d regs) = false›; simp at h; simp [h], by first | (simp [setsOp, *]; done) | simp [sets_pos ‹_›]⟩⟩
  refine aQ tok 5 rfl ?_;refine aop 51 (fun hb13 => ?_) fun hb13 => ?_
  ·
   refine aQ tok 4 rfl ?_;refine an ?_;refine act ?_;refine asr ?_;refine aQ tok 3 rfl ?_;refine AOps.w rfl rfl (o_store tok rfl rfl rfl rfl rfl rfl rfl rfl rfl (by decide) rfl z51q) ?_;refine an ?_;refine asr ?_;refine aQ tok 3 rfl ?_;refine ax 62 (opu Tryz.func73 (within_ok _ _)) ?_;refine aq 63 (q_not rfl rfl) ?_;refine an ?_;refine asp 63 (fun hb14 => ?_) fun hb14 => ?_
   ·
    refine act ?_;refine asr ?_;refine aa 8 ?_;refine an ?_;refine agt ⟨[_], ⟨rfl, trivial⟩, ?_, rfl⟩
    refine bc ?_;exact (fits_d z49q z59q).symm
   refine acf ?_;refine agk ?_;exact ⟨t.d, Sub.mk' z46q z12q, ⟨by have h := ‹(!within t.d regs) = false›; simp at h; simp [h], by first | (simp [setsOp, *]; done) | simp [sets_pos ‹_›]⟩⟩
  refine aQ tok 4 rfl ?_;refine an ?_;refine asp 55 (fun hb15 => ?_) fun hb15 => ?_
  ·
   refine act ?_;refine asr ?_;refine aQ tok 3 rfl ?_;refine AOps.w rfl rfl (o_store tok rfl rfl rfl rfl rfl rfl rfl rfl rfl (by decide) rfl z51q) ?_;refine an ?_;refine asr ?_;refine aQ tok 3 rfl ?_;refine ax 62 (opu Tryz.func73 (within_ok _ _)) ?_;refine aq 63 (q_not rfl rfl) ?_;refine an ?_;refine asp 63 (fun hb16 => ?_) fun hb16 => ?_
   ·
    refine act ?_;refine asr ?_;refine aa 8 ?_;refine an ?_;refine agt ⟨[_], ⟨rfl, trivial⟩, ?_, rfl⟩
    refine bc ?_;exact (fits_d z49q z59q).symm
   refine acf ?_;refine agk ?_;exact ⟨t.d, Sub.mk' z46q z12q, ⟨by have h := ‹(!within t.d regs) = false›; simp at h; simp [h], by first | (simp [setsOp, *]; done) | simp [sets_pos ‹_›]⟩⟩
  refine acf ?_;refine agk ?_;exact ⟨0, Sub.mk' z46q z12q, ⟨by simp [setsOp, *], by simp [setsOp, *]⟩⟩
 intro d ⟨hd, hdd⟩
 refine asr ?_;refine al 64 tok ?_;refine ax 65 (opu Tryz.func75 (uses_ok _)) ?_;refine aa 10 ?_;refine an ?_;refine asq ?_;refine asr ?_;refine aa 11 ?_;refine an ?_;refine AGo.block ?_;refine AGo.loopD (γ := Nat) 2 (fun j => ⟨166, (eput (eput (eput (eput (eput (eput (eput eNew 1 (.int .i64 f)) 2 (.int .i64 regs)) 3 (.int .i64 words)) 4 (.ptr 0 1 0 0)) 9 (.ptr 1 1 0 0)) 10 (intsAV t.uses)) 11 (.int .i64 (j : Int))), (hput (hput (hFrom 2) 0 (.row false 8 [t.cells])) 1 (.row false 8 [[.int .i64 t.op, .int .i64 d, .int .i64 0, .int .i64 0, .int .i64 0, .int .i64 0, .int .i64 0, .int .u32 0]]))⟩) (fun j => (t.uses.take j).all (fun r => within r regs) = true) (fun j => t.uses.length - j) 0 (Sub.mk' z46q z12q) rfl (fun _ => hput_free (hput_free (fun b hb => hFrom_free hb) rfl) rfl) ?_
 intro j hj
 refine asq ?_;refine asr ?_;refine aQ tok 4 rfl ?_;refine an ?_;refine asp 69 (fun hb17 => ?_) fun hb17 => ?_
 ·
  refine act ?_
  have hjl : j < t.uses.length := lt_of_idx hb17
  obtain ⟨u, hu⟩ := get_of_lt hjl
  refine agk ?_;refine asq ?_;refine AGo.block ?_;refine asr ?_;refine aQ tok 2 rfl ?_;refine aq 74 (q_index_lst tok rfl rfl rfl rfl rfl rfl (Int.natCast_nonneg _) (idx_map (by assumption)) rfl) ?_;refine aQ tok 2 rfl ?_;refine ax 77 (opu Tryz.func73 (within_ok _ _)) ?_;refine aq 78 (q_not rfl rfl) ?_;refine an ?_;refine asp 78 (fun hb18 => ?_) fun hb18 => ?_
  ·
   refine act ?_
   have hbw := hb18
   refine asr ?_;refine aa 8 ?_;refine an ?_;refine agt ⟨[_], ⟨rfl, trivial⟩, ?_, rfl⟩
   refine bc ?_;exact (fits_use (all_bad hu (by simpa using hbw))).symm
  refine acf ?_
  have hbw := hb18
  refine agk ?_;refine agr ?_;refine am 70 ?_;refine aq 71 (q_inc rfl rfl hjl (Nat.le_trans (uses_len t) (by decide))) ?_;refine aa 11 ?_;refine an ?_;exact ⟨j+1, Drop.mk' z31q z18q, all_succ hu hj (by simpa using hbw), by omega⟩
 refine acf ?_
 have hall := all_end hj (ge_of_idx hb17)
 refine AGo.exit ?_;refine asq ?_;refine AGo.join (γ := Int) (fun a => ⟨166, (eput (eput (eput (eput (eput (eput eNew 1 (.int .i64 f)) 2 (.int .i64 regs)) 3 (.int .i64 words)) 4 (.ptr 0 1 0 0)) 9 (.ptr 1 1 0 0)) 10 (intsAV t.uses)), (hput (hput (hFrom 2) 0 (.row false 8 [t.cells])) 1 (.row false 8 [[.int .i64 t.op, .int .i64 d, .int .i64 a, .int .i64 0, .int .i64 0, .int .i64 0, .int .i64 0, .int .u32 0]]))⟩) (fun a => a = bif use1 t.op || use2 t.op then t.a else 0) ?_ ?_
 ·
  refine asr ?_;refine aQ tok 3 rfl ?_;refine an ?_;refine asp 81 (fun hb19 => ?_) fun hb19 => ?_
  ·
   refine act ?_;refine agr ?_;refine aQ tok 3 rfl ?_;refine AOps.w rfl rfl (o_store tok rfl rfl rfl rfl rfl rfl rfl rfl rfl (by decide) rfl z51q) ?_;refine an ?_;exact ⟨t.a, Sub.mk' z46q z12q, by have h3 := use12 t.op; cases h1 : use1 t.op <;> cases h2 : use2 t.op <;> simp_all [Tac.uses]⟩
  refine acf ?_;refine agk ?_;exact ⟨0, Sub.mk' z46q z12q, by have h3 := use12 t.op; cases h1 : use1 t.op <;> cases h2 : use2 t.op <;> simp_all [Tac.uses]⟩
 intro a haa
 refine asq ?_;refine AGo.join (γ := Int) (fun b => ⟨166, (eput (eput (eput (eput (eput eNew 1 (.int .i64 f)) 2 (.int .i64 regs)) 3 (.int .i64 words)) 4 (.ptr 0 1 0 0)) 9 (.ptr 1 1 0 0)), (hput (hput (hFrom 2) 0 (.row false 8 [t.cells])) 1 (.row false 8 [[.int .i64 t.op, .int .i64 d, .int .i64 a, .int .i64 b, .int .i64 0, .int .i64 0, .int .i64 0, .int .u32 0]]))⟩) (fun b => b = bif use2 t.op then t.b else 0) ?_ ?_
 ·
  refine asr ?_;refine aQ tok 3 rfl ?_;refine an ?_;refine asp 87 (fun hb20 => ?_) fun hb20 => ?_
  ·
   refine act ?_;refine agr ?_;refine aQ tok 3 rfl ?_;refine AOps.w rfl rfl (o_store tok rfl rfl rfl rfl rfl rfl rfl rfl rfl (by decide) rfl z51q) ?_;refine an ?_;exact ⟨t.b, Sub.mk' z46q z12q, by have h3 := use12 t.op; cases h1 : use1 t.op <;> cases h2 : use2 t.op <;> simp_all [Tac.uses]⟩
  refine acf ?_;refine agk ?_;exact ⟨0, Sub.mk' z46q z12q, by have h3 := use12 t.op; cases h1 : use1 t.op <;> cases h2 : use2 t.op <;> simp_all [Tac.uses]⟩
 intro b hbb
 refine asq ?_;refine asr ?_;refine aQ tok 2 rfl ?_;refine an ?_;refine AGo.block ?_;refine asr ?_;refine aQ tok 2 rfl ?_;refine an ?_;refine asp 93 (fun hb21 => ?_) fun hb21 => ?_
 ·
  refine act ?_;refine agr ?_;refine aQ tok 3 rfl ?_;refine AOps.w rfl rfl (o_store tok rfl rfl rfl rfl rfl rfl rfl rfl rfl (by decide) rfl z51q) ?_;refine an ?_;refine asr ?_;refine aQ tok 2 rfl ?_;refine aq 165 (q_eqStruct tok false rfl rfl rfl (by kernel_rfl) rfl rfl rfl rfl rfl) ?_;refine aa 8 ?_;refine an ?_;refine agt ⟨[_], ⟨rfl, trivial⟩, ?_, rfl⟩
  refine bc ?_
  have hwr : 1 ≤ t.size → t.size ≤ 4096 → IntKind.i64.wrap (words - t.size) = words - t.size := fun h1 h2 => wrap_i64 (by omega) (by omega)
  rw [fits_same hb1 hb2 hd hall z56q]
  subst hdd haa hbb
  clear hd hj hall hwr hw hw2 hb1 hb2
  first | (simp_all [Tac.same, Tac.want, baseOp, arrOp, setsOp, use1, use2]; done) | simp [Tac.same, Tac.want, baseOp, arrOp, *]
 refine acf ?_;refine asr ?_;refine aQ tok 2 rfl ?_;refine an ?_;refine asp 98 (fun hb22 => ?_) fun hb22 => ?_
 ·
  refine act ?_;refine asr ?_;refine aQ tok 3 rfl ?_;refine AOps.w rfl rfl (o_store tok rfl rfl rfl rfl rfl rfl rfl rfl rfl (by decide) rfl z51q) ?_;refine an ?_;refine asr ?_;refine aQ tok 4 rfl ?_;refine aop 106 (fun hb23 => ?_) fun hb23 => ?_
  ·
   refine aQ tok 4 rfl ?_;refine an ?_;refine act ?_;refine asr ?_;refine aa 8 ?_;refine an ?_;refine agt ⟨[_], ⟨rfl, trivial⟩, ?_, rfl⟩
   refine bc ?_;exact (fits_rest z56q).symm
  refine aQ tok 4 rfl ?_;refine an ?_;refine asp 110 (fun hb24 => ?_) fun hb24 => ?_
  ·
   refine act ?_;refine asr ?_;refine aa 8 ?_;refine an ?_;refine agt ⟨[_], ⟨rfl, trivial⟩, ?_, rfl⟩
   refine bc ?_;exact (fits_rest z56q).symm
  refine acf ?_;refine agk ?_;refine asr ?_;refine aQ tok 2 rfl ?_;refine aq 165 (q_eqStruct tok false rfl rfl rfl (by kernel_rfl) rfl rfl rfl rfl rfl) ?_;refine aa 8 ?_;refine an ?_;refine agt ⟨[_], ⟨rfl, trivial⟩, ?_, rfl⟩
  refine bc ?_
  have hwr : 1 ≤ t.size → t.size ≤ 4096 → IntKind.i64.wrap (words - t.size) = words - t.size := fun h1 h2 => wrap_i64 (by omega) (by omega)
  rw [fits_same hb1 hb2 hd hall z56q]
  subst hdd haa hbb
  clear hd hj hall hwr hw hw2 hb1 hb2
  first | (simp_all [Tac.same, Tac.want, baseOp, arrOp, setsOp, use1, use2]; done) | simp [Tac.same, Tac.want, baseOp, arrOp, *]
 refine acf ?_;refine asq ?_;refine asr ?_;refine aQ tok 2 rfl ?_;refine an ?_;refine asp 111 (fun hb25 => ?_) fun hb25 => ?_
 ·
  refine act ?_;refine agk ?_;refine act ?_;refine asr ?_;refine aQ tok 3 rfl ?_;refine AOps.w rfl rfl (o_store tok rfl rfl rfl rfl rfl rfl rfl rfl rfl (by decide) rfl z51q) ?_;refine an ?_;refine asr ?_;refine aQ tok 3 rfl ?_;refine ax 120 (opu Tryz.func73 (within_ok _ _)) ?_;refine aq 121 (q_not rfl rfl) ?_;refine an ?_;refine asp 121 (fun hb26 => ?_) fun hb26 => ?_
  ·
   refine act ?_;refine asr ?_;refine aa 8 ?_;refine an ?_;refine agt ⟨[_], ⟨rfl, trivial⟩, ?_, rfl⟩
   refine bc ?_;exact (fits_rest z56q).symm
  refine acf ?_;refine agk ?_;refine asr ?_;refine aQ tok 2 rfl ?_;refine aq 165 (q_eqStruct tok false rfl rfl rfl (by kernel_rfl) rfl rfl rfl rfl rfl) ?_;refine aa 8 ?_;refine an ?_;refine agt ⟨[_], ⟨rfl, trivial⟩, ?_, rfl⟩
  refine bc ?_
  have hwr : 1 ≤ t.size → t.size ≤ 4096 → IntKind.i64.wrap (words - t.size) = words - t.size := fun h1 h2 => wrap_i64 (by omega) (by omega)
  rw [fits_same hb1 hb2 hd hall z56q]
  subst hdd haa hbb
  clear hd hj hall hwr hw hw2 hb1 hb2
  first | (simp_all [Tac.same, Tac.want, baseOp, arrOp, setsOp, use1, use2]; done) | simp [Tac.same, Tac.want, baseOp, arrOp, *]
 refine acf ?_;refine agr ?_;refine aQ tok 2 rfl ?_;refine an ?_;refine asp 111 (fun hb27 => ?_) fun hb27 => ?_
 ·
  refine act ?_;refine asr ?_;refine aQ tok 3 rfl ?_;refine AOps.w rfl rfl (o_store tok rfl rfl rfl rfl rfl rfl rfl rfl rfl (by decide) rfl z51q) ?_;refine an ?_;refine asr ?_;refine aQ tok 3 rfl ?_;refine ax 120 (opu Tryz.func73 (within_ok _ _)) ?_;refine aq 121 (q_not rfl rfl) ?_;refine an ?_;refine asp 121 (fun hb28 => ?_) fun hb28 => ?_
  ·
   refine act ?_;refine asr ?_;refine aa 8 ?_;refine an ?_;refine agt ⟨[_], ⟨rfl, trivial⟩, ?_, rfl⟩
   refine bc ?_;exact (fits_rest z56q).symm
  refine acf ?_;refine agk ?_;refine asr ?_;refine aQ tok 2 rfl ?_;refine aq 165 (q_eqStruct tok false rfl rfl rfl (by kernel_rfl) rfl rfl rfl rfl rfl) ?_;refine aa 8 ?_;refine an ?_;refine agt ⟨[_], ⟨rfl, trivial⟩, ?_, rfl⟩
  refine bc ?_
  have hwr : 1 ≤ t.size → t.size ≤ 4096 → IntKind.i64.wrap (words - t.size) = words - t.size := fun h1 h2 => wrap_i64 (by omega) (by omega)
  rw [fits_same hb1 hb2 hd hall z56q]
  subst hdd haa hbb
  clear hd hj hall hwr hw hw2 hb1 hb2
  first | (simp_all [Tac.same, Tac.want, baseOp, arrOp, setsOp, use1, use2]; done) | simp [Tac.same, Tac.want, baseOp, arrOp, *]
 refine acf ?_;refine asq ?_;refine asr ?_;refine aQ tok 2 rfl ?_;refine an ?_;refine asp 122 (fun hb29 => ?_) fun hb29 => ?_
 ·
  refine act ?_;refine agk ?_;refine act ?_;refine asq ?_;refine AGo.draw mix ?_;refine dQ tok 5 rfl ?_;refine DOps.w rfl rfl (o_store tok rfl rfl rfl rfl rfl rfl rfl rfl rfl (by decide) rfl z51q) ?_;refine df 130 tok ?_;refine DOps.w rfl rfl (o_store tok rfl rfl rfl rfl rfl rfl rfl rfl rfl (by decide) rfl z51q) ?_;refine DOps.nil (by kernel_rfl) ?_;refine asr ?_;refine aQ tok 4 rfl ?_;refine aop 134 (fun hb30 => ?_) fun hb30 => ?_
  ·
   refine aQ tok 18 rfl ?_;refine an ?_;refine act ?_;refine asr ?_;refine aa 8 ?_;refine an ?_;refine agt ⟨[_], ⟨rfl, trivial⟩, ?_, rfl⟩
   refine bc ?_
   have hwr : 1 ≤ t.size → t.size ≤ 4096 → IntKind.i64.wrap (words - t.size) = words - t.size := fun h1 h2 => wrap_i64 (by omega) (by omega)
   exact (fits_rest z56q).symm
  refine aQ tok 5 rfl ?_;refine aop 139 (fun hb31 => ?_) fun hb31 => ?_
  ·
   refine aQ tok 13 rfl ?_;refine an ?_;refine act ?_;refine asr ?_;refine aa 8 ?_;refine an ?_;refine agt ⟨[_], ⟨rfl, trivial⟩, ?_, rfl⟩
   refine bc ?_
   have hwr : 1 ≤ t.size → t.size ≤ 4096 → IntKind.i64.wrap (words - t.size) = words - t.size := fun h1 h2 => wrap_i64 (by omega) (by omega)
   exact (fits_rest z56q).symm
  refine aQ tok 5 rfl ?_;refine aop 144 (fun hb32 => ?_) fun hb32 => ?_
  ·
   refine aQ tok 8 rfl ?_;refine an ?_;refine act ?_;refine asr ?_;refine aa 8 ?_;refine an ?_;refine agt ⟨[_], ⟨rfl, trivial⟩, ?_, rfl⟩
   refine bc ?_
   have hwr : 1 ≤ t.size → t.size ≤ 4096 → IntKind.i64.wrap (words - t.size) = words - t.size := fun h1 h2 => wrap_i64 (by omega) (by omega)
   exact (fits_rest z56q).symm
  refine aQ tok 8 rfl ?_;refine an ?_;refine asp 152 (fun hb33 => ?_) fun hb33 => ?_
  ·
   refine act ?_;refine asr ?_;refine aa 8 ?_;refine an ?_;refine agt ⟨[_], ⟨rfl, trivial⟩, ?_, rfl⟩
   refine bc ?_
   have hwr : 1 ≤ t.size → t.size ≤ 4096 → IntKind.i64.wrap (words - t.size) = words - t.size := fun h1 h2 => wrap_i64 (by omega) (by omega)
   exact (fits_rest z56q).symm
  refine acf ?_;refine agk ?_;refine asr ?_;refine aQ tok 2 rfl ?_;refine aq 165 (q_eqStruct tok false rfl rfl rfl (by kernel_rfl) rfl rfl rfl rfl rfl) ?_;refine aa 8 ?_;refine an ?_;refine agt ⟨[_], ⟨rfl, trivial⟩, ?_, rfl⟩
  refine bc ?_
  have hwr : 1 ≤ t.size → t.size ≤ 4096 → IntKind.i64.wrap (words - t.size) = words - t.size := fun h1 h2 => wrap_i64 (by omega) (by omega)
  rw [fits_same hb1 hb2 hd hall z56q]
  subst hdd haa hbb
  clear hd hj hall hwr hw hw2 hb1 hb2
  first | (simp_all [Tac.same, Tac.want, baseOp, arrOp, setsOp, use1, use2]; done) | simp [Tac.same, Tac.want, baseOp, arrOp, *]
 refine acf ?_;refine agr ?_;refine aQ tok 2 rfl ?_;refine an ?_;refine asp 122 (fun hb34 => ?_) fun hb34 => ?_
 ·
  refine act ?_;refine asq ?_;refine AGo.draw mix ?_;refine dQ tok 5 rfl ?_;refine DOps.w rfl rfl (o_store tok rfl rfl rfl rfl rfl rfl rfl rfl rfl (by decide) rfl z51q) ?_;refine df 130 tok ?_;refine DOps.w rfl rfl (o_store tok rfl rfl rfl rfl rfl rfl rfl rfl rfl (by decide) rfl z51q) ?_;refine DOps.nil (by kernel_rfl) ?_;refine asr ?_;refine aQ tok 4 rfl ?_;refine aop 134 (fun hb35 => ?_) fun hb35 => ?_
  ·
   refine aQ tok 18 rfl ?_;refine an ?_;refine act ?_;refine asr ?_;refine aa 8 ?_;refine an ?_;refine agt ⟨[_], ⟨rfl, trivial⟩, ?_, rfl⟩
   refine bc ?_
   have hwr : 1 ≤ t.size → t.size ≤ 4096 → IntKind.i64.wrap (words - t.size) = words - t.size := fun h1 h2 => wrap_i64 (by omega) (by omega)
   exact (fits_rest z56q).symm
  refine aQ tok 5 rfl ?_;refine aop 139 (fun hb36 => ?_) fun hb36 => ?_
  ·
   refine aQ tok 13 rfl ?_;refine an ?_;refine act ?_;refine asr ?_;refine aa 8 ?_;refine an ?_;refine agt ⟨[_], ⟨rfl, trivial⟩, ?_, rfl⟩
   refine bc ?_
   have hwr : 1 ≤ t.size → t.size ≤ 4096 → IntKind.i64.wrap (words - t.size) = words - t.size := fun h1 h2 => wrap_i64 (by omega) (by omega)
   exact (fits_rest z56q).symm
  refine aQ tok 5 rfl ?_;refine aop 144 (fun hb37 => ?_) fun hb37 => ?_
  ·
   refine aQ tok 8 rfl ?_;refine an ?_;refine act ?_;refine asr ?_;refine aa 8 ?_;refine an ?_;refine agt ⟨[_], ⟨rfl, trivial⟩, ?_, rfl⟩
   refine bc ?_
   have hwr : 1 ≤ t.size → t.size ≤ 4096 → IntKind.i64.wrap (words - t.size) = words - t.size := fun h1 h2 => wrap_i64 (by omega) (by omega)
   exact (fits_rest z56q).symm
  refine aQ tok 8 rfl ?_;refine an ?_;refine asp 152 (fun hb38 => ?_) fun hb38 => ?_
  ·
   refine act ?_;refine asr ?_;refine aa 8 ?_;refine an ?_;refine agt ⟨[_], ⟨rfl, trivial⟩, ?_, rfl⟩
   refine bc ?_
   have hwr : 1 ≤ t.size → t.size ≤ 4096 → IntKind.i64.wrap (words - t.size) = words - t.size := fun h1 h2 => wrap_i64 (by omega) (by omega)
   exact (fits_rest z56q).symm
  refine acf ?_;refine agk ?_;refine asr ?_;refine aQ tok 2 rfl ?_;refine aq 165 (q_eqStruct tok false rfl rfl rfl (by kernel_rfl) rfl rfl rfl rfl rfl) ?_;refine aa 8 ?_;refine an ?_;refine agt ⟨[_], ⟨rfl, trivial⟩, ?_, rfl⟩
  refine bc ?_
  have hwr : 1 ≤ t.size → t.size ≤ 4096 → IntKind.i64.wrap (words - t.size) = words - t.size := fun h1 h2 => wrap_i64 (by omega) (by omega)
  rw [fits_same hb1 hb2 hd hall z56q]
  subst hdd haa hbb
  clear hd hj hall hwr hw hw2 hb1 hb2
  first | (simp_all [Tac.same, Tac.want, baseOp, arrOp, setsOp, use1, use2]; done) | simp [Tac.same, Tac.want, baseOp, arrOp, *]
 refine acf ?_;refine asr ?_;refine aQ tok 2 rfl ?_;refine an ?_;refine asp 153 (fun hb39 => ?_) fun hb39 => ?_
 ·
  refine act ?_;refine asr ?_;refine aQ tok 3 rfl ?_;refine AOps.w rfl rfl (o_store tok rfl rfl rfl rfl rfl rfl rfl rfl rfl (by decide) rfl z51q) ?_;refine an ?_;refine asr ?_;refine aQ tok 3 rfl ?_;refine ax 161 (opu Tryz.func73 (within_ok _ _)) ?_;refine aq 162 (q_not rfl rfl) ?_;refine an ?_;refine asp 162 (fun hb40 => ?_) fun hb40 => ?_
  ·
   refine act ?_;refine asr ?_;refine aa 8 ?_;refine an ?_;refine agt ⟨[_], ⟨rfl, trivial⟩, ?_, rfl⟩
   refine bc ?_;exact (fits_rest z56q).symm
  refine acf ?_;refine agk ?_;refine asr ?_;refine aQ tok 2 rfl ?_;refine aq 165 (q_eqStruct tok false rfl rfl rfl (by kernel_rfl) rfl rfl rfl rfl rfl) ?_;refine aa 8 ?_;refine an ?_;refine agt ⟨[_], ⟨rfl, trivial⟩, ?_, rfl⟩
  refine bc ?_
  have hwr : 1 ≤ t.size → t.size ≤ 4096 → IntKind.i64.wrap (words - t.size) = words - t.size := fun h1 h2 => wrap_i64 (by omega) (by omega)
  rw [fits_same hb1 hb2 hd hall z56q]
  subst hdd haa hbb
  clear hd hj hall hwr hw hw2 hb1 hb2
  first | (simp_all [Tac.same, Tac.want, baseOp, arrOp, setsOp, use1, use2]; done) | simp [Tac.same, Tac.want, baseOp, arrOp, *]
 refine acf ?_;refine agk ?_;refine asr ?_;refine aQ tok 2 rfl ?_;refine aq 165 (q_eqStruct tok false rfl rfl rfl (by kernel_rfl) rfl rfl rfl rfl rfl) ?_;refine aa 8 ?_;refine an ?_;refine agt ⟨[_], ⟨rfl, trivial⟩, ?_, rfl⟩
 refine bc ?_
 have hwr : 1 ≤ t.size → t.size ≤ 4096 → IntKind.i64.wrap (words - t.size) = words - t.size := fun h1 h2 => wrap_i64 (by omega) (by omega)
 rw [fits_same hb1 hb2 hd hall z56q]
 subst hdd haa hbb
 clear hd hj hall hwr hw hw2 hb1 hb2
 first | (simp_all [Tac.same, Tac.want, baseOp, arrOp, setsOp, use1, use2]; done) | simp [Tac.same, Tac.want, baseOp, arrOp, *]
theorem one_ok (f : BFunc) (number words : Int) (hw : 0 ≤ words) (hw2 : words ≤ 1048576) : APure Tryz.prog 40 [.agg f.cells, .int .i64 number, .int .i64 words] (fun r => r = .bool (f.one number words)) := by
 refine APure.of_body (n := 68) tok Tryz.func40 rfl rfl ?_;refine asq ?_;refine AGo.slot 0 rfl (fun H ι v => rel_bfunc) (fun hfit => ?_)
 refine agr ?_;refine ax 3 (obx 2 0) ?_;refine aa 6 ?_;refine an ?_;refine asq ?_;refine asr ?_;refine aQ tok 4 rfl ?_;refine aop 12 (fun hb1 => ?_) fun hb1 => ?_
 ·
  refine aQ tok 10 rfl ?_;refine an ?_;refine act ?_;refine asr ?_;refine aa 6 ?_;refine an ?_;refine agt ⟨[_], ⟨rfl, trivial⟩, ?_, rfl⟩
  refine bc ?_;exact (one_bad (by simp_all <;> omega)).symm
 refine aQ tok 5 rfl ?_;refine aop 17 (fun hb2 => ?_) fun hb2 => ?_
 ·
  refine aQ tok 5 rfl ?_;refine an ?_;refine act ?_;refine asr ?_;refine aa 6 ?_;refine an ?_;refine agt ⟨[_], ⟨rfl, trivial⟩, ?_, rfl⟩
  refine bc ?_;exact (one_bad (by simp_all <;> omega)).symm
 refine aQ tok 5 rfl ?_;refine an ?_;refine asp 22 (fun hb3 => ?_) fun hb3 => ?_
 ·
  refine act ?_;refine asr ?_;refine aa 6 ?_;refine an ?_;refine agt ⟨[_], ⟨rfl, trivial⟩, ?_, rfl⟩
  refine bc ?_;exact (one_bad (by simp_all <;> omega)).symm
 refine acf ?_
 have h0 : 0 ≤ f.regs ∧ f.regs ≤ 4000 ∧ f.blocks.length ≠ 0 := by simp_all <;> omega
 refine agk ?_;refine asq ?_;refine asr ?_;refine aa 7 ?_;refine an ?_;refine AGo.block ?_;refine AGo.loopD (γ := Nat) 1 (fun k => ⟨68, (eput (eput (eput (eput eNew 1 (.int .i64 number)) 2 (.int .i64 words)) 3 (.ptr 0 1 0 0)) 7 (.int .i64 (k : Int))), (hput (hFrom 1) 0 (.row false 2 [f.cells]))⟩) (fun k => (f.blocks.take k).all (fun x => x.ok f.blocks.length f.regs number words) = true) (fun k => f.blocks.length - k) 0 (Sub.mk' z46q z12q) rfl (fun _ => hput_free (fun b hb => hFrom_free hb) rfl) ?_
 intro k hk
 refine asq ?_;refine asr ?_;refine aQ tok 5 rfl ?_;refine an ?_;refine asp 27 (fun hb4 => ?_) fun hb4 => ?_
 ·
  refine act ?_
  have hkl : k < f.blocks.length := lt_of_idx hb4
  obtain ⟨x, hx⟩ := get_of_lt hkl
  refine agk ?_;refine asq ?_;refine AGo.block ?_;refine asq ?_;refine asq ?_;refine AGo.draw mix ?_;refine dQ tok 3 rfl ?_;refine dq 33 (q_index_lst tok rfl rfl rfl rfl rfl rfl (Int.natCast_nonneg _) (idx_map (by assumption)) rfl) ?_;refine dQ tok 6 rfl ?_;refine dx 40 (opu Tryz.func54 (ends_ok x _ _)) ?_;refine dq 41 (q_not rfl rfl) ?_;refine DOps.nil (by kernel_rfl) ?_;refine asp 41 (fun hb5 => ?_) fun hb5 => ?_
  ·
   refine act ?_
   have hends : x.ends f.blocks.length f.regs = false := by simpa using hb5
   refine asr ?_;refine aa 6 ?_;refine an ?_;refine agt ⟨[_], ⟨rfl, trivial⟩, ?_, rfl⟩
   refine bc ?_
   rw [one_all h0.1 h0.2.1 h0.2.2, all_bad hx (by simp [Block.ok, hends])]
  refine acf ?_
  have hends : x.ends f.blocks.length f.regs = true := by simpa using hb5
  refine agk ?_;refine asr ?_;refine aa 8 ?_;refine an ?_;refine AGo.block ?_;refine AGo.loopD (γ := Nat) 1 (fun j => ⟨68, (eput (eput (eput (eput (eput eNew 1 (.int .i64 number)) 2 (.int .i64 words)) 3 (.ptr 0 1 0 0)) 7 (.int .i64 (k : Int))) 8 (.int .i64 (j : Int))), (hput (hFrom 1) 0 (.row false 2 [f.cells]))⟩) (fun j => (x.ins.take j).all (fun t => t.fits number f.regs words) = true) (fun j => x.ins.length - j) 0 (Sub.mk' z46q z12q) rfl (fun _ => hput_free (fun b hb => hFrom_free hb) rfl) ?_
  intro j hj
  refine asq ?_;refine asr ?_;refine aQ tok 4 rfl ?_;refine aq 46 (q_index_lst tok rfl rfl rfl rfl rfl rfl (Int.natCast_nonneg _) (idx_map (by assumption)) rfl) ?_;refine aQ tok 4 rfl ?_;refine an ?_;refine asp 50 (fun hb6 => ?_) fun hb6 => ?_
  ·
   refine act ?_
   have hjl : j < x.ins.length := lt_of_idx hb6
   obtain ⟨u, hu⟩ := get_of_lt hjl
   refine agk ?_;refine asq ?_;refine AGo.block ?_;refine asq ?_;refine AGo.draw mix ?_;refine dQ tok 3 rfl ?_;refine dq 56 (q_index_lst tok rfl rfl rfl rfl rfl rfl (Int.natCast_nonneg _) (idx_map (by assumption)) rfl) ?_;refine dQ tok 3 rfl ?_;refine dq 60 (q_index_lst tok rfl rfl rfl rfl rfl rfl (Int.natCast_nonneg _) (idx_map (by assumption)) rfl) ?_;refine dQ tok 5 rfl ?_;refine dx 66 (opu Tryz.func55 (fits_ok u _ _ _ hw hw2)) ?_;refine dq 67 (q_not rfl rfl) ?_;refine DOps.nil (by kernel_rfl) ?_;refine asp 67 (fun hb7 => ?_) fun hb7 => ?_
   ·
    refine act ?_
    have hbw := hb7
    refine asr ?_;refine aa 6 ?_;refine an ?_;refine agt ⟨[_], ⟨rfl, trivial⟩, ?_, rfl⟩
    refine bc ?_
    rw [one_all h0.1 h0.2.1 h0.2.2, all_bad hx (by simp only [Block.ok, all_bad (p := fun t => Tac.fits t number f.regs words) hu (by simpa using hbw), Bool.and_false])]
   refine acf ?_
   have hbw := hb7
   refine agk ?_;refine agr ?_;refine am 51 ?_;refine aq 52 (q_inc rfl rfl hjl (hfit.2 x (List.mem_of_getElem? hx))) ?_;refine aa 8 ?_;refine an ?_;exact ⟨j+1, Drop.mk' z31q z18q, all_succ hu hj (by simpa using hbw), by omega⟩
  refine acf ?_
  have hins := all_end hj (ge_of_idx hb6)
  refine AGo.exit ?_;refine agr ?_;refine am 28 ?_;refine aq 29 (q_inc rfl rfl hkl hfit.1) ?_;refine aa 7 ?_;refine an ?_;exact ⟨k+1, Drop.mk' z31q z18q, all_succ hx hk (by simp [Block.ok, hends, hins]), by omega⟩
 refine acf ?_
 have hall := all_end hk (ge_of_idx hb4)
 refine AGo.exit ?_;refine asr ?_;refine aa 6 ?_;refine an ?_;refine agt ⟨[_], ⟨rfl, trivial⟩, ?_, rfl⟩
 refine bc ?_
 rw [one_all h0.1 h0.2.1 h0.2.2, hall]
theorem right_ok (b : Blocks) : APure Tryz.prog 29 [.agg b.cells] (fun r => r = .bool b.right) := by
 refine APure.of_body (n := 35) tok Tryz.func29 rfl rfl ?_;refine asq ?_;refine AGo.slot 0 rfl (fun H ι v => rel_prog) (fun hfit => ?_)
 refine agr ?_;refine ax 1 (obx 2 0) ?_;refine aa 2 ?_;refine an ?_;refine asq ?_;refine asr ?_;refine aQ tok 4 rfl ?_;refine aop 7 (fun hb1 => ?_) fun hb1 => ?_
 ·
  refine aQ tok 10 rfl ?_;refine an ?_;refine act ?_;refine asr ?_;refine aa 2 ?_;refine an ?_;refine agt ⟨[_], ⟨rfl, trivial⟩, ?_, rfl⟩
  refine bc ?_;exact (right_bad (by simp_all <;> omega)).symm
 refine aQ tok 5 rfl ?_;refine aop 12 (fun hb2 => ?_) fun hb2 => ?_
 ·
  refine aQ tok 5 rfl ?_;refine an ?_;refine act ?_;refine asr ?_;refine aa 2 ?_;refine an ?_;refine agt ⟨[_], ⟨rfl, trivial⟩, ?_, rfl⟩
  refine bc ?_;exact (right_bad (by simp_all <;> omega)).symm
 refine aQ tok 5 rfl ?_;refine an ?_;refine asp 17 (fun hb3 => ?_) fun hb3 => ?_
 ·
  refine act ?_;refine asr ?_;refine aa 2 ?_;refine an ?_;refine agt ⟨[_], ⟨rfl, trivial⟩, ?_, rfl⟩
  refine bc ?_;exact (right_bad (by simp_all <;> omega)).symm
 refine acf ?_
 have h0 : 0 ≤ b.words ∧ b.words ≤ 1048576 ∧ b.funcs.length ≠ 0 := by simp_all <;> omega
 refine agk ?_;refine asq ?_;refine asr ?_;refine aa 3 ?_;refine an ?_;refine AGo.block ?_;refine AGo.loopD (γ := Nat) 1 (fun k => ⟨35, (eput (eput eNew 1 (.ptr 0 1 0 0)) 3 (.int .i64 (k : Int))), (hput (hFrom 1) 0 (.row false 2 [b.cells]))⟩) (fun k => (b.funcs.zipIdx.take k).all (fun p => p.1.one (p.2 : Int) b.words) = true) (fun k => b.funcs.length - k) 0 (Sub.mk' z46q z12q) rfl (fun _ => hput_free (fun b hb => hFrom_free hb) rfl) ?_
 intro k hk
 refine asq ?_;refine asr ?_;refine aQ tok 5 rfl ?_;refine an ?_;refine asp 22 (fun hb4 => ?_) fun hb4 => ?_
 ·
  refine act ?_
  have hkl : k < b.funcs.length := lt_of_idx hb4
  obtain ⟨x, hx⟩ := get_of_lt hkl
  refine agk ?_;refine asq ?_;refine AGo.block ?_;refine asq ?_;refine AGo.draw mix ?_;refine dQ tok 3 rfl ?_;refine dq 28 (q_index_lst tok rfl rfl rfl rfl rfl rfl (Int.natCast_nonneg _) (idx_map (by assumption)) rfl) ?_;refine dQ tok 4 rfl ?_;refine dx 33 (opu Tryz.func40 (one_ok x _ _ h0.1 h0.2.1)) ?_;refine dq 34 (q_not rfl rfl) ?_;refine DOps.nil (by kernel_rfl) ?_;refine asp 34 (fun hb5 => ?_) fun hb5 => ?_
  ·
   refine act ?_
   have hone := hb5
   refine asr ?_;refine aa 2 ?_;refine an ?_;refine agt ⟨[_], ⟨rfl, trivial⟩, ?_, rfl⟩
   refine bc ?_
   rw [right_all h0.1 h0.2.1 h0.2.2, all_bad (zipIdx_get hx) (by simpa using hone)]
  refine acf ?_
  have hone := hb5
  refine agk ?_;refine agr ?_;refine am 23 ?_;refine aq 24 (q_inc rfl rfl hkl hfit.1) ?_;refine aa 3 ?_;refine an ?_;exact ⟨k+1, Drop.mk' z31q z18q, all_succ (zipIdx_get hx) hk (by simpa using hone), by omega⟩
 refine acf ?_
 have hall := all_end hk (by rw [List.length_zipIdx]; exact ge_of_idx hb4)
 refine AGo.exit ?_;refine asr ?_;refine aa 2 ?_;refine an ?_;refine agt ⟨[_], ⟨rfl, trivial⟩, ?_, rfl⟩
 refine bc ?_
 rw [right_all h0.1 h0.2.1 h0.2.2, hall]
end Go.Proofs.YtbbfelelocccmaaGreat.Sv
