/-
  The law DeadNone of the given program answers true for every input, and leaves its arguments as they were. There is no condition. Own work.
  WALKS: printed by a program of our own from the code's tree.
  WALKS: printed by a program of our own from the code's tree.
  WALKS: printed by a program of our own from the code's tree.
  WALKS: printed by a program of our own from the code's tree.
  WALKS: printed by a program of our own from the code's tree.
  WALKS: printed by a program of our own from the code's tree.
  SMALL LEMMAS FOR THE WALKS OF TIDY: own work, over no program.
  WALKS: printed by a program of our own from the code's tree.
  WALKS: printed by a program of our own from the code's tree.
  WALKS: printed by a program of our own from the code's tree.
  WALKS: printed by a program of our own from the code's tree.
  WALKS: printed by a program of our own from the code's tree.
-/
import Derived.Test.YtjmjmedjjbginaaPDeadNone5
import Derived.Test.YtjmjmedjjbginaaPDeadNone3
import Derived.Test.YtjmjmedjjbginaaPDeadNone4
import Derived.Test.YtjmjmedjjbginaaPDeadNone2
namespace Go.Proofs.Ytjmjmedjjbginaa.Sv
open Go

def withinB (a b : List Bool) : Bool := (a.zip b).all (fun p => !(p.1 && !p.2))
theorem zip_get2 {a b : List Bool} {k : Nat} {p q : Bool} (hp : a[k]? = some p) (hq : b[k]? = some q) : (a.zip b)[k]? = some (p, q) := by
  rw [List.getElem?_zip_eq_some]; exact ⟨hp, hq⟩
theorem within_get {a b : List Bool} (h : withinB a b = true) (hl : a.length ≤ b.length) {k : Nat} (ha : a[k]? = some true) : b[k]? = some true := by
  obtain ⟨q, hq⟩ := get_of_lt (l := b) (k := k) (by have := (List.getElem?_eq_some_iff.1 ha).1; omega)
  have := List.all_eq_true.1 h _ (List.mem_of_getElem? (zip_get2 ha hq))
  rw [hq]; simpa using this
theorem within_refl (a : List Bool) : withinB a a = true := by
  unfold withinB
  rw [List.all_eq_true]
  intro p hp
  obtain ⟨k, hk⟩ := List.getElem?_of_mem hp
  rw [List.getElem?_zip_eq_some] at hk
  have := hk.1.symm.trans hk.2
  simp only [Option.some.injEq] at this
  rw [this]; simp
theorem within_both {a b : List Bool} (hl : a.length = b.length) (h1 : withinB a b = true) (h2 : withinB b a = true) : a = b := by
  refine List.ext_getElem? fun k => ?_
  cases ha : a[k]? with
  | none => rw [List.getElem?_eq_none_iff] at ha; exact (List.getElem?_eq_none_iff.2 (by omega)).symm
  | some p =>
    obtain ⟨q, hq⟩ := get_of_lt (l := b) (k := k) (by have := (List.getElem?_eq_some_iff.1 ha).1; omega)
    rw [hq]
    cases p with
    | true => rw [within_get h1 (by omega) ha] at hq; exact hq.symm ▸ rfl
    | false =>
      cases q with
      | false => rfl
      | true => rw [within_get h2 (by omega) hq] at ha; cases ha
theorem rows_ne1 {p q : List Bool} (h : (((p.map fun b => [AV.bool b]).length : Int) != ((q.map fun b => [AV.bool b]).length : Int)) = true) : ¬ p = q := fun e => by subst e; simp at h
theorem rows_ne2 {p q : List Bool} (h : (!withinB p q) = true) : ¬ p = q := fun e => by subst e; rw [within_refl] at h; cases h
theorem rows_ne3 {p q : List Bool} (h : (!withinB q p) = true) : ¬ p = q := fun e => by subst e; rw [within_refl] at h; cases h
theorem rows_eq {p q : List Bool} (hl : p.length = q.length) (h1 : (!withinB p q) = false) (h2 : (!withinB q p) = false) : p = q := within_both hl (by simpa using h1) (by simpa using h2)
theorem bne_eq' {a b : Int} (h : (a != b) = false) : a = b := by simpa using h
theorem bne_ne' {a b : Int} (h : (a != b) = true) : ¬ a = b := by simpa using h
theorem mrow_getZ {R : Nat} {p : Nat → Bool} {z : Int} (h0 : 0 ≤ z) (h : z < R) : (mrow R p)[z.toNat]? = some (p z.toNat) := mrow_get (by omega)
theorem pure_lt {t : Tac} {r : Int} (h : t.inR r) (hp : t.pure = true) (h0 : 0 ≤ r) : t.sets < ((r.toNat : Nat) : Int) := by
  have := (h.1 (pure_sets hp)).2
  rw [sets_eq (pure_sets hp)]; omega
theorem deadB_le {f : BFunc} {n : Nat} (h : ∀ x ∈ f.blocks, x.ins.length ≤ n) (k : Nat) : deadB f k ≤ k * n := by
  unfold deadB
  have h1 : ((f.blocks.take k).map fun x => deadL (endB f x) x.ins).sum ≤ (f.blocks.take k).length * n := sum_le fun x hx => Nat.le_trans (deadL_len _ _).1 (h x (List.mem_of_mem_take hx))
  refine Nat.le_trans h1 (Nat.mul_le_mul_right _ ?_)
  rw [List.length_take]; omega
theorem weakNil2 {r : Int} : ∀ (i : Nat) (ds ds' : List AV), [[AV.int .i64 r, AV.nil]][i]? = some ds → [[AV.int .i64 r, AV.lst true []]][i]? = some ds' → ds'.length = ds.length ∧ ∀ (j : Nat) (x y : AV), ds[j]? = some x → ds'[j]? = some y → (x.cell1 = true → y.cell1 = true) ∧ ∀ H ι v, Rel H ι x v → Rel H ι y v := by
  intro i ds ds' h1 h2
  cases i with
  | succ i => simp at h1
  | zero =>
    simp only [List.getElem?_cons_zero, Option.some.injEq] at h1 h2
    subst h1; subst h2
    refine ⟨rfl, fun j x y hx hy => ?_⟩
    match j with
    | 0 => simp at hx hy; subst hx; subst hy; exact ⟨fun h => h, fun _ _ _ h => h⟩
    | 1 => simp at hx hy; subst hx; subst hy; exact ⟨fun _ => rfl, fun H ι v h => rel_nil0 h⟩
    | j + 2 => simp at hx
theorem blk_sizes (l : List Block) : (∀ cs ∈ l.map Block.cells, cs.length = 5) ∧ ∀ cs ∈ l.map Block.cells, cs.all AV.isPure1 = true := by
  constructor
  · intro cs h
    obtain ⟨x, _, rfl⟩ := List.mem_map.1 h
    rfl
  · intro cs h
    obtain ⟨x, _, rfl⟩ := List.mem_map.1 h
    rfl
theorem slA_succ2 {α : Type} {b k : Nat} {l : List α} {f : α → List AV} {x : α} (h : l[k]? = some x) : slA b ((l.take (k + 1)).map f) = .ref b (((l.take k).map f).length + 1) 0 (((l.take k).map f).length + 1) := by
  rw [take_succ_eq h, List.map_append, List.map_cons, List.map_nil, slA_snoc]
theorem slO_succ2 {α : Type} {sz k : Nat} {l : List α} {f : α → List AV} {x : α} (h : l[k]? = some x) : slO sz ((l.take (k + 1)).map f) = .row true sz ((l.take k).map f ++ [f x]) := by
  rw [take_succ_eq h, List.map_append, List.map_cons, List.map_nil, slO_snoc]
theorem slA_snocM {b : Nat} {l l' : List Tac} {t : Tac} (h : l' = l ++ [t]) : slA b (l'.map Tac.cells) = .ref b ((l.map Tac.cells).length + 1) 0 ((l.map Tac.cells).length + 1) := by
  rw [h, List.map_append, List.map_cons, List.map_nil, slA_snoc]
theorem slO_snocM {sz : Nat} {l l' : List Tac} {t : Tac} (h : l' = l ++ [t]) : slO sz (l'.map Tac.cells) = .row true sz (l.map Tac.cells ++ [t.cells]) := by
  rw [h, List.map_append, List.map_cons, List.map_nil, slO_snoc]
theorem box2_avoid {k : Nat → Bool} {b : Nat} (r : Int) (es : List (List AV)) (hb : k b = true) : (AObj.row false 2 [[.int .i64 r, slA b es]]).avoid k = true := by
  simp only [AObj.avoid, List.all_cons, List.all_nil, Bool.and_true]
  exact and_both rfl (slA_avoid es hb)

set_option maxRecDepth 100000 in
theorem rpure_ok (t : Tac) : APure Try.prog 11 [.agg t.cells] (fun r => r = .bool t.pure) := by
 refine APure.of_body (n := 19) tok Try.func11 rfl rfl ?_
 refine AGo.seq ?_
 refine AGo.region ?_
 refine ax 1 (o_box (sz := 8) 0 rfl rfl rfl rfl (Nat.zero_lt_succ _) rfl) ?_
 refine aa 2 ?_
 refine AOps.nil ?_
 refine AGo.seq ?_
 refine AGo.seq ?_
 refine AGo.region ?_
 refine af 3 tok ?_
 refine al 4 tok ?_
 refine AOps.nil ?_
 refine AGo.block ?_
 refine AGo.seq ?_
 refine AGo.seq ?_
 refine AGo.region ?_
 refine aq 6 (q_bin rfl rfl rfl rfl) ?_
 refine aa 5 ?_
 refine AOps.nil ?_
 refine AGo.split 5 rfl (fun hb1 => ?_) (fun hb1 => ?_)
 ·
  refine AGo.cond_true true rfl rfl ?_
  refine AGo.skip ?_
  refine AGo.cond_true true rfl rfl ?_
  refine AGo.seq ?_
  refine AGo.region ?_
  refine aa 2 ?_
  refine AOps.nil ?_
  refine AGo.ret ?_
  refine ⟨[_], ⟨rfl, trivial⟩, ?_, rfl⟩
  show AV.bool _ = AV.bool _
  congr 1
  unfold Tac.pure
  first
  | (simp_all; done)
  | (simp_all [bne]; done)
 ·
  refine AGo.cond_false false rfl rfl ?_
  refine AGo.seq ?_
  refine AGo.region ?_
  refine aq 7 (q_bin rfl rfl rfl rfl) ?_
  refine aa 5 ?_
  refine AOps.nil ?_
  refine AGo.split 5 rfl (fun hb2 => ?_) (fun hb2 => ?_)
  ·
   refine AGo.cond_true true rfl rfl ?_
   refine AGo.skip ?_
   refine AGo.cond_true true rfl rfl ?_
   refine AGo.seq ?_
   refine AGo.region ?_
   refine aa 2 ?_
   refine AOps.nil ?_
   refine AGo.ret ?_
   refine ⟨[_], ⟨rfl, trivial⟩, ?_, rfl⟩
   show AV.bool _ = AV.bool _
   congr 1
   unfold Tac.pure
   first
   | (simp_all; done)
   | (simp_all [bne]; done)
  ·
   refine AGo.cond_false false rfl rfl ?_
   refine AGo.region ?_
   refine aq 8 (q_bin rfl rfl rfl rfl) ?_
   refine aa 5 ?_
   refine AOps.nil ?_
   refine AGo.split 5 rfl (fun hb3 => ?_) (fun hb3 => ?_)
   ·
    refine AGo.cond_true true rfl rfl ?_
    refine AGo.seq ?_
    refine AGo.region ?_
    refine aa 2 ?_
    refine AOps.nil ?_
    refine AGo.ret ?_
    refine ⟨[_], ⟨rfl, trivial⟩, ?_, rfl⟩
    show AV.bool _ = AV.bool _
    congr 1
    unfold Tac.pure
    first
    | (simp_all; done)
    | (simp_all [bne]; done)
   ·
    refine AGo.cond_false false rfl rfl ?_
    refine AGo.seq ?_
    refine AGo.region ?_
    refine aq 10 (q_bin rfl rfl rfl rfl) ?_
    refine aa 9 ?_
    refine AOps.nil ?_
    refine AGo.split 9 rfl (fun hb4 => ?_) (fun hb4 => ?_)
    ·
     refine AGo.cond_true true rfl rfl ?_
     refine AGo.seq ?_
     refine AGo.region ?_
     refine af 11 tok ?_
     refine al 12 tok ?_
     refine aq 13 (q_bin rfl rfl rfl rfl) ?_
     refine am 14 ?_
     refine AOps.split 14 rfl (fun hb5 => ?_) (fun hb5 => ?_)
     ·
      refine af 15 tok ?_
      refine al 16 tok ?_
      refine aq 17 (q_bin rfl rfl rfl rfl) ?_
      refine aq 18 (q_pick_true true rfl rfl rfl rfl) ?_
      refine aa 2 ?_
      refine AOps.nil ?_
      refine AGo.ret ?_
      refine ⟨[_], ⟨rfl, trivial⟩, ?_, rfl⟩
      show AV.bool _ = AV.bool _
      congr 1
      unfold Tac.pure
      first
      | (simp_all; done)
      | (simp_all [bne]; done)
     ·
      refine ak 15 ?_
      refine ak 16 ?_
      refine ak 17 ?_
      refine aq 18 (q_pick_false false rfl rfl rfl rfl) ?_
      refine aa 2 ?_
      refine AOps.nil ?_
      refine AGo.ret ?_
      refine ⟨[_], ⟨rfl, trivial⟩, ?_, rfl⟩
      show AV.bool _ = AV.bool _
      congr 1
      unfold Tac.pure
      first
      | (simp_all; done)
      | (simp_all [bne]; done)
    ·
     refine AGo.cond_false false rfl rfl ?_
     refine AGo.skip ?_
     refine AGo.seq ?_
     refine AGo.region ?_
     refine aa 2 ?_
     refine AOps.nil ?_
     refine AGo.ret ?_
     refine ⟨[_], ⟨rfl, trivial⟩, ?_, rfl⟩
     show AV.bool _ = AV.bool _
     congr 1
     unfold Tac.pure
     first
     | (simp_all; done)
     | (simp_all [bne]; done)

set_option maxRecDepth 100000 in
theorem dpure_ok (t : Tac) : APure Try.prog 10 [.agg t.cells] (fun r => r = .bool t.pure) := by
 refine APure.of_body (n := 19) tok Try.func10 rfl rfl ?_
 refine AGo.seq ?_
 refine AGo.region ?_
 refine ax 1 (o_box (sz := 8) 0 rfl rfl rfl rfl (Nat.zero_lt_succ _) rfl) ?_
 refine aa 2 ?_
 refine AOps.nil ?_
 refine AGo.seq ?_
 refine AGo.seq ?_
 refine AGo.region ?_
 refine af 3 tok ?_
 refine al 4 tok ?_
 refine AOps.nil ?_
 refine AGo.block ?_
 refine AGo.seq ?_
 refine AGo.seq ?_
 refine AGo.region ?_
 refine aq 6 (q_bin rfl rfl rfl rfl) ?_
 refine aa 5 ?_
 refine AOps.nil ?_
 refine AGo.split 5 rfl (fun hb1 => ?_) (fun hb1 => ?_)
 ·
  refine AGo.cond_true true rfl rfl ?_
  refine AGo.skip ?_
  refine AGo.cond_true true rfl rfl ?_
  refine AGo.seq ?_
  refine AGo.region ?_
  refine aa 2 ?_
  refine AOps.nil ?_
  refine AGo.ret ?_
  refine ⟨[_], ⟨rfl, trivial⟩, ?_, rfl⟩
  show AV.bool _ = AV.bool _
  congr 1
  unfold Tac.pure
  first
  | (simp_all; done)
  | (simp_all [bne]; done)
 ·
  refine AGo.cond_false false rfl rfl ?_
  refine AGo.seq ?_
  refine AGo.region ?_
  refine aq 7 (q_bin rfl rfl rfl rfl) ?_
  refine aa 5 ?_
  refine AOps.nil ?_
  refine AGo.split 5 rfl (fun hb2 => ?_) (fun hb2 => ?_)
  ·
   refine AGo.cond_true true rfl rfl ?_
   refine AGo.skip ?_
   refine AGo.cond_true true rfl rfl ?_
   refine AGo.seq ?_
   refine AGo.region ?_
   refine aa 2 ?_
   refine AOps.nil ?_
   refine AGo.ret ?_
   refine ⟨[_], ⟨rfl, trivial⟩, ?_, rfl⟩
   show AV.bool _ = AV.bool _
   congr 1
   unfold Tac.pure
   first
   | (simp_all; done)
   | (simp_all [bne]; done)
  ·
   refine AGo.cond_false false rfl rfl ?_
   refine AGo.region ?_
   refine aq 8 (q_bin rfl rfl rfl rfl) ?_
   refine aa 5 ?_
   refine AOps.nil ?_
   refine AGo.split 5 rfl (fun hb3 => ?_) (fun hb3 => ?_)
   ·
    refine AGo.cond_true true rfl rfl ?_
    refine AGo.seq ?_
    refine AGo.region ?_
    refine aa 2 ?_
    refine AOps.nil ?_
    refine AGo.ret ?_
    refine ⟨[_], ⟨rfl, trivial⟩, ?_, rfl⟩
    show AV.bool _ = AV.bool _
    congr 1
    unfold Tac.pure
    first
    | (simp_all; done)
    | (simp_all [bne]; done)
   ·
    refine AGo.cond_false false rfl rfl ?_
    refine AGo.seq ?_
    refine AGo.region ?_
    refine aq 10 (q_bin rfl rfl rfl rfl) ?_
    refine aa 9 ?_
    refine AOps.nil ?_
    refine AGo.split 9 rfl (fun hb4 => ?_) (fun hb4 => ?_)
    ·
     refine AGo.cond_true true rfl rfl ?_
     refine AGo.seq ?_
     refine AGo.region ?_
     refine af 11 tok ?_
     refine al 12 tok ?_
     refine aq 13 (q_bin rfl rfl rfl rfl) ?_
     refine am 14 ?_
     refine AOps.split 14 rfl (fun hb5 => ?_) (fun hb5 => ?_)
     ·
      refine af 15 tok ?_
      refine al 16 tok ?_
      refine aq 17 (q_bin rfl rfl rfl rfl) ?_
      refine aq 18 (q_pick_true true rfl rfl rfl rfl) ?_
      refine aa 2 ?_
      refine AOps.nil ?_
      refine AGo.ret ?_
      refine ⟨[_], ⟨rfl, trivial⟩, ?_, rfl⟩
      show AV.bool _ = AV.bool _
      congr 1
      unfold Tac.pure
      first
      | (simp_all; done)
      | (simp_all [bne]; done)
     ·
      refine ak 15 ?_
      refine ak 16 ?_
      refine ak 17 ?_
      refine aq 18 (q_pick_false false rfl rfl rfl rfl) ?_
      refine aa 2 ?_
      refine AOps.nil ?_
      refine AGo.ret ?_
      refine ⟨[_], ⟨rfl, trivial⟩, ?_, rfl⟩
      show AV.bool _ = AV.bool _
      congr 1
      unfold Tac.pure
      first
      | (simp_all; done)
      | (simp_all [bne]; done)
    ·
     refine AGo.cond_false false rfl rfl ?_
     refine AGo.skip ?_
     refine AGo.seq ?_
     refine AGo.region ?_
     refine aa 2 ?_
     refine AOps.nil ?_
     refine AGo.ret ?_
     refine ⟨[_], ⟨rfl, trivial⟩, ?_, rfl⟩
     show AV.bool _ = AV.bool _
     congr 1
     unfold Tac.pure
     first
     | (simp_all; done)
     | (simp_all [bne]; done)

set_option maxHeartbeats 1000000 in
set_option maxRecDepth 100000 in
theorem rbehind_ok (f : BFunc) (hs : f.sane) (b : Nat) (x : Block) (hx : f.blocks[b]? = some x) (hr : f.regs ≤ 100000) (hi : x.ins.length ≤ 100000) : APure Try.prog 54 [.agg f.cells, .agg [rowsAV (inRows f), rowsAV (outRows f)], .int .i64 (b : Int)] (fun r => r = rowsAV (behindRows f x)) := by
 have hxm := List.mem_of_getElem? hx
 have hr0 := hs.regs
 have hol : (outRow f x).length = f.regs.toNat := mrow_len _ _
 have hox : (outRows f)[b]? = some (outRow f x) := by unfold outRows; rw [List.getElem?_map, hx]; rfl
 refine APure.of_body (n := 47) tok Try.func54 rfl rfl ?_
 refine AGo.seq ?_
 refine AGo.region ?_
 refine ax 3 (o_box (sz := 2) 0 rfl rfl rfl rfl (Nat.zero_lt_succ _) rfl) ?_
 refine ax 4 (o_box (sz := 2) 1 rfl rfl rfl rfl (Nat.zero_lt_succ _) rfl) ?_
 refine aa 6 ?_
 refine AOps.nil ?_
 refine AGo.seq ?_
 refine AGo.region ?_
 refine af 11 tok ?_
 refine al 12 tok ?_
 refine am 13 ?_
 refine aq 14 (q_index_lst tok rfl rfl rfl rfl rfl rfl (Int.natCast_nonneg _) (idx_map hx) rfl) ?_
 refine al 15 tok ?_
 refine ax 7 (o_alloc tok 2 rfl rfl rfl rfl (Nat.zero_lt_succ _) rfl) ?_
 refine AOps.w rfl rfl (o_store tok rfl rfl rfl rfl rfl rfl rfl rfl rfl (by decide) rfl (by first | exact fun _ => rfl | (intro h; cases h))) ?_
 refine AOps.nil ?_
 refine AGo.seq ?_
 refine AGo.region ?_
 refine af 16 tok ?_
 refine al 17 tok ?_
 refine aq 18 (q_len tok rfl rfl rfl rfl rfl) ?_
 refine ax 19 (o_makeSlice tok (n := x.ins.length) (m := x.ins.length) 3 true rfl rfl rfl (by simp) (by simp) rfl rfl rfl rfl rfl (Nat.zero_lt_succ _) rfl (Nat.le_refl _) (by show 24 * x.ins.length ≤ _; omega) (by simp only [maxLen]; omega)) ?_
 refine aa 8 ?_
 refine AOps.nil ?_
 refine AGo.seq ?_
 refine AGo.ghost (Ghost.weakRow 3 (es' := List.replicate x.ins.length [.lst false []]) rfl (by simp) (weak_nils _)) ?_
 refine AGo.draw mix ?_
 refine dl 20 tok ?_
 refine df 21 tok ?_
 refine dl 22 tok ?_
 refine dm 23 ?_
 refine dq 24 (q_index_lst tok rfl rfl rfl rfl rfl rfl (Int.natCast_nonneg _) (idx_map hox) rfl) ?_
 refine dl 25 tok ?_
 refine dx 26 (o_pure rfl Try.func56 (by kernel_rfl) rfl rfl rfl (rlast_ok1 x (outRow f x) (by rw [hol]; omega) (fun e => by rw [hol]; have := hs.fin x hxm e; omega))) ?_
 refine da 9 ?_
 refine DOps.nil (by kernel_rfl) ?_
 refine AGo.seq ?_
 refine AGo.seq ?_
 refine AGo.region ?_
 refine af 27 tok ?_
 refine al 28 tok ?_
 refine aq 29 (q_len tok rfl rfl rfl rfl rfl) ?_
 refine aq 30 (q_bin (r := .int .i64 ((x.ins.length : Int) - 1)) rfl rfl rfl (by rw [List.length_map]; exact subZ (by omega) (by omega))) ?_
 refine aa 10 ?_
 refine AOps.nil ?_
 refine AGo.block ?_
 refine AGo.loopD (γ := Nat) 4 (fun m => ⟨47, (eput (eput (eput (eput (eput (eput eNew 3 (.ptr 0 1 0 0)) 4 (.ptr 1 1 0 0)) 7 (.ptr 2 1 0 0)) 8 (.ref 3 x.ins.length 0 x.ins.length)) 9 (boolsAV (bkAt x (outRow f x) m))) 10 (.int .i64 ((m : Int) - 1))), (hput (hput (hput (hput (hFrom 4) 0 (.row false 2 [f.cells])) 1 (.row false 2 [[rowsAV (inRows f), rowsAV (outRows f)]])) 2 (.row false 5 [x.cells])) 3 (.row true 1 (outAt x (outRow f x) m)))⟩) (fun m => m ≤ x.ins.length) (fun m => m) x.ins.length (Sub.mk' (by repeat (first | exact ESub.new _ | refine ESub.put ?_ (by first | rfl | (rw [bkAt_end (Nat.le_refl _)]; rfl) | exact congrArg (fun n => some (AV.ref 3 n 0 n)) (by simp)))) (by repeat (first | exact HSub.refl _ | exact HSub.none _ | exact HSub.from_new _ | exact HSub.from_from (by first | decide | omega | (dsimp only; omega)) | refine HSub.put ?_ (by first | rfl | exact congrArg (fun es => some (AObj.row true 1 es)) (outAt_start _ _)) | refine HSub.from_put ?_ (by first | decide | omega | (dsimp only; omega)) | refine HSub.from_rm ?_ (by decide)))) (Nat.le_refl _) (fun _ => hput_free (hput_free (hput_free (hput_free (fun b hb => hFrom_free hb) rfl) rfl) rfl) rfl) ?_
 intro m hm
 refine AGo.seq ?_
 refine AGo.seq ?_
 refine AGo.region ?_
 refine am 31 ?_
 refine aq 32 (q_bin rfl rfl rfl rfl) ?_
 refine AOps.nil ?_
 refine AGo.split 32 rfl (fun hb1 => ?_) (fun hb1 => ?_)
 ·
  refine AGo.cond_true true rfl rfl ?_
  obtain ⟨k, rfl⟩ : ∃ k, m = k + 1 := ⟨m - 1, by have h := hb1; simp at h; omega⟩
  obtain ⟨t, ht⟩ := get_of_lt (l := x.ins) (k := k) (by omega)
  refine AGo.skip ?_
  refine AGo.seq ?_
  refine AGo.block ?_
  refine AGo.seq ?_
  refine AGo.region ?_
  refine am 35 ?_
  refine am 36 ?_
  refine am 37 ?_
  refine aq 38 (q_index_ref tok rfl rfl rfl rfl rfl rfl rfl (outAt_len _ _ _).symm rfl (by omega) (by omega)) ?_
  refine AOps.w rfl rfl (o_store tok (es := outAt x (outRow f x) (k + 1)) (cs := [AV.lst false []]) rfl rfl rfl rfl rfl rfl (outAt_len _ _ _).symm (by rw [Nat.zero_add, show (((k + 1 : Nat) : Int) - 1).toNat = k by omega]; exact outAt_get (by omega)) rfl (by decide) rfl (by first | exact fun _ => rfl | (intro h; cases h))) ?_
  refine AOps.nil ?_
  refine AGo.region ?_
  refine af 39 tok ?_
  refine al 40 tok ?_
  refine am 41 ?_
  refine aq 42 (q_index_lst tok rfl rfl rfl rfl rfl rfl (by omega) (idx_pred ht) rfl) ?_
  refine al 43 tok ?_
  refine am 44 ?_
  refine ax 45 (o_pure rfl Try.func57 (by kernel_rfl) rfl rfl rfl ((rback_ok t (bkAt x (outRow f x) (k + 1)) (by rw [bkAt_len, hol]; omega) (by rw [bkAt_len, hol, Int.toNat_of_nonneg hr0]; exact hs.low x hxm t (List.mem_of_getElem? ht))).mono (fun r h => by rw [h, ← bkAt_step ht]))) ?_
  refine aa 9 ?_
  refine AOps.nil ?_
  refine AGo.region ?_
  refine am 33 ?_
  refine aq 34 (q_bin (r := .int .i64 ((k : Int) - 1)) rfl rfl rfl (by have h := subZ (a := ((k + 1 : Nat) : Int) - 1) (by omega) (by omega); rw [show ((k + 1 : Nat) : Int) - 1 - 1 = (k : Int) - 1 by omega] at h; exact h)) ?_
  refine aa 10 ?_
  refine AOps.nil ?_
  exact ⟨k, Drop.mk' (by repeat (first | exact EDrop.new _ _ | refine EDrop.put ?_ (by rfl) (by first | rfl | exact slA_avoid _ rfl | exact vaA_avoid _ rfl))) (by repeat (first | exact HDrop.none _ _ | exact HDrop.tail _ _ | refine HDrop.put ?_ (by first | rfl | exact congrArg (fun es => some (AObj.row true 1 es)) (by rw [Nat.zero_add, show (((k + 1 : Nat) : Int) - 1).toNat = k by omega]; exact outAt_set (by omega))) rfl (by first | rfl | exact slO_avoid _ _ | exact vaO_avoid _ | exact tab_avoid _ _ rfl rfl | exact wlk_avoid _ _ _ rfl rfl rfl))), (by omega), (by omega)⟩
 ·
  refine AGo.cond_false false rfl rfl ?_
  have hm0 : m = 0 := by have h := hb1; simp at h; omega
  subst hm0
  refine AGo.exit ?_
  refine AGo.seq ?_
  refine AGo.ghost (.freezeA 8 3 rfl rfl (outAt_len _ _ _).symm) ?_
  rw [outAt_end (fun t ht => inR_low (hs.low x hxm t ht)) (fun e => (hs.fin x hxm e).1)]
  refine AGo.region ?_
  refine am 46 ?_
  refine aa 6 ?_
  refine AOps.nil ?_
  refine AGo.ret ?_
  refine ⟨[_], ⟨rfl, trivial⟩, ?_, rfl⟩
  rfl

set_option maxRecDepth 100000 in
theorem rwithin_ok (a b : List Bool) (hl : a.length ≤ b.length) (hb : a.length ≤ 100000) : APure Try.prog 33 [boolsAV a, boolsAV b] (fun r => r = .bool (withinB a b)) := by
 refine APure.of_body (n := 23) tok Try.func33 rfl rfl ?_
 refine AGo.seq ?_
 refine AGo.region ?_
 refine aa 4 ?_
 refine AOps.nil ?_
 refine AGo.seq ?_
 refine AGo.seq ?_
 refine AGo.region ?_
 refine aa 5 ?_
 refine AOps.nil ?_
 refine AGo.block ?_
 refine AGo.loopI (γ := Nat) (fun k => ⟨23, (eput (eput (eput eNew 0 (boolsAV a)) 1 (boolsAV b)) 5 (.int .i64 (k : Int))), hNone⟩) (fun k => k ≤ a.length ∧ ((a.zip b).take k).all (fun p => !(p.1 && !p.2)) = true) (fun k => a.length - k) 0 (Sub.mk' (by repeat (first | exact ESub.new _ | refine ESub.put ?_ (by rfl))) (by repeat (first | exact HSub.refl _ | exact HSub.none _ | exact HSub.from_new _ | exact HSub.from_from (by first | decide | omega | (dsimp only; omega)) | refine HSub.put ?_ (by rfl) | refine HSub.from_put ?_ (by first | decide | omega | (dsimp only; omega)) | refine HSub.from_rm ?_ (by decide)))) ⟨Nat.zero_le _, rfl⟩ ?_
 intro k ⟨hk, hall⟩
 refine AGo.seq ?_
 refine AGo.seq ?_
 refine AGo.region ?_
 refine am 6 ?_
 refine am 7 ?_
 refine aq 8 (q_len tok rfl rfl rfl rfl rfl) ?_
 refine aq 9 (q_bin rfl rfl rfl rfl) ?_
 refine AOps.nil ?_
 refine AGo.split 9 rfl (fun hb1 => ?_) (fun hb1 => ?_)
 ·
  refine AGo.cond_true true rfl rfl ?_
  have hkl : k < a.length := by have h := hb1; simp [boolsAV] at h; exact h
  obtain ⟨p, hp⟩ := get_of_lt hkl
  obtain ⟨q, hq⟩ := get_of_lt (l := b) (k := k) (by omega)
  refine AGo.skip ?_
  refine AGo.seq ?_
  refine AGo.block ?_
  refine AGo.seq ?_
  refine AGo.region ?_
  refine am 12 ?_
  refine am 13 ?_
  refine aq 14 (q_index_lst tok rfl rfl rfl rfl rfl rfl (Int.natCast_nonneg _) (idx_map hp) rfl) ?_
  refine al 15 tok ?_
  refine am 16 ?_
  refine AOps.split 16 rfl (fun hb2 => ?_) (fun hb2 => ?_)
  ·
   have hpv := hb2
   refine am 17 ?_
   refine am 18 ?_
   refine aq 19 (q_index_lst tok rfl rfl rfl rfl rfl rfl (Int.natCast_nonneg _) (idx_map hq) rfl) ?_
   refine al 20 tok ?_
   refine aq 21 (q_not rfl rfl) ?_
   refine aq 22 (q_pick_true true rfl rfl rfl rfl) ?_
   refine AOps.nil ?_
   refine AGo.split 22 rfl (fun hb3 => ?_) (fun hb3 => ?_)
   ·
    refine AGo.cond_true true rfl rfl ?_
    have hbad := hb3
    refine AGo.seq ?_
    refine AGo.region ?_
    refine aa 4 ?_
    refine AOps.nil ?_
    refine AGo.ret ?_
    refine ⟨[_], ⟨rfl, trivial⟩, ?_, rfl⟩
    show AV.bool _ = AV.bool _
    congr 1
    exact (all_bad (zip_get2 hp hq) (by simp [hpv, hbad])).symm
   ·
    refine AGo.cond_false false rfl rfl ?_
    have hgood : (p && !q) = false := by first | (rw [hpv]; exact hb3) | (rw [hb3]; rfl)
    refine AGo.skip ?_
    refine AGo.region ?_
    refine am 10 ?_
    refine aq 11 (q_inc rfl rfl hkl (by simp only [maxLen]; omega)) ?_
    refine aa 5 ?_
    refine AOps.nil ?_
    exact ⟨k+1, Sub.mk' (by repeat (first | exact ESub.new _ | refine ESub.put ?_ (by rfl))) (by repeat (first | exact HSub.refl _ | exact HSub.none _ | exact HSub.from_new _ | exact HSub.from_from (by first | decide | omega | (dsimp only; omega)) | refine HSub.put ?_ (by rfl) | refine HSub.from_put ?_ (by first | decide | omega | (dsimp only; omega)) | refine HSub.from_rm ?_ (by decide))), ⟨hkl, all_succ (zip_get2 hp hq) hall (by simp [hgood])⟩, by omega⟩
  ·
   refine ak 17 ?_
   refine ak 18 ?_
   refine ak 19 ?_
   refine ak 20 ?_
   refine ak 21 ?_
   refine aq 22 (q_pick_false false rfl rfl rfl rfl) ?_
   refine AOps.nil ?_
   refine AGo.cond_false false rfl rfl ?_
   have hgood : (p && !q) = false := by first | (rw [hpv]; exact hb2) | (rw [hb2]; rfl)
   refine AGo.skip ?_
   refine AGo.region ?_
   refine am 10 ?_
   refine aq 11 (q_inc rfl rfl hkl (by simp only [maxLen]; omega)) ?_
   refine aa 5 ?_
   refine AOps.nil ?_
   exact ⟨k+1, Sub.mk' (by repeat (first | exact ESub.new _ | refine ESub.put ?_ (by rfl))) (by repeat (first | exact HSub.refl _ | exact HSub.none _ | exact HSub.from_new _ | exact HSub.from_from (by first | decide | omega | (dsimp only; omega)) | refine HSub.put ?_ (by rfl) | refine HSub.from_put ?_ (by first | decide | omega | (dsimp only; omega)) | refine HSub.from_rm ?_ (by decide))), ⟨hkl, all_succ (zip_get2 hp hq) hall (by simp [hgood])⟩, by omega⟩
 ·
  refine AGo.cond_false false rfl rfl ?_
  have hge : a.length ≤ k := by have h := hb1; simp [boolsAV] at h; omega
  refine AGo.exit ?_
  refine AGo.seq ?_
  refine AGo.region ?_
  refine aa 4 ?_
  refine AOps.nil ?_
  refine AGo.ret ?_
  refine ⟨[_], ⟨rfl, trivial⟩, ?_, rfl⟩
  show AV.bool _ = AV.bool _
  congr 1
  exact (all_end hall (by rw [List.length_zip]; omega)).symm

set_option maxHeartbeats 1000000 in
set_option maxRecDepth 100000 in
theorem rrows_ok (a b : List (List Bool)) (ha : a.length ≤ 100000) (hra : ∀ r ∈ a, r.length ≤ 100000) : APure Try.prog 17 [rowsAV a, rowsAV b] (fun r => r = .bool (decide (a = b))) := by
 refine APure.of_body (n := 52) tok Try.func17 rfl rfl ?_
 refine AGo.seq ?_
 refine AGo.region ?_
 refine aa 4 ?_
 refine AOps.nil ?_
 refine AGo.seq ?_
 refine AGo.seq ?_
 refine AGo.region ?_
 refine am 6 ?_
 refine aq 7 (q_len tok rfl rfl rfl rfl rfl) ?_
 refine am 8 ?_
 refine aq 9 (q_len tok rfl rfl rfl rfl rfl) ?_
 refine aq 10 (q_bin rfl rfl rfl rfl) ?_
 refine AOps.nil ?_
 refine AGo.split 10 rfl (fun hb1 => ?_) (fun hb1 => ?_)
 ·
  refine AGo.cond_true true rfl rfl ?_
  have hne : ¬ a = b := fun e => by have h := bne_ne' hb1; rw [List.length_map, List.length_map, e] at h; exact h rfl
  refine AGo.seq ?_
  refine AGo.region ?_
  refine aa 4 ?_
  refine AOps.nil ?_
  refine AGo.ret ?_
  refine ⟨[_], ⟨rfl, trivial⟩, ?_, rfl⟩
  show AV.bool _ = AV.bool _
  congr 1
  exact (decide_eq_false hne).symm
 ·
  refine AGo.cond_false false rfl rfl ?_
  have hlen : a.length = b.length := by have h := bne_eq' hb1; rw [List.length_map, List.length_map] at h; omega
  refine AGo.skip ?_
  refine AGo.seq ?_
  refine AGo.seq ?_
  refine AGo.region ?_
  refine aa 5 ?_
  refine AOps.nil ?_
  refine AGo.block ?_
  refine AGo.loopI (γ := Nat) (fun k => ⟨52, (eput (eput (eput eNew 0 (rowsAV a)) 1 (rowsAV b)) 5 (.int .i64 (k : Int))), hNone⟩) (fun k => k ≤ a.length ∧ a.take k = b.take k) (fun k => a.length - k) 0 (Sub.mk' (by repeat (first | exact ESub.new _ | refine ESub.put ?_ (by rfl))) (by repeat (first | exact HSub.refl _ | exact HSub.none _ | exact HSub.from_new _ | exact HSub.from_from (by first | decide | omega | (dsimp only; omega)) | refine HSub.put ?_ (by rfl) | refine HSub.from_put ?_ (by first | decide | omega | (dsimp only; omega)) | refine HSub.from_rm ?_ (by decide)))) ⟨Nat.zero_le _, rfl⟩ ?_
  intro k ⟨hk, hall⟩
  refine AGo.seq ?_
  refine AGo.seq ?_
  refine AGo.region ?_
  refine am 11 ?_
  refine am 12 ?_
  refine aq 13 (q_len tok rfl rfl rfl rfl rfl) ?_
  refine aq 14 (q_bin rfl rfl rfl rfl) ?_
  refine AOps.nil ?_
  refine AGo.split 14 rfl (fun hb2 => ?_) (fun hb2 => ?_)
  ·
   refine AGo.cond_true true rfl rfl ?_
   have hkl : k < a.length := by have h := hb2; simp [rowsAV] at h; exact h
   obtain ⟨p, hp⟩ := get_of_lt hkl
   obtain ⟨q, hq⟩ := get_of_lt (l := b) (k := k) (by omega)
   have hpl := hra p (List.mem_of_getElem? hp)
   refine AGo.skip ?_
   refine AGo.seq ?_
   refine AGo.block ?_
   refine AGo.seq ?_
   refine AGo.draw mix ?_
   refine dm 17 ?_
   refine dm 18 ?_
   refine dq 19 (q_index_lst tok rfl rfl rfl rfl rfl rfl (Int.natCast_nonneg _) (idx_map hp) rfl) ?_
   refine dl 20 tok ?_
   refine dq 21 (q_len tok rfl rfl rfl rfl rfl) ?_
   refine dm 22 ?_
   refine dm 23 ?_
   refine dq 24 (q_index_lst tok rfl rfl rfl rfl rfl rfl (Int.natCast_nonneg _) (idx_map hq) rfl) ?_
   refine dl 25 tok ?_
   refine dq 26 (q_len tok rfl rfl rfl rfl rfl) ?_
   refine dq 27 (q_bin rfl rfl rfl rfl) ?_
   refine dm 28 ?_
   refine DOps.split 28 rfl (fun hb3 => ?_) (fun hb3 => ?_)
   ·
    refine dk 29 ?_
    refine dk 30 ?_
    refine dk 31 ?_
    refine dk 32 ?_
    refine dk 33 ?_
    refine dk 34 ?_
    refine dk 35 ?_
    refine dk 36 ?_
    refine dk 37 ?_
    refine dk 38 ?_
    refine dq 39 (q_pick_true true rfl rfl rfl rfl) ?_
    refine dm 40 ?_
    refine dk 41 ?_
    refine dk 42 ?_
    refine dk 43 ?_
    refine dk 44 ?_
    refine dk 45 ?_
    refine dk 46 ?_
    refine dk 47 ?_
    refine dk 48 ?_
    refine dk 49 ?_
    refine dk 50 ?_
    refine dq 51 (q_pick_true true rfl rfl rfl rfl) ?_
    refine DOps.nil (by kernel_rfl) ?_
    refine AGo.cond_true true rfl rfl ?_
    have hne : ¬ p = q := by first | exact rows_ne1 hb3 | exact rows_ne1 hlb | exact rows_ne2 hb3 | exact rows_ne3 hb3
    refine AGo.seq ?_
    refine AGo.region ?_
    refine aa 4 ?_
    refine AOps.nil ?_
    refine AGo.ret ?_
    refine ⟨[_], ⟨rfl, trivial⟩, ?_, rfl⟩
    show AV.bool _ = AV.bool _
    congr 1
    exact (decide_eq_false (fun e => hne (by rw [e, hq] at hp; cases hp; rfl))).symm
   ·
    have hlb := hb3
    have hlb2 : p.length = q.length := by have h := bne_eq' hb3; rw [List.length_map, List.length_map] at h; omega
    refine dm 29 ?_
    refine dm 30 ?_
    refine dq 31 (q_index_lst tok rfl rfl rfl rfl rfl rfl (Int.natCast_nonneg _) (idx_map hp) rfl) ?_
    refine dl 32 tok ?_
    refine dm 33 ?_
    refine dm 34 ?_
    refine dq 35 (q_index_lst tok rfl rfl rfl rfl rfl rfl (Int.natCast_nonneg _) (idx_map hq) rfl) ?_
    refine dl 36 tok ?_
    refine dx 37 (o_pure rfl Try.func33 (by kernel_rfl) rfl rfl rfl (rwithin_ok p q (by omega) (by omega))) ?_
    refine dq 38 (q_not rfl rfl) ?_
    refine dq 39 (q_pick_false false rfl rfl rfl rfl) ?_
    refine dm 40 ?_
    refine DOps.split 40 rfl (fun hb4 => ?_) (fun hb4 => ?_)
    ·
     refine dk 41 ?_
     refine dk 42 ?_
     refine dk 43 ?_
     refine dk 44 ?_
     refine dk 45 ?_
     refine dk 46 ?_
     refine dk 47 ?_
     refine dk 48 ?_
     refine dk 49 ?_
     refine dk 50 ?_
     refine dq 51 (q_pick_true true rfl rfl rfl rfl) ?_
     refine DOps.nil (by kernel_rfl) ?_
     refine AGo.cond_true true rfl rfl ?_
     have hne : ¬ p = q := by first | exact rows_ne1 hb4 | exact rows_ne1 hlb | exact rows_ne2 hb4 | exact rows_ne3 hb4
     refine AGo.seq ?_
     refine AGo.region ?_
     refine aa 4 ?_
     refine AOps.nil ?_
     refine AGo.ret ?_
     refine ⟨[_], ⟨rfl, trivial⟩, ?_, rfl⟩
     show AV.bool _ = AV.bool _
     congr 1
     exact (decide_eq_false (fun e => hne (by rw [e, hq] at hp; cases hp; rfl))).symm
    ·
     have hw1 := hb4
     refine dm 41 ?_
     refine dm 42 ?_
     refine dq 43 (q_index_lst tok rfl rfl rfl rfl rfl rfl (Int.natCast_nonneg _) (idx_map hq) rfl) ?_
     refine dl 44 tok ?_
     refine dm 45 ?_
     refine dm 46 ?_
     refine dq 47 (q_index_lst tok rfl rfl rfl rfl rfl rfl (Int.natCast_nonneg _) (idx_map hp) rfl) ?_
     refine dl 48 tok ?_
     refine dx 49 (o_pure rfl Try.func33 (by kernel_rfl) rfl rfl rfl (rwithin_ok q p (by omega) (by omega))) ?_
     refine dq 50 (q_not rfl rfl) ?_
     refine dq 51 (q_pick_false false rfl rfl rfl rfl) ?_
     refine DOps.nil (by kernel_rfl) ?_
     refine AGo.split 51 rfl (fun hb5 => ?_) (fun hb5 => ?_)
     ·
      refine AGo.cond_true true rfl rfl ?_
      have hne : ¬ p = q := by first | exact rows_ne1 hb5 | exact rows_ne1 hlb | exact rows_ne2 hb5 | exact rows_ne3 hb5
      refine AGo.seq ?_
      refine AGo.region ?_
      refine aa 4 ?_
      refine AOps.nil ?_
      refine AGo.ret ?_
      refine ⟨[_], ⟨rfl, trivial⟩, ?_, rfl⟩
      show AV.bool _ = AV.bool _
      congr 1
      exact (decide_eq_false (fun e => hne (by rw [e, hq] at hp; cases hp; rfl))).symm
     ·
      refine AGo.cond_false false rfl rfl ?_
      have heq : p = q := rows_eq hlb2 hw1 hb5
      refine AGo.skip ?_
      refine AGo.region ?_
      refine am 15 ?_
      refine aq 16 (q_inc rfl rfl hkl (by simp only [maxLen]; omega)) ?_
      refine aa 5 ?_
      refine AOps.nil ?_
      exact ⟨k+1, Sub.mk' (by repeat (first | exact ESub.new _ | refine ESub.put ?_ (by rfl))) (by repeat (first | exact HSub.refl _ | exact HSub.none _ | exact HSub.from_new _ | exact HSub.from_from (by first | decide | omega | (dsimp only; omega)) | refine HSub.put ?_ (by rfl) | refine HSub.from_put ?_ (by first | decide | omega | (dsimp only; omega)) | refine HSub.from_rm ?_ (by decide))), ⟨hkl, by rw [take_succ_eq hp, take_succ_eq hq, hall, heq]⟩, by omega⟩
  ·
   refine AGo.cond_false false rfl rfl ?_
   have hge : a.length ≤ k := by have h := hb2; simp [rowsAV] at h; omega
   refine AGo.exit ?_
   refine AGo.seq ?_
   refine AGo.region ?_
   refine aa 4 ?_
   refine AOps.nil ?_
   refine AGo.ret ?_
   refine ⟨[_], ⟨rfl, trivial⟩, ?_, rfl⟩
   show AV.bool _ = AV.bool _
   congr 1
   exact (decide_eq_true (take_all hall hge (by omega))).symm

end Go.Proofs.Ytjmjmedjjbginaa.Sv

namespace Go.Proofs.Ytjmjmedjjbginaa.Sv
open Go

set_option maxHeartbeats 2000000 in
set_option maxRecDepth 100000 in
theorem dregister_ok (f : BFunc) (hs : f.sane) (R : Nat) (hRf : f.regs = (R : Int)) (st : RS) (hq : QI R st) (v : Nat) (hv : v < R) (hn : f.blocks.length ≤ 100000) (hR : R ≤ 100000) (hi : ∀ x ∈ f.blocks, x.ins.length ≤ 100000) : ACall Try.prog 27 [.ptr 2 1 0 0, .int .i64 (v : Int)] (DH (DSL f R (SB f) (st.es) (st.ws.length) (st.w)) (DF f R (SB f) st.G)) (fun r h' => r = .tup [] ∧ HSub (putD hNone (DH (DSL f R (SB f) (regR f v st).es (regR f v st).ws.length (regR f v st).w) (DF f R (SB f) (regR f v st).G))) h') := by
 obtain ⟨inn, hinn⟩ : ∃ inn : Nat → Bool, inn = fun b => inB (cutF f st.G) v b := ⟨_, rfl⟩
 refine ACall.of_body (n := 109) tok Try.func27 rfl rfl ?_
 refine AGo.seq ?_
 refine AGo.seq ?_
 refine AGo.region ?_
 refine am 13 ?_
 refine aq 14 (q_nilCheck rfl rfl rfl) ?_
 refine af 15 tok ?_
 refine al 16 tok ?_
 refine am 17 ?_
 refine aq 18 (q_index_ref tok rfl rfl rfl rfl rfl rfl rfl (colF_len _ _).symm rfl (Int.natCast_nonneg _) (by omega)) ?_
 refine aq 19 (q_load tok rfl rfl rfl (.ptr _ _ _ _ _ _ _ [oR f.blocks.length R (SB f) v] (by (try simp only [hputs]); repeat (first | rfl | exact hput_same _ _ _ | refine hput_skip (by exact beq_false_of_ne (by omega)) ?_ | refine hrm_skip (by omega) ?_ | refine (famW_out _ (fun i_ _ => by first | omega | (dsimp only; omega))).trans ?_)) (colF_len _ _).symm (by rw [Nat.zero_add, Int.toNat_natCast]; exact colF_get hv)) rfl) ?_
 refine aq 20 (q_lenJ tok rfl rfl rfl rfl) ?_
 refine aq 21 (q_bin rfl rfl rfl rfl) ?_
 refine AOps.nil ?_
 refine AGo.split 21 rfl (fun hb1 => ?_) (fun hb1 => ?_)
 ·
  refine AGo.cond_true true rfl rfl ?_
  have hz0 : (gsB f v).length = 0 := by have h := hb1; rw [grs_len] at h; simp only [beq_iff_eq] at h; exact Int.ofNat_inj.1 h
  refine AGo.ret ?_
  rw [regR_zero hz0]
  exact ⟨[], trivial, rfl, (dh_sub rfl (by repeat (first | exact trivial | refine ⟨by rfl, ?_⟩)) (fun x_ => by (try simp only [hputs]); (try dsimp only); first | exact fam_hi _ _ _ | exact (putD_hi _ _ x_).trans (fam_hi _ _ _) | ((repeat (first | refine hput_skip (by exact beq_false_of_ne (by omega)) ?_ | refine hrm_skip (by omega) ?_)); exact fam_hi _ _ _)))⟩
 ·
  refine AGo.cond_false false rfl rfl ?_
  skip
  refine AGo.skip ?_
  refine AGo.seq ?_
  refine AGo.region ?_
  refine am 22 ?_
  refine am 23 ?_
  refine AOps.call 24 (hn := putD _ (DH (DSL f R (SB f) (st.es) (st.ws.length) (st.w)) (DF f R (SB f) st.G))) (r := boolsAV (mrow f.blocks.length inn)) rfl rfl rfl (o_callDH (DSL f R (SB f) (st.es) (st.ws.length) (st.w)) (DSL f R (SB f) (st.es) (st.ws.length) (st.w)) (DF f R (SB f) st.G) rfl Try.func47 (by kernel_rfl) rfl rfl rfl rfl rfl (DSL_avoid _ _ _ _ _ _) (DSL_avoid _ _ _ _ _ _) (by repeat (first | exact trivial | refine ⟨by first | rfl | exact putD_yes rfl, ?_⟩)) (fun x_ => by (try simp only [hputs]); (try dsimp only); first | exact fam_hi _ _ _ | exact (putD_hi _ _ x_).trans (fam_hi _ _ _) | ((repeat (first | refine hput_skip (by exact beq_false_of_ne (by omega)) ?_ | refine hrm_skip (by omega) ?_)); exact fam_hi _ _ _)) (DF_avoid kD_hi f R _ _) (DF_avoid kD_hi f R _ _) rfl (by rw [hinn]; exact dmatters_ok f hs R st.G st.es st.ws.length st.w v hv hn hR hi)) ?_
  refine aa 4 ?_
  refine AOps.nil ?_
  refine AGo.seq ?_
  refine AGo.region ?_
  refine am 25 ?_
  refine aq 26 (q_nilCheck rfl rfl rfl) ?_
  refine af 27 tok ?_
  refine al 28 tok ?_
  refine am 29 ?_
  refine aq 30 (q_index_ref tok rfl rfl rfl rfl rfl rfl (by (try simp only [hputs]); repeat (first | rfl | exact hput_same _ _ _ | refine hput_skip (by exact beq_false_of_ne (by omega)) ?_ | refine hrm_skip (by omega) ?_ | refine (famW_out _ (fun i_ _ => by first | omega | (dsimp only; omega))).trans ?_)) (colF_len _ _).symm rfl (Int.natCast_nonneg _) (by omega)) ?_
  refine aq 31 (q_load tok rfl rfl rfl (.ptr _ _ _ _ _ _ _ [oR f.blocks.length R (SB f) v] (by (try simp only [hputs]); repeat (first | rfl | exact hput_same _ _ _ | refine hput_skip (by exact beq_false_of_ne (by omega)) ?_ | refine hrm_skip (by omega) ?_ | refine (famW_out _ (fun i_ _ => by first | omega | (dsimp only; omega))).trans ?_)) (colF_len _ _).symm (by rw [Nat.zero_add, Int.toNat_natCast]; exact colF_get hv)) rfl) ?_
  refine aq 32 (q_lenJ tok rfl rfl rfl rfl) ?_
  refine am 33 ?_
  refine AOps.nil ?_
  refine AGo.block ?_
  refine AGo.loopK (γ := Nat) (kf 8) (fun k => ⟨109, (eput (eput (eput (eput (eput (eput eNew 0 (.ptr 2 1 0 0)) 1 (.int .i64 (v : Int))) 4 (boolsAV (mrow f.blocks.length inn))) 31 (oR f.blocks.length R (SB f) v)) 32 (.int .i64 ((grs f.blocks.length R (SB f) v).length : Int))) 33 (.int .i64 (k : Int))), (fam (nb [.free, .free, (.row false 8 [SDc f R ((regK f inn v st k).es).length ((regK f inn v st k).ws.length)]), (.row false 1 (colF (aR (aheadL f)) f.blocks.length)), (.row false 1 (colF (oR f.blocks.length R (SB f)) R)), (.row false 1 (colF (gR f) f.blocks.length)), (.row true 1 ((regK f inn v st k).es)), (.row true 1 (bC R ((regK f inn v st k).w)))]) (DF f R (SB f) (regK f inn v st k).G))⟩) (fun k => k ≤ (gsB f v).length ∧ QI R (regK f inn v st k)) (fun k => (gsB f v).length - k) 0 (Sub.mk' (by repeat (first | exact ESub.new _ | refine ESub.put ?_ (by first | rfl))) (famSub (k0 := 8) rfl (by repeat (first | exact trivial | refine ⟨⟨by first | rfl | exact putD_yes rfl | ((try simp only [hputs]); repeat (first | rfl | exact hput_same _ _ _ | refine hput_skip (by exact beq_false_of_ne (by omega)) ?_ | refine hrm_skip (by omega) ?_ | refine (famW_out _ (fun i_ _ => by first | omega | (dsimp only; omega))).trans ?_)), by first | rfl | exact colF_avoid (fun _ _ => aR_avoid (kf_hi' _) _ _) | exact colF_avoid (fun _ _ => oR_avoid (kf_hi' _) _ _ _ _) | exact colF_avoid (fun _ _ => gR_avoid (kf_hi' _) _ _) | exact gb_avoid _⟩, ?_⟩)) (fun x_ => by (try simp only [hputs]); (try dsimp only); first | exact fam_hi _ _ _ | exact (putD_hi _ _ x_).trans (fam_hi _ _ _) | ((repeat (first | refine hput_skip (by exact beq_false_of_ne (by omega)) ?_ | refine hrm_skip (by omega) ?_)); exact fam_hi _ _ _)) (fun c h1 h2 => by rcases (by omega : c = 8 ∨ c = 9 ∨ c = 10 ∨ c = 11 ∨ c = 12 ∨ c = 13 ∨ c = 14 ∨ c = 15) with rfl | rfl | rfl | rfl | rfl | rfl | rfl | rfl <;> first | rfl | (try simp only [hputs]; repeat (first | rfl | refine hput_skip (by exact beq_false_of_ne (by omega)) ?_ | refine hrm_skip (by omega) ?_))))) ⟨Nat.zero_le _, hq⟩ (fun g b hb => famFree (k0 := 8) rfl hb) ?_
  intro k hQ
  generalize hK : (regK f inn v st k) = q at hQ ⊢
  refine AGo.seq ?_
  refine AGo.region ?_
  refine aq 34 (q_bin rfl rfl rfl rfl) ?_
  refine AOps.nil ?_
  refine AGo.seq ?_
  refine AGo.split 34 rfl (fun hb2 => ?_) (fun hb2 => ?_)
  ·
   refine AGo.cond_true true rfl rfl ?_
   have hkl : k < (gsB f v).length := by have h := hb2; rw [grs_len] at h; simp only [decide_eq_true_eq] at h; exact Int.ofNat_lt.1 h
   obtain ⟨i, hgi⟩ := get_of_lt hkl
   have hig : i < f.blocks.length ∧ 0 < (SB f i v).length := gsS_get (S := SB f) hgi
   obtain ⟨x, hx⟩ := get_of_lt hig.1
   have hxm := List.mem_of_getElem? hx
   refine AGo.skip ?_
   refine AGo.seq ?_
   refine AGo.block ?_
   refine AGo.seq ?_
   refine AGo.region ?_
   refine aq 35 (q_indexP tok rfl rfl rfl rfl rfl rfl ((fam_hi _ _ _).trans (congrArg some (DF_grp hv))) rfl (Int.natCast_nonneg _) (by rw [grs_len]; exact Int.ofNat_lt.2 hkl)) ?_
   refine aq 36 (q_load tok rfl rfl rfl (.ptr _ _ _ _ false 2 (grs f.blocks.length R (SB f) v) (grC R (SB f) v i) ((fam_hi _ _ _).trans (congrArg some ((DF_grp hv).trans (slP_at (k := k) (by rw [grs_len]; exact hkl))))) rfl (by rw [Int.toNat_natCast]; show ((gsB f v).map (grC R (SB f) v))[_]? = _; rw [List.getElem?_map, hgi]; rfl)) rfl) ?_
   refine ax 6 (o_alloc tok 8 rfl rfl (by (try simp only [hputs]); repeat (first | rfl | exact hput_same _ _ _ | refine hput_skip (by exact beq_false_of_ne (by omega)) ?_ | refine hrm_skip (by omega) ?_ | refine (famW_out _ (fun i_ _ => by first | omega | (dsimp only; omega))).trans ?_)) rfl (Nat.zero_lt_succ _) rfl) ?_
   refine AOps.w rfl rfl (o_store tok rfl rfl rfl rfl rfl rfl rfl rfl rfl (by decide) rfl (by first | exact fun _ => rfl | (intro h; cases h))) ?_
   refine AOps.nil ?_
   refine AGo.seq ?_
   refine AGo.region ?_
   refine aa 7 ?_
   refine AOps.nil ?_
   refine AGo.seq ?_
   refine AGo.seq ?_
   refine AGo.draw mix ?_
   refine dm 37 ?_
   refine dq 38 (q_nilCheck rfl rfl rfl) ?_
   refine df 39 tok ?_
   refine dl 40 tok ?_
   refine df 41 tok ?_
   refine dl 42 tok ?_
   refine dq 43 (q_index_lst tok rfl rfl rfl rfl rfl rfl (Int.natCast_nonneg _) (idx_map (nexts_get hx)) rfl) ?_
   refine dl 44 tok ?_
   refine dq 45 (q_len tok rfl rfl rfl rfl rfl) ?_
   refine dm 46 ?_
   refine DOps.nil (by kernel_rfl) ?_
   refine AGo.block ?_
   refine AGo.loopK (γ := Nat) (kf 9) (fun j => ⟨109, (eput (eput (eput (eput (eput (eput (eput (eput (eput (eput (eput eNew 0 (.ptr 2 1 0 0)) 1 (.int .i64 (v : Int))) 4 (boolsAV (mrow f.blocks.length inn))) 31 (oR f.blocks.length R (SB f) v)) 32 (.int .i64 ((grs f.blocks.length R (SB f) v).length : Int))) 33 (.int .i64 (k : Int))) 6 (.ptr 8 1 0 0)) 7 (.bool (anyK inn x j))) 44 (intsAV x.nexts)) 45 (.int .i64 (x.nexts.length : Int))) 46 (.int .i64 (j : Int))), (fam (nb [.free, .free, (.row false 8 [SDc f R (q.es).length (q.ws.length)]), (.row false 1 (colF (aR (aheadL f)) f.blocks.length)), (.row false 1 (colF (oR f.blocks.length R (SB f)) R)), (.row false 1 (colF (gR f) f.blocks.length)), (.row true 1 (q.es)), (.row true 1 (bC R (q.w))), (.row false 2 [grC R (SB f) v i])]) (DF f R (SB f) q.G))⟩) (fun j => True) (fun j => x.nexts.length - j) 0 (Sub.mk' (by repeat (first | exact ESub.new _ | refine ESub.put ?_ (by first | rfl | exact congrArg (fun (n : Nat) => some (AV.int .i64 (n : Int))) (by simp)))) (famSub (k0 := 9) rfl (by repeat (first | exact trivial | refine ⟨⟨by first | rfl | ((try simp only [hputs]); repeat (first | rfl | exact hput_same _ _ _ | refine hput_skip (by exact beq_false_of_ne (by omega)) ?_ | refine hrm_skip (by omega) ?_ | refine (famW_out _ (fun i_ _ => by first | omega | (dsimp only; omega))).trans ?_)), by first | rfl | exact colF_avoid (fun _ _ => aR_avoid (kf_hi' _) _ _) | exact colF_avoid (fun _ _ => oR_avoid (kf_hi' _) _ _ _ _) | exact colF_avoid (fun _ _ => gR_avoid (kf_hi' _) _ _) | exact gb_avoid _⟩, ?_⟩)) (fun x_ => by (try simp only [hputs]); repeat (first | exact fam_hi _ _ _ | refine hput_skip (by exact beq_false_of_ne (by omega)) ?_ | refine hrm_skip (by omega) ?_)) (fun c h1 h2 => by rcases (by omega : c = 9 ∨ c = 10 ∨ c = 11 ∨ c = 12 ∨ c = 13 ∨ c = 14 ∨ c = 15) with rfl | rfl | rfl | rfl | rfl | rfl | rfl <;> first | rfl | (try simp only [hputs]; repeat (first | rfl | refine hput_skip (by exact beq_false_of_ne (by omega)) ?_ | refine hrm_skip (by omega) ?_))))) trivial (fun g b hb => famFree (k0 := 9) rfl hb) ?_
   intro j _
   refine AGo.seq ?_
   refine AGo.region ?_
   refine aq 47 (q_bin rfl rfl rfl rfl) ?_
   refine AOps.nil ?_
   refine AGo.seq ?_
   refine AGo.split 47 rfl (fun hb3 => ?_) (fun hb3 => ?_)
   ·
    refine AGo.cond_true true rfl rfl ?_
    have hjl : j < x.nexts.length := by have h := hb3; simp [intsAV] at h; exact h
    obtain ⟨d, hd⟩ := get_of_lt hjl
    have hd0 := hs.next x hxm d (List.mem_of_getElem? hd)
    have hdn : d.toNat < f.blocks.length := by omega
    refine AGo.skip ?_
    refine AGo.seq ?_
    refine AGo.block ?_
    refine AGo.seq ?_
    refine AGo.region ?_
    refine aq 48 (q_index_lst tok rfl rfl rfl rfl rfl rfl (Int.natCast_nonneg _) (idx_map hd) rfl) ?_
    refine al 49 tok ?_
    refine aa 9 ?_
    refine AOps.nil ?_
    refine AGo.region ?_
    refine am 50 ?_
    refine am 51 ?_
    refine AOps.split 51 rfl (fun hb4 => ?_) (fun hb4 => ?_)
    ·
     refine ak 52 ?_
     refine ak 53 ?_
     refine ak 54 ?_
     refine ak 55 ?_
     refine aq 56 (q_pick_true true rfl rfl rfl rfl) ?_
     refine aa 7 ?_
     refine AOps.nil ?_
     refine AGo.region ?_
     refine aq 57 (q_inc rfl rfl hjl (by simp only [maxLen]; have := nexts_le2 x; omega)) ?_
     refine am 46 ?_
     refine AOps.nil ?_
     exact ⟨j + 1, DropK.mk' (by repeat (first | exact EDropK.new _ _ | refine EDropK.put ?_ (by first | rfl | exact congrArg (fun z => some (AV.bool z)) (by rw [anyK_succ hd]; first | (rw [hz9]; rfl) | (rw [‹anyK inn x j = true›]; rfl) | (rw [‹anyK inn x j = false›]; rfl)) | exact congrArg (fun (n : Nat) => some (AV.int .i64 (n : Int))) (by simp)) (by first | rfl | exact oR_avoid (kf_hi' _) _ _ _ _))) (famDrop (k0 := 9) rfl (by repeat (first | exact trivial | refine ⟨⟨by rfl, by first | rfl | exact colF_avoid (fun _ _ => aR_avoid (kf_hi' _) _ _) | exact colF_avoid (fun _ _ => oR_avoid (kf_hi' _) _ _ _ _) | exact colF_avoid (fun _ _ => gR_avoid (kf_hi' _) _ _) | exact gb_avoid _⟩, ?_⟩)) (fun x_ => by (try simp only [hputs]); repeat (first | exact fam_hi _ _ _ | refine hput_skip (by exact beq_false_of_ne (by omega)) ?_ | refine hrm_skip (by omega) ?_)) (DF_avoid (kf_hi' _) f R _ _)), trivial, (by omega)⟩
    ·
     refine am 52 ?_
     refine am 53 ?_
     have hz9 := hb4
     refine aq 54 (q_index_lst tok rfl rfl rfl rfl rfl rfl hd0.1 (idx_map (mrow_get hdn)) rfl) ?_
     refine al 55 tok ?_
     refine aq 56 (q_pick_false false rfl rfl rfl rfl) ?_
     refine aa 7 ?_
     refine AOps.nil ?_
     refine AGo.region ?_
     refine aq 57 (q_inc rfl rfl hjl (by simp only [maxLen]; have := nexts_le2 x; omega)) ?_
     refine am 46 ?_
     refine AOps.nil ?_
     exact ⟨j + 1, DropK.mk' (by repeat (first | exact EDropK.new _ _ | refine EDropK.put ?_ (by first | rfl | exact congrArg (fun z => some (AV.bool z)) (by rw [anyK_succ hd]; first | (rw [hz9]; rfl) | (rw [‹anyK inn x j = true›]; rfl) | (rw [‹anyK inn x j = false›]; rfl)) | exact congrArg (fun (n : Nat) => some (AV.int .i64 (n : Int))) (by simp)) (by first | rfl | exact oR_avoid (kf_hi' _) _ _ _ _))) (famDrop (k0 := 9) rfl (by repeat (first | exact trivial | refine ⟨⟨by rfl, by first | rfl | exact colF_avoid (fun _ _ => aR_avoid (kf_hi' _) _ _) | exact colF_avoid (fun _ _ => oR_avoid (kf_hi' _) _ _ _ _) | exact colF_avoid (fun _ _ => gR_avoid (kf_hi' _) _ _) | exact gb_avoid _⟩, ?_⟩)) (fun x_ => by (try simp only [hputs]); repeat (first | exact fam_hi _ _ _ | refine hput_skip (by exact beq_false_of_ne (by omega)) ?_ | refine hrm_skip (by omega) ?_)) (DF_avoid (kf_hi' _) f R _ _)), trivial, (by omega)⟩
   ·
    refine AGo.cond_false false rfl rfl ?_
    have hjge : x.nexts.length ≤ j := by have h := hb3; simp [intsAV] at h; omega
    refine AGo.exit ?_
    refine AGo.seq ?_
    refine AGo.region ?_
    refine af 58 tok ?_
    refine al 59 tok ?_
    refine aq 60 (q_len tok rfl rfl rfl rfl rfl) ?_
    refine aq 61 (q_bin (r := .int .i64 ((((siB f v i).length - 0 : Nat) : Int) - 1)) rfl rfl rfl (rem_first (by have h1 : (SB f i v).length ≤ x.ins.length + 1 := siB_len hx; have := hi x hxm; omega))) ?_
    refine aa 10 ?_
    refine AOps.nil ?_
    refine AGo.block ?_
    refine AGo.loopK (γ := Nat) (kf 9) (fun m => ⟨109, (eput (eput (eput (eput (eput (eput (eput (eput (eput eNew 0 (.ptr 2 1 0 0)) 1 (.int .i64 (v : Int))) 4 (boolsAV (mrow f.blocks.length inn))) 31 (oR f.blocks.length R (SB f) v)) 32 (.int .i64 ((grs f.blocks.length R (SB f) v).length : Int))) 33 (.int .i64 (k : Int))) 6 (.ptr 8 1 0 0)) 7 (.bool (sitesR inn v x i q m).2)) 10 (.int .i64 ((((siB f v i).length - m : Nat) : Int) - 1))), (fam (nb [.free, .free, (.row false 8 [SDc f R ((sitesR inn v x i q m).1.es).length ((sitesR inn v x i q m).1.ws.length)]), (.row false 1 (colF (aR (aheadL f)) f.blocks.length)), (.row false 1 (colF (oR f.blocks.length R (SB f)) R)), (.row false 1 (colF (gR f) f.blocks.length)), (.row true 1 ((sitesR inn v x i q m).1.es)), (.row true 1 (bC R ((sitesR inn v x i q m).1.w))), (.row false 2 [grC R (SB f) v i])]) (DF f R (SB f) (sitesR inn v x i q m).1.G))⟩) (fun m => m ≤ (siB f v i).length ∧ QI R (sitesR inn v x i q m).1) (fun m => (siB f v i).length - m) 0 (Sub.mk' (by repeat (first | exact ESub.new _ | refine ESub.put ?_ (by first | rfl | exact congrArg (fun z => some (AV.bool z)) (anyK_end hjge) | exact congrArg (fun (n : Nat) => some (AV.int .i64 (n : Int))) (by simp)))) (famSub (k0 := 9) rfl (by repeat (first | exact trivial | refine ⟨⟨by first | rfl | ((try simp only [hputs]); repeat (first | rfl | exact hput_same _ _ _ | refine hput_skip (by exact beq_false_of_ne (by omega)) ?_ | refine hrm_skip (by omega) ?_ | refine (famW_out _ (fun i_ _ => by first | omega | (dsimp only; omega))).trans ?_)), by first | rfl | exact colF_avoid (fun _ _ => aR_avoid (kf_hi' _) _ _) | exact colF_avoid (fun _ _ => oR_avoid (kf_hi' _) _ _ _ _) | exact colF_avoid (fun _ _ => gR_avoid (kf_hi' _) _ _) | exact gb_avoid _⟩, ?_⟩)) (fun x_ => by (try simp only [hputs]); repeat (first | exact fam_hi _ _ _ | refine hput_skip (by exact beq_false_of_ne (by omega)) ?_ | refine hrm_skip (by omega) ?_)) (fun c h1 h2 => by rcases (by omega : c = 9 ∨ c = 10 ∨ c = 11 ∨ c = 12 ∨ c = 13 ∨ c = 14 ∨ c = 15) with rfl | rfl | rfl | rfl | rfl | rfl | rfl <;> first | rfl | (try simp only [hputs]; repeat (first | rfl | refine hput_skip (by exact beq_false_of_ne (by omega)) ?_ | refine hrm_skip (by omega) ?_))))) ⟨Nat.zero_le _, hQ.2⟩ (fun g b hb => famFree (k0 := 9) rfl hb) ?_
    intro m hF
    generalize hS2 : (sitesR inn v x i q m) = S2 at hF ⊢
    refine AGo.seq ?_
    refine AGo.seq ?_
    refine AGo.region ?_
    refine am 62 ?_
    refine aq 63 (q_bin rfl rfl rfl rfl) ?_
    refine AOps.nil ?_
    refine AGo.split 63 rfl (fun hb5 => ?_) (fun hb5 => ?_)
    ·
     refine AGo.cond_true true rfl rfl ?_
     obtain ⟨kk, hkk⟩ : ∃ kk, m + kk + 1 = (siB f v i).length := ⟨(siB f v i).length - m - 1, by have h := hb5; simp at h; omega⟩
     obtain ⟨s, hsk⟩ := get_of_lt (l := siB f v i) (k := kk) (by omega)
     have hat := site_at hx hsk
     rw [show (((siB f v i).length - m : Nat) : Int) - 1 = (kk : Int) by omega]
     refine AGo.skip ?_
     refine AGo.seq ?_
     refine AGo.block ?_
     refine AGo.seq ?_
     refine AGo.region ?_
     refine af 66 tok ?_
     refine al 67 tok ?_
     refine am 68 ?_
     refine aq 69 (q_index_ref tok rfl rfl rfl rfl rfl rfl ((fam_hi _ _ _).trans (congrArg some (DF_site hv hig.2))) (List.length_map _).symm rfl (Int.natCast_nonneg _) (by show ((kk : Nat) : Int) < ((siB f v i).length : Int); omega)) ?_
     refine aq 70 (q_load tok rfl rfl rfl (.ptr _ _ _ _ true 3 ((siB f v i).map siC) (siC s) ((fam_hi _ _ _).trans (congrArg some (DF_site hv hig.2))) (List.length_map _).symm (by rw [Nat.zero_add, Int.toNat_natCast, List.getElem?_map, hsk]; rfl)) rfl) ?_
     refine ax 11 (o_alloc tok 9 rfl rfl (by (try simp only [hputs]); repeat (first | rfl | exact hput_same _ _ _ | refine hput_skip (by exact beq_false_of_ne (by omega)) ?_ | refine hrm_skip (by omega) ?_ | refine (famW_out _ (fun i_ _ => by first | omega | (dsimp only; omega))).trans ?_)) rfl (Nat.zero_lt_succ _) rfl) ?_
     refine AOps.w rfl rfl (o_store tok rfl rfl rfl rfl rfl rfl rfl rfl rfl (by decide) rfl (by first | exact fun _ => rfl | (intro h; cases h))) ?_
     refine AOps.nil ?_
     refine AGo.seq ?_
     refine AGo.seq ?_
     refine AGo.region ?_
     refine am 71 ?_
     refine af 72 tok ?_
     refine al 73 tok ?_
     refine al 74 tok ?_
     refine AOps.call 75 (hn := putD _ (DH (DSL f R (SB f) (S2.1.es) (S2.1.ws.length) (S2.1.w)) (DF f R (SB f) S2.1.G))) (r := .bool (leftS (S2.1.G i) x.ins.length s)) rfl rfl rfl (o_callDH (DSL f R (SB f) (S2.1.es) (S2.1.ws.length) (S2.1.w)) (DSL f R (SB f) (S2.1.es) (S2.1.ws.length) (S2.1.w)) (DF f R (SB f) S2.1.G) rfl Try.func48 (by kernel_rfl) rfl rfl rfl rfl rfl (DSL_avoid _ _ _ _ _ _) (DSL_avoid _ _ _ _ _ _) (by repeat (first | exact trivial | refine ⟨by first | rfl | exact putD_yes rfl, ?_⟩)) (fun x_ => by (try simp only [hputs]); (try dsimp only); first | exact fam_hi _ _ _ | exact (putD_hi _ _ x_).trans (fam_hi _ _ _) | ((repeat (first | refine hput_skip (by exact beq_false_of_ne (by omega)) ?_ | refine hrm_skip (by omega) ?_)); exact fam_hi _ _ _)) (DF_avoid kD_hi f R _ _) (DF_avoid kD_hi f R _ _) rfl (dleft_ok f R (SB f) S2.1.G S2.1.es S2.1.ws.length S2.1.w i x hx s hat)) ?_
     refine aq 76 (q_not rfl rfl) ?_
     refine AOps.nil ?_
     refine AGo.split 76 rfl (fun hb6 => ?_) (fun hb6 => ?_)
     ·
      refine AGo.cond_true true rfl rfl ?_
      have hlf : leftS (S2.1.G i) x.ins.length s = false := by have h := hb6; simpa using h
      have hnx2 : sitesR inn v x i q (m + 1) = S2 := by rw [sitesR_succ (by rw [← siB_eq hx]; exact hsk) (by rw [← siB_eq hx]; exact hkk), hS2]; exact siteR_skip hlf
      refine AGo.exit ?_
      refine AGo.region ?_
      refine am 64 ?_
      refine aq 65 (q_bin (r := .int .i64 ((((siB f v i).length - (m + 1) : Nat) : Int) - 1)) rfl rfl rfl (rem_k hkk (by have := siB_len hx (v := v); have := hi x hxm; omega))) ?_
      refine aa 10 ?_
      refine AOps.nil ?_
      exact ⟨m + 1, DropK.mk' (by repeat (first | exact EDropK.new _ _ | refine EDropK.put ?_ (by first | rfl | exact congrArg (fun z => some (AV.bool z)) (by rw [hnx2]; first | done | rfl | (simp [hss, hr]; done) | simp [hss, hr])) (by first | rfl | exact oR_avoid (kf_hi' _) _ _ _ _))) (famDrop (k0 := 9) rfl (by repeat (first | exact trivial | refine ⟨⟨by first | rfl | exact putD_yes rfl | (rw [hnx2]; first | rfl | exact putD_yes rfl | ((try simp only [hputs]); repeat (first | rfl | exact hput_same _ _ _ | refine hput_skip (by exact beq_false_of_ne (by omega)) ?_ | refine hrm_skip (by omega) ?_ | refine (famW_out _ (fun i_ _ => by first | omega | (dsimp only; omega))).trans ?_))), by first | rfl | exact colF_avoid (fun _ _ => aR_avoid (kf_hi' _) _ _) | exact colF_avoid (fun _ _ => oR_avoid (kf_hi' _) _ _ _ _) | exact colF_avoid (fun _ _ => gR_avoid (kf_hi' _) _ _) | exact gb_avoid _⟩, ?_⟩)) (fun x_ => by rw [hnx2]; (try simp only [hputs]); (try dsimp only); first | exact (putD_hi _ _ x_).trans (fam_hi _ _ _) | exact fam_hi _ _ _ | ((repeat (first | refine hput_skip (by exact beq_false_of_ne (by omega)) ?_ | refine hrm_skip (by omega) ?_)); exact (putD_hi _ _ x_).trans (fam_hi _ _ _))) (DF_avoid (kf_hi' _) f R _ _)), ⟨by omega, by rw [hnx2]; exact hF.2⟩, (by omega)⟩
     ·
      refine AGo.cond_false false rfl rfl ?_
      have hlf : leftS (S2.1.G i) x.ins.length s = true := by have h := hb6; simpa using h
      refine AGo.skip ?_
      refine AGo.seq ?_
      refine AGo.seq ?_
      refine AGo.region ?_
      refine af 77 tok ?_
      refine al 78 tok ?_
      refine AOps.nil ?_
      refine AGo.split 78 rfl (fun hb7 => ?_) (fun hb7 => ?_)
      ·
       refine AGo.cond_true true rfl rfl ?_
       have hss : s.s = true := hb7
       obtain ⟨t, ht⟩ := site_tac hx hsk hss
       have htu : ∀ u ∈ t.uses, 0 ≤ u ∧ u < R := fun u hu => by have := (hs.low x hxm t (List.mem_of_getElem? ht)).2 u hu; rw [hRf] at this; exact this
       refine AGo.seq ?_
       refine AGo.seq ?_
       refine AGo.draw mix ?_
       refine dm 79 ?_
       refine dq 80 (q_nilCheck rfl rfl rfl) ?_
       refine df 81 tok ?_
       refine df 82 tok ?_
       refine dl 83 tok ?_
       refine df 84 tok ?_
       refine dl 85 tok ?_
       refine dq 86 (q_index_lst tok rfl rfl rfl rfl rfl rfl (Int.natCast_nonneg _) (idx_map hx) rfl) ?_
       refine df 87 tok ?_
       refine dl 88 tok ?_
       refine df 89 tok ?_
       refine dl 90 tok ?_
       refine dq 91 (q_index_lst tok rfl rfl rfl rfl rfl rfl (Int.natCast_nonneg _) (idx_map ht) rfl) ?_
       refine dl 92 tok ?_
       refine dx 12 (o_alloc tok 10 rfl rfl (by (try simp only [hputs]); repeat (first | rfl | exact hput_same _ _ _ | refine hput_skip (by exact beq_false_of_ne (by omega)) ?_ | refine hrm_skip (by omega) ?_ | refine (famW_out _ (fun i_ _ => by first | omega | (dsimp only; omega))).trans ?_)) rfl (Nat.zero_lt_succ _) rfl) ?_
       refine DOps.w rfl rfl (o_store tok rfl rfl rfl rfl rfl rfl rfl rfl rfl (by decide) rfl (by first | exact fun _ => rfl | (intro h; cases h))) ?_
       refine DOps.nil (by kernel_rfl) ?_
       refine AGo.seq ?_
       refine AGo.region ?_
       refine am 93 ?_
       refine aq 94 (q_not rfl rfl) ?_
       refine am 95 ?_
       refine AOps.split 95 rfl (fun hb8 => ?_) (fun hb8 => ?_)
       ·
        refine al 96 tok ?_
        have hz := hb8
        refine ax 97 (o_pure rfl Try.func10 (by kernel_rfl) rfl rfl rfl (dpure_ok _)) ?_
        refine aq 98 (q_pick_true true rfl rfl rfl rfl) ?_
        refine AOps.nil ?_
        refine AGo.split 98 rfl (fun hb9 => ?_) (fun hb9 => ?_)
        ·
         refine AGo.cond_true true rfl rfl ?_
         have hnx2 : sitesR inn v x i q (m + 1) = (leaveR i s.at_ t.uses S2.1, S2.2) := by rw [sitesR_succ (by rw [← siB_eq hx]; exact hsk) (by rw [← siB_eq hx]; exact hkk), hS2]; exact siteR_leave hlf ht hss (by have h := hz; simpa using h) hb9
         refine AGo.seq ?_
         refine AGo.region ?_
         refine am 99 ?_
         refine af 100 tok ?_
         refine al 101 tok ?_
         refine af 102 tok ?_
         refine al 103 tok ?_
         refine al 104 tok ?_
         refine AOps.call 105 (hn := putD _ (DH (DSL f R (SB f) ((leaveR i s.at_ t.uses S2.1).es) ((leaveR i s.at_ t.uses S2.1).ws.length) ((leaveR i s.at_ t.uses S2.1).w)) (DF f R (SB f) (leaveR i s.at_ t.uses S2.1).G))) (r := .tup []) rfl rfl rfl (o_callDH (DSL f R (SB f) (S2.1.es) (S2.1.ws.length) (S2.1.w)) (DSL f R (SB f) ((leaveR i s.at_ t.uses S2.1).es) ((leaveR i s.at_ t.uses S2.1).ws.length) ((leaveR i s.at_ t.uses S2.1).w)) (DF f R (SB f) (leaveR i s.at_ t.uses S2.1).G) rfl Try.func49 (by kernel_rfl) rfl rfl rfl rfl rfl (DSL_avoid _ _ _ _ _ _) (DSL_avoid _ _ _ _ _ _) (by repeat (first | exact trivial | refine ⟨by first | rfl | exact putD_yes rfl, ?_⟩)) (fun x_ => by (try simp only [hputs]); (try dsimp only); first | exact fam_hi _ _ _ | exact (putD_hi _ _ x_).trans (fam_hi _ _ _) | ((repeat (first | refine hput_skip (by exact beq_false_of_ne (by omega)) ?_ | refine hrm_skip (by omega) ?_)); exact fam_hi _ _ _)) (DF_avoid kD_hi f R _ _) (DF_avoid kD_hi f R _ _) rfl (dleave_ok f R (SB f) S2.1.G S2.1.es S2.1.ws S2.1.w i s.at_ x hx (List.getElem?_eq_some_iff.1 ht).1 t htu hR hF.2)) ?_
         refine AOps.nil ?_
         refine AGo.exit ?_
         refine AGo.region ?_
         refine am 64 ?_
         refine aq 65 (q_bin (r := .int .i64 ((((siB f v i).length - (m + 1) : Nat) : Int) - 1)) rfl rfl rfl (rem_k hkk (by have := siB_len hx (v := v); have := hi x hxm; omega))) ?_
         refine aa 10 ?_
         refine AOps.nil ?_
         exact ⟨m + 1, DropK.mk' (by repeat (first | exact EDropK.new _ _ | refine EDropK.put ?_ (by first | rfl | exact congrArg (fun z => some (AV.bool z)) (by rw [hnx2]; first | done | rfl | (simp [hss, hr]; done) | simp [hss, hr])) (by first | rfl | exact oR_avoid (kf_hi' _) _ _ _ _))) (famDrop (k0 := 9) rfl (by repeat (first | exact trivial | refine ⟨⟨by first | rfl | exact putD_yes rfl | (rw [hnx2]; first | rfl | exact putD_yes rfl | ((try simp only [hputs]); repeat (first | rfl | exact hput_same _ _ _ | refine hput_skip (by exact beq_false_of_ne (by omega)) ?_ | refine hrm_skip (by omega) ?_ | refine (famW_out _ (fun i_ _ => by first | omega | (dsimp only; omega))).trans ?_))), by first | rfl | exact colF_avoid (fun _ _ => aR_avoid (kf_hi' _) _ _) | exact colF_avoid (fun _ _ => oR_avoid (kf_hi' _) _ _ _ _) | exact colF_avoid (fun _ _ => gR_avoid (kf_hi' _) _ _) | exact gb_avoid _⟩, ?_⟩)) (fun x_ => by rw [hnx2]; (try simp only [hputs]); (try dsimp only); first | exact (putD_hi _ _ x_).trans (fam_hi _ _ _) | exact fam_hi _ _ _ | ((repeat (first | refine hput_skip (by exact beq_false_of_ne (by omega)) ?_ | refine hrm_skip (by omega) ?_)); exact (putD_hi _ _ x_).trans (fam_hi _ _ _))) (DF_avoid (kf_hi' _) f R _ _)), ⟨by omega, by rw [hnx2]; exact hF.2.leaveR htu⟩, (by omega)⟩
        ·
         refine AGo.cond_false false rfl rfl ?_
         have hk2 : s.s = true → ∀ t, x.ins[s.at_]? = some t → (!S2.2 && t.pure) = false := fun _ t' e => by
           rw [ht] at e; cases e
           first | (rw [show t.pure = false from hb9]; exact Bool.and_false _) | (rw [hz]; rfl)
         refine AGo.skip ?_
         refine AGo.region ?_
         refine aa 7 ?_
         refine AOps.nil ?_
         refine AGo.seq ?_
         refine AGo.region ?_
         refine af 106 tok ?_
         refine al 107 tok ?_
         refine AOps.nil ?_
         refine AGo.split 107 rfl (fun hb10 => ?_) (fun hb10 => ?_)
         ·
          refine AGo.cond_true true rfl rfl ?_
          have hr : s.r = true := hb10
          have hnx2 : sitesR inn v x i q (m + 1) = (S2.1, s.r || (!s.s && S2.2)) := by rw [sitesR_succ (by rw [← siB_eq hx]; exact hsk) (by rw [← siB_eq hx]; exact hkk), hS2]; exact siteR_keep hlf hk2
          refine AGo.region ?_
          refine aa 7 ?_
          refine AOps.nil ?_
          refine AGo.region ?_
          refine am 64 ?_
          refine aq 65 (q_bin (r := .int .i64 ((((siB f v i).length - (m + 1) : Nat) : Int) - 1)) rfl rfl rfl (rem_k hkk (by have := siB_len hx (v := v); have := hi x hxm; omega))) ?_
          refine aa 10 ?_
          refine AOps.nil ?_
          exact ⟨m + 1, DropK.mk' (by repeat (first | exact EDropK.new _ _ | refine EDropK.put ?_ (by first | rfl | exact congrArg (fun z => some (AV.bool z)) (by rw [hnx2]; first | done | rfl | (simp [hss, hr]; done) | simp [hss, hr])) (by first | rfl | exact oR_avoid (kf_hi' _) _ _ _ _))) (famDrop (k0 := 9) rfl (by repeat (first | exact trivial | refine ⟨⟨by first | rfl | exact putD_yes rfl | (rw [hnx2]; first | rfl | exact putD_yes rfl | ((try simp only [hputs]); repeat (first | rfl | exact hput_same _ _ _ | refine hput_skip (by exact beq_false_of_ne (by omega)) ?_ | refine hrm_skip (by omega) ?_ | refine (famW_out _ (fun i_ _ => by first | omega | (dsimp only; omega))).trans ?_))), by first | rfl | exact colF_avoid (fun _ _ => aR_avoid (kf_hi' _) _ _) | exact colF_avoid (fun _ _ => oR_avoid (kf_hi' _) _ _ _ _) | exact colF_avoid (fun _ _ => gR_avoid (kf_hi' _) _ _) | exact gb_avoid _⟩, ?_⟩)) (fun x_ => by rw [hnx2]; (try simp only [hputs]); (try dsimp only); first | exact (putD_hi _ _ x_).trans (fam_hi _ _ _) | exact fam_hi _ _ _ | ((repeat (first | refine hput_skip (by exact beq_false_of_ne (by omega)) ?_ | refine hrm_skip (by omega) ?_)); exact (putD_hi _ _ x_).trans (fam_hi _ _ _))) (DF_avoid (kf_hi' _) f R _ _)), ⟨by omega, by rw [hnx2]; exact hF.2⟩, (by omega)⟩
         ·
          refine AGo.cond_false false rfl rfl ?_
          have hr : s.r = false := hb10
          have hnx2 : sitesR inn v x i q (m + 1) = (S2.1, s.r || (!s.s && S2.2)) := by rw [sitesR_succ (by rw [← siB_eq hx]; exact hsk) (by rw [← siB_eq hx]; exact hkk), hS2]; exact siteR_keep hlf hk2
          refine AGo.skip ?_
          refine AGo.region ?_
          refine am 64 ?_
          refine aq 65 (q_bin (r := .int .i64 ((((siB f v i).length - (m + 1) : Nat) : Int) - 1)) rfl rfl rfl (rem_k hkk (by have := siB_len hx (v := v); have := hi x hxm; omega))) ?_
          refine aa 10 ?_
          refine AOps.nil ?_
          exact ⟨m + 1, DropK.mk' (by repeat (first | exact EDropK.new _ _ | refine EDropK.put ?_ (by first | rfl | exact congrArg (fun z => some (AV.bool z)) (by rw [hnx2]; first | done | rfl | (simp [hss, hr]; done) | simp [hss, hr])) (by first | rfl | exact oR_avoid (kf_hi' _) _ _ _ _))) (famDrop (k0 := 9) rfl (by repeat (first | exact trivial | refine ⟨⟨by first | rfl | exact putD_yes rfl | (rw [hnx2]; first | rfl | exact putD_yes rfl | ((try simp only [hputs]); repeat (first | rfl | exact hput_same _ _ _ | refine hput_skip (by exact beq_false_of_ne (by omega)) ?_ | refine hrm_skip (by omega) ?_ | refine (famW_out _ (fun i_ _ => by first | omega | (dsimp only; omega))).trans ?_))), by first | rfl | exact colF_avoid (fun _ _ => aR_avoid (kf_hi' _) _ _) | exact colF_avoid (fun _ _ => oR_avoid (kf_hi' _) _ _ _ _) | exact colF_avoid (fun _ _ => gR_avoid (kf_hi' _) _ _) | exact gb_avoid _⟩, ?_⟩)) (fun x_ => by rw [hnx2]; (try simp only [hputs]); (try dsimp only); first | exact (putD_hi _ _ x_).trans (fam_hi _ _ _) | exact fam_hi _ _ _ | ((repeat (first | refine hput_skip (by exact beq_false_of_ne (by omega)) ?_ | refine hrm_skip (by omega) ?_)); exact (putD_hi _ _ x_).trans (fam_hi _ _ _))) (DF_avoid (kf_hi' _) f R _ _)), ⟨by omega, by rw [hnx2]; exact hF.2⟩, (by omega)⟩
       ·
        refine ak 96 ?_
        have hz := hb8
        refine ak 97 ?_
        refine aq 98 (q_pick_false false rfl rfl rfl rfl) ?_
        refine AOps.nil ?_
        refine AGo.cond_false false rfl rfl ?_
        have hk2 : s.s = true → ∀ t, x.ins[s.at_]? = some t → (!S2.2 && t.pure) = false := fun _ t' e => by
          rw [ht] at e; cases e
          first | (rw [show t.pure = false from hb8]; exact Bool.and_false _) | (rw [hz]; rfl)
        refine AGo.skip ?_
        refine AGo.region ?_
        refine aa 7 ?_
        refine AOps.nil ?_
        refine AGo.seq ?_
        refine AGo.region ?_
        refine af 106 tok ?_
        refine al 107 tok ?_
        refine AOps.nil ?_
        refine AGo.split 107 rfl (fun hb11 => ?_) (fun hb11 => ?_)
        ·
         refine AGo.cond_true true rfl rfl ?_
         have hr : s.r = true := hb11
         have hnx2 : sitesR inn v x i q (m + 1) = (S2.1, s.r || (!s.s && S2.2)) := by rw [sitesR_succ (by rw [← siB_eq hx]; exact hsk) (by rw [← siB_eq hx]; exact hkk), hS2]; exact siteR_keep hlf hk2
         refine AGo.region ?_
         refine aa 7 ?_
         refine AOps.nil ?_
         refine AGo.region ?_
         refine am 64 ?_
         refine aq 65 (q_bin (r := .int .i64 ((((siB f v i).length - (m + 1) : Nat) : Int) - 1)) rfl rfl rfl (rem_k hkk (by have := siB_len hx (v := v); have := hi x hxm; omega))) ?_
         refine aa 10 ?_
         refine AOps.nil ?_
         exact ⟨m + 1, DropK.mk' (by repeat (first | exact EDropK.new _ _ | refine EDropK.put ?_ (by first | rfl | exact congrArg (fun z => some (AV.bool z)) (by rw [hnx2]; first | done | rfl | (simp [hss, hr]; done) | simp [hss, hr])) (by first | rfl | exact oR_avoid (kf_hi' _) _ _ _ _))) (famDrop (k0 := 9) rfl (by repeat (first | exact trivial | refine ⟨⟨by first | rfl | exact putD_yes rfl | (rw [hnx2]; first | rfl | exact putD_yes rfl | ((try simp only [hputs]); repeat (first | rfl | exact hput_same _ _ _ | refine hput_skip (by exact beq_false_of_ne (by omega)) ?_ | refine hrm_skip (by omega) ?_ | refine (famW_out _ (fun i_ _ => by first | omega | (dsimp only; omega))).trans ?_))), by first | rfl | exact colF_avoid (fun _ _ => aR_avoid (kf_hi' _) _ _) | exact colF_avoid (fun _ _ => oR_avoid (kf_hi' _) _ _ _ _) | exact colF_avoid (fun _ _ => gR_avoid (kf_hi' _) _ _) | exact gb_avoid _⟩, ?_⟩)) (fun x_ => by rw [hnx2]; (try simp only [hputs]); (try dsimp only); first | exact (putD_hi _ _ x_).trans (fam_hi _ _ _) | exact fam_hi _ _ _ | ((repeat (first | refine hput_skip (by exact beq_false_of_ne (by omega)) ?_ | refine hrm_skip (by omega) ?_)); exact (putD_hi _ _ x_).trans (fam_hi _ _ _))) (DF_avoid (kf_hi' _) f R _ _)), ⟨by omega, by rw [hnx2]; exact hF.2⟩, (by omega)⟩
        ·
         refine AGo.cond_false false rfl rfl ?_
         have hr : s.r = false := hb11
         have hnx2 : sitesR inn v x i q (m + 1) = (S2.1, s.r || (!s.s && S2.2)) := by rw [sitesR_succ (by rw [← siB_eq hx]; exact hsk) (by rw [← siB_eq hx]; exact hkk), hS2]; exact siteR_keep hlf hk2
         refine AGo.skip ?_
         refine AGo.region ?_
         refine am 64 ?_
         refine aq 65 (q_bin (r := .int .i64 ((((siB f v i).length - (m + 1) : Nat) : Int) - 1)) rfl rfl rfl (rem_k hkk (by have := siB_len hx (v := v); have := hi x hxm; omega))) ?_
         refine aa 10 ?_
         refine AOps.nil ?_
         exact ⟨m + 1, DropK.mk' (by repeat (first | exact EDropK.new _ _ | refine EDropK.put ?_ (by first | rfl | exact congrArg (fun z => some (AV.bool z)) (by rw [hnx2]; first | done | rfl | (simp [hss, hr]; done) | simp [hss, hr])) (by first | rfl | exact oR_avoid (kf_hi' _) _ _ _ _))) (famDrop (k0 := 9) rfl (by repeat (first | exact trivial | refine ⟨⟨by first | rfl | exact putD_yes rfl | (rw [hnx2]; first | rfl | exact putD_yes rfl | ((try simp only [hputs]); repeat (first | rfl | exact hput_same _ _ _ | refine hput_skip (by exact beq_false_of_ne (by omega)) ?_ | refine hrm_skip (by omega) ?_ | refine (famW_out _ (fun i_ _ => by first | omega | (dsimp only; omega))).trans ?_))), by first | rfl | exact colF_avoid (fun _ _ => aR_avoid (kf_hi' _) _ _) | exact colF_avoid (fun _ _ => oR_avoid (kf_hi' _) _ _ _ _) | exact colF_avoid (fun _ _ => gR_avoid (kf_hi' _) _ _) | exact gb_avoid _⟩, ?_⟩)) (fun x_ => by rw [hnx2]; (try simp only [hputs]); (try dsimp only); first | exact (putD_hi _ _ x_).trans (fam_hi _ _ _) | exact fam_hi _ _ _ | ((repeat (first | refine hput_skip (by exact beq_false_of_ne (by omega)) ?_ | refine hrm_skip (by omega) ?_)); exact (putD_hi _ _ x_).trans (fam_hi _ _ _))) (DF_avoid (kf_hi' _) f R _ _)), ⟨by omega, by rw [hnx2]; exact hF.2⟩, (by omega)⟩
      ·
       refine AGo.cond_false false rfl rfl ?_
       have hss : s.s = false := hb7
       have hk2 : s.s = true → ∀ t, x.ins[s.at_]? = some t → (!S2.2 && t.pure) = false := fun e => by rw [hss] at e; cases e
       refine AGo.skip ?_
       refine AGo.seq ?_
       refine AGo.region ?_
       refine af 106 tok ?_
       refine al 107 tok ?_
       refine AOps.nil ?_
       refine AGo.split 107 rfl (fun hb12 => ?_) (fun hb12 => ?_)
       ·
        refine AGo.cond_true true rfl rfl ?_
        have hr : s.r = true := hb12
        have hnx2 : sitesR inn v x i q (m + 1) = (S2.1, s.r || (!s.s && S2.2)) := by rw [sitesR_succ (by rw [← siB_eq hx]; exact hsk) (by rw [← siB_eq hx]; exact hkk), hS2]; exact siteR_keep hlf hk2
        refine AGo.region ?_
        refine aa 7 ?_
        refine AOps.nil ?_
        refine AGo.region ?_
        refine am 64 ?_
        refine aq 65 (q_bin (r := .int .i64 ((((siB f v i).length - (m + 1) : Nat) : Int) - 1)) rfl rfl rfl (rem_k hkk (by have := siB_len hx (v := v); have := hi x hxm; omega))) ?_
        refine aa 10 ?_
        refine AOps.nil ?_
        exact ⟨m + 1, DropK.mk' (by repeat (first | exact EDropK.new _ _ | refine EDropK.put ?_ (by first | rfl | exact congrArg (fun z => some (AV.bool z)) (by rw [hnx2]; first | done | rfl | (simp [hss, hr]; done) | simp [hss, hr])) (by first | rfl | exact oR_avoid (kf_hi' _) _ _ _ _))) (famDrop (k0 := 9) rfl (by repeat (first | exact trivial | refine ⟨⟨by first | rfl | exact putD_yes rfl | (rw [hnx2]; first | rfl | exact putD_yes rfl | ((try simp only [hputs]); repeat (first | rfl | exact hput_same _ _ _ | refine hput_skip (by exact beq_false_of_ne (by omega)) ?_ | refine hrm_skip (by omega) ?_ | refine (famW_out _ (fun i_ _ => by first | omega | (dsimp only; omega))).trans ?_))), by first | rfl | exact colF_avoid (fun _ _ => aR_avoid (kf_hi' _) _ _) | exact colF_avoid (fun _ _ => oR_avoid (kf_hi' _) _ _ _ _) | exact colF_avoid (fun _ _ => gR_avoid (kf_hi' _) _ _) | exact gb_avoid _⟩, ?_⟩)) (fun x_ => by rw [hnx2]; (try simp only [hputs]); (try dsimp only); first | exact (putD_hi _ _ x_).trans (fam_hi _ _ _) | exact fam_hi _ _ _ | ((repeat (first | refine hput_skip (by exact beq_false_of_ne (by omega)) ?_ | refine hrm_skip (by omega) ?_)); exact (putD_hi _ _ x_).trans (fam_hi _ _ _))) (DF_avoid (kf_hi' _) f R _ _)), ⟨by omega, by rw [hnx2]; exact hF.2⟩, (by omega)⟩
       ·
        refine AGo.cond_false false rfl rfl ?_
        have hr : s.r = false := hb12
        have hnx2 : sitesR inn v x i q (m + 1) = (S2.1, s.r || (!s.s && S2.2)) := by rw [sitesR_succ (by rw [← siB_eq hx]; exact hsk) (by rw [← siB_eq hx]; exact hkk), hS2]; exact siteR_keep hlf hk2
        refine AGo.skip ?_
        refine AGo.region ?_
        refine am 64 ?_
        refine aq 65 (q_bin (r := .int .i64 ((((siB f v i).length - (m + 1) : Nat) : Int) - 1)) rfl rfl rfl (rem_k hkk (by have := siB_len hx (v := v); have := hi x hxm; omega))) ?_
        refine aa 10 ?_
        refine AOps.nil ?_
        exact ⟨m + 1, DropK.mk' (by repeat (first | exact EDropK.new _ _ | refine EDropK.put ?_ (by first | rfl | exact congrArg (fun z => some (AV.bool z)) (by rw [hnx2]; first | done | rfl | (simp [hss, hr]; done) | simp [hss, hr])) (by first | rfl | exact oR_avoid (kf_hi' _) _ _ _ _))) (famDrop (k0 := 9) rfl (by repeat (first | exact trivial | refine ⟨⟨by first | rfl | exact putD_yes rfl | (rw [hnx2]; first | rfl | exact putD_yes rfl | ((try simp only [hputs]); repeat (first | rfl | exact hput_same _ _ _ | refine hput_skip (by exact beq_false_of_ne (by omega)) ?_ | refine hrm_skip (by omega) ?_ | refine (famW_out _ (fun i_ _ => by first | omega | (dsimp only; omega))).trans ?_))), by first | rfl | exact colF_avoid (fun _ _ => aR_avoid (kf_hi' _) _ _) | exact colF_avoid (fun _ _ => oR_avoid (kf_hi' _) _ _ _ _) | exact colF_avoid (fun _ _ => gR_avoid (kf_hi' _) _ _) | exact gb_avoid _⟩, ?_⟩)) (fun x_ => by rw [hnx2]; (try simp only [hputs]); (try dsimp only); first | exact (putD_hi _ _ x_).trans (fam_hi _ _ _) | exact fam_hi _ _ _ | ((repeat (first | refine hput_skip (by exact beq_false_of_ne (by omega)) ?_ | refine hrm_skip (by omega) ?_)); exact (putD_hi _ _ x_).trans (fam_hi _ _ _))) (DF_avoid (kf_hi' _) f R _ _)), ⟨by omega, by rw [hnx2]; exact hF.2⟩, (by omega)⟩
    ·
     refine AGo.cond_false false rfl rfl ?_
     have hmge : (siB f v i).length ≤ m := by have h := hb5; simp at h; omega
     have hnx : regK f inn v st (k + 1) = S2.1 := by rw [← regK_next hgi hx hmge, hK, hS2]
     refine AGo.exit ?_
     refine AGo.region ?_
     refine aq 108 (q_inc rfl rfl hkl (by have := gsS_len (SB f) f.blocks.length v; have e : gsS (SB f) f.blocks.length v = gsB f v := rfl; rw [e] at this; simp only [maxLen]; omega)) ?_
     refine am 33 ?_
     refine AOps.nil ?_
     exact ⟨k + 1, DropK.mk' (by repeat (first | exact EDropK.new _ _ | refine EDropK.put ?_ (by first | rfl | exact congrArg (fun (n : Nat) => some (AV.int .i64 (n : Int))) (by simp)) (by first | rfl | exact oR_avoid (kf_hi' _) _ _ _ _))) (famDrop (k0 := 8) rfl (by repeat (first | exact trivial | refine ⟨⟨by first | rfl | exact putD_yes rfl | (rw [hnx]; first | rfl | exact putD_yes rfl), by first | rfl | exact colF_avoid (fun _ _ => aR_avoid (kf_hi' _) _ _) | exact colF_avoid (fun _ _ => oR_avoid (kf_hi' _) _ _ _ _) | exact colF_avoid (fun _ _ => gR_avoid (kf_hi' _) _ _) | exact gb_avoid _⟩, ?_⟩)) (fun x_ => by rw [hnx]; (try simp only [hputs]); (try dsimp only); first | exact fam_hi _ _ _ | exact (putD_hi _ _ x_).trans (fam_hi _ _ _)) (DF_avoid (kf_hi' _) f R _ _)), ⟨hkl, by rw [hnx]; exact hF.2⟩, (by omega)⟩
  ·
   refine AGo.cond_false false rfl rfl ?_
   have hkge : (gsB f v).length ≤ k := by have h := hb2; rw [grs_len] at h; simp only [decide_eq_false_iff_not] at h; exact Nat.le_of_not_lt fun e => h (Int.ofNat_lt.2 e)
   refine AGo.exit ?_
   have hkk0 : k = (gsB f v).length := by omega
   have hreg : regR f v st = q := by rw [← hK, hkk0, hinn]; rfl
   rw [hreg]
   exact ⟨[], trivial, rfl, (dh_sub rfl (by repeat (first | exact trivial | refine ⟨by rfl, ?_⟩)) (fun x_ => by (try simp only [hputs]); (try dsimp only); first | exact fam_hi _ _ _ | exact (putD_hi _ _ x_).trans (fam_hi _ _ _) | ((repeat (first | refine hput_skip (by exact beq_false_of_ne (by omega)) ?_ | refine hrm_skip (by omega) ?_)); exact fam_hi _ _ _)))⟩

end Go.Proofs.Ytjmjmedjjbginaa.Sv

namespace Go.Proofs.Ytjmjmedjjbginaa.Sv
open Go

set_option maxHeartbeats 2000000 in
set_option maxRecDepth 100000 in
theorem dnote_ok (n R : Nat) (S : SS) (v i p : Nat) (hv : v < R) (hi0 : i < n) (hlast : ∀ j, i < j → S j v = []) (hlen : (S i v).length ≤ 1000000) (hn : n ≤ 100000) (c0 c1 c2 c3 c5 c6 c7 : AV) (r3 r5 r6 r7 : AObj) (r0 r1 : Nat → AObj) : ACall Try.prog 44 [.ptr 2 1 0 0, .int .i64 (v : Int), .int .i64 (i : Int), .int .i64 (p : Int)] (DH [(.row false 8 [[c0, c1, c2, c3, .ref 4 R 0 R, c5, c6, c7]]), r3, (.row false 1 (colF (oR n R S) R)), r5, r6, r7] (F4 r0 r1 (rO4 n R S) (rS4 R S))) (fun r h' => r = .ptr (4 * (v + R * i) + 3 + 16) (noteL (S i v) p).length ((noteL (S i v) p).length - 1) 0 ∧ HSub (putD hNone (DH [(.row false 8 [[c0, c1, c2, c3, .ref 4 R 0 R, c5, c6, c7]]), r3, (.row false 1 (colF (oR n R (setS S i v (noteL (S i v) p))) R)), r5, r6, r7] (F4 r0 r1 (rO4 n R (setS S i v (noteL (S i v) p))) (rS4 R (setS S i v (noteL (S i v) p)))))) h') := by
 have hpl := pastS_len S i v
 have hgl := gsS_len S n v
 refine ACall.of_body (n := 94) tok Try.func44 rfl rfl ?_
 refine AGo.seq ?_
 refine AGo.region ?_
 refine aa 8 ?_
 refine AOps.nil ?_
 refine AGo.seq ?_
 refine AGo.region ?_
 refine am 11 ?_
 refine aq 12 (q_nilCheck rfl rfl rfl) ?_
 refine af 13 tok ?_
 refine al 14 tok ?_
 refine am 15 ?_
 refine aq 16 (q_index_ref tok rfl rfl rfl rfl rfl rfl rfl (colF_len _ _).symm rfl (Int.natCast_nonneg _) (by omega)) ?_
 refine aq 17 (q_load tok rfl rfl rfl (.ptr _ _ _ _ _ _ _ [oR n R S v] rfl (colF_len _ _).symm (by rw [Nat.zero_add, Int.toNat_natCast]; exact colF_get hv)) rfl) ?_
 refine aa 9 ?_
 refine AOps.nil ?_
 refine AGo.seq ?_
 refine AGo.seq ?_
 refine AGo.region ?_
 refine am 18 ?_
 refine aq 19 (q_lenJ tok rfl rfl rfl rfl) ?_
 refine aq 20 (q_bin rfl rfl rfl rfl) ?_
 refine am 21 ?_
 refine AOps.split 21 rfl (fun hb1 => ?_) (fun hb1 => ?_)
 ·
  refine ak 22 ?_
  refine ak 23 ?_
  refine ak 24 ?_
  refine ak 25 ?_
  refine ak 26 ?_
  refine ak 27 ?_
  refine ak 28 ?_
  refine ak 29 ?_
  refine ak 30 ?_
  refine aq 31 (q_pick_true true rfl rfl rfl rfl) ?_
  refine AOps.nil ?_
  refine AGo.join (γ := Unit) (fun _u => ⟨94, (eput (eput (eput (eput (eput eNew 0 (.ptr 2 1 0 0)) 1 (.int .i64 (v : Int))) 2 (.int .i64 (i : Int))) 3 (.int .i64 (p : Int))) 9 (.ref (4 * v + 2 + 16) ((pastS S i v).length + 1) 0 ((pastS S i v).length + 1))), (DH [(.row false 8 [[c0, c1, c2, c3, .ref 4 R 0 R, c5, c6, c7]]), r3, (.row false 1 (colF (oX n R S v i) R)), r5, r6, r7] (F4 r0 r1 (rOX n R S v i (S i v)) (rS4 R S)))⟩) (fun _u => True) ?_ ?_
  ·
   refine AGo.cond_true true rfl rfl ?_
   have hS0 : S i v = [] := by
     first
     | exact note_new2 hi0 hlast hj0 (by omega) (by have h := hb1; simp at h; omega)
     | exact note_new1 hi0 hlast (eq0_zero hb1)
   have hoR : oR n R S v = slA (4 * v + 2 + 16) (pastC R S v i) := by unfold oR; rw [grs_not hi0 hlast hS0]
   rw [hoR]
   refine AGo.seq ?_
   refine AGo.region ?_
   refine am 32 ?_
   refine am 33 ?_
   refine aq 34 (q_build tok rfl rfl rfl rfl rfl (by decide) rfl rfl rfl) ?_
   refine ax 35 (o_lit' tok rfl rfl rfl rfl rfl rfl (by decide) rfl rfl rfl rfl rfl rfl) ?_
   refine ax 36 (o_append1S tok (b := (4 * v + 2 + 16)) (es := pastC R S v i) (x0 := [.int .i64 (i : Int), .nil]) rfl rfl rfl rfl rfl rfl rfl rfl ((fam_hi _ _ _).trans (congrArg some ((rO4_at hv).trans (by rw [grs_not hi0 hlast hS0])))) rfl rfl (Nat.zero_lt_succ _) (.lst _ _) rfl (by rw [pastC_len]; show _ * 32 ≤ _; omega) (by rw [pastC_len]; simp only [maxLen]; omega)) ?_
   refine aa 9 ?_
   refine AOps.nil ?_
   refine AGo.ghost (Ghost.weakRowF (4 * v + 2 + 16) (es' := pastC R S v i ++ [[.int .i64 (i : Int), slA (4 * (v + R * i) + 3 + 16) []]]) (by (try simp only [hputs]); repeat (first | rfl | exact hput_same _ _ _ | refine hput_skip (by exact beq_false_of_ne (by omega)) ?_ | refine hrm_skip (by omega) ?_ | refine (famW_out _ (fun i_ _ => by first | omega | (dsimp only; omega))).trans ?_)) (by simp) (weak_snoc (show WkAll [AV.int .i64 (i : Int), .nil] _ from ⟨Wk.refl _, Wk.nil _, trivial⟩))) ?_
   refine AGo.region ?_
   refine am 37 ?_
   refine aq 38 (q_nilCheck rfl rfl rfl) ?_
   refine af 39 tok ?_
   refine al 40 tok ?_
   refine am 41 ?_
   refine am 42 ?_
   refine aq 43 (q_index_ref tok rfl rfl rfl rfl rfl rfl rfl (colF_len _ _).symm rfl (Int.natCast_nonneg _) (by omega)) ?_
   refine AOps.w rfl rfl (o_store1 tok (p := false) (sz := 1) (es := colF (oR n R S) R) (cs := [oR n R S v]) rfl rfl rfl rfl rfl rfl (by (try simp only [hputs]); repeat (first | rfl | exact hput_same _ _ _ | refine hput_skip (by exact beq_false_of_ne (by omega)) ?_ | refine hrm_skip (by omega) ?_ | refine (famW_out _ (fun i_ _ => by first | omega | (dsimp only; omega))).trans ?_)) (colF_len _ _).symm (by rw [Nat.zero_add, Int.toNat_natCast]; exact colF_get hv) (slA_cells _ _) (by decide) (slA_cell1 _ _) (by intro h; cases h)) ?_
   refine AOps.nil ?_
   exact ⟨(), Sub.mk' (by repeat (first | exact ESub.new _ | refine ESub.put ?_ (by first | rfl | exact congrArg some (oR_has hi0 hlast hS1) | (rw [slA_snoc, pastC_len]; rfl)))) (dh_full rfl rfl rfl (by repeat (first | exact trivial | refine ⟨by first | rfl | exact congrArg (fun es => some (AObj.row false 1 es)) (oX_put (pastC_len _ _ _ _)), ?_⟩)) (fun x_ => by (try simp only [hputs]); (repeat (first | refine hput_skip (by exact beq_false_of_ne (by omega)) ?_ | refine hrm_skip (by omega) ?_)); rw [hput_twice]; exact (hput_hi (fun y_ => fam_hi _ _ _) _ _ x_).trans (congrArg some (rOX_new hS0 x_).symm)) (fun c h1 h2 => by rcases (by omega : c = 8 ∨ c = 9 ∨ c = 10 ∨ c = 11 ∨ c = 12 ∨ c = 13 ∨ c = 14 ∨ c = 15) with rfl | rfl | rfl | rfl | rfl | rfl | rfl | rfl <;> first | rfl | (try simp only [hputs]; repeat (first | rfl | refine hput_skip (by exact beq_false_of_ne (by omega)) ?_ | refine hrm_skip (by omega) ?_)))), trivial⟩
  intro _ _
  refine AGo.seq ?_
  refine AGo.region ?_
  refine am 44 ?_
  refine am 45 ?_
  refine aq 46 (q_len tok rfl rfl rfl rfl rfl) ?_
  refine aq 47 (q_bin (r := .int .i64 (((pastS S i v).length : Nat) : Int)) rfl rfl rfl (sub_1 (L := (pastS S i v).length + 1) (Nat.succ_pos _) (by omega))) ?_
  refine aq 48 (q_index_ref tok rfl rfl rfl rfl rfl rfl ((fam_hi _ _ _).trans (congrArg some (rOX_at))) (by rw [List.length_append, pastC_len]; rfl) rfl (Int.natCast_nonneg _) (by omega)) ?_
  refine aa 10 ?_
  refine AOps.nil ?_
  refine AGo.seq ?_
  refine AGo.seq ?_
  refine AGo.draw mix ?_
  refine dm 49 ?_
  refine dq 50 (q_nilCheck rfl rfl rfl) ?_
  refine df 51 tok ?_
  refine dq 52 (q_load tok rfl rfl rfl (.ptr _ _ _ _ false 2 (pastC R S v i ++ [grX R v i (S i v)]) (grX R v i (S i v)) ((fam_hi _ _ _).trans (congrArg some (rOX_at))) (by rw [List.length_append, pastC_len]; rfl) (by rw [Nat.zero_add, Int.toNat_natCast]; exact past_get)) rfl) ?_
  refine dq 53 (q_lenJ tok rfl rfl rfl rfl) ?_
  refine dq 54 (q_bin rfl rfl rfl rfl) ?_
  refine dm 55 ?_
  refine DOps.split 55 rfl (fun hb2 => ?_) (fun hb2 => ?_)
  ·
   refine dk 56 ?_
   refine dk 57 ?_
   refine dk 58 ?_
   refine dk 59 ?_
   refine dk 60 ?_
   refine dk 61 ?_
   refine dk 62 ?_
   refine dk 63 ?_
   refine dk 64 ?_
   refine dk 65 ?_
   refine dk 66 ?_
   refine dk 67 ?_
   refine dk 68 ?_
   refine dk 69 ?_
   refine dk 70 ?_
   refine dq 71 (q_pick_true true rfl rfl rfl rfl) ?_
   refine DOps.nil (by kernel_rfl) ?_
   refine AGo.join (γ := Unit) (fun _u => ⟨94, (eput eNew 10 (.ptr (4 * v + 2 + 16) ((pastS S i v).length + 1) (0 + (((pastS S i v).length : Nat) : Int).toNat) 0)), (DH [(.row false 8 [[c0, c1, c2, c3, .ref 4 R 0 R, c5, c6, c7]]), r3, (.row false 1 (colF (oX n R S v i) R)), r5, r6, r7] (F4 r0 r1 (rOX n R S v i (noteL (S i v) p)) (rSX R S v i (noteL (S i v) p))))⟩) (fun _u => True) ?_ ?_
   ·
    refine AGo.cond_true true rfl rfl ?_
    have hnl : noteL (S i v) p = S i v ++ [⟨p, false, false⟩] := by
      first
      | exact noteL_new hs0 (by omega) (by have h := hb2; simp at h; omega)
      | (have h0 : (S i v).length = 0 := (by have h := hb2; first | exact eq0_zero h | (rw [List.length_map] at h; exact eq0_zero h)); rw [len_nil h0]; rfl)
    refine AGo.region ?_
    refine am 72 ?_
    refine am 73 ?_
    refine aq 74 (q_nilCheck rfl rfl rfl) ?_
    refine af 75 tok ?_
    refine aq 76 (q_load tok rfl rfl rfl (.ptr _ _ _ _ false 2 (pastC R S v i ++ [grX R v i (S i v)]) (grX R v i (S i v)) ((fam_hi _ _ _).trans (congrArg some (rOX_at))) (by rw [List.length_append, pastC_len]; rfl) (by rw [Nat.zero_add, Int.toNat_natCast]; exact past_get)) rfl) ?_
    refine am 77 ?_
    refine aq 78 (q_build tok rfl rfl rfl rfl rfl (by decide) rfl rfl rfl) ?_
    refine ax 79 (o_lit' tok rfl rfl rfl rfl rfl rfl (by decide) rfl rfl rfl rfl rfl rfl) ?_
    refine ax 80 (o_append1J tok (b := (4 * (v + R * i) + 3 + 16)) (es := (S i v).map siC) rfl rfl rfl rfl rfl rfl rfl rfl ((fam_hi _ _ _).trans (congrArg some (rS4_F hv))) rfl rfl (Nat.zero_lt_succ _) (si_len _) (one_pure fun _ => rfl) rfl rfl (by rw [List.length_map]; show (_ + 1) * 16 ≤ _; omega) (by rw [List.length_map]; simp only [maxLen]; omega)) ?_
    refine aq 81 (q_nilCheck rfl rfl rfl) ?_
    refine af 82 tok ?_
    refine AOps.w rfl rfl (o_store1 tok (p := false) (sz := 2) (es := (pastC R S v i ++ [grX R v i (S i v)])) (cs := grX R v i (S i v)) rfl rfl rfl rfl rfl rfl (by (try simp only [hputs]); (try dsimp only); (repeat (first | refine hput_skip (by exact beq_false_of_ne (by omega)) ?_ | refine hrm_skip (by omega) ?_)); exact (fam_hi _ _ _).trans (congrArg some (rOX_at))) (by rw [List.length_append, pastC_len]; rfl) (by rw [Nat.zero_add, Int.toNat_natCast]; exact past_get) (slA_cells _ _) (by decide) (slA_cell1 _ _) (by intro h; cases h)) ?_
    refine AOps.nil ?_
    exact ⟨(), Sub.mk' (by repeat (first | exact ESub.new _ | refine ESub.put ?_ (by rfl))) (dh_full rfl rfl rfl (by repeat (first | exact trivial | refine ⟨by rfl, ?_⟩)) (fun x_ => by (try simp only [hputs]); rw [hnl]; refine (hput_hi (F := F4 r0 r1 (rOX n R S v i (S i v)) (rSX R S v i (S i v ++ [⟨p, false, false⟩]))) (fun y_ => ?_) _ _ x_).trans (congrArg some ?_); exact (hput_hi (F := F4 r0 r1 (rOX n R S v i (S i v)) (rS4 R S)) (fun z_ => fam_hi _ _ _) _ _ y_).trans (congrArg some (rSX_step (l := S i v) (s := ⟨p, false, false⟩) y_).symm); exact (rOX_step (l := S i v) (grX_snoc (s := ⟨p, false, false⟩)) x_).symm) (fun c h1 h2 => by rcases (by omega : c = 8 ∨ c = 9 ∨ c = 10 ∨ c = 11 ∨ c = 12 ∨ c = 13 ∨ c = 14 ∨ c = 15) with rfl | rfl | rfl | rfl | rfl | rfl | rfl | rfl <;> first | rfl | (try simp only [hputs]; repeat (first | rfl | refine hput_skip (by exact beq_false_of_ne (by omega)) ?_ | refine hrm_skip (by omega) ?_)))), trivial⟩
   intro _ _
   refine AGo.seq ?_
   refine AGo.draw mix ?_
   refine dm 83 ?_
   refine dq 84 (q_nilCheck rfl rfl rfl) ?_
   refine df 85 tok ?_
   refine dq 86 (q_load tok rfl rfl rfl (.ptr _ _ _ _ false 2 (pastC R S v i ++ [grX R v i (noteL (S i v) p)]) (grX R v i (noteL (S i v) p)) ((fam_hi _ _ _).trans (congrArg some (rOX_at))) (by rw [List.length_append, pastC_len]; rfl) (by rw [Nat.zero_add, Int.toNat_natCast]; exact past_get)) rfl) ?_
   refine dm 87 ?_
   refine dq 88 (q_nilCheck rfl rfl rfl) ?_
   refine df 89 tok ?_
   refine dq 90 (q_load tok rfl rfl rfl (.ptr _ _ _ _ false 2 (pastC R S v i ++ [grX R v i (noteL (S i v) p)]) (grX R v i (noteL (S i v) p)) ((fam_hi _ _ _).trans (congrArg some (rOX_at))) (by rw [List.length_append, pastC_len]; rfl) (by rw [Nat.zero_add, Int.toNat_natCast]; exact past_get)) rfl) ?_
   refine dq 91 (q_lenJ tok rfl rfl rfl rfl) ?_
   refine dq 92 (q_bin (r := .int .i64 (((noteL (S i v) p).length - 1 : Nat) : Int)) rfl rfl rfl (by rw [List.length_map]; exact sub_1 (noteL_pos _ _) (by have := noteL_len (S i v) p; omega))) ?_
   refine dq 93 (q_indexJ tok (b := (4 * (v + R * i) + 3 + 16)) (es := (noteL (S i v) p).map siC) rfl rfl rfl rfl rfl rfl ((fam_hi _ _ _).trans (congrArg some (rSX_at))) rfl (Int.natCast_nonneg _) (by rw [List.length_map]; have := noteL_pos (S i v) p; omega)) ?_
   refine da 8 ?_
   refine DOps.nil (by kernel_rfl) ?_
   refine AGo.ret ?_
   refine ⟨[_], ⟨rfl, trivial⟩, ?_, ?_⟩
   · show AV.ptr _ _ _ _ = AV.ptr _ _ _ _
     rw [List.length_map, Int.toNat_natCast]
   · rw [← oX_eq hi0 hlast (noteL_pos _ _), ← rOX_eq hv hi0 hlast (noteL_pos _ _), ← rSX_eq hv]
     exact dh_sub rfl (by repeat (first | exact trivial | refine ⟨by rfl, ?_⟩)) (fun x_ => by dsimp only; exact fam_hi _ _ _)
  ·
   have hs1 : 0 < (S i v).length := by have h := hb2; rw [List.length_map] at h; exact eq0_pos h
   obtain ⟨s0, hs0⟩ := get_of_lt (l := S i v) (k := (S i v).length - 1) (by omega)
   refine dm 56 ?_
   refine dq 57 (q_nilCheck rfl rfl rfl) ?_
   refine df 58 tok ?_
   refine dq 59 (q_load tok rfl rfl rfl (.ptr _ _ _ _ false 2 (pastC R S v i ++ [grX R v i (S i v)]) (grX R v i (S i v)) ((fam_hi _ _ _).trans (congrArg some (rOX_at))) (by rw [List.length_append, pastC_len]; rfl) (by rw [Nat.zero_add, Int.toNat_natCast]; exact past_get)) rfl) ?_
   refine dm 60 ?_
   refine dq 61 (q_nilCheck rfl rfl rfl) ?_
   refine df 62 tok ?_
   refine dq 63 (q_load tok rfl rfl rfl (.ptr _ _ _ _ false 2 (pastC R S v i ++ [grX R v i (S i v)]) (grX R v i (S i v)) ((fam_hi _ _ _).trans (congrArg some (rOX_at))) (by rw [List.length_append, pastC_len]; rfl) (by rw [Nat.zero_add, Int.toNat_natCast]; exact past_get)) rfl) ?_
   refine dq 64 (q_lenJ tok rfl rfl rfl rfl) ?_
   refine dq 65 (q_bin (r := .int .i64 (((S i v).length - 1 : Nat) : Int)) rfl rfl rfl (by rw [List.length_map]; exact sub_1 hs1 (by omega))) ?_
   refine dq 66 (q_indexJ tok (b := (4 * (v + R * i) + 3 + 16)) (es := (S i v).map siC) rfl rfl rfl rfl rfl rfl ((fam_hi _ _ _).trans (congrArg some (rS4_F hv))) rfl (Int.natCast_nonneg _) (by rw [List.length_map]; omega)) ?_
   refine df 67 tok ?_
   refine dq 68 (q_load tok rfl rfl rfl (.ptr _ _ _ _ true 3 ((S i v).map siC) (siC s0) ((fam_hi _ _ _).trans (congrArg some ((rS4_F hv).trans (row_slO hs1)))) rfl (by rw [Int.toNat_natCast, List.getElem?_map, hs0]; rfl)) rfl) ?_
   refine dm 69 ?_
   refine dq 70 (q_bin rfl rfl rfl rfl) ?_
   refine dq 71 (q_pick_false false rfl rfl rfl rfl) ?_
   refine DOps.nil (by kernel_rfl) ?_
   refine AGo.join (γ := Unit) (fun _u => ⟨94, (eput eNew 10 (.ptr (4 * v + 2 + 16) ((pastS S i v).length + 1) (0 + (((pastS S i v).length : Nat) : Int).toNat) 0)), (DH [(.row false 8 [[c0, c1, c2, c3, .ref 4 R 0 R, c5, c6, c7]]), r3, (.row false 1 (colF (oX n R S v i) R)), r5, r6, r7] (F4 r0 r1 (rOX n R S v i (noteL (S i v) p)) (rSX R S v i (noteL (S i v) p))))⟩) (fun _u => True) ?_ ?_
   ·
    refine AGo.split 71 rfl (fun hb3 => ?_) (fun hb3 => ?_)
    ·
     refine AGo.cond_true true rfl rfl ?_
     have hnl : noteL (S i v) p = S i v ++ [⟨p, false, false⟩] := by
       first
       | exact noteL_new hs0 (by omega) (by have h := hb3; simp at h; omega)
       | (have h0 : (S i v).length = 0 := (by have h := hb3; first | exact eq0_zero h | (rw [List.length_map] at h; exact eq0_zero h)); rw [len_nil h0]; rfl)
     refine AGo.region ?_
     refine am 72 ?_
     refine am 73 ?_
     refine aq 74 (q_nilCheck rfl rfl rfl) ?_
     refine af 75 tok ?_
     refine aq 76 (q_load tok rfl rfl rfl (.ptr _ _ _ _ false 2 (pastC R S v i ++ [grX R v i (S i v)]) (grX R v i (S i v)) ((fam_hi _ _ _).trans (congrArg some (rOX_at))) (by rw [List.length_append, pastC_len]; rfl) (by rw [Nat.zero_add, Int.toNat_natCast]; exact past_get)) rfl) ?_
     refine am 77 ?_
     refine aq 78 (q_build tok rfl rfl rfl rfl rfl (by decide) rfl rfl rfl) ?_
     refine ax 79 (o_lit' tok rfl rfl rfl rfl rfl rfl (by decide) rfl rfl rfl rfl rfl rfl) ?_
     refine ax 80 (o_append1J tok (b := (4 * (v + R * i) + 3 + 16)) (es := (S i v).map siC) rfl rfl rfl rfl rfl rfl rfl rfl ((fam_hi _ _ _).trans (congrArg some (rS4_F hv))) rfl rfl (Nat.zero_lt_succ _) (si_len _) (one_pure fun _ => rfl) rfl rfl (by rw [List.length_map]; show (_ + 1) * 16 ≤ _; omega) (by rw [List.length_map]; simp only [maxLen]; omega)) ?_
     refine aq 81 (q_nilCheck rfl rfl rfl) ?_
     refine af 82 tok ?_
     refine AOps.w rfl rfl (o_store1 tok (p := false) (sz := 2) (es := (pastC R S v i ++ [grX R v i (S i v)])) (cs := grX R v i (S i v)) rfl rfl rfl rfl rfl rfl (by (try simp only [hputs]); (try dsimp only); (repeat (first | refine hput_skip (by exact beq_false_of_ne (by omega)) ?_ | refine hrm_skip (by omega) ?_)); exact (fam_hi _ _ _).trans (congrArg some (rOX_at))) (by rw [List.length_append, pastC_len]; rfl) (by rw [Nat.zero_add, Int.toNat_natCast]; exact past_get) (slA_cells _ _) (by decide) (slA_cell1 _ _) (by intro h; cases h)) ?_
     refine AOps.nil ?_
     exact ⟨(), Sub.mk' (by repeat (first | exact ESub.new _ | refine ESub.put ?_ (by rfl))) (dh_full rfl rfl rfl (by repeat (first | exact trivial | refine ⟨by rfl, ?_⟩)) (fun x_ => by (try simp only [hputs]); rw [hnl]; refine (hput_hi (F := F4 r0 r1 (rOX n R S v i (S i v)) (rSX R S v i (S i v ++ [⟨p, false, false⟩]))) (fun y_ => ?_) _ _ x_).trans (congrArg some ?_); exact (hput_hi (F := F4 r0 r1 (rOX n R S v i (S i v)) (rS4 R S)) (fun z_ => fam_hi _ _ _) _ _ y_).trans (congrArg some (rSX_step (l := S i v) (s := ⟨p, false, false⟩) y_).symm); exact (rOX_step (l := S i v) (grX_snoc (s := ⟨p, false, false⟩)) x_).symm) (fun c h1 h2 => by rcases (by omega : c = 8 ∨ c = 9 ∨ c = 10 ∨ c = 11 ∨ c = 12 ∨ c = 13 ∨ c = 14 ∨ c = 15) with rfl | rfl | rfl | rfl | rfl | rfl | rfl | rfl <;> first | rfl | (try simp only [hputs]; repeat (first | rfl | refine hput_skip (by exact beq_false_of_ne (by omega)) ?_ | refine hrm_skip (by omega) ?_)))), trivial⟩
    ·
     refine AGo.cond_false false rfl rfl ?_
     have hnl : noteL (S i v) p = S i v := noteL_old hs0 (by omega) (by have h := hb3; simp at h; omega)
     refine AGo.skip ?_
     exact ⟨(), Sub.mk' (by repeat (first | exact ESub.new _ | refine ESub.put ?_ (by rfl))) (dh_full rfl rfl rfl (by repeat (first | exact trivial | refine ⟨by rfl, ?_⟩)) (fun x_ => (fam_hi _ _ _).trans (congrArg some (by rw [hnl, rSX_self hv]))) (fun c h1 h2 => by rcases (by omega : c = 8 ∨ c = 9 ∨ c = 10 ∨ c = 11 ∨ c = 12 ∨ c = 13 ∨ c = 14 ∨ c = 15) with rfl | rfl | rfl | rfl | rfl | rfl | rfl | rfl <;> first | rfl | (try simp only [hputs]; repeat (first | rfl | refine hput_skip (by exact beq_false_of_ne (by omega)) ?_ | refine hrm_skip (by omega) ?_)))), trivial⟩
   intro _ _
   refine AGo.seq ?_
   refine AGo.draw mix ?_
   refine dm 83 ?_
   refine dq 84 (q_nilCheck rfl rfl rfl) ?_
   refine df 85 tok ?_
   refine dq 86 (q_load tok rfl rfl rfl (.ptr _ _ _ _ false 2 (pastC R S v i ++ [grX R v i (noteL (S i v) p)]) (grX R v i (noteL (S i v) p)) ((fam_hi _ _ _).trans (congrArg some (rOX_at))) (by rw [List.length_append, pastC_len]; rfl) (by rw [Nat.zero_add, Int.toNat_natCast]; exact past_get)) rfl) ?_
   refine dm 87 ?_
   refine dq 88 (q_nilCheck rfl rfl rfl) ?_
   refine df 89 tok ?_
   refine dq 90 (q_load tok rfl rfl rfl (.ptr _ _ _ _ false 2 (pastC R S v i ++ [grX R v i (noteL (S i v) p)]) (grX R v i (noteL (S i v) p)) ((fam_hi _ _ _).trans (congrArg some (rOX_at))) (by rw [List.length_append, pastC_len]; rfl) (by rw [Nat.zero_add, Int.toNat_natCast]; exact past_get)) rfl) ?_
   refine dq 91 (q_lenJ tok rfl rfl rfl rfl) ?_
   refine dq 92 (q_bin (r := .int .i64 (((noteL (S i v) p).length - 1 : Nat) : Int)) rfl rfl rfl (by rw [List.length_map]; exact sub_1 (noteL_pos _ _) (by have := noteL_len (S i v) p; omega))) ?_
   refine dq 93 (q_indexJ tok (b := (4 * (v + R * i) + 3 + 16)) (es := (noteL (S i v) p).map siC) rfl rfl rfl rfl rfl rfl ((fam_hi _ _ _).trans (congrArg some (rSX_at))) rfl (Int.natCast_nonneg _) (by rw [List.length_map]; have := noteL_pos (S i v) p; omega)) ?_
   refine da 8 ?_
   refine DOps.nil (by kernel_rfl) ?_
   refine AGo.ret ?_
   refine ⟨[_], ⟨rfl, trivial⟩, ?_, ?_⟩
   · show AV.ptr _ _ _ _ = AV.ptr _ _ _ _
     rw [List.length_map, Int.toNat_natCast]
   · rw [← oX_eq hi0 hlast (noteL_pos _ _), ← rOX_eq hv hi0 hlast (noteL_pos _ _), ← rSX_eq hv]
     exact dh_sub rfl (by repeat (first | exact trivial | refine ⟨by rfl, ?_⟩)) (fun x_ => by dsimp only; exact fam_hi _ _ _)
 ·
  have hg0 : 0 < (gsS S n v).length := by have h := hb1; rw [grs_len] at h; exact eq0_pos h
  obtain ⟨j0, hj0⟩ := get_of_lt (l := gsS S n v) (k := (gsS S n v).length - 1) (by omega)
  refine am 22 ?_
  refine am 23 ?_
  refine aq 24 (q_lenJ tok rfl rfl rfl rfl) ?_
  refine aq 25 (q_bin (r := .int .i64 (((gsS S n v).length - 1 : Nat) : Int)) rfl rfl rfl (by rw [grs_len]; exact sub_1 hg0 (by omega))) ?_
  refine aq 26 (q_indexP tok rfl rfl rfl rfl rfl rfl ((fam_hi _ _ _).trans (congrArg some (rO4_at hv))) rfl (Int.natCast_nonneg _) (by rw [grs_len]; omega)) ?_
  refine af 27 tok ?_
  refine aq 28 (q_load tok rfl rfl rfl (.ptr _ _ _ _ false 2 (grs n R S v) (grC R S v j0) ((fam_hi _ _ _).trans (congrArg some ((rO4_at hv).trans (slP_at (k := (gsS S n v).length - 1) (by rw [grs_len]; omega))))) rfl (by rw [Int.toNat_natCast]; show ((gsS S n v).map (grC R S v))[_]? = _; rw [List.getElem?_map, hj0]; rfl)) rfl) ?_
  refine am 29 ?_
  refine aq 30 (q_bin rfl rfl rfl rfl) ?_
  refine aq 31 (q_pick_false false rfl rfl rfl rfl) ?_
  refine AOps.nil ?_
  refine AGo.join (γ := Unit) (fun _u => ⟨94, (eput (eput (eput (eput (eput eNew 0 (.ptr 2 1 0 0)) 1 (.int .i64 (v : Int))) 2 (.int .i64 (i : Int))) 3 (.int .i64 (p : Int))) 9 (.ref (4 * v + 2 + 16) ((pastS S i v).length + 1) 0 ((pastS S i v).length + 1))), (DH [(.row false 8 [[c0, c1, c2, c3, .ref 4 R 0 R, c5, c6, c7]]), r3, (.row false 1 (colF (oX n R S v i) R)), r5, r6, r7] (F4 r0 r1 (rOX n R S v i (S i v)) (rS4 R S)))⟩) (fun _u => True) ?_ ?_
  ·
   refine AGo.split 31 rfl (fun hb4 => ?_) (fun hb4 => ?_)
   ·
    refine AGo.cond_true true rfl rfl ?_
    have hS0 : S i v = [] := by
      first
      | exact note_new2 hi0 hlast hj0 (by omega) (by have h := hb4; simp at h; omega)
      | exact note_new1 hi0 hlast (eq0_zero hb4)
    have hoR : oR n R S v = slA (4 * v + 2 + 16) (pastC R S v i) := by unfold oR; rw [grs_not hi0 hlast hS0]
    rw [hoR]
    refine AGo.seq ?_
    refine AGo.region ?_
    refine am 32 ?_
    refine am 33 ?_
    refine aq 34 (q_build tok rfl rfl rfl rfl rfl (by decide) rfl rfl rfl) ?_
    refine ax 35 (o_lit' tok rfl rfl rfl rfl rfl rfl (by decide) rfl rfl rfl rfl rfl rfl) ?_
    refine ax 36 (o_append1S tok (b := (4 * v + 2 + 16)) (es := pastC R S v i) (x0 := [.int .i64 (i : Int), .nil]) rfl rfl rfl rfl rfl rfl rfl rfl ((fam_hi _ _ _).trans (congrArg some ((rO4_at hv).trans (by rw [grs_not hi0 hlast hS0])))) rfl rfl (Nat.zero_lt_succ _) (.lst _ _) rfl (by rw [pastC_len]; show _ * 32 ≤ _; omega) (by rw [pastC_len]; simp only [maxLen]; omega)) ?_
    refine aa 9 ?_
    refine AOps.nil ?_
    refine AGo.ghost (Ghost.weakRowF (4 * v + 2 + 16) (es' := pastC R S v i ++ [[.int .i64 (i : Int), slA (4 * (v + R * i) + 3 + 16) []]]) (by (try simp only [hputs]); repeat (first | rfl | exact hput_same _ _ _ | refine hput_skip (by exact beq_false_of_ne (by omega)) ?_ | refine hrm_skip (by omega) ?_ | refine (famW_out _ (fun i_ _ => by first | omega | (dsimp only; omega))).trans ?_)) (by simp) (weak_snoc (show WkAll [AV.int .i64 (i : Int), .nil] _ from ⟨Wk.refl _, Wk.nil _, trivial⟩))) ?_
    refine AGo.region ?_
    refine am 37 ?_
    refine aq 38 (q_nilCheck rfl rfl rfl) ?_
    refine af 39 tok ?_
    refine al 40 tok ?_
    refine am 41 ?_
    refine am 42 ?_
    refine aq 43 (q_index_ref tok rfl rfl rfl rfl rfl rfl rfl (colF_len _ _).symm rfl (Int.natCast_nonneg _) (by omega)) ?_
    refine AOps.w rfl rfl (o_store1 tok (p := false) (sz := 1) (es := colF (oR n R S) R) (cs := [oR n R S v]) rfl rfl rfl rfl rfl rfl (by (try simp only [hputs]); repeat (first | rfl | exact hput_same _ _ _ | refine hput_skip (by exact beq_false_of_ne (by omega)) ?_ | refine hrm_skip (by omega) ?_ | refine (famW_out _ (fun i_ _ => by first | omega | (dsimp only; omega))).trans ?_)) (colF_len _ _).symm (by rw [Nat.zero_add, Int.toNat_natCast]; exact colF_get hv) (slA_cells _ _) (by decide) (slA_cell1 _ _) (by intro h; cases h)) ?_
    refine AOps.nil ?_
    exact ⟨(), Sub.mk' (by repeat (first | exact ESub.new _ | refine ESub.put ?_ (by first | rfl | exact congrArg some (oR_has hi0 hlast hS1) | (rw [slA_snoc, pastC_len]; rfl)))) (dh_full rfl rfl rfl (by repeat (first | exact trivial | refine ⟨by first | rfl | exact congrArg (fun es => some (AObj.row false 1 es)) (oX_put (pastC_len _ _ _ _)), ?_⟩)) (fun x_ => by (try simp only [hputs]); (repeat (first | refine hput_skip (by exact beq_false_of_ne (by omega)) ?_ | refine hrm_skip (by omega) ?_)); rw [hput_twice]; exact (hput_hi (fun y_ => fam_hi _ _ _) _ _ x_).trans (congrArg some (rOX_new hS0 x_).symm)) (fun c h1 h2 => by rcases (by omega : c = 8 ∨ c = 9 ∨ c = 10 ∨ c = 11 ∨ c = 12 ∨ c = 13 ∨ c = 14 ∨ c = 15) with rfl | rfl | rfl | rfl | rfl | rfl | rfl | rfl <;> first | rfl | (try simp only [hputs]; repeat (first | rfl | refine hput_skip (by exact beq_false_of_ne (by omega)) ?_ | refine hrm_skip (by omega) ?_)))), trivial⟩
   ·
    refine AGo.cond_false false rfl rfl ?_
    have hji : j0 = i := by have h := hb4; simp at h; omega
    rw [hji] at hj0
    have hS1 : 0 < (S i v).length := note_old hi0 hlast hj0
    refine AGo.skip ?_
    exact ⟨(), Sub.mk' (by repeat (first | exact ESub.new _ | refine ESub.put ?_ (by first | rfl | exact congrArg some (oR_has hi0 hlast hS1) | (rw [slA_snoc, pastC_len]; rfl)))) (dh_full rfl rfl rfl (by repeat (first | exact trivial | refine ⟨by first | rfl | exact congrArg (fun es => some (AObj.row false 1 es)) ((oX_self hi0 hlast hS1).symm), ?_⟩)) (fun x_ => (fam_hi _ _ _).trans (congrArg some (by rw [rOX_self hv hi0 hlast hS1]))) (fun c h1 h2 => by rcases (by omega : c = 8 ∨ c = 9 ∨ c = 10 ∨ c = 11 ∨ c = 12 ∨ c = 13 ∨ c = 14 ∨ c = 15) with rfl | rfl | rfl | rfl | rfl | rfl | rfl | rfl <;> first | rfl | (try simp only [hputs]; repeat (first | rfl | refine hput_skip (by exact beq_false_of_ne (by omega)) ?_ | refine hrm_skip (by omega) ?_)))), trivial⟩
  intro _ _
  refine AGo.seq ?_
  refine AGo.region ?_
  refine am 44 ?_
  refine am 45 ?_
  refine aq 46 (q_len tok rfl rfl rfl rfl rfl) ?_
  refine aq 47 (q_bin (r := .int .i64 (((pastS S i v).length : Nat) : Int)) rfl rfl rfl (sub_1 (L := (pastS S i v).length + 1) (Nat.succ_pos _) (by omega))) ?_
  refine aq 48 (q_index_ref tok rfl rfl rfl rfl rfl rfl ((fam_hi _ _ _).trans (congrArg some (rOX_at))) (by rw [List.length_append, pastC_len]; rfl) rfl (Int.natCast_nonneg _) (by omega)) ?_
  refine aa 10 ?_
  refine AOps.nil ?_
  refine AGo.seq ?_
  refine AGo.seq ?_
  refine AGo.draw mix ?_
  refine dm 49 ?_
  refine dq 50 (q_nilCheck rfl rfl rfl) ?_
  refine df 51 tok ?_
  refine dq 52 (q_load tok rfl rfl rfl (.ptr _ _ _ _ false 2 (pastC R S v i ++ [grX R v i (S i v)]) (grX R v i (S i v)) ((fam_hi _ _ _).trans (congrArg some (rOX_at))) (by rw [List.length_append, pastC_len]; rfl) (by rw [Nat.zero_add, Int.toNat_natCast]; exact past_get)) rfl) ?_
  refine dq 53 (q_lenJ tok rfl rfl rfl rfl) ?_
  refine dq 54 (q_bin rfl rfl rfl rfl) ?_
  refine dm 55 ?_
  refine DOps.split 55 rfl (fun hb5 => ?_) (fun hb5 => ?_)
  ·
   refine dk 56 ?_
   refine dk 57 ?_
   refine dk 58 ?_
   refine dk 59 ?_
   refine dk 60 ?_
   refine dk 61 ?_
   refine dk 62 ?_
   refine dk 63 ?_
   refine dk 64 ?_
   refine dk 65 ?_
   refine dk 66 ?_
   refine dk 67 ?_
   refine dk 68 ?_
   refine dk 69 ?_
   refine dk 70 ?_
   refine dq 71 (q_pick_true true rfl rfl rfl rfl) ?_
   refine DOps.nil (by kernel_rfl) ?_
   refine AGo.join (γ := Unit) (fun _u => ⟨94, (eput eNew 10 (.ptr (4 * v + 2 + 16) ((pastS S i v).length + 1) (0 + (((pastS S i v).length : Nat) : Int).toNat) 0)), (DH [(.row false 8 [[c0, c1, c2, c3, .ref 4 R 0 R, c5, c6, c7]]), r3, (.row false 1 (colF (oX n R S v i) R)), r5, r6, r7] (F4 r0 r1 (rOX n R S v i (noteL (S i v) p)) (rSX R S v i (noteL (S i v) p))))⟩) (fun _u => True) ?_ ?_
   ·
    refine AGo.cond_true true rfl rfl ?_
    have hnl : noteL (S i v) p = S i v ++ [⟨p, false, false⟩] := by
      first
      | exact noteL_new hs0 (by omega) (by have h := hb5; simp at h; omega)
      | (have h0 : (S i v).length = 0 := (by have h := hb5; first | exact eq0_zero h | (rw [List.length_map] at h; exact eq0_zero h)); rw [len_nil h0]; rfl)
    refine AGo.region ?_
    refine am 72 ?_
    refine am 73 ?_
    refine aq 74 (q_nilCheck rfl rfl rfl) ?_
    refine af 75 tok ?_
    refine aq 76 (q_load tok rfl rfl rfl (.ptr _ _ _ _ false 2 (pastC R S v i ++ [grX R v i (S i v)]) (grX R v i (S i v)) ((fam_hi _ _ _).trans (congrArg some (rOX_at))) (by rw [List.length_append, pastC_len]; rfl) (by rw [Nat.zero_add, Int.toNat_natCast]; exact past_get)) rfl) ?_
    refine am 77 ?_
    refine aq 78 (q_build tok rfl rfl rfl rfl rfl (by decide) rfl rfl rfl) ?_
    refine ax 79 (o_lit' tok rfl rfl rfl rfl rfl rfl (by decide) rfl rfl rfl rfl rfl rfl) ?_
    refine ax 80 (o_append1J tok (b := (4 * (v + R * i) + 3 + 16)) (es := (S i v).map siC) rfl rfl rfl rfl rfl rfl rfl rfl ((fam_hi _ _ _).trans (congrArg some (rS4_F hv))) rfl rfl (Nat.zero_lt_succ _) (si_len _) (one_pure fun _ => rfl) rfl rfl (by rw [List.length_map]; show (_ + 1) * 16 ≤ _; omega) (by rw [List.length_map]; simp only [maxLen]; omega)) ?_
    refine aq 81 (q_nilCheck rfl rfl rfl) ?_
    refine af 82 tok ?_
    refine AOps.w rfl rfl (o_store1 tok (p := false) (sz := 2) (es := (pastC R S v i ++ [grX R v i (S i v)])) (cs := grX R v i (S i v)) rfl rfl rfl rfl rfl rfl (by (try simp only [hputs]); (try dsimp only); (repeat (first | refine hput_skip (by exact beq_false_of_ne (by omega)) ?_ | refine hrm_skip (by omega) ?_)); exact (fam_hi _ _ _).trans (congrArg some (rOX_at))) (by rw [List.length_append, pastC_len]; rfl) (by rw [Nat.zero_add, Int.toNat_natCast]; exact past_get) (slA_cells _ _) (by decide) (slA_cell1 _ _) (by intro h; cases h)) ?_
    refine AOps.nil ?_
    exact ⟨(), Sub.mk' (by repeat (first | exact ESub.new _ | refine ESub.put ?_ (by rfl))) (dh_full rfl rfl rfl (by repeat (first | exact trivial | refine ⟨by rfl, ?_⟩)) (fun x_ => by (try simp only [hputs]); rw [hnl]; refine (hput_hi (F := F4 r0 r1 (rOX n R S v i (S i v)) (rSX R S v i (S i v ++ [⟨p, false, false⟩]))) (fun y_ => ?_) _ _ x_).trans (congrArg some ?_); exact (hput_hi (F := F4 r0 r1 (rOX n R S v i (S i v)) (rS4 R S)) (fun z_ => fam_hi _ _ _) _ _ y_).trans (congrArg some (rSX_step (l := S i v) (s := ⟨p, false, false⟩) y_).symm); exact (rOX_step (l := S i v) (grX_snoc (s := ⟨p, false, false⟩)) x_).symm) (fun c h1 h2 => by rcases (by omega : c = 8 ∨ c = 9 ∨ c = 10 ∨ c = 11 ∨ c = 12 ∨ c = 13 ∨ c = 14 ∨ c = 15) with rfl | rfl | rfl | rfl | rfl | rfl | rfl | rfl <;> first | rfl | (try simp only [hputs]; repeat (first | rfl | refine hput_skip (by exact beq_false_of_ne (by omega)) ?_ | refine hrm_skip (by omega) ?_)))), trivial⟩
   intro _ _
   refine AGo.seq ?_
   refine AGo.draw mix ?_
   refine dm 83 ?_
   refine dq 84 (q_nilCheck rfl rfl rfl) ?_
   refine df 85 tok ?_
   refine dq 86 (q_load tok rfl rfl rfl (.ptr _ _ _ _ false 2 (pastC R S v i ++ [grX R v i (noteL (S i v) p)]) (grX R v i (noteL (S i v) p)) ((fam_hi _ _ _).trans (congrArg some (rOX_at))) (by rw [List.length_append, pastC_len]; rfl) (by rw [Nat.zero_add, Int.toNat_natCast]; exact past_get)) rfl) ?_
   refine dm 87 ?_
   refine dq 88 (q_nilCheck rfl rfl rfl) ?_
   refine df 89 tok ?_
   refine dq 90 (q_load tok rfl rfl rfl (.ptr _ _ _ _ false 2 (pastC R S v i ++ [grX R v i (noteL (S i v) p)]) (grX R v i (noteL (S i v) p)) ((fam_hi _ _ _).trans (congrArg some (rOX_at))) (by rw [List.length_append, pastC_len]; rfl) (by rw [Nat.zero_add, Int.toNat_natCast]; exact past_get)) rfl) ?_
   refine dq 91 (q_lenJ tok rfl rfl rfl rfl) ?_
   refine dq 92 (q_bin (r := .int .i64 (((noteL (S i v) p).length - 1 : Nat) : Int)) rfl rfl rfl (by rw [List.length_map]; exact sub_1 (noteL_pos _ _) (by have := noteL_len (S i v) p; omega))) ?_
   refine dq 93 (q_indexJ tok (b := (4 * (v + R * i) + 3 + 16)) (es := (noteL (S i v) p).map siC) rfl rfl rfl rfl rfl rfl ((fam_hi _ _ _).trans (congrArg some (rSX_at))) rfl (Int.natCast_nonneg _) (by rw [List.length_map]; have := noteL_pos (S i v) p; omega)) ?_
   refine da 8 ?_
   refine DOps.nil (by kernel_rfl) ?_
   refine AGo.ret ?_
   refine ⟨[_], ⟨rfl, trivial⟩, ?_, ?_⟩
   · show AV.ptr _ _ _ _ = AV.ptr _ _ _ _
     rw [List.length_map, Int.toNat_natCast]
   · rw [← oX_eq hi0 hlast (noteL_pos _ _), ← rOX_eq hv hi0 hlast (noteL_pos _ _), ← rSX_eq hv]
     exact dh_sub rfl (by repeat (first | exact trivial | refine ⟨by rfl, ?_⟩)) (fun x_ => by dsimp only; exact fam_hi _ _ _)
  ·
   have hs1 : 0 < (S i v).length := by have h := hb5; rw [List.length_map] at h; exact eq0_pos h
   obtain ⟨s0, hs0⟩ := get_of_lt (l := S i v) (k := (S i v).length - 1) (by omega)
   refine dm 56 ?_
   refine dq 57 (q_nilCheck rfl rfl rfl) ?_
   refine df 58 tok ?_
   refine dq 59 (q_load tok rfl rfl rfl (.ptr _ _ _ _ false 2 (pastC R S v i ++ [grX R v i (S i v)]) (grX R v i (S i v)) ((fam_hi _ _ _).trans (congrArg some (rOX_at))) (by rw [List.length_append, pastC_len]; rfl) (by rw [Nat.zero_add, Int.toNat_natCast]; exact past_get)) rfl) ?_
   refine dm 60 ?_
   refine dq 61 (q_nilCheck rfl rfl rfl) ?_
   refine df 62 tok ?_
   refine dq 63 (q_load tok rfl rfl rfl (.ptr _ _ _ _ false 2 (pastC R S v i ++ [grX R v i (S i v)]) (grX R v i (S i v)) ((fam_hi _ _ _).trans (congrArg some (rOX_at))) (by rw [List.length_append, pastC_len]; rfl) (by rw [Nat.zero_add, Int.toNat_natCast]; exact past_get)) rfl) ?_
   refine dq 64 (q_lenJ tok rfl rfl rfl rfl) ?_
   refine dq 65 (q_bin (r := .int .i64 (((S i v).length - 1 : Nat) : Int)) rfl rfl rfl (by rw [List.length_map]; exact sub_1 hs1 (by omega))) ?_
   refine dq 66 (q_indexJ tok (b := (4 * (v + R * i) + 3 + 16)) (es := (S i v).map siC) rfl rfl rfl rfl rfl rfl ((fam_hi _ _ _).trans (congrArg some (rS4_F hv))) rfl (Int.natCast_nonneg _) (by rw [List.length_map]; omega)) ?_
   refine df 67 tok ?_
   refine dq 68 (q_load tok rfl rfl rfl (.ptr _ _ _ _ true 3 ((S i v).map siC) (siC s0) ((fam_hi _ _ _).trans (congrArg some ((rS4_F hv).trans (row_slO hs1)))) rfl (by rw [Int.toNat_natCast, List.getElem?_map, hs0]; rfl)) rfl) ?_
   refine dm 69 ?_
   refine dq 70 (q_bin rfl rfl rfl rfl) ?_
   refine dq 71 (q_pick_false false rfl rfl rfl rfl) ?_
   refine DOps.nil (by kernel_rfl) ?_
   refine AGo.join (γ := Unit) (fun _u => ⟨94, (eput eNew 10 (.ptr (4 * v + 2 + 16) ((pastS S i v).length + 1) (0 + (((pastS S i v).length : Nat) : Int).toNat) 0)), (DH [(.row false 8 [[c0, c1, c2, c3, .ref 4 R 0 R, c5, c6, c7]]), r3, (.row false 1 (colF (oX n R S v i) R)), r5, r6, r7] (F4 r0 r1 (rOX n R S v i (noteL (S i v) p)) (rSX R S v i (noteL (S i v) p))))⟩) (fun _u => True) ?_ ?_
   ·
    refine AGo.split 71 rfl (fun hb6 => ?_) (fun hb6 => ?_)
    ·
     refine AGo.cond_true true rfl rfl ?_
     have hnl : noteL (S i v) p = S i v ++ [⟨p, false, false⟩] := by
       first
       | exact noteL_new hs0 (by omega) (by have h := hb6; simp at h; omega)
       | (have h0 : (S i v).length = 0 := (by have h := hb6; first | exact eq0_zero h | (rw [List.length_map] at h; exact eq0_zero h)); rw [len_nil h0]; rfl)
     refine AGo.region ?_
     refine am 72 ?_
     refine am 73 ?_
     refine aq 74 (q_nilCheck rfl rfl rfl) ?_
     refine af 75 tok ?_
     refine aq 76 (q_load tok rfl rfl rfl (.ptr _ _ _ _ false 2 (pastC R S v i ++ [grX R v i (S i v)]) (grX R v i (S i v)) ((fam_hi _ _ _).trans (congrArg some (rOX_at))) (by rw [List.length_append, pastC_len]; rfl) (by rw [Nat.zero_add, Int.toNat_natCast]; exact past_get)) rfl) ?_
     refine am 77 ?_
     refine aq 78 (q_build tok rfl rfl rfl rfl rfl (by decide) rfl rfl rfl) ?_
     refine ax 79 (o_lit' tok rfl rfl rfl rfl rfl rfl (by decide) rfl rfl rfl rfl rfl rfl) ?_
     refine ax 80 (o_append1J tok (b := (4 * (v + R * i) + 3 + 16)) (es := (S i v).map siC) rfl rfl rfl rfl rfl rfl rfl rfl ((fam_hi _ _ _).trans (congrArg some (rS4_F hv))) rfl rfl (Nat.zero_lt_succ _) (si_len _) (one_pure fun _ => rfl) rfl rfl (by rw [List.length_map]; show (_ + 1) * 16 ≤ _; omega) (by rw [List.length_map]; simp only [maxLen]; omega)) ?_
     refine aq 81 (q_nilCheck rfl rfl rfl) ?_
     refine af 82 tok ?_
     refine AOps.w rfl rfl (o_store1 tok (p := false) (sz := 2) (es := (pastC R S v i ++ [grX R v i (S i v)])) (cs := grX R v i (S i v)) rfl rfl rfl rfl rfl rfl (by (try simp only [hputs]); (try dsimp only); (repeat (first | refine hput_skip (by exact beq_false_of_ne (by omega)) ?_ | refine hrm_skip (by omega) ?_)); exact (fam_hi _ _ _).trans (congrArg some (rOX_at))) (by rw [List.length_append, pastC_len]; rfl) (by rw [Nat.zero_add, Int.toNat_natCast]; exact past_get) (slA_cells _ _) (by decide) (slA_cell1 _ _) (by intro h; cases h)) ?_
     refine AOps.nil ?_
     exact ⟨(), Sub.mk' (by repeat (first | exact ESub.new _ | refine ESub.put ?_ (by rfl))) (dh_full rfl rfl rfl (by repeat (first | exact trivial | refine ⟨by rfl, ?_⟩)) (fun x_ => by (try simp only [hputs]); rw [hnl]; refine (hput_hi (F := F4 r0 r1 (rOX n R S v i (S i v)) (rSX R S v i (S i v ++ [⟨p, false, false⟩]))) (fun y_ => ?_) _ _ x_).trans (congrArg some ?_); exact (hput_hi (F := F4 r0 r1 (rOX n R S v i (S i v)) (rS4 R S)) (fun z_ => fam_hi _ _ _) _ _ y_).trans (congrArg some (rSX_step (l := S i v) (s := ⟨p, false, false⟩) y_).symm); exact (rOX_step (l := S i v) (grX_snoc (s := ⟨p, false, false⟩)) x_).symm) (fun c h1 h2 => by rcases (by omega : c = 8 ∨ c = 9 ∨ c = 10 ∨ c = 11 ∨ c = 12 ∨ c = 13 ∨ c = 14 ∨ c = 15) with rfl | rfl | rfl | rfl | rfl | rfl | rfl | rfl <;> first | rfl | (try simp only [hputs]; repeat (first | rfl | refine hput_skip (by exact beq_false_of_ne (by omega)) ?_ | refine hrm_skip (by omega) ?_)))), trivial⟩
    ·
     refine AGo.cond_false false rfl rfl ?_
     have hnl : noteL (S i v) p = S i v := noteL_old hs0 (by omega) (by have h := hb6; simp at h; omega)
     refine AGo.skip ?_
     exact ⟨(), Sub.mk' (by repeat (first | exact ESub.new _ | refine ESub.put ?_ (by rfl))) (dh_full rfl rfl rfl (by repeat (first | exact trivial | refine ⟨by rfl, ?_⟩)) (fun x_ => (fam_hi _ _ _).trans (congrArg some (by rw [hnl, rSX_self hv]))) (fun c h1 h2 => by rcases (by omega : c = 8 ∨ c = 9 ∨ c = 10 ∨ c = 11 ∨ c = 12 ∨ c = 13 ∨ c = 14 ∨ c = 15) with rfl | rfl | rfl | rfl | rfl | rfl | rfl | rfl <;> first | rfl | (try simp only [hputs]; repeat (first | rfl | refine hput_skip (by exact beq_false_of_ne (by omega)) ?_ | refine hrm_skip (by omega) ?_)))), trivial⟩
   intro _ _
   refine AGo.seq ?_
   refine AGo.draw mix ?_
   refine dm 83 ?_
   refine dq 84 (q_nilCheck rfl rfl rfl) ?_
   refine df 85 tok ?_
   refine dq 86 (q_load tok rfl rfl rfl (.ptr _ _ _ _ false 2 (pastC R S v i ++ [grX R v i (noteL (S i v) p)]) (grX R v i (noteL (S i v) p)) ((fam_hi _ _ _).trans (congrArg some (rOX_at))) (by rw [List.length_append, pastC_len]; rfl) (by rw [Nat.zero_add, Int.toNat_natCast]; exact past_get)) rfl) ?_
   refine dm 87 ?_
   refine dq 88 (q_nilCheck rfl rfl rfl) ?_
   refine df 89 tok ?_
   refine dq 90 (q_load tok rfl rfl rfl (.ptr _ _ _ _ false 2 (pastC R S v i ++ [grX R v i (noteL (S i v) p)]) (grX R v i (noteL (S i v) p)) ((fam_hi _ _ _).trans (congrArg some (rOX_at))) (by rw [List.length_append, pastC_len]; rfl) (by rw [Nat.zero_add, Int.toNat_natCast]; exact past_get)) rfl) ?_
   refine dq 91 (q_lenJ tok rfl rfl rfl rfl) ?_
   refine dq 92 (q_bin (r := .int .i64 (((noteL (S i v) p).length - 1 : Nat) : Int)) rfl rfl rfl (by rw [List.length_map]; exact sub_1 (noteL_pos _ _) (by have := noteL_len (S i v) p; omega))) ?_
   refine dq 93 (q_indexJ tok (b := (4 * (v + R * i) + 3 + 16)) (es := (noteL (S i v) p).map siC) rfl rfl rfl rfl rfl rfl ((fam_hi _ _ _).trans (congrArg some (rSX_at))) rfl (Int.natCast_nonneg _) (by rw [List.length_map]; have := noteL_pos (S i v) p; omega)) ?_
   refine da 8 ?_
   refine DOps.nil (by kernel_rfl) ?_
   refine AGo.ret ?_
   refine ⟨[_], ⟨rfl, trivial⟩, ?_, ?_⟩
   · show AV.ptr _ _ _ _ = AV.ptr _ _ _ _
     rw [List.length_map, Int.toNat_natCast]
   · rw [← oX_eq hi0 hlast (noteL_pos _ _), ← rOX_eq hv hi0 hlast (noteL_pos _ _), ← rSX_eq hv]
     exact dh_sub rfl (by repeat (first | exact trivial | refine ⟨by rfl, ?_⟩)) (fun x_ => by dsimp only; exact fam_hi _ _ _)

end Go.Proofs.Ytjmjmedjjbginaa.Sv

namespace Go.Proofs.Ytjmjmedjjbginaa.Sv
open Go

set_option maxHeartbeats 4000000 in
set_option maxRecDepth 100000 in
theorem newSearch_ok (f : BFunc) (hs : f.sane) (R : Nat) (hRf : f.regs = (R : Int)) (hR : R ≤ 100000) (hn : f.blocks.length ≤ 100000) (hi : ∀ x ∈ f.blocks, x.ins.length ≤ 100000) : ACall Try.prog 26 [.agg f.cells] hNew (fun r h' => r = .ptr 2 1 0 0 ∧ HSub (putD hNone (DH (DSL f R (SB f) ((List.range R).map natC) (R) (fun b => decide (b < R))) (DF f R (SB f) G0))) h') := by
 refine ACall.of_body (n := 152) tok Try.func26 rfl rfl ?_
 refine AGo.seq ?_
 refine AGo.region ?_
 refine ax 1 (o_box (sz := 2) 0 rfl rfl rfl rfl (Nat.zero_lt_succ _) rfl) ?_
 refine aa 2 ?_
 refine AOps.nil ?_
 refine AGo.seq ?_
 refine AGo.draw mix ?_
 refine dl 16 tok ?_
 refine dl 17 tok ?_
 refine dx 18 (o_pure rfl Try.func42 (by kernel_rfl) rfl rfl rfl (next_ok _ (by assumption))) ?_
 refine df 19 tok ?_
 refine dl 20 tok ?_
 refine dq 21 (q_len tok rfl rfl rfl rfl rfl) ?_
 refine dx 22 (o_makeSlice tok (n := f.blocks.length) (m := f.blocks.length) 3 false rfl rfl rfl (by simp) (by simp) rfl rfl rfl rfl rfl (Nat.zero_lt_succ _) rfl (Nat.le_refl _) (by show 24 * f.blocks.length ≤ _; omega) (by simp only [maxLen]; omega)) ?_
 refine df 23 tok ?_
 refine dl 24 tok ?_
 refine dx 25 (o_makeSlice tok (n := R) (m := R) 4 false rfl rfl rfl hRf hRf rfl rfl rfl rfl rfl (Nat.zero_lt_succ _) rfl (Nat.le_refl _) (by show 24 * R ≤ _; omega) (by simp only [maxLen]; omega)) ?_
 refine df 26 tok ?_
 refine dl 27 tok ?_
 refine dq 28 (q_len tok rfl rfl rfl rfl rfl) ?_
 refine dx 29 (o_makeSlice tok (n := f.blocks.length) (m := f.blocks.length) 5 false rfl rfl rfl (by simp) (by simp) rfl rfl rfl rfl rfl (Nat.zero_lt_succ _) rfl (Nat.le_refl _) (by show 24 * f.blocks.length ≤ _; omega) (by simp only [maxLen]; omega)) ?_
 refine dq 30 (q_build tok rfl rfl rfl rfl rfl (by decide) rfl rfl rfl) ?_
 refine dx 31 (o_box (sz := 8) 2 rfl rfl rfl rfl (Nat.zero_lt_succ _) rfl) ?_
 refine da 3 ?_
 refine DOps.nil (by kernel_rfl) ?_
 refine AGo.seq ?_
 refine AGo.seq ?_
 refine AGo.ghost (Ghost.weakRowF 3 (es' := colF (aR (fun _ => [])) f.blocks.length) rfl (by rw [colF_len, List.length_replicate]) (weak_col fun b => Wk.nil _)) ?_
 refine AGo.ghost (Ghost.weakRowF 4 (es' := colF (oR f.blocks.length R S0) R) rfl (by rw [colF_len, List.length_replicate]) (weak_col fun b => by rw [oR_none]; exact Wk.nil _)) ?_
 refine AGo.region ?_
 refine am 32 ?_
 refine aq 33 (q_nilCheck rfl rfl rfl) ?_
 refine af 34 tok ?_
 refine al 35 tok ?_
 refine aq 36 (q_len tok rfl rfl rfl rfl rfl) ?_
 refine am 37 ?_
 refine AOps.nil ?_
 refine AGo.block ?_
 refine AGo.loopK (γ := Nat) (kf 8) (fun k => ⟨152, (eput (eput (eput (eput (eput eNew 1 (.ptr 0 1 0 0)) 3 (.ptr 2 1 0 0)) 35 (pathsAV f.nexts)) 36 (.int .i64 (f.blocks.length : Int))) 37 (.int .i64 (k : Int))), (fam (nb [(.row false 2 [f.cells]), .free, (.row false 8 [NSc f R]), (.row false 1 (colF (aR (aheadP f k 0)) f.blocks.length)), (.row false 1 (colF (oR f.blocks.length R S0) R)), (.row false 1 (colF (gK f 0) f.blocks.length)), .free, .free]) (F4 (rA4 f.blocks.length (aheadP f k 0)) (rG4 f 0 G0) (rO4 f.blocks.length R S0) (rS4 R S0)))⟩) (fun k => k ≤ f.blocks.length) (fun k => f.blocks.length - k) 0 (Sub.mk' (by repeat (first | exact ESub.new _ | refine ESub.put ?_ (by first | rfl | exact congrArg (fun m : Nat => some (AV.int .i64 (m : Int))) ((List.length_map _).trans (nexts_length f)) | exact congrArg (fun (n : Nat) => some (AV.int .i64 (n : Int))) (by simp)))) (famSub (k0 := 8) rfl (by repeat (first | exact trivial | refine ⟨⟨by first | rfl | exact congrArg (fun A => some (AObj.row false 1 (colF (aR A) f.blocks.length))) (funext fun c => (aheadP_zero f 0 c).symm) | exact congrArg (fun es => some (AObj.row false 1 es)) (gK_zero f f.blocks.length), by first | rfl | exact colF_avoid (fun _ _ => aR_avoid (kf_hi' _) _ _) | exact colF_avoid (fun _ _ => oR_avoid (kf_hi' _) _ _ _ _) | exact colF_avoid (fun _ _ => gK_avoid (kf_hi' _) _ _ _)⟩, ?_⟩)) (fun x_ => by rw [rA4_congr (aheadP_zero f 0)]; (try simp only [hputs]); (repeat (first | refine hput_skip (by exact beq_false_of_ne (by omega)) ?_ | refine hrm_skip (by omega) ?_)); exact congrArg some F4_start.symm) (fun c h1 h2 => by rcases (by omega : c = 8 ∨ c = 9 ∨ c = 10 ∨ c = 11 ∨ c = 12 ∨ c = 13 ∨ c = 14 ∨ c = 15) with rfl | rfl | rfl | rfl | rfl | rfl | rfl | rfl <;> first | rfl | (try simp only [hputs]; repeat (first | rfl | refine hput_skip (by exact beq_false_of_ne (by omega)) ?_ | refine hrm_skip (by omega) ?_))))) (Nat.zero_le _) (fun g b hb => famFree (k0 := 8) rfl hb) ?_
 intro k hk
 refine AGo.seq ?_
 refine AGo.region ?_
 refine aq 38 (q_bin rfl rfl rfl rfl) ?_
 refine AOps.nil ?_
 refine AGo.seq ?_
 refine AGo.split 38 rfl (fun hb1 => ?_) (fun hb1 => ?_)
 ·
  refine AGo.cond_true true rfl rfl ?_
  have hkl : k < f.blocks.length := by have h := hb1; simp at h; exact h
  obtain ⟨x, hx⟩ := get_of_lt hkl
  have hxm := List.mem_of_getElem? hx
  refine AGo.skip ?_
  refine AGo.seq ?_
  refine AGo.block ?_
  refine AGo.seq ?_
  refine AGo.region ?_
  refine am 39 ?_
  refine aq 40 (q_index_lst tok rfl rfl rfl rfl rfl rfl (Int.natCast_nonneg _) (idx_map (nexts_get hx)) rfl) ?_
  refine al 41 tok ?_
  refine aa 4 ?_
  refine aa 5 ?_
  refine AOps.nil ?_
  refine AGo.seq ?_
  refine AGo.region ?_
  refine am 42 ?_
  refine aq 43 (q_len tok rfl rfl rfl rfl rfl) ?_
  refine am 44 ?_
  refine AOps.nil ?_
  refine AGo.block ?_
  refine AGo.loopK (γ := Nat) (kf 8) (fun j => ⟨152, (eput (eput (eput (eput (eput (eput (eput (eput (eput eNew 1 (.ptr 0 1 0 0)) 3 (.ptr 2 1 0 0)) 35 (pathsAV f.nexts)) 36 (.int .i64 (f.blocks.length : Int))) 37 (.int .i64 (k : Int))) 4 (.int .i64 (k : Int))) 42 (intsAV x.nexts)) 43 (.int .i64 (x.nexts.length : Int))) 44 (.int .i64 (j : Int))), (fam (nb [(.row false 2 [f.cells]), .free, (.row false 8 [NSc f R]), (.row false 1 (colF (aR (aheadP f k j)) f.blocks.length)), (.row false 1 (colF (oR f.blocks.length R S0) R)), (.row false 1 (colF (gK f 0) f.blocks.length)), .free, .free]) (F4 (rA4 f.blocks.length (aheadP f k j)) (rG4 f 0 G0) (rO4 f.blocks.length R S0) (rS4 R S0)))⟩) (fun j => True) (fun j => x.nexts.length - j) 0 (Sub.mk' (by repeat (first | exact ESub.new _ | refine ESub.put ?_ (by first | rfl | exact congrArg (fun (n : Nat) => some (AV.int .i64 (n : Int))) (by simp)))) (famSub (k0 := 8) rfl (by repeat (first | exact trivial | refine ⟨⟨by rfl, by first | rfl | exact colF_avoid (fun _ _ => aR_avoid (kf_hi' _) _ _) | exact colF_avoid (fun _ _ => oR_avoid (kf_hi' _) _ _ _ _) | exact colF_avoid (fun _ _ => gK_avoid (kf_hi' _) _ _ _)⟩, ?_⟩)) (fun x_ => by (try simp only [hputs]); repeat (first | exact fam_hi _ _ _ | refine hput_skip (by exact beq_false_of_ne (by omega)) ?_ | refine hrm_skip (by omega) ?_)) (fun c h1 h2 => by rcases (by omega : c = 8 ∨ c = 9 ∨ c = 10 ∨ c = 11 ∨ c = 12 ∨ c = 13 ∨ c = 14 ∨ c = 15) with rfl | rfl | rfl | rfl | rfl | rfl | rfl | rfl <;> first | rfl | (try simp only [hputs]; repeat (first | rfl | refine hput_skip (by exact beq_false_of_ne (by omega)) ?_ | refine hrm_skip (by omega) ?_))))) trivial (fun g b hb => famFree (k0 := 8) rfl hb) ?_
  intro j _
  refine AGo.seq ?_
  refine AGo.region ?_
  refine aq 45 (q_bin rfl rfl rfl rfl) ?_
  refine AOps.nil ?_
  refine AGo.seq ?_
  refine AGo.split 45 rfl (fun hb2 => ?_) (fun hb2 => ?_)
  ·
   refine AGo.cond_true true rfl rfl ?_
   have hjl : j < x.nexts.length := by have h := hb2; simp [intsAV] at h; exact h
   obtain ⟨d, hd⟩ := get_of_lt hjl
   have hd0 := hs.next x hxm d (List.mem_of_getElem? hd)
   have hdn : d.toNat < f.blocks.length := by omega
   refine AGo.skip ?_
   refine AGo.seq ?_
   refine AGo.block ?_
   refine AGo.seq ?_
   refine AGo.region ?_
   refine aq 46 (q_index_lst tok rfl rfl rfl rfl rfl rfl (Int.natCast_nonneg _) (idx_map hd) rfl) ?_
   refine al 47 tok ?_
   refine aa 7 ?_
   refine AOps.nil ?_
   refine AGo.draw mix ?_
   refine dm 48 ?_
   refine dq 49 (q_nilCheck rfl rfl rfl) ?_
   refine df 50 tok ?_
   refine dl 51 tok ?_
   refine dm 52 ?_
   refine dm 53 ?_
   refine dq 54 (q_nilCheck rfl rfl rfl) ?_
   refine df 55 tok ?_
   refine dl 56 tok ?_
   refine dm 57 ?_
   refine dq 58 (q_index_ref tok rfl rfl rfl rfl rfl rfl rfl (colF_len _ _).symm rfl hd0.1 (by omega)) ?_
   refine dq 59 (q_load tok rfl rfl rfl (.ptr _ _ _ _ _ _ _ [aR (aheadP f k j) d.toNat] rfl (colF_len _ _).symm (by rw [Nat.zero_add]; exact colF_get hdn)) rfl) ?_
   refine dm 60 ?_
   refine dx 61 (o_lit' tok rfl rfl rfl rfl rfl rfl (by decide) rfl rfl rfl rfl rfl rfl) ?_
   refine dx 62 (o_append1J tok (b := 4 * d.toNat + 0 + 16) (es := (aheadP f k j d.toNat).map natC) rfl rfl rfl rfl rfl rfl rfl rfl ((fam_hi _ _ _).trans (congrArg some (rA4_0 hdn))) rfl rfl (Nat.zero_lt_succ _) (one_len fun _ => rfl) (one_pure fun _ => rfl) rfl rfl (by rw [List.length_map]; have := aheadP_len f k j d.toNat; show (_ + 1) * 8 ≤ _; omega) (by rw [List.length_map]; have := aheadP_len f k j d.toNat; simp only [maxLen]; omega)) ?_
   refine dq 63 (q_index_ref tok rfl rfl rfl rfl rfl rfl (by (try simp only [hputs]); repeat (first | rfl | exact hput_same _ _ _ | refine hput_skip (by exact beq_false_of_ne (by omega)) ?_ | refine hrm_skip (by omega) ?_ | refine (famW_out _ (fun i_ _ => by first | omega | (dsimp only; omega))).trans ?_)) (colF_len _ _).symm rfl hd0.1 (by omega)) ?_
   refine DOps.w rfl rfl (o_store1 tok (p := false) (sz := 1) (es := colF (aR (aheadP f k j)) f.blocks.length) (cs := [aR (aheadP f k j) d.toNat]) rfl rfl rfl rfl rfl rfl (by (try simp only [hputs]); repeat (first | rfl | exact hput_same _ _ _ | refine hput_skip (by exact beq_false_of_ne (by omega)) ?_ | refine hrm_skip (by omega) ?_ | refine (famW_out _ (fun i_ _ => by first | omega | (dsimp only; omega))).trans ?_)) (colF_len _ _).symm (by rw [Nat.zero_add]; exact colF_get hdn) (slA_cells _ _) (by decide) (slA_cell1 _ _) (by intro h; cases h)) ?_
   refine DOps.nilC cls4 [([],[]), ([],[]), ([],[]), ([2],[]), ([],[]), ([],[]), ([],[]), ([],[]), ([2],[]), ([],[]), ([3],[]), ([3],[]), ([],[]), ([],[]), ([16],[16]), ([3],[]), ([3],[3])] (by repeat (first | exact trivial | refine ⟨(by first | exact cls_nil _ _ | exact (show clsIn cls4 [2] [2] from cls_one (by decide)) | exact (show clsIn cls4 [3] [3] from cls_one (by decide)) | exact (show clsIn cls4 [4] [4] from cls_one (by decide)) | exact (show clsIn cls4 [5] [5] from cls_one (by decide)) | exact (show clsIn cls4 [6] [6] from cls_one (by decide)) | exact (show clsIn cls4 [7] [7] from cls_one (by decide)) | exact (show clsIn cls4 [8] [8] from cls_one (by decide)) | exact (show clsIn cls4 [9] [9] from cls_one (by decide)) | exact (show clsIn cls4 [10] [10] from cls_one (by decide)) | exact (show clsIn cls4 [11] [11] from cls_one (by decide)) | exact (show clsIn cls4 [12] [12] from cls_one (by decide)) | exact (show clsIn cls4 [13] [13] from cls_one (by decide)) | exact (show clsIn cls4 [14] [14] from cls_one (by decide)) | exact (show clsIn cls4 [15] [15] from cls_one (by decide)) | exact cls_one (by decide) | exact cls_two (by decide) (by decide) | exact cls_one (by first | rw [cls4_0]; decide | rw [cls4_1]; decide | rw [cls4_2]; decide | rw [cls4_3]; decide)), (by first | exact cls_nil _ _ | exact (show clsIn cls4 [2] [2] from cls_one (by decide)) | exact (show clsIn cls4 [3] [3] from cls_one (by decide)) | exact (show clsIn cls4 [4] [4] from cls_one (by decide)) | exact (show clsIn cls4 [5] [5] from cls_one (by decide)) | exact (show clsIn cls4 [6] [6] from cls_one (by decide)) | exact (show clsIn cls4 [7] [7] from cls_one (by decide)) | exact (show clsIn cls4 [8] [8] from cls_one (by decide)) | exact (show clsIn cls4 [9] [9] from cls_one (by decide)) | exact (show clsIn cls4 [10] [10] from cls_one (by decide)) | exact (show clsIn cls4 [11] [11] from cls_one (by decide)) | exact (show clsIn cls4 [12] [12] from cls_one (by decide)) | exact (show clsIn cls4 [13] [13] from cls_one (by decide)) | exact (show clsIn cls4 [14] [14] from cls_one (by decide)) | exact (show clsIn cls4 [15] [15] from cls_one (by decide)) | exact cls_one (by decide) | exact cls_two (by decide) (by decide) | exact cls_one (by first | rw [cls4_0]; decide | rw [cls4_1]; decide | rw [cls4_2]; decide | rw [cls4_3]; decide)), ?_⟩)) (by kernel_rfl) ?_
   refine AGo.region ?_
   refine aq 64 (q_inc rfl rfl hjl (by simp only [maxLen]; have := nexts_le2 x; omega)) ?_
   refine am 44 ?_
   refine AOps.nil ?_
   exact ⟨j+1, DropK.mk' (by repeat (first | exact EDropK.new _ _ | refine EDropK.put ?_ (by rfl) (by first | rfl))) (famDrop (k0 := 8) rfl (by repeat (first | exact trivial | refine ⟨⟨by first | rfl | exact congrArg (fun es => some (AObj.row false 1 es)) (aR_put (aheadP_succ hx hd hd0.1)), by first | rfl | exact colF_avoid (fun _ _ => aR_avoid (kf_hi' _) _ _) | exact colF_avoid (fun _ _ => oR_avoid (kf_hi' _) _ _ _ _) | exact colF_avoid (fun _ _ => gK_avoid (kf_hi' _) _ _ _)⟩, ?_⟩)) (fun x_ => by (try simp only [hputs]); (repeat (first | refine hput_skip (by exact beq_false_of_ne (by omega)) ?_ | refine hrm_skip (by omega) ?_)); exact (hput_hi (fun y_ => by (try simp only [hputs]); repeat (first | exact fam_hi _ _ _ | refine hput_skip (by exact beq_false_of_ne (by omega)) ?_ | refine hrm_skip (by omega) ?_)) _ _ x_).trans (congrArg some (rA4_put hdn (aheadP_succ hx hd hd0.1) x_).symm)) (F4_avoid (fun _ => rA4_avoid _) (fun _ => rG4_avoid _) (fun _ => rO4_avoid (kf_hi' _) _) (fun _ => rS4_avoid _))), trivial, by omega⟩
  ·
   refine AGo.cond_false false rfl rfl ?_
   have hjge : x.nexts.length ≤ j := by have h := hb2; simp [intsAV] at h; omega
   refine AGo.exit ?_
   refine AGo.region ?_
   refine aq 65 (q_inc rfl rfl hkl (by simp only [maxLen]; omega)) ?_
   refine am 37 ?_
   refine AOps.nil ?_
   exact ⟨k+1, DropK.mk' (by repeat (first | exact EDropK.new _ _ | refine EDropK.put ?_ (by rfl) (by first | rfl))) (famDrop (k0 := 8) rfl (by repeat (first | exact trivial | refine ⟨⟨by first | rfl | exact congrArg (fun A => some (AObj.row false 1 (colF (aR A) f.blocks.length))) (funext (aheadP_next hx hjge)), by first | rfl | exact colF_avoid (fun _ _ => aR_avoid (kf_hi' _) _ _) | exact colF_avoid (fun _ _ => oR_avoid (kf_hi' _) _ _ _ _) | exact colF_avoid (fun _ _ => gK_avoid (kf_hi' _) _ _ _)⟩, ?_⟩)) (fun x_ => by rw [← rA4_congr (aheadP_next hx hjge)]; exact fam_hi _ _ _) (F4_avoid (fun _ => rA4_avoid _) (fun _ => rG4_avoid _) (fun _ => rO4_avoid (kf_hi' _) _) (fun _ => rS4_avoid _))), hkl, by omega⟩
 ·
  refine AGo.cond_false false rfl rfl ?_
  have hge : f.blocks.length ≤ k := by have h := hb1; simp at h; omega
  refine AGo.exit ?_
  refine AGo.seq ?_
  refine AGo.seq ?_
  have hkn : k = f.blocks.length := by omega
  subst hkn
  rw [show aheadP f f.blocks.length 0 = aheadL f from funext fun c => aheadP_zero f _ c, phS_start f]
  refine AGo.region ?_
  refine af 66 tok ?_
  refine al 67 tok ?_
  refine aq 68 (q_len tok rfl rfl rfl rfl rfl) ?_
  refine am 69 ?_
  refine AOps.nil ?_
  refine AGo.block ?_
  refine AGo.loopK (γ := Nat) (kf 8) (fun k => ⟨152, (eput (eput (eput (eput (eput eNew 1 (.ptr 0 1 0 0)) 3 (.ptr 2 1 0 0)) 67 (blocksAV f.blocks)) 68 (.int .i64 (f.blocks.length : Int))) 69 (.int .i64 (k : Int))), (fam (nb [(.row false 2 [f.cells]), .free, (.row false 8 [NSc f R]), (.row false 1 (colF (aR (aheadL f)) f.blocks.length)), (.row false 1 (colF (oR f.blocks.length R (phS f k (fun _ => []))) R)), (.row false 1 (colF (gK f k) f.blocks.length)), .free, .free]) (NSF f R (phS f k (fun _ => [])) k))⟩) (fun k => k ≤ f.blocks.length) (fun k => f.blocks.length - k) 0 (Sub.mk' (by repeat (first | exact ESub.new _ | refine ESub.put ?_ (by first | rfl | exact congrArg (fun (n : Nat) => some (AV.int .i64 (n : Int))) (by simp)))) (famSub (k0 := 8) rfl (by repeat (first | exact trivial | refine ⟨⟨by rfl, by first | rfl | exact colF_avoid (fun _ _ => aR_avoid (kf_hi' _) _ _) | exact colF_avoid (fun _ _ => oR_avoid (kf_hi' _) _ _ _ _) | exact colF_avoid (fun _ _ => gK_avoid (kf_hi' _) _ _ _)⟩, ?_⟩)) (fun x_ => by (try simp only [hputs]); repeat (first | exact fam_hi _ _ _ | refine hput_skip (by exact beq_false_of_ne (by omega)) ?_ | refine hrm_skip (by omega) ?_)) (fun c h1 h2 => by rcases (by omega : c = 8 ∨ c = 9 ∨ c = 10 ∨ c = 11 ∨ c = 12 ∨ c = 13 ∨ c = 14 ∨ c = 15) with rfl | rfl | rfl | rfl | rfl | rfl | rfl | rfl <;> first | rfl | (try simp only [hputs]; repeat (first | rfl | refine hput_skip (by exact beq_false_of_ne (by omega)) ?_ | refine hrm_skip (by omega) ?_))))) (Nat.zero_le _) (fun g b hb => famFree (k0 := 8) rfl hb) ?_
  intro k hk
  refine AGo.seq ?_
  refine AGo.region ?_
  refine aq 70 (q_bin rfl rfl rfl rfl) ?_
  refine AOps.nil ?_
  refine AGo.seq ?_
  refine AGo.split 70 rfl (fun hb3 => ?_) (fun hb3 => ?_)
  ·
   refine AGo.cond_true true rfl rfl ?_
   have hkl : k < f.blocks.length := by have h := hb3; simp at h; exact h
   obtain ⟨x, hx⟩ := get_of_lt hkl
   have hxm := List.mem_of_getElem? hx
   have hix := hi x hxm
   refine AGo.skip ?_
   refine AGo.seq ?_
   refine AGo.block ?_
   refine AGo.seq ?_
   refine AGo.region ?_
   refine am 71 ?_
   refine aq 72 (q_index_lst tok rfl rfl rfl rfl rfl rfl (Int.natCast_nonneg _) (idx_map hx) rfl) ?_
   refine al 73 tok ?_
   refine ax 9 (o_alloc tok 8 rfl rfl rfl rfl (Nat.zero_lt_succ _) rfl) ?_
   refine aa 8 ?_
   refine AOps.w rfl rfl (o_store tok rfl rfl rfl rfl rfl rfl rfl rfl rfl (by decide) rfl (by first | exact fun _ => rfl | (intro h; cases h))) ?_
   refine AOps.nil ?_
   refine AGo.seq ?_
   refine AGo.draw mix ?_
   refine dm 74 ?_
   refine dq 75 (q_nilCheck rfl rfl rfl) ?_
   refine df 76 tok ?_
   refine dl 77 tok ?_
   refine dm 78 ?_
   refine df 79 tok ?_
   refine dl 80 tok ?_
   refine dq 81 (q_len tok rfl rfl rfl rfl rfl) ?_
   refine dx 82 (o_makeSlice tok (n := x.ins.length) (m := x.ins.length) (4 * k + 1 + 16) true rfl rfl rfl (by simp) (by simp) rfl rfl rfl (by (try simp only [hputs]); (repeat (first | refine hput_skip (by exact beq_false_of_ne (by omega)) ?_ | refine hrm_skip (by omega) ?_)); exact (fam_hi _ _ _).trans (congrArg some rG4_new)) rfl (Nat.zero_lt_succ _) rfl (Nat.le_refl _) (by show 1 * x.ins.length ≤ _; omega) (by simp only [maxLen]; omega)) ?_
   refine dq 83 (q_index_ref tok rfl rfl rfl rfl rfl rfl (by (try simp only [hputs]); repeat (first | rfl | exact hput_same _ _ _ | refine hput_skip (by exact beq_false_of_ne (by omega)) ?_ | refine hrm_skip (by omega) ?_ | refine (famW_out _ (fun i_ _ => by first | omega | (dsimp only; omega))).trans ?_)) (colF_len _ _).symm rfl (Int.natCast_nonneg _) (by omega)) ?_
   refine DOps.w rfl rfl (o_store1 tok (p := false) (sz := 1) (es := colF (gK f k) f.blocks.length) (cs := [gK f k k]) rfl rfl rfl rfl rfl rfl (by (try simp only [hputs]); repeat (first | rfl | exact hput_same _ _ _ | refine hput_skip (by exact beq_false_of_ne (by omega)) ?_ | refine hrm_skip (by omega) ?_ | refine (famW_out _ (fun i_ _ => by first | omega | (dsimp only; omega))).trans ?_)) (colF_len _ _).symm (by rw [Nat.zero_add, Int.toNat_natCast]; exact colF_get hkl) rfl (by decide) rfl (by intro h; cases h)) ?_
   refine DOps.nilC cls4 [([],[]), ([],[]), ([],[]), ([2],[]), ([],[]), ([],[]), ([8],[]), ([],[]), ([17],[17]), ([5],[]), ([5],[5])] (by repeat (first | exact trivial | refine ⟨(by first | exact cls_nil _ _ | exact (show clsIn cls4 [2] [2] from cls_one (by decide)) | exact (show clsIn cls4 [3] [3] from cls_one (by decide)) | exact (show clsIn cls4 [4] [4] from cls_one (by decide)) | exact (show clsIn cls4 [5] [5] from cls_one (by decide)) | exact (show clsIn cls4 [6] [6] from cls_one (by decide)) | exact (show clsIn cls4 [7] [7] from cls_one (by decide)) | exact (show clsIn cls4 [8] [8] from cls_one (by decide)) | exact (show clsIn cls4 [9] [9] from cls_one (by decide)) | exact (show clsIn cls4 [10] [10] from cls_one (by decide)) | exact (show clsIn cls4 [11] [11] from cls_one (by decide)) | exact (show clsIn cls4 [12] [12] from cls_one (by decide)) | exact (show clsIn cls4 [13] [13] from cls_one (by decide)) | exact (show clsIn cls4 [14] [14] from cls_one (by decide)) | exact (show clsIn cls4 [15] [15] from cls_one (by decide)) | exact cls_one (by decide) | exact cls_two (by decide) (by decide) | exact cls_one (by first | rw [cls4_0]; decide | rw [cls4_1]; decide | rw [cls4_2]; decide | rw [cls4_3]; decide)), (by first | exact cls_nil _ _ | exact (show clsIn cls4 [2] [2] from cls_one (by decide)) | exact (show clsIn cls4 [3] [3] from cls_one (by decide)) | exact (show clsIn cls4 [4] [4] from cls_one (by decide)) | exact (show clsIn cls4 [5] [5] from cls_one (by decide)) | exact (show clsIn cls4 [6] [6] from cls_one (by decide)) | exact (show clsIn cls4 [7] [7] from cls_one (by decide)) | exact (show clsIn cls4 [8] [8] from cls_one (by decide)) | exact (show clsIn cls4 [9] [9] from cls_one (by decide)) | exact (show clsIn cls4 [10] [10] from cls_one (by decide)) | exact (show clsIn cls4 [11] [11] from cls_one (by decide)) | exact (show clsIn cls4 [12] [12] from cls_one (by decide)) | exact (show clsIn cls4 [13] [13] from cls_one (by decide)) | exact (show clsIn cls4 [14] [14] from cls_one (by decide)) | exact (show clsIn cls4 [15] [15] from cls_one (by decide)) | exact cls_one (by decide) | exact cls_two (by decide) (by decide) | exact cls_one (by first | rw [cls4_0]; decide | rw [cls4_1]; decide | rw [cls4_2]; decide | rw [cls4_3]; decide)), ?_⟩)) (by kernel_rfl) ?_
   refine AGo.seq ?_
   refine AGo.seq ?_
   refine AGo.region ?_
   refine af 84 tok ?_
   refine aq 85 (q_load tok rfl rfl rfl (.ptr _ _ _ _ _ _ _ _ (by (try simp only [hputs]); repeat (first | rfl | exact hput_same _ _ _ | refine hput_skip (by exact beq_false_of_ne (by omega)) ?_ | refine hrm_skip (by omega) ?_ | refine (famW_out _ (fun i_ _ => by first | omega | (dsimp only; omega))).trans ?_)) rfl rfl) rfl) ?_
   refine aq 86 (q_len tok rfl rfl rfl rfl rfl) ?_
   refine am 87 ?_
   refine AOps.nil ?_
   refine AGo.block ?_
   refine AGo.loopK (γ := Nat) (kf 9) (fun j => ⟨152, (eput (eput (eput (eput (eput (eput (eput (eput (eput (eput eNew 1 (.ptr 0 1 0 0)) 3 (.ptr 2 1 0 0)) 67 (blocksAV f.blocks)) 68 (.int .i64 (f.blocks.length : Int))) 69 (.int .i64 (k : Int))) 8 (.int .i64 (k : Int))) 9 (.ptr 8 1 0 0)) 85 (insAV x.ins)) 86 (.int .i64 (x.ins.length : Int))) 87 (.int .i64 (j : Int))), (fam (nb [(.row false 2 [f.cells]), .free, (.row false 8 [NSc f R]), (.row false 1 (colF (aR (aheadL f)) f.blocks.length)), (.row false 1 (colF (oR f.blocks.length R (phS f k (curU x j []))) R)), (.row false 1 (colF (gK f (k + 1)) f.blocks.length)), .free, .free, (.row false 5 [x.cells])]) (NSF f R (phS f k (curU x j [])) (k + 1)))⟩) (fun j => j ≤ x.ins.length) (fun j => x.ins.length - j) 0 (Sub.mk' (by repeat (first | exact ESub.new _ | refine ESub.put ?_ (by first | rfl | exact congrArg (fun (n : Nat) => some (AV.int .i64 (n : Int))) (by simp)))) (famSub (k0 := 9) rfl (by repeat (first | exact trivial | refine ⟨⟨by first | rfl | exact congrArg (fun S => some (AObj.row false 1 (colF (oR _ R S) R))) (phS_first f k x) | exact congrArg (fun es => some (AObj.row false 1 es)) (gK_put (insLen_eq hx)) | ((try simp only [hputs]); repeat (first | rfl | exact hput_same _ _ _ | refine hput_skip (by exact beq_false_of_ne (by omega)) ?_ | refine hrm_skip (by omega) ?_ | refine (famW_out _ (fun i_ _ => by first | omega | (dsimp only; omega))).trans ?_)), by first | rfl | exact colF_avoid (fun _ _ => aR_avoid (kf_hi' _) _ _) | exact colF_avoid (fun _ _ => oR_avoid (kf_hi' _) _ _ _ _) | exact colF_avoid (fun _ _ => gK_avoid (kf_hi' _) _ _ _)⟩, ?_⟩)) (fun x_ => by (try simp only [hputs]); rw [← phS_first f k x]; (repeat (first | refine hput_skip (by exact beq_false_of_ne (by omega)) ?_ | refine hrm_skip (by omega) ?_)); exact (hput_hi (fun y_ => by (try simp only [hputs]); (repeat (first | refine hput_skip (by exact beq_false_of_ne (by omega)) ?_ | refine hrm_skip (by omega) ?_)); exact fam_hi _ _ _) _ _ x_).trans (congrArg some (rG4_succ (insLen_eq hx) x_).symm)) (fun c h1 h2 => by rcases (by omega : c = 9 ∨ c = 10 ∨ c = 11 ∨ c = 12 ∨ c = 13 ∨ c = 14 ∨ c = 15) with rfl | rfl | rfl | rfl | rfl | rfl | rfl <;> first | rfl | (try simp only [hputs]; repeat (first | rfl | refine hput_skip (by exact beq_false_of_ne (by omega)) ?_ | refine hrm_skip (by omega) ?_))))) (Nat.zero_le _) (fun g b hb => famFree (k0 := 9) rfl hb) ?_
   intro j hj
   refine AGo.seq ?_
   refine AGo.region ?_
   refine aq 88 (q_bin rfl rfl rfl rfl) ?_
   refine AOps.nil ?_
   refine AGo.seq ?_
   refine AGo.split 88 rfl (fun hb4 => ?_) (fun hb4 => ?_)
   ·
    refine AGo.cond_true true rfl rfl ?_
    have hjl : j < x.ins.length := by have h := hb4; simp at h; exact h
    obtain ⟨t, ht⟩ := get_of_lt hjl
    have hin := hs.low x hxm t (List.mem_of_getElem? ht)
    refine AGo.skip ?_
    refine AGo.seq ?_
    refine AGo.block ?_
    refine AGo.seq ?_
    refine AGo.region ?_
    refine am 89 ?_
    refine aq 90 (q_index_lst tok rfl rfl rfl rfl rfl rfl (Int.natCast_nonneg _) (idx_map ht) rfl) ?_
    refine al 91 tok ?_
    refine ax 11 (o_alloc tok 9 rfl rfl rfl rfl (Nat.zero_lt_succ _) rfl) ?_
    refine aa 10 ?_
    refine AOps.w rfl rfl (o_store tok rfl rfl rfl rfl rfl rfl rfl rfl rfl (by decide) rfl (by first | exact fun _ => rfl | (intro h; cases h))) ?_
    refine AOps.nil ?_
    refine AGo.seq ?_
    refine AGo.seq ?_
    refine AGo.region ?_
    refine al 92 tok ?_
    refine ax 93 (o_pure rfl Try.func43 (by kernel_rfl) rfl rfl rfl (bUses_ok _)) ?_
    refine aq 94 (q_len tok rfl rfl rfl rfl rfl) ?_
    refine am 95 ?_
    refine AOps.nil ?_
    refine AGo.block ?_
    refine AGo.loopK (γ := Nat) (kf 10) (fun q => ⟨152, (eput (eput (eput (eput (eput (eput (eput (eput (eput (eput (eput (eput (eput (eput (eput eNew 1 (.ptr 0 1 0 0)) 3 (.ptr 2 1 0 0)) 67 (blocksAV f.blocks)) 68 (.int .i64 (f.blocks.length : Int))) 69 (.int .i64 (k : Int))) 8 (.int .i64 (k : Int))) 9 (.ptr 8 1 0 0)) 85 (insAV x.ins)) 86 (.int .i64 (x.ins.length : Int))) 87 (.int .i64 (j : Int))) 10 (.int .i64 (j : Int))) 11 (.ptr 9 1 0 0)) 93 (intsAV t.uses)) 94 (.int .i64 (t.uses.length : Int))) 95 (.int .i64 (q : Int))), (fam (nb [(.row false 2 [f.cells]), .free, (.row false 8 [NSc f R]), (.row false 1 (colF (aR (aheadL f)) f.blocks.length)), (.row false 1 (colF (oR f.blocks.length R (phS f k (curU x j (t.uses.take q)))) R)), (.row false 1 (colF (gK f (k + 1)) f.blocks.length)), .free, .free, (.row false 5 [x.cells]), (.row false 8 [t.cells])]) (NSF f R (phS f k (curU x j (t.uses.take q))) (k + 1)))⟩) (fun q => True) (fun q => t.uses.length - q) 0 (Sub.mk' (by repeat (first | exact ESub.new _ | refine ESub.put ?_ (by first | rfl | exact congrArg (fun (n : Nat) => some (AV.int .i64 (n : Int))) (by simp)))) (famSub (k0 := 10) rfl (by repeat (first | exact trivial | refine ⟨⟨by rfl, by first | rfl | exact colF_avoid (fun _ _ => aR_avoid (kf_hi' _) _ _) | exact colF_avoid (fun _ _ => oR_avoid (kf_hi' _) _ _ _ _) | exact colF_avoid (fun _ _ => gK_avoid (kf_hi' _) _ _ _)⟩, ?_⟩)) (fun x_ => by (try simp only [hputs]); repeat (first | exact fam_hi _ _ _ | refine hput_skip (by exact beq_false_of_ne (by omega)) ?_ | refine hrm_skip (by omega) ?_)) (fun c h1 h2 => by rcases (by omega : c = 10 ∨ c = 11 ∨ c = 12 ∨ c = 13 ∨ c = 14 ∨ c = 15) with rfl | rfl | rfl | rfl | rfl | rfl <;> first | rfl | (try simp only [hputs]; repeat (first | rfl | refine hput_skip (by exact beq_false_of_ne (by omega)) ?_ | refine hrm_skip (by omega) ?_))))) trivial (fun g b hb => famFree (k0 := 10) rfl hb) ?_
    intro q _
    refine AGo.seq ?_
    refine AGo.region ?_
    refine aq 96 (q_bin rfl rfl rfl rfl) ?_
    refine AOps.nil ?_
    refine AGo.seq ?_
    refine AGo.split 96 rfl (fun hb5 => ?_) (fun hb5 => ?_)
    ·
     refine AGo.cond_true true rfl rfl ?_
     have hql : q < t.uses.length := by have h := hb5; simp [intsAV] at h; exact h
     obtain ⟨u, hu⟩ := get_of_lt hql
     have hub := hin.2 u (List.mem_of_getElem? hu)
     have hub2 : u.toNat < R := by omega
     refine AGo.skip ?_
     refine AGo.seq ?_
     refine AGo.block ?_
     refine AGo.seq ?_
     refine AGo.region ?_
     refine aq 97 (q_index_lst tok rfl rfl rfl rfl rfl rfl (Int.natCast_nonneg _) (idx_map hu) rfl) ?_
     refine al 98 tok ?_
     refine aa 13 ?_
     refine AOps.nil ?_
     refine AGo.region ?_
     refine am 99 ?_
     refine am 100 ?_
     refine am 101 ?_
     refine am 102 ?_
     refine AOps.call 103 (hn := putD _ (DH (NSL f R (setS (phS f k (curU x j (t.uses.take q))) k u.toNat (noteL (phS f k (curU x j (t.uses.take q)) k u.toNat) j)) (k + 1)) (NSF f R (setS (phS f k (curU x j (t.uses.take q))) k u.toNat (noteL (phS f k (curU x j (t.uses.take q)) k u.toNat) j)) (k + 1)))) (r := .ptr (4 * (u.toNat + R * k) + 3 + 16) (noteL (phS f k (curU x j (t.uses.take q)) k u.toNat) j).length ((noteL (phS f k (curU x j (t.uses.take q)) k u.toNat) j).length - 1) 0) rfl rfl rfl (o_callDH (NSL f R (phS f k (curU x j (t.uses.take q))) (k + 1)) (NSL f R (setS (phS f k (curU x j (t.uses.take q))) k u.toNat (noteL (phS f k (curU x j (t.uses.take q)) k u.toNat) j)) (k + 1)) (NSF f R (setS (phS f k (curU x j (t.uses.take q))) k u.toNat (noteL (phS f k (curU x j (t.uses.take q)) k u.toNat) j)) (k + 1)) rfl Try.func44 (by kernel_rfl) rfl rfl rfl rfl rfl (NSL_avoid _ _ _ _) (NSL_avoid _ _ _ _) (by repeat (first | exact trivial | refine ⟨by first | rfl | exact putD_yes rfl, ?_⟩)) (fun x_ => by (try simp only [hputs]); (try dsimp only); first | exact fam_hi _ _ _ | exact (putD_hi _ _ x_).trans (fam_hi _ _ _) | ((repeat (first | refine hput_skip (by exact beq_false_of_ne (by omega)) ?_ | refine hrm_skip (by omega) ?_)); exact fam_hi _ _ _)) (NSF_avoid kD_hi f R _ _) (NSF_avoid kD_hi f R _ _) (by simp [AV.avoid, AV.flat, kD_hi]) (by have h := dnote_ok f.blocks.length R (phS f k (curU x j (t.uses.take q))) u.toNat k j hub2 hkl (phS_last f k _ _) (ph_len (by omega)) hn (.int .i64 f.regs) (blocksAV f.blocks) (pathsAV f.nexts) (.ref 3 f.blocks.length 0 f.blocks.length) (.ref 5 f.blocks.length 0 f.blocks.length) .nil .nil (.row false 1 (colF (aR (aheadL f)) f.blocks.length)) (.row false 1 (colF (gK f (k + 1)) f.blocks.length)) .free .free (rA4 f.blocks.length (aheadL f)) (rG4 f (k + 1) G0); rw [Int.toNat_of_nonneg hub.1] at h; first | exact h | (rw [List.length_map]; exact h))) ?_
     obtain ⟨s, hs1, hs2, hs3⟩ := si_last (noteL_pos (phS f k (curU x j (t.uses.take q)) k u.toNat) j)
     refine aq 104 (q_nilCheck rfl rfl rfl) ?_
     refine af 105 tok ?_
     refine AOps.w rfl rfl (o_store tok (es := (noteL (phS f k (curU x j (t.uses.take q)) k u.toNat) j).map siC) (cs := siC s) rfl rfl rfl rfl rfl (by (try simp only [hputs]); exact (putD_hi _ _ _).trans ((fam_hi _ _ _).trans (congrArg some (flag_row hub2 (noteL_pos _ _))))) (List.length_map _).symm (by rw [List.getElem?_map, hs1]; rfl) rfl (by decide) rfl (fun _ => rfl)) ?_
     refine AOps.nil ?_
     refine AGo.region ?_
     refine aq 106 (q_inc rfl rfl hql (by have := uses_len t; simp only [maxLen]; omega)) ?_
     refine am 95 ?_
     refine AOps.nil ?_
     exact ⟨q+1, DropK.mk' (by repeat (first | exact EDropK.new _ _ | refine EDropK.put ?_ (by rfl) (by first | rfl))) (famDrop (k0 := 10) rfl (by repeat (first | exact trivial | refine ⟨⟨by first | rfl | exact congrArg (fun es => some (AObj.row false 1 es)) (NSL_put flagR_len (ph_use hu hub.1)) | (refine (putD_yes rfl).trans ?_; exact congrArg (fun es => some (AObj.row false 1 es)) (NSL_put flagR_len (ph_use hu hub.1))) | exact putD_yes rfl | ((try simp only [hputs]); repeat (first | rfl | exact hput_same _ _ _ | refine hput_skip (by exact beq_false_of_ne (by omega)) ?_ | refine hrm_skip (by omega) ?_ | refine (famW_out _ (fun i_ _ => by first | omega | (dsimp only; omega))).trans ?_)), by first | rfl | exact colF_avoid (fun _ _ => aR_avoid (kf_hi' _) _ _) | exact colF_avoid (fun _ _ => oR_avoid (kf_hi' _) _ _ _ _) | exact colF_avoid (fun _ _ => gK_avoid (kf_hi' _) _ _ _)⟩, ?_⟩)) (fun x_ => (hput_hi (fun y_ => (putD_hi _ _ y_).trans (fam_hi _ _ _)) _ _ x_).trans (congrArg some (NSF_put hub2 flagR_len (noteL_pos _ _) (ph_use hu hub.1) hs2 x_).symm)) (NSF_avoid (kf_hi' _) f R _ _)), trivial, by omega⟩
    ·
     refine AGo.cond_false false rfl rfl ?_
     have hqge : t.uses.length ≤ q := by have h := hb5; simp [intsAV] at h; omega
     rw [List.take_of_length_le hqge]
     refine AGo.exit ?_
     refine AGo.seq ?_
     refine AGo.region ?_
     refine al 107 tok ?_
     refine ax 108 (o_pure rfl Try.func45 (by kernel_rfl) rfl rfl rfl (bSets_ok _)) ?_
     refine aa 14 ?_
     refine AOps.nil ?_
     refine AGo.seq ?_
     refine AGo.region ?_
     refine am 109 ?_
     refine aq 110 (q_bin rfl rfl rfl rfl) ?_
     refine AOps.nil ?_
     refine AGo.split 110 rfl (fun hb6 => ?_) (fun hb6 => ?_)
     ·
      refine AGo.cond_true true rfl rfl ?_
      have hsp : 0 ≤ t.sets := by simpa using hb6
      have hs2_ : t.sets.toNat < R := by have := hin.1 (sets_pos (by simpa using hb6)); rw [← sets_eq (sets_pos (by simpa using hb6))] at this; omega
      refine AGo.region ?_
      refine am 111 ?_
      refine am 112 ?_
      refine am 113 ?_
      refine am 114 ?_
      refine AOps.call 115 (hn := putD _ (DH (NSL f R (setS (phS f k (curU x j t.uses)) k t.sets.toNat (noteL (phS f k (curU x j t.uses) k t.sets.toNat) j)) (k + 1)) (NSF f R (setS (phS f k (curU x j t.uses)) k t.sets.toNat (noteL (phS f k (curU x j t.uses) k t.sets.toNat) j)) (k + 1)))) (r := .ptr (4 * (t.sets.toNat + R * k) + 3 + 16) (noteL (phS f k (curU x j t.uses) k t.sets.toNat) j).length ((noteL (phS f k (curU x j t.uses) k t.sets.toNat) j).length - 1) 0) rfl rfl rfl (o_callDH (NSL f R (phS f k (curU x j t.uses)) (k + 1)) (NSL f R (setS (phS f k (curU x j t.uses)) k t.sets.toNat (noteL (phS f k (curU x j t.uses) k t.sets.toNat) j)) (k + 1)) (NSF f R (setS (phS f k (curU x j t.uses)) k t.sets.toNat (noteL (phS f k (curU x j t.uses) k t.sets.toNat) j)) (k + 1)) rfl Try.func44 (by kernel_rfl) rfl rfl rfl rfl rfl (NSL_avoid _ _ _ _) (NSL_avoid _ _ _ _) (by repeat (first | exact trivial | refine ⟨by first | rfl | exact putD_yes rfl, ?_⟩)) (fun x_ => by (try simp only [hputs]); (try dsimp only); first | exact fam_hi _ _ _ | exact (putD_hi _ _ x_).trans (fam_hi _ _ _) | ((repeat (first | refine hput_skip (by exact beq_false_of_ne (by omega)) ?_ | refine hrm_skip (by omega) ?_)); exact fam_hi _ _ _)) (NSF_avoid kD_hi f R _ _) (NSF_avoid kD_hi f R _ _) (by simp [AV.avoid, AV.flat, kD_hi]) (by have h := dnote_ok f.blocks.length R (phS f k (curU x j t.uses)) t.sets.toNat k j hs2_ hkl (phS_last f k _ _) (ph_len (by omega)) hn (.int .i64 f.regs) (blocksAV f.blocks) (pathsAV f.nexts) (.ref 3 f.blocks.length 0 f.blocks.length) (.ref 5 f.blocks.length 0 f.blocks.length) .nil .nil (.row false 1 (colF (aR (aheadL f)) f.blocks.length)) (.row false 1 (colF (gK f (k + 1)) f.blocks.length)) .free .free (rA4 f.blocks.length (aheadL f)) (rG4 f (k + 1) G0); rw [Int.toNat_of_nonneg hsp] at h; first | exact h | (rw [List.length_map]; exact h))) ?_
      obtain ⟨s, hs1, hs2, hs3⟩ := si_last (noteL_pos (phS f k (curU x j t.uses) k t.sets.toNat) j)
      refine aq 116 (q_nilCheck rfl rfl rfl) ?_
      refine af 117 tok ?_
      refine AOps.w rfl rfl (o_store tok (es := (noteL (phS f k (curU x j t.uses) k t.sets.toNat) j).map siC) (cs := siC s) rfl rfl rfl rfl rfl (by (try simp only [hputs]); exact (putD_hi _ _ _).trans ((fam_hi _ _ _).trans (congrArg some (flag_row hs2_ (noteL_pos _ _))))) (List.length_map _).symm (by rw [List.getElem?_map, hs1]; rfl) rfl (by decide) rfl (fun _ => rfl)) ?_
      refine AOps.nil ?_
      refine AGo.region ?_
      refine aq 118 (q_inc rfl rfl hjl (by simp only [maxLen]; omega)) ?_
      refine am 87 ?_
      refine AOps.nil ?_
      exact ⟨j+1, DropK.mk' (by repeat (first | exact EDropK.new _ _ | refine EDropK.put ?_ (by rfl) (by first | rfl))) (famDrop (k0 := 9) rfl (by repeat (first | exact trivial | refine ⟨⟨by first | rfl | exact congrArg (fun es => some (AObj.row false 1 es)) (NSL_put flagS_len (ph_set ht hsp)) | (refine (putD_yes rfl).trans ?_; exact congrArg (fun es => some (AObj.row false 1 es)) (NSL_put flagS_len (ph_set ht hsp))) | exact putD_yes rfl | ((try simp only [hputs]); repeat (first | rfl | exact hput_same _ _ _ | refine hput_skip (by exact beq_false_of_ne (by omega)) ?_ | refine hrm_skip (by omega) ?_ | refine (famW_out _ (fun i_ _ => by first | omega | (dsimp only; omega))).trans ?_)), by first | rfl | exact colF_avoid (fun _ _ => aR_avoid (kf_hi' _) _ _) | exact colF_avoid (fun _ _ => oR_avoid (kf_hi' _) _ _ _ _) | exact colF_avoid (fun _ _ => gK_avoid (kf_hi' _) _ _ _)⟩, ?_⟩)) (fun x_ => (hput_hi (fun y_ => (putD_hi _ _ y_).trans (fam_hi _ _ _)) _ _ x_).trans (congrArg some (NSF_put hs2_ flagS_len (noteL_pos _ _) (ph_set ht hsp) hs3 x_).symm)) (NSF_avoid (kf_hi' _) f R _ _)), hjl, by omega⟩
     ·
      refine AGo.cond_false false rfl rfl ?_
      have hsp : ¬ 0 ≤ t.sets := by simpa using hb6
      refine AGo.skip ?_
      refine AGo.region ?_
      refine aq 118 (q_inc rfl rfl hjl (by simp only [maxLen]; omega)) ?_
      refine am 87 ?_
      refine AOps.nil ?_
      exact ⟨j+1, DropK.mk' (by repeat (first | exact EDropK.new _ _ | refine EDropK.put ?_ (by rfl) (by first | rfl))) (famDrop (k0 := 9) rfl (by repeat (first | exact trivial | refine ⟨⟨by first | rfl | exact congrArg (fun S => some (AObj.row false 1 (colF (oR _ R S) R))) (ph_noset ht hsp), by first | rfl | exact colF_avoid (fun _ _ => aR_avoid (kf_hi' _) _ _) | exact colF_avoid (fun _ _ => oR_avoid (kf_hi' _) _ _ _ _) | exact colF_avoid (fun _ _ => gK_avoid (kf_hi' _) _ _ _)⟩, ?_⟩)) (fun x_ => by rw [← ph_noset ht hsp]; exact fam_hi _ _ _) (NSF_avoid (kf_hi' _) f R _ _)), hjl, by omega⟩
   ·
    refine AGo.cond_false false rfl rfl ?_
    have hje : j = x.ins.length := by have h := hb4; simp at h; omega
    subst hje
    refine AGo.exit ?_
    refine AGo.seq ?_
    refine AGo.region ?_
    refine af 119 tok ?_
    refine al 120 tok ?_
    refine aq 121 (q_bin rfl rfl rfl rfl) ?_
    refine AOps.nil ?_
    refine AGo.split 121 rfl (fun hb7 => ?_) (fun hb7 => ?_)
    ·
     refine AGo.cond_true true rfl rfl ?_
     have hfin : x.fin = 2 := by simpa using hb7
     have hv2 := hs.fin x hxm hfin
     have hv3 : x.v.toNat < R := by omega
     refine AGo.region ?_
     refine am 122 ?_
     refine af 123 tok ?_
     refine al 124 tok ?_
     refine am 125 ?_
     refine af 126 tok ?_
     refine al 127 tok ?_
     refine aq 128 (q_len tok rfl rfl rfl rfl rfl) ?_
     refine AOps.call 129 (hn := putD _ (DH (NSL f R (setS (phS f k (curU x x.ins.length [])) k x.v.toNat (noteL (phS f k (curU x x.ins.length []) k x.v.toNat) x.ins.length)) (k + 1)) (NSF f R (setS (phS f k (curU x x.ins.length [])) k x.v.toNat (noteL (phS f k (curU x x.ins.length []) k x.v.toNat) x.ins.length)) (k + 1)))) (r := .ptr (4 * (x.v.toNat + R * k) + 3 + 16) (noteL (phS f k (curU x x.ins.length []) k x.v.toNat) x.ins.length).length ((noteL (phS f k (curU x x.ins.length []) k x.v.toNat) x.ins.length).length - 1) 0) rfl rfl rfl (o_callDH (NSL f R (phS f k (curU x x.ins.length [])) (k + 1)) (NSL f R (setS (phS f k (curU x x.ins.length [])) k x.v.toNat (noteL (phS f k (curU x x.ins.length []) k x.v.toNat) x.ins.length)) (k + 1)) (NSF f R (setS (phS f k (curU x x.ins.length [])) k x.v.toNat (noteL (phS f k (curU x x.ins.length []) k x.v.toNat) x.ins.length)) (k + 1)) rfl Try.func44 (by kernel_rfl) rfl rfl rfl rfl rfl (NSL_avoid _ _ _ _) (NSL_avoid _ _ _ _) (by repeat (first | exact trivial | refine ⟨by first | rfl | exact putD_yes rfl, ?_⟩)) (fun x_ => by (try simp only [hputs]); (try dsimp only); first | exact fam_hi _ _ _ | exact (putD_hi _ _ x_).trans (fam_hi _ _ _) | ((repeat (first | refine hput_skip (by exact beq_false_of_ne (by omega)) ?_ | refine hrm_skip (by omega) ?_)); exact fam_hi _ _ _)) (NSF_avoid kD_hi f R _ _) (NSF_avoid kD_hi f R _ _) (by simp [AV.avoid, AV.flat, kD_hi]) (by have h := dnote_ok f.blocks.length R (phS f k (curU x x.ins.length [])) x.v.toNat k x.ins.length hv3 hkl (phS_last f k _ _) (ph_len (by omega)) hn (.int .i64 f.regs) (blocksAV f.blocks) (pathsAV f.nexts) (.ref 3 f.blocks.length 0 f.blocks.length) (.ref 5 f.blocks.length 0 f.blocks.length) .nil .nil (.row false 1 (colF (aR (aheadL f)) f.blocks.length)) (.row false 1 (colF (gK f (k + 1)) f.blocks.length)) .free .free (rA4 f.blocks.length (aheadL f)) (rG4 f (k + 1) G0); rw [Int.toNat_of_nonneg hv2.1] at h; first | exact h | (rw [List.length_map]; exact h))) ?_
     obtain ⟨s, hs1, hs2, hs3⟩ := si_last (noteL_pos (phS f k (curU x x.ins.length []) k x.v.toNat) x.ins.length)
     refine aq 130 (q_nilCheck rfl rfl rfl) ?_
     refine af 131 tok ?_
     refine AOps.w rfl rfl (o_store tok (es := (noteL (phS f k (curU x x.ins.length []) k x.v.toNat) x.ins.length).map siC) (cs := siC s) rfl rfl rfl rfl rfl (by (try simp only [hputs]); exact (putD_hi _ _ _).trans ((fam_hi _ _ _).trans (congrArg some (flag_row hv3 (noteL_pos _ _))))) (List.length_map _).symm (by rw [List.getElem?_map, hs1]; rfl) rfl (by decide) rfl (fun _ => rfl)) ?_
     refine AOps.nil ?_
     refine AGo.region ?_
     refine aq 132 (q_inc rfl rfl hkl (by simp only [maxLen]; omega)) ?_
     refine am 69 ?_
     refine AOps.nil ?_
     exact ⟨k+1, DropK.mk' (by repeat (first | exact EDropK.new _ _ | refine EDropK.put ?_ (by rfl) (by first | rfl))) (famDrop (k0 := 8) rfl (by repeat (first | exact trivial | refine ⟨⟨by first | rfl | exact congrArg (fun es => some (AObj.row false 1 es)) (NSL_put flagR_len (ph_end hx hfin hv2.1)) | (refine (putD_yes rfl).trans ?_; exact congrArg (fun es => some (AObj.row false 1 es)) (NSL_put flagR_len (ph_end hx hfin hv2.1))) | exact putD_yes rfl | ((try simp only [hputs]); repeat (first | rfl | exact hput_same _ _ _ | refine hput_skip (by exact beq_false_of_ne (by omega)) ?_ | refine hrm_skip (by omega) ?_ | refine (famW_out _ (fun i_ _ => by first | omega | (dsimp only; omega))).trans ?_)), by first | rfl | exact colF_avoid (fun _ _ => aR_avoid (kf_hi' _) _ _) | exact colF_avoid (fun _ _ => oR_avoid (kf_hi' _) _ _ _ _) | exact colF_avoid (fun _ _ => gK_avoid (kf_hi' _) _ _ _)⟩, ?_⟩)) (fun x_ => (hput_hi (fun y_ => (putD_hi _ _ y_).trans (fam_hi _ _ _)) _ _ x_).trans (congrArg some (NSF_put hv3 flagR_len (noteL_pos _ _) (ph_end hx hfin hv2.1) hs2 x_).symm)) (NSF_avoid (kf_hi' _) f R _ _)), hkl, by omega⟩
    ·
     refine AGo.cond_false false rfl rfl ?_
     have hfin : ¬ x.fin = 2 := by simpa using hb7
     refine AGo.skip ?_
     refine AGo.region ?_
     refine aq 132 (q_inc rfl rfl hkl (by simp only [maxLen]; omega)) ?_
     refine am 69 ?_
     refine AOps.nil ?_
     exact ⟨k+1, DropK.mk' (by repeat (first | exact EDropK.new _ _ | refine EDropK.put ?_ (by rfl) (by first | rfl))) (famDrop (k0 := 8) rfl (by repeat (first | exact trivial | refine ⟨⟨by first | rfl | exact congrArg (fun S => some (AObj.row false 1 (colF (oR _ R S) R))) (ph_noend hx hfin), by first | rfl | exact colF_avoid (fun _ _ => aR_avoid (kf_hi' _) _ _) | exact colF_avoid (fun _ _ => oR_avoid (kf_hi' _) _ _ _ _) | exact colF_avoid (fun _ _ => gK_avoid (kf_hi' _) _ _ _)⟩, ?_⟩)) (fun x_ => by rw [← ph_noend hx hfin]; exact fam_hi _ _ _) (NSF_avoid (kf_hi' _) f R _ _)), hkl, by omega⟩
  ·
   refine AGo.cond_false false rfl rfl ?_
   have hge : f.blocks.length ≤ k := by have h := hb3; simp at h; omega
   refine AGo.exit ?_
   refine AGo.seq ?_
   have hkn : k = f.blocks.length := by omega
   subst hkn
   rw [phS_all, gK_all]
   refine AGo.region ?_
   refine am 133 ?_
   refine af 134 tok ?_
   refine al 135 tok ?_
   refine ax 136 (o_makeSlice tok (n := R) (m := R) 7 true rfl rfl rfl hRf hRf rfl rfl rfl rfl rfl (Nat.zero_lt_succ _) rfl (Nat.le_refl _) (by show 1 * R ≤ _; omega) (by simp only [maxLen]; omega)) ?_
   refine aq 137 (q_nilCheck rfl rfl rfl) ?_
   refine af 138 tok ?_
   refine AOps.w rfl rfl (o_store tok rfl rfl rfl rfl rfl rfl rfl rfl rfl (by decide) rfl (by first | exact fun _ => rfl | (intro h; cases h))) ?_
   refine AOps.nil ?_
   refine AGo.seq ?_
   refine AGo.seq ?_
   refine AGo.ghost (.dryCell 2 0 6 6 1 true rfl rfl rfl rfl rfl (by decide)) ?_
   refine AGo.region ?_
   refine am 139 ?_
   refine aq 140 (q_nilCheck rfl rfl rfl) ?_
   refine af 141 tok ?_
   refine al 142 tok ?_
   refine aq 143 (q_len tok rfl rfl rfl rfl rfl) ?_
   refine am 144 ?_
   refine AOps.nil ?_
   refine AGo.block ?_
   refine AGo.loopK (γ := Nat) (kf 8) (fun k => ⟨152, (eput (eput (eput (eput eNew 1 (.ptr 0 1 0 0)) 3 (.ptr 2 1 0 0)) 143 (.int .i64 (R : Int))) 144 (.int .i64 (k : Int))), (fam (nb [(.row false 2 [f.cells]), .free, (.row false 8 [SDc f R ((List.range k).map natC).length (k)]), (.row false 1 (colF (aR (aheadL f)) f.blocks.length)), (.row false 1 (colF (oR f.blocks.length R (SB f)) R)), (.row false 1 (colF (gR f) f.blocks.length)), (.row true 1 ((List.range k).map natC)), (.row true 1 (bC R (fun b => decide (b < k))))]) (DF f R (SB f) G0))⟩) (fun k => k ≤ R) (fun k => R - k) 0 (Sub.mk' (by repeat (first | exact ESub.new _ | refine ESub.put ?_ (by first | rfl | exact congrArg (fun (n : Nat) => some (AV.int .i64 (n : Int))) (by simp)))) (famSub (k0 := 8) rfl (by repeat (first | exact trivial | refine ⟨⟨by first | rfl | exact congrArg (fun es => some (AObj.row true 1 es)) (bC_start R), by first | rfl | exact colF_avoid (fun _ _ => aR_avoid (kf_hi' _) _ _) | exact colF_avoid (fun _ _ => oR_avoid (kf_hi' _) _ _ _ _) | exact colF_avoid (fun _ _ => gR_avoid (kf_hi' _) _ _)⟩, ?_⟩)) (fun x_ => by (try simp only [hputs]); repeat (first | exact fam_hi _ _ _ | refine hput_skip (by exact beq_false_of_ne (by omega)) ?_ | refine hrm_skip (by omega) ?_)) (fun c h1 h2 => by rcases (by omega : c = 8 ∨ c = 9 ∨ c = 10 ∨ c = 11 ∨ c = 12 ∨ c = 13 ∨ c = 14 ∨ c = 15) with rfl | rfl | rfl | rfl | rfl | rfl | rfl | rfl <;> first | rfl | (try simp only [hputs]; repeat (first | rfl | refine hput_skip (by exact beq_false_of_ne (by omega)) ?_ | refine hrm_skip (by omega) ?_))))) (Nat.zero_le _) (fun g b hb => famFree (k0 := 8) rfl hb) ?_
   intro k hk
   refine AGo.seq ?_
   refine AGo.region ?_
   refine aq 145 (q_bin rfl rfl rfl rfl) ?_
   refine AOps.nil ?_
   refine AGo.seq ?_
   refine AGo.split 145 rfl (fun hb8 => ?_) (fun hb8 => ?_)
   ·
    refine AGo.cond_true true rfl rfl ?_
    have hkl : k < R := by have h := hb8; simp at h; exact h
    refine AGo.skip ?_
    refine AGo.seq ?_
    refine AGo.block ?_
    refine AGo.seq ?_
    refine AGo.region ?_
    refine am 146 ?_
    refine aa 15 ?_
    refine AOps.nil ?_
    refine AGo.region ?_
    refine am 147 ?_
    refine am 148 ?_
    refine AOps.call 149 (hn := putD _ (DH (DSL f R (SB f) ((List.range (k + 1)).map natC) (k + 1) (fun b => decide (b < k + 1))) (DF f R (SB f) G0))) (r := .tup []) rfl rfl rfl (o_callDH (DSL f R (SB f) ((List.range k).map natC) (k) (fun b => decide (b < k))) (DSL f R (SB f) ((List.range (k + 1)).map natC) (k + 1) (fun b => decide (b < k + 1))) (DF f R (SB f) G0) rfl Try.func46 (by kernel_rfl) rfl rfl rfl rfl rfl (DSL_avoid _ _ _ _ _ _) (DSL_avoid _ _ _ _ _ _) (by repeat (first | exact trivial | refine ⟨by first | rfl | exact putD_yes rfl, ?_⟩)) (fun x_ => by (try simp only [hputs]); (try dsimp only); first | exact fam_hi _ _ _ | exact (putD_hi _ _ x_).trans (fam_hi _ _ _) | ((repeat (first | refine hput_skip (by exact beq_false_of_ne (by omega)) ?_ | refine hrm_skip (by omega) ?_)); exact fam_hi _ _ _)) (DF_avoid kD_hi f R _ _) (DF_avoid kD_hi f R _ _) rfl (by have h := dpush_ok f R (SB f) G0 ((List.range k).map natC) k (fun b => decide (b < k)) k hkl hR (by simp) (by simp; omega); rw [push_range, len_range, upd_range] at h; exact h)) ?_
    refine AOps.nil ?_
    refine AGo.region ?_
    refine aq 150 (q_inc rfl rfl hkl (by simp only [maxLen]; omega)) ?_
    refine am 144 ?_
    refine AOps.nil ?_
    exact ⟨k+1, DropK.mk' (by repeat (first | exact EDropK.new _ _ | refine EDropK.put ?_ (by rfl) (by first | rfl))) (famDrop (k0 := 8) rfl (by repeat (first | exact trivial | refine ⟨⟨by first | rfl | exact putD_yes rfl, by first | rfl | exact colF_avoid (fun _ _ => aR_avoid (kf_hi' _) _ _) | exact colF_avoid (fun _ _ => oR_avoid (kf_hi' _) _ _ _ _) | exact colF_avoid (fun _ _ => gR_avoid (kf_hi' _) _ _)⟩, ?_⟩)) (fun x_ => (putD_hi _ _ x_).trans (fam_hi _ _ _)) (DF_avoid (kf_hi' _) f R _ _)), hkl, by omega⟩
   ·
    refine AGo.cond_false false rfl rfl ?_
    have hge : R ≤ k := by have h := hb8; simp at h; omega
    refine AGo.exit ?_
    refine AGo.seq ?_
    refine AGo.region ?_
    refine am 151 ?_
    refine aa 2 ?_
    refine AOps.nil ?_
    refine AGo.ret ?_
    have hkn : k = R := by omega
    subst hkn
    exact ⟨[_], ⟨rfl, trivial⟩, rfl, (dh_sub rfl (by repeat (first | exact trivial | refine ⟨by rfl, ?_⟩)) (fun x_ => by (try simp only [hputs]); (try dsimp only); first | exact fam_hi _ _ _ | exact (putD_hi _ _ x_).trans (fam_hi _ _ _) | ((repeat (first | refine hput_skip (by exact beq_false_of_ne (by omega)) ?_ | refine hrm_skip (by omega) ?_)); exact fam_hi _ _ _)))⟩

end Go.Proofs.Ytjmjmedjjbginaa.Sv

namespace Go.Proofs.Ytjmjmedjjbginaa.Sv
open Go

set_option maxRecDepth 100000 in
theorem gone_ok (f : BFunc) (R : Nat) (S : SS) (G : GG) (es : List (List AV)) (len : Nat) (w : Nat → Bool) (i : Nat) (x : Block) (hx : f.blocks[i]? = some x) (j : Nat) (hj : j < x.ins.length) : ACall Try.prog 29 [.int .i64 (j : Int), .ptr 8 1 0 0, .ptr 12 1 0 0] (WS f R S G es len w i) (fun r h' => r = .bool (G i j) ∧ HSub (putK kW hNone (WS f R S G es len w i)) h') := by
 have hb : i < f.blocks.length := (List.getElem?_eq_some_iff.1 hx).1
 refine ACall.of_body (n := 15) tok Try.func29 rfl rfl ?_
 refine AGo.seq ?_
 refine AGo.region ?_
 refine aa 4 ?_
 refine AOps.nil ?_
 refine AGo.seq ?_
 refine AGo.draw mix ?_
 refine dl 5 tok ?_
 refine dq 6 (q_nilCheck rfl rfl rfl) ?_
 refine df 7 tok ?_
 refine dl 8 tok ?_
 refine dl 9 tok ?_
 refine dq 10 (q_index_ref tok rfl rfl rfl rfl rfl rfl rfl (colF_len _ _).symm rfl (Int.natCast_nonneg _) (by omega)) ?_
 refine dq 11 (q_load tok rfl rfl rfl (.ptr _ _ _ _ _ _ _ [gR f i] rfl (colF_len _ _).symm (by rw [Nat.zero_add, Int.toNat_natCast]; exact colF_get hb)) rfl) ?_
 refine dm 12 ?_
 refine dq 13 (q_index_ref tok rfl rfl rfl rfl rfl rfl ((fam_hi _ _ _).trans (congrArg some (rG4_at hb hx))) (by rw [colF_len, insLen_eq hx]) rfl (Int.natCast_nonneg _) (by rw [insLen_eq hx]; omega)) ?_
 refine dq 14 (q_load tok rfl rfl rfl (.ptr _ _ _ _ true 1 (bC x.ins.length (G i)) [.bool (G i j)] ((fam_hi _ _ _).trans (congrArg some (rG4_at hb hx))) (by rw [colF_len, insLen_eq hx]) (by rw [Nat.zero_add, Int.toNat_natCast]; exact colF_get hj)) rfl) ?_
 refine da 4 ?_
 refine DOps.nil (by kernel_rfl) ?_
 refine AGo.ret ?_
 exact ⟨[_], ⟨rfl, trivial⟩, rfl, putK_sub (WH_of rfl rfl rfl rfl rfl rfl rfl rfl (fun x_ => by dsimp only; exact fam_hi _ _ _))⟩

set_option maxHeartbeats 1000000 in
set_option maxRecDepth 100000 in
theorem without_ok (f : BFunc) (R : Nat) (S : SS) (G : GG) (es : List (List AV)) (len : Nat) (w : Nat → Bool) (i : Nat) (x : Block) (hx : f.blocks[i]? = some x) (hi : x.ins.length ≤ 100000) : ACall Try.prog 28 [insAV x.ins, (.fn (.func 29) [] [.ptr 8 1 0 0, .ptr 12 1 0 0])] (WS f R S G es len w i) (fun r h' => r = insAV (kpI (G i) x.ins 0) ∧ HSub (putK kW hNone (WS f R S G es len w i)) h') := by
 refine ACall.of_body (n := 28) tok Try.func28 rfl rfl ?_
 refine AGo.seq ?_
 refine AGo.region ?_
 refine aa 4 ?_
 refine AOps.nil ?_
 refine AGo.seq ?_
 refine AGo.region ?_
 refine am 8 ?_
 refine aq 9 (q_len tok rfl rfl rfl rfl rfl) ?_
 refine ax 10 (o_makeSlice tok (n := 0) (m := x.ins.length) 9 true rfl rfl rfl (rfl) (by simp) rfl rfl rfl rfl rfl (Nat.zero_lt_succ _) rfl (Nat.zero_le _) (by show 64 * x.ins.length ≤ _; omega) (by simp only [maxLen]; omega)) ?_
 refine aa 5 ?_
 refine AOps.nil ?_
 refine AGo.seq ?_
 refine AGo.seq ?_
 refine AGo.region ?_
 refine am 11 ?_
 refine aq 12 (q_len tok rfl rfl rfl rfl rfl) ?_
 refine am 13 ?_
 refine AOps.nil ?_
 refine AGo.block ?_
 refine AGo.loopK (γ := Nat) (kf 13) (fun j => ⟨28, (eput (eput (eput (eput (eput eNew 1 (.fn (.func 29) [] [.ptr 8 1 0 0, .ptr 12 1 0 0])) 5 (.ref 9 (kpI (G i) (x.ins.take j) 0).length 0 (kpI (G i) (x.ins.take j) 0).length)) 11 (insAV x.ins)) 12 (.int .i64 (x.ins.length : Int))) 13 (.int .i64 (j : Int))), (fam (nb [.free, .free, (.row false 8 [SDc f R (es).length (len)]), (.row false 1 (colF (aR (aheadL f)) f.blocks.length)), (.row false 1 (colF (oR f.blocks.length R S) R)), (.row false 1 (colF (gR f) f.blocks.length)), (.row true 1 (es)), (.row true 1 (bC R (w))), ArW, (.row true 8 ((kpI (G i) (x.ins.take j) 0).map Tac.cells)), .free, .free, (BrW i)]) (DF f R S G))⟩) (fun j => j ≤ x.ins.length) (fun j => x.ins.length - j) 0 (Sub.mk' (by repeat (first | exact ESub.new _ | refine ESub.put ?_ (by first | rfl | exact congrArg (fun (n : Nat) => some (AV.int .i64 (n : Int))) (by simp)))) (famSub (k0 := 13) rfl (by repeat (first | exact trivial | refine ⟨⟨by rfl, by first | rfl | exact colF_avoid (fun _ _ => aR_avoid (kf_hi' _) _ _) | exact colF_avoid (fun _ _ => oR_avoid (kf_hi' _) _ _ _ _) | exact colF_avoid (fun _ _ => gR_avoid (kf_hi' _) _ _)⟩, ?_⟩)) (fun x_ => by (try simp only [hputs]); repeat (first | exact fam_hi _ _ _ | refine hput_skip (by exact beq_false_of_ne (by omega)) ?_ | refine hrm_skip (by omega) ?_)) (fun c h1 h2 => by rcases (by omega : c = 13 ∨ c = 14 ∨ c = 15) with rfl | rfl | rfl <;> first | rfl | (try simp only [hputs]; repeat (first | rfl | refine hput_skip (by exact beq_false_of_ne (by omega)) ?_ | refine hrm_skip (by omega) ?_))))) (Nat.zero_le _) (fun g b hb => famFree (k0 := 13) rfl hb) ?_
 intro j hj
 refine AGo.seq ?_
 refine AGo.region ?_
 refine aq 14 (q_bin rfl rfl rfl rfl) ?_
 refine AOps.nil ?_
 refine AGo.seq ?_
 refine AGo.split 14 rfl (fun hb1 => ?_) (fun hb1 => ?_)
 ·
  refine AGo.cond_true true rfl rfl ?_
  have hjl : j < x.ins.length := by have h := hb1; simp at h; exact h
  obtain ⟨t, ht⟩ := get_of_lt hjl
  refine AGo.skip ?_
  refine AGo.seq ?_
  refine AGo.block ?_
  refine AGo.seq ?_
  refine AGo.region ?_
  refine am 15 ?_
  refine aq 16 (q_index_lst tok rfl rfl rfl rfl rfl rfl (Int.natCast_nonneg _) (idx_map ht) rfl) ?_
  refine al 17 tok ?_
  refine ax 7 (o_alloc tok 13 rfl rfl rfl rfl (Nat.zero_lt_succ _) rfl) ?_
  refine aa 6 ?_
  refine AOps.w rfl rfl (o_store tok rfl rfl rfl rfl rfl rfl rfl rfl rfl (by decide) rfl (by first | exact fun _ => rfl | (intro h; cases h))) ?_
  refine AOps.nil ?_
  refine AGo.seq ?_
  refine AGo.region ?_
  refine am 18 ?_
  refine am 19 ?_
  refine AOps.call 20 (hn := _) (r := .bool (G i j)) rfl rfl rfl (o_callFR (W := (WS f R S G es len w i)) kW rfl rfl Try.func29 (by kernel_rfl) rfl rfl rfl (WH_of (by (try simp only [hputs]); repeat (first | rfl | exact hput_same _ _ _ | refine hput_skip (by exact beq_false_of_ne (by omega)) ?_ | refine hrm_skip (by omega) ?_ | refine (famW_out _ (fun i_ _ => by first | omega | (dsimp only; omega))).trans ?_)) (by (try simp only [hputs]); repeat (first | rfl | exact hput_same _ _ _ | refine hput_skip (by exact beq_false_of_ne (by omega)) ?_ | refine hrm_skip (by omega) ?_ | refine (famW_out _ (fun i_ _ => by first | omega | (dsimp only; omega))).trans ?_)) (by (try simp only [hputs]); repeat (first | rfl | exact hput_same _ _ _ | refine hput_skip (by exact beq_false_of_ne (by omega)) ?_ | refine hrm_skip (by omega) ?_ | refine (famW_out _ (fun i_ _ => by first | omega | (dsimp only; omega))).trans ?_)) (by (try simp only [hputs]); repeat (first | rfl | exact hput_same _ _ _ | refine hput_skip (by exact beq_false_of_ne (by omega)) ?_ | refine hrm_skip (by omega) ?_ | refine (famW_out _ (fun i_ _ => by first | omega | (dsimp only; omega))).trans ?_)) (by (try simp only [hputs]); repeat (first | rfl | exact hput_same _ _ _ | refine hput_skip (by exact beq_false_of_ne (by omega)) ?_ | refine hrm_skip (by omega) ?_ | refine (famW_out _ (fun i_ _ => by first | omega | (dsimp only; omega))).trans ?_)) (by (try simp only [hputs]); repeat (first | rfl | exact hput_same _ _ _ | refine hput_skip (by exact beq_false_of_ne (by omega)) ?_ | refine hrm_skip (by omega) ?_ | refine (famW_out _ (fun i_ _ => by first | omega | (dsimp only; omega))).trans ?_)) (by (try simp only [hputs]); repeat (first | rfl | exact hput_same _ _ _ | refine hput_skip (by exact beq_false_of_ne (by omega)) ?_ | refine hrm_skip (by omega) ?_ | refine (famW_out _ (fun i_ _ => by first | omega | (dsimp only; omega))).trans ?_)) (by (try simp only [hputs]); repeat (first | rfl | exact hput_same _ _ _ | refine hput_skip (by exact beq_false_of_ne (by omega)) ?_ | refine hrm_skip (by omega) ?_ | refine (famW_out _ (fun i_ _ => by first | omega | (dsimp only; omega))).trans ?_)) (fun x_ => by (try simp only [hputs]); (try dsimp only); first | exact fam_hi _ _ _ | ((repeat (first | refine hput_skip (by exact beq_false_of_ne (by omega)) ?_ | refine hrm_skip (by omega) ?_)); exact fam_hi _ _ _))) (WS_avoid f R S G es len w i) WH_free rfl (gone_ok f R S G es len w i x hx j hjl)) ?_
  refine aq 21 (q_not rfl rfl) ?_
  refine AOps.nil ?_
  refine AGo.split 21 rfl (fun hb2 => ?_) (fun hb2 => ?_)
  ·
   refine AGo.cond_true true rfl rfl ?_
   have hg : G i j = false := by have h := hb2; simpa using h
   refine AGo.region ?_
   refine am 22 ?_
   refine al 23 tok ?_
   refine ax 24 (o_lit' tok rfl rfl rfl rfl rfl rfl (by decide) rfl rfl rfl rfl rfl rfl) ?_
   refine ax 25 (o_append tok (n := (kpI (G i) (x.ins.take j) 0).length) (m := 1) (es := (kpI (G i) (x.ins.take j) 0).map Tac.cells) rfl rfl rfl rfl rfl rfl rfl rfl rfl (by rw [List.length_map]) rfl rfl (Nat.zero_lt_succ _) (.lst _ _) (by intro cs h; simp [partVals] at h; subst h; rfl) (fun _ cs h => by simp [partVals] at h; subst h; rfl) rfl (by have h1 := kpI_len (G i) (x.ins.take j) 0; rw [List.length_take] at h1; simp [partVals]; omega) (by have h1 := kpI_len (G i) (x.ins.take j) 0; rw [List.length_take] at h1; simp [partVals]; simp only [maxLen]; omega)) ?_
   refine aa 5 ?_
   refine AOps.nil ?_
   refine AGo.region ?_
   refine aq 26 (q_inc rfl rfl hjl (by simp only [maxLen]; omega)) ?_
   refine am 13 ?_
   refine AOps.nil ?_
   exact ⟨j+1, DropK.mk' (by repeat (first | exact EDropK.new _ _ | refine EDropK.put ?_ (by first | rfl | exact congrArg (fun m => some (AV.ref 9 m 0 m)) (congrArg List.length (kpI_gone ht hg).symm) | exact congrArg (fun m => some (AV.ref 9 m 0 m)) ((List.length_map (f := Tac.cells)).symm.trans ((congrArg List.length (kpI_left ht hg).symm).trans (by simp))).symm | exact congrArg (fun (n : Nat) => some (AV.int .i64 (n : Int))) (by simp)) (by first | rfl))) (famDrop (k0 := 13) rfl (by repeat (first | exact trivial | refine ⟨⟨by first | rfl | exact congrArg (fun es => some (AObj.row true 8 es)) (kpI_left ht hg) | exact congrArg (fun l => some (AObj.row true 8 (l.map Tac.cells))) (kpI_gone ht hg).symm | ((try simp only [hputs]); repeat (first | rfl | exact hput_same _ _ _ | refine hput_skip (by exact beq_false_of_ne (by omega)) ?_ | refine hrm_skip (by omega) ?_ | refine (famW_out _ (fun i_ _ => by first | omega | (dsimp only; omega))).trans ?_)), by first | rfl | exact colF_avoid (fun _ _ => aR_avoid (kf_hi' _) _ _) | exact colF_avoid (fun _ _ => oR_avoid (kf_hi' _) _ _ _ _) | exact colF_avoid (fun _ _ => gR_avoid (kf_hi' _) _ _)⟩, ?_⟩)) (fun x_ => by (try simp only [hputs]); repeat (first | exact fam_hi _ _ _ | refine hput_skip (by exact beq_false_of_ne (by omega)) ?_ | refine hrm_skip (by omega) ?_)) (DF_avoid (kf_hi' _) f R _ _)), hjl, by omega⟩
  ·
   refine AGo.cond_false false rfl rfl ?_
   have hg : G i j = true := by have h := hb2; simpa using h
   refine AGo.skip ?_
   refine AGo.region ?_
   refine aq 26 (q_inc rfl rfl hjl (by simp only [maxLen]; omega)) ?_
   refine am 13 ?_
   refine AOps.nil ?_
   exact ⟨j+1, DropK.mk' (by repeat (first | exact EDropK.new _ _ | refine EDropK.put ?_ (by first | rfl | exact congrArg (fun m => some (AV.ref 9 m 0 m)) (congrArg List.length (kpI_gone ht hg).symm) | exact congrArg (fun m => some (AV.ref 9 m 0 m)) ((List.length_map (f := Tac.cells)).symm.trans ((congrArg List.length (kpI_left ht hg).symm).trans (by simp))).symm | exact congrArg (fun (n : Nat) => some (AV.int .i64 (n : Int))) (by simp)) (by first | rfl))) (famDrop (k0 := 13) rfl (by repeat (first | exact trivial | refine ⟨⟨by first | rfl | exact congrArg (fun es => some (AObj.row true 8 es)) (kpI_left ht hg) | exact congrArg (fun l => some (AObj.row true 8 (l.map Tac.cells))) (kpI_gone ht hg).symm | ((try simp only [hputs]); repeat (first | rfl | exact hput_same _ _ _ | refine hput_skip (by exact beq_false_of_ne (by omega)) ?_ | refine hrm_skip (by omega) ?_ | refine (famW_out _ (fun i_ _ => by first | omega | (dsimp only; omega))).trans ?_)), by first | rfl | exact colF_avoid (fun _ _ => aR_avoid (kf_hi' _) _ _) | exact colF_avoid (fun _ _ => oR_avoid (kf_hi' _) _ _ _ _) | exact colF_avoid (fun _ _ => gR_avoid (kf_hi' _) _ _)⟩, ?_⟩)) (fun x_ => by (try simp only [hputs]); repeat (first | exact fam_hi _ _ _ | refine hput_skip (by exact beq_false_of_ne (by omega)) ?_ | refine hrm_skip (by omega) ?_)) (DF_avoid (kf_hi' _) f R _ _)), hjl, by omega⟩
 ·
  refine AGo.cond_false false rfl rfl ?_
  have hje : j = x.ins.length := by have h := hb1; simp at h; omega
  subst hje
  refine AGo.exit ?_
  refine AGo.seq ?_
  refine AGo.ghost (.freeze 5 9 rfl rfl (by rw [List.length_map])) ?_
  refine AGo.region ?_
  refine am 27 ?_
  refine aa 4 ?_
  refine AOps.nil ?_
  refine AGo.ret ?_
  refine ⟨[_], ⟨rfl, trivial⟩, ?_, putK_sub (WH_of (by (try simp only [hputs]); repeat (first | rfl | exact hput_same _ _ _ | refine hput_skip (by exact beq_false_of_ne (by omega)) ?_ | refine hrm_skip (by omega) ?_ | refine (famW_out _ (fun i_ _ => by first | omega | (dsimp only; omega))).trans ?_)) (by (try simp only [hputs]); repeat (first | rfl | exact hput_same _ _ _ | refine hput_skip (by exact beq_false_of_ne (by omega)) ?_ | refine hrm_skip (by omega) ?_ | refine (famW_out _ (fun i_ _ => by first | omega | (dsimp only; omega))).trans ?_)) (by (try simp only [hputs]); repeat (first | rfl | exact hput_same _ _ _ | refine hput_skip (by exact beq_false_of_ne (by omega)) ?_ | refine hrm_skip (by omega) ?_ | refine (famW_out _ (fun i_ _ => by first | omega | (dsimp only; omega))).trans ?_)) (by (try simp only [hputs]); repeat (first | rfl | exact hput_same _ _ _ | refine hput_skip (by exact beq_false_of_ne (by omega)) ?_ | refine hrm_skip (by omega) ?_ | refine (famW_out _ (fun i_ _ => by first | omega | (dsimp only; omega))).trans ?_)) (by (try simp only [hputs]); repeat (first | rfl | exact hput_same _ _ _ | refine hput_skip (by exact beq_false_of_ne (by omega)) ?_ | refine hrm_skip (by omega) ?_ | refine (famW_out _ (fun i_ _ => by first | omega | (dsimp only; omega))).trans ?_)) (by (try simp only [hputs]); repeat (first | rfl | exact hput_same _ _ _ | refine hput_skip (by exact beq_false_of_ne (by omega)) ?_ | refine hrm_skip (by omega) ?_ | refine (famW_out _ (fun i_ _ => by first | omega | (dsimp only; omega))).trans ?_)) (by (try simp only [hputs]); repeat (first | rfl | exact hput_same _ _ _ | refine hput_skip (by exact beq_false_of_ne (by omega)) ?_ | refine hrm_skip (by omega) ?_ | refine (famW_out _ (fun i_ _ => by first | omega | (dsimp only; omega))).trans ?_)) (by (try simp only [hputs]); repeat (first | rfl | exact hput_same _ _ _ | refine hput_skip (by exact beq_false_of_ne (by omega)) ?_ | refine hrm_skip (by omega) ?_ | refine (famW_out _ (fun i_ _ => by first | omega | (dsimp only; omega))).trans ?_)) (fun x_ => by dsimp only; rw [hrm_ne _ (by omega)]; exact fam_hi _ _ _))⟩
  show AV.lst false _ = AV.lst false _
  rw [List.take_length, List.drop_zero, List.take_of_length_le (by rw [List.length_map]; exact Nat.le_refl _)]

end Go.Proofs.Ytjmjmedjjbginaa.Sv

namespace Go.Proofs.Ytjmjmedjjbginaa.Sv
open Go

set_option maxHeartbeats 4000000 in
set_option maxRecDepth 100000 in
theorem deadOf_ok (f : BFunc) (hs : f.sane) (hn0 : 0 < f.blocks.length) (hn : f.blocks.length ≤ 100000) (hr : f.regs ≤ 100000) (hi : ∀ x ∈ f.blocks, x.ins.length ≤ 100000) : APure Try.prog 13 [.agg f.cells] (fun r => r = .tup [.agg (dnf f).cells, .agg [rowsAV (inRows (dnf f))]]) := by
 have hr0 := hs.regs
 obtain ⟨R, hRf⟩ : ∃ R : Nat, f.regs = (R : Int) := ⟨f.regs.toNat, by omega⟩
 have hR : R ≤ 100000 := by omega
 refine APure.of_body (n := 83) tok Try.func13 rfl rfl ?_
 refine AGo.seq ?_
 refine AGo.region ?_
 refine ax 1 (o_box (sz := 2) 0 rfl rfl rfl rfl (Nat.zero_lt_succ _) rfl) ?_
 refine ax 2 (o_alloc tok 1 rfl rfl rfl rfl (Nat.zero_lt_succ _) rfl) ?_
 refine ax 3 (o_alloc tok 9 rfl rfl rfl rfl (Nat.zero_lt_succ _) rfl) ?_
 refine AOps.nil ?_
 refine AGo.seq ?_
 refine AGo.region ?_
 refine al 9 tok ?_
 refine AOps.call 10 (hn := putD _ (DH (DSL f R (SB f) ((List.range R).map natC) (R) (fun b => decide (b < R))) (DF f R (SB f) G0))) (r := .ptr 2 1 0 0) rfl rfl rfl (o_callKW (W := hNew) (W' := (DH (DSL f R (SB f) ((List.range R).map natC) (R) (fun b => decide (b < R))) (DF f R (SB f) G0))) kD rfl Try.func26 (by kernel_rfl) rfl rfl rfl (fun b hb => by have := kD_true hb; (try simp only [hputs]); show _ = some AObj.free; (repeat (first | refine hput_skip (by exact beq_false_of_ne (by omega)) ?_ | refine hrm_skip (by omega) ?_)); rfl) (fun b hb => ⟨.free, rfl, rfl⟩) (fun b hb => rfl) (fun b hb => DH_avoid rfl (DSL_avoid _ _ _ _ _ _) (DF_avoid kD_hi f R _ _) hb) rfl (newSearch_ok f hs R hRf hR hn hi)) ?_
 refine ax 4 (o_alloc tok 8 rfl rfl rfl rfl (Nat.zero_lt_succ _) rfl) ?_
 refine AOps.w rfl rfl (o_store tok rfl rfl rfl rfl rfl rfl rfl rfl rfl (by decide) rfl (by first | exact fun _ => rfl | (intro h; cases h))) ?_
 refine AOps.nil ?_
 refine AGo.seq ?_
 refine AGo.block ?_
 refine AGo.loopK (γ := RS) (kf 10) (fun st => ⟨83, (eput (eput (eput (eput eNew 1 (.ptr 0 1 0 0)) 2 (.ptr 1 1 0 0)) 3 (.ptr 9 1 0 0)) 4 (.ptr 8 1 0 0)), (fam (nb [(.row false 2 [f.cells]), (.row false 2 [[.int .i64 0, .nil]]), (.row false 8 [SDc f R (st.es).length (st.ws.length)]), (.row false 1 (colF (aR (aheadL f)) f.blocks.length)), (.row false 1 (colF (oR f.blocks.length R (SB f)) R)), (.row false 1 (colF (gR f) f.blocks.length)), (.row true 1 (st.es)), (.row true 1 (bC R (st.w))), ArW, (.row false 1 [[.nil]])]) (DF f R (SB f) st.G))⟩) (fun st => SI f R st) (fun st => smu f R st) (rs0 R) (Sub.mk' (by repeat (first | exact ESub.new _ | refine ESub.put ?_ (by rfl))) (famSub (k0 := 10) rfl (by repeat (first | exact trivial | refine ⟨⟨by first | rfl | exact putD_yes rfl | exact rs0_row, by first | rfl | exact colF_avoid (fun _ _ => aR_avoid (kf_hi' _) _ _) | exact colF_avoid (fun _ _ => oR_avoid (kf_hi' _) _ _ _ _) | exact colF_avoid (fun _ _ => gR_avoid (kf_hi' _) _ _)⟩, ?_⟩)) (fun x_ => by (try simp only [hputs]); (try dsimp only); first | exact fam_hi _ _ _ | exact (putD_hi _ _ x_).trans (fam_hi _ _ _) | ((repeat (first | refine hput_skip (by exact beq_false_of_ne (by omega)) ?_ | refine hrm_skip (by omega) ?_)); exact fam_hi _ _ _)) (fun c h1 h2 => by rcases (by omega : c = 10 ∨ c = 11 ∨ c = 12 ∨ c = 13 ∨ c = 14 ∨ c = 15) with rfl | rfl | rfl | rfl | rfl | rfl <;> first | rfl | (try simp only [hputs]; repeat (first | rfl | refine hput_skip (by exact beq_false_of_ne (by omega)) ?_ | refine hrm_skip (by omega) ?_))))) (SI.first hs hRf) (fun g b hb => famFree (k0 := 10) rfl hb) ?_
 intro st hQ
 obtain ⟨G, w, ws, es⟩ := st
 dsimp only at hQ ⊢
 refine AGo.seq ?_
 refine AGo.seq ?_
 refine AGo.region ?_
 refine al 11 tok ?_
 refine aq 12 (q_nilCheck rfl rfl rfl) ?_
 refine af 13 tok ?_
 refine al 14 tok ?_
 refine aq 15 (q_len tok rfl rfl rfl rfl rfl) ?_
 refine aq 16 (q_bin rfl rfl rfl rfl) ?_
 refine AOps.nil ?_
 refine AGo.split 16 rfl (fun hb1 => ?_) (fun hb1 => ?_)
 ·
  refine AGo.cond_true true rfl rfl ?_
  obtain ⟨ws', v, hws⟩ : ∃ ws' v, ws = ws' ++ [v] := by
    rcases snoc_cases ws with h | h
    · have h2 := hb1; rw [h] at h2; simp at h2
    · exact h
  subst hws
  have hpop := hQ.q.wt.pop
  have hv := hpop.2.1
  refine AGo.skip ?_
  refine AGo.block ?_
  refine AGo.seq ?_
  refine AGo.draw mix ?_
  refine dl 17 tok ?_
  refine dq 18 (q_nilCheck rfl rfl rfl) ?_
  refine df 19 tok ?_
  refine dl 20 tok ?_
  refine dl 21 tok ?_
  refine dq 22 (q_nilCheck rfl rfl rfl) ?_
  refine df 23 tok ?_
  refine dl 24 tok ?_
  refine dq 25 (q_len tok rfl rfl rfl rfl rfl) ?_
  refine dq 26 (q_bin (r := .int .i64 (ws'.length : Int)) rfl rfl rfl (pop_len (by have := hQ.q.wt.le; simp at this; omega))) ?_
  refine dq 27 (q_index_ref tok rfl rfl rfl rfl rfl rfl rfl rfl rfl (Int.natCast_nonneg _) (by simp; omega)) ?_
  refine dq 28 (q_load tok rfl rfl rfl (.ptr _ _ _ _ _ _ _ (natC v) rfl rfl (by rw [Nat.zero_add, Int.toNat_natCast]; exact hQ.q.st.get)) rfl) ?_
  refine da 5 ?_
  refine DOps.nil (by kernel_rfl) ?_
  refine AGo.seq ?_
  refine AGo.draw mix ?_
  refine dl 29 tok ?_
  refine dl 30 tok ?_
  refine dq 31 (q_nilCheck rfl rfl rfl) ?_
  refine df 32 tok ?_
  refine dl 33 tok ?_
  refine dl 34 tok ?_
  refine dq 35 (q_nilCheck rfl rfl rfl) ?_
  refine df 36 tok ?_
  refine dl 37 tok ?_
  refine dq 38 (q_len tok rfl rfl rfl rfl rfl) ?_
  refine dq 39 (q_bin (r := .int .i64 (ws'.length : Int)) rfl rfl rfl (pop_len (by have := hQ.q.wt.le; simp at this; omega))) ?_
  refine dq 40 (q_slice_ref tok (es := es) (m := ws'.length) rfl rfl rfl rfl rfl rfl rfl rfl rfl (by simp)) ?_
  refine dq 41 (q_nilCheck rfl rfl rfl) ?_
  refine df 42 tok ?_
  refine DOps.w rfl rfl (o_store tok rfl rfl rfl rfl rfl rfl rfl rfl rfl (by decide) rfl (by first | exact fun _ => rfl | (intro h; cases h))) ?_
  refine DOps.nil (by kernel_rfl) ?_
  refine AGo.seq ?_
  refine AGo.region ?_
  refine al 43 tok ?_
  refine aq 44 (q_nilCheck rfl rfl rfl) ?_
  refine af 45 tok ?_
  refine al 46 tok ?_
  refine am 47 ?_
  refine aq 48 (q_index_ref tok rfl rfl rfl rfl rfl rfl rfl (colF_len _ _).symm rfl (Int.natCast_nonneg _) (by omega)) ?_
  refine AOps.w rfl rfl (o_store tok rfl rfl rfl rfl rfl rfl (colF_len _ _).symm (by rw [Nat.zero_add, Int.toNat_natCast]; exact colF_get hv) rfl (by decide) rfl (by first | exact fun _ => rfl | (intro h; cases h))) ?_
  refine AOps.nil ?_
  refine AGo.region ?_
  refine al 49 tok ?_
  refine am 50 ?_
  refine AOps.call 51 (hn := putD _ (DH (DSL f R (SB f) ((regR f v (⟨G, updB w v false, ws', es⟩ : RS)).es) ((regR f v (⟨G, updB w v false, ws', es⟩ : RS)).ws.length) ((regR f v (⟨G, updB w v false, ws', es⟩ : RS)).w)) (DF f R (SB f) (regR f v (⟨G, updB w v false, ws', es⟩ : RS)).G))) (r := .tup []) rfl rfl rfl (o_callDH (DSL f R (SB f) es ws'.length (updB w v false)) (DSL f R (SB f) (regR f v (⟨G, updB w v false, ws', es⟩ : RS)).es (regR f v (⟨G, updB w v false, ws', es⟩ : RS)).ws.length (regR f v (⟨G, updB w v false, ws', es⟩ : RS)).w) (DF f R (SB f) (regR f v (⟨G, updB w v false, ws', es⟩ : RS)).G) rfl Try.func27 (by kernel_rfl) rfl rfl rfl rfl rfl (DSL_avoid _ _ _ _ _ _) (DSL_avoid _ _ _ _ _ _) (by repeat (first | exact trivial | refine ⟨by first | rfl | exact congrArg (fun es => some (AObj.row true 1 es)) (bC_set' false), ?_⟩)) (fun x_ => by (try simp only [hputs]); (try dsimp only); first | exact fam_hi _ _ _ | exact (putD_hi _ _ x_).trans (fam_hi _ _ _) | ((repeat (first | refine hput_skip (by exact beq_false_of_ne (by omega)) ?_ | refine hrm_skip (by omega) ?_)); exact fam_hi _ _ _)) (DF_avoid kD_hi f R _ _) (DF_avoid kD_hi f R _ _) rfl (dregister_ok f hs R hRf (⟨G, updB w v false, ws', es⟩ : RS) ⟨hpop.1, hQ.q.st.pop⟩ v hv hn hR hi)) ?_
  refine AOps.nil ?_
  exact ⟨(regR f v (⟨G, updB w v false, ws', es⟩ : RS)), DropK.mk' (by repeat (first | exact EDropK.new _ _ | refine EDropK.put ?_ (by rfl) (by first | rfl))) (famDrop (k0 := 10) rfl (by repeat (first | exact trivial | refine ⟨⟨by first | rfl | exact putD_yes rfl, by first | rfl | exact colF_avoid (fun _ _ => aR_avoid (kf_hi' _) _ _) | exact colF_avoid (fun _ _ => oR_avoid (kf_hi' _) _ _ _ _) | exact colF_avoid (fun _ _ => gR_avoid (kf_hi' _) _ _)⟩, ?_⟩)) (fun x_ => by (try simp only [hputs]); (try dsimp only); first | exact fam_hi _ _ _ | exact (putD_hi _ _ x_).trans (fam_hi _ _ _) | ((repeat (first | refine hput_skip (by exact beq_false_of_ne (by omega)) ?_ | refine hrm_skip (by omega) ?_)); exact fam_hi _ _ _)) (DF_avoid (kf_hi' _) f R _ _)), (hQ.reg hs hRf rfl).1, (hQ.reg hs hRf rfl).2⟩
 ·
  refine AGo.cond_false false rfl rfl ?_
  have hws : ws = [] := by
    rcases snoc_cases ws with h | ⟨L, b, h⟩
    · exact h
    · have h2 := hb1; rw [h] at h2; simp at h2
  subst hws
  have hdn : cutF f G = dnf f := hQ.done hs hRf rfl
  refine AGo.exit ?_
  refine AGo.seq ?_
  refine AGo.draw mix ?_
  refine df 52 tok ?_
  refine dl 53 tok ?_
  refine df 54 tok ?_
  refine dl 55 tok ?_
  refine dq 56 (q_len tok rfl rfl rfl rfl rfl) ?_
  refine dx 57 (o_makeSlice tok (n := f.blocks.length) (m := f.blocks.length) 11 true rfl rfl rfl (by simp) (by simp) rfl rfl rfl rfl rfl (Nat.zero_lt_succ _) rfl (Nat.le_refl _) (by show 56 * f.blocks.length ≤ _; omega) (by simp only [maxLen]; omega)) ?_
  refine dq 58 (q_build tok rfl rfl rfl rfl rfl (by decide) rfl rfl rfl) ?_
  refine dx 6 (o_alloc tok 10 rfl rfl rfl rfl (Nat.zero_lt_succ _) rfl) ?_
  refine DOps.w rfl rfl (o_store tok rfl rfl rfl rfl rfl rfl rfl rfl rfl (by decide) rfl (by first | exact fun _ => rfl | (intro h; cases h))) ?_
  refine DOps.nil (by kernel_rfl) ?_
  refine AGo.seq ?_
  refine AGo.seq ?_
  refine AGo.region ?_
  refine af 59 tok ?_
  refine al 60 tok ?_
  refine aq 61 (q_len tok rfl rfl rfl rfl rfl) ?_
  refine am 62 ?_
  refine AOps.nil ?_
  refine AGo.block ?_
  refine AGo.loopK (γ := Nat) (kf 12) (fun k => ⟨83, (eput (eput (eput (eput (eput (eput (eput (eput eNew 1 (.ptr 0 1 0 0)) 2 (.ptr 1 1 0 0)) 3 (.ptr 9 1 0 0)) 4 (.ptr 8 1 0 0)) 6 (.ptr 10 1 0 0)) 60 (blocksAV f.blocks)) 61 (.int .i64 (f.blocks.length : Int))) 62 (.int .i64 (k : Int))), (fam (nb [(.row false 2 [f.cells]), (.row false 2 [[.int .i64 0, .nil]]), (.row false 8 [SDc f R (es).length (([] : List Nat).length)]), (.row false 1 (colF (aR (aheadL f)) f.blocks.length)), (.row false 1 (colF (oR f.blocks.length R (SB f)) R)), (.row false 1 (colF (gR f) f.blocks.length)), (.row true 1 (es)), (.row true 1 (bC R (w))), ArW, (.row false 1 [[.nil]]), (.row false 2 [[.int .i64 f.regs, .ref 11 f.blocks.length 0 f.blocks.length]]), (.row true 5 (((cutF f G).blocks.take k).map Block.cells ++ List.replicate (f.blocks.length - k) [.nil, .int .i64 0, .int .i64 0, .int .i64 0, .int .i64 0]))]) (DF f R (SB f) G))⟩) (fun k => k ≤ f.blocks.length) (fun k => f.blocks.length - k) 0 (Sub.mk' (by repeat (first | exact ESub.new _ | refine ESub.put ?_ (by first | rfl | exact congrArg (fun (n : Nat) => some (AV.int .i64 (n : Int))) (by simp)))) (famSub (k0 := 12) rfl (by repeat (first | exact trivial | refine ⟨⟨by rfl, by first | rfl | exact colF_avoid (fun _ _ => aR_avoid (kf_hi' _) _ _) | exact colF_avoid (fun _ _ => oR_avoid (kf_hi' _) _ _ _ _) | exact colF_avoid (fun _ _ => gR_avoid (kf_hi' _) _ _)⟩, ?_⟩)) (fun x_ => by (try simp only [hputs]); repeat (first | exact fam_hi _ _ _ | refine hput_skip (by exact beq_false_of_ne (by omega)) ?_ | refine hrm_skip (by omega) ?_)) (fun c h1 h2 => by rcases (by omega : c = 12 ∨ c = 13 ∨ c = 14 ∨ c = 15) with rfl | rfl | rfl | rfl <;> first | rfl | (try simp only [hputs]; repeat (first | rfl | refine hput_skip (by exact beq_false_of_ne (by omega)) ?_ | refine hrm_skip (by omega) ?_))))) (Nat.zero_le _) (fun g b hb => famFree (k0 := 12) rfl hb) ?_
  intro k hk
  refine AGo.seq ?_
  refine AGo.region ?_
  refine aq 63 (q_bin rfl rfl rfl rfl) ?_
  refine AOps.nil ?_
  refine AGo.seq ?_
  refine AGo.split 63 rfl (fun hb2 => ?_) (fun hb2 => ?_)
  ·
   refine AGo.cond_true true rfl rfl ?_
   have hkl : k < f.blocks.length := by have h := hb2; simp at h; exact h
   obtain ⟨x, hx⟩ := get_of_lt hkl
   have hxm := List.mem_of_getElem? hx
   refine AGo.skip ?_
   refine AGo.seq ?_
   refine AGo.block ?_
   refine AGo.seq ?_
   refine AGo.region ?_
   refine am 64 ?_
   refine aq 65 (q_index_lst tok rfl rfl rfl rfl rfl rfl (Int.natCast_nonneg _) (idx_map hx) rfl) ?_
   refine al 66 tok ?_
   refine ax 7 (o_alloc tok 12 rfl rfl rfl rfl (Nat.zero_lt_succ _) rfl) ?_
   refine ax 8 (o_alloc tok 13 rfl rfl rfl rfl (Nat.zero_lt_succ _) rfl) ?_
   refine AOps.w rfl rfl (o_store tok rfl rfl rfl rfl rfl rfl rfl rfl rfl (by decide) rfl (by first | exact fun _ => rfl | (intro h; cases h))) ?_
   refine AOps.w rfl rfl (o_store tok rfl rfl rfl rfl rfl rfl rfl rfl rfl (by decide) rfl (by first | exact fun _ => rfl | (intro h; cases h))) ?_
   refine AOps.nil ?_
   refine AGo.seq ?_
   refine AGo.region ?_
   refine af 67 tok ?_
   refine al 68 tok ?_
   refine aq 69 (q_makeFunc rfl rfl rfl) ?_
   refine AOps.call 70 (hn := _) (r := insAV (kpI (G k) x.ins 0)) rfl rfl rfl (o_callKR (W := WS f R (SB f) G es ([] : List Nat).length w k) kW rfl Try.func28 (by kernel_rfl) rfl rfl rfl (WH_of (by (try simp only [hputs]); repeat (first | rfl | exact hput_same _ _ _ | refine hput_skip (by exact beq_false_of_ne (by omega)) ?_ | refine hrm_skip (by omega) ?_ | refine (famW_out _ (fun i_ _ => by first | omega | (dsimp only; omega))).trans ?_)) (by (try simp only [hputs]); repeat (first | rfl | exact hput_same _ _ _ | refine hput_skip (by exact beq_false_of_ne (by omega)) ?_ | refine hrm_skip (by omega) ?_ | refine (famW_out _ (fun i_ _ => by first | omega | (dsimp only; omega))).trans ?_)) (by (try simp only [hputs]); repeat (first | rfl | exact hput_same _ _ _ | refine hput_skip (by exact beq_false_of_ne (by omega)) ?_ | refine hrm_skip (by omega) ?_ | refine (famW_out _ (fun i_ _ => by first | omega | (dsimp only; omega))).trans ?_)) (by (try simp only [hputs]); repeat (first | rfl | exact hput_same _ _ _ | refine hput_skip (by exact beq_false_of_ne (by omega)) ?_ | refine hrm_skip (by omega) ?_ | refine (famW_out _ (fun i_ _ => by first | omega | (dsimp only; omega))).trans ?_)) (by (try simp only [hputs]); repeat (first | rfl | exact hput_same _ _ _ | refine hput_skip (by exact beq_false_of_ne (by omega)) ?_ | refine hrm_skip (by omega) ?_ | refine (famW_out _ (fun i_ _ => by first | omega | (dsimp only; omega))).trans ?_)) (by (try simp only [hputs]); repeat (first | rfl | exact hput_same _ _ _ | refine hput_skip (by exact beq_false_of_ne (by omega)) ?_ | refine hrm_skip (by omega) ?_ | refine (famW_out _ (fun i_ _ => by first | omega | (dsimp only; omega))).trans ?_)) (by (try simp only [hputs]); repeat (first | rfl | exact hput_same _ _ _ | refine hput_skip (by exact beq_false_of_ne (by omega)) ?_ | refine hrm_skip (by omega) ?_ | refine (famW_out _ (fun i_ _ => by first | omega | (dsimp only; omega))).trans ?_)) (by (try simp only [hputs]); repeat (first | rfl | exact hput_same _ _ _ | refine hput_skip (by exact beq_false_of_ne (by omega)) ?_ | refine hrm_skip (by omega) ?_ | refine (famW_out _ (fun i_ _ => by first | omega | (dsimp only; omega))).trans ?_)) (fun x_ => by (try simp only [hputs]); (try dsimp only); first | exact fam_hi _ _ _ | ((repeat (first | refine hput_skip (by exact beq_false_of_ne (by omega)) ?_ | refine hrm_skip (by omega) ?_)); exact fam_hi _ _ _))) (WS_avoid f R (SB f) G es _ w k) WH_free rfl (without_ok f R (SB f) G es _ w k x hx (hi x hxm))) ?_
   refine af 71 tok ?_
   refine AOps.w rfl rfl (o_store tok rfl rfl rfl rfl rfl rfl rfl rfl rfl (by decide) rfl (by first | exact fun _ => rfl | (intro h; cases h))) ?_
   refine AOps.nil ?_
   refine AGo.region ?_
   refine af 72 tok ?_
   refine al 73 tok ?_
   refine al 74 tok ?_
   refine al 75 tok ?_
   refine aq 76 (q_index_ref tok rfl rfl rfl rfl rfl rfl rfl (fill_len (cutF_len f G) (Nat.le_of_lt hkl)) rfl (Int.natCast_nonneg _) (by omega)) ?_
   refine AOps.w rfl rfl (o_store tok rfl rfl rfl rfl rfl rfl (fill_len (cutF_len f G) (Nat.le_of_lt hkl)) (fill_get (cutF_len f G) hkl) rfl (by decide) rfl (by first | exact fun _ => rfl | (intro h; cases h))) ?_
   refine AOps.nil ?_
   refine AGo.region ?_
   refine aq 77 (q_inc rfl rfl hkl (by simp only [maxLen]; omega)) ?_
   refine am 62 ?_
   refine AOps.nil ?_
   exact ⟨k+1, DropK.mk' (by repeat (first | exact EDropK.new _ _ | refine EDropK.put ?_ (by rfl) (by first | rfl))) (famDrop (k0 := 12) rfl (by repeat (first | exact trivial | refine ⟨⟨by first | rfl | exact congrArg (fun es => some (AObj.row true 5 es)) (fill_put (f := Block.cells) (x := x.mid (kpI (G k) x.ins 0)) (cutF_len f G) (cutF_get hx)), by first | rfl | exact colF_avoid (fun _ _ => aR_avoid (kf_hi' _) _ _) | exact colF_avoid (fun _ _ => oR_avoid (kf_hi' _) _ _ _ _) | exact colF_avoid (fun _ _ => gR_avoid (kf_hi' _) _ _)⟩, ?_⟩)) (fun x_ => by (try simp only [hputs]); repeat (first | exact fam_hi _ _ _ | refine hput_skip (by exact beq_false_of_ne (by omega)) ?_ | refine hrm_skip (by omega) ?_)) (DF_avoid (kf_hi' _) f R _ _)), hkl, by omega⟩
  ·
   refine AGo.cond_false false rfl rfl ?_
   have hge : f.blocks.length ≤ k := by have h := hb2; simp at h; omega
   refine AGo.exit ?_
   refine AGo.seq ?_
   refine AGo.ghost (.freezeCell 10 0 1 11 rfl rfl rfl rfl (fill_len (cutF_len f G) hk) (by decide)) ?_
   rw [fill_end (f := Block.cells) (z := [.nil, .int .i64 0, .int .i64 0, .int .i64 0, .int .i64 0]) (cutF_len f G) hge]
   refine AGo.draw mix ?_
   refine dl 78 tok ?_
   refine dl 79 tok ?_
   refine dx 80 (o_pure rfl Try.func30 (by kernel_rfl) rfl rfl rfl (live_ok (cutF f G) (cuts_sane hQ.c hs) (by rw [cutF_len]; exact hn0) (by rw [cutF_len]; exact hn) hr (cutF_ins hi))) ?_
   refine dq 81 (q_field tok rfl rfl rfl rfl rfl rfl rfl rfl) ?_
   refine dq 82 (q_build tok rfl rfl rfl rfl rfl (by decide) rfl rfl rfl) ?_
   refine DOps.w rfl rfl (o_store tok rfl rfl rfl rfl rfl rfl rfl rfl rfl (by decide) rfl (by first | exact fun _ => rfl | (intro h; cases h))) ?_
   refine DOps.w rfl rfl (o_store tok rfl rfl rfl rfl rfl rfl rfl rfl rfl (by decide) rfl (by first | exact fun _ => rfl | (intro h; cases h))) ?_
   refine DOps.nil (by kernel_rfl) ?_
   refine AGo.ret ?_
   refine ⟨[_, _], ⟨⟨_, _, _, _, rfl, rfl, .ptr _ _ _ _ _ _ _ _ rfl rfl rfl, rfl⟩, ⟨_, _, _, _, rfl, rfl, .ptr _ _ _ _ _ _ _ _ rfl rfl rfl, rfl⟩, trivial⟩, ?_, rfl⟩
   rw [← hdn]
   rfl

end Go.Proofs.Ytjmjmedjjbginaa.Sv

namespace Go.Proofs.Ytjmjmedjjbginaa.Sv
open Go

section
variable {P : Program} {T : Nat → Option TyI} {o : Oper} {e : AEnv} {h : AHeap}
end
theorem ins_sizes (l : List Tac) : (∀ cs ∈ l.map Tac.cells, cs.length = 8) ∧ ∀ cs ∈ l.map Tac.cells, cs.all AV.isPure1 = true := by
  constructor <;> intro cs h <;> simp only [List.mem_map] at h <;> obtain ⟨t, _, rfl⟩ := h <;> rfl
end Go.Proofs.Ytjmjmedjjbginaa.Sv

namespace Go.Proofs.Ytjmjmedjjbginaa.Sv
open Go

set_option maxHeartbeats 2000000 in
set_option maxRecDepth 100000 in
theorem ronce_ok (f : BFunc) (hs : f.sane) (hn : 0 < f.blocks.length) (hn2 : f.blocks.length ≤ 100000) (hr : f.regs ≤ 100000) (hi : ∀ x ∈ f.blocks, x.ins.length ≤ 100000) : APure Try.prog 32 [.agg f.cells] (fun r => r = .tup [.agg (onceF f).cells, .int .i64 (deadF f : Int)]) := by
 have hr0 := hs.regs
 have hdb : ∀ k, deadB f k ≤ k * 100000 := fun k => deadB_le hi k
 refine APure.of_body (n := 81) tok Try.func32 rfl rfl ?_
 refine AGo.seq ?_
 refine AGo.region ?_
 refine ax 1 (o_box (sz := 2) 0 rfl rfl rfl rfl (Nat.zero_lt_succ _) rfl) ?_
 refine ax 2 (o_alloc tok 1 rfl rfl rfl rfl (Nat.zero_lt_succ _) rfl) ?_
 refine aa 3 ?_
 refine AOps.nil ?_
 refine AGo.seq ?_
 refine AGo.region ?_
 refine al 12 tok ?_
 refine ax 13 (o_pure rfl Try.func18 (by kernel_rfl) rfl rfl rfl (rlive_ok f hs hn hn2 hr hi)) ?_
 refine ax 4 (o_alloc tok 2 rfl rfl rfl rfl (Nat.zero_lt_succ _) rfl) ?_
 refine AOps.w rfl rfl (o_store tok rfl rfl rfl rfl rfl rfl rfl rfl rfl (by decide) rfl (by first | exact fun _ => rfl | (intro h; cases h))) ?_
 refine AOps.nil ?_
 refine AGo.seq ?_
 refine AGo.region ?_
 refine af 14 tok ?_
 refine al 15 tok ?_
 refine aq 16 (q_build tok rfl rfl rfl rfl rfl (by decide) rfl rfl rfl) ?_
 refine ax 5 (o_alloc tok 3 rfl rfl rfl rfl (Nat.zero_lt_succ _) rfl) ?_
 refine AOps.w rfl rfl (o_store tok rfl rfl rfl rfl rfl rfl rfl rfl rfl (by decide) rfl (by first | exact fun _ => rfl | (intro h; cases h))) ?_
 refine AOps.nil ?_
 refine AGo.seq ?_
 refine AGo.ghost (.weakRowF 3 (es' := [[.int .i64 f.regs, .lst true []]]) rfl rfl weakNil2) ?_
 refine AGo.region ?_
 refine aa 6 ?_
 refine AOps.nil ?_
 refine AGo.seq ?_
 refine AGo.seq ?_
 refine AGo.region ?_
 refine aa 7 ?_
 refine AOps.nil ?_
 refine AGo.block ?_
 refine AGo.loopD (γ := Nat) 5 (fun k => ⟨81, (eput (eput (eput (eput (eput (eput eNew 1 (.ptr 0 1 0 0)) 2 (.ptr 1 1 0 0)) 4 (.ptr 2 1 0 0)) 5 (.ptr 3 1 0 0)) 6 (.int .i64 ((deadB f k : Nat) : Int))) 7 (.int .i64 (k : Int))), (hput (hput (hput (hput (hput (hFrom 5) 0 (.row false 2 [f.cells])) 1 (.row false 2 [[.int .i64 0, .nil]])) 2 (.row false 2 [[rowsAV (inRows f), rowsAV (outRows f)]])) 3 (.row false 2 [[.int .i64 f.regs, slA 4 (((f.blocks.map (onceX f)).take (k)).map Block.cells)]])) 4 (slO 5 (((f.blocks.map (onceX f)).take (k)).map Block.cells)))⟩) (fun k => k ≤ f.blocks.length) (fun k => f.blocks.length - k) 0 (Sub.mk' (by repeat (first | exact ESub.new _ | refine ESub.put ?_ (by first | rfl | exact congrArg (fun (n : Nat) => some (AV.int .i64 (n : Int))) (by simp)))) (by repeat (first | exact HSub.refl _ | exact HSub.none _ | exact HSub.from_new _ | exact HSub.from_from (by first | decide | omega | (dsimp only; omega)) | refine HSub.put ?_ (by first | rfl) | refine HSub.from_put ?_ (by first | decide | omega | (dsimp only; omega)) | refine HSub.from_rm ?_ (by decide)))) (Nat.zero_le _) (fun _ => hput_free (hput_free (hput_free (hput_free (hput_free (fun b hb => hFrom_free hb) rfl) rfl) rfl) rfl) rfl) ?_
 intro k hk
 refine AGo.seq ?_
 refine AGo.seq ?_
 refine AGo.region ?_
 refine am 17 ?_
 refine af 18 tok ?_
 refine al 19 tok ?_
 refine aq 20 (q_len tok rfl rfl rfl rfl rfl) ?_
 refine aq 21 (q_bin rfl rfl rfl rfl) ?_
 refine AOps.nil ?_
 refine AGo.split 21 rfl (fun hb1 => ?_) (fun hb1 => ?_)
 ·
  refine AGo.cond_true true rfl rfl ?_
  have hkl : k < f.blocks.length := by have h := hb1; simp [blocksAV] at h; exact h
  obtain ⟨x, hx⟩ := get_of_lt hkl
  have hxm := List.mem_of_getElem? hx
  have hxi := hi x hxm
  have hox : (f.blocks.map (onceX f))[k]? = some (onceX f x) := by rw [List.getElem?_map, hx]; rfl
  refine AGo.skip ?_
  refine AGo.seq ?_
  refine AGo.block ?_
  refine AGo.seq ?_
  refine AGo.region ?_
  refine af 24 tok ?_
  refine al 25 tok ?_
  refine am 26 ?_
  refine aq 27 (q_index_lst tok rfl rfl rfl rfl rfl rfl (Int.natCast_nonneg _) (idx_map hx) rfl) ?_
  refine al 28 tok ?_
  refine ax 8 (o_alloc tok 5 rfl rfl rfl rfl (Nat.zero_lt_succ _) rfl) ?_
  refine AOps.w rfl rfl (o_store tok rfl rfl rfl rfl rfl rfl rfl rfl rfl (by decide) rfl (by first | exact fun _ => rfl | (intro h; cases h))) ?_
  refine AOps.nil ?_
  refine AGo.seq ?_
  refine AGo.region ?_
  refine al 29 tok ?_
  refine al 30 tok ?_
  refine am 31 ?_
  refine ax 32 (o_pure rfl Try.func54 (by kernel_rfl) rfl rfl rfl (rbehind_ok f hs k x hx hr (hi x hxm))) ?_
  refine aa 9 ?_
  refine AOps.nil ?_
  refine AGo.seq ?_
  refine AGo.region ?_
  refine aa 10 ?_
  refine AOps.nil ?_
  refine AGo.seq ?_
  refine AGo.seq ?_
  refine AGo.ghost (.weakSlot 10 rfl (fun H ι v h => rel_nil0 h)) ?_
  refine AGo.region ?_
  refine aa 11 ?_
  refine AOps.nil ?_
  refine AGo.block ?_
  refine AGo.loopD (γ := Nat) 7 (fun j => ⟨81, (eput (eput (eput (eput (eput (eput (eput (eput (eput (eput eNew 1 (.ptr 0 1 0 0)) 2 (.ptr 1 1 0 0)) 4 (.ptr 2 1 0 0)) 5 (.ptr 3 1 0 0)) 6 (.int .i64 ((deadB f k + deadTo (endB f x) x.ins j : Nat) : Int))) 7 (.int .i64 (k : Int))) 8 (.ptr 5 1 0 0)) 9 (rowsAV (behindRows f x))) 10 (slA 6 ((keepTo (endB f x) x.ins j).map Tac.cells))) 11 (.int .i64 (j : Int))), (hput (hput (hput (hput (hput (hput (hput (hFrom 7) 0 (.row false 2 [f.cells])) 1 (.row false 2 [[.int .i64 0, .nil]])) 2 (.row false 2 [[rowsAV (inRows f), rowsAV (outRows f)]])) 3 (.row false 2 [[.int .i64 f.regs, slA 4 (((f.blocks.map (onceX f)).take (k)).map Block.cells)]])) 4 (slO 5 (((f.blocks.map (onceX f)).take (k)).map Block.cells))) 5 (.row false 5 [x.cells])) 6 (slO 8 ((keepTo (endB f x) x.ins j).map Tac.cells)))⟩) (fun j => j ≤ x.ins.length) (fun j => x.ins.length - j) 0 (Sub.mk' (by repeat (first | exact ESub.new _ | refine ESub.put ?_ (by first | rfl | exact congrArg (fun (n : Nat) => some (AV.int .i64 (n : Int))) (by simp)))) (by repeat (first | exact HSub.refl _ | exact HSub.none _ | exact HSub.from_new _ | exact HSub.from_from (by first | decide | omega | (dsimp only; omega)) | refine HSub.put ?_ (by rfl) | refine HSub.from_put ?_ (by first | decide | omega | (dsimp only; omega)) | refine HSub.from_rm ?_ (by decide)))) (Nat.zero_le _) (fun _ => hput_free (hput_free (hput_free (hput_free (hput_free (hput_free (hput_free (fun b hb => hFrom_free hb) rfl) rfl) rfl) rfl) rfl) rfl) rfl) ?_
  intro j hj
  refine AGo.seq ?_
  refine AGo.seq ?_
  refine AGo.region ?_
  refine am 33 ?_
  refine af 34 tok ?_
  refine al 35 tok ?_
  refine aq 36 (q_len tok rfl rfl rfl rfl rfl) ?_
  refine aq 37 (q_bin rfl rfl rfl rfl) ?_
  refine AOps.nil ?_
  refine AGo.split 37 rfl (fun hb2 => ?_) (fun hb2 => ?_)
  ·
   refine AGo.cond_true true rfl rfl ?_
   have hjl : j < x.ins.length := by have h := hb2; simp [insAV] at h; exact h
   obtain ⟨t, ht⟩ := get_of_lt hjl
   have hinr := hs.low x hxm t (List.mem_of_getElem? ht)
   have hlow := inR_low hinr
   refine AGo.skip ?_
   refine AGo.seq ?_
   refine AGo.block ?_
   refine AGo.seq ?_
   refine AGo.draw mix ?_
   refine df 40 tok ?_
   refine dl 41 tok ?_
   refine dm 42 ?_
   refine dq 43 (q_index_lst tok rfl rfl rfl rfl rfl rfl (Int.natCast_nonneg _) (idx_map ht) rfl) ?_
   refine dl 44 tok ?_
   refine dx 45 (o_pure rfl Try.func11 (by kernel_rfl) rfl rfl rfl (rpure_ok _)) ?_
   refine dm 46 ?_
   refine DOps.split 46 rfl (fun hb3 => ?_) (fun hb3 => ?_)
   ·
    have hpu := hb3
    refine dm 47 ?_
    refine dm 48 ?_
    refine dq 49 (q_index_lst tok rfl rfl rfl rfl rfl rfl (Int.natCast_nonneg _) (idx_map (behind_get hjl)) rfl) ?_
    refine dl 50 tok ?_
    refine df 51 tok ?_
    refine dl 52 tok ?_
    refine dm 53 ?_
    refine dq 54 (q_index_lst tok rfl rfl rfl rfl rfl rfl (Int.natCast_nonneg _) (idx_map ht) rfl) ?_
    refine dl 55 tok ?_
    refine dx 56 (o_pure rfl Try.func55 (by kernel_rfl) rfl rfl rfl (sets_ok _)) ?_
    refine dq 57 (q_index_lst tok rfl rfl rfl rfl rfl rfl (pure_nonneg hlow hpu) (idx_mapZ (mrow_getZ (pure_nonneg hlow hpu) (pure_lt hinr hpu hr0))) rfl) ?_
    refine dl 58 tok ?_
    refine dq 59 (q_not rfl rfl) ?_
    refine dq 60 (q_pick_true true rfl rfl rfl rfl) ?_
    refine DOps.nil (by kernel_rfl) ?_
    refine AGo.split 60 rfl (fun hb4 => ?_) (fun hb4 => ?_)
    ·
     refine AGo.cond_true true rfl rfl ?_
     have hkt := keepTo_dead ht (show deadI (endB f x) t (x.ins.drop (j + 1)) = true by unfold deadI; rw [hpu]; exact hb4)
     refine AGo.region ?_
     refine am 61 ?_
     refine aq 62 (q_bin (r := .int .i64 ((deadB f k + deadTo (endB f x) x.ins j + 1 : Nat) : Int)) rfl rfl rfl (by simp only [evalBin, evalInt, isShift, cond_false, if_true]; have := hdb k; have := (keepTo_len (endB f x) x.ins j).2; rw [wrap_i64 (by omega) (by omega)]; rfl)) ?_
     refine aa 6 ?_
     refine AOps.nil ?_
     refine AGo.region ?_
     refine am 38 ?_
     refine aq 39 (q_inc rfl rfl hjl (by simp only [maxLen]; omega)) ?_
     refine aa 11 ?_
     refine AOps.nil ?_
     exact ⟨j+1, Drop.mk' (by repeat (first | exact EDrop.new _ _ | refine EDrop.put ?_ (by first | rfl | exact congrArg (fun l => some (slA 6 (l.map Tac.cells))) hkt.1.symm | exact (congrArg some (slA_snocM hkt.1)).symm | exact congrArg (fun (n : Nat) => some (AV.int .i64 (n : Int))) (by rw [hkt.2] <;> omega)) (by first | rfl | exact slA_avoid _ rfl | exact vaA_avoid _ rfl))) (by repeat (first | exact HDrop.none _ _ | exact HDrop.tail _ _ | refine HDrop.put ?_ (by first | rfl | exact congrArg (fun l => some (slO 8 (l.map Tac.cells))) hkt.1.symm | exact (congrArg some (slO_snocM hkt.1)).symm) rfl (by first | rfl | exact slO_avoid _ _ | exact box2_avoid _ _ rfl))), hjl, by omega⟩
    ·
     refine AGo.cond_false false rfl rfl ?_
     have hkt := keepTo_live ht (show deadI (endB f x) t (x.ins.drop (j + 1)) = false by unfold deadI; first | (rw [hpu]; exact hb4) | (rw [hb4]; rfl))
     refine AGo.region ?_
     refine am 63 ?_
     refine af 64 tok ?_
     refine al 65 tok ?_
     refine am 66 ?_
     refine aq 67 (q_index_lst tok rfl rfl rfl rfl rfl rfl (Int.natCast_nonneg _) (idx_map ht) rfl) ?_
     refine al 68 tok ?_
     refine ax 69 (o_lit' tok rfl rfl rfl rfl rfl rfl (by decide) rfl rfl rfl rfl rfl rfl) ?_
     refine ax 70 (o_append1R tok (b := 6) (es := ((keepTo (endB f x) x.ins j).map Tac.cells)) (x0 := t.cells) rfl rfl rfl rfl rfl rfl rfl rfl rfl rfl rfl (Nat.zero_lt_succ _) (ins_sizes _).1 (ins_sizes _).2 rfl rfl (by rw [List.length_map]; have := (keepTo_len (endB f x) x.ins j).1; show _ * 64 ≤ _; omega) (by rw [List.length_map]; have := (keepTo_len (endB f x) x.ins j).1; simp only [maxLen]; omega)) ?_
     refine aa 10 ?_
     refine AOps.nil ?_
     refine AGo.region ?_
     refine am 38 ?_
     refine aq 39 (q_inc rfl rfl hjl (by simp only [maxLen]; omega)) ?_
     refine aa 11 ?_
     refine AOps.nil ?_
     exact ⟨j+1, Drop.mk' (by repeat (first | exact EDrop.new _ _ | refine EDrop.put ?_ (by first | rfl | exact congrArg (fun l => some (slA 6 (l.map Tac.cells))) hkt.1.symm | exact (congrArg some (slA_snocM hkt.1)).symm | exact congrArg (fun (n : Nat) => some (AV.int .i64 (n : Int))) (by rw [hkt.2] <;> omega)) (by first | rfl | exact slA_avoid _ rfl | exact vaA_avoid _ rfl))) (by repeat (first | exact HDrop.none _ _ | exact HDrop.tail _ _ | refine HDrop.put ?_ (by first | rfl | exact congrArg (fun l => some (slO 8 (l.map Tac.cells))) hkt.1.symm | exact (congrArg some (slO_snocM hkt.1)).symm) rfl (by first | rfl | exact slO_avoid _ _ | exact box2_avoid _ _ rfl))), hjl, by omega⟩
   ·
    refine dk 47 ?_
    refine dk 48 ?_
    refine dk 49 ?_
    refine dk 50 ?_
    refine dk 51 ?_
    refine dk 52 ?_
    refine dk 53 ?_
    refine dk 54 ?_
    refine dk 55 ?_
    refine dk 56 ?_
    refine dk 57 ?_
    refine dk 58 ?_
    refine dk 59 ?_
    refine dq 60 (q_pick_false false rfl rfl rfl rfl) ?_
    refine DOps.nil (by kernel_rfl) ?_
    refine AGo.cond_false false rfl rfl ?_
    have hkt := keepTo_live ht (show deadI (endB f x) t (x.ins.drop (j + 1)) = false by unfold deadI; first | (rw [hpu]; exact hb3) | (rw [hb3]; rfl))
    refine AGo.region ?_
    refine am 63 ?_
    refine af 64 tok ?_
    refine al 65 tok ?_
    refine am 66 ?_
    refine aq 67 (q_index_lst tok rfl rfl rfl rfl rfl rfl (Int.natCast_nonneg _) (idx_map ht) rfl) ?_
    refine al 68 tok ?_
    refine ax 69 (o_lit' tok rfl rfl rfl rfl rfl rfl (by decide) rfl rfl rfl rfl rfl rfl) ?_
    refine ax 70 (o_append1R tok (b := 6) (es := ((keepTo (endB f x) x.ins j).map Tac.cells)) (x0 := t.cells) rfl rfl rfl rfl rfl rfl rfl rfl rfl rfl rfl (Nat.zero_lt_succ _) (ins_sizes _).1 (ins_sizes _).2 rfl rfl (by rw [List.length_map]; have := (keepTo_len (endB f x) x.ins j).1; show _ * 64 ≤ _; omega) (by rw [List.length_map]; have := (keepTo_len (endB f x) x.ins j).1; simp only [maxLen]; omega)) ?_
    refine aa 10 ?_
    refine AOps.nil ?_
    refine AGo.region ?_
    refine am 38 ?_
    refine aq 39 (q_inc rfl rfl hjl (by simp only [maxLen]; omega)) ?_
    refine aa 11 ?_
    refine AOps.nil ?_
    exact ⟨j+1, Drop.mk' (by repeat (first | exact EDrop.new _ _ | refine EDrop.put ?_ (by first | rfl | exact congrArg (fun l => some (slA 6 (l.map Tac.cells))) hkt.1.symm | exact (congrArg some (slA_snocM hkt.1)).symm | exact congrArg (fun (n : Nat) => some (AV.int .i64 (n : Int))) (by rw [hkt.2] <;> omega)) (by first | rfl | exact slA_avoid _ rfl | exact vaA_avoid _ rfl))) (by repeat (first | exact HDrop.none _ _ | exact HDrop.tail _ _ | refine HDrop.put ?_ (by first | rfl | exact congrArg (fun l => some (slO 8 (l.map Tac.cells))) hkt.1.symm | exact (congrArg some (slO_snocM hkt.1)).symm) rfl (by first | rfl | exact slO_avoid _ _ | exact box2_avoid _ _ rfl))), hjl, by omega⟩
  ·
   refine AGo.cond_false false rfl rfl ?_
   have hjge : x.ins.length = j := by have h := hb2; simp [insAV] at h; omega
   subst hjge
   have hke := keepTo_end (endB f x) x.ins
   refine AGo.exit ?_
   refine AGo.seq ?_
   refine AGo.ghost (.endJ 10 6 rfl rfl) ?_
   rw [hke.1]
   refine AGo.region ?_
   refine am 71 ?_
   refine af 72 tok ?_
   refine AOps.w rfl rfl (o_store tok rfl rfl rfl rfl rfl rfl rfl rfl rfl (by decide) rfl (by first | exact fun _ => rfl | (intro h; cases h))) ?_
   refine AOps.nil ?_
   refine AGo.region ?_
   refine af 73 tok ?_
   refine al 74 tok ?_
   refine al 75 tok ?_
   refine ax 76 (o_lit' tok rfl rfl rfl rfl rfl rfl (by decide) rfl rfl rfl rfl rfl rfl) ?_
   refine ax 77 (o_append1R tok (b := 4) (es := (((f.blocks.map (onceX f)).take (k)).map Block.cells)) (x0 := (onceX f x).cells) rfl rfl rfl rfl rfl rfl rfl rfl rfl rfl rfl (Nat.zero_lt_succ _) (blk_sizes _).1 (blk_sizes _).2 rfl rfl (by rw [List.length_map, List.length_take]; show _ * 56 ≤ _; omega) (by rw [List.length_map, List.length_take]; simp only [maxLen]; omega)) ?_
   refine af 78 tok ?_
   refine AOps.w rfl rfl (o_store tok (es := [[.int .i64 f.regs, slA 4 (((f.blocks.map (onceX f)).take (k)).map Block.cells)]]) rfl rfl rfl rfl rfl rfl rfl rfl rfl (by decide) rfl (by intro h; cases h)) ?_
   refine AOps.nil ?_
   refine AGo.region ?_
   refine am 22 ?_
   refine aq 23 (q_inc rfl rfl hkl (by simp only [maxLen]; omega)) ?_
   refine aa 7 ?_
   refine AOps.nil ?_
   exact ⟨k+1, Drop.mk' (by repeat (first | exact EDrop.new _ _ | refine EDrop.put ?_ (by first | rfl | exact congrArg (fun (n : Nat) => some (AV.int .i64 (n : Int))) (by rw [hke.2]; exact (deadB_succ hx).symm)) (by first | rfl | exact slA_avoid _ rfl | exact vaA_avoid _ rfl))) (by repeat (first | exact HDrop.none _ _ | exact HDrop.tail _ _ | refine HDrop.put ?_ (by first | rfl | exact congrArg (fun v => some (AObj.row false 2 [[AV.int .i64 f.regs, v]])) (slA_succ2 hox).symm | exact congrArg some (slO_succ2 hox).symm) rfl (by first | rfl | exact slO_avoid _ _ | exact box2_avoid _ _ rfl))), hkl, by omega⟩
 ·
  refine AGo.cond_false false rfl rfl ?_
  have hge : f.blocks.length ≤ k := by have h := hb1; simp [blocksAV] at h; omega
  refine AGo.exit ?_
  refine AGo.seq ?_
  refine AGo.ghost (.endCell 3 1 4 rfl rfl rfl (by decide)) ?_
  rw [List.take_of_length_le (by simpa using hge)]
  refine AGo.region ?_
  refine al 79 tok ?_
  refine am 80 ?_
  refine AOps.w rfl rfl (o_store tok rfl rfl rfl rfl rfl rfl rfl rfl rfl (by decide) rfl (by first | exact fun _ => rfl | (intro h; cases h))) ?_
  refine aa 3 ?_
  refine AOps.nil ?_
  refine AGo.ret ?_
  refine ⟨[_, _], ⟨⟨_, _, _, _, rfl, rfl, .ptr _ _ _ _ _ _ _ _ rfl rfl rfl, rfl⟩, rfl, trivial⟩, ?_, rfl⟩
  rw [deadB_end hge]
  rfl

end Go.Proofs.Ytjmjmedjjbginaa.Sv

namespace Go.Proofs.Ytjmjmedjjbginaa.Sv
open Go

set_option maxRecDepth 100000 in
theorem rdead_ok (f : BFunc) (hs : f.sane) (hn : 0 < f.blocks.length) (hn2 : f.blocks.length ≤ 100000) (hr : f.regs ≤ 100000) (hi : ∀ x ∈ f.blocks, x.ins.length ≤ 100000) : APure Try.prog 23 [.agg f.cells] (fun r => r = .int .i64 (deadF f : Int)) := by
 refine APure.of_body (n := 11) tok Try.func23 rfl rfl ?_
 refine AGo.seq ?_
 refine AGo.region ?_
 refine ax 1 (o_box (sz := 2) 0 rfl rfl rfl rfl (Nat.zero_lt_succ _) rfl) ?_
 refine aa 2 ?_
 refine AOps.nil ?_
 refine AGo.seq ?_
 refine AGo.region ?_
 refine al 6 tok ?_
 refine ax 7 (o_pure rfl Try.func32 (by kernel_rfl) rfl rfl rfl (ronce_ok _ (by assumption) (by assumption) (by assumption) (by assumption) (by assumption))) ?_
 refine am 5 ?_
 refine aq 8 (q_extract rfl rfl rfl) ?_
 refine aq 9 (q_extract rfl rfl rfl) ?_
 refine ax 3 (o_alloc tok 1 rfl rfl rfl rfl (Nat.zero_lt_succ _) rfl) ?_
 refine AOps.w rfl rfl (o_store tok rfl rfl rfl rfl rfl rfl rfl rfl rfl (by decide) rfl (by first | exact fun _ => rfl | (intro h; cases h))) ?_
 refine aa 4 ?_
 refine AOps.nil ?_
 refine AGo.seq ?_
 refine AGo.region ?_
 refine am 10 ?_
 refine aa 2 ?_
 refine AOps.nil ?_
 refine AGo.ret ?_
 refine ⟨[_], ⟨rfl, trivial⟩, ?_, rfl⟩
 rfl

end Go.Proofs.Ytjmjmedjjbginaa.Sv

namespace Go.Proofs.Ytjmjmedjjbginaa.Sv
open Go

set_option maxRecDepth 100000 in
theorem rsameBlock_ok (x y : Block) (hx : x.ins.length ≤ 1000000000000000) : APure Try.prog 31 [.agg x.cells, .agg y.cells] (fun r => r = .bool (decide (x = y))) := by
 refine APure.of_body (n := 59) tok Try.func31 rfl rfl ?_
 refine AGo.seq ?_
 refine AGo.region ?_
 refine ax 2 (o_box (sz := 5) 0 rfl rfl rfl rfl (Nat.zero_lt_succ _) rfl) ?_
 refine ax 3 (o_box (sz := 5) 1 rfl rfl rfl rfl (Nat.zero_lt_succ _) rfl) ?_
 refine aa 4 ?_
 refine AOps.nil ?_
 refine AGo.seq ?_
 refine AGo.seq ?_
 refine AGo.region ?_
 refine af 6 tok ?_
 refine al 7 tok ?_
 refine af 8 tok ?_
 refine al 9 tok ?_
 refine aq 10 (q_bin rfl rfl rfl rfl) ?_
 refine am 11 ?_
 refine AOps.split 11 rfl (fun hb1 => ?_) (fun hb1 => ?_)
 ·
  refine ak 12 ?_
  refine ak 13 ?_
  refine ak 14 ?_
  refine ak 15 ?_
  refine ak 16 ?_
  refine aq 17 (q_pick_true true rfl rfl rfl rfl) ?_
  refine am 18 ?_
  refine ak 19 ?_
  refine ak 20 ?_
  refine ak 21 ?_
  refine ak 22 ?_
  refine ak 23 ?_
  refine aq 24 (q_pick_true true rfl rfl rfl rfl) ?_
  refine am 25 ?_
  refine ak 26 ?_
  refine ak 27 ?_
  refine ak 28 ?_
  refine ak 29 ?_
  refine ak 30 ?_
  refine aq 31 (q_pick_true true rfl rfl rfl rfl) ?_
  refine am 32 ?_
  refine ak 33 ?_
  refine ak 34 ?_
  refine ak 35 ?_
  refine ak 36 ?_
  refine ak 37 ?_
  refine ak 38 ?_
  refine ak 39 ?_
  refine aq 40 (q_pick_true true rfl rfl rfl rfl) ?_
  refine AOps.nil ?_
  refine AGo.cond_true true rfl rfl ?_
  refine AGo.seq ?_
  refine AGo.region ?_
  refine aa 4 ?_
  refine AOps.nil ?_
  refine AGo.ret ?_
  refine ⟨[_], ⟨rfl, trivial⟩, ?_, rfl⟩
  show AV.bool false = _
  rw [decide_eq_false (by rintro rfl; simp_all)]
 ·
  refine af 12 tok ?_
  refine al 13 tok ?_
  refine af 14 tok ?_
  refine al 15 tok ?_
  refine aq 16 (q_bin rfl rfl rfl rfl) ?_
  refine aq 17 (q_pick_false false rfl rfl rfl rfl) ?_
  refine am 18 ?_
  refine AOps.split 18 rfl (fun hb2 => ?_) (fun hb2 => ?_)
  ·
   refine ak 19 ?_
   refine ak 20 ?_
   refine ak 21 ?_
   refine ak 22 ?_
   refine ak 23 ?_
   refine aq 24 (q_pick_true true rfl rfl rfl rfl) ?_
   refine am 25 ?_
   refine ak 26 ?_
   refine ak 27 ?_
   refine ak 28 ?_
   refine ak 29 ?_
   refine ak 30 ?_
   refine aq 31 (q_pick_true true rfl rfl rfl rfl) ?_
   refine am 32 ?_
   refine ak 33 ?_
   refine ak 34 ?_
   refine ak 35 ?_
   refine ak 36 ?_
   refine ak 37 ?_
   refine ak 38 ?_
   refine ak 39 ?_
   refine aq 40 (q_pick_true true rfl rfl rfl rfl) ?_
   refine AOps.nil ?_
   refine AGo.cond_true true rfl rfl ?_
   refine AGo.seq ?_
   refine AGo.region ?_
   refine aa 4 ?_
   refine AOps.nil ?_
   refine AGo.ret ?_
   refine ⟨[_], ⟨rfl, trivial⟩, ?_, rfl⟩
   show AV.bool false = _
   rw [decide_eq_false (by rintro rfl; simp_all)]
  ·
   refine af 19 tok ?_
   refine al 20 tok ?_
   refine af 21 tok ?_
   refine al 22 tok ?_
   refine aq 23 (q_bin rfl rfl rfl rfl) ?_
   refine aq 24 (q_pick_false false rfl rfl rfl rfl) ?_
   refine am 25 ?_
   refine AOps.split 25 rfl (fun hb3 => ?_) (fun hb3 => ?_)
   ·
    refine ak 26 ?_
    refine ak 27 ?_
    refine ak 28 ?_
    refine ak 29 ?_
    refine ak 30 ?_
    refine aq 31 (q_pick_true true rfl rfl rfl rfl) ?_
    refine am 32 ?_
    refine ak 33 ?_
    refine ak 34 ?_
    refine ak 35 ?_
    refine ak 36 ?_
    refine ak 37 ?_
    refine ak 38 ?_
    refine ak 39 ?_
    refine aq 40 (q_pick_true true rfl rfl rfl rfl) ?_
    refine AOps.nil ?_
    refine AGo.cond_true true rfl rfl ?_
    refine AGo.seq ?_
    refine AGo.region ?_
    refine aa 4 ?_
    refine AOps.nil ?_
    refine AGo.ret ?_
    refine ⟨[_], ⟨rfl, trivial⟩, ?_, rfl⟩
    show AV.bool false = _
    rw [decide_eq_false (by rintro rfl; simp_all)]
   ·
    refine af 26 tok ?_
    refine al 27 tok ?_
    refine af 28 tok ?_
    refine al 29 tok ?_
    refine aq 30 (q_bin rfl rfl rfl rfl) ?_
    refine aq 31 (q_pick_false false rfl rfl rfl rfl) ?_
    refine am 32 ?_
    refine AOps.split 32 rfl (fun hb4 => ?_) (fun hb4 => ?_)
    ·
     refine ak 33 ?_
     refine ak 34 ?_
     refine ak 35 ?_
     refine ak 36 ?_
     refine ak 37 ?_
     refine ak 38 ?_
     refine ak 39 ?_
     refine aq 40 (q_pick_true true rfl rfl rfl rfl) ?_
     refine AOps.nil ?_
     refine AGo.cond_true true rfl rfl ?_
     refine AGo.seq ?_
     refine AGo.region ?_
     refine aa 4 ?_
     refine AOps.nil ?_
     refine AGo.ret ?_
     refine ⟨[_], ⟨rfl, trivial⟩, ?_, rfl⟩
     show AV.bool false = _
     rw [decide_eq_false (by rintro rfl; simp_all)]
    ·
     refine af 33 tok ?_
     refine al 34 tok ?_
     refine aq 35 (q_len tok rfl rfl rfl rfl rfl) ?_
     refine af 36 tok ?_
     refine al 37 tok ?_
     refine aq 38 (q_len tok rfl rfl rfl rfl rfl) ?_
     refine aq 39 (q_bin rfl rfl rfl rfl) ?_
     refine aq 40 (q_pick_false false rfl rfl rfl rfl) ?_
     refine AOps.nil ?_
     refine AGo.split 40 rfl (fun hb5 => ?_) (fun hb5 => ?_)
     ·
      refine AGo.cond_true true rfl rfl ?_
      refine AGo.seq ?_
      refine AGo.region ?_
      refine aa 4 ?_
      refine AOps.nil ?_
      refine AGo.ret ?_
      refine ⟨[_], ⟨rfl, trivial⟩, ?_, rfl⟩
      show AV.bool false = _
      rw [decide_eq_false (by rintro rfl; simp_all)]
     ·
      refine AGo.cond_false false rfl rfl ?_
      have h0 : x.fin = y.fin ∧ x.v = y.v ∧ x.to = y.to ∧ x.els = y.els ∧ x.ins.length = y.ins.length := by simp_all <;> omega
      refine AGo.skip ?_
      refine AGo.seq ?_
      refine AGo.seq ?_
      refine AGo.region ?_
      refine aa 5 ?_
      refine AOps.nil ?_
      refine AGo.block ?_
      refine AGo.loopD (γ := Nat) 2 (fun i => ⟨59, (eput (eput (eput eNew 2 (.ptr 0 1 0 0)) 3 (.ptr 1 1 0 0)) 5 (.int .i64 (i : Int))), (hput (hput (hFrom 2) 0 (.row false 5 [x.cells])) 1 (.row false 5 [y.cells]))⟩) (fun i => x.ins.take i = y.ins.take i) (fun i => x.ins.length - i) 0 (Sub.mk' (by repeat (first | exact ESub.new _ | refine ESub.put ?_ (by first | rfl | exact congrArg (fun (n : Nat) => some (AV.int .i64 (n : Int))) (by simp)))) (by repeat (first | exact HSub.refl _ | exact HSub.none _ | exact HSub.from_new _ | exact HSub.from_from (by first | decide | omega | (dsimp only; omega)) | refine HSub.put ?_ (by rfl) | refine HSub.from_put ?_ (by first | decide | omega | (dsimp only; omega)) | refine HSub.from_rm ?_ (by decide)))) rfl (fun _ => hput_free (hput_free (fun b hb => hFrom_free hb) rfl) rfl) ?_
      intro i ht
      refine AGo.seq ?_
      refine AGo.seq ?_
      refine AGo.region ?_
      refine am 41 ?_
      refine af 42 tok ?_
      refine al 43 tok ?_
      refine aq 44 (q_len tok rfl rfl rfl rfl rfl) ?_
      refine aq 45 (q_bin rfl rfl rfl rfl) ?_
      refine AOps.nil ?_
      refine AGo.split 45 rfl (fun hb6 => ?_) (fun hb6 => ?_)
      ·
       refine AGo.cond_true true rfl rfl ?_
       have hil : i < x.ins.length := by simpa using hb6
       obtain ⟨u, hu⟩ := get_of_lt hil
       obtain ⟨v, hv⟩ := get_of_lt (l := y.ins) (k := i) (by omega)
       refine AGo.skip ?_
       refine AGo.seq ?_
       refine AGo.block ?_
       refine AGo.seq ?_
       refine AGo.draw mix ?_
       refine df 48 tok ?_
       refine dl 49 tok ?_
       refine dm 50 ?_
       refine dq 51 (q_index_lst tok rfl rfl rfl rfl rfl rfl (Int.natCast_nonneg _) (idx_map (by assumption)) rfl) ?_
       refine dl 52 tok ?_
       refine df 53 tok ?_
       refine dl 54 tok ?_
       refine dm 55 ?_
       refine dq 56 (q_index_lst tok rfl rfl rfl rfl rfl rfl (Int.natCast_nonneg _) (idx_map (by assumption)) rfl) ?_
       refine dl 57 tok ?_
       refine dq 58 (q_eqStruct tok true rfl rfl rfl (by kernel_rfl) rfl rfl rfl rfl (Tac.eqCells u v)) ?_
       refine DOps.nil (by kernel_rfl) ?_
       refine AGo.split 58 rfl (fun hb7 => ?_) (fun hb7 => ?_)
       ·
        refine AGo.cond_true true rfl rfl ?_
        have huv : u ≠ v := by simpa using hb7
        refine AGo.seq ?_
        refine AGo.region ?_
        refine aa 4 ?_
        refine AOps.nil ?_
        refine AGo.ret ?_
        refine ⟨[_], ⟨rfl, trivial⟩, ?_, rfl⟩
        show AV.bool false = _
        rw [decide_eq_false (by rintro rfl; rw [hu] at hv; cases hv; exact huv rfl)]
       ·
        refine AGo.cond_false false rfl rfl ?_
        have huv : u = v := by simpa using hb7
        refine AGo.skip ?_
        refine AGo.region ?_
        refine am 46 ?_
        refine aq 47 (q_inc rfl rfl hil (by simp only [maxLen]; omega)) ?_
        refine aa 5 ?_
        refine AOps.nil ?_
        exact ⟨i+1, Drop.mk' (by repeat (first | exact EDrop.new _ _ | refine EDrop.put ?_ (by rfl) (by first | rfl | exact slA_avoid _ rfl | exact vaA_avoid _ rfl))) (by repeat (first | exact HDrop.none _ _ | exact HDrop.tail _ _ | refine HDrop.put ?_ (by rfl) rfl (by first | rfl | exact slO_avoid _ _ | exact vaO_avoid _ | exact tab_avoid _ _ rfl rfl | exact wlk_avoid _ _ _ rfl rfl rfl))), (by rw [take_succ_eq hu, take_succ_eq hv, ht, huv]), by omega⟩
      ·
       refine AGo.cond_false false rfl rfl ?_
       have hge : x.ins.length ≤ i := by simpa using hb6
       refine AGo.exit ?_
       refine AGo.seq ?_
       refine AGo.region ?_
       refine aa 4 ?_
       refine AOps.nil ?_
       refine AGo.ret ?_
       refine ⟨[_], ⟨rfl, trivial⟩, ?_, rfl⟩
       show AV.bool true = _
       rw [decide_eq_true (Block.ext5 h0.1 h0.2.1 h0.2.2.1 h0.2.2.2.1 (take_all ht hge (h0.2.2.2.2 ▸ hge)))]

set_option maxRecDepth 100000 in
theorem rsameFunc_ok (f g : BFunc) (hf : f.blocks.length ≤ 1000000000000000 ∧ ∀ x ∈ f.blocks, x.ins.length ≤ 1000000000000000) : APure Try.prog 14 [.agg f.cells, .agg g.cells] (fun r => r = .bool (decide (f = g))) := by
 refine APure.of_body (n := 39) tok Try.func14 rfl rfl ?_
 refine AGo.seq ?_
 refine AGo.region ?_
 refine ax 2 (o_box (sz := 2) 0 rfl rfl rfl rfl (Nat.zero_lt_succ _) rfl) ?_
 refine ax 3 (o_box (sz := 2) 1 rfl rfl rfl rfl (Nat.zero_lt_succ _) rfl) ?_
 refine aa 4 ?_
 refine AOps.nil ?_
 refine AGo.seq ?_
 refine AGo.seq ?_
 refine AGo.region ?_
 refine af 6 tok ?_
 refine al 7 tok ?_
 refine af 8 tok ?_
 refine al 9 tok ?_
 refine aq 10 (q_bin rfl rfl rfl rfl) ?_
 refine am 11 ?_
 refine AOps.split 11 rfl (fun hb1 => ?_) (fun hb1 => ?_)
 ·
  refine ak 12 ?_
  refine ak 13 ?_
  refine ak 14 ?_
  refine ak 15 ?_
  refine ak 16 ?_
  refine ak 17 ?_
  refine ak 18 ?_
  refine aq 19 (q_pick_true true rfl rfl rfl rfl) ?_
  refine AOps.nil ?_
  refine AGo.cond_true true rfl rfl ?_
  refine AGo.seq ?_
  refine AGo.region ?_
  refine aa 4 ?_
  refine AOps.nil ?_
  refine AGo.ret ?_
  refine ⟨[_], ⟨rfl, trivial⟩, ?_, rfl⟩
  show AV.bool false = _
  rw [decide_eq_false (by rintro rfl; simp_all)]
 ·
  refine af 12 tok ?_
  refine al 13 tok ?_
  refine aq 14 (q_len tok rfl rfl rfl rfl rfl) ?_
  refine af 15 tok ?_
  refine al 16 tok ?_
  refine aq 17 (q_len tok rfl rfl rfl rfl rfl) ?_
  refine aq 18 (q_bin rfl rfl rfl rfl) ?_
  refine aq 19 (q_pick_false false rfl rfl rfl rfl) ?_
  refine AOps.nil ?_
  refine AGo.split 19 rfl (fun hb2 => ?_) (fun hb2 => ?_)
  ·
   refine AGo.cond_true true rfl rfl ?_
   refine AGo.seq ?_
   refine AGo.region ?_
   refine aa 4 ?_
   refine AOps.nil ?_
   refine AGo.ret ?_
   refine ⟨[_], ⟨rfl, trivial⟩, ?_, rfl⟩
   show AV.bool false = _
   rw [decide_eq_false (by rintro rfl; simp_all)]
  ·
   refine AGo.cond_false false rfl rfl ?_
   have h0 : f.regs = g.regs ∧ f.blocks.length = g.blocks.length := by simp_all <;> omega
   refine AGo.skip ?_
   refine AGo.seq ?_
   refine AGo.seq ?_
   refine AGo.region ?_
   refine aa 5 ?_
   refine AOps.nil ?_
   refine AGo.block ?_
   refine AGo.loopD (γ := Nat) 2 (fun i => ⟨39, (eput (eput (eput eNew 2 (.ptr 0 1 0 0)) 3 (.ptr 1 1 0 0)) 5 (.int .i64 (i : Int))), (hput (hput (hFrom 2) 0 (.row false 2 [f.cells])) 1 (.row false 2 [g.cells]))⟩) (fun i => f.blocks.take i = g.blocks.take i) (fun i => f.blocks.length - i) 0 (Sub.mk' (by repeat (first | exact ESub.new _ | refine ESub.put ?_ (by first | rfl | exact congrArg (fun (n : Nat) => some (AV.int .i64 (n : Int))) (by simp)))) (by repeat (first | exact HSub.refl _ | exact HSub.none _ | exact HSub.from_new _ | exact HSub.from_from (by first | decide | omega | (dsimp only; omega)) | refine HSub.put ?_ (by rfl) | refine HSub.from_put ?_ (by first | decide | omega | (dsimp only; omega)) | refine HSub.from_rm ?_ (by decide)))) rfl (fun _ => hput_free (hput_free (fun b hb => hFrom_free hb) rfl) rfl) ?_
   intro i ht
   refine AGo.seq ?_
   refine AGo.seq ?_
   refine AGo.region ?_
   refine am 20 ?_
   refine af 21 tok ?_
   refine al 22 tok ?_
   refine aq 23 (q_len tok rfl rfl rfl rfl rfl) ?_
   refine aq 24 (q_bin rfl rfl rfl rfl) ?_
   refine AOps.nil ?_
   refine AGo.split 24 rfl (fun hb3 => ?_) (fun hb3 => ?_)
   ·
    refine AGo.cond_true true rfl rfl ?_
    have hil : i < f.blocks.length := by simpa using hb3
    obtain ⟨x, hx⟩ := get_of_lt hil
    obtain ⟨y, hy⟩ := get_of_lt (l := g.blocks) (k := i) (by omega)
    have hil2 := hf.1
    refine AGo.skip ?_
    refine AGo.seq ?_
    refine AGo.block ?_
    refine AGo.seq ?_
    refine AGo.draw mix ?_
    refine df 27 tok ?_
    refine dl 28 tok ?_
    refine dm 29 ?_
    refine dq 30 (q_index_lst tok rfl rfl rfl rfl rfl rfl (Int.natCast_nonneg _) (idx_map hx) rfl) ?_
    refine dl 31 tok ?_
    refine df 32 tok ?_
    refine dl 33 tok ?_
    refine dm 34 ?_
    refine dq 35 (q_index_lst tok rfl rfl rfl rfl rfl rfl (Int.natCast_nonneg _) (idx_map hy) rfl) ?_
    refine dl 36 tok ?_
    refine dx 37 (o_pure rfl Try.func31 (by kernel_rfl) rfl rfl rfl (rsameBlock_ok x y (hf.2 x (List.mem_of_getElem? hx)))) ?_
    refine dq 38 (q_not rfl rfl) ?_
    refine DOps.nil (by kernel_rfl) ?_
    refine AGo.split 38 rfl (fun hb4 => ?_) (fun hb4 => ?_)
    ·
     refine AGo.cond_true true rfl rfl ?_
     have hxy : x ≠ y := by simpa using hb4
     refine AGo.seq ?_
     refine AGo.region ?_
     refine aa 4 ?_
     refine AOps.nil ?_
     refine AGo.ret ?_
     refine ⟨[_], ⟨rfl, trivial⟩, ?_, rfl⟩
     show AV.bool false = _
     rw [decide_eq_false (by rintro rfl; rw [hx] at hy; cases hy; exact hxy rfl)]
    ·
     refine AGo.cond_false false rfl rfl ?_
     have hxy : x = y := by simpa using hb4
     refine AGo.skip ?_
     refine AGo.region ?_
     refine am 25 ?_
     refine aq 26 (q_inc rfl rfl hil (by simp only [maxLen]; omega)) ?_
     refine aa 5 ?_
     refine AOps.nil ?_
     exact ⟨i+1, Drop.mk' (by repeat (first | exact EDrop.new _ _ | refine EDrop.put ?_ (by rfl) (by first | rfl | exact slA_avoid _ rfl | exact vaA_avoid _ rfl))) (by repeat (first | exact HDrop.none _ _ | exact HDrop.tail _ _ | refine HDrop.put ?_ (by rfl) rfl (by first | rfl | exact slO_avoid _ _ | exact vaO_avoid _ | exact tab_avoid _ _ rfl rfl | exact wlk_avoid _ _ _ rfl rfl rfl))), (by rw [take_succ_eq hx, take_succ_eq hy, ht, hxy]), by omega⟩
   ·
    refine AGo.cond_false false rfl rfl ?_
    have hge : f.blocks.length ≤ i := by simpa using hb3
    refine AGo.exit ?_
    refine AGo.seq ?_
    refine AGo.region ?_
    refine aa 4 ?_
    refine AOps.nil ?_
    refine AGo.ret ?_
    refine ⟨[_], ⟨rfl, trivial⟩, ?_, rfl⟩
    show AV.bool true = _
    rw [decide_eq_true (BFunc.ext' h0.1 (take_all ht hge (h0.2 ▸ hge)))]

end Go.Proofs.Ytjmjmedjjbginaa.Sv

namespace Go.Proofs.Ytjmjmedjjbginaa.Sv
open Go

set_option maxRecDepth 100000 in
theorem alive32_ok  : APure Try.prog 9 [] (fun r => r = .bool true) := by
 refine APure.of_body (n := 66) tok Try.func9 rfl rfl ?_
 refine AGo.seq ?_
 refine AGo.region ?_
 refine aa 0 ?_
 refine AOps.nil ?_
 refine AGo.seq ?_
 refine AGo.region ?_
 refine aq 7 (q_build tok rfl rfl rfl rfl rfl (by decide) rfl rfl rfl) ?_
 refine aq 8 (q_build tok rfl rfl rfl rfl rfl (by decide) rfl rfl rfl) ?_
 refine aq 9 (q_build tok rfl rfl rfl rfl rfl (by decide) rfl rfl rfl) ?_
 refine ax 10 (o_lit' tok rfl rfl rfl rfl rfl rfl (by decide) rfl rfl rfl rfl rfl rfl) ?_
 refine aq 11 (q_build tok rfl rfl rfl rfl rfl (by decide) rfl rfl rfl) ?_
 refine ax 12 (o_lit' tok rfl rfl rfl rfl rfl rfl (by decide) rfl rfl rfl rfl rfl rfl) ?_
 refine aq 13 (q_build tok rfl rfl rfl rfl rfl (by decide) rfl rfl rfl) ?_
 refine ax 1 (o_alloc tok 0 rfl rfl rfl rfl (Nat.zero_lt_succ _) rfl) ?_
 refine AOps.w rfl rfl (o_store tok rfl rfl rfl rfl rfl rfl rfl rfl rfl (by decide) rfl (by first | exact fun _ => rfl | (intro h; cases h))) ?_
 refine AOps.nil ?_
 refine AGo.seq ?_
 refine AGo.region ?_
 refine al 15 tok ?_
 refine ax 16 (o_pure rfl Try.func13 (by kernel_rfl) rfl rfl rfl ((deadOf_ok (one32 3 [c32, y32, p32 2]) (aw32_few 3 [c32, y32, p32 2] (by decide)).s (aw32_few 3 [c32, y32, p32 2] (by decide)).n0 (aw32_few 3 [c32, y32, p32 2] (by decide)).n (aw32_few 3 [c32, y32, p32 2] (by decide)).r (aw32_few 3 [c32, y32, p32 2] (by decide)).i).mono (fun r h => by rw [h, aw32a, aw32c]))) ?_
 refine am 14 ?_
 refine aq 17 (q_extract rfl rfl rfl) ?_
 refine aq 18 (q_extract rfl rfl rfl) ?_
 refine ax 2 (o_alloc tok 1 rfl rfl rfl rfl (Nat.zero_lt_succ _) rfl) ?_
 refine ax 3 (o_alloc tok 2 rfl rfl rfl rfl (Nat.zero_lt_succ _) rfl) ?_
 refine AOps.w rfl rfl (o_store tok rfl rfl rfl rfl rfl rfl rfl rfl rfl (by decide) rfl (by first | exact fun _ => rfl | (intro h; cases h))) ?_
 refine AOps.w rfl rfl (o_store tok rfl rfl rfl rfl rfl rfl rfl rfl rfl (by decide) rfl (by first | exact fun _ => rfl | (intro h; cases h))) ?_
 refine AOps.nil ?_
 refine AGo.seq ?_
 refine AGo.region ?_
 refine aq 19 (q_build tok rfl rfl rfl rfl rfl (by decide) rfl rfl rfl) ?_
 refine aq 20 (q_build tok rfl rfl rfl rfl rfl (by decide) rfl rfl rfl) ?_
 refine ax 21 (o_lit' tok rfl rfl rfl rfl rfl rfl (by decide) rfl rfl rfl rfl rfl rfl) ?_
 refine aq 22 (q_build tok rfl rfl rfl rfl rfl (by decide) rfl rfl rfl) ?_
 refine ax 23 (o_lit' tok rfl rfl rfl rfl rfl rfl (by decide) rfl rfl rfl rfl rfl rfl) ?_
 refine aq 24 (q_build tok rfl rfl rfl rfl rfl (by decide) rfl rfl rfl) ?_
 refine ax 4 (o_alloc tok 3 rfl rfl rfl rfl (Nat.zero_lt_succ _) rfl) ?_
 refine AOps.w rfl rfl (o_store tok rfl rfl rfl rfl rfl rfl rfl rfl rfl (by decide) rfl (by first | exact fun _ => rfl | (intro h; cases h))) ?_
 refine AOps.nil ?_
 refine AGo.seq ?_
 refine AGo.region ?_
 refine al 26 tok ?_
 refine ax 27 (o_pure rfl Try.func13 (by kernel_rfl) rfl rfl rfl ((deadOf_ok (one32 1 [c32, p32 0]) (aw32_few 1 [c32, p32 0] (by decide)).s (aw32_few 1 [c32, p32 0] (by decide)).n0 (aw32_few 1 [c32, p32 0] (by decide)).n (aw32_few 1 [c32, p32 0] (by decide)).r (aw32_few 1 [c32, p32 0] (by decide)).i).mono (fun r h => by rw [h, aw32b]))) ?_
 refine am 25 ?_
 refine aq 28 (q_extract rfl rfl rfl) ?_
 refine aq 29 (q_extract rfl rfl rfl) ?_
 refine ax 5 (o_alloc tok 4 rfl rfl rfl rfl (Nat.zero_lt_succ _) rfl) ?_
 refine ax 6 (o_alloc tok 5 rfl rfl rfl rfl (Nat.zero_lt_succ _) rfl) ?_
 refine AOps.w rfl rfl (o_store tok rfl rfl rfl rfl rfl rfl rfl rfl rfl (by decide) rfl (by first | exact fun _ => rfl | (intro h; cases h))) ?_
 refine AOps.w rfl rfl (o_store tok rfl rfl rfl rfl rfl rfl rfl rfl rfl (by decide) rfl (by first | exact fun _ => rfl | (intro h; cases h))) ?_
 refine AOps.nil ?_
 refine AGo.seq ?_
 refine AGo.region ?_
 refine af 30 tok ?_
 refine al 31 tok ?_
 refine aq 32 (q_len tok rfl rfl rfl rfl rfl) ?_
 refine aq 33 (q_bin (r := .bool true) rfl rfl rfl (by rfl)) ?_
 refine am 34 ?_
 refine af 35 tok ?_
 refine al 36 tok ?_
 refine aq 37 (q_index_lst tok rfl rfl rfl rfl rfl rfl (by decide) (cs := (⟨[p32 2], 3, 0, 0, 0⟩ : Block).cells) rfl rfl) ?_
 refine af 38 tok ?_
 refine al 39 tok ?_
 refine aq 40 (q_len tok rfl rfl rfl rfl rfl) ?_
 refine aq 41 (q_bin (r := .bool true) rfl rfl rfl (by rfl)) ?_
 refine aq 42 (q_pick_true true rfl rfl rfl rfl) ?_
 refine am 43 ?_
 refine af 44 tok ?_
 refine al 45 tok ?_
 refine aq 46 (q_index_lst tok rfl rfl rfl rfl rfl rfl (by decide) (cs := (⟨[p32 2], 3, 0, 0, 0⟩ : Block).cells) rfl rfl) ?_
 refine af 47 tok ?_
 refine al 48 tok ?_
 refine aq 49 (q_index_lst tok rfl rfl rfl rfl rfl rfl (by decide) (cs := (p32 2).cells) rfl rfl) ?_
 refine al 50 tok ?_
 refine aq 51 (q_build tok rfl rfl rfl rfl rfl (by decide) rfl rfl rfl) ?_
 refine aq 52 (q_eqStruct tok false (r := true) rfl rfl rfl (by kernel_rfl) rfl rfl rfl rfl rfl) ?_
 refine aq 53 (q_pick_true true rfl rfl rfl rfl) ?_
 refine am 54 ?_
 refine af 55 tok ?_
 refine al 56 tok ?_
 refine ax 57 (o_lit' tok rfl rfl rfl rfl rfl rfl (by decide) rfl rfl rfl rfl rfl rfl) ?_
 refine ax 58 (o_lit' tok rfl rfl rfl rfl rfl rfl (by decide) rfl rfl rfl rfl rfl rfl) ?_
 refine ax 59 (o_pure rfl Try.func17 (by kernel_rfl) rfl rfl rfl ((rrows_ok [[false, false, true]] [[false, false, true]] (by decide) (by decide)).mono (fun r h => by rw [h, decide_eq_true rfl]))) ?_
 refine aq 60 (q_pick_true true rfl rfl rfl rfl) ?_
 refine am 61 ?_
 refine al 62 tok ?_
 refine al 63 tok ?_
 refine ax 64 (o_pure rfl Try.func14 (by kernel_rfl) rfl rfl rfl ((rsameFunc_ok (one32 1 [c32, p32 0]) (one32 1 [c32, p32 0]) (small_lens32 (aw32_few 1 [c32, p32 0] (by decide)))).mono (fun r h => by rw [h, decide_eq_true rfl]))) ?_
 refine aq 65 (q_pick_true true rfl rfl rfl rfl) ?_
 refine aa 0 ?_
 refine AOps.nil ?_
 refine AGo.ret ?_
 refine ⟨[_], ⟨rfl, trivial⟩, ?_, rfl⟩
 rfl

end Go.Proofs.Ytjmjmedjjbginaa.Sv

namespace Go.Proofs.Ytjmjmedjjbginaa.Sv
open Go

set_option maxHeartbeats 2000000 in
set_option maxRecDepth 100000 in
theorem deadNone_ok (f : BFunc) (hf : f.Ok) : APure Try.prog 7 [.agg f.cells] (fun r => r = .bool true) := by
 refine APure.of_body (n := 30) tok Try.func7 rfl rfl ?_
 refine AGo.seq ?_
 refine AGo.region ?_
 refine ax 1 (o_box (sz := 2) 0 rfl rfl rfl rfl (Nat.zero_lt_succ _) rfl) ?_
 refine aa 2 ?_
 refine AOps.nil ?_
 refine AGo.seq ?_
 refine AGo.seq ?_
 refine AGo.region ?_
 refine ax 7 (o_pure rfl Try.func9 (by kernel_rfl) rfl rfl rfl (alive32_ok)) ?_
 refine aq 8 (q_not rfl rfl) ?_
 refine AOps.nil ?_
 refine AGo.cond_false false rfl rfl ?_
 refine AGo.skip ?_
 refine AGo.seq ?_
 refine AGo.seq ?_
 refine AGo.region ?_
 refine al 9 tok ?_
 refine ax 10 (o_pure rfl Try.func12 (by kernel_rfl) rfl rfl rfl (few32_ok f hf)) ?_
 refine aq 11 (q_not rfl rfl) ?_
 refine AOps.nil ?_
 refine AGo.split 11 rfl (fun hb1 => ?_) (fun hb1 => ?_)
 ·
  refine AGo.cond_true true rfl rfl ?_
  refine AGo.seq ?_
  refine AGo.region ?_
  refine aa 2 ?_
  refine AOps.nil ?_
  refine AGo.ret ?_
  refine ⟨[_], ⟨rfl, trivial⟩, ?_, rfl⟩
  rfl
 ·
  refine AGo.cond_false false rfl rfl ?_
  have hfw : few32 f = true := by simpa using hb1
  have hF := few32_of hfw
  refine AGo.skip ?_
  refine AGo.seq ?_
  refine AGo.region ?_
  refine al 13 tok ?_
  refine ax 14 (o_pure rfl Try.func13 (by kernel_rfl) rfl rfl rfl ((deadOf_ok f hF.s hF.n0 hF.n hF.r hF.i))) ?_
  refine am 12 ?_
  refine aq 15 (q_extract rfl rfl rfl) ?_
  refine aq 16 (q_extract rfl rfl rfl) ?_
  refine ax 3 (o_alloc tok 1 rfl rfl rfl rfl (Nat.zero_lt_succ _) rfl) ?_
  refine ax 4 (o_alloc tok 2 rfl rfl rfl rfl (Nat.zero_lt_succ _) rfl) ?_
  refine AOps.w rfl rfl (o_store tok rfl rfl rfl rfl rfl rfl rfl rfl rfl (by decide) rfl (by first | exact fun _ => rfl | (intro h; cases h))) ?_
  refine AOps.w rfl rfl (o_store tok rfl rfl rfl rfl rfl rfl rfl rfl rfl (by decide) rfl (by first | exact fun _ => rfl | (intro h; cases h))) ?_
  refine AOps.nil ?_
  refine AGo.seq ?_
  refine AGo.region ?_
  refine al 18 tok ?_
  refine ax 19 (o_pure rfl Try.func13 (by kernel_rfl) rfl rfl rfl ((deadOf_ok (dnf f) hF.dnf.s hF.dnf.n0 hF.dnf.n hF.dnf.r hF.dnf.i).mono (fun r h => by rw [h, dnf_dnf]))) ?_
  refine am 17 ?_
  refine aq 20 (q_extract rfl rfl rfl) ?_
  refine aq 21 (q_extract rfl rfl rfl) ?_
  refine ax 5 (o_alloc tok 3 rfl rfl rfl rfl (Nat.zero_lt_succ _) rfl) ?_
  refine ax 6 (o_alloc tok 4 rfl rfl rfl rfl (Nat.zero_lt_succ _) rfl) ?_
  refine AOps.w rfl rfl (o_store tok rfl rfl rfl rfl rfl rfl rfl rfl rfl (by decide) rfl (by first | exact fun _ => rfl | (intro h; cases h))) ?_
  refine AOps.w rfl rfl (o_store tok rfl rfl rfl rfl rfl rfl rfl rfl rfl (by decide) rfl (by first | exact fun _ => rfl | (intro h; cases h))) ?_
  refine AOps.nil ?_
  refine AGo.seq ?_
  refine AGo.region ?_
  refine al 22 tok ?_
  refine ax 23 (o_pure rfl Try.func23 (by kernel_rfl) rfl rfl rfl ((rdead_ok (dnf f) hF.dnf.s hF.dnf.n0 hF.dnf.n hF.dnf.r hF.dnf.i).mono (fun r h => by rw [h, deadF_dnf hF]))) ?_
  refine aq 24 (q_bin (r := .bool true) rfl rfl rfl (by rfl)) ?_
  refine am 25 ?_
  refine al 26 tok ?_
  refine al 27 tok ?_
  refine ax 28 (o_pure rfl Try.func14 (by kernel_rfl) rfl rfl rfl ((rsameFunc_ok (dnf f) (dnf f) (small_lens32 hF.dnf)).mono (fun r h => by rw [h, decide_eq_true rfl]))) ?_
  refine aq 29 (q_pick_true true rfl rfl rfl rfl) ?_
  refine aa 2 ?_
  refine AOps.nil ?_
  refine AGo.ret ?_
  refine ⟨[_], ⟨rfl, trivial⟩, ?_, rfl⟩
  rfl

end Go.Proofs.Ytjmjmedjjbginaa.Sv

namespace Go.Proofs.Ytjmjmedjjbginaa
open Go.ChangeShapes Go.WideShapes Go.ChangeAt Go.RowKit Sv
set_option linter.unusedVariables false

set_option maxRecDepth 100000 in
theorem deadNone_lifted (os : Os) (started : os.Started) (H : Type) (enc : TypeId × Value → H) :
    ReturnsInHanded {} Try.checked os 7 .any (Rows.deadNoneSpec.pre6 enc Try.prog Try.f7 Rows.deadNoneRow.domain false) (Rows.deadNoneSpec.post enc Try.prog Try.f7 false true false false) := by
  refine returnsInHanded_of_change_sized (C := Try.checked) own' started (by kernel_rfl) Try.func7
    (ChangeSpec.witness6 (enc := enc) (C := Try.checked) false ⟨#[], #[.agg #[.int .i64 0, .slice none 0 0]], []⟩ 8 (by kernel_rfl) (by kernel_rfl) (by kernel_rfl) (by kernel_rfl)) ?_
  intro W base args ds gs before hval0 hW hcnd hwt0 hh
  have hval : ∀ (j : Nat) t v, Try.f7.params[j]? = some t → args[j]? = some v → Value.okWide Try.prog W .any base t v := hval0
  have hW' := hW
  obtain ⟨p, q, hA0, hV, rfl, hfz, hnd⟩ := hW
  have hA : DataW.TrodAll enc Try.prog W 0 (fun _ => true) true Try.f7.params.toList args.toList ds p := hA0
  have hwt : (DataW.weightsEach Try.prog (Try.f7.params.toList ++ Rows.deadNoneSpec.plain.varTypes Try.prog) (ds ++ gs)).all (· ≤ reachBytes) = true := hwt0
  rw [Try.params7] at hA hval hwt
  obtain ⟨v0, vs0, d0, ds0, p0, q0, hargs, rfl, rfl, h0, r0⟩ := trodAll_cons hA
  obtain ⟨rfl, rfl, rfl⟩ := trodAll_nil r0
  obtain rfl : args = #[v0] := by cases args; simp_all
  obtain ⟨rfl, rfl⟩ := trodVars_none hV
  obtain ⟨x0, e0, g0⟩ := arg_one h0 (weightsEach_get hwt (i := 0) rfl rfl) decBFunc
  exact law_calls laidOut' rfl (by kernel_rfl) rfl bool' rfl rfl rfl hW' (.cons (e0.val (okWide_agg tok rfl rfl (hval 0 24 v0 rfl rfl))) .nil) (deadNone_ok x0 g0) (fun g l h => by cases h)

theorem deadNone_holds : Rows.DeadNoneSaid :=
  OpenClaim.holds_of_wide 7 Try.f7 rfl rfl rfl rfl rfl rfl rfl ⟨rfl, rfl, rfl, rfl, rfl⟩ rfl rfl rfl rfl rfl (by kernel_rfl) Try.func7 (by kernel_rfl)
    (of_decide_eq_true (by kernel_rfl)) (by unfold Func.isWrapper; first | (rw [if_pos (by decide +kernel)]; kernel_rfl) | (rw [if_neg (by decide +kernel)]; exact ⟨rfl, rfl⟩))
    (fun os started H enc _ => deadNone_lifted os started H enc)

end Go.Proofs.Ytjmjmedjjbginaa
