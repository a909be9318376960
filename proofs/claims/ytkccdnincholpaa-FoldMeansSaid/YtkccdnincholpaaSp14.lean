/-
  WHAT IS FOLDED RUNS AS BEFORE, IN PLAIN LEAN: own work, over no program.
-/
import Derived.Test.YtkccdnincholpaaSp13
namespace Go.Proofs.Ytkccdnincholpaa.Sv
open Go
set_option linter.unusedVariables false
set_option linter.unusedSimpArgs false

section
variable {call : Int → Mach → Mach} {s : ByteArray} {fuel : Int}
/-- what is known is so -/
def knows (K : WMap) (regs : List Int) : Prop := ∀ z v, pget z K = some v → 0 ≤ z ∧ rget regs z = v
theorem rget_rset_ne {l : List Int} {z y v : Int} (hz : 0 ≤ z) (hy : 0 ≤ y) (h : y ≠ z) : rget (rset l z v) y = rget l y := by
  unfold rget rset
  rw [List.getElem?_set_ne (by omega)]
theorem rget_rset_eq {l : List Int} {z v : Int} (hz : 0 ≤ z ∧ z < l.length) : rget (rset l z v) z = v := by
  unfold rget rset
  rw [List.getElem?_set_self (by omega)]; rfl
theorem mone_konst (d n : Int) (regs : List Int) (m : Mach) : mone call s (konst d n) regs m = (rset regs d n, m) := mone1 rfl
theorem mone_fstep {K : WMap} {regs : List Int} (hk : knows K regs) (t : Tac) (m : Mach) : mone call s (fstep K t) regs m = mone call s t regs m := by
  cases hv : (fvalue t K).2 with
  | false => simp only [fstep, hv, cond_false]
  | true =>
    have e : fstep K t = konst t.d (fvalue t K).1 := by simp only [fstep, hv, cond_true]
    rw [e, mone_konst]
    unfold fvalue at hv ⊢
    cases e2 : t.op == 2 with
    | true =>
      rw [e2] at hv
      simp only [cond_true] at hv ⊢
      obtain ⟨v, hv⟩ := Option.isSome_iff_exists.1 hv
      rw [mone2 (by simpa using e2), (hk _ _ hv).2, hv]; rfl
    | false =>
      cases e3 : t.op == 3 with
      | false => rw [e2, e3] at hv; simp at hv
      | true =>
        rw [e2, e3] at hv
        simp only [cond_true, cond_false] at hv ⊢
        cases ea : pget t.a K with
        | none => rw [ea] at hv; simp at hv
        | some va =>
          cases eb : pget t.b K with
          | none => rw [eb] at hv; simp at hv
          | some vb =>
            rw [ea, eb] at hv
            simp only [Option.isSome_some, Bool.and_true, cond_true, Option.getD_some] at hv ⊢
            have h1 := (hk _ _ ea).2
            have h2 := (hk _ _ eb).2
            rw [mone3 (by simpa using e3) (by rw [h1, h2]; simpa using hv), h1, h2]
theorem mone_regs (u : Tac) (regs : List Int) (m : Mach) : (mone call s u regs m).1 = regs ∨ setsOp u.op = true ∧ ∃ v, (mone call s u regs m).1 = rset regs u.d v := by
  unfold mone setsOp
  cases u.op == 1 with
  | true => exact .inr ⟨rfl, _, rfl⟩
  | false =>
  cases u.op == 2 with
  | true => exact .inr ⟨rfl, _, rfl⟩
  | false =>
  cases u.op == 3 with
  | true =>
    simp only [cond_true, cond_false]
    cases (wapp u.k (rget regs u.a) (rget regs u.b)).2 == 0 with
    | true => exact .inr ⟨rfl, _, rfl⟩
    | false => exact .inl rfl
  | false =>
  cases u.op == 4 with
  | true => exact .inr ⟨rfl, _, rfl⟩
  | false =>
  cases u.op == 5 with
  | true => exact .inl rfl
  | false =>
  cases h6 : u.op == 6 with
  | true =>
    simp only [cond_true, cond_false]
    cases decide (rget regs u.a ≥ u.size) with
    | true => exact .inl rfl
    | false => exact .inr ⟨rfl, _, rfl⟩
  | false =>
  cases u.op == 7 with
  | true =>
    simp only [cond_true, cond_false]
    cases decide (rget regs u.a ≥ u.size) <;> exact .inl rfl
  | false =>
  cases u.op == 8 with
  | true =>
    simp only [cond_true, cond_false]
    cases decide (m.read < s.size) <;> exact .inr ⟨rfl, _, rfl⟩
  | false =>
  cases u.op == 9 with
  | true =>
    simp only [cond_true, cond_false]
    cases decide (m.out.length ≥ 65536) <;> exact .inl rfl
  | false =>
  cases u.op == 10 <;> exact .inl rfl
theorem knows_next {K : WMap} {regs : List Int} (hk : knows K regs) (hu : ukeys K) {u : Tac} (hd : setsOp u.op = true → 0 ≤ u.d ∧ u.d < regs.length) (m : Mach) : knows (fnext K u) (mone call s u regs m).1 := by
  unfold fnext
  cases hs : decide (u.sets < 0) with
  | true =>
    have hso : setsOp u.op = false := by
      cases e : setsOp u.op with
      | false => rfl
      | true =>
        have := hd e
        simp [Tac.sets, e] at hs; omega
    rcases mone_regs (call := call) (s := s) u regs m with h | ⟨h, _⟩
    · rw [h]; exact hk
    · rw [hso] at h; cases h
  | false =>
    have hso : setsOp u.op = true := by
      cases e : setsOp u.op with
      | true => rfl
      | false => simp [Tac.sets, e] at hs
    have hsd : u.sets = u.d := by simp [Tac.sets, hso]
    obtain ⟨d1, d2⟩ := hd hso
    simp only [cond_false]
    rw [hsd]
    cases h1 : u.op == 1 with
    | true =>
      rw [mone1 (by simpa using h1)]
      intro z v hz
      simp only [cond_true] at hz
      rw [pget_pset] at hz
      cases e : z == u.d with
      | true =>
        rw [e] at hz
        have hzd : z = u.d := by simpa using e
        subst hzd
        simp only [cond_true, Option.some.injEq] at hz
        subst hz
        exact ⟨d1, rget_rset_eq ⟨d1, d2⟩⟩
      | false =>
        rw [e] at hz
        obtain ⟨g1, g2⟩ := hk z v hz
        exact ⟨g1, by rw [rget_rset_ne d1 g1 (by simpa using e)]; exact g2⟩
    | false =>
      intro z v hz
      simp only [cond_false] at hz
      rw [pget_pdel _ _ hu] at hz
      cases e : z == u.d with
      | true => rw [e] at hz; simp at hz
      | false =>
        rw [e] at hz
        obtain ⟨g1, g2⟩ := hk z v hz
        refine ⟨g1, ?_⟩
        rcases mone_regs (call := call) (s := s) u regs m with h | ⟨_, w, h⟩
        · rw [h]; exact g2
        · rw [h, rget_rset_ne d1 g1 (by simpa using e)]; exact g2
theorem fstep_d (K : WMap) (t : Tac) : (fstep K t).d = t.d := by
  unfold fstep; cases (fvalue t K).2 <;> rfl
theorem fstep_setsOp {K : WMap} {t : Tac} (h : setsOp (fstep K t).op = true) : setsOp t.op = true := by
  unfold fstep at h
  cases hv : (fvalue t K).2 with
  | false => rw [hv] at h; exact h
  | true =>
    unfold fvalue at hv
    cases e2 : t.op == 2 with
    | true => simp [setsOp, e2]
    | false =>
      cases e3 : t.op == 3 with
      | true => simp [setsOp, e3]
      | false => rw [e2, e3] at hv; simp at hv
theorem mone_len (u : Tac) (regs : List Int) (m : Mach) : (mone call s u regs m).1.length = regs.length := by
  rcases mone_regs (call := call) (s := s) u regs m with h | ⟨_, v, h⟩
  · rw [h]
  · rw [h, rset_length]
theorem mins_len : ∀ (l : List Tac) (regs : List Int) (m : Mach), (mins call s fuel l regs m).2.1.length = regs.length
  | [], _, _ => rfl
  | t :: r, regs, m => by
    unfold mins
    cases (mstep fuel m).1 with
    | false => rfl
    | true =>
      simp only [cond_true]
      cases (mone call s t regs (mstep fuel m).2).2.fin == 0 with
      | false => exact mone_len _ _ _
      | true => exact (mins_len r _ _).trans (mone_len _ _ _)
theorem mins_fold : ∀ (l : List Tac) (K : WMap) (regs : List Int) (m : Mach), (∀ t ∈ l, setsOp t.op = true → 0 ≤ t.d ∧ t.d < regs.length) → knows K regs → ukeys K → mins call s fuel (foldIns K l) regs m = mins call s fuel l regs m
  | [], _, _, _, _, _, _ => rfl
  | t :: r, K, regs, m, hl, hk, hu => by
    have h1 := mone_fstep (call := call) (s := s) hk t (mstep fuel m).2
    have hkn := knows_next (call := call) (s := s) hk hu (u := fstep K t) (fun h => by rw [fstep_d]; exact hl t (by simp) (fstep_setsOp h)) (mstep fuel m).2
    rw [h1] at hkn
    simp only [foldIns, mins, h1]
    rw [mins_fold r (fnext K (fstep K t)) _ _ (fun u hu' hs => by rw [mone_len]; exact hl u (by simp [hu']) hs) hkn (ukeys_fnext hu _)]
theorem mblk_fold {f : BFunc} (hf : ∀ x ∈ f.blocks, ∀ t ∈ x.ins, setsOp t.op = true → 0 ≤ t.d ∧ t.d < f.regs.toNat) : ∀ (g : Nat) (i : Int) (regs : List Int) (m : Mach), regs.length = f.regs.toNat → mblk call s fuel f.fold g i regs m = mblk call s fuel f g i regs m
  | 0, _, _, _, _ => rfl
  | g + 1, i, regs, m, hr => by
    unfold mblk
    have e : f.fold.blocks[i.toNat]? = (f.blocks[i.toNat]?).map Block.fold := by simp [BFunc.fold]
    rw [e]
    cases hk : f.blocks[i.toNat]? with
    | none => rfl
    | some k =>
      have hm : mins call s fuel k.fold.ins regs m = mins call s fuel k.ins regs m := mins_fold k.ins [] regs m (fun t ht hs => by rw [hr]; exact hf k (List.mem_of_getElem? hk) t ht hs) (fun z v h => by cases h) (by simp [ukeys])
      simp only [Option.map_some]
      rw [hm]
      have ih := mblk_fold hf g (k.next (mins call s fuel k.ins regs m).2.1) (mins call s fuel k.ins regs m).2.1 (mstep fuel (mins call s fuel k.ins regs m).2.2).2 (by rw [mins_len]; exact hr)
      have hn : k.fold.next (mins call s fuel k.ins regs m).2.1 = k.next (mins call s fuel k.ins regs m).2.1 := rfl
      have hf3 : k.fold.fin = k.fin := rfl
      rw [hn, hf3, ih]
end
def Blocks.foldAll (b : Blocks) : Blocks := ⟨b.words, b.funcs.map BFunc.fold⟩
theorem inR_sets {b : Blocks} (h : b.right = true) {f : BFunc} (hf : f ∈ b.funcs) : ∀ x ∈ f.blocks, ∀ t ∈ x.ins, setsOp t.op = true → 0 ≤ t.d ∧ t.d < f.regs.toNat := fun x hx t ht hs => by
  obtain ⟨i, hi⟩ := List.getElem?_of_mem hf
  have := (fits_inR (((one_spec ((right_spec h).2.2.2 i f hi)).2.2.2 x hx).2 t ht)).1 hs
  omega
theorem mfun_fold {b : Blocks} (h : b.right = true) (s : ByteArray) (fuel : Int) : ∀ n : Nat, mfun b.foldAll s fuel n = mfun b s fuel n
  | 0 => rfl
  | n + 1 => by
    have ih := mfun_fold h s fuel n
    funext i m
    unfold mfun
    have e : b.foldAll.funcs[i.toNat]? = (b.funcs[i.toNat]?).map BFunc.fold := by simp [Blocks.foldAll]
    rw [e, ih]
    cases hf : b.funcs[i.toNat]? with
    | none => rfl
    | some f => exact mblk_fold (inR_sets h (List.mem_of_getElem? hf)) _ _ _ _ (by simp [BFunc.fold])
theorem mrun_fold {b : Blocks} (h : b.right = true) (s : ByteArray) (fuel : Int) : mrun b.foldAll s fuel = mrun b s fuel := by
  unfold mrun
  have e : b.foldAll.funcs.length = b.funcs.length := by simp [Blocks.foldAll]
  rw [e, mfun_fold h]; rfl
/-! ### it may be -/
theorem fits_parts {t : Tac} {f regs words : Int} (h : t.fits f regs words = true) : setsOp t.op = true → within t.d regs = true := by
  intro hs
  simp only [Tac.fits, Bool.and_eq_true, Bool.or_eq_true, Bool.not_eq_true'] at h
  rcases h.2.2.1 with h | h
  · rw [hs] at h; cases h
  · exact h
theorem konst_fits {d n f regs words : Int} (h : within d regs = true) : (konst d n).fits f regs words = true := by
  have e : (konst d n).want = konst d n := rfl
  have e2 : (konst d n).same (konst d n).want = true := by rw [e]; exact (Tac.same_iff _ _).2 rfl
  simp only [Tac.fits, e2, Bool.and_true]
  simp [konst, h, Tac.uses, use1, use2, Tac.rest, baseOp, arrOp]
theorem fstep_fits {K : WMap} {t : Tac} {f regs words : Int} (h : t.fits f regs words = true) : (fstep K t).fits f regs words = true := by
  cases hv : (fvalue t K).2 with
  | false => simp only [fstep, hv, cond_false]; exact h
  | true =>
    have e : fstep K t = konst t.d (fvalue t K).1 := by simp only [fstep, hv, cond_true]
    have hs : setsOp t.op = true := fstep_setsOp (K := K) (by rw [e]; rfl)
    rw [e]
    exact konst_fits (fits_parts h hs)
theorem foldIns_fits {f regs words : Int} : ∀ (l : List Tac) (K : WMap), (∀ t ∈ l, t.fits f regs words = true) → ∀ t ∈ foldIns K l, t.fits f regs words = true
  | [], _, _, t, ht => by cases ht
  | u :: r, K, h, t, ht => by
    simp only [foldIns, List.mem_cons] at ht
    rcases ht with rfl | ht
    · exact fstep_fits (h u (by simp))
    · exact foldIns_fits r _ (fun v hv => h v (by simp [hv])) t ht
theorem one_fold {f : BFunc} {n w : Int} (h : f.one n w = true) : f.fold.one n w = true := by
  obtain ⟨h1, h2, h3, h4⟩ := one_spec h
  have hb : f.fold.blocks.length ≠ 0 := by
    simp only [BFunc.fold, List.length_map]
    exact fun e => h3 (List.length_eq_zero_iff.1 e)
  rw [one_all (f := f.fold) h1 h2 hb]
  rw [List.all_eq_true]
  intro x hx
  simp only [BFunc.fold, List.mem_map] at hx
  obtain ⟨y, hy, rfl⟩ := hx
  have hl : f.fold.blocks.length = f.blocks.length := by simp [BFunc.fold]
  simp only [Block.ok, Bool.and_eq_true, List.all_eq_true]
  refine ⟨?_, foldIns_fits y.ins [] (h4 y hy).2⟩
  rw [hl]; exact (h4 y hy).1
theorem right_fold {b : Blocks} (h : b.right = true) : b.foldAll.right = true := by
  obtain ⟨h1, h2, h3, h4⟩ := right_spec h
  have hb : b.foldAll.funcs.length ≠ 0 := by
    simp only [Blocks.foldAll, List.length_map]
    exact fun e => h3 (List.length_eq_zero_iff.1 e)
  rw [right_all (b := b.foldAll) h1 h2 hb, List.all_eq_true]
  intro p hp
  obtain ⟨i, hi⟩ := List.getElem?_of_mem hp
  have hlt : i < b.funcs.length := by
    have := (List.getElem?_eq_some_iff.1 hi).1
    simpa [Blocks.foldAll] using this
  obtain ⟨f, hf⟩ := get_of_lt hlt
  have : b.foldAll.funcs.zipIdx[i]? = some (f.fold, i) := zipIdx_get (by simp [Blocks.foldAll, hf])
  rw [this] at hi
  cases hi
  exact one_fold (h4 i f hf)
theorem foldIns_w : ∀ (l : List Tac) {K : WMap}, allW K → insW l → insW (foldIns K l)
  | [], _, _, _ => fun t ht => by cases ht
  | u :: r, K, hK, h => fun t ht => by
    simp only [foldIns, List.mem_cons] at ht
    have hu := fstep_w (K := K) hK (h u (by simp))
    rcases ht with rfl | ht
    · exact hu
    · exact foldIns_w r (fnext_w hK hu) (fun v hv => h v (by simp [hv])) t ht
theorem foldAll_insW {b : Blocks} (h : b.insW) : b.foldAll.insW := fun f hf x hx => by
  simp only [Blocks.foldAll, List.mem_map] at hf
  obtain ⟨g, hg, rfl⟩ := hf
  simp only [BFunc.fold, List.mem_map] at hx
  obtain ⟨y, hy, rfl⟩ := hx
  exact foldIns_w y.ins (fun p hp => by cases hp) (h g hg y hy)
theorem foldAll_len {b : Blocks} {n : Nat} (h : ∀ f ∈ b.funcs, ∀ x ∈ f.blocks, x.ins.length ≤ n) : ∀ f ∈ b.foldAll.funcs, ∀ x ∈ f.blocks, x.ins.length ≤ n := fun f hf x hx => by
  simp only [Blocks.foldAll, List.mem_map] at hf
  obtain ⟨g, hg, rfl⟩ := hf
  simp only [BFunc.fold, List.mem_map] at hx
  obtain ⟨y, hy, rfl⟩ := hx
  show (foldIns [] y.ins).length ≤ n
  rw [foldIns_length]; exact h g hg y hy
theorem eq_resCells (m : Mach) : Sv.eqCells (resCells m) (resCells m) = some true := by
  simp [resCells, Sv.eqCells, eqCell]
/-- a small program's numbers -/
theorem small_insW {b : Blocks} (h : b.Ok) : b.insW := fun f hf x hx => BFunc.Ok.insW (h.funcs f hf) hx
theorem small_len {b : Blocks} {most : Int} (hm : most ≤ 1000) (h : b.small most = true) : ∀ f ∈ b.funcs, ∀ x ∈ f.blocks, x.ins.length ≤ maxLen := fun f hf x hx => by
  have h1 := count_ins hf hx
  have h2 := (small_spec h).2.2.2.1
  simp only [maxLen]; omega
end Go.Proofs.Ytkccdnincholpaa.Sv
