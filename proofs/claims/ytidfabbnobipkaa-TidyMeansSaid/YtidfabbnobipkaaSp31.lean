/-
  WHATEVER HOLDS MEANS THE SAME, IN PLAIN LEAN: own work, over no program.
-/
import Derived.Test.YtidfabbnobipkaaSp30
import Derived.Test.YtidfabbnobipkaaSp29
namespace Go.Proofs.Ytidfabbnobipkaa.Sv
open Go
set_option linter.unusedVariables false
set_option linter.unusedSimpArgs false

section
variable {call call' : Int → Mach → Mach} {s : ByteArray} {fuel : Int}
theorem mins_append : ∀ (l1 l2 : List Tac) (regs : List Int) (m : Mach), mins call s fuel (l1 ++ l2) regs m = bif (mins call s fuel l1 regs m).1 then mins call s fuel l2 (mins call s fuel l1 regs m).2.1 (mins call s fuel l1 regs m).2.2 else mins call s fuel l1 regs m
  | [], l2, regs, m => rfl
  | t :: r, l2, regs, m => by
    simp only [List.cons_append, mins]
    cases (mstep fuel m).1 with
    | false => rfl
    | true =>
      simp only [cond_true]
      cases (mone call s t regs (mstep fuel m).2).2.fin == 0 with
      | false => rfl
      | true => exact mins_append r l2 _ _
/-- behind a block's instructions -/
def closeB (call : Int → Mach → Mach) (s : ByteArray) (fuel : Int) (f : BFunc) (k : Block) (g : Nat) (regs : List Int) (m : Mach) : Mach :=
  bif (mstep fuel m).1 && !(k.fin == 3) then mblk call s fuel f g (k.next regs) regs (mstep fuel m).2 else (mstep fuel m).2
theorem mblk_open {f : BFunc} {i : Int} (hi : 0 ≤ i ∧ i < f.blocks.length) (g : Nat) (regs : List Int) (m : Mach) : mblk call s fuel f (g + 1) i regs m =
    bif (mins call s fuel (f.blockAt i).ins regs m).1 then closeB call s fuel f (f.blockAt i) g (mins call s fuel (f.blockAt i).ins regs m).2.1 (mins call s fuel (f.blockAt i).ins regs m).2.2 else (mins call s fuel (f.blockAt i).ins regs m).2.2 := by
  rw [mblk, blockAt_get hi]; rfl
variable {ok : Int → Prop} {old new : BFunc}
theorem path_sim (hc : callsSim call call' ok) (hcs : ∀ i m, m.steps ≤ (call i m).steps) (hf : ∀ x ∈ old.blocks, ∀ t ∈ x.ins, t.op = 10 → ok t.base) :
    ∀ (p : List Int), p ≠ [] → (∀ i ∈ p, 0 ≤ i ∧ i < old.blocks.length) → fol old p → ∀ (g : Nat) (regs : List Int) (m m' : Mach), m.fin = 0 → m.Le m' → 0 < g → gasOk fuel g m →
      (mblk call s fuel old g (headZ p) regs m).fin = 5 ∨
      ((mins call' s fuel (old.joined p) regs m').1 = false ∧ (mblk call s fuel old g (headZ p) regs m).Le (mins call' s fuel (old.joined p) regs m').2.2) ∨
      ((mins call' s fuel (old.joined p) regs m').1 = true ∧ ∃ m2 g2, m2.Le (mins call' s fuel (old.joined p) regs m').2.2 ∧ m2.fin = 0 ∧ gasOk fuel (g2 + 1) m2 ∧ g2 < g ∧
        mblk call s fuel old g (headZ p) regs m = closeB call s fuel old (old.blockAt (lastOf p)) g2 (mins call' s fuel (old.joined p) regs m').2.1 m2)
  | [], h, _, _, _, _, _, _, _, _, _, _ => absurd rfl h
  | [i], _, hin, _, g, regs, m, m', h0, h, hg, hgas => by
    obtain ⟨g1, rfl⟩ : ∃ g1, g = g1 + 1 := ⟨g - 1, by omega⟩
    have hi := hin i (by simp)
    have e : old.joined [i] = (old.blockAt i).ins := by simp [BFunc.joined]
    have hs := mins_sim (s := s) (fuel := fuel) hc (old.blockAt i).ins (hf _ (List.mem_of_getElem? (blockAt_get hi))) regs h0 h
    have hst := mins_steps (s := s) (fuel := fuel) hcs (old.blockAt i).ins regs m
    rw [e, show headZ [i] = i from rfl, show lastOf [i] = i from rfl, mblk_open hi]
    generalize mins call s fuel (old.blockAt i).ins regs m = X at hs hst ⊢
    generalize mins call' s fuel (old.blockAt i).ins regs m' = Y at hs ⊢
    obtain ⟨X1, X2, X3⟩ := X
    obtain ⟨Y1, Y2, Y3⟩ := Y
    rcases hs with ⟨h1, h2⟩ | ⟨h1, h2, h3, h4, h5⟩
    · simp only at h1 h2; subst h1; exact .inl h2
    · simp only at h1 h2 h3 h4 h5 hst
      subst h1; subst h2
      cases X1 with
      | false => exact .inr (.inl ⟨rfl, h3⟩)
      | true => exact .inr (.inr ⟨rfl, X3, g1, h3, h4 rfl, by unfold gasOk at hgas ⊢; omega, Nat.lt_succ_self _, rfl⟩)
  | i :: j :: r, _, hin, hfo, g, regs, m, m', h0, h, hg, hgas => by
    obtain ⟨g1, rfl⟩ : ∃ g1, g = g1 + 1 := ⟨g - 1, by omega⟩
    have hi := hin i (by simp)
    have e : old.joined (i :: j :: r) = (old.blockAt i).ins ++ old.joined (j :: r) := by simp [BFunc.joined]
    have hs := mins_sim (s := s) (fuel := fuel) hc (old.blockAt i).ins (hf _ (List.mem_of_getElem? (blockAt_get hi))) regs h0 h
    have hst := mins_steps (s := s) (fuel := fuel) hcs (old.blockAt i).ins regs m
    have hl : lastOf (i :: j :: r) = lastOf (j :: r) := by simp [lastOf]
    rw [e, show headZ (i :: j :: r) = i from rfl, hl, mblk_open hi, mins_append]
    generalize mins call s fuel (old.blockAt i).ins regs m = X at hs hst ⊢
    generalize mins call' s fuel (old.blockAt i).ins regs m' = Y at hs ⊢
    obtain ⟨X1, X2, X3⟩ := X
    obtain ⟨Y1, Y2, Y3⟩ := Y
    rcases hs with ⟨h1, h2⟩ | ⟨h1, h2, h3, h4, h5⟩
    · simp only at h1 h2; subst h1; exact .inl h2
    · simp only at h1 h2 h3 h4 h5 hst
      subst h1; subst h2
      cases X1 with
      | false => exact .inr (.inl ⟨rfl, h3⟩)
      | true =>
        simp only [cond_true]
        cases hm : (mstep fuel X3).1 with
        | false =>
          refine .inl ?_
          rw [closeB, hm]
          exact mstep_false hm
        | true =>
          obtain ⟨e1, e2⟩ := mstep_true hm
          have hx0 := h4 rfl
          have hn3 : ((old.blockAt i).fin == 3) = false := by rw [hfo.1]; rfl
          have hnx : (old.blockAt i).next X2 = j := by simp [Block.next, hfo.1, hfo.2.1]
          have ec : closeB call s fuel old (old.blockAt i) g1 X2 X3 = mblk call s fuel old g1 j X2 (mstep fuel X3).2 := by
            rw [closeB, hm, hn3, hnx]; rfl
          have hle2 : (mstep fuel X3).2.Le Y3 := by
            rw [e2]
            exact ⟨h3.words, h3.out, h3.read, h3.fin, Nat.le_succ_of_le h3.steps⟩
          have ih := path_sim hc hcs hf (j :: r) (by simp) (fun x hx => hin x (by simp at hx ⊢; exact .inr hx)) hfo.2.2 g1 X2 (mstep fuel X3).2 Y3 (by rw [e2]; exact hx0) hle2
            (by unfold gasOk at hgas; omega) (by unfold gasOk at hgas ⊢; rw [e2]; dsimp only; omega)
          rw [show headZ (j :: r) = j from rfl] at ih
          rw [ec]
          rcases ih with ih | ih | ⟨ih1, m2, g2, q1, q2, q3, q4, q5⟩
          · exact .inl ih
          · exact .inr (.inl ih)
          · exact .inr (.inr ⟨ih1, m2, g2, q1, q2, q3, by omega, q5⟩)
theorem tidy_sim {paths : List (List Int)} (hH : Holds old new paths) (hend : ∀ x ∈ old.blocks, x.fin = 1 ∨ x.fin = 2 ∨ x.fin = 3) (hc : callsSim call call' ok) (hcs : ∀ i m, m.steps ≤ (call i m).steps) (hcs' : ∀ i m, m.steps ≤ (call' i m).steps)
    (hf : ∀ x ∈ old.blocks, ∀ t ∈ x.ins, t.op = 10 → ok t.base) : ∀ (n g : Nat), g ≤ n → ∀ (g' : Nat) (k : Int) (regs : List Int) (m m' : Mach), m.fin = 0 → m.Le m' → 0 < g → 0 < g' → gasOk fuel g m → gasOk fuel g' m' → 0 ≤ k ∧ k < paths.length →
      (mblk call s fuel old g (headZ (pathK paths k)) regs m).Sim (mblk call' s fuel new g' k regs m')
  | 0, g, hgn, _, _, _, _, _, _, _, h, _, _, _, _ => absurd h (by omega)
  | n + 1, g, hgn, g', k, regs, m, m', h0, h, hg, hg', hgas, hgas', hk => by
    obtain ⟨g1', rfl⟩ : ∃ g1, g' = g1 + 1 := ⟨g' - 1, by omega⟩
    have hpk := pathK_get hk
    have ek : ((k.toNat : Nat) : Int) = k := Int.toNat_of_nonneg hk.1
    have hin := hH.all _ (List.mem_of_getElem? hpk)
    have hins := hH.ins _ _ hpk
    have hle := hH.leads _ _ hpk
    rw [ek] at hins hle
    have hkn : 0 ≤ k ∧ k < new.blocks.length := by rw [← hH.len]; exact hk
    have ps := path_sim (call := call) (call' := call') (s := s) (fuel := fuel) hc hcs hf (pathK paths k) hin.1 hin.2 (hH.fol _ _ hpk) g regs m m' h0 h hg hgas
    have hst' := mins_steps (s := s) (fuel := fuel) hcs' (old.joined (pathK paths k)) regs m'
    rw [mblk_open hkn, hins]
    generalize mins call' s fuel (old.joined (pathK paths k)) regs m' = Y at ps hst' ⊢
    generalize hX : mblk call s fuel old g (headZ (pathK paths k)) regs m = X at ps ⊢
    obtain ⟨Y1, Y2, Y3⟩ := Y
    rcases ps with ps | ⟨p1, p2⟩ | ⟨p1, m2, g2, q1, q2, q3, q4, q5⟩
    · exact .inl ps
    · simp only at p1; subst p1; exact .inr p2
    · simp only at p1 q1 q5 hst'
      subst p1
      simp only [cond_true]
      rw [q5]
      unfold closeB
      cases hm : (mstep fuel m2).1 with
      | false => simp only [Bool.false_and, cond_false]; exact .inl (mstep_false hm)
      | true =>
        obtain ⟨a1, a2⟩ := mstep_le q1 hm
        obtain ⟨e1, e2⟩ := mstep_true hm
        obtain ⟨e1', e2'⟩ := mstep_true a1
        obtain ⟨l1, l2, l3, l4, l5, l6⟩ := leadsB_spec hle
        have hlast := hin.2 _ (last_mem hin.1)
        have hfin := hend _ (List.mem_of_getElem? (blockAt_get hlast))
        rw [a1, l1]
        cases h3 : (old.blockAt (lastOf (pathK paths k))).fin == 3 with
        | true => exact .inr a2
        | false =>
          simp only [Bool.not_false, Bool.and_self, cond_true]
          have h12 : (new.blockAt k).fin = 1 ∨ (new.blockAt k).fin = 2 := by
            rw [l1]
            rcases hfin with e | e | e
            · exact .inl e
            · exact .inr e
            · rw [e] at h3; cases h3
          have bt := beginsB_spec (l3 h12)
          have key : 0 ≤ (new.blockAt k).next Y2 ∧ (new.blockAt k).next Y2 < paths.length ∧ (old.blockAt (lastOf (pathK paths k))).next Y2 = headZ (pathK paths ((new.blockAt k).next Y2)) := by
            unfold Block.next
            rw [← l1, ← l2]
            cases hc2 : (new.blockAt k).fin == 2 && rget Y2 (new.blockAt k).v == 0 with
            | false => exact ⟨bt.1, bt.2.1, bt.2.2.symm⟩
            | true =>
              simp only [Bool.and_eq_true, beq_iff_eq] at hc2
              have be := beginsB_spec (l5 hc2.1)
              exact ⟨be.1, be.2.1, be.2.2.symm⟩
          rw [key.2.2]
          refine tidy_sim hH hend hc hcs hcs' hf n g2 (by omega) g1' _ _ _ _ (by rw [e2]; exact q2) a2 ?_ ?_ ?_ ?_ ⟨key.1, key.2.1⟩
          · unfold gasOk at q3; omega
          · unfold gasOk at hgas'; omega
          · unfold gasOk at q3 ⊢; rw [e2]; dsimp only; omega
          · unfold gasOk at hgas' ⊢; rw [e2']; dsimp only; omega
end
def Blocks.put (b : Blocks) (f : BFunc) : Blocks := ⟨b.words, b.funcs.set (b.funcs.length - 1) f⟩
theorem put_len (b : Blocks) (f : BFunc) : (b.put f).funcs.length = b.funcs.length := by simp [Blocks.put]
theorem put_low {b : Blocks} {f : BFunc} {j : Nat} (h : j + 1 < b.funcs.length) : (b.put f).funcs[j]? = b.funcs[j]? := by
  simp only [Blocks.put]; rw [List.getElem?_set_ne (by omega)]
theorem put_last {b : Blocks} {f : BFunc} (h : 0 < b.funcs.length) : (b.put f).funcs[b.funcs.length - 1]? = some f := by
  simp only [Blocks.put]; rw [List.getElem?_set_self (by omega)]
theorem put_sim {b : Blocks} (hb : b.right = true) {f : BFunc} {s : ByteArray} {fuel : Int} : ∀ (n : Nat) (i : Int) (m m' : Mach), 0 ≤ i → i + 1 < b.funcs.length → m.fin = 0 → m.Le m' → (mfun b s fuel n i m).Sim (mfun (b.put f) s fuel n i m')
  | 0, _, _, _, _, _, _, h => .inr h
  | n + 1, i, m, m', h1, h2, h0, h => by
    unfold mfun
    rw [put_low (by omega)]
    cases hf : b.funcs[i.toNat]? with
    | none => exact .inr h
    | some x =>
      have hone := (right_spec hb).2.2.2 i.toNat x hf
      refine mblk_sim (ok := fun j => 0 ≤ j ∧ j + 1 < b.funcs.length) (fun j m m' hj hz hl => put_sim hb n j m m' hj.1 hj.2 hz hl) (fun y hy t ht ho => ?_) (fun j m => mfun_steps n j m) (fun j m => mfun_steps n j m) _ _ _ _ _ _ h0 h (Nat.succ_pos _) (Nat.succ_pos _) ?_ ?_
      · have := (tacIn_of (((one_spec hone).2.2.2 y hy).2 t ht)).call ho
        omega
      · unfold gasOk; omega
      · unfold gasOk; omega
theorem ends_fin {x : Block} {n r : Int} (h : x.ends n r = true) : x.fin = 1 ∨ x.fin = 2 ∨ x.fin = 3 := by
  unfold Block.ends at h
  cases e1 : x.fin == 1 with
  | true => exact .inl (by simpa using e1)
  | false =>
    cases e2 : x.fin == 2 with
    | true => exact .inr (.inl (by simpa using e2))
    | false =>
      rw [e1, e2] at h
      simp at h
      exact .inr (.inr h.1)
/-- the run of what holds -/
theorem run_put {b : Blocks} (hb : b.right = true) {old new : BFunc} (ho : b.funcs[b.funcs.length - 1]? = some old) {paths : List (List Int)} (hH : Holds old new paths) (s : ByteArray) (fuel : Int) :
    (mrun b s fuel).fin = 5 ∨ (mrun b s fuel).fin = (mrun (b.put new) s fuel).fin ∧ (mrun b s fuel).out = (mrun (b.put new) s fuel).out ∧ (mrun (b.put new) s fuel).steps ≤ (mrun b s fuel).steps := by
  have hr := right_spec hb
  have hne : 0 < b.funcs.length := List.length_pos_iff.2 hr.2.2.1
  have hone := hr.2.2.2 _ _ ho
  have hsp := one_spec hone
  obtain ⟨n, hn⟩ : ∃ n, b.funcs.length = n + 1 := ⟨b.funcs.length - 1, by omega⟩
  have en : (((b.funcs.length : Int) - 1)).toNat = b.funcs.length - 1 := by omega
  have key : (mfun b s (fuel0 fuel) (n + 1) ((b.funcs.length : Int) - 1) (m0 b)).Sim (mfun (b.put new) s (fuel0 fuel) (n + 1) ((b.funcs.length : Int) - 1) (m0 b)) := by
    unfold mfun
    rw [en, ho, put_last hne]
    have h0 : headZ (pathK paths 0) = 0 := hH.head
    have hp0 : (0 : Int) < paths.length := by have := hH.ne; omega
    have e0 : new.regs = old.regs := hH.regs.symm
    have := tidy_sim (s := s) (fuel := fuel0 fuel) (call := mfun b s (fuel0 fuel) n) (call' := mfun (b.put new) s (fuel0 fuel) n) (ok := fun j => 0 ≤ j ∧ j + 1 < b.funcs.length) hH (fun x hx => ends_fin (hsp.2.2.2 x hx).1)
      (fun j m m' hj hz hl => put_sim hb n j m m' hj.1 hj.2 hz hl) (fun j m => mfun_steps n j m) (fun j m => mfun_steps n j m)
      (fun x hx t ht ho => by have := (tacIn_of ((hsp.2.2.2 x hx).2 t ht)).call ho; omega) ((fuel0 fuel).toNat + 1) ((fuel0 fuel).toNat + 1) (Nat.le_refl _) ((fuel0 fuel).toNat + 1) 0 (List.replicate old.regs.toNat 0) (m0 b) (m0 b) rfl (Mach.Le.refl _) (Nat.succ_pos _) (Nat.succ_pos _) (by unfold gasOk; omega) (by unfold gasOk; omega) ⟨Int.le_refl _, hp0⟩
    rw [h0] at this
    simp only [e0]
    exact this
  have em : m0 (b.put new) = m0 b := rfl
  unfold mrun
  rw [put_len, em, hn]
  rw [hn] at key
  dsimp only
  generalize mfun b s (fuel0 fuel) (n + 1) (((n + 1 : Nat) : Int) - 1) (m0 b) = X at key ⊢
  generalize mfun (b.put new) s (fuel0 fuel) (n + 1) (((n + 1 : Nat) : Int) - 1) (m0 b) = Y at key ⊢
  rcases key with h | h
  · rw [show (X.fin == 0) = false by rw [h]; rfl]
    exact .inl h
  · rw [h.fin]
    cases X.fin == 0 with
    | true => exact .inr ⟨rfl, h.out.symm, h.steps⟩
    | false => exact .inr ⟨h.fin.symm, h.out.symm, h.steps⟩
/-! ### it may be -/
theorem mem_joined {f : BFunc} {p : List Int} {t : Tac} (h : t ∈ f.joined p) : ∃ i ∈ p, t ∈ (f.blockAt i).ins := by
  simpa [BFunc.joined] using h
theorem one_put {old new : BFunc} {paths : List (List Int)} (hH : Holds old new paths) {n w : Int} (h : old.one n w = true) : new.one n w = true := by
  obtain ⟨h1, h2, h3, h4⟩ := one_spec h
  have hb : new.blocks.length ≠ 0 := by rw [← hH.len]; exact hH.ne
  rw [one_all (by rw [← hH.regs]; exact h1) (by rw [← hH.regs]; exact h2) hb, List.all_eq_true]
  intro x hx
  obtain ⟨k, hk⟩ := List.getElem?_of_mem hx
  have hkl : k < paths.length := by rw [hH.len]; exact (List.getElem?_eq_some_iff.1 hk).1
  obtain ⟨p, hp⟩ := get_of_lt hkl
  have hxk : new.blockAt k = x := by
    have := blockAt_get (f := new) (i := k) (by rw [← hH.len]; omega)
    rw [Int.toNat_natCast, hk] at this
    exact (Option.some.inj this).symm
  have hin := hH.all p (List.mem_of_getElem? hp)
  have hins := hH.ins k p hp
  have hle := hH.leads k p hp
  rw [hxk] at hins hle
  have hlast := hin.2 _ (last_mem hin.1)
  have hold := (h4 _ (List.mem_of_getElem? (blockAt_get hlast))).1
  obtain ⟨l1, l2, l3, l4, l5, l6⟩ := leadsB_spec hle
  have hlen : (new.blocks.length : Int) = paths.length := by rw [hH.len]
  simp only [Block.ok, Bool.and_eq_true, List.all_eq_true]
  refine ⟨?_, fun t ht => ?_⟩
  · rw [hlen, ← hH.regs]
    have hfin := ends_fin hold
    unfold Block.ends at hold ⊢
    rw [← l1] at hold hfin
    rcases hfin with e | e | e
    · have bt := beginsB_spec (l3 (.inl e))
      have e6 := l6 (by rw [e]; decide)
      simp [e, within] at hold ⊢
      rw [l2, e6]
      exact ⟨⟨bt.1, bt.2.1⟩, hold.2⟩
    · have bt := beginsB_spec (l3 (.inr e))
      have be := beginsB_spec (l5 e)
      simp [e, within] at hold ⊢
      rw [l2]
      exact ⟨⟨bt.1, bt.2.1⟩, ⟨be.1, be.2.1⟩, hold.2.2⟩
    · have e4 := l4 (by rw [e]; decide)
      have e6 := l6 (by rw [e]; decide)
      simp [e] at hold ⊢
      rw [l2, e4, e6]
      exact hold
  · rw [hins] at ht
    obtain ⟨i, hi, hti⟩ := mem_joined ht
    rw [← hH.regs]
    exact (h4 _ (List.mem_of_getElem? (blockAt_get (hin.2 i hi)))).2 t hti
theorem right_put {b : Blocks} (hb : b.right = true) {old new : BFunc} (ho : b.funcs[b.funcs.length - 1]? = some old) {paths : List (List Int)} (hH : Holds old new paths) : (b.put new).right = true := by
  obtain ⟨h1, h2, h3, h4⟩ := right_spec hb
  have hne : 0 < b.funcs.length := List.length_pos_iff.2 h3
  rw [right_all (b := b.put new) h1 h2 (by rw [put_len]; omega), List.all_eq_true]
  intro q hq
  obtain ⟨i, hi⟩ := List.getElem?_of_mem hq
  have hlt : i < b.funcs.length := by
    have := (List.getElem?_eq_some_iff.1 hi).1
    simpa [Blocks.put] using this
  by_cases hl : i + 1 < b.funcs.length
  · obtain ⟨f, hf⟩ := get_of_lt hlt
    rw [zipIdx_get ((put_low hl).trans hf)] at hi
    cases hi
    exact h4 i f hf
  · have hil : i = b.funcs.length - 1 := by omega
    subst hil
    rw [zipIdx_get (put_last hne)] at hi
    cases hi
    exact one_put hH (h4 _ _ ho)
end Go.Proofs.Ytidfabbnobipkaa.Sv
