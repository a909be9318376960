/-
  NOTHING IS LEFT TO JOIN; TIDIED AGAIN IT IS AS IT IS, IN PLAIN LEAN: own work, over no program.
-/
import Derived.Test.YtidfabbnobipkaaSp37
namespace Go.Proofs.Ytidfabbnobipkaa.Sv
open Go
set_option linter.unusedVariables false
set_option linter.unusedSimpArgs false

section
variable {f : BFunc}
theorem last_row (hle : f.leads) (hn : f.blocks ≠ []) {u : Int} (hu : isBeen f.reach u) (h : iget f.tk u = -1) : ∃ (k : Nat) (p : List Int), f.tpaths[k]? = some p ∧ lastOf p = u := by
  obtain ⟨k, p, hp, hup, _⟩ := cover hle hn ((reach_is hle hn u).1 hu)
  obtain ⟨c, hc, rfl⟩ := path_at hle hp
  exact ⟨k, _, hp, (chain_stop _ _ _ hup h).symm⟩
/-- who leads to a head is a last one -/
theorem lead_last (hle : f.leads) {u t : Int} (hu : isBeen f.reach u) (ht : t ∈ (f.blockAt u).nexts) (hh : f.headOf t.toNat = true) (et : ((t.toNat : Nat) : Int) = t) : iget f.tk u = -1 := by
  by_cases h : iget f.tk u = -1
  · exact h
  · exfalso
    have hur := been_in hle hu
    have hs := tk_spec hle hur h
    have : t = iget f.tk u := by
      rw [hs.1]
      simpa [Block.nexts, hs.2.2.1] using ht
    exact (head_free hle hh).2 u hur (by rw [et]; exact this.symm)
theorem tidy_rowN {k : Nat} {p : List Int} (h : f.tpaths[k]? = some p) : rowN f.tidy.nexts k = ((f.blockAt (lastOf p)).nexts).map (iget f.nums) := by
  rw [rowN, tidy_row h]; rfl
theorem rowN_at (hle : f.leads) {u : Nat} (hu : u < f.blocks.length) : rowN f.nexts u = (f.blockAt u).nexts := by
  have := blockAt_get (f := f) (i := (u : Int)) (by omega)
  rw [Int.toNat_natCast] at this
  rw [rowN, nexts_get this]; rfl
theorem last_been (hle : f.leads) (hn : f.blocks ≠ []) {k : Nat} {p : List Int} (h : f.tpaths[k]? = some p) : isBeen f.reach (lastOf p) ∧ iget f.tk (lastOf p) = -1 ∧ lastOf p ∈ p := by
  have hR := (reach_cl hle hn).2
  obtain ⟨c, c1, rfl⟩ := path_at hle h
  have hcb := (head_free hle c1).1
  have hne : pathOf f.tk c ≠ [] := by simp [pathOf]
  have hm := last_mem hne
  refine ⟨?_, last_chain hle _ _ (head_ends hle c1), hm⟩
  simp only [pathOf, List.mem_cons] at hm
  rcases hm with hm | hm
  · show isBeen f.reach (lastOf (↑c :: chain f.tk f.tk.length ↑c))
    rw [hm]; exact hcb
  · exact been_chain hle hR _ _ hcb _ hm
theorem tidy_leads (hle : f.leads) (hn : f.blocks ≠ []) : f.tidy.leads := fun l hl t' ht' => by
  have hR := (reach_cl hle hn).2
  obtain ⟨k, hk⟩ := List.getElem?_of_mem hl
  have hkl : k < f.tpaths.length := by
    have := (List.getElem?_eq_some_iff.1 hk).1
    simpa [BFunc.nexts, BFunc.tidy] using this
  obtain ⟨p, hp⟩ := get_of_lt hkl
  rw [tidy_row hp] at hk
  cases hk
  obtain ⟨t, ht, rfl⟩ := List.mem_map.1 ht'
  obtain ⟨b1, b2, _⟩ := last_been hle hn hp
  obtain ⟨hh, et⟩ := last_head hle hR b1 b2 ht
  obtain ⟨i, i1, i2⟩ := path_of hle hh
  rw [et] at i1
  have := (List.getElem?_eq_some_iff.1 i2).1
  rw [i1]
  simp only [BFunc.tidy, List.length_map]
  omega
theorem tidy_ne (hle : f.leads) (hn : f.blocks ≠ []) : f.tidy.blocks ≠ [] := fun h => by
  have := (List.getElem?_eq_some_iff.1 (first_path hle hn)).1
  have h2 : f.tpaths.length = 0 := by simpa [BFunc.tidy] using h
  omega
theorem no_join (hle : f.leads) (hn : f.blocks ≠ []) {marks : List Bool} (hm : ∀ j, j < f.tidy.blocks.length → marks[j]? = some true) {i k : Nat} {x : Block} (hx : f.tidy.blocks[i]? = some x) (hfin : x.fin = 1) (hto : x.to = (k : Int)) (hk : 1 ≤ k) (hik : i ≠ k)
    (hc : cntTo f.tidy.nexts marks k f.tidy.blocks.length ≤ 1) : False := by
  have hR := (reach_cl hle hn).2
  have hil : i < f.tpaths.length := by
    have := (List.getElem?_eq_some_iff.1 hx).1
    simpa [BFunc.tidy] using this
  obtain ⟨p, hp⟩ := get_of_lt hil
  have hxp : x = f.newBlock p := by
    simp only [BFunc.tidy, List.getElem?_map, hp, Option.map_some, Option.some.injEq] at hx
    exact hx.symm
  subst hxp
  obtain ⟨b1, b2, b3⟩ := last_been hle hn hp
  have hfl : (f.blockAt (lastOf p)).fin = 1 := hfin
  have hto' : iget f.nums (f.blockAt (lastOf p)).to = k := by
    rw [← hto]; simp [BFunc.newBlock, hfl]
  have hlr := been_in hle b1
  obtain ⟨hh, et⟩ := last_head hle hR b1 b2 (t := (f.blockAt (lastOf p)).to) (by simp [Block.nexts, hfl])
  generalize hT : (f.blockAt (lastOf p)).to = t at *
  obtain ⟨k2, k3, k4⟩ := path_of hle hh
  rw [et] at k3 k4
  have hkk : k2 = k := by omega
  subst hkk
  have htb := (head_free hle hh).1
  rw [et] at htb
  have htr := been_in hle htb
  have h0 : t ≠ 0 := fun e => by
    subst e
    have := head_index k4 (first_path hle hn) rfl
    omega
  have hl : t ≠ lastOf p := fun e => by
    obtain ⟨c, hcc, rfl⟩ := path_at hle hp
    have := head_on hle hcc hh (by rw [et, e]; exact b3)
    refine hik (head_index hp k4 ?_)
    show (c : Int) = t
    omega
  have hways : iget (waysF f.nexts f.reach) t = 1 := by
    have e := ways_cnt (reach := f.reach) (leadN hle) htr.1 f.nexts.length (Nat.le_refl _)
    have ge : 1 ≤ cntTo f.nexts f.reach t f.nexts.length := by
      have h1 := cnt_le (next := f.nexts) (k := t) (m := f.nexts.length) (i := (lastOf p).toNat) (by rw [nexts_length]; omega) b1.2
      have h2 : 1 ≤ (rowN f.nexts (lastOf p).toNat).count t := List.count_pos_iff.2 (by
        rw [rowN_at hle (by omega), Int.toNat_of_nonneg hlr.1]
        simp [Block.nexts, hfl, hT])
      omega
    have le : ¬ 2 ≤ cntTo f.nexts f.reach t f.nexts.length := fun h2 => by
      have hrow : ∀ u : Nat, u < f.nexts.length → f.reach[u]? = some true → t ∈ rowN f.nexts u → ∃ (ku : Nat) (q : List Int), f.tpaths[ku]? = some q ∧ lastOf q = u ∧ (rowN f.nexts u).count t ≤ (rowN f.tidy.nexts ku).count (k2 : Int) ∧ ku < f.tidy.blocks.length := fun u hu hru htu => by
        rw [nexts_length] at hu
        rw [rowN_at hle hu] at htu ⊢
        have hub : isBeen f.reach (u : Int) := ⟨by omega, by rw [Int.toNat_natCast]; exact hru⟩
        obtain ⟨ku, q, hq, hlq⟩ := last_row hle hn hub (lead_last hle hub htu hh et)
        refine ⟨ku, q, hq, hlq, ?_, ?_⟩
        · rw [tidy_rowN hq, hlq, ← k3]
          exact List.count_le_count_map
        · have := (List.getElem?_eq_some_iff.1 hq).1
          simpa [BFunc.tidy] using this
      rcases cnt_two h2 with ⟨u, v, huv, hv, hru, hrv, htu, htv⟩ | ⟨u, hu, hru, hcu⟩
      · obtain ⟨ku, q, hq, hlq, hcq, hkq⟩ := hrow u (by omega) hru htu
        obtain ⟨kv, q', hq', hlq', hcq', hkq'⟩ := hrow v hv hrv htv
        have c1 : 1 ≤ (rowN f.nexts u).count t := List.count_pos_iff.2 htu
        have c2 : 1 ≤ (rowN f.nexts v).count t := List.count_pos_iff.2 htv
        rcases Nat.lt_trichotomy ku kv with h | h | h
        · have := cnt_le2 (next := f.tidy.nexts) (reach := marks) (k := (k2 : Int)) h hkq' (hm _ hkq) (hm _ hkq')
          omega
        · subst h
          rw [hq] at hq'
          cases hq'
          omega
        · have := cnt_le2 (next := f.tidy.nexts) (reach := marks) (k := (k2 : Int)) h hkq (hm _ hkq') (hm _ hkq)
          omega
      · obtain ⟨ku, q, hq, hlq, hcq, hkq⟩ := hrow u hu hru (List.count_pos_iff.1 (by omega))
        have := cnt_le (next := f.tidy.nexts) (reach := marks) (k := (k2 : Int)) hkq (hm _ hkq)
        omega
    unfold waysF
    omega
  have htk := tk_at hle hlr
  rw [b2] at htk
  unfold takeOf at htk
  have e1 : (f.reach[(lastOf p).toNat]?).getD false = true := by rw [b1.2]; rfl
  have e3 : ((lastOf p).toNat : Int) = lastOf p := Int.toNat_of_nonneg hlr.1
  rw [e1, hfl, hT, hways, e3] at htk
  have : ((1 : Int) == 1 && (t != 0 && (t != lastOf p && ((1 : Int) == 1)))) = true := by simp [h0, hl]
  rw [this] at htk
  simp at htk
  omega
/-! ### tidied again -/
structure Done (g : BFunc) : Prop where
  reach : ∀ k : Nat, k < g.blocks.length → isBeen g.reach k
  tk : ∀ i : Int, 0 ≤ i ∧ i < g.blocks.length → iget g.tk i = -1
theorem tidy_done (hle : f.leads) (hn : f.blocks ≠ []) : Done f.tidy := by
  have hle' := tidy_leads hle hn
  have hn' := tidy_ne hle hn
  have hr : ∀ k : Nat, k < f.tidy.blocks.length → isBeen f.tidy.reach k := fun k hk => (reach_is hle' hn' k).2 (tidy_reached hle hn hk)
  refine ⟨hr, fun i hi => ?_⟩
  by_cases h : iget f.tidy.tk i = -1
  · exact h
  · exfalso
    obtain ⟨a1, a2, a3, a4, a5, a6, a7⟩ := tk_spec hle' hi h
    have hne : (f.tidy.blockAt i).to ≠ i := fun e => by
      rw [tk_at hle' hi] at h
      unfold takeOf at h
      rw [Int.toNat_of_nonneg hi.1, e] at h
      simp at h
    have e := ways_cnt (reach := f.tidy.reach) (leadN hle') a6 f.tidy.nexts.length (Nat.le_refl _)
    unfold waysF at a5
    rw [nexts_length] at e a5
    refine no_join hle hn (marks := f.tidy.reach) (i := i.toNat) (k := (f.tidy.blockAt i).to.toNat) (fun j hj => (by have := (hr j hj).2; rwa [Int.toNat_natCast] at this)) (blockAt_get hi) a3 (by omega) (by omega) (by omega) ?_
    rw [Int.toNat_of_nonneg a6]
    omega
section
variable {g : BFunc}
theorem done_head (hle : g.leads) (hd : Done g) {k : Nat} (hk : k < g.blocks.length) : g.headOf k = true := by
  have := head_of hle (t := (k : Int)) (hd.reach k hk) (fun i hi e => by rw [hd.tk i hi] at e; omega)
  rwa [Int.toNat_natCast] at this
theorem done_path (hle : g.leads) (hd : Done g) {k : Nat} (hk : k < g.blocks.length) : pathOf g.tk k = [(k : Int)] := by
  have := hd.tk k (by omega)
  unfold pathOf
  cases g.tk.length with
  | zero => rfl
  | succ n => simp [chain, this]
theorem done_pathsTo (hle : g.leads) (hd : Done g) : ∀ m, m ≤ g.blocks.length → g.pathsTo m = (List.range m).map fun (k : Nat) => [(k : Int)]
  | 0, _ => rfl
  | m + 1, hm => by
    rw [pathsTo_yes (done_head hle hd (by omega)), done_pathsTo hle hd m (by omega), done_path hle hd (by omega), List.range_succ, List.map_append]
    rfl
theorem done_tpaths (hle : g.leads) (hd : Done g) : g.tpaths = (List.range g.blocks.length).map fun (k : Nat) => [(k : Int)] := done_pathsTo hle hd _ (Nat.le_refl _)
theorem done_num (hle : g.leads) (hd : Done g) {t : Int} (ht : 0 ≤ t ∧ t < g.blocks.length) : iget g.nums t = t := by
  obtain ⟨i, i1, i2⟩ := path_of hle (done_head hle hd (k := t.toNat) (by omega))
  rw [Int.toNat_of_nonneg ht.1] at i1 i2
  have hp := done_path hle hd (k := t.toNat) (by omega)
  rw [Int.toNat_of_nonneg ht.1] at hp
  rw [hp, done_tpaths hle hd, List.getElem?_map] at i2
  have hil : i < g.blocks.length := by
    by_cases h : i < g.blocks.length
    · exact h
    · rw [List.getElem?_eq_none (by simp; omega)] at i2; cases i2
  rw [range_get hil] at i2
  simp at i2
  omega
theorem done_block (hle : g.leads) (hd : Done g) {k : Nat} {x : Block} (hx : g.blocks[k]? = some x) : g.newBlock [(k : Int)] = x := by
  have hb : g.blockAt k = x := by simp [BFunc.blockAt, hx]
  have hl : lastOf [(k : Int)] = k := rfl
  obtain ⟨ins, fin, v, to, els⟩ := x
  simp only [BFunc.newBlock, hl, hb, BFunc.joined, List.flatMap_cons, List.flatMap_nil, List.append_nil]
  congr 1
  · cases e : (fin == 1 || fin == 2) with
    | false => rfl
    | true =>
      exact done_num hle hd (leads_to hle hx (by simpa using e))
  · cases e : fin == 2 with
    | false => rfl
    | true => exact done_num hle hd (leads_els hle hx (by simpa using e))
theorem done_tidy (hle : g.leads) (hd : Done g) : g.tidy = g := by
  have h : g.tpaths.map g.newBlock = g.blocks := by
    apply List.ext_getElem?
    intro k
    rw [done_tpaths hle hd, List.map_map, List.getElem?_map]
    by_cases hk : k < g.blocks.length
    · obtain ⟨x, hx⟩ := get_of_lt hk
      rw [range_get hk, hx]
      simp only [Option.map_some, Function.comp]
      rw [done_block hle hd hx]
    · rw [List.getElem?_eq_none (by simp; omega), List.getElem?_eq_none (by omega)]; rfl
  unfold BFunc.tidy
  rw [h]
end
/-- tidied again it is as it is -/
theorem tidy_twice (hle : f.leads) (hn : f.blocks ≠ []) : f.tidy.tidy = f.tidy ∧ f.tidy.tpaths = (List.range f.tidy.blocks.length).map (fun (k : Nat) => [(k : Int)]) ∧ ∀ k : Nat, k < f.tidy.blocks.length → f.tidy.reach[k]? = some true := by
  have hle' := tidy_leads hle hn
  have hd := tidy_done hle hn
  refine ⟨done_tidy hle' hd, done_tpaths hle' hd, fun k hk => ?_⟩
  have := (hd.reach k hk).2
  rwa [Int.toNat_natCast] at this
/-- nothing is left to join -/
theorem tidy_most (hle : f.leads) (hn : f.blocks ≠ []) {k : Nat} (hk : 1 ≤ k) (hkl : k < f.tidy.blocks.length) {marks : List Bool} (hm : ∀ j, j < f.tidy.blocks.length → marks[j]? = some true) :
    1 ≤ cntTo f.tidy.nexts marks k f.tidy.blocks.length ∧ ∀ (i : Nat) (x : Block), f.tidy.blocks[i]? = some x → cntTo f.tidy.nexts marks k f.tidy.blocks.length = 1 → i ≠ k → x.fin = 1 → (k : Int) ∉ rowN f.tidy.nexts i := by
  have hle' := tidy_leads hle hn
  have hn' := tidy_ne hle hn
  refine ⟨?_, fun i x hx h1 hik hfin hmem => ?_⟩
  · rcases reaches_pred (tidy_reached hle hn hkl) with h | ⟨l, hl, hkm⟩
    · omega
    · have hlb := (reach_is hle' hn' l).2 hl
      have hlr := been_in hle' hlb
      have h1 := cnt_le (next := f.tidy.nexts) (k := (k : Int)) (m := f.tidy.blocks.length) (i := l.toNat) (by omega) (hm l.toNat (by omega))
      have h2 : 1 ≤ (rowN f.tidy.nexts l.toNat).count (k : Int) := List.count_pos_iff.2 hkm
      omega
  · rw [rowN, nexts_get hx] at hmem
    simp only [Option.getD_some, Block.nexts, hfin] at hmem
    have : (k : Int) = x.to := by simpa using hmem
    exact no_join hle hn hm hx hfin this.symm hk hik (by omega)
end
end Go.Proofs.Ytidfabbnobipkaa.Sv
