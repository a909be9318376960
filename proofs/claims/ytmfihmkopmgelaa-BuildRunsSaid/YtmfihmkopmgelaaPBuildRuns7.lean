/-
  WALKS: printed by a program of our own from the code's tree.
-/
import Derived.Test.YtmfihmkopmgelaaPBuildRuns6
import Derived.Test.YtmfihmkopmgelaaPBuildRuns3
import Derived.Test.YtmfihmkopmgelaaPBuildRuns2
import Derived.Test.YtmfihmkopmgelaaPBuildRuns5
import Derived.Recover
set_option linter.unusedVariables false
set_option linter.unusedSimpArgs false
set_option maxRecDepth 100000
set_option maxHeartbeats 2000000
namespace Go.Proofs.Ytmfihmkopmgelaa.Sv
open Go
theorem cf (h : Ab) (f0 W R nn : Nat) (x0 x2 : AV) (s : ByteArray) (t : Tac) (regs : List Int) (m : Mach) (ht : Po t nn R W) (hr : Er regs) (hlen : regs.length = R) (hm : m.good W) (h0 : m.fin = 0) (hW : W <= 1048576) (hs : s.size <= 9223372036854775807) (hwn : CD t.n) (h10 : t.op ≠ 10) (hh0 : h 0 = some (.row false 6 [(IJ x0 x2 W s m)])) (hh1 : h 1 = some (.row true 1 (Ac m.words))) (hh3 : h 3 = some (.row true 1 (As m.out))) (hhr : h (f0 + 16) = some (.row true 1 (Ac regs))) : ACall Try.prog 41 [.ptr 0 1 0 0, .loc t.cells, .ref (f0 + 16) R 0 R] h (fun r h'' => r = .int .i64 (AL (fun _ m => m) s t regs m).2.fin /\ HSub (hput (hput (hput (hput h 0 (.row false 6 [IJ x0 x2 W s (AL (fun _ m => m) s t regs m).2])) 1 (.row true 1 (Ac (AL (fun _ m => m) s t regs m).2.words))) 3 (.row true 1 (As (AL (fun _ m => m) s t regs m).2.out))) (f0 + 16) (.row true 1 (Ac (AL (fun _ m => m) s t regs m).1))) h'') := by
 refine ACall.of_body (n := 226) Am Try.func41 rfl rfl ?_;refine wk 18 ?_;refine asp 13 (fun hb1 => ?_) fun hb1 => ?_
 .
  refine act ?_
  have ho : t.op = 1 := by simpa using hb1
  have hd := ht.d (by simp [setsOp, ho])
  refine wk 10 ?_;refine dq 24 (Ah Am (es := Ac regs) rfl rfl rfl rfl rfl rfl AR (by rw [regCells_len, hlen]) rfl hd.1 (by have := hd.2; omega)) ?_;exact T0
 refine wk 6 ?_;refine asp 25 (fun hb2 => ?_) fun hb2 => ?_
 .
  refine act ?_
  have ho : t.op = 2 := by simpa using hb2
  have hd := ht.d (by simp [setsOp, ho])
  have ha := ht.a (by simp [use1, use2, ho])
  refine wk 11 ?_;refine dq 37 (Ah Am (es := Ac regs) rfl rfl rfl rfl rfl rfl AR (by rw [regCells_len, hlen]) rfl ha.1 (by have := ha.2; omega)) ?_;refine dq 38 (Ar Am rfl rfl rfl (.ptr _ _ _ _ _ _ (Ac regs) _ AR (by rw [regCells_len, hlen]) (Bu (by have := ha; have := hm.len; omega))) rfl) ?_;refine dq 39 (Ah Am (es := Ac regs) rfl rfl rfl rfl rfl rfl AR (by rw [regCells_len, hlen]) rfl hd.1 (by have := hd.2; omega)) ?_;exact T0
 refine wk 6 ?_;refine asp 40 (fun hb3 => ?_) fun hb3 => ?_
 .
  refine act ?_
  have ho : t.op = 3 := by simpa using hb3
  have hd := ht.d (by simp [setsOp, ho])
  have ha := ht.a (by simp [use1, use2, ho])
  have hb := ht.b (by simp [use2, ho])
  refine wk 11 ?_;refine dq 52 (Ah Am (es := Ac regs) rfl rfl rfl rfl rfl rfl AR (by rw [regCells_len, hlen]) rfl ha.1 (by have := ha.2; omega)) ?_;refine dq 53 (Ar Am rfl rfl rfl (.ptr _ _ _ _ _ _ (Ac regs) _ AR (by rw [regCells_len, hlen]) (Bu (by have := ha; have := hm.len; omega))) rfl) ?_;refine wk 5 ?_;refine dq 59 (Ah Am (es := Ac regs) rfl rfl rfl rfl rfl rfl AR (by rw [regCells_len, hlen]) rfl hb.1 (by have := hb.2; omega)) ?_;refine dq 60 (Ar Am rfl rfl rfl (.ptr _ _ _ _ _ _ (Ac regs) _ AR (by rw [regCells_len, hlen]) (Bu (by have := hb; have := hm.len; omega))) rfl) ?_;refine dx 61 (CT Try.func59 (Pn t.k (rget regs t.a) (rget regs t.b) (C2 hr _).1)) ?_;refine wk 1 ?_;refine dq 62 (FI rfl rfl rfl) ?_;refine dq 63 (FI rfl rfl rfl) ?_;refine wk 9 ?_;refine asp 65 (fun hb4 => ?_) fun hb4 => ?_
  .
   refine act ?_
   have hz := hb4
   refine wk 5 ?_
   (refine ⟨[_], ⟨rfl, trivial⟩, ?_, ?_⟩ <;> rw [UT ho hz] <;> first | rfl | exact congrArg (AV.int .i64) h0.symm | exact BZ z4q z4q z4q z4q (fun c q h1 h2 h3 h4 hq => by simp only [hputs, Aj _ _ h1, Aj _ _ h2, Aj _ _ h3, Aj _ _ h4, hq]))
  refine BM ?_
  have hz := hb4
  refine wk 8 ?_;refine aq 72 (Ah Am (es := Ac regs) rfl rfl rfl rfl rfl rfl AR (by rw [regCells_len, hlen]) rfl hd.1 (by have := hd.2; omega)) ?_;refine AOps.w rfl rfl (o_store Am (es := Ac regs) rfl rfl rfl rfl rfl AR (by rw [regCells_len, hlen]) (Bu (by have := hd; have := hm.len; omega)) rfl (by decide) rfl Eu) ?_;refine wk 6 ?_;exact Zc
 refine wk 6 ?_;refine asp 73 (fun hb5 => ?_) fun hb5 => ?_
 .
  refine act ?_
  have ho : t.op = 4 := by simpa using hb5
  have hd := ht.d (by simp [setsOp, ho])
  have hbs := ht.base (by simp [ho])
  refine wk 9 ?_;refine dq 83 (Ar Am rfl rfl rfl (.ptr _ _ _ _ _ _ [(IJ x0 x2 W s m)] _ AR rfl rfl) rfl) ?_;refine wk 4 ?_;refine dq 88 (Ah Am (es := Ac m.words) rfl rfl rfl rfl rfl rfl AR (by rw [regCells_len, hm.len]) rfl hbs.1 (by have := hbs.2; omega)) ?_;refine dq 89 (Ar Am rfl rfl rfl (.ptr _ _ _ _ _ _ (Ac m.words) _ AR (by rw [regCells_len, hm.len]) (Bu (by have := hbs; have := hm.len; omega))) rfl) ?_;refine dq 90 (Ah Am (es := Ac regs) rfl rfl rfl rfl rfl rfl AR (by rw [regCells_len, hlen]) rfl hd.1 (by have := hd.2; omega)) ?_;exact T0
 refine wk 6 ?_;refine asp 91 (fun hb6 => ?_) fun hb6 => ?_
 .
  refine act ?_
  have ho : t.op = 5 := by simpa using hb6
  have ha := ht.a (by simp [use1, use2, ho])
  have hbs := ht.base (by simp [ho])
  refine wk 4 ?_;refine dq 96 (Ar Am rfl rfl rfl (.ptr _ _ _ _ _ _ [(IJ x0 x2 W s m)] _ AR rfl rfl) rfl) ?_;refine wk 9 ?_;refine dq 106 (Ah Am (es := Ac regs) rfl rfl rfl rfl rfl rfl AR (by rw [regCells_len, hlen]) rfl ha.1 (by have := ha.2; omega)) ?_;refine dq 107 (Ar Am rfl rfl rfl (.ptr _ _ _ _ _ _ (Ac regs) _ AR (by rw [regCells_len, hlen]) (Bu (by have := ha; have := hm.len; omega))) rfl) ?_;refine dq 108 (Ah Am (es := Ac m.words) rfl rfl rfl rfl rfl rfl AR (by rw [regCells_len, hm.len]) rfl hbs.1 (by have := hbs.2; omega)) ?_;refine DOps.w rfl rfl (o_store Am (es := Ac m.words) rfl rfl rfl rfl rfl AR (by rw [regCells_len, hm.len]) (Bu (by have := hbs; have := hm.len; omega)) rfl (by decide) rfl Eu) ?_;refine wk 6 ?_;exact Zc
 refine wk 6 ?_;refine asp 109 (fun hb7 => ?_) fun hb7 => ?_
 .
  refine act ?_
  have ho : t.op = 6 := by simpa using hb7
  have ha := ht.a (by simp [use1, use2, ho])
  have hd := ht.d (by simp [setsOp, ho])
  have har := ht.arr (by simp [ho])
  have hwa := C2 hr t.a
  have hwa1 := hwa.1
  have hwa2 := hwa.2
  refine wk 8 ?_;refine dq 116 (Ah Am (es := Ac regs) rfl rfl rfl rfl rfl rfl AR (by rw [regCells_len, hlen]) rfl ha.1 (by have := ha.2; omega)) ?_;refine dq 117 (Ar Am rfl rfl rfl (.ptr _ _ _ _ _ _ (Ac regs) _ AR (by rw [regCells_len, hlen]) (Bu (by have := ha; have := hm.len; omega))) rfl) ?_;refine dq 118 (Bp Am rfl rfl rfl rfl rfl (r := rget regs t.a) (by rw [IntKind.wrap_u64]; omega)) ?_;refine wk 4 ?_;refine dq 123 (Bp Am rfl rfl rfl rfl rfl (r := t.size) (by rw [IntKind.wrap_u64]; omega)) ?_;refine wk 2 ?_;refine asp 124 (fun hb8 => ?_) fun hb8 => ?_
  .
   refine act ?_
   have hsz := hb8
   refine wk 5 ?_
   (refine ⟨[_], ⟨rfl, trivial⟩, ?_, ?_⟩ <;> rw [J6 (.inl ho) hsz] <;> first | rfl | exact congrArg (AV.int .i64) h0.symm | exact BZ z4q z4q z4q z4q (fun c q h1 h2 h3 h4 hq => by simp only [hputs, Aj _ _ h1, Aj _ _ h2, Aj _ _ h3, Aj _ _ h4, hq]))
  refine BM ?_
  have hsz := hb8
  have hsz2 : rget regs t.a < t.size := by simpa using hb8
  have hidx : 0 <= t.base + rget regs t.a /\ t.base + rget regs t.a < W := by omega
  refine wk 10 ?_;refine dq 133 (Ar Am rfl rfl rfl (.ptr _ _ _ _ _ _ [(IJ x0 x2 W s m)] _ AR rfl rfl) rfl) ?_;refine wk 9 ?_;refine dq 143 (Ah Am (es := Ac regs) rfl rfl rfl rfl rfl rfl AR (by rw [regCells_len, hlen]) rfl ha.1 (by have := ha.2; omega)) ?_;refine dq 144 (Ar Am rfl rfl rfl (.ptr _ _ _ _ _ _ (Ac regs) _ AR (by rw [regCells_len, hlen]) (Bu (by have := ha; have := hm.len; omega))) rfl) ?_;refine dq 145 (Bp Am rfl rfl rfl rfl rfl (r := rget regs t.a) (by exact Bz (by omega) (by omega))) ?_;refine dq 146 (AI (r := .int .i64 (t.base + rget regs t.a)) rfl rfl rfl Dz) ?_;refine dq 147 (Ah Am (es := Ac m.words) rfl rfl rfl rfl rfl rfl AR (by rw [regCells_len, hm.len]) rfl hidx.1 (by have := hidx.2; omega)) ?_;refine dq 148 (Ar Am rfl rfl rfl (.ptr _ _ _ _ _ _ (Ac m.words) _ AR (by rw [regCells_len, hm.len]) (Bu (by have := hidx; have := hm.len; omega))) rfl) ?_
  refine dq 149 (Ah Am (es := Ac regs) rfl rfl rfl rfl rfl rfl AR (by rw [regCells_len, hlen]) rfl hd.1 (by have := hd.2; omega)) ?_;exact T0
 refine wk 6 ?_;refine asp 150 (fun hb9 => ?_) fun hb9 => ?_
 .
  refine act ?_
  have ho : t.op = 7 := by simpa using hb9
  have ha := ht.a (by simp [use1, use2, ho])
  have hb := ht.b (by simp [use2, ho])
  have har := ht.arr (by simp [ho])
  have hwa := C2 hr t.a
  have hwa1 := hwa.1
  have hwa2 := hwa.2
  refine wk 8 ?_;refine dq 157 (Ah Am (es := Ac regs) rfl rfl rfl rfl rfl rfl AR (by rw [regCells_len, hlen]) rfl ha.1 (by have := ha.2; omega)) ?_;refine dq 158 (Ar Am rfl rfl rfl (.ptr _ _ _ _ _ _ (Ac regs) _ AR (by rw [regCells_len, hlen]) (Bu (by have := ha; have := hm.len; omega))) rfl) ?_;refine dq 159 (Bp Am rfl rfl rfl rfl rfl (r := rget regs t.a) (by rw [IntKind.wrap_u64]; omega)) ?_;refine wk 4 ?_;refine dq 164 (Bp Am rfl rfl rfl rfl rfl (r := t.size) (by rw [IntKind.wrap_u64]; omega)) ?_;refine wk 2 ?_;refine asp 165 (fun hb10 => ?_) fun hb10 => ?_
  .
   refine act ?_
   have hsz := hb10
   refine wk 5 ?_
   (refine ⟨[_], ⟨rfl, trivial⟩, ?_, ?_⟩ <;> rw [J6 (.inr ho) hsz] <;> first | rfl | exact congrArg (AV.int .i64) h0.symm | exact BZ z4q z4q z4q z4q (fun c q h1 h2 h3 h4 hq => by simp only [hputs, Aj _ _ h1, Aj _ _ h2, Aj _ _ h3, Aj _ _ h4, hq]))
  refine BM ?_
  have hsz := hb10
  have hsz2 : rget regs t.a < t.size := by simpa using hb10
  have hidx : 0 <= t.base + rget regs t.a /\ t.base + rget regs t.a < W := by omega
  refine wk 5 ?_;refine dq 169 (Ar Am rfl rfl rfl (.ptr _ _ _ _ _ _ [(IJ x0 x2 W s m)] _ AR rfl rfl) rfl) ?_;refine wk 9 ?_;refine dq 179 (Ah Am (es := Ac regs) rfl rfl rfl rfl rfl rfl AR (by rw [regCells_len, hlen]) rfl ha.1 (by have := ha.2; omega)) ?_;refine dq 180 (Ar Am rfl rfl rfl (.ptr _ _ _ _ _ _ (Ac regs) _ AR (by rw [regCells_len, hlen]) (Bu (by have := ha; have := hm.len; omega))) rfl) ?_;refine dq 181 (Bp Am rfl rfl rfl rfl rfl (r := rget regs t.a) (by exact Bz (by omega) (by omega))) ?_;refine dq 182 (AI (r := .int .i64 (t.base + rget regs t.a)) rfl rfl rfl Dz) ?_;refine wk 5 ?_;refine dq 188 (Ah Am (es := Ac regs) rfl rfl rfl rfl rfl rfl AR (by rw [regCells_len, hlen]) rfl hb.1 (by have := hb.2; omega)) ?_;refine dq 189 (Ar Am rfl rfl rfl (.ptr _ _ _ _ _ _ (Ac regs) _ AR (by rw [regCells_len, hlen]) (Bu (by have := hb; have := hm.len; omega))) rfl) ?_
  refine dq 190 (Ah Am (es := Ac m.words) rfl rfl rfl rfl rfl rfl AR (by rw [regCells_len, hm.len]) rfl hidx.1 (by have := hidx.2; omega)) ?_;refine DOps.w rfl rfl (o_store Am (es := Ac m.words) rfl rfl rfl rfl rfl AR (by rw [regCells_len, hm.len]) (Bu (by have := hidx; have := hm.len; omega)) rfl (by decide) rfl Eu) ?_;refine wk 6 ?_;exact Zc
 refine wk 6 ?_;refine asp 191 (fun hb11 => ?_) fun hb11 => ?_
 .
  refine act ?_
  have ho : t.op = 8 := by simpa using hb11
  have hd := ht.d (by simp [setsOp, ho])
  refine wk 1 ?_
  have hrc : m.read < s.size \/ ¬ m.read < s.size := Decidable.em _
  refine wk 6 ?_;refine dx 199 (WK [0] [(0, (.row false 6 [[x0, (.ref 1 W 0 W), x2, .str s, (.int .i64 ((bif decide (m.read < s.size) then m.read + 1 else m.read : Nat) : Int)), (.ref 3 m.out.length 0 m.out.length)]]))] rfl Try.func60 (by kernel_rfl) rfl rfl (fun h' he => YK h' s m.read x0 (.ref 1 W 0 W) x2 (.ref 3 m.out.length 0 m.out.length) (by rw [he 0 (by simp)]; exact hh0) hs)) ?_;refine dq 200 (Ah Am (es := Ac regs) rfl rfl rfl rfl rfl rfl AR (by rw [regCells_len, hlen]) rfl hd.1 (by have := hd.2; omega)) ?_;exact T0
 refine wk 6 ?_;refine asp 201 (fun hb12 => ?_) fun hb12 => ?_
 .
  refine act ?_
  have ho : t.op = 9 := by simpa using hb12
  have ha := ht.a (by simp [use1, use2, ho])
  have hwa := C2 hr t.a
  have hwa1 := hwa.1
  have hwa2 := hwa.2
  refine wk 6 ?_;refine aq 206 (Ar Am rfl rfl rfl (.ptr _ _ _ _ _ _ [(IJ x0 x2 W s m)] _ AR rfl rfl) rfl) ?_;refine wk 3 ?_;refine asp 208 (fun hb13 => ?_) fun hb13 => ?_
  .
   refine act ?_
   have hou : m.out.length >= 65536 := by have h := hb13; simp at h; omega
   refine wk 5 ?_
   (refine ⟨[_], ⟨rfl, trivial⟩, ?_, ?_⟩ <;> rw [UR ho hou] <;> first | rfl | exact congrArg (AV.int .i64) h0.symm | exact BZ z4q z4q z4q z4q (fun c q h1 h2 h3 h4 hq => by simp only [hputs, Aj _ _ h1, Aj _ _ h2, Aj _ _ h3, Aj _ _ h4, hq]))
  refine BM ?_
  have hou : ¬ m.out.length >= 65536 := by have h := hb13; simp at h; omega
  refine wk 6 ?_;refine dq 213 (Ar Am rfl rfl rfl (.ptr _ _ _ _ _ _ [(IJ x0 x2 W s m)] _ AR rfl rfl) rfl) ?_;refine wk 5 ?_;refine dq 219 (Ah Am (es := Ac regs) rfl rfl rfl rfl rfl rfl AR (by rw [regCells_len, hlen]) rfl ha.1 (by have := ha.2; omega)) ?_;refine dq 220 (Ar Am rfl rfl rfl (.ptr _ _ _ _ _ _ (Ac regs) _ AR (by rw [regCells_len, hlen]) (Bu (by have := ha; have := hm.len; omega))) rfl) ?_;refine dq 221 (Bp Am rfl rfl rfl rfl rfl (IS hwa)) ?_;refine dx 222 (D4 Am rfl rfl rfl rfl rfl rfl (by decide) rfl rfl rfl rfl rfl rfl) ?_;refine dx 223 (E2 Am (es := As m.out) (n := m.out.length) (m := 1) rfl rfl rfl rfl rfl rfl rfl rfl AR (by simp [As]) rfl rfl (Nat.zero_lt_succ _) (.lst _ _) (by intro cs h; simp [partVals] at h; subst h; rfl) (fun _ cs h => by simp [partVals] at h; subst h; rfl) rfl (by simp [As, partVals]; have := hm.out; omega) (by simp [As, partVals]; simp only [maxLen]; have := hm.out; omega)) ?_
  refine wk 2 ?_;refine DOps.w rfl rfl (o_store Am (es := [(IJ x0 x2 W s m)]) rfl rfl rfl rfl rfl AR rfl rfl rfl (by decide) rfl (by intro h; cases h)) ?_;refine wk 6 ?_;exact Zc
 refine wk 7 ?_;exact Zc
def HJ : Option (List Int) -> AObj
  | some (x :: l) => .row true 1 (Ac (x :: l))
  | _ => .free
def hg (base : Ab) (R : List (Option (List Int))) : Ab := fun c => bif Nat.ble 16 c then some (HJ ((R[c - 16]?).getD none)) else base c
theorem La (base : Ab) (R : List (Option (List Int))) (g : Nat) : hg base R (g + 16) = some (HJ ((R[g]?).getD none)) := by
  unfold hg
  have : Nat.ble 16 (g + 16) = true := Nat.ble_eq.mpr (by omega)
  rw [this, Nat.add_sub_cancel]; rfl
theorem U9 (base : Ab) (R : List (Option (List Int))) {c : Nat} (h : c < 16) : hg base R c = base c := by
  unfold hg
  have : Nat.ble 16 c = false := by
    cases e : Nat.ble 16 c with
    | false => rfl
    | true => have := Nat.ble_eq.mp e; omega
  rw [this]; rfl
def NV (R : List (Option (List Int))) (f : Nat) : List AV := match (R[f]?).getD none with
  | some l => [KC (f + 16) l.length]
  | none => [.nil]
def Cz (R : List (Option (List Int))) : List (List AV) := (List.range R.length).map (NV R)
theorem Dp (R : List (Option (List Int))) : (Cz R).length = R.length := by simp [Cz]
theorem EX {R : List (Option (List Int))} {f : Nat} (h : f < R.length) : (Cz R)[f]? = some (NV R f) := by simp [Cz, h]
theorem IX {R : List (Option (List Int))} {f : Nat} {l : List Int} (h : R[f]? = some (some l)) : NV R f = [KC (f + 16) l.length] := by simp [NV, h]
theorem L8 {R : List (Option (List Int))} {f : Nat} (h : R[f]? = some none) : NV R f = [.nil] := by simp [NV, h]
theorem Ku {R : List (Option (List Int))} {f : Nat} (l : List Int) (h : f < R.length) : Cz (R.set f (some l)) = (Cz R).set f [KC (f + 16) l.length] := by
  apply List.ext_getElem?
  intro j
  by_cases hj : j < R.length
  . rw [EX (by simpa using hj)]
    by_cases hjf : f = j
    . subst hjf
      rw [List.getElem?_set_self (by rw [Dp]; exact hj), IX (List.getElem?_set_self hj)]
    . rw [List.getElem?_set_ne hjf, EX hj]
      unfold NV
      rw [List.getElem?_set_ne hjf]
  . rw [List.getElem?_eq_none (by rw [Dp]; simpa using hj), List.getElem?_eq_none (by rw [List.length_set, Dp]; omega)]
theorem N9 {R : List (Option (List Int))} {f : Nat} {l l' : List Int} (h : R[f]? = some (some l)) (hl : l'.length = l.length) : Cz (R.set f (some l')) = Cz R := by
  have hlt := (List.getElem?_eq_some_iff.1 h).1
  rw [Ku l' hlt]
  exact GB (by rw [EX hlt, IX h, hl])
def hputO (h : Ab) (c n : Nat) : Ab := if n = 0 then h else hput h c (.row true 1 (Ac (List.replicate n 0)))
theorem HR {h : Ab} {c n x : Nat} {r : Option AObj} (hne : x ≠ c) (hr : h x = r) : hputO h c n x = r := by
  unfold hputO
  split
  . exact hr
  . rw [Aj _ _ hne]; exact hr
theorem AP {h : Ab} {k x : Nat} {r : Option AObj} (hne : x ≠ k) (hr : h x = r) : hrm h k x = r := by rw [Fv _ hne]; exact hr
theorem OZ (h : Ab) (b : Blocks) (F : BFunc) (f0 nf k n : Nat) (x1 x3 x4 x5 : AV) (R : List (Option (List Int))) (hh0 : h 0 = some (.row false 6 [[A6 b.funcs, x1, .ref 2 nf 0 nf, x3, x4, x5]])) (hh2 : h 2 = some (.row false 1 (Cz R))) (hnt : nf = R.length) (hfn : f0 < nf) (hF : b.funcs[f0]? = some F) (hreg : F.regs = (n : Int)) (hn4 : n <= 4000)
    (hfree : h k = some .free) (hk : k ≠ 0 /\ k ≠ 2 /\ k ≠ f0 + 16) (hR : ∀ l, R[f0]? = some (some l) -> l.length = n) (hhr : h (f0 + 16) = some (HJ ((R[f0]?).getD none))) {z : Int} (hz : z = (f0 : Int)) :
    ACall Try.prog 40 [.ptr 0 1 0 0, .int .i64 z] h (fun r h'' => r = .agg [.int .i64 z, .int .i64 0, .int .i64 0, KC (f0 + 16) n] /\ HSub (hputO (hput (hrm h k) 2 (.row false 1 (Cz (R.set f0 (some (List.replicate n 0)))))) (f0 + 16) n) h'') := by
  subst hz
  have hlt : f0 < R.length := by omega
  have hset := Ku (R := R) (f := f0) (List.replicate n 0) hlt
  rw [List.length_replicate] at hset
  rw [hset]
  have hnt' : nf = (Cz R).length := by rw [Dp]; exact hnt
  have hfn' : ((f0 : Nat) : Int) < ((nf : Nat) : Int) := by omega
  have hg := EX hlt
  obtain ⟨o, ho⟩ := At hlt
  rw [ho, Option.getD_some] at hhr
  cases o with
  | none =>
    rw [L8 ho] at hg
    by_cases hn0 : n = 0
    . subst hn0
      exact S8 h b F f0 nf k 0 x1 x3 x4 x5 (Cz R) hh0 hh2 hnt' hfn' hF hreg hn4 hfree hk hg rfl
    . have hpos : 0 < n := by omega
      have := S7 h b F f0 nf k n x1 x3 x4 x5 (Cz R) hh0 hh2 hnt' hfn' hF hreg hn4 hfree hk hg hpos hhr
      rw [<- Ih (rb := f0 + 16) hpos] at this
      unfold hputO
      rw [if_neg hn0]
      exact this
  | some l =>
    have hl := hR l ho
    rw [IX ho, hl] at hg
    by_cases hn0 : n = 0
    . subst hn0
      exact S6 h b F f0 nf k 0 x1 x3 x4 x5 (Cz R) hh0 hh2 hnt' hfn' hF hreg hn4 hfree hk hg rfl
    . have hpos : 0 < n := by omega
      rw [Ih hpos] at hg |-
      have hro : HJ (some l) = .row true 1 (Ac l) := by
        cases l with
        | nil => simp at hl; omega
        | cons a r => rfl
      have := S5 h b F f0 nf k n x1 x3 x4 x5 (Cz R) hh0 hh2 hnt' hfn' hF hreg hn4 hfree hk hg hpos l hl (by rw [hhr, hro])
      unfold hputO
      rw [if_neg hn0]
      exact this
def kap : Nat -> Bool := fun c => Nat.blt c 8 || Nat.ble 15 c
def WU : Ab := fun c => bif Nat.blt c 8 then none else bif Nat.ble 15 c then none else some .free
theorem YH (g : Nat) : kap (g + 16) = true := by
  unfold kap
  have : Nat.ble 15 (g + 16) = true := Nat.ble_eq.mpr (by omega)
  rw [this, Bool.or_true]
theorem KB (g n : Nat) : (KC (g + 16) n).avoid kap = true := by
  cases n with
  | zero => rfl
  | succ n => exact YH g
def Fh (b : Blocks) (f : Nat) : Nat := match b.funcs[f]? with
  | some F => F.regs.toNat
  | none => 0
def J8 (b : Blocks) (fr : FW) : List AV := [.int .i64 (fr.f : Int), .int .i64 fr.blk, .int .i64 (fr.at' : Int), KC (fr.f + 16) (Fh b fr.f)]
abbrev XP (b : Blocks) (s : ByteArray) (m : Mach) (R : List (Option (List Int))) (now : FW) (es : List FW) (h0 : Ab) : Ab :=
  hput (hput (hput (hput (hput (hput (hput (hput h0 0 (.row false 6 [IJ (A6 b.funcs) (.ref 2 b.funcs.length 0 b.funcs.length) b.words.toNat s m])) 1 (.row true 1 (Ac m.words))) 2 (.row false 1 (Cz R))) 3 (.row true 1 (As m.out)))
    4 (.row false 2 [b.cells])) 5 (.row false 3 [[.int .i64 0, .str ⟨#[]⟩, .int .i64 0]])) 6 (.row false 4 [J8 b now])) 7 (.row false 4 (es.map (J8 b)))
def Gt (b : Blocks) (s : ByteArray) (m : Mach) (R : List (Option (List Int))) (now : FW) (es : List FW) : Ab := hg (XP b s m R now es WU) R
theorem SY {c : Nat} (h : 8 <= c /\ c < 15) : WU c = some .free := by
  unfold WU
  have h1 : Nat.blt c 8 = false := by
    cases e : Nat.blt c 8 with
    | false => rfl
    | true => have := Nat.blt_eq.mp e; omega
  have h2 : Nat.ble 15 c = false := by
    cases e : Nat.ble 15 c with
    | false => rfl
    | true => have := Nat.ble_eq.mp e; omega
  rw [h1, h2]; rfl
theorem Mw {c : Nat} (hc : kap c = false) : 8 <= c /\ c < 15 := by
  unfold kap at hc
  simp only [Bool.or_eq_false_iff] at hc
  obtain ⟨a1, a2⟩ := hc
  refine ⟨?_, ?_⟩
  . rcases Nat.lt_or_ge c 8 with h | h
    . rw [Nat.blt_eq.mpr h] at a1; cases a1
    . exact h
  . rcases Nat.lt_or_ge c 15 with h | h
    . exact h
    . rw [Nat.ble_eq.mpr h] at a2; cases a2
theorem Nk {b : Blocks} {s : ByteArray} {m : Mach} {R : List (Option (List Int))} {now : FW} {es : List FW} {c : Nat} (h : 8 <= c) (h2 : c < 16) : Gt b s m R now es c = WU c := by
  unfold Gt
  rw [U9 _ _ h2]
  unfold XP
  rw [Aj _ _ (by omega), Aj _ _ (by omega), Aj _ _ (by omega), Aj _ _ (by omega), Aj _ _ (by omega), Aj _ _ (by omega), Aj _ _ (by omega), Aj _ _ (by omega)]
theorem Jb (b : Blocks) (s : ByteArray) (m : Mach) (R : List (Option (List Int))) (now : FW) (es : List FW) : ∀ c, kap c = false -> Gt b s m R now es c = some .free := fun c hc => by
  have h1 := Mw hc
  rw [Nk h1.1 (by omega)]
  exact SY h1
theorem FM {b : Blocks} {s : ByteArray} {m : Mach} {R : List (Option (List Int))} {now : FW} {es : List FW} {h' : Ab} (a0 : h' 0 = some (.row false 6 [IJ (A6 b.funcs) (.ref 2 b.funcs.length 0 b.funcs.length) b.words.toNat s m])) (a1 : h' 1 = some (.row true 1 (Ac m.words))) (a2 : h' 2 = some (.row false 1 (Cz R))) (a3 : h' 3 = some (.row true 1 (As m.out)))
    (a4 : h' 4 = some (.row false 2 [b.cells])) (a5 : h' 5 = some (.row false 3 [[.int .i64 0, .str ⟨#[]⟩, .int .i64 0]])) (a6 : h' 6 = some (.row false 4 [J8 b now])) (a7 : h' 7 = some (.row false 4 (es.map (J8 b)))) (ar : ∀ g, h' (g + 16) = some (HJ ((R[g]?).getD none))) :
    ∀ c o, kap c = true -> Gt b s m R now es c = some o -> h' c = some o := fun c o hc ho => by
  by_cases h16 : 16 <= c
  . obtain ⟨g, rfl⟩ : ∃ g, c = g + 16 := ⟨c - 16, by omega⟩
    rw [ar g, <- ho]; exact (La _ _ g).symm
  . by_cases h8 : c < 8
    . unfold Gt at ho
      rw [U9 _ _ (by omega)] at ho
      match c, h8, ho with
      | 0, _, ho => cases ho; exact a0
      | 1, _, ho => cases ho; exact a1
      | 2, _, ho => cases ho; exact a2
      | 3, _, ho => cases ho; exact a3
      | 4, _, ho => cases ho; exact a4
      | 5, _, ho => cases ho; exact a5
      | 6, _, ho => cases ho; exact a6
      | 7, _, ho => cases ho; exact a7
      | n + 8, h, _ => exact absurd h (by omega)
    . rw [Nk (by omega) (by omega)] at ho
      have h15 : c = 15 := by
        rcases Nat.lt_or_ge c 15 with h | h
        . unfold kap at hc
          simp only [Bool.or_eq_true] at hc
          rcases hc with hc | hc
          . have := Nat.blt_eq.mp hc; omega
          . have := Nat.ble_eq.mp hc; omega
        . omega
      subst h15
      cases ho
theorem IW (R : List (Option (List Int))) : (AObj.row false 1 (Cz R)).avoid kap = true := by
  refine List.all_eq_true.2 fun cs hcs => ?_
  simp only [Cz, List.mem_map] at hcs
  obtain ⟨f, _, rfl⟩ := hcs
  unfold NV
  cases (R[f]?).getD none with
  | none => rfl
  | some l => simp only [List.all_cons, List.all_nil, Bool.and_true]; exact KB f l.length
theorem OS (b : Blocks) (fr : FW) : (J8 b fr).all (AV.avoid kap) = true := by
  simp only [J8, List.all_cons, List.all_nil, Bool.and_true, KB]; rfl
theorem Vr (b : Blocks) (es : List FW) : (AObj.row false 4 (es.map (J8 b))).avoid kap = true := by
  refine List.all_eq_true.2 fun cs hcs => ?_
  simp only [List.mem_map] at hcs
  obtain ⟨f, _, rfl⟩ := hcs
  exact OS b f
theorem regO_avoid (o : Option (List Int)) : (HJ o).avoid kap = true := by
  unfold HJ; split <;> rfl
theorem FN {b : Blocks} {s : ByteArray} {m : Mach} {R : List (Option (List Int))} {now : FW} {es : List FW} {h' : Ab} (hs : ∀ c o, kap c = true -> Gt b s m R now es c = some o -> h' c = some o) : HDropK kap (Gt b s m R now es) h' := fun c o hc => by
  cases hk : kap c with
  | false =>
    rw [Jb b s m R now es c hk] at hc
    cases hc
    exact .inr ⟨rfl, rfl⟩
  | true =>
    refine .inl ⟨hs c o hk hc, fun _ => ⟨rfl, ?_⟩⟩
    by_cases h16 : 16 <= c
    . obtain ⟨g, rfl⟩ : ∃ g, c = g + 16 := ⟨c - 16, by omega⟩
      unfold Gt at hc
      rw [La] at hc
      cases hc
      exact regO_avoid _
    . by_cases h8 : c < 8
      . unfold Gt at hc
        rw [U9 _ _ (by omega)] at hc
        match c, h8, hc with
        | 0, _, hc => cases hc; rfl
        | 1, _, hc => cases hc; rfl
        | 2, _, hc => cases hc; exact IW R
        | 3, _, hc => cases hc; rfl
        | 4, _, hc => cases hc; rfl
        | 5, _, hc => cases hc; rfl
        | 6, _, hc => cases hc; simp only [AObj.avoid, List.all_cons, List.all_nil, Bool.and_true]; exact OS b now
        | 7, _, hc => cases hc; exact Vr b es
        | n + 8, h, _ => exact absurd h (by omega)
      . rw [Nk (by omega) (by omega)] at hc
        have h15 : c = 15 := by
          rcases Nat.lt_or_ge c 15 with h | h
          . rw [show kap c = false from ?_] at hk
            . cases hk
            . unfold kap
              have e1 : Nat.blt c 8 = false := by
                cases e : Nat.blt c 8 with
                | false => rfl
                | true => have := Nat.blt_eq.mp e; omega
              have e2 : Nat.ble 15 c = false := by
                cases e : Nat.ble 15 c with
                | false => rfl
                | true => have := Nat.ble_eq.mp e; omega
              rw [e1, e2]; rfl
          . omega
        subst h15
        cases hc
theorem Qh {b : Blocks} {s : ByteArray} {m : Mach} {R : List (Option (List Int))} {now : FW} {es : List FW} {h' : Ab} (hs : ∀ c o, kap c = true -> Gt b s m R now es c = some o -> h' c = some o) (hf : ∀ c, 8 <= c -> c < 15 -> h' c = some .free) : HSub (Gt b s m R now es) h' := fun c o hc => by
  cases hk : kap c with
  | false =>
    have h1 := Mw hk
    rw [Jb b s m R now es c hk] at hc
    cases hc
    exact hf c h1.1 h1.2
  | true => exact hs c o hk hc
theorem Oa (n : Nat) : Cz (List.replicate n none) = List.replicate n [.nil] := by
  apply List.ext_getElem?
  intro j
  by_cases hj : j < n
  . rw [EX (by simpa using hj), L8 (by simp [hj]), List.getElem?_replicate, if_pos hj]
  . rw [List.getElem?_eq_none (by rw [Dp]; simp; omega), List.getElem?_eq_none (by simp; omega)]
theorem Oi (n f : Nat) : HJ (((List.replicate n (none : Option (List Int)))[f]?).getD none) = .free := by
  rw [List.getElem?_replicate]
  split <;> rfl
theorem G6 {l : List Int} (h : 0 < l.length) : HJ (some l) = .row true 1 (Ac l) := by
  cases l with
  | nil => simp at h
  | cons a r => rfl
theorem Y6 (h : Ab) (f0 W R nn : Nat) (x0 x2 : AV) (s : ByteArray) (t : Tac) (regs : List Int) (m : Mach) (ht : Po t nn R W) (hr : Er regs) (hlen : regs.length = R) (hm : m.good W) (h0 : m.fin = 0) (hW : W <= 1048576) (hs : s.size <= 9223372036854775807) (hwn : CD t.n) (h10 : t.op ≠ 10) (hpos : 0 < R)
    (hh0 : h 0 = some (.row false 6 [IJ x0 x2 W s m])) (hh1 : h 1 = some (.row true 1 (Ac m.words))) (hh3 : h 3 = some (.row true 1 (As m.out))) (hhr : h (f0 + 16) = some (.row true 1 (Ac regs))) :
    ACall Try.prog 41 [.ptr 0 1 0 0, .loc t.cells, KC (f0 + 16) R] h (fun r h'' => r = .int .i64 (AL (fun _ m => m) s t regs m).2.fin /\
      HSub (hput (hput (hput (hput h 0 (.row false 6 [IJ x0 x2 W s (AL (fun _ m => m) s t regs m).2])) 1 (.row true 1 (Ac (AL (fun _ m => m) s t regs m).2.words))) 3 (.row true 1 (As (AL (fun _ m => m) s t regs m).2.out))) (f0 + 16) (.row true 1 (Ac (AL (fun _ m => m) s t regs m).1))) h'') := by
  rw [Ih hpos]
  exact cf h f0 W R nn x0 x2 s t regs m ht hr hlen hm h0 hW hs hwn h10 hh0 hh1 hh3 hhr
theorem Uj {t : Tac} {nn R W : Nat} (ht : Po t nn R W) (h10 : t.op ≠ 10) : 0 < R := by
  have h1 := ht.op
  by_cases hs : setsOp t.op = true
  . have := ht.d hs; omega
  . by_cases hu : use1 t.op = true \/ use2 t.op = true
    . have := ht.a hu; omega
    . exfalso
      have : t.op = 1 \/ t.op = 2 \/ t.op = 3 \/ t.op = 4 \/ t.op = 5 \/ t.op = 6 \/ t.op = 7 \/ t.op = 8 \/ t.op = 9 := by omega
      rcases this with h | h | h | h | h | h | h | h | h <;> simp [setsOp, use1, use2, h] at hs hu
theorem mone_nostep {s : ByteArray} {t : Tac} {regs : List Int} {m : Mach} (h10 : t.op ≠ 10) : (AL (fun _ m => m) s t regs m).2.steps = m.steps := by
  unfold AL
  cases t.op == 1 with
  | true => rfl
  | false =>
  cases t.op == 2 with
  | true => rfl
  | false =>
  cases t.op == 3 with
  | true => simp only [cond_true, cond_false]; cases (BC t.k (rget regs t.a) (rget regs t.b)).2 == 0 <;> rfl
  | false =>
  cases t.op == 4 with
  | true => rfl
  | false =>
  cases t.op == 5 with
  | true => rfl
  | false =>
  cases t.op == 6 with
  | true => simp only [cond_true, cond_false]; cases decide (rget regs t.a >= t.size) <;> rfl
  | false =>
  cases t.op == 7 with
  | true => simp only [cond_true, cond_false]; cases decide (rget regs t.a >= t.size) <;> rfl
  | false =>
  cases t.op == 8 with
  | true => simp only [cond_true, cond_false]; cases decide (m.read < s.size) <;> rfl
  | false =>
  cases t.op == 9 with
  | true => simp only [cond_true, cond_false]; cases decide (m.out.length >= 65536) <;> rfl
  | false =>
    cases t.op == 10 <;> rfl
def Hu (es : List FW) (len : Nat) (fr : FW) : List FW := if len < es.length then es.set len fr else es ++ [fr]
theorem Mm {b : Blocks} {es : List FW} {len : Nat} {fr : FW} : (Hu es len fr).map (J8 b) = Ik (es.map (J8 b)) len (J8 b fr) := by
  unfold Hu Ik
  rw [List.length_map]
  split
  . rw [List.map_set]
  . simp
theorem P8 {es : List FW} {len : Nat} {fr : FW} (h : len <= es.length) : (Hu es len fr).take (len + 1) = es.take len ++ [fr] := by
  unfold Hu
  split
  . rename_i hlt
    rw [Bw (List.getElem?_set_self hlt), List.take_set_of_le (Nat.le_refl _)]
  . have : len = es.length := by omega
    subst this
    rw [List.take_of_length_le (by simp), List.take_of_length_le (Nat.le_refl _)]
theorem Sy {es : List FW} {len : Nat} {fr : FW} (h : len <= es.length) : len + 1 <= (Hu es len fr).length /\ (Hu es len fr).length <= es.length + 1 := by
  unfold Hu
  split <;> simp <;> omega
structure fm where
  q : Q24
  es : List FW
structure RInvB (b : Blocks) (s : ByteArray) (fuel : Int) (tgt : Mach) (r : fm) : Prop where
  inv : SInv b s fuel b.words.toNat tgt r.q
  take : r.es.take r.q.above.length = r.q.above
  len : r.q.above.length <= r.es.length
  max : r.es.length <= r.q.m.steps
  rl : ∀ (f : Nat) (F : BFunc) (l : List Int), b.funcs[f]? = some F -> r.q.R[f]? = some (some l) -> l.length = F.regs.toNat
theorem RInvB.set {b : Blocks} {R : List (Option (List Int))} (h : ∀ (f : Nat) (F : BFunc) (l : List Int), b.funcs[f]? = some F -> R[f]? = some (some l) -> l.length = F.regs.toNat) {f0 : Nat} {G : BFunc} {l0 : List Int} (hG : b.funcs[f0]? = some G) (hl0 : l0.length = G.regs.toNat) :
    ∀ (f : Nat) (F : BFunc) (l : List Int), b.funcs[f]? = some F -> (R.set f0 (some l0))[f]? = some (some l) -> l.length = F.regs.toNat := fun f F l hF hl => by
  by_cases hf : f0 = f
  . subst hf
    rw [hG] at hF; cases hF
    rw [List.getElem?_set] at hl
    split at hl
    . split at hl
      . cases hl; exact hl0
      . cases hl
    . rename_i h1; exact absurd rfl h1
  . rw [List.getElem?_set_ne hf] at hl
    exact h f F l hF hl
theorem nregs_eq {b : Blocks} {f : Nat} {F : BFunc} (h : b.funcs[f]? = some F) : Fh b f = F.regs.toNat := by simp [Fh, h]
theorem Y9 {R : List (Option (List Int))} {f : Nat} {l : List Int} {h' h : Ab} (hf : f < R.length) (hl : 0 < l.length) (h1 : h' (f + 16) = some (.row true 1 (Ac l))) (h2 : ∀ g, g ≠ f -> h' (g + 16) = h (g + 16)) (h3 : ∀ g, h (g + 16) = some (HJ ((R[g]?).getD none))) : ∀ g, h' (g + 16) = some (HJ (((R.set f (some l))[g]?).getD none)) := fun g => by
  by_cases hg : g = f
  . subst hg
    rw [h1, List.getElem?_set_self hf, Option.getD_some, G6 hl]
  . rw [h2 g hg, h3 g, List.getElem?_set_ne (Ne.symm hg)]
theorem Xs {R : List (Option (List Int))} {f n : Nat} {h' h h0 : Ab} (hf : f < R.length) (hR : ∀ l, R[f]? = some (some l) -> l.length = n) (h1 : ∀ g, h' (g + 16) = hputO h0 (f + 16) n (g + 16)) (h2 : ∀ g, h0 (g + 16) = some (HJ ((R[g]?).getD none))) : ∀ g, h' (g + 16) = some (HJ (((R.set f (some (List.replicate n 0)))[g]?).getD none)) := fun g => by
  rw [h1 g]
  unfold hputO
  by_cases hn : n = 0
  . rw [if_pos hn, h2 g]
    subst hn
    by_cases hg : f = g
    . subst hg
      rw [List.getElem?_set_self hf]
      cases e : R[f]? with
      | none => rfl
      | some o => cases o with
        | none => rfl
        | some l =>
          have := hR l e
          cases l with
          | nil => rfl
          | cons a r => simp at this
    . rw [List.getElem?_set_ne hg]
  . rw [if_neg hn]
    by_cases hg : g = f
    . subst hg
      rw [AA, List.getElem?_set_self hf, Option.getD_some, G6 (by simp; omega)]
    . rw [Aj _ _ (by omega), h2 g, List.getElem?_set_ne (Ne.symm hg)]
section
variable {b : Blocks} {s : ByteArray} {fuel : Int} {tgt : Mach} {r : fm}
theorem RInvB.first {b : Blocks} (hb : b.right = true) {s : ByteArray} {fuel : Int} {F : BFunc} (hF : b.funcs[b.funcs.length - 1]? = some F) :
    RInvB b s (Cq fuel) (mfun b s (Cq fuel) b.funcs.length ((b.funcs.length : Int) - 1) (m0 b)) ⟨⟨⟨b.funcs.length - 1, 0, 0⟩, [], (List.replicate b.funcs.length none).set (b.funcs.length - 1) (some (List.replicate (Fh b (b.funcs.length - 1)) 0)), m0 b⟩, []⟩ := by
  have h := SInv.start hb s fuel hF
  have hn := nregs_eq hF
  unfold q0 at h
  rw [<- hn] at h
  refine ⟨h, rfl, Nat.le_refl _, Nat.zero_le _, RInvB.set (fun f F l _ hl => ?_) hF (by simp [hn])⟩
  rw [List.getElem?_replicate] at hl
  split at hl <;> cases hl
theorem Ip {n : Nat} (h : n < fuel.toNat) : fuel.toNat - (n + 1) < fuel.toNat - n := by omega
theorem UP {n n' : Nat} (h : n < fuel.toNat) (h' : n' = n + 1) : fuel.toNat - n' < fuel.toNat - n := by omega
theorem RInvB.ins (h : RInvB b s fuel tgt r) {F : BFunc} {k : Block} {t : Tac} {l : List Int} (h1 : b.funcs[r.q.now.f]? = some F) (h2 : F.blocks[r.q.now.blk.toNat]? = some k) (ht : k.ins[r.q.now.at']? = some t) (hw : CD t.n) (hl : r.q.R[r.q.now.f]? = some (some l)) (hf : decide ((r.q.m.steps : Int) >= fuel) = false) (h10 : t.op ≠ 10)
    (he : (AL (fun _ m => m) s t l { r.q.m with steps := r.q.m.steps + 1 }).2.fin = 0) (hll : l.length = F.regs.toNat) :
    RInvB b s fuel tgt ⟨⟨⟨r.q.now.f, r.q.now.blk, r.q.now.at' + 1⟩, r.q.above, r.q.R.set r.q.now.f (some (AL (fun _ m => m) s t l { r.q.m with steps := r.q.m.steps + 1 }).1), (AL (fun _ m => m) s t l { r.q.m with steps := r.q.m.steps + 1 }).2⟩, r.es⟩ := by
  have hst := mone_nostep (s := s) (t := t) (regs := l) (m := { r.q.m with steps := r.q.m.steps + 1 }) h10
  obtain ⟨F', k', l', g1, g2, g3, g4, g5, g6, g7⟩ := h.inv.now.ex
  rw [hl] at g5; cases g5
  have hg := (FK (call := fun _ m => m) (s := s) (fun _ _ h => h) t hw g7 (D8 h.inv.good)).2.1
  exact ⟨h.inv.ins h1 h2 ht hw hl hf h10 he hst, h.take, h.len, by show r.es.length <= _; rw [hst]; have := h.max; show _ <= r.q.m.steps + 1; omega, RInvB.set h.rl h1 (by rw [hg]; exact hll)⟩
theorem RInvB.call (hb : b.right = true) (h : RInvB b s fuel tgt r) {F : BFunc} {k : Block} {t : Tac} (h1 : b.funcs[r.q.now.f]? = some F) (h2 : F.blocks[r.q.now.blk.toNat]? = some k) (ht : k.ins[r.q.now.at']? = some t) (hf : decide ((r.q.m.steps : Int) >= fuel) = false) (h10 : t.op = 10) {f0 : Nat} (hf0 : t.base = (f0 : Int)) {G : BFunc} (hG : b.funcs[f0]? = some G) :
    RInvB b s fuel tgt ⟨⟨⟨f0, 0, 0⟩, r.q.above ++ [⟨r.q.now.f, r.q.now.blk, r.q.now.at' + 1⟩], r.q.R.set f0 (some (List.replicate (Fh b f0) 0)), { r.q.m with steps := r.q.m.steps + 1 }⟩, Hu r.es r.q.above.length ⟨r.q.now.f, r.q.now.blk, r.q.now.at' + 1⟩⟩ := by
  have hbt : t.base.toNat = f0 := by omega
  have h0 := h.inv.call hb rfl h1 h2 ht hf h10 (G := G) (by rw [hbt]; exact hG)
  rw [hbt, <- nregs_eq hG] at h0
  have hp := Sy (fr := ⟨r.q.now.f, r.q.now.blk, r.q.now.at' + 1⟩) h.len
  refine ⟨h0, ?_, ?_, ?_, RInvB.set h.rl hG (by rw [nregs_eq hG]; simp)⟩
  . show List.take (r.q.above ++ [_]).length _ = _
    rw [List.length_append, List.length_singleton, P8 h.len, h.take]
  . show (r.q.above ++ [_]).length <= _
    rw [List.length_append, List.length_singleton]; exact hp.1
  . exact Nat.le_trans hp.2 (Nat.succ_le_succ h.max)
theorem RInvB.jump (hb : b.right = true) (h : RInvB b s fuel tgt r) {F : BFunc} {k : Block} {l : List Int} (h1 : b.funcs[r.q.now.f]? = some F) (h2 : F.blocks[r.q.now.blk.toNat]? = some k) (hat : k.ins.length <= r.q.now.at') (hl : r.q.R[r.q.now.f]? = some (some l)) (hf : decide ((r.q.m.steps : Int) >= fuel) = false) (h3 : (k.fin == 3) = false) {to : Int} (hto : k.next l = to) :
    RInvB b s fuel tgt ⟨⟨⟨r.q.now.f, to, 0⟩, r.q.above, r.q.R, { r.q.m with steps := r.q.m.steps + 1 }⟩, r.es⟩ :=
  ⟨h.inv.jump hb h1 h2 hat hl hf h3 hto, h.take, h.len, Nat.le_succ_of_le h.max, h.rl⟩
theorem TL (h : RInvB b s fuel tgt r) {fr : FW} (ha : r.q.above.getLast? = some fr) : (r.es.map (J8 b))[0 + (((r.q.above.length - 1 : Nat)) : Int).toNat]? = some (J8 b fr) := by
  have hpos : 0 < r.q.above.length := by
    cases e : r.q.above with
    | nil => rw [e] at ha; simp at ha
    | cons x y => simp
  have h1 : r.q.above[r.q.above.length - 1]? = some fr := by rw [<- List.getLast?_eq_getElem?]; exact ha
  have ht := h.take
  have h2 : r.es[r.q.above.length - 1]? = some fr := by
    rw [<- ht, List.getElem?_take_of_lt (by rw [ht]; omega), ht] at h1
    exact h1
  rw [Nat.zero_add, Int.toNat_natCast, List.getElem?_map, h2]
  rfl
theorem RInvB.ret (h : RInvB b s fuel tgt r) {F : BFunc} {k : Block} {fr : FW} (h1 : b.funcs[r.q.now.f]? = some F) (h2 : F.blocks[r.q.now.blk.toNat]? = some k) (hat : k.ins.length <= r.q.now.at') (hf : decide ((r.q.m.steps : Int) >= fuel) = false) (h3 : (k.fin == 3) = true) (ha : r.q.above.getLast? = some fr) :
    RInvB b s fuel tgt ⟨⟨fr, r.q.above.dropLast, r.q.R, { r.q.m with steps := r.q.m.steps + 1 }⟩, r.es⟩ := by
  have hl := h.len
  refine ⟨h.inv.ret h1 h2 hat hf h3 ha, ?_, by simp only [List.length_dropLast]; omega, Nat.le_succ_of_le h.max, h.rl⟩
  simp only [List.length_dropLast]
  conv => rhs; rw [<- h.take]
  rw [Lo hl]
end
theorem QD {k : Block} {n r : Int} (h : k.ends n r = true) : k.fin = 1 \/ k.fin = 2 \/ k.fin = 3 := by
  unfold Block.ends at h
  cases e1 : k.fin == 1 with
  | true => exact .inl (by simpa using e1)
  | false =>
    cases e2 : k.fin == 2 with
    | true => exact .inr (.inl (by simpa using e2))
    | false =>
      rw [e1, e2] at h
      simp only [cond_false, Bool.and_eq_true, beq_iff_eq] at h
      exact .inr (.inr h.1)
theorem Qr {α : Type} {l : List α} (h : 0 < l.length) : ∃ x, l.getLast? = some x := by
  rw [List.getLast?_eq_getElem?]
  exact At (by omega)
theorem bJ {k : Block} (h : k.fin = 1) (l : List Int) : k.next l = k.to := by simp [Block.next, h]
theorem YC {k : Block} {l : List Int} (h : k.fin = 2) (hz : (rget l k.v != 0) = true) : k.next l = k.to := by
  have : (rget l k.v == 0) = false := by simpa using hz
  simp [Block.next, h, this]
theorem YD {k : Block} {l : List Int} (h : k.fin = 2) (hz : (rget l k.v != 0) = false) : k.next l = k.els := by
  have : (rget l k.v == 0) = true := by simpa using hz
  simp [Block.next, h, this]
theorem SI {b : Blocks} {s : ByteArray} {fuel : Int} {m : Mach} (h : mfun b s (Cq fuel) b.funcs.length ((b.funcs.length : Int) - 1) (m0 b) = { m with fin := 5 }) : Fu b s fuel = { m with fin := 5 } := by
  unfold Fu; rw [h]; rfl
theorem UQ {b : Blocks} {s : ByteArray} {fuel : Int} {m : Mach} (h : mfun b s (Cq fuel) b.funcs.length ((b.funcs.length : Int) - 1) (m0 b) = m) (hz : m.fin ≠ 0) : Fu b s fuel = m := by
  unfold Fu; rw [h]
  have : (m.fin == 0) = false := by rw [beq_eq_false_iff_ne]; exact hz
  simp only [this, cond_false]
theorem SJ {b : Blocks} {s : ByteArray} {fuel : Int} {m : Mach} (h : mfun b s (Cq fuel) b.funcs.length ((b.funcs.length : Int) - 1) (m0 b) = m) (hz : m.fin = 0) : Fu b s fuel = { m with fin := 1 } := by
  unfold Fu; rw [h]
  have : (m.fin == 0) = true := by rw [beq_iff_eq]; exact hz
  simp only [this, cond_true]
theorem Pm {R : List (Option (List Int))} {f n : Nat} {X : Ab} (hf : f < R.length) (hR : ∀ l, R[f]? = some (some l) -> l.length = n) (h2 : ∀ g, X (g + 16) = some (HJ ((R[g]?).getD none))) (g : Nat) : hputO X (f + 16) n (g + 16) = some (HJ (((R.set f (some (List.replicate n 0)))[g]?).getD none)) :=
  Xs (h := X) hf hR (fun g => rfl) h2 g
theorem Wx {b : Blocks} {es above : List FW} {fr : FW} : some (AV.ref 7 (Ik (es.map (J8 b)) above.length (J8 b fr)).length 0 (above.length + 1)) = some (AV.ref 7 (Hu es above.length fr).length 0 (above ++ [fr]).length) := by
  rw [<- Mm, List.length_map, List.length_append, List.length_singleton]
theorem Pf (b : Blocks) (s : ByteArray) (fuel : Int) (hbr : b.right = true) (hbw : b.insW) (hil : ∀ f ∈ b.funcs, ∀ x ∈ f.blocks, x.ins.length <= fV) (hnf : b.funcs.length <= 1000) (hfu : fuel <= 1000000) (hs : s.size <= 9223372036854775807) : APure Try.prog 26 [.agg b.cells, .str s, .int .i64 fuel] (fun r => r = .agg (FH (Fu b s fuel))) := by
 have hsp := DA hbr
 have hn0 : 0 < b.funcs.length := List.length_pos_iff.2 hsp.2.2.1
 obtain ⟨F0, hF0⟩ := At (l := b.funcs) (k := b.funcs.length - 1) (by omega)
 have hone0 := Ek (hsp.2.2.2 _ F0 hF0)
 have hwz : b.words = ((b.words.toNat : Nat) : Int) := by omega
 have hw0 : b.words.toNat <= 1048576 := by omega
 have hnr0 := nregs_eq hF0
 refine APure.of_body (n := 147) Am Try.func26 rfl rfl ?_;refine HV ?_;refine ax 3 (F9 2 4) ?_;refine ax 6 (KJ Am 5) ?_;refine an ?_;refine AGo.scope ?_;refine wk 6 ?_;refine dx 19 (DG Am (n := b.words.toNat) (m := b.words.toNat) 1 true rfl rfl rfl hwz hwz rfl rfl rfl rfl rfl (Nat.zero_lt_succ _) rfl (Nat.le_refl _) (by show 4 * b.words.toNat <= _; omega) (by simp only [maxLen]; omega)) ?_;refine wk 3 ?_;refine dx 23 (DG Am (n := b.funcs.length) (m := b.funcs.length) 2 false rfl rfl rfl (by rw [List.length_map]) (by rw [List.length_map]) rfl rfl rfl rfl rfl (Nat.zero_lt_succ _) rfl (Nat.le_refl _) (by show 24 * b.funcs.length <= _; omega) (by simp only [maxLen]; omega)) ?_;refine wk 2 ?_;refine dx 26 (F9 6 0) ?_;refine wk 3 ?_;refine AGo.ghost (.dryCell 0 0 5 3 1 true rfl rfl rfl rfl rfl (by decide)) ?_;refine wk 5 ?_;refine aq 31 (AI (r := .int .i64 (((b.funcs.length - 1) : Nat) : Int)) rfl rfl rfl (by rw [List.length_map]; exact KX hn0 (by omega))) ?_
 refine AOps.call 32 rfl rfl rfl (Ni rfl Try.func40 (by kernel_rfl) rfl rfl (OZ _ b F0 (b.funcs.length - 1) b.funcs.length 15 (Fh b (b.funcs.length - 1)) (.ref 1 b.words.toNat 0 b.words.toNat) (.str s) (.int .i64 0) (.ref 3 0 0 0) (List.replicate b.funcs.length none) rfl (congrArg (fun es => some (AObj.row false 1 es)) (Oa _).symm) (by simp) (by omega) hF0 (by rw [hnr0]; have := hone0.1; omega) (by rw [hnr0]; have := hone0.2.1; omega) rfl ⟨by decide, by decide, by omega⟩ (fun l hl => by rw [List.getElem?_replicate] at hl; split at hl <;> cases hl) (by rw [Oi]; (try simp only [hputs]); repeat (first | rfl | refine Aw (by exact Af (by omega)) ?_)) rfl)) ?_
 refine ax 8 (G8 Am 6 rfl rfl HZ rfl (Nat.zero_lt_succ _) rfl) ?_;refine AOps.w rfl rfl (o_store Am (es := [[.int .i64 0, .int .i64 0, .int .i64 0, .nil]]) rfl rfl rfl rfl rfl HZ rfl rfl rfl (by decide) (Ix _ _ _ _ _) (by intro h; cases h)) ?_;refine wk 6 ?_;refine AGo.ghost (.dry 9 7 4 false rfl rfl HZ (by decide)) ?_;refine wk 5 ?_;refine AGo.label ?_;refine wk 2 ?_;refine Dj (γ := fm) kap (fun r => ⟨147, (Ad (Ad (Ad (Ad (Ad (Ad (Ad (Ad (Ad Bt 1 (.str s)) 2 (.int .i64 fuel)) 3 (.ptr 4 1 0 0)) 6 (.ptr 5 1 0 0)) 7 (.ptr 0 1 0 0)) 8 (.ptr 6 1 0 0)) 9 (.ref 7 r.es.length 0 r.q.above.length)) 10 (.int .i64 0)) 11 (.int .i64 (r.q.m.steps : Int))), (Gt b s r.q.m r.q.R r.q.now r.es)⟩) (fun r => RInvB b s (Cq fuel) (mfun b s (Cq fuel) b.funcs.length ((b.funcs.length : Int) - 1) (m0 b)) r) (fun r => fuel.toNat - r.q.m.steps) ⟨⟨⟨b.funcs.length - 1, 0, 0⟩, [], (List.replicate b.funcs.length none).set (b.funcs.length - 1) (some (List.replicate (Fh b (b.funcs.length - 1)) 0)), m0 b⟩, []⟩ (Sub.mk' BH (Qh (FM Ca (by rw [show (m0 b).words = List.replicate b.words.toNat 0 from rfl, <- F4]; exact Ca) Ca Ca Ca Ca Ca Ca (fun g => by (try simp only [hputs]); repeat (refine Aw (by exact Af (by omega)) ?_); exact Pm (by simp; omega) (fun l hl => by rw [List.getElem?_replicate] at hl; split at hl <;> cases hl) (fun g => by rw [Oi]; repeat (first | rfl | refine Aw (by exact Af (by omega)) ?_ | refine AP (by omega) ?_)) g)) (fun c h8 h15 => by (try simp only [hputs]); repeat (first | rfl | refine Aw (by exact Af (by omega)) ?_ | refine HR (by omega) ?_ | refine AP (by omega) ?_)))) (RInvB.first hbr hF0) (fun r => Jb _ _ _ _ _ _) ?_
 intro r hRI
 have hI := hRI.inv
 obtain ⟨F, k, l, h1, h2, h3, h4, h5, h6, h7⟩ := hI.now.ex
 have hone := Ek (hsp.2.2.2 _ F h1)
 have hnr := nregs_eq h1
 have hmx := hRI.max
 have hrln := hRI.len
 have hflt : r.q.now.f < r.q.R.length := (List.getElem?_eq_some_iff.1 h5).1
 have hinsl := hil F (List.mem_of_getElem? h1) k (List.mem_of_getElem? h2)
 refine wk 8 ?_;refine asp 35 (fun hb1 => ?_) fun hb1 => ?_
 .
  refine act ?_
  let mE : Mach := r.q.m
  have hff : decide ((r.q.m.steps : Int) >= Cq fuel) = true := by rw [OR]; exact hb1
  have hend := hRI.inv.noFuel hff
  refine wk 6 ?_;exact cG
 refine BM ?_
 have hff : decide ((r.q.m.steps : Int) >= Cq fuel) = false := by rw [OR]; exact hb1
 have hlt : r.q.m.steps < fuel.toNat := by have h := hb1; simp at h; omega
 refine wk 4 ?_;refine aq 37 (Cc rfl rfl hlt (by simp only [maxLen]; omega)) ?_;refine wk 8 ?_;refine dq 42 (Yw Am (Cg h1)) ?_;refine wk 4 ?_;refine dq 47 (Ae Am rfl rfl rfl rfl rfl rfl h3 (U8 h2) rfl) ?_;refine wk 14 ?_;refine asp 55 (fun hb2 => ?_) fun hb2 => ?_
 .
  refine act ?_
  have hat : r.q.now.at' < k.ins.length := by have h := hb2; simp at h; exact h
  obtain ⟨t, ht⟩ := At hat
  have htm := List.mem_of_getElem? ht
  have htin := Kk ((hone.2.2.2 k (List.mem_of_getElem? h2)).2 t htm)
  refine wk 8 ?_;refine dq 62 (Yw Am (Cg ht)) ?_;refine wk 6 ?_;refine aq 65 (Cc rfl rfl hat (by simp only [maxLen]; have hbig : k.ins.length <= 140737488355328 := hinsl; omega)) ?_;refine wk 12 ?_;refine asp 71 (fun hb3 => ?_) fun hb3 => ?_
  .
   refine act ?_
   have h10 : t.op = 10 := by simpa using hb3
   have hcb := GG hbr h1 k (List.mem_of_getElem? h2) t htm h10
   obtain ⟨f0, hf0⟩ : ∃ f0 : Nat, t.base = (f0 : Int) := ⟨t.base.toNat, by omega⟩
   have hf0l : f0 < b.funcs.length := by have := (List.getElem?_eq_some_iff.1 h1).1; omega
   obtain ⟨G, hG⟩ := At hf0l
   have honeG := Ek (hsp.2.2.2 _ G hG)
   have hnrG := nregs_eq hG
   have hf0R : f0 < r.q.R.length := by rw [hRI.inv.rl]; exact hf0l
   have hRl : ∀ l, r.q.R[f0]? = some (some l) -> l.length = Fh b f0 := fun l hl => by rw [hnrG]; exact hRI.rl f0 G l hG hl
   have hR2 := RInvB.call hbr hRI h1 h2 ht hff h10 hf0 hG
   have hmu2 := Ip hlt
   refine wk 4 ?_;refine ax 74 (o_litRow Am 8 false rfl rfl rfl rfl rfl rfl (by decide) rfl rfl rfl (by show (List.all [_] _) = true; simp only [List.all_cons, List.all_nil, Bool.and_true]; exact Ix _ _ _ _ _) (by intro h; cases h) rfl rfl) ?_;refine ax 75 (YA Am (es := r.es.map (J8 b)) (cs2 := J8 b ⟨r.q.now.f, r.q.now.blk, r.q.now.at' + 1⟩) rfl rfl rfl rfl rfl rfl rfl rfl rfl (by rw [List.length_map]) hRI.len rfl rfl (Nat.zero_lt_succ _) (.ref 8 1 0 1 false 4 [J8 b ⟨r.q.now.f, r.q.now.blk, r.q.now.at' + 1⟩] (by (try simp only [hputs]); exact AA _ _ _) rfl) rfl (by intro h; cases h) (by rw [List.length_map]; show _ * 48 <= _; omega) (by rw [List.length_map]; simp only [maxLen]; omega)) ?_;refine wk 8 ?_;refine AOps.call 81 rfl rfl rfl (Ni rfl Try.func40 (by kernel_rfl) rfl rfl (OZ _ b G f0 b.funcs.length 9 (Fh b f0) (.ref 1 b.words.toNat 0 b.words.toNat) (.str s) (.int .i64 (r.q.m.read : Int)) (.ref 3 r.q.m.out.length 0 r.q.m.out.length) r.q.R rfl rfl hRI.inv.rl.symm hf0l hG (by rw [hnrG]; have := honeG.1; omega) (by rw [hnrG]; have := honeG.2.1; omega) HZ ⟨by decide, by decide, by omega⟩ hRl Wk hf0)) ?_
   refine AOps.w rfl rfl (o_store Am (es := [J8 b ⟨r.q.now.f, r.q.now.blk, r.q.now.at' + 1⟩]) rfl rfl rfl rfl rfl HZ rfl rfl rfl (by decide) (Ix _ _ _ _ _) (by intro h; cases h)) ?_;refine wk 2 ?_;exact ⟨⟨⟨⟨f0, 0, 0⟩, r.q.above ++ [⟨r.q.now.f, r.q.now.blk, r.q.now.at' + 1⟩], r.q.R.set f0 (some (List.replicate (Fh b f0) 0)), { r.q.m with steps := r.q.m.steps + 1 }⟩, Hu r.es r.q.above.length ⟨r.q.now.f, r.q.now.blk, r.q.now.at' + 1⟩⟩, DropK.mk' ZU (FN (FM Ca Ca Ca Ca Ca Ca (by rw [show J8 b ⟨f0, 0, 0⟩ = [.int .i64 t.base, .int .i64 0, .int .i64 0, KC (f0 + 16) (Fh b f0)] by rw [hf0]; rfl]; exact Ca) (by rw [Mm]; exact Ca) (fun g => by (try simp only [hputs]); repeat (refine Aw (by exact Af (by omega)) ?_); exact Pm hf0R hRl (fun g => by repeat (first | exact La _ _ _ | refine Aw (by exact Af (by omega)) ?_ | refine AP (by omega) ?_)) g))), hR2, hmu2⟩
  refine BM ?_
  have h10 : t.op ≠ 10 := by simpa using hb3
  have hposn : 0 < Fh b r.q.now.f := by have := Uj htin h10; rw [hnr]; exact this
  have hMr2 : Gt b s r.q.m r.q.R r.q.now r.es (r.q.now.f + 16) = some (.row true 1 (Ac l)) := by unfold Gt; rw [La, h5, Option.getD_some, G6 (by rw [h6, <- hnr]; exact hposn)]
  have hmg := FK (call := fun _ m => m) (s := s) (fun _ _ h => h) t (hbw F (List.mem_of_getElem? h1) k (List.mem_of_getElem? h2) t htm) h7 (D8 hRI.inv.good)
  have hmlen := hmg.2.1
  have hlpos : 0 < l.length := by rw [h6, <- hnr]; exact hposn
  refine wk 6 ?_;refine AOps.call 86 rfl rfl rfl (Ni rfl Try.func41 (by kernel_rfl) rfl rfl (Y6 _ r.q.now.f b.words.toNat (Fh b r.q.now.f) r.q.now.f (A6 b.funcs) (.ref 2 b.funcs.length 0 b.funcs.length) s t l { r.q.m with steps := r.q.m.steps + 1 } (by rw [hnr]; exact htin) h7 (by rw [hnr, h6]) (D8 hRI.inv.good) hRI.inv.fin hw0 hs (hbw F (List.mem_of_getElem? h1) k (List.mem_of_getElem? h2) t (List.mem_of_getElem? ht)) h10 hposn HZ HZ HZ hMr2)) ?_;refine wk 7 ?_;refine asp 88 (fun hb4 => ?_) fun hb4 => ?_
  .
   refine act ?_
   let mE : Mach := (AL (fun _ m => m) s t l { r.q.m with steps := r.q.m.steps + 1 }).2
   have hz : (AL (fun _ m => m) s t l { r.q.m with steps := r.q.m.steps + 1 }).2.fin ≠ 0 := by simpa using hb4
   have hst : (AL (fun _ m => m) s t l { r.q.m with steps := r.q.m.steps + 1 }).2.steps = r.q.m.steps + 1 := mone_nostep h10
   have hend := hRI.inv.insEnd h1 h2 ht h5 hff h10 hz
   refine wk 2 ?_;exact cG
  refine BM ?_
  have hz : (AL (fun _ m => m) s t l { r.q.m with steps := r.q.m.steps + 1 }).2.fin = 0 := by simpa using hb4
  have hst : (AL (fun _ m => m) s t l { r.q.m with steps := r.q.m.steps + 1 }).2.steps = r.q.m.steps + 1 := mone_nostep h10
  have hR2 := RInvB.ins hRI h1 h2 ht (hbw F (List.mem_of_getElem? h1) k (List.mem_of_getElem? h2) t htm) h5 hff h10 hz h6
  have hmu2 := UP hlt (mone_nostep (s := s) (t := t) (regs := l) (m := { r.q.m with steps := r.q.m.steps + 1 }) h10)
  refine wk 2 ?_;exact ⟨⟨⟨⟨r.q.now.f, r.q.now.blk, r.q.now.at' + 1⟩, r.q.above, r.q.R.set r.q.now.f (some (AL (fun _ m => m) s t l { r.q.m with steps := r.q.m.steps + 1 }).1), (AL (fun _ m => m) s t l { r.q.m with steps := r.q.m.steps + 1 }).2⟩, r.es⟩, DropK.mk' ZU (FN (FM Ca Ca (by rw [N9 h5 hmlen]; (try simp only [hputs]); repeat (first | exact AA _ _ _ | refine Aw (by first | rfl | exact Af (by omega)) ?_ | rfl)) Ca Ca Ca Ca Ca (Y9 (h := Gt b s r.q.m r.q.R r.q.now r.es) hflt (by rw [hmlen]; omega) (by (try simp only [hputs]); exact AA _ _ _) (fun g hg => by simp only [hputs]; rw [Aj _ _ (by omega), Aj _ _ (by omega), Aj _ _ (by omega), Aj _ _ (by omega), Aj _ _ (by omega)]) (La _ _)))), hR2, hmu2⟩
 refine BM ?_
 have hat : k.ins.length <= r.q.now.at' := by have h := hb2; simp at h; exact h
 refine wk 14 ?_;refine asp 93 (fun hb5 => ?_) fun hb5 => ?_
 .
  refine act ?_
  have hf1 : k.fin = 1 := by simpa using hb5
  have hR2 := RInvB.jump hbr hRI h1 h2 hat h5 hff (by rw [hf1]; rfl) (bJ hf1 l)
  have hmu2 := Ip hlt
  refine wk 10 ?_;exact ⟨⟨⟨⟨r.q.now.f, k.to, 0⟩, r.q.above, r.q.R, { r.q.m with steps := r.q.m.steps + 1 }⟩, r.es⟩, DropK.mk' ZU (FN (FM Ca Ca Ca Ca Ca Ca Ca Ca (fun g => Wk))), hR2, hmu2⟩
 refine BM ?_
 have hn1 : ¬ k.fin = 1 := by simpa using hb5
 refine wk 5 ?_;refine asp 101 (fun hb6 => ?_) fun hb6 => ?_
 .
  refine act ?_
  have hf2 : k.fin = 2 := by simpa using hb6
  have hv := ends_v (hone.2.2.2 k (List.mem_of_getElem? h2)).1 (by rw [hf2]; rfl)
  have hposn : 0 < Fh b r.q.now.f := by rw [hnr]; omega
  have hMr : Gt b s r.q.m r.q.R r.q.now r.es (r.q.now.f + 16) = some (.row true 1 (Ac l)) := by unfold Gt; rw [La, h5, Option.getD_some, G6 (by rw [h6, <- hnr]; exact hposn)]
  refine wk 17 ?_;refine dq 113 (Ah Am (es := Ac l) rfl (congrArg some (Ih hposn)) rfl rfl rfl rfl hMr (by rw [regCells_len, hnr, h6]) rfl hv.1 (by have := hv.2; omega)) ?_;refine dq 114 (Ar Am rfl rfl rfl (.ptr _ _ _ _ _ _ (Ac l) _ hMr (by rw [regCells_len, hnr, h6]) (Bu (by have := hv; omega))) rfl) ?_;refine wk 2 ?_;refine AGo.join (γ := Int) (fun to => ⟨147, (Ad (Ad (Ad (Ad (Ad (Ad (Ad (Ad (Ad (Ad Bt 1 (.str s)) 2 (.int .i64 fuel)) 3 (.ptr 4 1 0 0)) 6 (.ptr 5 1 0 0)) 7 (.ptr 0 1 0 0)) 8 (.ptr 6 1 0 0)) 9 (.ref 7 r.es.length 0 r.q.above.length)) 10 (.int .i64 0)) 11 (.int .i64 ((r.q.m.steps + 1 : Nat) : Int))) 14 (.int .i64 to)), (Gt b s r.q.m r.q.R r.q.now r.es)⟩) (fun to => k.next l = to) ?_ ?_
  .
   refine asp 115 (fun hb7 => ?_) fun hb7 => ?_
   .
    refine act ?_
    have hnx := YC hf2 hb7
    refine wk 7 ?_;exact ⟨k.to, Sub.mk' BH FV, hnx⟩
   refine BM ?_
   have hnx := YD hf2 hb7
   refine V4 ?_;exact ⟨k.els, Sub.mk' BH FV, hnx⟩
  intro to hnx
  refine agr ?_
  have hR2 := RInvB.jump hbr hRI h1 h2 hat h5 hff (by rw [hf2]; rfl) hnx
  have hmu2 := Ip hlt
  refine wk 6 ?_;exact ⟨⟨⟨⟨r.q.now.f, to, 0⟩, r.q.above, r.q.R, { r.q.m with steps := r.q.m.steps + 1 }⟩, r.es⟩, DropK.mk' ZU (FN (FM Ca Ca Ca Ca Ca Ca Ca Ca (fun g => Wk))), hR2, hmu2⟩
 refine BM ?_
 have hn2 : ¬ k.fin = 2 := by simpa using hb6
 refine wk 5 ?_;refine asp 123 (fun hb8 => ?_) fun hb8 => ?_
 .
  refine act ?_
  have hf3 : k.fin = 3 := by simpa using hb8
  refine wk 7 ?_;refine asp 127 (fun hb9 => ?_) fun hb9 => ?_
  .
   refine act ?_
   let mE : Mach := r.q.m
   have habe : r.q.above = [] := by have h := hb9; simp at h; exact h
   have hend := hRI.inv.done h1 h2 hat hff (by rw [hf3]; rfl) habe
   refine wk 6 ?_;exact cG
  refine BM ?_
  have hab : 0 < r.q.above.length := List.length_pos_iff.2 (by have h := hb9; simp at h; exact h)
  obtain ⟨fr, hfr⟩ := Qr hab
  have hfr2 := TL hRI hfr
  have hR2 := RInvB.ret hRI h1 h2 hat hff (by rw [hf3]; rfl) hfr
  have hmu2 := Ip hlt
  refine wk 6 ?_;refine aq 131 (AI (r := .int .i64 ((r.q.above.length - 1 : Nat) : Int)) rfl rfl rfl (KX hab (by omega))) ?_;refine aq 132 (Ah Am (es := r.es.map (J8 b)) rfl rfl rfl rfl rfl rfl rfl (by rw [List.length_map]) rfl (Int.natCast_nonneg _) (by omega)) ?_;refine aq 133 (Ar Am rfl rfl rfl (.ptr _ _ _ _ _ _ (r.es.map (J8 b)) (J8 b fr) rfl (by rw [List.length_map]) hfr2) rfl) ?_;refine AOps.w rfl rfl (o_store Am (es := [J8 b r.q.now]) rfl rfl rfl rfl rfl HZ rfl rfl rfl (by decide) (Ix _ _ _ _ _) (by intro h; cases h)) ?_;refine wk 5 ?_;refine aq 137 (AI (r := .int .i64 ((r.q.above.length - 1 : Nat) : Int)) rfl rfl rfl (KX hab (by omega))) ?_;refine aq 138 (Oj Am (es := r.es.map (J8 b)) (m := r.q.above.length - 1) rfl rfl rfl rfl rfl rfl HZ (by rw [List.length_map]) rfl (by omega)) ?_;refine wk 2 ?_;exact ⟨⟨⟨fr, r.q.above.dropLast, r.q.R, { r.q.m with steps := r.q.m.steps + 1 }⟩, r.es⟩, DropK.mk' ZU (FN (FM Ca Ca Ca Ca Ca Ca Ca Ca (fun g => Wk))), hR2, hmu2⟩
 refine BM ?_
 have hn3 : ¬ k.fin = 3 := by simpa using hb8
 refine V4 ?_
 exfalso
 have he := (hone.2.2.2 k (List.mem_of_getElem? h2)).1
 have := QD he
 omega
def AV.sure : AV -> Option Value
  | .bool b => some (.bool b)
  | .int k n => some (.int k n)
  | .str s => some (.string s)
  | .fn f [] [] => some (.func f #[] #[])
  | .val v => some v
  | _ => none
def NX : List AV -> Option (List Value)
  | [] => some []
  | x :: xs => match x.sure, NX xs with
    | some v, some vs => some (v :: vs)
    | _, _ => none
def AV.whole : AV -> Option Value
  | .agg cs => (NX cs).map fun l => .agg l.toArray
  | x => x.sure
theorem NW {H : AB} {ι : A2} {x : AV} {v u : Value} (h : Rel H ι x v) (e : x.sure = some u) : v = u := by
  cases h with
  | bool => simpa [AV.sure] using e
  | int => simpa [AV.sure] using e
  | str => simpa [AV.sure] using e
  | val => simpa [AV.sure] using e
  | fn _ f xs cs us vs hx hl h1 h2 =>
    cases xs with
    | cons => simp [AV.sure] at e
    | nil =>
      cases cs with
      | cons => simp [AV.sure] at e
      | nil =>
        have e1 : us = #[] := Array.eq_empty_of_size_eq_zero (by simpa using hx.symm)
        have e2 : vs = #[] := Array.eq_empty_of_size_eq_zero (by simpa using hl.symm)
        subst e1; subst e2
        simpa [AV.sure] using e
  | _ => simp [AV.sure] at e
theorem sureL_get : ∀ {xs : List AV} {l : List Value}, NX xs = some l -> xs.length = l.length /\ ∀ (j : Nat) (x : AV), xs[j]? = some x -> ∃ u, l[j]? = some u /\ x.sure = some u
  | [], l, h => by simp [NX] at h; subst h; exact ⟨rfl, fun j x h => by simp at h⟩
  | x :: xs, l, h => by
    unfold NX at h
    split at h
    . rename_i v vs h1 h2
      simp at h; subst h
      obtain ⟨a1, a2⟩ := sureL_get h2
      refine ⟨by simp [a1], fun j y hj => ?_⟩
      cases j with
      | zero => simp at hj; subst hj; exact ⟨v, rfl, h1⟩
      | succ j => obtain ⟨u, u1, u2⟩ := a2 j y (by simpa using hj); exact ⟨u, by simpa using u1, u2⟩
    . cases h
theorem R9 {H : AB} {ι : A2} {x : AV} {v u : Value} (h : Rel H ι x v) (e : x.whole = some u) : v = u := by
  cases x with
  | agg cs =>
    obtain ⟨us, rfl, hl, hr⟩ := h.agg_inv
    simp only [AV.whole, Option.map_eq_some_iff] at e
    obtain ⟨l, h1, rfl⟩ := e
    obtain ⟨a1, a2⟩ := sureL_get h1
    congr 1
    apply Array.ext (by simp; omega)
    intro i h1 h2
    obtain ⟨x, hx⟩ : ∃ x, cs[i]? = some x := ⟨cs[i]'(by omega), by simp [hl, h1]⟩
    obtain ⟨w, w1, w2⟩ := a2 i x hx
    have := NW (hr i x us[i] hx (by simp [h1])) w2
    rw [this]
    rw [List.getElem?_eq_some_iff] at w1
    obtain ⟨_, w1⟩ := w1
    simp [w1]
  | _ => exact NW h e
section
variable {P : Program} {T : Nat -> Option AC} {o : Oper} {e : Az} {h : Ab}
theorem NU {d : TypeDesc} (h : FX P d ≠ .other) : ∀ m, d ≠ .interface m := fun m e => by subst e; exact h rfl
theorem J2 (hT : Ck P T) {t : TypeId} {x : Operand} {y : AV} {u : Value} {i : AC} (ho : o.op = .makeInterface t x) (hx : Aq e x = some y) (hy : y.whole = some u) (ht : T t = some i) (hk : i.k ≠ .other) : QLoc P o e h [] (.val (.iface t u)) := by
  intro H ι a w s hs g1 g2
  have hx' : Aq s.env x = some y := by rw [g1 x (by rw [ho]; simp [Op.operands]), hx]
  have hv := R9 (Ap hs hx') hy
  obtain ⟨info, d, e1, e2, e3, e4, e5, e6⟩ := An (hT _ _ ht)
  have hd := NU (P := P) (d := d) (e3 ▸ hk)
  refine ⟨.iface t u, .val _ _ rfl, ?_⟩
  simp only [execOp, ho, hv, Instr.makeInterface, Sem.run_bind, Au e2, Result.andThen_ok]
  cases d with
  | interface m => exact absurd rfl (hd m)
  | _ => rfl
end
section
variable {P : Program} {o : Oper} {e : Az} {h : Ab} {R : AV -> Ab -> Prop}
end
def PE (E : List PanicEntry -> Al -> Prop) : Exit -> Al -> Prop
  | .panic ch, s => E ch s
  | _, _ => False
def AOpsE (P : Program) (ops : Array Oper) (l : List Oper) (s : Al) (E : List PanicEntry -> Al -> Prop) : Prop :=
  ∀ H ι a w, Sim H ι s a w -> wpList P ops (Post H ι s.h w (PE E)) l a w
section
variable {P : Program} {ops : Array Oper} {s : Al} {E : List PanicEntry -> Al -> Prop} {o : Oper} {rest : List Oper}
theorem AOpsE.step' {R : List Nat} {W : List (Nat × AObj)} {r : Option AV} (hg : Ay ops o s.env = some true) (ho : OLoc P o s.env s.h R W r) (hd : ∀ t, o.dst = some t -> t < s.n) (h : AOpsE P ops rest ⟨s.n, Em s.env o.dst r, hputs s.h W⟩ E) :
    AOpsE P ops (o :: rest) s E := by
  intro H ι a w hs
  unfold wpList
  rw [Bx hs hg]
  simp only [if_true]
  refine .inl (Oper.wp_mono (fun a' w' hx => ?_) (ho H ι a w s _ hs (fun _ _ => rfl) (fun _ _ => rfl)))
  obtain ⟨v, H', ι', rfl, h1, h2, h3⟩ := hx
  have hs' := hs.put h2 h3 h1 hd
  have := h H' ι' _ w' hs'
  -- the post, from the earlier world on
  have key : ∀ (l : List Oper) (a1 : Act) (w1 : World), wpList P ops (Post H' ι' (hputs s.h W) w' (PE E)) l a1 w1 -> wpList P ops (Post H ι s.h w (PE E)) l a1 w1 := by
    have hpost : ∀ e a2 w2, Post H' ι' (hputs s.h W) w' (PE E) e a2 w2 -> Post H ι s.h w (PE E) e a2 w2 := fun e a2 w2 hp => Post.step hs.heap h2 h3 hp
    exact TZ
  exact key _ _ _ this
theorem AOpsE.skip2 (hg : Ay ops o s.env = some false) (hd : ∀ t, o.dst = some t -> t < s.n) (h : AOpsE P ops rest ⟨s.n, Em s.env o.dst (some (.tup [])), s.h⟩ E) : AOpsE P ops (o :: rest) s E := by
  exact Zj
theorem AN {id : Nat} {ops : Array Oper} {Q : Exit -> Al -> Prop} (h : AOpsE P ops ops.toList s (fun ch s' => Q (.panic ch) s')) : AGo P (.region id ops false) s Q := fun H ι a w hs =>
  wp_region_list (by
    have := h H ι a w hs
    have hpost : ∀ e a2 w2, Post H ι s.h w (PE (fun ch s' => Q (.panic ch) s')) e a2 w2 -> Post H ι s.h w Q e a2 w2 := fun e a2 w2 hp => by
      obtain ⟨s', H', ι', q, r⟩ := hp
      cases e <;> first | exact ⟨s', H', ι', q, r⟩ | exact q.elim
    revert this
    generalize ops.toList = l
    generalize a = a1
    suffices hh : ∀ (l : List Oper) (a1 : Act) (w1 : World), wpList P ops (Post H ι s.h w (PE (fun ch s' => Q (.panic ch) s'))) l a1 w1 -> wpList P ops (Post H ι s.h w Q) l a1 w1 from hh l a1 w
    intro l
    induction l with
    | nil => exact fun a1 w1 hp => hpost _ _ _ hp
    | cons o' l ih =>
      intro a1 w1 hp
      unfold wpList at hp |-
      by_cases hw : Region.wanted o' (yielded ops a1.tmps) = true
      . rw [if_pos hw] at hp |-
        exact cH
      . rw [if_neg hw] at hp |-
        exact ih _ _ hp)
end
section
variable {P : Program} {T : Nat -> Option AC} {ops : Array Oper} {n : Nat} {e : Az} {h : Ab} {E : List PanicEntry -> Al -> Prop} {o : Oper} {rest : List Oper}
theorem AOpsE.s (d : Nat) {R : List Nat} {r : AV} (hd : o.dst = some d) (hb : Nat.blt d n = true) (hg : Ay ops o e = some true) (hq : QLoc P o e h R r) (hr : AOpsE P ops rest ⟨n, Ad e d r, h⟩ E) : AOpsE P ops (o :: rest) ⟨n, e, h⟩ E :=
  AOpsE.step' hg hq.loc (DZ hd hb) (by rw [hd]; exact hr)
theorem AOpsE.x (d : Nat) {R : List Nat} {W : List (Nat × AObj)} {r : AV} (hd : o.dst = some d) (hb : Nat.blt d n = true) (hg : Ay ops o e = some true) (hq : OLoc P o e h R W (some r)) (hr : AOpsE P ops rest ⟨n, Ad e d r, hputs h W⟩ E) : AOpsE P ops (o :: rest) ⟨n, e, h⟩ E :=
  AOpsE.step' hg hq (DZ hd hb) (by rw [hd]; exact hr)
theorem AOpsE.w {R : List Nat} {W : List (Nat × AObj)} {r : Option AV} (hd : o.dst = none) (hg : Ay ops o e = some true) (hq : OLoc P o e h R W r) (hr : AOpsE P ops rest ⟨n, e, hputs h W⟩ E) : AOpsE P ops (o :: rest) ⟨n, e, h⟩ E :=
  AOpsE.step' hg hq (lt_none hd) (by rw [hd]; exact hr)
theorem AOpsE.k (d : Nat) (hd : o.dst = some d) (hb : Nat.blt d n = true) (hg : Ay ops o e = some false) (hr : AOpsE P ops rest ⟨n, Ad e d (.tup []), h⟩ E) : AOpsE P ops (o :: rest) ⟨n, e, h⟩ E :=
  AOpsE.skip2 hg (DZ hd hb) (by rw [hd]; exact hr)
theorem AOpsE.split (d : Nat) {b : Bool} {l : List Oper} (he : e d = some (.bool b)) (h1 : b = true -> AOpsE P ops l ⟨n, Ad e d (.bool true), h⟩ E) (h2 : b = false -> AOpsE P ops l ⟨n, Ad e d (.bool false), h⟩ E) : AOpsE P ops l ⟨n, e, h⟩ E := by
  exact We
end
def GX (P : Program) (o : Oper) (e : Az) (h : Ab) (R : List Nat) (W : List (Nat × AObj)) (E : List PanicEntry -> Prop) : Prop :=
  ∀ (H : AB) (ι : A2) (a : Act) (w : World) (s : Al) (N : Act -> World -> Prop) (Q : Exit -> Act -> World -> Prop), Sim H ι s a w ->
    (∀ x ∈ o.op.operands, Aq s.env x = Aq e x) -> (∀ b ∈ R, s.h b = h b) ->
    (∀ ch w' H' ι', E ch -> HeapRel H' ι' (hputs s.h W) w' -> Step H ι s.h w H' ι' (hputs s.h W) w' -> Q (.panic ch) a w') -> o.wp P a w N Q
def ACallP (P : Program) (f : FuncId) (args : List AV) (h : Ab) (E : List PanicEntry -> Ab -> Prop) : Prop :=
  ∀ (H : AB) (ι : A2) (w : World) (vs : Array Value), RelAll H ι args vs -> HeapRel H ι h w ->
    Calls P f vs w (fun e w' => ∃ ch h' H' ι', e = .panicked ch /\ E ch h' /\ HeapRel H' ι' h' w' /\ Step H ι h w H' ι' h' w')
theorem ACallP.mono {P : Program} {f : FuncId} {args : List AV} {h : Ab} {E E' : List PanicEntry -> Ab -> Prop} (hc : ACallP P f args h E) (hr : ∀ ch h', E ch h' -> E' ch h') : ACallP P f args h E' :=
  fun H ι w vs h1 h2 => (hc H ι w vs h1 h2).mono fun e w' ⟨ch, h', H', ι', e1, e2, e3⟩ => ⟨ch, h', H', ι', e1, hr _ _ e2, e3⟩
def ct (E : List PanicEntry -> Ab -> Prop) : Exit -> Al -> Prop
  | .panic ch, s => E ch s.h
  | _, _ => False
section
variable {P : Program} {T : Nat -> Option AC} {ops : Array Oper} {n : Nat} {e : Az} {h : Ab} {E : List PanicEntry -> Al -> Prop} {o : Oper} {rest : List Oper}
theorem Xv {R : List Nat} {W : List (Nat × AObj)} {E0 : List PanicEntry -> Prop} (hg : Ay ops o e = some true) (hq : GX P o e h R W E0) (hr : ∀ ch, E0 ch -> E ch ⟨n, e, hputs h W⟩) : AOpsE P ops (o :: rest) ⟨n, e, h⟩ E := by
  intro H ι a w hs
  unfold wpList
  rw [Bx hs hg]
  simp only [if_true]
  refine .inl (hq H ι a w _ _ _ hs (fun _ _ => rfl) (fun _ _ => rfl) fun ch w' H' ι' h1 h2 h3 => ?_)
  exact ⟨⟨n, e, hputs h W⟩, H', ι', hr ch h1, hs.put (d := none) (r := none) (v := undef) h2 h3 (fun x e => by cases e) (fun t e => by cases e), h3⟩
theorem J5 {x : Operand} {t : TypeId} {v : Value} (ho : o.op = .panic x) (hx : Aq e x = some (.val (.iface t v))) : GX P o e h [] [] (fun ch => ch = [{ v := .iface t v, recovered := false }]) := by
  intro H ι a w s N Q hs g1 g2 hk
  have hx' : Aq s.env x = some (.val (.iface t v)) := by rw [g1 x (by rw [ho]; simp [Op.operands]), hx]
  have hv : a.eval x = .iface t v := ((Ap hs hx').val_inv).1
  have hexec : (execOp a.eval o).run P w = .halt (.panic (.iface t v)) w := by
    simp only [execOp, ho, hv, Sem.run_bind]
    rfl
  unfold Oper.wp
  rw [hexec]
  exact hk _ w H ι rfl hs.heap (Step.refl _ _ _ _)
theorem ACallP.of_body {f : FuncId} {fn : Func} {c : Code} {args : List AV} {h : Ab} {E : List PanicEntry -> Ab -> Prop} (hf : P.funcs[f]? = some fn) (hb : fn.body = some c) {n : Nat} (hn : args.length + (fn.ntmps - args.length) = n)
    (hg : AGo P c ⟨n, EB args, h⟩ (ct E)) : ACallP P f args h E := by
  intro H ι w vs ha hr
  refine calls_of_wp hf hb ?_
  have hs : Sim H ι ⟨n, EB args, h⟩ { tmps := vs ++ Array.replicate (fn.ntmps - vs.size) undef, defers := [] } w := by
    exact Wf
  refine wp_mono (hg H ι _ w hs) fun e a' w' hp => ?_
  obtain ⟨s', H', ι', q, r, t⟩ := hp
  cases e with
  | panic ch => exact ⟨r.d, ch, s'.h, H', ι', rfl, q, r.heap, t⟩
  | _ => exact q.elim
theorem WJ {f : FuncId} {fn : Func} {args : Array Operand} {tys : Array TypeId} {xs : List AV} {hc hw : Ab} {E : List PanicEntry -> Prop} (hcall : ACallP P f xs hc (fun ch h' => E ch /\ HSub hw h')) (L : List Nat) (W : List (Nat × AObj)) (ho : o.op = .call { callee := .value (.func f), args := args, argTypes := tys }) (hf : P.funcs[f]? = some fn) (hn : (fn.name == "runtime.NumGoroutine") = false) (hb : fn.body.isSome = true)
    (hx : Ba e args.toList = some xs) (hxa : xs.all (AV.avoid (mem L)) = true) (hL : AllL L fun b => ∃ q, h b = some q /\ q.avoid (mem L) = true) (hW : W.all (fun p => mem L p.1) = true) (hres' : hres h L = hc)
    (hk : AllL L fun b => ∃ q, hw b = some q /\ hputs h W b = some q /\ q.avoid (mem L) = true) : GX P o e h L W E := by
  intro H ι a w s N Q hs g1 g2 hcont
  have hx' : Ba s.env args.toList = some xs := by
    exact V9
  have hraa := CH hs hx'
  have hra' : RelAll H (lcut ι (mem L)) xs (args.map a.eval) := ⟨hraa.1, fun j x v h1 h2 => Df (hraa.2 j x v h1 h2) (DU hxa h1)⟩
  have hLs : ∀ b ∈ L, ∃ q, s.h b = some q /\ q.avoid (mem L) = true := fun b hb => by rw [g2 b hb]; exact hL.get b hb
  have hres2 : hres s.h L = hc := by
    rw [<- hres']
    funext b
    unfold hres
    cases e : mem L b with
    | true => simp only [cond_true]; exact g2 b (mem_iff.1 e)
    | false => rfl
  have hrc : HeapRel H (lcut ι (mem L)) (hres s.h L) w := by
    exact ZM
  have hcalls := hcall H (lcut ι (mem L)) w _ hra' (hres2 ▸ hrc)
  have hexec : (execOp a.eval o).run P w = .ok (.enter f (args.map a.eval)) w := by
    simp [execOp, ho, resolve, Act.eval, Deferred.ofValue, invoke, Cp hf hn hb]
  unfold Oper.wp
  rw [hexec]
  refine hcalls.mono fun en w' hh => ?_
  obtain ⟨ch, h', H', ι', rfl, ⟨hE, hsub⟩, k2, k3⟩ := hh
  have hk' : ∀ b ∈ L, ∃ q, h' b = some q /\ hputs s.h W b = some q /\ q.avoid (mem L) = true := fun b hb => by
    obtain ⟨q, q1, q2, q3⟩ := hk.get b hb
    exact ⟨q, hsub b q q1, by rw [JL (g2 b hb)]; exact q2, q3⟩
  obtain ⟨u1, u2⟩ := O8 hs.heap hLs (fun p hp => mem_iff.1 (List.all_eq_true.1 hW p hp)) hk' k2 (hres2.symm ▸ k3)
  exact hcont ch w' H' _ hE u1 u2
end
section
variable {P : Program} {ops : Array Oper} {n : Nat}
structure Kc (P : Program) (ops : Array Oper) (n m : Nat) (e0 es : Az) (h0 : Ab) (qs : Nat -> Option AV) (W : List (Nat × AObj)) (E : List PanicEntry -> Prop) : Prop where
  q : ∀ i o r, ops[i]? = some o -> qs i = some r -> ∃ d R, o.dst = some d /\ d < n /\ o.guard = none /\ QLoc P o es h0 R r /\ es d = some r
  at_m : ∃ o R, ops[m]? = some o /\ o.guard = none /\ qs m = none /\ GX P o es h0 R W E
  lt : ∀ i o, ops[i]? = some o -> ∀ e ∈ o.after, Region.binds .any e = true -> e.on < i
  data : ∀ i o, ops[i]? = some o -> (qs i ≠ none \/ i = m) -> ∀ t, Operand.tmp t ∈ o.op.operands -> ∀ j oj, ops[j]? = some oj -> oj.dst = some t -> qs j ≠ none /\ ∃ e ∈ o.after, e.on = j /\ Region.binds .any e = true
  dep : ∀ i o, ops[i]? = some o -> qs i = none -> i ≠ m -> ∃ e ∈ o.after, Region.binds .any e = true /\ qs e.on = none
  one : ∀ i j oi oj d, ops[i]? = some oi -> ops[j]? = some oj -> oi.dst = some d -> oj.dst = some d -> qs i ≠ none -> i = j
  rest : ∀ t, (∀ j oj, ops[j]? = some oj -> oj.dst = some t -> qs j = none) -> es t = e0 t
theorem TE {m : Nat} {e0 es : Az} {h0 : Ab} {qs : Nat -> Option AV} {W : List (Nat × AObj)} {E0 : List PanicEntry -> Prop} {E : List PanicEntry -> Al -> Prop} {D : List Deferred} (hp : Kc P ops n m e0 es h0 qs W E0) (hE : ∀ ch e, (∀ t, (∀ (j : Nat) oj, ops[j]? = some oj -> oj.dst ≠ some t) -> e t = e0 t) -> E0 ch -> E ch ⟨n, e, hputs h0 W⟩)
    {H0 : AB} {ι0 : A2} {w0 : World} (hr0 : HeapRel H0 ι0 h0 w0) :
    ∀ (fuel : Nat) (L : Array Bool) (H : AB) (ι : A2) (a : Act) (w : World) (eL : Az), Ju ops L -> LR L <= fuel -> a.defers = D -> (∀ i, L.getD i false = true -> qs i ≠ none) ->
      (∀ i o d r, ops[i]? = some o -> L.getD i false = true -> o.dst = some d -> qs i = some r -> eL d = some r) -> (∀ t, (∀ j oj, ops[j]? = some oj -> oj.dst = some t -> qs j = none) -> eL t = e0 t) ->
      Sim H ι ⟨n, eL, h0⟩ { a with defers := [] } w -> Step H0 ι0 h0 w0 H ι h0 w -> wpAny P .any ops (PD D (Post H0 ι0 h0 w0 (PE E))) fuel L a w := by
  obtain ⟨om, Rm, m1, m2, m3, m4⟩ := hp.at_m
  have hml : m < ops.size := (Array.getElem?_eq_some_iff.1 m1).1
  have hnoready : ∀ (L : Array Bool), Ju ops L -> (∀ i, L.getD i false = true -> qs i ≠ none) -> Region.ready .any ops L ≠ [] := fun L hcl hno hre => by
    have hall : ∀ i, i < ops.size -> L.getD i false = true := fun i => by
      induction i using Nat.strongRecOn with
      | _ i ih =>
        intro hi
        cases hb : L.getD i false with
        | true => rfl
        | false =>
          exfalso
          have ho : ops[i]? = some ops[i] := by simp [hi]
          have : i ∈ Region.ready .any ops L := by
            rw [mem_ready]
            refine ⟨by rw [CL (by rw [hcl.1]; exact hi)]; exact hb, _, ho, fun e he hbd => ?_⟩
            have hlt := hp.lt i _ ho e he hbd
            exact ih e.on hlt (by omega)
          rw [hre] at this
          cases this
    exact hno m (hall m hml) m3
  intro fuel
  induction fuel with
  | zero =>
    intro L H ι a w eL hcl hf _ hno _ _ _ _
    have hall := L7 (Nat.le_zero.1 hf) m (by rw [hcl.1]; exact hml)
    exact absurd m3 (hno m hall)
  | succ fuel ih =>
    intro L H ι a w eL hcl hf hD hno hval hres hs hst
    refine ⟨fun hre => absurd hre (hnoready L hcl hno), fun j hj => ?_⟩
    obtain ⟨k1, o, k2, k3⟩ := mem_ready.1 hj
    have hlt : j < ops.size := (Array.getElem?_eq_some_iff.1 k2).1
    have hjL : j < L.size := by rw [hcl.1]; exact hlt
    have hLj : L.getD j false = false := by rw [<- CL hjL]; exact k1
    have hlook : (qs j ≠ none \/ j = m) -> ∀ x ∈ o.op.operands, Aq eL x = Aq es x := fun hq x hx => by
      cases x with
      | tmp t =>
        show eL t = es t
        by_cases hd : ∃ (i : Nat) (oi : Oper), ops[i]? = some oi /\ oi.dst = some t
        . obtain ⟨i, oi, d1, d2⟩ := hd
          obtain ⟨q1, ed, q2, q3, q4⟩ := hp.data j o k2 hq t hx i oi d1 d2
          cases hqi : qs i with
          | none => exact absurd hqi q1
          | some r =>
            have hLi := k3 ed q2 q4
            rw [q3] at hLi
            rw [hval i oi t r d1 hLi d2 hqi]
            obtain ⟨d, R, u1, _, _, _, u5⟩ := hp.q i oi r d1 hqi
            rw [d2] at u1; cases u1
            exact u5.symm
        . have hn : ∀ (i : Nat) (oi : Oper), ops[i]? = some oi -> oi.dst = some t -> qs i = none := fun i oi h1 h2 => absurd ⟨i, oi, h1, h2⟩ hd
          rw [hres t hn, hp.rest t hn]
      | _ => rfl
    unfold wpOp
    rw [k2]
    simp only
    by_cases hjm : j = m
    . subst hjm
      rw [m1] at k2; cases k2
      have hg : Ay ops om eL = some true := by unfold Ay; rw [m2]
      rw [Bx hs hg]
      simp only [if_true]
      refine .inl (G0 (R := fun _ _ => False) (m4 H ι { a with defers := [] } w _ _ _ hs (hlook (.inr rfl)) (fun _ _ => rfl) fun ch w' H' ι' h1 h2 h3 => ?_) (fun v w' hx => hx.elim))
      exact ⟨hD, ⟨n, eL, hputs h0 W⟩, H', ι', hE ch eL (fun t ht => hres t fun j oj h1 h2 => absurd h2 (ht j oj h1)) h1, hs.put (d := none) (r := none) (v := undef) h2 h3 (fun x e => by cases e) (fun t e => by cases e), hst.trans hr0 hs.heap h3⟩
    . cases hqj : qs j with
      | none =>
        obtain ⟨ed, d1, d2, d3⟩ := hp.dep j o k2 hqj hjm
        exact absurd d3 (hno _ (k3 ed d1 d2))
      | some r =>
        obtain ⟨d, R, u1, u2, u3, u4, u5⟩ := hp.q j o r k2 hqj
        have hg : Ay ops o eL = some true := by unfold Ay; rw [u3]
        rw [Bx hs hg]
        simp only [if_true]
        refine .inl (G0 (R := fun v w' => ∃ H' ι', (∀ x, some r = some x -> Rel H' ι' x v) /\ HeapRel H' ι' h0 w' /\ Step H ι h0 w H' ι' h0 w') (Oper.wp_mono (fun a' w' hx => ?_) (u4.loc H ι { a with defers := [] } w _ _ hs (hlook (.inl (by rw [hqj]; intro h; cases h))) (fun _ _ => rfl))) (fun v w' hx => ?_))
        . obtain ⟨v, H', ι', h1, h2⟩ := hx
          exact ⟨v, h1, H', ι', h2⟩
        obtain ⟨H', ι', z1, z2, z3⟩ := hx
        have hs' := hs.put z2 z3 z1 (d := o.dst) (fun t e => by rw [u1] at e; cases e; exact u2)
        rw [u1, F7] at hs'
        rw [u1]
        refine ih _ H' ι' _ w' (Em eL (some d) (some r)) ?_ ?_ ((KF a (some d) v).trans hD) ?_ ?_ ?_ hs' (hst.trans hr0 hs.heap z3)
        . refine ⟨by simp [hcl.1], fun i hi oi h1 e he hb => ?_⟩
          exact Zp
        . have := NT hjL hLj
          omega
        . intro i hi
          rw [Iw hjL] at hi
          by_cases hij : i = j
          . subst hij; rw [hqj]; intro h; cases h
          . exact hno i (by simpa [hij] using hi)
        . intro i oi di ri h1 hi h2 h3
          by_cases hij : i = j
          . subst hij
            rw [k2] at h1; cases h1
            rw [u1] at h2; cases h2
            rw [hqj] at h3; cases h3
            exact Co _ _ _
          . rw [Iw hjL] at hi
            have hi' : L.getD i false = true := by simpa [hij] using hi
            have hne : di ≠ d := fun e => hij (by
              subst e
              exact (hp.one j i o oi di k2 h1 u1 h2 (by rw [hqj]; intro h; cases h)).symm)
            show Ad eL d r di = _
            rw [CZ _ _ hne]
            exact hval i oi di ri h1 hi' h2 h3
        . intro t ht
          have hne : t ≠ d := fun e => by
            subst e
            have := ht j o k2 u1
            rw [hqj] at this; cases this
          show Ad eL d r t = _
          rw [CZ _ _ hne]
          exact hres t ht
end
section
variable {P : Program} {n : Nat} {ops : Array Oper}
theorem any_panicD {id m : Nat} {e es : Az} {h : Ab} {qs : Nat -> Option AV} {W : List (Nat × AObj)} {E0 : List PanicEntry -> Prop} {E : List PanicEntry -> Al -> Prop} (hm : P.follows .mixedOrders = true) (hp : Kc P ops n m e es h qs W E0) (hE : ∀ ch e', (∀ t, (∀ (j : Nat) oj, ops[j]? = some oj -> oj.dst ≠ some t) -> e' t = e t) -> E0 ch -> E ch ⟨n, e', hputs h W⟩)
    {H : AB} {ι : A2} {a : Act} {w : World} (hs : Sim H ι ⟨n, e, h⟩ { a with defers := [] } w) {Q : Exit -> Act -> World -> Prop} (hQ : ∀ e a' w', PD a.defers (Post H ι h w (PE E)) e a' w' -> Q e a' w') : (Code.region id ops true).wp P Q a w := by
  refine wp_region_any hm (EU hQ _ _ _ _ ?_)
  have hgrow : ∀ rb, rb < w.heap.size -> ({ w with drawn := w.drawn + 1 } : World).heap[rb]? = w.heap[rb]? := fun _ _ => rfl
  have hr' : HeapRel H ι h { w with drawn := w.drawn + 1 } := hs.heap.grow hgrow
  have hst : Step H ι h w H ι h { w with drawn := w.drawn + 1 } := Step.grow hgrow (Nat.le_refl _) rfl rfl
  have hL0 := Ew ops.size
  exact TE (D := a.defers) hp hE hs.heap ops.size (Array.replicate ops.size false) H ι a { w with drawn := w.drawn + 1 } e
    ⟨by simp, fun i hi => by rw [hL0] at hi; cases hi⟩ (by unfold LR; simp) rfl (fun i hi => by rw [hL0] at hi; cases hi) (fun i o d r _ hi => by rw [hL0] at hi; cases hi) (fun _ _ => rfl) ⟨hs.n, hs.d, hs.env, hr'⟩ hst
theorem TR {id m : Nat} {Q : Exit -> Al -> Prop} {e es : Az} {h : Ab} {qs : Nat -> Option AV} {W : List (Nat × AObj)} {E0 : List PanicEntry -> Prop} (hm : P.follows .mixedOrders = true) (hp : Kc P ops n m e es h qs W E0) (hE : ∀ ch e', E0 ch -> Q (.panic ch) ⟨n, e', hputs h W⟩) : AGo P (.region id ops true) ⟨n, e, h⟩ Q := by
  intro H ι a w hs
  refine any_panicD (E := fun ch s' => Q (.panic ch) s') hm hp (fun ch e' _ => hE ch e') (by rw [hs.d0]; exact hs) fun e a2 w2 hp => ?_
  exact Zl
variable {o : Oper} {rest : List Oper} {e : Az} {h : Ab} {acc : List (List Nat × List Nat)} {K : Al -> Prop}
end
def QOps (P : Program) (n : Nat) (h : Ab) : List Oper -> List Bool -> Az -> Az -> List (Option AV) -> Prop
  | [], [], e, es, vs => es = e /\ vs = []
  | o :: l, true :: ps, e, es, vs => ∃ d R r vs', o.dst = some d /\ d < n /\ o.guard = none /\ QLoc P o e h R r /\ vs = some r :: vs' /\ QOps P n h l ps (Ad e d r) es vs'
  | o :: l, false :: ps, e, es, vs => ∃ vs', vs = none :: vs' /\ QOps P n h l ps e es vs'
  | _, _, _, _, _ => False
section
variable {P : Program} {n : Nat} {h : Ab}
theorem QOps.keep {t : Nat} : ∀ {l : List Oper} {pat : List Bool} {e es : Az} {vs : List (Option AV)}, QOps P n h l pat e es vs -> (∀ (j : Nat) (oj : Oper), l[j]? = some oj -> pat[j]? = some true -> oj.dst ≠ some t) -> es t = e t
  | [], [], e, es, vs, hq, _ => by rw [hq.1]
  | o :: l, true :: ps, e, es, vs, hq, hn => by
    obtain ⟨d, R, r, vs', h1, h2, h3, h4, h5, h6⟩ := hq
    rw [QOps.keep h6 fun j oj hj hp => hn (j + 1) oj (by simpa using hj) (by simpa using hp)]
    have hne : t ≠ d := fun e => hn 0 o rfl rfl (by rw [h1, e])
    exact CZ _ _ hne
  | o :: l, false :: ps, e, es, vs, hq, hn => by
    obtain ⟨vs', h5, h6⟩ := hq
    exact QOps.keep h6 fun j oj hj hp => hn (j + 1) oj (by simpa using hj) (by simpa using hp)
  | [], _ :: _, _, _, _, hq, _ => hq.elim
  | _ :: _, [], _, _, _, hq, _ => hq.elim
theorem QOps.pat_vs : ∀ {l : List Oper} {pat : List Bool} {e es : Az} {vs : List (Option AV)}, QOps P n h l pat e es vs -> ∀ i : Nat, (vs[i]?).join ≠ none ↔ pat[i]? = some true
  | [], [], e, es, vs, hq, i => by rw [hq.2]; simp
  | o :: l, true :: ps, e, es, vs, hq, i => by
    obtain ⟨d, R, r, vs', h1, h2, h3, h4, rfl, h6⟩ := hq
    cases i with
    | zero => simp
    | succ i => simpa using QOps.pat_vs h6 i
  | o :: l, false :: ps, e, es, vs, hq, i => by
    obtain ⟨vs', rfl, h6⟩ := hq
    cases i with
    | zero => simp
    | succ i => simpa using QOps.pat_vs h6 i
  | [], _ :: _, _, _, _, hq, _ => hq.elim
  | _ :: _, [], _, _, _, hq, _ => hq.elim
theorem QOps.get : ∀ {l : List Oper} {pat : List Bool} {e es : Az} {vs : List (Option AV)}, QOps P n h l pat e es vs -> ∀ {i : Nat} {o : Oper} {r : AV}, l[i]? = some o -> (vs[i]?).join = some r ->
    ∃ d R ei, o.dst = some d /\ d < n /\ o.guard = none /\ QLoc P o ei h R r /\ (∀ t, (∀ (j : Nat) (oj : Oper), i <= j -> l[j]? = some oj -> pat[j]? = some true -> oj.dst ≠ some t) -> es t = ei t) /\ ((∀ (j : Nat) (oj : Oper), i < j -> l[j]? = some oj -> pat[j]? = some true -> oj.dst ≠ some d) -> es d = some r)
  | [], [], e, es, vs, hq, i, o, r, ho, _ => by simp at ho
  | o :: l, true :: ps, e, es, vs, hq, i, o', r', ho, hr => by
    obtain ⟨d, R, r, vs', h1, h2, h3, h4, rfl, h6⟩ := hq
    cases i with
    | zero =>
      simp at ho hr; subst ho; subst hr
      refine ⟨d, R, e, h1, h2, h3, h4, fun t ht => ?_, fun hd => ?_⟩
      . rw [QOps.keep h6 fun j oj hj hp => ht (j + 1) oj (Nat.zero_le _) (by simpa using hj) (by simpa using hp)]
        have hne : t ≠ d := fun e => ht 0 _ (Nat.le_refl _) rfl rfl (by rw [h1, e])
        exact CZ _ _ hne
      . rw [QOps.keep h6 fun j oj hj hp => hd (j + 1) oj (Nat.succ_pos _) (by simpa using hj) (by simpa using hp)]
        exact Co _ _ _
    | succ i =>
      exact Zu
  | o :: l, false :: ps, e, es, vs, hq, i, o', r', ho, hr => by
    obtain ⟨vs', rfl, h6⟩ := hq
    cases i with
    | zero => simp at hr
    | succ i =>
      exact Zu
  | [], _ :: _, _, _, _, hq, _, _, _, _, _ => hq.elim
  | _ :: _, [], _, _, _, hq, _, _, _, _, _ => hq.elim
theorem pq (d : Nat) {o : Oper} {l : List Oper} {ps : List Bool} {e es : Az} {R : List Nat} {r : AV} {vs : List (Option AV)} (hq : QLoc P o e h R r) (hr : QOps P n h l ps (Ad e d r) es vs) (hd : o.dst = some d := by exact rfl) (hb : Nat.blt d n = true := by exact rfl) (hg : o.guard = none := by exact rfl) : QOps P n h (o :: l) (true :: ps) e es (some r :: vs) :=
  ⟨d, R, r, vs, hd, Nat.blt_eq.mp hb, hg, hq, rfl, hr⟩
theorem pn {o : Oper} {l : List Oper} {ps : List Bool} {e es : Az} {vs : List (Option AV)} (hr : QOps P n h l ps e es vs) : QOps P n h (o :: l) (false :: ps) e es (none :: vs) := ⟨vs, rfl, hr⟩
def VB (ops : Array Oper) (m : Nat) (pat : List Bool) : Bool :=
  (List.range ops.size).all fun i => match ops[i]? with
    | none => true
    | some o => (o.after.all fun e => !Region.binds .any e || Nat.blt e.on i) &&
      ((bif (pat[i]?).getD false || Nat.beq i m then
          o.op.operands.all fun x => match x with
            | .tmp t => (List.range ops.size).all fun j => match ops[j]? with
              | some oj => !(oj.dst == some t) || ((pat[j]?).getD false && o.after.any fun e => Nat.beq e.on j && Region.binds .any e)
              | none => true
            | _ => true
        else o.after.any fun e => Region.binds .any e && !((pat[e.on]?).getD false)) &&
      (!((pat[i]?).getD false) || (List.range ops.size).all fun j => match ops[j]? with
        | some oj => !(o.dst.isSome && oj.dst == o.dst) || Nat.beq i j
        | none => true))
theorem I6 {k : Nat} {q : Nat -> Bool} (h : (List.range k).all q = true) {i : Nat} (hi : i < k) : q i = true := List.all_eq_true.1 h i (List.mem_range.2 hi)
theorem KH {ops : Array Oper} {e es : Az} {vs : List (Option AV)} {W : List (Nat × AObj)} {R : List Nat} {E0 : List PanicEntry -> Prop} {om : Oper} (m : Nat) (pat : List Bool) (hchk : VB ops m pat = true) (hpm : (pat[m]?).getD false = false)
    (hq : QOps P n h ops.toList pat e es vs) (hom : ops[m]? = some om) (hg : om.guard = none) (hX : GX P om es h R W E0) : Kc P ops n m e es h (fun i => (vs[i]?).join) W E0 := by
  have hc : ∀ {i : Nat} {o : Oper}, ops[i]? = some o -> _ := fun {i o} ho => I6 hchk (i := i) (Array.getElem?_eq_some_iff.1 ho).1
  have hpat : ∀ {i : Nat}, (vs[i]?).join ≠ none -> (pat[i]?).getD false = true := fun {i} hi => by rw [(hq.pat_vs i).1 hi]; rfl
  have hpat2 : ∀ {i : Nat}, (pat[i]?).getD false = true -> (vs[i]?).join ≠ none := fun {i} hi => (hq.pat_vs i).2 (by
    cases e : pat[i]? with
    | none => rw [e] at hi; cases hi
    | some b => rw [e] at hi; simp at hi; rw [hi])
  have hlt : ∀ (i : Nat) (o : Oper), ops[i]? = some o -> ∀ e ∈ o.after, Region.binds .any e = true -> e.on < i := fun i o ho ed he hb => by
    have := hc ho
    rw [ho] at this
    simp only [Bool.and_eq_true] at this
    have h1 := Array.all_eq_true_iff_forall_mem.1 this.1 ed he
    rw [hb] at h1
    exact Nat.blt_eq.mp (by simpa using h1)
  have hdata : ∀ (i : Nat) (o : Oper), ops[i]? = some o -> ((vs[i]?).join ≠ none \/ i = m) -> ∀ t, Operand.tmp t ∈ o.op.operands -> ∀ (j : Nat) (oj : Oper), ops[j]? = some oj -> oj.dst = some t -> (vs[j]?).join ≠ none /\ ∃ e ∈ o.after, e.on = j /\ Region.binds .any e = true := fun i o ho hi t ht j oj hj hjd => by
    have := hc ho
    rw [ho] at this
    simp only [Bool.and_eq_true] at this
    have h1 := this.2.1
    have hcond : ((pat[i]?).getD false || Nat.beq i m) = true := by
      rcases hi with hi | hi
      . rw [hpat hi]; rfl
      . subst hi; rw [Nat.beq_refl, Bool.or_true]
    rw [hcond, _root_.cond_true] at h1
    have h2 := Array.all_eq_true_iff_forall_mem.1 h1 _ ht
    simp only at h2
    have h3 := I6 h2 (i := j) (Array.getElem?_eq_some_iff.1 hj).1
    rw [hj] at h3
    simp only [hjd, beq_self_eq_true, Bool.not_true, Bool.false_or, Bool.and_eq_true] at h3
    obtain ⟨x, hx, hx2⟩ := Array.any_eq_true'.1 h3.2
    simp only [Bool.and_eq_true] at hx2
    exact ⟨hpat2 h3.1, x, hx, Nat.eq_of_beq_eq_true hx2.1, hx2.2⟩
  have hone : ∀ (i j : Nat) (oi oj : Oper) (d : Nat), ops[i]? = some oi -> ops[j]? = some oj -> oi.dst = some d -> oj.dst = some d -> (vs[i]?).join ≠ none -> i = j := fun i j oi oj d hi hj hid hjd hv => by
    have := hc hi
    rw [hi] at this
    simp only [Bool.and_eq_true] at this
    have h1 := this.2.2
    rw [hpat hv] at h1
    simp only [Bool.not_true, Bool.false_or] at h1
    have h3 := I6 h1 (i := j) (Array.getElem?_eq_some_iff.1 hj).1
    rw [hj] at h3
    simp only [hid, hjd, Option.isSome_some, beq_self_eq_true, Bool.and_true, Bool.not_true, Bool.false_or] at h3
    exact Nat.eq_of_beq_eq_true h3
  have htl : ∀ {i : Nat}, ops.toList[i]? = ops[i]? := fun {i} => by simp
  refine ⟨?_, ⟨om, R, hom, hg, ?_, hX⟩, hlt, hdata, ?_, hone, ?_⟩
  . intro i o r ho hr
    obtain ⟨d, Rq, ei, a1, a2, a3, a4, a5, a6⟩ := hq.get (i := i) (o := o) (r := r) (by rw [htl]; exact ho) hr
    refine ⟨d, Rq, a1, a2, a3, ?_, a6 fun j oj hij hj hp hd => ?_⟩
    . intro H ι a w s hs g1 g2
      refine a4 H ι a w s hs (fun x hx => ?_) g2
      rw [g1 x hx]
      cases x with
      | tmp t =>
        show es t = ei t
        refine a5 t fun j oj hij hj hp hd => ?_
        obtain ⟨_, ed, b1, b2, b3⟩ := hdata i o ho (.inl (by rw [hr]; intro h; cases h)) t hx j oj (by rw [<- htl]; exact hj) hd
        have := hlt i o ho ed b1 b3
        omega
      | _ => rfl
    . have := hone i j o oj d ho (by rw [<- htl]; exact hj) a1 hd (by rw [hr]; intro h; cases h)
      omega
  . cases e : (vs[m]?).join with
    | none => rfl
    | some r =>
      have := hpat (i := m) (by rw [e]; intro h; cases h)
      rw [hpm] at this; cases this
  . intro i o ho hi him
    have := hc ho
    rw [ho] at this
    simp only [Bool.and_eq_true] at this
    have h1 := this.2.1
    have hcond : ((pat[i]?).getD false || Nat.beq i m) = false := by
      rw [Bool.or_eq_false_iff]
      refine ⟨?_, ?_⟩
      . cases e : (pat[i]?).getD false with
        | false => rfl
        | true => exact absurd hi (hpat2 e)
      . cases e : Nat.beq i m with
        | false => rfl
        | true => exact absurd (Nat.eq_of_beq_eq_true e) him
    rw [hcond, _root_.cond_false] at h1
    obtain ⟨x, hx, hx2⟩ := Array.any_eq_true'.1 h1
    simp only [Bool.and_eq_true, Bool.not_eq_true'] at hx2
    refine ⟨x, hx, hx2.1, ?_⟩
    cases e : (vs[x.on]?).join with
    | none => rfl
    | some r =>
      have := hpat (i := x.on) (by rw [e]; intro h; cases h)
      rw [hx2.2] at this; cases this
  . intro t ht
    refine hq.keep fun j oj hj hp hd => ?_
    have h1 := ht j oj (by rw [<- htl]; exact hj) hd
    exact (hq.pat_vs j).2 hp h1
theorem TQ {ops : Array Oper} {id : Nat} {Q : Exit -> Al -> Prop} {e es : Az} {vs : List (Option AV)} {W : List (Nat × AObj)} {R : List Nat} {E0 : List PanicEntry -> Prop} {om : Oper} (m : Nat) (pat : List Bool) (hm : P.follows .mixedOrders = true) (hchk : VB ops m pat = true) (hpm : (pat[m]?).getD false = false)
    (hq : QOps P n h ops.toList pat e es vs) (hom : ops[m]? = some om) (hg : om.guard = none) (hX : GX P om es h R W E0) (hE : ∀ ch e', E0 ch -> Q (.panic ch) ⟨n, e', hputs h W⟩) : AGo P (.region id ops true) ⟨n, e, h⟩ Q :=
  TR hm (KH m pat hchk hpm hq hom hg hX) hE
end
def CI (es : List (List AV)) (off : Nat) (xs : List (List AV)) : List (List AV) := es.take off ++ (xs ++ es.drop (off + xs.length))
theorem JD {es xs : List (List AV)} {off : Nat} (h : off + xs.length <= es.length) : (CI es off xs).length = es.length := by
  unfold CI
  simp only [List.length_append, List.length_take, List.length_drop]; omega
theorem J4 {α : Type} {l xs : List α} {off i : Nat} (h : off + xs.length <= l.length) : (l.take off ++ (xs ++ l.drop (off + xs.length)))[i]? = if i < off then l[i]? else if i < off + xs.length then xs[i - off]? else l[i]? := by
  have h1 : (l.take off).length = off := by rw [List.length_take]; omega
  by_cases a : i < off
  . rw [if_pos a, List.getElem?_append_left (by omega), List.getElem?_take_of_lt a]
  . rw [if_neg a, List.getElem?_append_right (by omega), h1]
    by_cases b : i < off + xs.length
    . rw [if_pos b, List.getElem?_append_left (by omega)]
    . rw [if_neg b, List.getElem?_append_right (by omega), List.getElem?_drop]
      congr 1; omega
theorem Qq {α : Type} {l : List α} (h : 0 < l.length) : ∃ x, l[0]? = some x := ⟨l[0], List.getElem?_eq_getElem h⟩
theorem Lb {α : Type} {l : List α} {k : Nat} (h : k < l.length) : ∃ x, l[k]? = some x := ⟨l[k], List.getElem?_eq_getElem h⟩
section
variable {P : Program} {T : Nat -> Option AC} {o : Oper} {e : Az} {h : Ab}
theorem N8 {H : AB} {es xs : List (List AV)} {c : Array Value} {vs : List Value} {off : Nat} (h1 : rowCells H AZ 1 es c) (hl : off + xs.length <= es.length) (hc : es.length <= c.size) (hv : vs.length = xs.length)
    (hx : ∀ (i : Nat) (cs : List AV) (v : Value), xs[i]? = some cs -> vs[i]? = some v -> ∃ y, cs = [y] /\ Rel H AZ y v /\ y.cell1 = true) : rowCells H AZ 1 (CI es off xs) (c.toList.take off ++ vs ++ c.toList.drop (off + vs.length)).toArray := by
  have hg : ∀ i : Nat, (c.toList.take off ++ vs ++ c.toList.drop (off + vs.length)).toArray[i]? = if i < off then c[i]? else if i < off + vs.length then vs[i - off]? else c[i]? := fun i => by
    rw [List.append_assoc]
    simp only [List.getElem?_toArray]
    rw [J4 (by simp; omega)]
    simp
  have hp : ∀ i : Nat, (CI es off xs)[i]? = if i < off then es[i]? else if i < off + xs.length then xs[i - off]? else es[i]? := fun i => J4 hl
  have hone : ∀ (i : Nat) (cs : List AV), (CI es off xs)[i]? = some cs -> cs.length = 1 /\ ∀ y : AV, cs[0]? = some y -> ∃ v, (c.toList.take off ++ vs ++ c.toList.drop (off + vs.length)).toArray[i]? = some v /\ Rel H AZ y v /\ y.cell1 = true := fun i cs hi => by
    rw [hp] at hi
    by_cases a : i < off
    . rw [if_pos a] at hi
      refine ⟨h1.1 i cs hi, fun y hy => ?_⟩
      obtain ⟨v, v1, v2⟩ := h1.2 i cs 0 y hi hy
      refine ⟨v, ?_, v2⟩
      rw [hg, if_pos a]; simpa using v1
    . rw [if_neg a] at hi
      by_cases b : i < off + xs.length
      . rw [if_pos b] at hi
        have hlt : i - off < vs.length := by omega
        obtain ⟨y, rfl, y1, y2⟩ := hx (i - off) cs vs[i - off] hi (List.getElem?_eq_getElem hlt)
        refine ⟨rfl, fun z hz => ?_⟩
        simp at hz; subst hz
        refine ⟨vs[i - off], ?_, y1, y2⟩
        rw [hg, if_neg a, if_pos (by omega), List.getElem?_eq_getElem hlt]
      . rw [if_neg b] at hi
        refine ⟨h1.1 i cs hi, fun y hy => ?_⟩
        obtain ⟨v, v1, v2⟩ := h1.2 i cs 0 y hi hy
        refine ⟨v, ?_, v2⟩
        rw [hg, if_neg a, if_neg (by omega)]; simpa using v1
  refine ⟨fun i cs hi => (hone i cs hi).1, fun i cs k y hi hk => ?_⟩
  obtain ⟨g1, g2⟩ := hone i cs hi
  have hk0 : k = 0 := by have := (List.getElem?_eq_some_iff.1 hk).1; omega
  subst hk0
  obtain ⟨v, v1, v2⟩ := g2 y hk
  exact ⟨v, by simpa using v1, v2⟩
theorem SC (hT : Ck P T) {t : TypeId} {x : Operand} {i j : AC} {u b n off len : Nat} {es : List (List AV)} {c0 : AV} (ho : o.op = .call { callee := .builtin .clear, args := #[x], argTypes := #[t] }) (hx : Aq e x = some (.ref b n off len)) (ht : T t = some i) (hk : i.k = .slice u) (hj : T u = some j)
    (hb : h b = some (.row true 1 es)) (hn : n = es.length) (hin : off + len <= es.length) (hpos : 0 < len) (hz : j.zero = [c0]) (hsz : j.size = 1) (h1 : c0.cell1 = true) (hpu : c0.isPure1 = true) : OLoc P o e h [b] [(b, .row true 1 (CI es off (List.replicate len [c0])))] (some (.tup [])) := by
  intro H ι a w s Q hs g1 g2
  have hx' : Aq s.env x = some (.ref b n off len) := by rw [g1 x FB, hx]
  have hb' : s.h b = some (.row true 1 es) := by rw [g2 b (by simp), hb]
  obtain ⟨info, d, e1, e2, e3, e4, e5, e6⟩ := An (hT _ _ ht)
  obtain ⟨info', d', e1', e2', e3', e4', e5', e6'⟩ := An (hT _ _ hj)
  have hd := A4 (P := P) (d := d) (e3 ▸ hk)
  subst hd
  obtain ⟨z, hz1, hz2⟩ := C9 e6' (by rw [hz, hsz]; rfl) (by omega)
  rw [hz] at hz2
  obtain ⟨z1, z2⟩ := Dh (H := H) (ι := AZ) hz2
  obtain ⟨cv, hcv⟩ : ∃ cv, z.cells = #[cv] := by
    exact Xz
  have hcr : Rel H AZ c0 cv := z2 0 c0 cv rfl (by rw [hcv]; rfl)
  have hc1 : cv.oneCell' = true := cell1_rel hcr h1
  subst hn
  obtain ⟨r, hl, ⟨r1, r2, r3, r4, r5, r6⟩, r7⟩ := hs.heap.obj b _ hb' rfl
  have hlen0 : 0 < es.length := by omega
  have hsol : r.csz ≠ 0 := fun h0 => by omega
  obtain ⟨hlen, cap, hvv, hlc, hcap, hmax⟩ := (Ap hs hx').ref_live hl (by omega) hsol
  obtain ⟨c, TT, w1, w2, w3⟩ := r6 hsol
  rw [r1, Nat.mul_one] at hvv
  have hzc : (Builtin.zeroCells z.cells len).toList = List.replicate len cv := by
    rw [hcv]
    simp [Builtin.zeroCells]
    apply List.ext_getElem
    . simp
    . intro i h1 h2
      simp [Nat.mod_one]
  have hcs : es.length <= c.size := by rw [w2]; omega
  have hfit : off + 0 + (List.replicate len cv).length <= c.size := by rw [List.length_replicate]; omega
  have hst := Cy P r.rb off TT (List.replicate len cv) 0 c w w1 hfit (by intro v hv; rw [List.eq_of_mem_replicate hv]; exact hc1)
  simp only [Nat.add_zero, List.length_replicate] at hst
  have hrun : (Builtin.clear_ #[t] o.type #[.slice (some ⟨r.rb, off, none⟩) len cap]).run P w = .ok (.tuple #[]) (w.setRow r.rb (c.toList.take off ++ List.replicate len cv ++ c.toList.drop (off + len)).toArray) := by
    obtain ⟨m, hm⟩ : ∃ m, len = m + 1 := ⟨len - 1, by omega⟩
    rw [hm] at hzc hst |-
    simp [Builtin.clear_, run_underlying e2, zeroValue, typeInfo, e1', hz1, hzc, hst]
  have hexec : (execOp a.eval o).run P w = .ok (.value (.tuple #[])) (w.setRow r.rb (c.toList.take off ++ List.replicate len cv ++ c.toList.drop (off + len)).toArray) := by
    simp only [execOp, ho, resolve, invoke, builtin, Sem.run_bind, Sem.run_pure, Result.andThen_ok, List.map_toArray, List.map_cons, List.map_nil]
    rw [hvv, hrun]
    rfl
  have hrow : rowCells H AZ 1 (CI es off (List.replicate len [c0])) (c.toList.take off ++ List.replicate len cv ++ c.toList.drop (off + len)).toArray := by
    have := N8 (off := off) (xs := List.replicate len [c0]) (vs := List.replicate len cv) w3 (by rw [List.length_replicate]; omega) hcs (by simp) (fun i cs v h2 h3 => by
      have k1 := List.eq_of_mem_replicate (List.mem_of_getElem? h2)
      have k2 := List.eq_of_mem_replicate (List.mem_of_getElem? h3)
      subst k1; subst k2
      exact ⟨c0, rfl, hcr, h1⟩)
    rwa [List.length_replicate] at this
  have hpl := JD (es := es) (xs := List.replicate len [c0]) (off := off) (by rw [List.length_replicate]; omega)
  generalize hC : (c.toList.take off ++ List.replicate len cv ++ c.toList.drop (off + len)).toArray = C at *
  have hCs : C.size = c.size := by rw [<- hC]; simp; omega
  obtain ⟨u1, u2⟩ := hs.heap.upd (w' := w.setRow r.rb C) (o0 := .row true 1 es) (o' := .row true 1 (CI es off (List.replicate len [c0]))) (r' := r) hb' rfl
    (.inr ⟨r, hl, rfl, .inl rfl⟩) (fun _ => .inr ⟨r, hl, rfl, hsol, rfl⟩)
    (fun rb hlt' hne => setRow_other w r.rb rb _ (hne r hl rfl hsol)) (by simp) (EL _ _ _) (D1 _ _ _)
    ⟨r1, r2, by rw [hpl]; exact r3, by rw [hpl]; exact r4, hrow.1, fun _ => ⟨C, TT, w1.setRow hCs, hCs.trans w2, hrow⟩⟩
  unfold Oper.wp
  rw [hexec]
  exact ⟨_, H, _, rfl, (fun x ex => by cases ex; exact .tup _ _ _ rfl (fun j x v h => by simp at h)), u1, u2⟩
theorem UJ (hT : Ck P T) {t t' : TypeId} {x y : Operand} {i j : AC} {u b n off len : Nat} {ex : Bool} {es xs : List (List AV)} (ho : o.op = .call { callee := .builtin .copy, args := #[x, y], argTypes := #[t, t'] }) (hx : Aq e x = some (.ref b n off len)) (hy : Aq e y = some (.lst ex xs)) (ht : T t = some i) (hk : i.k = .slice u) (hj : T u = some j)
    (hb : h b = some (.row true 1 es)) (hn : n = es.length) (hin : off + len <= es.length) (hpos : 0 < xs.length) (hle : xs.length <= len) (hsz : j.size = 1) (h1 : ∀ cs ∈ xs, cs.length = 1) (hpu : ∀ cs ∈ xs, cs.all AV.isPure1 = true) : OLoc P o e h [b] [(b, .row true 1 (CI es off xs))] (some (.int .i64 (xs.length : Int))) := by
  intro H ι a w s Q hs g1 g2
  have hx' : Aq s.env x = some (.ref b n off len) := by rw [g1 x FB, hx]
  have hy' : Aq s.env y = some (.lst ex xs) := by rw [g1 y FB, hy]
  have hb' : s.h b = some (.row true 1 es) := by rw [g2 b (by simp), hb]
  obtain ⟨info, d, e1, e2, e3, e4, e5, e6⟩ := An (hT _ _ ht)
  obtain ⟨info', d', e1', e2', e3', e4', e5', e6'⟩ := An (hT _ _ hj)
  have hd := A4 (P := P) (d := d) (e3 ▸ hk)
  subst hd
  subst hn
  obtain ⟨r, hl, ⟨r1, r2, r3, r4, r5, r6⟩, r7⟩ := hs.heap.obj b _ hb' rfl
  have hlen0 : 0 < es.length := by omega
  have hsol : r.csz ≠ 0 := fun h0 => by omega
  obtain ⟨hlen, cap, hvv, hlc, hcap, hmax⟩ := (Ap hs hx').ref_live hl (by omega) hsol
  obtain ⟨c, TT, w1, w2, w3⟩ := r6 hsol
  rw [r1, Nat.mul_one] at hvv
  rcases (Ap hs hy').lst_inv with ⟨q0, _⟩ | ⟨q0, b2, off2, cap2, sz2, c2, vals, hvy, q1, q2, q3, q4, q5, q6, q7, q8⟩
  . rw [q0] at hpos; exact absurd hpos (Nat.lt_irrefl _)
  have hs2 : sz2 = 1 := by
    obtain ⟨cs, hcs⟩ := Qq hpos
    rw [<- q2 0 cs hcs, h1 cs (List.mem_of_getElem? hcs)]
  subst hs2
  have hcell : ∀ (k : Nat) (cs : List AV), xs[k]? = some cs -> ∃ z, cs = [z] /\ c2[off2 + k]? = some (vals k 0) /\ Rel H AZ z (vals k 0) /\ z.cell1 = true := fun k cs hk => by
    have hl1 := h1 cs (List.mem_of_getElem? hk)
    obtain ⟨z, rfl⟩ := List.length_eq_one_iff.1 hl1
    exact ⟨z, rfl, by simpa using q3 k [z] 0 z hk rfl, q4 k [z] 0 z hk rfl, q5 k [z] 0 z hk rfl⟩
  obtain ⟨TT2, fr2, hw2⟩ := hs.heap.know b2 c2 q1
  let vs : List Value := (List.range xs.length).map fun k => vals k 0
  have hvl : vs.length = xs.length := by simp [vs]
  have hvg : ∀ (k : Nat) (v : Value), vs[k]? = some v -> k < xs.length /\ v = vals k 0 := fun k v hk => by
    have hlt : k < xs.length := by have := (List.getElem?_eq_some_iff.1 hk).1; omega
    simp only [vs, List.getElem?_map, List.getElem?_range hlt, Option.map_some, Option.some.injEq] at hk
    exact ⟨hlt, hk.symm⟩
  have hfc : (Builtin.firstCells info'.size xs.length (.slice (some ⟨b2, off2, none⟩) xs.length cap2)).run P w = .ok vs.toArray w := by
    refine run_firstCells_some (P := P) w info'.size xs.length ⟨b2, off2, none⟩ xs.length cap2 vs (by rw [hvl, e4', hsz, Nat.mul_one]) fun k v hk => ?_
    obtain ⟨hlt, rfl⟩ := hvg k v hk
    obtain ⟨cs, hcs⟩ := Lb hlt
    obtain ⟨z, _, z1, _⟩ := hcell k cs hcs
    rw [Ed]
    unfold World.cell?
    simp only [hw2]
    simpa using z1
  have hcs : es.length <= c.size := by rw [w2]; omega
  have hst := Cy P r.rb off TT vs 0 c w w1 (by rw [hvl]; omega) (by
    intro v hv
    obtain ⟨k, hk⟩ := List.getElem?_of_mem hv
    obtain ⟨hlt, rfl⟩ := hvg k v hk
    obtain ⟨cs, hcs⟩ := Lb hlt
    obtain ⟨z, _, _, z2, z3⟩ := hcell k cs hcs
    exact cell1_rel z2 z3)
  simp only [Nat.add_zero] at hst
  have hrow : rowCells H AZ 1 (CI es off xs) (c.toList.take off ++ vs ++ c.toList.drop (off + vs.length)).toArray := N8 w3 (by omega) hcs hvl (fun k cs v h2 h3 => by
    obtain ⟨hlt, rfl⟩ := hvg k v h3
    obtain ⟨z, z0, _, z2, z3⟩ := hcell k cs h2
    exact ⟨z, z0, z2, z3⟩)
  have hpl := JD (es := es) (xs := xs) (off := off) (by omega)
  have hCs : (c.toList.take off ++ vs ++ c.toList.drop (off + vs.length)).toArray.size = c.size := by simp [hvl]; omega
  have hvs : (vs.toArray).toList = vs := rfl
  generalize hC : (c.toList.take off ++ vs ++ c.toList.drop (off + vs.length)).toArray = C at *
  have hmin : Nat.min xs.length len = xs.length := Nat.min_eq_left hle
  have hrun : (Builtin.copy_ #[t, t'] o.type #[.slice (some ⟨r.rb, off, none⟩) len cap, .slice (some ⟨b2, off2, none⟩) xs.length cap2]).run P w = .ok (.int .i64 (xs.length : Int)) (w.setRow r.rb C) := by
    simp only [e4', hsz] at hfc
    simp [Builtin.copy_, run_underlying e2, Builtin.lenOf, sizeOf, typeInfo, e1', e4', hsz, hmin, hfc, hst, goInt]
  have hexec : (execOp a.eval o).run P w = .ok (.value (.int .i64 (xs.length : Int))) (w.setRow r.rb C) := by
    simp only [execOp, ho, resolve, invoke, builtin, Sem.run_bind, Sem.run_pure, Result.andThen_ok, List.map_toArray, List.map_cons, List.map_nil]
    rw [hvv, hvy, hrun]
    rfl
  obtain ⟨u1, u2⟩ := hs.heap.upd (w' := w.setRow r.rb C) (o0 := .row true 1 es) (o' := .row true 1 (CI es off xs)) (r' := r) hb' rfl
    (.inr ⟨r, hl, rfl, .inl rfl⟩) (fun _ => .inr ⟨r, hl, rfl, hsol, rfl⟩)
    (fun rb hlt' hne => setRow_other w r.rb rb _ (hne r hl rfl hsol)) (by simp) (EL _ _ _) (D1 _ _ _)
    ⟨r1, r2, by rw [hpl]; exact r3, by rw [hpl]; exact r4, hrow.1, fun _ => ⟨C, TT, w1.setRow hCs, hCs.trans w2, hrow⟩⟩
  unfold Oper.wp
  rw [hexec]
  exact ⟨_, H, _, rfl, (fun x ex => by cases ex; exact .int _ _ _), u1, u2⟩
end
section
variable {P : Program} {T : Nat -> Option AC} {o : Oper} {e : Az} {h : Ab}
theorem Nd (hT : Ck P T) {t : TypeId} {x y1 y2 : Operand} {b n len lo hi : Nat} {p : Bool} {sz : Nat} {es : List (List AV)} {i j : AC} {u : Nat} {k1 k2 : IntKind} {z1 z2 : Int} (ho : o.op = .slice t x (some y1) (some y2) none) (hx : Aq e x = some (.ref b n 0 len)) (hy1 : Aq e y1 = some (.int k1 z1)) (hy2 : Aq e y2 = some (.int k2 z2)) (ht : T t = some i) (hk : i.k = .slice u) (hj : T u = some j)
    (hb : h b = some (.row p sz es)) (hn : n = es.length) (hsz : sz = j.size) (hz1 : z1 = (lo : Int)) (hz2 : z2 = (hi : Int)) (hlt : lo < hi) (hle : hi <= len) : QLoc P o e h [b] (.ref b n lo (hi - lo)) := by
  intro H ι a w s hs g1 g2
  have hx' : Aq s.env x = some (.ref b n 0 len) := by rw [g1 x (by rw [ho]; simp [Op.operands]), hx]
  have hy1' : Aq s.env y1 = some (.int k1 z1) := by rw [g1 y1 (by rw [ho]; simp [Op.operands]), hy1]
  have hy2' : Aq s.env y2 = some (.int k2 z2) := by rw [g1 y2 (by rw [ho]; simp [Op.operands]), hy2]
  have hb' : s.h b = some (.row p sz es) := by rw [g2 b (by simp), hb]
  subst hz1; subst hz2
  obtain ⟨info, d, e1, e2, e3, e4, e5, e6⟩ := An (hT _ _ ht)
  obtain ⟨info', d', e1', e2', e3', e4', e5', e6'⟩ := An (hT _ _ hj)
  have hd := A4 (P := P) (d := d) (e3 ▸ hk)
  subst hd
  have hvx := Ap hs hx'
  have hv1 := (Ap hs hy1').int_inv
  have hv2 := (Ap hs hy2').int_inv
  generalize hva : a.eval x = va at hvx
  obtain ⟨r, hl, ⟨r1, r2, r3, r4, r5, r6⟩, r7⟩ := hs.heap.obj b _ hb' rfl
  have hrun : ∀ (ad : Addr) (cap : Nat), hi <= cap -> va = .slice (some ad) len cap -> (execOp a.eval o).run P w = .ok (.value (.slice (some (ad.add (lo * j.size))) (hi - lo) (cap - lo))) w := fun ad cap hcap hv => by
    have hne : ¬ (cap = lo) := by omega
    simp only [execOp, ho, hva, hv, hv1, hv2, Instr.sliceAt, Instr.slice, Option.map_none, Option.map_some, Sem.run_bind, Au e2, Result.andThen_ok, Dc e1', e4', Sem.run_pure]
    simp [Instr.sliceBounds, Instr.sliceBound, asIntOf, hcap, hne, Nat.le_of_lt hlt]
  have hsol : r.csz ≠ 0 := fun h0 => by
    obtain ⟨hl0, _⟩ := hvx.ref_dry hl (by omega) h0 (by omega)
    omega
  obtain ⟨hlen, cap, rfl, hlc, hcap, hmax⟩ := hvx.ref_live hl (by omega) hsol
  refine ⟨_, ?_, hrun _ cap (by omega) rfl⟩
  have := Rel.refL (H := H) ι b n lo (hi - lo) (cap - lo) r hl (by omega) (by omega) (by omega) (by rw [<- hcap]; congr 1; omega) (by omega)
  have hadd : (⟨r.rb, 0 * r.sz, none⟩ : Addr).add (lo * j.size) = ⟨r.rb, lo * r.sz, none⟩ := by
    rw [r1, <- hsz]
    simp [Addr.add]
    try (intro h; exact h.symm)
  rw [hadd]
  exact this
theorem Ol (hT : Ck P T) {t : TypeId} {x y1 y2 : Operand} {b n len lo : Nat} {p : Bool} {sz : Nat} {es : List (List AV)} {i j : AC} {u : Nat} {k1 k2 : IntKind} {z1 z2 : Int} (ho : o.op = .slice t x (some y1) (some y2) none) (hx : Aq e x = some (.ref b n 0 len)) (hy1 : Aq e y1 = some (.int k1 z1)) (hy2 : Aq e y2 = some (.int k2 z2)) (ht : T t = some i) (hk : i.k = .slice u) (hj : T u = some j)
    (hb : h b = some (.row p sz es)) (hn : n = es.length) (hsz : sz = j.size) (hpos : 0 < len) (hz1 : z1 = (lo : Int)) (hz2 : z2 = (lo : Int)) (hle : lo <= len) : QLoc P o e h [b] (.lst false []) := by
  intro H ι a w s hs g1 g2
  have hx' : Aq s.env x = some (.ref b n 0 len) := by rw [g1 x (by rw [ho]; simp [Op.operands]), hx]
  have hy1' : Aq s.env y1 = some (.int k1 z1) := by rw [g1 y1 (by rw [ho]; simp [Op.operands]), hy1]
  have hy2' : Aq s.env y2 = some (.int k2 z2) := by rw [g1 y2 (by rw [ho]; simp [Op.operands]), hy2]
  have hb' : s.h b = some (.row p sz es) := by rw [g2 b (by simp), hb]
  subst hz1; subst hz2
  obtain ⟨info, d, e1, e2, e3, e4, e5, e6⟩ := An (hT _ _ ht)
  obtain ⟨info', d', e1', e2', e3', e4', e5', e6'⟩ := An (hT _ _ hj)
  have hd := A4 (P := P) (d := d) (e3 ▸ hk)
  subst hd
  have hvx := Ap hs hx'
  have hv1 := (Ap hs hy1').int_inv
  have hv2 := (Ap hs hy2').int_inv
  generalize hva : a.eval x = va at hvx
  obtain ⟨r, hl, ⟨r1, r2, r3, r4, r5, r6⟩, r7⟩ := hs.heap.obj b _ hb' rfl
  have hrun : ∀ (ad : Addr) (cap : Nat), lo <= cap -> va = .slice (some ad) len cap -> (execOp a.eval o).run P w = .ok (.value (.slice (some (if cap = lo then ad else ad.add (lo * j.size))) 0 (cap - lo))) w := fun ad cap hcap hv => by
    simp only [execOp, ho, hva, hv, hv1, hv2, Instr.sliceAt, Instr.slice, Option.map_none, Option.map_some, Sem.run_bind, Au e2, Result.andThen_ok, Dc e1', e4', Sem.run_pure]
    simp [Instr.sliceBounds, Instr.sliceBound, asIntOf, hcap]
    try (split <;> rfl)
  have hsol : r.csz ≠ 0 := fun h0 => by
    obtain ⟨hl0, _⟩ := hvx.ref_dry hl (by omega) h0 (by omega)
    omega
  obtain ⟨hlen, cap, rfl, hlc, hcap, hmax⟩ := hvx.ref_live hl (by omega) hsol
  exact ⟨_, .lst0 _ _ _ _ (fun h => by cases h) (by omega) (fun h => by cases h) trivial, hrun _ cap (by omega) rfl⟩
theorem P5 (hT : Ck P T) {t : TypeId} {x y : Operand} {cs : List AV} {i j : AC} {u N m : Nat} {k : IntKind} {z : Int} (ho : o.op = .slice t x none (some y) none) (hx : Aq e x = some (.loc cs)) (hy : Aq e y = some (.int k z)) (ht : T t = some i) (hk : i.k = .array N u) (hj : T u = some j) (hsz : j.size = 1)
    (hz : z = (m : Int)) (hpos : 0 < m) (hle : m <= N) (hN : cs.length = N) (hmax : N <= maxLen) : QLoc P o e h [] (.lst false ((cs.take m).map fun c => [c])) := by
  intro H ι a w s hs g1 g2
  have hx' : Aq s.env x = some (.loc cs) := by rw [g1 x (by rw [ho]; simp [Op.operands]), hx]
  have hy' : Aq s.env y = some (.int k z) := by rw [g1 y (by rw [ho]; simp [Op.operands]), hy]
  subst hz
  obtain ⟨info, d, e1, e2, e3, e4, e5, e6⟩ := An (hT _ _ ht)
  obtain ⟨info', d', e1', e2', e3', e4', e5', e6'⟩ := An (hT _ _ hj)
  have hd := Kj (P := P) (d := d) (e3 ▸ hk)
  subst hd
  have hvy := (Ap hs hy').int_inv
  obtain ⟨b, off, c, vals, hvx, q1, q2, q3, q4⟩ := (Ap hs hx').loc_inv
  have hrun : (execOp a.eval o).run P w = .ok (.value (.slice (some ⟨b, off, none⟩) m N)) w := by
    have h0 : ¬ (N = 0) := by omega
    simp only [execOp, ho, hvx, hvy, Instr.sliceAt, Option.map_none, Option.map_some, Sem.run_bind, Au e2, Result.andThen_ok, Dc e1', e4', Sem.run_pure]
    simp [Instr.sliceBounds, Instr.sliceBound, asIntOf, hle, h0, Instr.sureAddr, Addr.add, Dc e1']
  have hl : ((cs.take m).map fun c => [c]).length = m := by simp; omega
  have hg : ∀ (q : Nat) (ds : List AV), ((cs.take m).map fun c => [c])[q]? = some ds -> ∃ y, ds = [y] /\ cs[q]? = some y := fun q ds hq => by
    rw [List.getElem?_map, Option.map_eq_some_iff] at hq
    obtain ⟨y, y1, rfl⟩ := hq
    have hlt : q < m := by have := (List.getElem?_eq_some_iff.1 y1).1; simp at this; omega
    rw [List.getElem?_take_of_lt hlt] at y1
    exact ⟨y, rfl, y1⟩
  refine ⟨_, ?_, hrun⟩
  have := Rel.lst (H := H) ι false ((cs.take m).map fun c => [c]) b off N 1 c (fun q _ => vals q) (fun hh => by rw [hh] at hl; simp at hl; omega) q1
    (fun q ds hq => by obtain ⟨y, rfl, _⟩ := hg q ds hq; rfl)
    (fun q ds p y hq hp => by
      obtain ⟨y0, rfl, hy0⟩ := hg q ds hq
      have hp0 : p = 0 := by have := (List.getElem?_eq_some_iff.1 hp).1; simp at this; omega
      subst hp0
      simpa using q2 q y0 hy0)
    (fun q ds p y hq hp => by
      obtain ⟨y0, rfl, hy0⟩ := hg q ds hq
      have hp0 : p = 0 := by have := (List.getElem?_eq_some_iff.1 hp).1; simp at this; omega
      subst hp0
      simp at hp; subst hp
      exact q3 q _ hy0)
    (fun q ds p y hq hp => by
      obtain ⟨y0, rfl, hy0⟩ := hg q ds hq
      have hp0 : p = 0 := by have := (List.getElem?_eq_some_iff.1 hp).1; simp at this; omega
      subst hp0
      simp at hp; subst hp
      exact q4 q _ hy0) (fun h => by cases h) (by rw [hl]; exact hle) hmax
  rw [hl] at this
  exact this
end
structure ACallB (P : Program) (f : FuncId) (args : List AV) (h : Ab) (b : Bool) (R : AV -> Ab -> Prop) (E : List PanicEntry -> Ab -> Prop) : Prop where
  go : b = true -> ACall P f args h R
  stop : b = false -> ACallP P f args h E
def cu (T : Nat -> Option AC) (fn : Func) (b : Bool) (R : AV -> Ab -> Prop) (E : List PanicEntry -> Ab -> Prop) : Exit -> Al -> Prop
  | .normal, s | .ret, s => b = true /\ ∃ xs, EY T s fn.results.toList xs /\ R (HL xs) s.h
  | .panic ch, s => b = false /\ E ch s.h
  | _, _ => False
def Xd (t : TypeId) (z : Int) : List PanicEntry := [{ v := .iface t (.agg #[.int .i64 z]), recovered := false }]
section
variable {P : Program} {T : Nat -> Option AC} {o : Oper} {e : Az} {h : Ab}
theorem ACallB.of_body (hT : Ck P T) {f : FuncId} {fn : Func} {c : Code} {args : List AV} {h : Ab} {b : Bool} {R : AV -> Ab -> Prop} {E : List PanicEntry -> Ab -> Prop} (hf : P.funcs[f]? = some fn) (hb : fn.body = some c) {n : Nat} (hn : args.length + (fn.ntmps - args.length) = n)
    (hg : AGo P c ⟨n, EB args, h⟩ (cu T fn b R E)) : ACallB P f args h b R E := by
  refine ⟨fun hbt => .of_body hT hf hb hn (hg.mono fun e s hq => ?_), fun hbf => .of_body hf hb hn (hg.mono fun e s hq => ?_)⟩
  . cases e with
    | normal => exact hq.2
    | ret => exact hq.2
    | panic ch => have h1 : b = false := hq.1; rw [hbt] at h1; cases h1
    | _ => exact hq.elim
  . cases e with
    | normal => have h1 : b = true := hq.1; rw [hbf] at h1; cases h1
    | ret => have h1 : b = true := hq.1; rw [hbf] at h1; cases h1
    | panic ch => exact hq.2
    | _ => exact hq.elim
theorem ACallB.mono {f : FuncId} {args : List AV} {h : Ab} {b b' : Bool} {R R' : AV -> Ab -> Prop} {E E' : List PanicEntry -> Ab -> Prop} (hc : ACallB P f args h b R E) (hb : b = b') (hr : ∀ r h', R r h' -> R' r h') (he : ∀ ch h', E ch h' -> E' ch h') : ACallB P f args h b' R' E' :=
  ⟨fun h1 => (hc.go (hb.trans h1)).mono hr, fun h1 => (hc.stop (hb.trans h1)).mono he⟩
theorem Nf (hT : Ck P T) {t : TypeId} {x y1 y2 : Operand} {b : Nat} {sz : Nat} {p : Bool} {i j : AC} {u : Nat} {k1 k2 : IntKind} {z1 z2 : Int} (ho : o.op = .slice t x (some y1) (some y2) none) (hx : Aq e x = some (.ref b 0 0 0)) (hy1 : Aq e y1 = some (.int k1 z1)) (hy2 : Aq e y2 = some (.int k2 z2)) (ht : T t = some i) (hk : i.k = .slice u) (hj : T u = some j)
    (hb : h b = some (.row p sz [])) (hsz : sz = j.size) (hz1 : z1 = 0) (hz2 : z2 = 0) : QLoc P o e h [b] (.lst false []) := by
  intro H ι a w s hs g1 g2
  have hx' : Aq s.env x = some (.ref b 0 0 0) := by rw [g1 x (by rw [ho]; simp [Op.operands]), hx]
  have hy1' : Aq s.env y1 = some (.int k1 z1) := by rw [g1 y1 (by rw [ho]; simp [Op.operands]), hy1]
  have hy2' : Aq s.env y2 = some (.int k2 z2) := by rw [g1 y2 (by rw [ho]; simp [Op.operands]), hy2]
  have hb' : s.h b = some (.row p sz []) := by rw [g2 b (by simp), hb]
  subst hz1; subst hz2
  obtain ⟨info, d, e1, e2, e3, e4, e5, e6⟩ := An (hT _ _ ht)
  obtain ⟨info', d', e1', e2', e3', e4', e5', e6'⟩ := An (hT _ _ hj)
  have hd := A4 (P := P) (d := d) (e3 ▸ hk)
  subst hd
  have hvx := Ap hs hx'
  have hv1 := (Ap hs hy1').int_inv
  have hv2 := (Ap hs hy2').int_inv
  generalize hva : a.eval x = va at hvx
  obtain ⟨r, hl, ⟨r1, r2, r3, r4, r5, r6⟩, r7⟩ := hs.heap.obj b _ hb' rfl
  have hrn : r.n = 0 := by first | omega | (have := r2; simp at this; omega) | (have := r3; simp at this; omega)
  have key : ∃ (ad : Option Addr) (cap : Nat), va = .slice ad 0 cap /\ (ad = none -> cap = 0) /\ cap <= maxLen := by
    by_cases h0 : r.csz = 0
    . obtain ⟨_, ad, hv, _⟩ := hvx.ref_dry hl (by omega) h0 (by omega)
      exact ⟨ad, 0, hv, fun _ => rfl, Nat.zero_le _⟩
    . obtain ⟨_, cap, hv, _, _, hmax⟩ := hvx.ref_live hl (by omega) h0
      exact ⟨some _, cap, hv, (fun h => by cases h), hmax⟩
  obtain ⟨ad, cap, rfl, k1, k2⟩ := key
  have hrun : (execOp a.eval o).run P w = .ok (.value (.slice ad 0 cap)) w := by
    simp only [execOp, ho, hva, hv1, hv2, Instr.sliceAt, Instr.slice, Option.map_none, Option.map_some, Sem.run_bind, Au e2, Result.andThen_ok, Dc e1', e4', Sem.run_pure]
    cases ad with
    | none =>
      have := k1 rfl
      subst this
      simp [Instr.sliceBounds, Instr.sliceBound, asIntOf]
    | some ad =>
      by_cases hc : cap = 0 <;> simp [Instr.sliceBounds, Instr.sliceBound, asIntOf, hc, Addr.add]
  exact ⟨_, .lst0 _ _ _ _ (fun h => by cases h) k2 k1 trivial, hrun⟩
theorem Om (hT : Ck P T) {t : TypeId} {x y : Operand} {cs : List AV} {i j : AC} {u N : Nat} {k : IntKind} {z : Int} (ho : o.op = .slice t x none (some y) none) (hx : Aq e x = some (.loc cs)) (hy : Aq e y = some (.int k z)) (ht : T t = some i) (hk : i.k = .array N u) (hj : T u = some j)
    (hz : z = 0) (hmax : N <= maxLen) : QLoc P o e h [] (.lst false []) := by
  intro H ι a w s hs g1 g2
  have hx' : Aq s.env x = some (.loc cs) := by rw [g1 x (by rw [ho]; simp [Op.operands]), hx]
  have hy' : Aq s.env y = some (.int k z) := by rw [g1 y (by rw [ho]; simp [Op.operands]), hy]
  subst hz
  obtain ⟨info, d, e1, e2, e3, e4, e5, e6⟩ := An (hT _ _ ht)
  obtain ⟨info', d', e1', e2', e3', e4', e5', e6'⟩ := An (hT _ _ hj)
  have hd := Kj (P := P) (d := d) (e3 ▸ hk)
  subst hd
  have hvy := (Ap hs hy').int_inv
  obtain ⟨b, off, c, vals, hvx, q1, q2, q3, q4⟩ := (Ap hs hx').loc_inv
  have hrun : ∃ ad, (execOp a.eval o).run P w = .ok (.value (.slice (some ad) 0 N)) w := by
    simp only [execOp, ho, hvx, hvy, Instr.sliceAt, Option.map_none, Option.map_some, Sem.run_bind, Au e2, Result.andThen_ok, Dc e1', e4', Sem.run_pure]
    by_cases h0 : N = 0
    . exact ⟨⟨b, off, none⟩, by simp [Instr.sliceBounds, Instr.sliceBound, asIntOf, h0, Instr.sureAddr, Addr.add, Dc e1']⟩
    . exact ⟨⟨b, off, none⟩, by simp [Instr.sliceBounds, Instr.sliceBound, asIntOf, h0, Instr.sureAddr, Addr.add, Dc e1']⟩
  obtain ⟨ad, hrun⟩ := hrun
  exact ⟨_, .lst0 _ _ _ _ (fun h => by cases h) hmax (fun h => by cases h) trivial, hrun⟩
theorem Ww {H : AB} {ι : A2} {b n off len : Nat} {v : Value} (h : Rel H ι (.ref b n off len) v) : ∃ (ad : Option Addr) (cap : Nat), v = .slice ad len cap := by
  cases h <;> exact ⟨_, _, rfl⟩
theorem WI (hT : Ck P T) {t t' : TypeId} {x y : Operand} {i j : AC} {u : Nat} {ex : Bool} {r : AV} (ho : o.op = .call { callee := .builtin .copy, args := #[x, y], argTypes := #[t, t'] }) (hx : Aq e x = some r) (hr : (∃ ex, r = .lst ex []) \/ ∃ b n off len, r = .ref b n off len) (hy : Aq e y = some (.lst ex [])) (ht : T t = some i) (hk : i.k = .slice u) (hj : T u = some j) : OLoc P o e h [] [] (some (.int .i64 0)) := by
  intro H ι a w s Q hs g1 g2
  have hx' : Aq s.env x = some r := by rw [g1 x FB, hx]
  have hy' : Aq s.env y = some (.lst ex []) := by rw [g1 y FB, hy]
  obtain ⟨info, d, e1, e2, e3, e4, e5, e6⟩ := An (hT _ _ ht)
  obtain ⟨info', d', e1', e2', e3', e4', e5', e6'⟩ := An (hT _ _ hj)
  have hd := A4 (P := P) (d := d) (e3 ▸ hk)
  subst hd
  obtain ⟨ad2, cap2, hv2⟩ := (Ap hs hy').lst_len
  have key : ∃ (ad : Option Addr) (len cap : Nat), a.eval x = .slice ad len cap := by
    rcases hr with ⟨ex, rfl⟩ | ⟨b, n, off, len, rfl⟩
    . obtain ⟨ad, cap, hv⟩ := (Ap hs hx').lst_len
      exact ⟨ad, 0, cap, hv⟩
    . obtain ⟨ad, cap, hv⟩ := Ww (Ap hs hx')
      exact ⟨ad, len, cap, hv⟩
  obtain ⟨ad, len, cap, hv⟩ := key
  have hl0 : ∀ p, (loadCells p 0).run P w = .ok #[] w := fun p => by simp [loadCells, loadCellsFrom]
  have hs0 : ∀ p, (storeCells p []).run P w = .ok () w := fun p => rfl
  have hrun : (Builtin.copy_ #[t, t'] o.type #[.slice ad len cap, .slice ad2 0 cap2]).run P w = .ok (.int .i64 0) w := by
    have hfc : (Builtin.firstCells info'.size 0 (.slice ad2 0 cap2)).run P w = .ok #[] w := by
      cases ad2 <;> simp [Builtin.firstCells, hl0]
    cases ad <;> simp [Builtin.copy_, run_underlying e2, Builtin.lenOf, sizeOf, typeInfo, e1', hfc, goInt, hs0]
  have hexec : (execOp a.eval o).run P w = .ok (.value (.int .i64 0)) w := by
    simp only [execOp, ho, resolve, invoke, builtin, Sem.run_bind, Sem.run_pure, Result.andThen_ok, List.map_toArray, List.map_cons, List.map_nil]
    rw [hv, show a.eval y = .slice ad2 0 cap2 from hv2, hrun]
    rfl
  unfold Oper.wp
  rw [hexec]
  exact ⟨_, H, ι, rfl, (fun x ex => by cases ex; exact .int _ _ _), hs.heap, Step.refl _ _ _ _⟩
end
def Ex (C : Core) (s : ByteArray) (fuel : Int) (c : CM) : List AV :=
  [.lst false (C.funcs.map CFn.cells), .ref 1 C.words.toNat 0 C.words.toNat, .str s, .int .i64 (c.m.read : Int), .ref 2 c.m.out.length 0 c.m.out.length, .int .i64 (c.m.steps : Int), .int .i64 fuel]
abbrev EC (h : Ab) (C : Core) (s : ByteArray) (fuel : Int) (c : CM) : Ab :=
  hput (hput (hput h 0 (.row false 7 [Ex C s fuel c])) 1 (.row true 1 (Ac c.m.words))) 2 (.row true 1 (As c.m.out))
section
variable {P : Program} {o : Oper} {e : Az} {h : Ab} {C : Core} {s : ByteArray} {fuel : Int} {c c2 : CM}
theorem DY {f : FuncId} {fn : Func} {args : Array Operand} {tys : Array TypeId} {xs : List AV} {b : Bool} {r0 : AV} {E : List PanicEntry -> Ab -> Prop}
    (hc : ACallB P f xs (EC hNew C s fuel c) b (fun r h' => r = r0 /\ HSub (EC hNone C s fuel c2) h') E) (hb : b = true) (hf : P.funcs[f]? = some fn) (hn : (fn.name == "runtime.NumGoroutine") = false := by kernel_rfl)
    (ho : o.op = .call { callee := .value (.func f), args := args, argTypes := tys } := by exact rfl) (hbd : fn.body.isSome = true := by exact rfl) (hx : Ba e args.toList = some xs := by exact rfl) (hxa : xs.all (AV.avoid (mem [2, 1, 0])) = true := by exact rfl)
    (h0 : h 0 = some (.row false 7 [Ex C s fuel c]) := by exact rfl) (h1 : h 1 = some (.row true 1 (Ac c.m.words)) := by exact rfl) (h2 : h 2 = some (.row true 1 (As c.m.out)) := by exact rfl) (hra : r0.avoid (mem [2, 1, 0]) = true := by exact rfl) :
    OLoc P o e h [2, 1, 0] [(0, .row false 7 [Ex C s fuel c2]), (1, .row true 1 (Ac c2.m.words)), (2, .row true 1 (As c2.m.out))] (some r0) :=
  Nj (hc := EC hNew C s fuel c) (hw := EC hNone C s fuel c2) [2, 1, 0] [(0, .row false 7 [Ex C s fuel c2]), (1, .row true 1 (Ac c2.m.words)), (2, .row true 1 (As c2.m.out))] ho hf hn hbd hx hxa
    ⟨⟨_, h2, rfl⟩, ⟨_, h1, rfl⟩, ⟨_, h0, rfl⟩, trivial⟩ rfl (AX h2 (AX h1 (AX h0 (Dt _)))) ⟨⟨_, rfl, rfl, rfl⟩, ⟨_, rfl, rfl, rfl⟩, ⟨_, rfl, rfl, rfl⟩, trivial⟩ hra (hc.go hb)
theorem XN {f : FuncId} {fn : Func} {args : Array Operand} {tys : Array TypeId} {xs : List AV} {b : Bool} {r0 : AV} {E : List PanicEntry -> Ab -> Prop}
    (hc : ACallB P f xs (EC hNew C s fuel c) b (fun r h' => r = r0 /\ HSub (EC hNone C s fuel c) h') E) (hb : b = true) (hf : P.funcs[f]? = some fn) (hn : (fn.name == "runtime.NumGoroutine") = false := by kernel_rfl)
    (ho : o.op = .call { callee := .value (.func f), args := args, argTypes := tys } := by exact rfl) (hbd : fn.body.isSome = true := by exact rfl) (hx : Ba e args.toList = some xs := by exact rfl) (hxa : xs.all (AV.avoid (mem [2, 1, 0])) = true := by exact rfl)
    (h0 : h 0 = some (.row false 7 [Ex C s fuel c]) := by exact rfl) (h1 : h 1 = some (.row true 1 (Ac c.m.words)) := by exact rfl) (h2 : h 2 = some (.row true 1 (As c.m.out)) := by exact rfl) (hra : r0.avoid (mem [2, 1, 0]) = true := by exact rfl) :
    OLoc P o e h [2, 1, 0] [] (some r0) :=
  Nj (hc := EC hNew C s fuel c) (hw := EC hNone C s fuel c) [2, 1, 0] [] ho hf hn hbd hx hxa
    ⟨⟨_, h2, rfl⟩, ⟨_, h1, rfl⟩, ⟨_, h0, rfl⟩, trivial⟩ rfl (AX h2 (AX h1 (AX h0 (Dt _)))) ⟨⟨_, rfl, h2, rfl⟩, ⟨_, rfl, h1, rfl⟩, ⟨_, rfl, h0, rfl⟩, trivial⟩ hra (hc.go hb)
theorem B5 {f : FuncId} {fn : Func} {args : Array Operand} {tys : Array TypeId} {xs : List AV} {b : Bool} {t : TypeId} {z : Int} {R : AV -> Ab -> Prop}
    (hc : ACallB P f xs (EC hNew C s fuel c) b R (fun ch h' => ch = Xd t z /\ HSub (EC hNone C s fuel c2) h')) (hb : b = false) (hf : P.funcs[f]? = some fn) (hn : (fn.name == "runtime.NumGoroutine") = false := by kernel_rfl)
    (ho : o.op = .call { callee := .value (.func f), args := args, argTypes := tys } := by exact rfl) (hbd : fn.body.isSome = true := by exact rfl) (hx : Ba e args.toList = some xs := by exact rfl) (hxa : xs.all (AV.avoid (mem [2, 1, 0])) = true := by exact rfl)
    (h0 : h 0 = some (.row false 7 [Ex C s fuel c]) := by exact rfl) (h1 : h 1 = some (.row true 1 (Ac c.m.words)) := by exact rfl) (h2 : h 2 = some (.row true 1 (As c.m.out)) := by exact rfl) :
    GX P o e h [2, 1, 0] [(0, .row false 7 [Ex C s fuel c2]), (1, .row true 1 (Ac c2.m.words)), (2, .row true 1 (As c2.m.out))] (fun ch => ch = Xd t z) :=
  WJ (hc := EC hNew C s fuel c) (hw := EC hNone C s fuel c2) (hc.stop hb) [2, 1, 0] [(0, .row false 7 [Ex C s fuel c2]), (1, .row true 1 (Ac c2.m.words)), (2, .row true 1 (As c2.m.out))] ho hf hn hbd hx hxa
    ⟨⟨_, h2, rfl⟩, ⟨_, h1, rfl⟩, ⟨_, h0, rfl⟩, trivial⟩ rfl (AX h2 (AX h1 (AX h0 (Dt _)))) ⟨⟨_, rfl, rfl, rfl⟩, ⟨_, rfl, rfl, rfl⟩, ⟨_, rfl, rfl, rfl⟩, trivial⟩
end
section
variable {P : Program} {T : Nat -> Option AC} {ops : Array Oper} {n : Nat} {e : Az} {h : Ab} {E : List PanicEntry -> Al -> Prop} {o : Oper} {rest : List Oper} {R : List Nat} {W : List (Nat × AObj)} {r : AV}
theorem zq (d : Nat) (hq : QLoc P o e h R r) (hr : AOpsE P ops rest ⟨n, Ad e d r, h⟩ E) (hd : o.dst = some d := by exact rfl) (hb : Nat.blt d n = true := by exact rfl) (hg : Ay ops o e = some true := by exact rfl) : AOpsE P ops (o :: rest) ⟨n, e, h⟩ E := AOpsE.s d hd hb hg hq hr
theorem zx (d : Nat) (hq : OLoc P o e h R W (some r)) (hr : AOpsE P ops rest ⟨n, Ad e d r, hputs h W⟩ E) (hd : o.dst = some d := by exact rfl) (hb : Nat.blt d n = true := by exact rfl) (hg : Ay ops o e = some true := by exact rfl) : AOpsE P ops (o :: rest) ⟨n, e, h⟩ E := AOpsE.x d hd hb hg hq hr
theorem zm (d : Nat) {x : Operand} (hr : AOpsE P ops rest ⟨n, Ad e d r, h⟩ E) (hd : o.dst = some d := by exact rfl) (hb : Nat.blt d n = true := by exact rfl) (hg : Ay ops o e = some true := by exact rfl) (ho : o.op = .move x := by exact rfl) (hx : Aq e x = some r := by exact rfl) : AOpsE P ops (o :: rest) ⟨n, e, h⟩ E := AOpsE.s d hd hb hg (F5 (.inl ho) hx) hr
theorem zp {E0 : List PanicEntry -> Prop} (hq : GX P o e h R W E0) (hr : ∀ ch, E0 ch -> E ch ⟨n, e, hputs h W⟩) (hg : Ay ops o e = some true := by exact rfl) : AOpsE P ops (o :: rest) ⟨n, e, h⟩ E := Xv hg hq hr
end
section
variable {P : Program} {n : Nat} {h : Ab}
def QX (P : Program) (n : Nat) (h : Ab) (l : List Oper) (pat : List Bool) (e : Az) (K : Az -> Prop) : Prop := ∃ es vs, QOps P n h l pat e es vs /\ K es
theorem xq (d : Nat) {o : Oper} {l : List Oper} {ps : List Bool} {e : Az} {K : Az -> Prop} {R : List Nat} {r : AV} (hq : QLoc P o e h R r) (hr : QX P n h l ps (Ad e d r) K) (hd : o.dst = some d := by exact rfl) (hb : Nat.blt d n = true := by exact rfl) (hg : o.guard = none := by exact rfl) : QX P n h (o :: l) (true :: ps) e K := by
  obtain ⟨es, vs, h1, h2⟩ := hr
  exact ⟨es, _, pq d hq h1 hd hb hg, h2⟩
theorem xm (d : Nat) {o : Oper} {l : List Oper} {ps : List Bool} {e : Az} {K : Az -> Prop} {r : AV} {x : Operand} (hr : QX P n h l ps (Ad e d r) K) (hd : o.dst = some d := by exact rfl) (hb : Nat.blt d n = true := by exact rfl) (hg : o.guard = none := by exact rfl) (ho : o.op = .move x := by exact rfl) (hx : Aq e x = some r := by exact rfl) : QX P n h (o :: l) (true :: ps) e K := xq d (F5 (.inl ho) hx) hr hd hb hg
theorem xn {o : Oper} {l : List Oper} {ps : List Bool} {e : Az} {K : Az -> Prop} (hr : QX P n h l ps e K) : QX P n h (o :: l) (false :: ps) e K := by
  obtain ⟨es, vs, h1, h2⟩ := hr
  exact ⟨es, _, pn h1, h2⟩
theorem R7 {e : Az} {K : Az -> Prop} (hk : K e) : QX P n h [] [] e K := ⟨e, [], ⟨rfl, rfl⟩, hk⟩
theorem AGo.drawX {ops : Array Oper} {id : Nat} {Q : Exit -> Al -> Prop} {e : Az} {om : Oper} (m : Nat) (pat : List Bool) (hm : P.follows .mixedOrders = true) (hchk : VB ops m pat = true) (hpm : (pat[m]?).getD false = false) (hom : ops[m]? = some om) (hg : om.guard = none)
    (hx : QX P n h ops.toList pat e fun es => ∃ R W E0, GX P om es h R W E0 /\ ∀ ch e', E0 ch -> Q (.panic ch) ⟨n, e', hputs h W⟩) : AGo P (.region id ops true) ⟨n, e, h⟩ Q := by
  obtain ⟨es, vs, h1, R, W, E0, h2, h3⟩ := hx
  exact TQ m pat hm hchk hpm h1 hom hg h2 h3
end
theorem bne_t {a : Int} (h : (a == 0) = true) : (a != 0) = false := by simpa using h
theorem JV {a : Int} (h : (a == 0) = false) : (a != 0) = true := by simpa using h
def LW (s : ByteArray) (c : CM) : Int × CM := bif decide (c.m.read < s.size) then (((inAt s c.m.read).toNat : Int), c.put { c.m with read := c.m.read + 1 }) else (256, c)
def Xq (z i : Int) (c : CM) : CM := bif decide (i >= z) then c.put { c.m with fin := 3 } else c
def LU (x : Int) (c : CM) : CM := bif decide (c.m.out.length >= 65536) then c.put { c.m with fin := 4 } else c.put { c.m with out := c.m.out ++ [byteOf x] }
theorem W1 {cl : BD} {s : ByteArray} {c : CM} {e : CE} (hk : e.kind = 5) : e.ev cl s c = LW s c := by
  unfold LW
  by_cases h : c.m.read < s.size
  . rw [YQ hk h, decide_eq_true h]; rfl
  . rw [YP hk h, decide_eq_false h]; rfl
theorem OQ {s : ByteArray} {c : CM} (h0 : c.m.fin = 0) : ((LW s c).2.m.fin == 0) = true := by
  unfold LW
  cases decide (c.m.read < s.size) <;> exact beq_iff_eq.2 h0
theorem G3 {fuel : Int} {c : CM} (h0 : c.m.fin = 0) : ((AD fuel c).2.m.fin == 0) = (AD fuel c).1 := by
  unfold AD AG
  cases decide ((c.m.steps : Int) >= fuel)
  . exact beq_iff_eq.2 h0
  . rfl
abbrev Es (P : Program) (C : Core) (s : ByteArray) (fuel : Int) (f : FuncId) (xs : List AV) (c : CM) (r0 : AV) (c2 : CM) : Prop :=
  ACallB P f (.ptr 0 1 0 0 :: xs) (EC hNew C s fuel c) (c2.m.fin == 0) (fun r h' => r = r0 /\ HSub (EC hNone C s fuel c2) h') (fun ch h' => ch = Xd 87 c2.m.fin /\ HSub (EC hNone C s fuel c2) h')
def vo (c : CM) : AV := .tup [.int .u32 (bif c.over then c.val else 0), .bool c.over]
theorem hsub3 {h : Ab} {o0 o1 o2 : AObj} (h0 : h 0 = some o0 := by exact rfl) (h1 : h 1 = some o1 := by exact rfl) (h2 : h 2 = some o2 := by exact rfl) : HSub (hput (hput (hput hNone 0 o0) 1 o1) 2 o2) h := HSub.put (HSub.put (HSub.put (HSub.none _) h0) h1) h2
section
variable {cl : BD} {s : ByteArray} {c : CM} {e x y : CE}
theorem bU (h : e.kind = 8 \/ e.kind = 9) (hx : e.kids[0]? = some x) (hf : ((x.ev cl s c).2.m.fin == 0) = true) (hz : (((x.ev cl s c).1 != 0) == (e.kind == 9)) = true) : e.ev cl s c = (zf ((x.ev cl s c).1 != 0), (x.ev cl s c).2) := by
  have hf' : ((x.ev cl s c).2.m.fin != 0) = false := by simpa using hf
  rcases h with h | h
  . have hK : eK e := ⟨by omega, by omega, by omega, by omega, by omega⟩
    rw [h] at hz
    have hz2 : ((x.ev cl s c).1 == 0) = true := by
      cases e2 : ((x.ev cl s c).1 == 0) with
      | true => rfl
      | false => rw [show ((x.ev cl s c).1 != 0) = true by simpa using e2] at hz; cases hz
    rw [ca hK hx hf' h hz2, show ((x.ev cl s c).1 != 0) = false by simpa using hz2]; rfl
  . have hK : eK e := ⟨by omega, by omega, by omega, by omega, by omega⟩
    rw [h] at hz
    have hz2 : ((x.ev cl s c).1 != 0) = true := by
      cases e2 : ((x.ev cl s c).1 != 0) with
      | true => rfl
      | false => rw [e2] at hz; cases hz
    rw [bZ hK hx hf' h hz2, hz2]; rfl
theorem XR (h : e.kind = 8 \/ e.kind = 9) (hx : e.kids[0]? = some x) (hy : e.kids[1]? = some y) (hf : ((x.ev cl s c).2.m.fin == 0) = true) (hz : (((x.ev cl s c).1 != 0) == (e.kind == 9)) = false) : e.ev cl s c = (zf ((y.ev cl s (x.ev cl s c).2).1 != 0), (y.ev cl s (x.ev cl s c).2).2) := by
  have hf' : ((x.ev cl s c).2.m.fin != 0) = false := by simpa using hf
  rcases h with h | h
  . have hK : eK e := ⟨by omega, by omega, by omega, by omega, by omega⟩
    rw [h] at hz
    have hz2 : ((x.ev cl s c).1 == 0) = false := by
      cases e2 : ((x.ev cl s c).1 == 0) with
      | false => rfl
      | true => rw [show ((x.ev cl s c).1 != 0) = false by simpa using e2] at hz; cases hz
    exact b9 hK hx hy hf' h hz2
  . have hK : eK e := ⟨by omega, by omega, by omega, by omega, by omega⟩
    rw [h] at hz
    have hz2 : ((x.ev cl s c).1 != 0) = false := by
      cases e2 : ((x.ev cl s c).1 != 0) with
      | false => rfl
      | true => rw [e2] at hz; cases hz
    exact bY hK hx hy hf' h hz2
end
def Ff (call : BD) : Prop := ∀ f args c, c.over = false -> (call f args c).2.over = false
section
variable {call : BD} {s : ByteArray}
def TO (call : BD) (s : ByteArray) (e : CE) : Prop := ∀ c, c.over = false -> (e.ev call s c).2.over = false
theorem Y3 {sl z : Int} {l : List CE} (hI : ∀ e ∈ l, TO call s e) (c : CM) (hc : c.over = false) : (Dn call s sl z l c).2.over = false := by
  cases l with
  | nil => rw [Dn]; exact hc
  | cons e l =>
    rw [Dn]
    have h := hI e (List.mem_cons.2 (.inl rfl)) c hc
    exact X9
theorem Qy (hcall : Ff call) {f : Int} : ∀ {l : List CE}, (∀ e ∈ l, TO call s e) -> ∀ (args : List Int) (c : CM), c.over = false -> (A5 call s f l args c).2.over = false
  | [], _, args, c, hc => by rw [A5]; exact hcall _ _ _ hc
  | e :: l, hI, args, c, hc => by
    rw [A5]
    have h := hI e (List.mem_cons.2 (.inl rfl)) c hc
    generalize e.ev call s c = p at h |-
    obtain ⟨x, c1⟩ := p
    dsimp only at h |-
    cases c1.fin == 0 with
    | false => exact h
    | true => exact Qy hcall (fun e he => hI e (List.mem_cons.2 (.inr he))) _ c1 h
theorem YX {k o : Int} {l : List CE} (hI : ∀ e ∈ l, TO call s e) (x : Int) (c : CM) (hc : c.over = false) : (Cm call s k o l x c).2.over = false := by
  cases l with
  | nil => rw [Cm]; exact hc
  | cons e l =>
    rw [Cm]
    have h := hI e (List.mem_cons.2 (.inl rfl)) c hc
    exact Yc
theorem Y0 {k o : Int} {l : List CE} (hI : ∀ e ∈ l, TO call s e) (c : CM) (hc : c.over = false) : (Cs call s k o l c).2.over = false := by
  cases l with
  | nil => rw [Cs]; exact hc
  | cons e l =>
    rw [Cs]
    have h := hI e (List.mem_cons.2 (.inl rfl)) c hc
    generalize e.ev call s c = p at h |-
    obtain ⟨x, c1⟩ := p
    dsimp only at h |-
    cases c1.fin == 0 with
    | false => exact h
    | true =>
      cases k == 7 with
      | true => exact h
      | false =>
        cases (k == 8 && x == 0) with
        | true => exact h
        | false =>
          cases (k == 9 && !(x == 0)) with
          | true => exact h
          | false => exact YX (fun e he => hI e (List.mem_cons.2 (.inr he))) x c1 h
theorem Vl (hcall : Ff call) : ∀ (m : Nat) (e : CE), e.parts <= m -> TO call s e
  | 0, e, hm => by cases e; rw [CE.parts] at hm; omega
  | m + 1, .mk k o n sl z kids, hm => by
    rw [CE.parts] at hm
    have hI : ∀ e ∈ kids, TO call s e := fun e he => Vl hcall m e (by have := AW he; omega)
    intro c hc
    rw [CE.ev]
    by_cases k1 : k = 1
    . rw [if_pos k1]; exact hc
    rw [if_neg k1]
    by_cases k2 : k = 2
    . rw [if_pos k2]; exact hc
    rw [if_neg k2]
    by_cases k3 : k = 3
    . rw [if_pos k3]; exact Y3 hI c hc
    rw [if_neg k3]
    by_cases k4 : k = 4
    . rw [if_pos k4]; exact Qy hcall hI [] c hc
    rw [if_neg k4]
    by_cases k5 : k = 5
    . rw [if_pos k5]
      cases decide (c.m.read < s.size) <;> exact hc
    rw [if_neg k5]
    exact Y0 hI c hc
end
theorem Nz {C : Core} {s : ByteArray} {fuel : Int} : ∀ n, Ff (BX C s fuel n)
  | 0 => fun f args c hc => hc
  | n + 1 => fun f args c hc => by
    rw [BX]
    cases (AD fuel c).1 with
    | false => exact hc
    | true =>
      simp only [cond_true]
      cases e : C.funcs[f.toNat]? with
      | none => exact hc
      | some g =>
        dsimp only
        generalize Ao (BX C s fuel n) s fuel g.body _ = c1
        cases h : c1.over
        . exact h
        . rfl
theorem O5 {C : Core} {s : ByteArray} {fuel : Int} {c : CM} {m : Nat} {f : Int} {args : List Int} {g : CFn} (ht : (AD fuel c).1 = true) (hg : C.funcs[f.toNat]? = some g) : BX C s fuel (m + 1) f args c = (bif (Ao (BX C s fuel m) s fuel g.body (GW g args (AD fuel c).2 args.length)).over then (Ao (BX C s fuel m) s fuel g.body (GW g args (AD fuel c).2 args.length)).val else 0, { Ao (BX C s fuel m) s fuel g.body (GW g args (AD fuel c).2 args.length) with over := false }) := by
  rw [VC ht hg]
  generalize Ao (BX C s fuel m) s fuel g.body (GW g args (AD fuel c).2 args.length) = c1
  obtain ⟨m1, o1, v1⟩ := c1
  cases o1 <;> rfl
def Pk (l : List Int) : List AV := [.int .u32 (rget l 0), .int .u32 (rget l 1), .int .u32 (rget l 2), .int .u32 (rget l 3), .int .u32 (rget l 4), .int .u32 (rget l 5)]
theorem TB {l : List Int} {v : Int} {o : Nat} (h : l.length < 6) (ho : o = l.length) : Dl (Pk l) o [.int .u32 v] = Pk (l ++ [v]) := by
  subst ho
  match l, h with
  | [], _ => rfl
  | [a], _ => rfl
  | [a, b], _ => rfl
  | [a, b, c], _ => rfl
  | [a, b, c, d], _ => rfl
  | [a, b, c, d, e], _ => rfl
  | a :: b :: c :: d :: e :: f :: r, h => simp at h; omega
theorem TA {l : List Int} (h : l.length <= 6) : ((Pk l).take l.length).map (fun c => [c]) = Ac l := by
  match l, h with
  | [], _ => rfl
  | [a], _ => rfl
  | [a, b], _ => rfl
  | [a, b, c], _ => rfl
  | [a, b, c, d], _ => rfl
  | [a, b, c, d, e], _ => rfl
  | [a, b, c, d, e, f], _ => rfl
  | a :: b :: c :: d :: e :: f :: g :: r, h => simp at h
theorem zero_part {w : List Int} {a : Int} {n : Nat} (ha : 0 <= a) (h : a.toNat + n <= w.length) : CI (Ac w) a.toNat (List.replicate n [AV.int .u32 0]) = Ac (A8 w a n) := by
  apply List.ext_getElem?
  intro j
  rw [CI, J4 (by rw [regCells_len, List.length_replicate]; exact h), List.length_replicate, Ac, Ac, List.getElem?_map, List.getElem?_map, GY ha]
  by_cases h1 : j < a.toNat
  . rw [if_pos h1, if_neg (by omega)]
  . rw [if_neg h1]
    by_cases h2 : j < a.toNat + n
    . rw [if_pos h2, if_pos (by omega), List.getElem?_replicate, if_pos (by omega)]; rfl
    . rw [if_neg h2, if_neg (by omega)]
theorem TC {w : List Int} {a : Int} {l : List Int} (ha : 0 <= a) (h : a.toNat + l.length <= w.length) : CI (Ac w) a.toNat (Ac l) = Ac (CB w a l l.length) := by
  apply List.ext_getElem?
  intro j
  rw [CI, J4 (by rw [regCells_len, regCells_len]; exact h), regCells_len, Ac, Ac, Ac, List.getElem?_map, List.getElem?_map, List.getElem?_map, Hm ha]
  by_cases h1 : j < a.toNat
  . rw [if_pos h1, if_neg (by omega)]
  . rw [if_neg h1]
    by_cases h2 : j < a.toNat + l.length
    . obtain ⟨v, hv⟩ := At (l := l) (k := j - a.toNat) (by omega)
      rw [if_pos h2, if_pos (by omega), hv, rget, show ((j : Int) - a).toNat = j - a.toNat by omega, hv]; rfl
    . rw [if_neg h2, if_neg (by omega)]
section
variable {P : Program} {T : Nat -> Option AC} {o : Oper} {e : Az} {h : Ab}
theorem o_clearW (hT : Ck P T) {t : TypeId} {x : Operand} {i j : AC} {u b : Nat} {w : List Int} {a : Int} {n len : Nat} (ha : 0 <= a) (hpos : 0 < n) (hle : a.toNat + n <= w.length) (hlen : len = w.length) (ho : o.op = .call { callee := .builtin .clear, args := #[x], argTypes := #[t] } := by exact rfl) (hx : Aq e x = some (.ref b len a.toNat n) := by exact rfl) (ht : T t = some i := by exact rfl) (hk : i.k = .slice u := by exact rfl) (hj : T u = some j := by exact rfl)
    (hb : h b = some (.row true 1 (Ac w)) := by exact rfl) (hz : j.zero = [.int .u32 0] := by exact rfl) (hsz : j.size = 1 := by exact rfl) : OLoc P o e h [b] [(b, .row true 1 (Ac (A8 w a n)))] (some (.tup [])) := by
  rw [<- zero_part ha hle]
  exact SC hT ho hx ht hk hj hb (by rw [regCells_len]; exact hlen) (by rw [regCells_len]; exact hle) hpos hz hsz rfl rfl
theorem o_copyW (hT : Ck P T) {t t' : TypeId} {x y : Operand} {i j : AC} {u b : Nat} {w l : List Int} {a : Int} {n len : Nat} (ha : 0 <= a) (hpos : 0 < l.length) (hl6 : l.length <= 6) (hln : l.length <= n) (hle : a.toNat + n <= w.length) (hlen : len = w.length) (ho : o.op = .call { callee := .builtin .copy, args := #[x, y], argTypes := #[t, t'] } := by exact rfl) (hx : Aq e x = some (.ref b len a.toNat n) := by exact rfl) (hy : Aq e y = some (.lst false (((Pk l).take l.length).map fun c => [c])) := by exact rfl) (ht : T t = some i := by exact rfl) (hk : i.k = .slice u := by exact rfl) (hj : T u = some j := by exact rfl)
    (hb : h b = some (.row true 1 (Ac w)) := by exact rfl) (hsz : j.size = 1 := by exact rfl) : OLoc P o e h [b] [(b, .row true 1 (Ac (CB w a l l.length)))] (some (.int .i64 (l.length : Int))) := by
  rw [<- TC ha (by omega)]
  rw [TA hl6] at hy
  have := UJ (xs := Ac l) hT ho hx hy ht hk hj hb (by rw [regCells_len]; exact hlen) (by rw [regCells_len]; exact hle) (by rw [regCells_len]; exact hpos) (by rw [regCells_len]; exact hln) hsz (fun cs hc => by simp [Ac] at hc; obtain ⟨z, _, rfl⟩ := hc; rfl) (fun cs hc => by simp [Ac] at hc; obtain ⟨z, _, rfl⟩ := hc; rfl)
  rwa [regCells_len] at this
theorem q_sliceN (hT : Ck P T) {t : TypeId} {x y1 y2 : Operand} {b n lo : Nat} {sz : Nat} {p : Bool} {es : List (List AV)} {i j : AC} {u : Nat} {k1 k2 : IntKind} {z1 z2 : Int} (hz1 : z1 = (lo : Int)) (hz2 : z2 = (lo : Int)) (hle : lo <= n) (hn : n = es.length) (ho : o.op = .slice t x (some y1) (some y2) none := by exact rfl) (hx : Aq e x = some (.ref b n 0 n) := by exact rfl) (hy1 : Aq e y1 = some (.int k1 z1) := by exact rfl) (hy2 : Aq e y2 = some (.int k2 z2) := by exact rfl) (ht : T t = some i := by exact rfl) (hk : i.k = .slice u := by exact rfl) (hj : T u = some j := by exact rfl)
    (hb : h b = some (.row p sz es) := by exact rfl) (hsz : sz = j.size := by exact rfl) : QLoc P o e h [b] (.lst false []) := by
  rcases Nat.eq_zero_or_pos n with h0 | h0
  . subst h0
    have : es = [] := List.eq_nil_of_length_eq_zero hn.symm
    subst this
    exact Nf hT ho hx hy1 hy2 ht hk hj hb hsz (by omega) (by omega)
  . exact Ol hT ho hx hy1 hy2 ht hk hj hb hn hsz h0 hz1 hz2 hle
end
section
variable {I : Ab -> Prop} {P : Program} {ops : Array Oper} {n : Nat} {o : Oper} {rest : List Oper} {e : Az} {h : Ab} {acc : List (List Nat × List Nat)} {K : Al -> Prop}
theorem ff (hc : V3 ops acc = true) (hk : K ⟨n, e, h⟩) : DOpsI I P ops n [] e h acc K := ⟨[], e, h, ⟨rfl, rfl⟩, by simpa using hc, hk⟩
theorem DOpsI.step {R : List Nat} {W : List (Nat × AObj)} {r : Option AV} (hg : Ay ops o e = some true) (ho : VW I P o e h R W r) (hW : ∀ h, I h -> I (hputs h W)) (hd : ∀ t, o.dst = some t -> t < n) (hr : DOpsI I P ops n rest (Em e o.dst r) (hputs h W) (acc ++ [(R, W.map (·.1))]) K) :
    DOpsI I P ops n (o :: rest) e h acc K := by
  obtain ⟨cs, e', h', h1, h2, h3⟩ := hr
  exact ⟨⟨e, h, true, R, W, r⟩ :: cs, e', h', ⟨rfl, rfl, ⟨hg, hd, fun _ => ⟨ho, hW⟩, fun h => by cases h⟩, h1⟩, by simpa [OpRec.sets] using h2, h3⟩
theorem OLoc.toI {R : List Nat} {W : List (Nat × AObj)} {r : Option AV} (ho : OLoc P o e h R W r) : VW I P o e h R W r := fun H ι a w s Q g1 g2 g3 _ => ho H ι a w s Q g1 g2 g3
theorem iq (d : Nat) {R : List Nat} {r : AV} (hq : QLoc P o e h R r) (hr : DOpsI I P ops n rest (Ad e d r) h (acc ++ [(R, [])]) K) (hd : o.dst = some d := by exact rfl) (hb : Nat.blt d n = true := by exact rfl) (hg : Ay ops o e = some true := by exact rfl) : DOpsI I P ops n (o :: rest) e h acc K :=
  DOpsI.step hg hq.loc.toI (fun _ h => h) (DZ hd hb) (by rw [hd]; exact hr)
theorem im (d : Nat) {r : AV} {x : Operand} (hr : DOpsI I P ops n rest (Ad e d r) h (acc ++ [([], [])]) K) (hd : o.dst = some d := by exact rfl) (hb : Nat.blt d n = true := by exact rfl) (hg : Ay ops o e = some true := by exact rfl) (ho : o.op = .move x := by exact rfl) (hx : Aq e x = some r := by exact rfl) : DOpsI I P ops n (o :: rest) e h acc K :=
  iq d (F5 (.inl ho) hx) hr hd hb hg
theorem iw (d : Nat) {R : List Nat} {r : AV} (hq : ∀ h', I h' -> QLoc P o e h' R r) (hr : DOpsI I P ops n rest (Ad e d r) h (acc ++ [([], [])]) K) (hd : o.dst = some d := by exact rfl) (hb : Nat.blt d n = true := by exact rfl) (hg : Ay ops o e = some true := by exact rfl) : DOpsI I P ops n (o :: rest) e h acc K :=
  DOpsI.step (R := []) (W := []) hg (fun H ι a w s Q g1 g2 _ g4 => (hq s.h g4).loc H ι a w s Q g1 g2 (fun _ _ => rfl)) (fun _ h => h) (DZ hd hb) (by rw [hd]; exact hr)
theorem ix (d : Nat) {R : List Nat} {W : List (Nat × AObj)} {r : AV} (hq : OLoc P o e h R W (some r)) (hW : ∀ h, I h -> I (hputs h W)) (hr : DOpsI I P ops n rest (Ad e d r) (hputs h W) (acc ++ [(R, W.map (·.1))]) K) (hd : o.dst = some d := by exact rfl) (hb : Nat.blt d n = true := by exact rfl) (hg : Ay ops o e = some true := by exact rfl) : DOpsI I P ops n (o :: rest) e h acc K :=
  DOpsI.step hg hq.toI hW (DZ hd hb) (by rw [hd]; exact hr)
theorem is {R : List Nat} {W : List (Nat × AObj)} {r : Option AV} (hq : OLoc P o e h R W r) (hW : ∀ h, I h -> I (hputs h W)) (hr : DOpsI I P ops n rest e (hputs h W) (acc ++ [(R, W.map (·.1))]) K) (hd : o.dst = none := by exact rfl) (hg : Ay ops o e = some true := by exact rfl) : DOpsI I P ops n (o :: rest) e h acc K :=
  DOpsI.step hg hq.toI hW (lt_none hd) (by rw [hd]; exact hr)
end
theorem L4 {c : CM} (h : c.over = false) : vo c = .tup [.int .u32 0, .bool false] := by unfold vo; rw [h]; rfl
section
variable {cl : BD} {s : ByteArray} {fuel : Int} {e : CS} {x : CE} {c : CM}
theorem Ut (hk : e.kind = 3) (hx : e.es[0]? = some x) (hf : ((x.ev cl s c).2.m.fin != 0) = false) : e.run cl s fuel c = LU (x.ev cl s c).1 (x.ev cl s c).2 := by
  unfold LU
  by_cases ho : (x.ev cl s c).2.m.out.length >= 65536
  . rw [Yr hk hx hf ho, decide_eq_true ho]; rfl
  . rw [Yq hk hx hf ho, decide_eq_false ho]; rfl
theorem Sx {z : Int} (h : c.over = false) : (LU z c).over = false := by unfold LU; cases decide (c.m.out.length >= 65536) <;> exact h
theorem Vq (hcall : Ff cl) {f : Int} {l : List CE} (args : List Int) (h : c.over = false) : (A5 cl s f l args c).2.over = false := Qy hcall (fun e _ => Vl hcall e.parts e (Nat.le_refl _)) args c h
theorem Ci (hcall : Ff cl) (h : c.over = false) : (x.ev cl s c).2.over = false := Vl hcall x.parts x (Nat.le_refl _) c h
end
def fk (C : Core) (s : ByteArray) (fuel : Int) (h : Ab) : Prop := (∃ c, h 0 = some (.row false 7 [Ex C s fuel c])) /\ ∃ es, es.length = C.words.toNat /\ h 1 = some (.row true 1 es)
def Yh (W a n : Nat) : AV := bif Nat.beq n 0 then .lst false [] else .ref 1 W a n
theorem H3 {W a n : Nat} (h : 0 < n) : Yh W a n = .ref 1 W a n := by
  unfold Yh
  cases n with
  | zero => exact absurd h (Nat.lt_irrefl 0)
  | succ n => rfl
theorem OM {h : Ab} {b : Nat} {o : AObj} (hb : h b = some o) : hputs h [(b, o)] = h := by
  funext x
  by_cases hx : x = b
  . subst hx; exact (AA _ _ _).trans hb.symm
  . exact Aj _ _ hx
section
variable {P : Program} {T : Nat -> Option AC} {o : Oper} {e : Az} {h : Ab}
theorem Uz (hT : Ck P T) {t : TypeId} {x y1 y2 : Operand} {w : List Int} {i j : AC} {u : Nat} {k1 k2 : IntKind} {z1 z2 : Int} {W : Nat} (hW : W = w.length) (h0 : 0 <= z1) (h1 : 0 <= z2) (hle : z1 + z2 <= w.length) (ho : o.op = .slice t x (some y1) (some y2) none := by exact rfl) (hx : Aq e x = some (.ref 1 W 0 W) := by exact rfl) (hy1 : Aq e y1 = some (.int k1 z1) := by exact rfl) (hy2 : Aq e y2 = some (.int k2 (z1 + z2)) := by exact rfl) (ht : T t = some i := by exact rfl) (hk : i.k = .slice u := by exact rfl) (hj : T u = some j := by exact rfl)
    (hb : h 1 = some (.row true 1 (Ac w)) := by exact rfl) (hsz : 1 = j.size := by exact rfl) : QLoc P o e h [1] (Yh W z1.toNat z2.toNat) := by
  have hl : W = (Ac w).length := by rw [regCells_len, hW]
  by_cases h2 : z2 = 0
  . subst h2
    exact q_sliceN hT (lo := z1.toNat) (n := W) (by omega) (z2 := z1 + 0) (by omega) (by omega) hl ho hx hy1 hy2 ht hk hj hb hsz
  . rw [H3 (by omega)]
    have := Nd hT (lo := z1.toNat) (hi := (z1 + z2).toNat) ho hx hy1 hy2 ht hk hj hb hl hsz (by omega) (by omega) (by omega) (by omega)
    rwa [show (z1 + z2).toNat - z1.toNat = z2.toNat by omega] at this
theorem o_clearWs (hT : Ck P T) {t : TypeId} {x : Operand} {i j : AC} {u W : Nat} {w : List Int} {a : Int} {n : Nat} (ha : 0 <= a) (hle : a.toNat + n <= w.length) (hW : W = w.length) (ho : o.op = .call { callee := .builtin .clear, args := #[x], argTypes := #[t] } := by exact rfl) (hx : Aq e x = some (Yh W a.toNat n) := by exact rfl) (ht : T t = some i := by exact rfl) (hk : i.k = .slice u := by exact rfl) (hj : T u = some j := by exact rfl)
    (hb : h 1 = some (.row true 1 (Ac w)) := by exact rfl) (hz : j.zero = [.int .u32 0] := by exact rfl) (hsz : j.size = 1 := by exact rfl) : OLoc P o e h [1] [(1, .row true 1 (Ac (A8 w a n)))] (some (.tup [])) := by
  rcases Nat.eq_zero_or_pos n with h0 | h0
  . subst h0
    have h1 := KK (P := P) (h := h) hT ho hx ht hk
    intro H ι ac wd s Q hs g1 g2
    have h2 := h1 H ι ac wd s Q hs g1 (fun b hb => by cases hb)
    have e1 : hputs s.h [(1, AObj.row true 1 (Ac (A8 w a 0)))] = s.h := OM ((g2 1 (by simp)).trans hb)
    rw [e1]
    exact h2
  . rw [H3 h0] at hx
    exact o_clearW hT ha h0 hle hW ho hx ht hk hj hb hz hsz
theorem o_copyWs (hT : Ck P T) {t t' : TypeId} {x y : Operand} {i j : AC} {u W : Nat} {w l : List Int} {a : Int} {n : Nat} (ha : 0 <= a) (hl6 : l.length <= 6) (hln : l.length <= n) (hle : a.toNat + n <= w.length) (hW : W = w.length) (ho : o.op = .call { callee := .builtin .copy, args := #[x, y], argTypes := #[t, t'] } := by exact rfl) (hx : Aq e x = some (Yh W a.toNat n) := by exact rfl) (hy : Aq e y = some (.lst false (((Pk l).take l.length).map fun c => [c])) := by exact rfl) (ht : T t = some i := by exact rfl) (hk : i.k = .slice u := by exact rfl) (hj : T u = some j := by exact rfl)
    (hb : h 1 = some (.row true 1 (Ac w)) := by exact rfl) (hsz : j.size = 1 := by exact rfl) : OLoc P o e h [1] [(1, .row true 1 (Ac (CB w a l l.length)))] (some (.int .i64 (l.length : Int))) := by
  rcases Nat.eq_zero_or_pos l.length with h0 | h0
  . have hl : l = [] := List.eq_nil_of_length_eq_zero h0
    subst hl
    have hr : (∃ ex, Yh W a.toNat n = .lst ex []) \/ ∃ b n' off len, Yh W a.toNat n = .ref b n' off len := by
      rcases Nat.eq_zero_or_pos n with hn | hn
      . subst hn; exact .inl ⟨false, rfl⟩
      . exact .inr ⟨_, _, _, _, H3 hn⟩
    have h1 := WI (P := P) (h := h) hT ho hx hr hy ht hk hj
    intro H ι ac wd s Q hs g1 g2
    have h2 := h1 H ι ac wd s Q hs g1 (fun b hb => by cases hb)
    have e1 : hputs s.h [(1, AObj.row true 1 (Ac (CB w a [] ([] : List Int).length)))] = s.h := OM ((g2 1 (by simp)).trans hb)
    rw [e1]
    exact h2
  . rw [H3 (by omega)] at hx
    exact o_copyW hT ha h0 hl6 hln hle hW ho hx hy ht hk hj hb hsz
theorem q_values (hT : Ck P T) {t : TypeId} {x y : Operand} {l : List Int} {i j : AC} {u : Nat} {k : IntKind} {z : Int} (hz : z = (l.length : Int)) (hl6 : l.length <= 6) (ho : o.op = .slice t x none (some y) none := by exact rfl) (hx : Aq e x = some (.loc (Pk l)) := by exact rfl) (hy : Aq e y = some (.int k z) := by exact rfl) (ht : T t = some i := by exact rfl) (hk : i.k = .array 6 u := by exact rfl) (hj : T u = some j := by exact rfl) (hsz : j.size = 1 := by exact rfl) : QLoc P o e h [] (.lst false (((Pk l).take l.length).map fun c => [c])) := by
  rcases Nat.eq_zero_or_pos l.length with h0 | h0
  . rw [h0]
    exact Om hT ho hx hy ht hk hj (by omega) (by decide)
  . exact P5 hT ho hx hy ht hk hj hsz hz h0 hl6 rfl (by decide)
end
theorem LX {n : Nat} {e : Az} {h : Ab} (t b : Nat) {sz : Nat} {cs : List AV} (ht : e t = some (.ptr b 1 0 0)) (hb : h b = some (.row true sz [cs])) : Ghost ⟨n, e, h⟩ ⟨n, Ad e t (.loc cs), hrm h b⟩ := fun H ι a w hs => by
  have hr := hs.heap
  obtain ⟨r, hl, ⟨r1, r2, r3, r4, r5, r6⟩, r7⟩ := hr.obj b _ hb rfl
  have hsol : r.csz ≠ 0 := by simp at r4; omega
  have hsubh : ∀ x o, hrm h b x = some o -> h x = some o := fun x o hx => by
    by_cases hxb : x = b
    . subst hxb; rw [GM] at hx; cases hx
    . rwa [Fv _ hxb] at hx
  have hdom : ∀ x, h x = none -> hrm h b x = none := fun x hx => by
    cases e : hrm h b x with
    | none => rfl
    | some o => rw [hsubh x o e] at hx; cases hx
  obtain ⟨c, TT, w1, w2, w3⟩ := r6 hsol
  have hnone : H r.rb = none := r7 hsol
  have hkle : KLe H (HQ H r.rb c) := fun x c' e => by
    rw [DR _ _ (fun hx => by subst hx; rw [hnone] at e; cases e)]; exact e
  have hsub := hr.sub hsubh
  have hheap : HeapRel (HQ H r.rb c) ι (hrm h b) w := by
    refine ⟨fun x c' e => ?_, hsub.free, fun x o h1 h2 => ?_, hsub.inj, hr.glob.mono hkle⟩
    . by_cases hx : x = r.rb
      . subst hx; rw [EO] at e; cases e; obtain ⟨fr, w1', _⟩ := w1; exact ⟨TT, fr, w1'⟩
      . rw [DR _ _ hx] at e; exact hr.know x c' e
    . obtain ⟨r', e1, e2, e3⟩ := hsub.obj x o h1 h2
      exact Zo
  have hstep : Step H ι h w (HQ H r.rb c) ι (hrm h b) w := by
    refine ⟨Nat.le_refl _, rfl, rfl, fun _ _ _ => rfl, hkle, fun x hx => ?_, LLe.refl _, fun _ _ => rfl, fun _ _ h _ => .inl h, hdom⟩
    by_cases hx' : x = r.rb
    . subst hx'; exact .inr (.inr ⟨b, _, r, hb, rfl, hl, hsol, rfl⟩)
    . rw [DR _ _ hx'] at hx; exact .inl hx
  refine ⟨_, ι, ⟨hs.n, hs.d, fun u y hy => ?_, hheap⟩, hstep⟩
  by_cases hu : u = t
  . subst hu
    simp only [Co, Option.some.injEq] at hy
    subst hy
    obtain ⟨v, h1, h2⟩ := hs.env u _ ht
    have hv := h2.ptr_live hl r3
    subst hv
    refine ⟨_, h1, .loc _ _ _ _ c (fun k => (c[0 * r.sz + 0 + k]?).getD undef) (EO _ _ _) (fun j x hj => ?_) (fun j x hj => ?_) (fun j x hj => ?_)⟩
    . obtain ⟨u, f1, _⟩ := w3.2 0 cs j x rfl hj
      have f1' : c[0 * r.sz + 0 + j]? = some u := by rw [<- f1]; congr 1; rw [r1]; omega
      show c[0 * r.sz + 0 + j]? = some ((c[0 * r.sz + 0 + j]?).getD undef); rw [f1']; rfl
    . obtain ⟨u, f1, f2, _⟩ := w3.2 0 cs j x rfl hj
      have f1' : c[0 * r.sz + 0 + j]? = some u := by rw [<- f1]; congr 1; rw [r1]; omega
      show Rel _ _ _ ((c[0 * r.sz + 0 + j]?).getD undef); rw [f1']; exact f2.mono hkle (LLe.refl _)
    . obtain ⟨u, _, _, f3⟩ := w3.2 0 cs j x rfl hj; exact f3
  . simp only [CZ _ _ hu] at hy
    obtain ⟨v, h1, h2⟩ := hs.env u y hy
    exact ⟨v, h1, h2.mono hkle (LLe.refl _)⟩
theorem Ghost.freezeArr {n : Nat} {e : Az} {h : Ab} (t b : Nat) {sz : Nat} {cs : List AV} (ht : e t = some (.ptr b 1 0 0)) (hb : h b = some (.row false sz [cs])) (hp : cs.all AV.isPure1 = true) : Ghost ⟨n, e, h⟩ ⟨n, Ad e t (.loc cs), hrm (hput h b (.row true sz [cs])) b⟩ :=
  Ghost.trans (Ghost.plain b hb (fun c hc => by rw [List.mem_singleton.1 hc]; exact hp)) (LX t b ht (AA _ _ _))
structure cA (W : Nat) (cl : BD) (s : ByteArray) (f : Int) (l : List CE) (t : Int × CM) (q : Nat × List Int × CM) : Prop where
  i : CallI W cl s f l t q
  fin : q.2.2.m.fin = 0
  ov : q.2.2.over = false
structure fX (W : Nat) (fuel : Int) (cond : CM -> Int × CM) (body : CM -> CM) (t : CM) (q : Nat × CM) : Prop where
  i : WhI W fuel cond body t q
  fin : (q.2.m.fin == 0) = true
  ov : q.2.over = false
theorem Ki (b : Bool) : APure Try.prog 99 [.bool b] (fun r => r = .int .u32 (zf b)) := by
 refine APure.of_body (n := 4) Am Try.func99 rfl rfl ?_;refine wk 9 ?_;refine asp 3 (fun hb1 => ?_) fun hb1 => ?_
 .
  refine wk 5 ?_;refine DO ⟨[_], ⟨rfl, trivial⟩, ?_, rfl⟩
  rw [hb1]; rfl
 refine wk 6 ?_;refine DO ⟨[_], ⟨rfl, trivial⟩, ?_, rfl⟩
 rw [hb1]; rfl
theorem IC (C : Core) (s : ByteArray) (fuel : Int) (c : CM) (hfu : fuel <= 9223372036854775807) (h0 : c.m.fin = 0) : Es Try.prog C s fuel 100 [] c (.tup []) (AD fuel c).2 := by
 refine ACallB.of_body (n := 20) Am Try.func100 rfl rfl ?_;refine wk 13 ?_;refine asp 10 (fun hb1 => ?_) fun hb1 => ?_
 .
  refine act ?_;refine AN ?_;refine zq 11 (Fg Am rfl rfl rfl rfl rfl (by decide) rfl rfl rfl) ?_;refine zq 12 (J2 Am rfl rfl rfl rfl (by intro h; cases h)) ?_;refine zp (J5 rfl rfl) fun ch hch => ?_
  have e1 : AD fuel c = (false, c.put { c.m with fin := 5 }) := by unfold AD; rw [KN hb1]
  rw [e1]
  exact ⟨rfl, hch, hsub3⟩
 refine wk 7 ?_;refine aq 17 (Cc rfl rfl (show c.m.steps < fuel.toNat by have h := hb1; simp at h; omega) (by simp only [maxLen]; omega)) ?_
 refine wk 4 ?_
 have e1 : AD fuel c = (true, c.put { c.m with steps := c.m.steps + 1 }) := by unfold AD; rw [EN hb1]
 rw [e1]
 exact ⟨beq_iff_eq.2 h0, [], trivial, rfl, hsub3⟩
theorem Xe (C : Core) (s : ByteArray) (fuel : Int) (c : CM) (hs : s.size <= 9223372036854775807) (h0 : c.m.fin = 0) : Es Try.prog C s fuel 98 [] c (.int .u32 (LW s c).1) (LW s c).2 := by
 refine ACallB.of_body (n := 32) Am Try.func98 rfl rfl ?_;refine wk 18 ?_;refine asp 13 (fun hb1 => ?_) fun hb1 => ?_
 .
  refine act ?_
  have hrd : ¬ c.m.read < s.size := by have h := hb1; simp at h; omega
  refine wk 5 ?_
  have e1 : LW s c = (256, c) := by unfold LW; rw [decide_eq_false hrd]; rfl
  rw [e1]
  exact TU
 refine BM ?_
 have hrd : c.m.read < s.size := by have h := hb1; simp at h; omega
 refine wk 11 ?_;refine dq 22 (GI (c := inAt s c.m.read) Am rfl rfl rfl rfl rfl (Int.natCast_nonneg _) (K7 hrd)) ?_;refine wk 8 ?_;refine aq 27 (Cc rfl rfl hrd (by simp only [maxLen]; omega)) ?_;refine wk 7 ?_;refine aq 31 (Bp Am rfl rfl rfl rfl rfl (r := ((inAt s c.m.read).toNat : Int)) (by rw [IntKind.wrap_u32]; have := (Lz (inAt s c.m.read)).2; omega)) ?_;refine wk 3 ?_
 have e1 : LW s c = (((inAt s c.m.read).toNat : Int), c.put { c.m with read := c.m.read + 1 }) := by unfold LW; rw [decide_eq_true hrd]; rfl
 rw [e1]
 exact TU
theorem VE (C : Core) (s : ByteArray) (fuel : Int) (c : CM) (sl z i : Int) (hi : CD i) (hz : 1 <= z /\ z <= 4096) (hsl : 0 <= sl /\ sl + z <= 1048576) (h0 : c.m.fin = 0) : Es Try.prog C s fuel 77 [.int .i64 sl, .int .i64 z, .int .u32 i] c (.int .i64 (sl + i)) (Xq z i c) := by
 have hv1 := hi.1
 have hv2 := hi.2
 refine ACallB.of_body (n := 20) Am Try.func77 rfl rfl ?_;refine wk 8 ?_;refine aq 10 (Bp Am rfl rfl rfl rfl rfl (r := i) (by rw [IntKind.wrap_u64]; omega)) ?_;refine wk 1 ?_;refine aq 12 (Bp Am rfl rfl rfl rfl rfl (r := z) (by rw [IntKind.wrap_u64]; omega)) ?_;refine wk 2 ?_;refine asp 13 (fun hb1 => ?_) fun hb1 => ?_
 .
  refine act ?_
  have hiz : decide (i >= z) = true := hb1
  refine AN ?_;refine zq 14 (Fg Am rfl rfl rfl rfl rfl (by decide) rfl rfl rfl) ?_;refine zq 15 (J2 Am rfl rfl rfl rfl (by intro h; cases h)) ?_;refine zp (J5 rfl rfl) fun ch hch => ?_
  have e1 : Xq z i c = c.put { c.m with fin := 3 } := by unfold Xq; rw [hiz]; rfl
  rw [e1]
  exact ⟨rfl, hch, hsub3⟩
 refine BM ?_
 have hiz : decide (i >= z) = false := hb1
 have hiz2 : i < z := by simpa using hb1
 refine wk 5 ?_;refine aq 18 (Bp Am rfl rfl rfl rfl rfl (r := i) (by exact Bz (by omega) (by omega))) ?_;refine aq 19 (AI (r := .int .i64 (sl + i)) rfl rfl rfl Dz) ?_;refine wk 3 ?_
 have e1 : Xq z i c = c := by unfold Xq; rw [hiz]; rfl
 rw [e1]
 exact TU
theorem RM (C : Core) (s : ByteArray) (fuel : Int) (c : CM) (x : Int) (hx : CD x) (ho : c.m.out.length <= 65536) (h0 : c.m.fin = 0) : Es Try.prog C s fuel 78 [.int .u32 x] c (.tup []) (LU x c) := by
 refine ACallB.of_body (n := 23) Am Try.func78 rfl rfl ?_;refine wk 10 ?_;refine asp 9 (fun hb1 => ?_) fun hb1 => ?_
 .
  refine act ?_
  have hou : c.m.out.length >= 65536 := by have h := hb1; simp [As] at h; omega
  refine AN ?_;refine zq 10 (Fg Am rfl rfl rfl rfl rfl (by decide) rfl rfl rfl) ?_;refine zq 11 (J2 Am rfl rfl rfl rfl (by intro h; cases h)) ?_;refine zp (J5 rfl rfl) fun ch hch => ?_
  have e1 : LU x c = c.put { c.m with fin := 4 } := by unfold LU; rw [decide_eq_true hou]; rfl
  rw [e1]
  exact ⟨rfl, hch, hsub3⟩
 refine BM ?_
 have hou : ¬ c.m.out.length >= 65536 := by have h := hb1; simp [As] at h; omega
 refine wk 8 ?_;refine aq 18 (Bp Am rfl rfl rfl rfl rfl (IS hx)) ?_;refine ax 19 (D4 Am rfl rfl rfl rfl rfl rfl (by decide) rfl rfl rfl rfl rfl rfl) ?_;refine ax 20 (E2 Am (n := c.m.out.length) (m := 1) rfl rfl rfl rfl rfl rfl rfl rfl rfl (by simp [As]) rfl rfl (Nat.zero_lt_succ _) (.lst _ _) (by intro cs h; simp [partVals] at h; subst h; rfl) (fun _ cs h => by simp [partVals] at h; subst h; rfl) rfl (by simp [As, partVals]; omega) (by simp [As, partVals]; simp only [maxLen]; omega)) ?_
 refine wk 4 ?_
 have e1 : LU x c = c.put { c.m with out := c.m.out ++ [byteOf x] } := by unfold LU; rw [decide_eq_false hou]; rfl
 rw [e1]
 exact ⟨beq_iff_eq.2 h0, [], trivial, rfl, hsub3 (by first | rfl | exact congrArg (fun n => some (AObj.row false 7 [[.lst false (C.funcs.map CFn.cells), .ref 1 C.words.toNat 0 C.words.toNat, .str s, .int .i64 (c.m.read : Int), .ref 2 n 0 n, .int .i64 (c.m.steps : Int), .int .i64 fuel]])) (by simp [CM.put])) (by first | rfl) (by first | rfl | exact congrArg (fun es => some (AObj.row true 1 es)) (by simp [As, partVals, CM.put]; rfl))⟩
theorem VF (C : Core) (s : ByteArray) (fuel : Int) (c : CM) (sl z i : Int) (hi : CD i) (hz : 1 <= z /\ z <= 4096) (hsl : 0 <= sl /\ sl + z <= 1048576) (h0 : c.m.fin = 0) (h : decide (i >= z) = false) : Es Try.prog C s fuel 77 [.int .i64 sl, .int .i64 z, .int .u32 i] c (.int .i64 (sl + i)) c := by
  have := VE C s fuel c sl z i hi hz hsl h0
  rwa [show Xq z i c = c by unfold Xq; rw [h]; rfl] at this
theorem cat_stop (C : Core) (s : ByteArray) (fuel : Int) (c : CM) (sl z i : Int) (hi : CD i) (hz : 1 <= z /\ z <= 4096) (hsl : 0 <= sl /\ sl + z <= 1048576) (h0 : c.m.fin = 0) (h : decide (i >= z) = true) : Es Try.prog C s fuel 77 [.int .i64 sl, .int .i64 z, .int .u32 i] c (.int .i64 (sl + i)) (c.put { c.m with fin := 3 }) := by
  have := VE C s fuel c sl z i hi hz hsl h0
  rwa [show Xq z i c = c.put { c.m with fin := 3 } by unfold Xq; rw [h]; rfl] at this
theorem cvalue_step (C : Core) (s : ByteArray) (fuel : Int) (cl : BD) (n : Nat) (e : CE) (c : CM) (hw0 : 0 <= C.words) (hw1 : C.words <= 1048576) (hs : s.size <= 9223372036854775807) (hok : e.ok C n) (hk : e.Ok) (hc : c.good C.words.toNat) (h0 : c.m.fin = 0) (hov : c.over = false) (hg : C7 C.words.toNat cl) (hco : Ff cl)
    (hE : ∀ x ∈ e.kids, ∀ c, CM.good C.words.toNat c -> c.m.fin = 0 -> c.over = false -> Es Try.prog C s fuel 76 [.loc x.row] c (.int .u32 (x.ev cl s c).1) (x.ev cl s c).2) (hcall : e.kind = 4 -> Es Try.prog C s fuel 80 [.int .i64 e.slot, (.lst false (e.kids.map CE.cells))] c (.int .u32 (A5 cl s e.slot e.kids [] c).1) (A5 cl s e.slot e.kids [] c).2) : Es Try.prog C s fuel 76 [.loc e.row] c (.int .u32 (e.ev cl s c).1) (e.ev cl s c).2 := by
 refine ACallB.of_body (n := 143) Am Try.func76 rfl rfl ?_;refine wk 18 ?_;refine asp 15 (fun hb1 => ?_) fun hb1 => ?_
 .
  refine act ?_
  have ho : e.kind = 1 := by simpa using hb1
  refine wk 9 ?_
  rw [bW ho]
  exact TU
 refine BM ?_
 have n1 : e.kind ≠ 1 := by simpa using hb1
 refine wk 5 ?_;refine asp 21 (fun hb2 => ?_) fun hb2 => ?_
 .
  refine act ?_
  have ho : e.kind = 2 := by simpa using hb2
  have hb2 := Y5 hok ho
  refine wk 10 ?_;refine dq 31 (Ah Am rfl rfl rfl rfl rfl rfl rfl (by rw [regCells_len, hc.m.len]) rfl hb2.1 (by have := hb2.2; omega)) ?_;refine dq 32 (Ar Am rfl rfl rfl (.ptr _ _ _ _ _ _ _ _ rfl (by rw [regCells_len, hc.m.len]) (Bu (by have := hb2; have := hc.m.len; omega))) rfl) ?_;refine wk 3 ?_
  rw [bV ho]
  exact TU
 refine BM ?_
 have n2 : e.kind ≠ 2 := by simpa using hb2
 refine wk 5 ?_;refine asp 33 (fun hb3 => ?_) fun hb3 => ?_
 .
  refine act ?_
  have ho : e.kind = 3 := by simpa using hb3
  have hb3 := Vs hok ho
  obtain ⟨x, hx, hxm⟩ := Gu (l := e.kids) (by omega)
  have hgx : (x.ev cl s c).2.good C.words.toNat /\ CD (x.ev cl s c).1 := CJ (s := s) hg x.parts x (Nat.le_refl _) (hk.kidsOk.1 x hxm) c hc
  have hv1 := hgx.2.1
  have hv2 := hgx.2.2
  refine asq ?_
  rcases Bool.eq_false_or_eq_true ((x.ev cl s c).2.m.fin == 0) with hf | hf
  .
   refine wk 6 ?_;refine aq 40 (Ae Am rfl rfl rfl rfl rfl rfl (by decide) (Cf hx) rfl) ?_;refine ax 41 (DY (hE x hxm c hc h0 hov) hf Try.func76) ?_;refine wk 3 ?_
   rcases Bool.eq_false_or_eq_true (!decide ((x.ev cl s c).1 >= e.size)) with hz0 | hz0
   .
    have hz : decide ((x.ev cl s c).1 >= e.size) = false := by simpa using hz0
    have hz2 : (x.ev cl s c).1 < e.size := by simpa using hz
    have hidx : 0 <= e.slot + (x.ev cl s c).1 /\ e.slot + (x.ev cl s c).1 < C.words.toNat := by omega
    refine wk 15 ?_;refine dx 56 (XN (VF C s fuel _ e.slot e.size (x.ev cl s c).1 hgx.2 ⟨hb3.2.1, hb3.2.2.1⟩ ⟨hb3.2.2.2.1, by have := hb3.2.2.2.2; omega⟩ (beq_iff_eq.1 hf) hz) hf Try.func77) ?_
    refine dq 57 (Ah Am rfl rfl rfl rfl rfl rfl rfl (by rw [regCells_len, hgx.1.m.len]) rfl hidx.1 (by have := hidx.2; omega)) ?_;refine dq 58 (Ar Am rfl rfl rfl (.ptr _ _ _ _ _ _ _ _ rfl (by rw [regCells_len, hgx.1.m.len]) (Bu (by have := hidx; have := hgx.1.m.len; omega))) rfl) ?_;refine wk 3 ?_
    rw [YR ho hx (bne_t hf) hz]
    exact ⟨hf, [_], ⟨rfl, trivial⟩, rfl, hsub3⟩
   have hz : decide ((x.ev cl s c).1 >= e.size) = true := by simpa using hz0
   refine AGo.drawX 14 [true, true, true, true, true, true, true, true, true, true, true, true, true, true, false, false, false, false] mix (by kernel_rfl) rfl rfl rfl ?_;refine xm 42 ?_;refine xq 43 (AH rfl rfl rfl) ?_;refine xq 44 (Ax Am rfl rfl rfl rfl rfl rfl) ?_;refine xq 45 (Ar Am rfl rfl rfl DM rfl) ?_;refine xm 46 ?_;refine xm 47 ?_;refine xq 48 (AH rfl rfl rfl) ?_;refine xq 49 (Ax Am rfl rfl rfl rfl rfl rfl) ?_;refine xq 50 (Ar Am rfl rfl rfl DM rfl) ?_;refine xm 51 ?_;refine xq 52 (AH rfl rfl rfl) ?_;refine xq 53 (Ax Am rfl rfl rfl rfl rfl rfl) ?_;refine xq 54 (Ar Am rfl rfl rfl DM rfl) ?_;refine xm 55 ?_;refine xn ?_;refine xn ?_;refine xn ?_;refine xn ?_;refine R7 ⟨_, _, _, B5 (cat_stop C s fuel _ e.slot e.size (x.ev cl s c).1 hgx.2 ⟨hb3.2.1, hb3.2.2.1⟩ ⟨hb3.2.2.2.1, by have := hb3.2.2.2.2; omega⟩ (beq_iff_eq.1 hf) hz) rfl Try.func77, fun ch _ hch => ?_⟩
   rw [YS ho hx (bne_t hf) hz]
   exact ⟨rfl, hch, hsub3⟩
  refine AN ?_;refine zm 35 ?_;refine zm 36 ?_;refine zq 37 (AH rfl rfl rfl) ?_;refine zq 38 (Ax Am rfl rfl rfl rfl rfl rfl) ?_;refine zq 39 (Ar Am rfl rfl rfl DM rfl) ?_;refine zq 40 (Ae Am rfl rfl rfl rfl rfl rfl (by decide) (Cf hx) rfl) ?_;refine zp (B5 (hE x hxm c hc h0 hov) hf Try.func76) fun ch hch => ?_
  rw [YT ho hx (JV hf)]
  exact ⟨hf, hch, hsub3⟩
 refine BM ?_
 have n3 : e.kind ≠ 3 := by simpa using hb3
 refine wk 5 ?_;refine asp 59 (fun hb4 => ?_) fun hb4 => ?_
 .
  refine act ?_
  have ho : e.kind = 4 := by simpa using hb4
  refine asq ?_
  rcases Bool.eq_false_or_eq_true ((A5 cl s e.slot e.kids [] c).2.m.fin == 0) with hf | hf
  .
   refine wk 10 ?_;refine dx 70 (DY (hcall ho) hf Try.func80) ?_;refine wk 3 ?_
   rw [XS ho]
   exact ⟨hf, [_], ⟨rfl, trivial⟩, rfl, hsub3⟩
  refine AGo.drawX 9 [true, true, true, true, true, true, true, true, true, false, false] mix (by kernel_rfl) rfl rfl rfl ?_;refine xm 61 ?_;refine xm 62 ?_;refine xq 63 (AH rfl rfl rfl) ?_;refine xq 64 (Ax Am rfl rfl rfl rfl rfl rfl) ?_;refine xq 65 (Ar Am rfl rfl rfl DM rfl) ?_;refine xm 66 ?_;refine xq 67 (AH rfl rfl rfl) ?_;refine xq 68 (Ax Am rfl rfl rfl rfl rfl rfl) ?_;refine xq 69 (Ar Am rfl rfl rfl DM rfl) ?_;refine xn ?_;refine xn ?_;refine R7 ⟨_, _, _, B5 (hcall ho) hf Try.func80, fun ch _ hch => ?_⟩
  rw [XS ho]
  exact ⟨hf, hch, hsub3⟩
 refine BM ?_
 have n4 : e.kind ≠ 4 := by simpa using hb4
 refine wk 5 ?_;refine asp 71 (fun hb5 => ?_) fun hb5 => ?_
 .
  refine act ?_
  have ho : e.kind = 5 := by simpa using hb5
  refine wk 3 ?_;refine ax 74 (DY (Xe C s fuel c hs h0) (OQ h0) Try.func98) ?_;refine wk 3 ?_
  rw [W1 ho]
  exact ⟨OQ h0, [_], ⟨rfl, trivial⟩, rfl, hsub3⟩
 refine BM ?_
 have n5 : e.kind ≠ 5 := by simpa using hb5
 have hK := QB hok n1 n2 n3 n4 n5
 have heK : eK e := ⟨n1, n2, n3, n4, n5⟩
 obtain ⟨x, hx, hxm⟩ := Gu (l := e.kids) (by omega)
 have hgx : (x.ev cl s c).2.good C.words.toNat /\ CD (x.ev cl s c).1 := CJ (s := s) hg x.parts x (Nat.le_refl _) (hk.kidsOk.1 x hxm) c hc
 have hv1 := hgx.2.1
 have hv2 := hgx.2.2
 refine wk 5 ?_;refine asp 75 (fun hb6 => ?_) fun hb6 => ?_
 .
  refine act ?_
  have ho : e.kind = 6 := by simpa using hb6
  obtain ⟨y, hy, hym⟩ := S0 (l := e.kids) (by omega)
  have hgy : (y.ev cl s (x.ev cl s c).2).2.good C.words.toNat /\ CD (y.ev cl s (x.ev cl s c).2).1 := CJ (s := s) hg y.parts y (Nat.le_refl _) (hk.kidsOk.1 y hym) _ hgx.1
  refine asq ?_
  rcases Bool.eq_false_or_eq_true ((x.ev cl s c).2.m.fin == 0) with hf | hf
  .
   refine wk 6 ?_;refine aq 82 (Ae Am rfl rfl rfl rfl rfl rfl (by decide) (Cf hx) rfl) ?_;refine ax 83 (DY (hE x hxm c hc h0 hov) hf Try.func76) ?_;refine wk 3 ?_
   rcases Bool.eq_false_or_eq_true ((y.ev cl s (x.ev cl s c).2).2.m.fin == 0) with hgf | hgf
   .
    refine wk 6 ?_;refine aq 89 (Ae Am rfl rfl rfl rfl rfl rfl (by decide) (It hy) rfl) ?_;refine ax 90 (DY (hE y hym _ hgx.1 (beq_iff_eq.1 hf) (Ci hco hov)) hgf Try.func76) ?_;refine wk 10 ?_;refine ax 98 (CT Try.func59 (Pn e.op (x.ev cl s c).1 (y.ev cl s (x.ev cl s c).2).1 hgy.2.1)) ?_;refine wk 12 ?_;refine asp 102 (fun hb7 => ?_) fun hb7 => ?_
    .
     refine act ?_
     have hz := hb7
     refine AN ?_;refine zq 103 (Fg Am rfl rfl rfl rfl rfl (by decide) rfl rfl rfl) ?_;refine zq 104 (J2 Am rfl rfl rfl rfl (by intro h; cases h)) ?_;refine zp (J5 rfl rfl) fun ch hch => ?_
     rw [cc heK hx hy (bne_t hf) ho (bne_t hgf) hz]
     exact ⟨rfl, hch, hsub3⟩
    refine BM ?_
    have hz := hb7
    refine wk 7 ?_
    rw [cb heK hx hy (bne_t hf) ho (bne_t hgf) hz]
    exact ⟨hgf, [_], ⟨rfl, trivial⟩, rfl, hsub3⟩
   refine AN ?_;refine zm 84 ?_;refine zm 85 ?_;refine zq 86 (AH rfl rfl rfl) ?_;refine zq 87 (Ax Am rfl rfl rfl rfl rfl rfl) ?_;refine zq 88 (Ar Am rfl rfl rfl DM rfl) ?_;refine zq 89 (Ae Am rfl rfl rfl rfl rfl rfl (by decide) (It hy) rfl) ?_;refine zp (B5 (hE y hym _ hgx.1 (beq_iff_eq.1 hf) (Ci hco hov)) hgf Try.func76) fun ch hch => ?_
   rw [cd heK hx hy (bne_t hf) ho (JV hgf)]
   exact ⟨hgf, hch, hsub3⟩
  refine AN ?_;refine zm 77 ?_;refine zm 78 ?_;refine zq 79 (AH rfl rfl rfl) ?_;refine zq 80 (Ax Am rfl rfl rfl rfl rfl rfl) ?_;refine zq 81 (Ar Am rfl rfl rfl DM rfl) ?_;refine zq 82 (Ae Am rfl rfl rfl rfl rfl rfl (by decide) (Cf hx) rfl) ?_;exact X5
 refine BM ?_
 have n6 : e.kind ≠ 6 := by simpa using hb6
 refine wk 5 ?_;refine asp 106 (fun hb8 => ?_) fun hb8 => ?_
 .
  refine act ?_
  have ho : e.kind = 7 := by simpa using hb8
  refine asq ?_
  rcases Bool.eq_false_or_eq_true ((x.ev cl s c).2.m.fin == 0) with hf | hf
  .
   refine wk 6 ?_;refine aq 113 (Ae Am rfl rfl rfl rfl rfl rfl (by decide) (Cf hx) rfl) ?_;refine ax 114 (DY (hE x hxm c hc h0 hov) hf Try.func76) ?_;refine fA ?_;refine ax 116 (CT Try.func99 (Ki _)) ?_;refine wk 3 ?_
   rw [fh heK hx (bne_t hf) ho]
   exact ⟨hf, [_], ⟨rfl, trivial⟩, rfl, hsub3⟩
  refine AN ?_;refine zm 108 ?_;refine zm 109 ?_;refine zq 110 (AH rfl rfl rfl) ?_;refine zq 111 (Ax Am rfl rfl rfl rfl rfl rfl) ?_;refine zq 112 (Ar Am rfl rfl rfl DM rfl) ?_;refine zq 113 (Ae Am rfl rfl rfl rfl rfl rfl (by decide) (Cf hx) rfl) ?_;exact X5
 refine BM ?_
 have n7 : e.kind ≠ 7 := by simpa using hb8
 have ho : e.kind = 8 \/ e.kind = 9 := by omega
 obtain ⟨y, hy, hym⟩ := S0 (l := e.kids) (by omega)
 have hgy : (y.ev cl s (x.ev cl s c).2).2.good C.words.toNat /\ CD (y.ev cl s (x.ev cl s c).2).1 := CJ (s := s) hg y.parts y (Nat.le_refl _) (hk.kidsOk.1 y hym) _ hgx.1
 refine wk 2 ?_
 rcases Bool.eq_false_or_eq_true ((x.ev cl s c).2.m.fin == 0) with hf | hf
 .
  refine wk 6 ?_;refine aq 122 (Ae Am rfl rfl rfl rfl rfl rfl (by decide) (Cf hx) rfl) ?_;refine ax 123 (DY (hE x hxm c hc h0 hov) hf Try.func76) ?_;refine wk 12 ?_;refine aq 131 (Oq Am false rfl rfl rfl rfl rfl) ?_;refine an ?_;refine asp 131 (fun hb9 => ?_) fun hb9 => ?_
  .
   refine act ?_
   have hz := hb9
   refine wk 3 ?_;refine ax 133 (CT Try.func99 (Ki _)) ?_;refine wk 3 ?_
   rw [bU ho hx hf hz]
   exact ⟨hf, [_], ⟨rfl, trivial⟩, rfl, hsub3⟩
  refine BM ?_
  have hz := hb9
  refine wk 2 ?_
  rcases Bool.eq_false_or_eq_true ((y.ev cl s (x.ev cl s c).2).2.m.fin == 0) with hgf | hgf
  .
   refine wk 6 ?_;refine aq 139 (Ae Am rfl rfl rfl rfl rfl rfl (by decide) (It hy) rfl) ?_;refine ax 140 (DY (hE y hym _ hgx.1 (beq_iff_eq.1 hf) (Ci hco hov)) hgf Try.func76) ?_;refine fA ?_;refine ax 142 (CT Try.func99 (Ki _)) ?_;refine wk 3 ?_
   rw [XR ho hx hy hf hz]
   exact ⟨hgf, [_], ⟨rfl, trivial⟩, rfl, hsub3⟩
  refine AN ?_;refine zm 134 ?_;refine zm 135 ?_;refine zq 136 (AH rfl rfl rfl) ?_;refine zq 137 (Ax Am rfl rfl rfl rfl rfl rfl) ?_;refine zq 138 (Ar Am rfl rfl rfl DM rfl) ?_;refine zq 139 (Ae Am rfl rfl rfl rfl rfl rfl (by decide) (It hy) rfl) ?_;refine zp (B5 (hE y hym _ hgx.1 (beq_iff_eq.1 hf) (Ci hco hov)) hgf Try.func76) fun ch hch => ?_
  rw [XR ho hx hy hf hz]
  exact ⟨hgf, hch, hsub3⟩
 refine AN ?_;refine zm 117 ?_;refine zm 118 ?_;refine zq 119 (AH rfl rfl rfl) ?_;refine zq 120 (Ax Am rfl rfl rfl rfl rfl rfl) ?_;refine zq 121 (Ar Am rfl rfl rfl DM rfl) ?_;refine zq 122 (Ae Am rfl rfl rfl rfl rfl rfl (by decide) (Cf hx) rfl) ?_;exact X5
theorem O7 (C : Core) (s : ByteArray) (fuel : Int) (cl : BD) (l : List CS) (c : CM) (hlen : l.length <= maxLen) (hc : c.good C.words.toNat) (h0 : c.m.fin = 0) (hov : c.over = false) (hS : ∀ x ∈ l, ∀ c, CM.good C.words.toNat c -> c.m.fin = 0 -> c.over = false -> Es Try.prog C s fuel 58 [.loc x.row] c (vo (x.run cl s fuel c)) (x.run cl s fuel c)) (hgd : ∀ x ∈ l, IN C.words.toNat cl s fuel x) : Es Try.prog C s fuel 39 [(.lst false (l.map CS.cells))] c (vo (Ao cl s fuel l c)) (Ao cl s fuel l c) := by
 refine ACallB.of_body (n := 25) Am Try.func39 rfl rfl ?_;refine wk 13 ?_;refine Bo (γ := Nat × CM) 3 (fun q => ⟨25, (Ad (Ad (Ad (Ad Bt 0 (.ptr 0 1 0 0)) 1 (.lst false (l.map CS.cells))) 10 (.int .i64 (l.length : Int))) 11 (.int .i64 (q.1 : Int))), (hput (hput (hput (Bl 3) 0 (.row false 7 [Ex C s fuel q.2])) 1 (.row true 1 (Ac (q.2).m.words))) 2 (.row true 1 (As (q.2).m.out)))⟩) (fun q => q.2.good C.words.toNat /\ Ao cl s fuel (l.drop q.1) q.2 = Ao cl s fuel l c /\ q.1 <= l.length /\ q.2.m.fin = 0 /\ q.2.over = false) (fun q => l.length - q.1) (0, c) (Sub.mk' (by repeat (first | exact ESub.new _ | refine ESub.put ?_ (by first | rfl | exact congrArg (fun n : Nat => some (AV.int .i64 (n : Int))) (List.length_map _)))) FV) ⟨hc, by rw [List.drop_zero], Nat.zero_le _, h0, hov⟩ (fun _ => AQ (AQ (AQ (fun b hb => Bb hb) rfl) rfl) rfl) ?_
 intro q hI
 refine wk 5 ?_;refine asp 12 (fun hb1 => ?_) fun hb1 => ?_
 .
  refine act ?_
  have hql : q.1 < l.length := by have h := hb1; simp at h; omega
  obtain ⟨x, hx⟩ := At hql
  have hxm := List.mem_of_getElem? hx
  refine wk 9 ?_
  rcases Bool.eq_false_or_eq_true ((x.run cl s fuel q.2).m.fin == 0) with hf | hf
  .
   refine wk 4 ?_;refine aq 18 (Ae Am rfl rfl rfl rfl rfl rfl (Int.natCast_nonneg _) (LV hx) rfl) ?_;refine ax 19 (DY (hS x hxm q.2 hI.1 hI.2.2.2.1 hI.2.2.2.2) hf Try.func58) ?_;refine wk 10 ?_;refine asp 22 (fun hb2 => ?_) fun hb2 => ?_
   .
    refine act ?_
    have ho2 : (x.run cl s fuel q.2).over = true := hb2
    refine wk 7 ?_
    have hend : Ao cl s fuel l c = (x.run cl s fuel q.2) := by rw [<- hI.2.1, Kt hx (beq_iff_eq.2 hI.2.2.2.1) hI.2.2.2.2, PW ho2]
    rw [hend]
    exact ⟨hf, [_, _], ⟨rfl, rfl, trivial⟩, (by unfold vo; rw [ho2]; rfl), hsub3⟩
   refine BM ?_
   have ho2 : (x.run cl s fuel q.2).over = false := hb2
   refine wk 2 ?_;refine aq 24 (Cc rfl rfl hql hlen) ?_;refine wk 2 ?_;exact ⟨(q.1 + 1, (x.run cl s fuel q.2)), Drop.mk' JY Hn, ⟨hgd x hxm q.2 hI.1, (Kt hx (beq_iff_eq.2 hI.2.2.2.1) hI.2.2.2.2).symm.trans hI.2.1, hql, beq_iff_eq.1 hf, ho2⟩, (by show l.length - (q.1 + 1) < l.length - q.1; omega)⟩
  refine AN ?_;refine zm 15 ?_;refine zm 16 ?_;refine zm 17 ?_;refine zq 18 (Ae Am rfl rfl rfl rfl rfl rfl (Int.natCast_nonneg _) (LV hx) rfl) ?_;refine zp (B5 (hS x hxm q.2 hI.1 hI.2.2.2.1 hI.2.2.2.2) hf Try.func58) fun ch hch => ?_
  have hend : Ao cl s fuel l c = (x.run cl s fuel q.2) := by rw [<- hI.2.1, Kt hx (beq_iff_eq.2 hI.2.2.2.1) hI.2.2.2.2, Sl hf]
  rw [hend]
  exact ⟨hf, hch, hsub3⟩
 refine BM ?_
 have hge : l.length <= q.1 := by have h := hb1; simp at h; omega
 refine wk 7 ?_
 have hend : Ao cl s fuel l c = q.2 := by rw [<- hI.2.1, Sm hge]
 rw [hend]
 exact ⟨beq_iff_eq.2 hI.2.2.2.1, [_, _], ⟨rfl, rfl, trivial⟩, (L4 hI.2.2.2.2).symm, hsub3⟩
theorem O1 (C : Core) (s : ByteArray) (fuel : Int) (cl : BD) (e : CS) (x : CE) (c : CM) (hfu : fuel <= 9223372036854775807) (hx : e.es[0]? = some x) (hxk : x.Ok) (hc : c.good C.words.toNat) (h0 : c.m.fin = 0) (hov : c.over = false) (hg : C7 C.words.toNat cl) (hco : Ff cl) (hup : HW cl)
    (hE : ∀ x ∈ e.es, ∀ c, CM.good C.words.toNat c -> c.m.fin = 0 -> c.over = false -> Es Try.prog C s fuel 76 [.loc x.row] c (.int .u32 (x.ev cl s c).1) (x.ev cl s c).2) (hT : ∀ c, CM.good C.words.toNat c -> c.m.fin = 0 -> c.over = false -> Es Try.prog C s fuel 39 [(.lst false (e.thn.map CS.cells))] c (vo (Ao cl s fuel e.thn c)) (Ao cl s fuel e.thn c)) (hTg : ∀ c, CM.good C.words.toNat c -> (Ao cl s fuel e.thn c).good C.words.toNat) : Es Try.prog C s fuel 79 [.loc e.row] c (vo (Bk fuel (Bc cl s e.es) (fun c => Ao cl s fuel e.thn c) (fuel.toNat + 1) c)) (Bk fuel (Bc cl s e.es) (fun c => Ao cl s fuel e.thn c) (fuel.toNat + 1) c) := by
 have hxm := List.mem_of_getElem? hx
 refine ACallB.of_body (n := 29) Am Try.func79 rfl rfl ?_;refine wk 6 ?_;refine Bo (γ := Nat × CM) 3 (fun q => ⟨29, (Ad (Ad Bt 0 (.ptr 0 1 0 0)) 1 (.loc e.row)), (hput (hput (hput (Bl 3) 0 (.row false 7 [Ex C s fuel q.2])) 1 (.row true 1 (Ac (q.2).m.words))) 2 (.row true 1 (As (q.2).m.out)))⟩) (fun q => fX C.words.toNat fuel (Bc cl s e.es) (fun c => Ao cl s fuel e.thn c) (Bk fuel (Bc cl s e.es) (fun c => Ao cl s fuel e.thn c) (fuel.toNat + 1) c) q) (fun q => q.1) (fuel.toNat + 1, c) (Sub.mk' BH FV) ⟨⟨hc, rfl, Nat.le_add_right _ _, Nat.succ_pos _⟩, beq_iff_eq.2 h0, hov⟩ (fun _ => AQ (AQ (AQ (fun b hb => Bb hb) rfl) rfl) rfl) ?_
 intro q hI
 refine wk 2 ?_
 rcases Bool.eq_false_or_eq_true ((AD fuel q.2).2.m.fin == 0) with hf1 | hf1
 .
  have ht : (AD fuel q.2).1 = true := by rw [<- G3 (beq_iff_eq.1 hI.fin)]; exact hf1
  have hgq : (x.ev cl s (AD fuel q.2).2).2.good C.words.toNat /\ CD (x.ev cl s (AD fuel q.2).2).1 := CJ (s := s) hg x.parts x (Nat.le_refl _) hxk _ (C1 hI.i.good)
  refine wk 2 ?_;refine ax 9 (DY (IC C s fuel q.2 hfu (beq_iff_eq.1 hI.fin)) hf1 Try.func100) ?_;refine wk 3 ?_
  rcases Bool.eq_false_or_eq_true ((x.ev cl s (AD fuel q.2).2).2.m.fin == 0) with hf2 | hf2
  .
   refine wk 6 ?_;refine aq 15 (Ae Am rfl rfl rfl rfl rfl rfl (by decide) (Cf hx) rfl) ?_;refine ax 16 (DY (hE x hxm _ (C1 hI.i.good) (beq_iff_eq.1 hf1) hI.ov) hf2 Try.func76) ?_;refine wk 2 ?_;refine asp 17 (fun hb1 => ?_) fun hb1 => ?_
   .
    refine act ?_
    have hz : ((x.ev cl s (AD fuel q.2).2).1 == 0) = true := hb1
    refine wk 6 ?_
    rw [show (Bk fuel (Bc cl s e.es) (fun c => Ao cl s fuel e.thn c) (fuel.toNat + 1) c) = _ from hI.i.lastE hx hI.fin hI.ov ht (.inr hz)]
    exact ⟨hf2, [_, _], ⟨rfl, rfl, trivial⟩, (L4 (Ci (x := x) (c := (AD fuel q.2).2) hco hI.ov)).symm, hsub3⟩
   refine BM ?_
   have hz : ((x.ev cl s (AD fuel q.2).2).1 == 0) = false := hb1
   refine wk 2 ?_
   rcases Bool.eq_false_or_eq_true ((Ao cl s fuel e.thn (x.ev cl s (AD fuel q.2).2).2).m.fin == 0) with hf3 | hf3
   .
    have hnx := hI.i.next hI.fin hI.ov ht (by rw [CK hx]; exact bne_t hf2) (by rw [CK hx]; exact hz) (hTg _ (by rw [CK hx]; exact hgq.1)) (fun c => Li hup _ c) (fun c => FZ (fun st hs => Kr hup st.parts st (Nat.le_refl _)) c)
    rw [CK hx] at hnx
    refine wk 6 ?_;refine ax 24 (DY (hT _ hgq.1 (beq_iff_eq.1 hf2) (Ci hco hI.ov)) hf3 Try.func39) ?_;refine wk 10 ?_;refine asp 27 (fun hb2 => ?_) fun hb2 => ?_
    .
     refine act ?_
     have ho2 : (Ao cl s fuel e.thn (x.ev cl s (AD fuel q.2).2).2).over = true := hb2
     refine wk 7 ?_
     rw [show (Bk fuel (Bc cl s e.es) (fun c => Ao cl s fuel e.thn c) (fuel.toNat + 1) c) = _ from hnx.1.stop (.inr ho2)]
     exact ⟨hf3, [_, _], ⟨rfl, rfl, trivial⟩, (by unfold vo; rw [ho2]; rfl), hsub3⟩
    refine BM ?_
    have ho2 : (Ao cl s fuel e.thn (x.ev cl s (AD fuel q.2).2).2).over = false := hb2
    refine V4 ?_;exact ⟨(q.1 - 1, (Ao cl s fuel e.thn (x.ev cl s (AD fuel q.2).2).2)), Drop.mk' JY Hn, ⟨hnx.1, hf3, ho2⟩, hnx.2⟩
   have hnx := hI.i.next hI.fin hI.ov ht (by rw [CK hx]; exact bne_t hf2) (by rw [CK hx]; exact hz) (hTg _ (by rw [CK hx]; exact hgq.1)) (fun c => Li hup _ c) (fun c => FZ (fun st hs => Kr hup st.parts st (Nat.le_refl _)) c)
   rw [CK hx] at hnx
   refine AN ?_;refine zm 19 ?_;refine zm 20 ?_;refine zq 21 (AH rfl rfl rfl) ?_;refine zq 22 (Ax Am rfl rfl rfl rfl rfl rfl) ?_;refine zq 23 (Ar Am rfl rfl rfl DM rfl) ?_;refine zp (B5 (hT _ hgq.1 (beq_iff_eq.1 hf2) (Ci hco hI.ov)) hf3 Try.func39) fun ch hch => ?_
   rw [show (Bk fuel (Bc cl s e.es) (fun c => Ao cl s fuel e.thn c) (fuel.toNat + 1) c) = _ from hnx.1.stop (.inl hf3)]
   exact ⟨hf3, hch, hsub3⟩
  refine AN ?_;refine zm 10 ?_;refine zm 11 ?_;refine zq 12 (AH rfl rfl rfl) ?_;refine zq 13 (Ax Am rfl rfl rfl rfl rfl rfl) ?_;refine zq 14 (Ar Am rfl rfl rfl DM rfl) ?_;refine zq 15 (Ae Am rfl rfl rfl rfl rfl rfl (by decide) (Cf hx) rfl) ?_;refine zp (B5 (hE x hxm _ (C1 hI.i.good) (beq_iff_eq.1 hf1) hI.ov) hf2 Try.func76) fun ch hch => ?_
  rw [show (Bk fuel (Bc cl s e.es) (fun c => Ao cl s fuel e.thn c) (fuel.toNat + 1) c) = _ from hI.i.lastE hx hI.fin hI.ov ht (.inl (JV hf2))]
  exact ⟨hf2, hch, hsub3⟩
 refine AN ?_;refine zm 8 ?_;refine zp (B5 (IC C s fuel q.2 hfu (beq_iff_eq.1 hI.fin)) hf1 Try.func100) fun ch hch => ?_
 have ht : (AD fuel q.2).1 = false := by rw [<- G3 (beq_iff_eq.1 hI.fin)]; exact hf1
 rw [show (Bk fuel (Bc cl s e.es) (fun c => Ao cl s fuel e.thn c) (fuel.toNat + 1) c) = _ from hI.i.notick hI.fin hI.ov ht]
 exact ⟨hf1, hch, hsub3⟩
theorem Te (C : Core) (s : ByteArray) (fuel : Int) (cl : BD) (n : Nat) (w : Bool) (e : CS) (c : CM) (hfu : fuel <= 9223372036854775807) (hw0 : 0 <= C.words) (hw1 : C.words <= 1048576) (hok : e.ok C n w) (hk : e.Ok) (hc : c.good C.words.toNat) (h0 : c.m.fin = 0) (hov : c.over = false) (hg : C7 C.words.toNat cl) (hco : Ff cl)
    (hE : ∀ x ∈ e.es, ∀ c, CM.good C.words.toNat c -> c.m.fin = 0 -> c.over = false -> Es Try.prog C s fuel 76 [.loc x.row] c (.int .u32 (x.ev cl s c).1) (x.ev cl s c).2) (hcall : e.kind = 6 -> Es Try.prog C s fuel 80 [.int .i64 e.slot, (.lst false (e.es.map CE.cells))] c (.int .u32 (A5 cl s e.slot e.es [] c).1) (A5 cl s e.slot e.es [] c).2) (hT : ∀ c, CM.good C.words.toNat c -> c.m.fin = 0 -> c.over = false -> Es Try.prog C s fuel 39 [(.lst false (e.thn.map CS.cells))] c (vo (Ao cl s fuel e.thn c)) (Ao cl s fuel e.thn c)) (hL : ∀ c, CM.good C.words.toNat c -> c.m.fin = 0 -> c.over = false -> Es Try.prog C s fuel 39 [(.lst false (e.els.map CS.cells))] c (vo (Ao cl s fuel e.els c)) (Ao cl s fuel e.els c)) (hW : e.kind = 5 -> Es Try.prog C s fuel 79 [.loc e.row] c (vo (Bk fuel (Bc cl s e.es) (fun c => Ao cl s fuel e.thn c) (fuel.toNat + 1) c)) (Bk fuel (Bc cl s e.es) (fun c => Ao cl s fuel e.thn c) (fuel.toNat + 1) c)) : Es Try.prog C s fuel 58 [.loc e.row] c (vo (e.run cl s fuel c)) (e.run cl s fuel c) := by
 refine ACallB.of_body (n := 134) Am Try.func58 rfl rfl ?_;refine wk 19 ?_;refine asp 12 (fun hb1 => ?_) fun hb1 => ?_
 .
  refine act ?_
  have ho : e.kind = 1 := by simpa using hb1
  have n5 : e.kind ≠ 5 := by omega
  have n6 : e.kind ≠ 6 := by omega
  have hb1x := (Um hok ho).2
  have hlen1 := (Um hok ho).1
  obtain ⟨x, hx, hxm⟩ := Gu (l := e.es) (by omega)
  have hgx : (x.ev cl s c).2.good C.words.toNat /\ CD (x.ev cl s c).1 := CJ (s := s) hg x.parts x (Nat.le_refl _) (hk.esOk.1 x hxm) c hc
  have hv1 := hgx.2.1
  have hv2 := hgx.2.2
  rcases Bool.eq_false_or_eq_true ((x.ev cl s c).2.m.fin == 0) with hf | hf
  .
   refine MV (I := fk C s fuel) ⟨⟨_, rfl⟩, _, (by rw [regCells_len, hc.m.len]), rfl⟩ mix ?_;refine im 14 ?_;refine iq 15 (AH rfl rfl rfl) ?_;refine iq 16 (Ax Am rfl rfl rfl rfl rfl rfl) ?_;refine iw 17 (fun h' hI => by obtain ⟨⟨c', hc'⟩, _⟩ := hI; exact Ar Am rfl rfl rfl (.ptr _ _ _ _ _ _ _ _ hc' rfl rfl) rfl) ?_
   refine im 18 ?_;refine iq 19 (AH rfl rfl rfl) ?_;refine iq 20 (Ax Am rfl rfl rfl rfl rfl rfl) ?_;refine iq 21 (Ar Am rfl rfl rfl (.loc _) rfl) ?_;refine im 22 ?_;refine im 23 ?_;refine iq 24 (AH rfl rfl rfl) ?_;refine iq 25 (Ax Am rfl rfl rfl rfl rfl rfl) ?_;refine iq 26 (Ar Am rfl rfl rfl (.loc _) rfl) ?_;refine iq 27 (Ae Am rfl rfl rfl rfl rfl rfl (by decide) (Cf hx) rfl) ?_;refine ix 28 (DY (hE x hxm c hc h0 hov) hf Try.func76) (fun _ _ => ⟨⟨_, rfl⟩, _, (by rw [regCells_len, hgx.1.m.len]), rfl⟩) ?_;refine iw 29 (fun h' hI => by obtain ⟨_, es, hl, hw⟩ := hI; exact Ah Am rfl rfl rfl rfl rfl rfl hw hl.symm rfl hb1x.1 (by have := hb1x.2; omega)) ?_
   refine is (o_store Am rfl rfl rfl rfl rfl rfl (by rw [regCells_len, hgx.1.m.len]) (Bu (by have := hb1x; have := hgx.1.m.len; omega)) rfl (by decide) rfl Eu) (fun _ hI => ⟨hI.1, _, (by rw [List.length_set, regCells_len, hgx.1.m.len]), rfl⟩) ?_;refine ff (by kernel_rfl) ?_;refine wk 6 ?_;exact T2
  refine AGo.drawX 14 [true, true, true, true, true, true, true, true, true, true, true, true, true, true, false, true, false] mix (by kernel_rfl) rfl rfl rfl ?_;refine xm 14 ?_;refine xq 15 (AH rfl rfl rfl) ?_;refine xq 16 (Ax Am rfl rfl rfl rfl rfl rfl) ?_;refine xq 17 (Ar Am rfl rfl rfl DM rfl) ?_;refine xm 18 ?_;refine xq 19 (AH rfl rfl rfl) ?_;refine xq 20 (Ax Am rfl rfl rfl rfl rfl rfl) ?_;refine xq 21 (Ar Am rfl rfl rfl DM rfl) ?_;refine xm 22 ?_;refine xm 23 ?_;refine xq 24 (AH rfl rfl rfl) ?_;refine xq 25 (Ax Am rfl rfl rfl rfl rfl rfl) ?_;refine xq 26 (Ar Am rfl rfl rfl DM rfl) ?_;refine xq 27 (Ae Am rfl rfl rfl rfl rfl rfl (by decide) (Cf hx) rfl) ?_;refine xn ?_;refine xq 29 (Ah Am rfl rfl rfl rfl rfl rfl rfl (by rw [regCells_len]; first | rw [hgx.1.m.len] | rw [hc.m.len]) rfl hb1x.1 (by have := hb1x.2; omega)) ?_
  refine xn ?_;refine R7 ⟨_, _, _, B5 (hE x hxm c hc h0 hov) hf Try.func76, fun ch _ hch => ?_⟩
  rw [Uq n5 n6 hx (JV hf)]
  exact ⟨hf, hch, hsub3⟩
 refine BM ?_
 have n1 : e.kind ≠ 1 := by simpa using hb1
 refine wk 5 ?_;refine asp 30 (fun hb2 => ?_) fun hb2 => ?_
 .
  refine act ?_
  have ho : e.kind = 2 := by simpa using hb2
  have n5 : e.kind ≠ 5 := by omega
  have n6 : e.kind ≠ 6 := by omega
  have hlen2 := (Ul hok ho).1
  obtain ⟨x, hx, hxm⟩ := Gu (l := e.es) (by omega)
  have hgx : (x.ev cl s c).2.good C.words.toNat /\ CD (x.ev cl s c).1 := CJ (s := s) hg x.parts x (Nat.le_refl _) (hk.esOk.1 x hxm) c hc
  have hv1 := hgx.2.1
  have hv2 := hgx.2.2
  have hb2 := Ul hok ho
  obtain ⟨y, hy, hym⟩ := S0 (l := e.es) (by omega)
  have hgy : (y.ev cl s (x.ev cl s c).2).2.good C.words.toNat /\ CD (y.ev cl s (x.ev cl s c).2).1 := CJ (s := s) hg y.parts y (Nat.le_refl _) (hk.esOk.1 y hym) _ hgx.1
  refine asq ?_
  rcases Bool.eq_false_or_eq_true ((x.ev cl s c).2.m.fin == 0) with hf | hf
  .
   refine wk 6 ?_;refine aq 37 (Ae Am rfl rfl rfl rfl rfl rfl (by decide) (Cf hx) rfl) ?_;refine ax 38 (DY (hE x hxm c hc h0 hov) hf Try.func76) ?_;refine wk 3 ?_
   rcases Bool.eq_false_or_eq_true ((y.ev cl s (x.ev cl s c).2).2.m.fin == 0) with hgf | hgf
   .
    refine wk 6 ?_;refine aq 44 (Ae Am rfl rfl rfl rfl rfl rfl (by decide) (It hy) rfl) ?_;refine ax 45 (DY (hE y hym _ hgx.1 (beq_iff_eq.1 hf) (Ci hco hov)) hgf Try.func76) ?_;refine wk 2 ?_
    rcases Bool.eq_false_or_eq_true (!decide ((x.ev cl s c).1 >= e.size)) with hz0 | hz0
    .
     have hz : decide ((x.ev cl s c).1 >= e.size) = false := by simpa using hz0
     have hz2 : (x.ev cl s c).1 < e.size := by simpa using hz
     have hidx : 0 <= e.slot + (x.ev cl s c).1 /\ e.slot + (x.ev cl s c).1 < C.words.toNat := by omega
     refine wk 15 ?_;refine dx 60 (XN (VF C s fuel (y.ev cl s (x.ev cl s c).2).2 e.slot e.size (x.ev cl s c).1 hgx.2 ⟨hb2.2.1, hb2.2.2.1⟩ ⟨hb2.2.2.2.1, by have := hb2.2.2.2.2; omega⟩ (beq_iff_eq.1 hgf) hz) hgf Try.func77) ?_
     refine wk 1 ?_;refine dq 62 (Ah Am rfl rfl rfl rfl rfl rfl rfl (by rw [regCells_len]; first | rw [hgy.1.m.len] | rw [hc.m.len]) rfl hidx.1 (by have := hidx.2; omega)) ?_;refine DOps.w rfl rfl (o_store Am rfl rfl rfl rfl rfl rfl (by rw [regCells_len, hgy.1.m.len]) (Bu (by have := hidx; have := hgy.1.m.len; omega)) rfl (by decide) rfl Eu) ?_;refine wk 7 ?_;exact T2
    have hz : decide ((x.ev cl s c).1 >= e.size) = true := by simpa using hz0
    refine AGo.drawX 14 [true, true, true, true, true, true, true, true, true, true, true, true, true, true, false, true, false, false] mix (by kernel_rfl) rfl rfl rfl ?_;refine xm 46 ?_;refine xq 47 (AH rfl rfl rfl) ?_;refine xq 48 (Ax Am rfl rfl rfl rfl rfl rfl) ?_;refine xq 49 (Ar Am rfl rfl rfl DM rfl) ?_;refine xm 50 ?_;refine xm 51 ?_;refine xq 52 (AH rfl rfl rfl) ?_;refine xq 53 (Ax Am rfl rfl rfl rfl rfl rfl) ?_;refine xq 54 (Ar Am rfl rfl rfl DM rfl) ?_;refine xm 55 ?_;refine xq 56 (AH rfl rfl rfl) ?_;refine xq 57 (Ax Am rfl rfl rfl rfl rfl rfl) ?_;refine xq 58 (Ar Am rfl rfl rfl DM rfl) ?_;refine xm 59 ?_;refine xn ?_;refine xm 61 ?_;refine xn ?_;refine xn ?_;refine R7 ⟨_, _, _, B5 (cat_stop C s fuel (y.ev cl s (x.ev cl s c).2).2 e.slot e.size (x.ev cl s c).1 hgx.2 ⟨hb2.2.1, hb2.2.2.1⟩ ⟨hb2.2.2.2.1, by have := hb2.2.2.2.2; omega⟩ (beq_iff_eq.1 hgf) hz) rfl Try.func77, fun ch _ hch => ?_⟩
    rw [Yt ho hx hy (bne_t hf) (bne_t hgf) hz]
    exact ⟨rfl, hch, hsub3⟩
   refine AN ?_;refine zm 39 ?_;refine zm 40 ?_;refine zq 41 (AH rfl rfl rfl) ?_;refine zq 42 (Ax Am rfl rfl rfl rfl rfl rfl) ?_;refine zq 43 (Ar Am rfl rfl rfl DM rfl) ?_;refine zq 44 (Ae Am rfl rfl rfl rfl rfl rfl (by decide) (It hy) rfl) ?_;refine zp (B5 (hE y hym _ hgx.1 (beq_iff_eq.1 hf) (Ci hco hov)) hgf Try.func76) fun ch hch => ?_
   rw [Yu ho hx hy (bne_t hf) (JV hgf)]
   exact ⟨hgf, hch, hsub3⟩
  refine AN ?_;refine zm 32 ?_;refine zm 33 ?_;refine zq 34 (AH rfl rfl rfl) ?_;refine zq 35 (Ax Am rfl rfl rfl rfl rfl rfl) ?_;refine zq 36 (Ar Am rfl rfl rfl DM rfl) ?_;refine zq 37 (Ae Am rfl rfl rfl rfl rfl rfl (by decide) (Cf hx) rfl) ?_;exact X7
 refine BM ?_
 have n2 : e.kind ≠ 2 := by simpa using hb2
 refine wk 5 ?_;refine asp 63 (fun hb3 => ?_) fun hb3 => ?_
 .
  refine act ?_
  have ho : e.kind = 3 := by simpa using hb3
  have n5 : e.kind ≠ 5 := by omega
  have n6 : e.kind ≠ 6 := by omega
  have hK := Rj hok n5 n6 (by omega)
  obtain ⟨x, hx, hxm⟩ := Gu (l := e.es) (by omega)
  have hgx : (x.ev cl s c).2.good C.words.toNat /\ CD (x.ev cl s c).1 := CJ (s := s) hg x.parts x (Nat.le_refl _) (hk.esOk.1 x hxm) c hc
  have hv1 := hgx.2.1
  have hv2 := hgx.2.2
  rcases Bool.eq_false_or_eq_true ((x.ev cl s c).2.m.fin == 0) with hf | hf
  .
   rcases Bool.eq_false_or_eq_true ((LU (x.ev cl s c).1 (x.ev cl s c).2).m.fin == 0) with hpf | hpf
   .
    refine wk 7 ?_;refine aq 71 (Ae Am rfl rfl rfl rfl rfl rfl (by decide) (Cf hx) rfl) ?_;refine ax 72 (DY (hE x hxm c hc h0 hov) hf Try.func76) ?_;refine ax 73 (DY (RM C s fuel (x.ev cl s c).2 (x.ev cl s c).1 hgx.2 hgx.1.m.out (beq_iff_eq.1 hf)) hpf Try.func78) ?_;refine wk 7 ?_;exact T2
   refine AN ?_;refine zm 65 ?_;refine zm 66 ?_;refine zm 67 ?_;refine zq 68 (AH rfl rfl rfl) ?_;refine zq 69 (Ax Am rfl rfl rfl rfl rfl rfl) ?_;refine zq 70 (Ar Am rfl rfl rfl DM rfl) ?_;refine zq 71 (Ae Am rfl rfl rfl rfl rfl rfl (by decide) (Cf hx) rfl) ?_;refine zx 72 (DY (hE x hxm c hc h0 hov) hf Try.func76) ?_;refine zp (B5 (RM C s fuel (x.ev cl s c).2 (x.ev cl s c).1 hgx.2 hgx.1.m.out (beq_iff_eq.1 hf)) hpf Try.func78) fun ch hch => ?_
   rw [Ut ho hx (bne_t hf)]
   exact ⟨hpf, hch, hsub3⟩
  refine AN ?_;refine zm 65 ?_;refine zm 66 ?_;refine zm 67 ?_;refine zq 68 (AH rfl rfl rfl) ?_;refine zq 69 (Ax Am rfl rfl rfl rfl rfl rfl) ?_;refine zq 70 (Ar Am rfl rfl rfl DM rfl) ?_;refine zq 71 (Ae Am rfl rfl rfl rfl rfl rfl (by decide) (Cf hx) rfl) ?_;exact X7
 refine BM ?_
 have n3 : e.kind ≠ 3 := by simpa using hb3
 refine wk 5 ?_;refine asp 74 (fun hb4 => ?_) fun hb4 => ?_
 .
  refine act ?_
  have ho : e.kind = 4 := by simpa using hb4
  have n5 : e.kind ≠ 5 := by omega
  have n6 : e.kind ≠ 6 := by omega
  have hK := Rj hok n5 n6 (by omega)
  obtain ⟨x, hx, hxm⟩ := Gu (l := e.es) (by omega)
  have hgx : (x.ev cl s c).2.good C.words.toNat /\ CD (x.ev cl s c).1 := CJ (s := s) hg x.parts x (Nat.le_refl _) (hk.esOk.1 x hxm) c hc
  have hv1 := hgx.2.1
  have hv2 := hgx.2.2
  refine wk 2 ?_
  rcases Bool.eq_false_or_eq_true ((x.ev cl s c).2.m.fin == 0) with hf | hf
  .
   refine wk 6 ?_;refine aq 81 (Ae Am rfl rfl rfl rfl rfl rfl (by decide) (Cf hx) rfl) ?_;refine ax 82 (DY (hE x hxm c hc h0 hov) hf Try.func76) ?_;refine wk 2 ?_;refine asp 83 (fun hb5 => ?_) fun hb5 => ?_
   .
    refine act ?_
    have hz : ((x.ev cl s c).1 != 0) = true := hb5
    refine asq ?_
    rcases Bool.eq_false_or_eq_true ((Ao cl s fuel e.thn (x.ev cl s c).2).m.fin == 0) with hf3 | hf3
    .
     refine wk 6 ?_;refine ax 89 (DY (hT _ hgx.1 (beq_iff_eq.1 hf) (Ci hco hov)) hf3 Try.func39) ?_;refine wk 6 ?_
     rw [Us ho hx (bne_t hf) hz]
     exact ⟨hf3, [_, _], ⟨rfl, rfl, trivial⟩, rfl, hsub3⟩
    refine AN ?_;refine zm 84 ?_;refine zm 85 ?_;refine zq 86 (AH rfl rfl rfl) ?_;refine zq 87 (Ax Am rfl rfl rfl rfl rfl rfl) ?_;refine zq 88 (Ar Am rfl rfl rfl DM rfl) ?_;refine zp (B5 (hT _ hgx.1 (beq_iff_eq.1 hf) (Ci hco hov)) hf3 Try.func39) fun ch hch => ?_
    rw [Us ho hx (bne_t hf) hz]
    exact ⟨hf3, hch, hsub3⟩
   refine BM ?_
   have hz : ((x.ev cl s c).1 != 0) = false := hb5
   refine wk 2 ?_
   rcases Bool.eq_false_or_eq_true ((Ao cl s fuel e.els (x.ev cl s c).2).m.fin == 0) with hf3 | hf3
   .
    refine wk 6 ?_;refine ax 97 (DY (hL _ hgx.1 (beq_iff_eq.1 hf) (Ci hco hov)) hf3 Try.func39) ?_;refine wk 6 ?_
    rw [Ur ho hx (bne_t hf) hz]
    exact ⟨hf3, [_, _], ⟨rfl, rfl, trivial⟩, rfl, hsub3⟩
   refine AN ?_;refine zm 92 ?_;refine zm 93 ?_;refine zq 94 (AH rfl rfl rfl) ?_;refine zq 95 (Ax Am rfl rfl rfl rfl rfl rfl) ?_;refine zq 96 (Ar Am rfl rfl rfl DM rfl) ?_;refine zp (B5 (hL _ hgx.1 (beq_iff_eq.1 hf) (Ci hco hov)) hf3 Try.func39) fun ch hch => ?_
   rw [Ur ho hx (bne_t hf) hz]
   exact ⟨hf3, hch, hsub3⟩
  refine AN ?_;refine zm 76 ?_;refine zm 77 ?_;refine zq 78 (AH rfl rfl rfl) ?_;refine zq 79 (Ax Am rfl rfl rfl rfl rfl rfl) ?_;refine zq 80 (Ar Am rfl rfl rfl DM rfl) ?_;refine zq 81 (Ae Am rfl rfl rfl rfl rfl rfl (by decide) (Cf hx) rfl) ?_;exact X7
 refine BM ?_
 have n4 : e.kind ≠ 4 := by simpa using hb4
 refine wk 5 ?_;refine asp 100 (fun hb6 => ?_) fun hb6 => ?_
 .
  refine act ?_
  have ho : e.kind = 5 := by simpa using hb6
  refine asq ?_
  rcases Bool.eq_false_or_eq_true ((Bk fuel (Bc cl s e.es) (fun c => Ao cl s fuel e.thn c) (fuel.toNat + 1) c).m.fin == 0) with hf | hf
  .
   refine wk 3 ?_;refine ax 104 (DY (hW ho) hf Try.func79) ?_;refine wk 6 ?_
   rw [Up ho]
   exact ⟨hf, [_, _], ⟨rfl, rfl, trivial⟩, rfl, hsub3⟩
  refine AN ?_;refine zm 102 ?_;refine zm 103 ?_;refine zp (B5 (hW ho) hf Try.func79) fun ch hch => ?_
  rw [Up ho]
  exact ⟨hf, hch, hsub3⟩
 refine BM ?_
 have n5 : e.kind ≠ 5 := by simpa using hb6
 refine wk 5 ?_;refine asp 107 (fun hb7 => ?_) fun hb7 => ?_
 .
  refine act ?_
  have ho : e.kind = 6 := by simpa using hb7
  rcases Bool.eq_false_or_eq_true ((A5 cl s e.slot e.es [] c).2.m.fin == 0) with hf | hf
  .
   refine wk 10 ?_;refine dx 118 (DY (hcall ho) hf Try.func80) ?_;refine wk 7 ?_;exact T2
  refine AGo.drawX 9 [true, true, true, true, true, true, true, true, true, false] mix (by kernel_rfl) rfl rfl rfl ?_;refine xm 109 ?_;refine xm 110 ?_;refine xq 111 (AH rfl rfl rfl) ?_;refine xq 112 (Ax Am rfl rfl rfl rfl rfl rfl) ?_;refine xq 113 (Ar Am rfl rfl rfl DM rfl) ?_;refine xm 114 ?_;refine xq 115 (AH rfl rfl rfl) ?_;refine xq 116 (Ax Am rfl rfl rfl rfl rfl rfl) ?_;refine xq 117 (Ar Am rfl rfl rfl DM rfl) ?_;refine xn ?_;refine R7 ⟨_, _, _, B5 (hcall ho) hf Try.func80, fun ch _ hch => ?_⟩
  rw [Uo ho]
  exact ⟨hf, hch, hsub3⟩
 refine BM ?_
 have n6 : e.kind ≠ 6 := by simpa using hb7
 refine wk 5 ?_;refine asp 119 (fun hb8 => ?_) fun hb8 => ?_
 .
  refine act ?_
  have ho : e.kind = 7 := by simpa using hb8
  refine wk 10 ?_;refine asp 126 (fun hb9 => ?_) fun hb9 => ?_
  .
   refine act ?_
   obtain ⟨x, hx, hxm⟩ := Gu (l := e.es) (by have h := hb9; simp at h; first | exact h | exact List.length_pos_iff.2 h)
   have hgx : (x.ev cl s c).2.good C.words.toNat /\ CD (x.ev cl s c).1 := CJ (s := s) hg x.parts x (Nat.le_refl _) (hk.esOk.1 x hxm) c hc
   have hv1 := hgx.2.1
   have hv2 := hgx.2.2
   refine asq ?_
   rcases Bool.eq_false_or_eq_true ((x.ev cl s c).2.m.fin == 0) with hf | hf
   .
    refine wk 6 ?_;refine aq 132 (Ae Am rfl rfl rfl rfl rfl rfl (by decide) (Cf hx) rfl) ?_;refine ax 133 (DY (hE x hxm c hc h0 hov) hf Try.func76) ?_;refine wk 4 ?_
    rw [Yo ho hx hf]
    exact ⟨hf, [_, _], ⟨rfl, rfl, trivial⟩, rfl, hsub3⟩
   refine AN ?_;refine zm 127 ?_;refine zm 128 ?_;refine zq 129 (AH rfl rfl rfl) ?_;refine zq 130 (Ax Am rfl rfl rfl rfl rfl rfl) ?_;refine zq 131 (Ar Am rfl rfl rfl DM rfl) ?_;refine zq 132 (Ae Am rfl rfl rfl rfl rfl rfl (by decide) (Cf hx) rfl) ?_;refine zp (B5 (hE x hxm c hc h0 hov) hf Try.func76) fun ch hch => ?_
   rw [Yn ho hx hf]
   exact ⟨hf, hch, hsub3⟩
  refine BM ?_
  have hn0 : e.es.length = 0 := by have h := hb9; simp at h; simp [h]
  refine wk 7 ?_
  rw [Yp ho hn0 (beq_iff_eq.2 h0)]
  exact ⟨beq_iff_eq.2 h0, [_, _], ⟨rfl, rfl, trivial⟩, rfl, hsub3⟩
 refine BM ?_
 have n7 : e.kind ≠ 7 := by simpa using hb8
 have hK := Rj hok n5 n6 n7
 refine wk 7 ?_;exact T2
theorem QM (C : Core) (s : ByteArray) (fuel : Int) (cl : BD) (m : Nat) (f : Int) (g : CFn) (l : List CE) (c : CM) (hcl : cl = BX C s fuel (m + 1)) (hfu : fuel <= 9223372036854775807) (hw0 : 0 <= C.words) (hw1 : C.words <= 1048576) (hf0 : 0 <= f) (hgf : C.funcs[f.toNat]? = some g) (hgp : 0 <= g.slots /\ 0 <= g.first /\ g.first + g.slots <= C.words) (hgl : g.params = (l.length : Int)) (hla : (l.length : Int) <= g.slots) (hl6 : l.length <= 6) (hlk : ∀ x ∈ l, x.Ok) (hc : c.good C.words.toNat) (h0 : c.m.fin = 0) (hov : c.over = false) (hg : C7 C.words.toNat cl) (hco : Ff cl)
    (hE : ∀ x ∈ l, ∀ c, CM.good C.words.toNat c -> c.m.fin = 0 -> c.over = false -> Es Try.prog C s fuel 76 [.loc x.row] c (.int .u32 (x.ev cl s c).1) (x.ev cl s c).2) (hB : ∀ c, CM.good C.words.toNat c -> c.m.fin = 0 -> c.over = false -> Es Try.prog C s fuel 39 [(.lst false (g.body.map CS.cells))] c (vo (Ao (BX C s fuel m) s fuel g.body c)) (Ao (BX C s fuel m) s fuel g.body c)) : Es Try.prog C s fuel 80 [.int .i64 f, (.lst false (l.map CE.cells))] c (.int .u32 (A5 cl s f l [] c).1) (A5 cl s f l [] c).2 := by
 refine ACallB.of_body (n := 70) Am Try.func80 rfl rfl ?_;refine wk 6 ?_;refine ax 7 (KJ Am 3) ?_;refine wk 9 ?_;refine Bo (γ := Nat × List Int × CM) 4 (fun q => ⟨70, (Ad (Ad (Ad (Ad (Ad (Ad Bt 0 (.ptr 0 1 0 0)) 1 (.int .i64 f)) 2 (.lst false (l.map CE.cells))) 7 (.ptr 3 1 0 0)) 14 (.int .i64 (l.length : Int))) 15 (.int .i64 (q.1 : Int))), (hput (hput (hput (hput (Bl 4) 0 (.row false 7 [Ex C s fuel q.2.2])) 1 (.row true 1 (Ac (q.2.2).m.words))) 2 (.row true 1 (As (q.2.2).m.out))) 3 (.row false 6 [Pk q.2.1]))⟩) (fun q => cA C.words.toNat cl s f l (A5 cl s f l [] c) q) (fun q => l.length - q.1) (0, [], c) (Sub.mk' (by repeat (first | exact ESub.new _ | refine ESub.put ?_ (by first | rfl | exact congrArg (fun n : Nat => some (AV.int .i64 (n : Int))) (List.length_map _)))) FV) ⟨⟨rfl, (by intro v hv; cases hv), hc, (by rw [List.drop_zero]), Nat.zero_le _⟩, h0, hov⟩ (fun _ => AQ (AQ (AQ (AQ (fun b hb => Bb hb) rfl) rfl) rfl) rfl) ?_
 intro q hI
 refine wk 5 ?_;refine asp 16 (fun hb1 => ?_) fun hb1 => ?_
 .
  refine act ?_
  have hql : q.1 < l.length := by have h := hb1; simp at h; omega
  obtain ⟨x, hx⟩ := At hql
  have hxm := List.mem_of_getElem? hx
  have hgx : (x.ev cl s q.2.2).2.good C.words.toNat /\ CD (x.ev cl s q.2.2).1 := CJ (s := s) hg x.parts x (Nat.le_refl _) (hlk x hxm) q.2.2 hI.i.good
  refine wk 8 ?_
  rcases Bool.eq_false_or_eq_true ((x.ev cl s q.2.2).2.m.fin == 0) with hf | hf
  .
   refine wk 5 ?_;refine aq 22 (Ae Am rfl rfl rfl rfl rfl rfl (Int.natCast_nonneg _) (OK hx) rfl) ?_;refine ax 23 (DY (hE x hxm q.2.2 hI.i.good hI.fin hI.ov) hf Try.func76) ?_;refine aq 24 (Oo Am rfl rfl rfl rfl rfl rfl (Int.natCast_nonneg _) (by show (q.1 : Int) < 6; omega) rfl) ?_;refine AOps.w rfl rfl (o_store Am rfl rfl rfl rfl rfl rfl rfl rfl rfl (by show 0 + q.1 * 1 + 1 <= 6; omega) rfl Eu) ?_;refine wk 2 ?_;refine aq 25 (Cc rfl rfl hql (Nat.le_trans hl6 (by decide))) ?_;refine wk 2 ?_;exact ⟨(q.1 + 1, q.2.1 ++ [(x.ev cl s q.2.2).1], (x.ev cl s q.2.2).2), Drop.mk' JY (by repeat (first | exact HDrop.none _ _ | exact LK _ _ | refine HDrop.put ?_ (by first | rfl | exact congrArg (fun es => some (AObj.row false 6 [es])) (TB (by rw [hI.i.len]; omega) (by show 0 + q.1 * 1 = _; rw [hI.i.len]; omega))) rfl (by first | rfl | exact Db _ _ | exact L5 _ | exact IW _ _ rfl rfl | exact wlk_avoid _ _ _ rfl rfl rfl))), ⟨hI.i.next hx (bne_t hf) hgx, beq_iff_eq.1 hf, Ci hco hI.ov⟩, (by show l.length - (q.1 + 1) < l.length - q.1; omega)⟩
  refine AN ?_;refine zm 18 ?_;refine zm 19 ?_;refine zm 20 ?_;refine zm 21 ?_;refine zq 22 (Ae Am rfl rfl rfl rfl rfl rfl (Int.natCast_nonneg _) (OK hx) rfl) ?_;refine zp (B5 (hE x hxm q.2.2 hI.i.good hI.fin hI.ov) hf Try.func76) fun ch hch => ?_
  rw [<- hI.i.eq, W2 hx (JV hf)]
  exact ⟨hf, hch, hsub3⟩
 refine BM ?_
 have hge : l.length <= q.1 := by have h := hb1; simp at h; omega
 have hql : q.1 = l.length := Nat.le_antisymm hI.i.le hge
 have hdg : (AD fuel q.2.2).2.good C.words.toNat := C1 hI.i.good
 refine wk 2 ?_
 rcases Bool.eq_false_or_eq_true ((AD fuel q.2.2).2.m.fin == 0) with hf1 | hf1
 .
  have ht : (AD fuel q.2.2).1 = true := by rw [<- G3 hI.fin]; exact hf1
  refine wk 2 ?_;refine ax 27 (DY (IC C s fuel q.2.2 hfu hI.fin) hf1 Try.func100) ?_;refine wk 8 ?_;refine aq 33 (Ae Am rfl rfl rfl rfl rfl rfl hf0 (Ds hgf) rfl) ?_;refine wk 20 ?_;refine dq 50 (AI (r := .int .i64 (g.first + g.slots)) rfl rfl rfl Dz) ?_;refine dq 51 (Uz Am (w := (AD fuel q.2.2).2.m.words) (z1 := g.first) (z2 := g.slots) (by exact hdg.m.len.symm) hgp.2.1 hgp.1 (by have := hdg.m.len; omega)) ?_;refine wk 5 ?_;refine AOps.w rfl rfl (o_clearWs Am (w := (AD fuel q.2.2).2.m.words) (a := g.first) (n := g.slots.toNat) hgp.2.1 (by have := hdg.m.len; omega) (by exact hdg.m.len.symm)) ?_;refine wk 2 ?_;refine AGo.ghost (.freezeArr 7 3 rfl rfl rfl) ?_;refine wk 6 ?_;refine aq 58 (q_values Am (l := q.2.1) (z := g.params) (by rw [hgl, hI.i.len, hql]) (by rw [hI.i.len, hql]; exact hl6)) ?_;refine ax 59 (o_copyWs Am (w := (XD g (AD fuel q.2.2).2 g.slots.toNat).m.words) (l := q.2.1) (a := g.first) (n := g.slots.toNat) hgp.2.1 (by rw [hI.i.len, hql]; exact hl6) (by rw [hI.i.len, hql]; omega) (by have := (Kd hdg g.slots.toNat (g := g)).m.len; omega) (by exact ((Kd hdg g.slots.toNat (g := g)).m.len).symm)) ?_
  refine wk 2 ?_
  rcases Bool.eq_false_or_eq_true ((Ao (BX C s fuel m) s fuel g.body (GW g q.2.1 (AD fuel q.2.2).2 q.2.1.length)).m.fin == 0) with hf3 | hf3
  .
   refine wk 6 ?_;refine ax 66 (DY (hB _ (LG hdg hI.i.args _) (show (AD fuel q.2.2).2.m.fin = 0 from beq_iff_eq.1 hf1) hI.ov) hf3 Try.func39) ?_;refine wk 12 ?_
   rw [<- hI.i.eq, Nr hge, hcl, O5 ht hgf]
   exact ⟨hf3, [_], ⟨rfl, trivial⟩, rfl, hsub3⟩
  refine AN ?_;refine zm 61 ?_;refine zm 62 ?_;refine zq 63 (AH rfl rfl rfl) ?_;refine zq 64 (Ax Am rfl rfl rfl rfl rfl rfl) ?_;refine zq 65 (Ar Am rfl rfl rfl DM rfl) ?_;refine zp (B5 (hB _ (LG hdg hI.i.args _) (show (AD fuel q.2.2).2.m.fin = 0 from beq_iff_eq.1 hf1) hI.ov) hf3 Try.func39) fun ch hch => ?_
  rw [<- hI.i.eq, Nr hge, hcl, O5 ht hgf]
  exact ⟨hf3, hch, hsub3⟩
 refine AN ?_;refine zm 26 ?_;refine zp (B5 (IC C s fuel q.2.2 hfu hI.fin) hf1 Try.func100) fun ch hch => ?_
 have ht : (AD fuel q.2.2).1 = false := by rw [<- G3 hI.fin]; exact hf1
 rw [<- hI.i.eq, Nr hge, hcl, Xf ht]
 exact ⟨hf1, hch, hsub3⟩
def DfOk (H : AB) (ι : A2) : Option AV -> List Deferred -> Prop
  | none, l => l = []
  | some x, l => ∃ f us vs, l = [{ target := .fn f vs, args := us }] /\ Rel H ι x (.func f us vs)
structure SimF (x : Option AV) (H : AB) (ι : A2) (s : Al) (a : Act) (w : World) : Prop where
  sim : Sim H ι s { a with defers := [] } w
  df : DfOk H ι x a.defers
theorem DfOk.mono {H H' : AB} {ι ι' : A2} {x : Option AV} {l : List Deferred} (h : DfOk H ι x l) (hk : KLe H H') (hl : LLe ι ι') : DfOk H' ι' x l := by
  cases x with
  | none => exact h
  | some x =>
    obtain ⟨f, us, vs, h1, h2⟩ := h
    exact ⟨f, us, vs, h1, h2.mono hk hl⟩
def PostF (H : AB) (ι : A2) (h : Ab) (w : World) (Q : Exit -> Al -> Option AV -> Prop) : Exit -> Act -> World -> Prop := fun e a' w' =>
  ∃ s' x' H' ι', Q e s' x' /\ SimF x' H' ι' s' a' w' /\ Step H ι h w H' ι' s'.h w'
def AGoF (P : Program) (c : Code) (s : Al) (x : Option AV) (Q : Exit -> Al -> Option AV -> Prop) : Prop :=
  ∀ H ι a w, SimF x H ι s a w -> c.wp P (PostF H ι s.h w Q) a w
def AOpsF (P : Program) (ops : Array Oper) (l : List Oper) (s : Al) (x : Option AV) (Q : Exit -> Al -> Option AV -> Prop) : Prop :=
  ∀ H ι a w, SimF x H ι s a w -> wpList P ops (PostF H ι s.h w Q) l a w
def ck (K : Al -> Option AV -> Prop) (Q : Exit -> Al -> Option AV -> Prop) : Exit -> Al -> Option AV -> Prop
  | .normal, s, x => K s x
  | e, s, x => Q e s x
section
variable {P : Program} {Q : Exit -> Al -> Option AV -> Prop} {s : Al} {x : Option AV}
theorem PostF.step {H : AB} {ι : A2} {h : Ab} {w : World} {H' : AB} {ι' : A2} {h' : Ab} {w' : World} (hr : HeapRel H ι h w) (hr' : HeapRel H' ι' h' w') (st : Step H ι h w H' ι' h' w') {e : Exit} {a : Act} {w'' : World} (hp : PostF H' ι' h' w' Q e a w'') : PostF H ι h w Q e a w'' := by
  obtain ⟨s', x', H'', ι'', q, r, t⟩ := hp
  exact ⟨s', x', H'', ι'', q, r, st.trans hr hr' t⟩
theorem AGoF.seq {c d : Code} (h : AGoF P c s x (ck (fun s' x' => AGoF P d s' x' Q) Q)) : AGoF P (.seq c d) s x Q := by
  intro H ι a w hs
  refine wp_seq (wp_mono (h H ι a w hs) fun e a' w' hp => ?_)
  cases e with
  | normal =>
    obtain ⟨s', x', H', ι', q, r, t⟩ := hp
    exact wp_mono (q H' ι' a' w' r) fun e a'' w'' hp' => PostF.step hs.sim.heap r.sim.heap t hp'
  | _ => exact hp
theorem AGoF.region {id : Nat} {ops : Array Oper} (h : AOpsF P ops ops.toList s x Q) : AGoF P (.region id ops false) s x Q := fun H ι a w hs => wp_region_list (h H ι a w hs)
theorem AGoF.skip (h : Q .normal s x) : AGoF P .skip s x Q := fun H ι a w hs => wp_skip ⟨s, x, H, ι, h, hs, Step.refl _ _ _ _⟩
theorem AGoF.ret (h : Q .ret s x) : AGoF P .ret s x Q := fun H ι a w hs => wp_ret ⟨s, x, H, ι, h, hs, Step.refl _ _ _ _⟩
theorem AGoF.of {c : Code} (h : AGo P c s (fun e s' => Q e s' none)) : AGoF P c s none Q := by
  intro H ι a w hs
  have hd : a.defers = [] := hs.df
  have e : { a with defers := [] } = a := by cases a; simp only at hd; subst hd; rfl
  have h0 := hs.sim
  rw [e] at h0
  refine wp_mono (h H ι a w h0) fun e a' w' hp => ?_
  obtain ⟨s', H', ι', q, r, t⟩ := hp
  have e' : { a' with defers := [] } = a' := by
    have := r.d
    cases a'; simp only at this; subst this; rfl
  exact ⟨s', none, H', ι', q, ⟨by rw [e']; exact r, r.d⟩, t⟩
theorem SimF.put {H : AB} {ι : A2} {a : Act} {w : World} (hs : SimF x H ι s a w) {H' : AB} {ι' : A2} {h' : Ab} {w' : World} {d : Option Nat} {r : Option AV} {v : Value} (h2 : HeapRel H' ι' h' w') (h3 : Step H ι s.h w H' ι' h' w') (h1 : ∀ y, r = some y -> Rel H' ι' y v) (hd : ∀ t, d = some t -> t < s.n) : SimF x H' ι' ⟨s.n, Em s.env d r, h'⟩ (a.put d v) w' := by
  refine ⟨?_, ?_⟩
  . have := hs.sim.put (d := d) h2 h3 h1 hd
    rw [F7] at this
    exact this
  . have := hs.df.mono h3.kle h3.lle
    cases d <;> exact this
theorem AOpsF.nil {ops : Array Oper} (h : Q .normal s x) : AOpsF P ops [] s x Q := fun H ι a w hs => ⟨s, x, H, ι, h, hs, Step.refl _ _ _ _⟩
theorem M1 {ops : Array Oper} {H H' : AB} {ι ι' : A2} {h h' : Ab} {w w' : World} (hr : HeapRel H ι h w) (hr' : HeapRel H' ι' h' w') (st : Step H ι h w H' ι' h' w') : ∀ (l : List Oper) (a1 : Act) (w1 : World), wpList P ops (PostF H' ι' h' w' Q) l a1 w1 -> wpList P ops (PostF H ι h w Q) l a1 w1 := by
  have hpost : ∀ e a2 w2, PostF H' ι' h' w' Q e a2 w2 -> PostF H ι h w Q e a2 w2 := fun e a2 w2 hp => PostF.step hr hr' st hp
  exact TZ
theorem Hv {ops : Array Oper} {o : Oper} {H : AB} {ι : A2} {a : Act} {w : World} (hs : SimF x H ι s a w) (hg : Ay ops o s.env = some true) : Region.wanted o (yielded ops a.tmps) = true := Bx hs.sim hg
theorem AOpsF.step {ops : Array Oper} {o : Oper} {rest : List Oper} {R : List Nat} {W : List (Nat × AObj)} {r : Option AV} (hg : Ay ops o s.env = some true) (ho : OLoc P o s.env s.h R W r) (hd : ∀ t, o.dst = some t -> t < s.n) (h : AOpsF P ops rest ⟨s.n, Em s.env o.dst r, hputs s.h W⟩ x Q) :
    AOpsF P ops (o :: rest) s x Q := by
  intro H ι a w hs
  unfold wpList
  rw [Hv hs hg]
  simp only [if_true]
  refine .inl (G0 (R := fun v w' => ∃ H' ι', (∀ x, r = some x -> Rel H' ι' x v) /\ HeapRel H' ι' (hputs s.h W) w' /\ Step H ι s.h w H' ι' (hputs s.h W) w')
    (Oper.wp_mono (fun a' w' hx => ?_) (ho H ι { a with defers := [] } w s _ hs.sim (fun _ _ => rfl) (fun _ _ => rfl))) (fun v w' hx => ?_))
  . obtain ⟨v, H', ι', h1, h2⟩ := hx
    exact ⟨v, h1, H', ι', h2⟩
  . obtain ⟨H', ι', h1, h2, h3⟩ := hx
    have hs' := hs.put h2 h3 h1 hd
    exact M1 hs.sim.heap h2 h3 _ _ _ (h H' ι' _ w' hs')
theorem AOpsF.d {ops : Array Oper} {o : Oper} {rest : List Oper} {y : Operand} {tys : Array TypeId} {f : Fn} {xs cs : List AV} (hg : Ay ops o s.env = some true) (ho : o.op = .defer { callee := .value y, args := #[], argTypes := tys }) (hdst : o.dst = none) (hy : Aq s.env y = some (.fn f xs cs)) (h : AOpsF P ops rest s (some (.fn f xs cs)) Q) :
    AOpsF P ops (o :: rest) s none Q := by
  intro H ι a w hs
  unfold wpList
  rw [Hv hs hg]
  simp only [if_true]
  have hv : Rel H ι (.fn f xs cs) (a.eval y) := Ap hs.sim hy
  obtain ⟨us, vs, hva, h1, h2, h3, h4⟩ := hv.fn_inv
  replace hva : a.eval y = .func f us vs := hva
  have hexec : (execOp a.eval o).run P w = .ok (.defer { target := .fn f vs, args := us }) w := by
    simp [execOp, ho, resolve, hva, Deferred.ofValue]
  refine .inl ?_
  unfold Oper.wp
  rw [hexec]
  show wpList P ops _ rest (({ a with defers := { target := .fn f vs, args := us } :: a.defers } : Act).put o.dst undef) w
  rw [hdst]
  have hd : a.defers = [] := hs.df
  refine h H ι _ w ⟨?_, ?_⟩
  . exact hs.sim
  . exact ⟨f, us, vs, by show _ :: a.defers = _; rw [hd], .fn ι f xs cs us vs h1 h2 h3 h4⟩
end
section
variable {P : Program} {ops : Array Oper} {n : Nat} {e : Az} {h : Ab} {x : Option AV} {Q : Exit -> Al -> Option AV -> Prop} {o : Oper} {rest : List Oper} {R : List Nat} {W : List (Nat × AObj)} {r : AV}
theorem fq (d : Nat) (hq : QLoc P o e h R r) (hr : AOpsF P ops rest ⟨n, Ad e d r, h⟩ x Q) (hd : o.dst = some d := by exact rfl) (hb : Nat.blt d n = true := by exact rfl) (hg : Ay ops o e = some true := by exact rfl) : AOpsF P ops (o :: rest) ⟨n, e, h⟩ x Q :=
  AOpsF.step hg hq.loc (DZ hd hb) (by rw [hd]; exact hr)
end
section
variable {P : Program} {ops : Array Oper} {n : Nat} {e : Az} {h : Ab} {x : Option AV} {Q : Exit -> Al -> Option AV -> Prop}
theorem VV {H : AB} {ι : A2} {a : Act} {w : World} {s : Al} (hs : SimF x H ι s a w) {Q0 : Exit -> Al -> Prop} {e : Exit} {a' : Act} {w' : World} (hp : PD a.defers (Post H ι s.h w Q0) e a' w') (hq : ∀ s', Q0 e s' -> Q e s' x) : PostF H ι s.h w Q e a' w' := by
  obtain ⟨hD, s', H', ι', q, r, t⟩ := hp
  exact ⟨s', x, H', ι', hq s' q, ⟨r, by rw [hD]; exact hs.df.mono t.kle t.lle⟩, t⟩
theorem AGoF.draw {id : Nat} (hm : P.follows .mixedOrders = true) (hd : DOps P ops n ops.toList e h [] (fun s' => Q .normal s' x)) : AGoF P (.region id ops true) ⟨n, e, h⟩ x Q := fun H ι a w hs =>
  any_orderD (I := fun _ => True) (K := fun s' => Q .normal s' x) trivial hm (show DOpsI (fun _ => True) P ops n ops.toList e h [] (fun s' => Q .normal s' x) from hd) hs.sim fun e' a' w' hp => VV hs hp fun s' q => by cases e' <;> first | exact q | exact q.elim
theorem AGoF.drawX {id m : Nat} {es : Az} {vs : List (Option AV)} {W : List (Nat × AObj)} {R : List Nat} {E0 : List PanicEntry -> Prop} {om : Oper} (pat : List Bool) (hm : P.follows .mixedOrders = true) (hchk : VB ops m pat = true) (hpm : (pat[m]?).getD false = false)
    (hq : QOps P n h ops.toList pat e es vs) (hom : ops[m]? = some om) (hg : om.guard = none) (hX : GX P om es h R W E0) (hE : ∀ ch e', (∀ t, (ops.toList.all fun o => !(o.dst == some t)) = true -> e' t = e t) -> E0 ch -> Q (.panic ch) ⟨n, e', hputs h W⟩ x) : AGoF P (.region id ops true) ⟨n, e, h⟩ x Q := fun H ι a w hs =>
  any_panicD (E := fun ch s' => Q (.panic ch) s' x) hm (KH m pat hchk hpm hq hom hg hX) (fun ch e' he => hE ch e' fun t ht => he t fun j oj hj hd => by have h1 := List.all_eq_true.1 ht oj (List.mem_of_getElem? (i := j) (by simpa using hj)); simp [hd] at h1) hs.sim fun e' a' w' hp => VV hs hp fun s' q => by cases e' <;> first | exact q | exact q.elim
end
def ACallD (P : Program) (f : FuncId) (args : List AV) (h : Ab) (u : FrameMode) (R : FrameMode -> Ab -> Prop) : Prop :=
  ∀ (H : AB) (ι : A2) (w : World) (vs : Array Value), RelAll H ι args vs -> HeapRel H ι h w ->
    CallsD P f vs u w (fun e u' w' => ∃ v h' H' ι', e = .returned v /\ R u' h' /\ HeapRel H' ι' h' w' /\ Step H ι h w H' ι' h' w')
def XV (P : Program) (T : Nat -> Option AC) (fn : Func) (R : AV -> Ab -> Prop) : Exit -> Al -> Option AV -> Prop
  | .normal, s, some (.fn (.func g) xs cs) | .ret, s, some (.fn (.func g) xs cs) => (∃ gn, P.funcs[g]? = some gn /\ (gn.name == "runtime.NumGoroutine") = false /\ gn.body.isSome = true) /\ ∃ R0 : Ab -> Prop, ACallD P g (xs ++ cs) s.h .returning (fun u' h' => u' = .returning /\ R0 h') /\ ∀ h', R0 h' -> ∃ ys, EY T { s with h := h' } fn.results.toList ys /\ R (HL ys) h'
  | .panic ch, s, some (.fn (.func g) xs cs) => (∃ gn, P.funcs[g]? = some gn /\ (gn.name == "runtime.NumGoroutine") = false /\ gn.body.isSome = true) /\ ∃ R0 : Ab -> Prop, ACallD P g (xs ++ cs) s.h (.panicking ch) (fun u' h' => settle u' = .returning /\ R0 h') /\ ∀ h', R0 h' -> ∃ ys, EY T { s with h := h' } fn.results.toList ys /\ R (HL ys) h'
  | _, _, _ => False
theorem Sim.heapTo {H : AB} {ι : A2} {s : Al} {a : Act} {w : World} (hs : Sim H ι s a w) {H' : AB} {ι' : A2} {h' : Ab} {w' : World} (h2 : HeapRel H' ι' h' w') (h3 : Step H ι s.h w H' ι' h' w') : Sim H' ι' { s with h := h' } a w' :=
  ⟨hs.n, hs.d, fun t x hx => by obtain ⟨v, h1, h4⟩ := hs.env t x hx; exact ⟨v, h1, h4.mono h3.kle h3.lle⟩, h2⟩
theorem ACall.of_bodyF {P : Program} {T : Nat -> Option AC} (hT : Ck P T) {f : FuncId} {fn : Func} {c : Code} {args : List AV} {h : Ab} {R : AV -> Ab -> Prop} (hf : P.funcs[f]? = some fn) (hb : fn.body = some c) {n : Nat} (hn : args.length + (fn.ntmps - args.length) = n)
    (hg : AGoF P c ⟨n, EB args, h⟩ none (XV P T fn R)) : ACall P f args h R := by
  intro H ι w vs ha hr
  refine calls_of_wp_defers hf hb ?_
  have hs : Sim H ι ⟨n, EB args, h⟩ { tmps := vs ++ Array.replicate (fn.ntmps - vs.size) undef, defers := [] } w := by
    exact Wf
  refine wp_mono (hg H ι _ w ⟨hs, rfl⟩) fun e a' w' hp => ?_
  obtain ⟨s', x', H', ι', q, r, t⟩ := hp
  have main : ∀ (u : FrameMode) (g : FuncId) (xs cs : List AV) (R0 : Ab -> Prop) (S : FrameMode -> Prop), x' = some (.fn (.func g) xs cs) -> u ≠ .run -> (∀ u', S u' -> settle u' = .returning) -> (∃ gn, P.funcs[g]? = some gn /\ (gn.name == "runtime.NumGoroutine") = false /\ gn.body.isSome = true) -> ACallD P g (xs ++ cs) s'.h u (fun u' h' => S u' /\ R0 h') ->
      (∀ h', R0 h' -> ∃ ys, EY T { s' with h := h' } fn.results.toList ys /\ R (HL ys) h') ->
      Leaves P fn a'.tmps (fun e w' => ∃ v r h' H' ι', e = .returned v /\ R r h' /\ Rel H' ι' r v /\ HeapRel H' ι' h' w' /\ Step H ι h w H' ι' h' w') a'.defers u w' := by
    intro u g xs cs R0 S hx hu hS hgn hcall hend
    subst hx
    obtain ⟨gf, us, vs', hdf, hrel⟩ := r.df
    obtain ⟨us', vs'', he, h1, h2, h3, h4⟩ := hrel.fn_inv
    cases he
    rw [hdf]
    obtain ⟨gn, g1, g2, g3⟩ := hgn
    refine leaves_cons (f := g) (args := us ++ vs') hu (by simp [invoke, Cp g1 g2 g3]) ?_
    refine (hcall H' ι' w' (us ++ vs') (Ft ⟨h1, h3⟩ ⟨h2, h4⟩) r.sim.heap).mono ?_
    rintro e u' w'' ⟨v, h', H'', ι'', rfl, ⟨k1, k2⟩, k3, k4⟩
    have hs2 := r.sim.heapTo k3 k4
    obtain ⟨ys, y1, y2⟩ := hend h' k2
    obtain ⟨v, e1, e2⟩ := GC hT hs2 y1
    show Leaves P fn a'.tmps _ [] (settle u') w''
    rw [hS u' k1]
    exact ⟨v, e2, v, _, h', H'', ι'', rfl, y2, e1, k3, t.trans hr r.sim.heap k4⟩
  cases e with
  | normal => cases x' with
    | none => exact q.elim
    | some x' => cases x' with
      | fn g xs cs => cases g with
        | func g =>
          obtain ⟨q1, R0, q2, q3⟩ := q
          exact main .returning g xs cs R0 (fun u' => u' = .returning) rfl (by simp) (fun u' hu => by rw [hu]; rfl) q1 q2 q3
        | _ => exact q.elim
      | _ => exact q.elim
  | ret => cases x' with
    | none => exact q.elim
    | some x' => cases x' with
      | fn g xs cs => cases g with
        | func g =>
          obtain ⟨q1, R0, q2, q3⟩ := q
          exact main .returning g xs cs R0 (fun u' => u' = .returning) rfl (by simp) (fun u' hu => by rw [hu]; rfl) q1 q2 q3
        | _ => exact q.elim
      | _ => exact q.elim
  | panic ch => cases x' with
    | none => exact q.elim
    | some x' => cases x' with
      | fn g xs cs => cases g with
        | func g =>
          obtain ⟨q1, R0, q2, q3⟩ := q
          exact main (.panicking ch) g xs cs R0 (fun u' => settle u' = .returning) rfl (by simp) (fun u' hu => hu) q1 q2 q3
        | _ => exact q.elim
      | _ => exact q.elim
  | _ => cases x' with
    | none => exact q.elim
    | some x' => cases x' with
      | fn g xs cs => cases g <;> exact q.elim
      | _ => exact q.elim
def PostS (H : AB) (ι : A2) (h : Ab) (w : World) (c₀ : Frame) (cs : List Frame) (Q : Exit -> Al -> FrameMode -> Prop) : Exit -> Act -> List Frame -> World -> Prop := fun e a' cs' w' =>
  ∃ s' u' H' ι', Q e s' u' /\ cs' = { c₀ with mode := u' } :: cs /\ Sim H' ι' s' a' w' /\ Step H ι h w H' ι' s'.h w'
def AGoS (P : Program) (c : Code) (s : Al) (u : FrameMode) (Q : Exit -> Al -> FrameMode -> Prop) : Prop :=
  ∀ H ι a w c₀ cs, Sim H ι s a w -> c₀.mode = u -> c.wpS P (PostS H ι s.h w c₀ cs Q) a (c₀ :: cs) w
def AOpsS (P : Program) (ops : Array Oper) (l : List Oper) (s : Al) (u : FrameMode) (Q : Exit -> Al -> FrameMode -> Prop) : Prop :=
  ∀ k, (∀ j, l[j]? = ops[k + j]?) -> ∀ H0 ι0 h0 w0, HeapRel H0 ι0 h0 w0 -> ∀ H ι a w c₀ cs, Sim H ι s a w -> Step H0 ι0 h0 w0 H ι s.h w -> c₀.mode = u -> wpOpsS P ops (PostS H0 ι0 h0 w0 c₀ cs Q) (List.range' k l.length) a (c₀ :: cs) w
def cg (K : Al -> FrameMode -> Prop) (Q : Exit -> Al -> FrameMode -> Prop) : Exit -> Al -> FrameMode -> Prop
  | .normal, s, u => K s u
  | e, s, u => Q e s u
theorem Ke {P : Program} {c : Code} {Q Q' : Exit -> Act -> List Frame -> World -> Prop} {a : Act} {cs : List Frame} {w : World} (m : ∀ e a cs w, Q e a cs w -> Q' e a cs w) (h : c.wpS P Q a cs w) : c.wpS P Q' a cs w := fun b k h1 h2 => by
  obtain ⟨e, a', cs', w', q, r⟩ := h b k h1 h2
  exact ⟨e, a', cs', w', m _ _ _ _ q, r⟩
theorem Mp {c₀ : Frame} {u : FrameMode} (h : c₀.mode = u) : c₀ = { c₀ with mode := u } := by subst h; rfl
section
variable {P : Program} {Q : Exit -> Al -> FrameMode -> Prop} {s : Al} {u : FrameMode}
theorem AGoS.seq {c d : Code} (h : AGoS P c s u (cg (fun s' u' => AGoS P d s' u' Q) Q)) : AGoS P (.seq c d) s u Q := by
  intro H ι a w c₀ cs hs hu
  refine wpS_seq (Ke (fun e a' cs' w' hp => ?_) (h H ι a w c₀ cs hs hu))
  obtain ⟨s', u', H', ι', q, rfl, r, t⟩ := hp
  cases e with
  | normal =>
    refine Ke (fun e2 a2 cs2 w2 hp2 => ?_) (q H' ι' a' w' { c₀ with mode := u' } cs r rfl)
    obtain ⟨s2, u2, H2, ι2, q2, rfl, r2, t2⟩ := hp2
    exact ⟨s2, u2, H2, ι2, q2, rfl, r2, t.trans hs.heap r.heap t2⟩
  | _ => exact ⟨s', u', H', ι', q, rfl, r, t⟩
theorem AGoS.of {c : Code} (h : AGo P c s (fun e s' => Q e s' u)) : AGoS P c s u Q := by
  intro H ι a w c₀ cs hs hu
  refine wpS_of_wp (wp_mono (h H ι a w hs) fun e a' w' hp => ?_)
  obtain ⟨s', H', ι', q, r, t⟩ := hp
  exact ⟨s', u, H', ι', q, by rw [<- Mp hu], r, t⟩
theorem AGoS.region {id : Nat} {ops : Array Oper} (h : AOpsS P ops ops.toList s u Q) : AGoS P (.region id ops false) s u Q := by
  intro H ι a w c₀ cs hs hu
  refine wpS_region ?_
  rw [List.range_eq_range', <- Array.length_toList]
  exact h 0 (by simp) H ι s.h w hs.heap H ι a w c₀ cs hs (Step.refl _ _ _ _) hu
theorem AOpsS.nil {ops : Array Oper} (h : Q .normal s u) : AOpsS P ops [] s u Q := by
  intro k hk H0 ι0 h0 w0 hr0 H ι a w c₀ cs hs hst hu
  show PostS H0 ι0 h0 w0 c₀ cs Q .normal a (c₀ :: cs) w
  exact ⟨s, u, H, ι, h, by rw [<- Mp hu], hs, hst⟩
theorem IU {ops : Array Oper} {o : Oper} {H : AB} {ι : A2} {a : Act} {w : World} (hs : Sim H ι s a w) (hg : Ay ops o s.env = some true) : Region.wanted o (yielded ops a.tmps) = true := Bx hs hg
theorem AOpsS.step {ops : Array Oper} {o : Oper} {rest : List Oper} {R : List Nat} {W : List (Nat × AObj)} {r : Option AV} (hg : Ay ops o s.env = some true) (ho : OLoc P o s.env s.h R W r) (hd : ∀ t, o.dst = some t -> t < s.n) (h : AOpsS P ops rest ⟨s.n, Em s.env o.dst r, hputs s.h W⟩ u Q) :
    AOpsS P ops (o :: rest) s u Q := by
  intro k hk H0 ι0 h0 w0 hr0 H ι a w c₀ cs hs hst hu
  have hk0 : ops[k]? = some o := by simpa using (hk 0).symm
  have hk' : ∀ j, rest[j]? = ops[k + 1 + j]? := fun j => by have := hk (j + 1); simpa [Nat.add_assoc, Nat.add_comm 1 j] using this
  rw [List.length_cons, List.range'_succ]
  simp only [wpOpsS, hk0]
  rw [IU hs hg]
  simp only [if_true]
  have next : ∀ a' w', (∃ v H' ι', a' = a.put o.dst v /\ (∀ x, r = some x -> Rel H' ι' x v) /\ HeapRel H' ι' (hputs s.h W) w' /\ Step H ι s.h w H' ι' (hputs s.h W) w') -> wpOpsS P ops (PostS H0 ι0 h0 w0 c₀ cs Q) (List.range' (k + 1) rest.length) a' (c₀ :: cs) w' := by
    rintro a' w' ⟨v, H', ι', rfl, h1, h2, h3⟩
    exact h (k + 1) hk' H0 ι0 h0 w0 hr0 H' ι' _ w' c₀ cs (hs.put h2 h3 h1 hd) (hst.trans hr0 hs.heap h3) hu
  have hw := ho H ι a w s (fun _ _ _ => False) hs (fun _ _ => rfl) (fun _ _ => rfl)
  unfold Oper.wp at hw
  generalize (execOp a.eval o).run P w = res at hw |-
  cases res with
  | ok n w3 =>
    cases n with
    | value v => exact next _ _ hw
    | skip => exact next _ _ hw
    | defer d => exact next _ _ hw
    | enter f args =>
      refine Calls.mono (show Calls P f args w3 _ from hw) (fun e w4 he => ?_)
      cases e with
      | returned v => exact next _ _ he
      | panicked ch => exact he.elim
      | outgrown =>
        obtain ⟨a3, w5, hp3⟩ := he
        exact hp3.elim
    | row r args => exact Rows.mono (show Rows P r args w3 _ from hw) (fun v w' hh => next _ _ hh)
    | _ => exact hw.elim
  | halt y w3 => cases y <;> exact hw.elim
theorem JC {o : Oper} {tys : Array TypeId} (ho : o.op = .call { callee := .builtin .recover, args := #[], argTypes := tys }) (a : Act) (w : World) : (execOp a.eval o).run P w = .ok .recover w := by
  simp [execOp, ho, resolve]; rfl
theorem Pu (d : Nat) {n : Nat} {e : Az} {h : Ab} {ops : Array Oper} {o : Oper} {rest : List Oper} {tys : Array TypeId} {v : Value} {older : List PanicEntry} (hv : UH v = true) (hr : AOpsS P ops rest ⟨n, Ad e d (.val v), h⟩ (.panicking ({ v := v, recovered := true } :: older)) Q)
    (ho : o.op = .call { callee := .builtin .recover, args := #[], argTypes := tys } := by exact rfl) (hd : o.dst = some d := by exact rfl) (hb : Nat.blt d n = true := by exact rfl) (hg : Ay ops o e = some true := by exact rfl) : AOpsS P ops (o :: rest) ⟨n, e, h⟩ (.panicking ({ v := v, recovered := false } :: older)) Q := by
  intro k hk H0 ι0 h0 w0 hr0 H ι a w c₀ cs hs hst hu
  have hk0 : ops[k]? = some o := by simpa using (hk 0).symm
  have hk' : ∀ j, rest[j]? = ops[k + 1 + j]? := fun j => by have := hk (j + 1); simpa [Nat.add_assoc, Nat.add_comm 1 j] using this
  rw [List.length_cons, List.range'_succ]
  simp only [wpOpsS, hk0]
  rw [IU hs hg]
  simp only [if_true, JC ho, recoverD, hu]
  have hs' : Sim H ι ⟨n, Em e (some d) (some (.val v)), h⟩ (a.put (some d) v) w := hs.put (d := some d) (r := some (.val v)) hs.heap (Step.refl _ _ _ _) (fun x hx => by cases hx; exact .val _ _ hv) (fun t ht => by cases ht; exact DZ hd hb _ hd)
  rw [hd]
  exact hr (k + 1) hk' H0 ι0 h0 w0 hr0 H ι _ w { c₀ with mode := .panicking ({ v := v, recovered := true } :: older) } cs hs' hst rfl
theorem Q5 (d : Nat) {n : Nat} {e : Az} {h : Ab} {ops : Array Oper} {o : Oper} {rest : List Oper} {tys : Array TypeId} (hr : AOpsS P ops rest ⟨n, Ad e d (.val .nilIface), h⟩ .returning Q)
    (ho : o.op = .call { callee := .builtin .recover, args := #[], argTypes := tys } := by exact rfl) (hd : o.dst = some d := by exact rfl) (hb : Nat.blt d n = true := by exact rfl) (hg : Ay ops o e = some true := by exact rfl) : AOpsS P ops (o :: rest) ⟨n, e, h⟩ .returning Q := by
  intro k hk H0 ι0 h0 w0 hr0 H ι a w c₀ cs hs hst hu
  have hk0 : ops[k]? = some o := by simpa using (hk 0).symm
  have hk' : ∀ j, rest[j]? = ops[k + 1 + j]? := fun j => by have := hk (j + 1); simpa [Nat.add_assoc, Nat.add_comm 1 j] using this
  rw [List.length_cons, List.range'_succ]
  simp only [wpOpsS, hk0]
  rw [IU hs hg]
  simp only [if_true, JC ho, recoverD, hu]
  have hs' : Sim H ι ⟨n, Em e (some d) (some (.val .nilIface)), h⟩ (a.put (some d) .nilIface) w := hs.put (d := some d) (r := some (.val .nilIface)) hs.heap (Step.refl _ _ _ _) (fun x hx => by cases hx; exact .val _ _ rfl) (fun t ht => by cases ht; exact DZ hd hb _ hd)
  rw [hd]
  exact hr (k + 1) hk' H0 ι0 h0 w0 hr0 H ι _ w c₀ cs hs' hst hu
def cr (T : Nat -> Option AC) (fn : Func) (R : FrameMode -> Ab -> Prop) : Exit -> Al -> FrameMode -> Prop
  | .normal, s, u | .ret, s, u => (∃ xs, EY T s fn.results.toList xs) /\ R u s.h
  | _, _, _ => False
theorem Gr {T : Nat -> Option AC} {f : FuncId} {fn : Func} {c : Code} {args : List AV} {h : Ab} {R : FrameMode -> Ab -> Prop} (hT : Ck P T) (hf : P.funcs[f]? = some fn) (hb : fn.body = some c) {n : Nat} (hn : args.length + (fn.ntmps - args.length) = n)
    (hg : AGoS P c ⟨n, EB args, h⟩ u (cr T fn R)) : ACallD P f args h u R := by
  intro H ι w vs ha hr
  have hs : Sim H ι ⟨n, EB args, h⟩ { tmps := vs ++ Array.replicate (fn.ntmps - vs.size) undef, defers := [] } w := by
    exact Wf
  refine callsD_of_wpS hf hb fun c₀ cs hu => Ke (fun e a' cs' w' hp => ?_) (hg H ι _ w c₀ cs hs hu)
  obtain ⟨s', u', H', ι', q, rfl, r, t⟩ := hp
  have key : ((∃ xs, EY T s' fn.results.toList xs) /\ R u' s'.h) -> a'.defers = [] /\ ∃ u2, ({ c₀ with mode := u' } :: cs) = { c₀ with mode := u2 } :: cs /\ ∃ v, (results fn a'.tmps).run P w' = .ok v w' /\ ∃ v' h' H' ι', Ending.returned v = .returned v' /\ R u2 h' /\ HeapRel H' ι' h' w' /\ Step H ι h w H' ι' h' w' := fun ⟨⟨xs, h1⟩, h2⟩ => by
    obtain ⟨v, e1, e2⟩ := GC hT r h1
    exact ⟨r.d, u', rfl, v, e2, v, _, H', ι', rfl, h2, r.heap, t⟩
  cases e with
  | normal => exact key q
  | ret => exact key q
  | _ => exact q.elim
end
section
variable {P : Program} {T : Nat -> Option AC} {o : Oper} {e : Az} {h : Ab}
theorem P7 (hT : Ck P T) {x : Operand} {tx t t' : TypeId} {z : Int} {i : AC} (ho : o.op = .typeAssert x tx t true := by exact rfl) (hx : Aq e x = some (.val (.iface t' (.agg #[.int .i64 z]))) := by exact rfl) (ht : T t = some i := by exact rfl) (hk : i.k ≠ .other := by (intro h; cases h)) (htt : t' = t := by exact rfl) : QLoc P o e h [] (.tup [.agg [.int .i64 z], .bool true]) := by
  intro H ι a w s hs g1 g2
  have hx' : Aq s.env x = some (.val (.iface t' (.agg #[.int .i64 z]))) := by rw [g1 x (by rw [ho]; simp [Op.operands]), hx]
  have hv : a.eval x = .iface t' (.agg #[.int .i64 z]) := by
    have := Ap hs hx'
    generalize a.eval x = va at this
    cases this; rfl
  obtain ⟨info, d, e1, e2, e3, e4, e5, e6⟩ := An (hT _ _ ht)
  have hd := NU (P := P) (d := d) (e3 ▸ hk)
  subst htt
  refine ⟨.tuple #[.agg #[.int .i64 z], .bool true], ?_, ?_⟩
  . refine .tup _ _ _ rfl fun j y v hy hv => ?_
    match j, hy, hv with
    | 0, hy, hv =>
      cases hy; cases hv
      refine .agg _ _ _ rfl fun j y v hy hv => ?_
      match j, hy, hv with
      | 0, hy, hv => cases hy; cases hv; exact .int _ _ _
    | 1, hy, hv => cases hy; cases hv; exact .bool _ _
  . simp only [execOp, ho, hv, Instr.typeAssert, Sem.run_bind, Au e2, Result.andThen_ok]
    cases d with
    | interface m => exact absurd rfl (hd m)
    | _ => simp
end
section
variable {P : Program} {Q : Exit -> Al -> Option AV -> Prop} {s s' : Al} {x : Option AV} {c : Code}
theorem AGoF.ghost (hg : Ghost s s') (h : AGoF P c s' x Q) : AGoF P c s x Q := fun H ι a w hs => by
  obtain ⟨H', ι', h1, h2⟩ := hg H ι _ w hs.sim
  exact wp_mono (h H' ι' a w ⟨h1, hs.df.mono h2.kle h2.lle⟩) fun e a' w' hp => PostF.step hs.sim.heap h1.heap h2 hp
theorem Q1 {H : AB} {ι : A2} {h h' : Ab} {w : World} (hh : HSub h' h) : Step H ι h w H ι h' w := ⟨Nat.le_refl _, rfl, rfl, fun _ _ _ => rfl, KLe.refl _, fun _ h => .inl h, LLe.refl _, fun _ _ => rfl, fun _ _ h _ => .inl h, fun b hb => by
  cases e : h' b with
  | none => rfl
  | some o => rw [hh b o e] at hb; cases hb⟩
theorem ACallD.sub {f : FuncId} {args : List AV} {h h0 : Ab} {u : FrameMode} {R : FrameMode -> Ab -> Prop} (hh : HSub h0 h) (hc : ACallD P f args h0 u R) : ACallD P f args h u R := fun H ι w vs ha hr => by
  refine (hc H ι w vs ha (hr.sub hh)).mono ?_
  rintro e u' w' ⟨v, h', H', ι', rfl, k2, k3, k4⟩
  exact ⟨v, h', H', ι', rfl, k2, k3, (Q1 hh).trans hr (hr.sub hh) k4⟩
end
section
variable {P : Program} {o : Oper} {e : Az} {h : Ab}
theorem Rt {t t' : TypeId} {x : Operand} {v : Value} {ms : Array (String × TypeId)} {r : Bool} (hu : P.underlying t = some (.interface ms)) (hr : v = .nilIface /\ r = true \/ (∃ t1 u, v = .iface t1 u) /\ r = false) (ho : o.op = .binOp .eql t x (.const .nilIface) t' := by exact rfl) (hx : Aq e x = some (.val v) := by exact rfl) : QLoc P o e h [] (.bool r) := by
  intro H ι a w s hs g1 g2
  have hx' : Aq s.env x = some (.val v) := by rw [g1 x (by rw [ho]; simp [Op.operands]), hx]
  have hv : a.eval x = v := by
    have := Ap hs hx'
    generalize a.eval x = va at this
    cases this; rfl
  have hn : a.eval (.const .nilIface) = .nilIface := rfl
  refine ⟨.bool r, .bool _ _, ?_⟩
  rcases hr with ⟨rfl, rfl⟩ | ⟨⟨t1, u, rfl⟩, rfl⟩
  . have he : (Op.equalIn 10000 t .nilIface .nilIface).run P w = .ok true w := by
      rw [Op.equalIn]; simp [Au hu]
    simp only [execOp, ho, hv, hn, eqGuard, binOp, Op.equal, Op.maxDepth, Sem.run_bind, Result.andThen_ok, Sem.run_pure, he, Bool.not_true, Bool.false_eq_true, if_false, Bool.or_true, if_true]
  . have he : (Op.equalIn 10000 t (.iface t1 u) .nilIface).run P w = .ok false w := by
      rw [Op.equalIn]; simp [Au hu]
    simp only [execOp, ho, hv, hn, eqGuard, binOp, Op.equal, Op.maxDepth, Sem.run_bind, Result.andThen_ok, Sem.run_pure, he, Bool.not_true, Bool.false_eq_true, if_false, if_true]
end
theorem APure.of_bodyF {P : Program} {T : Nat -> Option AC} (hT : Ck P T) {f : FuncId} {fn : Func} {c : Code} {args : List AV} {R : AV -> Prop} (hf : P.funcs[f]? = some fn) (hb : fn.body = some c) {n : Nat} (hn : args.length + (fn.ntmps - args.length) = n)
    (hg : AGoF P c ⟨n, EB args, hNew⟩ none (XV P T fn fun r _ => R r /\ r.isPure = true)) : APure P f args R := by
  intro H w vs ha hk
  refine (ACall.of_bodyF hT hf hb hn hg H AZ w vs ha (JN hk)).mono fun e w' hx => ?_
  exact Zt
end Go.Proofs.Ytmfihmkopmgelaa.Sv
