/-
  NO PACKAGE VARIABLES ARE LOOKED INTO: own work, over no program.
-/
import Derived.Calls
import Derived.Orders
import Derived.Laws.Sem
import Derived.Laws.World
import Derived.Laws.Cells
import Derived.Laws.Rows
import Derived.Laws.AppendOwn
import Derived.Laws.MakeOwn
import Derived.Laws.Slices
import Derived.Laws.Small
import Derived.Laws.Strings
import Derived.Laws.StructEq
import Derived.WalkKit
set_option linter.unusedVariables false
set_option linter.unusedSimpArgs false
set_option maxRecDepth 100000
set_option maxHeartbeats 2000000
namespace Go.Proofs.Ytmfihmkopmgelaa.Sv
open Go
theorem fw {p : Prop} (h : p := by intro x_; (try simp only [hputs]); (try dsimp only); first | exact AJ _ _ _ | exact (BE _ _ _ x_).trans (AJ _ _ _) | exact KD (fun y_ => by first | exact AJ _ _ _ | exact (BE _ _ _ y_).trans (AJ _ _ _) | ((repeat (first | refine Aw (by exact Af (by omega)) ?_ | refine AP (by omega) ?_)); first | exact AJ _ _ _ | exact (BE _ _ _ y_).trans (AJ _ _ _)) | exact KD (fun v_ => by first | exact AJ _ _ _ | exact (BE _ _ _ v_).trans (AJ _ _ _) | ((repeat (first | refine Aw (by exact Af (by omega)) ?_ | refine AP (by omega) ?_)); first | exact AJ _ _ _ | exact (BE _ _ _ v_).trans (AJ _ _ _)) | exact KD (fun u_ => by first | exact AJ _ _ _ | exact (BE _ _ _ u_).trans (AJ _ _ _) | ((repeat (first | refine Aw (by exact Af (by omega)) ?_ | refine AP (by omega) ?_)); first | exact AJ _ _ _ | exact (BE _ _ _ u_).trans (AJ _ _ _))) (fun u_ hu_ => BQ (by omega)) (fun u_ hu_ => BQ (by omega)) v_) (fun v_ hv_ => BQ (by omega)) (fun v_ hv_ => BQ (by omega)) y_) (fun y_ hy_ => BQ (by omega)) (fun y_ hy_ => BQ (by omega)) x_ | ((repeat (first | refine Aw (by exact Af (by omega)) ?_ | refine AP (by omega) ?_)); first | exact AJ _ _ _ | exact (BE _ _ _ x_).trans (AJ _ _ _))) : p := h
theorem GZ {p : Prop} (h : p := by intro x_; (try simp only [hputs]); (try dsimp only); first | exact AJ _ _ _ | exact (BE _ _ _ x_).trans (AJ _ _ _) | exact KD (fun y_ => by first | exact AJ _ _ _ | exact (BE _ _ _ y_).trans (AJ _ _ _) | ((repeat (first | refine Aw (by exact Af (by omega)) ?_ | refine AP (by omega) ?_)); first | exact AJ _ _ _ | exact (BE _ _ _ y_).trans (AJ _ _ _)) | exact KD (fun v_ => by first | exact AJ _ _ _ | exact (BE _ _ _ v_).trans (AJ _ _ _)) (fun v_ hv_ => BQ (by omega)) (fun v_ hv_ => BQ (by omega)) y_) (fun y_ hy_ => BQ (by omega)) (fun y_ hy_ => BQ (by omega)) x_ | ((repeat (first | refine Aw (by exact Af (by omega)) ?_ | refine AP (by omega) ?_)); first | exact AJ _ _ _ | exact (BE _ _ _ x_).trans (AJ _ _ _))) : p := h
theorem fv {p : Prop} (h : p := by repeat (first | exact trivial | refine ⟨by first | rfl | exact Bv rfl | exact (Ht (by decide)).trans rfl | exact (EZ (by decide) (by decide) (by decide)).trans ((EZ (by decide) (by decide) (by decide)).trans (Bv rfl)) | exact (EZ (by decide) (by decide) (by decide)).trans ((EZ (by decide) (by decide) (by decide)).trans rfl) | exact (EZ (by decide) (by decide) (by decide)).trans ((EZ (by decide) (by decide) (by decide)).trans ((EZ (by decide) (by decide) (by decide)).trans rfl)), ?_⟩)) : p := h
theorem cB {p : Prop} (h : p := by intro x_; (try simp only [hputs]); (try dsimp only); first | exact AJ _ _ _ | exact (BE _ _ _ x_).trans (AJ _ _ _) | exact KD (fun y_ => by first | exact AJ _ _ _ | exact (BE _ _ _ y_).trans (AJ _ _ _)) (fun y_ hy_ => BQ (by omega)) (fun y_ hy_ => BQ (by omega)) x_ | ((repeat (first | refine Aw (by exact Af (by omega)) ?_ | refine AP (by omega) ?_)); first | exact AJ _ _ _ | exact (BE _ _ _ x_).trans (AJ _ _ _))) : p := h
theorem z4q {p : Prop} (h : p := by (try simp only [hputs]); repeat (first | assumption | exact AA _ _ _ | (refine (AA _ _ _).trans (congrArg (fun es => some (AObj.row true 1 es)) ?_); first | exact I5 _ _ _ | exact WB hwa) | (refine (AA _ _ _).trans (congrArg (fun n : Nat => some (AObj.row false 6 [[x0, .ref 1 W 0 W, x2, .str s, .int .i64 (m.read : Int), .ref 3 n 0 n]])) ?_); simp; done) | refine Aw (by first | rfl | assumption | exact Af (by omega)) ?_)) : p := h
theorem cI {p : Prop} (h : p := by repeat (first | exact HSub.refl _ | exact HSub.none _ | exact CX _ | exact CC (by first | decide | omega | (dsimp only; omega)) | refine HSub.put ?_ (by first | rfl | exact congrArg (fun es => some (AObj.row true 1 es)) (F4 _)) | refine CW ?_ (by first | decide | omega | (dsimp only; omega)) | refine Di ?_ (by decide))) : p := h
theorem C8 {p : Prop} (h : p := by intro x_; (try simp only [hputs]); (try dsimp only); first | exact AJ _ _ _ | exact (BE _ _ _ x_).trans (AJ _ _ _) | ((repeat (first | refine Aw (by exact Af (by omega)) ?_ | refine AP (by omega) ?_)); first | exact AJ _ _ _ | exact (BE _ _ _ x_).trans (AJ _ _ _))) : p := h
theorem Q9 {p : Prop} (h : p := by repeat (first | exact trivial | refine ⟨(by first | exact P4 _ | exact Ux _ _ _ _ | (intro b_ hb_; cases hb_; done) | (intro b_ hb_; simp at hb_; subst hb_; decide)), (by first | exact P4 _ | exact Ux _ _ _ _ | (intro b_ hb_; cases hb_; done) | (intro b_ hb_; simp at hb_; subst hb_; decide)), ?_⟩)) : p := h
theorem ZU {p : Prop} (h : p := by repeat (first | exact EDropK.new _ _ | refine EDropK.put ?_ (by first | rfl | exact congrArg (fun z => some (AV.int .i64 z)) hz | exact congrArg (fun n : Nat => some (AV.int .i64 (n : Int))) hst.symm | exact Wx | exact congrArg (fun n => some (AV.ref 7 r.es.length 0 n)) (by simp)) (by first | rfl))) : p := h
theorem FV {p : Prop} (h : p := by repeat (first | exact HSub.refl _ | exact HSub.none _ | exact CX _ | exact CC (by first | decide | omega | (dsimp only; omega)) | refine HSub.put ?_ (by rfl) | refine CW ?_ (by first | decide | omega | (dsimp only; omega)) | refine Di ?_ (by decide))) : p := h
theorem ZV {p : Prop} (h : p := by rcases (by omega : a / 2 ^ k % 2 = 0 \/ a / 2 ^ k % 2 = 1) with h1 | h1 <;> rcases (by omega : b / 2 ^ k % 2 = 0 \/ b / 2 ^ k % 2 = 1) with h2 | h2 <;> (try simp_all [VK]) <;> first | (rw [bne_iff_ne.2 ‹¬ op = 11›]; rfl) | (rw [bne_iff_ne.2 ‹¬ op = 9›]; rfl)) : p := h
theorem Da {p : Prop} (h : p := by repeat (first | exact trivial | refine ⟨by first | rfl | exact Bv rfl | exact (Ht (by decide)).trans rfl | exact (EZ (by decide) (by decide) (by decide)).trans ((EZ (by decide) (by decide) (by decide)).trans (Bv rfl)), ?_⟩)) : p := h
theorem Yg {p : Prop} (h : p := by (try simp only [hputs]); repeat (first | rfl | exact AA _ _ _ | refine Aw (by exact Af (by omega)) ?_ | refine AP (by omega) ?_ | refine (GP _ (fun i_ _ => by first | omega | (dsimp only; omega))).trans ?_)) : p := h
theorem HZ {p : Prop} (h : p := by (try simp only [hputs]); repeat (first | assumption | exact AA _ _ _ | refine Aw (by first | rfl | assumption | exact Af (by omega)) ?_ | refine HR (by omega) ?_ | refine AP (by omega) ?_ | rfl)) : p := h
theorem Ca {p : Prop} (h : p := by (try simp only [hputs]); repeat (first | assumption | exact AA _ _ _ | refine Aw (by first | rfl | exact Af (by omega)) ?_ | refine HR (by omega) ?_ | refine AP (by omega) ?_ | rfl)) : p := h
theorem Hn {p : Prop} (h : p := by repeat (first | exact HDrop.none _ _ | exact LK _ _ | refine HDrop.put ?_ (by rfl) rfl (by first | rfl | exact Db _ _ | exact L5 _ | exact IW _ _ rfl rfl | exact wlk_avoid _ _ _ rfl rfl rfl))) : p := h
theorem AR {p : Prop} (h : p := by (try simp only [hputs]); repeat (first | assumption | exact AA _ _ _ | refine Aw (by first | rfl | assumption | exact Af (by omega)) ?_)) : p := h
theorem T7 {p : Prop} (h : p := by first | rfl | exact congrArg (fun es => some (AObj.row true 1 es)) (I5 _ _ _) | exact congrArg (fun es => some (AObj.row true 1 es)) (P2 _ _ _ _)) : p := h
theorem MZ {p : Prop} (h : p := by repeat (first | exact trivial | refine ⟨⟨by first | rfl | exact Bv rfl, by first | rfl | exact B8 (fun x_ => kf_hi 4 x_) _⟩, ?_⟩)) : p := h
theorem JY {p : Prop} (h : p := by repeat (first | exact EDrop.new _ _ | refine EDrop.put ?_ (by rfl) (by first | rfl | exact FC _ rfl | exact L6 _ rfl))) : p := h
theorem PC {p : Prop} (h : p := by intro x_; (try simp only [hputs]); (try dsimp only); first | exact AJ _ _ _ | exact (BE _ _ _ x_).trans (AJ _ _ _)) : p := h
theorem Wl {p : Prop} (h : p := by repeat (first | exact trivial | refine ⟨by first | rfl | exact Bv rfl | exact (Ht (by decide)).trans rfl, ?_⟩)) : p := h
theorem Wk {p : Prop} (h : p := by (try simp only [hputs]); repeat (first | exact La _ _ _ | refine Aw (by exact Af (by omega)) ?_)) : p := h
theorem T6 {p : Prop} (h : p := by simp only [A3, BA, isShift, cond_false, if_true]; rw [Bz (by omega) (by omega)]; congr 2 <;> omega) : p := h
theorem Yf {p : Prop} (h : p := by simp only [A3, BA, isShift, cond_false, if_true]; rw [List.length_map, Bz (by omega) (by omega)]) : p := h
theorem Wj {p : Prop} (h : p := by simp only [A3, BA, isShift, cond_false, if_true]; rw [Bz (by omega) (by omega)]; congr 2; omega) : p := h
theorem MY {p : Prop} (h : p := by simp only [A3, BA, isShift, cond_false, if_true]; rw [Bz (by omega) (by omega)]; rfl) : p := h
theorem Wi {p : Prop} (h : p := by show some (AV.lst false _) = _; rw [List.drop_zero, List.take_of_length_le (by simp [As])]) : p := h
theorem Dz {p : Prop} (h : p := by simp only [A3, BA, isShift, cond_false, if_true]; rw [Bz (by omega) (by omega)]) : p := h
theorem Bs {p : Prop} (h : p := by repeat (first | exact trivial | refine ⟨by first | rfl | exact Bv rfl, ?_⟩)) : p := h
theorem PB {p : Prop} (h : p := by repeat (first | exact EDropK.new _ _ | refine EDropK.put ?_ (by rfl) (by rfl))) : p := h
theorem T5 {p : Prop} (h : p := by have h2 := AO he; have h3 : CS.partsL thn <= m := (by omega); omega) : p := h
theorem T4 {p : Prop} (h : p := by have h2 := AO he; have h3 : CS.partsL els <= m := (by omega); omega) : p := h
theorem BH {p : Prop} (h : p := by repeat (first | exact ESub.new _ | refine ESub.put ?_ (by rfl))) : p := h
theorem DM {p : Prop} (h : p := by first | exact .loc _ | exact .ptr _ _ _ _ _ _ _ _ rfl rfl rfl) : p := h
theorem T3 {p : Prop} (h : p := by first | rfl | exact FC _ rfl | exact L6 _ rfl) : p := h
theorem R6 {p : Prop} (h : p := by first | rfl | assumption | exact Af (by omega)) : p := h
theorem MX {p : Prop} (h : p := by rw [Nat.zero_add, Int.toNat_natCast]; exact DI hx) : p := h
theorem Eu {p : Prop} (h : p := by first | exact fun _ => rfl | (intro h; cases h)) : p := h
theorem NN {p : Prop} (h : p := by first | decide | omega | (dsimp only; omega)) : p := h
theorem FB {p : Prop} (h : p := by rw [ho]; simp [Op.operands, Call.operands]) : p := h
theorem NM {p : Prop} (h : p := by show b.blocks.length ≠ b.now; omega) : p := h
theorem Zc {p : Prop} (h : p := by
  first
  | (refine ⟨[_], ⟨rfl, trivial⟩, ?_, ?_⟩ <;> rw [mone1 ho] <;> first | rfl | exact congrArg (AV.int .i64) h0.symm | exact BZ z4q z4q z4q z4q (fun c q h1 h2 h3 h4 hq => by simp only [hputs, Aj _ _ h1, Aj _ _ h2, Aj _ _ h3, Aj _ _ h4, hq]))
  | (refine ⟨[_], ⟨rfl, trivial⟩, ?_, ?_⟩ <;> rw [mone2 ho] <;> first | rfl | exact congrArg (AV.int .i64) h0.symm | exact BZ z4q z4q z4q z4q (fun c q h1 h2 h3 h4 hq => by simp only [hputs, Aj _ _ h1, Aj _ _ h2, Aj _ _ h3, Aj _ _ h4, hq]))
  | (refine ⟨[_], ⟨rfl, trivial⟩, ?_, ?_⟩ <;> rw [mone3 ho hz] <;> first | rfl | exact congrArg (AV.int .i64) h0.symm | exact BZ z4q z4q z4q z4q (fun c q h1 h2 h3 h4 hq => by simp only [hputs, Aj _ _ h1, Aj _ _ h2, Aj _ _ h3, Aj _ _ h4, hq]))
  | (refine ⟨[_], ⟨rfl, trivial⟩, ?_, ?_⟩ <;> rw [mone4 ho] <;> first | rfl | exact congrArg (AV.int .i64) h0.symm | exact BZ z4q z4q z4q z4q (fun c q h1 h2 h3 h4 hq => by simp only [hputs, Aj _ _ h1, Aj _ _ h2, Aj _ _ h3, Aj _ _ h4, hq]))
  | (refine ⟨[_], ⟨rfl, trivial⟩, ?_, ?_⟩ <;> rw [mone5 ho] <;> first | rfl | exact congrArg (AV.int .i64) h0.symm | exact BZ z4q z4q z4q z4q (fun c q h1 h2 h3 h4 hq => by simp only [hputs, Aj _ _ h1, Aj _ _ h2, Aj _ _ h3, Aj _ _ h4, hq]))
  | (refine ⟨[_], ⟨rfl, trivial⟩, ?_, ?_⟩ <;> rw [mone6 ho hsz] <;> first | rfl | exact congrArg (AV.int .i64) h0.symm | exact BZ z4q z4q z4q z4q (fun c q h1 h2 h3 h4 hq => by simp only [hputs, Aj _ _ h1, Aj _ _ h2, Aj _ _ h3, Aj _ _ h4, hq]))
  | (refine ⟨[_], ⟨rfl, trivial⟩, ?_, ?_⟩ <;> rw [mone7 ho hsz] <;> first | rfl | exact congrArg (AV.int .i64) h0.symm | exact BZ z4q z4q z4q z4q (fun c q h1 h2 h3 h4 hq => by simp only [hputs, Aj _ _ h1, Aj _ _ h2, Aj _ _ h3, Aj _ _ h4, hq]))
  | (refine ⟨[_], ⟨rfl, trivial⟩, ?_, ?_⟩ <;> rw [mone9 ho hou] <;> first | rfl | exact congrArg (AV.int .i64) h0.symm | exact BZ z4q z4q z4q z4q (fun c q h1 h2 h3 h4 hq => by simp only [hputs, Aj _ _ h1, Aj _ _ h2, Aj _ _ h3, Aj _ _ h4, hq]))
  | (rcases hrc with hrd | hrd
     . simp only [decide_eq_true hrd, cond_true]
       (refine ⟨[_], ⟨rfl, trivial⟩, ?_, ?_⟩ <;> rw [XO ho hrd] <;> first | rfl | exact congrArg (AV.int .i64) h0.symm | exact BZ z4q z4q z4q z4q (fun c q h1 h2 h3 h4 hq => by simp only [hputs, Aj _ _ h1, Aj _ _ h2, Aj _ _ h3, Aj _ _ h4, hq]))
     . simp only [decide_eq_false hrd, cond_false]
       (refine ⟨[_], ⟨rfl, trivial⟩, ?_, ?_⟩ <;> rw [US ho hrd] <;> first | rfl | exact congrArg (AV.int .i64) h0.symm | exact BZ z4q z4q z4q z4q (fun c q h1 h2 h3 h4 hq => by simp only [hputs, Aj _ _ h1, Aj _ _ h2, Aj _ _ h3, Aj _ _ h4, hq])))
  | (exfalso; have := ht.op; first | (simp_all; done) | (simp_all; omega))) : p := h
theorem DN {p : Prop} (h : p := by
  exact ⟨_, Sub.mk' BH FV, (by simp only [List.length_map, Lp] at *; first | (simp_all [CS.bare]; done) | ((try simp only [bne, Bool.not_eq_true', Bool.not_eq_false'] at *); simp only [CS.bare, bne, lev_not, *, Bool.false_or, Bool.or_false, Bool.true_or, Bool.or_true, Bool.and_true, Bool.true_and, Bool.not_false, Bool.not_true, Bool.and_false, Bool.false_and]; done))⟩) : p := h
theorem FU {p : Prop} (h : p := by
  exact ⟨_, Sub.mk' BH FV, (by first | (simp_all [CE.bare]; done) | ((try simp only [bne, Bool.not_eq_true', Bool.not_eq_false'] at *); simp only [CE.bare, bne, lev_not, *, Bool.false_or, Bool.or_false, Bool.true_or, Bool.or_true, Bool.and_true, Bool.true_and, Bool.not_false, Bool.not_true, Bool.and_false, Bool.false_and]; done))⟩) : p := h
theorem J0 {p : Prop} (h : p := by
  exact ⟨[], trivial, rfl, (BT rfl (by decide) Bs C8)⟩) : p := h
theorem Xy {p : Prop} (h : p := by
  exact ⟨[], trivial, rfl, (BT rfl (by decide) Da GZ)⟩) : p := h
theorem ZC {p : Prop} (h : p := by
  refine aq 18 (Cc rfl rfl hkl (show 32 <= maxLen by decide)) ?_
  refine wk 2 ?_
  exact ⟨k+1, Sub.mk' BH (by repeat (first | exact HSub.refl _ | exact HSub.none _ | exact CX _ | exact CC NN | refine HSub.put ?_ (by first | rfl | exact congrArg (fun es => some (AObj.row true 1 es)) (Tn (c := []) hkl ZV) | exact congrArg (fun es => some (AObj.row true 1 es)) (Tm hkl ZV)) | refine CW ?_ NN | refine Di ?_ (by decide))), hkl, by omega⟩) : p := h
theorem cH {p : Prop} (h : p := by
  rcases hp with hp | ⟨hp1, a2, w2, hp2⟩
  . refine .inl ?_
    have hp' := Oper.wp_mono (fun a2 w2 => ih a2 w2) hp
    clear hp
    unfold Oper.wp at hp' |-
    generalize (execOp a1.eval o').run P w1 = res at hp' |-
    cases res with
    | ok n w3 =>
      cases n <;> simp only [Oper.upon] at hp' |- <;> first
        | exact hp'
        | exact Calls.mono hp' (fun e w4 he => by cases e <;> first | exact he | exact hpost _ _ _ he | (obtain ⟨a3, w5, hp3⟩ := he; exact ⟨a3, w5, hpost _ _ _ hp3⟩))
    | halt x w3 => cases x <;> simp only [Oper.upon] at hp' |- <;> first | exact hpost _ _ _ hp' | exact hp'
  . exact .inr ⟨hp1, a2, w2, hpost _ _ _ hp2⟩) : p := h
theorem V7 {p : Prop} (h : p := by
  exact ⟨_, Sub.mk' BH FV, ⟨by first | (simp_all [CS.cnt]; done) | (simp_all [CS.cnt]; cases h_ : ((x.es.length : Int) == 0) <;> simp_all), by simp_all [CS.most]⟩⟩) : p := h
theorem cG {p : Prop} (h : p := by
  refine AGo.ghost (.freezeCell 0 0 5 3 (es0 := [IJ (A6 b.funcs) (.ref 2 b.funcs.length 0 b.funcs.length) b.words.toNat s mE]) (es := As mE.out) HZ rfl rfl HZ (by simp [As]) (by decide)) ?_
  refine wk 6 ?_
  refine aq 144 (F6 (l := mE.out) Am rfl Wi rfl rfl rfl rfl rfl rfl) ?_
  refine wk 2 ?_
  refine AOps.w rfl rfl (o_store Am (es := [[.int .i64 0, .str ⟨#[]⟩, .int .i64 0]]) rfl rfl rfl rfl rfl HZ rfl rfl rfl (by decide) rfl (by intro h; cases h)) ?_
  refine wk 2 ?_
  refine ⟨[_], ⟨⟨_, _, _, _, rfl, rfl, .ptr _ _ _ _ _ _ [[_, _, _]] _ HZ rfl rfl, rfl⟩, trivial⟩, ?_, rfl⟩
  first | (rw [SI hend]; rfl) | (rw [SJ hend hI.fin]; rfl) | (rw [UQ hend hz]; exact congrArg (fun n : Nat => AV.agg [.int .i64 (AL (fun _ m => m) s t l { r.q.m with steps := r.q.m.steps + 1 }).2.fin, .str ⟨(AL (fun _ m => m) s t l { r.q.m with steps := r.q.m.steps + 1 }).2.out.toArray⟩, .int .i64 (n : Int)]) hst.symm)) : p := h
theorem Xx {p : Prop} (h : p := by
  refine aq 165 (P6 Am false rfl rfl rfl (by kernel_rfl) rfl rfl rfl rfl rfl) ?_
  refine wk 2 ?_
  refine DO ⟨[_], ⟨rfl, trivial⟩, ?_, rfl⟩
  refine bc ?_
  have hwr : 1 <= t.size -> t.size <= 4096 -> IntKind.i64.wrap (words - t.size) = words - t.size := fun h1 h2 => Bz (by omega) (by omega)
  rw [S2 hb1 hb2 hd hall (by simp_all [Tac.rest, baseOp, HB] <;> omega)]
  subst hdd haa hbb
  clear hd hj hall hwr hw hw2 hb1 hb2
  first | (simp_all [Tac.same, Tac.want, baseOp, HB, setsOp, use1, use2]; done) | simp [Tac.same, Tac.want, baseOp, HB, *]) : p := h
theorem T2 {p : Prop} (h : p := by
  first
  | (rw [bD ho hx (bne_t hf)]; exact ⟨hf, [_, _], ⟨rfl, rfl, trivial⟩, (L4 (Ci (x := x) hco hov)).symm, hsub3 rfl T7⟩)
  | (rw [Ys ho hx hy (bne_t hf) (bne_t hgf) hz]; exact ⟨hgf, [_, _], ⟨rfl, rfl, trivial⟩, (L4 (Ci (x := y) hco (Ci (x := x) hco hov))).symm, hsub3 rfl T7⟩)
  | (rw [Ut ho hx (bne_t hf)]; exact ⟨hpf, [_, _], ⟨rfl, rfl, trivial⟩, (L4 (Sx (Ci hco hov))).symm, hsub3⟩)
  | (rw [Uo ho]; exact ⟨hf, [_, _], ⟨rfl, rfl, trivial⟩, (L4 (Vq hco [] hov)).symm, hsub3⟩)
  | exact absurd hK.2 (by omega)) : p := h
theorem ZS {p : Prop} (h : p := by
  refine wk 6 ?_
  refine aq 34 (AI (r := .int .i64 (((d + 1 : Nat) : Int))) rfl rfl rfl MY) ?_
  refine AOps.call 35 (hn := AE 2 _ (RH (bL C w ((e.build C d b).put (AT (d + 1) 0))) (Ak (((e.build C d b).put (AT (d + 1) 0))).blocks))) (r := .tup []) rfl rfl rfl (Av 2 (bL C w (e.build C d b)) (bL C w ((e.build C d b).put (AT (d + 1) 0))) (Ak (((e.build C d b).put (AT (d + 1) 0))).blocks) rfl Try.func44 (by kernel_rfl) rfl rfl rfl rfl rfl (by decide) (Ag C w _) (Ag C w _) Bs C8 (fun x => Aa _ x) (fun x => Aa _ x) rfl (Fo C w _ x hx (by omega) (d + 1) 0 (by omega))) ?_
  refine wk 7 ?_
  refine aq 40 (AI (r := .int .i64 (((d + 1 : Nat) : Int))) rfl rfl rfl MY) ?_
  refine AOps.call 41 (hn := AE 2 _ (RH (bL C w ((e.build C d b).not d)) (Ak (((e.build C d b).not d)).blocks))) (r := .tup []) rfl rfl rfl (Av 2 (bL C w ((e.build C d b).put (AT (d + 1) 0))) (bL C w ((e.build C d b).not d)) (Ak (((e.build C d b).not d)).blocks) rfl Try.func47 (by kernel_rfl) rfl rfl rfl rfl rfl (by decide) (Ag C w _) (Ag C w _) Bs C8 (fun x => Aa _ x) (fun x => Aa _ x) rfl (Hi C w ((e.build C d b).put (AT (d + 1) 0)) _ (Ey hx) (by rw [ID _ hx]; omega) 15 d d (d + 1) (by omega))) ?_
  refine wk 6 ?_
  refine aq 46 (AI (r := .int .i64 (((d + 1 : Nat) : Int))) rfl rfl rfl MY) ?_
  refine AOps.call 47 (hn := AE 2 _ (RH (bL C w (((e.build C d b).not d).put (AS 15 d d (d + 1)))) (Ak ((((e.build C d b).not d).put (AS 15 d d (d + 1)))).blocks))) (r := .tup []) rfl rfl rfl (Av 2 (bL C w ((e.build C d b).not d)) (bL C w (((e.build C d b).not d).put (AS 15 d d (d + 1)))) (Ak ((((e.build C d b).not d).put (AS 15 d d (d + 1)))).blocks) rfl Try.func47 (by kernel_rfl) rfl rfl rfl rfl rfl (by decide) (Ag C w _) (Ag C w _) Bs C8 (fun x => Aa _ x) (fun x => Aa _ x) rfl (Hi C w ((e.build C d b).not d) _ (Ey (Ey hx)) (by have := Nx (e.build C d b) d; omega) 15 d d (d + 1) (by omega))) ?_
  refine an ?_
  have hfl : e.flagged = false := by unfold CE.flagged; simp_all
  rw [Ui hfl]
  exact J0) : p := h
theorem MW {p : Prop} (h : p := by
  exact ⟨_, Sub.mk' BH FV, ⟨by simp_all [CE.cnt], by simp_all [CE.most]⟩⟩) : p := h
theorem PA {p : Prop} (h : p := by
  refine wk 2 ?_
  exact ⟨t.d, Sub.mk' BH FV, ⟨by have h := ‹(!AY t.d regs) = false›; simp at h; simp [h], by first | (simp [setsOp, *]; done) | simp [N5 ‹_›]⟩⟩) : p := h
theorem ZR {p : Prop} (h : p := by
  refine wk 4 ?_
  refine aq 31 (Ar Am rfl rfl rfl (.ptr _ _ _ _ _ _ [[A6 b.funcs, x1, .ref 2 nf 0 nf, x3, x4, x5]] _ AR rfl rfl) rfl) ?_
  refine wk 1 ?_
  refine aq 33 (Ah Am (es := tab) rfl rfl rfl rfl rfl rfl AR hnt rfl (Int.natCast_nonneg _) hfn) ?_
  refine aq 34 (Ar Am rfl rfl rfl (.ptr _ _ _ _ _ _ tab [.lst false []] AR hnt hg2) rfl) ?_
  refine AOps.w rfl rfl (KK Am rfl rfl rfl rfl) ?_
  refine wk 7 ?_
  refine aq 39 (Ar Am rfl rfl rfl (.ptr _ _ _ _ _ _ [[A6 b.funcs, x1, .ref 2 nf 0 nf, x3, x4, x5]] _ AR rfl rfl) rfl) ?_
  refine wk 1 ?_
  refine aq 41 (Ah Am (es := tab) rfl rfl rfl rfl rfl rfl AR hnt rfl (Int.natCast_nonneg _) hfn) ?_
  refine aq 42 (Ar Am rfl rfl rfl (.ptr _ _ _ _ _ _ tab [.lst false []] AR hnt hg2) rfl) ?_
  refine wk 1 ?_
  refine AOps.w rfl rfl (o_store Am (es := [[.int .i64 0, .int .i64 0, .int .i64 0, .nil]]) rfl rfl rfl rfl rfl AR rfl rfl rfl (by decide) rfl (by intro h; cases h)) ?_
  refine wk 2 ?_
  have hend : ∀ h'' : Ab, h'' = h'' := fun _ => rfl
  exact ⟨[_], ⟨⟨_, _, _, _, rfl, rfl, .ptr _ _ _ _ _ _ [[.int .i64 (f0 : Int), .int .i64 0, .int .i64 0, .lst false []]] _ AR rfl rfl, rfl⟩, trivial⟩, rfl, Jr (by rw [htt]; (try simp only [hputs]); repeat (first | assumption | exact AA _ _ _ | refine Aw R6 ?_)) (fun c q hc hq => by obtain ⟨q1, q2⟩ := Iu hq; simp only [hputs, Aj _ _ q1, Aj _ _ hc, q2])⟩) : p := h
theorem ZQ {p : Prop} (h : p := by
  intro k hk
  refine wk 6 ?_
  refine asp 6 (fun hb1 => ?_) fun hb1 => ?_
  .
   refine act ?_
   have hkl : k < 32 := by have h := hb1; simp at h; omega
   have hle : a / 2 ^ k <= a := Nat.div_le_self _ _
   refine wk 7 ?_
   refine aq 11 (AI (r := .int .u32 ((a / 2 ^ k % 2 : Nat) : Int)) rfl rfl rfl (E9 (a := a / 2 ^ k) (b := 2) (by decide))) ?_
   refine aq 12 (B1 Am rfl rfl rfl rfl rfl (LZ (by omega))) ?_
   refine ax 13 (D4 Am rfl rfl rfl rfl rfl rfl (by decide) rfl rfl rfl rfl rfl rfl) ?_
   refine ax 14 (E2 Am (n := k) (m := 1) rfl rfl rfl rfl rfl rfl rfl rfl rfl (by simp [Bm, BS]) rfl rfl (Nat.zero_lt_succ _) (.lst _ _) (by intro cs h; simp [partVals] at h; subst h; rfl) (fun _ cs h => by simp [partVals] at h; subst h; rfl) rfl (by simp [Bm, BS, partVals]; show _ * 8 <= _; omega) (by simp [Bm, BS, partVals]; simp only [maxLen]; omega)) ?_
   refine wk 4 ?_
   refine aq 16 (AI (r := .int .u32 ((a / 2 ^ k / 2 : Nat) : Int)) rfl rfl rfl (Iz (a := a / 2 ^ k) (b := 2) (by decide) (CP (by omega)))) ?_
   refine wk 4 ?_
   refine aq 8 (Cc rfl rfl hkl (show 32 <= maxLen by decide)) ?_
   refine wk 2 ?_
   exact ⟨k+1, Sub.mk' (by repeat (first | exact ESub.new _ | refine ESub.put ?_ (by first | rfl | exact congrArg (fun (n : Nat) => some (AV.int .u32 (n : Int))) (by rw [Nat.div_div_eq_div_mul, Nat.pow_succ])))) (by repeat (first | exact HSub.refl _ | exact HSub.none _ | exact CX _ | exact CC NN | refine HSub.put ?_ (by first | rfl | exact congrArg (fun es => some (AObj.row true 1 es)) (Ph a k)) | refine CW ?_ NN | refine Di ?_ (by decide))), hkl, by omega⟩
  refine BM ?_
  have hge : ¬ k < 32 := by have h := hb1; simp at h; omega
  refine wk 2 ?_
  obtain rfl : k = 32 := by omega
  refine wk 5 ?_
  refine ⟨[_], ⟨rfl, trivial⟩, rfl, HSub.put (HSub.none _) rfl⟩) : p := h
theorem NK {p : Prop} (h : p := by
  refine DO ⟨[_], ⟨rfl, trivial⟩, ?_, rfl⟩
  refine bc ?_
  have hwr : 1 <= t.size -> t.size <= 4096 -> IntKind.i64.wrap (words - t.size) = words - t.size := fun h1 h2 => Bz (by omega) (by omega)
  exact (MC (by simp_all [Tac.rest, baseOp, HB] <;> omega)).symm) : p := h
theorem ZP {p : Prop} (h : p := by
  refine wk 6 ?_
  refine dx 7 (BK C w b (CS.buildL C w e.thn b) (b.blocks.length + (CS.buildL C w e.thn b).blocks.length) (by omega) (by omega) rfl Try.func30 (by kernel_rfl) rfl rfl rfl Da GZ rfl (hT)) ?_
  refine B0 FQ [([4],[]), ([5],[]), ([],[]), ([],[]), ([],[]), ([2],[2])] Q9 (by kernel_rfl) ?_
  exact Xy) : p := h
theorem T0 {p : Prop} (h : p := by
  refine DOps.w rfl rfl (o_store Am (es := Ac regs) rfl rfl rfl rfl rfl AR (by rw [regCells_len, hlen]) (Bu (by have := hd; have := hm.len; omega)) rfl (by decide) rfl Eu) ?_
  refine wk 6 ?_
  exact Zc) : p := h
theorem Pz {p : Prop} (h : p := by
  exact HSub.put (HSub.put (HSub.put (HSub.put (HSub.none _) rfl) rfl) rfl) T7) : p := h
theorem ZO {p : Prop} (h : p := by
  have hb := ht.b (by simp [use2, ho7])
  refine wk 10 ?_
  refine dq 132 (Ah Am rfl rfl rfl rfl rfl rfl rfl (by rw [regCells_len, hlen]) rfl ha.1 (by have := ha.2; omega)) ?_
  refine dq 133 (Ar Am rfl rfl rfl (.ptr _ _ _ _ _ _ _ _ rfl (by rw [regCells_len, hlen]) (Bu (by have := ha; omega))) rfl) ?_
  refine dq 134 (Bp Am rfl rfl rfl rfl rfl (r := rget regs t.a) (by exact Bz (by omega) (by omega))) ?_
  refine dq 135 (AI (r := .int .i64 (t.base + rget regs t.a)) rfl rfl rfl Dz) ?_
  refine wk 3 ?_
  refine dq 139 (Ah Am rfl rfl rfl rfl rfl rfl rfl (by rw [regCells_len, hlen]) rfl hb.1 (by have := hb.2; omega)) ?_
  refine dq 140 (Ar Am rfl rfl rfl (.ptr _ _ _ _ _ _ _ _ rfl (by rw [regCells_len, hlen]) (Bu (by have := hb; omega))) rfl) ?_
  refine dq 141 (Ah Am rfl rfl rfl rfl rfl rfl rfl (by rw [regCells_len, hm.len]) rfl hidx.1 (by have := hidx.2; omega)) ?_
  refine DOps.w rfl rfl (o_store Am rfl rfl rfl rfl rfl rfl (by rw [regCells_len, hm.len]) (Bu (by have := hidx; have := hm.len; omega)) rfl (by decide) rfl Eu) ?_
  refine wk 1 ?_
  refine ⟨[], trivial, rfl, ?_⟩
  rw [mone7 ho7 hsz]
  exact HSub.put (HSub.put (HSub.put (HSub.put (HSub.none _) rfl) T7) rfl) rfl) : p := h
theorem Wh {p : Prop} (h : p := by
  exact ⟨_, Sub.mk' BH FV, ⟨fun hc => PR (by simp_all), fun hc => PQ hby hN.2 (by simp_all) (by simp_all) (by simp_all) (by simp_all)⟩⟩) : p := h
theorem Wg {p : Prop} (h : p := by
  exact ⟨_, Sub.mk' BH FV, (by first | (simp_all [CFn.fits]; done) | (simp_all [CFn.fits]; omega) | (simp only [CFn.fits, neg_dec, *]; simp))⟩) : p := h
theorem Ye {p : Prop} (h : p := by
  have hft : (k.fin == 3) = false := by simp_all
  have hnx := hF.next hk hI hge hst hft (MG hks.1 hft r.regs)
  exact ⟨⟨k.next r.regs, r.regs, (AG fuel r.m).2, q.g - 1⟩, Drop.mk' (by repeat (first | exact EDrop.new _ _ | refine EDrop.put ?_ (by first | rfl | exact congrArg (fun (n : Int) => some (AV.int .i64 n)) (by simp [Block.next, *])) T3)) Hn, hnx.1, hnx.2⟩) : p := h
theorem Py {p : Prop} (h : p := by
  refine wk 5 ?_
  refine DO ⟨[_], ⟨rfl, trivial⟩, ?_, rfl⟩
  refine bc ?_
  exact (YL (by first | (simp [setsOp, *]; done) | exact N5 ‹_›) (by simpa using ‹(!AY t.d regs) = true›)).symm) : p := h
theorem TZ {p : Prop} (h : p := by
  intro l
  induction l with
  | nil => exact fun a1 w1 hp => hpost _ _ _ hp
  | cons o' l ih =>
    intro a1 w1 hp
    unfold wpList at hp |-
    by_cases hw : Region.wanted o' (yielded ops a1.tmps) = true
    . rw [if_pos hw] at hp |-
      exact cH
    . rw [if_neg hw] at hp |-
      exact ih _ _ hp) : p := h
theorem Wf {p : Prop} (h : p := by
  refine ⟨by simp [<- ha.1, hn], rfl, fun t x hx => ?_, hr⟩
  have hlt : t < vs.size := by
    rw [<- ha.1]
    rcases Nat.lt_or_ge t args.length with h | h
    . exact h
    . simp only [EB] at hx; rw [List.getElem?_eq_none h] at hx; cases hx
  obtain ⟨v, hv⟩ := Be hlt
  exact ⟨v, by simp only; rw [Array.getElem?_append_left hlt]; exact hv, ha.2 t x v hx hv⟩) : p := h
theorem HX {p : Prop} (h : p := by
  refine ⟨[_, _], ⟨rfl, rfl, trivial⟩, ?_, rfl⟩
  show AV.tup _ = AV.tup _
  simp [BC, *]) : p := h
theorem ZN {p : Prop} (h : p := by
  have hd := ht.d (by simp [setsOp, ho6])
  refine wk 13 ?_
  refine dq 116 (Ah Am rfl rfl rfl rfl rfl rfl rfl (by rw [regCells_len, hlen]) rfl ha.1 (by have := ha.2; omega)) ?_
  refine dq 117 (Ar Am rfl rfl rfl (.ptr _ _ _ _ _ _ _ _ rfl (by rw [regCells_len, hlen]) (Bu (by have := ha; omega))) rfl) ?_
  refine dq 118 (Bp Am rfl rfl rfl rfl rfl (r := rget regs t.a) (by exact Bz (by omega) (by omega))) ?_
  refine dq 119 (AI (r := .int .i64 (t.base + rget regs t.a)) rfl rfl rfl Dz) ?_
  refine dq 120 (Ah Am rfl rfl rfl rfl rfl rfl rfl (by rw [regCells_len, hm.len]) rfl hidx.1 (by have := hidx.2; omega)) ?_
  refine dq 121 (Ar Am rfl rfl rfl (.ptr _ _ _ _ _ _ _ _ rfl (by rw [regCells_len, hm.len]) (Bu (by have := hidx; have := hm.len; omega))) rfl) ?_
  refine dq 122 (Ah Am rfl rfl rfl rfl rfl rfl rfl (by rw [regCells_len, hlen]) rfl hd.1 (by have := hd.2; omega)) ?_
  refine DOps.w rfl rfl (o_store Am rfl rfl rfl rfl rfl rfl (by rw [regCells_len, hlen]) (Bu (by have := hd; omega)) rfl (by decide) rfl Eu) ?_
  refine wk 1 ?_
  refine ⟨[], trivial, rfl, ?_⟩
  rw [mone6 ho6 hsz]
  exact Pz) : p := h
theorem NJ {p : Prop} (h : p := by
  refine DO ⟨[_], ⟨rfl, trivial⟩, ?_, rfl⟩
  refine bc ?_
  rw [CE.rightL_all, Dg hx (OV (by simp_all [CE.most] <;> omega))]) : p := h
theorem ZM {p : Prop} (h : p := by
  have key : ∀ b o, hres s.h L b = some o -> o.alive = true -> b ∈ L /\ s.h b = some o := fun b o h1 h2 => by
    unfold hres at h1
    cases e : mem L b with
    | true => rw [e] at h1; exact ⟨mem_iff.1 e, h1⟩
    | false => rw [e] at h1; cases h1; cases h2
  refine ⟨hs.heap.know, fun b hb => ?_, fun b o h1 h2 => ?_, fun b b' o o' r r' h1 h2 h3 h4 h5 h6 => ?_, hs.heap.glob⟩
  . unfold hres at hb
    unfold lcut
    cases e : mem L b with
    | true => rw [e] at hb; exact hs.heap.free b hb
    | false => rfl
  . obtain ⟨k1, k2⟩ := key b o h1 h2
    obtain ⟨r, r1, r2, r3⟩ := hs.heap.obj b o k2 h2
    obtain ⟨q, q1, q2⟩ := hLs b k1
    rw [k2] at q1; cases q1
    exact ⟨r, by rw [Cu (mem_iff.2 k1)]; exact r1, FJ r2 q2, r3⟩
  . exact hs.heap.inj b b' o o' r r' (key b o h1 h2).2 h2 (key b' o' h3 h4).2 h4 (A9 h5) (A9 h6)) : p := h
theorem ZL {p : Prop} (h : p := by
  refine AOps.call 127 (hn := AE 2 _ (RH (bL C w (e.build C d b)) (Ak ((e.build C d b)).blocks))) (r := .tup []) rfl rfl rfl (Av 2 (bL C w b) (bL C w (e.build C d b)) (Ak ((e.build C d b)).blocks) rfl Try.func88 (by kernel_rfl) rfl rfl rfl rfl rfl (by decide) (Ag C w _) (Ag C w _) Bs C8 (fun x => Aa _ x) (fun x => Aa _ x) rfl (hE (by first | exact .inl (by simpa using ‹(e.kind == 8) = true›) | exact .inr (by simpa using ‹(e.kind == 9) = true›)))) ?_
  refine an ?_
  exact J0) : p := h
theorem ZK {p : Prop} (h : p := by
  have key : ∀ b o, EE h κ b = some o -> o.alive = true -> κ b = true /\ h b = some o := fun b o h1 h2 => by
    unfold EE at h1
    cases e : κ b with
    | true => rw [e] at h1; exact ⟨rfl, h1⟩
    | false => rw [e] at h1; cases h1; cases h2
  refine ⟨hs.heap.know, fun b hb => ?_, fun b o h1 h2 => ?_, fun b b' o o' r r' h1 h2 h3 h4 h5 h6 => ?_, hs.heap.glob⟩
  . unfold EE at hb
    unfold lcut
    cases e : κ b with
    | true => rw [e] at hb; exact hs.heap.free b hb
    | false => rfl
  . obtain ⟨k1, k2⟩ := key b o h1 h2
    obtain ⟨r, r1, r2, r3⟩ := hs.heap.obj b o k2 h2
    obtain ⟨q, q1, q2⟩ := hL b k1
    rw [k2] at q1; cases q1
    exact ⟨r, by rw [Cu k1]; exact r1, FJ r2 q2, r3⟩
  . exact hs.heap.inj b b' o o' r r' (key b o h1 h2).2 h2 (key b' o' h3 h4).2 h4 (A9 h5) (A9 h6)) : p := h
theorem We {p : Prop} (h : p := by
  have key : ∀ c, b = c -> Ad e d (.bool c) = e := fun c hc => by
    subst hc
    funext t
    by_cases ht : t = d
    . subst ht; rw [Co, he]
    . rw [CZ _ _ ht]
  cases b with
  | true => have := h1 rfl; rwa [key true rfl] at this
  | false => have := h2 rfl; rwa [key false rfl] at this) : p := h
theorem Yd {p : Prop} (h : p := by
  refine aq 47 (Ah Am rfl rfl rfl rfl rfl rfl rfl (by simp [Bm, C3 (Nat.le_of_lt hkl)]) rfl (Int.natCast_nonneg _) (by omega)) ?_
  refine AOps.w rfl rfl (o_store Am rfl rfl rfl rfl rfl rfl (by simp [Bm, C3 (Nat.le_of_lt hkl)]) (B6 (EF (KR hkl))) rfl (by decide) rfl Eu) ?_
  refine wk 3 ?_
  exact ZC) : p := h
theorem Wd {p : Prop} (h : p := by
  refine DO ⟨[_], ⟨rfl, trivial⟩, ?_, rfl⟩
  show AV.lst false _ = _
  simp [Tac.uses, use1, use2, No, partVals, AV.cells, *]) : p := h
theorem LQ {p : Prop} (h : p := by
  refine DO ⟨[_], ⟨rfl, trivial⟩, ?_, rfl⟩
  refine bc ?_
  simp_all [Block.ends]) : p := h
theorem R4 {p : Prop} (h : p := by
  refine DO ⟨[_], ⟨rfl, trivial⟩, ?_, rfl⟩
  refine bc ?_
  rw [CS.rightL_all, Dg hx (NY (by simp_all [CS.most] <;> omega))]) : p := h
theorem ZJ {p : Prop} (h : p := by
  rw [List.getElem?_map, Option.map_eq_some_iff] at hi
  obtain ⟨y, y1, rfl⟩ := hi
  obtain ⟨cs', c1, c2, c3⟩ := l2 i y y1
  obtain ⟨_, n1, n2⟩ := World.cells?_some c1
  refine ⟨by rw [c2.1, n1], fun j x hj => ?_⟩
  have hjlt : j < cs'.length := by rw [<- c2.1]; exact (List.getElem?_eq_some_iff.1 hj).1
  have h3 := n2 j (by omega)
  rw [List.getElem?_eq_getElem hjlt, Ed, Ed] at h3
  obtain ⟨c', e1, _, e3⟩ := Fw h3
  simp only at e1 e3
  rw [hH] at e1; cases e1
  obtain ⟨g1, g2⟩ := c2.2 j x _ hj (List.getElem?_eq_getElem hjlt)
  exact ⟨_, e3, g1, g2⟩) : p := h
theorem Px {p : Prop} (h : p := by
  refine DO ⟨[_], ⟨rfl, trivial⟩, ?_, rfl⟩
  show AV.int .i64 _ = AV.int .i64 _
  congr 1
  simp [Tac.sets, setsOp, *]) : p := h
theorem ZI {p : Prop} (h : p := by
  unfold Oper.wp
  rw [hexec]
  refine hcalls.mono fun en w' hh => ?_
  obtain ⟨v, r', h', H', ι', rfl, ⟨rfl, hsub⟩, k1, k2, k3⟩ := hh
  have hk' : ∀ b, κ b = true -> ∃ q, h' b = some q /\ hn b = some q /\ q.avoid κ = true := fun b hb => by
    obtain ⟨q, q1, q2, q3⟩ := hk b hb
    exact ⟨q, hsub b q q1, q2, q3⟩
  obtain ⟨u1, u2⟩ := Ti hs.heap hL hW hk' k2 (hres'.symm ▸ k3)
  refine ⟨v, H', _, rfl, ?_, u1, u2⟩
  refine (Df k1 hra).mono (KLe.refl _) fun b r e => ?_
  cases hb : κ b with
  | true => exact ⟨r, by simp only [Ir, hb, cond_true]; exact A9 e, .inl rfl⟩
  | false => simp only [lcut, hb, cond_false] at e; cases e) : p := h
theorem Wc {p : Prop} (h : p := by
  refine DO ⟨[_], ⟨rfl, trivial⟩, ?_, rfl⟩
  refine bc ?_
  unfold IT
  have hwr : 0 <= a -> a <= C.words -> IntKind.i64.wrap (C.words - a) = C.words - a := fun g1 g2 => Bz (by omega) (by omega)
  simp_all <;> omega) : p := h
theorem ZH {p : Prop} (h : p := by
  exact ⟨[], trivial, rfl, (BT rfl (by decide) Wl cB)⟩) : p := h
theorem ZG {p : Prop} (h : p := by
  refine wk 4 ?_
  refine aq 17 (AI (r := .int .u32 ((k + 1 : Nat) : Int)) rfl rfl rfl (GR (b := 1) (CP (by omega)))) ?_
  refine wk 2 ?_
  exact ⟨k+1, Sub.mk' (by repeat (first | exact ESub.new _ | refine ESub.put ?_ (by first | rfl | exact congrArg (fun (n : Nat) => some (AV.int .u64 (n : Int))) (by simp only [shN, *, cond_true, cond_false])))) FV, hkl, by omega⟩) : p := h
theorem Wb {p : Prop} (h : p := by
  refine DO ⟨[_], ⟨rfl, trivial⟩, ?_, rfl⟩
  refine bc ?_
  refine (eq_false_of_ne_true fun h => ?_).symm
  have hr := D3 h
  have := hr.w0; have := hr.w1; have := hr.n0; have := hr.n1
  simp_all <;> omega) : p := h
theorem ZF {p : Prop} (h : p := by
  have alive' : ∀ r0, ι b' = some r0 -> r0.solid -> r0.rb = r'.rb -> False := fun r0 e0 es e1 => by
    obtain ⟨o0, k1, _⟩ := hL b' hb'
    have ka : o0.alive = true := by
      cases o0 with
      | free => rw [hr.free b' k1] at e0; cases e0
      | _ => rfl
    exact hr.inj b b' o o0 r r0 h1 h2 k1 ka h3 e0 h4 es (fun e => hb (e ▸ hb')) (e.trans e1.symm)
  rcases hst.newrb b' r' g1 g2 with k | k | ⟨r0, k1, k2, k3⟩
  . exact alive' r' (A9 k) g2 rfl
  . have := hr.lt ⟨b, o, r, h1, h2, h3, h4, rfl⟩; omega
  . exact alive' r0 (A9 k1) k2 k3) : p := h
theorem Pw {p : Prop} (h : p := by
  refine DO ⟨[_], ⟨rfl, trivial⟩, ?_, rfl⟩
  show AV.int .u32 _ = AV.int .u32 _
  simp [C0, *]) : p := h
theorem ZE {p : Prop} (h : p := by
  refine aq 25 (Cc rfl rfl hkl (by simp only [maxLen]; omega)) ?_
  refine wk 2 ?_
  exact ⟨k+1, DropK.mk' PB (Hc (k0 := 5) rfl (by repeat (first | exact trivial | refine ⟨⟨by first | rfl | (rw [hmw]; rfl), by first | rfl | exact In _ _ _ _⟩, ?_⟩)) (fun x_ => by (try simp only [hputs]); repeat (first | exact AJ _ _ _ | refine Aw (by exact Af (by omega)) ?_ | refine AP (by omega) ?_)) (fun _ => rfl)), hkl, by omega⟩) : p := h
theorem ZD {p : Prop} (h : p := by
  obtain ⟨k, hk⟩ := List.getElem?_of_mem hq
  have hlt : k < parts.toList.length := by have := (List.getElem?_eq_some_iff.1 hk).1; simpa using this
  have hltp : k < ps.length := by omega
  have h3 := (l2 k ps[k] ((parts.toList[k]).1, a.eval (parts.toList[k]).2) (List.getElem?_eq_getElem hltp) (by rw [List.getElem?_map, List.getElem?_eq_getElem hlt]; rfl)).2
  rw [List.getElem?_map, List.getElem?_eq_getElem hlt] at hk
  cases hk
  rw [<- (ES h3).1]
  exact DP hsz k _ (List.getElem?_eq_getElem hltp)) : p := h
theorem Yc {p : Prop} (h : p := by
  generalize e.ev call s c = p at h |-
  obtain ⟨y, c1⟩ := p
  dsimp only at h |-
  cases (k == 8 || k == 9) with
  | true => exact h
  | false =>
    cases c1.fin == 0 with
    | false => exact h
    | true => cases (BC o x y).2 == 0 <;> exact h) : p := h
theorem TY {p : Prop} (h : p := by
  refine DO ⟨[_], ⟨rfl, trivial⟩, ?_, rfl⟩
  refine bc ?_
  exact (MC (by simp_all [Tac.rest, baseOp, HB] <;> omega)).symm) : p := h
theorem ZB {p : Prop} (h : p := by
  refine wk 2 ?_
  exact ⟨k+1, DropK.mk' PB (Hc (k0 := 4) rfl (by repeat (first | exact trivial | refine ⟨⟨by first | rfl | (rw [hbk]; first | rfl | exact Bv rfl), by first | rfl | exact B8 (fun x_ => kf_hi 4 x_) _⟩, ?_⟩)) (fun x_ => by rw [hbk]; (try simp only [hputs]); (try dsimp only); first | exact AJ _ _ _ | exact (BE _ _ _ x_).trans (AJ _ _ _)) (fun x_ => Aa _ x_)), hkl, by omega⟩) : p := h
theorem ZA {p : Prop} (h : p := by
  refine wk 2 ?_
  exact ⟨0, Sub.mk' BH FV, by have h3 := Rg t.op; cases h1 : use1 t.op <;> cases h2 : use2 t.op <;> simp_all [Tac.uses]⟩) : p := h
theorem Zz {p : Prop} (h : p := by
  refine wk 3 ?_
  refine aq 17 (Cc rfl rfl hkl hlen) ?_
  refine wk 2 ?_
  exact ⟨k+1, Drop.mk' JY Hn, FT hx hk hyes, by omega⟩) : p := h
theorem Yb {p : Prop} (h : p := by
  have ho : op = 9 \/ op = 10 \/ op = 11 := by simp_all
  refine wk 3 ?_
  refine ax 60 (CT Try.func95 (Xj _ a b ha hb)) ?_
  refine wk 4 ?_
  refine ⟨[_, _], ⟨rfl, rfl, trivial⟩, ?_, rfl⟩
  show AV.tup _ = _
  rw [Sb ha hb ho]; rfl) : p := h
theorem Zy {p : Prop} (h : p := by
  refine ⟨by simp, fun k x y hx hy => ?_⟩
  rw [List.getElem?_set] at hy
  by_cases hk : j = k
  . subst hk
    rw [hj'] at hx; cases hx
    have hlt := (List.getElem?_eq_some_iff.1 hj').1
    rw [if_pos rfl, if_pos hlt] at hy; cases hy
    exact ⟨fun _ => rfl, fun H ι v h => rel_unex h⟩
  . rw [if_neg hk, hx] at hy; cases hy
    exact ⟨fun h => h, fun _ _ _ h => h⟩) : p := h
theorem Zx {p : Prop} (h : p := by
  exact ⟨(), Sub.mk' (by repeat (first | exact ESub.new _ | refine ESub.put ?_ (by first | rfl | exact congrArg (fun (n : Int) => some (AV.int .i64 n)) (by simp [Cq, *])))) FV, trivial⟩) : p := h
theorem Zw {p : Prop} (h : p := by
  by_cases hj : j < 32
  . rcases (by omega : a / 2 ^ j % 2 = 0 \/ a / 2 ^ j % 2 = 1) with h1 | h1 <;> rcases (by omega : b / 2 ^ j % 2 = 0 \/ b / 2 ^ j % 2 = 1) with h2 | h2 <;> simp [h1, h2, hj, VK]
  . have h1 : a / 2 ^ j = 0 := Nat.div_eq_of_lt (Nat.lt_of_lt_of_le ha (Nat.pow_le_pow_right (by decide) (by omega)))
    have h2 : b / 2 ^ j = 0 := Nat.div_eq_of_lt (Nat.lt_of_lt_of_le hb (Nat.pow_le_pow_right (by decide) (by omega)))
    simp [hj, h1, h2]) : p := h
theorem Zv {p : Prop} (h : p := by
  refine wk 2 ?_
  exact ⟨j+1, Drop.mk' JY Hn, FT hu hj (by simpa using hbw), by omega⟩) : p := h
theorem Wa {p : Prop} (h : p := by
  simp only [execOp, ho, resolve, invoke, builtin, Sem.run_bind, Sem.run_pure, Result.andThen_ok, List.map_toArray, List.map_cons, List.map_nil, hva, hvb, hrun]) : p := h
theorem Ya {p : Prop} (h : p := by
  refine (ih.seq h.lt h2).mono fun G a c hm => ?_
  obtain ⟨m, ⟨i1, rfl⟩, i2, rfl⟩ := hm
  refine ⟨fun i hi => ?_, rfl⟩
  by_cases e : i = n
  . subst e; exact i2
  . exact i1 i (by omega)) : p := h
theorem TX {p : Prop} (h : p := by
  obtain ⟨_, _, _, h2⟩ := h
  rcases h2 with h2 | h2 | h2 | h2 | h2 | h2 | h2 <;> first | exact h2.2 | omega) : p := h
theorem Zu {p : Prop} (h : p := by
  obtain ⟨d', R', ei, a1, a2, a3, a4, a5, a6⟩ := QOps.get h6 (i := i) (o := o') (r := r') (by simpa using ho) (by simpa using hr)
  refine ⟨d', R', ei, a1, a2, a3, a4, fun t ht => a5 t fun j oj hij hj hp => ht (j + 1) oj (by omega) (by simpa using hj) (by simpa using hp), fun hd => a6 fun j oj hij hj hp => hd (j + 1) oj (by omega) (by simpa using hj) (by simpa using hp)⟩) : p := h
theorem V9 {p : Prop} (h : p := by
  rw [Eh (e := e) (fun x hx => g1 x (by rw [ho]; simp [Op.operands, Call.operands]; exact .inr (by simpa using hx)))]; exact hx) : p := h
theorem Zt {p : Prop} (h : p := by
  obtain ⟨v, r, h', H', ι', rfl, ⟨h1, h2⟩, h3, h4, h5⟩ := hx
  have hno : ∀ rb, ¬ Gq hNew AZ rb := fun rb ho => by obtain ⟨b, o, r, e1, e2, e3, _⟩ := ho; cases e3
  exact ⟨v, r, H', rfl, h1, Ov h2 h3, ⟨h5.size, h5.os, h5.out, fun rb hlt => h5.keep rb hlt (hno rb), h5.kle, fun b hb => (h5.knew b hb).imp id fun h => h.resolve_right (hno b), h4.know⟩⟩) : p := h
theorem V8 {p : Prop} (h : p := by
  refine DO ⟨[_], ⟨rfl, trivial⟩, ?_, rfl⟩
  refine bc ?_
  unfold Dy
  first | (simp_all; done) | (simp_all <;> omega)) : p := h
theorem X9 {p : Prop} (h : p := by
  generalize e.ev call s c = p at h |-
  obtain ⟨i, c1⟩ := p
  dsimp only at h |-
  cases c1.fin == 0 with
  | false => exact h
  | true => cases decide (i >= z) <;> exact h) : p := h
theorem TW {p : Prop} (h : p := by
  have hfl : e.flagged = true := by unfold CE.flagged; simp_all
  rw [Se hfl]
  exact J0) : p := h
theorem Zs {p : Prop} (h : p := by
  by_cases h0 : left >= 0
  . rw [decide_eq_true h0] at h |-
    simp only [cond_true] at h |-
    have h2 := ih (fun e he => hI e (List.mem_cons.2 (.inr he))) _ _ h
    have h1 := hI e (List.mem_cons.2 (.inl rfl)) left deep h0 (by omega)
    omega
  . rw [decide_eq_false h0] at h
    exact absurd h h0) : p := h
theorem Zr {p : Prop} (h : p := by
  by_cases h0 : left >= 0
  . rw [decide_eq_true h0]
    have h1 := hI e (List.mem_cons.2 (.inl rfl)) left deep h0
    have h2 := ih (fun e he => hI e (List.mem_cons.2 (.inr he))) (e.left left deep) deep h1.1
    exact ⟨h2.1, Int.le_trans h2.2 h1.2⟩
  . rw [decide_eq_false h0]; exact ⟨h, Int.le_refl _⟩) : p := h
theorem V6 {p : Prop} (h : p := by
  refine ax 12 (D4 Am rfl rfl rfl rfl rfl rfl (by decide) rfl rfl rfl rfl rfl rfl) ?_
  refine wk 2 ?_
  exact Wd) : p := h
theorem V5 {p : Prop} (h : p := by
  rw [AF (by rw [Ai, Ai]; omega), AF (by rw [Ai]; omega)]; exact CU b) : p := h
theorem zt72 {p : Prop} (h : p := by
  have key : ∀ {l : List CE}, CE.okL C n l -> x ∈ l -> x.ok C n := by
    intro l
    induction l with
    | nil => intro _ hx; cases hx
    | cons a l ih =>
      intro ho hx
      rw [CE.okL] at ho
      rcases List.mem_cons.1 hx with rfl | hx
      . exact ho.1
      . exact ih ho.2 hx
  exact key h.1 hx) : p := h
theorem Zq {p : Prop} (h : p := by
  refine ⟨[], trivial, rfl, ?_⟩
  rw [show (Dd call s fuel f (fuel.toNat + 1) 0 (List.replicate f.regs.toNat 0) m) = _ from bQ hF hk hI hge (by first | exact .inl (by simpa using ‹(!(AG fuel r.m).1) = true›) | exact .inr ‹_›)]
  exact HSub.put (HSub.put (HSub.put (HSub.none _) rfl) rfl) rfl) : p := h
theorem Zp {p : Prop} (h : p := by
  rw [Iw hjL] at hi |-
  by_cases hij : i = j
  . subst hij
    rw [k2] at h1; cases h1
    rw [k3 e he hb]; simp
  . have : L.getD i false = true := by simpa [hij] using hi
    rw [hcl.2 i this oi h1 e he hb]; simp) : p := h
theorem Zo {p : Prop} (h : p := by
  refine ⟨r', e1, e2.mono hkle (LLe.refl _) (fun _ => rfl), fun hs' => ?_⟩
  have hxb : x ≠ b := fun hx => by subst hx; rw [GM] at h1; cases h1
  rw [DR _ _ (hr.inj x b o _ r' r (hsubh _ _ h1) h2 hb rfl e1 hl hs' hsol hxb)]
  exact e3 hs') : p := h
theorem TV {p : Prop} (h : p := by
  exact HSub.put (HSub.put (HSub.put (HSub.put (HSub.none _) rfl) rfl) rfl) rfl) : p := h
theorem Zn {p : Prop} (h : p := by
  cases e : H' r.rb with
  | none => rfl
  | some c =>
    rcases hst.knew r.rb (by rw [e]; simp) with g | g | g
    . exact absurd h5 g
    . have := hr.lt ⟨b, o, r, h1, h2, h3, h4, rfl⟩; omega
    . exact absurd g (apart b o r hb h1 h2 h3 h4)) : p := h
theorem Pv {p : Prop} (h : p := by
  refine DO ⟨[_], ⟨rfl, trivial⟩, ?_, rfl⟩
  rfl) : p := h
theorem X8 {p : Prop} (h : p := by
  refine DO ⟨[_], ⟨rfl, trivial⟩, ?_, rfl⟩
  refine bc ?_
  unfold Core.fair
  first | (simp_all; done) | (simp_all; intro h_; omega)) : p := h
theorem X7 {p : Prop} (h : p := by
  refine zp (B5 (hE x hxm c hc h0 hov) hf Try.func76) fun ch hch => ?_
  rw [Uq n5 n6 hx (JV hf)]
  exact ⟨hf, hch, hsub3⟩) : p := h
theorem Zm {p : Prop} (h : p := by
  generalize Bc call s (es.drop 1) c1 = q at h3 |-
  obtain ⟨y, c2⟩ := q
  dsimp only at h3 |-
  cases c2.fin == 0 with
  | false => exact h3
  | true => cases decide (x >= z) <;> exact h3) : p := h
theorem X6 {p : Prop} (h : p := by
  refine DO ⟨[_], ⟨rfl, trivial⟩, ?_, rfl⟩
  show AV.int .u32 _ = AV.int .u32 _
  simp only [ET, *, cond_true, cond_false]) : p := h
theorem Zl {p : Prop} (h : p := by
  obtain ⟨hD, s', H', ι', q, r, t⟩ := hp
  have e2 : { a2 with defers := [] } = a2 := by
    have := hD.trans hs.d
    cases a2; simp only at this; subst this; rfl
  rw [e2] at r
  cases e <;> first | exact ⟨s', H', ι', q, r, t⟩ | exact q.elim) : p := h
theorem X5 {p : Prop} (h : p := by
  refine zp (B5 (hE x hxm c hc h0 hov) hf Try.func76) fun ch hch => ?_
  rw [bX heK hx (JV hf)]
  exact ⟨hf, hch, hsub3⟩) : p := h
theorem Zk {p : Prop} (h : p := by
  have ho : op = 12 \/ op = 13 := by simp_all
  refine wk 3 ?_
  refine ax 67 (CT Try.func96 (Sn _ a b ha hb ho)) ?_
  refine wk 4 ?_
  refine ⟨[_, _], ⟨rfl, rfl, trivial⟩, ?_, rfl⟩
  show AV.tup _ = _
  rw [PJ ho]; rfl) : p := h
theorem Zj {p : Prop} (h : p := by
  intro H ι a w hs
  unfold wpList
  rw [Bx hs hg]
  simp only [Bool.false_eq_true, if_false]
  exact h H ι _ w (hs.put hs.heap (Step.refl _ _ _ _) (fun x e => by cases e; exact .tup _ _ _ rfl (fun j x v h => by simp at h)) hd)) : p := h
theorem X4 {p : Prop} (h : p := by
  rw [Gm (e := e) (fun x hx => g1 x (by rw [ho]; simp only [Op.operands, List.mem_toArray]; exact hx))]; exact hx) : p := h
theorem X0 {p : Prop} (h : p := by
  rcases Nat.lt_or_ge j cs.length with h | h
  . exact h
  . rw [List.getElem?_eq_none h] at e2; cases e2) : p := h
theorem Zi {p : Prop} (h : p := by
  refine wk 6 ?_
  refine DO ⟨[_], ⟨rfl, trivial⟩, ?_, rfl⟩
  refine bc ?_
  unfold Core.right
  rw [hall1, hall2, hlast, decide_eq_true hR.1, decide_eq_true hR.2.2.1, decide_eq_true hR.2.2.2.1, decide_eq_true hR.2.2.2.2]
  simp_all) : p := h
theorem Zh {p : Prop} (h : p := by
  refine DO ⟨[_], ⟨rfl, trivial⟩, ?_, rfl⟩
  refine bc ?_
  obtain ⟨hN1, hN2⟩ := hN
  subst hN1
  rw [CE.rightL_all, Dg hx (by first | (apply QA; simp_all; done) | (apply OW; simp_all; done))]) : p := h
theorem Zg {p : Prop} (h : p := by
  obtain ⟨q', k1', k2', _⟩ := hk b' hb'
  rw [k2] at h1; cases h1
  rw [k2'] at h3; cases h3
  rw [mT b hb] at h5; rw [mT b' hb'] at h6
  exact hr'.inj b b' _ _ r r' k1 h2 k1' h4 h5 h6 s1 s2 hne) : p := h
theorem Zf {p : Prop} (h : p := by
  refine DO ⟨[_], ⟨rfl, trivial⟩, ?_, rfl⟩
  have hend : CS.leftL (l.drop q.1) q.2 deep = q.2 := by first | exact Qj (by simpa using hb3) deep | exact Qk (Bj hb2) q.2 deep
  rw [<- hF.1, hend]; rfl) : p := h
theorem Ze {p : Prop} (h : p := by
  refine DO ⟨[_], ⟨rfl, trivial⟩, ?_, rfl⟩
  have hend : CE.leftL (l.drop q.1) q.2 deep = q.2 := by first | exact SO (by simpa using hb3) deep | exact SP (Bj hb2) q.2 deep
  rw [<- hF.1, hend]; rfl) : p := h
theorem XZ {p : Prop} (h : p := by
  rw [AF (by rw [Ai, Ai]; omega)]
  have := CU b.opened
  rwa [Ai] at this) : p := h
theorem TU {p : Prop} (h : p := by
  exact ⟨beq_iff_eq.2 h0, [_], ⟨rfl, trivial⟩, rfl, hsub3⟩) : p := h
theorem XY {p : Prop} (h : p := by
  obtain ⟨_, h2⟩ := h
  rcases h2 with h2 | h2 | h2 | h2 | h2 | h2 | h2 | h2 | h2 <;> first | exact h2.2 | omega) : p := h
theorem XX {p : Prop} (h : p := by
  refine DO ⟨[_], ⟨rfl, trivial⟩, ?_, rfl⟩
  refine bc ?_
  exact (Sp (by simp_all <;> omega)).symm) : p := h
theorem XW {p : Prop} (h : p := by
  refine ⟨[_], ⟨⟨_, _, _, _, rfl, rfl, .ptr _ _ _ _ _ _ _ _ rfl rfl rfl, rfl⟩, trivial⟩, ?_, rfl⟩
  rfl) : p := h
theorem Zd {p : Prop} (h : p := by
  have e1 := st.dom b e
  cases e2 : h' b with
  | none => rfl
  | some o =>
    rcases hd b o e2 with ⟨g, _⟩ | ⟨_, g⟩
    . rw [g] at e1; cases e1
    . rw [hf b g] at e; cases e) : p := h
theorem T1 {p : Prop} (h : p := by
  refine DO ⟨[_], ⟨rfl, trivial⟩, ?_, rfl⟩
  refine bc ?_
  exact (WF (by simp_all <;> omega)).symm) : p := h
theorem zt101 {p : Prop} (h : p := by
  obtain ⟨r, r1, r2, r3⟩ := hr.obj b o h1 h2
  exact ⟨r, by rw [mF b hbL]; exact r1, r2.mono hst.kle lle (fun hs => blk b o r hbL h1 h2 r1 hs), fun hs => noK b o r hbL h1 h2 r1 hs (r3 hs)⟩) : p := h
theorem XC {p : Prop} (h : p := by
  have l6 := r6.len
  have g6 := r6.regs
  have k6 := r6.hi
  exact ⟨E5 r6.inv _, by show b.regs <= b6.regs; omega, r6.inv.r0, by show b6.regs <= _; omega, by show _ <= b6.blocks.length; omega⟩) : p := h
theorem Q8 {p : Prop} (h : p := by
  have := CU b.opened.opened
  rwa [Ai, Ai] at this) : p := h
theorem XB {p : Prop} (h : p := by
  by_cases hki : k = i
  . subst hki; rw [List.getElem?_set_self hilt] at hk; cases hk; exact .inl ⟨rfl, rfl⟩
  . rw [List.getElem?_set_ne (Ne.symm hki)] at hk; exact .inr ⟨hki, hk⟩) : p := h
theorem XA {p : Prop} (h : p := by
  rw [k2] at h1; cases h1
  obtain ⟨r, r1, r2, r3⟩ := hr'.obj b o k1 h2
  exact ⟨r, by rw [mT b hbL]; exact r1, (FJ r2 k3).mono (KLe.refl _) lle' (fun _ => rfl), r3⟩) : p := h
theorem zt106 {p : Prop} (h : p := by
  rcases hst.newrb b r' e es with k | k | ⟨r0, k1, k2, k3⟩
  . exact .inl (A9 k)
  . exact .inr (.inl k)
  . exact .inr (.inr ⟨r0, A9 k1, k2, k3⟩)) : p := h
theorem Xz {p : Prop} (h : p := by
  have : z.cells.size = 1 := by simpa using z1.symm
  exact ⟨z.cells[0], by apply Array.ext; · simpa using this
                        . intro k k1 k2; simp at k2; subst k2; simp⟩) : p := h
end Go.Proofs.Ytmfihmkopmgelaa.Sv
namespace Go.Proofs.Ytmfihmkopmgelaa.Sv
open Go
def XQ : Nat -> Option (List (IntKind × Int)) := fun _ => none
inductive AV where
  | bool (b : Bool)
  | int (k : IntKind) (n : Int)
  | str (s : ByteArray)
  | nil
  | nilp
  | lst (ex : Bool) (es : List (List AV))
  | loc (cs : List AV)
  | ref (b n off len : Nat)
  | ptr (b n i o : Nat)
  | map (b : Nat)
  | agg (cs : List AV)
  | tup (vs : List AV)
  | fn (f : Fn) (fs cs : List AV)
  | val (v : Value)
def UH : Value -> Bool
  | .agg _ | .tuple _ => false
  | _ => true
def AV.cell1 : AV -> Bool
  | .agg _ | .tup _ => false
  | _ => true
abbrev AB := Nat -> Option (Array Value)
structure Ent where
  rb : Nat
  sz : Nat
  n : Nat
  csz : Nat
def Ent.solid (r : Ent) : Prop := r.csz ≠ 0
abbrev A2 := Nat -> Option Ent
def AZ : A2 := fun _ => none
inductive Rel (H : AB) : A2 -> AV -> Value -> Prop
  | bool (ι : A2) (b : Bool) : Rel H ι (.bool b) (.bool b)
  | int (ι : A2) (k : IntKind) (n : Int) : Rel H ι (.int k n) (.int k n)
  | str (ι : A2) (s : ByteArray) : Rel H ι (.str s) (.string s)
  | nil (ι : A2) : Rel H ι .nil (.slice none 0 0)
  | nilp (ι : A2) : Rel H ι .nilp (.pointer none)
  | lst0 (ι : A2) (ex : Bool) (a : Option Addr) (cap : Nat) (hex : ex = true -> cap = 0) (hcap : cap <= maxLen) (hn : a = none -> cap = 0) (hsp : True) : Rel H ι (.lst ex []) (.slice a 0 cap)
  | lst (ι : A2) (ex : Bool) (es : List (List AV)) (b off cap sz : Nat) (c : Array Value) (vals : Nat -> Nat -> Value) (hne : es ≠ []) (hb : H b = some c)
      (hsz : ∀ (i : Nat) (cs : List AV), es[i]? = some cs -> cs.length = sz)
      (hv : ∀ (i : Nat) (cs : List AV) (j : Nat) (x : AV), es[i]? = some cs -> cs[j]? = some x -> c[off + i * sz + j]? = some (vals i j))
      (hr : ∀ (i : Nat) (cs : List AV) (j : Nat) (x : AV), es[i]? = some cs -> cs[j]? = some x -> Rel H AZ x (vals i j))
      (h1 : ∀ (i : Nat) (cs : List AV) (j : Nat) (x : AV), es[i]? = some cs -> cs[j]? = some x -> x.cell1 = true)
      (hex : ex = true -> cap = es.length) (hcap : es.length <= cap) (hmax : cap <= maxLen) :
      Rel H ι (.lst ex es) (.slice (some ⟨b, off, none⟩) es.length cap)
  | loc (ι : A2) (cs : List AV) (b off : Nat) (c : Array Value) (vals : Nat -> Value) (hb : H b = some c)
      (hv : ∀ (j : Nat) (x : AV), cs[j]? = some x -> c[off + j]? = some (vals j)) (hr : ∀ (j : Nat) (x : AV), cs[j]? = some x -> Rel H AZ x (vals j))
      (h1 : ∀ (j : Nat) (x : AV), cs[j]? = some x -> x.cell1 = true) :
      Rel H ι (.loc cs) (.pointer (some ⟨b, off, none⟩))
  | refL (ι : A2) (b n off len cap : Nat) (r : Ent) (hr : ι b = some r) (hn : r.n = n) (hlen : off + len <= n) (hlc : len <= cap) (hcap : (off + cap) * r.sz = r.csz) (hmax : cap <= maxLen) :
      Rel H ι (.ref b n off len) (.slice (some ⟨r.rb, off * r.sz, none⟩) len cap)
  | ref0 (ι : A2) (b : Nat) (r : Ent) (a : Option Addr) (hr : ι b = some r) (hn : r.n = 0) (hc : r.csz = 0) (hsp : True) : Rel H ι (.ref b 0 0 0) (.slice a 0 0)
  | refS (ι : A2) (b n off len : Nat) (r : Ent) (a : Option Addr) (cap : Nat) (hr : ι b = some r) (hn : n < r.n) : Rel H ι (.ref b n off len) (.slice a len cap)
  | ptrL (ι : A2) (b n i o : Nat) (r : Ent) (hr : ι b = some r) (hn : r.n = n) : Rel H ι (.ptr b n i o) (.pointer (some ⟨r.rb, i * r.sz + o, none⟩))
  | ptrS (ι : A2) (b n i o : Nat) (r : Ent) (a : Addr) (hr : ι b = some r) (hn : n < r.n) : Rel H ι (.ptr b n i o) (.pointer (some a))
  | map (ι : A2) (b : Nat) (r : Ent) (hr : ι b = some r) (hn : r.sz = 0) : Rel H ι (.map b) (.map (some r.rb))
  | agg (ι : A2) (cs : List AV) (vs : Array Value) (hl : cs.length = vs.size) (hr : ∀ (j : Nat) (x : AV) (v : Value), cs[j]? = some x -> vs[j]? = some v -> Rel H ι x v) : Rel H ι (.agg cs) (.agg vs)
  | tup (ι : A2) (cs : List AV) (vs : Array Value) (hl : cs.length = vs.size) (hr : ∀ (j : Nat) (x : AV) (v : Value), cs[j]? = some x -> vs[j]? = some v -> Rel H ι x v) : Rel H ι (.tup cs) (.tuple vs)
  | fn (ι : A2) (f : Fn) (xs cs : List AV) (us vs : Array Value) (hx : xs.length = us.size) (hl : cs.length = vs.size)
      (h1 : ∀ (j : Nat) (x : AV) (v : Value), xs[j]? = some x -> us[j]? = some v -> Rel H ι x v) (h2 : ∀ (j : Nat) (x : AV) (v : Value), cs[j]? = some x -> vs[j]? = some v -> Rel H ι x v) : Rel H ι (.fn f xs cs) (.func f us vs)
  | val (ι : A2) (v : Value) (h : UH v = true) : Rel H ι (.val v) v
def KLe (H H' : AB) : Prop := ∀ b c, H b = some c -> H' b = some c
def LLe (ι ι' : A2) : Prop := ∀ b r, ι b = some r -> ∃ r', ι' b = some r' /\ (r' = r \/ r.n < r'.n /\ 0 < r.sz /\ r'.sz = r.sz)
theorem KLe.refl (H : AB) : KLe H H := fun _ _ h => h
theorem KLe.trans {H H' H'' : AB} (h : KLe H H') (h' : KLe H' H'') : KLe H H'' := fun b c e => h' b c (h b c e)
theorem LLe.refl (ι : A2) : LLe ι ι := fun _ r h => ⟨r, h, .inl rfl⟩
theorem LLe.trans {ι ι' ι'' : A2} (h : LLe ι ι') (h' : LLe ι' ι'') : LLe ι ι'' := fun b r e => by
  obtain ⟨r', e', h1⟩ := h b r e
  obtain ⟨r'', e'', h2⟩ := h' b r' e'
  refine ⟨r'', e'', ?_⟩
  rcases h1 with rfl | h1 <;> rcases h2 with rfl | h2
  . exact .inl rfl
  . exact .inr h2
  . exact .inr h1
  . exact .inr ⟨Nat.lt_trans h1.1 h2.1, h1.2.1, h2.2.2.trans h1.2.2⟩
theorem LLe.none (ι : A2) : LLe AZ ι := fun _ _ h => by cases h
theorem Rel.mono {H H' : AB} {ι : A2} {x : AV} {v : Value} (h : Rel H ι x v) (hH : KLe H H') : ∀ {ι' : A2}, LLe ι ι' -> Rel H' ι' x v := by
  induction h with
  | bool => exact fun _ => .bool _ _
  | int => exact fun _ => .int _ _ _
  | str => exact fun _ => .str _ _
  | nil => exact fun _ => .nil _
  | nilp => exact fun _ => .nilp _
  | lst0 ι ex a cap hex hcap hn hsp => exact fun _ => .lst0 _ ex a cap hex hcap hn hsp
  | lst ι ex es b off cap sz c vals hne hb hsz hv hr hc1 hex hcap hmax ih =>
    exact fun _ => .lst _ ex es b off cap sz c vals hne (hH _ _ hb) hsz hv (fun i cs j x h1 h2 => ih i cs j x h1 h2 (LLe.refl _)) hc1 hex hcap hmax
  | loc ι cs b off c vals hb hv hr hc1 ih =>
    exact fun _ => .loc _ cs b off c vals (hH _ _ hb) hv (fun j x h1 => ih j x h1 (LLe.refl _)) hc1
  | refL ι b n off len cap r hr hn hlen hlc hcap hmax =>
    intro ι' h
    obtain ⟨r', e, h1⟩ := h b r hr
    rcases h1 with rfl | h1
    . exact .refL _ b n off len cap r' e hn hlen hlc hcap hmax
    . exact .refS _ b n off len r' _ cap e (hn ▸ h1.1)
  | ref0 ι b r a hr hn hc hsp =>
    intro ι' h
    obtain ⟨r', e, h1⟩ := h b r hr
    rcases h1 with rfl | h1
    . exact .ref0 _ b r' a e hn hc hsp
    . exact .refS _ b 0 0 0 r' _ 0 e (by omega)
  | refS ι b n off len r a cap hr hn =>
    intro ι' h
    obtain ⟨r', e, h1⟩ := h b r hr
    rcases h1 with rfl | h1
    . exact .refS _ b n off len r' a cap e hn
    . exact .refS _ b n off len r' a cap e (Nat.lt_trans hn h1.1)
  | ptrL ι b n i o r hr hn =>
    intro ι' h
    obtain ⟨r', e, h1⟩ := h b r hr
    rcases h1 with rfl | h1
    . exact .ptrL _ b n i o r' e hn
    . exact .ptrS _ b n i o r' _ e (hn ▸ h1.1)
  | ptrS ι b n i o r a hr hn =>
    intro ι' h
    obtain ⟨r', e, h1⟩ := h b r hr
    rcases h1 with rfl | h1
    . exact .ptrS _ b n i o r' a e hn
    . exact .ptrS _ b n i o r' a e (Nat.lt_trans hn h1.1)
  | map ι b r hr hn =>
    intro ι' h
    obtain ⟨r', e, h1⟩ := h b r hr
    rcases h1 with rfl | h1
    . exact .map _ b r' e hn
    . omega
  | val ι v h => exact fun _ => .val _ v h
  | agg ι cs vs hl hr ih => exact fun h => .agg _ cs vs hl (fun j x v h1 h2 => ih j x v h1 h2 h)
  | tup ι cs vs hl hr ih => exact fun h => .tup _ cs vs hl (fun j x v h1 h2 => ih j x v h1 h2 h)
  | fn ι f xs cs us vs hx hl h1 h2 ih1 ih2 => exact fun h => .fn _ f xs cs us vs hx hl (fun j x v e1 e2 => ih1 j x v e1 e2 h) (fun j x v e1 e2 => ih2 j x v e1 e2 h)
def Va (l : List (IntKind × Int)) : AV := .loc (l.map fun p => .int p.1 p.2)
def GlobOk (H : AB) : Prop := ∀ (g : Nat) (l : List (IntKind × Int)), XQ g = some l -> Rel H AZ (Va l) (.pointer (some ⟨g, 0, none⟩))
theorem GlobOk.mono {H H' : AB} (h : GlobOk H) (hH : KLe H H') : GlobOk H' := fun g l e => (h g l e).mono hH (LLe.refl _)
section
variable {H : AB} {ι : A2} {v : Value}
theorem Rel.bool_inv {b : Bool} (h : Rel H ι (.bool b) v) : v = .bool b := by cases h; rfl
theorem Rel.int_inv {k : IntKind} {n : Int} (h : Rel H ι (.int k n) v) : v = .int k n := by cases h; rfl
theorem Rel.str_inv {s : ByteArray} (h : Rel H ι (.str s) v) : v = .string s := by cases h; rfl
theorem Rel.nil_inv (h : Rel H ι .nil v) : v = .slice none 0 0 := by cases h; rfl
theorem Rel.val_inv {u : Value} (h : Rel H ι (.val u) v) : v = u /\ UH u = true := by cases h; exact ⟨rfl, by assumption⟩
theorem Rel.tup_inv {cs : List AV} (h : Rel H ι (.tup cs) v) : ∃ us, v = .tuple us /\ cs.length = us.size /\ ∀ (j : Nat) (x : AV) (u : Value), cs[j]? = some x -> us[j]? = some u -> Rel H ι x u := by
  cases h; exact ⟨_, rfl, by assumption, by assumption⟩
theorem Rel.agg_inv {cs : List AV} (h : Rel H ι (.agg cs) v) : ∃ us, v = .agg us /\ cs.length = us.size /\ ∀ (j : Nat) (x : AV) (u : Value), cs[j]? = some x -> us[j]? = some u -> Rel H ι x u := by
  cases h; exact ⟨_, rfl, by assumption, by assumption⟩
theorem Rel.fn_inv {f : Fn} {xs cs : List AV} (h : Rel H ι (.fn f xs cs) v) : ∃ us vs, v = .func f us vs /\ xs.length = us.size /\ cs.length = vs.size /\
    (∀ (j : Nat) (x : AV) (u : Value), xs[j]? = some x -> us[j]? = some u -> Rel H ι x u) /\ (∀ (j : Nat) (x : AV) (u : Value), cs[j]? = some x -> vs[j]? = some u -> Rel H ι x u) := by
  cases h; exact ⟨_, _, rfl, by assumption, by assumption, by assumption, by assumption⟩
theorem Rel.lst_inv {ex : Bool} {es : List (List AV)} (h : Rel H ι (.lst ex es) v) :
    (es = [] /\ ∃ a cap, v = .slice a 0 cap /\ (ex = true -> cap = 0) /\ cap <= maxLen /\ (a = none -> cap = 0) /\ True) \/
    (es ≠ [] /\ ∃ b off cap sz c, ∃ vals : Nat -> Nat -> Value, v = .slice (some ⟨b, off, none⟩) es.length cap /\ H b = some c /\ (∀ (i : Nat) (cs : List AV), es[i]? = some cs -> cs.length = sz) /\
      (∀ (i : Nat) (cs : List AV) (j : Nat) (x : AV), es[i]? = some cs -> cs[j]? = some x -> c[off + i * sz + j]? = some (vals i j)) /\
      (∀ (i : Nat) (cs : List AV) (j : Nat) (x : AV), es[i]? = some cs -> cs[j]? = some x -> Rel H AZ x (vals i j)) /\
      (∀ (i : Nat) (cs : List AV) (j : Nat) (x : AV), es[i]? = some cs -> cs[j]? = some x -> x.cell1 = true) /\
      (ex = true -> cap = es.length) /\ es.length <= cap /\ cap <= maxLen) := by
  cases h with
  | lst0 _ _ a cap h1 h2 h3 h4 => exact .inl ⟨rfl, a, cap, rfl, h1, h2, h3, h4⟩
  | lst _ _ _ b off cap sz c vals h0 h1 h2 h3 h4 h5 h6 h7 h8 => exact .inr ⟨h0, b, off, cap, sz, c, vals, rfl, h1, h2, h3, h4, h5, h6, h7, h8⟩
theorem Rel.lst_len {ex : Bool} {es : List (List AV)} (h : Rel H ι (.lst ex es) v) : ∃ a cap, v = .slice a es.length cap := by
  cases h with
  | lst0 _ _ a cap h1 h2 h3 h4 => exact ⟨a, cap, rfl⟩
  | lst _ _ _ b off cap sz c vals h0 h1 h2 h3 h4 h5 h6 h7 h8 => exact ⟨_, _, rfl⟩
theorem Rel.loc_inv {cs : List AV} (h : Rel H ι (.loc cs) v) : ∃ b off c, ∃ vals : Nat -> Value, v = .pointer (some ⟨b, off, none⟩) /\ H b = some c /\
    (∀ (j : Nat) (x : AV), cs[j]? = some x -> c[off + j]? = some (vals j)) /\ (∀ (j : Nat) (x : AV), cs[j]? = some x -> Rel H AZ x (vals j)) /\ (∀ (j : Nat) (x : AV), cs[j]? = some x -> x.cell1 = true) := by
  cases h; exact ⟨_, _, _, _, rfl, by assumption, by assumption, by assumption, by assumption⟩
theorem Rel.ref_len {b n off len : Nat} (h : Rel H ι (.ref b n off len) v) : ∃ a cap, v = .slice a len cap := by
  cases h <;> exact ⟨_, _, rfl⟩
theorem Rel.ref_live {b n off len : Nat} {r : Ent} (h : Rel H ι (.ref b n off len) v) (hr : ι b = some r) (hn : r.n = n) (hc : r.csz ≠ 0) :
    off + len <= n /\ ∃ cap, v = .slice (some ⟨r.rb, off * r.sz, none⟩) len cap /\ len <= cap /\ (off + cap) * r.sz = r.csz /\ cap <= maxLen := by
  cases h with
  | ref0 _ _ r' a hr' hn' hc' => rw [hr] at hr'; cases hr'; exact absurd hc' hc
  | refL _ _ _ _ _ cap r' hr' hn' hlen hlc hcap hmax => rw [hr] at hr'; cases hr'; exact ⟨hlen, cap, rfl, hlc, hcap, hmax⟩
  | refS _ _ _ _ _ r' a cap hr' hn' => rw [hr] at hr'; cases hr'; omega
theorem Rel.ptr_live {b n i o : Nat} {r : Ent} (h : Rel H ι (.ptr b n i o) v) (hr : ι b = some r) (hn : r.n = n) : v = .pointer (some ⟨r.rb, i * r.sz + o, none⟩) := by
  cases h with
  | ptrL _ _ _ _ _ r' hr' hn' => rw [hr] at hr'; cases hr'; rfl
  | ptrS _ _ _ _ _ r' a hr' hn' => rw [hr] at hr'; cases hr'; omega
theorem Rel.ptr_some {b n i o : Nat} (h : Rel H ι (.ptr b n i o) v) : ∃ a, v = .pointer (some a) := by
  cases h <;> exact ⟨_, rfl⟩
end
theorem Rel.ref_dry {H : AB} {ι : A2} {v : Value} {b n off len : Nat} {r : Ent} (h : Rel H ι (.ref b n off len) v) (hr : ι b = some r) (hn : r.n = n) (hc : r.csz = 0) (hs : 0 < r.sz) :
    len = 0 /\ ∃ a, v = .slice a 0 0 /\ True := by
  cases h with
  | ref0 _ _ r' a hr' hn' hc' hsp => exact ⟨rfl, a, rfl, hsp⟩
  | refL _ _ _ _ _ cap r' hr' hn' hlen hlc hcap hmax =>
    rw [hr] at hr'; cases hr'
    rw [hc] at hcap
    have : off + cap = 0 := by
      rcases Nat.mul_eq_zero.1 hcap with h | h
      . exact h
      . omega
    have h1 : cap = 0 := by omega
    have h2 : len = 0 := by omega
    subst h1; subst h2
    exact ⟨rfl, _, rfl, trivial⟩
  | refS _ _ _ _ _ r' a cap hr' hn' => rw [hr] at hr'; cases hr'; omega
end Go.Proofs.Ytmfihmkopmgelaa.Sv
namespace Go.Proofs.Ytmfihmkopmgelaa.Sv
open Go
inductive AObj where
  | free
  | row (p : Bool) (sz : Nat) (es : List (List AV))
  | map (kvs : List (AV × AV))
  | iter0
def AObj.alive : AObj -> Bool
  | .free => false
  | _ => true
abbrev Ab := Nat -> Option AObj
abbrev Az := Nat -> Option AV
def hNew : Ab := fun _ => some .free
def Bt : Az := fun _ => none
def hput (h : Ab) (b : Nat) (o : AObj) : Ab := fun x => bif Nat.beq x b then some o else h x
def Ad (e : Az) (t : Nat) (v : AV) : Az := fun x => bif Nat.beq x t then some v else e x
def Ta (e : Az) (t : Nat) : Az := fun x => bif Nat.beq x t then none else e x
theorem Af {x b : Nat} (h : x ≠ b) : Nat.beq x b = false := by
  cases e : Nat.beq x b with
  | false => rfl
  | true => exact absurd (Nat.eq_of_beq_eq_true e) h
theorem AA (h : Ab) (b : Nat) (o : AObj) : hput h b o b = some o := by simp [hput]
theorem Aj (h : Ab) {b x : Nat} (o : AObj) (hne : x ≠ b) : hput h b o x = h x := by simp only [hput, Af hne, cond_false]
theorem Co (e : Az) (t : Nat) (v : AV) : Ad e t v t = some v := by simp [Ad]
theorem CZ (e : Az) {t x : Nat} (v : AV) (hne : x ≠ t) : Ad e t v x = e x := by simp only [Ad, Af hne, cond_false]
theorem MH (e : Az) (t : Nat) : Ta e t t = none := by simp [Ta]
theorem RK (e : Az) {t x : Nat} (hne : x ≠ t) : Ta e t x = e x := by simp only [Ta, Af hne, cond_false]
structure Al where
  n : Nat
  env : Az
  h : Ab
def rowCells (H : AB) (ι : A2) (sz : Nat) (es : List (List AV)) (c : Array Value) : Prop :=
  (∀ (i : Nat) (cs : List AV), es[i]? = some cs -> cs.length = sz) /\
  ∀ (i : Nat) (cs : List AV) (j : Nat) (x : AV), es[i]? = some cs -> cs[j]? = some x -> ∃ v, c[i * sz + j]? = some v /\ Rel H ι x v /\ x.cell1 = true
def UV (H : AB) (kvs : List (AV × AV)) (es : Array MapEntry) : Prop :=
  kvs.length = es.size /\ ∀ (j : Nat) (k v : AV), kvs[j]? = some (k, v) -> ∃ e, es[j]? = some e /\ Rel H AZ k e.key /\ Rel H AZ v e.val
def RowAt (w : World) (rb : Nat) (c : Array Value) (T : TypeId) : Prop := ∃ fr : Nat × Nat, w.heap[rb]? = some (.cells c T fr) /\ (fr.2 = 0 \/ c.size <= fr.1)
theorem RowAt.lt {w : World} {rb : Nat} {c : Array Value} {T : TypeId} (h : RowAt w rb c T) : rb < w.heap.size := by
  obtain ⟨fr, e, _⟩ := h
  exact (Array.getElem?_eq_some_iff.1 e).1
theorem RowAt.same {w w' : World} {rb : Nat} {c : Array Value} {T : TypeId} (h : RowAt w rb c T) (e : w'.heap[rb]? = w.heap[rb]?) : RowAt w' rb c T := by
  obtain ⟨fr, h1, h2⟩ := h
  exact ⟨fr, e.trans h1, h2⟩
theorem RowAt.plain {w : World} {rb : Nat} {c : Array Value} {T : TypeId} (h : w.heap[rb]? = some (.cells c T)) : RowAt w rb c T := ⟨(0, 0), h, .inl rfl⟩
def ObjOk (H : AB) (ι : A2) (w : World) (r : Ent) : AObj -> Prop
  | .free => True
  | .row p sz es => r.sz = sz /\ 0 < sz /\ r.n = es.length /\ es.length * sz <= r.csz /\ (∀ (i : Nat) (cs : List AV), es[i]? = some cs -> cs.length = sz) /\
      (r.solid -> ∃ c T, RowAt w r.rb c T /\ c.size = r.csz /\ rowCells H (bif p then AZ else ι) sz es c)
  | .map kvs => r.sz = 0 /\ r.solid /\ ∃ es clk, w.heap[r.rb]? = some (.map es clk) /\ UV H kvs es
  | .iter0 => r.sz = 0 /\ r.n = 0 /\ r.solid /\ w.heap[r.rb]? = some (.mapIter none 0 #[] 0)
structure HeapRel (H : AB) (ι : A2) (h : Ab) (w : World) : Prop where
  know : ∀ b c, H b = some c -> ∃ T fr, w.heap[b]? = some (.cells c T fr)
  free : ∀ b, h b = some .free -> ι b = none
  obj : ∀ b o, h b = some o -> o.alive = true -> ∃ r, ι b = some r /\ ObjOk H ι w r o /\ (r.solid -> H r.rb = none)
  inj : ∀ b b' o o' r r', h b = some o -> o.alive = true -> h b' = some o' -> o'.alive = true -> ι b = some r -> ι b' = some r' -> r.solid -> r'.solid -> b ≠ b' -> r.rb ≠ r'.rb
  glob : GlobOk H
def Gq (h : Ab) (ι : A2) (rb : Nat) : Prop := ∃ b o r, h b = some o /\ o.alive = true /\ ι b = some r /\ r.solid /\ r.rb = rb
theorem HeapRel.lt {H : AB} {ι : A2} {h : Ab} {w : World} (hr : HeapRel H ι h w) {rb : Nat} (ho : Gq h ι rb) : rb < w.heap.size := by
  obtain ⟨b, o, r, h1, h2, h3, hsol, rfl⟩ := ho
  obtain ⟨r', e1, e2, _⟩ := hr.obj b o h1 h2
  rw [h3] at e1; cases e1
  cases o with
  | free => cases h2
  | row p sz es => obtain ⟨_, _, _, _, _, hx⟩ := e2; obtain ⟨c, T, hc, _⟩ := hx hsol; exact hc.lt
  | map kvs => obtain ⟨_, _, es, clk, hc, _⟩ := e2; exact (Array.getElem?_eq_some_iff.1 hc).1
  | iter0 => exact (Array.getElem?_eq_some_iff.1 e2.2.2.2).1
theorem HeapRel.knowlt {H : AB} {ι : A2} {h : Ab} {w : World} (hr : HeapRel H ι h w) {b : Nat} {c : Array Value} (hc : H b = some c) : b < w.heap.size := by
  obtain ⟨T, fr, e⟩ := hr.know b c hc
  exact (Array.getElem?_eq_some_iff.1 e).1
structure Step (H : AB) (ι : A2) (h : Ab) (w : World) (H' : AB) (ι' : A2) (h' : Ab) (w' : World) : Prop where
  size : w.heap.size <= w'.heap.size
  os : w'.os = w.os
  out : w'.output = w.output
  keep : ∀ rb, rb < w.heap.size -> ¬ Gq h ι rb -> w'.heap[rb]? = w.heap[rb]?
  kle : KLe H H'
  knew : ∀ b, H' b ≠ none -> H b ≠ none \/ w.heap.size <= b \/ Gq h ι b
  lle : LLe ι ι'
  lframe : ∀ b, h b = none -> ι' b = ι b
  newrb : ∀ b r', ι' b = some r' -> r'.solid -> ι b = some r' \/ w.heap.size <= r'.rb \/ ∃ r, ι b = some r /\ r.solid /\ r.rb = r'.rb
  dom : ∀ b, h b = none -> h' b = none
theorem Step.refl (H : AB) (ι : A2) (h : Ab) (w : World) : Step H ι h w H ι h w where
  size := Nat.le_refl _
  os := rfl
  out := rfl
  keep := fun _ _ _ => rfl
  kle := KLe.refl _
  knew := fun _ h => .inl h
  lle := LLe.refl _
  lframe := fun _ _ => rfl
  newrb := fun _ _ h _ => .inl h
  dom := fun _ h => h
theorem Step.owned {H : AB} {ι : A2} {h : Ab} {w : World} {H' : AB} {ι' : A2} {h' : Ab} {w' : World}
    (hr : HeapRel H ι h w) (s : Step H ι h w H' ι' h' w') {rb : Nat} (ho : Gq h' ι' rb) : Gq h ι rb \/ w.heap.size <= rb := by
  obtain ⟨b, o, r', h1, h2, h3, hsol, rfl⟩ := ho
  cases e1 : h b with
  | none => rw [s.dom b e1] at h1; cases h1
  | some o0 =>
    have e2 : ι b ≠ none -> o0.alive = true := fun hne => by
      cases o0 with
      | free => exact absurd (hr.free b e1) hne
      | _ => rfl
    rcases s.newrb b r' h3 hsol with e | e | ⟨r, e, es, e'⟩
    . exact .inl ⟨b, o0, r', e1, e2 (by rw [e]; simp), e, hsol, rfl⟩
    . exact .inr e
    . exact .inl ⟨b, o0, r, e1, e2 (by rw [e]; simp), e, es, e'⟩
theorem Step.trans {H : AB} {ι : A2} {h : Ab} {w : World} {H' : AB} {ι' : A2} {h' : Ab} {w' : World} {H'' : AB} {ι'' : A2} {h'' : Ab} {w'' : World}
    (hr : HeapRel H ι h w) (s : Step H ι h w H' ι' h' w') (hr' : HeapRel H' ι' h' w') (t : Step H' ι' h' w' H'' ι'' h'' w'') : Step H ι h w H'' ι'' h'' w'' where
  size := Nat.le_trans s.size t.size
  os := t.os.trans s.os
  out := t.out.trans s.out
  keep := fun rb hlt hno => by
    rw [t.keep rb (Nat.lt_of_lt_of_le hlt s.size) (fun ho => ?_), s.keep rb hlt hno]
    rcases s.owned hr ho with h1 | h1
    . exact hno h1
    . omega
  kle := s.kle.trans t.kle
  knew := fun b hb => by
    rcases t.knew b hb with h1 | h1 | h1
    . exact s.knew b h1
    . exact .inr (.inl (Nat.le_trans s.size h1))
    . rcases s.owned hr h1 with h2 | h2
      . exact .inr (.inr h2)
      . exact .inr (.inl h2)
  lle := s.lle.trans t.lle
  lframe := fun b hb => (t.lframe b (s.dom b hb)).trans (s.lframe b hb)
  newrb := fun b r'' hb hsol => by
    rcases t.newrb b r'' hb hsol with h1 | h1 | ⟨r', h1, hs1, h2⟩
    . exact s.newrb b r'' h1 hsol
    . exact .inr (.inl (Nat.le_trans s.size h1))
    . rcases s.newrb b r' h1 hs1 with h3 | h3 | ⟨r, h3, hs3, h4⟩
      . exact .inr (.inr ⟨r', h3, hs1, h2⟩)
      . exact .inr (.inl (h2 ▸ h3))
      . exact .inr (.inr ⟨r, h3, hs3, h4.trans h2⟩)
  dom := fun b hb => t.dom b (s.dom b hb)
end Go.Proofs.Ytmfihmkopmgelaa.Sv
namespace Go.Proofs.Ytmfihmkopmgelaa.Sv
open Go
structure Sim (H : AB) (ι : A2) (s : Al) (a : Act) (w : World) : Prop where
  n : a.tmps.size = s.n
  d : a.defers = []
  env : ∀ t x, s.env t = some x -> ∃ v, a.tmps[t]? = some v /\ Rel H ι x v
  heap : HeapRel H ι s.h w
def Post (H : AB) (ι : A2) (h : Ab) (w : World) (Q : Exit -> Al -> Prop) : Exit -> Act -> World -> Prop := fun e a' w' =>
  ∃ s' H' ι', Q e s' /\ Sim H' ι' s' a' w' /\ Step H ι h w H' ι' s'.h w'
def AGo (P : Program) (c : Code) (s : Al) (Q : Exit -> Al -> Prop) : Prop :=
  ∀ H ι a w, Sim H ι s a w -> c.wp P (Post H ι s.h w Q) a w
section
variable {P : Program} {Q : Exit -> Al -> Prop} {s : Al}
theorem Post.mono {H : AB} {ι : A2} {h : Ab} {w : World} {Q Q' : Exit -> Al -> Prop} {e : Exit} {a : Act} {w' : World} (hp : Post H ι h w Q e a w') (hq : ∀ s, Q e s -> Q' e s) : Post H ι h w Q' e a w' := by
  obtain ⟨s', H', ι', q, r⟩ := hp
  exact ⟨s', H', ι', hq _ q, r⟩
theorem Post.step {H : AB} {ι : A2} {h : Ab} {w : World} {H' : AB} {ι' : A2} {h' : Ab} {w' : World} (hr : HeapRel H ι h w) (hr' : HeapRel H' ι' h' w') (st : Step H ι h w H' ι' h' w')
    {Q : Exit -> Al -> Prop} {e : Exit} {a : Act} {w'' : World} (hp : Post H' ι' h' w' Q e a w'') : Post H ι h w Q e a w'' := by
  obtain ⟨s', H'', ι'', q, r, t⟩ := hp
  exact ⟨s', H'', ι'', q, r, st.trans hr hr' t⟩
theorem AGo.mono {c : Code} {Q' : Exit -> Al -> Prop} (h : AGo P c s Q) (hq : ∀ e s, Q e s -> Q' e s) : AGo P c s Q' :=
  fun H ι a w hs => wp_mono (h H ι a w hs) fun e a' w' hp => hp.mono (hq e)
theorem AGo.skip (h : Q .normal s) : AGo P .skip s Q := fun H ι a w hs => wp_skip ⟨s, H, ι, h, hs, Step.refl _ _ _ _⟩
theorem AGo.exit {id : Nat} (h : Q (.exit id) s) : AGo P (.exit id) s Q := fun H ι a w hs => wp_exit ⟨s, H, ι, h, hs, Step.refl _ _ _ _⟩
theorem AGo.ret (h : Q .ret s) : AGo P .ret s Q := fun H ι a w hs => wp_ret ⟨s, H, ι, h, hs, Step.refl _ _ _ _⟩
theorem AGo.label {l : Nat} (h : Q .normal s) : AGo P (.label l) s Q := fun H ι a w hs => wp_label ⟨s, H, ι, h, hs, Step.refl _ _ _ _⟩
def DV (K : Al -> Prop) (Q : Exit -> Al -> Prop) : Exit -> Al -> Prop
  | .normal, s => K s
  | e, s => Q e s
theorem AGo.seq {x y : Code} (h : AGo P x s (DV (fun s' => AGo P y s' Q) Q)) : AGo P (.seq x y) s Q := by
  intro H ι a w hs
  refine wp_seq (wp_mono (h H ι a w hs) fun e a' w' hp => ?_)
  cases e with
  | normal =>
    obtain ⟨s', H', ι', q, r, t⟩ := hp
    exact wp_mono (q H' ι' a' w' r) fun e a'' w'' hp' => Post.step hs.heap r.heap t hp'
  | _ => exact hp
theorem AGo.cond {c : Operand} {x y : Code} {t : Nat} {b : Bool} (hc : c = .tmp t) (he : s.env t = some (.bool b)) (h1 : b = true -> AGo P x s Q) (h2 : b = false -> AGo P y s Q) : AGo P (.cond c x y) s Q := by
  intro H ι a w hs
  subst hc
  obtain ⟨v, hv, hr⟩ := hs.env t _ he
  cases hr
  have hev : a.eval (.tmp t) = .bool b := by simp [Act.eval, hv]
  exact wp_cond_split hev (fun e => h1 e H ι a w hs) (fun e => h2 e H ι a w hs)
theorem AGo.cond_true {t : Nat} {x y : Code} (b : Bool) (he : s.env t = some (.bool b)) (hb : b = true) (h : AGo P x s Q) : AGo P (.cond (.tmp t) x y) s Q :=
  AGo.cond rfl he (fun _ => h) (fun h2 => by rw [hb] at h2; cases h2)
theorem AGo.cond_false {t : Nat} {x y : Code} (b : Bool) (he : s.env t = some (.bool b)) (hb : b = false) (h : AGo P y s Q) : AGo P (.cond (.tmp t) x y) s Q :=
  AGo.cond rfl he (fun h2 => by rw [hb] at h2; cases h2) (fun _ => h)
def RY (id : Nat) (Q : Exit -> Al -> Prop) : Exit -> Al -> Prop
  | .exit id', s => bif Nat.beq id' id then Q .normal s else Q (.exit id') s
  | e, s => Q e s
theorem AGo.block {id : Nat} {c : Code} (h : AGo P c s (RY id Q)) : AGo P (.block id c) s Q := by
  intro H ι a w hs
  refine wp_block (wp_mono (h H ι a w hs) fun e a' w' hp => ?_)
  cases e with
  | exit id' =>
    obtain ⟨s', H', ι', q, r⟩ := hp
    simp only [Exit.inBlock]
    simp only [RY] at q
    by_cases hid : id' = id
    . subst hid
      simp only [Nat.beq_refl, cond_true] at q
      rw [if_pos rfl]
      exact ⟨s', H', ι', q, r⟩
    . rw [if_neg hid]
      rw [Af hid] at q
      exact ⟨s', H', ι', q, r⟩
  | _ => exact hp
theorem AGo.loop {γ : Type} {c : Code} (I : γ -> Al -> Prop) (μ : γ -> Nat) (g0 : γ) (h0 : I g0 s)
    (round : ∀ g s, I g s -> AGo P c s (DV (fun s' => ∃ g', I g' s' /\ μ g' < μ g) Q)) : AGo P (.loop c) s Q := by
  intro H ι a w hs b k cs
  have key : ∀ n g s1 H1 ι1 a1 w1, μ g = n -> I g s1 -> Sim H1 ι1 s1 a1 w1 -> Step H ι s.h w H1 ι1 s1.h w1 ->
      ∃ e a' w', Post H ι s.h w Q e a' w' /\ Arrives P (lone (b.at a1 (.code c :: .inLoop c :: k)) cs w1) b k cs e a' w' := by
    intro n
    induction n using Nat.strongRecOn with
    | _ n ih =>
      intro g s1 H1 ι1 a1 w1 hn hI hs1 hst
      obtain ⟨e, a₂, w₂, hq, harr⟩ := round g s1 hI H1 ι1 a1 w1 hs1 b (.inLoop c :: k) cs
      obtain ⟨s2, H2, ι2, q, r, t⟩ := hq
      have t' := hst.trans hs.heap hs1.heap t
      cases e with
      | normal =>
        obtain ⟨g', hI', hlt⟩ := q
        obtain ⟨e₂, a₃, w₃, hq₂, harr₂⟩ := ih (μ g') (hn ▸ hlt) g' s2 H2 ι2 a₂ w₂ rfl hI' r t'
        exact ⟨e₂, a₃, w₃, hq₂, .of_steps (Steps.trans harr (.one step_inLoop)) harr₂⟩
      | exit id => exact ⟨_, a₂, w₂, ⟨s2, H2, ι2, q, r, t'⟩, .pass (x := .inLoop c) rfl (fun _ _ => .inl (by simp)) harr⟩
      | goto l => exact ⟨_, a₂, w₂, ⟨s2, H2, ι2, q, r, t'⟩, .pass (x := .inLoop c) rfl (fun _ _ => .inl (by simp)) harr⟩
      | ret => exact ⟨_, a₂, w₂, ⟨s2, H2, ι2, q, r, t'⟩, .pass (x := .inLoop c) rfl (fun _ _ => .inl (by simp)) harr⟩
      | panic ch => exact ⟨_, a₂, w₂, ⟨s2, H2, ι2, q, r, t'⟩, .pass (x := .inLoop c) rfl (fun _ _ => .inl (by simp)) harr⟩
      | outgrown => exact ⟨_, a₂, w₂, ⟨s2, H2, ι2, q, r, t'⟩, .pass (x := .inLoop c) rfl (fun _ _ => .inl (by simp)) harr⟩
  obtain ⟨e, a', w', hq, harr⟩ := key _ g0 s H ι a w rfl h0 hs (Step.refl _ _ _ _)
  exact ⟨e, a', w', hq, .of_steps (.one step_loop) harr⟩
def Sub (s s' : Al) : Prop := s.n = s'.n /\ (∀ t x, s.env t = some x -> s'.env t = some x) /\ (∀ b o, s.h b = some o -> s'.h b = some o)
theorem HeapRel.sub {H : AB} {ι : A2} {h h' : Ab} {w : World} (hr : HeapRel H ι h' w) (hs : ∀ b o, h b = some o -> h' b = some o) : HeapRel H ι h w where
  know := hr.know
  glob := hr.glob
  free := fun b e => hr.free b (hs _ _ e)
  obj := fun b o e ea => hr.obj b o (hs _ _ e) ea
  inj := fun b b' o o' r r' h1 h2 h3 h4 => hr.inj b b' o o' r r' (hs _ _ h1) h2 (hs _ _ h3) h4
theorem Sim.sub {H : AB} {ι : A2} {s s' : Al} {a : Act} {w : World} (h : Sim H ι s' a w) (hs : Sub s s') : Sim H ι s a w where
  n := h.n.trans hs.1.symm
  d := h.d
  env := fun t x e => h.env t x (hs.2.1 t x e)
  heap := h.heap.sub hs.2.2
end
end Go.Proofs.Ytmfihmkopmgelaa.Sv
namespace Go.Proofs.Ytmfihmkopmgelaa.Sv
open Go
inductive TK where
  | bool | int (k : IntKind) | string | slice (e : Nat) | struct (fs : List (Nat × Nat)) | array (n e : Nat) | ptr (e : Nat) | map (k e : Nat) | fn | other
structure AC where
  k : TK
  size : Nat
  bytes : Nat
  zero : List AV
def NA : Value -> Option AV
  | .bool b => some (.bool b)
  | .int k n => some (.int k n)
  | .string s => some (.str s)
  | .slice none 0 0 => some .nil
  | .pointer none => some .nilp
  | .nilFunc => some (.val .nilFunc)
  | .nilIface => some (.val .nilIface)
  | .map none => some (.val (.map none))
  | _ => none
def HC : List Value -> Option (List AV)
  | [] => some []
  | v :: vs => match NA v, HC vs with
    | some x, some xs => some (x :: xs)
    | _, _ => none
def FX (P : Program) : TypeDesc -> TK
  | .bool => .bool
  | .int k => .int k
  | .string => .string
  | .slice e => .slice e
  | .struct fs => bif fs.all (fun f => P.cellsOf f.type != 0) then .struct (fs.toList.map fun f => (f.offset, f.type)) else .other
  | .array n e => .array n e
  | .pointer e => .ptr e
  | .map k e => .map k e
  | .func .. => .fn
  | _ => .other
def Sd (P : Program) (t : Nat) : Option AC :=
  match P.info? t, P.underlying t with
  | some i, some d => some { k := FX P d, size := i.size, bytes := i.bytes, zero := ((i.zero.bind fun z => HC z.cells.toList).getD []) }
  | _, _ => none
def Ck (P : Program) (T : Nat -> Option AC) : Prop := ∀ t i, T t = some i -> Sd P t = some i
theorem Lx {H : AB} {ι : A2} {v : Value} {x : AV} (h : NA v = some x) : Rel H ι x v := by
  unfold NA at h
  split at h <;> simp at h <;> subst h
  . exact .bool _ _
  . exact .int _ _ _
  . exact .str _ _
  . exact .nil _
  . exact .nilp _
  . exact .val _ _ rfl
  . exact .val _ _ rfl
  . exact .val _ _ rfl
theorem Dh {H : AB} {ι : A2} : ∀ {vs : List Value} {xs : List AV}, HC vs = some xs -> xs.length = vs.length /\ ∀ (j : Nat) (x : AV) (v : Value), xs[j]? = some x -> vs[j]? = some v -> Rel H ι x v
  | [], xs, h => by
    simp [HC] at h; subst h; exact ⟨rfl, fun j x v h1 => by simp at h1⟩
  | v :: vs, xs, h => by
    unfold HC at h
    split at h
    . rename_i x ys h1 h2
      simp at h; subst h
      have ih := Dh (H := H) (ι := ι) h2
      refine ⟨by simp [ih.1], fun j y u e1 e2 => ?_⟩
      cases j with
      | zero => simp at e1 e2; subst e1; subst e2; exact Lx h1
      | succ j => simp at e1 e2; exact ih.2 j y u e1 e2
    . cases h
theorem An {P : Program} {t : Nat} {i : AC} (h : Sd P t = some i) : ∃ info d, P.info? t = some info /\ P.underlying t = some d /\ i.k = FX P d /\ info.size = i.size /\ info.bytes = i.bytes /\
    i.zero = ((info.zero.bind fun z => HC z.cells.toList).getD []) := by
  unfold Sd at h
  split at h
  . rename_i info d h1 h2
    simp at h; subst h
    exact ⟨info, d, h1, h2, rfl, rfl, rfl, rfl⟩
  . cases h
theorem C9 {info : TypeInfo} {i : AC} (hz : i.zero = ((info.zero.bind fun z => HC z.cells.toList).getD [])) (hl : i.zero.length = i.size) (hp : 0 < i.size) :
    ∃ z, info.zero = some z /\ HC z.cells.toList = some i.zero := by
  cases e : info.zero with
  | none => rw [e] at hz; simp at hz; rw [hz] at hl; simp at hl; omega
  | some z =>
    rw [e] at hz
    simp only [Option.bind_some] at hz
    cases e2 : HC z.cells.toList with
    | none => rw [e2] at hz; simp at hz; rw [hz] at hl; simp at hl; omega
    | some xs => rw [e2] at hz; simp at hz; exact ⟨z, rfl, by rw [e2, hz]⟩
def Nu : Value -> Option AV
  | .agg cs => match HC cs.toList with
    | some xs => some (.agg xs)
    | none => none
  | v => NA v
theorem O2 {H : AB} {ι : A2} {v : Value} {x : AV} (h : Nu v = some x) : Rel H ι x v := by
  unfold Nu at h
  split at h
  . rename_i cs
    split at h
    . rename_i xs e
      simp at h; subst h
      have := Dh (H := H) (ι := ι) e
      exact .agg _ _ _ (by simpa using this.1) (fun j x v h1 h2 => this.2 j x v h1 (by simpa using h2))
    . cases h
  . exact Lx h
def Aq (env : Az) : Operand -> Option AV
  | .tmp t => env t
  | .const v => Nu v
  | .func f => some (.fn (.func f) [] [])
  | .global g => (XQ g).map Va
theorem Ap {H : AB} {ι : A2} {s : Al} {a : Act} {w : World} (hs : Sim H ι s a w) {o : Operand} {x : AV} (h : Aq s.env o = some x) : Rel H ι x (a.eval o) := by
  cases o with
  | tmp t =>
    obtain ⟨v, hv, hr⟩ := hs.env t x h
    simpa [Act.eval, hv] using hr
  | const v => exact O2 h
  | func f =>
    simp only [Aq, Option.some.injEq] at h
    subst h
    exact .fn _ _ _ _ _ _ rfl rfl (fun j x v h1 => by simp at h1) (fun j x v h1 => by simp at h1)
  | global g =>
    simp only [Aq, Option.map_eq_some_iff] at h
    obtain ⟨l, hl, rfl⟩ := h
    exact (hs.heap.glob g l hl).mono (KLe.refl _) (LLe.none ι)
def BA (op : BinOp) (k : IntKind) (a b : Int) : Option AV :=
  match op with
  | .add => some (.int k (k.wrap (a + b)))
  | .sub => some (.int k (k.wrap (a - b)))
  | .mul => some (.int k (k.wrap (a * b)))
  | .quo => if b = 0 then none else some (.int k (k.wrap (a.tdiv b)))
  | .rem => if b = 0 then none else some (.int k (a.tmod b))
  | .and => some (.int k (k.wrap ((BitVec.ofInt k.bits a &&& BitVec.ofInt k.bits b).toNat)))
  | .or => some (.int k (k.wrap ((BitVec.ofInt k.bits a ||| BitVec.ofInt k.bits b).toNat)))
  | .xor => some (.int k (k.wrap ((BitVec.ofInt k.bits a ^^^ BitVec.ofInt k.bits b).toNat)))
  | .andNot => some (.int k (k.wrap ((BitVec.ofInt k.bits a &&& ~~~BitVec.ofInt k.bits b).toNat)))
  | .shl => if b < 0 then none else some (.int k (k.wrap (a * 2 ^ (min b.toNat k.bits))))
  | .shr => if b < 0 then none else some (.int k (a.fdiv (2 ^ (min b.toNat k.bits))))
  | .eql => some (.bool (a == b))
  | .neq => some (.bool (a != b))
  | .lss => some (.bool (decide (a < b)))
  | .leq => some (.bool (decide (a <= b)))
  | .gtr => some (.bool (decide (a > b)))
  | .geq => some (.bool (decide (a >= b)))
def isShift : BinOp -> Bool
  | .shl | .shr => true
  | _ => false
def Ns : AV -> AV -> Option Bool
  | .int k a, .int k' b => if k = k' then some (a == b) else none
  | .bool a, .bool b => some (a == b)
  | .str a, .str b => some (a.toList == b.toList)
  | _, _ => none
def eqCells : List AV -> List AV -> Option Bool
  | [], [] => some true
  | x :: xs, y :: ys => match Ns x y, eqCells xs ys with
    | some p, some q => some (p && q)
    | _, _ => none
  | _, _ => none
def A3 (op : BinOp) (x y : AV) : Option AV :=
  match x, y with
  | .int k a, .int k' b => bif isShift op then BA op k a b else if k = k' then BA op k a b else none
  | .str a, .str b => match op with
    | .eql => some (.bool (a.toList == b.toList))
    | .neq => some (.bool (!(a.toList == b.toList)))
    | _ => none
  | _, _ => none
theorem N6 {P : Program} {w : World} {H : AB} {ι : A2} {op : BinOp} {T : TypeId} {k k' : IntKind} {a b : Int} {r : AV} (hk : isShift op = true \/ k = k') (h : BA op k a b = some r) :
    ∃ v, Rel H ι r v /\ (binOp op T (.int k a) (.int k' b)).run P w = .ok v w := by
  cases op <;> simp only [BA, Option.some.injEq] at h
  case quo => split at h; cases h; (rename_i hb; rcases hk with hk | rfl; · cases hk); simp at h; subst h; exact ⟨_, .int _ _ _, by simp [binOp, Op.intDiv, hb]⟩
  case rem => split at h; cases h; (rename_i hb; rcases hk with hk | rfl; · cases hk); simp at h; subst h; exact ⟨_, .int _ _ _, by simp [binOp, Op.intDiv, hb]⟩
  case shl => split at h; cases h; rename_i hb; simp at h; subst h; exact ⟨_, .int _ _ _, by simp [binOp, Op.shift, hb]⟩
  case shr => split at h; cases h; rename_i hb; simp at h; subst h; exact ⟨_, .int _ _ _, by simp [binOp, Op.shift, hb]⟩
  all_goals
    rcases hk with hk | rfl
    . cases hk
    subst h
    first
      | exact ⟨_, .int _ _ _, by simp [binOp, Op.intArith, Op.intBits, Op.intCmp]⟩
      | exact ⟨_, .bool _ _, by simp [binOp, Op.intArith, Op.intBits, Op.intCmp]⟩
theorem N7 {P : Program} {w : World} {H : AB} {ι : A2} {op : BinOp} {T : TypeId} {xo yo : Operand} {x y r : AV} {u v : Value} (hx : Rel H ι x u) (hy : Rel H ι y v) (h : A3 op x y = some r) :
    ∃ z, Rel H ι r z /\ (do eqGuard op T xo yo u v; binOp op T u v : Sem Value).run P w = .ok z w := by
  unfold A3 at h
  split at h
  . rename_i k a k' b
    cases hx; cases hy
    have hk : (isShift op = true \/ k = k') /\ BA op k a b = some r := by
      cases e : isShift op with
      | true => rw [e] at h; exact ⟨.inl rfl, h⟩
      | false =>
        rw [e] at h
        simp only [cond_false] at h
        split at h
        . exact ⟨.inr (by assumption), h⟩
        . cases h
    obtain ⟨z, h1, h2⟩ := N6 (P := P) (w := w) (H := H) (ι := ι) (T := T) hk.1 hk.2
    refine ⟨z, h1, ?_⟩
    have hg : (eqGuard op T xo yo (.int k a) (.int k' b)).run P w = .ok () w := by unfold eqGuard; cases op <;> simp
    rw [Sem.run_bind, hg]
    exact h2
  . rename_i a b
    cases hx; cases hy
    have hg : (eqGuard op T xo yo (.string a) (.string b)).run P w = .ok () w := by unfold eqGuard; cases op <;> simp
    split at h
    . simp at h; subst h
      exact ⟨_, .bool _ _, by rw [Sem.run_bind, hg, Result.andThen_ok, binOp_string_eql]; rfl⟩
    . simp at h; subst h
      exact ⟨_, .bool _ _, by rw [Sem.run_bind, hg, Result.andThen_ok, binOp_string_neq]; rfl⟩
    . cases h
  . cases h
end Go.Proofs.Ytmfihmkopmgelaa.Sv
