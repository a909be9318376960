/-
  NO PACKAGE VARIABLES ARE LOOKED INTO: own work, over no program.
-/
import Derived.Calls
import Derived.Orders
import Derived.Laws.Sem
import Derived.Laws.World
import Derived.Laws.Cells
import Derived.Laws.Rows
import Derived.Laws.AppendOwn
import Derived.Laws.MakeOwn
import Derived.Laws.Slices
import Derived.Laws.Small
import Derived.Laws.Strings
import Derived.Laws.StructEq
import Derived.WalkKit
set_option linter.unusedVariables false
set_option linter.unusedSimpArgs false
set_option maxRecDepth 100000
set_option maxHeartbeats 2000000
namespace Go.Proofs.YtbbfelelocccmaaGreat.Sv
open Go
abbrev q00:=@Array.getElem?_setIfInBounds_ne
abbrev q01:=@List.eq_nil_of_length_eq_zero
abbrev q02:=@List.getElem?_append_right
abbrev q03:=@Array.getElem?_eq_some_iff
abbrev q04:=@Array.getElem?_append_left
abbrev q05:=@List.getElem?_eq_some_iff
abbrev q06:=@List.getElem?_append_left
abbrev q07:=@List.drop_eq_getElem_cons
abbrev q08:=@List.mem_or_eq_of_mem_set
abbrev q09:=@List.getElem?_eq_none_iff
abbrev q10:=@List.isEmpty_eq_false_iff
abbrev q11:=@List.getElem?_zip_eq_some
abbrev q12:=@Array.getElem?_eq_getElem
abbrev q13:=@List.getElem?_eq_getElem
abbrev q14:=@List.getElem?_take_of_lt
abbrev q15:=@List.eq_of_mem_replicate
abbrev q16:=@decide_eq_false_iff_not
abbrev q17:=@List.getElem?_cons_succ
abbrev q18:=@List.length_eq_zero_iff
abbrev q19:=@List.getElem?_replicate
abbrev q20:=@List.take_of_length_le
abbrev q21:=@List.getElem?_set_self
abbrev q22:=@Option.map_eq_some_iff
abbrev q23:=@MapKept.run_getObj_map
abbrev q24:=@MapKept.run_setObj_map
abbrev q25:=@Nat.eq_of_beq_eq_true
abbrev q26:=@List.getElem?_eq_none
abbrev q27:=@List.mem_iff_getElem?
abbrev q28:=@Nat.le_of_ble_eq_true
abbrev q29:=@Array.getElem?_toList
abbrev q30:=@List.length_replicate
abbrev q31:=@List.contains_iff_mem
abbrev q32:=@List.take_append_drop
abbrev q33:=@List.mem_of_getElem?
abbrev q34:=@Nat.mul_le_mul_right
abbrev q35:=@List.getElem?_of_mem
abbrev q36:=@List.getElem?_set_ne
abbrev q37:=@List.getElem?_zipIdx
abbrev q38:=@Bool.or_eq_false_iff
abbrev q39:=@List.dropLast_subset
abbrev q40:=@beq_eq_false_iff_ne
abbrev q41:=@Int.toNat_of_nonneg
abbrev q42:=@List.map_congr_left
abbrev q43:=@List.length_pos_iff
abbrev q44:=@List.getElem?_range
abbrev q45:=@Array.length_toList
abbrev q46:=@Int.natCast_nonneg
abbrev q47:=@List.mem_singleton
abbrev q48:=@List.length_append
abbrev q49:=@List.getElem?_drop
abbrev q50:=@Bool.false_eq_true
abbrev q51:=@Nat.lt_of_lt_of_le
abbrev q52:=@List.filter_append
abbrev q53:=@Option.some.injEq
abbrev q54:=@List.getElem?_map
abbrev q55:=@Int.toNat_natCast
abbrev q56:=@decide_eq_true_eq
abbrev q57:=@Result.andThen_ok
abbrev q58:=@of_decide_eq_true
abbrev q59:=@List.take_add_one
abbrev q60:=@List.getElem?_set
abbrev q61:=@Bool.not_eq_true'
abbrev q62:=@List.ext_getElem?
abbrev q63:=@List.append_assoc
abbrev q64:=@Bool.eq_false_iff
abbrev q65:=@List.nodup_append
abbrev q66:=@Bool.and_eq_true
abbrev q67:=@List.all_eq_true
abbrev q68:=@Nat.zero_lt_succ
abbrev q69:=@List.length_take
abbrev q70:=@List.length_cons
abbrev q71:=@List.take_length
abbrev q72:=@Option.getD_some
abbrev q73:=@List.cons_append
abbrev q74:=@List.any_eq_true
abbrev q75:=@IntKind.wrap_u32
abbrev q76:=@List.length_map
abbrev q77:=@List.map_append
abbrev q78:=@List.mem_append
abbrev q79:=@List.range_succ
abbrev q80:=@Option.map_some
abbrev q81:=@Bool.or_eq_true
abbrev q82:=@List.sum_append
abbrev q83:=@List.length_set
abbrev q84:=@List.length_nil
abbrev q85:=@List.foldl_cons
abbrev q86:=@Option.some.inj
abbrev q87:=@List.prefix_rfl
abbrev q88:=@List.cons.injEq
abbrev q89:=@decide_eq_false
abbrev q90:=@List.mem_filter
abbrev q91:=@List.append_nil
abbrev q92:=@List.all_append
abbrev q93:=@List.nodup_cons
abbrev q94:=@List.mem_range
abbrev q95:=@List.drop_zero
abbrev q96:=@decide_eq_true
abbrev q97:=@Bool.and_false
abbrev q98:=@Prod.mk.injEq
abbrev q99:=@List.mem_cons
abbrev qQ0:=@List.map_cons
abbrev qQ1:=@List.all_cons
abbrev qQ2:=@List.sum_cons
abbrev qQ3:=@Nat.add_assoc
abbrev qQ4:=@Bool.and_true
abbrev qQ5:=@Bool.true_and
abbrev qQ6:=@Bool.false_or
abbrev qQ7:=@Bool.not_true
abbrev qQ8:=@Nat.zero_add
abbrev qQ9:=@Sem.run_bind
abbrev qX0:=@Nat.le_of_lt
abbrev qX1:=@Sem.run_pure
abbrev qX2:=@Nat.le_trans
abbrev qX3:=@List.mem_map
abbrev qX4:=@Nat.lt_or_ge
abbrev qX5:=@Nat.add_zero
abbrev qX6:=@Bool.or_true
abbrev qX7:=@List.all_nil
abbrev qX8:=@Oper.wp_mono
abbrev qX9:=@List.map_nil
abbrev qZ0:=@Nat.le_refl
abbrev qZ1:=@Nat.zero_le
abbrev qZ2:=@Nat.add_mul
abbrev qZ3:=@cond_false
abbrev qZ4:=@beq_iff_eq
abbrev qZ5:=@Nat.ble_eq
abbrev qZ6:=@Nat.blt_eq
abbrev qZ7:=@cond_true
abbrev qZ8:=@if_true
abbrev qZ9:=@if_neg
abbrev qK0:=@if_pos
variable {p : Prop}
theorem yX(h:p:=by repeat(first|exact trivial|refine⟨(by first|exact cls_nil _ _|exact(show Bj DO [2] [2]from AI (by decide))|exact(show Bj DO [3] [3]from AI (by decide))|exact(show Bj DO [4] [4]from AI (by decide))|exact(show Bj DO [5] [5]from AI (by decide))|exact(show Bj DO [6] [6]from AI (by decide))|exact(show Bj DO [7] [7]from AI (by decide))|exact(show Bj DO [8] [8]from AI (by decide))|exact(show Bj DO [9] [9]from AI (by decide))|exact(show Bj DO [10] [10]from AI (by decide))|exact(show Bj DO [11] [11]from AI (by decide))|exact(show Bj DO [12] [12]from AI (by decide))|exact(show Bj DO [13] [13]from AI (by decide))|exact(show Bj DO [14] [14]from AI (by decide))|exact(show Bj DO [15] [15]from AI (by decide))|exact AI (by decide)|exact Om (by decide) (by decide)|exact AI (by first|rw[jd];decide|rw[jc];decide|rw[jb];decide|rw[ja];decide)),(by first|exact cls_nil _ _|exact(show Bj DO [2] [2]from AI (by decide))|exact(show Bj DO [3] [3]from AI (by decide))|exact(show Bj DO [4] [4]from AI (by decide))|exact(show Bj DO [5] [5]from AI (by decide))|exact(show Bj DO [6] [6]from AI (by decide))|exact(show Bj DO [7] [7]from AI (by decide))|exact(show Bj DO [8] [8]from AI (by decide))|exact(show Bj DO [9] [9]from AI (by decide))|exact(show Bj DO [10] [10]from AI (by decide))|exact(show Bj DO [11] [11]from AI (by decide))|exact(show Bj DO [12] [12]from AI (by decide))|exact(show Bj DO [13] [13]from AI (by decide))|exact(show Bj DO [14] [14]from AI (by decide))|exact(show Bj DO [15] [15]from AI (by decide))|exact AI (by decide)|exact Om (by decide) (by decide)|exact AI (by first|rw[jd];decide|rw[jc];decide|rw[jb];decide|rw[ja];decide)),?_⟩)):p:=h
theorem sI(h:p:=by repeat(first|exact trivial|refine⟨(by first|exact cls_nil _ _|exact(show Bj DJ [2] [2]from AI (by decide))|exact(show Bj DJ [3] [3]from AI (by decide))|exact(show Bj DJ [4] [4]from AI (by decide))|exact(show Bj DJ [5] [5]from AI (by decide))|exact(show Bj DJ [6] [6]from AI (by decide))|exact(show Bj DJ [7] [7]from AI (by decide))|exact(show Bj DJ [8] [8]from AI (by decide))|exact(show Bj DJ [9] [9]from AI (by decide))|exact(show Bj DJ [10] [10]from AI (by decide))|exact(show Bj DJ [11] [11]from AI (by decide))|exact(show Bj DJ [12] [12]from AI (by decide))|exact(show Bj DJ [13] [13]from AI (by decide))|exact(show Bj DJ [14] [14]from AI (by decide))|exact(show Bj DJ [15] [15]from AI (by decide))|exact AI (by decide)|exact Om (by decide) (by decide)|exact AI (by first|rw[jg];decide|rw[jf];decide|rw[je];decide)),(by first|exact cls_nil _ _|exact(show Bj DJ [2] [2]from AI (by decide))|exact(show Bj DJ [3] [3]from AI (by decide))|exact(show Bj DJ [4] [4]from AI (by decide))|exact(show Bj DJ [5] [5]from AI (by decide))|exact(show Bj DJ [6] [6]from AI (by decide))|exact(show Bj DJ [7] [7]from AI (by decide))|exact(show Bj DJ [8] [8]from AI (by decide))|exact(show Bj DJ [9] [9]from AI (by decide))|exact(show Bj DJ [10] [10]from AI (by decide))|exact(show Bj DJ [11] [11]from AI (by decide))|exact(show Bj DJ [12] [12]from AI (by decide))|exact(show Bj DJ [13] [13]from AI (by decide))|exact(show Bj DJ [14] [14]from AI (by decide))|exact(show Bj DJ [15] [15]from AI (by decide))|exact AI (by decide)|exact Om (by decide) (by decide)|exact AI (by first|rw[jg];decide|rw[jf];decide|rw[je];decide)),?_⟩)):p:=h
theorem yW(h:p:=by repeat(first|exact trivial|refine⟨⟨by first|rfl|exact B3 rfl|exact congrArg (fun es=>some (AObj.row true 1 es)) (qa hgi hfg)|exact congrArg (fun es=>some (AObj.row true 1 es)) (p9 hgi hfg)|exact congrArg (fun w=>some (AObj.row true 1 (iC _ w))) (qA hgi hfg)|exact congrArg (fun es=>some (AObj.row true 1 es)) ((Kg true).trans (congrArg (bC _) (ix hgi hfg)))|exact congrArg (fun w=>some (AObj.row true 1 (bC _ w))) (iy hgi (by omega)),by first|rfl|exact Ah (fun _ _=>Bo (Au _) _ _)|exact Ah (fun _ _=>Bf (Au _) _ _ _ _)|exact Ah (fun _ _=>B9 (Au _) _ _)|exact Fj _⟩,?_⟩)):p:=h
theorem yV(h:p:=by repeat(first|exact trivial|refine⟨⟨by first|rfl|exact congrArg (fun es=>some (AObj.row true 1 es)) (Kg true)|((try simp only[hputs]);repeat(first|rfl|exact At _ _ _|refine AC (by exact AH (by omega)) ?_|refine hrm_skip (by omega) ?_|refine(CV _ (fun i_ _=>by first|omega|(dsimp only;omega))).trans ?_)),by first|rfl|exact Ah (fun _ _=>Bo (Au _) _ _)|exact Ah (fun _ _=>Bf (Au _) _ _ _ _)|exact Ah (fun _ _=>B9 (Au _) _ _)|exact Fj _⟩,?_⟩)):p:=h
theorem yU(h:p:=by repeat(first|exact trivial|refine⟨⟨by first|rfl|exact B3 rfl|(rw[hnx2];first|rfl|exact B3 rfl|((try simp only[hputs]);repeat(first|rfl|exact At _ _ _|refine AC (by exact AH (by omega)) ?_|refine hrm_skip (by omega) ?_|refine(CV _ (fun i_ _=>by first|omega|(dsimp only;omega))).trans ?_))),by first|rfl|exact Ah (fun _ _=>Bo (Au _) _ _)|exact Ah (fun _ _=>Bf (Au _) _ _ _ _)|exact Ah (fun _ _=>B9 (Au _) _ _)|exact Fj _⟩,?_⟩)):p:=h
theorem yT(h:p:=by repeat(first|exact trivial|refine⟨⟨by first|rfl|exact B3 rfl|((try simp only[hputs]);repeat(first|rfl|exact At _ _ _|refine AC (by exact AH (by omega)) ?_|refine hrm_skip (by omega) ?_|refine(CV _ (fun i_ _=>by first|omega|(dsimp only;omega))).trans ?_)),by first|rfl|exact Ah (fun _ _=>Bo (Au _) _ _)|exact Ah (fun _ _=>Bf (Au _) _ _ _ _)|exact Ah (fun _ _=>B9 (Au _) _ _)|exact Fj _⟩,?_⟩)):p:=h
theorem wQ(h:p:=by repeat(first|exact trivial|refine⟨⟨by first|rfl|((try simp only[hputs]);repeat(first|rfl|exact At _ _ _|refine AC (by exact AH (by omega)) ?_|refine hrm_skip (by omega) ?_|refine(CV _ (fun i_ _=>by first|omega|(dsimp only;omega))).trans ?_)),by first|rfl|exact Ah (fun _ _=>Bo (Au _) _ _)|exact Ah (fun _ _=>Bf (Au _) _ _ _ _)|exact Ah (fun _ _=>B9 (Au _) _ _)|exact Fj _⟩,?_⟩)):p:=h
theorem yS(h:p:=by repeat(first|exact EDropK.new _ _|refine EDropK.put ?_ (by first|rfl|exact congrArg (fun m=>some (AV.ref 8 _ 0 m)) (by rw[<-OC hgi hfg,q48];rfl)|exact congrArg (fun l:List Nat=>some (AV.ref 8 _ 0 l.length)) (OD hgi (by omega))|exact congrArg (fun(n:Nat)=>some (AV.int .i64 (n:Int))) (by simp)) (by first|rfl|exact Bf (Au _) _ _ _ _))):p:=h
theorem jQ(h:p:=by intro c h1 h2;rcases(by omega:c=8\/c=9\/c=10\/c=11\/c=12\/c=13\/c=14\/c=15)with rfl|rfl|rfl|rfl|rfl|rfl|rfl|rfl<;>first|rfl|(try simp only[hputs];repeat(first|rfl|refine AC (by exact AH (by omega)) ?_|refine hrm_skip (by omega) ?_))):p:=h
theorem qT(h:p:=by intro c h1 h2;rcases(by omega:c=9\/c=10\/c=11\/c=12\/c=13\/c=14\/c=15)with rfl|rfl|rfl|rfl|rfl|rfl|rfl<;>first|rfl|(try simp only[hputs];repeat(first|rfl|refine AC (by exact AH (by omega)) ?_|refine hrm_skip (by omega) ?_))):p:=h
theorem CX(h:p:=by repeat(first|exact HSub.refl _|exact HSub.none _|exact AQ _|exact AM (by first|decide|omega|(dsimp only;omega))|refine HSub.put ?_ (by rfl)|refine AP ?_ (by first|decide|omega|(dsimp only;omega))|refine BD ?_ (by decide))):p:=h
theorem sN(h:p:=by intro x_;rw[hnx2];(try simp only[hputs]);(try dsimp only);first|exact(Fd _ _ x_).trans (As _ _ _)|exact As _ _ _|((repeat(first|refine AC (by exact AH (by omega)) ?_|refine hrm_skip (by omega) ?_));exact(Fd _ _ x_).trans (As _ _ _))):p:=h
theorem sM(h:p:=by repeat(first|exact EDropK.new _ _|refine EDropK.put ?_ (by first|rfl|exact congrArg (fun m=>some (AV.ref 8 _ 0 m)) (by rw[q48];rfl)|exact congrArg (fun(n:Nat)=>some (AV.int .i64 (n:Int))) (by simp)) (by first|rfl|exact Bo (Au _) _ _))):p:=h
theorem K5(h:p:=by intro c h1 h2;rcases(by omega:c=10\/c=11\/c=12\/c=13\/c=14\/c=15)with rfl|rfl|rfl|rfl|rfl|rfl<;>first|rfl|(try simp only[hputs];repeat(first|rfl|refine AC (by exact AH (by omega)) ?_|refine hrm_skip (by omega) ?_))):p:=h
theorem sL(h:p:=by repeat(first|exact trivial|refine⟨⟨by first|rfl|exact B3 rfl,by first|rfl|exact Ah (fun _ _=>Bo (Au _) _ _)|exact Ah (fun _ _=>Bf (Au _) _ _ _ _)|exact Ah (fun _ _=>B9 (Au _) _ _)⟩,?_⟩)):p:=h
theorem pE(h:p:=by repeat(first|exact trivial|refine⟨⟨by rfl,by first|rfl|exact Ah (fun _ _=>Bo (Au _) _ _)|exact Ah (fun _ _=>Bf (Au _) _ _ _ _)|exact Ah (fun _ _=>B9 (Au _) _ _)|exact Fj _⟩,?_⟩)):p:=h
theorem km(h:p:=by intro x_;(try simp only[hputs]);(try dsimp only);first|exact As _ _ _|exact(Lu _ _ x_).trans (As _ _ _)|((repeat(first|refine AC (by exact AH (by omega)) ?_|refine hrm_skip (by omega) ?_));exact As _ _ _)):p:=h
theorem Hu(h:p:=by intro x_;(try simp only[hputs]);(try dsimp only);first|exact As _ _ _|exact(Fd _ _ x_).trans (As _ _ _)|((repeat(first|refine AC (by exact AH (by omega)) ?_|refine hrm_skip (by omega) ?_));exact As _ _ _)):p:=h
theorem sK(h:p:=by rcases(by omega:a/2^k%2=0\/a/2^k%2=1)with h1|h1<;>rcases(by omega:b/2^k%2=0\/b/2^k%2=1)with h2|h2<;>(try simp_all[dt])<;>first|(rw[bne_iff_ne.2 ‹¬op=11›];rfl)|(rw[bne_iff_ne.2 ‹¬op=9›];rfl)):p:=h
theorem sJ(h:p:=by repeat(first|exact ESub.new _|refine ESub.put ?_ (by first|rfl|exact congrArg (fun m:Nat=>some (AV.int .i64 (m:Int))) ((q76 _).trans (AL f))|exact congrArg (fun(n:Nat)=>some (AV.int .i64 (n:Int))) (by simp)))):p:=h
theorem sH(h:p:=by repeat(first|exact EDropK.new _ _|refine EDropK.put ?_ (by first|rfl|exact congrArg (fun z=>some (AV.bool z)) (by rw[hnx2];first|done|rfl|(simp[hss,hr];done)|simp[hss,hr])) (by first|rfl|exact Bf (Au _) _ _ _ _))):p:=h
theorem BL(h:p:=by(try simp only[hputs]);repeat(first|rfl|exact At _ _ _|refine AC (by exact AH (by omega)) ?_|refine hrm_skip (by omega) ?_|refine(CV _ (fun i_ _=>by first|omega|(dsimp only;omega))).trans ?_)):p:=h
theorem pD(h:p:=by repeat(first|exact trivial|refine⟨⟨by rfl,by first|rfl|exact Ah (fun _ _=>Bo (Au _) _ _)|exact Ah (fun _ _=>Bf (Au _) _ _ _ _)|exact Ah (fun _ _=>Eh (Au _) _ _ _)⟩,?_⟩)):p:=h
theorem pC(h:p:=by repeat(first|exact trivial|refine⟨⟨by rfl,by first|rfl|exact Ah (fun _ _=>Bo (Au _) _ _)|exact Ah (fun _ _=>Bf (Au _) _ _ _ _)|exact Ah (fun _ _=>B9 (Au _) _ _)⟩,?_⟩)):p:=h
theorem sG(h:p:=by repeat(first|exact EDropK.new _ _|refine EDropK.put ?_ (by first|rfl|exact congrArg (fun z=>some (AV.bool z)) (mo hne)|exact congrArg (fun z=>some (AV.bool z)) (qG heq)) (by first|rfl|exact Do _ _ _ _))):p:=h
theorem sF(h:p:=by intro c h1 h2;rcases(by omega:c=13\/c=14\/c=15)with rfl|rfl|rfl<;>first|rfl|(try simp only[hputs];repeat(first|rfl|refine AC (by exact AH (by omega)) ?_|refine hrm_skip (by omega) ?_))):p:=h
theorem IX(h:p:=by repeat(first|exact HDrop.none _ _|exact HDrop.tail _ _|refine HDrop.put ?_ (by rfl) rfl (by first|rfl|exact CJ _ _|exact Q6 _|exact Rb _ _ rfl rfl|exact Q0 _ _ _ rfl rfl rfl))):p:=h
theorem pB(h:p:=by repeat(first|exact EDropK.new _ _|refine EDropK.put ?_ (by first|rfl|exact congrArg (fun x=>some (AV.int .i64 x)) (JI hil (by simp only[maxLen];omega))) (by first|rfl|exact VL _ _))):p:=h
theorem sE(h:p:=by intro x_;(try simp only[hputs]);(try dsimp only);first|exact As _ _ _|((repeat(first|refine AC (by exact AH (by omega)) ?_|refine hrm_skip (by omega) ?_));exact As _ _ _)):p:=h
theorem pA(h:p:=by have h:=(DL (c.at' i) k).kl;first|omega|(have h2:=(JQ (v:=RVal.reg k 0) (L:=(Bh (c.at' i) (k)).L)).2.1;show(Bs (Bh (c.at' i) (k)).L (RVal.reg k 0)).2.length<=_;omega)):p:=h
theorem sD(h:p:=by repeat(first|exact HSub.none _|exact AQ _|exact AM (by decide)|refine HSub.put ?_ (by rfl)|refine AP ?_ (by decide)|refine BD ?_ (by decide))):p:=h
theorem ew(h:p:=by repeat(first|exact trivial|refine⟨⟨by first|rfl|exact HW rfl,by first|rfl|exact Ah (fun _ _=>Do _ _ _ _)|exact Ah (fun _ _=>C1 _ _ _)⟩,?_⟩)):p:=h
theorem kj(h:p:=by repeat(first|exact HDrop.none _ _|exact HDrop.tail _ _|refine HDrop.put ?_ (by rfl) rfl (by first|rfl|exact CJ _ _|exact OW _ rfl|exact OT _ _ _ rfl rfl rfl))):p:=h
theorem ki(h:p:=by(try simp only[hputs]);(repeat(first|refine AC (by exact AH (by omega)) ?_|refine hrm_skip (by omega) ?_));exact(As _ _ _).trans (congrArg some (XF hb hx))):p:=h
theorem SN(h:p:=by repeat(first|exact trivial|refine⟨⟨by rfl,by first|rfl|exact Ah (fun _ _=>Do _ _ _ _)|exact Ah (fun _ _=>C1 _ _ _)⟩,?_⟩)):p:=h
theorem Gu(h:p:=by intro x_;(try simp only[hputs]);repeat(first|exact As _ _ _|refine AC (by exact AH (by omega)) ?_|refine hrm_skip (by omega) ?_)):p:=h
theorem ev(h:p:=by intro y_;(try simp only[hputs]);repeat(first|exact As _ _ _|refine AC (by exact AH (by omega)) ?_|refine hrm_skip (by omega) ?_)):p:=h
theorem SM(h:p:=by repeat(first|exact HSub.none _|exact AQ _|exact AM (by decide)|refine HSub.put ?_ (by rfl)|refine AP ?_ (by decide))):p:=h
theorem sC(h:p:=by show _=some (AObj.row false 4 [[.ptr 4 1 0 0,A6 7 (Bb (A5 w.regs t.d _)),A6 11 ((w.div t).out.map REff.cells),.int .i64 w.time]]);rw[FU];rfl):p:=h
theorem sB(h:p:=by show _=some (AObj.row false 4 [[.ptr 4 1 0 0,A6 5 (Bb (A5 w.regs t.d _)),A6 10 ((w.div t).out.map REff.cells),.int .i64 w.time]]);rw[FU];rfl):p:=h
theorem sA(h:p:=by repeat(first|exact ESub.new _|refine ESub.put ?_ (by first|rfl|exact congrArg some (qo hi0 hlast hS1)|(rw[I6,FC];rfl)))):p:=h
theorem DB(h:p:=by repeat(first|exact ESub.new _|refine ESub.put ?_ (by first|rfl|exact congrArg (fun(n:Nat)=>some (AV.int .i64 (n:Int))) (by simp)))):p:=h
theorem sy(h:p:=by repeat(first|exact ESub.new _|refine ESub.put ?_ (by first|rfl|exact congrArg (fun(n:Nat)=>some (AV.int .u32 (n:Int))) (by simp)))):p:=h
theorem sx(h:p:=by repeat(first|exact ESub.new _|refine ESub.put ?_ (by first|rfl|exact congrArg (fun m:Nat=>some (AV.int .i64 (m:Int))) (by simp)))):p:=h
theorem pz(h:p:=by have:=TJ (SB f) f.blocks.length v;have e:Oe (SB f) f.blocks.length v=Gh f v:=rfl;rw[e]at this;simp only[maxLen];omega):p:=h
theorem Gt(h:p:=by repeat(first|exact EDrop.new _ _|refine EDrop.put ?_ (by rfl) (by first|rfl|exact BV _ rfl|exact Ml _ rfl))):p:=h
theorem sw(h:p:=by repeat(first|exact trivial|refine⟨by first|rfl|exact congrArg (fun es=>some (AObj.row true 1 es)) (Kg false),?_⟩)):p:=h
theorem py(h:p:=by intro e w4 he;cases e<;>first|exact he|exact hpost _ _ _ he|(obtain⟨a3,w5,hp3⟩:=he;exact⟨a3,w5,hpost _ _ _ hp3⟩)):p:=h
theorem sv(h:p:=by unfold Tac.callOk;first|(simp_all[Tac.same,Hp];done)|(simp_all[Tac.same,Hp];intro h0_;exfalso;omega)):p:=h
theorem su(h:p:=by first|rfl|exact CJ _ _|exact Q6 _|exact Rb _ _ rfl rfl|exact Q0 _ _ _ rfl rfl rfl):p:=h
theorem ss(h:p:=by simp only[qQ1,qX7,qQ4];exact jA (by show mem _ _=true;exact N7 _) rfl):p:=h
theorem sr(h:p:=by rw[show w2.heap.size=w.heap.size by show(w1.heap.setIfInBounds rb _).size=_;rw[hw1h.1];simp];exact hrblt):p:=h
theorem px(h:p:=by rw[show w2.heap.size=w.heap.size by show(w1.heap.setIfInBounds rb _).size=_;rw[hw1h.1];simp];exact hmlt):p:=h
theorem sq(h:p:=by intro i v hv hw;have:=h (i+1) v (by simpa using hv) hw;rwa[Nat.add_right_comm k 1 i,qQ3 k i 1]):p:=h
theorem sl(h:p:=by repeat(first|exact EDropK.new _ _|refine EDropK.put ?_ (by rfl) (by first|rfl|exact Do _ _ _ _))):p:=h
theorem sk(h:p:=by rw[q55];show((Gh f v).map (WD R (SB f) v))[_]?=_;rw[q54,hgi];rfl):p:=h
theorem kh(h:p:=by repeat(first|exact NoMap.none|exact NoMap.new|refine NoMap.put ?_ _ rfl|refine jG ?_ _)):p:=h
theorem sg(h:p:=by intro b hb;obtain⟨q,q1,q2⟩:=hA b hb;exact⟨q,(Lw hb).trans q1,(hH b hb).trans q1,q2⟩):p:=h
theorem sf(h:p:=by rw[qQ8,q55];exact(EI hkl).trans (congrArg some (ic _ _ _))):p:=h
theorem se(h:p:=by rw[qQ8,q55];exact(EI hkl).trans (congrArg some (lr _ _ _))):p:=h
theorem z60q(h:p:=by first|rfl|exact CJ _ _|exact OW _ rfl|exact OT _ _ _ rfl rfl rfl):p:=h
theorem sd(h:p:=by first|rfl|exact congrArg (fun m=>some (AObj.row false 1 [[AV.ref 4 _ 0 m]])) (by simp)):p:=h
theorem sc(h:p:=by first|rfl|exact congrArg (fun(n:Nat)=>some (AV.int .i64 (n:Int))) (by simp)):p:=h
theorem IS(h:p:=by repeat(first|exact EDropK.new _ _|refine EDropK.put ?_ (by rfl) (by first|rfl))):p:=h
theorem sb(h:p:=by rw[qQ8,q55];exact(EI hkl).trans (congrArg some rfl)):p:=h
theorem K3(h:p:=by have h1:=hxd.2.2.1;have h0:=hxd.1;show t.d.toNat<(Bb w.regs).length;omega):p:=h
theorem sa(h:p:=by rw[q76];have:=K1 f k j d.toNat;show(_+1)*8<=_;omega):p:=h
theorem r9(h:p:=by first|rfl|exact congrArg (fun es=>some (AObj.row true 1 es)) (jt _ _ _)):p:=h
theorem r8(h:p:=by rw[q76];have:=K1 f k j d.toNat;simp only[maxLen];omega):p:=h
theorem SL(h:p:=by repeat(first|exact trivial|refine⟨by first|rfl|exact B3 rfl,?_⟩)):p:=h
theorem rZ(h:p:=by simp only[AX,BH,isShift,qZ7,qZ9 (show ¬b<0 by omega)]):p:=h
theorem rY(h:p:=by show _=some (By 6 ((w.out++[e]).map REff.cells));rw[q77];rfl):p:=h
theorem rX(h:p:=by rw[q83];exact AG (A4 f reach) (qX0 hkl)):p:=h
theorem SK(h:p:=by repeat(first|exact EDrop.new _ _|refine EDrop.put ?_ (by rfl) rfl)):p:=h
theorem pw(h:p:=by show(AB f b).length-(p.j+1)<(AB f b).length-p.j;omega):p:=h
theorem pt(h:p:=by repeat(first|exact ESub.new _|refine ESub.put ?_ (by first|rfl))):p:=h
theorem SJ(h:p:=by rw[q48,q76,List.length_singleton];omega):p:=h
theorem kg(h:p:=by rw[q76,q69];show(_+1)*24<=_;omega):p:=h
theorem QC(h:p:=by show _=some (By 1 (Bb (A5 w.regs t.d _)));rw[eY];rfl):p:=h
theorem ke(h:p:=by rw[q76,q69];simp only[maxLen];omega):p:=h
theorem pr(h:p:=by simp[C6,NA (qX0 hkl),C9]):p:=h
theorem B5(h:p:=by repeat(first|exact ESub.new _|refine ESub.put ?_ (by rfl))):p:=h
theorem kc(h:p:=by rw[BO,Fl,Co,AL]):p:=h
theorem j9(h:p:=by first|rfl|exact BV _ rfl|exact Ml _ rfl):p:=h
theorem pq(h:p:=by rw[qQ8,q55];exact DN hkl):p:=h
theorem pp(h:p:=by rw[qQ8,q55];exact DN ha2):p:=h
theorem j8(h:p:=by rw[qQ8,q55];exact EI hj):p:=h
theorem Mj(h:p:=by rw[qQ8,q55];exact DN hb):p:=h
theorem ay(h:p:=by rw[qQ8,q55];exact DN hv):p:=h
theorem po(h:p:=by rw[h.len];exact(q05.1 hi).1):p:=h
theorem Uk(h:p:=by repeat(first|exact trivial|refine⟨by rfl,?_⟩)):p:=h
theorem QB(h:p:=by rw[qQ8,q55];exact gD):p:=h
theorem j7(h:p:=by simp[C6,NA (qX0 hkl)]):p:=h
theorem pn(h:p:=by have:=Yy f b;simp only[maxLen];omega):p:=h
theorem aw(h:p:=by rw[BO];exact(B7 f _).symm):p:=h
theorem au(h:p:=by intro _ cs h;simp[partVals]at h;subst h;rfl):p:=h
theorem E4(h:p:=by first|exact fun _=>rfl|(intro h;cases h)):p:=h
theorem QA(h:p:=by intro i_ _;first|omega|(dsimp only;omega)):p:=h
theorem j6(h:p:=by rw[q76];simp only[maxLen];omega):p:=h
theorem j5(h:p:=by simp only[maxLen];have:=MS x;omega):p:=h
theorem QY(h:p:=by intro cs h;simp[partVals]at h;subst h;rfl):p:=h
theorem eF(h:p:=by have:=Uw t;simp only[maxLen];omega):p:=h
theorem D2(h:p:=by first|decide|omega|(dsimp only;omega)):p:=h
theorem eE(h:p:=by simp_all[Tac.rest,baseOp,Ie]<;>omega):p:=h
theorem eD(h:p:=by simp only[maxLen];have:=hf.2.2.1;omega):p:=h
theorem Fu(h:p:=by rw[ho];simp[Op.operands,Call.operands]):p:=h
theorem eC(h:p:=by intro x_;dsimp only;exact As _ _ _):p:=h
theorem eB(h:p:=by intro b hb;rw[hH b hb];exact hA b hb):p:=h
theorem II(h:p:=by rw[q48,FC];rfl):p:=h
theorem eA(h:p:=by simp only[maxLen];have:=hL.n;omega):p:=h
theorem Um(h:p:=by rw[qQ8];exact DN hdn):p:=h
theorem QX(h:p:=by show 24*f.blocks.length<=_;omega):p:=h
theorem YV(h:p:=by show 8*f.blocks.length<=_;omega):p:=h
theorem YU(h:p:=by rw[hnb];simp[BFunc.newBlock, *]):p:=h
theorem YT(h:p:=by intro h2;rw[hb]at h2;cases h2):p:=h
theorem Cy(h:p:=by exact AH (by omega)):p:=h
theorem Hf(h:p:=by rw[q76,hI.lenT]):p:=h
theorem Ul(h:p:=by rw[q69];omega):p:=h
theorem Bx(h:p:=by rw[ho];simp[Op.operands]):p:=h
theorem K8(h:p:=by rw[q76];omega):p:=h
theorem QW(h:p:=by rw[Ap,E1 hx]):p:=h
theorem YS(h:p:=by rw[<-Gb hx];exact hsk):p:=h
theorem YR(h:p:=by rw[<-Gb hx];exact hkk):p:=h
theorem QV(h:p:=by rw[Ff hf];exact hr):p:=h
theorem Be(h:p:=by simp only[maxLen];omega):p:=h
theorem IH(h:p:=by rw[GY,hI.lenF]):p:=h
theorem z126q(h:p:=by intro x ex;cases ex):p:=h
theorem Ni(h:p:=by rw[hd];exact hr):p:=h
theorem EU(h:p:=by intro h;cases h):p:=h
theorem D9(h:p:=by intro h;cases h):p:=h
theorem z130q(h:p:=by intro e;cases e):p:=h
theorem QU(h:p:=by rw[hl];decide):p:=h
theorem K7(h:p:=by simpa using h2):p:=h
theorem Kl(h:p:=by simpa using h1):p:=h
theorem He(h:p:=by simpa using h):p:=h
theorem K6(h:p:=by simpa using e):p:=h
theorem BI(h:p:=by rw[ho];rfl):p:=h
theorem Df(h:p:=by simp;omega):p:=h
theorem Bm(h:p:=by assumption):p:=h
theorem AF(h:p:=by kernel_rfl):p:=h
theorem HI(h:p:=by simp[hx]):p:=h
theorem K4(h:p:=by simp[hc]):p:=h
theorem IY(h:p:=by simp[hu]):p:=h
theorem Aj(h:p:=by decide):p:=h
theorem z144q(h:p:=by omega):p:=h
theorem z145q(h:p:=by simp):p:=h
theorem wM(h:p:=by
 refine aq 115 (Ae Ai rfl rfl rfl rfl rfl rfl rfl (AG (by simp:(f.tpaths.map f.newBlock).length=f.tpaths.length) (qX0 hkl)) rfl (q46 _) z144q) ?_;refine AOps.w rfl rfl (o_store Ai rfl rfl rfl rfl rfl rfl (AG (by simp:(f.tpaths.map f.newBlock).length=f.tpaths.length) (qX0 hkl)) (fill_get (by simp:(f.tpaths.map f.newBlock).length=f.tpaths.length) hkl) rfl Aj rfl E4) ?_;refine wk 2 ?_;refine aq 116 (A2 rfl rfl hkl Be) ?_;refine wk 2 ?_;exact⟨k+1,Drop.mk' SK (by repeat(first|exact HDrop.none _ _|exact HDrop.tail _ _|refine HDrop.put ?_ (by first|rfl|exact absurd (show((f.blockAt (AT p)).fin==2)=true from ‹_›) (by rw[show((f.blockAt (AT p)).fin==2)=false from ‹_›];decide)|exact congrArg (fun es=>some (AObj.row true 5 es)) (B4 (f:=Block.cells) (x:=⟨f.joined p,(f.blockAt (AT p)).fin,(f.blockAt (AT p)).v,(f.blockAt (AT p)).to,(f.blockAt (AT p)).els⟩) (by simp:(f.tpaths.map f.newBlock).length=f.tpaths.length) YU)|exact congrArg (fun es=>some (AObj.row true 5 es)) (B4 (f:=Block.cells) (x:=⟨f.joined p,(f.blockAt (AT p)).fin,(f.blockAt (AT p)).v,(f.blockAt (AT p)).to,(iget f.nums (f.blockAt (AT p)).els)⟩) (by simp:(f.tpaths.map f.newBlock).length=f.tpaths.length) YU)|exact congrArg (fun es=>some (AObj.row true 5 es)) (B4 (f:=Block.cells) (x:=⟨f.joined p,(f.blockAt (AT p)).fin,(f.blockAt (AT p)).v,(iget f.nums (f.blockAt (AT p)).to),(f.blockAt (AT p)).els⟩) (by simp:(f.tpaths.map f.newBlock).length=f.tpaths.length) YU)|exact congrArg (fun es=>some (AObj.row true 5 es)) (B4 (f:=Block.cells) (x:=⟨f.joined p,(f.blockAt (AT p)).fin,(f.blockAt (AT p)).v,(iget f.nums (f.blockAt (AT p)).to),(iget f.nums (f.blockAt (AT p)).els)⟩) (by simp:(f.tpaths.map f.newBlock).length=f.tpaths.length) YU)) rfl rfl)),hkl,by omega⟩):p:=h
theorem wP(h:p:=by
 refine aq 65 (A1 (r:=.int .i64 ((((HR f v i).length-(m+1):Nat):Int)-1)) rfl rfl rfl (oo hkk (by have:=N3 hx (v:=v);have:=hi x hxm;omega))) ?_;refine wk 2 ?_;exact⟨m+1,DropK.mk' sH (Bw (k0:=9) rfl yU sN (Bn (Au _) f R _ _)),⟨by omega,by rw[hnx2];exact hF.2⟩,z144q⟩):p:=h
theorem rR(h:p:=by
 refine aq 18 (A2 rfl rfl hkl (show 32<=maxLen by decide)) ?_;refine wk 2 ?_;exact⟨k+1,Sub.mk' B5 (by repeat(first|exact HSub.refl _|exact HSub.none _|exact AQ _|exact AM D2|refine HSub.put ?_ (by first|rfl|exact congrArg (fun es=>some (AObj.row true 1 es)) (dp (c:=[]) hkl sK)|exact congrArg (fun es=>some (AObj.row true 1 es)) (dj hkl sK))|refine AP ?_ D2|refine BD ?_ Aj)),hkl,by omega⟩):p:=h
theorem wL(h:p:=by
 refine wk 5 ?_;refine aq 76 (Ar Ai rfl rfl rfl (.ptr _ _ _ _ false 2 (CA R S v i++[Kb R v i (S i v)]) (Kb R v i (S i v)) ((As _ _ _).trans (congrArg some (Gd))) II QB) rfl) ?_;refine wk 2 ?_;refine ax 79 (BU Ai rfl rfl rfl rfl rfl rfl Aj rfl rfl rfl rfl rfl rfl) ?_;refine ax 80 (o_append1J Ai (b:=(4*(v+R*i)+3+16)) (es:=(S i v).map Hx) rfl rfl rfl rfl rfl rfl rfl rfl ((As _ _ _).trans (congrArg some (Ro hv))) rfl rfl (q68 _) (p6 _) (GT fun _=>rfl) rfl rfl (by rw[q76];show(_+1)*16<=_;omega) j6) ?_;refine wk 2 ?_;refine AOps.w rfl rfl (CQ Ai (p:=false) (sz:=2) (es:=(CA R S v i++[Kb R v i (S i v)])) (cs:=Kb R v i (S i v)) rfl rfl rfl rfl rfl rfl (by(try simp only[hputs]);(try dsimp only);(repeat(first|refine AC Cy ?_|refine hrm_skip z144q ?_));exact(As _ _ _).trans (congrArg some (Gd))) II QB (B1 _ _) Aj (Cj _ _) D9) ?_
 refine an ?_;exact⟨(),Sub.mk' B5 (Oj rfl rfl rfl Uk (fun x_=>by(try simp only[hputs]);rw[hnl];refine(D5 (F:=F4 r0 r1 (Rp n R S v i (S i v)) (bJ R S v i (S i v++[⟨p,false,false⟩]))) (fun y_=>?_) _ _ x_).trans (congrArg some ?_);exact(D5 (F:=F4 r0 r1 (Rp n R S v i (S i v)) (NW R S)) (fun z_=>As _ _ _) _ _ y_).trans (congrArg some (f8 (l:=S i v) (s:=⟨p,false,false⟩) y_).symm);exact(gc (l:=S i v) (iJ (s:=⟨p,false,false⟩)) x_).symm) jQ),trivial⟩):p:=h
theorem qS(h:p:=by
 exact⟨(),Sub.mk' (by repeat(first|exact ESub.new _|refine ESub.put ?_ (by first|rfl|exact congrArg (fun c=>some (AV.bool c)) (by first|(simp[EA, *];done)|(simp_all[EA];done))))) (by repeat(first|exact HSub.refl _|exact HSub.none _|exact AQ _|exact AM D2|refine HSub.put ?_ (by first|rfl|(simp only[RW.div,hr,qZ7,qZ3];rfl))|refine AP ?_ D2|refine BD ?_ Aj)),trivial⟩):p:=h
theorem dI(h:p:=by
 refine wk 5 ?_
 first
 |exact absurd (show(b.fin==2)=true from ‹_›) (by rw[show(b.fin==2)=false from ‹_›];decide)
 |(refine⟨[_],⟨rfl,trivial⟩,?_,rfl⟩;refine bc ?_;rw[Vl hall (by rw[hmd,show((((old.joined p).length:Nat):Int) !=(((b.ins.map Tac.cells).length:Nat):Int))=false from ‹_›];rfl)];simp only[HA,J5,J6, *,qZ7,qZ3,qQ7,Bool.not_false,qQ5,Bool.false_and,qQ4,q97,Bool.true_or,qX6,qQ6,Bool.or_false])):p:=h
theorem ru(h:p:=by
 exact⟨(),Sub.mk' (by repeat(first|exact ESub.new _|refine ESub.put ?_ (by first|rfl|exact congrArg (fun c=>some (AV.bool c)) (by first|(simp[rrisky, *];done)|(simp_all[rrisky];done))))) CX,trivial⟩):p:=h
theorem zt7(h:p:=by
 refine wk 5 ?_;refine dq 86 (Ar Ai rfl rfl rfl (.ptr _ _ _ _ false 2 (CA R S v i++[Kb R v i (Bi (S i v) p)]) (Kb R v i (Bi (S i v) p)) ((As _ _ _).trans (congrArg some (Gd))) II QB) rfl) ?_;refine wk 3 ?_;refine dq 90 (Ar Ai rfl rfl rfl (.ptr _ _ _ _ false 2 (CA R S v i++[Kb R v i (Bi (S i v) p)]) (Kb R v i (Bi (S i v) p)) ((As _ _ _).trans (congrArg some (Gd))) II QB) rfl) ?_;refine dq 91 (DD Ai rfl rfl rfl rfl) ?_;refine dq 92 (A1 (r:=.int .i64 (((Bi (S i v) p).length-1:Nat):Int)) rfl rfl rfl (by rw[q76];exact Rc (CK _ _) (by have:=bY (S i v) p;omega))) ?_;refine dq 93 (AR Ai (b:=(4*(v+R*i)+3+16)) (es:=(Bi (S i v) p).map Hx) rfl rfl rfl rfl rfl rfl ((As _ _ _).trans (congrArg some (qb))) rfl (q46 _) (by rw[q76];have:=CK (S i v) p;omega)) ?_;refine wk 3 ?_;refine⟨[_],⟨rfl,trivial⟩,?_,?_⟩
 . show AV.ptr _ _ _ _=AV.ptr _ _ _ _;rw[q76,q55]
 . rw[<-ov hi0 hlast (CK _ _),<-ge hv hi0 hlast (CK _ _),<-Ti hv];exact M6 rfl Uk eC):p:=h
theorem yR(h:p:=by
 refine ax 49 (by first|exact Jf (hc:=(hput (hput hNew 4 (.row false 1 [[A6 9 ((((Bh (c.at' i) (k)).first k).L).map RVal.cells)]])) 9 (By 9 ((((Bh (c.at' i) (k)).first k).L).map RVal.cells)))) (hw:=(hput (hput hNone 4 (.row false 1 [[A6 9 (((Bs ((Bh (c.at' i) (k)).first k).L (RVal.reg k 0)).2).map RVal.cells)]])) 9 (By 9 (((Bs ((Bh (c.at' i) (k)).first k).L (RVal.reg k 0)).2).map RVal.cells)))) [9,4] [(4,(.row false 1 [[A6 9 (((Bs ((Bh (c.at' i) (k)).first k).L (RVal.reg k 0)).2).map RVal.cells)]])),(9,(By 9 (((Bs ((Bh (c.at' i) (k)).first k).L (RVal.reg k 0)).2).map RVal.cells)))] rfl Tryz.func70 AF rfl rfl rfl ⟨⟨_,rfl,z60q⟩,⟨_,rfl,z60q⟩,trivial⟩ rfl (Ac rfl (Ac rfl (AE _))) ⟨⟨_,rfl,rfl,z60q⟩,⟨_,rfl,rfl,z60q⟩,trivial⟩ rfl (ER ((Bh (c.at' i) (k)).first k).L pA (RVal.reg k 0))|exact Jf (hc:=(hput (hput hNew 4 (.row false 1 [[A6 9 ((((Bh (c.at' i) (k)).first k).L).map RVal.cells)]])) 9 (By 9 ((((Bh (c.at' i) (k)).first k).L).map RVal.cells)))) (hw:=(hput (hput hNone 4 (.row false 1 [[A6 9 (((Bs ((Bh (c.at' i) (k)).first k).L (RVal.reg k 1)).2).map RVal.cells)]])) 9 (By 9 (((Bs ((Bh (c.at' i) (k)).first k).L (RVal.reg k 1)).2).map RVal.cells)))) [9,4] [(4,(.row false 1 [[A6 9 (((Bs ((Bh (c.at' i) (k)).first k).L (RVal.reg k 1)).2).map RVal.cells)]])),(9,(By 9 (((Bs ((Bh (c.at' i) (k)).first k).L (RVal.reg k 1)).2).map RVal.cells)))] rfl Tryz.func70 AF rfl rfl rfl ⟨⟨_,rfl,z60q⟩,⟨_,rfl,z60q⟩,trivial⟩ rfl (Ac rfl (Ac rfl (AE _))) ⟨⟨_,rfl,rfl,z60q⟩,⟨_,rfl,rfl,z60q⟩,trivial⟩ rfl (ER ((Bh (c.at' i) (k)).first k).L pA (RVal.reg k 1))) ?_
 refine ax 50 (BU Ai rfl rfl rfl rfl rfl rfl Aj rfl rfl rfl rfl rfl rfl) ?_;refine ax 51 (o_append1J Ai (b:=7) (es:=Bb (Bh (c.at' i) (k)).ys) rfl rfl rfl rfl rfl rfl rfl rfl rfl rfl rfl (q68 _) (Cz _) (Q5 _) rfl rfl (by rw[HM];have h:=(DL (c.at' i) k).yl;show((Bh (c.at' i) (k)).ys.length+1)*8<=_;omega) (by rw[HM];have h:=(DL (c.at' i) k).yl;simp only[maxLen];show(Bh (c.at' i) (k)).ys.length+1<=_;omega)) ?_;refine wk 4 ?_;refine aq 28 (A2 rfl rfl hkl (show R<=maxLen by simp only[maxLen];omega)) ?_;refine wk 2 ?_;exact⟨k+1,Drop.mk' (by repeat(first|exact EDrop.new _ _|refine EDrop.put ?_ (by first|rfl|(rw[KL hside];exact bh _ _ _)) j9)) (by repeat(first|exact HDrop.none _ _|exact HDrop.tail _ _|refine HDrop.put ?_ (by first|rfl|(rw[KL hside];rfl)|(rw[KL hside];exact bg _ _)) rfl z60q)),hkl,by omega⟩):p:=h
theorem wJ(h:p:=by
 refine wk 2 ?_;refine aq 101 (A2 rfl rfl hkl Be) ?_;refine wk 2 ?_;exact⟨k+1,Drop.mk' SK (by repeat(first|exact HDrop.none _ _|exact HDrop.tail _ _|refine HDrop.put ?_ (by first|rfl|exact congrArg (fun es=>some (AObj.row true 1 es)) (B4 (f:=TH) (x:= -1) (A4 f reach) (by rw[htk,hno]))|exact congrArg (fun w=>some (AObj.row true 1 (List.map Bg w))) (fk hx hno)|exact congrArg (fun es=>some (AObj.row true 1 es)) (by rw[List.set_set];exact B4 (f:=TH) (x:=x.to) (A4 f reach) (by rw[htk,hyes]))|exact congrArg (fun es=>some (AObj.row true 1 es)) (bd hx hyes hto.1)) rfl rfl)),hkl,by omega⟩):p:=h
theorem Uj(h:p:=by
 refine aq 165 (ES Ai false rfl rfl rfl AF rfl rfl rfl rfl rfl) ?_;refine wk 2 ?_;refine DY ⟨[_],⟨rfl,trivial⟩,?_,rfl⟩;refine bc ?_;have hwr:1<=t.size->t.size<=4096->IntKind.i64.wrap (words-t.size)=words-t.size:=fun h1 h2=>Cq z144q z144q
 rw[cG hb1 hb2 hd hall eE];subst hdd haa hbb;clear hd hj hall hwr hw hw2 hb1 hb2;first|(simp_all[Tac.same,Tac.want,baseOp,Ie,setsOp,use1,use2];done)|simp[Tac.same,Tac.want,baseOp,Ie, *]):p:=h
theorem pm(h:p:=by
 refine wk 2 ?_;exact⟨k+1,Drop.mk' SK (by repeat(first|exact HDrop.none _ _|exact HDrop.tail _ _|refine HDrop.put ?_ (by first|rfl|exact congrArg (fun es=>some (AObj.row true 1 es)) (B4 (f:=F1) (x:=[x.to]) (AL f) (by rw[hnx];simp[Block.nexts, *]))|exact congrArg (fun es=>some (AObj.row true 1 es)) (B4 (f:=F1) (x:=[x.to,x.els]) (AL f) (by rw[hnx];simp[Block.nexts, *]))|exact congrArg (fun es=>some (AObj.row true 1 es)) (cJ (f:=F1) (x:=[]) (AL f) (by rw[hnx];simp[Block.nexts, *]) rfl)) rfl rfl)),hkl,by omega⟩):p:=h
theorem WN(h:p:=by
 refine wk 2 ?_;exact⟨t.d,Sub.mk' B5 CX,⟨by have h:= ‹(!A3 t.d regs)=false›;simp at h;simp[h],by first|(simp[setsOp, *];done)|simp[E8 ‹_›]⟩⟩):p:=h
theorem rW(h:p:=by
 rcases hp with hp|⟨hp1,a2,w2,hp2⟩
 . refine .inl ?_;have hp':=qX8 (fun a2 w2=>ih a2 w2) hp;clear hp;unfold Oper.wp at hp'|-;generalize(execOp a1.eval o').run P w1=res at hp'|-
   cases res with
   |ok n w3=>
    cases n<;>simp only[Oper.upon]at hp'|- <;>first
     |exact hp'
     |exact Calls.mono hp' py
   |halt x w3=>cases x<;>simp only[Oper.upon]at hp'|- <;>first|exact hpost _ _ _ hp'|exact hp'
 . exact .inr ⟨hp1,a2,w2,hpost _ _ _ hp2⟩):p:=h
theorem rV(h:p:=by
 have hoR:oR n R S v=A6 (4*v+2+16) (CA R S v i):=by unfold oR;rw[Z0 hi0 hlast hS0]
 rw[hoR];refine wk 5 ?_;refine ax 35 (BU Ai rfl rfl rfl rfl rfl rfl Aj rfl rfl rfl rfl rfl rfl) ?_;refine ax 36 (KQ Ai (b:=(4*v+2+16)) (es:=CA R S v i) (x0:=[.int .i64 (i:Int),.nil]) rfl rfl rfl rfl rfl rfl rfl rfl ((As _ _ _).trans (congrArg some ((XE hv).trans (by rw[Z0 hi0 hlast hS0])))) rfl rfl (q68 _) (.lst _ _) rfl (by rw[FC];show _*32<=_;omega) (by rw[FC];simp only[maxLen];omega)) ?_;refine wk 2 ?_;refine AGo.ghost (Ghost.weakRowF (4*v+2+16) (es':=CA R S v i++[[.int .i64 (i:Int),A6 (4*(v+R*i)+3+16) []]]) BL z145q (aD (show WkAll [AV.int .i64 (i:Int),.nil] _ from⟨Wk.refl _,Wk.nil _,trivial⟩))) ?_;refine wk 7 ?_;refine aq 43 (Ae Ai rfl rfl rfl rfl rfl rfl rfl (Ap _ _).symm rfl (q46 _) z144q) ?_;refine AOps.w rfl rfl (CQ Ai (p:=false) (sz:=1) (es:=Az (oR n R S) R) (cs:=[oR n R S v]) rfl rfl rfl rfl rfl rfl BL (Ap _ _).symm ay (B1 _ _) Aj (Cj _ _) D9) ?_
 refine an ?_;exact⟨(),Sub.mk' sA (Oj rfl rfl rfl (by repeat(first|exact trivial|refine⟨by first|rfl|exact congrArg (fun es=>some (AObj.row false 1 es)) (qm (FC _ _ _ _)),?_⟩)) (fun x_=>by(try simp only[hputs]);(repeat(first|refine AC Cy ?_|refine hrm_skip z144q ?_));rw[Yb];exact(D5 (fun y_=>As _ _ _) _ _ x_).trans (congrArg some (lf hS0 x_).symm)) jQ),trivial⟩):p:=h
theorem zt15(h:p:=by
 have hbytes:l.length*P.bytesOf e<=reachBytes:=by
  refine qX2 (q34 _ ?_) w1;omega
 refine⟨l,.one ?_ rfl,hbytes,hQ⟩
 by_cases h0:len=0
 . have:l=[]:=q18.1 z144q;subst this;subst h0;exact .lst0 _ _ _ _ EU hm EU trivial
 . obtain⟨y0,cs0,k1,k2,k3⟩:=key 0 z144q;obtain⟨_,m1,m2⟩:=World.cells?_some k1;have hz:cs0[0]?=some cs0[0]:=q13 z144q;have hcell:=m2 0 hc;rw[hz]at hcell;have ha0:(a.add (0*P.cellsOf e)).add 0=a:=by simp[Addr.add]
   rw[ha0]at hcell;obtain⟨c,hH,hspot,_⟩:=Kv hcell;obtain⟨ab,ao,asp⟩:=a;simp only at hspot hH;subst hspot;have hsz:∀(i:Nat) (xs:List AV),(l.map f)[i]?=some xs->xs.length=P.cellsOf e/\∀(j:Nat) (x:AV),xs[j]?=some x->∃v,c[ao+i*P.cellsOf e+j]?=some v/\Rel (C8 W) A7 x v/\x.cell1=true:=fun i xs hi=>by
    rw[q54,q22]at hi;obtain⟨y,y1,rfl⟩:=hi;obtain⟨cs',c1,c2,c3⟩:=l2 i y y1;obtain⟨_,n1,n2⟩:=World.cells?_some c1;refine⟨by rw[c2.1,n1],fun j x hj=>?_⟩;have hjlt:j<cs'.length:=by rw[<-c2.1];exact(q05.1 hj).1
    have h3:=n2 j z144q;rw[q13 hjlt,Gl,Gl]at h3;obtain⟨c',e1,_,e3⟩:=Kv h3;simp only at e1 e3;rw[hH]at e1;cases e1;obtain⟨g1,g2⟩:=c2.2 j x _ hj (q13 hjlt);exact⟨_,e3,g1,g2⟩
   have:=Rel.lst (H:=C8 W) A7 false (l.map f) ab ao cap (P.cellsOf e) c (fun i j=>(c[ao+i*P.cellsOf e+j]?).getD undef) (fun hh=>by rw[List.map_eq_nil_iff]at hh;subst hh;simp at l1;omega) hH
    (fun i xs hi=>(hsz i xs hi).1) (fun i xs j x hi hj=>by obtain⟨v,v1,_⟩:=(hsz i xs hi).2 j x hj;rw[v1];rfl)
    (fun i xs j x hi hj=>by obtain⟨v,v1,v2,_⟩:=(hsz i xs hi).2 j x hj;rw[v1];exact v2) (fun i xs j x hi hj=>by obtain⟨v,v1,v2,v3⟩:=(hsz i xs hi).2 j x hj;exact v3) EU (by simp[l1];exact hl) hm
   rw[q76,l1]at this;exact this):p:=h
theorem zt16(h:p:=by
 refine wk 6 ?_;refine asp 6 (fun hb1=>?_) fun hb1=>?_
 .
  refine act ?_;have hkl:k<32:=by have h:=hb1;simp at h;omega
  have hle:a/2^k<=a:=Nat.div_le_self _ _;refine wk 7 ?_;refine aq 11 (A1 (r:=.int .u32 ((a/2^k%2:Nat):Int)) rfl rfl rfl (F5 (a:=a/2^k) (b:=2) Aj)) ?_;refine aq 12 (Cx Ai rfl rfl rfl rfl rfl (JJ z144q)) ?_;refine ax 13 (BU Ai rfl rfl rfl rfl rfl rfl Aj rfl rfl rfl rfl rfl rfl) ?_;refine ax 14 (o_append Ai (n:=k) (m:=1) rfl rfl rfl rfl rfl rfl rfl rfl rfl (by simp[C6,C9]) rfl rfl (q68 _) (.lst _ _) QY au rfl (by simp[C6,C9,partVals];show _*8<=_;omega) (by simp[C6,C9,partVals];simp only[maxLen];omega)) ?_;refine wk 4 ?_;refine aq 16 (A1 (r:=.int .u32 ((a/2^k/2:Nat):Int)) rfl rfl rfl (L2 (a:=a/2^k) (b:=2) Aj (DQ z144q))) ?_;refine wk 4 ?_;refine aq 8 (A2 rfl rfl hkl (show 32<=maxLen by decide)) ?_;refine wk 2 ?_;exact⟨k+1,Sub.mk' (by repeat(first|exact ESub.new _|refine ESub.put ?_ (by first|rfl|exact congrArg (fun(n:Nat)=>some (AV.int .u32 (n:Int))) (by rw[Nat.div_div_eq_div_mul,Nat.pow_succ])))) (by repeat(first|exact HSub.refl _|exact HSub.none _|exact AQ _|exact AM D2|refine HSub.put ?_ (by first|rfl|exact congrArg (fun es=>some (AObj.row true 1 es)) (Wl a k))|refine AP ?_ D2|refine BD ?_ Aj)),hkl,by omega⟩
 refine acf ?_;have hge:¬k<32:=by have h:=hb1;simp at h;omega
 refine wk 2 ?_;obtain rfl:k=32:=by omega
 refine wk 5 ?_;refine⟨[_],⟨rfl,trivial⟩,rfl,HSub.put (HSub.none _) rfl⟩):p:=h
theorem Ui(h:p:=by
 refine DY ⟨[_],⟨rfl,trivial⟩,?_,rfl⟩;refine bc ?_;have hwr:1<=t.size->t.size<=4096->IntKind.i64.wrap (words-t.size)=words-t.size:=fun h1 h2=>Cq z144q z144q
 exact(Sm eE).symm):p:=h
theorem rU(h:p:=by
 refine wk 6 ?_;refine ax 86 (CW Tryz.func72 (Rm t.k _ _ (Mw h.wn _) (Mw h.wn _))) ?_;refine wk 20 ?_;refine dx 101 (GU (ER w.L z144q ⟨1,0,0,0,0,0,0,0,(wapp t.k (Bu w.L (rget w.regs t.a)).1 (Bu w.L (rget w.regs t.b)).1).1⟩) [9,4] [(4,(.row false 1 [[A6 9 (((Bs w.L ⟨1,0,0,0,0,0,0,0,(wapp t.k (Bu w.L (rget w.regs t.a)).1 (Bu w.L (rget w.regs t.b)).1).1⟩).2).map RVal.cells)]])),(9,(By 9 (((Bs w.L ⟨1,0,0,0,0,0,0,0,(wapp t.k (Bu w.L (rget w.regs t.a)).1 (Bu w.L (rget w.regs t.b)).1).1⟩).2).map RVal.cells)))] rfl Tryz.func70 AF rfl rfl rfl ⟨⟨_,rfl,z60q⟩,⟨_,rfl,z60q⟩,trivial⟩ rfl (Ac rfl (Ac rfl (AE _))) ⟨⟨_,rfl,rfl,z60q⟩,⟨_,rfl,rfl,z60q⟩,trivial⟩ rfl) ?_;refine dq 102 (AR Ai rfl rfl rfl rfl rfl rfl rfl rfl hxd.1 hxd.2.2.1) ?_;refine DOps.w rfl rfl (C5 Ai rfl rfl rfl rfl rfl rfl rfl K3 (Cz _) rfl rfl rfl) ?_;refine wk 2 ?_;refine⟨[],trivial,rfl,?_⟩;rw[Zy,MC hf]
 exact(HSub.put (HSub.put (HSub.put (HSub.put (HSub.put (HSub.none _) rfl) rfl) sC) QC) rfl)):p:=h
theorem rS(h:p:=by
 refine wk 6 ?_;refine ax 86 (CW Tryz.func72 (Rm t.k _ _ (Mw h.wn _) (Mw h.wn _))) ?_;refine wk 20 ?_;refine dx 101 (GU (ER w.L z144q ⟨1,0,0,0,0,0,0,0,(wapp t.k (Bu w.L (rget w.regs t.a)).1 (Bu w.L (rget w.regs t.b)).1).1⟩) [9,4] [(4,(.row false 1 [[A6 9 (((Bs w.L ⟨1,0,0,0,0,0,0,0,(wapp t.k (Bu w.L (rget w.regs t.a)).1 (Bu w.L (rget w.regs t.b)).1).1⟩).2).map RVal.cells)]])),(9,(By 9 (((Bs w.L ⟨1,0,0,0,0,0,0,0,(wapp t.k (Bu w.L (rget w.regs t.a)).1 (Bu w.L (rget w.regs t.b)).1).1⟩).2).map RVal.cells)))] rfl Tryz.func70 AF rfl rfl rfl ⟨⟨_,rfl,z60q⟩,⟨_,rfl,z60q⟩,trivial⟩ rfl (Ac rfl (Ac rfl (AE _))) ⟨⟨_,rfl,rfl,z60q⟩,⟨_,rfl,rfl,z60q⟩,trivial⟩ rfl) ?_;refine dq 102 (AR Ai rfl rfl rfl rfl rfl rfl rfl rfl hxd.1 hxd.2.2.1) ?_;refine DOps.w rfl rfl (C5 Ai rfl rfl rfl rfl rfl rfl rfl K3 (Cz _) rfl rfl rfl) ?_;refine wk 2 ?_;refine⟨[],trivial,rfl,?_⟩;rw[Zz,MC hf]
 exact(HSub.put (HSub.put (HSub.put (HSub.put (HSub.put (HSub.none _) rfl) rfl) sB) QC) rfl)):p:=h
theorem j4(h:p:=by
 refine wk 3 ?_;refine aq 148 (A2 rfl rfl hkl (show R<=maxLen by simp only[maxLen];omega)) ?_;refine wk 2 ?_;exact⟨k+1,Drop.mk' Gt kj,⟨hkl,Uv hagr hmu (by first|exact fun _=>Hq hag|(exact fun h=>by rw[hag]at h;cases h))⟩,by omega⟩):p:=h
theorem rQ(h:p:=by
 refine aq 74 (A2 rfl rfl hkl pz) ?_;refine wk 2 ?_;exact⟨(q.1+1,q.2),DropK.mk' yS (Bw (k0:=9) rfl yW Hu (Bn (Au _) f R _ _)),⟨hkl,by rw[<-OD hgi z144q];exact hq.2⟩,(by show(Gh f v).length-(q.1+1)<(Gh f v).length-q.1;omega)⟩):p:=h
theorem pl(h:p:=by
 refine aq 60 (A2 rfl rfl hkl Be) ?_;refine wk 2 ?_;exact⟨k+1,Drop.mk' (by repeat(first|exact EDrop.new _ _|refine EDrop.put ?_ (by first|rfl|exact congrArg (fun n=>some (AV.ref 4 n 0 n)) (by rw[EY hhead];simp)|exact congrArg (fun n=>some (AV.ref 4 n 0 n)) (by rw[GS hhead])) rfl)) (by repeat(first|exact HDrop.none _ _|exact HDrop.tail _ _|refine HDrop.put ?_ (by first|rfl|exact congrArg (fun es=>some (AObj.row true 1 es)) (by rw[Pp hhead];exact R9 _ _ _)|exact congrArg (fun es=>some (AObj.row true 1 es)) (by rw[EY hhead,q77];rfl)|exact congrArg (fun es=>some (AObj.row true 1 es)) (by rw[RD hhead])|exact congrArg (fun es=>some (AObj.row true 1 es)) (by rw[GS hhead])) rfl rfl)),hkl,by omega⟩):p:=h
theorem rP(h:p:=by
 refine wk 17 ?_;refine dx 118 (GU (ER w.L z144q ⟨3,t.k,(rget w.regs t.a),(rget w.regs t.b),0,0,0,0,0⟩) [9,4] [(4,(.row false 1 [[A6 9 (((Bs w.L ⟨3,t.k,(rget w.regs t.a),(rget w.regs t.b),0,0,0,0,0⟩).2).map RVal.cells)]])),(9,(By 9 (((Bs w.L ⟨3,t.k,(rget w.regs t.a),(rget w.regs t.b),0,0,0,0,0⟩).2).map RVal.cells)))] rfl Tryz.func70 AF rfl rfl rfl ⟨⟨_,rfl,z60q⟩,⟨_,rfl,z60q⟩,trivial⟩ rfl (Ac rfl (Ac rfl (AE _))) ⟨⟨_,rfl,rfl,z60q⟩,⟨_,rfl,rfl,z60q⟩,trivial⟩ rfl) ?_;refine dq 119 (AR Ai rfl rfl rfl rfl rfl rfl rfl rfl hxd.1 hxd.2.2.1) ?_;refine DOps.w rfl rfl (C5 Ai rfl rfl rfl rfl rfl rfl rfl K3 (Cz _) rfl rfl rfl) ?_;refine wk 1 ?_;refine⟨[],trivial,rfl,?_⟩;rw[Zy,HV hf];exact(HSub.put (HSub.put (HSub.put (HSub.put (HSub.put (HSub.none _) rfl) rfl) sC) QC) rfl)):p:=h
theorem rO(h:p:=by
 refine wk 17 ?_;refine dx 118 (GU (ER w.L z144q ⟨3,t.k,(rget w.regs t.a),(rget w.regs t.b),0,0,0,0,0⟩) [9,4] [(4,(.row false 1 [[A6 9 (((Bs w.L ⟨3,t.k,(rget w.regs t.a),(rget w.regs t.b),0,0,0,0,0⟩).2).map RVal.cells)]])),(9,(By 9 (((Bs w.L ⟨3,t.k,(rget w.regs t.a),(rget w.regs t.b),0,0,0,0,0⟩).2).map RVal.cells)))] rfl Tryz.func70 AF rfl rfl rfl ⟨⟨_,rfl,z60q⟩,⟨_,rfl,z60q⟩,trivial⟩ rfl (Ac rfl (Ac rfl (AE _))) ⟨⟨_,rfl,rfl,z60q⟩,⟨_,rfl,rfl,z60q⟩,trivial⟩ rfl) ?_;refine dq 119 (AR Ai rfl rfl rfl rfl rfl rfl rfl rfl hxd.1 hxd.2.2.1) ?_;refine DOps.w rfl rfl (C5 Ai rfl rfl rfl rfl rfl rfl rfl K3 (Cz _) rfl rfl rfl) ?_;refine wk 1 ?_;refine⟨[],trivial,rfl,?_⟩;rw[Zz,HV hf];exact(HSub.put (HSub.put (HSub.put (HSub.put (HSub.put (HSub.none _) rfl) rfl) sB) QC) rfl)):p:=h
theorem rN(h:p:=by
 have hfit:Builtin.nextslicecap (0+es2.length) 0*infou.bytes<=281474976710656:=growslice_fits z144q (by rw[f5,qQ8];exact hby);have hrun:=run_append_grow_src (P:=P) w t t' o.type u infou z e2 f1 hz1 base 0 0 [] hold vb es2.length news hsrcw z144q h63 hfit;have hge:=grownCap_ge w (0+es2.length) 0 u;have hcm:grownCap w (0+es2.length) 0 u<=maxLen:=grownCap_le_maxLen w _ 0 u z144q;generalize hcc:grownCap w (0+es2.length) 0 u=nc at*;generalize hC:(([]:List Value)++news).toArray++Builtin.zeroCells z.cells (nc-(0+es2.length))=C at*;have hCs:C.size=nc*j.size:=by
  rw[<-hC,Array.size_append,size_zeroCells,hzl];simp only[List.size_toArray,List.nil_append,hnl,<-qZ2];congr 1;omega
 have hCg:∀k,k<news.length->C[k]?=news[k]?:=fun k hk=>by
  rw[<-hC,q04 Df]
  simp
 refine⟨_,C,u,w.drew,rfl,rfl,rfl,?_,⟨fun i cs h=>hu2 cs (q33 h),fun i cs k y h1 h2=>?_⟩,hexec _ _ (hv▸hrun),?_⟩
 . rw[hCs];exact q34 _ z144q
 . obtain⟨v,k1,k2,k3⟩:=hnews i cs k y h1 h2;exact⟨v,by rw[hCg _ (q05.1 k1).1];exact k1,k2,k3⟩
 . have:=Rel.refL (H:=H) (D1 ι b ⟨w.heap.size,j.size,es2.length,C.size⟩) b es2.length 0 es2.length nc _ (Br _ _ _) rfl z144q z144q (by simp[hCs]) hcm;simpa using this):p:=h
theorem rM(h:p:=by
 refine aq 26 (A2 rfl rfl hjl Be) ?_;refine wk 2 ?_;exact⟨j+1,DropK.mk' (by repeat(first|exact EDropK.new _ _|refine EDropK.put ?_ (by first|rfl|exact congrArg (fun m=>some (AV.ref 9 m 0 m)) (congrArg List.length (Vy ht hg).symm)|exact congrArg (fun m=>some (AV.ref 9 m 0 m)) ((q76 (f:=Tac.cells)).symm.trans ((congrArg List.length (Vx ht hg).symm).trans z145q)).symm|exact congrArg (fun(n:Nat)=>some (AV.int .i64 (n:Int))) z145q) (by first|rfl))) (Bw (k0:=13) rfl (by repeat(first|exact trivial|refine⟨⟨by first|rfl|exact congrArg (fun es=>some (AObj.row true 8 es)) (Vx ht hg)|exact congrArg (fun l=>some (AObj.row true 8 (l.map Tac.cells))) (Vy ht hg).symm|((try simp only[hputs]);repeat(first|rfl|exact At _ _ _|refine AC Cy ?_|refine hrm_skip z144q ?_|refine(CV _ QA).trans ?_)),by first|rfl|exact Ah (fun _ _=>Bo (Au _) _ _)|exact Ah (fun _ _=>Bf (Au _) _ _ _ _)|exact Ah (fun _ _=>B9 (Au _) _ _)⟩,?_⟩)) Gu (Bn (Au _) f R _ _)),hjl,by omega⟩):p:=h
theorem zt27(h:p:=by
 refine wk 2 ?_;refine aq 120 (A2 rfl rfl hjl pn) ?_;refine wk 2 ?_;exact⟨⟨p.inn,p.todo,p.es,p.j+1⟩,DropK.mk' sM (Bw (k0:=9) rfl yV Gu (Bn (Au _) f R _ _)),(hP.skip ha hno),pw⟩):p:=h
theorem WM(h:p:=by
 refine DY ⟨[_],⟨rfl,trivial⟩,?_,rfl⟩;refine bc ?_;exact(W9 hx ht sv).symm):p:=h
theorem WL(h:p:=by
 refine wk 5 ?_;refine DY ⟨[_],⟨rfl,trivial⟩,?_,rfl⟩;refine bc ?_;exact(qD (by first|(simp[setsOp, *];done)|exact E8 ‹_›) (by simpa using ‹(!A3 t.d regs)=true›)).symm):p:=h
theorem rL(h:p:=by
 have hnb:notBeen s.been b=false:=by
  rw[q64];intro h;obtain⟨h1,h2,h3⟩:=E0 h;first|(simp_all[AO];done)|(simp_all[AO];omega)
 refine mx ?_;refine⟨[],trivial,rfl,?_⟩;rw[show BY b s=_ from dinto_eq hnb,show TG b s es=_ from iz hnb];exact HSub.put (HSub.put (HSub.put (HSub.put (HSub.put (HSub.none _) r9) rfl) rfl) sd) (by rfl)):p:=h
theorem pk(h:p:=by
 refine aq 49 (A2 rfl rfl hkl (show l.length<=maxLen by simp only[maxLen];omega)) ?_;refine wk 2 ?_;exact⟨k+1,Drop.mk' (by repeat(first|exact EDrop.new _ _|refine EDrop.put ?_ (by first|rfl) rfl)) (by repeat(first|exact HDrop.none _ _|exact HDrop.tail _ _|refine HDrop.put ?_ (by first|rfl|exact congrArg (fun es=>some (AObj.row true 8 es)) (by subst hu;exact B4 (f:=Tac.cells) (BX l []) (Jo l [] hx))|exact congrArg (fun m=>some (AObj.map (kvs .i64 (nm m)))) (by rw[Yf hx,<-hu];clear hu;simp[Gq, *])) rfl rfl)),hkl,by omega⟩):p:=h
theorem pj(h:p:=by
 refine DY ⟨[_],⟨rfl,trivial⟩,?_,rfl⟩;refine bc ?_;first|exact(one_false (by rw[hmd,show((((old.joined p).length:Nat):Int) !=(((b.ins.map Tac.cells).length:Nat):Int))=true from ‹_›];rfl)).symm|(rw[Vl hall (by rw[hmd,show((((old.joined p).length:Nat):Int) !=(((b.ins.map Tac.cells).length:Nat):Int))=false from ‹_›];rfl)];simp only[HA,J5,J6, *,qZ7,qZ3,qQ7,Bool.not_false,qQ5,Bool.false_and,qQ4,q97,Bool.true_or,qX6,qQ6,Bool.or_false])):p:=h
theorem K2(h:p:=by
 refine⟨[_,_],⟨rfl,rfl,trivial⟩,?_,rfl⟩;show AV.tup _=AV.tup _;simp[wapp, *]):p:=h
theorem jZ(h:p:=by
 exact⟨[],trivial,rfl,(M6 rfl Uk Hu)⟩):p:=h
theorem rK(h:p:=by
 refine AOps.k 79 rfl rfl rfl ?_;refine AOps.k 80 rfl rfl rfl ?_;refine AOps.k 81 rfl rfl rfl ?_;refine AOps.k 82 rfl rfl rfl ?_;refine wk 2 ?_;refine AOps.k 85 rfl rfl rfl ?_;refine AOps.k 86 rfl rfl rfl ?_;refine AOps.k 87 rfl rfl rfl ?_;refine AOps.k 88 rfl rfl rfl ?_;refine AOps.k 89 rfl rfl rfl ?_;refine AOps.k 90 rfl rfl rfl ?_;refine wk 3 ?_;have hno:takeOf f.nexts reach k x= -1:=takeOf_no hrk (by simp_all);exact wJ):p:=h
theorem rJ(h:p:=by
 refine aq 57 (A2 rfl rfl hjl j5) ?_;refine wk 2 ?_;exact⟨j+1,DropK.mk' (by repeat(first|exact EDropK.new _ _|refine EDropK.put ?_ (by first|rfl|exact congrArg (fun z=>some (AV.bool z)) (by rw[anyK_succ hd];first|(rw[hz9];rfl)|(rw[‹Wm inn x j=true›];rfl)|(rw[‹Wm inn x j=false›];rfl))|exact congrArg (fun(n:Nat)=>some (AV.int .i64 (n:Int))) z145q) (by first|rfl|exact Bf (Au _) _ _ _ _))) (Bw (k0:=9) rfl pE Gu (Bn (Au _) f R _ _)),trivial,z144q⟩):p:=h
theorem pi(h:p:=by
 refine act ?_;have hels:=cn hle hbx (by simp_all);refine wk 4 ?_;refine aq 108 (Ae Ai rfl rfl rfl rfl rfl rfl rfl aw rfl hels.1 z144q) ?_;refine aq 109 (Ar Ai rfl rfl rfl (.ptr _ _ _ _ _ _ _ _ rfl aw (PN (by rw[show f.nums.length=f.blocks.length from B7 f _];exact hels))) rfl) ?_;refine wk 8 ?_;exact wM):p:=h
theorem rH(h:p:=by
 refine wk 5 ?_;refine aq 39 (A2 rfl rfl hjl (by have:=hi x hxm;simp only[maxLen];omega)) ?_;refine wk 2 ?_;exact⟨j+1,Drop.mk' Gt (by repeat(first|exact HDrop.none _ _|exact HDrop.tail _ _|refine HDrop.put ?_ (by first|rfl|(rw[hnc];rfl)|(rw[hnc,q77];rfl)|exact congrArg (fun n:Nat=>some (AObj.row false 5 [[.ref 5 n 0 n,.int .i64 x.fin,.int .i64 x.v,.int .i64 x.to,.int .i64 x.els]])) (by rw[hnc,q48];rfl)) rfl su)),⟨hjl,Dw ht hja (by first|exact hok|exact sv)⟩,by omega⟩):p:=h
theorem rE(h:p:=by
 have key:∀b o,hres s.h L b=some o->o.alive=true->b∈L/\s.h b=some o:=fun b o h1 h2=>by
  unfold hres at h1
  cases e:mem L b with
  |true=>rw[e]at h1;exact⟨mem_iff.1 e,h1⟩
  |false=>rw[e]at h1;cases h1;cases h2
 refine⟨hs.heap.know,fun b hb=>?_,fun b o h1 h2=>?_,fun b b' o o' r r' h1 h2 h3 h4 h5 h6=>?_,hs.heap.glob⟩
 . unfold hres at hb;unfold lcut
   cases e:mem L b with
   |true=>rw[e]at hb;exact hs.heap.free b hb
   |false=>rfl
 . obtain⟨k1,k2⟩:=key b o h1 h2;obtain⟨r,r1,r2,r3⟩:=hs.heap.obj b o k2 h2;obtain⟨q,q1,q2⟩:=hLs b k1;rw[k2]at q1;cases q1;exact⟨r,by rw[Ff (mem_iff.2 k1)];exact r1,HZ r2 q2,r3⟩
 . exact hs.heap.inj b b' o o' r r' (key b o h1 h2).2 h2 (key b' o' h3 h4).2 h4 (BC h5) (BC h6)):p:=h
theorem rD(h:p:=by
 have key:∀b o,EL h κ b=some o->o.alive=true->κ b=true/\h b=some o:=fun b o h1 h2=>by
  unfold EL at h1
  cases e:κ b with
  |true=>rw[e]at h1;exact⟨rfl,h1⟩
  |false=>rw[e]at h1;cases h1;cases h2
 refine⟨hs.heap.know,fun b hb=>?_,fun b o h1 h2=>?_,fun b b' o o' r r' h1 h2 h3 h4 h5 h6=>?_,hs.heap.glob⟩
 . unfold EL at hb;unfold lcut
   cases e:κ b with
   |true=>rw[e]at hb;exact hs.heap.free b hb
   |false=>rfl
 . obtain⟨k1,k2⟩:=key b o h1 h2;obtain⟨r,r1,r2,r3⟩:=hs.heap.obj b o k2 h2;obtain⟨q,q1,q2⟩:=hL b k1;rw[k2]at q1;cases q1;exact⟨r,by rw[Ff k1];exact r1,HZ r2 q2,r3⟩
 . exact hs.heap.inj b b' o o' r r' (key b o h1 h2).2 h2 (key b' o' h3 h4).2 h4 (BC h5) (BC h6)):p:=h
theorem Uh(h:p:=by
 exact(HSub.put (HSub.put (HSub.put (HSub.put (HSub.put (HSub.none _) rfl) rfl) rfl) rfl) rfl)):p:=h
theorem jY(h:p:=by
 refine DY ⟨[_],⟨rfl,trivial⟩,?_,rfl⟩;refine bc ?_
 first
 |exact(SU Bm).symm
 |exact(SV Bm).symm
 |exact(WV (GV (b:=old.stands) Bm)).symm
 |exact(WU (GV (b:=new.stands) Bm)).symm):p:=h
theorem rC(h:p:=by
 unfold Oper.wp;rw[hexec];refine hcalls.mono fun en w' hh=>?_
 obtain⟨v,r',h',H',ι',rfl,⟨rfl,hsub⟩,k1,k2,k3⟩:=hh;have hk':∀b∈L,∃q,h' b=some q/\hputs s.h W b=some q/\q.avoid (mem L)=true:=fun b hb=>by
  obtain⟨q,q1,q2,q3⟩:=hk.get b hb;exact⟨q,hsub b q q1,by rw[VP (g2 b hb)];exact q2,q3⟩
 obtain⟨u1,u2⟩:=jm hs.heap hLs (fun p hp=>mem_iff.1 (q67.1 hW p hp)) hk' k2 (hres2.symm▸k3);refine⟨v,H',_,rfl,fun x ex=>?_,u1,u2⟩
 cases ex
 refine(Ex k1 hra).mono (KLe.refl _) fun b r e=>?_
 by_cases hb:b∈L
 . exact⟨r,by simp only[Tw,mem_iff.2 hb,qZ7];exact BC e,.inl rfl⟩
 . have:mem L b=false:=by cases e:mem L b with|false=>rfl|true=>exact absurd (mem_iff.1 e) hb
   simp only[lcut,this,qZ3]at e;cases e):p:=h
theorem dP(h:p:=by
 refine⟨[_,_],⟨rfl,rfl,trivial⟩,?_,HSub.put (HSub.none _) rfl⟩;show AV.tup _=AV.tup _;first|(simp[CT, *];done)|(cases h1:(pget t.a K).isSome<;>cases h2:(pget t.b K).isSome<;>simp_all[CT])):p:=h
theorem jX(h:p:=by
 have key:∀c,b=c->Aa e d (.bool c)=e:=fun c hc=>by
  subst hc;funext t
  by_cases ht:t=d
  . subst ht;rw[C0,he]
  . rw[EQ _ _ ht]
 cases b with
 |true=>have:=h1 rfl;rwa[key true rfl]at this
 |false=>have:=h2 rfl;rwa[key false rfl]at this):p:=h
theorem ph(h:p:=by
 refine aq 47 (Ae Ai rfl rfl rfl rfl rfl rfl rfl j7 rfl (q46 _) z144q) ?_;refine AOps.w rfl rfl (o_store Ai rfl rfl rfl rfl rfl rfl j7 (TM (GA (Pu hkl))) rfl Aj rfl E4) ?_;refine wk 3 ?_;exact rR):p:=h
theorem ap(h:p:=by
 exact⟨(),Sub.mk' (by repeat(first|exact ESub.new _|refine ESub.put ?_ (by first|rfl|exact congrArg (fun x=>some (AV.bool x)) hu.symm))) (HSub.refl _),trivial⟩):p:=h
theorem rB(h:p:=by
 refine wk 3 ?_;refine⟨[_],⟨rfl,trivial⟩,?_,(M6 rfl (by repeat(first|exact trivial|refine⟨by first|rfl|exact At _ _ _|((try simp only[hputs]);repeat(first|rfl|exact At _ _ _|refine AC Cy ?_|refine hrm_skip z144q ?_|refine(CV _ QA).trans ?_)),?_⟩)) Hu)⟩;refine bc ?_;unfold leftS;first|exact lO hne|exact left_yes (by have h:=hb1;simp at h;omega)):p:=h
theorem pg(h:p:=by
 refine DY ⟨[_],⟨rfl,trivial⟩,?_,rfl⟩;show AV.lst false _=_;simp[Tac.uses,use1,use2,AS,partVals,AV.cells, *]):p:=h
theorem rz(h:p:=by
 first
 |have hnx2:=hF.next (s':=BY (((BR next b)[i.toNat]?).getD 0) (DS.mk q.s.been (q.s.way.dropLast++[(b,i+1)]))) (es':=TG (((BR next b)[i.toNat]?).getD 0) (DS.mk q.s.been (q.s.way.dropLast++[(b,i+1)])) (q.es.set (q.s.way.length-1) (DK (b,i+1)))) hp (iX hp (by rw[hrl];simpa using hil)) (hF.way.seen hp).into
 |have hnx2:=hF.next (s':=⟨q.s.been,q.s.way.dropLast⟩) (es':=q.es) hp (cN hp (by rw[hrl];simpa using hil)) (hF.way.pop hp)
 exact⟨⟨_,_,q.g-1⟩,Drop.mk' SK (by repeat(first|exact HDrop.none _ _|exact HDrop.tail _ _|refine HDrop.put ?_ (by rfl) rfl rfl)),hnx2.1,hnx2.2⟩):p:=h
theorem aj(h:p:=by
 simp only[execOp,ho,resolve,invoke,builtin,qQ9,qX1,q57,List.map_toArray,qQ0,qX9,hva,hvb,hrun]):p:=h
theorem Qz(h:p:=by
 refine DY ⟨[_],⟨rfl,trivial⟩,?_,rfl⟩;refine bc ?_;simp_all[Block.ends]):p:=h
theorem WK(h:p:=by
 refine DY ⟨[_],⟨rfl,trivial⟩,?_,rfl⟩;show AV.int .i64 _=AV.int .i64 _;congr 1;simp[Xx,use1,use2, *]):p:=h
theorem ry(h:p:=by
 refine aq 21 (A2 rfl rfl hkl Be) ?_;refine wk 2 ?_;exact⟨k+1,Drop.mk' (by repeat(first|exact EDrop.new _ _|refine EDrop.put ?_ (by first|rfl|exact congrArg (fun(n:Nat)=>some (AV.int .i64 (n:Int))) htb.1) j9)) IX,⟨hkl,htb.2,XV hF.2.2 (fun hk1=>by first|(simp_all;done)|(exfalso;simp_all;omega)|(simp_all;omega))⟩,by omega⟩):p:=h
theorem WJ(h:p:=by
 refine DY ⟨[_],⟨rfl,trivial⟩,?_,rfl⟩;show AV.int .i64 _=AV.int .i64 _;congr 1;simp[Tac.sets,setsOp, *]):p:=h
theorem rx(h:p:=by
 unfold Oper.wp;rw[hexec];refine hcalls.mono fun en w' hh=>?_
 obtain⟨v,r',h',H',ι',rfl,⟨rfl,hsub⟩,k1,k2,k3⟩:=hh;have hk':∀b,κ b=true->∃q,h' b=some q/\hn b=some q/\q.avoid κ=true:=fun b hb=>by
  obtain⟨q,q1,q2,q3⟩:=hk b hb;exact⟨q,hsub b q q1,q2,q3⟩
 obtain⟨u1,u2⟩:=dc hs.heap hL hW hk' k2 (hres'.symm▸k3);refine⟨v,H',_,rfl,?_,u1,u2⟩;refine(Ex k1 hra).mono (KLe.refl _) fun b r e=>?_
 cases hb:κ b with
 |true=>exact⟨r,by simp only[LI,hb,qZ7];exact BC e,.inl rfl⟩
 |false=>simp only[lcut,hb,qZ3]at e;cases e):p:=h
theorem rv(h:p:=by
 refine wk 4 ?_;refine aq 17 (A1 (r:=.int .u32 ((k+1:Nat):Int)) rfl rfl rfl (H9 (b:=1) (DQ z144q))) ?_;refine wk 2 ?_;exact⟨k+1,Sub.mk' (by repeat(first|exact ESub.new _|refine ESub.put ?_ (by first|rfl|exact congrArg (fun(n:Nat)=>some (AV.int .u64 (n:Int))) (by simp only[shN, *,qZ7,qZ3])))) CX,hkl,by omega⟩):p:=h
theorem WI(h:p:=by
 refine DY ⟨[_],⟨rfl,trivial⟩,?_,rfl⟩;show AV.bool false=_;rw[q89 (by rintro rfl;simp_all)]):p:=h
theorem ai(h:p:=by
 refine DY ⟨[_],⟨rfl,trivial⟩,?_,rfl⟩;refine bc ?_;unfold Tac.pure
 first
 |(simp_all;done)
 |(simp_all[bne];done)):p:=h
theorem pf(h:p:=by
 exact(HSub.put (HSub.put (HSub.put (HSub.put (HSub.put (HSub.none _) rfl) rfl) (by show _=some (AObj.row false 4 [[.ptr 4 1 0 0,A6 7 (Bb (A5 w.regs t.d _)),A6 11 (w.out.map REff.cells),.int .i64 w.time]]);rw[FU];rfl)) QC) rfl)):p:=h
theorem pe(h:p:=by
 exact(HSub.put (HSub.put (HSub.put (HSub.put (HSub.put (HSub.none _) rfl) rfl) (by show _=some (AObj.row false 4 [[.ptr 4 1 0 0,A6 5 (Bb (A5 w.regs t.d _)),A6 10 (w.out.map REff.cells),.int .i64 w.time]]);rw[FU];rfl)) QC) rfl)):p:=h
theorem rt(h:p:=by
 have alive':∀r0,ι b'=some r0->r0.solid->r0.rb=r'.rb->False:=fun r0 e0 es e1=>by
  obtain⟨o0,k1,_⟩:=hL b' hb';have ka:o0.alive=true:=by
   cases o0 with
   |free=>rw[hr.free b' k1]at e0;cases e0
   |_=>rfl
  exact hr.inj b b' o o0 r r0 h1 h2 k1 ka h3 e0 h4 es (fun e=>hb (e▸hb')) (e.trans e1.symm)
 rcases hst.newrb b' r' g1 g2 with k|k|⟨r0,k1,k2,k3⟩
 . exact alive' r' (BC k) g2 rfl
 . have:=hr.lt ⟨b,o,r,h1,h2,h3,h4,rfl⟩;omega
 . exact alive' r0 (BC k1) k2 k3):p:=h
theorem rq(h:p:=by
 refine mx ?_;exact⟨(),Sub.mk' B5 (Oj rfl rfl rfl Uk (fun x_=>(As _ _ _).trans (congrArg some (by rw[hnl,f9 hv]))) jQ),trivial⟩):p:=h
theorem WG(h:p:=by
 refine DY ⟨[_],⟨rfl,trivial⟩,?_,rfl⟩;show AV.int .u32 _=AV.int .u32 _;simp[HJ, *]):p:=h
theorem zt65(h:p:=by
 unfold wpList at hp|-
 by_cases hw:Region.wanted o' (yielded ops a1.tmps)=true
 . rw[qK0 hw]at hp|-;exact rW
 . rw[qZ9 hw]at hp|-;exact ih _ _ hp):p:=h
theorem rp(h:p:=by
 refine wk 3 ?_;refine aq 142 (A2 rfl rfl hjl (show next.length<=maxLen by simp only[maxLen];omega)) ?_;refine wk 2 ?_;exact⟨j+1,Drop.mk' Gt kj,⟨hjl,Dw hnk hall (by rw[hat2];exact WW hkge hagr)⟩,by omega⟩):p:=h
theorem ro(h:p:=by
 obtain⟨k,hk⟩:=q35 hq;have hlt:k<parts.toList.length:=by have:=(q05.1 hk).1;simpa using this
 have hltp:k<ps.length:=by omega
 have h3:=(l2 k ps[k] ((parts.toList[k]).1,a.eval (parts.toList[k]).2) (q13 hltp) (by rw[q54,q13 hlt];rfl)).2;rw[q54,q13 hlt]at hk
 cases hk
 rw[<-(GI h3).1];exact E6 hsz k _ (q13 hltp)):p:=h
theorem rn(h:p:=by
 refine wk 3 ?_;refine aq 19 (A2 rfl rfl hkl (show b.ins.length<=maxLen by simp only[maxLen];omega)) ?_;refine wk 2 ?_;exact⟨k+1,Drop.mk' Gt (by repeat(first|exact HDrop.none _ _|exact HDrop.tail _ _|refine HDrop.put ?_ (by first|rfl|(rw[bw ht];rfl)) rfl z60q)),hkl,by omega⟩):p:=h
theorem rl(h:p:=by
 exact⟨(),Sub.mk' B5 (by repeat(first|exact HSub.refl _|exact HSub.none _|exact AQ _|exact AM D2|refine HSub.put ?_ (by first|rfl|exact Db (k7 hsp)|exact Db (k8 hsp)|exact Db (fB hsp)|exact Db (fC hsp))|refine AP ?_ D2|refine BD ?_ Aj)),trivial⟩):p:=h
theorem dO(h:p:=by
 refine DY ⟨[_],⟨rfl,trivial⟩,?_,rfl⟩;refine bc ?_;exact(Sm eE).symm):p:=h
theorem rj(h:p:=by
 refine wk 40 ?_;exact⟨(i+1,Ck (d:Int) fr,to.set d none,maps'),DropK.mk' pB (Ua (o6:=.free) (M8 b) rfl rfl rfl rfl rfl rfl (Jw _ _ _) (fun _=>rfl)),⟨hil,by rw[Mq ht,hF.pre,hn],hI'⟩,by show b.ins.length-(i+1)<b.ins.length-i;omega⟩):p:=h
theorem ri(h:p:=by
 refine wk 2 ?_;refine aq 44 (A2 rfl rfl hkl Be) ?_;refine wk 2 ?_;exact⟨k+1,Drop.mk' SK (by repeat(first|exact HDrop.none _ _|exact HDrop.tail _ _|refine HDrop.put ?_ (by first|rfl|exact congrArg (fun w=>some (AObj.row true 1 (BS w))) (aF hrf)|exact congrArg (fun w=>some (AObj.row true 1 (BS w))) (kr hrt hnx hge2)) rfl rfl)),hkl,by omega⟩):p:=h
theorem zt73(h:p:=by
 by_cases hi:i<ts.length
 . rw[qK0 hi]at hs;rw[qK0 (by rw[h.len];exact hi)]at hk';exact(h.key i s k' hs hk').ext hp
 . rw[qZ9 hi]at hs;rw[qZ9 (by rw[h.len];exact hi),h.len]at hk';have h0:i-ts.length=0:=by
    have:=(q05.1 hs).1;simp at this;omega
   rw[h0]at hs hk';simp at hs hk';subst hs;subst hk';exact hk.ext hp):p:=h
theorem dM(h:p:=by
 rw[FT (e:=e) (fun x hx=>g1 x (by rw[ho];simp[Op.operands,Call.operands];exact .inr (by simpa using hx)))];exact hx):p:=h
theorem rh(h:p:=by
 refine wk 2 ?_;exact⟨0,Sub.mk' B5 CX,by have h3:=Nl t.op;cases h1:use1 t.op<;>cases h2:use2 t.op<;>simp_all[Tac.uses]⟩):p:=h
theorem pd(h:p:=by
 refine DY ⟨[_],⟨rfl,trivial⟩,?_,rfl⟩;refine bc ?_
 first
 |exact(Mk hx hy (kQ Bm)).symm
 |exact(Mk hx hy (kP Bm)).symm
 |exact(Mk hx hy (kR Bm)).symm):p:=h
theorem pc(h:p:=by
 have ho:op=9\/op=10\/op=11:=by simp_all
 refine wk 3 ?_;refine ax 60 (CW Tryz.func93 (mv _ a b ha hb)) ?_;refine wk 4 ?_;refine⟨[_,_],⟨rfl,rfl,trivial⟩,?_,rfl⟩;show AV.tup _=_;rw[aH ha hb ho];rfl):p:=h
theorem rg(h:p:=by
 exact⟨(),Sub.mk' B5 (by repeat(first|exact HSub.refl _|exact HSub.none _|exact AQ _|exact AM D2|refine HSub.put ?_ (by first|rfl|exact Db (iT hfin hv2.1)|exact Db (md hfin))|refine AP ?_ D2|refine BD ?_ Aj)),trivial⟩):p:=h
theorem rf(h:p:=by
 by_cases hj:j<32
 . rcases(by omega:a/2^j%2=0\/a/2^j%2=1)with h1|h1<;>rcases(by omega:b/2^j%2=0\/b/2^j%2=1)with h2|h2<;>simp[h1,h2,hj,dt]
 . have h1:a/2^j=0:=Nat.div_eq_of_lt (q51 ha (Nat.pow_le_pow_right Aj z144q));have h2:b/2^j=0:=Nat.div_eq_of_lt (q51 hb (Nat.pow_le_pow_right Aj z144q));simp[hj,h1,h2]):p:=h
theorem re(h:p:=by
 refine wk 2 ?_;exact⟨j+1,Drop.mk' Gt IX,Dw hu hj (by simpa using hbw),by omega⟩):p:=h
theorem pb(h:p:=by
 have hnx2:CY inn v x i q (m+1)=(S2.1,s.r||(!s.s&&S2.2)):=by rw[FX YS YR,hS2];exact OO hlf hk2
 refine wk 5 ?_;exact wP):p:=h
theorem o9(h:p:=by
 have hnx2:CY inn v x i q (m+1)=(S2.1,s.r||(!s.s&&S2.2)):=by rw[FX YS YR,hS2];exact OO hlf hk2
 refine wk 3 ?_;exact wP):p:=h
theorem WF(h:p:=by
 refine DY ⟨[_],⟨rfl,trivial⟩,?_,rfl⟩;refine bc ?_;simp[setsOp, *]):p:=h
theorem rd(h:p:=by
 refine wk 5 ?_;refine CM 50 (fun hb1=>?_) fun hb1=>?_
 .
  refine wk 8 ?_;refine CM 58 (fun hb2=>?_) fun hb2=>?_
  .
   refine wk 6 ?_;exact ru
  refine wk 6 ?_;exact ru
 refine wk 5 ?_;refine CM 55 (fun hb3=>?_) fun hb3=>?_
 .
  refine wk 3 ?_;refine CM 58 (fun hb4=>?_) fun hb4=>?_
  .
   refine wk 6 ?_;exact ru
  refine wk 6 ?_;exact ru
 refine wk 9 ?_;exact ru):p:=h
theorem ra(h:p:=by
 refine wk 40 ?_;exact⟨(),Sub.mk' B5 CX,trivial⟩):p:=h
theorem q9(h:p:=by
 refine⟨by simp[<-ha.1,hn],rfl,fun t x hx=>?_,hr⟩;have hlt:t<vs.size:=by
  rw[<-ha.1];rcases qX4 t args.length with h|h
  . exact h
  . simp only[HH]at hx;rw[q26 h]at hx;cases hx
 obtain⟨v,hv⟩:=BJ hlt;exact⟨v,by simp only;rw[q04 hlt];exact hv,ha.2 t x v hx hv⟩):p:=h
theorem q8(h:p:=by
 exact⟨j+1,Drop.mk' SK (by repeat(first|exact HDrop.none _ _|exact HDrop.tail _ _|refine HDrop.put ?_ (by first|rfl|exact congrArg (fun es=>some (AObj.row true 1 es)) (B4 (f:=Bg) (x:=true) (by simp:(List.replicate f.regs.toNat true).length=f.regs.toNat) (by simp[hjl]))) rfl rfl)),hjl,by omega⟩):p:=h
theorem zt88(h:p:=by
 simp only[q53,q98]at hx;obtain⟨rfl,rfl,rfl,rfl,rfl⟩:=hx;refine⟨a1,fun hl=>⟨AGo.block (AGo.mono (a2 hl) fun x2 s2 hh=>?_),fun b hb=>by cases hb⟩⟩;obtain⟨rfl,rfl⟩:=hh;show bif Nat.beq id' id then _ else _;rw[hid];exact⟨rfl,rfl⟩):p:=h
theorem q7(h:p:=by
 cases e with
 |exit id'=>
  obtain⟨s',H',ι',q,r⟩:=hp;simp only[Exit.inBlock];simp only[T9]at q
  by_cases hid:id'=id
  . subst hid;simp only[Nat.beq_refl,qZ7]at q;rw[qK0 rfl];exact⟨s',H',ι',q,r⟩
  . rw[qZ9 hid];rw[AH hid]at q;exact⟨s',H',ι',q,r⟩
 |_=>exact hp):p:=h
theorem o8(h:p:=by
 rw[h.hi];have hu':u∈l1++l2:=hu;simp only[q78,q99]at hu'|-;rcases hu' with hu'|hu'
 . exact .inl hu'
 . exact .inr (.inr hu')):p:=h
theorem q6(h:p:=by
 refine wk 5 ?_;refine aq 36 (Ae Ai rfl rfl rfl rfl rfl rfl rfl Hf rfl hdf.1 z144q) ?_;refine aq 37 (Ar Ai rfl rfl rfl (.ptr _ _ _ _ _ _ _ _ rfl Hf (Jp ho)) rfl) ?_;refine wk 1 ?_;exact Sub.mk' B5 (HSub.refl _)):p:=h
theorem qZ(h:p:=by
 refine DY ⟨[_],⟨rfl,trivial⟩,?_,rfl⟩;refine bc ?_;first|exact(one_false (one_fail2 hy hu hv (by simpa using(show(bif true then !decide (v=u)else decide (v=u))=true from ‹_›)))).symm|exact(one_false (bU hy hjl (by have h:= ‹decide ((((old.joined (p.take k)).length+j:Nat):Int)>=_)=true›;simp at h;omega))).symm):p:=h
theorem qY(h:p:=by
 refine AOps.w rfl rfl (o_store Ai rfl rfl rfl rfl rfl rfl (AG (AL f) (qX0 hkl)) (fill_get (AL f) hkl) rfl Aj rfl E4) ?_;refine wk 2 ?_;refine aq 38 (A2 rfl rfl hkl (show f.blocks.length<=maxLen by simp only[maxLen];omega)) ?_;exact pm):p:=h
theorem o7(h:p:=by
 refine DY ⟨[_],⟨rfl,trivial⟩,?_,rfl⟩;show AV.lst false _=_
 cases h1:use1 t.op<;>cases h2:use2 t.op<;>simp_all[Xx,Tac.uses,AS,partVals,AV.cells]):p:=h
theorem jW(h:p:=by
 rw[IM (e:=e) (fun x hx=>g1 x (by rw[ho];simp only[Op.operands,List.mem_toArray];exact hx))];exact hx):p:=h
theorem jV(h:p:=by
 refine ax 12 (BU Ai rfl rfl rfl rfl rfl rfl Aj rfl rfl rfl rfl rfl rfl) ?_;refine wk 2 ?_;exact pg):p:=h
theorem oZ(h:p:=by
 refine DY ⟨[_],⟨rfl,trivial⟩,?_,rfl⟩;refine bc ?_;refine(Ys (fun h=>?_)).symm;obtain⟨q1,q2,q3⟩:=h;simp_all[AO,BZ]):p:=h
theorem oW(h:p:=by
 refine DY ⟨[_],⟨rfl,trivial⟩,?_,rfl⟩;refine bc ?_;rw[hr,hr4]
 cases e:p.paths<;>first|(simp_all;done)|(exfalso;simp_all;omega)):p:=h
theorem qX(h:p:=by
 obtain⟨s',H',ι',q,r,t⟩:=hp
 cases e with
 |normal=>
  obtain⟨g,d,hF⟩:=q;obtain⟨H2,ι2,r2,t2⟩:=Ghost.of_sub d H' ι' a' w' r;exact⟨_,H2,ι2,k g hF,r2,t.trans hs.heap r.heap t2⟩
 |_=>exact⟨s',H',ι',q,r,t⟩):p:=h
theorem od(h:p:=by
 refine .tup _ _ _ rfl fun q x u hq hu=>?_
 match q,hq,hu with
 |0,hq,hu=>simp at hq hu;subst hq;subst hu;exact g5.mono (KLe.refl _) (LLe.none _)
 |1,hq,hu=>simp at hq hu;subst hq;subst hu;exact .bool _ _
 |q+2,hq,hu=>simp at hq):p:=h
theorem eu(h:p:=by
 refine DY ⟨[_],⟨rfl,trivial⟩,?_,rfl⟩;refine bc ?_;first|(simp_all[D6,AO];done)|(simp_all[D6,AO];omega)):p:=h
theorem oc(h:p:=by
 refine⟨r',e1,e2.mono hkle (LLe.refl _) (fun _=>rfl),fun hs'=>?_⟩;have hxb:x≠b:=fun hx=>by subst hx;rw[G2]at h1;cases h1
 rw[Fg _ _ (hr.inj x b o _ r' r (hsubh _ _ h1) h2 hb rfl e1 hl hs' hsol hxb)];exact e3 hs'):p:=h
theorem n9(h:p:=by
 cases e:H' r.rb with
 |none=>rfl
 |some c=>
  rcases hst.knew r.rb (by rw[e];simp)with g|g|g
  . exact absurd h5 g
  . have:=hr.lt ⟨b,o,r,h1,h2,h3,h4,rfl⟩;omega
  . exact absurd g (apart b o r hb h1 h2 h3 h4)):p:=h
theorem n8(h:p:=by
 simp only[qZ3,pget,ih]
 cases hy:y==k with
 |true=>
  have hy':y=k:=by simpa using hy
  subst hy';have:(y==z)=false:=by simp at hz|-;omega
  rw[this];rfl
 |false=>rfl):p:=h
theorem n7(h:p:=by
 refine .tup _ _ _ rfl fun q x u hq hu=>?_
 match q,hq,hu with
 |0,hq,hu=>simp at hq hu;subst hq;subst hu;exact KZ hz0
 |1,hq,hu=>simp at hq hu;subst hq;subst hu;exact .bool _ _
 |q+2,hq,hu=>simp at hq):p:=h
theorem YQ(h:p:=by
 refine DY ⟨[_],⟨rfl,trivial⟩,?_,rfl⟩;refine bc ?_;simp_all[Hh];try omega):p:=h
theorem n6(h:p:=by
 refine DY ⟨[_],⟨rfl,trivial⟩,?_,rfl⟩;refine bc ?_;exact(Qe (D7 hp (by simp only[FB];rw[D7 (p:=(fun i=> !(decide (i<0))&& !(decide (i>=(old.blocks.length:Int))))) hy (by simp_all[BZ])];simp))).symm):p:=h
theorem n5(h:p:=by
 unfold Oper.wp;rw[hexec];refine hcall.mono fun en w' hh=>?_
 obtain⟨v',r',H',rfl,rfl,k1,k2⟩:=hh;obtain⟨u1,u2⟩:=hs.heap.grown k2;exact⟨v',H',ι,rfl,(fun x ex=>by cases ex;exact k1.mono (KLe.refl _) (LLe.none _)),u1,u2⟩):p:=h
theorem er(h:p:=by
 refine DY ⟨[_],⟨rfl,trivial⟩,?_,rfl⟩;show AV.int .u32 _=AV.int .u32 _;simp only[Ga, *,qZ7,qZ3]):p:=h
theorem n4(h:p:=by
 refine wk 3 ?_;refine CM 74 (fun hb6=>?_) fun hb6=>?_
 .
  refine wk 3 ?_;refine CM 77 (fun hb7=>?_) fun hb7=>?_
  .
   refine wk 4 ?_;exact qS
  refine wk 4 ?_;exact qS
 refine wk 7 ?_;exact qS):p:=h
theorem d9(h:p:=by
 cases es with
 |nil=>exact absurd rfl hne
 |cons cs es=>rw[<-hsz' 0 cs z145q,hu cs z145q]):p:=h
theorem n3(h:p:=by
 have ho:op=12\/op=13:=by simp_all
 refine wk 3 ?_;refine ax 67 (CW Tryz.func94 (bp _ a b ha hb ho)) ?_;refine wk 4 ?_;refine⟨[_,_],⟨rfl,rfl,trivial⟩,?_,rfl⟩;show AV.tup _=_;rw[WR ho];rfl):p:=h
theorem n0(h:p:=by
 have e2:=CU (f:=Dj) (z:=[.nil]) (by simp:(List.replicate f.blocks.length (List.replicate f.regs.toNat true)).length=f.blocks.length) hge;show AV.tup [.agg [_,.lst false _],.agg [.lst false _]]=_;rw[e1,e2];rfl):p:=h
theorem d8(h:p:=by
 rcases qX4 j cs.length with h|h
 . exact h
 . rw[q26 h]at e2;cases e2):p:=h
theorem nZ(h:p:=by
 refine wk 3 ?_;refine CM 74 (fun hb9=>?_) fun hb9=>?_
 .
  refine wk 3 ?_;refine CM 77 (fun hb10=>?_) fun hb10=>?_
  .
   refine wk 4 ?_;exact qS
  refine wk 4 ?_;exact qS
 refine wk 7 ?_;exact qS):p:=h
theorem nY(h:p:=by
 refine wk 6 ?_;refine aq 19 (A1 (r:=.int .i64 (w.time+1)) rfl rfl rfl (by exact fi (x:=w.time) z144q)) ?_;refine wk 4 ?_;refine⟨[],trivial,rfl,?_⟩;rw[fH hb1 hb2 hb3 hb4 hb5 hb6 hb7 hb8 hb9];exact Uh):p:=h
theorem nX(h:p:=by
 refine DY ⟨[_],⟨rfl,trivial⟩,?_,rfl⟩;refine bc ?_
 first
 |exact(XB (GV (b:=vshaped old new) Bm)).symm
 |exact(XA (GV (b:=Eb old c) Bm)).symm):p:=h
theorem nW(h:p:=by
 obtain⟨q',k1',k2',_⟩:=hk b' hb';rw[k2]at h1;cases h1;rw[k2']at h3;cases h3;rw[mT b hb]at h5;rw[mT b' hb']at h6;exact hr'.inj b b' _ _ r r' k1 h2 k1' h4 h5 h6 s1 s2 hne):p:=h
theorem d7(h:p:=by
 refine aq 16 (A2 rfl rfl hkl (show f.blocks.length<=maxLen by simp only[maxLen];omega)) ?_;exact pm):p:=h
theorem nV(h:p:=by
 refine ax 8 (Eg Ai 6) ?_;refine wk 40 ?_;exact⟨[_,_],⟨⟨_,_,_,_,rfl,rfl,.ptr _ _ _ _ _ _ _ _ rfl rfl rfl,rfl⟩,⟨_,_,_,_,rfl,rfl,.ptr _ _ _ _ _ _ _ _ rfl rfl rfl,rfl⟩,trivial⟩,rfl,rfl⟩):p:=h
theorem nU(h:p:=by
 refine acf ?_;have hge:b.ins.length<=k:=by have h:=hb1;simp only[q76,q16]at h;omega
 rw[fJ hge];refine wk 7 ?_;refine⟨[_],⟨rfl,trivial⟩,rfl,?_⟩;exact Uh):p:=h
theorem nT(h:p:=by
 refine wk 5 ?_;refine DY ⟨[_],⟨rfl,trivial⟩,?_,rfl⟩;refine bc ?_;exact(br hout (by first|exact fun _=>Hq hvf|(exact fun hf=>absurd hf (by simpa using hvf))) (all_end hall hjge)).symm):p:=h
theorem d6(h:p:=by
 refine DY ⟨[_],⟨rfl,trivial⟩,?_,rfl⟩;refine bc ?_;exact(bA (by simp_all<;>omega)).symm):p:=h
theorem nS(h:p:=by
 have e1:=st.dom b e
 cases e2:h' b with
 |none=>rfl
 |some o=>
  rcases hd b o e2 with⟨g,_⟩|⟨_,g⟩
  . rw[g]at e1;cases e1
  . rw[hf b g]at e;cases e):p:=h
theorem d5(h:p:=by
 refine DY ⟨[_],⟨rfl,trivial⟩,?_,rfl⟩;refine bc ?_;exact(ly (by simp_all<;>omega)).symm):p:=h
theorem nR(h:p:=by
 refine AOps.k 14 rfl rfl rfl ?_;refine AOps.k 15 rfl rfl rfl ?_;refine AOps.k 16 rfl rfl rfl ?_;refine AOps.k 17 rfl rfl rfl ?_;refine AOps.k 18 rfl rfl rfl ?_;refine wk 3 ?_;exact rL):p:=h
theorem nQ(h:p:=by
 refine wk 6 ?_;refine aq 103 (A1 (r:=.int .i64 (w.time+1)) rfl rfl rfl (by exact fi (x:=w.time) z144q)) ?_;refine wk 4 ?_;refine⟨[],trivial,rfl,?_⟩;rw[fG ho];exact Uh):p:=h
theorem nP(h:p:=by
 refine wk 6 ?_;refine aq 170 (A1 (r:=.int .i64 (w.time+1)) rfl rfl rfl (by exact fi (x:=w.time) z144q)) ?_;refine wk 4 ?_;refine⟨[],trivial,rfl,?_⟩;rw[fF ho];exact Uh):p:=h
theorem dZ(h:p:=by
 refine⟨e2,e3,e4,?_⟩;rw[hg,qZ9 (fun e=>by subst e;rw[hs]at e5;omega)];exact e5):p:=h
theorem dW(h:p:=by
 refine ax 31 (CW Tryz.func14 hawake) ?_;refine wk 40 ?_;exact⟨[_],⟨rfl,trivial⟩,rfl,rfl⟩):p:=h
theorem YP(h:p:=by
 refine wk 4 ?_;refine⟨[_,_],⟨rfl,rfl,trivial⟩,?_,rfl⟩;rfl):p:=h
theorem zt132(h:p:=by
 obtain⟨r,r1,r2,r3⟩:=hr.obj b o h1 h2;exact⟨r,by rw[mF b hbL];exact r1,r2.mono hst.kle lle (fun hs=>blk b o r hbL h1 h2 r1 hs),fun hs=>noK b o r hbL h1 h2 r1 hs (r3 hs)⟩):p:=h
theorem nO(h:p:=by
 refine wk 40 ?_;exact⟨[_,_,_],⟨⟨_,_,_,_,rfl,rfl,.ptr _ _ _ _ _ _ _ _ rfl rfl rfl,rfl⟩,⟨_,_,_,_,rfl,rfl,.ptr _ _ _ _ _ _ _ _ rfl rfl rfl,rfl⟩,rfl,trivial⟩,rfl,rfl⟩):p:=h
theorem nN(h:p:=by
 rcases h.t.cst (h.at hb)with⟨c,h1,h2,h3⟩|⟨h1,h2⟩
 . rw[h1,h3];simp[Tm.isZero]
 . rw[h2]
   cases e:tget s.regs t.b with
   |cst c=>exact absurd e (h1 c)
   |_=>rfl):p:=h
theorem nM(h:p:=by
 by_cases hki:k=i
 . subst hki;rw[q21 hilt]at hk;cases hk;exact .inl ⟨rfl,rfl⟩
 . rw[q36 (Ne.symm hki)]at hk;exact .inr ⟨hki,hk⟩):p:=h
theorem dV(h:p:=by
 by_cases hxb:x=b
 . subst hxb;rw[G2]at hx;cases hx
 . rwa[FJ _ hxb]at hx):p:=h
theorem YO(h:p:=by
 exact⟨undef,H,ι,(by rw[hd]),z126q,u1,u2⟩):p:=h
theorem zt138(h:p:=by
 obtain⟨ts1,hp1,h1⟩:=h.step (hl t z145q) hr;obtain⟨ts2,hp2,h2⟩:=ih (fun u hu=>hl u IY) h1 ((s.step_len t).trans hr);exact⟨ts2,hp1.trans hp2,h2⟩):p:=h
theorem nL(h:p:=by
 rw[k2]at h1;cases h1;obtain⟨r,r1,r2,r3⟩:=hr'.obj b o k1 h2;exact⟨r,by rw[mT b hbL];exact r1,(HZ r2 k3).mono (KLe.refl _) lle' (fun _=>rfl),r3⟩):p:=h
theorem nK(h:p:=by
 cases ei:P.info? et with
 |none=>rw[ei]at hz;cases hz
 |some inf=>
  rw[ei]at hz;simp only[Option.bind_some]at hz;simp[zeroValue,typeInfo,ei,hz]):p:=h
theorem nJ(h:p:=by
 simp only[q91,List.nil_append,q88]at hk1 hk2;obtain⟨e1,e2⟩:=hk2;subst e1;subst e2;subst hk1;exact .inl (h1.hg.trans h2.hg.symm)):p:=h
theorem zt142(h:p:=by
 rcases hst.newrb b r' e es with k|k|⟨r0,k1,k2,k3⟩
 . exact .inl (BC k)
 . exact .inr (.inl k)
 . exact .inr (.inr ⟨r0,BC k1,k2,k3⟩)):p:=h
theorem nI(h:p:=by
 refine wk 40 ?_;exact⟨(),Sub.mk' B5 (by rw[hs];exact Nf rfl rfl rfl rfl rfl rfl rfl (fun _=>rfl)),trivial⟩):p:=h
theorem zt144(h:p:=by
 obtain⟨i,hi⟩:=q27.1 hm;obtain⟨k,hk⟩:=Af (l:=K) (k:=i) po;exact h.key i _ k hi hk):p:=h
theorem dU(h:p:=by
 refine⟨[_,_],⟨rfl,rfl,trivial⟩,?_,rfl⟩;show AV.tup _=AV.tup _;simp[wdivide, *]):p:=h
theorem nH(h:p:=by
 refine wk 4 ?_;refine DY ⟨[_],⟨rfl,trivial⟩,?_,rfl⟩;refine bc ?_;exact(bs hnk (by rw[hat2];exact aM hmu hmt (On hag))).symm):p:=h
theorem nG(h:p:=by
 simp[execOp,ho,resolve,invoke,builtin,Builtin.delete_,hvx,hvy,Aq e2,q23 r3,Fa e2',FY e2' f1,q24 _ r3]):p:=h
theorem nF(h:p:=by
 simp only[Array.toList_extract,Array.toList_append,Array.toList_map,Array.size_append,Array.size_map,List.extract_eq_take_drop];exact q20 z145q):p:=h
theorem nE(h:p:=by
 have g:(AV.ptr 4 1 0 0).avoid k=true:=h1;have g2:(AV.int .i64 x).avoid k=true:=rfl;simp only[AObj.avoid,qQ1,qX7,h,h',g,g2,Bool.and_self]):p:=h
theorem zt150(h:p:=by
 obtain⟨h1,h2⟩:=h.out;exact⟨by simpa using h1,fun j k v hj=>by
  obtain⟨e,g1,g2⟩:=h2 j k v hj;exact⟨e,by simpa using g1,g2⟩⟩):p:=h
theorem nD(h:p:=by
 rw[<-hC,Array.size_append,size_zeroCells,hzl];simp only[List.size_toArray,q48,hol,hnl,<-qZ2];congr 1;omega):p:=h
theorem nC(h:p:=by
 refine wk 6 ?_;refine⟨[_,_],⟨rfl,rfl,trivial⟩,?_,rfl⟩;show AV.tup _=_;rw[show(((0:Nat):Int))=0 from rfl,aG _ _ z145q];rfl):p:=h
theorem zt153(h:p:=by
 simp only[qZ3,q99]at hq;rcases hq with rfl|hq
 . exact h _ z145q
 . exact ih (fun q hq=>h q (by simp[hq])) q hq):p:=h
theorem nB(h:p:=by
 obtain⟨ts',hp,h1,h2⟩:=h.t.num hk hw;exact⟨ts',hp,h1,(h.regs.mono fun x y hxy=>hxy.ext hp).set h2 _,h.effs.mono fun x y hxy=>hxy.ext hp,h.time⟩):p:=h
theorem nA(h:p:=by
 have:j+1+l.length=j+(u::l).length:=by rw[q70];omega
 rw[this]
 cases u.uses.contains (v:Int)||u.sets==(v:Int)<;>simp):p:=h
theorem zt156(h:p:=by
 cases ei:rs[i]? with
 |none=>rw[ei]at hi;cases hi
 |some ds=>rw[ei]at hi;cases hi;simpa using o5 i ds ei):p:=h
theorem nz(h:p:=by
 simp only[execOp,ho,hv,hn,eqGuard,binOp,Op.equal,Op.maxDepth,qQ9,q57,qX1,he,qQ7,q50,if_false]):p:=h
theorem ny(h:p:=by
 exact⟨p+1,h1,by rw[show j+(p+1)=j+1+p by omega];exact h2,by rw[List.drop_succ_cons,show j+(p+1)+1=j+1+p+1 by omega];exact h3⟩):p:=h
theorem nx(h:p:=by
 refine DY ⟨[_],⟨rfl,trivial⟩,?_,rfl⟩;refine bc ?_;rw[hr,hr4]
 cases e:p.cert.same<;>first|(simp_all;done)|(exfalso;simp_all;omega)):p:=h
theorem nv(h:p:=by
 have e:(t.sets==(v:Int))=false:=by rw[q40];omega
 rw[e,Bool.or_false];unfold BG
 cases t.uses.contains (v:Int)<;>rfl):p:=h
theorem nt(h:p:=by
 rw[<-hres'];funext b;unfold hres
 cases e:mem L b with
 |true=>simp only[qZ7];exact g2 b (mem_iff.1 e)
 |false=>rfl):p:=h
theorem nr(h:p:=by
 cases hr:rrisky w t with
 |true=>rw[f0 hr];simp only[RW.div,hr,qZ7];rfl
 |false=>rw[la hr];simp only[RW.div,hr,qZ3]):p:=h
theorem nq(h:p:=by
 rcases qX4 j (es.length*sz)with h|h
 . exact h
 . rw[q26 (by rw[hnl];exact h)]at hj;cases hj):p:=h
theorem np(h:p:=by
 exact .inr ⟨k,by simp only[q80,q53];exact(Ao hs (by rw[g1 y Bx];exact hk)).int_inv⟩):p:=h
theorem nl(h:p:=by
 refine AOps.k 74 rfl rfl rfl ?_;refine AOps.k 75 rfl rfl rfl ?_;refine AOps.k 76 rfl rfl rfl ?_;refine wk 2 ?_;exact rK):p:=h
theorem nj(h:p:=by
 refine hcalls.mono fun en w' hh=>?_
 obtain⟨v,r',h',H',ι',rfl,hR,k1,k2,k3⟩:=hh;exact⟨v,r',h',H',ι',hR,rfl,k1,k2,k3⟩):p:=h
theorem dT(h:p:=by
 rw[hlput]at this;exact⟨H,ι,⟨hs.n,hs.d,hs.env,this.1⟩,this.2⟩):p:=h
theorem ni(h:p:=by
 refine DY ⟨[_],⟨rfl,trivial⟩,?_,rfl⟩;refine bc ?_;exact(XS (D7 (Rn hk1) (by rw[hat];simp_all))).symm):p:=h
theorem zt169(h:p:=by
 obtain⟨h1,h2,h3,h4⟩:=h;rw[q25 h1,q25 h2,q25 h3,q25 h4]):p:=h
theorem nh(h:p:=by
 refine wk 5 ?_;refine DY ⟨[_],⟨rfl,trivial⟩,?_,rfl⟩;refine bc ?_;first|(simp_all[kind35];done)|(simp_all[kind35];omega)):p:=h
theorem ng(h:p:=by
 have:len*1<=len*j.size:=Nat.mul_le_mul_left _ hp;have h2:=q28 hbig;simp only[maxLen];omega):p:=h
theorem nf(h:p:=by
 rcases qX4 i es.length with h|h
 . exact h
 . rw[q26 h]at h1;cases h1):p:=h
theorem na(h:p:=by
 simp only[execOp,ho,resolve,hve,Deferred.ofValue,invoke,qQ9,qX1,q57,Cp hf hnm hb]):p:=h
theorem m9(h:p:=by
 by_cases hu:u=t
 . subst hu;rw[C0]at hx;cases hx;exact⟨hv,ha⟩
 . rw[EQ _ _ hu]at hx;exact h u x hx):p:=h
theorem m8(h:p:=by
 rw[B2]
 cases e:inN x o v with
 |true=>rfl
 |false=>rw[e,h1]at hne;exact absurd rfl hne):p:=h
theorem m7(h:p:=by
 rcases hget k ds hk with⟨rfl,rfl⟩|⟨_,hk'⟩
 . rw[q83];exact r5 k cs hi
 . exact r5 k ds hk'):p:=h
theorem m6(h:p:=by
 cases d<;>simp[IT]at h
 . rw[h.1,h.2]
 . rename_i a;revert h;cases (a.all fun f=>P.cellsOf f.type !=0)<;>simp):p:=h
theorem YN(h:p:=by
 obtain⟨t,_,rfl⟩:=qX3.1 hc;rfl):p:=h
theorem m5(h:p:=by
 cases d<;>simp[IT]at h
 . rw[h]
 . rename_i a;revert h;cases (a.all fun f=>P.cellsOf f.type !=0)<;>simp):p:=h
theorem m4(h:p:=by
 by_cases hc:c=b
 . subst hc;simp[hputs,At,hb']
 . simp[hputs,AU _ _ hc]):p:=h
theorem m3(h:p:=by
 rw[hl]at hr';cases hr';exact .inr ⟨by show r.n<es.length+es2.length;omega,by omega,r1.symm⟩):p:=h
theorem mZ(h:p:=by
 have:=Ghost.freeze (n:=n) t b ht hb hm;rwa[q95,q20 (Nat.le_of_eq hm.symm)]at this):p:=h
theorem mY(h:p:=by
 have hb':c.R.contains b=true:=by simpa using hb
 rw[hb']at this;simp at this):p:=h
theorem mX(h:p:=by
 simp only[qZ7,qZ3]
 cases decide (rget regs t.a>=t.size)<;>exact⟨rfl,.inr (hle _ _ _ _)⟩):p:=h
theorem mW(h:p:=by
 cases d<;>simp[IT]at h
 . rfl
 . rename_i a;revert h;cases (a.all fun f=>P.cellsOf f.type !=0)<;>simp):p:=h
theorem mV(h:p:=by
 obtain⟨v,f1,f2,f3⟩:=w3.2 j cs l z hk hl';exact⟨v,f1,f2.mono (KLe.refl _) hll,f3⟩):p:=h
theorem mU(h:p:=by
 refine ax 20 (BU Ai rfl rfl rfl rfl rfl rfl Aj rfl rfl rfl rfl rfl rfl) ?_;refine wk 2 ?_;exact pg):p:=h
theorem dS(h:p:=by
 cases ad<;>simp[Builtin.firstCells,loadCells,loadCellsFrom]):p:=h
theorem dR(h:p:=by
 rw[<-h3];exact congrArg (·,0) (pI (BitVec.isLt _))):p:=h
theorem YM(h:p:=by
 simp[Builtin.len_,Aq e2,goInt]):p:=h
theorem YL(h:p:=by
 have:=hml;simp only[maxLen]at this;omega):p:=h
theorem zt192(h:p:=by
 split at hx
 . split at hx
   . exact G4 _ hx
   . cases hx
     exact h0
 . cases hx
   exact h0):p:=h
theorem mS(h:p:=by
 refine DY ⟨[_],⟨rfl,trivial⟩,?_,rfl⟩;show AV.int .i64 _=AV.int .i64 _;congr 1;simp_all[Tac.sets]):p:=h
theorem mR(h:p:=by
 simp[execOp,ho,Instr.indexAt,hva,hvy,asIntOf,Aq e2,sizeOf,typeInfo,e1',e4',hcond,Gl]):p:=h
theorem mQ(h:p:=by
 rw[hz];have:z=k:=by simpa using hz
 subst this;exact .cons z v m _ es rfl hv h):p:=h
theorem mP(h:p:=by
 cases e:Nat.beq x y with
 |false=>rfl
 |true=>exact absurd (q25 e) hy):p:=h
theorem mO(h:p:=by
 rw[hd]at hs'|-;exact Up (fun e a2 w2 hp=>Post.step hs.heap h2 h3 hp) _ _ _ (hr H' ι' _ w' hs')):p:=h
theorem mN(h:p:=by
 have:(s.at_==x.ins.length)=false:=by rw[q40];omega
 rw[this];rfl):p:=h
theorem mM(h:p:=by
 refine DY ⟨[_],⟨rfl,trivial⟩,?_,rfl⟩;refine bc ?_;exact(fits_op (by simp_all<;>omega)).symm):p:=h
theorem mL(h:p:=by
 obtain⟨s',H',ι',q,r⟩:=hp
 cases e<;>first|exact⟨s',H',ι',q,r⟩|exact q.elim):p:=h
theorem mK(h:p:=by
 rcases hd.h b o h1 with⟨g1,g2⟩|⟨g1,_⟩
 . exact⟨g1,g2 h2⟩
 . subst g1;cases h2):p:=h
theorem mJ(h:p:=by
 show Ig (nb _) F (2+i)=_;rw[KX _ _ z144q];unfold nb;congr 1;rw[Nat.add_comm 2 i];rfl):p:=h
theorem mI(h:p:=by
 refine wk 6 ?_;refine DY ⟨[_],⟨rfl,trivial⟩,?_,rfl⟩;refine bc ?_;simp_all[A3]<;>omega):p:=h
def oH:Nat->Option (List (IntKind×Int)):=fun _=>none
inductive AV where
  |bool (b:Bool)
  |int (k:IntKind) (n:Int)
  |str (s:ByteArray)
  |nil
  |nilp
  |lst (ex:Bool) (es:List (List AV))
  |loc (cs:List AV)
  |ref (b n off len:Nat)
  |ptr (b n i o:Nat)
  |map (b:Nat)
  |agg (cs:List AV)
  |tup (vs:List AV)
  |fn (f:Fn) (fs cs:List AV)
  |val (v:Value)
def lz:Value->Bool
  | .agg _| .tuple _=>false
  |_=>true
def AV.cell1:AV->Bool
  | .agg _| .tup _=>false
  |_=>true
abbrev AA:=Nat->Option (Array Value)
structure Ent where
  rb:Nat
  sz:Nat
  n:Nat
  csz:Nat
def Ent.solid(r:Ent):Prop:=r.csz≠0
abbrev Bp:=Nat->Option Ent
def A7:Bp:=fun _=>none
inductive Rel(H:AA):Bp->AV->Value->Prop
  |bool (ι:Bp) (b:Bool):Rel H ι (.bool b) (.bool b)
  |int (ι:Bp) (k:IntKind) (n:Int):Rel H ι (.int k n) (.int k n)
  |str (ι:Bp) (s:ByteArray):Rel H ι (.str s) (.string s)
  |nil (ι:Bp):Rel H ι .nil (.slice none 0 0)
  |nilp (ι:Bp):Rel H ι .nilp (.pointer none)
  |lst0 (ι:Bp) (ex:Bool) (a:Option Addr) (cap:Nat) (hex:ex=true->cap=0) (hcap:cap<=maxLen) (hn:a=none->cap=0) (hsp:True):Rel H ι (.lst ex []) (.slice a 0 cap)
  |lst (ι:Bp) (ex:Bool) (es:List (List AV)) (b off cap sz:Nat) (c:Array Value) (vals:Nat->Nat->Value) (hne:es≠[]) (hb:H b=some c)
      (hsz:∀(i:Nat) (cs:List AV),es[i]?=some cs->cs.length=sz)
      (hv:∀(i:Nat) (cs:List AV) (j:Nat) (x:AV),es[i]?=some cs->cs[j]?=some x->c[off+i*sz+j]?=some (vals i j))
      (hr:∀(i:Nat) (cs:List AV) (j:Nat) (x:AV),es[i]?=some cs->cs[j]?=some x->Rel H A7 x (vals i j))
      (h1:∀(i:Nat) (cs:List AV) (j:Nat) (x:AV),es[i]?=some cs->cs[j]?=some x->x.cell1=true)
      (hex:ex=true->cap=es.length) (hcap:es.length<=cap) (hmax:cap<=maxLen):
      Rel H ι (.lst ex es) (.slice (some ⟨b,off,none⟩) es.length cap)
  |loc (ι:Bp) (cs:List AV) (b off:Nat) (c:Array Value) (vals:Nat->Value) (hb:H b=some c)
      (hv:∀(j:Nat) (x:AV),cs[j]?=some x->c[off+j]?=some (vals j)) (hr:∀(j:Nat) (x:AV),cs[j]?=some x->Rel H A7 x (vals j))
      (h1:∀(j:Nat) (x:AV),cs[j]?=some x->x.cell1=true):
      Rel H ι (.loc cs) (.pointer (some ⟨b,off,none⟩))
  |refL (ι:Bp) (b n off len cap:Nat) (r:Ent) (hr:ι b=some r) (hn:r.n=n) (hlen:off+len<=n) (hlc:len<=cap) (hcap:(off+cap)*r.sz=r.csz) (hmax:cap<=maxLen):
      Rel H ι (.ref b n off len) (.slice (some ⟨r.rb,off*r.sz,none⟩) len cap)
  |ref0 (ι:Bp) (b:Nat) (r:Ent) (a:Option Addr) (hr:ι b=some r) (hn:r.n=0) (hc:r.csz=0) (hsp:True):Rel H ι (.ref b 0 0 0) (.slice a 0 0)
  |refS (ι:Bp) (b n off len:Nat) (r:Ent) (a:Option Addr) (cap:Nat) (hr:ι b=some r) (hn:n<r.n):Rel H ι (.ref b n off len) (.slice a len cap)
  |ptrL (ι:Bp) (b n i o:Nat) (r:Ent) (hr:ι b=some r) (hn:r.n=n):Rel H ι (.ptr b n i o) (.pointer (some ⟨r.rb,i*r.sz+o,none⟩))
  |ptrS (ι:Bp) (b n i o:Nat) (r:Ent) (a:Addr) (hr:ι b=some r) (hn:n<r.n):Rel H ι (.ptr b n i o) (.pointer (some a))
  |map (ι:Bp) (b:Nat) (r:Ent) (hr:ι b=some r) (hn:r.sz=0):Rel H ι (.map b) (.map (some r.rb))
  |agg (ι:Bp) (cs:List AV) (vs:Array Value) (hl:cs.length=vs.size) (hr:∀(j:Nat) (x:AV) (v:Value),cs[j]?=some x->vs[j]?=some v->Rel H ι x v):Rel H ι (.agg cs) (.agg vs)
  |tup (ι:Bp) (cs:List AV) (vs:Array Value) (hl:cs.length=vs.size) (hr:∀(j:Nat) (x:AV) (v:Value),cs[j]?=some x->vs[j]?=some v->Rel H ι x v):Rel H ι (.tup cs) (.tuple vs)
  |fn (ι:Bp) (f:Fn) (xs cs:List AV) (us vs:Array Value) (hx:xs.length=us.size) (hl:cs.length=vs.size)
      (h1:∀(j:Nat) (x:AV) (v:Value),xs[j]?=some x->us[j]?=some v->Rel H ι x v) (h2:∀(j:Nat) (x:AV) (v:Value),cs[j]?=some x->vs[j]?=some v->Rel H ι x v):Rel H ι (.fn f xs cs) (.func f us vs)
  |val (ι:Bp) (v:Value) (h:lz v=true):Rel H ι (.val v) v
def KLe(H H':AA):Prop:=∀b c,H b=some c->H' b=some c
def LLe(ι ι':Bp):Prop:=∀b r,ι b=some r->∃r',ι' b=some r'/\(r'=r\/r.n<r'.n/\0<r.sz/\r'.sz=r.sz)
theorem KLe.refl(H:AA):KLe H H:=fun _ _ h=>h
variable {H' : AA}
theorem KLe.trans{H H'':AA}(h:KLe H H')(h':KLe H' H''):KLe H H'':=fun b c e=>h' b c (h b c e)
theorem LLe.refl(ι:Bp):LLe ι ι:=fun _ r h=>⟨r,h,.inl rfl⟩
theorem LLe.trans{ι ι' ι'':Bp}(h:LLe ι ι')(h':LLe ι' ι''):LLe ι ι'':=fun b r e=>by
 obtain⟨r',e',h1⟩:=h b r e;obtain⟨r'',e'',h2⟩:=h' b r' e';refine⟨r'',e'',?_⟩;rcases h1 with rfl|h1<;>rcases h2 with rfl|h2
 . exact .inl rfl
 . exact .inr h2
 . exact .inr h1
 . exact .inr ⟨Nat.lt_trans h1.1 h2.1,h1.2.1,h2.2.2.trans h1.2.2⟩
theorem LLe.none(ι:Bp):LLe A7 ι:=fun _ _ h=>by cases h
theorem Rel.mono{H:AA}{ι:Bp}{x:AV}{v:Value}(h:Rel H ι x v)(hH:KLe H H'):∀{ι':Bp},LLe ι ι'->Rel H' ι' x v:=by
 induction h with
 |bool=>exact fun _=>.bool _ _
 |int=>exact fun _=>.int _ _ _
 |str=>exact fun _=>.str _ _
 |nil=>exact fun _=>.nil _
 |nilp=>exact fun _=>.nilp _
 |lst0 ι ex a cap hex hcap hn hsp=>exact fun _=>.lst0 _ ex a cap hex hcap hn hsp
 |lst ι ex es b off cap sz c vals hne hb hsz hv hr hc1 hex hcap hmax ih=>
  exact fun _=>.lst _ ex es b off cap sz c vals hne (hH _ _ hb) hsz hv (fun i cs j x h1 h2=>ih i cs j x h1 h2 (LLe.refl _)) hc1 hex hcap hmax
 |loc ι cs b off c vals hb hv hr hc1 ih=>
  exact fun _=>.loc _ cs b off c vals (hH _ _ hb) hv (fun j x h1=>ih j x h1 (LLe.refl _)) hc1
 |refL ι b n off len cap r hr hn hlen hlc hcap hmax=>
  intro ι' h;obtain⟨r',e,h1⟩:=h b r hr;rcases h1 with rfl|h1
  . exact .refL _ b n off len cap r' e hn hlen hlc hcap hmax
  . exact .refS _ b n off len r' _ cap e (hn▸h1.1)
 |ref0 ι b r a hr hn hc hsp=>
  intro ι' h;obtain⟨r',e,h1⟩:=h b r hr;rcases h1 with rfl|h1
  . exact .ref0 _ b r' a e hn hc hsp
  . exact .refS _ b 0 0 0 r' _ 0 e z144q
 |refS ι b n off len r a cap hr hn=>
  intro ι' h;obtain⟨r',e,h1⟩:=h b r hr;rcases h1 with rfl|h1
  . exact .refS _ b n off len r' a cap e hn
  . exact .refS _ b n off len r' a cap e (Nat.lt_trans hn h1.1)
 |ptrL ι b n i o r hr hn=>
  intro ι' h;obtain⟨r',e,h1⟩:=h b r hr;rcases h1 with rfl|h1
  . exact .ptrL _ b n i o r' e hn
  . exact .ptrS _ b n i o r' _ e (hn▸h1.1)
 |ptrS ι b n i o r a hr hn=>
  intro ι' h;obtain⟨r',e,h1⟩:=h b r hr;rcases h1 with rfl|h1
  . exact .ptrS _ b n i o r' a e hn
  . exact .ptrS _ b n i o r' a e (Nat.lt_trans hn h1.1)
 |map ι b r hr hn=>
  intro ι' h;obtain⟨r',e,h1⟩:=h b r hr;rcases h1 with rfl|h1
  . exact .map _ b r' e hn
  . omega
 |val ι v h=>exact fun _=>.val _ v h
 |agg ι cs vs hl hr ih=>exact fun h=>.agg _ cs vs hl (fun j x v h1 h2=>ih j x v h1 h2 h)
 |tup ι cs vs hl hr ih=>exact fun h=>.tup _ cs vs hl (fun j x v h1 h2=>ih j x v h1 h2 h)
 |fn ι f xs cs us vs hx hl h1 h2 ih1 ih2=>exact fun h=>.fn _ f xs cs us vs hx hl (fun j x v e1 e2=>ih1 j x v e1 e2 h) (fun j x v e1 e2=>ih2 j x v e1 e2 h)
def iK(l:List (IntKind×Int)):AV:=.loc (l.map fun p=>.int p.1 p.2)
def GlobOk(H:AA):Prop:=∀(g:Nat) (l:List (IntKind×Int)),oH g=some l->Rel H A7 (iK l) (.pointer (some ⟨g,0,none⟩))
theorem GlobOk.mono{H H':AA}(h:GlobOk H)(hH:KLe H H'):GlobOk H':=fun g l e=>(h g l e).mono hH (LLe.refl _)
variable {H : AA} {ι : Bp} {v : Value}
theorem Rel.bool_inv{b:Bool}(h:Rel H ι (.bool b) v):v=.bool b:=by cases h;rfl
variable {k : IntKind}
theorem Rel.int_inv{n:Int}(h:Rel H ι (.int k n) v):v=.int k n:=by cases h;rfl
theorem Rel.str_inv{s:ByteArray}(h:Rel H ι (.str s) v):v=.string s:=by cases h;rfl
theorem Rel.nil_inv(h:Rel H ι .nil v):v=.slice none 0 0:=by cases h;rfl
variable {u : Value}
theorem Rel.val_inv(h:Rel H ι (.val u) v):v=u/\lz u=true:=by cases h;exact⟨rfl,by assumption⟩
variable {b : Nat}
theorem Rel.map_inv(h:Rel H ι (.map b) v):∃r,ι b=some r/\r.sz=0/\v=.map (some r.rb):=by cases h;exact⟨_,by assumption,by assumption,rfl⟩
variable {cs : List AV}
theorem Rel.tup_inv(h:Rel H ι (.tup cs) v):∃us,v=.tuple us/\cs.length=us.size/\∀(j:Nat) (x:AV) (u:Value),cs[j]?=some x->us[j]?=some u->Rel H ι x u:=by
 cases h;exact⟨_,rfl,by assumption,by assumption⟩
theorem Rel.agg_inv(h:Rel H ι (.agg cs) v):∃us,v=.agg us/\cs.length=us.size/\∀(j:Nat) (x:AV) (u:Value),cs[j]?=some x->us[j]?=some u->Rel H ι x u:=by
 cases h;exact⟨_,rfl,by assumption,by assumption⟩
theorem Rel.fn_inv{f:Fn}{xs:List AV}(h:Rel H ι (.fn f xs cs) v):∃us vs,v=.func f us vs/\xs.length=us.size/\cs.length=vs.size/\
 (∀(j:Nat) (x:AV) (u:Value),xs[j]?=some x->us[j]?=some u->Rel H ι x u)/\(∀(j:Nat) (x:AV) (u:Value),cs[j]?=some x->vs[j]?=some u->Rel H ι x u):=by
 cases h;exact⟨_,_,rfl,by assumption,by assumption,by assumption,by assumption⟩
variable {ex : Bool} {es : List (List AV)}
theorem Rel.lst_inv(h:Rel H ι (.lst ex es) v):
 (es=[]/\∃a cap,v=.slice a 0 cap/\(ex=true->cap=0)/\cap<=maxLen/\(a=none->cap=0)/\True)\/
 (es≠[]/\∃b off cap sz c,∃vals:Nat->Nat->Value,v=.slice (some ⟨b,off,none⟩) es.length cap/\H b=some c/\(∀(i:Nat) (cs:List AV),es[i]?=some cs->cs.length=sz)/\
  (∀(i:Nat) (cs:List AV) (j:Nat) (x:AV),es[i]?=some cs->cs[j]?=some x->c[off+i*sz+j]?=some (vals i j))/\
  (∀(i:Nat) (cs:List AV) (j:Nat) (x:AV),es[i]?=some cs->cs[j]?=some x->Rel H A7 x (vals i j))/\
  (∀(i:Nat) (cs:List AV) (j:Nat) (x:AV),es[i]?=some cs->cs[j]?=some x->x.cell1=true)/\
  (ex=true->cap=es.length)/\es.length<=cap/\cap<=maxLen):=by
 cases h with
 |lst0 _ _ a cap h1 h2 h3 h4=>exact .inl ⟨rfl,a,cap,rfl,h1,h2,h3,h4⟩
 |lst _ _ _ b off cap sz c vals h0 h1 h2 h3 h4 h5 h6 h7 h8=>exact .inr ⟨h0,b,off,cap,sz,c,vals,rfl,h1,h2,h3,h4,h5,h6,h7,h8⟩
theorem Rel.lst_len(h:Rel H ι (.lst ex es) v):∃a cap,v=.slice a es.length cap:=by
 cases h with
 |lst0 _ _ a cap h1 h2 h3 h4=>exact⟨a,cap,rfl⟩
 |lst _ _ _ b off cap sz c vals h0 h1 h2 h3 h4 h5 h6 h7 h8=>exact⟨_,_,rfl⟩
theorem Rel.loc_inv(h:Rel H ι (.loc cs) v):∃b off c,∃vals:Nat->Value,v=.pointer (some ⟨b,off,none⟩)/\H b=some c/\
 (∀(j:Nat) (x:AV),cs[j]?=some x->c[off+j]?=some (vals j))/\(∀(j:Nat) (x:AV),cs[j]?=some x->Rel H A7 x (vals j))/\(∀(j:Nat) (x:AV),cs[j]?=some x->x.cell1=true):=by
 cases h;exact⟨_,_,_,_,rfl,by assumption,by assumption,by assumption,by assumption⟩
variable {n off len : Nat}
theorem Rel.ref_len(h:Rel H ι (.ref b n off len) v):∃a cap,v=.slice a len cap:=by
 cases h<;>exact⟨_,_,rfl⟩
variable {r : Ent}
theorem Rel.ref_live(h:Rel H ι (.ref b n off len) v)(hr:ι b=some r)(hn:r.n=n)(hc:r.csz≠0):
 off+len<=n/\∃cap,v=.slice (some ⟨r.rb,off*r.sz,none⟩) len cap/\len<=cap/\(off+cap)*r.sz=r.csz/\cap<=maxLen:=by
 cases h with
 |ref0 _ _ r' a hr' hn' hc'=>rw[hr]at hr';cases hr';exact absurd hc' hc
 |refL _ _ _ _ _ cap r' hr' hn' hlen hlc hcap hmax=>rw[hr]at hr';cases hr';exact⟨hlen,cap,rfl,hlc,hcap,hmax⟩
 |refS _ _ _ _ _ r' a cap hr' hn'=>rw[hr]at hr';cases hr';omega
theorem Rel.ptr_live{i o:Nat}(h:Rel H ι (.ptr b n i o) v)(hr:ι b=some r)(hn:r.n=n):v=.pointer (some ⟨r.rb,i*r.sz+o,none⟩):=by
 cases h with
 |ptrL _ _ _ _ _ r' hr' hn'=>rw[hr]at hr';cases hr';rfl
 |ptrS _ _ _ _ _ r' a hr' hn'=>rw[hr]at hr';cases hr';omega
theorem Rel.ptr_some{i o:Nat}(h:Rel H ι (.ptr b n i o) v):∃a,v=.pointer (some a):=by
 cases h<;>exact⟨_,rfl⟩
theorem Rel.ref_dry(h:Rel H ι (.ref b n off len) v)(hr:ι b=some r)(hn:r.n=n)(hc:r.csz=0)(hs:0<r.sz):
 len=0/\∃a,v=.slice a 0 0/\True:=by
 cases h with
 |ref0 _ _ r' a hr' hn' hc' hsp=>exact⟨rfl,a,rfl,hsp⟩
 |refL _ _ _ _ _ cap r' hr' hn' hlen hlc hcap hmax=>
  rw[hr]at hr';cases hr';rw[hc]at hcap;have:off+cap=0:=by
   rcases Nat.mul_eq_zero.1 hcap with h|h
   . exact h
   . omega
  have h1:cap=0:=by omega
  have h2:len=0:=by omega
  subst h1;subst h2;exact⟨rfl,_,rfl,trivial⟩
 |refS _ _ _ _ _ r' a cap hr' hn'=>rw[hr]at hr';cases hr';omega
inductive AObj where
  |free
  |row (p:Bool) (sz:Nat) (es:List (List AV))
  |map (kvs:List (AV×AV))
  |iter0
def AObj.alive:AObj->Bool
  | .free=>false
  |_=>true
abbrev Ad:=Nat->Option AObj
abbrev Ax:=Nat->Option AV
def hNew:Ad:=fun _=>some .free
def AZ:Ax:=fun _=>none
def hput(h:Ad)(b:Nat)(o:AObj):Ad:=fun x=>bif Nat.beq x b then some o else h x
def Aa(e:Ax)(t:Nat)(v:AV):Ax:=fun x=>bif Nat.beq x t then some v else e x
def QP(e:Ax)(t:Nat):Ax:=fun x=>bif Nat.beq x t then none else e x
variable {x : Nat}
theorem AH(h:x≠b):Nat.beq x b=false:=by
 cases e:Nat.beq x b with
 |false=>rfl
 |true=>exact absurd (q25 e) h
theorem At(h:Ad)(b:Nat)(o:AObj):hput h b o b=some o:=by simp[hput]
theorem AU(h:Ad)(o:AObj)(hne:x≠b):hput h b o x=h x:=by simp only[hput,AH hne,qZ3]
theorem C0(e:Ax)(t:Nat)(v:AV):Aa e t v t=some v:=by simp[Aa]
variable {t : Nat}
theorem EQ(e:Ax)(v:AV)(hne:x≠t):Aa e t v x=e x:=by simp only[Aa,AH hne,qZ3]
theorem M5(e:Ax)(t:Nat):QP e t t=none:=by simp[QP]
theorem TS(e:Ax)(hne:x≠t):QP e t x=e x:=by simp only[QP,AH hne,qZ3]
structure Al where
  n:Nat
  env:Ax
  h:Ad
def rowCells(H:AA)(ι:Bp)(sz:Nat)(es:List (List AV))(c:Array Value):Prop:=
  (∀(i:Nat) (cs:List AV),es[i]?=some cs->cs.length=sz)/\
  ∀(i:Nat) (cs:List AV) (j:Nat) (x:AV),es[i]?=some cs->cs[j]?=some x->∃v,c[i*sz+j]?=some v/\Rel H ι x v/\x.cell1=true
def Pz(H:AA)(kvs:List (AV×AV))(es:Array MapEntry):Prop:=
  kvs.length=es.size/\∀(j:Nat) (k v:AV),kvs[j]?=some (k,v)->∃e,es[j]?=some e/\Rel H A7 k e.key/\Rel H A7 v e.val
def BornOk(clk:Nat)(l:List Nat):Prop:=l.Pairwise (· < ·)/\∀b∈l,b<clk
theorem BornOk.nil(clk:Nat):BornOk clk []:=⟨.nil,fun b h=>by cases h⟩
variable {clk : Nat} {l : List Nat}
theorem BornOk.snoc(h:BornOk clk l):BornOk (clk+1) (l++[clk]):=
 ⟨List.pairwise_append.2 ⟨h.1,List.pairwise_singleton _ _,fun a ha b hb=>by rw[q47.1 hb];exact h.2 a ha⟩,fun b hb=>by
  rcases q78.1 hb with hb|hb
  . exact Nat.lt_succ_of_lt (h.2 b hb)
  . rw[q47.1 hb];exact Nat.lt_succ_self _⟩
theorem BornOk.sub{l':List Nat}(h:BornOk clk l)(s:l'.Sublist l):BornOk clk l':=⟨h.1.sublist s,fun b hb=>h.2 b (s.subset hb)⟩
theorem NR{es:Array MapEntry}{p:Nat}{k:Value}:((es.modify p fun e=>{e with key:=k,val:=v}).toList.map (·.born))=es.toList.map (·.born):=by
 rw[Array.toList_modify];apply q62;intro i;rw[q54,q54,List.getElem?_modify]
 by_cases h:p=i
 . subst h;cases es.toList[p]?<;>simp
 . simp[h]
def RowAt(w:World)(rb:Nat)(c:Array Value)(T:TypeId):Prop:=∃fr:Nat×Nat,w.heap[rb]?=some (.cells c T fr)/\(fr.2=0\/c.size<=fr.1)
variable {w : World} {rb : Nat} {c : Array Value} {T : TypeId}
theorem RowAt.lt(h:RowAt w rb c T):rb<w.heap.size:=by
 obtain⟨fr,e,_⟩:=h;exact(q03.1 e).1
variable {w' : World}
theorem RowAt.same(h:RowAt w rb c T)(e:w'.heap[rb]?=w.heap[rb]?):RowAt w' rb c T:=by
 obtain⟨fr,h1,h2⟩:=h;exact⟨fr,e.trans h1,h2⟩
theorem RowAt.plain(h:w.heap[rb]?=some (.cells c T)):RowAt w rb c T:=⟨(0,0),h,.inl rfl⟩
def ObjOk(H:AA)(ι:Bp)(w:World)(r:Ent):AObj->Prop
  | .free=>True
  | .row p sz es=>r.sz=sz/\0<sz/\r.n=es.length/\es.length*sz<=r.csz/\(∀(i:Nat) (cs:List AV),es[i]?=some cs->cs.length=sz)/\
      (r.solid->∃c T,RowAt w r.rb c T/\c.size=r.csz/\rowCells H (bif p then A7 else ι) sz es c)
  | .map kvs=>r.sz=0/\r.solid/\∃es clk,w.heap[r.rb]?=some (.map es clk)/\Pz H kvs es/\BornOk clk (es.toList.map (·.born))
  | .iter0=>r.sz=0/\r.n=0/\r.solid/\w.heap[r.rb]?=some (.mapIter none 0 #[] 0)
structure HeapRel(H:AA)(ι:Bp)(h:Ad)(w:World):Prop where
  know:∀b c,H b=some c->∃T fr,w.heap[b]?=some (.cells c T fr)
  free:∀b,h b=some .free->ι b=none
  obj:∀b o,h b=some o->o.alive=true->∃r,ι b=some r/\ObjOk H ι w r o/\(r.solid->H r.rb=none)
  inj:∀b b' o o' r r',h b=some o->o.alive=true->h b'=some o'->o'.alive=true->ι b=some r->ι b'=some r'->r.solid->r'.solid->b≠b'->r.rb≠r'.rb
  glob:GlobOk H
def DP(h:Ad)(ι:Bp)(rb:Nat):Prop:=∃b o r,h b=some o/\o.alive=true/\ι b=some r/\r.solid/\r.rb=rb
theorem HeapRel.lt{H:AA}{ι:Bp}{h:Ad}{w:World}(hr:HeapRel H ι h w){rb:Nat}(ho:DP h ι rb):rb<w.heap.size:=by
 obtain⟨b,o,r,h1,h2,h3,hsol,rfl⟩:=ho;obtain⟨r',e1,e2,_⟩:=hr.obj b o h1 h2;rw[h3]at e1;cases e1
 cases o with
 |free=>cases h2
 |row p sz es=>obtain⟨_,_,_,_,_,hx⟩:=e2;obtain⟨c,T,hc,_⟩:=hx hsol;exact hc.lt
 |map kvs=>obtain⟨_,_,es,clk,hc,_⟩:=e2;exact(q03.1 hc).1
 |iter0=>exact(q03.1 e2.2.2.2).1
variable {h : Ad}
theorem HeapRel.knowlt(hr:HeapRel H ι h w)(hc:H b=some c):b<w.heap.size:=by
 obtain⟨T,fr,e⟩:=hr.know b c hc;exact(q03.1 e).1
structure Step(H:AA)(ι:Bp)(h:Ad)(w:World)(H':AA)(ι':Bp)(h':Ad)(w':World):Prop where
  size:w.heap.size<=w'.heap.size
  os:w'.os=w.os
  out:w'.output=w.output
  keep:∀rb,rb<w.heap.size->¬DP h ι rb->w'.heap[rb]?=w.heap[rb]?
  kle:KLe H H'
  knew:∀b,H' b≠none->H b≠none\/w.heap.size<=b\/DP h ι b
  lle:LLe ι ι'
  lframe:∀b,h b=none->ι' b=ι b
  newrb:∀b r',ι' b=some r'->r'.solid->ι b=some r'\/w.heap.size<=r'.rb\/∃r,ι b=some r/\r.solid/\r.rb=r'.rb
  dom:∀b,h b=none->h' b=none
theorem Step.refl(H:AA)(ι:Bp)(h:Ad)(w:World):Step H ι h w H ι h w where
 size:=qZ0 _
 os:=rfl
 out:=rfl
 keep:=fun _ _ _=>rfl
 kle:=KLe.refl _
 knew:=fun _ h=>.inl h
 lle:=LLe.refl _
 lframe:=fun _ _=>rfl
 newrb:=fun _ _ h _=>.inl h
 dom:=fun _ h=>h
variable {h' : Ad}
theorem Step.owned{ι':Bp}
 (hr:HeapRel H ι h w) (s:Step H ι h w H' ι' h' w') (ho:DP h' ι' rb):DP h ι rb\/w.heap.size<=rb:=by
 obtain⟨b,o,r',h1,h2,h3,hsol,rfl⟩:=ho
 cases e1:h b with
 |none=>rw[s.dom b e1]at h1;cases h1
 |some o0=>
  have e2:ι b≠none->o0.alive=true:=fun hne=>by
   cases o0 with
   |free=>exact absurd (hr.free b e1) hne
   |_=>rfl
  rcases s.newrb b r' h3 hsol with e|e|⟨r,e,es,e'⟩
  . exact .inl ⟨b,o0,r',e1,e2 (by rw[e];simp),e,hsol,rfl⟩
  . exact .inr e
  . exact .inl ⟨b,o0,r,e1,e2 (by rw[e];simp),e,es,e'⟩
theorem Step.trans{H:AA}{ι:Bp}{h:Ad}{w:World}{H':AA}{ι':Bp}{h':Ad}{w':World}{H'':AA}{ι'':Bp}{h'':Ad}{w'':World}
 (hr:HeapRel H ι h w) (s:Step H ι h w H' ι' h' w') (hr':HeapRel H' ι' h' w') (t:Step H' ι' h' w' H'' ι'' h'' w''):Step H ι h w H'' ι'' h'' w'' where
 size:=qX2 s.size t.size
 os:=t.os.trans s.os
 out:=t.out.trans s.out
 keep:=fun rb hlt hno=>by
  rw[t.keep rb (q51 hlt s.size) (fun ho=>?_),s.keep rb hlt hno];rcases s.owned hr ho with h1|h1
  . exact hno h1
  . omega
 kle:=s.kle.trans t.kle
 knew:=fun b hb=>by
  rcases t.knew b hb with h1|h1|h1
  . exact s.knew b h1
  . exact .inr (.inl (qX2 s.size h1))
  . rcases s.owned hr h1 with h2|h2
    . exact .inr (.inr h2)
    . exact .inr (.inl h2)
 lle:=s.lle.trans t.lle
 lframe:=fun b hb=>(t.lframe b (s.dom b hb)).trans (s.lframe b hb)
 newrb:=fun b r'' hb hsol=>by
  rcases t.newrb b r'' hb hsol with h1|h1|⟨r',h1,hs1,h2⟩
  . exact s.newrb b r'' h1 hsol
  . exact .inr (.inl (qX2 s.size h1))
  . rcases s.newrb b r' h1 hs1 with h3|h3|⟨r,h3,hs3,h4⟩
    . exact .inr (.inr ⟨r',h3,hs1,h2⟩)
    . exact .inr (.inl (h2▸h3))
    . exact .inr (.inr ⟨r,h3,hs3,h4.trans h2⟩)
 dom:=fun b hb=>t.dom b (s.dom b hb)
structure Sim(H:AA)(ι:Bp)(s:Al)(a:Act)(w:World):Prop where
  n:a.tmps.size=s.n
  d:a.defers=[]
  env:∀t x,s.env t=some x->∃v,a.tmps[t]?=some v/\Rel H ι x v
  heap:HeapRel H ι s.h w
def Post(H:AA)(ι:Bp)(h:Ad)(w:World)(Q:Exit->Al->Prop):Exit->Act->World->Prop:=fun e a' w'=>
  ∃s' H' ι',Q e s'/\Sim H' ι' s' a' w'/\Step H ι h w H' ι' s'.h w'
def AGo(P:Program)(c:Code)(s:Al)(Q:Exit->Al->Prop):Prop:=
  ∀H ι a w,Sim H ι s a w->c.wp P (Post H ι s.h w Q) a w
variable {P : Program} {Q : Exit -> Al -> Prop} {s : Al}
variable {a : Act}
theorem Post.mono{Q':Exit->Al->Prop}{e:Exit}(hp:Post H ι h w Q e a w')(hq:∀s,Q e s->Q' e s):Post H ι h w Q' e a w':=by
 obtain⟨s',H',ι',q,r⟩:=hp;exact⟨s',H',ι',hq _ q,r⟩
theorem Post.step{H:AA}{ι:Bp}{h:Ad}{w:World}{H':AA}{ι':Bp}{h':Ad}{w':World}(hr:HeapRel H ι h w)(hr':HeapRel H' ι' h' w')(st:Step H ι h w H' ι' h' w')
 {Q:Exit->Al->Prop} {e:Exit} {a:Act} {w'':World} (hp:Post H' ι' h' w' Q e a w''):Post H ι h w Q e a w'':=by
 obtain⟨s',H'',ι'',q,r,t⟩:=hp;exact⟨s',H'',ι'',q,r,st.trans hr hr' t⟩
theorem AGo.mono{c:Code}{Q':Exit->Al->Prop}(h:AGo P c s Q)(hq:∀e s,Q e s->Q' e s):AGo P c s Q':=
 fun H ι a w hs=>wp_mono (h H ι a w hs) fun e a' w' hp=>hp.mono (hq e)
theorem AGo.skip(h:Q .normal s):AGo P .skip s Q:=fun H ι a w hs=>wp_skip ⟨s,H,ι,h,hs,Step.refl _ _ _ _⟩
theorem AGo.exit{id:Nat}(h:Q (.exit id) s):AGo P (.exit id) s Q:=fun H ι a w hs=>wp_exit ⟨s,H,ι,h,hs,Step.refl _ _ _ _⟩
theorem AGo.ret(h:Q .ret s):AGo P .ret s Q:=fun H ι a w hs=>wp_ret ⟨s,H,ι,h,hs,Step.refl _ _ _ _⟩
theorem AGo.label{l:Nat}(h:Q .normal s):AGo P (.label l) s Q:=fun H ι a w hs=>wp_label ⟨s,H,ι,h,hs,Step.refl _ _ _ _⟩
def Ce(K:Al->Prop)(Q:Exit->Al->Prop):Exit->Al->Prop
  | .normal,s=>K s
  |e,s=>Q e s
theorem AGo.seq{x y:Code}(h:AGo P x s (Ce (fun s'=>AGo P y s' Q) Q)):AGo P (.seq x y) s Q:=by
 intro H ι a w hs;refine wp_seq (wp_mono (h H ι a w hs) fun e a' w' hp=>?_)
 cases e with
 |normal=>
  obtain⟨s',H',ι',q,r,t⟩:=hp;exact wp_mono (q H' ι' a' w' r) fun e a'' w'' hp'=>Post.step hs.heap r.heap t hp'
 |_=>exact hp
theorem AGo.cond{c:Operand}{x y:Code}{t:Nat}{b:Bool}(hc:c=.tmp t)(he:s.env t=some (.bool b))(h1:b=true->AGo P x s Q)(h2:b=false->AGo P y s Q):AGo P (.cond c x y) s Q:=by
 intro H ι a w hs;subst hc;obtain⟨v,hv,hr⟩:=hs.env t _ he
 cases hr
 have hev:a.eval (.tmp t)=.bool b:=by simp[Act.eval,hv]
 exact wp_cond_split hev (fun e=>h1 e H ι a w hs) (fun e=>h2 e H ι a w hs)
theorem AGo.cond_true{t:Nat}{x y:Code}(b:Bool)(he:s.env t=some (.bool b))(hb:b=true)(h:AGo P x s Q):AGo P (.cond (.tmp t) x y) s Q:=
 AGo.cond rfl he (fun _=>h) YT
theorem AGo.cond_false{t:Nat}{x y:Code}(b:Bool)(he:s.env t=some (.bool b))(hb:b=false)(h:AGo P y s Q):AGo P (.cond (.tmp t) x y) s Q:=
 AGo.cond rfl he YT (fun _=>h)
def T9(id:Nat)(Q:Exit->Al->Prop):Exit->Al->Prop
  | .exit id',s=>bif Nat.beq id' id then Q .normal s else Q (.exit id') s
  |e,s=>Q e s
theorem AGo.block{id:Nat}{c:Code}(h:AGo P c s (T9 id Q)):AGo P (.block id c) s Q:=by
 intro H ι a w hs;refine wp_block (wp_mono (h H ι a w hs) fun e a' w' hp=>?_);exact q7
theorem AGo.loop{γ:Type}{c:Code}(I:γ->Al->Prop)(μ:γ->Nat)(g0:γ)(h0:I g0 s)
 (round:∀g s,I g s->AGo P c s (Ce (fun s'=>∃g',I g' s'/\μ g'<μ g) Q)):AGo P (.loop c) s Q:=by
 intro H ι a w hs b k cs;have key:∀n g s1 H1 ι1 a1 w1,μ g=n->I g s1->Sim H1 ι1 s1 a1 w1->Step H ι s.h w H1 ι1 s1.h w1->
  ∃e a' w',Post H ι s.h w Q e a' w'/\Arrives P (lone (b.at a1 (.code c:: .inLoop c::k)) cs w1) b k cs e a' w':=by
  intro n
  induction n using Nat.strongRecOn with
  |_ n ih=>
   intro g s1 H1 ι1 a1 w1 hn hI hs1 hst;obtain⟨e,a₂,w₂,hq,harr⟩:=round g s1 hI H1 ι1 a1 w1 hs1 b (.inLoop c::k) cs;obtain⟨s2,H2,ι2,q,r,t⟩:=hq;have t':=hst.trans hs.heap hs1.heap t
   cases e with
   |normal=>
    obtain⟨g',hI',hlt⟩:=q;obtain⟨e₂,a₃,w₃,hq₂,harr₂⟩:=ih (μ g') (hn▸hlt) g' s2 H2 ι2 a₂ w₂ rfl hI' r t';exact⟨e₂,a₃,w₃,hq₂,.of_steps (Steps.trans harr (.one step_inLoop)) harr₂⟩
   |exit id=>exact⟨_,a₂,w₂,⟨s2,H2,ι2,q,r,t'⟩,.pass (x:=.inLoop c) rfl (fun _ _=>.inl z145q) harr⟩
   |goto l=>exact⟨_,a₂,w₂,⟨s2,H2,ι2,q,r,t'⟩,.pass (x:=.inLoop c) rfl (fun _ _=>.inl z145q) harr⟩
   |ret=>exact⟨_,a₂,w₂,⟨s2,H2,ι2,q,r,t'⟩,.pass (x:=.inLoop c) rfl (fun _ _=>.inl z145q) harr⟩
   |panic ch=>exact⟨_,a₂,w₂,⟨s2,H2,ι2,q,r,t'⟩,.pass (x:=.inLoop c) rfl (fun _ _=>.inl z145q) harr⟩
   |outgrown=>exact⟨_,a₂,w₂,⟨s2,H2,ι2,q,r,t'⟩,.pass (x:=.inLoop c) rfl (fun _ _=>.inl z145q) harr⟩
 obtain⟨e,a',w',hq,harr⟩:=key _ g0 s H ι a w rfl h0 hs (Step.refl _ _ _ _);exact⟨e,a',w',hq,.of_steps (.one step_loop) harr⟩
def Sub(s s':Al):Prop:=s.n=s'.n/\(∀t x,s.env t=some x->s'.env t=some x)/\(∀b o,s.h b=some o->s'.h b=some o)
theorem HeapRel.sub(hr:HeapRel H ι h' w)(hs:∀b o,h b=some o->h' b=some o):HeapRel H ι h w where
 know:=hr.know
 glob:=hr.glob
 free:=fun b e=>hr.free b (hs _ _ e)
 obj:=fun b o e ea=>hr.obj b o (hs _ _ e) ea
 inj:=fun b b' o o' r r' h1 h2 h3 h4=>hr.inj b b' o o' r r' (hs _ _ h1) h2 (hs _ _ h3) h4
theorem Sim.sub{H:AA}{ι:Bp}{s s':Al}{a:Act}{w:World}(h:Sim H ι s' a w)(hs:Sub s s'):Sim H ι s a w where
 n:=h.n.trans hs.1.symm
 d:=h.d
 env:=fun t x e=>h.env t x (hs.2.1 t x e)
 heap:=h.heap.sub hs.2.2
inductive TK where
  |bool|int (k:IntKind)|string|slice (e:Nat)|struct (fs:List (Nat×Nat))|array (n e:Nat)|ptr (e:Nat)|map (k e:Nat)|fn|other
structure Av where
  k:TK
  size:Nat
  bytes:Nat
  zero:List AV
def JA:Value->Option AV
  | .bool b=>some (.bool b)
  | .int k n=>some (.int k n)
  | .string s=>some (.str s)
  | .slice none 0 0=>some .nil
  | .pointer none=>some .nilp
  | .nilFunc=>some (.val .nilFunc)
  | .nilIface=>some (.val .nilIface)
  | .map none=>some (.val (.map none))
  |_=>none
def KA:List Value->Option (List AV)
  | []=>some []
  |v::vs=>match JA v,KA vs with
    |some x,some xs=>some (x::xs)
    |_,_=>none
def IT(P:Program):TypeDesc->TK
  | .bool=>.bool
  | .int k=>.int k
  | .string=>.string
  | .slice e=>.slice e
  | .struct fs=>bif fs.all (fun f=>P.cellsOf f.type !=0)then .struct (fs.toList.map fun f=>(f.offset,f.type))else .other
  | .array n e=>.array n e
  | .pointer e=>.ptr e
  | .map k e=>.map k e
  | .func .. =>.fn
  |_=>.other
def aO(P:Program)(t:Nat):Option Av:=
  match P.info? t,P.underlying t with
  |some i,some d=>some {k:=IT P d,size:=i.size,bytes:=i.bytes,zero:=((i.zero.bind fun z=>KA z.cells.toList).getD [])}
  |_,_=>none
def CE(P:Program)(T:Nat->Option Av):Prop:=∀t i,T t=some i->aO P t=some i
variable {x : AV}
theorem KZ(h:JA v=some x):Rel H ι x v:=by
 unfold JA at h;split at h<;>simp at h<;>subst h
 . exact .bool _ _
 . exact .int _ _ _
 . exact .str _ _
 . exact .nil _
 . exact .nilp _
 . exact .val _ _ rfl
 . exact .val _ _ rfl
 . exact .val _ _ rfl
theorem DX{H:AA}{ι:Bp}:∀{vs:List Value} {xs:List AV},KA vs=some xs->xs.length=vs.length/\∀(j:Nat) (x:AV) (v:Value),xs[j]?=some x->vs[j]?=some v->Rel H ι x v
 | [],xs,h=>by
  simp[KA]at h;subst h;exact⟨rfl,fun j x v h1=>by simp at h1⟩
 |v::vs,xs,h=>by
  unfold KA at h;split at h
  . rename_i x ys h1 h2;simp at h;subst h;have ih:=DX (H:=H) (ι:=ι) h2;refine⟨by simp[ih.1],fun j y u e1 e2=>?_⟩
    cases j with
    |zero=>simp at e1 e2;subst e1;subst e2;exact KZ h1
    |succ j=>simp at e1 e2;exact ih.2 j y u e1 e2
  . cases h
variable {i : Av}
theorem Am(h:aO P t=some i):∃info d,P.info? t=some info/\P.underlying t=some d/\i.k=IT P d/\info.size=i.size/\info.bytes=i.bytes/\
 i.zero=((info.zero.bind fun z=>KA z.cells.toList).getD []):=by
 unfold aO at h;split at h
 . rename_i info d h1 h2;simp at h;subst h;exact⟨info,d,h1,h2,rfl,rfl,rfl,rfl⟩
 . cases h
theorem En{info:TypeInfo}(hz:i.zero=((info.zero.bind fun z=>KA z.cells.toList).getD []))(hl:i.zero.length=i.size)(hp:0<i.size):
 ∃z,info.zero=some z/\KA z.cells.toList=some i.zero:=by
 cases e:info.zero with
 |none=>rw[e]at hz;simp at hz;rw[hz]at hl;simp at hl;omega
 |some z=>
  rw[e]at hz;simp only[Option.bind_some]at hz
  cases e2:KA z.cells.toList with
  |none=>rw[e2]at hz;simp at hz;rw[hz]at hl;simp at hl;omega
  |some xs=>rw[e2]at hz;simp at hz;exact⟨z,rfl,by rw[e2,hz]⟩
def TX:Value->Option AV
  | .agg cs=>match KA cs.toList with
    |some xs=>some (.agg xs)
    |none=>none
  |v=>JA v
theorem Wi(h:TX v=some x):Rel H ι x v:=by
 unfold TX at h;split at h
 . rename_i cs;split at h
   . rename_i xs e;simp at h;subst h;have:=DX (H:=H) (ι:=ι) e;exact .agg _ _ _ (by simpa using this.1) (fun j x v h1 h2=>this.2 j x v h1 K7)
   . cases h
 . exact KZ h
def An(env:Ax):Operand->Option AV
  | .tmp t=>env t
  | .const v=>TX v
  | .func f=>some (.fn (.func f) [] [])
  | .global g=>(oH g).map iK
theorem Ao(hs:Sim H ι s a w){o:Operand}(h:An s.env o=some x):Rel H ι x (a.eval o):=by
 cases o with
 |tmp t=>
  obtain⟨v,hv,hr⟩:=hs.env t x h;simpa[Act.eval,hv]using hr
 |const v=>exact Wi h
 |func f=>
  simp only[An,q53]at h;subst h;exact .fn _ _ _ _ _ _ rfl rfl (fun j x v h1=>by simp at h1) (fun j x v h1=>by simp at h1)
 |global g=>
  simp only[An,q22]at h;obtain⟨l,hl,rfl⟩:=h;exact(hs.heap.glob g l hl).mono (KLe.refl _) (LLe.none ι)
def BH(op:BinOp)(k:IntKind)(a b:Int):Option AV:=
  match op with
  | .add=>some (.int k (k.wrap (a+b)))
  | .sub=>some (.int k (k.wrap (a-b)))
  | .mul=>some (.int k (k.wrap (a*b)))
  | .quo=>if b=0 then none else some (.int k (k.wrap (a.tdiv b)))
  | .rem=>if b=0 then none else some (.int k (a.tmod b))
  | .and=>some (.int k (k.wrap ((BitVec.ofInt k.bits a&&&BitVec.ofInt k.bits b).toNat)))
  | .or=>some (.int k (k.wrap ((BitVec.ofInt k.bits a|||BitVec.ofInt k.bits b).toNat)))
  | .xor=>some (.int k (k.wrap ((BitVec.ofInt k.bits a^^^BitVec.ofInt k.bits b).toNat)))
  | .andNot=>some (.int k (k.wrap ((BitVec.ofInt k.bits a&&& ~~~BitVec.ofInt k.bits b).toNat)))
  | .shl=>if b<0 then none else some (.int k (k.wrap (a*2^(min b.toNat k.bits))))
  | .shr=>if b<0 then none else some (.int k (a.fdiv (2^(min b.toNat k.bits))))
  | .eql=>some (.bool (a==b))
  | .neq=>some (.bool (a !=b))
  | .lss=>some (.bool (decide (a<b)))
  | .leq=>some (.bool (decide (a<=b)))
  | .gtr=>some (.bool (decide (a>b)))
  | .geq=>some (.bool (decide (a>=b)))
def isShift:BinOp->Bool
  | .shl| .shr=>true
  |_=>false
def TP:AV->AV->Option Bool
  | .int k a,.int k' b=>if k=k' then some (a==b)else none
  | .bool a,.bool b=>some (a==b)
  | .str a,.str b=>some (a.toList==b.toList)
  |_,_=>none
def eqCells:List AV->List AV->Option Bool
  | [],[]=>some true
  |x::xs,y::ys=>match TP x y,eqCells xs ys with
    |some p,some q=>some (p&&q)
    |_,_=>none
  |_,_=>none
def AX(op:BinOp)(x y:AV):Option AV:=
  match x,y with
  | .int k a,.int k' b=>bif isShift op then BH op k a b else if k=k' then BH op k a b else none
  | .str a,.str b=>match op with
    | .eql=>some (.bool (a.toList==b.toList))
    | .neq=>some (.bool (!(a.toList==b.toList)))
    |_=>none
  |_,_=>none
variable {r : AV} {op : BinOp}
theorem UQ{k':IntKind}{a b:Int}(hk:isShift op=true\/k=k')(h:BH op k a b=some r):
 ∃v,Rel H ι r v/\(binOp op T (.int k a) (.int k' b)).run P w=.ok v w:=by
 cases op<;>simp only[BH,q53]at h
 case quo=>split at h;cases h;(rename_i hb;rcases hk with hk|rfl;· cases hk);simp at h;subst h;exact⟨_,.int _ _ _,by simp[binOp,Op.intDiv,hb]⟩
 case rem=>split at h;cases h;(rename_i hb;rcases hk with hk|rfl;· cases hk);simp at h;subst h;exact⟨_,.int _ _ _,by simp[binOp,Op.intDiv,hb]⟩
 case shl=>split at h;cases h;rename_i hb;simp at h;subst h;exact⟨_,.int _ _ _,by simp[binOp,Op.shift,hb]⟩
 case shr=>split at h;cases h;rename_i hb;simp at h;subst h;exact⟨_,.int _ _ _,by simp[binOp,Op.shift,hb]⟩
 all_goals
  rcases hk with hk|rfl
  . cases hk
  subst h
  first
   |exact⟨_,.int _ _ _,by simp[binOp,Op.intArith,Op.intBits,Op.intCmp]⟩
   |exact⟨_,.bool _ _,by simp[binOp,Op.intArith,Op.intBits,Op.intCmp]⟩
theorem UR{xo yo:Operand}{y:AV}(hx:Rel H ι x u)(hy:Rel H ι y v)(h:AX op x y=some r):
 ∃z,Rel H ι r z/\(do eqGuard op T xo yo u v;binOp op T u v:Sem Value).run P w=.ok z w:=by
 unfold AX at h;split at h
 . rename_i k a k' b
   cases hx;cases hy
   have hk:(isShift op=true\/k=k')/\BH op k a b=some r:=by
    cases e:isShift op with
    |true=>rw[e]at h;exact⟨.inl rfl,h⟩
    |false=>
     rw[e]at h;simp only[qZ3]at h;split at h
     . exact⟨.inr Bm,h⟩
     . cases h
   obtain⟨z,h1,h2⟩:=UQ (P:=P) (w:=w) (H:=H) (ι:=ι) (T:=T) hk.1 hk.2;refine⟨z,h1,?_⟩;have hg:(eqGuard op T xo yo (.int k a) (.int k' b)).run P w=.ok () w:=by unfold eqGuard;cases op<;>simp
   rw[qQ9,hg];exact h2
 . rename_i a b
   cases hx;cases hy
   have hg:(eqGuard op T xo yo (.string a) (.string b)).run P w=.ok () w:=by unfold eqGuard;cases op<;>simp
   split at h
   . simp at h;subst h;exact⟨_,.bool _ _,by rw[qQ9,hg,q57,binOp_string_eql];rfl⟩
   . simp at h;subst h;exact⟨_,.bool _ _,by rw[qQ9,hg,q57,binOp_string_neq];rfl⟩
   . cases h
 . cases h
end Go.Proofs.YtbbfelelocccmaaGreat.Sv
