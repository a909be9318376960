/-
  NO PACKAGE VARIABLES ARE LOOKED INTO: own work, over no program.
-/
import Derived.Calls
import Derived.Orders
import Derived.Laws.Sem
import Derived.Laws.World
import Derived.Laws.Cells
import Derived.Laws.Rows
import Derived.Laws.AppendOwn
import Derived.Laws.MakeOwn
import Derived.Laws.Slices
import Derived.Laws.Small
import Derived.Laws.Strings
import Derived.Laws.StructEq
import Derived.WalkKit
set_option linter.unusedVariables false
set_option linter.unusedSimpArgs false
set_option maxRecDepth 100000
set_option maxHeartbeats 2000000
namespace Go.Proofs.YtbbfelelocccmaaGreat.Sv
open Go
abbrev q00:=@Array.getElem?_setIfInBounds_ne
abbrev q01:=@List.eq_nil_of_length_eq_zero
abbrev q02:=@List.getElem?_append_right
abbrev q03:=@Array.getElem?_eq_some_iff
abbrev q04:=@Array.getElem?_append_left
abbrev q05:=@List.getElem?_eq_some_iff
abbrev q06:=@List.getElem?_append_left
abbrev q07:=@List.drop_eq_getElem_cons
abbrev q08:=@List.mem_or_eq_of_mem_set
abbrev q09:=@List.getElem?_eq_none_iff
abbrev q10:=@List.isEmpty_eq_false_iff
abbrev q11:=@List.getElem?_zip_eq_some
abbrev q12:=@Array.getElem?_eq_getElem
abbrev q13:=@List.getElem?_eq_getElem
abbrev q14:=@List.getElem?_take_of_lt
abbrev q15:=@List.eq_of_mem_replicate
abbrev q16:=@decide_eq_false_iff_not
abbrev q17:=@List.getElem?_cons_succ
abbrev q18:=@List.length_eq_zero_iff
abbrev q19:=@List.getElem?_replicate
abbrev q20:=@List.take_of_length_le
abbrev q21:=@List.getElem?_set_self
abbrev q22:=@Option.map_eq_some_iff
abbrev q23:=@MapKept.run_getObj_map
abbrev q24:=@MapKept.run_setObj_map
abbrev q25:=@Nat.eq_of_beq_eq_true
abbrev q26:=@List.getElem?_eq_none
abbrev q27:=@List.mem_iff_getElem?
abbrev q28:=@Nat.le_of_ble_eq_true
abbrev q29:=@Array.getElem?_toList
abbrev q30:=@List.length_replicate
abbrev q31:=@List.contains_iff_mem
abbrev q32:=@List.take_append_drop
abbrev q33:=@List.mem_of_getElem?
abbrev q34:=@Nat.mul_le_mul_right
abbrev q35:=@List.getElem?_of_mem
abbrev q36:=@List.getElem?_set_ne
abbrev q37:=@List.getElem?_zipIdx
abbrev q38:=@Bool.or_eq_false_iff
abbrev q39:=@List.dropLast_subset
abbrev q40:=@beq_eq_false_iff_ne
abbrev q41:=@Int.toNat_of_nonneg
abbrev q42:=@List.map_congr_left
abbrev q43:=@List.length_pos_iff
abbrev q44:=@List.getElem?_range
abbrev q45:=@Array.length_toList
abbrev q46:=@Int.natCast_nonneg
abbrev q47:=@List.mem_singleton
abbrev q48:=@List.length_append
abbrev q49:=@List.getElem?_drop
abbrev q50:=@Bool.false_eq_true
abbrev q51:=@Nat.lt_of_lt_of_le
abbrev q52:=@List.filter_append
abbrev q53:=@Option.some.injEq
abbrev q54:=@List.getElem?_map
abbrev q55:=@Int.toNat_natCast
abbrev q56:=@decide_eq_true_eq
abbrev q57:=@Result.andThen_ok
abbrev q58:=@of_decide_eq_true
abbrev q59:=@List.take_add_one
abbrev q60:=@List.getElem?_set
abbrev q61:=@Bool.not_eq_true'
abbrev q62:=@List.ext_getElem?
abbrev q63:=@List.append_assoc
abbrev q64:=@Bool.eq_false_iff
abbrev q65:=@List.nodup_append
abbrev q66:=@Bool.and_eq_true
abbrev q67:=@List.all_eq_true
abbrev q68:=@Nat.zero_lt_succ
abbrev q69:=@List.length_take
abbrev q70:=@List.length_cons
abbrev q71:=@List.take_length
abbrev q72:=@Option.getD_some
abbrev q73:=@List.cons_append
abbrev q74:=@List.any_eq_true
abbrev q75:=@IntKind.wrap_u32
abbrev q76:=@List.length_map
abbrev q77:=@List.map_append
abbrev q78:=@List.mem_append
abbrev q79:=@List.range_succ
abbrev q80:=@Option.map_some
abbrev q81:=@Bool.or_eq_true
abbrev q82:=@List.sum_append
abbrev q83:=@List.length_set
abbrev q84:=@List.length_nil
abbrev q85:=@List.foldl_cons
abbrev q86:=@Option.some.inj
abbrev q87:=@List.prefix_rfl
abbrev q88:=@List.cons.injEq
abbrev q89:=@decide_eq_false
abbrev q90:=@List.mem_filter
abbrev q91:=@List.append_nil
abbrev q92:=@List.all_append
abbrev q93:=@List.nodup_cons
abbrev q94:=@List.mem_range
abbrev q95:=@List.drop_zero
abbrev q96:=@decide_eq_true
abbrev q97:=@Bool.and_false
abbrev q98:=@Prod.mk.injEq
abbrev q99:=@List.mem_cons
abbrev qQ0:=@List.map_cons
abbrev qQ1:=@List.all_cons
abbrev qQ2:=@List.sum_cons
abbrev qQ3:=@Nat.add_assoc
abbrev qQ4:=@Bool.and_true
abbrev qQ5:=@Bool.true_and
abbrev qQ6:=@Bool.false_or
abbrev qQ7:=@Bool.not_true
abbrev qQ8:=@Nat.zero_add
abbrev qQ9:=@Sem.run_bind
abbrev qX0:=@Nat.le_of_lt
abbrev qX1:=@Sem.run_pure
abbrev qX2:=@Nat.le_trans
abbrev qX3:=@List.mem_map
abbrev qX4:=@Nat.lt_or_ge
abbrev qX5:=@Nat.add_zero
abbrev qX6:=@Bool.or_true
abbrev qX7:=@List.all_nil
abbrev qX8:=@Oper.wp_mono
abbrev qX9:=@List.map_nil
abbrev qZ0:=@Nat.le_refl
abbrev qZ1:=@Nat.zero_le
abbrev qZ2:=@Nat.add_mul
abbrev qZ3:=@cond_false
abbrev qZ4:=@beq_iff_eq
abbrev qZ5:=@Nat.ble_eq
abbrev qZ6:=@Nat.blt_eq
abbrev qZ7:=@cond_true
abbrev qZ8:=@if_true
abbrev qZ9:=@if_neg
abbrev qK0:=@if_pos
variable {p : Prop}
theorem z0q(h:p:=by repeat(first|exact trivial|refine⟨(by first|exact Qb _ _|exact(show Bs EF [2] [2]from AX (by decide))|exact(show Bs EF [3] [3]from AX (by decide))|exact(show Bs EF [4] [4]from AX (by decide))|exact(show Bs EF [5] [5]from AX (by decide))|exact(show Bs EF [6] [6]from AX (by decide))|exact(show Bs EF [7] [7]from AX (by decide))|exact(show Bs EF [8] [8]from AX (by decide))|exact(show Bs EF [9] [9]from AX (by decide))|exact(show Bs EF [10] [10]from AX (by decide))|exact(show Bs EF [11] [11]from AX (by decide))|exact(show Bs EF [12] [12]from AX (by decide))|exact(show Bs EF [13] [13]from AX (by decide))|exact(show Bs EF [14] [14]from AX (by decide))|exact(show Bs EF [15] [15]from AX (by decide))|exact AX (by decide)|exact Qa (by decide) (by decide)|exact AX (by first|rw[nN];decide|rw[nM];decide|rw[nL];decide|rw[nK];decide)),(by first|exact Qb _ _|exact(show Bs EF [2] [2]from AX (by decide))|exact(show Bs EF [3] [3]from AX (by decide))|exact(show Bs EF [4] [4]from AX (by decide))|exact(show Bs EF [5] [5]from AX (by decide))|exact(show Bs EF [6] [6]from AX (by decide))|exact(show Bs EF [7] [7]from AX (by decide))|exact(show Bs EF [8] [8]from AX (by decide))|exact(show Bs EF [9] [9]from AX (by decide))|exact(show Bs EF [10] [10]from AX (by decide))|exact(show Bs EF [11] [11]from AX (by decide))|exact(show Bs EF [12] [12]from AX (by decide))|exact(show Bs EF [13] [13]from AX (by decide))|exact(show Bs EF [14] [14]from AX (by decide))|exact(show Bs EF [15] [15]from AX (by decide))|exact AX (by decide)|exact Qa (by decide) (by decide)|exact AX (by first|rw[nN];decide|rw[nM];decide|rw[nL];decide|rw[nK];decide)),?_⟩)):p:=h
theorem yw(h:p:=by repeat(first|exact trivial|refine⟨(by first|exact Qb _ _|exact(show Bs Ev [2] [2]from AX (by decide))|exact(show Bs Ev [3] [3]from AX (by decide))|exact(show Bs Ev [4] [4]from AX (by decide))|exact(show Bs Ev [5] [5]from AX (by decide))|exact(show Bs Ev [6] [6]from AX (by decide))|exact(show Bs Ev [7] [7]from AX (by decide))|exact(show Bs Ev [8] [8]from AX (by decide))|exact(show Bs Ev [9] [9]from AX (by decide))|exact(show Bs Ev [10] [10]from AX (by decide))|exact(show Bs Ev [11] [11]from AX (by decide))|exact(show Bs Ev [12] [12]from AX (by decide))|exact(show Bs Ev [13] [13]from AX (by decide))|exact(show Bs Ev [14] [14]from AX (by decide))|exact(show Bs Ev [15] [15]from AX (by decide))|exact AX (by decide)|exact Qa (by decide) (by decide)|exact AX (by first|rw[nQ];decide|rw[nP];decide|rw[nO];decide)),(by first|exact Qb _ _|exact(show Bs Ev [2] [2]from AX (by decide))|exact(show Bs Ev [3] [3]from AX (by decide))|exact(show Bs Ev [4] [4]from AX (by decide))|exact(show Bs Ev [5] [5]from AX (by decide))|exact(show Bs Ev [6] [6]from AX (by decide))|exact(show Bs Ev [7] [7]from AX (by decide))|exact(show Bs Ev [8] [8]from AX (by decide))|exact(show Bs Ev [9] [9]from AX (by decide))|exact(show Bs Ev [10] [10]from AX (by decide))|exact(show Bs Ev [11] [11]from AX (by decide))|exact(show Bs Ev [12] [12]from AX (by decide))|exact(show Bs Ev [13] [13]from AX (by decide))|exact(show Bs Ev [14] [14]from AX (by decide))|exact(show Bs Ev [15] [15]from AX (by decide))|exact AX (by decide)|exact Qa (by decide) (by decide)|exact AX (by first|rw[nQ];decide|rw[nP];decide|rw[nO];decide)),?_⟩)):p:=h
theorem z2q(h:p:=by repeat(first|exact trivial|refine⟨⟨by first|rfl|exact Cz rfl|exact congrArg (fun es=>some (rt 1 es)) (vq hgi hfg)|exact congrArg (fun es=>some (rt 1 es)) (vp hgi hfg)|exact congrArg (fun w=>some (rt 1 (iC _ w))) (wb hgi hfg)|exact congrArg (fun es=>some (rt 1 es)) ((Lw true).trans (congrArg (bC _) (mO hgi hfg)))|exact congrArg (fun w=>some (rt 1 (bC _ w))) (mP hgi (by omega)),by first|rfl|exact Ak (fun _ _=>Bz (AA _) _ _)|exact Ak (fun _ _=>Bm (AA _) _ _ _ _)|exact Ak (fun _ _=>CG (AA _) _ _)|exact Gr _⟩,?_⟩)):p:=h
theorem z3q(h:p:=by repeat(first|exact trivial|refine⟨⟨by first|rfl|exact Cz rfl|(rw[hnx2];first|rfl|exact Cz rfl|((try simp only[AQ]);repeat(first|rfl|exact AB _ _ _|refine AP (by exact AR (by omega)) ?_|refine hrm_skip (by omega) ?_|refine(Dy _ (fun i_ _=>by first|omega|(dsimp only;omega))).trans ?_))),by first|rfl|exact Ak (fun _ _=>Bz (AA _) _ _)|exact Ak (fun _ _=>Bm (AA _) _ _ _ _)|exact Ak (fun _ _=>CG (AA _) _ _)|exact Gr _⟩,?_⟩)):p:=h
theorem z4q(h:p:=by repeat(first|exact trivial|refine⟨⟨by first|rfl|exact congrArg (fun es=>some (rt 1 es)) (Lw true)|((try simp only[AQ]);repeat(first|rfl|exact AB _ _ _|refine AP (by exact AR (by omega)) ?_|refine hrm_skip (by omega) ?_|refine(Dy _ (fun i_ _=>by first|omega|(dsimp only;omega))).trans ?_)),by first|rfl|exact Ak (fun _ _=>Bz (AA _) _ _)|exact Ak (fun _ _=>Bm (AA _) _ _ _ _)|exact Ak (fun _ _=>CG (AA _) _ _)|exact Gr _⟩,?_⟩)):p:=h
theorem z5q(h:p:=by repeat(first|exact trivial|refine⟨⟨by first|rfl|exact Cz rfl|((try simp only[AQ]);repeat(first|rfl|exact AB _ _ _|refine AP (by exact AR (by omega)) ?_|refine hrm_skip (by omega) ?_|refine(Dy _ (fun i_ _=>by first|omega|(dsimp only;omega))).trans ?_)),by first|rfl|exact Ak (fun _ _=>Bz (AA _) _ _)|exact Ak (fun _ _=>Bm (AA _) _ _ _ _)|exact Ak (fun _ _=>CG (AA _) _ _)|exact Gr _⟩,?_⟩)):p:=h
theorem z6q(h:p:=by repeat(first|exact trivial|refine⟨⟨by first|rfl|((try simp only[AQ]);repeat(first|rfl|exact AB _ _ _|refine AP (by exact AR (by omega)) ?_|refine hrm_skip (by omega) ?_|refine(Dy _ (fun i_ _=>by first|omega|(dsimp only;omega))).trans ?_)),by first|rfl|exact Ak (fun _ _=>Bz (AA _) _ _)|exact Ak (fun _ _=>Bm (AA _) _ _ _ _)|exact Ak (fun _ _=>CG (AA _) _ _)|exact Gr _⟩,?_⟩)):p:=h
theorem z7q(h:p:=by repeat(first|exact EDropK.new _ _|refine EDropK.put ?_ (by first|rfl|exact congrArg (fun m=>some (AV.ref 8 _ 0 m)) (by rw[<-QA hgi hfg,q48];rfl)|exact congrArg (fun l:List Nat=>some (AV.ref 8 _ 0 l.length)) (QB hgi (by omega))|exact congrArg (fun(n:Nat)=>some (AV.int .i64 (n:Int))) (by simp)) (by first|rfl|exact Bm (AA _) _ _ _ _))):p:=h
theorem z8q(h:p:=by repeat(first|exact HSub.refl _|exact HSub.none _|exact AO _|exact AG (by first|decide|omega|(dsimp only;omega))|refine HSub.put ?_ (by first|rfl|exact congrArg (fun es=>some (rt 1 es)) (VM _))|refine AN ?_ (by first|decide|omega|(dsimp only;omega))|refine Bh ?_ (by decide))):p:=h
theorem z9q(h:p:=by repeat(first|exact HSub.refl _|exact HSub.none _|exact AO _|exact AG (by first|decide|omega|(dsimp only;omega))|refine HSub.put ?_ (by first|rfl|(rw[TA hge];rfl))|refine AN ?_ (by first|decide|omega|(dsimp only;omega))|refine Bh ?_ (by decide))):p:=h
theorem S1(h:p:=by intro c h1 h2;rcases(by omega:c=8\/c=9\/c=10\/c=11\/c=12\/c=13\/c=14\/c=15)with rfl|rfl|rfl|rfl|rfl|rfl|rfl|rfl<;>first|rfl|(try simp only[AQ];repeat(first|rfl|refine AP (by exact AR (by omega)) ?_|refine hrm_skip (by omega) ?_))):p:=h
theorem yB(h:p:=by repeat(first|exact HDrop.none _ _|exact HDrop.tail _ _|refine HDrop.put ?_ (by first|rfl|exact congrArg (fun x=>some (rf 2 [BFunc.cells x])) (NI f hp).symm) rfl (by first|rfl|exact C7 _ _|exact NS _|exact NZ _ _ rfl rfl|exact NQ _ _ _ rfl rfl rfl))):p:=h
theorem ej(h:p:=by intro c h1 h2;rcases(by omega:c=9\/c=10\/c=11\/c=12\/c=13\/c=14\/c=15)with rfl|rfl|rfl|rfl|rfl|rfl|rfl<;>first|rfl|(try simp only[AQ];repeat(first|rfl|refine AP (by exact AR (by omega)) ?_|refine hrm_skip (by omega) ?_))):p:=h
theorem B5(h:p:=by repeat(first|exact HSub.refl _|exact HSub.none _|exact AO _|exact AG (by first|decide|omega|(dsimp only;omega))|refine HSub.put ?_ (by rfl)|refine AN ?_ (by first|decide|omega|(dsimp only;omega))|refine Bh ?_ (by decide))):p:=h
theorem yA(h:p:=by intro x_;rw[hnx2];(try simp only[AQ]);(try dsimp only);first|exact(Gg _ _ x_).trans (Ay _ _ _)|exact Ay _ _ _|((repeat(first|refine AP (by exact AR (by omega)) ?_|refine hrm_skip (by omega) ?_));exact(Gg _ _ x_).trans (Ay _ _ _))):p:=h
theorem yz(h:p:=by repeat(first|exact EDropK.new _ _|refine EDropK.put ?_ (by first|rfl|exact congrArg (fun m=>some (AV.ref 8 _ 0 m)) (by rw[q48];rfl)|exact congrArg (fun(n:Nat)=>some (AV.int .i64 (n:Int))) (by simp)) (by first|rfl|exact Bz (AA _) _ _))):p:=h
theorem My(h:p:=by intro c h1 h2;rcases(by omega:c=10\/c=11\/c=12\/c=13\/c=14\/c=15)with rfl|rfl|rfl|rfl|rfl|rfl<;>first|rfl|(try simp only[AQ];repeat(first|rfl|refine AP (by exact AR (by omega)) ?_|refine hrm_skip (by omega) ?_))):p:=h
theorem yx(h:p:=by repeat(first|exact trivial|refine⟨⟨by first|rfl|exact Cz rfl,by first|rfl|exact Ak (fun _ _=>Bz (AA _) _ _)|exact Ak (fun _ _=>Bm (AA _) _ _ _ _)|exact Ak (fun _ _=>CG (AA _) _ _)⟩,?_⟩)):p:=h
theorem uV(h:p:=by repeat(first|exact trivial|refine⟨⟨by rfl,by first|rfl|exact Ak (fun _ _=>Bz (AA _) _ _)|exact Ak (fun _ _=>Bm (AA _) _ _ _ _)|exact Ak (fun _ _=>CG (AA _) _ _)|exact Gr _⟩,?_⟩)):p:=h
theorem pb(h:p:=by intro x_;(try simp only[AQ]);(try dsimp only);first|exact Ay _ _ _|exact(M6 _ _ x_).trans (Ay _ _ _)|((repeat(first|refine AP (by exact AR (by omega)) ?_|refine hrm_skip (by omega) ?_));exact Ay _ _ _)):p:=h
theorem IH(h:p:=by intro x_;(try simp only[AQ]);(try dsimp only);first|exact Ay _ _ _|exact(Gg _ _ x_).trans (Ay _ _ _)|((repeat(first|refine AP (by exact AR (by omega)) ?_|refine hrm_skip (by omega) ?_));exact Ay _ _ _)):p:=h
theorem yu(h:p:=by rcases(by omega:a/2^k%2=0\/a/2^k%2=1)with h1|h1<;>rcases(by omega:b/2^k%2=0\/b/2^k%2=1)with h2|h2<;>(try simp_all[iu])<;>first|(rw[bne_iff_ne.2 ‹¬op=11›];rfl)|(rw[bne_iff_ne.2 ‹¬op=9›];rfl)):p:=h
theorem yt(h:p:=by repeat(first|exact ESub.new _|refine ESub.put ?_ (by first|rfl|exact congrArg (fun m:Nat=>some (AV.int .i64 (m:Int))) ((q76 _).trans (AZ f))|exact congrArg (fun(n:Nat)=>some (AV.int .i64 (n:Int))) (by simp)))):p:=h
theorem yr(h:p:=by repeat(first|exact EDropK.new _ _|refine EDropK.put ?_ (by first|rfl|exact congrArg (fun z=>some (AV.bool z)) (by rw[hnx2];first|done|rfl|(simp[hss,hr];done)|simp[hss,hr])) (by first|rfl|exact Bm (AA _) _ _ _ _))):p:=h
theorem B7(h:p:=by(try simp only[AQ]);repeat(first|rfl|exact AB _ _ _|refine AP (by exact AR (by omega)) ?_|refine hrm_skip (by omega) ?_|refine(Dy _ (fun i_ _=>by first|omega|(dsimp only;omega))).trans ?_)):p:=h
theorem uU(h:p:=by repeat(first|exact trivial|refine⟨⟨by rfl,by first|rfl|exact Ak (fun _ _=>Bz (AA _) _ _)|exact Ak (fun _ _=>Bm (AA _) _ _ _ _)|exact Ak (fun _ _=>E7 (AA _) _ _ _)⟩,?_⟩)):p:=h
theorem uT(h:p:=by repeat(first|exact trivial|refine⟨⟨by rfl,by first|rfl|exact Ak (fun _ _=>Bz (AA _) _ _)|exact Ak (fun _ _=>Bm (AA _) _ _ _ _)|exact Ak (fun _ _=>CG (AA _) _ _)⟩,?_⟩)):p:=h
theorem yq(h:p:=by repeat(first|exact EDropK.new _ _|refine EDropK.put ?_ (by first|rfl|exact congrArg (fun z=>some (AV.bool z)) (qT hne)|exact congrArg (fun z=>some (AV.bool z)) (wm heq)) (by first|rfl|exact Eb _ _ _ _))):p:=h
theorem yp(h:p:=by intro c h1 h2;rcases(by omega:c=13\/c=14\/c=15)with rfl|rfl|rfl<;>first|rfl|(try simp only[AQ];repeat(first|rfl|refine AP (by exact AR (by omega)) ?_|refine hrm_skip (by omega) ?_))):p:=h
theorem FM(h:p:=by repeat(first|exact HDrop.none _ _|exact HDrop.tail _ _|refine HDrop.put ?_ (by rfl) rfl (by first|rfl|exact C7 _ _|exact NS _|exact NZ _ _ rfl rfl|exact NQ _ _ _ rfl rfl rfl))):p:=h
theorem uS(h:p:=by repeat(first|exact EDropK.new _ _|refine EDropK.put ?_ (by first|rfl|exact congrArg (fun x=>some (AV.int .i64 x)) (KV hil (by simp only[maxLen];omega))) (by first|rfl|exact Yk _ _))):p:=h
theorem yn(h:p:=by intro x_;(try simp only[AQ]);(try dsimp only);first|exact Ay _ _ _|((repeat(first|refine AP (by exact AR (by omega)) ?_|refine hrm_skip (by omega) ?_));exact Ay _ _ _)):p:=h
theorem uR(h:p:=by have h:=(Ez (c.at' i) k).kl;first|omega|(have h2:=(K4 (v:=RVal.reg k 0) (L:=(Bv (c.at' i) (k)).L)).2.1;show(Cd (Bv (c.at' i) (k)).L (RVal.reg k 0)).2.length<=_;omega)):p:=h
theorem ym(h:p:=by repeat(first|exact HSub.none _|exact AO _|exact AG (by decide)|refine HSub.put ?_ (by rfl)|refine AN ?_ (by decide)|refine Bh ?_ (by decide))):p:=h
theorem jn(h:p:=by repeat(first|exact trivial|refine⟨⟨by first|rfl|exact I6 rfl,by first|rfl|exact Ak (fun _ _=>Eb _ _ _ _)|exact Ak (fun _ _=>DI _ _ _)⟩,?_⟩)):p:=h
theorem o9(h:p:=by repeat(first|exact HDrop.none _ _|exact HDrop.tail _ _|refine HDrop.put ?_ (by rfl) rfl (by first|rfl|exact C7 _ _|exact QV _ rfl|exact QS _ _ _ rfl rfl rfl))):p:=h
theorem o8(h:p:=by(try simp only[AQ]);(repeat(first|refine AP (by exact AR (by omega)) ?_|refine hrm_skip (by omega) ?_));exact(Ay _ _ _).trans (congrArg some (Z7 hb hx))):p:=h
theorem Vk(h:p:=by repeat(first|exact trivial|refine⟨⟨by rfl,by first|rfl|exact Ak (fun _ _=>Eb _ _ _ _)|exact Ak (fun _ _=>DI _ _ _)⟩,?_⟩)):p:=h
theorem Hw(h:p:=by intro x_;(try simp only[AQ]);repeat(first|exact Ay _ _ _|refine AP (by exact AR (by omega)) ?_|refine hrm_skip (by omega) ?_)):p:=h
theorem jm(h:p:=by intro y_;(try simp only[AQ]);repeat(first|exact Ay _ _ _|refine AP (by exact AR (by omega)) ?_|refine hrm_skip (by omega) ?_)):p:=h
theorem Vj(h:p:=by repeat(first|exact HSub.none _|exact AO _|exact AG (by decide)|refine HSub.put ?_ (by rfl)|refine AN ?_ (by decide))):p:=h
theorem yk(h:p:=by repeat(first|exact ESub.new _|refine ESub.put ?_ (by first|rfl|exact congrArg some (vM hi0 hlast hS1)|(rw[Km,GH];rfl)))):p:=h
theorem yj(h:p:=by show _=some (rf 4 [[.ptr 4 1 0 0,Bo jv (A5 (A4 w.regs t.d _)),Bo jo ((w.div t).out.map REff.cells),.int .i64 w.time]]);rw[MF];rfl):p:=h
theorem Cq(h:p:=by repeat(first|exact ESub.new _|refine ESub.put ?_ (by first|rfl|exact congrArg (fun(n:Nat)=>some (AV.int .i64 (n:Int))) (by simp)))):p:=h
theorem yi(h:p:=by repeat(first|exact ESub.new _|refine ESub.put ?_ (by first|rfl|exact congrArg (fun(n:Nat)=>some (AV.int .u32 (n:Int))) (by simp)))):p:=h
theorem yh(h:p:=by repeat(first|exact ESub.new _|refine ESub.put ?_ (by first|rfl|exact congrArg (fun m:Nat=>some (AV.int .i64 (m:Int))) (by simp)))):p:=h
theorem uQ(h:p:=by have:=Wi (SB f) f.blocks.length v;have e:P4 (SB f) f.blocks.length v=Hn f v:=rfl;rw[e]at this;simp only[maxLen];omega):p:=h
theorem o7(h:p:=by first|rfl|exact congrArg (fun es=>some (rt 1 es)) (T4 _ _ _)|exact congrArg (fun es=>some (rt 1 es)) (Z3 _ _ _ _)):p:=h
theorem D5(h:p:=by repeat(first|exact EDrop.new _ _|refine EDrop.put ?_ (by rfl) (by first|rfl|exact Cb _ rfl|exact NT _ rfl))):p:=h
theorem uP(h:p:=by intro e w4 he;cases e<;>first|exact he|exact hpost _ _ _ he|(obtain⟨a3,w5,hp3⟩:=he;exact⟨a3,w5,hpost _ _ _ hp3⟩)):p:=h
theorem yg(h:p:=by unfold Tac.callOk;first|(simp_all[Tac.same,GY];done)|(simp_all[Tac.same,GY];intro h0_;exfalso;omega)):p:=h
theorem yf(h:p:=by repeat(first|exact trivial|refine⟨by first|rfl|exact congrArg (fun es=>some (rt 1 es)) (Lw false),?_⟩)):p:=h
theorem AE(h:p:=by first|rfl|exact C7 _ _|exact NS _|exact NZ _ _ rfl rfl|exact NQ _ _ _ rfl rfl rfl):p:=h
theorem ye(h:p:=by show(List.map (fun b=>[AV.int .i64 b]) p)[_]?=_;rw[q55,q54,RV hpin.1];rfl):p:=h
theorem yd(h:p:=by simp only[qQ1,qX7,qQ4];exact og (by show mem _ _=true;exact PX _) rfl):p:=h
theorem yc(h:p:=by rw[show w2.heap.size=w.heap.size by show(w1.heap.setIfInBounds rb _).size=_;rw[hw1h.1];simp];exact hrblt):p:=h
theorem uO(h:p:=by rw[show w2.heap.size=w.heap.size by show(w1.heap.setIfInBounds rb _).size=_;rw[hw1h.1];simp];exact hmlt):p:=h
theorem yb(h:p:=by rw[q55];show(List.map (fun b=>[AV.int .i64 b]) p)[k+1]?=_;rw[q54,hz];rfl):p:=h
theorem ya(h:p:=by intro i v hv hw;have:=h (i+1) v (by simpa using hv) hw;rwa[Nat.add_right_comm k 1 i,qQ3 k i 1]):p:=h
theorem x9(h:p:=by repeat(first|exact EDropK.new _ _|refine EDropK.put ?_ (by rfl) (by first|rfl|exact Eb _ _ _ _))):p:=h
theorem x8(h:p:=by rw[q55];show((Hn f v).map (Zb R (SB f) v))[_]?=_;rw[q54,hgi];rfl):p:=h
theorem o4(h:p:=by repeat(first|exact NoMap.none|exact NoMap.new|refine NoMap.put ?_ _ rfl|refine oo ?_ _)):p:=h
theorem xZ(h:p:=by show(List.map (fun b=>[AV.int .i64 b]) (DM paths 0))[0]?=_;rw[q54,hp01];rfl):p:=h
theorem xY(h:p:=by intro b hb;obtain⟨q,q1,q2⟩:=hA b hb;exact⟨q,(M8 hb).trans q1,(hH b hb).trans q1,q2⟩):p:=h
theorem xX(h:p:=by show(List.map (fun b=>[AV.int .i64 b]) (DM paths k))[0]?=_;rw[q54,hp0];rfl):p:=h
theorem xW(h:p:=by rw[qQ8,q55];exact(FA hkl).trans (congrArg some (mz _ _ _))):p:=h
theorem xV(h:p:=by rw[qQ8,q55];exact(FA hkl).trans (congrArg some (p4 _ _ _))):p:=h
theorem uN(h:p:=by simp only[A8,BP,isShift,qZ3,qZ8];rw[B8 (by omega) (by omega)]):p:=h
theorem xU(h:p:=by have h1:=Kw x.ins j;have h2:=hi x hxm;simp[A6];simp only[maxLen];omega):p:=h
theorem A1(h:p:=by first|rfl|exact C7 _ _|exact QV _ rfl|exact QS _ _ _ rfl rfl rfl):p:=h
theorem F6(h:p:=by exact An Ah rfl rfl rfl rfl rfl rfl (q46 _) (Au (by assumption)) rfl):p:=h
theorem xT(h:p:=by first|rfl|exact congrArg (fun(n:Nat)=>some (AV.int .i64 (n:Int))) (by simp)):p:=h
theorem J7(h:p:=by repeat(first|exact EDropK.new _ _|refine EDropK.put ?_ (by rfl) (by first|rfl))):p:=h
theorem xS(h:p:=by first|exact fun _=>HE hvf|(exact fun hf=>absurd hf (by simpa using hvf))):p:=h
theorem xR(h:p:=by rw[qQ8,q55];exact(FA hkl).trans (congrArg some rfl)):p:=h
theorem Zm(h:p:=by have h1:=hxd.2.2.1;have h0:=hxd.1;show t.d.toNat<(A5 w.regs).length;omega):p:=h
theorem xQ(h:p:=by rw[q76];have:=Mv f k j d.toNat;show(_+1)*8<=_;omega):p:=h
theorem xP(h:p:=by simp only[q16,q56,q76]at*;omega):p:=h
theorem xO(h:p:=by rw[q76];have:=Mv f k j d.toNat;simp only[maxLen];omega):p:=h
theorem Vi(h:p:=by repeat(first|exact trivial|refine⟨by first|rfl|exact Cz rfl,?_⟩)):p:=h
theorem xN(h:p:=by first|rfl|exact congrArg (fun m=>some (rf 1 [[AV.ref 4 _ 0 m]])) (by simp)):p:=h
theorem xM(h:p:=by simp only[A8,BP,isShift,qZ7,qZ9 (show ¬b<0 by omega)]):p:=h
theorem xL(h:p:=by first|exact fun _=>HE hag|(exact fun h=>by rw[hag]at h;cases h)):p:=h
theorem xK(h:p:=by rw[q83];exact AL (Bc f reach) (qX0 hkl)):p:=h
theorem B9(h:p:=by repeat(first|exact fun b hb=>aW hb|refine Ac ?_ rfl)):p:=h
theorem Vh(h:p:=by repeat(first|exact EDrop.new _ _|refine EDrop.put ?_ (by rfl) rfl)):p:=h
theorem uM(h:p:=by show(AM f b).length-(p.j+1)<(AM f b).length-p.j;omega):p:=h
theorem uL(h:p:=by repeat(first|exact ESub.new _|refine ESub.put ?_ (by first|rfl))):p:=h
theorem eh(h:p:=by rw[q48,q76,List.length_singleton];omega):p:=h
theorem o3(h:p:=by rw[q76,q69];show(_+1)*24<=_;omega):p:=h
theorem jl(h:p:=by show _=some (BU 1 (A5 (A4 w.regs t.d _)));rw[W4];rfl):p:=h
theorem DB(h:p:=by exact vK Ah rfl rfl rfl rfl rfl rfl (by decide) rfl rfl rfl rfl rfl rfl):p:=h
theorem oZ(h:p:=by show _=some (Il (A5 (A4 w.vals t.d _)));rw[W4];rfl):p:=h
theorem oW(h:p:=by rw[q76,q69];simp only[maxLen];omega):p:=h
theorem uK(h:p:=by simp[DN,Pr (qX0 hkl),DQ]):p:=h
theorem Zl(h:p:=by repeat(first|exact trivial|refine⟨⟨_,rfl,rfl,rfl⟩,?_⟩)):p:=h
theorem B4(h:p:=by repeat(first|exact ESub.new _|refine ESub.put ?_ (by rfl))):p:=h
theorem oV(h:p:=by rw[BF,Gv,C0,AZ]):p:=h
theorem d9(h:p:=by first|rfl|exact Cb _ rfl|exact NT _ rfl):p:=h
theorem Cf(h:p:=by repeat(first|exact R3 _|refine OD rfl ?_)):p:=h
theorem Ql(h:p:=by repeat(first|exact trivial|refine⟨⟨_,rfl,rfl⟩,?_⟩)):p:=h
theorem jD(h:p:=by rw[qQ8,q55];exact EE hkl):p:=h
theorem jC(h:p:=by rw[qQ8,q55];exact EE ha2):p:=h
theorem Qk(h:p:=by exact XA Ah rfl rfl rfl rfl rfl rfl (by decide) rfl rfl):p:=h
theorem cg(h:p:=by rw[qQ8,q55];exact FA hj):p:=h
theorem IU(h:p:=by rw[qQ8,q55];exact EE hb):p:=h
theorem Tr(h:p:=by rw[qQ8,q55];exact EE hv):p:=h
theorem jB(h:p:=by rw[h.len];exact(q05.1 hi).1):p:=h
theorem O5(h:p:=by repeat(first|exact trivial|refine⟨by rfl,?_⟩)):p:=h
theorem LM(h:p:=by rw[qQ8,q55];exact lM):p:=h
theorem cf(h:p:=by simp[DN,Pr (qX0 hkl)]):p:=h
theorem jA(h:p:=by have:=bx f b;simp only[maxLen];omega):p:=h
theorem Tq(h:p:=by rw[BF];exact(CD f _).symm):p:=h
theorem O4(h:p:=by intro _ cs h;simp[A6]at h;subst h;rfl):p:=h
theorem C1(h:p:=by first|exact fun _=>rfl|(intro h;cases h)):p:=h
theorem LL(h:p:=by intro i_ _;first|omega|(dsimp only;omega)):p:=h
theorem Tp(h:p:=by rw[q76];simp only[maxLen];omega):p:=h
theorem ce(h:p:=by simp only[maxLen];have:=Ot x;omega):p:=h
theorem O3(h:p:=by intro cs h;simp[A6]at h;subst h;rfl):p:=h
theorem jz(h:p:=by have:=W6 t;simp only[maxLen];omega):p:=h
theorem To(h:p:=by have h1:=hxd.2.2.1;have h0:=hxd.1;omega):p:=h
theorem Dl(h:p:=by first|decide|omega|(dsimp only;omega)):p:=h
theorem jy(h:p:=by rw[q76];show _*48<=_;omega):p:=h
theorem jx(h:p:=by simp_all[Tac.rest,GP,EP]<;>omega):p:=h
theorem ju(h:p:=by simp only[maxLen];have:=hf.2.2.1;omega):p:=h
theorem jt(h:p:=by have:=hi x hxm;simp only[maxLen];omega):p:=h
theorem Hr(h:p:=by rw[ho];simp[Op.operands,Call.operands]):p:=h
theorem js(h:p:=by intro x_;dsimp only;exact Ay _ _ _):p:=h
theorem jr(h:p:=by intro b hb;rw[hH b hb];exact hA b hb):p:=h
theorem JZ(h:p:=by rw[q48,GH];rfl):p:=h
theorem jq(h:p:=by simp only[maxLen];have:=hL.n;omega):p:=h
theorem WW(h:p:=by rw[qQ8];exact EE hdn):p:=h
theorem cd(h:p:=by dsimp only;rw[q77];rfl):p:=h
theorem Tn(h:p:=by show 24*f.blocks.length<=_;omega):p:=h
theorem Tl(h:p:=by exact Aa5 (x:=w.time) (by omega)):p:=h
theorem cc(h:p:=by show 8*f.blocks.length<=_;omega):p:=h
theorem cb(h:p:=by rw[q54,hrow2];rfl):p:=h
theorem ca(h:p:=by rw[hnb];simp[BFunc.newBlock, *]):p:=h
theorem bZ(h:p:=by intro h2;rw[hb]at h2;cases h2):p:=h
theorem Dd(h:p:=by exact AR (by omega)):p:=h
theorem LK(h:p:=by rw[q40];omega):p:=h
theorem Io(h:p:=by rw[q76,hI.lenT]):p:=h
theorem Qj(h:p:=by rw[q69];omega):p:=h
theorem bY(h:p:=by rw[IntKind.wrap_u64];omega):p:=h
theorem BY(h:p:=by rw[ho];simp[Op.operands]):p:=h
theorem Kf(h:p:=by rw[q76];omega):p:=h
theorem Tk(h:p:=by rw[Av,FZ hx]):p:=h
theorem bX(h:p:=by rw[<-Hg hx];exact hsk):p:=h
theorem bW(h:p:=by rw[<-Hg hx];exact hkk):p:=h
theorem Tj(h:p:=by rw[Gl hf];exact hr):p:=h
theorem Bq(h:p:=by simp only[maxLen];omega):p:=h
theorem O2(h:p:=by rw[Fg,hm.len]):p:=h
theorem EU(h:p:=by exact vD Ah rfl rfl rfl rfl):p:=h
theorem Dk(h:p:=by rw[Fg,hlen]):p:=h
theorem JY(h:p:=by rw[H8,hI.lenF]):p:=h
theorem Qi(h:p:=by rw[q76]):p:=h
theorem MA(h:p:=by have:=ha.2;omega):p:=h
theorem Qh(h:p:=by have:=hd.2;omega):p:=h
theorem O1(h:p:=by rw[hd];exact hr):p:=h
theorem Qg(h:p:=by have:=hd;omega):p:=h
theorem O0(h:p:=by have:=ha;omega):p:=h
theorem GZ(h:p:=by intro h;cases h):p:=h
theorem D6(h:p:=by intro h;cases h):p:=h
theorem Ti(h:p:=by intro e;cases e):p:=h
theorem Th(h:p:=by rw[hl];decide):p:=h
theorem Ke(h:p:=by simpa using h2):p:=h
theorem JX(h:p:=by simpa using h1):p:=h
theorem HN(h:p:=by simpa using h):p:=h
theorem Mz(h:p:=by simpa using e):p:=h
theorem B2(h:p:=by rw[ho];rfl):p:=h
theorem Em(h:p:=by simp;omega):p:=h
theorem BR(h:p:=by assumption):p:=h
theorem AF(h:p:=by kernel_rfl):p:=h
theorem IT(h:p:=by simp[hx]):p:=h
theorem IR(h:p:=by simp[hu]):p:=h
theorem Kd(h:p:=by simp_all):p:=h
theorem Al(h:p:=by decide):p:=h
theorem Ab(h:p:=by omega):p:=h
theorem Aq(h:p:=by simp):p:=h
theorem zt0(h:p:=by
 refine aq 115 (Ae Ah rfl rfl rfl rfl rfl rfl rfl (AL (by simp:(f.tpaths.map f.newBlock).length=f.tpaths.length) (qX0 hkl)) rfl (q46 _) Ab) ?_;refine AOps.w rfl rfl (AY Ah rfl rfl rfl rfl rfl rfl (AL (by simp:(f.tpaths.map f.newBlock).length=f.tpaths.length) (qX0 hkl)) (CH (by simp:(f.tpaths.map f.newBlock).length=f.tpaths.length) hkl) rfl Al rfl C1) ?_;refine wk 2 ?_;refine aq 116 (AS rfl rfl hkl Bq) ?_;refine wk 2 ?_;exact⟨k+1,Drop.mk' Vh (by repeat(first|exact HDrop.none _ _|exact HDrop.tail _ _|refine HDrop.put ?_ (by first|rfl|exact absurd (show((f.blockAt (A7 p)).fin==2)=true from ‹_›) (by rw[show((f.blockAt (A7 p)).fin==2)=false from ‹_›];decide)|exact congrArg (fun es=>some (rt 5 es)) (Ct (f:=Block.cells) (x:=⟨f.joined p,(f.blockAt (A7 p)).fin,(f.blockAt (A7 p)).v,(f.blockAt (A7 p)).to,(f.blockAt (A7 p)).els⟩) (by simp:(f.tpaths.map f.newBlock).length=f.tpaths.length) ca)|exact congrArg (fun es=>some (rt 5 es)) (Ct (f:=Block.cells) (x:=⟨f.joined p,(f.blockAt (A7 p)).fin,(f.blockAt (A7 p)).v,(f.blockAt (A7 p)).to,(iget f.nums (f.blockAt (A7 p)).els)⟩) (by simp:(f.tpaths.map f.newBlock).length=f.tpaths.length) ca)|exact congrArg (fun es=>some (rt 5 es)) (Ct (f:=Block.cells) (x:=⟨f.joined p,(f.blockAt (A7 p)).fin,(f.blockAt (A7 p)).v,(iget f.nums (f.blockAt (A7 p)).to),(f.blockAt (A7 p)).els⟩) (by simp:(f.tpaths.map f.newBlock).length=f.tpaths.length) ca)|exact congrArg (fun es=>some (rt 5 es)) (Ct (f:=Block.cells) (x:=⟨f.joined p,(f.blockAt (A7 p)).fin,(f.blockAt (A7 p)).v,(iget f.nums (f.blockAt (A7 p)).to),(iget f.nums (f.blockAt (A7 p)).els)⟩) (by simp:(f.tpaths.map f.newBlock).length=f.tpaths.length) ca)) rfl rfl)),hkl,by omega⟩):p:=h
theorem zt1(h:p:=by
 refine aq 65 (A9 (r:=.int .i64 ((((I2 f v i).length-(m+1):Nat):Int)-1)) rfl rfl rfl (tZ hkk (by have:=PR hx (v:=v);have:=hi x hxm;omega))) ?_;refine wk 2 ?_;exact⟨m+1,DropK.mk' yr (BO (k0:=9) rfl z3q yA (Bw (AA _) f R _ _)),⟨by omega,by rw[hnx2];exact hF.2⟩,Ab⟩):p:=h
theorem xF(h:p:=by
 refine aq 18 (AS rfl rfl hkl (show 32<=maxLen by decide)) ?_;refine wk 2 ?_;exact⟨k+1,Sub.mk' B4 (by repeat(first|exact HSub.refl _|exact HSub.none _|exact AO _|exact AG Dl|refine HSub.put ?_ (by first|rfl|exact congrArg (fun es=>some (rt 1 es)) (ir (c:=[]) hkl yu)|exact congrArg (fun es=>some (rt 1 es)) (iq hkl yu))|refine AN ?_ Dl|refine Bh ?_ Al)),hkl,by omega⟩):p:=h
theorem zt3(h:p:=by
 refine wk 5 ?_;refine aq 76 (Ao Ah rfl rfl rfl (.ptr _ _ _ _ false 2 (Df R S v i++[Lq R v i (S i v)]) (Lq R v i (S i v)) ((Ay _ _ _).trans (congrArg some (Hi))) JZ LM) rfl) ?_;refine wk 2 ?_;refine ax 79 DB ?_;refine ax 80 (CF Ah (b:=(4*(v+R*i)+3+16)) (es:=(S i v).map IJ) rfl rfl rfl rfl rfl rfl rfl rfl ((Ay _ _ _).trans (congrArg some (T7 hv))) rfl rfl (q68 _) (vk _) (H5 fun _=>rfl) rfl rfl (by rw[q76];show(_+1)*16<=_;omega) Tp) ?_;refine wk 2 ?_;refine AOps.w rfl rfl (CS Ah (p:=false) (sz:=2) (es:=(Df R S v i++[Lq R v i (S i v)])) (cs:=Lq R v i (S i v)) rfl rfl rfl rfl rfl rfl (by(try simp only[AQ]);(try dsimp only);(repeat(first|refine AP Dd ?_|refine hrm_skip Ab ?_));exact(Ay _ _ _).trans (congrArg some (Hi))) JZ LM (Cx _ _) Al (CL _ _) D6) ?_;refine an ?_;exact⟨(),Sub.mk' B4 (P8 rfl rfl rfl O5 (fun x_=>by(try simp only[AQ]);rw[hnl];refine(EO (F:=F4 r0 r1 (T8 n R S v i (S i v)) (fM R S v i (S i v++[⟨p,false,false⟩]))) (fun y_=>?_) _ _ x_).trans (congrArg some ?_);exact(EO (F:=F4 r0 r1 (T8 n R S v i (S i v)) (PL R S)) (fun z_=>Ay _ _ _) _ _ y_).trans (congrArg some (lf (l:=S i v) (s:=⟨p,false,false⟩) y_).symm);exact(lj (l:=S i v) (m5 (s:=⟨p,false,false⟩)) x_).symm) S1),trivial⟩):p:=h
theorem iI(h:p:=by
 refine wk 5 ?_
 first
 |exact absurd (show(b.fin==2)=true from ‹_›) (by rw[show(b.fin==2)=false from ‹_›];decide)
 |(refine⟨[_],⟨rfl,trivial⟩,?_,rfl⟩;refine bc ?_;rw[XO hall (by rw[hmd,show((((old.joined p).length:Nat):Int) !=(((b.ins.map Tac.cells).length:Nat):Int))=false from ‹_›];rfl)];simp only[Hl,JG,JI, *,qZ7,qZ3,qQ7,Bool.not_false,qQ5,Bool.false_and,qQ4,q97,Bool.true_or,qX6,qQ6,Bool.or_false])):p:=h
theorem bM(h:p:=by
 first
 |exact absurd (show(b.fin==2)=true from ‹_›) (by rw[show(b.fin==2)=false from ‹_›];decide)
 |(refine⟨[_],⟨rfl,trivial⟩,?_,rfl⟩;refine bc ?_;simp only[Hl,JG,JI, *,qZ7,qZ3,qQ7,Bool.not_false,qQ5,Bool.false_and,qQ4,q97,Bool.true_or,qX6,qQ6,Bool.or_false])):p:=h
theorem zt6(h:p:=by
 refine wk 5 ?_;refine dq 86 (Ao Ah rfl rfl rfl (.ptr _ _ _ _ false 2 (Df R S v i++[Lq R v i (Br (S i v) p)]) (Lq R v i (Br (S i v) p)) ((Ay _ _ _).trans (congrArg some (Hi))) JZ LM) rfl) ?_;refine wk 3 ?_;refine dq 90 (Ao Ah rfl rfl rfl (.ptr _ _ _ _ false 2 (Df R S v i++[Lq R v i (Br (S i v) p)]) (Lq R v i (Br (S i v) p)) ((Ay _ _ _).trans (congrArg some (Hi))) JZ LM) rfl) ?_;refine dq 91 EU ?_;refine dq 92 (A9 (r:=.int .i64 (((Br (S i v) p).length-1:Nat):Int)) rfl rfl rfl (by rw[q76];exact TQ (Dp _ _) (by have:=f9 (S i v) p;omega))) ?_;refine dq 93 (Bl Ah (b:=(4*(v+R*i)+3+16)) (es:=(Br (S i v) p).map IJ) rfl rfl rfl rfl rfl rfl ((Ay _ _ _).trans (congrArg some (vy))) rfl (q46 _) (by rw[q76];have:=Dp (S i v) p;omega)) ?_;refine wk 3 ?_;refine⟨[_],⟨rfl,trivial⟩,?_,?_⟩
 . show AV.ptr _ _ _ _=AV.ptr _ _ _ _;rw[q76,q55]
 . rw[<-t6 hi0 hlast (Dp _ _),<-ll hv hi0 hlast (Dp _ _),<-VR hv];exact OK rfl O5 js):p:=h
theorem ri(h:p:=by
 refine aq 165 (E0 Ah false rfl rfl rfl AF rfl rfl rfl rfl rfl) ?_;refine wk 2 ?_;refine CE ⟨[_],⟨rfl,trivial⟩,?_,rfl⟩;refine bc ?_;have hwr:1<=t.size->t.size<=4096->IntKind.i64.wrap (words-t.size)=words-t.size:=fun h1 h2=>B8 Ab Ab
 rw[gL hb1 hb2 hd hall jx];subst hdd haa hbb;clear hd hj hall hwr hw hw2 hb1 hb2;first|(simp_all[Tac.same,Tac.want,GP,EP,setsOp,use1,use2];done)|simp[Tac.same,Tac.want,GP,EP, *]):p:=h
theorem zt8(h:p:=by
 refine wk 2 ?_;refine aq 101 (AS rfl rfl hkl Bq) ?_;refine wk 2 ?_;exact⟨k+1,Drop.mk' Vh (by repeat(first|exact HDrop.none _ _|exact HDrop.tail _ _|refine HDrop.put ?_ (by first|rfl|exact congrArg (fun es=>some (rt 1 es)) (Ct (f:=Wh) (x:= -1) (Bc f reach) (by rw[htk,hno]))|exact congrArg (fun w=>some (rt 1 (List.map Bn w))) (kh hx hno)|exact congrArg (fun es=>some (rt 1 es)) (by rw[List.set_set];exact Ct (f:=Wh) (x:=x.to) (Bc f reach) (by rw[htk,hyes]))|exact congrArg (fun es=>some (rt 1 es)) (fc hx hyes hto.1)) rfl rfl)),hkl,by omega⟩):p:=h
theorem zt9(h:p:=by
 refine aq 49 Qk ?_;refine ax 50 (GD (Jc first K hf h4 hK 2 op a b) [9,4,3] [(3,(.map (C5 .i64 (DJ first ((D0 first K [2,op,a,b]).2))))),(4,(rf 3 [[.int .i64 first,.map 3,Bo 9 (((D0 first K [2,op,a,b]).2).map (Az .i64))]])),(9,(BU 4 (((D0 first K [2,op,a,b]).2).map (Az .i64))))] rfl Tryz.func135 AF rfl rfl rfl ⟨⟨_,rfl,AE⟩,⟨_,rfl,AE⟩,⟨_,rfl,AE⟩,trivial⟩ rfl Cf ⟨⟨_,rfl,rfl,AE⟩,⟨_,rfl,rfl,AE⟩,⟨_,rfl,rfl,AE⟩,trivial⟩ rfl) ?_;refine wk 3 ?_
 first
 |(refine⟨[_],⟨rfl,trivial⟩,?_,?_⟩<;>rw[TD BR]<;>first|rfl|exact HSub.put (HSub.put (HSub.put (HSub.none _) rfl) rfl) rfl)
 |(refine⟨[_],⟨rfl,trivial⟩,?_,?_⟩<;>rw[TC BR]<;>first|rfl|exact HSub.put (HSub.put (HSub.put (HSub.none _) rfl) rfl) rfl)
 |(refine⟨[_],⟨rfl,trivial⟩,?_,?_⟩<;>rw[TB BR]<;>first|rfl|exact HSub.put (HSub.put (HSub.put (HSub.none _) rfl) rfl) rfl)):p:=h
theorem Vg(h:p:=by
 exact⟨(),Sub.mk' (by repeat(first|exact ESub.new _|refine ESub.put ?_ (by first|rfl|exact congrArg (fun c=>some (AV.bool c)) (by simp_all[EP])))) B5,trivial⟩):p:=h
theorem xJ(h:p:=by
 refine ax 49 (by first|exact Mh (hc:=(fg hNew (((Bv (c.at' i) (k)).first k).L))) (hw:=(fg hNone ((Cd ((Bv (c.at' i) (k)).first k).L (RVal.reg k 0)).2))) [9,4] [(4,(rf 1 [[Bo 9 (((Cd ((Bv (c.at' i) (k)).first k).L (RVal.reg k 0)).2).map RVal.cells)]])),(9,(BU 9 (((Cd ((Bv (c.at' i) (k)).first k).L (RVal.reg k 0)).2).map RVal.cells)))] rfl Tryz.func70 AF rfl rfl rfl ⟨⟨_,rfl,A1⟩,⟨_,rfl,A1⟩,trivial⟩ rfl Cf ⟨⟨_,rfl,rfl,A1⟩,⟨_,rfl,rfl,A1⟩,trivial⟩ rfl (Ju ((Bv (c.at' i) (k)).first k).L uR (RVal.reg k 0))|exact Mh (hc:=(fg hNew (((Bv (c.at' i) (k)).first k).L))) (hw:=(fg hNone ((Cd ((Bv (c.at' i) (k)).first k).L (RVal.reg k 1)).2))) [9,4] [(4,(rf 1 [[Bo 9 (((Cd ((Bv (c.at' i) (k)).first k).L (RVal.reg k 1)).2).map RVal.cells)]])),(9,(BU 9 (((Cd ((Bv (c.at' i) (k)).first k).L (RVal.reg k 1)).2).map RVal.cells)))] rfl Tryz.func70 AF rfl rfl rfl ⟨⟨_,rfl,A1⟩,⟨_,rfl,A1⟩,trivial⟩ rfl Cf ⟨⟨_,rfl,rfl,A1⟩,⟨_,rfl,rfl,A1⟩,trivial⟩ rfl (Ju ((Bv (c.at' i) (k)).first k).L uR (RVal.reg k 1))) ?_
 refine ax 50 DB ?_;refine ax 51 (CF Ah (b:=7) (es:=A5 (Bv (c.at' i) (k)).ys) rfl rfl rfl rfl rfl rfl rfl rfl rfl rfl rfl (q68 _) (CP _) (TF _) rfl rfl (by rw[C2];have h:=(Ez (c.at' i) k).yl;show((Bv (c.at' i) (k)).ys.length+1)*8<=_;omega) (by rw[C2];have h:=(Ez (c.at' i) k).yl;simp only[maxLen];show(Bv (c.at' i) (k)).ys.length+1<=_;omega)) ?_;refine wk 4 ?_;refine aq 28 (AS rfl rfl hkl (show R<=maxLen by simp only[maxLen];omega)) ?_;refine wk 2 ?_;exact⟨k+1,Drop.mk' (by repeat(first|exact EDrop.new _ _|refine EDrop.put ?_ (by first|rfl|(rw[Mb hside];exact fi _ _ _)) d9)) (by repeat(first|exact HDrop.none _ _|exact HDrop.tail _ _|refine HDrop.put ?_ (by first|rfl|(rw[Mb hside];rfl)|(rw[Mb hside];exact fh _ _)) rfl A1)),hkl,by omega⟩):p:=h
theorem uJ(h:p:=by
 refine wk 2 ?_;exact⟨k+1,Drop.mk' Vh (by repeat(first|exact HDrop.none _ _|exact HDrop.tail _ _|refine HDrop.put ?_ (by first|rfl|exact congrArg (fun es=>some (rt 1 es)) (Ct (f:=Gj) (x:=[x.to]) (AZ f) (by rw[hnx];simp[Block.nexts, *]))|exact congrArg (fun es=>some (rt 1 es)) (Ct (f:=Gj) (x:=[x.to,x.els]) (AZ f) (by rw[hnx];simp[Block.nexts, *]))|exact congrArg (fun es=>some (rt 1 es)) (gO (f:=Gj) (x:=[]) (AZ f) (by rw[hnx];simp[Block.nexts, *]) rfl)) rfl rfl)),hkl,by omega⟩):p:=h
theorem Zk(h:p:=by
 refine wk 2 ?_;exact⟨t.d,Sub.mk' B4 B5,⟨by have h:= ‹(!A2 t.d regs)=false›;simp at h;simp[h],by first|(simp[setsOp, *];done)|simp[Gc ‹_›]⟩⟩):p:=h
theorem d7(h:p:=by
 exact⟨(),Sub.mk' (by repeat(first|exact ESub.new _|refine ESub.put ?_ (by first|rfl|exact congrArg (fun c=>some (AV.bool c)) (by first|(simp[Hu, *];done)|(simp_all[Hu];done))))) (by repeat(first|exact HSub.refl _|exact HSub.none _|exact AO _|exact AG Dl|refine HSub.put ?_ (by first|rfl|(simp only[RW.div,hr,qZ7,qZ3];rfl))|refine AN ?_ Dl|refine Bh ?_ Al)),trivial⟩):p:=h
theorem xI(h:p:=by
 have hoR:oR n R S v=Bo (4*v+2+16) (Df R S v i):=by unfold oR;rw[dD hi0 hlast hS0]
 rw[hoR];refine wk 5 ?_;refine ax 35 DB ?_;refine ax 36 (Mi Ah (b:=(4*v+2+16)) (es:=Df R S v i) (x0:=[.int .i64 (i:Int),.nil]) rfl rfl rfl rfl rfl rfl rfl rfl ((Ay _ _ _).trans (congrArg some ((Z6 hv).trans (by rw[dD hi0 hlast hS0])))) rfl rfl (q68 _) (.lst _ _) rfl (by rw[GH];show _*32<=_;omega) (by rw[GH];simp only[maxLen];omega)) ?_;refine wk 2 ?_;refine AGo.ghost (Ghost.weakRowF (4*v+2+16) (es':=Df R S v i++[[.int .i64 (i:Int),Bo (4*(v+R*i)+3+16) []]]) B7 Aq (ew (show WkAll [AV.int .i64 (i:Int),.nil] _ from⟨Wk.refl _,Wk.nil _,trivial⟩))) ?_;refine wk 7 ?_;refine aq 43 (Ae Ah (hm:=(Av _ _).symm)) ?_;refine AOps.w rfl rfl (CS Ah (p:=false) (sz:=1) (es:=AH (oR n R S) R) (cs:=[oR n R S v]) rfl rfl rfl rfl rfl rfl B7 (Av _ _).symm Tr (Cx _ _) Al (CL _ _) D6) ?_;refine an ?_;exact⟨(),Sub.mk' yk (P8 rfl rfl rfl (by repeat(first|exact trivial|refine⟨by first|rfl|exact congrArg (fun es=>some (rf 1 es)) (vL (GH _ _ _ _)),?_⟩)) (fun x_=>by(try simp only[AQ]);(repeat(first|refine AP Dd ?_|refine hrm_skip Ab ?_));rw[aU];exact(EO (fun y_=>Ay _ _ _) _ _ x_).trans (congrArg some (pP hS0 x_).symm)) S1),trivial⟩):p:=h
theorem WT(h:p:=by
 refine CE ⟨[_],⟨rfl,trivial⟩,?_,rfl⟩;refine bc ?_;rcases Decidable.em (1<=t.size/\t.size<=4096)with hsz|hsz
 . try rw[B8 (x:=words-t.size) Ab Ab]
   first|(simp_all[Tac.rest2,EP];done)|(simp_all[Tac.rest2,EP];omega)
 . first|(simp_all[Tac.rest2,EP];done)|(simp_all[Tac.rest2,EP];omega)):p:=h
theorem xH(h:p:=by
 have hbytes:l.length*P.bytesOf e<=reachBytes:=by
  refine qX2 (q34 _ ?_) w1;omega
 refine⟨l,.one ?_ rfl,hbytes,hQ⟩
 by_cases h0:len=0
 . have:l=[]:=q18.1 Ab;subst this;subst h0;exact .lst0 _ _ _ _ GZ hm GZ trivial
 . obtain⟨y0,cs0,k1,k2,k3⟩:=key 0 Ab;obtain⟨_,m1,m2⟩:=World.cells?_some k1;have hz:cs0[0]?=some cs0[0]:=q13 Ab;have hcell:=m2 0 hc;rw[hz]at hcell;have ha0:(a.add (0*P.cellsOf e)).add 0=a:=by simp[Addr.add]
   rw[ha0]at hcell;obtain⟨c,hH,hspot,_⟩:=LW hcell;obtain⟨ab,ao,asp⟩:=a;simp only at hspot hH;subst hspot;have hsz:∀(i:Nat) (xs:List AV),(l.map f)[i]?=some xs->xs.length=P.cellsOf e/\∀(j:Nat) (x:AV),xs[j]?=some x->∃v,c[ao+i*P.cellsOf e+j]?=some v/\Rel (DP W) Bk x v/\x.cell1=true:=fun i xs hi=>by
    rw[q54,q22]at hi;obtain⟨y,y1,rfl⟩:=hi;obtain⟨cs',c1,c2,c3⟩:=l2 i y y1;obtain⟨_,n1,n2⟩:=World.cells?_some c1;refine⟨by rw[c2.1,n1],fun j x hj=>?_⟩;have hjlt:j<cs'.length:=by rw[<-c2.1];exact(q05.1 hj).1
    have h3:=n2 j Ab;rw[q13 hjlt,Hq,Hq]at h3;obtain⟨c',e1,_,e3⟩:=LW h3;simp only at e1 e3;rw[hH]at e1;cases e1;obtain⟨g1,g2⟩:=c2.2 j x _ hj (q13 hjlt);exact⟨_,e3,g1,g2⟩
   have:=Rel.lst (H:=DP W) Bk false (l.map f) ab ao cap (P.cellsOf e) c (fun i j=>(c[ao+i*P.cellsOf e+j]?).getD undef) (fun hh=>by rw[List.map_eq_nil_iff]at hh;subst hh;simp at l1;omega) hH
    (fun i xs hi=>(hsz i xs hi).1) (fun i xs j x hi hj=>by obtain⟨v,v1,_⟩:=(hsz i xs hi).2 j x hj;rw[v1];rfl)
    (fun i xs j x hi hj=>by obtain⟨v,v1,v2,_⟩:=(hsz i xs hi).2 j x hj;rw[v1];exact v2) (fun i xs j x hi hj=>by obtain⟨v,v1,v2,v3⟩:=(hsz i xs hi).2 j x hj;exact v3) GZ (by simp[l1];exact hl) hm
   rw[q76,l1]at this;exact this):p:=h
theorem uI(h:p:=by
 exact⟨(),Sub.mk' B4 (by repeat(first|exact HSub.refl _|exact HSub.none _|exact AO _|exact AG Dl|refine HSub.put ?_ (by first|rfl|((have hr:vrisky first w t=true:=by(first|(simp[vrisky, *];done)|(simp_all[vrisky];done)));simp only[VW.div,hr,qZ7,qZ3,q77];rfl)|((have hr:vrisky first w t=false:=by(first|(simp[vrisky, *];done)|(simp_all[vrisky];done)));simp only[VW.div,hr,qZ7,qZ3,q77];rfl))|refine AN ?_ Dl|refine Bh ?_ Al)),trivial⟩):p:=h
theorem xG(h:p:=by
 rcases hp with hp|⟨hp1,a2,w2,hp2⟩
 . refine .inl ?_;have hp':=qX8 (fun a2 w2=>ih a2 w2) hp;clear hp;unfold Oper.wp at hp'|-;generalize(execOp a1.eval o').run P w1=res at hp'|-
   cases res with
   |ok n w3=>
    cases n<;>simp only[Oper.upon]at hp'|- <;>first
     |exact hp'
     |exact Calls.mono hp' uP
   |halt x w3=>cases x<;>simp only[Oper.upon]at hp'|- <;>first|exact hpost _ _ _ hp'|exact hp'
 . exact .inr ⟨hp1,a2,w2,hpost _ _ _ hp2⟩):p:=h
theorem WR(h:p:=by
 refine CE ⟨[_],⟨rfl,trivial⟩,?_,rfl⟩;refine bc ?_
 first
 |exact(Vr BR).symm
 |exact(Vs BR).symm
 |exact(Zt (E5 (b:=old.stands) BR)).symm
 |exact(Zs (E5 (b:=new.stands) BR)).symm):p:=h
theorem LA(h:p:=by
 refine CE ⟨[_],⟨rfl,trivial⟩,?_,rfl⟩;refine bc ?_;first|(simp_all[Tac.rest2,EP];done)|(simp_all[Tac.rest2,EP];omega)):p:=h
theorem iT(h:p:=by
 exact⟨(),Sub.mk' (by repeat(first|exact ESub.new _|refine ESub.put ?_ (by first|rfl|exact congrArg (fun c=>some (AV.bool c)) (by first|(simp[rrisky, *];done)|(simp_all[rrisky];done))))) B5,trivial⟩):p:=h
theorem xE(h:p:=by
 refine wk 6 ?_;refine asp 6 (fun hb1=>?_) fun hb1=>?_
 .
  refine Ba ?_;have hkl:k<32:=by have h:=hb1;simp at h;omega
  have hle:a/2^k<=a:=Nat.div_le_self _ _;refine wk 7 ?_;refine aq 11 (A9 (r:=.int .u32 ((a/2^k%2:Nat):Int)) rfl rfl rfl (G9 (a:=a/2^k) (b:=2) Al)) ?_;refine aq 12 (Dc Ah rfl rfl rfl rfl rfl (KW Ab)) ?_;refine ax 13 DB ?_;refine ax 14 (E4 Ah (n:=k) (m:=1) rfl rfl rfl rfl rfl rfl rfl rfl rfl (by simp[DN,DQ]) rfl rfl (q68 _) (.lst _ _) O3 O4 rfl (by simp[DN,DQ,A6];show _*8<=_;omega) (by simp[DN,DQ,A6];simp only[maxLen];omega)) ?_;refine wk 4 ?_;refine aq 16 (A9 (r:=.int .u32 ((a/2^k/2:Nat):Int)) rfl rfl rfl (NB (a:=a/2^k) (b:=2) Al (EG Ab))) ?_;refine wk 4 ?_;refine aq 8 (AS rfl rfl hkl (show 32<=maxLen by decide)) ?_;refine wk 2 ?_;exact⟨k+1,Sub.mk' (by repeat(first|exact ESub.new _|refine ESub.put ?_ (by first|rfl|exact congrArg (fun(n:Nat)=>some (AV.int .u32 (n:Int))) (by rw[Nat.div_div_eq_div_mul,Nat.pow_succ])))) (by repeat(first|exact HSub.refl _|exact HSub.none _|exact AO _|exact AG Dl|refine HSub.put ?_ (by first|rfl|exact congrArg (fun es=>some (rt 1 es)) (YR a k))|refine AN ?_ Dl|refine Bh ?_ Al)),hkl,by omega⟩
 refine Bg ?_;have hge:¬k<32:=by have h:=hb1;simp at h;omega
 refine wk 2 ?_;obtain rfl:k=32:=by omega
 refine wk 5 ?_;refine⟨[_],⟨rfl,trivial⟩,rfl,HSub.put (HSub.none _) rfl⟩):p:=h
theorem WQ(h:p:=by
 refine CE ⟨[_],⟨rfl,trivial⟩,?_,rfl⟩;refine bc ?_;have hwr:1<=t.size->t.size<=4096->IntKind.i64.wrap (words-t.size)=words-t.size:=fun h1 h2=>B8 Ab Ab
 exact(UZ jx).symm):p:=h
theorem oU(h:p:=by
 refine wk 2 ?_;refine aq 144 (AS rfl rfl hkl (show row2.length<=maxLen by simp only[maxLen];omega)) ?_;refine wk 2 ?_;exact⟨k+1,Drop.mk' D5 FM,⟨hkl,O8 hagr hmu xL⟩,by omega⟩):p:=h
theorem xD(h:p:=by
 refine wk 6 ?_;refine ax 86 (Cn Tryz.func72 (T5 t.k _ _ (VF h.wn _) (VF h.wn _))) ?_;refine wk 20 ?_;refine dx 101 (GD (Ju w.L Ab ⟨1,0,0,0,0,0,0,0,(Cp t.k (CN w.L (Ai w.regs t.a)).1 (CN w.L (Ai w.regs t.b)).1).1⟩) [9,4] [(4,(rf 1 [[Bo 9 (((Cd w.L ⟨1,0,0,0,0,0,0,0,(Cp t.k (CN w.L (Ai w.regs t.a)).1 (CN w.L (Ai w.regs t.b)).1).1⟩).2).map RVal.cells)]])),(9,(BU 9 (((Cd w.L ⟨1,0,0,0,0,0,0,0,(Cp t.k (CN w.L (Ai w.regs t.a)).1 (CN w.L (Ai w.regs t.b)).1).1⟩).2).map RVal.cells)))] rfl Tryz.func70 AF rfl rfl rfl ⟨⟨_,rfl,A1⟩,⟨_,rfl,A1⟩,trivial⟩ rfl Cf ⟨⟨_,rfl,rfl,A1⟩,⟨_,rfl,rfl,A1⟩,trivial⟩ rfl) ?_;refine dq 102 (Bl Ah (h0:=hxd.1) (hn:=hxd.2.2.1)) ?_;refine DOps.w rfl rfl (H6 Ah rfl rfl rfl rfl rfl rfl rfl Zm (CP _) rfl rfl rfl) ?_;refine wk 2 ?_;refine⟨[],trivial,rfl,?_⟩;rw[cP,T6 hf];exact(HSub.put (HSub.put (HSub.put (HSub.put (HSub.put (HSub.none _) rfl) rfl) yj) jl) rfl)):p:=h
theorem oT(h:p:=by
 refine wk 3 ?_;refine aq 148 (AS rfl rfl hkl (show R<=maxLen by simp only[maxLen];omega)) ?_;refine wk 2 ?_;exact⟨k+1,Drop.mk' D5 o9,⟨hkl,O8 hagr hmu xL⟩,by omega⟩):p:=h
theorem xC(h:p:=by
 refine aq 74 (AS rfl rfl hkl uQ) ?_;refine wk 2 ?_;exact⟨(q.1+1,q.2),DropK.mk' z7q (BO (k0:=9) rfl z2q IH (Bw (AA _) f R _ _)),⟨hkl,by rw[<-QB hgi Ab];exact hq.2⟩,(by show(Hn f v).length-(q.1+1)<(Hn f v).length-q.1;omega)⟩):p:=h
theorem xB(h:p:=by
 refine wk 17 ?_;refine dx 118 (GD (Ju w.L Ab ⟨3,t.k,(Ai w.regs t.a),(Ai w.regs t.b),0,0,0,0,0⟩) [9,4] [(4,(rf 1 [[Bo 9 (((Cd w.L ⟨3,t.k,(Ai w.regs t.a),(Ai w.regs t.b),0,0,0,0,0⟩).2).map RVal.cells)]])),(9,(BU 9 (((Cd w.L ⟨3,t.k,(Ai w.regs t.a),(Ai w.regs t.b),0,0,0,0,0⟩).2).map RVal.cells)))] rfl Tryz.func70 AF rfl rfl rfl ⟨⟨_,rfl,A1⟩,⟨_,rfl,A1⟩,trivial⟩ rfl Cf ⟨⟨_,rfl,rfl,A1⟩,⟨_,rfl,rfl,A1⟩,trivial⟩ rfl) ?_;refine dq 119 (Bl Ah (h0:=hxd.1) (hn:=hxd.2.2.1)) ?_;refine DOps.w rfl rfl (H6 Ah rfl rfl rfl rfl rfl rfl rfl Zm (CP _) rfl rfl rfl) ?_;refine wk 1 ?_;refine⟨[],trivial,rfl,?_⟩;rw[cP,K5 hf];exact(HSub.put (HSub.put (HSub.put (HSub.put (HSub.put (HSub.none _) rfl) rfl) yj) jl) rfl)):p:=h
theorem uH(h:p:=by
 refine aq 60 (AS rfl rfl hkl Bq) ?_;refine wk 2 ?_;exact⟨k+1,Drop.mk' (by repeat(first|exact EDrop.new _ _|refine EDrop.put ?_ (by first|rfl|exact congrArg (fun n=>some (AV.ref 4 n 0 n)) (by rw[FSq hhead];simp)|exact congrArg (fun n=>some (AV.ref 4 n 0 n)) (by rw[H4 hhead])) rfl)) (by repeat(first|exact HDrop.none _ _|exact HDrop.tail _ _|refine HDrop.put ?_ (by first|rfl|exact congrArg (fun es=>some (rt 1 es)) (by rw[Rq hhead];exact UN _ _ _)|exact congrArg (fun es=>some (rt 1 es)) (by rw[FSq hhead,q77];rfl)|exact congrArg (fun es=>some (rt 1 es)) (by rw[Ul hhead])|exact congrArg (fun es=>some (rt 1 es)) (by rw[H4 hhead])) rfl rfl)),hkl,by omega⟩):p:=h
theorem xA(h:p:=by
 have hd:=ht.d (by simp[setsOp,ho6]);refine wk 13 ?_;refine dq 116 (Ae Ah (hm:=Dk) (h0:=ha.1) (hn:=MA)) ?_;refine dq 117 (Ao Ah rfl rfl rfl (.ptr _ _ _ _ _ _ _ _ rfl Dk (Ft O0)) rfl) ?_;refine dq 118 (FC Ah rfl rfl rfl rfl rfl (r:=Ai regs t.a) (by exact B8 Ab Ab)) ?_;refine dq 119 (A9 (r:=.int .i64 (t.base+Ai regs t.a)) rfl rfl rfl uN) ?_;refine dq 120 (Ae Ah (hm:=O2) (h0:=hidx.1) (hn:=(by have:=hidx.2;omega))) ?_;refine dq 121 (Ao Ah rfl rfl rfl (.ptr _ _ _ _ _ _ _ _ rfl O2 (Ft (by have:=hidx;have:=hm.len;omega))) rfl) ?_;refine dq 122 (Ae Ah (hm:=Dk) (h0:=hd.1) (hn:=Qh)) ?_;refine DOps.w rfl rfl (AY Ah rfl rfl rfl rfl rfl rfl Dk (Ft Qg) rfl Al rfl C1) ?_;refine wk 1 ?_;refine⟨[],trivial,rfl,?_⟩;rw[Abj ho6 hsz];exact HSub.put (HSub.put (HSub.put (HSub.put (HSub.none _) rfl) rfl) rfl) o7):p:=h
theorem xz(h:p:=by
 have hb:=ht.b (by simp[use2,ho7]);refine wk 10 ?_;refine dq 132 (Ae Ah (hm:=Dk) (h0:=ha.1) (hn:=MA)) ?_;refine dq 133 (Ao Ah rfl rfl rfl (.ptr _ _ _ _ _ _ _ _ rfl Dk (Ft O0)) rfl) ?_;refine dq 134 (FC Ah rfl rfl rfl rfl rfl (r:=Ai regs t.a) (by exact B8 Ab Ab)) ?_;refine dq 135 (A9 (r:=.int .i64 (t.base+Ai regs t.a)) rfl rfl rfl uN) ?_;refine wk 3 ?_;refine dq 139 (Ae Ah (hm:=Dk) (h0:=hb.1) (hn:=(by have:=hb.2;omega))) ?_;refine dq 140 (Ao Ah rfl rfl rfl (.ptr _ _ _ _ _ _ _ _ rfl Dk (Ft (by have:=hb;omega))) rfl) ?_;refine dq 141 (Ae Ah (hm:=O2) (h0:=hidx.1) (hn:=(by have:=hidx.2;omega))) ?_;refine DOps.w rfl rfl (AY Ah rfl rfl rfl rfl rfl rfl O2 (Ft (by have:=hidx;have:=hm.len;omega)) rfl Al rfl C1) ?_;refine wk 1 ?_;refine⟨[],trivial,rfl,?_⟩;rw[Abi ho7 hsz];exact HSub.put (HSub.put (HSub.put (HSub.put (HSub.none _) rfl) o7) rfl) rfl):p:=h
theorem Mx(h:p:=by
 refine CE ⟨[_],⟨rfl,trivial⟩,?_,rfl⟩;show AV.bool false=_;rw[q89 (by rintro rfl;simp_all)]):p:=h
theorem Qe(h:p:=by
 refine CE ⟨[_],⟨rfl,trivial⟩,?_,rfl⟩;refine bc ?_;first|(simp_all[Block.ends,A2];done)|(simp_all[Block.ends,A2];omega)):p:=h
theorem xy(h:p:=by
 refine aq 26 (AS rfl rfl hjl Bq) ?_;refine wk 2 ?_;exact⟨j+1,DropK.mk' (by repeat(first|exact EDropK.new _ _|refine EDropK.put ?_ (by first|rfl|exact congrArg (fun m=>some (AV.ref 9 m 0 m)) (congrArg List.length (X8 ht hg).symm)|exact congrArg (fun m=>some (AV.ref 9 m 0 m)) ((q76 (f:=Tac.cells)).symm.trans ((congrArg List.length (X7 ht hg).symm).trans Aq)).symm|exact congrArg (fun(n:Nat)=>some (AV.int .i64 (n:Int))) Aq) (by first|rfl))) (BO (k0:=13) rfl (by repeat(first|exact trivial|refine⟨⟨by first|rfl|exact congrArg (fun es=>some (rt 8 es)) (X7 ht hg)|exact congrArg (fun l=>some (rt 8 (l.map Tac.cells))) (X8 ht hg).symm|((try simp only[AQ]);repeat(first|rfl|exact AB _ _ _|refine AP Dd ?_|refine hrm_skip Ab ?_|refine(Dy _ LL).trans ?_)),by first|rfl|exact Ak (fun _ _=>Bz (AA _) _ _)|exact Ak (fun _ _=>Bm (AA _) _ _ _ _)|exact Ak (fun _ _=>CG (AA _) _ _)⟩,?_⟩)) Hw (Bw (AA _) f R _ _)),hjl,by omega⟩):p:=h
theorem oS(h:p:=by
 refine wk 2 ?_;exact⟨(),Sub.mk' B4 B5,(by first|(simp_all;done)|(exfalso;have:=fI t.op;simp_all))⟩):p:=h
theorem xw(h:p:=by
 refine wk 2 ?_;refine aq 120 (AS rfl rfl hjl jA) ?_;refine wk 2 ?_;exact⟨⟨p.inn,p.todo,p.es,p.j+1⟩,DropK.mk' yz (BO (k0:=9) rfl z4q Hw (Bw (AA _) f R _ _)),(hP.skip ha hno),uM⟩):p:=h
theorem Zj(h:p:=by
 refine CE ⟨[_],⟨rfl,trivial⟩,?_,rfl⟩;refine bc ?_;exact(QI hx ht yg).symm):p:=h
theorem uG(h:p:=by
 have hft:(k.fin==3)=false:=by simp_all
 have hnx:=hF.next hk hI hge hst hft (gU hks.1 hft r.regs);exact⟨⟨k.next r.regs,r.regs,(Bi fuel r.m).2,q.g-1⟩,Drop.mk' (by repeat(first|exact EDrop.new _ _|refine EDrop.put ?_ (by first|rfl|exact congrArg (fun(n:Int)=>some (AV.int .i64 n)) (by simp[Block.next, *])) d9)) FM,hnx.1,hnx.2⟩):p:=h
theorem Zi(h:p:=by
 refine wk 5 ?_;refine CE ⟨[_],⟨rfl,trivial⟩,?_,rfl⟩;refine bc ?_;exact(wc (by first|(simp[setsOp, *];done)|exact Gc ‹_›) (by simpa using ‹(!A2 t.d regs)=true›)).symm):p:=h
theorem d6(h:p:=by
 refine CE ⟨[_],⟨rfl,trivial⟩,?_,rfl⟩;refine bc ?_
 first
 |exact(NR hx hy (pA BR)).symm
 |exact(NR hx hy (pz BR)).symm
 |exact(NR hx hy (pB BR)).symm):p:=h
theorem uF(h:p:=by
 refine aq 49 (AS rfl rfl hkl (show l.length<=maxLen by simp only[maxLen];omega)) ?_;refine wk 2 ?_;exact⟨k+1,Drop.mk' (by repeat(first|exact EDrop.new _ _|refine EDrop.put ?_ (by first|rfl) rfl)) (by repeat(first|exact HDrop.none _ _|exact HDrop.tail _ _|refine HDrop.put ?_ (by first|rfl|exact congrArg (fun es=>some (rt 8 es)) (by subst hu;exact Ct (f:=Tac.cells) (Cs l []) (KE l [] hx))|exact congrArg (fun m=>some (AObj.map (kvs .i64 (nm m)))) (by rw[bb hx,<-hu];clear hu;simp[Hv, *])) rfl rfl)),hkl,by omega⟩):p:=h
theorem xu(h:p:=by
 have hnb:notBeen s.been b=false:=by
  rw[q64];intro h;obtain⟨h1,h2,h3⟩:=FV h;first|(simp_all[Ax];done)|(simp_all[Ax];omega)
 refine oL ?_;refine⟨[],trivial,rfl,?_⟩;rw[show Cu b s=_ from YK hnb,show Wg b s es=_ from mR hnb];exact HSub.put (HSub.put (HSub.put (HSub.put (HSub.put (HSub.none _) (by first|rfl|exact congrArg (fun es=>some (rt 1 es)) (YS _ _ _))) rfl) rfl) xN) (by rfl)):p:=h
theorem uE(h:p:=by
 refine CE ⟨[_],⟨rfl,trivial⟩,?_,rfl⟩;refine bc ?_;first|exact(Ol (by rw[hmd,show((((old.joined p).length:Nat):Int) !=(((b.ins.map Tac.cells).length:Nat):Int))=true from ‹_›];rfl)).symm|(rw[XO hall (by rw[hmd,show((((old.joined p).length:Nat):Int) !=(((b.ins.map Tac.cells).length:Nat):Int))=false from ‹_›];rfl)];simp only[Hl,JG,JI, *,qZ7,qZ3,qQ7,Bool.not_false,qQ5,Bool.false_and,qQ4,q97,Bool.true_or,qX6,qQ6,Bool.or_false])):p:=h
theorem Mw(h:p:=by
 refine⟨[_,_],⟨rfl,rfl,trivial⟩,?_,rfl⟩;show AV.tup _=AV.tup _;simp[Cp, *]):p:=h
theorem oQ(h:p:=by
 exact⟨[],trivial,rfl,(OK rfl O5 IH)⟩):p:=h
theorem xt(h:p:=by
 refine AOps.k 79 rfl rfl rfl ?_;refine AOps.k 80 rfl rfl rfl ?_;refine AOps.k 81 rfl rfl rfl ?_;refine AOps.k 82 rfl rfl rfl ?_;refine wk 2 ?_;refine AOps.k 85 rfl rfl rfl ?_;refine AOps.k 86 rfl rfl rfl ?_;refine AOps.k 87 rfl rfl rfl ?_;refine AOps.k 88 rfl rfl rfl ?_;refine AOps.k 89 rfl rfl rfl ?_;refine AOps.k 90 rfl rfl rfl ?_;refine wk 3 ?_;have hno:takeOf f.nexts reach k x= -1:=NY hrk Kd;exact zt8):p:=h
theorem xr(h:p:=by
 refine aq 57 (AS rfl rfl hjl ce) ?_;refine wk 2 ?_;exact⟨j+1,DropK.mk' (by repeat(first|exact EDropK.new _ _|refine EDropK.put ?_ (by first|rfl|exact congrArg (fun z=>some (AV.bool z)) (by rw[iz hd];first|(rw[hz9];rfl)|(rw[‹YV inn x j=true›];rfl)|(rw[‹YV inn x j=false›];rfl))|exact congrArg (fun(n:Nat)=>some (AV.int .i64 (n:Int))) Aq) (by first|rfl|exact Bm (AA _) _ _ _ _))) (BO (k0:=9) rfl uV Hw (Bw (AA _) f R _ _)),trivial,Ab⟩):p:=h
theorem d5(h:p:=by
 exact HSub.put (HSub.put (HSub.put (HSub.put (HSub.none _) rfl) rfl) rfl) o7):p:=h
theorem uD(h:p:=by
 refine Ba ?_;have hels:=gn hle hbx Kd;refine wk 4 ?_;refine aq 108 (Ae Ah (hm:=Tq) (h0:=hels.1)) ?_;refine aq 109 (Ao Ah rfl rfl rfl (.ptr _ _ _ _ _ _ _ _ rfl Tq (R2 (by rw[show f.nums.length=f.blocks.length from CD f _];exact hels))) rfl) ?_;refine wk 8 ?_;exact zt0):p:=h
theorem xq(h:p:=by
 have key:∀b o,hres s.h L b=some o->o.alive=true->b∈L/\s.h b=some o:=fun b o h1 h2=>by
  unfold hres at h1
  cases e:mem L b with
  |true=>rw[e]at h1;exact⟨mem_iff.1 e,h1⟩
  |false=>rw[e]at h1;cases h1;cases h2
 refine⟨hs.heap.know,fun b hb=>?_,fun b o h1 h2=>?_,fun b b' o o' r r' h1 h2 h3 h4 h5 h6=>?_,hs.heap.glob⟩
 . unfold hres at hb;unfold DO
   cases e:mem L b with
   |true=>rw[e]at hb;exact hs.heap.free b hb
   |false=>rfl
 . obtain⟨k1,k2⟩:=key b o h1 h2;obtain⟨r,r1,r2,r3⟩:=hs.heap.obj b o k2 h2;obtain⟨q,q1,q2⟩:=hLs b k1;rw[k2]at q1;cases q1;exact⟨r,by rw[Gl (mem_iff.2 k1)];exact r1,Jb r2 q2,r3⟩
 . exact hs.heap.inj b b' o o' r r' (key b o h1 h2).2 h2 (key b' o' h3 h4).2 h4 (BX h5) (BX h6)):p:=h
theorem xp(h:p:=by
 refine wk 5 ?_;refine aq 39 (AS rfl rfl hjl jt) ?_;refine wk 2 ?_;exact⟨j+1,Drop.mk' D5 (by repeat(first|exact HDrop.none _ _|exact HDrop.tail _ _|refine HDrop.put ?_ (by first|rfl|(rw[hnc];rfl)|(rw[hnc,q77];rfl)|exact congrArg (fun n:Nat=>some (rf 5 [[.ref 5 n 0 n,.int .i64 x.fin,.int .i64 x.v,.int .i64 x.to,.int .i64 x.els]])) (by rw[hnc,q48];rfl)) rfl AE)),⟨hjl,Cv ht hja (by first|exact hok|exact yg)⟩,by omega⟩):p:=h
theorem xn(h:p:=by
 have key:∀b o,FE h κ b=some o->o.alive=true->κ b=true/\h b=some o:=fun b o h1 h2=>by
  unfold FE at h1
  cases e:κ b with
  |true=>rw[e]at h1;exact⟨rfl,h1⟩
  |false=>rw[e]at h1;cases h1;cases h2
 refine⟨hs.heap.know,fun b hb=>?_,fun b o h1 h2=>?_,fun b b' o o' r r' h1 h2 h3 h4 h5 h6=>?_,hs.heap.glob⟩
 . unfold FE at hb;unfold DO
   cases e:κ b with
   |true=>rw[e]at hb;exact hs.heap.free b hb
   |false=>rfl
 . obtain⟨k1,k2⟩:=key b o h1 h2;obtain⟨r,r1,r2,r3⟩:=hs.heap.obj b o k2 h2;obtain⟨q,q1,q2⟩:=hL b k1;rw[k2]at q1;cases q1;exact⟨r,by rw[Gl k1];exact r1,Jb r2 q2,r3⟩
 . exact hs.heap.inj b b' o o' r r' (key b o h1 h2).2 h2 (key b' o' h3 h4).2 h4 (BX h5) (BX h6)):p:=h
theorem xm(h:p:=by
 unfold Oper.wp;rw[hexec];refine hcalls.mono fun en w' hh=>?_
 obtain⟨v,r',h',H',ι',rfl,⟨rfl,hsub⟩,k1,k2,k3⟩:=hh;have hk':∀b∈L,∃q,h' b=some q/\AQ s.h W b=some q/\q.avoid (mem L)=true:=fun b hb=>by
  obtain⟨q,q1,q2,q3⟩:=hk.get b hb;exact⟨q,hsub b q q1,by rw[Yn (g2 b hb)];exact q2,q3⟩
 obtain⟨u1,u2⟩:=nV hs.heap hLs (fun p hp=>mem_iff.1 (q67.1 hW p hp)) hk' k2 (hres2.symm▸k3);refine⟨v,H',_,rfl,fun x ex=>?_,u1,u2⟩
 cases ex
 refine(Fo k1 hra).mono (KLe.refl _) fun b r e=>?_
 by_cases hb:b∈L
 . exact⟨r,by simp only[V7,mem_iff.2 hb,qZ7];exact BX e,.inl rfl⟩
 . have:mem L b=false:=by cases e:mem L b with|false=>rfl|true=>exact absurd (mem_iff.1 e) hb
   simp only[DO,this,qZ3]at e;cases e):p:=h
theorem iO(h:p:=by
 refine⟨[_,_],⟨rfl,rfl,trivial⟩,?_,HSub.put (HSub.none _) rfl⟩;show AV.tup _=AV.tup _;first|(simp[Dw, *];done)|(cases h1:(pget t.a K).isSome<;>cases h2:(pget t.b K).isSome<;>simp_all[Dw])):p:=h
theorem oP(h:p:=by
 have key:∀c,b=c->Aa e d (.bool c)=e:=fun c hc=>by
  subst hc;funext t
  by_cases ht:t=d
  . subst ht;rw[DG,he]
  . rw[FK _ _ ht]
 cases b with
 |true=>have:=h1 rfl;rwa[key true rfl]at this
 |false=>have:=h2 rfl;rwa[key false rfl]at this):p:=h
theorem d4(h:p:=by
 exact⟨(),Sub.mk' (by repeat(first|exact ESub.new _|refine ESub.put ?_ (by first|rfl|exact congrArg (fun x=>some (AV.bool x)) hu.symm))) (HSub.refl _),trivial⟩):p:=h
theorem xk(h:p:=by
 refine aq 52 (AS rfl rfl hjl jt) ?_;refine wk 2 ?_;exact⟨j+1,Drop.mk' (by repeat(first|exact EDrop.new _ _|refine EDrop.put ?_ (by first|rfl|(rw[hnc];rfl)|(rw[hnc,q48];rfl)|exact congrArg (fun n:Nat=>some (AV.ref 4 n 0 n)) (by rw[hnc];simp[A6])) d9)) (by repeat(first|exact HDrop.none _ _|exact HDrop.tail _ _|refine HDrop.put ?_ (by first|rfl|(rw[hnc];rfl)|(rw[hnc,q77];rfl)) rfl AE)),⟨hjl,Cv ht hja (by first|exact hok|exact Sx h10 hb0 (FX hgood))⟩,by omega⟩):p:=h
theorem d3(h:p:=by
 refine CE ⟨[_],⟨rfl,trivial⟩,?_,rfl⟩;refine bc ?_;refine(bp (fun h=>?_)).symm;obtain⟨q1,q2,q3⟩:=h;simp_all[Ax,BK]):p:=h
theorem xj(h:p:=by
 refine wk 3 ?_;refine⟨[_],⟨rfl,trivial⟩,?_,(OK rfl (by repeat(first|exact trivial|refine⟨by first|rfl|exact AB _ _ _|((try simp only[AQ]);repeat(first|rfl|exact AB _ _ _|refine AP Dd ?_|refine hrm_skip Ab ?_|refine(Dy _ LL).trans ?_)),?_⟩)) IH)⟩;refine bc ?_;unfold leftS;first|exact qq hne|exact mG (by have h:=hb1;simp at h;omega)):p:=h
theorem oO(h:p:=by
 refine CE ⟨[_],⟨rfl,trivial⟩,?_,rfl⟩;refine bc ?_;exact(Sw (Cw hp (by simp only[Gi];rw[Cw (p:=(fun i=> !(decide (i<0))&& !(decide (i>=(old.blocks.length:Int))))) hy (by simp_all[BK])];simp))).symm):p:=h
theorem uC(h:p:=by
 refine CE ⟨[_],⟨rfl,trivial⟩,?_,rfl⟩;show AV.lst false _=_;simp[Tac.uses,use1,use2,AI,A6,AV.cells, *]):p:=h
theorem xi(h:p:=by
 first
 |have hnx2:=hF.next (s':=Cu (((Cl next b)[i.toNat]?).getD 0) (DS.mk q.s.been (q.s.way.dropLast++[(b,i+1)]))) (es':=Wg (((Cl next b)[i.toNat]?).getD 0) (DS.mk q.s.been (q.s.way.dropLast++[(b,i+1)])) (q.es.set (q.s.way.length-1) (Ey (b,i+1)))) hp (nx hp (by rw[hrl];simpa using hil)) (hF.way.seen hp).into
 |have hnx2:=hF.next (s':=⟨q.s.been,q.s.way.dropLast⟩) (es':=q.es) hp (gW hp (by rw[hrl];simpa using hil)) (hF.way.pop hp)
 exact⟨⟨_,_,q.g-1⟩,Drop.mk' Vh (by repeat(first|exact HDrop.none _ _|exact HDrop.tail _ _|refine HDrop.put ?_ (by rfl) rfl rfl)),hnx2.1,hnx2.2⟩):p:=h
theorem uB(h:p:=by
 refine aq 47 (Ae Ah (hm:=cf)) ?_;refine AOps.w rfl rfl (AY Ah rfl rfl rfl rfl rfl rfl cf (Ns (HC (Rz hkl))) rfl Al rfl C1) ?_;refine wk 3 ?_;exact xF):p:=h
theorem SZ(h:p:=by
 refine CE ⟨[_],⟨rfl,trivial⟩,?_,rfl⟩;refine bc ?_;simp_all[Block.ends]):p:=h
theorem Zh(h:p:=by
 refine CE ⟨[_],⟨rfl,trivial⟩,?_,rfl⟩;show AV.int .i64 _=AV.int .i64 _;congr 1;simp[Fw,use1,use2, *]):p:=h
theorem xh(h:p:=by
 refine aq 21 (AS rfl rfl hkl Bq) ?_;refine wk 2 ?_;exact⟨k+1,Drop.mk' (by repeat(first|exact EDrop.new _ _|refine EDrop.put ?_ (by first|rfl|exact congrArg (fun(n:Nat)=>some (AV.int .i64 (n:Int))) htb.1) d9)) FM,⟨hkl,htb.2,aA hF.2.2 (fun hk1=>by first|(simp_all;done)|(exfalso;simp_all;omega)|(simp_all;omega))⟩,by omega⟩):p:=h
theorem Zg(h:p:=by
 refine CE ⟨[_],⟨rfl,trivial⟩,?_,rfl⟩;show AV.int .i64 _=AV.int .i64 _;congr 1;simp[Tac.sets,setsOp, *]):p:=h
theorem xg(h:p:=by
 unfold Oper.wp;rw[hexec];refine hcalls.mono fun en w' hh=>?_
 obtain⟨v,r',h',H',ι',rfl,⟨rfl,hsub⟩,k1,k2,k3⟩:=hh;have hk':∀b,κ b=true->∃q,h' b=some q/\hn b=some q/\q.avoid κ=true:=fun b hb=>by
  obtain⟨q,q1,q2,q3⟩:=hk b hb;exact⟨q,hsub b q q1,q2,q3⟩
 obtain⟨u1,u2⟩:=ik hs.heap hL hW hk' k2 (hres'.symm▸k3);refine⟨v,H',_,rfl,?_,u1,u2⟩;refine(Fo k1 hra).mono (KLe.refl _) fun b r e=>?_
 cases hb:κ b with
 |true=>exact⟨r,by simp only[Nk,hb,qZ7];exact BX e,.inl rfl⟩
 |false=>simp only[DO,hb,qZ3]at e;cases e):p:=h
theorem xf(h:p:=by
 refine wk 4 ?_;refine aq 17 (A9 (r:=.int .u32 ((k+1:Nat):Int)) rfl rfl rfl (Jk (b:=1) (EG Ab))) ?_;refine wk 2 ?_;exact⟨k+1,Sub.mk' (by repeat(first|exact ESub.new _|refine ESub.put ?_ (by first|rfl|exact congrArg (fun(n:Nat)=>some (AV.int .u64 (n:Int))) (by simp only[shN, *,qZ7,qZ3])))) B5,hkl,by omega⟩):p:=h
theorem xe(h:p:=by
 refine dq 56 Qk ?_;refine dx 57 DB ?_;refine dx 58 (CF Ah (b:=jo) (es:=((w.effs).map (Az .i64))) rfl rfl rfl rfl rfl rfl rfl rfl rfl rfl rfl (q68 _) (Wz h.e6) (SF _) rfl rfl jy Tp) ?_;refine wk 2 ?_;refine DOps.w rfl rfl (CS Ah rfl rfl rfl rfl rfl rfl rfl rfl rfl (Cx _ _) Al (CL _ _) D6) ?_;refine wk 1 ?_;exact uI):p:=h
theorem xd(h:p:=by
 refine wk 2 ?_;refine aq 68 (AS rfl rfl hkl (show R<=maxLen by simp only[maxLen];omega)) ?_;refine wk 2 ?_;exact⟨k+1,Drop.mk' D5 (by repeat(first|exact HDrop.none _ _|exact HDrop.tail _ _|refine HDrop.put ?_ (by first|rfl|exact nl hkl|exact nj hkl (hat▸hbit)|exact gP hkl (hat▸hbit)|exact qJ _ _ _ _ hkl) rfl AE)),hkl,by omega⟩):p:=h
theorem dZ(h:p:=by
 refine CE ⟨[_],⟨rfl,trivial⟩,?_,rfl⟩;refine bc ?_;unfold Tac.pure
 first
 |(simp_all;done)
 |(simp_all[bne];done)):p:=h
theorem uA(h:p:=by
 exact HSub.put (HSub.put (HSub.put (HSub.put (HSub.put (HSub.put (HSub.none _) rfl) rfl) rfl) (by show _=some (rf 4 [[.ptr 4 1 0 0,GB jv (A5 (A4 w.vals t.d _)),Bo jo (w.effs.map (Az .i64)),.int .i64 w.time]]);rw[ME];rfl)) oZ) rfl):p:=h
theorem xc(h:p:=by
 have alive':∀r0,ι b'=some r0->r0.solid->r0.rb=r'.rb->False:=fun r0 e0 es e1=>by
  obtain⟨o0,k1,_⟩:=hL b' hb';have ka:o0.alive=true:=by
   cases o0 with
   |free=>rw[hr.free b' k1]at e0;cases e0
   |_=>rfl
  exact hr.inj b b' o o0 r r0 h1 h2 k1 ka h3 e0 h4 es (fun e=>hb (e▸hb')) (e.trans e1.symm)
 rcases hst.newrb b' r' g1 g2 with k|k|⟨r0,k1,k2,k3⟩
 . exact alive' r' (BX k) g2 rfl
 . have:=hr.lt ⟨b,o,r,h1,h2,h3,h4,rfl⟩;omega
 . exact alive' r0 (BX k1) k2 k3):p:=h
theorem xb(h:p:=by
 refine oL ?_;exact⟨(),Sub.mk' B4 (P8 rfl rfl rfl O5 (fun x_=>(Ay _ _ _).trans (congrArg some (by rw[hnl,lg hv]))) S1),trivial⟩):p:=h
theorem xa(h:p:=by
 refine wk 2 ?_;refine aq 145 (AS rfl rfl hjl (show next.length<=maxLen by simp only[maxLen];omega)) ?_;refine wk 2 ?_;exact⟨j+1,Drop.mk' D5 FM,⟨hjl,Cv hnk hall (by rw[hat2];exact Qx hkge hagr)⟩,by omega⟩):p:=h
theorem uz(h:p:=by
 exact(HSub.put (HSub.put (HSub.put (HSub.put (HSub.put (HSub.none _) rfl) rfl) (by show _=some (rf 4 [[.ptr 4 1 0 0,Bo jv (A5 (A4 w.regs t.d _)),Bo jo (w.out.map REff.cells),.int .i64 w.time]]);rw[MF];rfl)) jl) rfl)):p:=h
theorem iM(h:p:=by
 simp only[execOp,ho,resolve,invoke,builtin,qQ9,qX1,q57,List.map_toArray,qQ0,qX9,hva,hvb,hrun]):p:=h
theorem Zf(h:p:=by
 refine CE ⟨[_],⟨rfl,trivial⟩,?_,rfl⟩;show AV.int .u32 _=AV.int .u32 _;simp[IV, *]):p:=h
theorem Ze(h:p:=by
 exact HSub.put (HSub.put (HSub.put (HSub.put (HSub.put (HSub.put (HSub.none _) rfl) rfl) rfl) rfl) rfl) rfl):p:=h
theorem w9(h:p:=by
 refine wk 3 ?_;refine aq 142 (AS rfl rfl hjl (show next.length<=maxLen by simp only[maxLen];omega)) ?_;refine wk 2 ?_;exact⟨j+1,Drop.mk' D5 o9,⟨hjl,Cv hnk hall (by rw[hat2];exact Qx hkge hagr)⟩,by omega⟩):p:=h
theorem WP(h:p:=by
 refine CE ⟨[_],⟨rfl,trivial⟩,?_,rfl⟩;refine bc ?_;simp_all[Tac.ins2]):p:=h
theorem w8(h:p:=by
 obtain⟨k,hk⟩:=q35 hq;have hlt:k<parts.toList.length:=by have:=(q05.1 hk).1;simpa using this
 have hltp:k<ps.length:=by omega
 have h3:=(l2 k ps[k] ((parts.toList[k]).1,a.eval (parts.toList[k]).2) (q13 hltp) (by rw[q54,q13 hlt];rfl)).2;rw[q54,q13 hlt]at hk
 cases hk
 rw[<-(GN h3).1];exact Ga hsz k _ (q13 hltp)):p:=h
theorem w7(h:p:=by
 exact⟨(),Sub.mk' B4 (by repeat(first|exact HSub.refl _|exact HSub.none _|exact AO _|exact AG Dl|refine HSub.put ?_ (by first|rfl|exact DT (pJ hsp)|exact DT (pK hsp)|exact DT (kw hsp)|exact DT (kx hsp))|refine AN ?_ Dl|refine Bh ?_ Al)),trivial⟩):p:=h
theorem wZ(h:p:=by
 refine wk 8 ?_;exact⟨(),Sub.mk' (by repeat(first|exact ESub.new _|refine ESub.put ?_ (by first|rfl|exact congrArg (fun c=>some (AV.bool c)) (by first|(simp_all[A2];done)|(simp_all[A2];omega))))) B5,trivial⟩):p:=h
theorem iL(h:p:=by
 refine CE ⟨[_],⟨rfl,trivial⟩,?_,rfl⟩;refine bc ?_;exact(UZ jx).symm):p:=h
theorem wY(h:p:=by
 refine wk 40 ?_;exact⟨(i+1,CX (d:Int) fr,to.set d none,maps'),DropK.mk' uS (WI (o6:=.free) (OS b) rfl rfl rfl rfl rfl rfl (KM _ _ _) (fun _=>rfl)),⟨hil,by rw[NX ht,hF.pre,hn],hI'⟩,by show b.ins.length-(i+1)<b.ins.length-i;omega⟩):p:=h
theorem wX(h:p:=by
 by_cases hi:i<ts.length
 . rw[qK0 hi]at hs;rw[qK0 (by rw[h.len];exact hi)]at hk';exact(h.key i s k' hs hk').ext hp
 . rw[qZ9 hi]at hs;rw[qZ9 (by rw[h.len];exact hi),h.len]at hk';have h0:i-ts.length=0:=by
    have:=(q05.1 hs).1;simp at this;omega
   rw[h0]at hs hk';simp at hs hk';subst hs;subst hk';exact hk.ext hp):p:=h
theorem wW(h:p:=by
 refine wk 2 ?_;exact⟨k+1,Drop.mk' D5 FM,(Cv hp hF (by simp only[Gi,hpe,Bool.not_false,qQ5];exact CJ hG hge2)),by omega⟩):p:=h
theorem wV(h:p:=by
 refine wk 2 ?_;exact⟨k+1,Drop.mk' D5 FM,⟨hkl,Cv (L1 hx hy) hall (py BR BR BR)⟩,by omega⟩):p:=h
theorem Zd(h:p:=by
 refine CE ⟨[_],⟨rfl,trivial⟩,?_,rfl⟩;refine bc ?_;simp_all[Hk];try omega):p:=h
theorem iK(h:p:=by
 rw[GX (e:=e) (fun x hx=>g1 x (by rw[ho];simp[Op.operands,Call.operands];exact .inr (by simpa using hx)))];exact hx):p:=h
theorem uy(h:p:=by
 refine CE ⟨[_],⟨rfl,trivial⟩,?_,rfl⟩;refine bc ?_;rw[HG h0.1 h0.2.1 h0.2.2,Cw (BG hf) (by show f.one _ _=false;exact c9 xP)]):p:=h
theorem wU(h:p:=by
 refine wk 2 ?_;exact⟨0,Sub.mk' B4 B5,by have h3:=O9 t.op;cases h1:use1 t.op<;>cases h2:use2 t.op<;>simp_all[Tac.uses]⟩):p:=h
theorem ux(h:p:=by
 have ho:op=9\/op=10\/op=11:=by simp_all
 refine wk 3 ?_;refine ax 60 (Cn Tryz.func93 (qW _ a b ha hb)) ?_;refine wk 4 ?_;refine⟨[_,_],⟨rfl,rfl,trivial⟩,?_,rfl⟩;show AV.tup _=_;rw[eD ha hb ho];rfl):p:=h
theorem wT(h:p:=by
 refine wk 2 ?_;refine aq 44 (AS rfl rfl hkl Bq) ?_;refine wk 2 ?_;exact⟨k+1,Drop.mk' Vh (by repeat(first|exact HDrop.none _ _|exact HDrop.tail _ _|refine HDrop.put ?_ (by first|rfl|exact congrArg (fun w=>some (rt 1 (BV w))) (eB hrf)|exact congrArg (fun w=>some (rt 1 (BV w))) (pg hrt hnx hge2)) rfl rfl)),hkl,by omega⟩):p:=h
theorem wQ(h:p:=by
 refine wk 5 ?_;exact⟨(),Sub.mk' (by repeat(first|exact ESub.new _|refine ESub.put ?_ (by first|rfl|exact congrArg (fun c=>some (AV.bool c)) Kd))) B5,trivial⟩):p:=h
theorem wP(h:p:=by
 exact⟨(),Sub.mk' (by repeat(first|exact ESub.new _|refine ESub.put ?_ (by first|rfl|exact congrArg (fun(n:Int)=>some (AV.int .i64 n)) (by simp[Iz, *])))) B5,trivial⟩):p:=h
theorem tQ(h:p:=by
 exact⟨(),Sub.mk' B4 (by repeat(first|exact HSub.refl _|exact HSub.none _|exact AO _|exact AG Dl|refine HSub.put ?_ (by first|rfl|exact DT (nq hfin hv2.1)|exact DT (qK hfin))|refine AN ?_ Dl|refine Bh ?_ Al)),trivial⟩):p:=h
theorem tP(h:p:=by
 refine wk 2 ?_;exact⟨k+1,Drop.mk' D5 FM,⟨hkl,Cv (BG (L1 hx hy)) hallb hgood⟩,by omega⟩):p:=h
theorem tO(h:p:=by
 obtain⟨info',d',c1,c2,c3,c4,_⟩:=Am (hT _ _ hi');refine⟨(f.offset,i'.size)::l,?_,fun k off t h3=>?_⟩
 . rw[List.mapM_cons];simp only[qQ9,Is c1,q57,qX1,h1,c4]
 . cases k with
   |zero=>simp at h3;obtain⟨rfl,rfl⟩:=h3;exact⟨i',hi',rfl⟩
   |succ k=>simp only[qQ0,q17]at h3|-;exact h2 k off t h3):p:=h
theorem tM(h:p:=by
 refine wk 2 ?_;exact⟨i+1,Drop.mk' D5 FM,(by rw[AT hu,AT hv,ht,huv]),by omega⟩):p:=h
theorem tL(h:p:=by
 refine wk 2 ?_;exact⟨j+1,Drop.mk' D5 FM,⟨hjl,Cv hr hall (q96 heq)⟩,by omega⟩):p:=h
theorem WV(h:p:=by
 rw[J2 (e:=e) (fun x hx=>g1 x (by rw[ho];simp only[Op.operands,List.mem_toArray];exact hx))];exact hx):p:=h
theorem tK(h:p:=by
 by_cases hj:j<32
 . rcases(by omega:a/2^j%2=0\/a/2^j%2=1)with h1|h1<;>rcases(by omega:b/2^j%2=0\/b/2^j%2=1)with h2|h2<;>simp[h1,h2,hj,iu]
 . have h1:a/2^j=0:=Nat.div_eq_of_lt (q51 ha (Nat.pow_le_pow_right Al Ab));have h2:b/2^j=0:=Nat.div_eq_of_lt (q51 hb (Nat.pow_le_pow_right Al Ab));simp[hj,h1,h2]):p:=h
theorem tJ(h:p:=by
 refine wk 2 ?_;exact⟨j+1,Drop.mk' D5 FM,(Cv hy hG (by simp_all[BK])),by omega⟩):p:=h
theorem tH(h:p:=by
 refine wk 7 ?_;refine⟨[_],⟨rfl,trivial⟩,?_,?_⟩
 . first
   |(rw[Qs hn];rfl)
   |(rw[Qr hi];exact(by rw[Qt,hi];rfl))
 . first
   |(rw[Qs hn];exact HSub.put (HSub.put (HSub.put (HSub.none _) (by dsimp only;rw[<-W1 hn];rfl)) cd) cd)
   |(rw[Qr hi];exact HSub.put (HSub.put (HSub.put (HSub.none _) rfl) rfl) rfl)):p:=h
theorem tG(h:p:=by
 refine wk 2 ?_;exact⟨k+1,Drop.mk' D5 (by repeat(first|exact HDrop.none _ _|exact HDrop.tail _ _|refine HDrop.put ?_ (by first|rfl|(rw[Zu ht];rfl)) rfl AE)),hkl,by omega⟩):p:=h
theorem tF(h:p:=by
 refine wk 2 ?_;exact⟨j+1,Drop.mk' D5 FM,Cv hu hj (by simpa using hbw),by omega⟩):p:=h
theorem jk(h:p:=by
 have hnx2:DC inn v x i q (m+1)=(S2.1,s.r||(!s.s&&S2.2)):=by rw[G2 bX bW,hS2];exact QN hlf hk2
 refine wk 5 ?_;exact zt1):p:=h
theorem jj(h:p:=by
 have hnx2:DC inn v x i q (m+1)=(S2.1,s.r||(!s.s&&S2.2)):=by rw[G2 bX bW,hS2];exact QN hlf hk2
 refine wk 3 ?_;exact zt1):p:=h
theorem tE(h:p:=by
 refine wk 2 ?_;exact⟨k+1,Drop.mk' D5 FM,(aK hF hf hg hl hyes),by omega⟩):p:=h
theorem Qf(h:p:=by
 refine CE ⟨[_],⟨rfl,trivial⟩,?_,rfl⟩;refine bc ?_;simp[setsOp, *]):p:=h
theorem tD(h:p:=by
 refine bc ?_;first|(simp_all[Ew,Ax];done)|(simp_all[Ew,Ax];omega)):p:=h
theorem Tg(h:p:=by
 exact(HSub.put (HSub.put (HSub.put (HSub.put (HSub.put (HSub.none _) rfl) rfl) rfl) rfl) rfl)):p:=h
theorem tC(h:p:=by
 refine wk 2 ?_;exact⟨(),Sub.mk' B4 B5,Kd⟩):p:=h
theorem tB(h:p:=by
 refine⟨by simp[<-ha.1,hn],rfl,fun t x hx=>?_,hr⟩;have hlt:t<vs.size:=by
  rw[<-ha.1];rcases qX4 t args.length with h|h
  . exact h
  . simp only[OV]at hx;rw[q26 h]at hx;cases hx
 obtain⟨v,hv⟩:=BN hlt;exact⟨v,by simp only;rw[q04 hlt];exact hv,ha.2 t x v hx hv⟩):p:=h
theorem ji(h:p:=by
 unfold wpList at hp|-
 by_cases hw:Region.wanted o' (yielded ops a1.tmps)=true
 . rw[qK0 hw]at hp|-;exact xG
 . rw[qZ9 hw]at hp|-;exact ih _ _ hp):p:=h
theorem tA(h:p:=by
 exact⟨j+1,Drop.mk' Vh (by repeat(first|exact HDrop.none _ _|exact HDrop.tail _ _|refine HDrop.put ?_ (by first|rfl|exact congrArg (fun es=>some (rt 1 es)) (Ct (f:=Bn) (x:=true) (by simp:(List.replicate f.regs.toNat true).length=f.regs.toNat) (by simp[hjl]))) rfl rfl)),hjl,by omega⟩):p:=h
theorem tz(h:p:=by
 cases e with
 |exit id'=>
  obtain⟨s',H',ι',q,r⟩:=hp;simp only[Exit.inBlock];simp only[WG]at q
  by_cases hid:id'=id
  . subst hid;simp only[Nat.beq_refl,qZ7]at q;rw[qK0 rfl];exact⟨s',H',ι',q,r⟩
  . rw[qZ9 hid];rw[AR hid]at q;exact⟨s',H',ι',q,r⟩
 |_=>exact hp):p:=h
theorem jh(h:p:=by
 rw[h.hi];have hu':u∈l1++l2:=hu;simp only[q78,q99]at hu'|-;rcases hu' with hu'|hu'
 . exact .inl hu'
 . exact .inr (.inr hu')):p:=h
theorem tw(h:p:=by
 refine CE ⟨[_],⟨rfl,trivial⟩,?_,rfl⟩;refine bc ?_;first|exact(Ol (fY hy hu hv (by simpa using(show(bif true then !decide (v=u)else decide (v=u))=true from ‹_›)))).symm|exact(Ol (fZ hy hjl (by have h:= ‹decide ((((old.joined (p.take k)).length+j:Nat):Int)>=_)=true›;simp at h;omega))).symm):p:=h
theorem tv(h:p:=by
 refine AOps.w rfl rfl (AY Ah rfl rfl rfl rfl rfl rfl (AL (AZ f) (qX0 hkl)) (CH (AZ f) hkl) rfl Al rfl C1) ?_;refine wk 2 ?_;refine aq 38 (AS rfl rfl hkl (show f.blocks.length<=maxLen by simp only[maxLen];omega)) ?_;exact uJ):p:=h
theorem tu(h:p:=by
 refine wk 5 ?_;refine aq 36 (Ae Ah (hm:=Io) (h0:=hdf.1)) ?_;refine aq 37 (Ao Ah rfl rfl rfl (.ptr _ _ _ _ _ _ _ _ rfl Io (KF ho)) rfl) ?_;refine wk 1 ?_;exact Sub.mk' B4 (HSub.refl _)):p:=h
theorem jg(h:p:=by
 refine CE ⟨[_],⟨rfl,trivial⟩,?_,rfl⟩;show AV.lst false _=_
 cases h1:use1 t.op<;>cases h2:use2 t.op<;>simp_all[Fw,Tac.uses,AI,A6,AV.cells]):p:=h
theorem tt(h:p:=by
 refine CE ⟨[_],⟨rfl,trivial⟩,?_,rfl⟩;refine bc ?_;rw[<-heq,hst]
 by_cases hcc:(f.blockAt y).ins.length<=q.rest.length
 . clear heq hst hF;first|(exfalso;simp_all;omega;done)|(have h3:¬q.rest.take (f.blockAt y).ins.length=(f.blockAt y).ins:=Kd;simp[h3];done)
 . simp[hcc]):p:=h
theorem tr(h:p:=by
 refine wk 40 ?_;refine ax 27 (Cn Tryz.func15 (cZ b ks hkl0 hbad)) ?_;refine wk 40 ?_;refine ax 5 (DA Ah 1) ?_;refine wk 40 ?_;refine ax 32 (Cn Tryz.func16 (Rg ks hkl0)) ?_;rw[hbad];refine wk 40 ?_;refine ax 34 (Cn Tryz.func14 hawake) ?_;refine wk 40 ?_;exact⟨[_],⟨rfl,trivial⟩,rfl,rfl⟩):p:=h
theorem jf(h:p:=by
 refine CE ⟨[_],⟨rfl,trivial⟩,?_,rfl⟩;refine bc ?_;exact(T0 xP).symm):p:=h
theorem bV(h:p:=by
 refine ax 12 DB ?_;refine wk 2 ?_;exact uC):p:=h
theorem tp(h:p:=by
 refine⟨[],trivial,rfl,?_⟩;rw[show(LG call s fuel f (fuel.toNat+1) 0 (List.replicate f.regs.toNat 0) m)=_ from Abp hF hk hI hge (by first|exact .inl (by simpa using ‹(!(Bi fuel r.m).1)=true›)|exact .inr ‹_›)];exact HSub.put (HSub.put (HSub.put (HSub.none _) rfl) rfl) rfl):p:=h
theorem tn(h:p:=by
 refine Bg ?_;have hge:old.blocks.length<=k:=by simpa using hb5
 refine wk 5 ?_;refine CE ⟨[_],⟨rfl,trivial⟩,?_,rfl⟩;refine bc ?_;exact(O7 (HE BR) hlen (FX BR) (FX BR) (CJ hall (by rw[List.length_zip];omega))).symm):p:=h
theorem je(h:p:=by
 refine CE ⟨[_],⟨rfl,trivial⟩,?_,rfl⟩;refine bc ?_;rw[hr,hr4]
 cases e:p.paths<;>first|(simp_all;done)|(exfalso;simp_all;omega)):p:=h
theorem tj(h:p:=by
 obtain⟨s',H',ι',q,r,t⟩:=hp
 cases e with
 |normal=>
  obtain⟨g,d,hF⟩:=q;obtain⟨H2,ι2,r2,t2⟩:=Ghost.of_sub d H' ι' a' w' r;exact⟨_,H2,ι2,k g hF,r2,t.trans hs.heap r.heap t2⟩
 |_=>exact⟨s',H',ι',q,r,t⟩):p:=h
theorem th(h:p:=by
 refine .tup _ _ _ rfl fun q x u hq hu=>?_
 match q,hq,hu with
 |0,hq,hu=>simp at hq hu;subst hq;subst hu;exact g5.mono (KLe.refl _) (LLe.none _)
 |1,hq,hu=>simp at hq hu;subst hq;subst hu;exact .bool _ _
 |q+2,hq,hu=>simp at hq):p:=h
theorem tg(h:p:=by
 refine⟨r',e1,e2.mono hkle (LLe.refl _) (fun _=>rfl),fun hs'=>?_⟩;have hxb:x≠b:=fun hx=>by subst hx;rw[Ib]at h1;cases h1
 rw[Gm _ _ (hr.inj x b o _ r' r (hsubh _ _ h1) h2 hb rfl e1 hl hs' hsol hxb)];exact e3 hs'):p:=h
theorem WU(h:p:=by
 exact HSub.put (HSub.put (HSub.put (HSub.put (HSub.none _) rfl) rfl) rfl) rfl):p:=h
theorem tf(h:p:=by
 cases e:H' r.rb with
 |none=>rfl
 |some c=>
  rcases hst.knew r.rb (by rw[e];simp)with g|g|g
  . exact absurd h5 g
  . have:=hr.lt ⟨b,o,r,h1,h2,h3,h4,rfl⟩;omega
  . exact absurd g (apart b o r hb h1 h2 h3 h4)):p:=h
theorem te(h:p:=by
 simp only[qZ3,pget,ih]
 cases hy:y==k with
 |true=>
  have hy':y=k:=by simpa using hy
  subst hy';have:(y==z)=false:=by simp at hz|-;omega
  rw[this];rfl
 |false=>rfl):p:=h
theorem td(h:p:=by
 refine .tup _ _ _ rfl fun q x u hq hu=>?_
 match q,hq,hu with
 |0,hq,hu=>simp at hq hu;subst hq;subst hu;exact Mt hz0
 |1,hq,hu=>simp at hq hu;subst hq;subst hu;exact .bool _ _
 |q+2,hq,hu=>simp at hq):p:=h
theorem jd(h:p:=by
 refine CE ⟨[_],⟨rfl,trivial⟩,?_,rfl⟩;refine bc ?_;exact(Su (Cw (BG hp) (by simp_all[I1]))).symm):p:=h
theorem bU(h:p:=by
 refine CE ⟨[_],⟨rfl,trivial⟩,?_,rfl⟩;refine bc ?_;simp_all[Ir];try omega):p:=h
theorem tc(h:p:=by
 unfold Oper.wp;rw[hexec];refine hcall.mono fun en w' hh=>?_
 obtain⟨v',r',H',rfl,rfl,k1,k2⟩:=hh;obtain⟨u1,u2⟩:=hs.heap.grown k2;exact⟨v',H',ι,rfl,(fun x ex=>by cases ex;exact k1.mono (KLe.refl _) (LLe.none _)),u1,u2⟩):p:=h
theorem ta(h:p:=by
 refine Bg ?_;have hge:x.ins.length<=i:=by simpa using hb6
 refine wk 5 ?_;refine CE ⟨[_],⟨rfl,trivial⟩,?_,rfl⟩;show AV.bool true=_;rw[q96 (bI h0.1 h0.2.1 h0.2.2.1 h0.2.2.2.1 (HT ht hge (h0.2.2.2.2▸hge)))]):p:=h
theorem jc(h:p:=by
 refine CE ⟨[_],⟨rfl,trivial⟩,?_,rfl⟩;show AV.int .u32 _=AV.int .u32 _;simp only[Hf, *,qZ7,qZ3]):p:=h
theorem jb(h:p:=by
 cases es with
 |nil=>exact absurd rfl hne
 |cons cs es=>rw[<-hsz' 0 cs Aq,hu cs Aq]):p:=h
theorem s9(h:p:=by
 refine Ba ?_;have hpe:(p.length==0)=true:=by have h:=hb5;simp at h;simp[h]
 refine wk 4 ?_;refine CE ⟨[_],⟨rfl,trivial⟩,?_,rfl⟩;refine bc ?_;exact(Sw (Cw hp (by simp[Gi,hpe]))).symm):p:=h
theorem s8(h:p:=by
 have ho:op=12\/op=13:=by simp_all
 refine wk 3 ?_;refine ax 67 (Cn Tryz.func94 (fv _ a b ha hb ho)) ?_;refine wk 4 ?_;refine⟨[_,_],⟨rfl,rfl,trivial⟩,?_,rfl⟩;show AV.tup _=_;rw[Zq ho];rfl):p:=h
theorem sZ(h:p:=by
 refine Ba ?_;have huv:u≠v:=by simpa using hb7
 refine wk 4 ?_;refine CE ⟨[_],⟨rfl,trivial⟩,?_,rfl⟩;show AV.bool false=_;rw[q89 (by rintro rfl;rw[hu]at hv;cases hv;exact huv rfl)]):p:=h
theorem sY(h:p:=by
 have e2:=Dg (f:=D3) (z:=[.nil]) (by simp:(List.replicate f.blocks.length (List.replicate f.regs.toNat true)).length=f.blocks.length) hge;show AV.tup [.agg [_,.lst false _],.agg [.lst false _]]=_;rw[e1,e2];rfl):p:=h
theorem ja(h:p:=by
 refine wk 4 ?_;refine CE ⟨[_],⟨rfl,trivial⟩,?_,rfl⟩;refine bc ?_;exact(aL hp hF.2 hno).symm):p:=h
theorem i9(h:p:=by
 rcases qX4 j cs.length with h|h
 . exact h
 . rw[q26 h]at e2;cases e2):p:=h
theorem i8(h:p:=by
 have:=Ghost.freeze (n:=n) t b ht hb hm;rwa[q95,q20 (Nat.le_of_eq hm.symm)]at this):p:=h
theorem sX(h:p:=by
 refine CE ⟨[_],⟨rfl,trivial⟩,?_,rfl⟩;refine bc ?_
 first
 |exact(Z2 (E5 (b:=vshaped old new) BR)).symm
 |exact(Z1 (E5 (b:=EX old c) BR)).symm):p:=h
theorem sW(h:p:=by
 refine wk 5 ?_;refine CE ⟨[_],⟨rfl,trivial⟩,?_,rfl⟩;refine bc ?_;exact(eE (mm hef) xS (CJ hall hjge)).symm):p:=h
theorem sV(h:p:=by
 obtain⟨q',k1',k2',_⟩:=hk b' hb';rw[k2]at h1;cases h1;rw[k2']at h3;cases h3;rw[mT b hb]at h5;rw[mT b' hb']at h6;exact hr'.inj b b' _ _ r r' k1 h2 k1' h4 h5 h6 s1 s2 hne):p:=h
theorem i7(h:p:=by
 refine aq 16 (AS rfl rfl hkl (show f.blocks.length<=maxLen by simp only[maxLen];omega)) ?_;exact uJ):p:=h
theorem sU(h:p:=by
 refine ax 8 (DA Ah 6) ?_;refine wk 40 ?_;exact⟨[_,_],⟨⟨_,_,_,_,rfl,rfl,.ptr _ _ _ _ _ _ _ _ rfl rfl rfl,rfl⟩,⟨_,_,_,_,rfl,rfl,.ptr _ _ _ _ _ _ _ _ rfl rfl rfl,rfl⟩,trivial⟩,rfl,rfl⟩):p:=h
theorem sT(h:p:=by
 refine wk 5 ?_;refine CE ⟨[_],⟨rfl,trivial⟩,?_,rfl⟩;refine bc ?_;exact(fx hout xS (CJ hall hjge)).symm):p:=h
theorem i6(h:p:=by
 refine CE ⟨[_],⟨rfl,trivial⟩,?_,rfl⟩;refine bc ?_;exact(T0 (by simp_all<;>omega)).symm):p:=h
theorem bT(h:p:=by
 cases e:p.cert.same<;>first|(simp_all;done)|(exfalso;simp_all;omega)):p:=h
theorem sS(h:p:=by
 have e1:=st.dom b e
 cases e2:h' b with
 |none=>rfl
 |some o=>
  rcases hd b o e2 with⟨g,_⟩|⟨_,g⟩
  . rw[g]at e1;cases e1
  . rw[hf b g]at e;cases e):p:=h
theorem i5(h:p:=by
 refine CE ⟨[_],⟨rfl,trivial⟩,?_,rfl⟩;refine bc ?_;exact(c9 (by simp_all<;>omega)).symm):p:=h
theorem sR(h:p:=by
 refine AOps.k 14 rfl rfl rfl ?_;refine AOps.k 15 rfl rfl rfl ?_;refine AOps.k 16 rfl rfl rfl ?_;refine AOps.k 17 rfl rfl rfl ?_;refine AOps.k 18 rfl rfl rfl ?_;refine wk 3 ?_;exact xu):p:=h
theorem i4(h:p:=by
 refine⟨e2,e3,e4,?_⟩;rw[hg,qZ9 (fun e=>by subst e;rw[hs]at e5;omega)];exact e5):p:=h
theorem sQ(h:p:=by
 refine wk 4 ?_;refine CE ⟨[_],⟨rfl,trivial⟩,?_,rfl⟩;refine bc ?_;exact(QI hx ht (by first|exact YQ h10 hbad|exact YP h10 (E5 hbad))).symm):p:=h
theorem bS(h:p:=by
 refine wk 4 ?_;refine⟨[_,_],⟨rfl,rfl,trivial⟩,?_,rfl⟩;rfl):p:=h
theorem sP(h:p:=by
 refine Ba ?_;have hno:BS f g l=false:=by simpa using hb7
 refine wk 4 ?_;refine CE ⟨[_],⟨rfl,trivial⟩,?_,rfl⟩;refine bc ?_;simp[Hk,X4 hf hg hl hno]):p:=h
theorem sO(h:p:=by
 obtain⟨r,r1,r2,r3⟩:=hr.obj b o h1 h2;exact⟨r,by rw[mF b hbL];exact r1,r2.mono hst.kle lle (fun hs=>blk b o r hbL h1 h2 r1 hs),fun hs=>noK b o r hbL h1 h2 r1 hs (r3 hs)⟩):p:=h
theorem sN(h:p:=by
 rcases h.t.cst (h.at hb)with⟨c,h1,h2,h3⟩|⟨h1,h2⟩
 . rw[h1,h3];simp[Tm.isZero]
 . rw[h2]
   cases e:tget s.regs t.b with
   |cst c=>exact absurd e (h1 c)
   |_=>rfl):p:=h
theorem sM(h:p:=by
 by_cases hki:k=i
 . subst hki;rw[q21 hilt]at hk;cases hk;exact .inl ⟨rfl,rfl⟩
 . rw[q36 (Ne.symm hki)]at hk;exact .inr ⟨hki,hk⟩):p:=h
theorem iZ(h:p:=by
 by_cases hxb:x=b
 . subst hxb;rw[Ib]at hx;cases hx
 . rwa[Hm _ hxb]at hx):p:=h
theorem bR(h:p:=by
 exact⟨undef,H,ι,(by rw[hd]),(fun x ex=>by cases ex),u1,u2⟩):p:=h
theorem sL(h:p:=by
 obtain⟨ts1,hp1,h1⟩:=h.step (hl t Aq) hr;obtain⟨ts2,hp2,h2⟩:=ih (fun u hu=>hl u IR) h1 ((s.step_len t).trans hr);exact⟨ts2,hp1.trans hp2,h2⟩):p:=h
theorem sK(h:p:=by
 refine wk 6 ?_;refine⟨[_,_],⟨rfl,rfl,trivial⟩,?_,?_⟩
 . first
   |(rw[L3 hlo];rfl)
   |(rw[hv];rfl)
 . exact HSub.put (HSub.put (HSub.put (HSub.none _) rfl) rfl) rfl):p:=h
theorem sJ(h:p:=by
 refine CE ⟨[_],⟨rfl,trivial⟩,?_,rfl⟩;refine bc ?_
 first
 |exact(Zz (E5 (b:=vshaped old new) BR)).symm
 |exact(Zy BR).symm):p:=h
theorem sI(h:p:=by
 rw[k2]at h1;cases h1;obtain⟨r,r1,r2,r3⟩:=hr'.obj b o k1 h2;exact⟨r,by rw[mT b hbL];exact r1,(Jb r2 k3).mono (KLe.refl _) lle' (fun _=>rfl),r3⟩):p:=h
theorem sH(h:p:=by
 cases ei:P.info? et with
 |none=>rw[ei]at hz;cases hz
 |some inf=>
  rw[ei]at hz;simp only[Option.bind_some]at hz;simp[zeroValue,typeInfo,ei,hz]):p:=h
theorem sG(h:p:=by
 simp only[q91,List.nil_append,q88]at hk1 hk2;obtain⟨e1,e2⟩:=hk2;subst e1;subst e2;subst hk1;exact .inl (h1.hg.trans h2.hg.symm)):p:=h
theorem sF(h:p:=by
 rcases hst.newrb b r' e es with k|k|⟨r0,k1,k2,k3⟩
 . exact .inl (BX k)
 . exact .inr (.inl k)
 . exact .inr (.inr ⟨r0,BX k1,k2,k3⟩)):p:=h
theorem sE(h:p:=by
 refine wk 40 ?_;exact⟨(),Sub.mk' B4 (by rw[hs];exact OY rfl rfl rfl rfl rfl rfl rfl (fun _=>rfl)),trivial⟩):p:=h
theorem sD(h:p:=by
 obtain⟨i,hi⟩:=q27.1 hm;obtain⟨k,hk⟩:=Ad (l:=K) (k:=i) jB;exact h.key i _ k hi hk):p:=h
theorem iY(h:p:=by
 refine⟨[_,_],⟨rfl,rfl,trivial⟩,?_,rfl⟩;show AV.tup _=AV.tup _;simp[GT, *]):p:=h
theorem sC(h:p:=by
 refine wk 4 ?_;refine CE ⟨[_],⟨rfl,trivial⟩,?_,rfl⟩;refine bc ?_;exact(fy hnk (by rw[hat2];exact TG hmu hmt (JV hag))).symm):p:=h
theorem sB(h:p:=by
 refine wk 4 ?_;refine CE ⟨[_],⟨rfl,trivial⟩,?_,rfl⟩;refine bc ?_;exact(eF hnk (by rw[hat2];exact TG hmu hmt (JV hag))).symm):p:=h
theorem sA(h:p:=by
 simp[execOp,ho,resolve,invoke,builtin,Builtin.delete_,hvx,hvy,As e2,q23 r3,Gd e2',G3 e2' f1,q24 _ r3]):p:=h
theorem sy(h:p:=by
 refine wk 5 ?_;refine CE ⟨[_],⟨rfl,trivial⟩,?_,rfl⟩;refine bc ?_;exact(bn h0.1 h0.2.1 h0.2.2 hall hz (CJ hS (by rw[List.length_zipIdx];exact hge3))).symm):p:=h
theorem sx(h:p:=by
 have g:(AV.ptr 4 1 0 0).avoid k=true:=h1;have g2:(AV.int .i64 x).avoid k=true:=rfl;simp only[AObj.avoid,qQ1,qX7,h,h',g,g2,Bool.and_self]):p:=h
theorem sw(h:p:=by
 obtain⟨h1,h2⟩:=h.out;exact⟨by simpa using h1,fun j k v hj=>by
  obtain⟨e,g1,g2⟩:=h2 j k v hj;exact⟨e,by simpa using g1,g2⟩⟩):p:=h
theorem sv(h:p:=by
 rw[<-hC,Array.size_append,size_zeroCells,hzl];simp only[List.size_toArray,q48,hol,hnl,<-qZ2];congr 1;omega):p:=h
theorem su(h:p:=by
 refine wk 6 ?_;refine⟨[_,_],⟨rfl,rfl,trivial⟩,?_,rfl⟩;show AV.tup _=_;rw[show(((0:Nat):Int))=0 from rfl,eC _ _ Aq];rfl):p:=h
theorem ss(h:p:=by
 simp only[qZ3,q99]at hq;rcases hq with rfl|hq
 . exact h _ Aq
 . exact ih (fun q hq=>h q (by simp[hq])) q hq):p:=h
theorem bQ(h:p:=by
 refine wk 40 ?_;exact⟨[_],⟨rfl,trivial⟩,rfl,rfl⟩):p:=h
theorem sr(h:p:=by
 obtain⟨ts',hp,h1,h2⟩:=h.t.num hk hw;exact⟨ts',hp,h1,(h.regs.mono fun x y hxy=>hxy.ext hp).set h2 _,h.effs.mono fun x y hxy=>hxy.ext hp,h.time⟩):p:=h
theorem sq(h:p:=by
 have:j+1+l.length=j+(u::l).length:=by rw[q70];omega
 rw[this]
 cases u.uses.contains (v:Int)||u.sets==(v:Int)<;>simp):p:=h
theorem sl(h:p:=by
 simp only[execOp,ho,hv,hn,eqGuard,binOp,Op.equal,Op.maxDepth,qQ9,q57,qX1,he,qQ7,q50,if_false]):p:=h
theorem sk(h:p:=by
 exact⟨p+1,h1,by rw[show j+(p+1)=j+1+p by omega];exact h2,by rw[List.drop_succ_cons,show j+(p+1)+1=j+1+p+1 by omega];exact h3⟩):p:=h
theorem sg(h:p:=by
 have e:(t.sets==(v:Int))=false:=by rw[q40];omega
 rw[e,Bool.or_false];unfold BZ
 cases t.uses.contains (v:Int)<;>rfl):p:=h
theorem sf(h:p:=by
 rw[<-hres'];funext b;unfold hres
 cases e:mem L b with
 |true=>simp only[qZ7];exact g2 b (mem_iff.1 e)
 |false=>rfl):p:=h
theorem iX(h:p:=by
 have:=Ae hT ho hx hy hi hk hj hb rfl hsz h0 hn;rwa[qQ8]at this):p:=h
theorem se(h:p:=by
 rcases qX4 j (es.length*sz)with h|h
 . exact h
 . rw[q26 (by rw[hnl];exact h)]at hj;cases hj):p:=h
theorem iW(h:p:=by
 refine CE ⟨[_],⟨rfl,trivial⟩,?_,rfl⟩;refine bc ?_;simp_all[Hk]):p:=h
theorem sd(h:p:=by
 exact .inr ⟨k,by simp only[q80,q53];exact(Aw hs (by rw[g1 y BY];exact hk)).int_inv⟩):p:=h
theorem sc(h:p:=by
 refine AOps.k 74 rfl rfl rfl ?_;refine AOps.k 75 rfl rfl rfl ?_;refine AOps.k 76 rfl rfl rfl ?_;refine wk 2 ?_;exact xt):p:=h
theorem iV(h:p:=by
 refine⟨[_],⟨rfl,trivial⟩,?_,HSub.put (HSub.none _) rfl⟩;exact tD):p:=h
theorem sb(h:p:=by
 refine CE ⟨[_],⟨rfl,trivial⟩,?_,rfl⟩;show AV.bool false=_;rw[q89 (by rintro rfl;rw[hf]at hg;cases hg;simp_all)]):p:=h
theorem iU(h:p:=by
 rw[hlput]at this;exact⟨H,ι,⟨hs.n,hs.d,hs.env,this.1⟩,this.2⟩):p:=h
theorem sa(h:p:=by
 refine CE ⟨[_],⟨rfl,trivial⟩,?_,rfl⟩;refine bc ?_;exact(aw (Cw (K6 hk1) (by rw[hat];simp_all))).symm):p:=h
theorem r9(h:p:=by
 refine⟨by have:=F2 f;omega,fun x hx=>?_⟩;have:x.count<=f.count:=RU hx;simp only[Block.count]at this;omega):p:=h
theorem r8(h:p:=by
 refine wk 7 ?_;refine CE ⟨[_],⟨rfl,trivial⟩,?_,rfl⟩;refine bc ?_;first|(simp_all[A2];done)|(simp_all[A2];omega)):p:=h
theorem rZ(h:p:=by
 refine Ba ?_;have hz:=hb9;refine wk 4 ?_;refine CE ⟨[_],⟨rfl,trivial⟩,?_,rfl⟩;refine bc ?_;exact(bo hz).symm):p:=h
theorem rY(h:p:=by
 refine wk 5 ?_;refine CE ⟨[_],⟨rfl,trivial⟩,?_,rfl⟩;refine bc ?_;first|(simp_all[BL];done)|(simp_all[BL];omega)):p:=h
theorem rX(h:p:=by
 refine CE ⟨[_],⟨rfl,trivial⟩,?_,rfl⟩;refine bc ?_
 cases e:p.paths<;>first|(simp_all;done)|(exfalso;simp_all;omega)):p:=h
theorem rW(h:p:=by
 have:len*1<=len*j.size:=Nat.mul_le_mul_left _ hp;have h2:=q28 hbig;simp only[maxLen];omega):p:=h
theorem bP(h:p:=by
 cases e:use1 op<;>cases e2:use2 op<;>simp_all):p:=h
theorem rV(h:p:=by
 rcases qX4 i es.length with h|h
 . exact h
 . rw[q26 h]at h1;cases h1):p:=h
theorem rU(h:p:=by
 by_cases hu:u=t
 . subst hu;rw[DG]at hx;cases hx;exact⟨hv,ha⟩
 . rw[FK _ _ hu]at hx;exact h u x hx):p:=h
theorem rS(h:p:=by
 refine CE ⟨[_],⟨rfl,trivial⟩,?_,rfl⟩;refine bc ?_;exact(Cw (K6 hkl) (by rw[hat];simp_all)).symm):p:=h
theorem rR(h:p:=by
 rw[Cy]
 cases e:inN x o v with
 |true=>rfl
 |false=>rw[e,h1]at hne;exact absurd rfl hne):p:=h
theorem iS(h:p:=by
 rw[<-hC,q04 Em]
 simp):p:=h
theorem rQ(h:p:=by
 rcases hget k ds hk with⟨rfl,rfl⟩|⟨_,hk'⟩
 . rw[q83];exact r5 k cs hi
 . exact r5 k ds hk'):p:=h
theorem rP(h:p:=by
 cases d<;>simp[J9]at h
 . rw[h.1,h.2]
 . rename_i a;revert h;cases (a.all fun f=>P.cellsOf f.type !=0)<;>simp):p:=h
theorem bO(h:p:=by
 obtain⟨t,_,rfl⟩:=qX3.1 hc;rfl):p:=h
theorem rO(h:p:=by
 refine wk 40 ?_;exact⟨[_],⟨⟨_,_,_,_,rfl,rfl,.ptr _ _ _ _ _ _ _ _ rfl rfl rfl,rfl⟩,trivial⟩,rfl,rfl⟩):p:=h
theorem rN(h:p:=by
 exact⟨[_,_,_],⟨⟨_,_,_,_,rfl,rfl,.ptr _ _ _ _ _ _ _ _ rfl rfl rfl,rfl⟩,rfl,rfl,trivial⟩,rfl,rfl⟩):p:=h
theorem rM(h:p:=by
 cases d<;>simp[J9]at h
 . rw[h]
 . rename_i a;revert h;cases (a.all fun f=>P.cellsOf f.type !=0)<;>simp):p:=h
theorem rL(h:p:=by
 by_cases hc:c=b
 . subst hc;simp[AQ,AB,hb']
 . simp[AQ,Bd _ _ hc]):p:=h
theorem rK(h:p:=by
 rw[hl]at hr';cases hr';exact .inr ⟨by show r.n<es.length+es2.length;omega,by omega,r1.symm⟩):p:=h
theorem rJ(h:p:=by
 refine wk 2 ?_;refine CE ⟨[_],⟨rfl,trivial⟩,?_,rfl⟩;refine bc ?_;exact(ZK (CJ hall hge)).symm):p:=h
theorem rH(h:p:=by
 have hb':c.R.contains b=true:=by simpa using hb
 rw[hb']at this;simp at this):p:=h
theorem rE(h:p:=by
 simp only[qZ7,qZ3]
 cases decide (Ai regs t.a>=t.size)<;>exact⟨rfl,.inr (hle _ _ _ _)⟩):p:=h
theorem rD(h:p:=by
 cases d<;>simp[J9]at h
 . rfl
 . rename_i a;revert h;cases (a.all fun f=>P.cellsOf f.type !=0)<;>simp):p:=h
theorem rC(h:p:=by
 obtain⟨v,f1,f2,f3⟩:=w3.2 j cs l z hk hl';exact⟨v,f1,f2.mono (KLe.refl _) hll,f3⟩):p:=h
theorem rB(h:p:=by
 refine ax 20 DB ?_;refine wk 2 ?_;exact uC):p:=h
theorem iR(h:p:=by
 cases ad<;>simp[Builtin.firstCells,loadCells,loadCellsFrom]):p:=h
theorem iQ(h:p:=by
 rw[<-h3];exact congrArg (·,0) (uW (BitVec.isLt _))):p:=h
theorem rz(h:p:=by
 refine wk 5 ?_;refine CE ⟨[_],⟨rfl,trivial⟩,?_,rfl⟩;refine bc ?_;rw[HG h0.1 h0.2.1 h0.2.2,hall]):p:=h
theorem bN(h:p:=by
 simp[Builtin.len_,As e2,goInt]):p:=h
theorem ry(h:p:=by
 refine CE ⟨[_],⟨rfl,trivial⟩,?_,rfl⟩;show AV.int .i64 _=AV.int .i64 _;congr 1;simp_all[Tac.sets]):p:=h
theorem iP(h:p:=by
 refine CE ⟨[_],⟨rfl,trivial⟩,?_,rfl⟩;exact tD):p:=h
theorem rx(h:p:=by
 simp[execOp,ho,Instr.indexAt,hva,hvy,asIntOf,As e2,sizeOf,typeInfo,e1',e4',hcond,Hq]):p:=h
theorem rv(h:p:=by
 rw[hz];have:z=k:=by simpa using hz
 subst this;exact .cons z v m _ es rfl hv h):p:=h
theorem ru(h:p:=by
 cases e:Nat.beq x y with
 |false=>rfl
 |true=>exact absurd (q25 e) hy):p:=h
theorem rq(h:p:=by
 have:(s.at_==x.ins.length)=false:=by rw[q40];omega
 rw[this];rfl):p:=h
theorem rp(h:p:=by
 refine CE ⟨[_],⟨rfl,trivial⟩,?_,rfl⟩;refine bc ?_;exact(dJ (by simp_all<;>omega)).symm):p:=h
theorem ro(h:p:=by
 obtain⟨s',H',ι',q,r⟩:=hp
 cases e<;>first|exact⟨s',H',ι',q,r⟩|exact q.elim):p:=h
theorem rn(h:p:=by
 rcases hd.h b o h1 with⟨g1,g2⟩|⟨g1,_⟩
 . exact⟨g1,g2 h2⟩
 . subst g1;cases h2):p:=h
theorem rl(h:p:=by
 show Jq (nb _) F (2+i)=_;rw[Mq _ _ Ab];unfold nb;congr 1;rw[Nat.add_comm 2 i];rfl):p:=h
theorem rj(h:p:=by
 refine wk 6 ?_;refine CE ⟨[_],⟨rfl,trivial⟩,?_,rfl⟩;refine bc ?_;simp_all[A2]<;>omega):p:=h
def ue:Nat->Option (List (IntKind×Int)):=fun _=>none
inductive AV where
  |bool (b:Bool)
  |int (k:IntKind) (n:Int)
  |str (s:ByteArray)
  |nil
  |nilp
  |lst (ex:Bool) (es:List (List AV))
  |loc (cs:List AV)
  |ref (b n off len:Nat)
  |ptr (b n i o:Nat)
  |map (b:Nat)
  |agg (cs:List AV)
  |tup (vs:List AV)
  |fn (f:Fn) (fs cs:List AV)
  |val (v:Value)
def qa:Value->Bool
  | .agg _| .tuple _=>false
  |_=>true
def AV.cell1:AV->Bool
  | .agg _| .tup _=>false
  |_=>true
abbrev AJ:=Nat->Option (Array Value)
structure Ent where
  rb:Nat
  sz:Nat
  n:Nat
  csz:Nat
def Ent.solid(r:Ent):Prop:=r.csz≠0
abbrev BD:=Nat->Option Ent
def Bk:BD:=fun _=>none
inductive Rel(H:AJ):BD->AV->Value->Prop
  |bool (ι:BD) (b:Bool):Rel H ι (.bool b) (.bool b)
  |int (ι:BD) (k:IntKind) (n:Int):Rel H ι (.int k n) (.int k n)
  |str (ι:BD) (s:ByteArray):Rel H ι (.str s) (.string s)
  |nil (ι:BD):Rel H ι .nil (.slice none 0 0)
  |nilp (ι:BD):Rel H ι .nilp (.pointer none)
  |lst0 (ι:BD) (ex:Bool) (a:Option Addr) (cap:Nat) (hex:ex=true->cap=0) (hcap:cap<=maxLen) (hn:a=none->cap=0) (hsp:True):Rel H ι (.lst ex []) (.slice a 0 cap)
  |lst (ι:BD) (ex:Bool) (es:List (List AV)) (b off cap sz:Nat) (c:Array Value) (vals:Nat->Nat->Value) (hne:es≠[]) (hb:H b=some c)
      (hsz:∀(i:Nat) (cs:List AV),es[i]?=some cs->cs.length=sz)
      (hv:∀(i:Nat) (cs:List AV) (j:Nat) (x:AV),es[i]?=some cs->cs[j]?=some x->c[off+i*sz+j]?=some (vals i j))
      (hr:∀(i:Nat) (cs:List AV) (j:Nat) (x:AV),es[i]?=some cs->cs[j]?=some x->Rel H Bk x (vals i j))
      (h1:∀(i:Nat) (cs:List AV) (j:Nat) (x:AV),es[i]?=some cs->cs[j]?=some x->x.cell1=true)
      (hex:ex=true->cap=es.length) (hcap:es.length<=cap) (hmax:cap<=maxLen):
      Rel H ι (.lst ex es) (.slice (some ⟨b,off,none⟩) es.length cap)
  |loc (ι:BD) (cs:List AV) (b off:Nat) (c:Array Value) (vals:Nat->Value) (hb:H b=some c)
      (hv:∀(j:Nat) (x:AV),cs[j]?=some x->c[off+j]?=some (vals j)) (hr:∀(j:Nat) (x:AV),cs[j]?=some x->Rel H Bk x (vals j))
      (h1:∀(j:Nat) (x:AV),cs[j]?=some x->x.cell1=true):
      Rel H ι (.loc cs) (.pointer (some ⟨b,off,none⟩))
  |refL (ι:BD) (b n off len cap:Nat) (r:Ent) (hr:ι b=some r) (hn:r.n=n) (hlen:off+len<=n) (hlc:len<=cap) (hcap:(off+cap)*r.sz=r.csz) (hmax:cap<=maxLen):
      Rel H ι (.ref b n off len) (.slice (some ⟨r.rb,off*r.sz,none⟩) len cap)
  |ref0 (ι:BD) (b:Nat) (r:Ent) (a:Option Addr) (hr:ι b=some r) (hn:r.n=0) (hc:r.csz=0) (hsp:True):Rel H ι (.ref b 0 0 0) (.slice a 0 0)
  |refS (ι:BD) (b n off len:Nat) (r:Ent) (a:Option Addr) (cap:Nat) (hr:ι b=some r) (hn:n<r.n):Rel H ι (.ref b n off len) (.slice a len cap)
  |ptrL (ι:BD) (b n i o:Nat) (r:Ent) (hr:ι b=some r) (hn:r.n=n):Rel H ι (.ptr b n i o) (.pointer (some ⟨r.rb,i*r.sz+o,none⟩))
  |ptrS (ι:BD) (b n i o:Nat) (r:Ent) (a:Addr) (hr:ι b=some r) (hn:n<r.n):Rel H ι (.ptr b n i o) (.pointer (some a))
  |map (ι:BD) (b:Nat) (r:Ent) (hr:ι b=some r) (hn:r.sz=0):Rel H ι (.map b) (.map (some r.rb))
  |agg (ι:BD) (cs:List AV) (vs:Array Value) (hl:cs.length=vs.size) (hr:∀(j:Nat) (x:AV) (v:Value),cs[j]?=some x->vs[j]?=some v->Rel H ι x v):Rel H ι (.agg cs) (.agg vs)
  |tup (ι:BD) (cs:List AV) (vs:Array Value) (hl:cs.length=vs.size) (hr:∀(j:Nat) (x:AV) (v:Value),cs[j]?=some x->vs[j]?=some v->Rel H ι x v):Rel H ι (.tup cs) (.tuple vs)
  |fn (ι:BD) (f:Fn) (xs cs:List AV) (us vs:Array Value) (hx:xs.length=us.size) (hl:cs.length=vs.size)
      (h1:∀(j:Nat) (x:AV) (v:Value),xs[j]?=some x->us[j]?=some v->Rel H ι x v) (h2:∀(j:Nat) (x:AV) (v:Value),cs[j]?=some x->vs[j]?=some v->Rel H ι x v):Rel H ι (.fn f xs cs) (.func f us vs)
  |val (ι:BD) (v:Value) (h:qa v=true):Rel H ι (.val v) v
def KLe(H H':AJ):Prop:=∀b c,H b=some c->H' b=some c
def LLe(ι ι':BD):Prop:=∀b r,ι b=some r->∃r',ι' b=some r'/\(r'=r\/r.n<r'.n/\0<r.sz/\r'.sz=r.sz)
theorem KLe.refl(H:AJ):KLe H H:=fun _ _ h=>h
abbrev qK1:=@KLe.refl
variable {H' : AJ}
theorem KLe.trans{H H'':AJ}(h:KLe H H')(h':KLe H' H''):KLe H H'':=fun b c e=>h' b c (h b c e)
theorem LLe.refl(ι:BD):LLe ι ι:=fun _ r h=>⟨r,h,.inl rfl⟩
abbrev qK2:=@LLe.refl
theorem LLe.trans{ι ι' ι'':BD}(h:LLe ι ι')(h':LLe ι' ι''):LLe ι ι'':=fun b r e=>by
 obtain⟨r',e',h1⟩:=h b r e;obtain⟨r'',e'',h2⟩:=h' b r' e';refine⟨r'',e'',?_⟩;rcases h1 with rfl|h1<;>rcases h2 with rfl|h2
 . exact .inl rfl
 . exact .inr h2
 . exact .inr h1
 . exact .inr ⟨Nat.lt_trans h1.1 h2.1,h1.2.1,h2.2.2.trans h1.2.2⟩
theorem LLe.none(ι:BD):LLe Bk ι:=fun _ _ h=>by cases h
theorem Rel.mono{H:AJ}{ι:BD}{x:AV}{v:Value}(h:Rel H ι x v)(hH:KLe H H'):∀{ι':BD},LLe ι ι'->Rel H' ι' x v:=by
 induction h with
 |bool=>exact fun _=>.bool _ _
 |int=>exact fun _=>.int _ _ _
 |str=>exact fun _=>.str _ _
 |nil=>exact fun _=>.nil _
 |nilp=>exact fun _=>.nilp _
 |lst0 ι ex a cap hex hcap hn hsp=>exact fun _=>.lst0 _ ex a cap hex hcap hn hsp
 |lst ι ex es b off cap sz c vals hne hb hsz hv hr hc1 hex hcap hmax ih=>
  exact fun _=>.lst _ ex es b off cap sz c vals hne (hH _ _ hb) hsz hv (fun i cs j x h1 h2=>ih i cs j x h1 h2 (qK2 _)) hc1 hex hcap hmax
 |loc ι cs b off c vals hb hv hr hc1 ih=>
  exact fun _=>.loc _ cs b off c vals (hH _ _ hb) hv (fun j x h1=>ih j x h1 (qK2 _)) hc1
 |refL ι b n off len cap r hr hn hlen hlc hcap hmax=>
  intro ι' h;obtain⟨r',e,h1⟩:=h b r hr;rcases h1 with rfl|h1
  . exact .refL _ b n off len cap r' e hn hlen hlc hcap hmax
  . exact .refS _ b n off len r' _ cap e (hn▸h1.1)
 |ref0 ι b r a hr hn hc hsp=>
  intro ι' h;obtain⟨r',e,h1⟩:=h b r hr;rcases h1 with rfl|h1
  . exact .ref0 _ b r' a e hn hc hsp
  . exact .refS _ b 0 0 0 r' _ 0 e Ab
 |refS ι b n off len r a cap hr hn=>
  intro ι' h;obtain⟨r',e,h1⟩:=h b r hr;rcases h1 with rfl|h1
  . exact .refS _ b n off len r' a cap e hn
  . exact .refS _ b n off len r' a cap e (Nat.lt_trans hn h1.1)
 |ptrL ι b n i o r hr hn=>
  intro ι' h;obtain⟨r',e,h1⟩:=h b r hr;rcases h1 with rfl|h1
  . exact .ptrL _ b n i o r' e hn
  . exact .ptrS _ b n i o r' _ e (hn▸h1.1)
 |ptrS ι b n i o r a hr hn=>
  intro ι' h;obtain⟨r',e,h1⟩:=h b r hr;rcases h1 with rfl|h1
  . exact .ptrS _ b n i o r' a e hn
  . exact .ptrS _ b n i o r' a e (Nat.lt_trans hn h1.1)
 |map ι b r hr hn=>
  intro ι' h;obtain⟨r',e,h1⟩:=h b r hr;rcases h1 with rfl|h1
  . exact .map _ b r' e hn
  . omega
 |val ι v h=>exact fun _=>.val _ v h
 |agg ι cs vs hl hr ih=>exact fun h=>.agg _ cs vs hl (fun j x v h1 h2=>ih j x v h1 h2 h)
 |tup ι cs vs hl hr ih=>exact fun h=>.tup _ cs vs hl (fun j x v h1 h2=>ih j x v h1 h2 h)
 |fn ι f xs cs us vs hx hl h1 h2 ih1 ih2=>exact fun h=>.fn _ f xs cs us vs hx hl (fun j x v e1 e2=>ih1 j x v e1 e2 h) (fun j x v e1 e2=>ih2 j x v e1 e2 h)
def m6(l:List (IntKind×Int)):AV:=.loc (l.map fun p=>.int p.1 p.2)
def GlobOk(H:AJ):Prop:=∀(g:Nat) (l:List (IntKind×Int)),ue g=some l->Rel H Bk (m6 l) (.pointer (some ⟨g,0,none⟩))
theorem GlobOk.mono{H H':AJ}(h:GlobOk H)(hH:KLe H H'):GlobOk H':=fun g l e=>(h g l e).mono hH (qK2 _)
variable {H : AJ} {ι : BD} {v : Value}
theorem Rel.bool_inv{b:Bool}(h:Rel H ι (.bool b) v):v=.bool b:=by cases h;rfl
variable {k : IntKind}
theorem Rel.int_inv{n:Int}(h:Rel H ι (.int k n) v):v=.int k n:=by cases h;rfl
theorem Rel.str_inv{s:ByteArray}(h:Rel H ι (.str s) v):v=.string s:=by cases h;rfl
theorem Rel.nil_inv(h:Rel H ι .nil v):v=.slice none 0 0:=by cases h;rfl
variable {u : Value}
theorem Rel.val_inv(h:Rel H ι (.val u) v):v=u/\qa u=true:=by cases h;exact⟨rfl,by assumption⟩
variable {b : Nat}
theorem Rel.map_inv(h:Rel H ι (.map b) v):∃r,ι b=some r/\r.sz=0/\v=.map (some r.rb):=by cases h;exact⟨_,by assumption,by assumption,rfl⟩
variable {cs : List AV}
theorem Rel.tup_inv(h:Rel H ι (.tup cs) v):∃us,v=.tuple us/\cs.length=us.size/\∀(j:Nat) (x:AV) (u:Value),cs[j]?=some x->us[j]?=some u->Rel H ι x u:=by
 cases h;exact⟨_,rfl,by assumption,by assumption⟩
theorem Rel.agg_inv(h:Rel H ι (.agg cs) v):∃us,v=.agg us/\cs.length=us.size/\∀(j:Nat) (x:AV) (u:Value),cs[j]?=some x->us[j]?=some u->Rel H ι x u:=by
 cases h;exact⟨_,rfl,by assumption,by assumption⟩
theorem Rel.fn_inv{f:Fn}{xs:List AV}(h:Rel H ι (.fn f xs cs) v):∃us vs,v=.func f us vs/\xs.length=us.size/\cs.length=vs.size/\
 (∀(j:Nat) (x:AV) (u:Value),xs[j]?=some x->us[j]?=some u->Rel H ι x u)/\(∀(j:Nat) (x:AV) (u:Value),cs[j]?=some x->vs[j]?=some u->Rel H ι x u):=by
 cases h;exact⟨_,_,rfl,by assumption,by assumption,by assumption,by assumption⟩
variable {ex : Bool} {es : List (List AV)}
theorem Rel.lst_inv(h:Rel H ι (.lst ex es) v):
 (es=[]/\∃a cap,v=.slice a 0 cap/\(ex=true->cap=0)/\cap<=maxLen/\(a=none->cap=0)/\True)\/
 (es≠[]/\∃b off cap sz c,∃vals:Nat->Nat->Value,v=.slice (some ⟨b,off,none⟩) es.length cap/\H b=some c/\(∀(i:Nat) (cs:List AV),es[i]?=some cs->cs.length=sz)/\
  (∀(i:Nat) (cs:List AV) (j:Nat) (x:AV),es[i]?=some cs->cs[j]?=some x->c[off+i*sz+j]?=some (vals i j))/\
  (∀(i:Nat) (cs:List AV) (j:Nat) (x:AV),es[i]?=some cs->cs[j]?=some x->Rel H Bk x (vals i j))/\
  (∀(i:Nat) (cs:List AV) (j:Nat) (x:AV),es[i]?=some cs->cs[j]?=some x->x.cell1=true)/\
  (ex=true->cap=es.length)/\es.length<=cap/\cap<=maxLen):=by
 cases h with
 |lst0 _ _ a cap h1 h2 h3 h4=>exact .inl ⟨rfl,a,cap,rfl,h1,h2,h3,h4⟩
 |lst _ _ _ b off cap sz c vals h0 h1 h2 h3 h4 h5 h6 h7 h8=>exact .inr ⟨h0,b,off,cap,sz,c,vals,rfl,h1,h2,h3,h4,h5,h6,h7,h8⟩
theorem Rel.lst_len(h:Rel H ι (.lst ex es) v):∃a cap,v=.slice a es.length cap:=by
 cases h with
 |lst0 _ _ a cap h1 h2 h3 h4=>exact⟨a,cap,rfl⟩
 |lst _ _ _ b off cap sz c vals h0 h1 h2 h3 h4 h5 h6 h7 h8=>exact⟨_,_,rfl⟩
theorem Rel.loc_inv(h:Rel H ι (.loc cs) v):∃b off c,∃vals:Nat->Value,v=.pointer (some ⟨b,off,none⟩)/\H b=some c/\
 (∀(j:Nat) (x:AV),cs[j]?=some x->c[off+j]?=some (vals j))/\(∀(j:Nat) (x:AV),cs[j]?=some x->Rel H Bk x (vals j))/\(∀(j:Nat) (x:AV),cs[j]?=some x->x.cell1=true):=by
 cases h;exact⟨_,_,_,_,rfl,by assumption,by assumption,by assumption,by assumption⟩
variable {n off len : Nat}
theorem Rel.ref_len(h:Rel H ι (.ref b n off len) v):∃a cap,v=.slice a len cap:=by
 cases h<;>exact⟨_,_,rfl⟩
variable {r : Ent}
theorem Rel.ref_live(h:Rel H ι (.ref b n off len) v)(hr:ι b=some r)(hn:r.n=n)(hc:r.csz≠0):
 off+len<=n/\∃cap,v=.slice (some ⟨r.rb,off*r.sz,none⟩) len cap/\len<=cap/\(off+cap)*r.sz=r.csz/\cap<=maxLen:=by
 cases h with
 |ref0 _ _ r' a hr' hn' hc'=>rw[hr]at hr';cases hr';exact absurd hc' hc
 |refL _ _ _ _ _ cap r' hr' hn' hlen hlc hcap hmax=>rw[hr]at hr';cases hr';exact⟨hlen,cap,rfl,hlc,hcap,hmax⟩
 |refS _ _ _ _ _ r' a cap hr' hn'=>rw[hr]at hr';cases hr';omega
theorem Rel.ptr_live{i o:Nat}(h:Rel H ι (.ptr b n i o) v)(hr:ι b=some r)(hn:r.n=n):v=.pointer (some ⟨r.rb,i*r.sz+o,none⟩):=by
 cases h with
 |ptrL _ _ _ _ _ r' hr' hn'=>rw[hr]at hr';cases hr';rfl
 |ptrS _ _ _ _ _ r' a hr' hn'=>rw[hr]at hr';cases hr';omega
theorem Rel.ptr_some{i o:Nat}(h:Rel H ι (.ptr b n i o) v):∃a,v=.pointer (some a):=by
 cases h<;>exact⟨_,rfl⟩
theorem Rel.ref_dry(h:Rel H ι (.ref b n off len) v)(hr:ι b=some r)(hn:r.n=n)(hc:r.csz=0)(hs:0<r.sz):
 len=0/\∃a,v=.slice a 0 0/\True:=by
 cases h with
 |ref0 _ _ r' a hr' hn' hc' hsp=>exact⟨rfl,a,rfl,hsp⟩
 |refL _ _ _ _ _ cap r' hr' hn' hlen hlc hcap hmax=>
  rw[hr]at hr';cases hr';rw[hc]at hcap;have:off+cap=0:=by
   rcases Nat.mul_eq_zero.1 hcap with h|h
   . exact h
   . omega
  have h1:cap=0:=by omega
  have h2:len=0:=by omega
  subst h1;subst h2;exact⟨rfl,_,rfl,trivial⟩
 |refS _ _ _ _ _ r' a cap hr' hn'=>rw[hr]at hr';cases hr';omega
inductive AObj where
  |free
  |row (p:Bool) (sz:Nat) (es:List (List AV))
  |map (kvs:List (AV×AV))
  |iter0
def AObj.alive:AObj->Bool
  | .free=>false
  |_=>true
abbrev Aj:=Nat->Option AObj
abbrev A3:=Nat->Option AV
def hNew:Aj:=fun _=>some .free
def AU:A3:=fun _=>none
def Af(h:Aj)(b:Nat)(o:AObj):Aj:=fun x=>bif Nat.beq x b then some o else h x
def Aa(e:A3)(t:Nat)(v:AV):A3:=fun x=>bif Nat.beq x t then some v else e x
def Te(e:A3)(t:Nat):A3:=fun x=>bif Nat.beq x t then none else e x
variable {x : Nat}
theorem AR(h:x≠b):Nat.beq x b=false:=by
 cases e:Nat.beq x b with
 |false=>rfl
 |true=>exact absurd (q25 e) h
theorem AB(h:Aj)(b:Nat)(o:AObj):Af h b o b=some o:=by simp[Af]
theorem Bd(h:Aj)(o:AObj)(hne:x≠b):Af h b o x=h x:=by simp only[Af,AR hne,qZ3]
theorem DG(e:A3)(t:Nat)(v:AV):Aa e t v t=some v:=by simp[Aa]
variable {t : Nat}
theorem FK(e:A3)(v:AV)(hne:x≠t):Aa e t v x=e x:=by simp only[Aa,AR hne,qZ3]
theorem OJ(e:A3)(t:Nat):Te e t t=none:=by simp[Te]
theorem Wq(e:A3)(hne:x≠t):Te e t x=e x:=by simp only[Te,AR hne,qZ3]
structure Ar where
  n:Nat
  env:A3
  h:Aj
def rowCells(H:AJ)(ι:BD)(sz:Nat)(es:List (List AV))(c:Array Value):Prop:=
  (∀(i:Nat) (cs:List AV),es[i]?=some cs->cs.length=sz)/\
  ∀(i:Nat) (cs:List AV) (j:Nat) (x:AV),es[i]?=some cs->cs[j]?=some x->∃v,c[i*sz+j]?=some v/\Rel H ι x v/\x.cell1=true
def RJ(H:AJ)(kvs:List (AV×AV))(es:Array MapEntry):Prop:=
  kvs.length=es.size/\∀(j:Nat) (k v:AV),kvs[j]?=some (k,v)->∃e,es[j]?=some e/\Rel H Bk k e.key/\Rel H Bk v e.val
def BornOk(clk:Nat)(l:List Nat):Prop:=l.Pairwise (· < ·)/\∀b∈l,b<clk
theorem BornOk.nil(clk:Nat):BornOk clk []:=⟨.nil,fun b h=>by cases h⟩
variable {clk : Nat} {l : List Nat}
theorem BornOk.snoc(h:BornOk clk l):BornOk (clk+1) (l++[clk]):=
 ⟨List.pairwise_append.2 ⟨h.1,List.pairwise_singleton _ _,fun a ha b hb=>by rw[q47.1 hb];exact h.2 a ha⟩,fun b hb=>by
  rcases q78.1 hb with hb|hb
  . exact Nat.lt_succ_of_lt (h.2 b hb)
  . rw[q47.1 hb];exact Nat.lt_succ_self _⟩
theorem BornOk.sub{l':List Nat}(h:BornOk clk l)(s:l'.Sublist l):BornOk clk l':=⟨h.1.sublist s,fun b hb=>h.2 b (s.subset hb)⟩
theorem PG{es:Array MapEntry}{p:Nat}{k:Value}:((es.modify p fun e=>{e with key:=k,val:=v}).toList.map (·.born))=es.toList.map (·.born):=by
 rw[Array.toList_modify];apply q62;intro i;rw[q54,q54,List.getElem?_modify]
 by_cases h:p=i
 . subst h;cases es.toList[p]?<;>simp
 . simp[h]
def RowAt(w:World)(rb:Nat)(c:Array Value)(T:TypeId):Prop:=∃fr:Nat×Nat,w.heap[rb]?=some (.cells c T fr)/\(fr.2=0\/c.size<=fr.1)
variable {w : World} {rb : Nat} {c : Array Value} {T : TypeId}
theorem RowAt.lt(h:RowAt w rb c T):rb<w.heap.size:=by
 obtain⟨fr,e,_⟩:=h;exact(q03.1 e).1
variable {w' : World}
theorem RowAt.same(h:RowAt w rb c T)(e:w'.heap[rb]?=w.heap[rb]?):RowAt w' rb c T:=by
 obtain⟨fr,h1,h2⟩:=h;exact⟨fr,e.trans h1,h2⟩
theorem RowAt.plain(h:w.heap[rb]?=some (.cells c T)):RowAt w rb c T:=⟨(0,0),h,.inl rfl⟩
def ObjOk(H:AJ)(ι:BD)(w:World)(r:Ent):AObj->Prop
  | .free=>True
  | .row p sz es=>r.sz=sz/\0<sz/\r.n=es.length/\es.length*sz<=r.csz/\(∀(i:Nat) (cs:List AV),es[i]?=some cs->cs.length=sz)/\
      (r.solid->∃c T,RowAt w r.rb c T/\c.size=r.csz/\rowCells H (bif p then Bk else ι) sz es c)
  | .map kvs=>r.sz=0/\r.solid/\∃es clk,w.heap[r.rb]?=some (.map es clk)/\RJ H kvs es/\BornOk clk (es.toList.map (·.born))
  | .iter0=>r.sz=0/\r.n=0/\r.solid/\w.heap[r.rb]?=some (.mapIter none 0 #[] 0)
structure HeapRel(H:AJ)(ι:BD)(h:Aj)(w:World):Prop where
  know:∀b c,H b=some c->∃T fr,w.heap[b]?=some (.cells c T fr)
  free:∀b,h b=some .free->ι b=none
  obj:∀b o,h b=some o->o.alive=true->∃r,ι b=some r/\ObjOk H ι w r o/\(r.solid->H r.rb=none)
  inj:∀b b' o o' r r',h b=some o->o.alive=true->h b'=some o'->o'.alive=true->ι b=some r->ι b'=some r'->r.solid->r'.solid->b≠b'->r.rb≠r'.rb
  glob:GlobOk H
def EQ(h:Aj)(ι:BD)(rb:Nat):Prop:=∃b o r,h b=some o/\o.alive=true/\ι b=some r/\r.solid/\r.rb=rb
theorem HeapRel.lt{H:AJ}{ι:BD}{h:Aj}{w:World}(hr:HeapRel H ι h w){rb:Nat}(ho:EQ h ι rb):rb<w.heap.size:=by
 obtain⟨b,o,r,h1,h2,h3,hsol,rfl⟩:=ho;obtain⟨r',e1,e2,_⟩:=hr.obj b o h1 h2;rw[h3]at e1;cases e1
 cases o with
 |free=>cases h2
 |row p sz es=>obtain⟨_,_,_,_,_,hx⟩:=e2;obtain⟨c,T,hc,_⟩:=hx hsol;exact hc.lt
 |map kvs=>obtain⟨_,_,es,clk,hc,_⟩:=e2;exact(q03.1 hc).1
 |iter0=>exact(q03.1 e2.2.2.2).1
variable {h : Aj}
theorem HeapRel.knowlt(hr:HeapRel H ι h w)(hc:H b=some c):b<w.heap.size:=by
 obtain⟨T,fr,e⟩:=hr.know b c hc;exact(q03.1 e).1
structure Step(H:AJ)(ι:BD)(h:Aj)(w:World)(H':AJ)(ι':BD)(h':Aj)(w':World):Prop where
  size:w.heap.size<=w'.heap.size
  os:w'.os=w.os
  out:w'.output=w.output
  keep:∀rb,rb<w.heap.size->¬EQ h ι rb->w'.heap[rb]?=w.heap[rb]?
  kle:KLe H H'
  knew:∀b,H' b≠none->H b≠none\/w.heap.size<=b\/EQ h ι b
  lle:LLe ι ι'
  lframe:∀b,h b=none->ι' b=ι b
  newrb:∀b r',ι' b=some r'->r'.solid->ι b=some r'\/w.heap.size<=r'.rb\/∃r,ι b=some r/\r.solid/\r.rb=r'.rb
  dom:∀b,h b=none->h' b=none
theorem Step.refl(H:AJ)(ι:BD)(h:Aj)(w:World):Step H ι h w H ι h w where
 size:=qZ0 _
 os:=rfl
 out:=rfl
 keep:=fun _ _ _=>rfl
 kle:=qK1 _
 knew:=fun _ h=>.inl h
 lle:=qK2 _
 lframe:=fun _ _=>rfl
 newrb:=fun _ _ h _=>.inl h
 dom:=fun _ h=>h
abbrev qK3:=@Step.refl
variable {h' : Aj}
theorem Step.owned{ι':BD}
 (hr:HeapRel H ι h w) (s:Step H ι h w H' ι' h' w') (ho:EQ h' ι' rb):EQ h ι rb\/w.heap.size<=rb:=by
 obtain⟨b,o,r',h1,h2,h3,hsol,rfl⟩:=ho
 cases e1:h b with
 |none=>rw[s.dom b e1]at h1;cases h1
 |some o0=>
  have e2:ι b≠none->o0.alive=true:=fun hne=>by
   cases o0 with
   |free=>exact absurd (hr.free b e1) hne
   |_=>rfl
  rcases s.newrb b r' h3 hsol with e|e|⟨r,e,es,e'⟩
  . exact .inl ⟨b,o0,r',e1,e2 (by rw[e];simp),e,hsol,rfl⟩
  . exact .inr e
  . exact .inl ⟨b,o0,r,e1,e2 (by rw[e];simp),e,es,e'⟩
theorem Step.trans{H:AJ}{ι:BD}{h:Aj}{w:World}{H':AJ}{ι':BD}{h':Aj}{w':World}{H'':AJ}{ι'':BD}{h'':Aj}{w'':World}
 (hr:HeapRel H ι h w) (s:Step H ι h w H' ι' h' w') (hr':HeapRel H' ι' h' w') (t:Step H' ι' h' w' H'' ι'' h'' w''):Step H ι h w H'' ι'' h'' w'' where
 size:=qX2 s.size t.size
 os:=t.os.trans s.os
 out:=t.out.trans s.out
 keep:=fun rb hlt hno=>by
  rw[t.keep rb (q51 hlt s.size) (fun ho=>?_),s.keep rb hlt hno];rcases s.owned hr ho with h1|h1
  . exact hno h1
  . omega
 kle:=s.kle.trans t.kle
 knew:=fun b hb=>by
  rcases t.knew b hb with h1|h1|h1
  . exact s.knew b h1
  . exact .inr (.inl (qX2 s.size h1))
  . rcases s.owned hr h1 with h2|h2
    . exact .inr (.inr h2)
    . exact .inr (.inl h2)
 lle:=s.lle.trans t.lle
 lframe:=fun b hb=>(t.lframe b (s.dom b hb)).trans (s.lframe b hb)
 newrb:=fun b r'' hb hsol=>by
  rcases t.newrb b r'' hb hsol with h1|h1|⟨r',h1,hs1,h2⟩
  . exact s.newrb b r'' h1 hsol
  . exact .inr (.inl (qX2 s.size h1))
  . rcases s.newrb b r' h1 hs1 with h3|h3|⟨r,h3,hs3,h4⟩
    . exact .inr (.inr ⟨r',h3,hs1,h2⟩)
    . exact .inr (.inl (h2▸h3))
    . exact .inr (.inr ⟨r,h3,hs3,h4.trans h2⟩)
 dom:=fun b hb=>t.dom b (s.dom b hb)
structure Sim(H:AJ)(ι:BD)(s:Ar)(a:Act)(w:World):Prop where
  n:a.tmps.size=s.n
  d:a.defers=[]
  env:∀t x,s.env t=some x->∃v,a.tmps[t]?=some v/\Rel H ι x v
  heap:HeapRel H ι s.h w
def Post(H:AJ)(ι:BD)(h:Aj)(w:World)(Q:Exit->Ar->Prop):Exit->Act->World->Prop:=fun e a' w'=>
  ∃s' H' ι',Q e s'/\Sim H' ι' s' a' w'/\Step H ι h w H' ι' s'.h w'
def AGo(P:Program)(c:Code)(s:Ar)(Q:Exit->Ar->Prop):Prop:=
  ∀H ι a w,Sim H ι s a w->c.wp P (Post H ι s.h w Q) a w
variable {P : Program} {Q : Exit -> Ar -> Prop} {s : Ar}
variable {a : Act}
theorem Post.mono{Q':Exit->Ar->Prop}{e:Exit}(hp:Post H ι h w Q e a w')(hq:∀s,Q e s->Q' e s):Post H ι h w Q' e a w':=by
 obtain⟨s',H',ι',q,r⟩:=hp;exact⟨s',H',ι',hq _ q,r⟩
theorem Post.step{H:AJ}{ι:BD}{h:Aj}{w:World}{H':AJ}{ι':BD}{h':Aj}{w':World}(hr:HeapRel H ι h w)(hr':HeapRel H' ι' h' w')(st:Step H ι h w H' ι' h' w')
 {Q:Exit->Ar->Prop} {e:Exit} {a:Act} {w'':World} (hp:Post H' ι' h' w' Q e a w''):Post H ι h w Q e a w'':=by
 obtain⟨s',H'',ι'',q,r,t⟩:=hp;exact⟨s',H'',ι'',q,r,st.trans hr hr' t⟩
theorem AGo.mono{c:Code}{Q':Exit->Ar->Prop}(h:AGo P c s Q)(hq:∀e s,Q e s->Q' e s):AGo P c s Q':=
 fun H ι a w hs=>wp_mono (h H ι a w hs) fun e a' w' hp=>hp.mono (hq e)
theorem AGo.skip(h:Q .normal s):AGo P .skip s Q:=fun H ι a w hs=>wp_skip ⟨s,H,ι,h,hs,qK3 _ _ _ _⟩
theorem AGo.exit{id:Nat}(h:Q (.exit id) s):AGo P (.exit id) s Q:=fun H ι a w hs=>wp_exit ⟨s,H,ι,h,hs,qK3 _ _ _ _⟩
theorem AGo.ret(h:Q .ret s):AGo P .ret s Q:=fun H ι a w hs=>wp_ret ⟨s,H,ι,h,hs,qK3 _ _ _ _⟩
def El(K:Ar->Prop)(Q:Exit->Ar->Prop):Exit->Ar->Prop
  | .normal,s=>K s
  |e,s=>Q e s
theorem AGo.seq{x y:Code}(h:AGo P x s (El (fun s'=>AGo P y s' Q) Q)):AGo P (.seq x y) s Q:=by
 intro H ι a w hs;refine wp_seq (wp_mono (h H ι a w hs) fun e a' w' hp=>?_)
 cases e with
 |normal=>
  obtain⟨s',H',ι',q,r,t⟩:=hp;exact wp_mono (q H' ι' a' w' r) fun e a'' w'' hp'=>Post.step hs.heap r.heap t hp'
 |_=>exact hp
theorem AGo.cond{c:Operand}{x y:Code}{t:Nat}{b:Bool}(hc:c=.tmp t)(he:s.env t=some (.bool b))(h1:b=true->AGo P x s Q)(h2:b=false->AGo P y s Q):AGo P (.cond c x y) s Q:=by
 intro H ι a w hs;subst hc;obtain⟨v,hv,hr⟩:=hs.env t _ he
 cases hr
 have hev:a.eval (.tmp t)=.bool b:=by simp[Act.eval,hv]
 exact wp_cond_split hev (fun e=>h1 e H ι a w hs) (fun e=>h2 e H ι a w hs)
theorem AGo.cond_true{t:Nat}{x y:Code}(b:Bool)(he:s.env t=some (.bool b))(hb:b=true)(h:AGo P x s Q):AGo P (.cond (.tmp t) x y) s Q:=
 AGo.cond rfl he (fun _=>h) bZ
theorem AGo.cond_false{t:Nat}{x y:Code}(b:Bool)(he:s.env t=some (.bool b))(hb:b=false)(h:AGo P y s Q):AGo P (.cond (.tmp t) x y) s Q:=
 AGo.cond rfl he bZ (fun _=>h)
def WG(id:Nat)(Q:Exit->Ar->Prop):Exit->Ar->Prop
  | .exit id',s=>bif Nat.beq id' id then Q .normal s else Q (.exit id') s
  |e,s=>Q e s
theorem AGo.block{id:Nat}{c:Code}(h:AGo P c s (WG id Q)):AGo P (.block id c) s Q:=by
 intro H ι a w hs;refine wp_block (wp_mono (h H ι a w hs) fun e a' w' hp=>?_);exact tz
theorem AGo.loop{γ:Type}{c:Code}(I:γ->Ar->Prop)(μ:γ->Nat)(g0:γ)(h0:I g0 s)
 (round:∀g s,I g s->AGo P c s (El (fun s'=>∃g',I g' s'/\μ g'<μ g) Q)):AGo P (.loop c) s Q:=by
 intro H ι a w hs b k cs;have key:∀n g s1 H1 ι1 a1 w1,μ g=n->I g s1->Sim H1 ι1 s1 a1 w1->Step H ι s.h w H1 ι1 s1.h w1->
  ∃e a' w',Post H ι s.h w Q e a' w'/\Arrives P (lone (b.at a1 (.code c:: .inLoop c::k)) cs w1) b k cs e a' w':=by
  intro n
  induction n using Nat.strongRecOn with
  |_ n ih=>
   intro g s1 H1 ι1 a1 w1 hn hI hs1 hst;obtain⟨e,a₂,w₂,hq,harr⟩:=round g s1 hI H1 ι1 a1 w1 hs1 b (.inLoop c::k) cs;obtain⟨s2,H2,ι2,q,r,t⟩:=hq;have t':=hst.trans hs.heap hs1.heap t
   cases e with
   |normal=>
    obtain⟨g',hI',hlt⟩:=q;obtain⟨e₂,a₃,w₃,hq₂,harr₂⟩:=ih (μ g') (hn▸hlt) g' s2 H2 ι2 a₂ w₂ rfl hI' r t';exact⟨e₂,a₃,w₃,hq₂,.of_steps (Steps.trans harr (.one step_inLoop)) harr₂⟩
   |exit id=>exact⟨_,a₂,w₂,⟨s2,H2,ι2,q,r,t'⟩,.pass (x:=.inLoop c) rfl (fun _ _=>.inl Aq) harr⟩
   |goto l=>exact⟨_,a₂,w₂,⟨s2,H2,ι2,q,r,t'⟩,.pass (x:=.inLoop c) rfl (fun _ _=>.inl Aq) harr⟩
   |ret=>exact⟨_,a₂,w₂,⟨s2,H2,ι2,q,r,t'⟩,.pass (x:=.inLoop c) rfl (fun _ _=>.inl Aq) harr⟩
   |panic ch=>exact⟨_,a₂,w₂,⟨s2,H2,ι2,q,r,t'⟩,.pass (x:=.inLoop c) rfl (fun _ _=>.inl Aq) harr⟩
   |outgrown=>exact⟨_,a₂,w₂,⟨s2,H2,ι2,q,r,t'⟩,.pass (x:=.inLoop c) rfl (fun _ _=>.inl Aq) harr⟩
 obtain⟨e,a',w',hq,harr⟩:=key _ g0 s H ι a w rfl h0 hs (qK3 _ _ _ _);exact⟨e,a',w',hq,.of_steps (.one step_loop) harr⟩
def Sub(s s':Ar):Prop:=s.n=s'.n/\(∀t x,s.env t=some x->s'.env t=some x)/\(∀b o,s.h b=some o->s'.h b=some o)
theorem HeapRel.sub(hr:HeapRel H ι h' w)(hs:∀b o,h b=some o->h' b=some o):HeapRel H ι h w where
 know:=hr.know
 glob:=hr.glob
 free:=fun b e=>hr.free b (hs _ _ e)
 obj:=fun b o e ea=>hr.obj b o (hs _ _ e) ea
 inj:=fun b b' o o' r r' h1 h2 h3 h4=>hr.inj b b' o o' r r' (hs _ _ h1) h2 (hs _ _ h3) h4
theorem Sim.sub{H:AJ}{ι:BD}{s s':Ar}{a:Act}{w:World}(h:Sim H ι s' a w)(hs:Sub s s'):Sim H ι s a w where
 n:=h.n.trans hs.1.symm
 d:=h.d
 env:=fun t x e=>h.env t x (hs.2.1 t x e)
 heap:=h.heap.sub hs.2.2
inductive TK where
  |bool|int (k:IntKind)|string|slice (e:Nat)|struct (fs:List (Nat×Nat))|array (n e:Nat)|ptr (e:Nat)|map (k e:Nat)|fn|other
structure AC where
  k:TK
  size:Nat
  bytes:Nat
  zero:List AV
def OP:Value->Option AV
  | .bool b=>some (.bool b)
  | .int k n=>some (.int k n)
  | .string s=>some (.str s)
  | .slice none 0 0=>some .nil
  | .pointer none=>some .nilp
  | .nilFunc=>some (.val .nilFunc)
  | .nilIface=>some (.val .nilIface)
  | .map none=>some (.val (.map none))
  |_=>none
def allAV:List Value->Option (List AV)
  | []=>some []
  |v::vs=>match OP v,allAV vs with
    |some x,some xs=>some (x::xs)
    |_,_=>none
def J9(P:Program):TypeDesc->TK
  | .bool=>.bool
  | .int k=>.int k
  | .string=>.string
  | .slice e=>.slice e
  | .struct fs=>bif fs.all (fun f=>P.cellsOf f.type !=0)then .struct (fs.toList.map fun f=>(f.offset,f.type))else .other
  | .array n e=>.array n e
  | .pointer e=>.ptr e
  | .map k e=>.map k e
  | .func .. =>.fn
  |_=>.other
def eO(P:Program)(t:Nat):Option AC:=
  match P.info? t,P.underlying t with
  |some i,some d=>some {k:=J9 P d,size:=i.size,bytes:=i.bytes,zero:=((i.zero.bind fun z=>allAV z.cells.toList).getD [])}
  |_,_=>none
def Dz(P:Program)(T:Nat->Option AC):Prop:=∀t i,T t=some i->eO P t=some i
variable {x : AV}
theorem Mt(h:OP v=some x):Rel H ι x v:=by
 unfold OP at h;split at h<;>simp at h<;>subst h
 . exact .bool _ _
 . exact .int _ _ _
 . exact .str _ _
 . exact .nil _
 . exact .nilp _
 . exact .val _ _ rfl
 . exact .val _ _ rfl
 . exact .val _ _ rfl
theorem Fq{H:AJ}{ι:BD}:∀{vs:List Value} {xs:List AV},allAV vs=some xs->xs.length=vs.length/\∀(j:Nat) (x:AV) (v:Value),xs[j]?=some x->vs[j]?=some v->Rel H ι x v
 | [],xs,h=>by
  simp[allAV]at h;subst h;exact⟨rfl,fun j x v h1=>by simp at h1⟩
 |v::vs,xs,h=>by
  unfold allAV at h;split at h
  . rename_i x ys h1 h2;simp at h;subst h;have ih:=Fq (H:=H) (ι:=ι) h2;refine⟨by simp[ih.1],fun j y u e1 e2=>?_⟩
    cases j with
    |zero=>simp at e1 e2;subst e1;subst e2;exact Mt h1
    |succ j=>simp at e1 e2;exact ih.2 j y u e1 e2
  . cases h
variable {i : AC}
theorem Am(h:eO P t=some i):∃info d,P.info? t=some info/\P.underlying t=some d/\i.k=J9 P d/\info.size=i.size/\info.bytes=i.bytes/\
 i.zero=((info.zero.bind fun z=>allAV z.cells.toList).getD []):=by
 unfold eO at h;split at h
 . rename_i info d h1 h2;simp at h;subst h;exact⟨info,d,h1,h2,rfl,rfl,rfl,rfl⟩
 . cases h
theorem Fb{info:TypeInfo}(hz:i.zero=((info.zero.bind fun z=>allAV z.cells.toList).getD []))(hl:i.zero.length=i.size)(hp:0<i.size):
 ∃z,info.zero=some z/\allAV z.cells.toList=some i.zero:=by
 cases e:info.zero with
 |none=>rw[e]at hz;simp at hz;rw[hz]at hl;simp at hl;omega
 |some z=>
  rw[e]at hz;simp only[Option.bind_some]at hz
  cases e2:allAV z.cells.toList with
  |none=>rw[e2]at hz;simp at hz;rw[hz]at hl;simp at hl;omega
  |some xs=>rw[e2]at hz;simp at hz;exact⟨z,rfl,by rw[e2,hz]⟩
def Wu:Value->Option AV
  | .agg cs=>match allAV cs.toList with
    |some xs=>some (.agg xs)
    |none=>none
  |v=>OP v
theorem YM(h:Wu v=some x):Rel H ι x v:=by
 unfold Wu at h;split at h
 . rename_i cs;split at h
   . rename_i xs e;simp at h;subst h;have:=Fq (H:=H) (ι:=ι) e;exact .agg _ _ _ (by simpa using this.1) (fun j x v h1 h2=>this.2 j x v h1 Ke)
   . cases h
 . exact Mt h
def At(env:A3):Operand->Option AV
  | .tmp t=>env t
  | .const v=>Wu v
  | .func f=>some (.fn (.func f) [] [])
  | .global g=>(ue g).map m6
theorem Aw(hs:Sim H ι s a w){o:Operand}(h:At s.env o=some x):Rel H ι x (a.eval o):=by
 cases o with
 |tmp t=>
  obtain⟨v,hv,hr⟩:=hs.env t x h;simpa[Act.eval,hv]using hr
 |const v=>exact YM h
 |func f=>
  simp only[At,q53]at h;subst h;exact .fn _ _ _ _ _ _ rfl rfl (fun j x v h1=>by simp at h1) (fun j x v h1=>by simp at h1)
 |global g=>
  simp only[At,q22]at h;obtain⟨l,hl,rfl⟩:=h;exact(hs.heap.glob g l hl).mono (qK1 _) (LLe.none ι)
def BP(op:BinOp)(k:IntKind)(a b:Int):Option AV:=
  match op with
  | .add=>some (.int k (k.wrap (a+b)))
  | .sub=>some (.int k (k.wrap (a-b)))
  | .mul=>some (.int k (k.wrap (a*b)))
  | .quo=>if b=0 then none else some (.int k (k.wrap (a.tdiv b)))
  | .rem=>if b=0 then none else some (.int k (a.tmod b))
  | .and=>some (.int k (k.wrap ((BitVec.ofInt k.bits a&&&BitVec.ofInt k.bits b).toNat)))
  | .or=>some (.int k (k.wrap ((BitVec.ofInt k.bits a|||BitVec.ofInt k.bits b).toNat)))
  | .xor=>some (.int k (k.wrap ((BitVec.ofInt k.bits a^^^BitVec.ofInt k.bits b).toNat)))
  | .andNot=>some (.int k (k.wrap ((BitVec.ofInt k.bits a&&& ~~~BitVec.ofInt k.bits b).toNat)))
  | .shl=>if b<0 then none else some (.int k (k.wrap (a*2^(min b.toNat k.bits))))
  | .shr=>if b<0 then none else some (.int k (a.fdiv (2^(min b.toNat k.bits))))
  | .eql=>some (.bool (a==b))
  | .neq=>some (.bool (a !=b))
  | .lss=>some (.bool (decide (a<b)))
  | .leq=>some (.bool (decide (a<=b)))
  | .gtr=>some (.bool (decide (a>b)))
  | .geq=>some (.bool (decide (a>=b)))
def isShift:BinOp->Bool
  | .shl| .shr=>true
  |_=>false
def eqCell:AV->AV->Option Bool
  | .int k a,.int k' b=>if k=k' then some (a==b)else none
  | .bool a,.bool b=>some (a==b)
  | .str a,.str b=>some (a.toList==b.toList)
  |_,_=>none
def eqCells:List AV->List AV->Option Bool
  | [],[]=>some true
  |x::xs,y::ys=>match eqCell x y,eqCells xs ys with
    |some p,some q=>some (p&&q)
    |_,_=>none
  |_,_=>none
def A8(op:BinOp)(x y:AV):Option AV:=
  match x,y with
  | .int k a,.int k' b=>bif isShift op then BP op k a b else if k=k' then BP op k a b else none
  | .str a,.str b=>match op with
    | .eql=>some (.bool (a.toList==b.toList))
    | .neq=>some (.bool (!(a.toList==b.toList)))
    |_=>none
  |_,_=>none
variable {r : AV} {op : BinOp}
theorem Xm{k':IntKind}{a b:Int}(hk:isShift op=true\/k=k')(h:BP op k a b=some r):
 ∃v,Rel H ι r v/\(binOp op T (.int k a) (.int k' b)).run P w=.ok v w:=by
 cases op<;>simp only[BP,q53]at h
 case quo=>split at h;cases h;(rename_i hb;rcases hk with hk|rfl;· cases hk);simp at h;subst h;exact⟨_,.int _ _ _,by simp[binOp,Op.intDiv,hb]⟩
 case rem=>split at h;cases h;(rename_i hb;rcases hk with hk|rfl;· cases hk);simp at h;subst h;exact⟨_,.int _ _ _,by simp[binOp,Op.intDiv,hb]⟩
 case shl=>split at h;cases h;rename_i hb;simp at h;subst h;exact⟨_,.int _ _ _,by simp[binOp,Op.shift,hb]⟩
 case shr=>split at h;cases h;rename_i hb;simp at h;subst h;exact⟨_,.int _ _ _,by simp[binOp,Op.shift,hb]⟩
 all_goals
  rcases hk with hk|rfl
  . cases hk
  subst h
  first
   |exact⟨_,.int _ _ _,by simp[binOp,Op.intArith,Op.intBits,Op.intCmp]⟩
   |exact⟨_,.bool _ _,by simp[binOp,Op.intArith,Op.intBits,Op.intCmp]⟩
theorem Xn{xo yo:Operand}{y:AV}(hx:Rel H ι x u)(hy:Rel H ι y v)(h:A8 op x y=some r):
 ∃z,Rel H ι r z/\(do eqGuard op T xo yo u v;binOp op T u v:Sem Value).run P w=.ok z w:=by
 unfold A8 at h;split at h
 . rename_i k a k' b
   cases hx;cases hy
   have hk:(isShift op=true\/k=k')/\BP op k a b=some r:=by
    cases e:isShift op with
    |true=>rw[e]at h;exact⟨.inl rfl,h⟩
    |false=>
     rw[e]at h;simp only[qZ3]at h;split at h
     . exact⟨.inr BR,h⟩
     . cases h
   obtain⟨z,h1,h2⟩:=Xm (P:=P) (w:=w) (H:=H) (ι:=ι) (T:=T) hk.1 hk.2;refine⟨z,h1,?_⟩;have hg:(eqGuard op T xo yo (.int k a) (.int k' b)).run P w=.ok () w:=by unfold eqGuard;cases op<;>simp
   rw[qQ9,hg];exact h2
 . rename_i a b
   cases hx;cases hy
   have hg:(eqGuard op T xo yo (.string a) (.string b)).run P w=.ok () w:=by unfold eqGuard;cases op<;>simp
   split at h
   . simp at h;subst h;exact⟨_,.bool _ _,by rw[qQ9,hg,q57,binOp_string_eql];rfl⟩
   . simp at h;subst h;exact⟨_,.bool _ _,by rw[qQ9,hg,q57,binOp_string_neq];rfl⟩
   . cases h
 . cases h
end Go.Proofs.YtbbfelelocccmaaGreat.Sv
