/-
  NO PACKAGE VARIABLES ARE LOOKED INTO: own work, over no program.
-/
import Derived.Calls
import Derived.Orders
import Derived.Laws.Sem
import Derived.Laws.World
import Derived.Laws.Cells
import Derived.Laws.Rows
import Derived.Laws.AppendOwn
import Derived.Laws.MakeOwn
import Derived.Laws.Slices
import Derived.Laws.Small
import Derived.Laws.Strings
import Derived.Laws.StructEq
import Derived.WalkKit
set_option linter.unusedVariables false
set_option linter.unusedSimpArgs false
set_option maxRecDepth 100000
set_option maxHeartbeats 2000000
namespace Go.Proofs.YtbbfelelocccmaaGreat.Sv
open Go
theorem tH{p:Prop}(h:p:=by repeat(first | exact trivial | refine⟨(by first | exact Nj _ _ | exact(show A7 Dv [2] [2]from AC (by decide)) | exact(show A7 Dv [3] [3]from AC (by decide)) | exact(show A7 Dv [4] [4]from AC (by decide)) | exact(show A7 Dv [5] [5]from AC (by decide)) | exact(show A7 Dv [6] [6]from AC (by decide)) | exact(show A7 Dv [7] [7]from AC (by decide)) | exact(show A7 Dv [8] [8]from AC (by decide)) | exact(show A7 Dv [9] [9]from AC (by decide)) | exact(show A7 Dv [10] [10]from AC (by decide)) | exact(show A7 Dv [11] [11]from AC (by decide)) | exact(show A7 Dv [12] [12]from AC (by decide)) | exact(show A7 Dv [13] [13]from AC (by decide)) | exact(show A7 Dv [14] [14]from AC (by decide)) | exact(show A7 Dv [15] [15]from AC (by decide)) | exact AC (by decide) | exact Ni (by decide) (by decide) | exact AC (by first | rw[eL];decide | rw[eK];decide | rw[eJ];decide | rw[eI];decide)),(by first | exact Nj _ _ | exact(show A7 Dv [2] [2]from AC (by decide)) | exact(show A7 Dv [3] [3]from AC (by decide)) | exact(show A7 Dv [4] [4]from AC (by decide)) | exact(show A7 Dv [5] [5]from AC (by decide)) | exact(show A7 Dv [6] [6]from AC (by decide)) | exact(show A7 Dv [7] [7]from AC (by decide)) | exact(show A7 Dv [8] [8]from AC (by decide)) | exact(show A7 Dv [9] [9]from AC (by decide)) | exact(show A7 Dv [10] [10]from AC (by decide)) | exact(show A7 Dv [11] [11]from AC (by decide)) | exact(show A7 Dv [12] [12]from AC (by decide)) | exact(show A7 Dv [13] [13]from AC (by decide)) | exact(show A7 Dv [14] [14]from AC (by decide)) | exact(show A7 Dv [15] [15]from AC (by decide)) | exact AC (by decide) | exact Ni (by decide) (by decide) | exact AC (by first | rw[eL];decide | rw[eK];decide | rw[eJ];decide | rw[eI];decide)),?_⟩)):p:=h
theorem m6{p:Prop}(h:p:=by repeat(first | exact trivial | refine⟨(by first | exact Nj _ _ | exact(show A7 Dp [2] [2]from AC (by decide)) | exact(show A7 Dp [3] [3]from AC (by decide)) | exact(show A7 Dp [4] [4]from AC (by decide)) | exact(show A7 Dp [5] [5]from AC (by decide)) | exact(show A7 Dp [6] [6]from AC (by decide)) | exact(show A7 Dp [7] [7]from AC (by decide)) | exact(show A7 Dp [8] [8]from AC (by decide)) | exact(show A7 Dp [9] [9]from AC (by decide)) | exact(show A7 Dp [10] [10]from AC (by decide)) | exact(show A7 Dp [11] [11]from AC (by decide)) | exact(show A7 Dp [12] [12]from AC (by decide)) | exact(show A7 Dp [13] [13]from AC (by decide)) | exact(show A7 Dp [14] [14]from AC (by decide)) | exact(show A7 Dp [15] [15]from AC (by decide)) | exact AC (by decide) | exact Ni (by decide) (by decide) | exact AC (by first | rw[eO];decide | rw[eN];decide | rw[eM];decide)),(by first | exact Nj _ _ | exact(show A7 Dp [2] [2]from AC (by decide)) | exact(show A7 Dp [3] [3]from AC (by decide)) | exact(show A7 Dp [4] [4]from AC (by decide)) | exact(show A7 Dp [5] [5]from AC (by decide)) | exact(show A7 Dp [6] [6]from AC (by decide)) | exact(show A7 Dp [7] [7]from AC (by decide)) | exact(show A7 Dp [8] [8]from AC (by decide)) | exact(show A7 Dp [9] [9]from AC (by decide)) | exact(show A7 Dp [10] [10]from AC (by decide)) | exact(show A7 Dp [11] [11]from AC (by decide)) | exact(show A7 Dp [12] [12]from AC (by decide)) | exact(show A7 Dp [13] [13]from AC (by decide)) | exact(show A7 Dp [14] [14]from AC (by decide)) | exact(show A7 Dp [15] [15]from AC (by decide)) | exact AC (by decide) | exact Ni (by decide) (by decide) | exact AC (by first | rw[eO];decide | rw[eN];decide | rw[eM];decide)),?_⟩)):p:=h
theorem tG{p:Prop}(h:p:=by repeat(first | exact trivial | refine⟨⟨by first | rfl | exact BT rfl | exact congrArg (fun es=>some (AObj.row true 1 es)) (kO hgi hfg) | exact congrArg (fun es=>some (AObj.row true 1 es)) (kN hgi hfg) | exact congrArg (fun w=>some (AObj.row true 1 (iC _ w))) (lv hgi hfg) | exact congrArg (fun es=>some (AObj.row true 1 es)) ((H8 true).trans (congrArg (bC _) (dA hgi hfg))) | exact congrArg (fun w=>some (AObj.row true 1 (bC _ w))) (dB hgi (by omega)),by first | rfl | exact Ad (fun _ _=>Bf (Ar _) _ _) | exact Ad (fun _ _=>A4 (Ar _) _ _ _ _) | exact Ad (fun _ _=>BZ (Ar _) _ _) | exact EM _⟩,?_⟩)):p:=h
theorem tF{p:Prop}(h:p:=by repeat(first | exact trivial | refine⟨⟨by first | rfl | exact congrArg (fun es=>some (AObj.row true 1 es)) (H8 true) |((try simp only[hputs]);repeat(first | rfl | exact Aq _ _ _ | refine AA (by exact Af (by omega)) ?_ | refine hrm_skip (by omega) ?_ | refine(CG _ (fun i_ _=>by first | omega |(dsimp only;omega))).trans ?_)),by first | rfl | exact Ad (fun _ _=>Bf (Ar _) _ _) | exact Ad (fun _ _=>A4 (Ar _) _ _ _ _) | exact Ad (fun _ _=>BZ (Ar _) _ _) | exact EM _⟩,?_⟩)):p:=h
theorem tE{p:Prop}(h:p:=by repeat(first | exact trivial | refine⟨⟨by first | rfl | exact BT rfl |(rw[hnx2];first | rfl | exact BT rfl |((try simp only[hputs]);repeat(first | rfl | exact Aq _ _ _ | refine AA (by exact Af (by omega)) ?_ | refine hrm_skip (by omega) ?_ | refine(CG _ (fun i_ _=>by first | omega |(dsimp only;omega))).trans ?_))),by first | rfl | exact Ad (fun _ _=>Bf (Ar _) _ _) | exact Ad (fun _ _=>A4 (Ar _) _ _ _ _) | exact Ad (fun _ _=>BZ (Ar _) _ _) | exact EM _⟩,?_⟩)):p:=h
theorem tD{p:Prop}(h:p:=by repeat(first | exact trivial | refine⟨⟨by first | rfl | exact BT rfl |((try simp only[hputs]);repeat(first | rfl | exact Aq _ _ _ | refine AA (by exact Af (by omega)) ?_ | refine hrm_skip (by omega) ?_ | refine(CG _ (fun i_ _=>by first | omega |(dsimp only;omega))).trans ?_)),by first | rfl | exact Ad (fun _ _=>Bf (Ar _) _ _) | exact Ad (fun _ _=>A4 (Ar _) _ _ _ _) | exact Ad (fun _ _=>BZ (Ar _) _ _) | exact EM _⟩,?_⟩)):p:=h
theorem re{p:Prop}(h:p:=by repeat(first | exact trivial | refine⟨⟨by first | rfl |((try simp only[hputs]);repeat(first | rfl | exact Aq _ _ _ | refine AA (by exact Af (by omega)) ?_ | refine hrm_skip (by omega) ?_ | refine(CG _ (fun i_ _=>by first | omega |(dsimp only;omega))).trans ?_)),by first | rfl | exact Ad (fun _ _=>Bf (Ar _) _ _) | exact Ad (fun _ _=>A4 (Ar _) _ _ _ _) | exact Ad (fun _ _=>BZ (Ar _) _ _) | exact EM _⟩,?_⟩)):p:=h
theorem tC{p:Prop}(h:p:=by repeat(first | exact EDropK.new _ _ | refine EDropK.put ?_ (by first | rfl | exact congrArg (fun m=>some (AV.ref 8 _ 0 m)) (by rw[<-Nx hgi hfg,List.length_append];rfl) | exact congrArg (fun l:List Nat=>some (AV.ref 8 _ 0 l.length)) (Ny hgi (by omega)) | exact congrArg (fun(n:Nat)=>some (AV.int .i64 (n:Int))) (by simp)) (by first | rfl | exact A4 (Ar _) _ _ _ _))):p:=h
theorem tB{p:Prop}(h:p:=by repeat(first | exact HSub.refl _ | exact HSub.none _ | exact AH _ | exact AF (by first | decide | omega |(dsimp only;omega)) | refine HSub.put ?_ (by first | rfl | exact congrArg (fun es=>some (AObj.row true 1 es)) (R3 _)) | refine AG ?_ (by first | decide | omega |(dsimp only;omega)) | refine Br ?_ (by decide))):p:=h
theorem fD{p:Prop}(h:p:=by intro c h1 h2;rcases(by omega:c=8\/c=9\/c=10\/c=11\/c=12\/c=13\/c=14\/c=15)with rfl | rfl | rfl | rfl | rfl | rfl | rfl | rfl<;>first | rfl |(try simp only[hputs];repeat(first | rfl | refine AA (by exact Af (by omega)) ?_ | refine hrm_skip (by omega) ?_))):p:=h
theorem Ym{p:Prop}(h:p:=by intro c h1 h2;rcases(by omega:c=9\/c=10\/c=11\/c=12\/c=13\/c=14\/c=15)with rfl | rfl | rfl | rfl | rfl | rfl | rfl<;>first | rfl |(try simp only[hputs];repeat(first | rfl | refine AA (by exact Af (by omega)) ?_ | refine hrm_skip (by omega) ?_))):p:=h
theorem FF{p:Prop}(h:p:=by repeat(first | exact HSub.refl _ | exact HSub.none _ | exact AH _ | exact AF (by first | decide | omega |(dsimp only;omega)) | refine HSub.put ?_ (by rfl) | refine AG ?_ (by first | decide | omega |(dsimp only;omega)) | refine Br ?_ (by decide))):p:=h
theorem na{p:Prop}(h:p:=by intro x_;rw[hnx2];(try simp only[hputs]);(try dsimp only);first | exact(EG _ _ x_).trans (Ao _ _ _) | exact Ao _ _ _ |((repeat(first | refine AA (by exact Af (by omega)) ?_ | refine hrm_skip (by omega) ?_));exact(EG _ _ x_).trans (Ao _ _ _))):p:=h
theorem m9{p:Prop}(h:p:=by repeat(first | exact EDropK.new _ _ | refine EDropK.put ?_ (by first | rfl | exact congrArg (fun m=>some (AV.ref 8 _ 0 m)) (by rw[List.length_append];rfl) | exact congrArg (fun(n:Nat)=>some (AV.int .i64 (n:Int))) (by simp)) (by first | rfl | exact Bf (Ar _) _ _))):p:=h
theorem Kt{p:Prop}(h:p:=by intro c h1 h2;rcases(by omega:c=10\/c=11\/c=12\/c=13\/c=14\/c=15)with rfl | rfl | rfl | rfl | rfl | rfl<;>first | rfl |(try simp only[hputs];repeat(first | rfl | refine AA (by exact Af (by omega)) ?_ | refine hrm_skip (by omega) ?_))):p:=h
theorem m8{p:Prop}(h:p:=by repeat(first | exact trivial | refine⟨⟨by first | rfl | exact BT rfl,by first | rfl | exact Ad (fun _ _=>Bf (Ar _) _ _) | exact Ad (fun _ _=>A4 (Ar _) _ _ _ _) | exact Ad (fun _ _=>BZ (Ar _) _ _)⟩,?_⟩)):p:=h
theorem jX{p:Prop}(h:p:=by repeat(first | exact trivial | refine⟨⟨by rfl,by first | rfl | exact Ad (fun _ _=>Bf (Ar _) _ _) | exact Ad (fun _ _=>A4 (Ar _) _ _ _ _) | exact Ad (fun _ _=>BZ (Ar _) _ _) | exact EM _⟩,?_⟩)):p:=h
theorem fR{p:Prop}(h:p:=by intro x_;(try simp only[hputs]);(try dsimp only);first | exact Ao _ _ _ | exact(KK _ _ x_).trans (Ao _ _ _) |((repeat(first | refine AA (by exact Af (by omega)) ?_ | refine hrm_skip (by omega) ?_));exact Ao _ _ _)):p:=h
theorem G6{p:Prop}(h:p:=by intro x_;(try simp only[hputs]);(try dsimp only);first | exact Ao _ _ _ | exact(EG _ _ x_).trans (Ao _ _ _) |((repeat(first | refine AA (by exact Af (by omega)) ?_ | refine hrm_skip (by omega) ?_));exact Ao _ _ _)):p:=h
theorem m7{p:Prop}(h:p:=by rcases(by omega:a/2^k%2=0\/a/2^k%2=1)with h1 | h1<;>rcases(by omega:b/2^k%2=0\/b/2^k%2=1)with h2 | h2<;>(try simp_all[ag])<;>first |(rw[bne_iff_ne.2 ‹¬op=11›];rfl) |(rw[bne_iff_ne.2 ‹¬op=9›];rfl)):p:=h
theorem m5{p:Prop}(h:p:=by repeat(first | exact ESub.new _ | refine ESub.put ?_ (by first | rfl | exact congrArg (fun m:Nat=>some (AV.int .i64 (m:Int))) ((List.length_map _).trans (AK f)) | exact congrArg (fun(n:Nat)=>some (AV.int .i64 (n:Int))) (by simp)))):p:=h
theorem m4{p:Prop}(h:p:=by repeat(first | exact EDropK.new _ _ | refine EDropK.put ?_ (by first | rfl | exact congrArg (fun z=>some (AV.bool z)) (by rw[hnx2];first | done | rfl |(simp[hss,hr];done) | simp[hss,hr])) (by first | rfl | exact A4 (Ar _) _ _ _ _))):p:=h
theorem BC{p:Prop}(h:p:=by(try simp only[hputs]);repeat(first | rfl | exact Aq _ _ _ | refine AA (by exact Af (by omega)) ?_ | refine hrm_skip (by omega) ?_ | refine(CG _ (fun i_ _=>by first | omega |(dsimp only;omega))).trans ?_)):p:=h
theorem jW{p:Prop}(h:p:=by repeat(first | exact trivial | refine⟨⟨by rfl,by first | rfl | exact Ad (fun _ _=>Bf (Ar _) _ _) | exact Ad (fun _ _=>A4 (Ar _) _ _ _ _) | exact Ad (fun _ _=>D0 (Ar _) _ _ _)⟩,?_⟩)):p:=h
theorem jV{p:Prop}(h:p:=by repeat(first | exact trivial | refine⟨⟨by rfl,by first | rfl | exact Ad (fun _ _=>Bf (Ar _) _ _) | exact Ad (fun _ _=>A4 (Ar _) _ _ _ _) | exact Ad (fun _ _=>BZ (Ar _) _ _)⟩,?_⟩)):p:=h
theorem m3{p:Prop}(h:p:=by repeat(first | exact EDropK.new _ _ | refine EDropK.put ?_ (by first | rfl | exact congrArg (fun z=>some (AV.bool z)) (iG hne) | exact congrArg (fun z=>some (AV.bool z)) (lF heq)) (by first | rfl | exact CP _ _ _ _))):p:=h
theorem mZ{p:Prop}(h:p:=by intro c h1 h2;rcases(by omega:c=13\/c=14\/c=15)with rfl | rfl | rfl<;>first | rfl |(try simp only[hputs];repeat(first | rfl | refine AA (by exact Af (by omega)) ?_ | refine hrm_skip (by omega) ?_))):p:=h
theorem Rw{p:Prop}(h:p:=by repeat(first | exact HDrop.none _ _ | exact HDrop.tail _ _ | refine HDrop.put ?_ (by rfl) rfl (by first | rfl | exact Dy _ _ | exact YD _ | exact YM _ _ rfl rfl | exact Yr _ _ _ rfl rfl rfl))):p:=h
theorem jU{p:Prop}(h:p:=by repeat(first | exact EDropK.new _ _ | refine EDropK.put ?_ (by first | rfl | exact congrArg (fun x=>some (AV.int .i64 x)) (Jg hil (by simp only[maxLen];omega))) (by first | rfl | exact UB _ _))):p:=h
theorem aS{p:Prop}(h:p:=by repeat(first | exact trivial | refine⟨⟨by first | rfl | exact Hr rfl,by first | rfl | exact Ad (fun _ _=>CP _ _ _ _) | exact Ad (fun _ _=>CM _ _ _)⟩,?_⟩)):p:=h
theorem fQ{p:Prop}(h:p:=by(try simp only[hputs]);(repeat(first | refine AA (by exact Af (by omega)) ?_ | refine hrm_skip (by omega) ?_));exact(Ao _ _ _).trans (congrArg some (V4 hb hx))):p:=h
theorem Rv{p:Prop}(h:p:=by repeat(first | exact trivial | refine⟨⟨by rfl,by first | rfl | exact Ad (fun _ _=>CP _ _ _ _) | exact Ad (fun _ _=>CM _ _ _)⟩,?_⟩)):p:=h
theorem FX{p:Prop}(h:p:=by intro x_;(try simp only[hputs]);repeat(first | exact Ao _ _ _ | refine AA (by exact Af (by omega)) ?_ | refine hrm_skip (by omega) ?_)):p:=h
theorem aP{p:Prop}(h:p:=by intro y_;(try simp only[hputs]);repeat(first | exact Ao _ _ _ | refine AA (by exact Af (by omega)) ?_ | refine hrm_skip (by omega) ?_)):p:=h
theorem Ru{p:Prop}(h:p:=by repeat(first | exact HSub.none _ | exact AH _ | exact AF (by decide) | refine HSub.put ?_ (by rfl) | refine AG ?_ (by decide))):p:=h
theorem jT{p:Prop}(h:p:=by first | rfl | exact congrArg (fun es=>some (AObj.row true 1 es)) (P6 _ _ _) | exact congrArg (fun es=>some (AObj.row true 1 es)) (V0 _ _ _ _)):p:=h
theorem Ez{p:Prop}(h:p:=by repeat(first | exact ESub.new _ | refine ESub.put ?_ (by first | rfl | exact congrArg (fun(n:Nat)=>some (AV.int .i64 (n:Int))) (by simp)))):p:=h
theorem jS{p:Prop}(h:p:=by have:=SA (SB f) f.blocks.length v;have e:Nb (SB f) f.blocks.length v=FE f v:=rfl;rw[e]at this;simp only[maxLen];omega):p:=h
theorem Td{p:Prop}(h:p:=by repeat(first | exact EDrop.new _ _ | refine EDrop.put ?_ (by rfl) (by first | rfl | exact Cb _ rfl | exact Hk _ rfl))):p:=h
theorem jR{p:Prop}(h:p:=by intro e w4 he;cases e<;>first | exact he | exact hpost _ _ _ he |(obtain⟨a3,w5,hp3⟩:=he;exact⟨a3,w5,hpost _ _ _ hp3⟩)):p:=h
theorem jQ{p:Prop}(h:p:=by rw[show w2.heap.size=w.heap.size by show(w1.heap.setIfInBounds rb _).size=_;rw[hw1h.1];simp];exact hmlt):p:=h
theorem fP{p:Prop}(h:p:=by repeat(first | exact NoMap.none | exact NoMap.new | refine NoMap.put ?_ _ rfl | refine ft ?_ _)):p:=h
theorem Im{p:Prop}(h:p:=by repeat(first | exact EDropK.new _ _ | refine EDropK.put ?_ (by rfl) (by first | rfl))):p:=h
theorem Rt{p:Prop}(h:p:=by repeat(first | exact trivial | refine⟨by first | rfl | exact BT rfl,?_⟩)):p:=h
theorem Rs{p:Prop}(h:p:=by repeat(first | exact EDrop.new _ _ | refine EDrop.put ?_ (by rfl) rfl)):p:=h
theorem Ci{p:Prop}(h:p:=by repeat(first | exact ESub.new _ | refine ESub.put ?_ (by rfl))):p:=h
theorem Lp{p:Prop}(h:p:=by rw[Nat.zero_add,Int.toNat_natCast];exact BV hb):p:=h
theorem Yl{p:Prop}(h:p:=by rw[Nat.zero_add,Int.toNat_natCast];exact BV hv):p:=h
theorem Tc{p:Prop}(h:p:=by repeat(first | exact trivial | refine⟨by rfl,?_⟩)):p:=h
theorem PI{p:Prop}(h:p:=by rw[Nat.zero_add,Int.toNat_natCast];exact cx):p:=h
theorem Yk{p:Prop}(h:p:=by rw[Bl];exact(BX f _).symm):p:=h
theorem DG{p:Prop}(h:p:=by first | exact fun _=>rfl |(intro h;cases h)):p:=h
theorem PH{p:Prop}(h:p:=by intro i_ _;first | omega |(dsimp only;omega)):p:=h
theorem GO{p:Prop}(h:p:=by first | decide | omega |(dsimp only;omega)):p:=h
theorem Il{p:Prop}(h:p:=by rw[ho];simp[Op.operands,Call.operands]):p:=h
theorem MN{p:Prop}(h:p:=by rw[List.length_append,Ey];rfl):p:=h
theorem q9{p:Prop}(h:p:=by
 refine aq 115 (Ab Ag rfl rfl rfl rfl rfl rfl rfl (AE (by simp:(f.tpaths.map f.newBlock).length=f.tpaths.length) (Nat.le_of_lt hkl)) rfl (Int.natCast_nonneg _) (by omega)) ?_;refine AOps.w rfl rfl (o_store Ag rfl rfl rfl rfl rfl rfl (AE (by simp:(f.tpaths.map f.newBlock).length=f.tpaths.length) (Nat.le_of_lt hkl)) (fill_get (by simp:(f.tpaths.map f.newBlock).length=f.tpaths.length) hkl) rfl (by decide) rfl DG) ?_;refine wk 2 ?_;refine aq 116 (Bk rfl rfl hkl (by simp only[maxLen];omega)) ?_;refine wk 2 ?_;exact⟨k+1,Drop.mk' Rs (by repeat(first | exact HDrop.none _ _ | exact HDrop.tail _ _ | refine HDrop.put ?_ (by first | rfl | exact absurd (show((f.blockAt (AI p)).fin==2)=true from ‹_›) (by rw[show((f.blockAt (AI p)).fin==2)=false from ‹_›];decide) | exact congrArg (fun es=>some (AObj.row true 5 es)) (BU (f:=Block.cells) (x:=⟨f.joined p,(f.blockAt (AI p)).fin,(f.blockAt (AI p)).v,(f.blockAt (AI p)).to,(f.blockAt (AI p)).els⟩) (by simp:(f.tpaths.map f.newBlock).length=f.tpaths.length) (by rw[hnb];simp[BFunc.newBlock, *])) | exact congrArg (fun es=>some (AObj.row true 5 es)) (BU (f:=Block.cells) (x:=⟨f.joined p,(f.blockAt (AI p)).fin,(f.blockAt (AI p)).v,(f.blockAt (AI p)).to,(iget f.nums (f.blockAt (AI p)).els)⟩) (by simp:(f.tpaths.map f.newBlock).length=f.tpaths.length) (by rw[hnb];simp[BFunc.newBlock, *])) | exact congrArg (fun es=>some (AObj.row true 5 es)) (BU (f:=Block.cells) (x:=⟨f.joined p,(f.blockAt (AI p)).fin,(f.blockAt (AI p)).v,(iget f.nums (f.blockAt (AI p)).to),(f.blockAt (AI p)).els⟩) (by simp:(f.tpaths.map f.newBlock).length=f.tpaths.length) (by rw[hnb];simp[BFunc.newBlock, *])) | exact congrArg (fun es=>some (AObj.row true 5 es)) (BU (f:=Block.cells) (x:=⟨f.joined p,(f.blockAt (AI p)).fin,(f.blockAt (AI p)).v,(iget f.nums (f.blockAt (AI p)).to),(iget f.nums (f.blockAt (AI p)).els)⟩) (by simp:(f.tpaths.map f.newBlock).length=f.tpaths.length) (by rw[hnb];simp[BFunc.newBlock, *]))) rfl rfl)),hkl,by omega⟩):p:=h
theorem rd{p:Prop}(h:p:=by
 refine aq 65 (A2 (r:=.int .i64 ((((Hp f v i).length-(m+1):Nat):Int)-1)) rfl rfl rfl (i7 hkk (by have:=MZ hx (v:=v);have:=hi x hxm;omega))) ?_;refine wk 2 ?_;exact⟨m+1,DropK.mk' m4 (Bm (k0:=9) rfl tE na (Bd (Ar _) f R _ _)),⟨by omega,by rw[hnx2];exact hF.2⟩,(by omega)⟩):p:=h
theorem mR{p:Prop}(h:p:=by
 refine aq 18 (Bk rfl rfl hkl (show 32<=maxLen by decide)) ?_;refine wk 2 ?_;exact⟨k+1,Sub.mk' Ci (by repeat(first | exact HSub.refl _ | exact HSub.none _ | exact AH _ | exact AF GO | refine HSub.put ?_ (by first | rfl | exact congrArg (fun es=>some (AObj.row true 1 es)) (ae (c:=[]) hkl m7) | exact congrArg (fun es=>some (AObj.row true 1 es)) (ac hkl m7)) | refine AG ?_ GO | refine Br ?_ (by decide))),hkl,by omega⟩):p:=h
theorem q8{p:Prop}(h:p:=by
 refine wk 5 ?_;refine aq 76 (At Ag rfl rfl rfl (.ptr _ _ _ _ false 2 (Cs R S v i++[JH R v i (S i v)]) (JH R v i (S i v)) ((Ao _ _ _).trans (congrArg some (FL))) MN PI) rfl) ?_;refine wk 2 ?_;refine ax 79 (Cp Ag rfl rfl rfl rfl rfl rfl (by decide) rfl rfl rfl rfl rfl rfl) ?_;refine ax 80 (o_append1J Ag (b:=(4*(v+R*i)+3+16)) (es:=(S i v).map G8) rfl rfl rfl rfl rfl rfl rfl rfl ((Ao _ _ _).trans (congrArg some (P7 hv))) rfl rfl (Nat.zero_lt_succ _) (kA _) (Gv fun _=>rfl) rfl rfl (by rw[List.length_map];show(_+1)*16<=_;omega) (by rw[List.length_map];simp only[maxLen];omega)) ?_;refine wk 2 ?_;refine AOps.w rfl rfl (o_store1 Ag (p:=false) (sz:=2) (es:=(Cs R S v i++[JH R v i (S i v)])) (cs:=JH R v i (S i v)) rfl rfl rfl rfl rfl rfl (by(try simp only[hputs]);(try dsimp only);(repeat(first | refine AA (by exact Af (by omega)) ?_ | refine hrm_skip (by omega) ?_));exact(Ao _ _ _).trans (congrArg some (FL))) MN PI (Dz _ _) (by decide) (DA _ _) (by intro h;cases h)) ?_
 refine an ?_;exact⟨(),Sub.mk' Ci (Ng rfl rfl rfl Tc (fun x_=>by(try simp only[hputs]);rw[hnl];refine(DO (F:=F4 r0 r1 (P8 n R S v i (S i v)) (Y7 R S v i (S i v++[⟨p,false,false⟩]))) (fun y_=>?_) _ _ x_).trans (congrArg some ?_);exact(DO (F:=F4 r0 r1 (P8 n R S v i (S i v)) (MS R S)) (fun z_=>Ao _ _ _) _ _ y_).trans (congrArg some (bV (l:=S i v) (s:=⟨p,false,false⟩) y_).symm);exact(bZ (l:=S i v) (dP (s:=⟨p,false,false⟩)) x_).symm) fD),trivial⟩):p:=h
theorem q7{p:Prop}(h:p:=by
 intro _ _;refine wk 5 ?_;refine dq 86 (At Ag rfl rfl rfl (.ptr _ _ _ _ false 2 (Cs R S v i++[JH R v i (A6 (S i v) p)]) (JH R v i (A6 (S i v) p)) ((Ao _ _ _).trans (congrArg some (FL))) MN PI) rfl) ?_;refine wk 3 ?_;refine dq 90 (At Ag rfl rfl rfl (.ptr _ _ _ _ false 2 (Cs R S v i++[JH R v i (A6 (S i v) p)]) (JH R v i (A6 (S i v) p)) ((Ao _ _ _).trans (congrArg some (FL))) MN PI) rfl) ?_;refine dq 91 (FM Ag rfl rfl rfl rfl) ?_;refine dq 92 (A2 (r:=.int .i64 (((A6 (S i v) p).length-1:Nat):Int)) rfl rfl rfl (by rw[List.length_map];exact P0 (Cy _ _) (by have:=Zi (S i v) p;omega))) ?_;refine dq 93 (IC Ag (b:=(4*(v+R*i)+3+16)) (es:=(A6 (S i v) p).map G8) rfl rfl rfl rfl rfl rfl ((Ao _ _ _).trans (congrArg some (kQ))) rfl (Int.natCast_nonneg _) (by rw[List.length_map];have:=Cy (S i v) p;omega)) ?_;refine wk 3 ?_;refine⟨[_],⟨rfl,trivial⟩,?_,?_⟩
 . show AV.ptr _ _ _ _=AV.ptr _ _ _ _;rw[List.length_map,Int.toNat_natCast]
 . rw[<-ja hi0 hlast (Cy _ _),<-cb hv hi0 hlast (Cy _ _),<-R7 hv];exact Ma rfl Tc (fun x_=>by dsimp only;exact Ao _ _ _)):p:=h
theorem q6{p:Prop}(h:p:=by
 refine wk 2 ?_;refine aq 101 (Bk rfl rfl hkl (by simp only[maxLen];omega)) ?_;refine wk 2 ?_;exact⟨k+1,Drop.mk' Rs (by repeat(first | exact HDrop.none _ _ | exact HDrop.tail _ _ | refine HDrop.put ?_ (by first | rfl | exact congrArg (fun es=>some (AObj.row true 1 es)) (BU (f:=Sy) (x:= -1) (AP f reach) (by rw[htk,hno])) | exact congrArg (fun w=>some (AObj.row true 1 (List.map A5 w))) (bs hx hno) | exact congrArg (fun es=>some (AObj.row true 1 es)) (by rw[List.set_set];exact BU (f:=Sy) (x:=x.to) (AP f reach) (by rw[htk,hyes])) | exact congrArg (fun es=>some (AObj.row true 1 es)) (YL hx hyes hto.1)) rfl rfl)),hkl,by omega⟩):p:=h
theorem iS{p:Prop}(h:p:=by
 refine aq 165 (Ke Ag false rfl rfl rfl (by kernel_rfl) rfl rfl rfl rfl rfl) ?_;refine wk 2 ?_;refine GN ⟨[_],⟨rfl,trivial⟩,?_,rfl⟩;refine bc ?_;have hwr:1<=t.size->t.size<=4096->IntKind.i64.wrap (words-t.size)=words-t.size:=fun h1 h2=>BJ (by omega) (by omega)
 rw[ZI hb1 hb2 hd hall (by simp_all[Tac.rest,baseOp,HG]<;>omega)];subst hdd haa hbb;clear hd hj hall hwr hw hw2 hb1 hb2;first |(simp_all[Tac.same,Tac.want,baseOp,HG,setsOp,use1,use2];done) | simp[Tac.same,Tac.want,baseOp,HG, *]):p:=h
theorem jG{p:Prop}(h:p:=by
 refine wk 2 ?_;exact⟨t.d,Sub.mk' Ci FF,⟨by have h:= ‹(!AT t.d regs)=false›;simp at h;simp[h],by first |(simp[setsOp, *];done) | simp[ED ‹_›]⟩⟩):p:=h
theorem qZ{p:Prop}(h:p:=by
 intro l
 induction l with
 | nil=>exact fun a1 w1 hp=>hpost _ _ _ hp
 | cons o' l ih=>
  intro a1 w1 hp;unfold wpList at hp |-
  by_cases hw:Region.wanted o' (yielded ops a1.tmps)=true
  . rw[if_pos hw]at hp |-;rcases hp with hp |⟨hp1,a2,w2,hp2⟩
    . refine .inl ?_;have hp':=Oper.wp_mono (fun a2 w2=>ih a2 w2) hp;clear hp;unfold Oper.wp at hp' |-;generalize(execOp a1.eval o').run P w1=res at hp' |-
      cases res with
      | ok n w3=>
       cases n<;>simp only[Oper.upon]at hp' |- <;>first
        | exact hp'
        | exact Calls.mono hp' jR
      | halt x w3=>cases x<;>simp only[Oper.upon]at hp' |- <;>first | exact hpost _ _ _ hp' | exact hp'
    . exact .inr ⟨hp1,a2,w2,hpost _ _ _ hp2⟩
  . rw[if_neg hw]at hp |-;exact ih _ _ hp):p:=h
theorem tA{p:Prop}(h:p:=by
 have hoR:oR n R S v=Ek (4*v+2+16) (Cs R S v i):=by unfold oR;rw[XT hi0 hlast hS0]
 rw[hoR];refine wk 5 ?_;refine ax 35 (Cp Ag rfl rfl rfl rfl rfl rfl (by decide) rfl rfl rfl rfl rfl rfl) ?_;refine ax 36 (Kg Ag (b:=(4*v+2+16)) (es:=Cs R S v i) (x0:=[.int .i64 (i:Int),.nil]) rfl rfl rfl rfl rfl rfl rfl rfl ((Ao _ _ _).trans (congrArg some ((V3 hv).trans (by rw[XT hi0 hlast hS0])))) rfl rfl (Nat.zero_lt_succ _) (.lst _ _) rfl (by rw[Ey];show _*32<=_;omega) (by rw[Ey];simp only[maxLen];omega)) ?_;refine wk 2 ?_;refine AGo.ghost (CI (4*v+2+16) (es':=Cs R S v i++[[.int .i64 (i:Int),Ek (4*(v+R*i)+3+16) []]]) BC (by simp) (Yt (show WkAll [AV.int .i64 (i:Int),.nil] _ from⟨Wk.refl _,Wk.nil _,trivial⟩))) ?_;refine wk 7 ?_;refine aq 43 (Ab Ag rfl rfl rfl rfl rfl rfl rfl (An _ _).symm rfl (Int.natCast_nonneg _) (by omega)) ?_;refine AOps.w rfl rfl (o_store1 Ag (p:=false) (sz:=1) (es:=Ay (oR n R S) R) (cs:=[oR n R S v]) rfl rfl rfl rfl rfl rfl BC (An _ _).symm Yl (Dz _ _) (by decide) (DA _ _) (by intro h;cases h)) ?_
 refine an ?_;exact⟨(),Sub.mk' (by repeat(first | exact ESub.new _ | refine ESub.put ?_ (by first | rfl | exact congrArg some (cR hi0 hlast hS1) |(rw[Ho,Ey];rfl)))) (Ng rfl rfl rfl (by repeat(first | exact trivial | refine⟨by first | rfl | exact congrArg (fun es=>some (AObj.row false 1 es)) (lf (Ey _ _ _ _)),?_⟩)) (fun x_=>by(try simp only[hputs]);(repeat(first | refine AA (by exact Af (by omega)) ?_ | refine hrm_skip (by omega) ?_));rw[Ws];exact(DO (fun y_=>Ao _ _ _) _ _ x_).trans (congrArg some (gt hS0 x_).symm)) fD),trivial⟩):p:=h
theorem zt10{p:Prop}(h:p:=by
 have hbytes:l.length*P.bytesOf e<=reachBytes:=by
  refine Nat.le_trans (Nat.mul_le_mul_right _ ?_) w1;omega
 refine⟨l,.one ?_ rfl,hbytes,hQ⟩
 by_cases h0:len=0
 . have:l=[]:=List.length_eq_zero_iff.1 (by omega);subst this;subst h0;exact .lst0 _ _ _ _ (fun h=>by cases h) hm (fun h=>by cases h) trivial
 . obtain⟨y0,cs0,k1,k2,k3⟩:=key 0 (by omega);obtain⟨_,m1,m2⟩:=World.cells?_some k1;have hz:cs0[0]?=some cs0[0]:=List.getElem?_eq_getElem (by omega);have hcell:=m2 0 hc;rw[hz]at hcell;have ha0:(a.add (0*P.cellsOf e)).add 0=a:=by simp[Addr.add]
   rw[ha0]at hcell;obtain⟨c,hH,hspot,_⟩:=JW hcell;obtain⟨ab,ao,asp⟩:=a;simp only at hspot hH;subst hspot;have hsz: ∀(i:Nat) (xs:List AV),(l.map f)[i]?=some xs->xs.length=P.cellsOf e/\∀(j:Nat) (x:AV),xs[j]?=some x->∃v,c[ao+i*P.cellsOf e+j]?=some v/\Rel (CS W) AU x v/\x.cell1=true:=fun i xs hi=>by
    rw[List.getElem?_map,Option.map_eq_some_iff]at hi;obtain⟨y,y1,rfl⟩:=hi;obtain⟨cs',c1,c2,c3⟩:=l2 i y y1;obtain⟨_,n1,n2⟩:=World.cells?_some c1;refine⟨by rw[c2.1,n1],fun j x hj=>?_⟩;have hjlt:j<cs'.length:=by rw[<-c2.1];exact(List.getElem?_eq_some_iff.1 hj).1
    have h3:=n2 j (by omega);rw[List.getElem?_eq_getElem hjlt,ET,ET]at h3;obtain⟨c',e1,_,e3⟩:=JW h3;simp only at e1 e3;rw[hH]at e1;cases e1;obtain⟨g1,g2⟩:=c2.2 j x _ hj (List.getElem?_eq_getElem hjlt);exact⟨_,e3,g1,g2⟩
   have:=Rel.lst (H:=CS W) AU false (l.map f) ab ao cap (P.cellsOf e) c (fun i j=>(c[ao+i*P.cellsOf e+j]?).getD undef) (fun hh=>by rw[List.map_eq_nil_iff]at hh;subst hh;simp at l1;omega) hH
    (fun i xs hi=>(hsz i xs hi).1) (fun i xs j x hi hj=>by obtain⟨v,v1,_⟩:=(hsz i xs hi).2 j x hj;rw[v1];rfl)
    (fun i xs j x hi hj=>by obtain⟨v,v1,v2,_⟩:=(hsz i xs hi).2 j x hj;rw[v1];exact v2) (fun i xs j x hi hj=>by obtain⟨v,v1,v2,v3⟩:=(hsz i xs hi).2 j x hj;exact v3) (fun h=>by cases h) (by simp[l1];exact hl) hm
   rw[List.length_map,l1]at this;exact this):p:=h
theorem mY{p:Prop}(h:p:=by
 intro k hk;refine wk 6 ?_;refine asp 6 (fun hb1=>?_) fun hb1=>?_
 .
  refine act ?_;have hkl:k<32:=by have h:=hb1;simp at h;omega
  have hle:a/2^k<=a:=Nat.div_le_self _ _;refine wk 7 ?_;refine aq 11 (A2 (r:=.int .u32 ((a/2^k%2:Nat):Int)) rfl rfl rfl (FC (a:=a/2^k) (b:=2) (by decide))) ?_;refine aq 12 (Co Ag rfl rfl rfl rfl rfl (Jh (by omega))) ?_;refine ax 13 (Cp Ag rfl rfl rfl rfl rfl rfl (by decide) rfl rfl rfl rfl rfl rfl) ?_;refine ax 14 (o_append Ag (n:=k) (m:=1) rfl rfl rfl rfl rfl rfl rfl rfl rfl (by simp[BG,Ch]) rfl rfl (Nat.zero_lt_succ _) (.lst _ _) (by intro cs h;simp[partVals]at h;subst h;rfl) (fun _ cs h=>by simp[partVals]at h;subst h;rfl) rfl (by simp[BG,Ch,partVals];show _*8<=_;omega) (by simp[BG,Ch,partVals];simp only[maxLen];omega)) ?_;refine wk 4 ?_;refine aq 16 (A2 (r:=.int .u32 ((a/2^k/2:Nat):Int)) rfl rfl rfl (La (a:=a/2^k) (b:=2) (by decide) (Dx (by omega)))) ?_;refine wk 4 ?_;refine aq 8 (Bk rfl rfl hkl (show 32<=maxLen by decide)) ?_
  refine wk 2 ?_;exact⟨k+1,Sub.mk' (by repeat(first | exact ESub.new _ | refine ESub.put ?_ (by first | rfl | exact congrArg (fun(n:Nat)=>some (AV.int .u32 (n:Int))) (by rw[Nat.div_div_eq_div_mul,Nat.pow_succ])))) (by repeat(first | exact HSub.refl _ | exact HSub.none _ | exact AH _ | exact AF GO | refine HSub.put ?_ (by first | rfl | exact congrArg (fun es=>some (AObj.row true 1 es)) (U7 a k)) | refine AG ?_ GO | refine Br ?_ (by decide))),hkl,by omega⟩
 refine acf ?_;have hge: ¬k<32:=by have h:=hb1;simp at h;omega
 refine wk 2 ?_;obtain rfl:k=32:=by omega
 refine wk 5 ?_;refine⟨[_],⟨rfl,trivial⟩,rfl,HSub.put (HSub.none _) rfl⟩):p:=h
theorem Tb{p:Prop}(h:p:=by
 refine GN ⟨[_],⟨rfl,trivial⟩,?_,rfl⟩;refine bc ?_;have hwr:1<=t.size->t.size<=4096->IntKind.i64.wrap (words-t.size)=words-t.size:=fun h1 h2=>BJ (by omega) (by omega)
 exact(Q8 (by simp_all[Tac.rest,baseOp,HG]<;>omega)).symm):p:=h
theorem mX{p:Prop}(h:p:=by
 refine aq 74 (Bk rfl rfl hkl jS) ?_;refine wk 2 ?_;exact⟨(q.1+1,q.2),DropK.mk' tC (Bm (k0:=9) rfl tG G6 (Bd (Ar _) f R _ _)),⟨hkl,by rw[<-Ny hgi (by omega)];exact hq.2⟩,(by show(FE f v).length-(q.1+1)<(FE f v).length-q.1;omega)⟩):p:=h
theorem jP{p:Prop}(h:p:=by
 refine aq 60 (Bk rfl rfl hkl (by simp only[maxLen];omega)) ?_;refine wk 2 ?_;exact⟨k+1,Drop.mk' (by repeat(first | exact EDrop.new _ _ | refine EDrop.put ?_ (by first | rfl | exact congrArg (fun n=>some (AV.ref 4 n 0 n)) (by rw[DU hhead];simp) | exact congrArg (fun n=>some (AV.ref 4 n 0 n)) (by rw[E6 hhead])) rfl)) (by repeat(first | exact HDrop.none _ _ | exact HDrop.tail _ _ | refine HDrop.put ?_ (by first | rfl | exact congrArg (fun es=>some (AObj.row true 1 es)) (by rw[Og hhead];exact QX _ _ _) | exact congrArg (fun es=>some (AObj.row true 1 es)) (by rw[DU hhead,List.map_append];rfl) | exact congrArg (fun es=>some (AObj.row true 1 es)) (by rw[Qq hhead]) | exact congrArg (fun es=>some (AObj.row true 1 es)) (by rw[E6 hhead])) rfl rfl)),hkl,by omega⟩):p:=h
theorem mW{p:Prop}(h:p:=by
 refine aq 38 (Bk rfl rfl hkl (show f.blocks.length<=maxLen by simp only[maxLen];omega)) ?_;refine wk 2 ?_;exact⟨k+1,Drop.mk' Rs (by repeat(first | exact HDrop.none _ _ | exact HDrop.tail _ _ | refine HDrop.put ?_ (by first | rfl | exact congrArg (fun es=>some (AObj.row true 1 es)) (BU (f:=pathCell) (x:=[x.to]) (AK f) (by rw[hnx];simp[Block.nexts, *])) | exact congrArg (fun es=>some (AObj.row true 1 es)) (BU (f:=pathCell) (x:=[x.to,x.els]) (AK f) (by rw[hnx];simp[Block.nexts, *])) | exact congrArg (fun es=>some (AObj.row true 1 es)) (ZJ (f:=pathCell) (x:=[]) (AK f) (by rw[hnx];simp[Block.nexts, *]) rfl)) rfl rfl)),hkl,by omega⟩):p:=h
theorem Vw{p:Prop}(h:p:=by
 exact HSub.put (HSub.put (HSub.put (HSub.put (HSub.none _) rfl) rfl) rfl) jT):p:=h
theorem mV{p:Prop}(h:p:=by
 have hb:=ht.b (by simp[use2,ho7]);refine wk 10 ?_;refine dq 132 (Ab Ag rfl rfl rfl rfl rfl rfl rfl (by rw[Ap,hlen]) rfl ha.1 (by have:=ha.2;omega)) ?_;refine dq 133 (At Ag rfl rfl rfl (.ptr _ _ _ _ _ _ _ _ rfl (by rw[Ap,hlen]) (Eg (by have:=ha;omega))) rfl) ?_;refine dq 134 (Fy Ag rfl rfl rfl rfl rfl (r:=rget regs t.a) (by exact BJ (by omega) (by omega))) ?_;refine dq 135 (A2 (r:=.int .i64 (t.base+rget regs t.a)) rfl rfl rfl (by simp only[AM,Bw,isShift,cond_false,if_true];rw[BJ (by omega) (by omega)])) ?_;refine wk 3 ?_;refine dq 139 (Ab Ag rfl rfl rfl rfl rfl rfl rfl (by rw[Ap,hlen]) rfl hb.1 (by have:=hb.2;omega)) ?_;refine dq 140 (At Ag rfl rfl rfl (.ptr _ _ _ _ _ _ _ _ rfl (by rw[Ap,hlen]) (Eg (by have:=hb;omega))) rfl) ?_;refine dq 141 (Ab Ag rfl rfl rfl rfl rfl rfl rfl (by rw[Ap,hm.len]) rfl hidx.1 (by have:=hidx.2;omega)) ?_;refine DOps.w rfl rfl (o_store Ag rfl rfl rfl rfl rfl rfl (by rw[Ap,hm.len]) (Eg (by have:=hidx;have:=hm.len;omega)) rfl (by decide) rfl DG) ?_
 refine wk 1 ?_;refine⟨[],trivial,rfl,?_⟩;rw[qA ho7 hsz];exact HSub.put (HSub.put (HSub.put (HSub.put (HSub.none _) rfl) jT) rfl) rfl):p:=h
theorem mU{p:Prop}(h:p:=by
 have hfit:Builtin.nextslicecap (0+es2.length) 0*infou.bytes<=281474976710656:=growslice_fits (by omega) (by rw[f5,Nat.zero_add];exact hby);have hrun:=run_append_grow_src (P:=P) w t t' o.type u infou z e2 f1 hz1 base 0 0 [] hold vb es2.length news hsrcw (by omega) h63 hfit;have hge:=grownCap_ge w (0+es2.length) 0 u;have hcm:grownCap w (0+es2.length) 0 u<=maxLen:=grownCap_le_maxLen w _ 0 u (by omega);generalize hcc:grownCap w (0+es2.length) 0 u=nc at*;generalize hC:(([]:List Value)++news).toArray++Builtin.zeroCells z.cells (nc-(0+es2.length))=C at*;have hCs:C.size=nc*j.size:=by
  rw[<-hC,Array.size_append,size_zeroCells,hzl];simp only[List.size_toArray,List.nil_append,hnl,<-Nat.add_mul];congr 1;omega
 have hCg: ∀k,k<news.length->C[k]?=news[k]?:=fun k hk=>by
  rw[<-hC,Array.getElem?_append_left (by simp;omega)]
  simp
 refine⟨_,C,u,w.drew,rfl,rfl,rfl,?_,⟨fun i cs h=>hu2 cs (List.mem_of_getElem? h),fun i cs k y h1 h2=>?_⟩,hexec _ _ (hv▸hrun),?_⟩
 . rw[hCs];exact Nat.mul_le_mul_right _ (by omega)
 . obtain⟨v,k1,k2,k3⟩:=hnews i cs k y h1 h2;exact⟨v,by rw[hCg _ (List.getElem?_eq_some_iff.1 k1).1];exact k1,k2,k3⟩
 . have:=Rel.refL (H:=H) (DK ι b ⟨w.heap.size,j.size,es2.length,C.size⟩) b es2.length 0 es2.length nc _ (Bh _ _ _) rfl (by omega) (by omega) (by simp[hCs]) hcm;simpa using this):p:=h
theorem mS{p:Prop}(h:p:=by
 refine aq 26 (Bk rfl rfl hjl (by simp only[maxLen];omega)) ?_;refine wk 2 ?_;exact⟨j+1,DropK.mk' (by repeat(first | exact EDropK.new _ _ | refine EDropK.put ?_ (by first | rfl | exact congrArg (fun m=>some (AV.ref 9 m 0 m)) (congrArg List.length (Up ht hg).symm) | exact congrArg (fun m=>some (AV.ref 9 m 0 m)) ((List.length_map (f:=Tac.cells)).symm.trans ((congrArg List.length (Uo ht hg).symm).trans (by simp))).symm | exact congrArg (fun(n:Nat)=>some (AV.int .i64 (n:Int))) (by simp)) (by first | rfl))) (Bm (k0:=13) rfl (by repeat(first | exact trivial | refine⟨⟨by first | rfl | exact congrArg (fun es=>some (AObj.row true 8 es)) (Uo ht hg) | exact congrArg (fun l=>some (AObj.row true 8 (l.map Tac.cells))) (Up ht hg).symm |((try simp only[hputs]);repeat(first | rfl | exact Aq _ _ _ | refine AA (by exact Af (by omega)) ?_ | refine hrm_skip (by omega) ?_ | refine(CG _ PH).trans ?_)),by first | rfl | exact Ad (fun _ _=>Bf (Ar _) _ _) | exact Ad (fun _ _=>A4 (Ar _) _ _ _ _) | exact Ad (fun _ _=>BZ (Ar _) _ _)⟩,?_⟩)) FX (Bd (Ar _) f R _ _)),hjl,by omega⟩):p:=h
theorem zt20{p:Prop}(h:p:=by
 refine wk 2 ?_;refine aq 120 (Bk rfl rfl hjl (by have:=Kq f b;simp only[maxLen];omega)) ?_;refine wk 2 ?_;exact⟨⟨p.inn,p.todo,p.es,p.j+1⟩,DropK.mk' m9 (Bm (k0:=9) rfl tF FX (Bd (Ar _) f R _ _)),(hP.skip ha hno),(by show(Aw f b).length-(p.j+1)<(Aw f b).length-p.j;omega)⟩):p:=h
theorem jO{p:Prop}(h:p:=by
 have hft:(k.fin==3)=false:=by simp_all
 have hnx:=hF.next hk hI hge hst hft (ZM hks.1 hft r.regs);exact⟨⟨k.next r.regs,r.regs,(Ax fuel r.m).2,q.g-1⟩,Drop.mk' (by repeat(first | exact EDrop.new _ _ | refine EDrop.put ?_ (by first | rfl | exact congrArg (fun(n:Int)=>some (AV.int .i64 n)) (by simp[Block.next, *])) (by first | rfl | exact Cb _ rfl | exact Hk _ rfl))) Rw,hnx.1,hnx.2⟩):p:=h
theorem Vv{p:Prop}(h:p:=by
 refine wk 5 ?_;refine GN ⟨[_],⟨rfl,trivial⟩,?_,rfl⟩;refine bc ?_;exact(lz (by first |(simp[setsOp, *];done) | exact ED ‹_›) (by simpa using ‹(!AT t.d regs)=true›)).symm):p:=h
theorem mQ{p:Prop}(h:p:=by
 have hnb:notBeen s.been b=false:=by
  rw[Bool.eq_false_iff];intro h;obtain⟨h1,h2,h3⟩:=CQ h;first |(simp_all[A1];done) |(simp_all[A1];omega)
 refine fH ?_;refine⟨[],trivial,rfl,?_⟩;rw[show BN b s=_ from dinto_eq hnb,show Sx b s es=_ from dD hnb];exact HSub.put (HSub.put (HSub.put (HSub.put (HSub.put (HSub.none _) (by first | rfl | exact congrArg (fun es=>some (AObj.row true 1 es)) (U8 _ _ _))) rfl) rfl) (by first | rfl | exact congrArg (fun m=>some (AObj.row false 1 [[AV.ref 4 _ 0 m]])) (by simp))) (by rfl)):p:=h
theorem mP{p:Prop}(h:p:=by
 have hd:=ht.d (by simp[setsOp,ho6]);refine wk 13 ?_;refine dq 116 (Ab Ag rfl rfl rfl rfl rfl rfl rfl (by rw[Ap,hlen]) rfl ha.1 (by have:=ha.2;omega)) ?_;refine dq 117 (At Ag rfl rfl rfl (.ptr _ _ _ _ _ _ _ _ rfl (by rw[Ap,hlen]) (Eg (by have:=ha;omega))) rfl) ?_;refine dq 118 (Fy Ag rfl rfl rfl rfl rfl (r:=rget regs t.a) (by exact BJ (by omega) (by omega))) ?_;refine dq 119 (A2 (r:=.int .i64 (t.base+rget regs t.a)) rfl rfl rfl (by simp only[AM,Bw,isShift,cond_false,if_true];rw[BJ (by omega) (by omega)])) ?_;refine dq 120 (Ab Ag rfl rfl rfl rfl rfl rfl rfl (by rw[Ap,hm.len]) rfl hidx.1 (by have:=hidx.2;omega)) ?_;refine dq 121 (At Ag rfl rfl rfl (.ptr _ _ _ _ _ _ _ _ rfl (by rw[Ap,hm.len]) (Eg (by have:=hidx;have:=hm.len;omega))) rfl) ?_;refine dq 122 (Ab Ag rfl rfl rfl rfl rfl rfl rfl (by rw[Ap,hlen]) rfl hd.1 (by have:=hd.2;omega)) ?_;refine DOps.w rfl rfl (o_store Ag rfl rfl rfl rfl rfl rfl (by rw[Ap,hlen]) (Eg (by have:=hd;omega)) rfl (by decide) rfl DG) ?_
 refine wk 1 ?_;refine⟨[],trivial,rfl,?_⟩;rw[qB ho6 hsz];exact Vw):p:=h
theorem jN{p:Prop}(h:p:=by
 refine aq 49 (Bk rfl rfl hkl (show l.length<=maxLen by simp only[maxLen];omega)) ?_;refine wk 2 ?_;exact⟨k+1,Drop.mk' (by repeat(first | exact EDrop.new _ _ | refine EDrop.put ?_ (by first | rfl) rfl)) (by repeat(first | exact HDrop.none _ _ | exact HDrop.tail _ _ | refine HDrop.put ?_ (by first | rfl | exact congrArg (fun es=>some (AObj.row true 8 es)) (by subst hu;exact BU (f:=Tac.cells) (BQ l []) (IW l [] hx)) | exact congrArg (fun m=>some (AObj.map (kvs .i64 (nm m)))) (by rw[Ww hx,<-hu];clear hu;simp[GZ, *])) rfl rfl)),hkl,by omega⟩):p:=h
theorem Ks{p:Prop}(h:p:=by
 refine⟨[_,_],⟨rfl,rfl,trivial⟩,?_,rfl⟩;show AV.tup _=AV.tup _;simp[B5, *]):p:=h
theorem fO{p:Prop}(h:p:=by
 exact⟨[],trivial,rfl,(Ma rfl Tc G6)⟩):p:=h
theorem jM{p:Prop}(h:p:=by
 refine AOps.k 79 rfl rfl rfl ?_;refine AOps.k 80 rfl rfl rfl ?_;refine AOps.k 81 rfl rfl rfl ?_;refine AOps.k 82 rfl rfl rfl ?_;refine wk 2 ?_;refine AOps.k 85 rfl rfl rfl ?_;refine AOps.k 86 rfl rfl rfl ?_;refine AOps.k 87 rfl rfl rfl ?_;refine AOps.k 88 rfl rfl rfl ?_;refine AOps.k 89 rfl rfl rfl ?_;refine AOps.k 90 rfl rfl rfl ?_;refine wk 3 ?_;have hno:takeOf f.nexts reach k x= -1:=takeOf_no hrk (by simp_all);exact q6):p:=h
theorem mO{p:Prop}(h:p:=by
 refine aq 57 (Bk rfl rfl hjl (by simp only[maxLen];have:=F8 x;omega)) ?_;refine wk 2 ?_;exact⟨j+1,DropK.mk' (by repeat(first | exact EDropK.new _ _ | refine EDropK.put ?_ (by first | rfl | exact congrArg (fun z=>some (AV.bool z)) (by rw[anyK_succ hd];first |(rw[hz9];rfl) |(rw[‹U9 inn x j=true›];rfl) |(rw[‹U9 inn x j=false›];rfl)) | exact congrArg (fun(n:Nat)=>some (AV.int .i64 (n:Int))) (by simp)) (by first | rfl | exact A4 (Ar _) _ _ _ _))) (Bm (k0:=9) rfl jX FX (Bd (Ar _) f R _ _)),trivial,(by omega)⟩):p:=h
theorem jL{p:Prop}(h:p:=by
 refine act ?_;have hels:=Zq hle hbx (by simp_all);refine wk 4 ?_;refine aq 108 (Ab Ag rfl rfl rfl rfl rfl rfl rfl Yk rfl hels.1 (by omega)) ?_;refine aq 109 (At Ag rfl rfl rfl (.ptr _ _ _ _ _ _ _ _ rfl Yk (OP (by rw[show f.nums.length=f.blocks.length from BX f _];exact hels))) rfl) ?_;refine wk 8 ?_;exact q9):p:=h
theorem mN{p:Prop}(h:p:=by
 have key: ∀b o,hres s.h L b=some o->o.alive=true->b∈L/\s.h b=some o:=fun b o h1 h2=>by
  unfold hres at h1
  cases e:mem L b with
  | true=>rw[e]at h1;exact⟨mem_iff.1 e,h1⟩
  | false=>rw[e]at h1;cases h1;cases h2
 refine⟨hs.heap.know,fun b hb=>?_,fun b o h1 h2=>?_,fun b b' o o' r r' h1 h2 h3 h4 h5 h6=>?_,hs.heap.glob⟩
 . unfold hres at hb;unfold lcut
   cases e:mem L b with
   | true=>rw[e]at hb;exact hs.heap.free b hb
   | false=>rfl
 . obtain⟨k1,k2⟩:=key b o h1 h2;obtain⟨r,r1,r2,r3⟩:=hs.heap.obj b o k2 h2;obtain⟨q,q1,q2⟩:=hLs b k1;rw[k2]at q1;cases q1;exact⟨r,by rw[C1 (mem_iff.2 k1)];exact r1,Hv r2 q2,r3⟩
 . exact hs.heap.inj b b' o o' r r' (key b o h1 h2).2 h2 (key b' o' h3 h4).2 h4 (Bq h5) (Bq h6)):p:=h
theorem mM{p:Prop}(h:p:=by
 have key: ∀b o,En h κ b=some o->o.alive=true->κ b=true/\h b=some o:=fun b o h1 h2=>by
  unfold En at h1
  cases e:κ b with
  | true=>rw[e]at h1;exact⟨rfl,h1⟩
  | false=>rw[e]at h1;cases h1;cases h2
 refine⟨hs.heap.know,fun b hb=>?_,fun b o h1 h2=>?_,fun b b' o o' r r' h1 h2 h3 h4 h5 h6=>?_,hs.heap.glob⟩
 . unfold En at hb;unfold lcut
   cases e:κ b with
   | true=>rw[e]at hb;exact hs.heap.free b hb
   | false=>rfl
 . obtain⟨k1,k2⟩:=key b o h1 h2;obtain⟨r,r1,r2,r3⟩:=hs.heap.obj b o k2 h2;obtain⟨q,q1,q2⟩:=hL b k1;rw[k2]at q1;cases q1;exact⟨r,by rw[C1 k1];exact r1,Hv r2 q2,r3⟩
 . exact hs.heap.inj b b' o o' r r' (key b o h1 h2).2 h2 (key b' o' h3 h4).2 h4 (Bq h5) (Bq h6)):p:=h
theorem mL{p:Prop}(h:p:=by
 unfold Oper.wp;rw[hexec];refine hcalls.mono fun en w' hh=>?_
 obtain⟨v,r',h',H',ι',rfl,⟨rfl,hsub⟩,k1,k2,k3⟩:=hh;have hk': ∀b∈L,∃q,h' b=some q/\hputs s.h W b=some q/\q.avoid (mem L)=true:=fun b hb=>by
  obtain⟨q,q1,q2,q3⟩:=hk.get b hb;exact⟨q,hsub b q q1,by rw[UE (g2 b hb)];exact q2,q3⟩
 obtain⟨u1,u2⟩:=eS hs.heap hLs (fun p hp=>mem_iff.1 (List.all_eq_true.1 hW p hp)) hk' k2 (hres2.symm▸k3);refine⟨v,H',_,rfl,fun x ex=>?_,u1,u2⟩
 cases ex
 refine(Ee k1 hra).mono (KLe.refl _) fun b r e=>?_
 by_cases hb:b∈L
 . exact⟨r,by simp only[Sl,mem_iff.2 hb,cond_true];exact Bq e,.inl rfl⟩
 . have:mem L b=false:=by cases e:mem L b with | false=>rfl | true=>exact absurd (mem_iff.1 e) hb
   simp only[lcut,this,cond_false]at e;cases e):p:=h
theorem aL{p:Prop}(h:p:=by
 refine⟨[_,_],⟨rfl,rfl,trivial⟩,?_,HSub.put (HSub.none _) rfl⟩;show AV.tup _=AV.tup _;first |(simp[DL, *];done) |(cases h1:(pget t.a K).isSome<;>cases h2:(pget t.b K).isSome<;>simp_all[DL])):p:=h
theorem fN{p:Prop}(h:p:=by
 have key: ∀c,b=c->Aa e d (.bool c)=e:=fun c hc=>by
  subst hc;funext t
  by_cases ht:t=d
  . subst ht;rw[CA,he]
  . rw[Eb _ _ ht]
 cases b with
 | true=>have:=h1 rfl;rwa[key true rfl]at this
 | false=>have:=h2 rfl;rwa[key false rfl]at this):p:=h
theorem jK{p:Prop}(h:p:=by
 refine aq 47 (Ab Ag rfl rfl rfl rfl rfl rfl rfl (by simp[BG,DZ (Nat.le_of_lt hkl)]) rfl (Int.natCast_nonneg _) (by omega)) ?_;refine AOps.w rfl rfl (o_store Ag rfl rfl rfl rfl rfl rfl (by simp[BG,DZ (Nat.le_of_lt hkl)]) (K2 (F2 (Ou hkl))) rfl (by decide) rfl DG) ?_;refine wk 3 ?_;exact mR):p:=h
theorem Yi{p:Prop}(h:p:=by
 exact⟨(),Sub.mk' (by repeat(first | exact ESub.new _ | refine ESub.put ?_ (by first | rfl | exact congrArg (fun x=>some (AV.bool x)) hu.symm))) (HSub.refl _),trivial⟩):p:=h
theorem mK{p:Prop}(h:p:=by
 refine wk 3 ?_;refine⟨[_],⟨rfl,trivial⟩,?_,(Ma rfl (by repeat(first | exact trivial | refine⟨by first | rfl | exact Aq _ _ _ |((try simp only[hputs]);repeat(first | rfl | exact Aq _ _ _ | refine AA (by exact Af (by omega)) ?_ | refine hrm_skip (by omega) ?_ | refine(CG _ PH).trans ?_)),?_⟩)) G6)⟩;refine bc ?_;unfold leftS;first | exact g7 hne | exact left_yes (by have h:=hb1;simp at h;omega)):p:=h
theorem fM{p:Prop}(h:p:=by
 refine GN ⟨[_],⟨rfl,trivial⟩,?_,rfl⟩;show AV.lst false _=_;simp[Tac.uses,use1,use2,AZ,partVals,AV.cells, *]):p:=h
theorem mJ{p:Prop}(h:p:=by
 first
 | have hnx2:=hF.next (s':=BN (((Bs next b)[i.toNat]?).getD 0) (DS.mk q.s.been (q.s.way.dropLast++[(b,i+1)]))) (es':=Sx (((Bs next b)[i.toNat]?).getD 0) (DS.mk q.s.been (q.s.way.dropLast++[(b,i+1)])) (q.es.set (q.s.way.length-1) (Dr (b,i+1)))) hp (er hp (by rw[hrl];simpa using hil)) (hF.way.seen hp).into
 | have hnx2:=hF.next (s':=⟨q.s.been,q.s.way.dropLast⟩) (es':=q.es) hp (ZO hp (by rw[hrl];simpa using hil)) (hF.way.pop hp)
 exact⟨⟨_,_,q.g-1⟩,Drop.mk' Rs (by repeat(first | exact HDrop.none _ _ | exact HDrop.tail _ _ | refine HDrop.put ?_ (by rfl) rfl rfl)),hnx2.1,hnx2.2⟩):p:=h
theorem Yh{p:Prop}(h:p:=by
 simp only[execOp,ho,resolve,invoke,builtin,Sem.run_bind,Sem.run_pure,Result.andThen_ok,List.map_toArray,List.map_cons,List.map_nil,hva,hvb,hrun]):p:=h
theorem PG{p:Prop}(h:p:=by
 refine GN ⟨[_],⟨rfl,trivial⟩,?_,rfl⟩;refine bc ?_;simp_all[Block.ends]):p:=h
theorem Vu{p:Prop}(h:p:=by
 refine GN ⟨[_],⟨rfl,trivial⟩,?_,rfl⟩;show AV.int .i64 _=AV.int .i64 _;congr 1;simp[VZ,use1,use2, *]):p:=h
theorem Vt{p:Prop}(h:p:=by
 refine GN ⟨[_],⟨rfl,trivial⟩,?_,rfl⟩;show AV.int .i64 _=AV.int .i64 _;congr 1;simp[Tac.sets,setsOp, *]):p:=h
theorem mI{p:Prop}(h:p:=by
 unfold Oper.wp;rw[hexec];refine hcalls.mono fun en w' hh=>?_
 obtain⟨v,r',h',H',ι',rfl,⟨rfl,hsub⟩,k1,k2,k3⟩:=hh;have hk': ∀b,κ b=true->∃q,h' b=some q/\hn b=some q/\q.avoid κ=true:=fun b hb=>by
  obtain⟨q,q1,q2,q3⟩:=hk b hb;exact⟨q,hsub b q q1,q2,q3⟩
 obtain⟨u1,u2⟩:=Z2 hs.heap hL hW hk' k2 (hres'.symm▸k3);refine⟨v,H',_,rfl,?_,u1,u2⟩;refine(Ee k1 hra).mono (KLe.refl _) fun b r e=>?_
 cases hb:κ b with
 | true=>exact⟨r,by simp only[KX,hb,cond_true];exact Bq e,.inl rfl⟩
 | false=>simp only[lcut,hb,cond_false]at e;cases e):p:=h
theorem mH{p:Prop}(h:p:=by
 refine wk 4 ?_;refine aq 17 (A2 (r:=.int .u32 ((k+1:Nat):Int)) rfl rfl rfl (HB (b:=1) (Dx (by omega)))) ?_;refine wk 2 ?_;exact⟨k+1,Sub.mk' (by repeat(first | exact ESub.new _ | refine ESub.put ?_ (by first | rfl | exact congrArg (fun(n:Nat)=>some (AV.int .u64 (n:Int))) (by simp only[shN, *,cond_true,cond_false])))) FF,hkl,by omega⟩):p:=h
theorem Yg{p:Prop}(h:p:=by
 refine GN ⟨[_],⟨rfl,trivial⟩,?_,rfl⟩;refine bc ?_;unfold Tac.pure
 first
 |(simp_all;done)
 |(simp_all[bne];done)):p:=h
theorem mG{p:Prop}(h:p:=by
 have alive': ∀r0,ι b'=some r0->r0.solid->r0.rb=r'.rb->False:=fun r0 e0 es e1=>by
  obtain⟨o0,k1,_⟩:=hL b' hb';have ka:o0.alive=true:=by
   cases o0 with
   | free=>rw[hr.free b' k1]at e0;cases e0
   | _=>rfl
  exact hr.inj b b' o o0 r r0 h1 h2 k1 ka h3 e0 h4 es (fun e=>hb (e▸hb')) (e.trans e1.symm)
 rcases hst.newrb b' r' g1 g2 with k | k |⟨r0,k1,k2,k3⟩
 . exact alive' r' (Bq k) g2 rfl
 . have:=hr.lt ⟨b,o,r,h1,h2,h3,h4,rfl⟩;omega
 . exact alive' r0 (Bq k1) k2 k3):p:=h
theorem mE{p:Prop}(h:p:=by
 refine fH ?_;exact⟨(),Sub.mk' Ci (Ng rfl rfl rfl Tc (fun x_=>(Ao _ _ _).trans (congrArg some (by rw[hnl,bW hv]))) fD),trivial⟩):p:=h
theorem Vs{p:Prop}(h:p:=by
 refine GN ⟨[_],⟨rfl,trivial⟩,?_,rfl⟩;show AV.int .u32 _=AV.int .u32 _;simp[Hi, *]):p:=h
theorem mD{p:Prop}(h:p:=by
 obtain⟨k,hk⟩:=List.getElem?_of_mem hq;have hlt:k<parts.toList.length:=by have:=(List.getElem?_eq_some_iff.1 hk).1;simpa using this
 have hltp:k<ps.length:=by omega
 have h3:=(l2 k ps[k] ((parts.toList[k]).1,a.eval (parts.toList[k]).2) (List.getElem?_eq_getElem hltp) (by rw[List.getElem?_map,List.getElem?_eq_getElem hlt];rfl)).2;rw[List.getElem?_map,List.getElem?_eq_getElem hlt]at hk
 cases hk
 rw[<-(Gf h3).1];exact EB hsz k _ (List.getElem?_eq_getElem hltp)):p:=h
theorem mC{p:Prop}(h:p:=by
 exact⟨(),Sub.mk' Ci (by repeat(first | exact HSub.refl _ | exact HSub.none _ | exact AH _ | exact AF GO | refine HSub.put ?_ (by first | rfl | exact CW (gn hsp) | exact CW (gp hsp) | exact CW (bA hsp) | exact CW (bB hsp)) | refine AG ?_ GO | refine Br ?_ (by decide))),trivial⟩):p:=h
theorem aK{p:Prop}(h:p:=by
 refine GN ⟨[_],⟨rfl,trivial⟩,?_,rfl⟩;refine bc ?_;exact(Q8 (by simp_all[Tac.rest,baseOp,HG]<;>omega)).symm):p:=h
theorem mB{p:Prop}(h:p:=by
 refine wk 40 ?_;exact⟨(i+1,Cn (d:Int) fr,to.set d none,maps'),DropK.mk' jU (S3 (o6:=.free) (Md b) rfl rfl rfl rfl rfl rfl (I3 _ _ _) (fun _=>rfl)),⟨hil,by rw[Lt ht,hF.pre,hn],hI'⟩,by show b.ins.length-(i+1)<b.ins.length-i;omega⟩):p:=h
theorem mA{p:Prop}(h:p:=by
 refine wk 2 ?_;refine aq 44 (Bk rfl rfl hkl (by simp only[maxLen];omega)) ?_;refine wk 2 ?_;exact⟨k+1,Drop.mk' Rs (by repeat(first | exact HDrop.none _ _ | exact HDrop.tail _ _ | refine HDrop.put ?_ (by first | rfl | exact congrArg (fun w=>some (AObj.row true 1 (BK w))) (Yw hrf) | exact congrArg (fun w=>some (AObj.row true 1 (BK w))) (fU hrt hnx hge2)) rfl rfl)),hkl,by omega⟩):p:=h
theorem zt56{p:Prop}(h:p:=by
 by_cases hi:i<ts.length
 . rw[if_pos hi]at hs;rw[if_pos (by rw[h.len];exact hi)]at hk';exact(h.key i s k' hs hk').ext hp
 . rw[if_neg hi]at hs;rw[if_neg (by rw[h.len];exact hi),h.len]at hk';have h0:i-ts.length=0:=by
    have:=(List.getElem?_eq_some_iff.1 hs).1;simp at this;omega
   rw[h0]at hs hk';simp at hs hk';subst hs;subst hk';exact hk.ext hp):p:=h
theorem aJ{p:Prop}(h:p:=by
 rw[Fp (e:=e) (fun x hx=>g1 x (by rw[ho];simp[Op.operands,Call.operands];exact .inr (by simpa using hx)))];exact hx):p:=h
theorem mz{p:Prop}(h:p:=by
 refine wk 2 ?_;exact⟨0,Sub.mk' Ci FF,by have h3:=Nu t.op;cases h1:use1 t.op<;>cases h2:use2 t.op<;>simp_all[Tac.uses]⟩):p:=h
theorem jJ{p:Prop}(h:p:=by
 have ho:op=9\/op=10\/op=11:=by simp_all
 refine wk 3 ?_;refine ax 60 (DX Tryz.func93 (iK _ a b ha hb)) ?_;refine wk 4 ?_;refine⟨[_,_],⟨rfl,rfl,trivial⟩,?_,rfl⟩;show AV.tup _=_;rw[Yx ha hb ho];rfl):p:=h
theorem my{p:Prop}(h:p:=by
 exact⟨(),Sub.mk' (by repeat(first | exact ESub.new _ | refine ESub.put ?_ (by first | rfl | exact congrArg (fun(n:Int)=>some (AV.int .i64 n)) (by simp[FB, *])))) FF,trivial⟩):p:=h
theorem mx{p:Prop}(h:p:=by
 exact⟨(),Sub.mk' Ci (by repeat(first | exact HSub.refl _ | exact HSub.none _ | exact AH _ | exact AF GO | refine HSub.put ?_ (by first | rfl | exact CW (d7 hfin hv2.1) | exact CW (iw hfin)) | refine AG ?_ GO | refine Br ?_ (by decide))),trivial⟩):p:=h
theorem mw{p:Prop}(h:p:=by
 cases res with
 | ok n w3=>
  cases n<;>simp only[Oper.upon]at hp' |- <;>first
   | exact hp'
   | exact Calls.mono hp' jR
 | halt x w3=>cases x<;>simp only[Oper.upon]at hp' |- <;>first | exact hpost _ _ _ hp' | exact hp'):p:=h
theorem mv{p:Prop}(h:p:=by
 by_cases hj:j<32
 . rcases(by omega:a/2^j%2=0\/a/2^j%2=1)with h1 | h1<;>rcases(by omega:b/2^j%2=0\/b/2^j%2=1)with h2 | h2<;>simp[h1,h2,hj,ag]
 . have h1:a/2^j=0:=Nat.div_eq_of_lt (Nat.lt_of_lt_of_le ha (Nat.pow_le_pow_right (by decide) (by omega)));have h2:b/2^j=0:=Nat.div_eq_of_lt (Nat.lt_of_lt_of_le hb (Nat.pow_le_pow_right (by decide) (by omega)));simp[hj,h1,h2]):p:=h
theorem mr{p:Prop}(h:p:=by
 refine wk 2 ?_;exact⟨j+1,Drop.mk' Td Rw,Pp hu hj (by simpa using hbw),by omega⟩):p:=h
theorem jI{p:Prop}(h:p:=by
 have hnx2:CJ inn v x i q (m+1)=(S2.1,s.r||(!s.s&&S2.2)):=by rw[Fv (by rw[<-DJ hx];exact hsk) (by rw[<-DJ hx];exact hkk),hS2];exact NF hlf hk2
 refine wk 5 ?_;exact rd):p:=h
theorem jH{p:Prop}(h:p:=by
 have hnx2:CJ inn v x i q (m+1)=(S2.1,s.r||(!s.s&&S2.2)):=by rw[Fv (by rw[<-DJ hx];exact hsk) (by rw[<-DJ hx];exact hkk),hS2];exact NF hlf hk2
 refine wk 3 ?_;exact rd):p:=h
theorem Vr{p:Prop}(h:p:=by
 refine GN ⟨[_],⟨rfl,trivial⟩,?_,rfl⟩;refine bc ?_;simp[setsOp, *]):p:=h
theorem mq{p:Prop}(h:p:=by
 unfold Block.next;rw[<-l1,<-l2]
 cases hc2:(new.blockAt k).fin==2&&rget Y2 (new.blockAt k).v==0 with
 | false=>exact⟨bt.1,bt.2.1,bt.2.2.symm⟩
 | true=>
  simp only[Bool.and_eq_true,beq_iff_eq]at hc2;have be:=Ed (l5 hc2.1);exact⟨be.1,be.2.1,be.2.2.symm⟩):p:=h
theorem mo{p:Prop}(h:p:=by
 refine⟨by simp[<-ha.1,hn],rfl,fun t x hx=>?_,hr⟩;have hlt:t<vs.size:=by
  rw[<-ha.1];rcases Nat.lt_or_ge t args.length with h | h
  . exact h
  . simp only[Hh]at hx;rw[List.getElem?_eq_none h]at hx;cases hx
 obtain⟨v,hv⟩:=Bz hlt;exact⟨v,by simp only;rw[Array.getElem?_append_left hlt];exact hv,ha.2 t x v hx hv⟩):p:=h
theorem mn{p:Prop}(h:p:=by
 exact⟨j+1,Drop.mk' Rs (by repeat(first | exact HDrop.none _ _ | exact HDrop.tail _ _ | refine HDrop.put ?_ (by first | rfl | exact congrArg (fun es=>some (AObj.row true 1 es)) (BU (f:=A5) (x:=true) (by simp:(List.replicate f.regs.toNat true).length=f.regs.toNat) (by simp[hjl]))) rfl rfl)),hjl,by omega⟩):p:=h
theorem zt71{p:Prop}(h:p:=by
 simp only[Option.some.injEq,Prod.mk.injEq]at hx;obtain⟨rfl,rfl,rfl,rfl,rfl⟩:=hx;refine⟨a1,fun hl=>⟨AGo.block (AGo.mono (a2 hl) fun x2 s2 hh=>?_),fun b hb=>by cases hb⟩⟩;obtain⟨rfl,rfl⟩:=hh;show bif Nat.beq id' id then _ else _;rw[hid];exact⟨rfl,rfl⟩):p:=h
theorem mm{p:Prop}(h:p:=by
 cases e with
 | exit id'=>
  obtain⟨s',H',ι',q,r⟩:=hp;simp only[Exit.inBlock];simp only[S1]at q
  by_cases hid:id'=id
  . subst hid;simp only[Nat.beq_refl,cond_true]at q;rw[if_pos rfl];exact⟨s',H',ι',q,r⟩
  . rw[if_neg hid];rw[Af hid]at q;exact⟨s',H',ι',q,r⟩
 | _=>exact hp):p:=h
theorem jF{p:Prop}(h:p:=by
 rw[h.hi];have hu':u∈l1++l2:=hu;simp only[List.mem_append,List.mem_cons]at hu' |-;rcases hu' with hu' | hu'
 . exact .inl hu'
 . exact .inr (.inr hu')):p:=h
theorem ml{p:Prop}(h:p:=by
 refine wk 5 ?_;refine aq 36 (Ab Ag rfl rfl rfl rfl rfl rfl rfl (by rw[List.length_map,hI.lenT]) rfl hdf.1 (by omega)) ?_;refine aq 37 (At Ag rfl rfl rfl (.ptr _ _ _ _ _ _ _ _ rfl (by rw[List.length_map,hI.lenT]) (IX ho)) rfl) ?_;refine wk 1 ?_;exact Sub.mk' Ci (HSub.refl _)):p:=h
theorem jE{p:Prop}(h:p:=by
 refine GN ⟨[_],⟨rfl,trivial⟩,?_,rfl⟩;show AV.lst false _=_
 cases h1:use1 t.op<;>cases h2:use2 t.op<;>simp_all[VZ,Tac.uses,AZ,partVals,AV.cells]):p:=h
theorem fL{p:Prop}(h:p:=by
 rw[Ih (e:=e) (fun x hx=>g1 x (by rw[ho];simp only[Op.operands,List.mem_toArray];exact hx))];exact hx):p:=h
theorem fK{p:Prop}(h:p:=by
 refine ax 12 (Cp Ag rfl rfl rfl rfl rfl rfl (by decide) rfl rfl rfl rfl rfl rfl) ?_;refine wk 2 ?_;exact fM):p:=h
theorem mh{p:Prop}(h:p:=by
 unfold Block.next Block.forward;dsimp only
 cases e2:k.fin==2 with
 | false=>rfl
 | true=>
  have hz:=hv (by simpa using e2);simp only[cond_true,Bool.true_and];rw[<-ha'.2 k.v hz.1 hz.2]):p:=h
theorem mg{p:Prop}(h:p:=by
 refine⟨[],trivial,rfl,?_⟩;rw[show(mblk call s fuel f (fuel.toNat+1) 0 (List.replicate f.regs.toNat 0) m)=_ from qI hF hk hI hge (by first | exact .inl (by simpa using ‹(!(Ax fuel r.m).1)=true›) | exact .inr ‹_›)];exact HSub.put (HSub.put (HSub.put (HSub.none _) rfl) rfl) rfl):p:=h
theorem mf{p:Prop}(h:p:=by
 obtain⟨s',H',ι',q,r,t⟩:=hp
 cases e with
 | normal=>
  obtain⟨g,d,hF⟩:=q;obtain⟨H2,ι2,r2,t2⟩:=Ghost.of_sub d H' ι' a' w' r;exact⟨_,H2,ι2,k g hF,r2,t.trans hs.heap r.heap t2⟩
 | _=>exact⟨s',H',ι',q,r,t⟩):p:=h
theorem me{p:Prop}(h:p:=by
 refine .tup _ _ _ rfl fun q x u hq hu=>?_
 match q,hq,hu with
 | 0,hq,hu=>simp at hq hu;subst hq;subst hu;exact g5.mono (KLe.refl _) (LLe.none _)
 | 1,hq,hu=>simp at hq hu;subst hq;subst hu;exact .bool _ _
 | q+2,hq,hu=>simp at hq):p:=h
theorem md{p:Prop}(h:p:=by
 refine⟨r',e1,e2.mono hkle (LLe.refl _) (fun _=>rfl),fun hs'=>?_⟩;have hxb:x≠b:=fun hx=>by subst hx;rw[Gz]at h1;cases h1
 rw[EJ _ _ (hr.inj x b o _ r' r (hsubh _ _ h1) h2 hb rfl e1 hl hs' hsol hxb)];exact e3 hs'):p:=h
theorem aI{p:Prop}(h:p:=by
 exact HSub.put (HSub.put (HSub.put (HSub.put (HSub.none _) rfl) rfl) rfl) rfl):p:=h
theorem mc{p:Prop}(h:p:=by
 cases e:H' r.rb with
 | none=>rfl
 | some c=>
  rcases hst.knew r.rb (by rw[e];simp)with g | g | g
  . exact absurd h5 g
  . have:=hr.lt ⟨b,o,r,h1,h2,h3,h4,rfl⟩;omega
  . exact absurd g (apart b o r hb h1 h2 h3 h4)):p:=h
theorem mb{p:Prop}(h:p:=by
 simp only[cond_false,pget,ih]
 cases hy:y==k with
 | true=>
  have hy':y=k:=by simpa using hy
  subst hy';have:(y==z)=false:=by simp at hz |-;omega
  rw[this];rfl
 | false=>rfl):p:=h
theorem ma{p:Prop}(h:p:=by
 refine .tup _ _ _ rfl fun q x u hq hu=>?_
 match q,hq,hu with
 | 0,hq,hu=>simp at hq hu;subst hq;subst hu;exact Ko hz0
 | 1,hq,hu=>simp at hq hu;subst hq;subst hu;exact .bool _ _
 | q+2,hq,hu=>simp at hq):p:=h
theorem fJ{p:Prop}(h:p:=by
 refine GN ⟨[_],⟨rfl,trivial⟩,?_,rfl⟩;refine bc ?_;simp_all[GR];try omega):p:=h
theorem l9{p:Prop}(h:p:=by
 unfold Oper.wp;rw[hexec];refine hcall.mono fun en w' hh=>?_
 obtain⟨v',r',H',rfl,rfl,k1,k2⟩:=hh;obtain⟨u1,u2⟩:=hs.heap.grown k2;exact⟨v',H',ι,rfl,(fun x ex=>by cases ex;exact k1.mono (KLe.refl _) (LLe.none _)),u1,u2⟩):p:=h
theorem l8{p:Prop}(h:p:=by
 refine AOps.w rfl rfl (o_store Ag rfl rfl rfl rfl rfl rfl (AE (AK f) (Nat.le_of_lt hkl)) (fill_get (AK f) hkl) rfl (by decide) rfl DG) ?_;refine wk 2 ?_;exact mW):p:=h
theorem jD{p:Prop}(h:p:=by
 refine GN ⟨[_],⟨rfl,trivial⟩,?_,rfl⟩;show AV.int .u32 _=AV.int .u32 _;simp only[FI, *,cond_true,cond_false]):p:=h
theorem jC{p:Prop}(h:p:=by
 cases es with
 | nil=>exact absurd rfl hne
 | cons cs es=>rw[<-hsz' 0 cs (by simp),hu cs (by simp)]):p:=h
theorem l7{p:Prop}(h:p:=by
 have ho:op=12\/op=13:=by simp_all
 refine wk 3 ?_;refine ax 67 (DX Tryz.func94 (YS _ a b ha hb ho)) ?_;refine wk 4 ?_;refine⟨[_,_],⟨rfl,rfl,trivial⟩,?_,rfl⟩;show AV.tup _=_;rw[VB ho];rfl):p:=h
theorem l0{p:Prop}(h:p:=by
 have e2:=CT (f:=C0) (z:=[.nil]) (by simp:(List.replicate f.blocks.length (List.replicate f.regs.toNat true)).length=f.blocks.length) hge;show AV.tup [.agg [_,.lst false _],.agg [.lst false _]]=_;rw[e1,e2];rfl):p:=h
theorem jB{p:Prop}(h:p:=by
 rcases Nat.lt_or_ge j cs.length with h | h
 . exact h
 . rw[List.getElem?_eq_none h]at e2;cases e2):p:=h
theorem lZ{p:Prop}(h:p:=by
 obtain⟨q',k1',k2',_⟩:=hk b' hb';rw[k2]at h1;cases h1;rw[k2']at h3;cases h3;rw[mT b hb]at h5;rw[mT b' hb']at h6;exact hr'.inj b b' _ _ r r' k1 h2 k1' h4 h5 h6 s1 s2 hne):p:=h
theorem lY{p:Prop}(h:p:=by
 refine ax 8 (EU Ag 6) ?_;refine wk 40 ?_;exact⟨[_,_],⟨⟨_,_,_,_,rfl,rfl,.ptr _ _ _ _ _ _ _ _ rfl rfl rfl,rfl⟩,⟨_,_,_,_,rfl,rfl,.ptr _ _ _ _ _ _ _ _ rfl rfl rfl,rfl⟩,trivial⟩,rfl,rfl⟩):p:=h
theorem jA{p:Prop}(h:p:=by
 refine GN ⟨[_],⟨rfl,trivial⟩,?_,rfl⟩;refine bc ?_;exact(YV (by simp_all<;>omega)).symm):p:=h
theorem lX{p:Prop}(h:p:=by
 have e1:=st.dom b e
 cases e2:h' b with
 | none=>rfl
 | some o=>
  rcases hd b o e2 with⟨g,_⟩ |⟨_,g⟩
  . rw[g]at e1;cases e1
  . rw[hf b g]at e;cases e):p:=h
theorem jz{p:Prop}(h:p:=by
 refine GN ⟨[_],⟨rfl,trivial⟩,?_,rfl⟩;refine bc ?_;exact(gM (by simp_all<;>omega)).symm):p:=h
theorem i4{p:Prop}(h:p:=by
 refine AOps.k 14 rfl rfl rfl ?_;refine AOps.k 15 rfl rfl rfl ?_;refine AOps.k 16 rfl rfl rfl ?_;refine AOps.k 17 rfl rfl rfl ?_;refine AOps.k 18 rfl rfl rfl ?_;refine wk 3 ?_;exact mQ):p:=h
theorem aO{p:Prop}(h:p:=by
 refine⟨e2,e3,e4,?_⟩;rw[hg,if_neg (fun e=>by subst e;rw[hs]at e5;omega)];exact e5):p:=h
theorem aN{p:Prop}(h:p:=by
 refine ax 25 (DX Tryz.func14 hawake) ?_;refine wk 40 ?_;exact⟨[_],⟨rfl,trivial⟩,rfl,rfl⟩):p:=h
theorem WZ{p:Prop}(h:p:=by
 refine wk 4 ?_;refine⟨[_,_],⟨rfl,rfl,trivial⟩,?_,rfl⟩;rfl):p:=h
theorem zt104{p:Prop}(h:p:=by
 obtain⟨r,r1,r2,r3⟩:=hr.obj b o h1 h2;exact⟨r,by rw[mF b hbL];exact r1,r2.mono hst.kle lle (fun hs=>blk b o r hbL h1 h2 r1 hs),fun hs=>noK b o r hbL h1 h2 r1 hs (r3 hs)⟩):p:=h
theorem iZ{p:Prop}(h:p:=by
 rcases h.t.cst (h.at hb)with⟨c,h1,h2,h3⟩ |⟨h1,h2⟩
 . rw[h1,h3];simp[Tm.isZero]
 . rw[h2]
   cases e:tget s.regs t.b with
   | cst c=>exact absurd e (h1 c)
   | _=>rfl):p:=h
theorem iY{p:Prop}(h:p:=by
 by_cases hki:k=i
 . subst hki;rw[List.getElem?_set_self hilt]at hk;cases hk;exact .inl ⟨rfl,rfl⟩
 . rw[List.getElem?_set_ne (Ne.symm hki)]at hk;exact .inr ⟨hki,hk⟩):p:=h
theorem aM{p:Prop}(h:p:=by
 by_cases hxb:x=b
 . subst hxb;rw[Gz]at hx;cases hx
 . rwa[Fc _ hxb]at hx):p:=h
theorem WY{p:Prop}(h:p:=by
 exact⟨undef,H,ι,(by rw[hd]),(fun x ex=>by cases ex),u1,u2⟩):p:=h
theorem iX{p:Prop}(h:p:=by
 rw[k2]at h1;cases h1;obtain⟨r,r1,r2,r3⟩:=hr'.obj b o k1 h2;exact⟨r,by rw[mT b hbL];exact r1,(Hv r2 k3).mono (KLe.refl _) lle' (fun _=>rfl),r3⟩):p:=h
theorem iW{p:Prop}(h:p:=by
 cases ei:P.info? et with
 | none=>rw[ei]at hz;cases hz
 | some inf=>
  rw[ei]at hz;simp only[Option.bind_some]at hz;simp[zeroValue,typeInfo,ei,hz]):p:=h
theorem iV{p:Prop}(h:p:=by
 simp only[List.append_nil,List.nil_append,List.cons.injEq]at hk1 hk2;obtain⟨e1,e2⟩:=hk2;subst e1;subst e2;subst hk1;exact .inl (h1.hg.trans h2.hg.symm)):p:=h
theorem zt112{p:Prop}(h:p:=by
 rcases hst.newrb b r' e es with k | k |⟨r0,k1,k2,k3⟩
 . exact .inl (Bq k)
 . exact .inr (.inl k)
 . exact .inr (.inr ⟨r0,Bq k1,k2,k3⟩)):p:=h
theorem iU{p:Prop}(h:p:=by
 refine wk 40 ?_;exact⟨(),Sub.mk' Ci (by rw[hs];exact Mj rfl rfl rfl rfl rfl rfl rfl (fun _=>rfl)),trivial⟩):p:=h
theorem zt114{p:Prop}(h:p:=by
 obtain⟨i,hi⟩:=List.mem_iff_getElem?.1 hm;obtain⟨k,hk⟩:=Ae (l:=K) (k:=i) (by rw[h.len];exact(List.getElem?_eq_some_iff.1 hi).1);exact h.key i _ k hi hk):p:=h
theorem iT{p:Prop}(h:p:=by
 intro q hq;simp only[cond_false,List.mem_cons]at hq;rcases hq with rfl | hq
 . exact h _ (by simp)
 . exact ih (fun q hq=>h q (by simp[hq])) q hq):p:=h
end Go.Proofs.YtbbfelelocccmaaGreat.Sv
namespace Go.Proofs.YtbbfelelocccmaaGreat.Sv
open Go
def ji:Nat->Option (List (IntKind×Int)):=fun _=>none
inductive AV where
  | bool (b:Bool)
  | int (k:IntKind) (n:Int)
  | str (s:ByteArray)
  | nil
  | nilp
  | lst (ex:Bool) (es:List (List AV))
  | loc (cs:List AV)
  | ref (b n off len:Nat)
  | ptr (b n i o:Nat)
  | map (b:Nat)
  | agg (cs:List AV)
  | tup (vs:List AV)
  | fn (f:Fn) (fs cs:List AV)
  | val (v:Value)
def gN:Value->Bool
  | .agg _ | .tuple _=>false
  | _=>true
def AV.cell1:AV->Bool
  | .agg _ | .tup _=>false
  | _=>true
abbrev Az:=Nat->Option (Array Value)
structure Ent where
  rb:Nat
  sz:Nat
  n:Nat
  csz:Nat
def Ent.solid(r:Ent):Prop:=r.csz≠0
abbrev Bg:=Nat->Option Ent
def AU:Bg:=fun _=>none
inductive Rel(H:Az):Bg->AV->Value->Prop
  | bool (ι:Bg) (b:Bool):Rel H ι (.bool b) (.bool b)
  | int (ι:Bg) (k:IntKind) (n:Int):Rel H ι (.int k n) (.int k n)
  | str (ι:Bg) (s:ByteArray):Rel H ι (.str s) (.string s)
  | nil (ι:Bg):Rel H ι .nil (.slice none 0 0)
  | nilp (ι:Bg):Rel H ι .nilp (.pointer none)
  | lst0 (ι:Bg) (ex:Bool) (a:Option Addr) (cap:Nat) (hex:ex=true->cap=0) (hcap:cap<=maxLen) (hn:a=none->cap=0) (hsp:True):Rel H ι (.lst ex []) (.slice a 0 cap)
  | lst (ι:Bg) (ex:Bool) (es:List (List AV)) (b off cap sz:Nat) (c:Array Value) (vals:Nat->Nat->Value) (hne:es≠[]) (hb:H b=some c)
      (hsz: ∀(i:Nat) (cs:List AV),es[i]?=some cs->cs.length=sz)
      (hv: ∀(i:Nat) (cs:List AV) (j:Nat) (x:AV),es[i]?=some cs->cs[j]?=some x->c[off+i*sz+j]?=some (vals i j))
      (hr: ∀(i:Nat) (cs:List AV) (j:Nat) (x:AV),es[i]?=some cs->cs[j]?=some x->Rel H AU x (vals i j))
      (h1: ∀(i:Nat) (cs:List AV) (j:Nat) (x:AV),es[i]?=some cs->cs[j]?=some x->x.cell1=true)
      (hex:ex=true->cap=es.length) (hcap:es.length<=cap) (hmax:cap<=maxLen):
      Rel H ι (.lst ex es) (.slice (some ⟨b,off,none⟩) es.length cap)
  | loc (ι:Bg) (cs:List AV) (b off:Nat) (c:Array Value) (vals:Nat->Value) (hb:H b=some c)
      (hv: ∀(j:Nat) (x:AV),cs[j]?=some x->c[off+j]?=some (vals j)) (hr: ∀(j:Nat) (x:AV),cs[j]?=some x->Rel H AU x (vals j))
      (h1: ∀(j:Nat) (x:AV),cs[j]?=some x->x.cell1=true):
      Rel H ι (.loc cs) (.pointer (some ⟨b,off,none⟩))
  | refL (ι:Bg) (b n off len cap:Nat) (r:Ent) (hr:ι b=some r) (hn:r.n=n) (hlen:off+len<=n) (hlc:len<=cap) (hcap:(off+cap)*r.sz=r.csz) (hmax:cap<=maxLen):
      Rel H ι (.ref b n off len) (.slice (some ⟨r.rb,off*r.sz,none⟩) len cap)
  | ref0 (ι:Bg) (b:Nat) (r:Ent) (a:Option Addr) (hr:ι b=some r) (hn:r.n=0) (hc:r.csz=0) (hsp:True):Rel H ι (.ref b 0 0 0) (.slice a 0 0)
  | refS (ι:Bg) (b n off len:Nat) (r:Ent) (a:Option Addr) (cap:Nat) (hr:ι b=some r) (hn:n<r.n):Rel H ι (.ref b n off len) (.slice a len cap)
  | ptrL (ι:Bg) (b n i o:Nat) (r:Ent) (hr:ι b=some r) (hn:r.n=n):Rel H ι (.ptr b n i o) (.pointer (some ⟨r.rb,i*r.sz+o,none⟩))
  | ptrS (ι:Bg) (b n i o:Nat) (r:Ent) (a:Addr) (hr:ι b=some r) (hn:n<r.n):Rel H ι (.ptr b n i o) (.pointer (some a))
  | map (ι:Bg) (b:Nat) (r:Ent) (hr:ι b=some r) (hn:r.sz=0):Rel H ι (.map b) (.map (some r.rb))
  | agg (ι:Bg) (cs:List AV) (vs:Array Value) (hl:cs.length=vs.size) (hr: ∀(j:Nat) (x:AV) (v:Value),cs[j]?=some x->vs[j]?=some v->Rel H ι x v):Rel H ι (.agg cs) (.agg vs)
  | tup (ι:Bg) (cs:List AV) (vs:Array Value) (hl:cs.length=vs.size) (hr: ∀(j:Nat) (x:AV) (v:Value),cs[j]?=some x->vs[j]?=some v->Rel H ι x v):Rel H ι (.tup cs) (.tuple vs)
  | fn (ι:Bg) (f:Fn) (xs cs:List AV) (us vs:Array Value) (hx:xs.length=us.size) (hl:cs.length=vs.size)
      (h1: ∀(j:Nat) (x:AV) (v:Value),xs[j]?=some x->us[j]?=some v->Rel H ι x v) (h2: ∀(j:Nat) (x:AV) (v:Value),cs[j]?=some x->vs[j]?=some v->Rel H ι x v):Rel H ι (.fn f xs cs) (.func f us vs)
  | val (ι:Bg) (v:Value) (h:gN v=true):Rel H ι (.val v) v
def KLe(H H':Az):Prop:=∀b c,H b=some c->H' b=some c
def LLe(ι ι':Bg):Prop:=∀b r,ι b=some r->∃r',ι' b=some r'/\(r'=r\/r.n<r'.n/\0<r.sz/\r'.sz=r.sz)
theorem KLe.refl(H:Az):KLe H H:=fun _ _ h=>h
theorem KLe.trans{H H' H'':Az}(h:KLe H H')(h':KLe H' H''):KLe H H'':=fun b c e=>h' b c (h b c e)
theorem LLe.refl(ι:Bg):LLe ι ι:=fun _ r h=>⟨r,h,.inl rfl⟩
theorem LLe.trans{ι ι' ι'':Bg}(h:LLe ι ι')(h':LLe ι' ι''):LLe ι ι'':=fun b r e=>by
 obtain⟨r',e',h1⟩:=h b r e;obtain⟨r'',e'',h2⟩:=h' b r' e';refine⟨r'',e'',?_⟩;rcases h1 with rfl | h1<;>rcases h2 with rfl | h2
 . exact .inl rfl
 . exact .inr h2
 . exact .inr h1
 . exact .inr ⟨Nat.lt_trans h1.1 h2.1,h1.2.1,h2.2.2.trans h1.2.2⟩
theorem LLe.none(ι:Bg):LLe AU ι:=fun _ _ h=>by cases h
theorem Rel.mono{H H':Az}{ι:Bg}{x:AV}{v:Value}(h:Rel H ι x v)(hH:KLe H H'): ∀{ι':Bg},LLe ι ι'->Rel H' ι' x v:=by
 induction h with
 | bool=>exact fun _=>.bool _ _
 | int=>exact fun _=>.int _ _ _
 | str=>exact fun _=>.str _ _
 | nil=>exact fun _=>.nil _
 | nilp=>exact fun _=>.nilp _
 | lst0 ι ex a cap hex hcap hn hsp=>exact fun _=>.lst0 _ ex a cap hex hcap hn hsp
 | lst ι ex es b off cap sz c vals hne hb hsz hv hr hc1 hex hcap hmax ih=>
  exact fun _=>.lst _ ex es b off cap sz c vals hne (hH _ _ hb) hsz hv (fun i cs j x h1 h2=>ih i cs j x h1 h2 (LLe.refl _)) hc1 hex hcap hmax
 | loc ι cs b off c vals hb hv hr hc1 ih=>
  exact fun _=>.loc _ cs b off c vals (hH _ _ hb) hv (fun j x h1=>ih j x h1 (LLe.refl _)) hc1
 | refL ι b n off len cap r hr hn hlen hlc hcap hmax=>
  intro ι' h;obtain⟨r',e,h1⟩:=h b r hr;rcases h1 with rfl | h1
  . exact .refL _ b n off len cap r' e hn hlen hlc hcap hmax
  . exact .refS _ b n off len r' _ cap e (hn▸h1.1)
 | ref0 ι b r a hr hn hc hsp=>
  intro ι' h;obtain⟨r',e,h1⟩:=h b r hr;rcases h1 with rfl | h1
  . exact .ref0 _ b r' a e hn hc hsp
  . exact .refS _ b 0 0 0 r' _ 0 e (by omega)
 | refS ι b n off len r a cap hr hn=>
  intro ι' h;obtain⟨r',e,h1⟩:=h b r hr;rcases h1 with rfl | h1
  . exact .refS _ b n off len r' a cap e hn
  . exact .refS _ b n off len r' a cap e (Nat.lt_trans hn h1.1)
 | ptrL ι b n i o r hr hn=>
  intro ι' h;obtain⟨r',e,h1⟩:=h b r hr;rcases h1 with rfl | h1
  . exact .ptrL _ b n i o r' e hn
  . exact .ptrS _ b n i o r' _ e (hn▸h1.1)
 | ptrS ι b n i o r a hr hn=>
  intro ι' h;obtain⟨r',e,h1⟩:=h b r hr;rcases h1 with rfl | h1
  . exact .ptrS _ b n i o r' a e hn
  . exact .ptrS _ b n i o r' a e (Nat.lt_trans hn h1.1)
 | map ι b r hr hn=>
  intro ι' h;obtain⟨r',e,h1⟩:=h b r hr;rcases h1 with rfl | h1
  . exact .map _ b r' e hn
  . omega
 | val ι v h=>exact fun _=>.val _ v h
 | agg ι cs vs hl hr ih=>exact fun h=>.agg _ cs vs hl (fun j x v h1 h2=>ih j x v h1 h2 h)
 | tup ι cs vs hl hr ih=>exact fun h=>.tup _ cs vs hl (fun j x v h1 h2=>ih j x v h1 h2 h)
 | fn ι f xs cs us vs hx hl h1 h2 ih1 ih2=>exact fun h=>.fn _ f xs cs us vs hx hl (fun j x v e1 e2=>ih1 j x v e1 e2 h) (fun j x v e1 e2=>ih2 j x v e1 e2 h)
def dR(l:List (IntKind×Int)):AV:=.loc (l.map fun p=>.int p.1 p.2)
def GlobOk(H:Az):Prop:=∀(g:Nat) (l:List (IntKind×Int)),ji g=some l->Rel H AU (dR l) (.pointer (some ⟨g,0,none⟩))
theorem GlobOk.mono{H H':Az}(h:GlobOk H)(hH:KLe H H'):GlobOk H':=fun g l e=>(h g l e).mono hH (LLe.refl _)
section
variable {H : Az} {ι : Bg} {v : Value}
theorem Rel.bool_inv{b:Bool}(h:Rel H ι (.bool b) v):v= .bool b:=by cases h;rfl
theorem Rel.int_inv{k:IntKind}{n:Int}(h:Rel H ι (.int k n) v):v= .int k n:=by cases h;rfl
theorem Rel.str_inv{s:ByteArray}(h:Rel H ι (.str s) v):v= .string s:=by cases h;rfl
theorem Rel.nil_inv(h:Rel H ι .nil v):v= .slice none 0 0:=by cases h;rfl
theorem Rel.val_inv{u:Value}(h:Rel H ι (.val u) v):v=u/\gN u=true:=by cases h;exact⟨rfl,by assumption⟩
theorem Rel.map_inv{b:Nat}(h:Rel H ι (.map b) v): ∃r,ι b=some r/\r.sz=0/\v= .map (some r.rb):=by cases h;exact⟨_,by assumption,by assumption,rfl⟩
theorem Rel.tup_inv{cs:List AV}(h:Rel H ι (.tup cs) v): ∃us,v= .tuple us/\cs.length=us.size/\∀(j:Nat) (x:AV) (u:Value),cs[j]?=some x->us[j]?=some u->Rel H ι x u:=by
 cases h;exact⟨_,rfl,by assumption,by assumption⟩
theorem Rel.agg_inv{cs:List AV}(h:Rel H ι (.agg cs) v): ∃us,v= .agg us/\cs.length=us.size/\∀(j:Nat) (x:AV) (u:Value),cs[j]?=some x->us[j]?=some u->Rel H ι x u:=by
 cases h;exact⟨_,rfl,by assumption,by assumption⟩
theorem Rel.fn_inv{f:Fn}{xs cs:List AV}(h:Rel H ι (.fn f xs cs) v): ∃us vs,v= .func f us vs/\xs.length=us.size/\cs.length=vs.size/\
 (∀(j:Nat) (x:AV) (u:Value),xs[j]?=some x->us[j]?=some u->Rel H ι x u)/\(∀(j:Nat) (x:AV) (u:Value),cs[j]?=some x->vs[j]?=some u->Rel H ι x u):=by
 cases h;exact⟨_,_,rfl,by assumption,by assumption,by assumption,by assumption⟩
theorem Rel.lst_inv{ex:Bool}{es:List (List AV)}(h:Rel H ι (.lst ex es) v):
 (es=[]/\∃a cap,v= .slice a 0 cap/\(ex=true->cap=0)/\cap<=maxLen/\(a=none->cap=0)/\True)\/
 (es≠[]/\∃b off cap sz c,∃vals:Nat->Nat->Value,v= .slice (some ⟨b,off,none⟩) es.length cap/\H b=some c/\(∀(i:Nat) (cs:List AV),es[i]?=some cs->cs.length=sz)/\
  (∀(i:Nat) (cs:List AV) (j:Nat) (x:AV),es[i]?=some cs->cs[j]?=some x->c[off+i*sz+j]?=some (vals i j))/\
  (∀(i:Nat) (cs:List AV) (j:Nat) (x:AV),es[i]?=some cs->cs[j]?=some x->Rel H AU x (vals i j))/\
  (∀(i:Nat) (cs:List AV) (j:Nat) (x:AV),es[i]?=some cs->cs[j]?=some x->x.cell1=true)/\
  (ex=true->cap=es.length)/\es.length<=cap/\cap<=maxLen):=by
 cases h with
 | lst0 _ _ a cap h1 h2 h3 h4=>exact .inl ⟨rfl,a,cap,rfl,h1,h2,h3,h4⟩
 | lst _ _ _ b off cap sz c vals h0 h1 h2 h3 h4 h5 h6 h7 h8=>exact .inr ⟨h0,b,off,cap,sz,c,vals,rfl,h1,h2,h3,h4,h5,h6,h7,h8⟩
theorem Rel.lst_len{ex:Bool}{es:List (List AV)}(h:Rel H ι (.lst ex es) v): ∃a cap,v= .slice a es.length cap:=by
 cases h with
 | lst0 _ _ a cap h1 h2 h3 h4=>exact⟨a,cap,rfl⟩
 | lst _ _ _ b off cap sz c vals h0 h1 h2 h3 h4 h5 h6 h7 h8=>exact⟨_,_,rfl⟩
theorem Rel.loc_inv{cs:List AV}(h:Rel H ι (.loc cs) v): ∃b off c,∃vals:Nat->Value,v= .pointer (some ⟨b,off,none⟩)/\H b=some c/\
 (∀(j:Nat) (x:AV),cs[j]?=some x->c[off+j]?=some (vals j))/\(∀(j:Nat) (x:AV),cs[j]?=some x->Rel H AU x (vals j))/\(∀(j:Nat) (x:AV),cs[j]?=some x->x.cell1=true):=by
 cases h;exact⟨_,_,_,_,rfl,by assumption,by assumption,by assumption,by assumption⟩
theorem Rel.ref_len{b n off len:Nat}(h:Rel H ι (.ref b n off len) v): ∃a cap,v= .slice a len cap:=by
 cases h<;>exact⟨_,_,rfl⟩
theorem Rel.ref_live{b n off len:Nat}{r:Ent}(h:Rel H ι (.ref b n off len) v)(hr:ι b=some r)(hn:r.n=n)(hc:r.csz≠0):
 off+len<=n/\∃cap,v= .slice (some ⟨r.rb,off*r.sz,none⟩) len cap/\len<=cap/\(off+cap)*r.sz=r.csz/\cap<=maxLen:=by
 cases h with
 | ref0 _ _ r' a hr' hn' hc'=>rw[hr]at hr';cases hr';exact absurd hc' hc
 | refL _ _ _ _ _ cap r' hr' hn' hlen hlc hcap hmax=>rw[hr]at hr';cases hr';exact⟨hlen,cap,rfl,hlc,hcap,hmax⟩
 | refS _ _ _ _ _ r' a cap hr' hn'=>rw[hr]at hr';cases hr';omega
theorem Rel.ptr_live{b n i o:Nat}{r:Ent}(h:Rel H ι (.ptr b n i o) v)(hr:ι b=some r)(hn:r.n=n):v= .pointer (some ⟨r.rb,i*r.sz+o,none⟩):=by
 cases h with
 | ptrL _ _ _ _ _ r' hr' hn'=>rw[hr]at hr';cases hr';rfl
 | ptrS _ _ _ _ _ r' a hr' hn'=>rw[hr]at hr';cases hr';omega
theorem Rel.ptr_some{b n i o:Nat}(h:Rel H ι (.ptr b n i o) v): ∃a,v= .pointer (some a):=by
 cases h<;>exact⟨_,rfl⟩
end
theorem Rel.ref_dry{H:Az}{ι:Bg}{v:Value}{b n off len:Nat}{r:Ent}(h:Rel H ι (.ref b n off len) v)(hr:ι b=some r)(hn:r.n=n)(hc:r.csz=0)(hs:0<r.sz):
 len=0/\∃a,v= .slice a 0 0/\True:=by
 cases h with
 | ref0 _ _ r' a hr' hn' hc' hsp=>exact⟨rfl,a,rfl,hsp⟩
 | refL _ _ _ _ _ cap r' hr' hn' hlen hlc hcap hmax=>
  rw[hr]at hr';cases hr';rw[hc]at hcap;have:off+cap=0:=by
   rcases Nat.mul_eq_zero.1 hcap with h | h
   . exact h
   . omega
  have h1:cap=0:=by omega
  have h2:len=0:=by omega
  subst h1;subst h2;exact⟨rfl,_,rfl,trivial⟩
 | refS _ _ _ _ _ r' a cap hr' hn'=>rw[hr]at hr';cases hr';omega
end Go.Proofs.YtbbfelelocccmaaGreat.Sv
namespace Go.Proofs.YtbbfelelocccmaaGreat.Sv
open Go
inductive AObj where
  | free
  | row (p:Bool) (sz:Nat) (es:List (List AV))
  | map (kvs:List (AV×AV))
  | iter0
def AObj.alive:AObj->Bool
  | .free=>false
  | _=>true
abbrev Ac:=Nat->Option AObj
abbrev Av:=Nat->Option AV
def hNew:Ac:=fun _=>some .free
def Ba:Av:=fun _=>none
def hput(h:Ac)(b:Nat)(o:AObj):Ac:=fun x=>bif Nat.beq x b then some o else h x
def Aa(e:Av)(t:Nat)(v:AV):Av:=fun x=>bif Nat.beq x t then some v else e x
def O8(e:Av)(t:Nat):Av:=fun x=>bif Nat.beq x t then none else e x
theorem Af{x b:Nat}(h:x≠b):Nat.beq x b=false:=by
 cases e:Nat.beq x b with
 | false=>rfl
 | true=>exact absurd (Nat.eq_of_beq_eq_true e) h
theorem Aq(h:Ac)(b:Nat)(o:AObj):hput h b o b=some o:=by simp[hput]
theorem AL(h:Ac){b x:Nat}(o:AObj)(hne:x≠b):hput h b o x=h x:=by simp only[hput,Af hne,cond_false]
theorem CA(e:Av)(t:Nat)(v:AV):Aa e t v t=some v:=by simp[Aa]
theorem Eb(e:Av){t x:Nat}(v:AV)(hne:x≠t):Aa e t v x=e x:=by simp only[Aa,Af hne,cond_false]
theorem L9(e:Av)(t:Nat):O8 e t t=none:=by simp[O8]
theorem SJ(e:Av){t x:Nat}(hne:x≠t):O8 e t x=e x:=by simp only[O8,Af hne,cond_false]
structure Aj where
  n:Nat
  env:Av
  h:Ac
def rowCells(H:Az)(ι:Bg)(sz:Nat)(es:List (List AV))(c:Array Value):Prop:=
  (∀(i:Nat) (cs:List AV),es[i]?=some cs->cs.length=sz)/\
  ∀(i:Nat) (cs:List AV) (j:Nat) (x:AV),es[i]?=some cs->cs[j]?=some x->∃v,c[i*sz+j]?=some v/\Rel H ι x v/\x.cell1=true
def OB(H:Az)(kvs:List (AV×AV))(es:Array MapEntry):Prop:=
  kvs.length=es.size/\∀(j:Nat) (k v:AV),kvs[j]?=some (k,v)->∃e,es[j]?=some e/\Rel H AU k e.key/\Rel H AU v e.val
def BornOk(clk:Nat)(l:List Nat):Prop:=l.Pairwise (· < ·)/\∀b∈l,b<clk
theorem BornOk.nil(clk:Nat):BornOk clk []:=⟨.nil,fun b h=>by cases h⟩
theorem BornOk.snoc{clk:Nat}{l:List Nat}(h:BornOk clk l):BornOk (clk+1) (l++[clk]):=
 ⟨List.pairwise_append.2 ⟨h.1,List.pairwise_singleton _ _,fun a ha b hb=>by rw[List.mem_singleton.1 hb];exact h.2 a ha⟩,fun b hb=>by
  rcases List.mem_append.1 hb with hb | hb
  . exact Nat.lt_succ_of_lt (h.2 b hb)
  . rw[List.mem_singleton.1 hb];exact Nat.lt_succ_self _⟩
theorem BornOk.sub{clk:Nat}{l l':List Nat}(h:BornOk clk l)(s:l'.Sublist l):BornOk clk l':=⟨h.1.sublist s,fun b hb=>h.2 b (s.subset hb)⟩
theorem MK{es:Array MapEntry}{p:Nat}{k v:Value}:((es.modify p fun e=>{e with key:=k,val:=v}).toList.map (·.born))=es.toList.map (·.born):=by
 rw[Array.toList_modify];apply List.ext_getElem?;intro i;rw[List.getElem?_map,List.getElem?_map,List.getElem?_modify]
 by_cases h:p=i
 . subst h;cases es.toList[p]?<;>simp
 . simp[h]
def RowAt(w:World)(rb:Nat)(c:Array Value)(T:TypeId):Prop:=∃fr:Nat×Nat,w.heap[rb]?=some (.cells c T fr)/\(fr.2=0\/c.size<=fr.1)
theorem RowAt.lt{w:World}{rb:Nat}{c:Array Value}{T:TypeId}(h:RowAt w rb c T):rb<w.heap.size:=by
 obtain⟨fr,e,_⟩:=h;exact(Array.getElem?_eq_some_iff.1 e).1
theorem RowAt.same{w w':World}{rb:Nat}{c:Array Value}{T:TypeId}(h:RowAt w rb c T)(e:w'.heap[rb]?=w.heap[rb]?):RowAt w' rb c T:=by
 obtain⟨fr,h1,h2⟩:=h;exact⟨fr,e.trans h1,h2⟩
theorem RowAt.plain{w:World}{rb:Nat}{c:Array Value}{T:TypeId}(h:w.heap[rb]?=some (.cells c T)):RowAt w rb c T:=⟨(0,0),h,.inl rfl⟩
def ObjOk(H:Az)(ι:Bg)(w:World)(r:Ent):AObj->Prop
  | .free=>True
  | .row p sz es=>r.sz=sz/\0<sz/\r.n=es.length/\es.length*sz<=r.csz/\(∀(i:Nat) (cs:List AV),es[i]?=some cs->cs.length=sz)/\
      (r.solid->∃c T,RowAt w r.rb c T/\c.size=r.csz/\rowCells H (bif p then AU else ι) sz es c)
  | .map kvs=>r.sz=0/\r.solid/\∃es clk,w.heap[r.rb]?=some (.map es clk)/\OB H kvs es/\BornOk clk (es.toList.map (·.born))
  | .iter0=>r.sz=0/\r.n=0/\r.solid/\w.heap[r.rb]?=some (.mapIter none 0 #[] 0)
structure HeapRel(H:Az)(ι:Bg)(h:Ac)(w:World):Prop where
  know: ∀b c,H b=some c->∃T fr,w.heap[b]?=some (.cells c T fr)
  free: ∀b,h b=some .free->ι b=none
  obj: ∀b o,h b=some o->o.alive=true->∃r,ι b=some r/\ObjOk H ι w r o/\(r.solid->H r.rb=none)
  inj: ∀b b' o o' r r',h b=some o->o.alive=true->h b'=some o'->o'.alive=true->ι b=some r->ι b'=some r'->r.solid->r'.solid->b≠b'->r.rb≠r'.rb
  glob:GlobOk H
def Dw(h:Ac)(ι:Bg)(rb:Nat):Prop:=∃b o r,h b=some o/\o.alive=true/\ι b=some r/\r.solid/\r.rb=rb
theorem HeapRel.lt{H:Az}{ι:Bg}{h:Ac}{w:World}(hr:HeapRel H ι h w){rb:Nat}(ho:Dw h ι rb):rb<w.heap.size:=by
 obtain⟨b,o,r,h1,h2,h3,hsol,rfl⟩:=ho;obtain⟨r',e1,e2,_⟩:=hr.obj b o h1 h2;rw[h3]at e1;cases e1
 cases o with
 | free=>cases h2
 | row p sz es=>obtain⟨_,_,_,_,_,hx⟩:=e2;obtain⟨c,T,hc,_⟩:=hx hsol;exact hc.lt
 | map kvs=>obtain⟨_,_,es,clk,hc,_⟩:=e2;exact(Array.getElem?_eq_some_iff.1 hc).1
 | iter0=>exact(Array.getElem?_eq_some_iff.1 e2.2.2.2).1
theorem HeapRel.knowlt{H:Az}{ι:Bg}{h:Ac}{w:World}(hr:HeapRel H ι h w){b:Nat}{c:Array Value}(hc:H b=some c):b<w.heap.size:=by
 obtain⟨T,fr,e⟩:=hr.know b c hc;exact(Array.getElem?_eq_some_iff.1 e).1
structure Step(H:Az)(ι:Bg)(h:Ac)(w:World)(H':Az)(ι':Bg)(h':Ac)(w':World):Prop where
  size:w.heap.size<=w'.heap.size
  os:w'.os=w.os
  out:w'.output=w.output
  keep: ∀rb,rb<w.heap.size->¬Dw h ι rb->w'.heap[rb]?=w.heap[rb]?
  kle:KLe H H'
  knew: ∀b,H' b≠none->H b≠none\/w.heap.size<=b\/Dw h ι b
  lle:LLe ι ι'
  lframe: ∀b,h b=none->ι' b=ι b
  newrb: ∀b r',ι' b=some r'->r'.solid->ι b=some r'\/w.heap.size<=r'.rb\/∃r,ι b=some r/\r.solid/\r.rb=r'.rb
  dom: ∀b,h b=none->h' b=none
theorem Step.refl(H:Az)(ι:Bg)(h:Ac)(w:World):Step H ι h w H ι h w where
 size:=Nat.le_refl _
 os:=rfl
 out:=rfl
 keep:=fun _ _ _=>rfl
 kle:=KLe.refl _
 knew:=fun _ h=>.inl h
 lle:=LLe.refl _
 lframe:=fun _ _=>rfl
 newrb:=fun _ _ h _=>.inl h
 dom:=fun _ h=>h
theorem Step.owned{H:Az}{ι:Bg}{h:Ac}{w:World}{H':Az}{ι':Bg}{h':Ac}{w':World}
 (hr:HeapRel H ι h w) (s:Step H ι h w H' ι' h' w') {rb:Nat} (ho:Dw h' ι' rb):Dw h ι rb\/w.heap.size<=rb:=by
 obtain⟨b,o,r',h1,h2,h3,hsol,rfl⟩:=ho
 cases e1:h b with
 | none=>rw[s.dom b e1]at h1;cases h1
 | some o0=>
  have e2:ι b≠none->o0.alive=true:=fun hne=>by
   cases o0 with
   | free=>exact absurd (hr.free b e1) hne
   | _=>rfl
  rcases s.newrb b r' h3 hsol with e | e |⟨r,e,es,e'⟩
  . exact .inl ⟨b,o0,r',e1,e2 (by rw[e];simp),e,hsol,rfl⟩
  . exact .inr e
  . exact .inl ⟨b,o0,r,e1,e2 (by rw[e];simp),e,es,e'⟩
theorem Step.trans{H:Az}{ι:Bg}{h:Ac}{w:World}{H':Az}{ι':Bg}{h':Ac}{w':World}{H'':Az}{ι'':Bg}{h'':Ac}{w'':World}
 (hr:HeapRel H ι h w) (s:Step H ι h w H' ι' h' w') (hr':HeapRel H' ι' h' w') (t:Step H' ι' h' w' H'' ι'' h'' w''):Step H ι h w H'' ι'' h'' w'' where
 size:=Nat.le_trans s.size t.size
 os:=t.os.trans s.os
 out:=t.out.trans s.out
 keep:=fun rb hlt hno=>by
  rw[t.keep rb (Nat.lt_of_lt_of_le hlt s.size) (fun ho=>?_),s.keep rb hlt hno];rcases s.owned hr ho with h1 | h1
  . exact hno h1
  . omega
 kle:=s.kle.trans t.kle
 knew:=fun b hb=>by
  rcases t.knew b hb with h1 | h1 | h1
  . exact s.knew b h1
  . exact .inr (.inl (Nat.le_trans s.size h1))
  . rcases s.owned hr h1 with h2 | h2
    . exact .inr (.inr h2)
    . exact .inr (.inl h2)
 lle:=s.lle.trans t.lle
 lframe:=fun b hb=>(t.lframe b (s.dom b hb)).trans (s.lframe b hb)
 newrb:=fun b r'' hb hsol=>by
  rcases t.newrb b r'' hb hsol with h1 | h1 |⟨r',h1,hs1,h2⟩
  . exact s.newrb b r'' h1 hsol
  . exact .inr (.inl (Nat.le_trans s.size h1))
  . rcases s.newrb b r' h1 hs1 with h3 | h3 |⟨r,h3,hs3,h4⟩
    . exact .inr (.inr ⟨r',h3,hs1,h2⟩)
    . exact .inr (.inl (h2▸h3))
    . exact .inr (.inr ⟨r,h3,hs3,h4.trans h2⟩)
 dom:=fun b hb=>t.dom b (s.dom b hb)
end Go.Proofs.YtbbfelelocccmaaGreat.Sv
namespace Go.Proofs.YtbbfelelocccmaaGreat.Sv
open Go
structure Sim(H:Az)(ι:Bg)(s:Aj)(a:Act)(w:World):Prop where
  n:a.tmps.size=s.n
  d:a.defers=[]
  env: ∀t x,s.env t=some x->∃v,a.tmps[t]?=some v/\Rel H ι x v
  heap:HeapRel H ι s.h w
def Post(H:Az)(ι:Bg)(h:Ac)(w:World)(Q:Exit->Aj->Prop):Exit->Act->World->Prop:=fun e a' w'=>
  ∃s' H' ι',Q e s'/\Sim H' ι' s' a' w'/\Step H ι h w H' ι' s'.h w'
def AGo(P:Program)(c:Code)(s:Aj)(Q:Exit->Aj->Prop):Prop:=
  ∀H ι a w,Sim H ι s a w->c.wp P (Post H ι s.h w Q) a w
section
variable {P : Program} {Q : Exit -> Aj -> Prop} {s : Aj}
theorem Post.mono{H:Az}{ι:Bg}{h:Ac}{w:World}{Q Q':Exit->Aj->Prop}{e:Exit}{a:Act}{w':World}(hp:Post H ι h w Q e a w')(hq: ∀s,Q e s->Q' e s):Post H ι h w Q' e a w':=by
 obtain⟨s',H',ι',q,r⟩:=hp;exact⟨s',H',ι',hq _ q,r⟩
theorem Post.step{H:Az}{ι:Bg}{h:Ac}{w:World}{H':Az}{ι':Bg}{h':Ac}{w':World}(hr:HeapRel H ι h w)(hr':HeapRel H' ι' h' w')(st:Step H ι h w H' ι' h' w')
 {Q:Exit->Aj->Prop} {e:Exit} {a:Act} {w'':World} (hp:Post H' ι' h' w' Q e a w''):Post H ι h w Q e a w'':=by
 obtain⟨s',H'',ι'',q,r,t⟩:=hp;exact⟨s',H'',ι'',q,r,st.trans hr hr' t⟩
theorem AGo.mono{c:Code}{Q':Exit->Aj->Prop}(h:AGo P c s Q)(hq: ∀e s,Q e s->Q' e s):AGo P c s Q':=
 fun H ι a w hs=>wp_mono (h H ι a w hs) fun e a' w' hp=>hp.mono (hq e)
theorem AGo.skip(h:Q .normal s):AGo P .skip s Q:=fun H ι a w hs=>wp_skip ⟨s,H,ι,h,hs,Step.refl _ _ _ _⟩
theorem AGo.exit{id:Nat}(h:Q (.exit id) s):AGo P (.exit id) s Q:=fun H ι a w hs=>wp_exit ⟨s,H,ι,h,hs,Step.refl _ _ _ _⟩
theorem AGo.ret(h:Q .ret s):AGo P .ret s Q:=fun H ι a w hs=>wp_ret ⟨s,H,ι,h,hs,Step.refl _ _ _ _⟩
theorem AGo.label{l:Nat}(h:Q .normal s):AGo P (.label l) s Q:=fun H ι a w hs=>wp_label ⟨s,H,ι,h,hs,Step.refl _ _ _ _⟩
def Ce(K:Aj->Prop)(Q:Exit->Aj->Prop):Exit->Aj->Prop
  | .normal,s=>K s
  | e,s=>Q e s
theorem AGo.seq{x y:Code}(h:AGo P x s (Ce (fun s'=>AGo P y s' Q) Q)):AGo P (.seq x y) s Q:=by
 intro H ι a w hs;refine wp_seq (wp_mono (h H ι a w hs) fun e a' w' hp=>?_)
 cases e with
 | normal=>
  obtain⟨s',H',ι',q,r,t⟩:=hp;exact wp_mono (q H' ι' a' w' r) fun e a'' w'' hp'=>Post.step hs.heap r.heap t hp'
 | _=>exact hp
theorem AGo.cond{c:Operand}{x y:Code}{t:Nat}{b:Bool}(hc:c= .tmp t)(he:s.env t=some (.bool b))(h1:b=true->AGo P x s Q)(h2:b=false->AGo P y s Q):AGo P (.cond c x y) s Q:=by
 intro H ι a w hs;subst hc;obtain⟨v,hv,hr⟩:=hs.env t _ he
 cases hr
 have hev:a.eval (.tmp t)= .bool b:=by simp[Act.eval,hv]
 exact wp_cond_split hev (fun e=>h1 e H ι a w hs) (fun e=>h2 e H ι a w hs)
theorem AGo.cond_true{t:Nat}{x y:Code}(b:Bool)(he:s.env t=some (.bool b))(hb:b=true)(h:AGo P x s Q):AGo P (.cond (.tmp t) x y) s Q:=
 AGo.cond rfl he (fun _=>h) (fun h2=>by rw[hb]at h2;cases h2)
theorem AGo.cond_false{t:Nat}{x y:Code}(b:Bool)(he:s.env t=some (.bool b))(hb:b=false)(h:AGo P y s Q):AGo P (.cond (.tmp t) x y) s Q:=
 AGo.cond rfl he (fun h2=>by rw[hb]at h2;cases h2) (fun _=>h)
def S1(id:Nat)(Q:Exit->Aj->Prop):Exit->Aj->Prop
  | .exit id',s=>bif Nat.beq id' id then Q .normal s else Q (.exit id') s
  | e,s=>Q e s
theorem AGo.block{id:Nat}{c:Code}(h:AGo P c s (S1 id Q)):AGo P (.block id c) s Q:=by
 intro H ι a w hs;refine wp_block (wp_mono (h H ι a w hs) fun e a' w' hp=>?_);exact mm
theorem AGo.loop{γ:Type}{c:Code}(I:γ->Aj->Prop)(μ:γ->Nat)(g0:γ)(h0:I g0 s)
 (round: ∀g s,I g s->AGo P c s (Ce (fun s'=>∃g',I g' s'/\μ g'<μ g) Q)):AGo P (.loop c) s Q:=by
 intro H ι a w hs b k cs;have key: ∀n g s1 H1 ι1 a1 w1,μ g=n->I g s1->Sim H1 ι1 s1 a1 w1->Step H ι s.h w H1 ι1 s1.h w1->
  ∃e a' w',Post H ι s.h w Q e a' w'/\Arrives P (lone (b.at a1 (.code c:: .inLoop c::k)) cs w1) b k cs e a' w':=by
  intro n
  induction n using Nat.strongRecOn with
  | _ n ih=>
   intro g s1 H1 ι1 a1 w1 hn hI hs1 hst;obtain⟨e,a₂,w₂,hq,harr⟩:=round g s1 hI H1 ι1 a1 w1 hs1 b (.inLoop c::k) cs;obtain⟨s2,H2,ι2,q,r,t⟩:=hq;have t':=hst.trans hs.heap hs1.heap t
   cases e with
   | normal=>
    obtain⟨g',hI',hlt⟩:=q;obtain⟨e₂,a₃,w₃,hq₂,harr₂⟩:=ih (μ g') (hn▸hlt) g' s2 H2 ι2 a₂ w₂ rfl hI' r t';exact⟨e₂,a₃,w₃,hq₂,.of_steps (Steps.trans harr (.one step_inLoop)) harr₂⟩
   | exit id=>exact⟨_,a₂,w₂,⟨s2,H2,ι2,q,r,t'⟩,.pass (x:=.inLoop c) rfl (fun _ _=>.inl (by simp)) harr⟩
   | goto l=>exact⟨_,a₂,w₂,⟨s2,H2,ι2,q,r,t'⟩,.pass (x:=.inLoop c) rfl (fun _ _=>.inl (by simp)) harr⟩
   | ret=>exact⟨_,a₂,w₂,⟨s2,H2,ι2,q,r,t'⟩,.pass (x:=.inLoop c) rfl (fun _ _=>.inl (by simp)) harr⟩
   | panic ch=>exact⟨_,a₂,w₂,⟨s2,H2,ι2,q,r,t'⟩,.pass (x:=.inLoop c) rfl (fun _ _=>.inl (by simp)) harr⟩
   | outgrown=>exact⟨_,a₂,w₂,⟨s2,H2,ι2,q,r,t'⟩,.pass (x:=.inLoop c) rfl (fun _ _=>.inl (by simp)) harr⟩
 obtain⟨e,a',w',hq,harr⟩:=key _ g0 s H ι a w rfl h0 hs (Step.refl _ _ _ _);exact⟨e,a',w',hq,.of_steps (.one step_loop) harr⟩
def Sub(s s':Aj):Prop:=s.n=s'.n/\(∀t x,s.env t=some x->s'.env t=some x)/\(∀b o,s.h b=some o->s'.h b=some o)
theorem HeapRel.sub{H:Az}{ι:Bg}{h h':Ac}{w:World}(hr:HeapRel H ι h' w)(hs: ∀b o,h b=some o->h' b=some o):HeapRel H ι h w where
 know:=hr.know
 glob:=hr.glob
 free:=fun b e=>hr.free b (hs _ _ e)
 obj:=fun b o e ea=>hr.obj b o (hs _ _ e) ea
 inj:=fun b b' o o' r r' h1 h2 h3 h4=>hr.inj b b' o o' r r' (hs _ _ h1) h2 (hs _ _ h3) h4
theorem Sim.sub{H:Az}{ι:Bg}{s s':Aj}{a:Act}{w:World}(h:Sim H ι s' a w)(hs:Sub s s'):Sim H ι s a w where
 n:=h.n.trans hs.1.symm
 d:=h.d
 env:=fun t x e=>h.env t x (hs.2.1 t x e)
 heap:=h.heap.sub hs.2.2
end
end Go.Proofs.YtbbfelelocccmaaGreat.Sv
namespace Go.Proofs.YtbbfelelocccmaaGreat.Sv
open Go
inductive TK where
  | bool | int (k:IntKind) | string | slice (e:Nat) | struct (fs:List (Nat×Nat)) | array (n e:Nat) | ptr (e:Nat) | map (k e:Nat) | fn | other
structure As where
  k:TK
  size:Nat
  bytes:Nat
  zero:List AV
def I6:Value->Option AV
  | .bool b=>some (.bool b)
  | .int k n=>some (.int k n)
  | .string s=>some (.str s)
  | .slice none 0 0=>some .nil
  | .pointer none=>some .nilp
  | .nilFunc=>some (.val .nilFunc)
  | .nilIface=>some (.val .nilIface)
  | .map none=>some (.val (.map none))
  | _=>none
def J2:List Value->Option (List AV)
  | []=>some []
  | v::vs=>match I6 v,J2 vs with
    | some x,some xs=>some (x::xs)
    | _,_=>none
def G7(P:Program):TypeDesc->TK
  | .bool=>.bool
  | .int k=>.int k
  | .string=>.string
  | .slice e=>.slice e
  | .struct fs=>bif fs.all (fun f=>P.cellsOf f.type !=0)then .struct (fs.toList.map fun f=>(f.offset,f.type))else .other
  | .array n e=>.array n e
  | .pointer e=>.ptr e
  | .map k e=>.map k e
  | .func .. =>.fn
  | _=>.other
def YF(P:Program)(t:Nat):Option As:=
  match P.info? t,P.underlying t with
  | some i,some d=>some {k:=G7 P d,size:=i.size,bytes:=i.bytes,zero:=((i.zero.bind fun z=>J2 z.cells.toList).getD [])}
  | _,_=>none
def Cq(P:Program)(T:Nat->Option As):Prop:=∀t i,T t=some i->YF P t=some i
theorem Ko{H:Az}{ι:Bg}{v:Value}{x:AV}(h:I6 v=some x):Rel H ι x v:=by
 unfold I6 at h;split at h<;>simp at h<;>subst h
 . exact .bool _ _
 . exact .int _ _ _
 . exact .str _ _
 . exact .nil _
 . exact .nilp _
 . exact .val _ _ rfl
 . exact .val _ _ rfl
 . exact .val _ _ rfl
theorem DD{H:Az}{ι:Bg}: ∀{vs:List Value} {xs:List AV},J2 vs=some xs->xs.length=vs.length/\∀(j:Nat) (x:AV) (v:Value),xs[j]?=some x->vs[j]?=some v->Rel H ι x v
 | [],xs,h=>by
  simp[J2]at h;subst h;exact⟨rfl,fun j x v h1=>by simp at h1⟩
 | v::vs,xs,h=>by
  unfold J2 at h;split at h
  . rename_i x ys h1 h2;simp at h;subst h;have ih:=DD (H:=H) (ι:=ι) h2;refine⟨by simp[ih.1],fun j y u e1 e2=>?_⟩
    cases j with
    | zero=>simp at e1 e2;subst e1;subst e2;exact Ko h1
    | succ j=>simp at e1 e2;exact ih.2 j y u e1 e2
  . cases h
theorem Ai{P:Program}{t:Nat}{i:As}(h:YF P t=some i): ∃info d,P.info? t=some info/\P.underlying t=some d/\i.k=G7 P d/\info.size=i.size/\info.bytes=i.bytes/\
 i.zero=((info.zero.bind fun z=>J2 z.cells.toList).getD []):=by
 unfold YF at h;split at h
 . rename_i info d h1 h2;simp at h;subst h;exact⟨info,d,h1,h2,rfl,rfl,rfl,rfl⟩
 . cases h
theorem D4{info:TypeInfo}{i:As}(hz:i.zero=((info.zero.bind fun z=>J2 z.cells.toList).getD []))(hl:i.zero.length=i.size)(hp:0<i.size):
 ∃z,info.zero=some z/\J2 z.cells.toList=some i.zero:=by
 cases e:info.zero with
 | none=>rw[e]at hz;simp at hz;rw[hz]at hl;simp at hl;omega
 | some z=>
  rw[e]at hz;simp only[Option.bind_some]at hz
  cases e2:J2 z.cells.toList with
  | none=>rw[e2]at hz;simp at hz;rw[hz]at hl;simp at hl;omega
  | some xs=>rw[e2]at hz;simp at hz;exact⟨z,rfl,by rw[e2,hz]⟩
def SN:Value->Option AV
  | .agg cs=>match J2 cs.toList with
    | some xs=>some (.agg xs)
    | none=>none
  | v=>I6 v
theorem U5{H:Az}{ι:Bg}{v:Value}{x:AV}(h:SN v=some x):Rel H ι x v:=by
 unfold SN at h;split at h
 . rename_i cs;split at h
   . rename_i xs e;simp at h;subst h;have:=DD (H:=H) (ι:=ι) e;exact .agg _ _ _ (by simpa using this.1) (fun j x v h1 h2=>this.2 j x v h1 (by simpa using h2))
   . cases h
 . exact Ko h
def Al(env:Av):Operand->Option AV
  | .tmp t=>env t
  | .const v=>SN v
  | .func f=>some (.fn (.func f) [] [])
  | .global g=>(ji g).map dR
theorem Am{H:Az}{ι:Bg}{s:Aj}{a:Act}{w:World}(hs:Sim H ι s a w){o:Operand}{x:AV}(h:Al s.env o=some x):Rel H ι x (a.eval o):=by
 cases o with
 | tmp t=>
  obtain⟨v,hv,hr⟩:=hs.env t x h;simpa[Act.eval,hv]using hr
 | const v=>exact U5 h
 | func f=>
  simp only[Al,Option.some.injEq]at h;subst h;exact .fn _ _ _ _ _ _ rfl rfl (fun j x v h1=>by simp at h1) (fun j x v h1=>by simp at h1)
 | global g=>
  simp only[Al,Option.map_eq_some_iff]at h;obtain⟨l,hl,rfl⟩:=h;exact(hs.heap.glob g l hl).mono (KLe.refl _) (LLe.none ι)
def Bw(op:BinOp)(k:IntKind)(a b:Int):Option AV:=
  match op with
  | .add=>some (.int k (k.wrap (a+b)))
  | .sub=>some (.int k (k.wrap (a-b)))
  | .mul=>some (.int k (k.wrap (a*b)))
  | .quo=>if b=0 then none else some (.int k (k.wrap (a.tdiv b)))
  | .rem=>if b=0 then none else some (.int k (a.tmod b))
  | .and=>some (.int k (k.wrap ((BitVec.ofInt k.bits a&&&BitVec.ofInt k.bits b).toNat)))
  | .or=>some (.int k (k.wrap ((BitVec.ofInt k.bits a|||BitVec.ofInt k.bits b).toNat)))
  | .xor=>some (.int k (k.wrap ((BitVec.ofInt k.bits a^^^BitVec.ofInt k.bits b).toNat)))
  | .andNot=>some (.int k (k.wrap ((BitVec.ofInt k.bits a&&& ~~~BitVec.ofInt k.bits b).toNat)))
  | .shl=>if b<0 then none else some (.int k (k.wrap (a*2^(min b.toNat k.bits))))
  | .shr=>if b<0 then none else some (.int k (a.fdiv (2^(min b.toNat k.bits))))
  | .eql=>some (.bool (a==b))
  | .neq=>some (.bool (a !=b))
  | .lss=>some (.bool (decide (a<b)))
  | .leq=>some (.bool (decide (a<=b)))
  | .gtr=>some (.bool (decide (a>b)))
  | .geq=>some (.bool (decide (a>=b)))
def isShift:BinOp->Bool
  | .shl | .shr=>true
  | _=>false
def SF:AV->AV->Option Bool
  | .int k a,.int k' b=>if k=k' then some (a==b)else none
  | .bool a,.bool b=>some (a==b)
  | .str a,.str b=>some (a.toList==b.toList)
  | _,_=>none
def eqCells:List AV->List AV->Option Bool
  | [],[]=>some true
  | x::xs,y::ys=>match SF x y,eqCells xs ys with
    | some p,some q=>some (p&&q)
    | _,_=>none
  | _,_=>none
def AM(op:BinOp)(x y:AV):Option AV:=
  match x,y with
  | .int k a,.int k' b=>bif isShift op then Bw op k a b else if k=k' then Bw op k a b else none
  | .str a,.str b=>match op with
    | .eql=>some (.bool (a.toList==b.toList))
    | .neq=>some (.bool (!(a.toList==b.toList)))
    | _=>none
  | _,_=>none
theorem TA{P:Program}{w:World}{H:Az}{ι:Bg}{op:BinOp}{T:TypeId}{k k':IntKind}{a b:Int}{r:AV}(hk:isShift op=true\/k=k')(h:Bw op k a b=some r):
 ∃v,Rel H ι r v/\(binOp op T (.int k a) (.int k' b)).run P w= .ok v w:=by
 cases op<;>simp only[Bw,Option.some.injEq]at h
 case quo=>split at h;cases h;(rename_i hb;rcases hk with hk | rfl;· cases hk);simp at h;subst h;exact⟨_,.int _ _ _,by simp[binOp,Op.intDiv,hb]⟩
 case rem=>split at h;cases h;(rename_i hb;rcases hk with hk | rfl;· cases hk);simp at h;subst h;exact⟨_,.int _ _ _,by simp[binOp,Op.intDiv,hb]⟩
 case shl=>split at h;cases h;rename_i hb;simp at h;subst h;exact⟨_,.int _ _ _,by simp[binOp,Op.shift,hb]⟩
 case shr=>split at h;cases h;rename_i hb;simp at h;subst h;exact⟨_,.int _ _ _,by simp[binOp,Op.shift,hb]⟩
 all_goals
  rcases hk with hk | rfl
  . cases hk
  subst h
  first
   | exact⟨_,.int _ _ _,by simp[binOp,Op.intArith,Op.intBits,Op.intCmp]⟩
   | exact⟨_,.bool _ _,by simp[binOp,Op.intArith,Op.intBits,Op.intCmp]⟩
theorem TB{P:Program}{w:World}{H:Az}{ι:Bg}{op:BinOp}{T:TypeId}{xo yo:Operand}{x y r:AV}{u v:Value}(hx:Rel H ι x u)(hy:Rel H ι y v)(h:AM op x y=some r):
 ∃z,Rel H ι r z/\(do eqGuard op T xo yo u v;binOp op T u v:Sem Value).run P w= .ok z w:=by
 unfold AM at h;split at h
 . rename_i k a k' b
   cases hx;cases hy
   have hk:(isShift op=true\/k=k')/\Bw op k a b=some r:=by
    cases e:isShift op with
    | true=>rw[e]at h;exact⟨.inl rfl,h⟩
    | false=>
     rw[e]at h;simp only[cond_false]at h;split at h
     . exact⟨.inr (by assumption),h⟩
     . cases h
   obtain⟨z,h1,h2⟩:=TA (P:=P) (w:=w) (H:=H) (ι:=ι) (T:=T) hk.1 hk.2;refine⟨z,h1,?_⟩;have hg:(eqGuard op T xo yo (.int k a) (.int k' b)).run P w= .ok () w:=by unfold eqGuard;cases op<;>simp
   rw[Sem.run_bind,hg];exact h2
 . rename_i a b
   cases hx;cases hy
   have hg:(eqGuard op T xo yo (.string a) (.string b)).run P w= .ok () w:=by unfold eqGuard;cases op<;>simp
   split at h
   . simp at h;subst h;exact⟨_,.bool _ _,by rw[Sem.run_bind,hg,Result.andThen_ok,binOp_string_eql];rfl⟩
   . simp at h;subst h;exact⟨_,.bool _ _,by rw[Sem.run_bind,hg,Result.andThen_ok,binOp_string_neq];rfl⟩
   . cases h
 . cases h
end Go.Proofs.YtbbfelelocccmaaGreat.Sv
